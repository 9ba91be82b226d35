/- Texts SlEnv, Byt, Num, NdP, NdA, NdB, joined. -/
import Derived.Test.YtelfjhemnnbbpaaGreatProg
import Derived.KernelRfl
import Derived.Test.YtelfjhemnnbbpaaGreatK03
set_option linter.unusedVariables false
set_option linter.unusedSimpArgs false
namespace Go.Proofs.YtelfjhemnnbbpaaGreat
open Go.Proofs.YtelfjhemnnbbpaaGreat.SL
set_option maxRecDepth 100000
def env : Env where
 ty := (.node (.node (.node (.node (.node (.node (.node (.node (.node .nil 0 (.tuple #[]) .nil) 1 (.func #[] #[] false) .nil) 2 (.int .i64) (.node .nil 3 (.int .i64) .nil)) 4 .bool (.node (.node .nil 5 (.int .u8) .nil) 6 (.int .u8) (.node .nil 7 (.struct #[{ name := "x", type := 2, offset := 0, embedded := false, tag := "", pkgPath := "runtime", byteOffset := 0 }, { name := "y", type := 3, offset := 1, embedded := false, tag := "", pkgPath := "runtime", byteOffset := 8 }, { name := "signed", type := 4, offset := 2, embedded := false, tag := "", pkgPath := "runtime", byteOffset := 16 }, { name := "code", type := 6, offset := 3, embedded := false, tag := "", pkgPath := "runtime", byteOffset := 17 }]) .nil))) 8 (.struct #[{ name := "x", type := 2, offset := 0, embedded := false, tag := "", pkgPath := "runtime", byteOffset := 0 }, { name := "y", type := 3, offset := 1, embedded := false, tag := "", pkgPath := "runtime", byteOffset := 8 }, { name := "signed", type := 4, offset := 2, embedded := false, tag := "", pkgPath := "runtime", byteOffset := 16 }, { name := "code", type := 6, offset := 3, embedded := false, tag := "", pkgPath := "runtime", byteOffset := 17 }]) (.node (.node (.node (.node .nil 9 .string .nil) 10 .string .nil) 11 .string (.node .nil 12 (.int .u64) .nil)) 13 (.struct #[{ name := "msg", type := 9, offset := 0, embedded := false, tag := "", pkgPath := "runtime", byteOffset := 0 }, { name := "addr", type := 12, offset := 1, embedded := false, tag := "", pkgPath := "runtime", byteOffset := 16 }]) (.node (.node .nil 14 (.struct #[{ name := "msg", type := 9, offset := 0, embedded := false, tag := "", pkgPath := "runtime", byteOffset := 0 }, { name := "addr", type := 12, offset := 1, embedded := false, tag := "", pkgPath := "runtime", byteOffset := 16 }]) .nil) 15 (.pointer 264) (.node .nil 16 (.pointer 267) .nil)))) 17 (.pointer 274) (.node (.node (.node (.node (.node .nil 18 (.struct #[{ name := "typ", type := 17, offset := 0, embedded := false, tag := "", pkgPath := "internal/runtime/maps", byteOffset := 0 }]) .nil) 19 (.struct #[{ name := "typ", type := 17, offset := 0, embedded := false, tag := "", pkgPath := "internal/runtime/maps", byteOffset := 0 }]) .nil) 20 (.interface #[]) (.node .nil 21 (.int .i32) .nil)) 22 (.slice 9) (.node (.node .nil 23 (.func #[] #[4] false) .nil) 24 (.pointer 97) (.node .nil 25 (.func #[] #[24] false) .nil))) 26 (.map 9 3) (.node (.node (.node .nil 27 (.struct #[{ name := "ID", type := 3, offset := 0, embedded := false, tag := "", pkgPath := "", byteOffset := 0 }, { name := "Name", type := 9, offset := 1, embedded := false, tag := "", pkgPath := "", byteOffset := 8 }, { name := "Limit", type := 3, offset := 2, embedded := false, tag := "", pkgPath := "", byteOffset := 24 }, { name := "Have", type := 3, offset := 3, embedded := false, tag := "", pkgPath := "", byteOffset := 32 }]) .nil) 28 (.struct #[{ name := "ID", type := 3, offset := 0, embedded := false, tag := "", pkgPath := "", byteOffset := 0 }, { name := "Name", type := 9, offset := 1, embedded := false, tag := "", pkgPath := "", byteOffset := 8 }, { name := "Limit", type := 3, offset := 2, embedded := false, tag := "", pkgPath := "", byteOffset := 24 }, { name := "Have", type := 3, offset := 3, embedded := false, tag := "", pkgPath := "", byteOffset := 32 }]) (.node .nil 29 (.int .i64) .nil)) 30 (.tuple #[28, 29]) (.node (.node .nil 31 (.func #[24, 9] #[28, 29] false) .nil) 32 (.tuple #[3, 29]) (.node .nil 33 (.func #[24, 9, 3] #[3, 29] false) .nil))))) 34 (.func #[24, 3] #[28, 29] false) (.node (.node (.node (.node (.node (.node .nil 35 (.func #[22, 9] #[4] false) .nil) 36 (.int .u16) .nil) 37 (.func #[24, 3, 3, 3, 3, 3] #[3, 29] false) (.node .nil 38 (.func #[24, 3, 3, 3, 3, 3, 3] #[3, 29] false) .nil)) 39 (.func #[24, 3, 3, 3] #[29] false) (.node (.node .nil 40 (.struct #[{ name := "ID", type := 3, offset := 0, embedded := false, tag := "", pkgPath := "", byteOffset := 0 }, { name := "Parent", type := 3, offset := 1, embedded := false, tag := "", pkgPath := "", byteOffset := 8 }, { name := "Object", type := 3, offset := 2, embedded := false, tag := "", pkgPath := "", byteOffset := 16 }, { name := "Owner", type := 3, offset := 3, embedded := false, tag := "", pkgPath := "", byteOffset := 24 }, { name := "Rights", type := 3, offset := 4, embedded := false, tag := "", pkgPath := "", byteOffset := 32 }, { name := "Badge", type := 3, offset := 5, embedded := false, tag := "", pkgPath := "", byteOffset := 40 }, { name := "Depth", type := 3, offset := 6, embedded := false, tag := "", pkgPath := "", byteOffset := 48 }, { name := "Expiry", type := 3, offset := 7, embedded := false, tag := "", pkgPath := "", byteOffset := 56 }, { name := "Cut", type := 3, offset := 8, embedded := false, tag := "", pkgPath := "", byteOffset := 64 }, { name := "Revoked", type := 4, offset := 9, embedded := false, tag := "", pkgPath := "", byteOffset := 72 }]) .nil) 41 (.struct #[{ name := "ID", type := 3, offset := 0, embedded := false, tag := "", pkgPath := "", byteOffset := 0 }, { name := "Parent", type := 3, offset := 1, embedded := false, tag := "", pkgPath := "", byteOffset := 8 }, { name := "Object", type := 3, offset := 2, embedded := false, tag := "", pkgPath := "", byteOffset := 16 }, { name := "Owner", type := 3, offset := 3, embedded := false, tag := "", pkgPath := "", byteOffset := 24 }, { name := "Rights", type := 3, offset := 4, embedded := false, tag := "", pkgPath := "", byteOffset := 32 }, { name := "Badge", type := 3, offset := 5, embedded := false, tag := "", pkgPath := "", byteOffset := 40 }, { name := "Depth", type := 3, offset := 6, embedded := false, tag := "", pkgPath := "", byteOffset := 48 }, { name := "Expiry", type := 3, offset := 7, embedded := false, tag := "", pkgPath := "", byteOffset := 56 }, { name := "Cut", type := 3, offset := 8, embedded := false, tag := "", pkgPath := "", byteOffset := 64 }, { name := "Revoked", type := 4, offset := 9, embedded := false, tag := "", pkgPath := "", byteOffset := 72 }]) (.node .nil 42 (.tuple #[41, 29]) .nil))) 43 (.func #[24, 3] #[41, 29] false) (.node (.node (.node .nil 44 (.slice 3) .nil) 45 (.tuple #[44, 29]) (.node .nil 46 (.func #[24, 3, 3, 3] #[44, 29] false) .nil)) 47 (.func #[3, 3] #[4] false) (.node (.node .nil 48 (.func #[36, 36, 36] #[4] false) .nil) 49 (.slice 91) (.node .nil 50 (.func #[24, 49] #[3] false) .nil)))) 51 (.array 4 3) (.node (.node (.node (.node (.node .nil 52 (.func #[49] #[4] false) .nil) 53 (.func #[49, 3] #[4] false) .nil) 54 (.func #[3, 3] #[3] false) (.node .nil 55 (.slice 29) .nil)) 56 (.slice 4) (.node (.node .nil 57 (.func #[24, 3, 3] #[29] false) .nil) 58 (.func #[24, 3, 4] #[29] false) (.node .nil 59 (.func #[49, 3, 4] #[4] false) .nil))) 60 (.func #[24, 3] #[3, 29] false) (.node (.node (.node .nil 61 (.func #[] #[29] false) .nil) 62 (.pointer 102) (.node .nil 63 (.tuple #[62, 29]) .nil)) 64 (.func #[3] #[62, 29] false) (.node (.node .nil 65 (.pointer 161) .nil) 66 (.tuple #[65, 29]) (.node .nil 67 (.func #[62] #[65, 29] false) .nil)))))) 68 (.func #[65] #[24] false) (.node (.node (.node (.node (.node (.node (.node .nil 69 (.tuple #[9, 4]) .nil) 70 (.func #[9] #[9, 4] false) .nil) 71 (.func #[24, 29] #[29] false) (.node .nil 72 (.func #[76] #[] false) .nil)) 73 (.func #[76] #[] false) (.node (.node .nil 74 (.func #[24, 3, 3] #[73] false) .nil) 75 (.func #[24, 28] #[] false) (.node .nil 76 (.func #[3] #[4] false) .nil))) 77 (.func #[78] #[9, 4] false) (.node (.node (.node (.node .nil 78 (.int .u64) .nil) 79 (.func #[3, 3, 3] #[78] false) .nil) 80 (.func #[3, 9] #[28, 29] false) (.node .nil 81 (.func #[3, 3, 3] #[4] false) .nil)) 82 (.func #[24, 28, 41] #[3, 29] false) (.node (.node .nil 83 (.tuple #[4, 29]) .nil) 84 (.func #[24, 3] #[4, 29] false) (.node .nil 85 (.func #[78] #[4] false) .nil)))) 86 (.func #[78, 9] #[4] false) (.node (.node (.node (.node (.node .nil 87 (.func #[24, 41] #[] false) .nil) 88 (.func #[3, 9] #[41, 29] false) .nil) 89 (.slice 5) (.node .nil 90 (.struct #[{ name := "Kind", type := 3, offset := 0, embedded := false, tag := "", pkgPath := "", byteOffset := 0 }, { name := "A", type := 3, offset := 1, embedded := false, tag := "", pkgPath := "", byteOffset := 8 }, { name := "B", type := 3, offset := 2, embedded := false, tag := "", pkgPath := "", byteOffset := 16 }, { name := "Rights", type := 3, offset := 3, embedded := false, tag := "", pkgPath := "", byteOffset := 24 }, { name := "End", type := 3, offset := 4, embedded := false, tag := "", pkgPath := "", byteOffset := 32 }, { name := "Self", type := 4, offset := 5, embedded := false, tag := "", pkgPath := "", byteOffset := 40 }]) .nil)) 91 (.struct #[{ name := "Kind", type := 3, offset := 0, embedded := false, tag := "", pkgPath := "", byteOffset := 0 }, { name := "A", type := 3, offset := 1, embedded := false, tag := "", pkgPath := "", byteOffset := 8 }, { name := "B", type := 3, offset := 2, embedded := false, tag := "", pkgPath := "", byteOffset := 16 }, { name := "Rights", type := 3, offset := 3, embedded := false, tag := "", pkgPath := "", byteOffset := 24 }, { name := "End", type := 3, offset := 4, embedded := false, tag := "", pkgPath := "", byteOffset := 32 }, { name := "Self", type := 4, offset := 5, embedded := false, tag := "", pkgPath := "", byteOffset := 40 }]) (.node (.node .nil 92 (.func #[24, 3] #[29] false) .nil) 93 (.slice 41) (.node .nil 94 (.tuple #[93, 29]) .nil))) 95 (.func #[24, 3] #[93, 29] false) (.node (.node (.node .nil 96 (.struct #[{ name := "s", type := 65, offset := 0, embedded := false, tag := "", pkgPath := "bailiwick/txn", byteOffset := 0 }, { name := "root", type := 3, offset := 1, embedded := false, tag := "", pkgPath := "bailiwick/txn", byteOffset := 8 }, { name := "e", type := 29, offset := 2, embedded := false, tag := "", pkgPath := "bailiwick/txn", byteOffset := 16 }, { name := "over", type := 4, offset := 3, embedded := false, tag := "", pkgPath := "bailiwick/txn", byteOffset := 24 }]) .nil) 97 (.struct #[{ name := "s", type := 65, offset := 0, embedded := false, tag := "", pkgPath := "bailiwick/txn", byteOffset := 0 }, { name := "root", type := 3, offset := 1, embedded := false, tag := "", pkgPath := "bailiwick/txn", byteOffset := 8 }, { name := "e", type := 29, offset := 2, embedded := false, tag := "", pkgPath := "bailiwick/txn", byteOffset := 16 }, { name := "over", type := 4, offset := 3, embedded := false, tag := "", pkgPath := "bailiwick/txn", byteOffset := 24 }]) (.node .nil 98 (.func #[9, 3] #[9] false) .nil)) 99 (.func #[22, 3] #[22] false) (.node (.node .nil 100 (.map 3 9) .nil) 101 (.struct #[{ name := "now", type := 22, offset := 0, embedded := false, tag := "", pkgPath := "bailiwick/disk", byteOffset := 0 }, { name := "was", type := 100, offset := 1, embedded := false, tag := "", pkgPath := "bailiwick/disk", byteOffset := 24 }, { name := "order", type := 44, offset := 2, embedded := false, tag := "", pkgPath := "bailiwick/disk", byteOffset := 32 }, { name := "fuse", type := 3, offset := 3, embedded := false, tag := "", pkgPath := "bailiwick/disk", byteOffset := 56 }, { name := "gone", type := 4, offset := 4, embedded := false, tag := "", pkgPath := "bailiwick/disk", byteOffset := 64 }]) (.node .nil 102 (.struct #[{ name := "now", type := 22, offset := 0, embedded := false, tag := "", pkgPath := "bailiwick/disk", byteOffset := 0 }, { name := "was", type := 100, offset := 1, embedded := false, tag := "", pkgPath := "bailiwick/disk", byteOffset := 24 }, { name := "order", type := 44, offset := 2, embedded := false, tag := "", pkgPath := "bailiwick/disk", byteOffset := 32 }, { name := "fuse", type := 3, offset := 3, embedded := false, tag := "", pkgPath := "bailiwick/disk", byteOffset := 56 }, { name := "gone", type := 4, offset := 4, embedded := false, tag := "", pkgPath := "bailiwick/disk", byteOffset := 64 }]) .nil))))) 103 (.func #[3] #[9] false) (.node (.node (.node (.node (.node (.node .nil 104 (.struct #[{ name := "gen", type := 3, offset := 0, embedded := false, tag := "", pkgPath := "bailiwick/shadow", byteOffset := 0 }, { name := "root", type := 3, offset := 1, embedded := false, tag := "", pkgPath := "bailiwick/shadow", byteOffset := 8 }, { name := "used", type := 9, offset := 2, embedded := false, tag := "", pkgPath := "bailiwick/shadow", byteOffset := 16 }]) .nil) 105 (.struct #[{ name := "gen", type := 3, offset := 0, embedded := false, tag := "", pkgPath := "bailiwick/shadow", byteOffset := 0 }, { name := "root", type := 3, offset := 1, embedded := false, tag := "", pkgPath := "bailiwick/shadow", byteOffset := 8 }, { name := "used", type := 9, offset := 2, embedded := false, tag := "", pkgPath := "bailiwick/shadow", byteOffset := 16 }]) .nil) 106 (.func #[62] #[29] false) (.node .nil 107 (.func #[62, 105] #[65] false) .nil)) 108 (.func #[] #[3] false) (.node (.node .nil 109 (.func #[9] #[4] false) .nil) 110 (.pointer 112) (.node .nil 111 (.struct #[{ name := "addr", type := 110, offset := 0, embedded := false, tag := "", pkgPath := "strings", byteOffset := 0 }, { name := "buf", type := 89, offset := 1, embedded := false, tag := "", pkgPath := "strings", byteOffset := 8 }]) .nil))) 112 (.struct #[{ name := "addr", type := 110, offset := 0, embedded := false, tag := "", pkgPath := "strings", byteOffset := 0 }, { name := "buf", type := 89, offset := 1, embedded := false, tag := "", pkgPath := "strings", byteOffset := 8 }]) (.node (.node (.node .nil 113 (.interface #[("Error", 117)]) .nil) 114 (.interface #[("Error", 117)]) (.node .nil 115 (.tuple #[3, 114]) .nil)) 116 (.func #[21] #[3, 114] false) (.node (.node .nil 117 (.func #[] #[9] false) .nil) 118 (.slice 121) (.node .nil 119 (.func #[78, 3] #[118] false) .nil)))) 120 (.struct #[{ name := "Key", type := 78, offset := 0, embedded := false, tag := "", pkgPath := "", byteOffset := 0 }, { name := "Value", type := 9, offset := 1, embedded := false, tag := "", pkgPath := "", byteOffset := 8 }]) (.node (.node (.node (.node (.node .nil 121 (.struct #[{ name := "Key", type := 78, offset := 0, embedded := false, tag := "", pkgPath := "", byteOffset := 0 }, { name := "Value", type := 9, offset := 1, embedded := false, tag := "", pkgPath := "", byteOffset := 8 }]) .nil) 122 (.func #[78, 3, 3] #[4] false) .nil) 123 (.tuple #[3, 3, 3]) (.node .nil 124 (.func #[78] #[3, 3, 3] false) .nil)) 125 (.tuple #[78, 4]) (.node (.node .nil 126 (.func #[78] #[78, 4] false) .nil) 127 (.tuple #[9, 29]) (.node .nil 128 (.func #[78, 3] #[9, 29] false) .nil))) 129 (.func #[28] #[9, 29] false) (.node (.node (.node .nil 130 (.func #[133] #[4] false) .nil) 131 (.tuple #[9, 4, 29]) (.node .nil 132 (.func #[65, 3, 78] #[9, 4, 29] false) .nil)) 133 (.func #[] #[4, 29] false) (.node (.node .nil 134 (.func #[3, 3, 3] #[78, 4] false) .nil) 135 (.pointer 137) (.node .nil 136 (.struct #[{ name := "s", type := 9, offset := 0, embedded := false, tag := "", pkgPath := "bailiwick/rec", byteOffset := 0 }, { name := "bad", type := 4, offset := 1, embedded := false, tag := "", pkgPath := "bailiwick/rec", byteOffset := 16 }]) .nil))))))) 137 (.struct #[{ name := "s", type := 9, offset := 0, embedded := false, tag := "", pkgPath := "bailiwick/rec", byteOffset := 0 }, { name := "bad", type := 4, offset := 1, embedded := false, tag := "", pkgPath := "bailiwick/rec", byteOffset := 16 }]) (.node (.node (.node (.node (.node (.node (.node (.node .nil 138 (.func #[3] #[3] false) .nil) 139 (.tuple #[9, 9, 29]) .nil) 140 (.func #[9] #[9, 9, 29] false) (.node .nil 141 (.func #[186, 9] #[4] false) .nil)) 142 (.struct #[{ name := "Owner", type := 28, offset := 0, embedded := true, tag := "", pkgPath := "", byteOffset := 0 }]) (.node (.node .nil 143 (.struct #[{ name := "Owner", type := 28, offset := 0, embedded := true, tag := "", pkgPath := "", byteOffset := 0 }]) .nil) 144 (.tuple #[3, 4, 29]) (.node .nil 145 (.func #[65, 3, 78] #[3, 4, 29] false) .nil))) 146 (.func #[65, 3, 78, 9] #[3, 29] false) (.node (.node (.node (.node .nil 147 (.func #[41] #[9, 29] false) .nil) 148 (.struct #[{ name := "Cap", type := 41, offset := 0, embedded := true, tag := "", pkgPath := "", byteOffset := 0 }]) .nil) 149 (.struct #[{ name := "Cap", type := 41, offset := 0, embedded := true, tag := "", pkgPath := "", byteOffset := 0 }]) (.node .nil 150 (.tuple #[78, 9, 29]) .nil)) 151 (.func #[9, 3] #[78, 9, 29] false) (.node (.node .nil 152 (.int .u64) .nil) 153 (.tuple #[152, 152]) (.node .nil 154 (.func #[152, 152] #[152, 152] false) .nil)))) 155 (.func #[9, 9] #[4] false) (.node (.node (.node (.node (.node .nil 156 (.func #[3] #[] false) .nil) 157 (.func #[9] #[3, 114] false) .nil) 158 (.func #[62, 3, 3, 9] #[29] false) (.node .nil 159 (.map 3 4) .nil)) 160 (.struct #[{ name := "d", type := 62, offset := 0, embedded := false, tag := "", pkgPath := "bailiwick/shadow", byteOffset := 0 }, { name := "h", type := 105, offset := 1, embedded := false, tag := "", pkgPath := "bailiwick/shadow", byteOffset := 8 }, { name := "fresh", type := 159, offset := 4, embedded := false, tag := "", pkgPath := "bailiwick/shadow", byteOffset := 40 }, { name := "given", type := 159, offset := 5, embedded := false, tag := "", pkgPath := "bailiwick/shadow", byteOffset := 48 }, { name := "down", type := 4, offset := 6, embedded := false, tag := "", pkgPath := "bailiwick/shadow", byteOffset := 56 }]) (.node (.node .nil 161 (.struct #[{ name := "d", type := 62, offset := 0, embedded := false, tag := "", pkgPath := "bailiwick/shadow", byteOffset := 0 }, { name := "h", type := 105, offset := 1, embedded := false, tag := "", pkgPath := "bailiwick/shadow", byteOffset := 8 }, { name := "fresh", type := 159, offset := 4, embedded := false, tag := "", pkgPath := "bailiwick/shadow", byteOffset := 40 }, { name := "given", type := 159, offset := 5, embedded := false, tag := "", pkgPath := "bailiwick/shadow", byteOffset := 48 }, { name := "down", type := 4, offset := 6, embedded := false, tag := "", pkgPath := "bailiwick/shadow", byteOffset := 56 }]) .nil) 162 (.func #[9] #[3] false) (.node .nil 163 (.func #[21] #[4] false) .nil))) 164 (.func #[89, 21] #[89] false) (.node (.node (.node .nil 165 (.pointer 5) .nil) 166 (.tuple #[118, 29]) (.node .nil 167 (.func #[65, 3, 78, 3] #[118, 29] false) .nil)) 168 (.int .u32) (.node (.node .nil 169 (.func #[186] #[9, 29] false) .nil) 170 (.pointer 172) (.node .nil 171 (.struct #[{ name := "s", type := 65, offset := 0, embedded := false, tag := "", pkgPath := "bailiwick/tree", byteOffset := 0 }, { name := "read", type := 3, offset := 1, embedded := false, tag := "", pkgPath := "bailiwick/tree", byteOffset := 8 }, { name := "e", type := 29, offset := 2, embedded := false, tag := "", pkgPath := "bailiwick/tree", byteOffset := 16 }]) .nil))))) 172 (.struct #[{ name := "s", type := 65, offset := 0, embedded := false, tag := "", pkgPath := "bailiwick/tree", byteOffset := 0 }, { name := "read", type := 3, offset := 1, embedded := false, tag := "", pkgPath := "bailiwick/tree", byteOffset := 8 }, { name := "e", type := 29, offset := 2, embedded := false, tag := "", pkgPath := "bailiwick/tree", byteOffset := 16 }]) (.node (.node (.node (.node (.node (.node .nil 173 (.slice 78) .nil) 174 (.struct #[{ name := "Leaf", type := 4, offset := 0, embedded := false, tag := "", pkgPath := "", byteOffset := 0 }, { name := "Keys", type := 173, offset := 1, embedded := false, tag := "", pkgPath := "", byteOffset := 8 }, { name := "Vals", type := 22, offset := 2, embedded := false, tag := "", pkgPath := "", byteOffset := 32 }, { name := "Kids", type := 44, offset := 3, embedded := false, tag := "", pkgPath := "", byteOffset := 56 }]) .nil) 175 (.struct #[{ name := "Leaf", type := 4, offset := 0, embedded := false, tag := "", pkgPath := "", byteOffset := 0 }, { name := "Keys", type := 173, offset := 1, embedded := false, tag := "", pkgPath := "", byteOffset := 8 }, { name := "Vals", type := 22, offset := 2, embedded := false, tag := "", pkgPath := "", byteOffset := 32 }, { name := "Kids", type := 44, offset := 3, embedded := false, tag := "", pkgPath := "", byteOffset := 56 }]) (.node .nil 176 (.struct #[{ name := "at", type := 3, offset := 0, embedded := false, tag := "", pkgPath := "bailiwick/tree", byteOffset := 0 }, { name := "n", type := 175, offset := 1, embedded := false, tag := "", pkgPath := "bailiwick/tree", byteOffset := 8 }, { name := "i", type := 3, offset := 5, embedded := false, tag := "", pkgPath := "bailiwick/tree", byteOffset := 88 }]) .nil)) 177 (.struct #[{ name := "at", type := 3, offset := 0, embedded := false, tag := "", pkgPath := "bailiwick/tree", byteOffset := 0 }, { name := "n", type := 175, offset := 1, embedded := false, tag := "", pkgPath := "bailiwick/tree", byteOffset := 8 }, { name := "i", type := 3, offset := 5, embedded := false, tag := "", pkgPath := "bailiwick/tree", byteOffset := 88 }]) (.node (.node .nil 178 (.tuple #[177, 4]) .nil) 179 (.pointer 190) (.node .nil 180 (.func #[3, 78] #[179] false) .nil))) 181 (.func #[] #[177, 4] false) (.node (.node (.node .nil 182 (.tuple #[3, 4]) .nil) 183 (.func #[175, 78] #[3, 4] false) (.node .nil 184 (.func #[3] #[78] false) .nil)) 185 (.interface #[("bailiwick/rec.right", 23)]) (.node (.node .nil 186 (.interface #[("bailiwick/rec.right", 23)]) .nil) 187 (.func #[175, 3] #[175] false) (.node .nil 188 (.slice 177) .nil)))) 189 (.struct #[{ name := "l", type := 188, offset := 0, embedded := false, tag := "", pkgPath := "bailiwick/tree", byteOffset := 0 }]) (.node (.node (.node (.node (.node .nil 190 (.struct #[{ name := "l", type := 188, offset := 0, embedded := false, tag := "", pkgPath := "bailiwick/tree", byteOffset := 0 }]) .nil) 191 (.func #[175] #[3] false) .nil) 192 (.func #[3, 175] #[3] false) (.node .nil 193 (.func #[177, 175, 3] #[175] false) .nil)) 194 (.func #[29] #[4] false) (.node (.node .nil 195 (.func #[3] #[29] false) .nil) 196 (.func #[3] #[3, 29] false) (.node .nil 197 (.func #[175, 78, 9] #[175] false) .nil))) 198 (.tuple #[175, 78, 175, 4]) (.node (.node (.node .nil 199 (.func #[175] #[175, 78, 175, 4] false) .nil) 200 (.func #[175, 3, 78, 3] #[175] false) (.node .nil 201 (.tuple #[168, 168]) .nil)) 202 (.func #[168, 168] #[168, 168] false) (.node (.node .nil 203 (.tuple #[78, 78]) .nil) 204 (.func #[78, 78] #[78, 78] false) (.node .nil 205 (.func #[3, 9] #[9, 29] false) .nil)))))) 206 (.func #[3, 9] #[29] false) (.node (.node (.node (.node (.node (.node (.node .nil 207 .unsafePointer .nil) 208 (.func #[207] #[207] false) .nil) 209 (.func #[234] #[] false) (.node .nil 210 (.func #[234] #[] false) .nil)) 211 (.func #[3, 78] #[210] false) (.node (.node .nil 212 (.pointer 214) .nil) 213 (.struct #[{ name := "s", type := 9, offset := 0, embedded := false, tag := "", pkgPath := "bailiwick/rec", byteOffset := 0 }]) (.node .nil 214 (.struct #[{ name := "s", type := 9, offset := 0, embedded := false, tag := "", pkgPath := "bailiwick/rec", byteOffset := 0 }]) .nil))) 215 (.func #[3, 3] #[] false) (.node (.node (.node (.node .nil 216 (.func #[9] #[9, 29] false) .nil) 217 (.struct #[{ name := "ID", type := 3, offset := 0, embedded := false, tag := "", pkgPath := "", byteOffset := 0 }, { name := "Cap", type := 3, offset := 1, embedded := false, tag := "", pkgPath := "", byteOffset := 8 }, { name := "Epoch", type := 3, offset := 2, embedded := false, tag := "", pkgPath := "", byteOffset := 16 }, { name := "Nonce", type := 78, offset := 3, embedded := false, tag := "", pkgPath := "", byteOffset := 24 }]) .nil) 218 (.struct #[{ name := "ID", type := 3, offset := 0, embedded := false, tag := "", pkgPath := "", byteOffset := 0 }, { name := "Cap", type := 3, offset := 1, embedded := false, tag := "", pkgPath := "", byteOffset := 8 }, { name := "Epoch", type := 3, offset := 2, embedded := false, tag := "", pkgPath := "", byteOffset := 16 }, { name := "Nonce", type := 78, offset := 3, embedded := false, tag := "", pkgPath := "", byteOffset := 24 }]) (.node .nil 219 (.struct #[{ name := "Slot", type := 218, offset := 0, embedded := true, tag := "", pkgPath := "", byteOffset := 0 }]) .nil)) 220 (.struct #[{ name := "Slot", type := 218, offset := 0, embedded := true, tag := "", pkgPath := "", byteOffset := 0 }]) (.node (.node .nil 221 (.func #[78, 3] #[] false) .nil) 222 (.func #[3, 3] #[175] false) (.node .nil 223 (.func #[177] #[] false) .nil)))) 224 (.func #[173, 78] #[3, 4] false) (.node (.node (.node (.node (.node .nil 225 (.func #[173, 3, 3, 173] #[173] true) .nil) 226 (.func #[22, 3, 3, 22] #[22] true) .nil) 227 (.func #[175, 78, 175] #[175] false) (.node .nil 228 (.func #[9, 3] #[4] false) .nil)) 229 (.func #[] #[3, 29] false) (.node (.node .nil 230 (.func #[44, 3, 3, 44] #[44] true) .nil) 231 (.func #[3] #[175] false) (.node .nil 232 (.func #[3] #[89] false) .nil))) 233 (.func #[9] #[168] false) (.node (.node (.node .nil 234 (.func #[121] #[4] false) .nil) 235 (.func #[3, 3, 78, 234] #[4] false) (.node .nil 236 (.tuple #[3, 9, 29]) .nil)) 237 (.func #[3] #[3, 9, 29] false) (.node (.node .nil 238 (.tuple #[175, 29]) .nil) 239 (.func #[9] #[175, 29] false) (.node .nil 240 (.func #[251] #[173] true) .nil))))) 241 (.func #[253] #[22] true) (.node (.node (.node (.node (.node (.node .nil 242 (.func #[175] #[9, 29] false) .nil) 243 (.func #[3, 3, 9] #[29] false) .nil) 244 (.func #[255] #[44] true) (.node .nil 245 (.func #[62, 3] #[3, 9, 29] false) .nil)) 246 (.func #[29] #[29] false) (.node (.node .nil 247 (.pointer 249) .nil) 248 (.struct #[{ name := "b", type := 9, offset := 0, embedded := false, tag := "", pkgPath := "bailiwick/node", byteOffset := 0 }, { name := "bad", type := 4, offset := 1, embedded := false, tag := "", pkgPath := "bailiwick/node", byteOffset := 16 }]) (.node .nil 249 (.struct #[{ name := "b", type := 9, offset := 0, embedded := false, tag := "", pkgPath := "bailiwick/node", byteOffset := 0 }, { name := "bad", type := 4, offset := 1, embedded := false, tag := "", pkgPath := "bailiwick/node", byteOffset := 16 }]) .nil))) 250 (.func #[175] #[4] false) (.node (.node (.node .nil 251 (.slice 173) .nil) 252 (.func #[173, 3] #[173] false) (.node .nil 253 (.slice 22) .nil)) 254 (.func #[5] #[114] false) (.node (.node .nil 255 (.slice 44) .nil) 256 (.func #[44, 3] #[44] false) (.node .nil 257 (.func #[3] #[9, 29] false) .nil)))) 258 (.func #[9] #[3, 9, 29] false) (.node (.node (.node (.node (.node .nil 259 (.func #[22, 109] #[4] false) .nil) 260 (.func #[44, 76] #[4] false) .nil) 261 (.func #[22, 109] #[3] false) (.node .nil 262 (.func #[44, 76] #[3] false) .nil)) 263 (.struct #[{ name := "_interface", type := 17, offset := 0, embedded := false, tag := "", pkgPath := "runtime", byteOffset := 0 }, { name := "concrete", type := 17, offset := 1, embedded := false, tag := "", pkgPath := "runtime", byteOffset := 8 }, { name := "asserted", type := 17, offset := 2, embedded := false, tag := "", pkgPath := "runtime", byteOffset := 16 }, { name := "missingMethod", type := 9, offset := 3, embedded := false, tag := "", pkgPath := "runtime", byteOffset := 24 }]) (.node (.node .nil 264 (.struct #[{ name := "_interface", type := 17, offset := 0, embedded := false, tag := "", pkgPath := "runtime", byteOffset := 0 }, { name := "concrete", type := 17, offset := 1, embedded := false, tag := "", pkgPath := "runtime", byteOffset := 8 }, { name := "asserted", type := 17, offset := 2, embedded := false, tag := "", pkgPath := "runtime", byteOffset := 16 }, { name := "missingMethod", type := 9, offset := 3, embedded := false, tag := "", pkgPath := "runtime", byteOffset := 24 }]) .nil) 265 (.array 0 16) (.node .nil 266 (.struct #[{ name := "_", type := 265, offset := 0, embedded := false, tag := "", pkgPath := "runtime", byteOffset := 0 }]) .nil))) 267 (.struct #[{ name := "_", type := 265, offset := 0, embedded := false, tag := "", pkgPath := "runtime", byteOffset := 0 }]) (.node (.node (.node .nil 268 (.int .u8) .nil) 269 (.int .u8) (.node .nil 270 (.func #[207, 207] #[4] false) .nil)) 271 (.int .i32) (.node (.node .nil 272 (.int .i32) .nil) 273 (.struct #[{ name := "Size_", type := 12, offset := 0, embedded := false, tag := "", pkgPath := "", byteOffset := 0 }, { name := "PtrBytes", type := 12, offset := 1, embedded := false, tag := "", pkgPath := "", byteOffset := 8 }, { name := "Hash", type := 168, offset := 2, embedded := false, tag := "", pkgPath := "", byteOffset := 16 }, { name := "TFlag", type := 268, offset := 3, embedded := false, tag := "", pkgPath := "", byteOffset := 20 }, { name := "Align_", type := 5, offset := 4, embedded := false, tag := "", pkgPath := "", byteOffset := 21 }, { name := "FieldAlign_", type := 5, offset := 5, embedded := false, tag := "", pkgPath := "", byteOffset := 22 }, { name := "Kind_", type := 269, offset := 6, embedded := false, tag := "", pkgPath := "", byteOffset := 23 }, { name := "Equal", type := 270, offset := 7, embedded := false, tag := "", pkgPath := "", byteOffset := 24 }, { name := "GCData", type := 165, offset := 8, embedded := false, tag := "", pkgPath := "", byteOffset := 32 }, { name := "Str", type := 271, offset := 9, embedded := false, tag := "", pkgPath := "", byteOffset := 40 }, { name := "PtrToThis", type := 272, offset := 10, embedded := false, tag := "", pkgPath := "", byteOffset := 44 }]) (.node .nil 274 (.struct #[{ name := "Size_", type := 12, offset := 0, embedded := false, tag := "", pkgPath := "", byteOffset := 0 }, { name := "PtrBytes", type := 12, offset := 1, embedded := false, tag := "", pkgPath := "", byteOffset := 8 }, { name := "Hash", type := 168, offset := 2, embedded := false, tag := "", pkgPath := "", byteOffset := 16 }, { name := "TFlag", type := 268, offset := 3, embedded := false, tag := "", pkgPath := "", byteOffset := 20 }, { name := "Align_", type := 5, offset := 4, embedded := false, tag := "", pkgPath := "", byteOffset := 21 }, { name := "FieldAlign_", type := 5, offset := 5, embedded := false, tag := "", pkgPath := "", byteOffset := 22 }, { name := "Kind_", type := 269, offset := 6, embedded := false, tag := "", pkgPath := "", byteOffset := 23 }, { name := "Equal", type := 270, offset := 7, embedded := false, tag := "", pkgPath := "", byteOffset := 24 }, { name := "GCData", type := 165, offset := 8, embedded := false, tag := "", pkgPath := "", byteOffset := 32 }, { name := "Str", type := 271, offset := 9, embedded := false, tag := "", pkgPath := "", byteOffset := 40 }, { name := "PtrToThis", type := 272, offset := 10, embedded := false, tag := "", pkgPath := "", byteOffset := 44 }]) .nil))))))))
 inf := (.node (.node (.node (.node (.node (.node (.node (.node (.node .nil 0 ((.tuple #[]), 1, 0) .nil) 1 (.nilFunc, 1, 8) .nil) 2 ((.int .i64 0), 1, 8) (.node .nil 3 ((.int .i64 0), 1, 8) .nil)) 4 ((.bool false), 1, 1) (.node (.node .nil 5 ((.int .u8 0), 1, 1) .nil) 6 ((.int .u8 0), 1, 1) (.node .nil 7 ((.agg #[.int .i64 0, .int .i64 0, .bool false, .int .u8 0]), 4, 24) .nil))) 8 ((.agg #[.int .i64 0, .int .i64 0, .bool false, .int .u8 0]), 4, 24) (.node (.node (.node (.node .nil 9 ((.string { data := #[] }), 1, 16) .nil) 10 ((.string { data := #[] }), 1, 16) .nil) 11 ((.string { data := #[] }), 1, 16) (.node .nil 12 ((.int .u64 0), 1, 8) .nil)) 13 ((.agg #[.string { data := #[] }, .int .u64 0]), 2, 24) (.node (.node .nil 14 ((.agg #[.string { data := #[] }, .int .u64 0]), 2, 24) .nil) 15 ((.pointer none), 1, 8) (.node .nil 16 ((.pointer none), 1, 8) .nil)))) 17 ((.pointer none), 1, 8) (.node (.node (.node (.node (.node .nil 18 ((.agg #[.pointer none]), 1, 8) .nil) 19 ((.agg #[.pointer none]), 1, 8) .nil) 20 (.nilIface, 1, 16) (.node .nil 21 ((.int .i32 0), 1, 4) .nil)) 22 ((.slice none 0 0), 1, 24) (.node (.node .nil 23 (.nilFunc, 1, 8) .nil) 24 ((.pointer none), 1, 8) (.node .nil 25 (.nilFunc, 1, 8) .nil))) 26 ((.map none), 1, 8) (.node (.node (.node .nil 27 ((.agg #[.int .i64 0, .string { data := #[] }, .int .i64 0, .int .i64 0]), 4, 40) .nil) 28 ((.agg #[.int .i64 0, .string { data := #[] }, .int .i64 0, .int .i64 0]), 4, 40) (.node .nil 29 ((.int .i64 0), 1, 8) .nil)) 30 ((.tuple #[.agg #[.int .i64 0, .string { data := #[] }, .int .i64 0, .int .i64 0], .int .i64 0]), 1, 0) (.node (.node .nil 31 (.nilFunc, 1, 8) .nil) 32 ((.tuple #[.int .i64 0, .int .i64 0]), 1, 0) (.node .nil 33 (.nilFunc, 1, 8) .nil))))) 34 (.nilFunc, 1, 8) (.node (.node (.node (.node (.node (.node .nil 35 (.nilFunc, 1, 8) .nil) 36 ((.int .u16 0), 1, 2) .nil) 37 (.nilFunc, 1, 8) (.node .nil 38 (.nilFunc, 1, 8) .nil)) 39 (.nilFunc, 1, 8) (.node (.node .nil 40 ((.agg #[.int .i64 0, .int .i64 0, .int .i64 0, .int .i64 0, .int .i64 0, .int .i64 0, .int .i64 0, .int .i64 0, .int .i64 0, .bool false]), 10, 80) .nil) 41 ((.agg #[.int .i64 0, .int .i64 0, .int .i64 0, .int .i64 0, .int .i64 0, .int .i64 0, .int .i64 0, .int .i64 0, .int .i64 0, .bool false]), 10, 80) (.node .nil 42 ((.tuple #[.agg #[.int .i64 0, .int .i64 0, .int .i64 0, .int .i64 0, .int .i64 0, .int .i64 0, .int .i64 0, .int .i64 0, .int .i64 0, .bool false], .int .i64 0]), 1, 0) .nil))) 43 (.nilFunc, 1, 8) (.node (.node (.node .nil 44 ((.slice none 0 0), 1, 24) .nil) 45 ((.tuple #[.slice none 0 0, .int .i64 0]), 1, 0) (.node .nil 46 (.nilFunc, 1, 8) .nil)) 47 (.nilFunc, 1, 8) (.node (.node .nil 48 (.nilFunc, 1, 8) .nil) 49 ((.slice none 0 0), 1, 24) (.node .nil 50 (.nilFunc, 1, 8) .nil)))) 51 ((.agg #[.int .i64 0, .int .i64 0, .int .i64 0, .int .i64 0]), 4, 32) (.node (.node (.node (.node (.node .nil 52 (.nilFunc, 1, 8) .nil) 53 (.nilFunc, 1, 8) .nil) 54 (.nilFunc, 1, 8) (.node .nil 55 ((.slice none 0 0), 1, 24) .nil)) 56 ((.slice none 0 0), 1, 24) (.node (.node .nil 57 (.nilFunc, 1, 8) .nil) 58 (.nilFunc, 1, 8) (.node .nil 59 (.nilFunc, 1, 8) .nil))) 60 (.nilFunc, 1, 8) (.node (.node (.node .nil 61 (.nilFunc, 1, 8) .nil) 62 ((.pointer none), 1, 8) (.node .nil 63 ((.tuple #[.pointer none, .int .i64 0]), 1, 0) .nil)) 64 (.nilFunc, 1, 8) (.node (.node .nil 65 ((.pointer none), 1, 8) .nil) 66 ((.tuple #[.pointer none, .int .i64 0]), 1, 0) (.node .nil 67 (.nilFunc, 1, 8) .nil)))))) 68 (.nilFunc, 1, 8) (.node (.node (.node (.node (.node (.node (.node .nil 69 ((.tuple #[.string { data := #[] }, .bool false]), 1, 0) .nil) 70 (.nilFunc, 1, 8) .nil) 71 (.nilFunc, 1, 8) (.node .nil 72 (.nilFunc, 1, 8) .nil)) 73 (.nilFunc, 1, 8) (.node (.node .nil 74 (.nilFunc, 1, 8) .nil) 75 (.nilFunc, 1, 8) (.node .nil 76 (.nilFunc, 1, 8) .nil))) 77 (.nilFunc, 1, 8) (.node (.node (.node (.node .nil 78 ((.int .u64 0), 1, 8) .nil) 79 (.nilFunc, 1, 8) .nil) 80 (.nilFunc, 1, 8) (.node .nil 81 (.nilFunc, 1, 8) .nil)) 82 (.nilFunc, 1, 8) (.node (.node .nil 83 ((.tuple #[.bool false, .int .i64 0]), 1, 0) .nil) 84 (.nilFunc, 1, 8) (.node .nil 85 (.nilFunc, 1, 8) .nil)))) 86 (.nilFunc, 1, 8) (.node (.node (.node (.node (.node .nil 87 (.nilFunc, 1, 8) .nil) 88 (.nilFunc, 1, 8) .nil) 89 ((.slice none 0 0), 1, 24) (.node .nil 90 ((.agg #[.int .i64 0, .int .i64 0, .int .i64 0, .int .i64 0, .int .i64 0, .bool false]), 6, 48) .nil)) 91 ((.agg #[.int .i64 0, .int .i64 0, .int .i64 0, .int .i64 0, .int .i64 0, .bool false]), 6, 48) (.node (.node .nil 92 (.nilFunc, 1, 8) .nil) 93 ((.slice none 0 0), 1, 24) (.node .nil 94 ((.tuple #[.slice none 0 0, .int .i64 0]), 1, 0) .nil))) 95 (.nilFunc, 1, 8) (.node (.node (.node .nil 96 ((.agg #[.pointer none, .int .i64 0, .int .i64 0, .bool false]), 4, 32) .nil) 97 ((.agg #[.pointer none, .int .i64 0, .int .i64 0, .bool false]), 4, 32) (.node .nil 98 (.nilFunc, 1, 8) .nil)) 99 (.nilFunc, 1, 8) (.node (.node .nil 100 ((.map none), 1, 8) .nil) 101 ((.agg #[.slice none 0 0, .map none, .slice none 0 0, .int .i64 0, .bool false]), 5, 72) (.node .nil 102 ((.agg #[.slice none 0 0, .map none, .slice none 0 0, .int .i64 0, .bool false]), 5, 72) .nil))))) 103 (.nilFunc, 1, 8) (.node (.node (.node (.node (.node (.node .nil 104 ((.agg #[.int .i64 0, .int .i64 0, .string { data := #[] }]), 3, 32) .nil) 105 ((.agg #[.int .i64 0, .int .i64 0, .string { data := #[] }]), 3, 32) .nil) 106 (.nilFunc, 1, 8) (.node .nil 107 (.nilFunc, 1, 8) .nil)) 108 (.nilFunc, 1, 8) (.node (.node .nil 109 (.nilFunc, 1, 8) .nil) 110 ((.pointer none), 1, 8) (.node .nil 111 ((.agg #[.pointer none, .slice none 0 0]), 2, 32) .nil))) 112 ((.agg #[.pointer none, .slice none 0 0]), 2, 32) (.node (.node (.node .nil 113 (.nilIface, 1, 16) .nil) 114 (.nilIface, 1, 16) (.node .nil 115 ((.tuple #[.int .i64 0, .nilIface]), 1, 0) .nil)) 116 (.nilFunc, 1, 8) (.node (.node .nil 117 (.nilFunc, 1, 8) .nil) 118 ((.slice none 0 0), 1, 24) (.node .nil 119 (.nilFunc, 1, 8) .nil)))) 120 ((.agg #[.int .u64 0, .string { data := #[] }]), 2, 24) (.node (.node (.node (.node (.node .nil 121 ((.agg #[.int .u64 0, .string { data := #[] }]), 2, 24) .nil) 122 (.nilFunc, 1, 8) .nil) 123 ((.tuple #[.int .i64 0, .int .i64 0, .int .i64 0]), 1, 0) (.node .nil 124 (.nilFunc, 1, 8) .nil)) 125 ((.tuple #[.int .u64 0, .bool false]), 1, 0) (.node (.node .nil 126 (.nilFunc, 1, 8) .nil) 127 ((.tuple #[.string { data := #[] }, .int .i64 0]), 1, 0) (.node .nil 128 (.nilFunc, 1, 8) .nil))) 129 (.nilFunc, 1, 8) (.node (.node (.node .nil 130 (.nilFunc, 1, 8) .nil) 131 ((.tuple #[.string { data := #[] }, .bool false, .int .i64 0]), 1, 0) (.node .nil 132 (.nilFunc, 1, 8) .nil)) 133 (.nilFunc, 1, 8) (.node (.node .nil 134 (.nilFunc, 1, 8) .nil) 135 ((.pointer none), 1, 8) (.node .nil 136 ((.agg #[.string { data := #[] }, .bool false]), 2, 24) .nil))))))) 137 ((.agg #[.string { data := #[] }, .bool false]), 2, 24) (.node (.node (.node (.node (.node (.node (.node (.node .nil 138 (.nilFunc, 1, 8) .nil) 139 ((.tuple #[.string { data := #[] }, .string { data := #[] }, .int .i64 0]), 1, 0) .nil) 140 (.nilFunc, 1, 8) (.node .nil 141 (.nilFunc, 1, 8) .nil)) 142 ((.agg #[.int .i64 0, .string { data := #[] }, .int .i64 0, .int .i64 0]), 4, 40) (.node (.node .nil 143 ((.agg #[.int .i64 0, .string { data := #[] }, .int .i64 0, .int .i64 0]), 4, 40) .nil) 144 ((.tuple #[.int .i64 0, .bool false, .int .i64 0]), 1, 0) (.node .nil 145 (.nilFunc, 1, 8) .nil))) 146 (.nilFunc, 1, 8) (.node (.node (.node (.node .nil 147 (.nilFunc, 1, 8) .nil) 148 ((.agg #[.int .i64 0, .int .i64 0, .int .i64 0, .int .i64 0, .int .i64 0, .int .i64 0, .int .i64 0, .int .i64 0, .int .i64 0, .bool false]), 10, 80) .nil) 149 ((.agg #[.int .i64 0, .int .i64 0, .int .i64 0, .int .i64 0, .int .i64 0, .int .i64 0, .int .i64 0, .int .i64 0, .int .i64 0, .bool false]), 10, 80) (.node .nil 150 ((.tuple #[.int .u64 0, .string { data := #[] }, .int .i64 0]), 1, 0) .nil)) 151 (.nilFunc, 1, 8) (.node (.node .nil 152 ((.int .u64 0), 1, 8) .nil) 153 ((.tuple #[.int .u64 0, .int .u64 0]), 1, 0) (.node .nil 154 (.nilFunc, 1, 8) .nil)))) 155 (.nilFunc, 1, 8) (.node (.node (.node (.node (.node .nil 156 (.nilFunc, 1, 8) .nil) 157 (.nilFunc, 1, 8) .nil) 158 (.nilFunc, 1, 8) (.node .nil 159 ((.map none), 1, 8) .nil)) 160 ((.agg #[.pointer none, .int .i64 0, .int .i64 0, .string { data := #[] }, .map none, .map none, .bool false]), 7, 64) (.node (.node .nil 161 ((.agg #[.pointer none, .int .i64 0, .int .i64 0, .string { data := #[] }, .map none, .map none, .bool false]), 7, 64) .nil) 162 (.nilFunc, 1, 8) (.node .nil 163 (.nilFunc, 1, 8) .nil))) 164 (.nilFunc, 1, 8) (.node (.node (.node .nil 165 ((.pointer none), 1, 8) .nil) 166 ((.tuple #[.slice none 0 0, .int .i64 0]), 1, 0) (.node .nil 167 (.nilFunc, 1, 8) .nil)) 168 ((.int .u32 0), 1, 4) (.node (.node .nil 169 (.nilFunc, 1, 8) .nil) 170 ((.pointer none), 1, 8) (.node .nil 171 ((.agg #[.pointer none, .int .i64 0, .int .i64 0]), 3, 24) .nil))))) 172 ((.agg #[.pointer none, .int .i64 0, .int .i64 0]), 3, 24) (.node (.node (.node (.node (.node (.node .nil 173 ((.slice none 0 0), 1, 24) .nil) 174 ((.agg #[.bool false, .slice none 0 0, .slice none 0 0, .slice none 0 0]), 4, 80) .nil) 175 ((.agg #[.bool false, .slice none 0 0, .slice none 0 0, .slice none 0 0]), 4, 80) (.node .nil 176 ((.agg #[.int .i64 0, .bool false, .slice none 0 0, .slice none 0 0, .slice none 0 0, .int .i64 0]), 6, 96) .nil)) 177 ((.agg #[.int .i64 0, .bool false, .slice none 0 0, .slice none 0 0, .slice none 0 0, .int .i64 0]), 6, 96) (.node (.node .nil 178 ((.tuple #[.agg #[.int .i64 0, .bool false, .slice none 0 0, .slice none 0 0, .slice none 0 0, .int .i64 0], .bool false]), 1, 0) .nil) 179 ((.pointer none), 1, 8) (.node .nil 180 (.nilFunc, 1, 8) .nil))) 181 (.nilFunc, 1, 8) (.node (.node (.node .nil 182 ((.tuple #[.int .i64 0, .bool false]), 1, 0) .nil) 183 (.nilFunc, 1, 8) (.node .nil 184 (.nilFunc, 1, 8) .nil)) 185 (.nilIface, 1, 16) (.node (.node .nil 186 (.nilIface, 1, 16) .nil) 187 (.nilFunc, 1, 8) (.node .nil 188 ((.slice none 0 0), 1, 24) .nil)))) 189 ((.agg #[.slice none 0 0]), 1, 24) (.node (.node (.node (.node (.node .nil 190 ((.agg #[.slice none 0 0]), 1, 24) .nil) 191 (.nilFunc, 1, 8) .nil) 192 (.nilFunc, 1, 8) (.node .nil 193 (.nilFunc, 1, 8) .nil)) 194 (.nilFunc, 1, 8) (.node (.node .nil 195 (.nilFunc, 1, 8) .nil) 196 (.nilFunc, 1, 8) (.node .nil 197 (.nilFunc, 1, 8) .nil))) 198 ((.tuple #[.agg #[.bool false, .slice none 0 0, .slice none 0 0, .slice none 0 0], .int .u64 0, .agg #[.bool false, .slice none 0 0, .slice none 0 0, .slice none 0 0], .bool false]), 1, 0) (.node (.node (.node .nil 199 (.nilFunc, 1, 8) .nil) 200 (.nilFunc, 1, 8) (.node .nil 201 ((.tuple #[.int .u32 0, .int .u32 0]), 1, 0) .nil)) 202 (.nilFunc, 1, 8) (.node (.node .nil 203 ((.tuple #[.int .u64 0, .int .u64 0]), 1, 0) .nil) 204 (.nilFunc, 1, 8) (.node .nil 205 (.nilFunc, 1, 8) .nil)))))) 206 (.nilFunc, 1, 8) (.node (.node (.node (.node (.node (.node (.node .nil 207 ((.pointer none), 1, 8) .nil) 208 (.nilFunc, 1, 8) .nil) 209 (.nilFunc, 1, 8) (.node .nil 210 (.nilFunc, 1, 8) .nil)) 211 (.nilFunc, 1, 8) (.node (.node .nil 212 ((.pointer none), 1, 8) .nil) 213 ((.agg #[.string { data := #[] }]), 1, 16) (.node .nil 214 ((.agg #[.string { data := #[] }]), 1, 16) .nil))) 215 (.nilFunc, 1, 8) (.node (.node (.node (.node .nil 216 (.nilFunc, 1, 8) .nil) 217 ((.agg #[.int .i64 0, .int .i64 0, .int .i64 0, .int .u64 0]), 4, 32) .nil) 218 ((.agg #[.int .i64 0, .int .i64 0, .int .i64 0, .int .u64 0]), 4, 32) (.node .nil 219 ((.agg #[.int .i64 0, .int .i64 0, .int .i64 0, .int .u64 0]), 4, 32) .nil)) 220 ((.agg #[.int .i64 0, .int .i64 0, .int .i64 0, .int .u64 0]), 4, 32) (.node (.node .nil 221 (.nilFunc, 1, 8) .nil) 222 (.nilFunc, 1, 8) (.node .nil 223 (.nilFunc, 1, 8) .nil)))) 224 (.nilFunc, 1, 8) (.node (.node (.node (.node (.node .nil 225 (.nilFunc, 1, 8) .nil) 226 (.nilFunc, 1, 8) .nil) 227 (.nilFunc, 1, 8) (.node .nil 228 (.nilFunc, 1, 8) .nil)) 229 (.nilFunc, 1, 8) (.node (.node .nil 230 (.nilFunc, 1, 8) .nil) 231 (.nilFunc, 1, 8) (.node .nil 232 (.nilFunc, 1, 8) .nil))) 233 (.nilFunc, 1, 8) (.node (.node (.node .nil 234 (.nilFunc, 1, 8) .nil) 235 (.nilFunc, 1, 8) (.node .nil 236 ((.tuple #[.int .i64 0, .string { data := #[] }, .int .i64 0]), 1, 0) .nil)) 237 (.nilFunc, 1, 8) (.node (.node .nil 238 ((.tuple #[.agg #[.bool false, .slice none 0 0, .slice none 0 0, .slice none 0 0], .int .i64 0]), 1, 0) .nil) 239 (.nilFunc, 1, 8) (.node .nil 240 (.nilFunc, 1, 8) .nil))))) 241 (.nilFunc, 1, 8) (.node (.node (.node (.node (.node (.node .nil 242 (.nilFunc, 1, 8) .nil) 243 (.nilFunc, 1, 8) .nil) 244 (.nilFunc, 1, 8) (.node .nil 245 (.nilFunc, 1, 8) .nil)) 246 (.nilFunc, 1, 8) (.node (.node .nil 247 ((.pointer none), 1, 8) .nil) 248 ((.agg #[.string { data := #[] }, .bool false]), 2, 24) (.node .nil 249 ((.agg #[.string { data := #[] }, .bool false]), 2, 24) .nil))) 250 (.nilFunc, 1, 8) (.node (.node (.node .nil 251 ((.slice none 0 0), 1, 24) .nil) 252 (.nilFunc, 1, 8) (.node .nil 253 ((.slice none 0 0), 1, 24) .nil)) 254 (.nilFunc, 1, 8) (.node (.node .nil 255 ((.slice none 0 0), 1, 24) .nil) 256 (.nilFunc, 1, 8) (.node .nil 257 (.nilFunc, 1, 8) .nil)))) 258 (.nilFunc, 1, 8) (.node (.node (.node (.node (.node .nil 259 (.nilFunc, 1, 8) .nil) 260 (.nilFunc, 1, 8) .nil) 261 (.nilFunc, 1, 8) (.node .nil 262 (.nilFunc, 1, 8) .nil)) 263 ((.agg #[.pointer none, .pointer none, .pointer none, .string { data := #[] }]), 4, 40) (.node (.node .nil 264 ((.agg #[.pointer none, .pointer none, .pointer none, .string { data := #[] }]), 4, 40) .nil) 265 ((.agg #[]), 0, 0) (.node .nil 266 ((.agg #[]), 0, 0) .nil))) 267 ((.agg #[]), 0, 0) (.node (.node (.node .nil 268 ((.int .u8 0), 1, 1) .nil) 269 ((.int .u8 0), 1, 1) (.node .nil 270 (.nilFunc, 1, 8) .nil)) 271 ((.int .i32 0), 1, 4) (.node (.node .nil 272 ((.int .i32 0), 1, 4) .nil) 273 ((.agg #[.int .u64 0, .int .u64 0, .int .u32 0, .int .u8 0, .int .u8 0, .int .u8 0, .int .u8 0, .nilFunc, .pointer none, .int .i32 0, .int .i32 0]), 11, 48) (.node .nil 274 ((.agg #[.int .u64 0, .int .u64 0, .int .u32 0, .int .u8 0, .int .u8 0, .int .u8 0, .int .u8 0, .nilFunc, .pointer none, .int .i32 0, .int .i32 0]), 11, 48) .nil))))))))
def qi (k : Nat) : Prop := (Tryz.prog.info? k).map (fun i => (i.zero, i.size, i.bytes)) = (SL.look env.inf k).map fun x => (some x.1, x.2.1, x.2.2)
theorem inf0 : qi 0 := by unfold qi; kernel_rfl
theorem inf1 : qi 1 := by unfold qi; kernel_rfl
theorem inf2 : qi 2 := by unfold qi; kernel_rfl
theorem inf3 : qi 3 := by unfold qi; kernel_rfl
theorem inf4 : qi 4 := by unfold qi; kernel_rfl
theorem inf5 : qi 5 := by unfold qi; kernel_rfl
theorem inf6 : qi 6 := by unfold qi; kernel_rfl
theorem inf7 : qi 7 := by unfold qi; kernel_rfl
theorem inf8 : qi 8 := by unfold qi; kernel_rfl
theorem inf9 : qi 9 := by unfold qi; kernel_rfl
theorem inf10 : qi 10 := by unfold qi; kernel_rfl
theorem inf11 : qi 11 := by unfold qi; kernel_rfl
theorem inf12 : qi 12 := by unfold qi; kernel_rfl
theorem inf13 : qi 13 := by unfold qi; kernel_rfl
theorem inf14 : qi 14 := by unfold qi; kernel_rfl
theorem inf15 : qi 15 := by unfold qi; kernel_rfl
theorem inf16 : qi 16 := by unfold qi; kernel_rfl
theorem inf17 : qi 17 := by unfold qi; kernel_rfl
theorem inf18 : qi 18 := by unfold qi; kernel_rfl
theorem inf19 : qi 19 := by unfold qi; kernel_rfl
theorem inf20 : qi 20 := by unfold qi; kernel_rfl
theorem inf21 : qi 21 := by unfold qi; kernel_rfl
theorem inf22 : qi 22 := by unfold qi; kernel_rfl
theorem inf23 : qi 23 := by unfold qi; kernel_rfl
theorem inf24 : qi 24 := by unfold qi; kernel_rfl
theorem inf25 : qi 25 := by unfold qi; kernel_rfl
theorem inf26 : qi 26 := by unfold qi; kernel_rfl
theorem inf27 : qi 27 := by unfold qi; kernel_rfl
theorem inf28 : qi 28 := by unfold qi; kernel_rfl
theorem inf29 : qi 29 := by unfold qi; kernel_rfl
theorem inf30 : qi 30 := by unfold qi; kernel_rfl
theorem inf31 : qi 31 := by unfold qi; kernel_rfl
theorem inf32 : qi 32 := by unfold qi; kernel_rfl
theorem inf33 : qi 33 := by unfold qi; kernel_rfl
theorem inf34 : qi 34 := by unfold qi; kernel_rfl
theorem inf35 : qi 35 := by unfold qi; kernel_rfl
theorem inf36 : qi 36 := by unfold qi; kernel_rfl
theorem inf37 : qi 37 := by unfold qi; kernel_rfl
theorem inf38 : qi 38 := by unfold qi; kernel_rfl
theorem inf39 : qi 39 := by unfold qi; kernel_rfl
theorem inf40 : qi 40 := by unfold qi; kernel_rfl
theorem inf41 : qi 41 := by unfold qi; kernel_rfl
theorem inf42 : qi 42 := by unfold qi; kernel_rfl
theorem inf43 : qi 43 := by unfold qi; kernel_rfl
theorem inf44 : qi 44 := by unfold qi; kernel_rfl
theorem inf45 : qi 45 := by unfold qi; kernel_rfl
theorem inf46 : qi 46 := by unfold qi; kernel_rfl
theorem inf47 : qi 47 := by unfold qi; kernel_rfl
theorem inf48 : qi 48 := by unfold qi; kernel_rfl
theorem inf49 : qi 49 := by unfold qi; kernel_rfl
theorem inf50 : qi 50 := by unfold qi; kernel_rfl
theorem inf51 : qi 51 := by unfold qi; kernel_rfl
theorem inf52 : qi 52 := by unfold qi; kernel_rfl
theorem inf53 : qi 53 := by unfold qi; kernel_rfl
theorem inf54 : qi 54 := by unfold qi; kernel_rfl
theorem inf55 : qi 55 := by unfold qi; kernel_rfl
theorem inf56 : qi 56 := by unfold qi; kernel_rfl
theorem inf57 : qi 57 := by unfold qi; kernel_rfl
theorem inf58 : qi 58 := by unfold qi; kernel_rfl
theorem inf59 : qi 59 := by unfold qi; kernel_rfl
theorem inf60 : qi 60 := by unfold qi; kernel_rfl
theorem inf61 : qi 61 := by unfold qi; kernel_rfl
theorem inf62 : qi 62 := by unfold qi; kernel_rfl
theorem inf63 : qi 63 := by unfold qi; kernel_rfl
theorem inf64 : qi 64 := by unfold qi; kernel_rfl
theorem inf65 : qi 65 := by unfold qi; kernel_rfl
theorem inf66 : qi 66 := by unfold qi; kernel_rfl
theorem inf67 : qi 67 := by unfold qi; kernel_rfl
theorem inf68 : qi 68 := by unfold qi; kernel_rfl
theorem inf69 : qi 69 := by unfold qi; kernel_rfl
theorem inf70 : qi 70 := by unfold qi; kernel_rfl
theorem inf71 : qi 71 := by unfold qi; kernel_rfl
theorem inf72 : qi 72 := by unfold qi; kernel_rfl
theorem inf73 : qi 73 := by unfold qi; kernel_rfl
theorem inf74 : qi 74 := by unfold qi; kernel_rfl
theorem inf75 : qi 75 := by unfold qi; kernel_rfl
theorem inf76 : qi 76 := by unfold qi; kernel_rfl
theorem inf77 : qi 77 := by unfold qi; kernel_rfl
theorem inf78 : qi 78 := by unfold qi; kernel_rfl
theorem inf79 : qi 79 := by unfold qi; kernel_rfl
theorem inf80 : qi 80 := by unfold qi; kernel_rfl
theorem inf81 : qi 81 := by unfold qi; kernel_rfl
theorem inf82 : qi 82 := by unfold qi; kernel_rfl
theorem inf83 : qi 83 := by unfold qi; kernel_rfl
theorem inf84 : qi 84 := by unfold qi; kernel_rfl
theorem inf85 : qi 85 := by unfold qi; kernel_rfl
theorem inf86 : qi 86 := by unfold qi; kernel_rfl
theorem inf87 : qi 87 := by unfold qi; kernel_rfl
theorem inf88 : qi 88 := by unfold qi; kernel_rfl
theorem inf89 : qi 89 := by unfold qi; kernel_rfl
theorem inf90 : qi 90 := by unfold qi; kernel_rfl
theorem inf91 : qi 91 := by unfold qi; kernel_rfl
theorem inf92 : qi 92 := by unfold qi; kernel_rfl
theorem inf93 : qi 93 := by unfold qi; kernel_rfl
theorem inf94 : qi 94 := by unfold qi; kernel_rfl
theorem inf95 : qi 95 := by unfold qi; kernel_rfl
theorem inf96 : qi 96 := by unfold qi; kernel_rfl
theorem inf97 : qi 97 := by unfold qi; kernel_rfl
theorem inf98 : qi 98 := by unfold qi; kernel_rfl
theorem inf99 : qi 99 := by unfold qi; kernel_rfl
theorem inf100 : qi 100 := by unfold qi; kernel_rfl
theorem inf101 : qi 101 := by unfold qi; kernel_rfl
theorem inf102 : qi 102 := by unfold qi; kernel_rfl
theorem inf103 : qi 103 := by unfold qi; kernel_rfl
theorem inf104 : qi 104 := by unfold qi; kernel_rfl
theorem inf105 : qi 105 := by unfold qi; kernel_rfl
theorem inf106 : qi 106 := by unfold qi; kernel_rfl
theorem inf107 : qi 107 := by unfold qi; kernel_rfl
theorem inf108 : qi 108 := by unfold qi; kernel_rfl
theorem inf109 : qi 109 := by unfold qi; kernel_rfl
theorem inf110 : qi 110 := by unfold qi; kernel_rfl
theorem inf111 : qi 111 := by unfold qi; kernel_rfl
theorem inf112 : qi 112 := by unfold qi; kernel_rfl
theorem inf113 : qi 113 := by unfold qi; kernel_rfl
theorem inf114 : qi 114 := by unfold qi; kernel_rfl
theorem inf115 : qi 115 := by unfold qi; kernel_rfl
theorem inf116 : qi 116 := by unfold qi; kernel_rfl
theorem inf117 : qi 117 := by unfold qi; kernel_rfl
theorem inf118 : qi 118 := by unfold qi; kernel_rfl
theorem inf119 : qi 119 := by unfold qi; kernel_rfl
theorem inf120 : qi 120 := by unfold qi; kernel_rfl
theorem inf121 : qi 121 := by unfold qi; kernel_rfl
theorem inf122 : qi 122 := by unfold qi; kernel_rfl
theorem inf123 : qi 123 := by unfold qi; kernel_rfl
theorem inf124 : qi 124 := by unfold qi; kernel_rfl
theorem inf125 : qi 125 := by unfold qi; kernel_rfl
theorem inf126 : qi 126 := by unfold qi; kernel_rfl
theorem inf127 : qi 127 := by unfold qi; kernel_rfl
theorem inf128 : qi 128 := by unfold qi; kernel_rfl
theorem inf129 : qi 129 := by unfold qi; kernel_rfl
theorem inf130 : qi 130 := by unfold qi; kernel_rfl
theorem inf131 : qi 131 := by unfold qi; kernel_rfl
theorem inf132 : qi 132 := by unfold qi; kernel_rfl
theorem inf133 : qi 133 := by unfold qi; kernel_rfl
theorem inf134 : qi 134 := by unfold qi; kernel_rfl
theorem inf135 : qi 135 := by unfold qi; kernel_rfl
theorem inf136 : qi 136 := by unfold qi; kernel_rfl
theorem inf137 : qi 137 := by unfold qi; kernel_rfl
theorem inf138 : qi 138 := by unfold qi; kernel_rfl
theorem inf139 : qi 139 := by unfold qi; kernel_rfl
theorem inf140 : qi 140 := by unfold qi; kernel_rfl
theorem inf141 : qi 141 := by unfold qi; kernel_rfl
theorem inf142 : qi 142 := by unfold qi; kernel_rfl
theorem inf143 : qi 143 := by unfold qi; kernel_rfl
theorem inf144 : qi 144 := by unfold qi; kernel_rfl
theorem inf145 : qi 145 := by unfold qi; kernel_rfl
theorem inf146 : qi 146 := by unfold qi; kernel_rfl
theorem inf147 : qi 147 := by unfold qi; kernel_rfl
theorem inf148 : qi 148 := by unfold qi; kernel_rfl
theorem inf149 : qi 149 := by unfold qi; kernel_rfl
theorem inf150 : qi 150 := by unfold qi; kernel_rfl
theorem inf151 : qi 151 := by unfold qi; kernel_rfl
theorem inf152 : qi 152 := by unfold qi; kernel_rfl
theorem inf153 : qi 153 := by unfold qi; kernel_rfl
theorem inf154 : qi 154 := by unfold qi; kernel_rfl
theorem inf155 : qi 155 := by unfold qi; kernel_rfl
theorem inf156 : qi 156 := by unfold qi; kernel_rfl
theorem inf157 : qi 157 := by unfold qi; kernel_rfl
theorem inf158 : qi 158 := by unfold qi; kernel_rfl
theorem inf159 : qi 159 := by unfold qi; kernel_rfl
theorem inf160 : qi 160 := by unfold qi; kernel_rfl
theorem inf161 : qi 161 := by unfold qi; kernel_rfl
theorem inf162 : qi 162 := by unfold qi; kernel_rfl
theorem inf163 : qi 163 := by unfold qi; kernel_rfl
theorem inf164 : qi 164 := by unfold qi; kernel_rfl
theorem inf165 : qi 165 := by unfold qi; kernel_rfl
theorem inf166 : qi 166 := by unfold qi; kernel_rfl
theorem inf167 : qi 167 := by unfold qi; kernel_rfl
theorem inf168 : qi 168 := by unfold qi; kernel_rfl
theorem inf169 : qi 169 := by unfold qi; kernel_rfl
theorem inf170 : qi 170 := by unfold qi; kernel_rfl
theorem inf171 : qi 171 := by unfold qi; kernel_rfl
theorem inf172 : qi 172 := by unfold qi; kernel_rfl
theorem inf173 : qi 173 := by unfold qi; kernel_rfl
theorem inf174 : qi 174 := by unfold qi; kernel_rfl
theorem inf175 : qi 175 := by unfold qi; kernel_rfl
theorem inf176 : qi 176 := by unfold qi; kernel_rfl
theorem inf177 : qi 177 := by unfold qi; kernel_rfl
theorem inf178 : qi 178 := by unfold qi; kernel_rfl
theorem inf179 : qi 179 := by unfold qi; kernel_rfl
theorem inf180 : qi 180 := by unfold qi; kernel_rfl
theorem inf181 : qi 181 := by unfold qi; kernel_rfl
theorem inf182 : qi 182 := by unfold qi; kernel_rfl
theorem inf183 : qi 183 := by unfold qi; kernel_rfl
theorem inf184 : qi 184 := by unfold qi; kernel_rfl
theorem inf185 : qi 185 := by unfold qi; kernel_rfl
theorem inf186 : qi 186 := by unfold qi; kernel_rfl
theorem inf187 : qi 187 := by unfold qi; kernel_rfl
theorem inf188 : qi 188 := by unfold qi; kernel_rfl
theorem inf189 : qi 189 := by unfold qi; kernel_rfl
theorem inf190 : qi 190 := by unfold qi; kernel_rfl
theorem inf191 : qi 191 := by unfold qi; kernel_rfl
theorem inf192 : qi 192 := by unfold qi; kernel_rfl
theorem inf193 : qi 193 := by unfold qi; kernel_rfl
theorem inf194 : qi 194 := by unfold qi; kernel_rfl
theorem inf195 : qi 195 := by unfold qi; kernel_rfl
theorem inf196 : qi 196 := by unfold qi; kernel_rfl
theorem inf197 : qi 197 := by unfold qi; kernel_rfl
theorem inf198 : qi 198 := by unfold qi; kernel_rfl
theorem inf199 : qi 199 := by unfold qi; kernel_rfl
theorem inf200 : qi 200 := by unfold qi; kernel_rfl
theorem inf201 : qi 201 := by unfold qi; kernel_rfl
theorem inf202 : qi 202 := by unfold qi; kernel_rfl
theorem inf203 : qi 203 := by unfold qi; kernel_rfl
theorem inf204 : qi 204 := by unfold qi; kernel_rfl
theorem inf205 : qi 205 := by unfold qi; kernel_rfl
theorem inf206 : qi 206 := by unfold qi; kernel_rfl
theorem inf207 : qi 207 := by unfold qi; kernel_rfl
theorem inf208 : qi 208 := by unfold qi; kernel_rfl
theorem inf209 : qi 209 := by unfold qi; kernel_rfl
theorem inf210 : qi 210 := by unfold qi; kernel_rfl
theorem inf211 : qi 211 := by unfold qi; kernel_rfl
theorem inf212 : qi 212 := by unfold qi; kernel_rfl
theorem inf213 : qi 213 := by unfold qi; kernel_rfl
theorem inf214 : qi 214 := by unfold qi; kernel_rfl
theorem inf215 : qi 215 := by unfold qi; kernel_rfl
theorem inf216 : qi 216 := by unfold qi; kernel_rfl
theorem inf217 : qi 217 := by unfold qi; kernel_rfl
theorem inf218 : qi 218 := by unfold qi; kernel_rfl
theorem inf219 : qi 219 := by unfold qi; kernel_rfl
theorem inf220 : qi 220 := by unfold qi; kernel_rfl
theorem inf221 : qi 221 := by unfold qi; kernel_rfl
theorem inf222 : qi 222 := by unfold qi; kernel_rfl
theorem inf223 : qi 223 := by unfold qi; kernel_rfl
theorem inf224 : qi 224 := by unfold qi; kernel_rfl
theorem inf225 : qi 225 := by unfold qi; kernel_rfl
theorem inf226 : qi 226 := by unfold qi; kernel_rfl
theorem inf227 : qi 227 := by unfold qi; kernel_rfl
theorem inf228 : qi 228 := by unfold qi; kernel_rfl
theorem inf229 : qi 229 := by unfold qi; kernel_rfl
theorem inf230 : qi 230 := by unfold qi; kernel_rfl
theorem inf231 : qi 231 := by unfold qi; kernel_rfl
theorem inf232 : qi 232 := by unfold qi; kernel_rfl
theorem inf233 : qi 233 := by unfold qi; kernel_rfl
theorem inf234 : qi 234 := by unfold qi; kernel_rfl
theorem inf235 : qi 235 := by unfold qi; kernel_rfl
theorem inf236 : qi 236 := by unfold qi; kernel_rfl
theorem inf237 : qi 237 := by unfold qi; kernel_rfl
theorem inf238 : qi 238 := by unfold qi; kernel_rfl
theorem inf239 : qi 239 := by unfold qi; kernel_rfl
theorem inf240 : qi 240 := by unfold qi; kernel_rfl
theorem inf241 : qi 241 := by unfold qi; kernel_rfl
theorem inf242 : qi 242 := by unfold qi; kernel_rfl
theorem inf243 : qi 243 := by unfold qi; kernel_rfl
theorem inf244 : qi 244 := by unfold qi; kernel_rfl
theorem inf245 : qi 245 := by unfold qi; kernel_rfl
theorem inf246 : qi 246 := by unfold qi; kernel_rfl
theorem inf247 : qi 247 := by unfold qi; kernel_rfl
theorem inf248 : qi 248 := by unfold qi; kernel_rfl
theorem inf249 : qi 249 := by unfold qi; kernel_rfl
theorem inf250 : qi 250 := by unfold qi; kernel_rfl
theorem inf251 : qi 251 := by unfold qi; kernel_rfl
theorem inf252 : qi 252 := by unfold qi; kernel_rfl
theorem inf253 : qi 253 := by unfold qi; kernel_rfl
theorem inf254 : qi 254 := by unfold qi; kernel_rfl
theorem inf255 : qi 255 := by unfold qi; kernel_rfl
theorem inf256 : qi 256 := by unfold qi; kernel_rfl
theorem inf257 : qi 257 := by unfold qi; kernel_rfl
theorem inf258 : qi 258 := by unfold qi; kernel_rfl
theorem inf259 : qi 259 := by unfold qi; kernel_rfl
theorem inf260 : qi 260 := by unfold qi; kernel_rfl
theorem inf261 : qi 261 := by unfold qi; kernel_rfl
theorem inf262 : qi 262 := by unfold qi; kernel_rfl
theorem inf263 : qi 263 := by unfold qi; kernel_rfl
theorem inf264 : qi 264 := by unfold qi; kernel_rfl
theorem inf265 : qi 265 := by unfold qi; kernel_rfl
theorem inf266 : qi 266 := by unfold qi; kernel_rfl
theorem inf267 : qi 267 := by unfold qi; kernel_rfl
theorem inf268 : qi 268 := by unfold qi; kernel_rfl
theorem inf269 : qi 269 := by unfold qi; kernel_rfl
theorem inf270 : qi 270 := by unfold qi; kernel_rfl
theorem inf271 : qi 271 := by unfold qi; kernel_rfl
theorem inf272 : qi 272 := by unfold qi; kernel_rfl
theorem inf273 : qi 273 := by unfold qi; kernel_rfl
theorem inf274 : qi 274 := by unfold qi; kernel_rfl
set_option maxRecDepth 1000000 in
instance env_ok : EnvOk Tryz.prog env where
 ty := ⟨⟨⟨⟨⟨⟨⟨⟨⟨trivial, Tryz.underlying0, trivial⟩, Tryz.underlying1, trivial⟩, Tryz.underlying2, ⟨trivial, Tryz.underlying3, trivial⟩⟩, Tryz.underlying4, ⟨⟨trivial, Tryz.underlying5, trivial⟩, Tryz.underlying6, ⟨trivial, Tryz.underlying7, trivial⟩⟩⟩, Tryz.underlying8, ⟨⟨⟨⟨trivial, Tryz.underlying9, trivial⟩, Tryz.underlying10, trivial⟩, Tryz.underlying11, ⟨trivial, Tryz.underlying12, trivial⟩⟩, Tryz.underlying13, ⟨⟨trivial, Tryz.underlying14, trivial⟩, Tryz.underlying15, ⟨trivial, Tryz.underlying16, trivial⟩⟩⟩⟩, Tryz.underlying17, ⟨⟨⟨⟨⟨trivial, Tryz.underlying18, trivial⟩, Tryz.underlying19, trivial⟩, Tryz.underlying20, ⟨trivial, Tryz.underlying21, trivial⟩⟩, Tryz.underlying22, ⟨⟨trivial, Tryz.underlying23, trivial⟩, Tryz.underlying24, ⟨trivial, Tryz.underlying25, trivial⟩⟩⟩, Tryz.underlying26, ⟨⟨⟨trivial, Tryz.underlying27, trivial⟩, Tryz.underlying28, ⟨trivial, Tryz.underlying29, trivial⟩⟩, Tryz.underlying30, ⟨⟨trivial, Tryz.underlying31, trivial⟩, Tryz.underlying32, ⟨trivial, Tryz.underlying33, trivial⟩⟩⟩⟩⟩, Tryz.underlying34, ⟨⟨⟨⟨⟨⟨trivial, Tryz.underlying35, trivial⟩, Tryz.underlying36, trivial⟩, Tryz.underlying37, ⟨trivial, Tryz.underlying38, trivial⟩⟩, Tryz.underlying39, ⟨⟨trivial, Tryz.underlying40, trivial⟩, Tryz.underlying41, ⟨trivial, Tryz.underlying42, trivial⟩⟩⟩, Tryz.underlying43, ⟨⟨⟨trivial, Tryz.underlying44, trivial⟩, Tryz.underlying45, ⟨trivial, Tryz.underlying46, trivial⟩⟩, Tryz.underlying47, ⟨⟨trivial, Tryz.underlying48, trivial⟩, Tryz.underlying49, ⟨trivial, Tryz.underlying50, trivial⟩⟩⟩⟩, Tryz.underlying51, ⟨⟨⟨⟨⟨trivial, Tryz.underlying52, trivial⟩, Tryz.underlying53, trivial⟩, Tryz.underlying54, ⟨trivial, Tryz.underlying55, trivial⟩⟩, Tryz.underlying56, ⟨⟨trivial, Tryz.underlying57, trivial⟩, Tryz.underlying58, ⟨trivial, Tryz.underlying59, trivial⟩⟩⟩, Tryz.underlying60, ⟨⟨⟨trivial, Tryz.underlying61, trivial⟩, Tryz.underlying62, ⟨trivial, Tryz.underlying63, trivial⟩⟩, Tryz.underlying64, ⟨⟨trivial, Tryz.underlying65, trivial⟩, Tryz.underlying66, ⟨trivial, Tryz.underlying67, trivial⟩⟩⟩⟩⟩⟩, Tryz.underlying68, ⟨⟨⟨⟨⟨⟨⟨trivial, Tryz.underlying69, trivial⟩, Tryz.underlying70, trivial⟩, Tryz.underlying71, ⟨trivial, Tryz.underlying72, trivial⟩⟩, Tryz.underlying73, ⟨⟨trivial, Tryz.underlying74, trivial⟩, Tryz.underlying75, ⟨trivial, Tryz.underlying76, trivial⟩⟩⟩, Tryz.underlying77, ⟨⟨⟨⟨trivial, Tryz.underlying78, trivial⟩, Tryz.underlying79, trivial⟩, Tryz.underlying80, ⟨trivial, Tryz.underlying81, trivial⟩⟩, Tryz.underlying82, ⟨⟨trivial, Tryz.underlying83, trivial⟩, Tryz.underlying84, ⟨trivial, Tryz.underlying85, trivial⟩⟩⟩⟩, Tryz.underlying86, ⟨⟨⟨⟨⟨trivial, Tryz.underlying87, trivial⟩, Tryz.underlying88, trivial⟩, Tryz.underlying89, ⟨trivial, Tryz.underlying90, trivial⟩⟩, Tryz.underlying91, ⟨⟨trivial, Tryz.underlying92, trivial⟩, Tryz.underlying93, ⟨trivial, Tryz.underlying94, trivial⟩⟩⟩, Tryz.underlying95, ⟨⟨⟨trivial, Tryz.underlying96, trivial⟩, Tryz.underlying97, ⟨trivial, Tryz.underlying98, trivial⟩⟩, Tryz.underlying99, ⟨⟨trivial, Tryz.underlying100, trivial⟩, Tryz.underlying101, ⟨trivial, Tryz.underlying102, trivial⟩⟩⟩⟩⟩, Tryz.underlying103, ⟨⟨⟨⟨⟨⟨trivial, Tryz.underlying104, trivial⟩, Tryz.underlying105, trivial⟩, Tryz.underlying106, ⟨trivial, Tryz.underlying107, trivial⟩⟩, Tryz.underlying108, ⟨⟨trivial, Tryz.underlying109, trivial⟩, Tryz.underlying110, ⟨trivial, Tryz.underlying111, trivial⟩⟩⟩, Tryz.underlying112, ⟨⟨⟨trivial, Tryz.underlying113, trivial⟩, Tryz.underlying114, ⟨trivial, Tryz.underlying115, trivial⟩⟩, Tryz.underlying116, ⟨⟨trivial, Tryz.underlying117, trivial⟩, Tryz.underlying118, ⟨trivial, Tryz.underlying119, trivial⟩⟩⟩⟩, Tryz.underlying120, ⟨⟨⟨⟨⟨trivial, Tryz.underlying121, trivial⟩, Tryz.underlying122, trivial⟩, Tryz.underlying123, ⟨trivial, Tryz.underlying124, trivial⟩⟩, Tryz.underlying125, ⟨⟨trivial, Tryz.underlying126, trivial⟩, Tryz.underlying127, ⟨trivial, Tryz.underlying128, trivial⟩⟩⟩, Tryz.underlying129, ⟨⟨⟨trivial, Tryz.underlying130, trivial⟩, Tryz.underlying131, ⟨trivial, Tryz.underlying132, trivial⟩⟩, Tryz.underlying133, ⟨⟨trivial, Tryz.underlying134, trivial⟩, Tryz.underlying135, ⟨trivial, Tryz.underlying136, trivial⟩⟩⟩⟩⟩⟩⟩, Tryz.underlying137, ⟨⟨⟨⟨⟨⟨⟨⟨trivial, Tryz.underlying138, trivial⟩, Tryz.underlying139, trivial⟩, Tryz.underlying140, ⟨trivial, Tryz.underlying141, trivial⟩⟩, Tryz.underlying142, ⟨⟨trivial, Tryz.underlying143, trivial⟩, Tryz.underlying144, ⟨trivial, Tryz.underlying145, trivial⟩⟩⟩, Tryz.underlying146, ⟨⟨⟨⟨trivial, Tryz.underlying147, trivial⟩, Tryz.underlying148, trivial⟩, Tryz.underlying149, ⟨trivial, Tryz.underlying150, trivial⟩⟩, Tryz.underlying151, ⟨⟨trivial, Tryz.underlying152, trivial⟩, Tryz.underlying153, ⟨trivial, Tryz.underlying154, trivial⟩⟩⟩⟩, Tryz.underlying155, ⟨⟨⟨⟨⟨trivial, Tryz.underlying156, trivial⟩, Tryz.underlying157, trivial⟩, Tryz.underlying158, ⟨trivial, Tryz.underlying159, trivial⟩⟩, Tryz.underlying160, ⟨⟨trivial, Tryz.underlying161, trivial⟩, Tryz.underlying162, ⟨trivial, Tryz.underlying163, trivial⟩⟩⟩, Tryz.underlying164, ⟨⟨⟨trivial, Tryz.underlying165, trivial⟩, Tryz.underlying166, ⟨trivial, Tryz.underlying167, trivial⟩⟩, Tryz.underlying168, ⟨⟨trivial, Tryz.underlying169, trivial⟩, Tryz.underlying170, ⟨trivial, Tryz.underlying171, trivial⟩⟩⟩⟩⟩, Tryz.underlying172, ⟨⟨⟨⟨⟨⟨trivial, Tryz.underlying173, trivial⟩, Tryz.underlying174, trivial⟩, Tryz.underlying175, ⟨trivial, Tryz.underlying176, trivial⟩⟩, Tryz.underlying177, ⟨⟨trivial, Tryz.underlying178, trivial⟩, Tryz.underlying179, ⟨trivial, Tryz.underlying180, trivial⟩⟩⟩, Tryz.underlying181, ⟨⟨⟨trivial, Tryz.underlying182, trivial⟩, Tryz.underlying183, ⟨trivial, Tryz.underlying184, trivial⟩⟩, Tryz.underlying185, ⟨⟨trivial, Tryz.underlying186, trivial⟩, Tryz.underlying187, ⟨trivial, Tryz.underlying188, trivial⟩⟩⟩⟩, Tryz.underlying189, ⟨⟨⟨⟨⟨trivial, Tryz.underlying190, trivial⟩, Tryz.underlying191, trivial⟩, Tryz.underlying192, ⟨trivial, Tryz.underlying193, trivial⟩⟩, Tryz.underlying194, ⟨⟨trivial, Tryz.underlying195, trivial⟩, Tryz.underlying196, ⟨trivial, Tryz.underlying197, trivial⟩⟩⟩, Tryz.underlying198, ⟨⟨⟨trivial, Tryz.underlying199, trivial⟩, Tryz.underlying200, ⟨trivial, Tryz.underlying201, trivial⟩⟩, Tryz.underlying202, ⟨⟨trivial, Tryz.underlying203, trivial⟩, Tryz.underlying204, ⟨trivial, Tryz.underlying205, trivial⟩⟩⟩⟩⟩⟩, Tryz.underlying206, ⟨⟨⟨⟨⟨⟨⟨trivial, Tryz.underlying207, trivial⟩, Tryz.underlying208, trivial⟩, Tryz.underlying209, ⟨trivial, Tryz.underlying210, trivial⟩⟩, Tryz.underlying211, ⟨⟨trivial, Tryz.underlying212, trivial⟩, Tryz.underlying213, ⟨trivial, Tryz.underlying214, trivial⟩⟩⟩, Tryz.underlying215, ⟨⟨⟨⟨trivial, Tryz.underlying216, trivial⟩, Tryz.underlying217, trivial⟩, Tryz.underlying218, ⟨trivial, Tryz.underlying219, trivial⟩⟩, Tryz.underlying220, ⟨⟨trivial, Tryz.underlying221, trivial⟩, Tryz.underlying222, ⟨trivial, Tryz.underlying223, trivial⟩⟩⟩⟩, Tryz.underlying224, ⟨⟨⟨⟨⟨trivial, Tryz.underlying225, trivial⟩, Tryz.underlying226, trivial⟩, Tryz.underlying227, ⟨trivial, Tryz.underlying228, trivial⟩⟩, Tryz.underlying229, ⟨⟨trivial, Tryz.underlying230, trivial⟩, Tryz.underlying231, ⟨trivial, Tryz.underlying232, trivial⟩⟩⟩, Tryz.underlying233, ⟨⟨⟨trivial, Tryz.underlying234, trivial⟩, Tryz.underlying235, ⟨trivial, Tryz.underlying236, trivial⟩⟩, Tryz.underlying237, ⟨⟨trivial, Tryz.underlying238, trivial⟩, Tryz.underlying239, ⟨trivial, Tryz.underlying240, trivial⟩⟩⟩⟩⟩, Tryz.underlying241, ⟨⟨⟨⟨⟨⟨trivial, Tryz.underlying242, trivial⟩, Tryz.underlying243, trivial⟩, Tryz.underlying244, ⟨trivial, Tryz.underlying245, trivial⟩⟩, Tryz.underlying246, ⟨⟨trivial, Tryz.underlying247, trivial⟩, Tryz.underlying248, ⟨trivial, Tryz.underlying249, trivial⟩⟩⟩, Tryz.underlying250, ⟨⟨⟨trivial, Tryz.underlying251, trivial⟩, Tryz.underlying252, ⟨trivial, Tryz.underlying253, trivial⟩⟩, Tryz.underlying254, ⟨⟨trivial, Tryz.underlying255, trivial⟩, Tryz.underlying256, ⟨trivial, Tryz.underlying257, trivial⟩⟩⟩⟩, Tryz.underlying258, ⟨⟨⟨⟨⟨trivial, Tryz.underlying259, trivial⟩, Tryz.underlying260, trivial⟩, Tryz.underlying261, ⟨trivial, Tryz.underlying262, trivial⟩⟩, Tryz.underlying263, ⟨⟨trivial, Tryz.underlying264, trivial⟩, Tryz.underlying265, ⟨trivial, Tryz.underlying266, trivial⟩⟩⟩, Tryz.underlying267, ⟨⟨⟨trivial, Tryz.underlying268, trivial⟩, Tryz.underlying269, ⟨trivial, Tryz.underlying270, trivial⟩⟩, Tryz.underlying271, ⟨⟨trivial, Tryz.underlying272, trivial⟩, Tryz.underlying273, ⟨trivial, Tryz.underlying274, trivial⟩⟩⟩⟩⟩⟩⟩⟩
 inf := ⟨⟨⟨⟨⟨⟨⟨⟨⟨trivial, inf0, trivial⟩, inf1, trivial⟩, inf2, ⟨trivial, inf3, trivial⟩⟩, inf4, ⟨⟨trivial, inf5, trivial⟩, inf6, ⟨trivial, inf7, trivial⟩⟩⟩, inf8, ⟨⟨⟨⟨trivial, inf9, trivial⟩, inf10, trivial⟩, inf11, ⟨trivial, inf12, trivial⟩⟩, inf13, ⟨⟨trivial, inf14, trivial⟩, inf15, ⟨trivial, inf16, trivial⟩⟩⟩⟩, inf17, ⟨⟨⟨⟨⟨trivial, inf18, trivial⟩, inf19, trivial⟩, inf20, ⟨trivial, inf21, trivial⟩⟩, inf22, ⟨⟨trivial, inf23, trivial⟩, inf24, ⟨trivial, inf25, trivial⟩⟩⟩, inf26, ⟨⟨⟨trivial, inf27, trivial⟩, inf28, ⟨trivial, inf29, trivial⟩⟩, inf30, ⟨⟨trivial, inf31, trivial⟩, inf32, ⟨trivial, inf33, trivial⟩⟩⟩⟩⟩, inf34, ⟨⟨⟨⟨⟨⟨trivial, inf35, trivial⟩, inf36, trivial⟩, inf37, ⟨trivial, inf38, trivial⟩⟩, inf39, ⟨⟨trivial, inf40, trivial⟩, inf41, ⟨trivial, inf42, trivial⟩⟩⟩, inf43, ⟨⟨⟨trivial, inf44, trivial⟩, inf45, ⟨trivial, inf46, trivial⟩⟩, inf47, ⟨⟨trivial, inf48, trivial⟩, inf49, ⟨trivial, inf50, trivial⟩⟩⟩⟩, inf51, ⟨⟨⟨⟨⟨trivial, inf52, trivial⟩, inf53, trivial⟩, inf54, ⟨trivial, inf55, trivial⟩⟩, inf56, ⟨⟨trivial, inf57, trivial⟩, inf58, ⟨trivial, inf59, trivial⟩⟩⟩, inf60, ⟨⟨⟨trivial, inf61, trivial⟩, inf62, ⟨trivial, inf63, trivial⟩⟩, inf64, ⟨⟨trivial, inf65, trivial⟩, inf66, ⟨trivial, inf67, trivial⟩⟩⟩⟩⟩⟩, inf68, ⟨⟨⟨⟨⟨⟨⟨trivial, inf69, trivial⟩, inf70, trivial⟩, inf71, ⟨trivial, inf72, trivial⟩⟩, inf73, ⟨⟨trivial, inf74, trivial⟩, inf75, ⟨trivial, inf76, trivial⟩⟩⟩, inf77, ⟨⟨⟨⟨trivial, inf78, trivial⟩, inf79, trivial⟩, inf80, ⟨trivial, inf81, trivial⟩⟩, inf82, ⟨⟨trivial, inf83, trivial⟩, inf84, ⟨trivial, inf85, trivial⟩⟩⟩⟩, inf86, ⟨⟨⟨⟨⟨trivial, inf87, trivial⟩, inf88, trivial⟩, inf89, ⟨trivial, inf90, trivial⟩⟩, inf91, ⟨⟨trivial, inf92, trivial⟩, inf93, ⟨trivial, inf94, trivial⟩⟩⟩, inf95, ⟨⟨⟨trivial, inf96, trivial⟩, inf97, ⟨trivial, inf98, trivial⟩⟩, inf99, ⟨⟨trivial, inf100, trivial⟩, inf101, ⟨trivial, inf102, trivial⟩⟩⟩⟩⟩, inf103, ⟨⟨⟨⟨⟨⟨trivial, inf104, trivial⟩, inf105, trivial⟩, inf106, ⟨trivial, inf107, trivial⟩⟩, inf108, ⟨⟨trivial, inf109, trivial⟩, inf110, ⟨trivial, inf111, trivial⟩⟩⟩, inf112, ⟨⟨⟨trivial, inf113, trivial⟩, inf114, ⟨trivial, inf115, trivial⟩⟩, inf116, ⟨⟨trivial, inf117, trivial⟩, inf118, ⟨trivial, inf119, trivial⟩⟩⟩⟩, inf120, ⟨⟨⟨⟨⟨trivial, inf121, trivial⟩, inf122, trivial⟩, inf123, ⟨trivial, inf124, trivial⟩⟩, inf125, ⟨⟨trivial, inf126, trivial⟩, inf127, ⟨trivial, inf128, trivial⟩⟩⟩, inf129, ⟨⟨⟨trivial, inf130, trivial⟩, inf131, ⟨trivial, inf132, trivial⟩⟩, inf133, ⟨⟨trivial, inf134, trivial⟩, inf135, ⟨trivial, inf136, trivial⟩⟩⟩⟩⟩⟩⟩, inf137, ⟨⟨⟨⟨⟨⟨⟨⟨trivial, inf138, trivial⟩, inf139, trivial⟩, inf140, ⟨trivial, inf141, trivial⟩⟩, inf142, ⟨⟨trivial, inf143, trivial⟩, inf144, ⟨trivial, inf145, trivial⟩⟩⟩, inf146, ⟨⟨⟨⟨trivial, inf147, trivial⟩, inf148, trivial⟩, inf149, ⟨trivial, inf150, trivial⟩⟩, inf151, ⟨⟨trivial, inf152, trivial⟩, inf153, ⟨trivial, inf154, trivial⟩⟩⟩⟩, inf155, ⟨⟨⟨⟨⟨trivial, inf156, trivial⟩, inf157, trivial⟩, inf158, ⟨trivial, inf159, trivial⟩⟩, inf160, ⟨⟨trivial, inf161, trivial⟩, inf162, ⟨trivial, inf163, trivial⟩⟩⟩, inf164, ⟨⟨⟨trivial, inf165, trivial⟩, inf166, ⟨trivial, inf167, trivial⟩⟩, inf168, ⟨⟨trivial, inf169, trivial⟩, inf170, ⟨trivial, inf171, trivial⟩⟩⟩⟩⟩, inf172, ⟨⟨⟨⟨⟨⟨trivial, inf173, trivial⟩, inf174, trivial⟩, inf175, ⟨trivial, inf176, trivial⟩⟩, inf177, ⟨⟨trivial, inf178, trivial⟩, inf179, ⟨trivial, inf180, trivial⟩⟩⟩, inf181, ⟨⟨⟨trivial, inf182, trivial⟩, inf183, ⟨trivial, inf184, trivial⟩⟩, inf185, ⟨⟨trivial, inf186, trivial⟩, inf187, ⟨trivial, inf188, trivial⟩⟩⟩⟩, inf189, ⟨⟨⟨⟨⟨trivial, inf190, trivial⟩, inf191, trivial⟩, inf192, ⟨trivial, inf193, trivial⟩⟩, inf194, ⟨⟨trivial, inf195, trivial⟩, inf196, ⟨trivial, inf197, trivial⟩⟩⟩, inf198, ⟨⟨⟨trivial, inf199, trivial⟩, inf200, ⟨trivial, inf201, trivial⟩⟩, inf202, ⟨⟨trivial, inf203, trivial⟩, inf204, ⟨trivial, inf205, trivial⟩⟩⟩⟩⟩⟩, inf206, ⟨⟨⟨⟨⟨⟨⟨trivial, inf207, trivial⟩, inf208, trivial⟩, inf209, ⟨trivial, inf210, trivial⟩⟩, inf211, ⟨⟨trivial, inf212, trivial⟩, inf213, ⟨trivial, inf214, trivial⟩⟩⟩, inf215, ⟨⟨⟨⟨trivial, inf216, trivial⟩, inf217, trivial⟩, inf218, ⟨trivial, inf219, trivial⟩⟩, inf220, ⟨⟨trivial, inf221, trivial⟩, inf222, ⟨trivial, inf223, trivial⟩⟩⟩⟩, inf224, ⟨⟨⟨⟨⟨trivial, inf225, trivial⟩, inf226, trivial⟩, inf227, ⟨trivial, inf228, trivial⟩⟩, inf229, ⟨⟨trivial, inf230, trivial⟩, inf231, ⟨trivial, inf232, trivial⟩⟩⟩, inf233, ⟨⟨⟨trivial, inf234, trivial⟩, inf235, ⟨trivial, inf236, trivial⟩⟩, inf237, ⟨⟨trivial, inf238, trivial⟩, inf239, ⟨trivial, inf240, trivial⟩⟩⟩⟩⟩, inf241, ⟨⟨⟨⟨⟨⟨trivial, inf242, trivial⟩, inf243, trivial⟩, inf244, ⟨trivial, inf245, trivial⟩⟩, inf246, ⟨⟨trivial, inf247, trivial⟩, inf248, ⟨trivial, inf249, trivial⟩⟩⟩, inf250, ⟨⟨⟨trivial, inf251, trivial⟩, inf252, ⟨trivial, inf253, trivial⟩⟩, inf254, ⟨⟨trivial, inf255, trivial⟩, inf256, ⟨trivial, inf257, trivial⟩⟩⟩⟩, inf258, ⟨⟨⟨⟨⟨trivial, inf259, trivial⟩, inf260, trivial⟩, inf261, ⟨trivial, inf262, trivial⟩⟩, inf263, ⟨⟨trivial, inf264, trivial⟩, inf265, ⟨trivial, inf266, trivial⟩⟩⟩, inf267, ⟨⟨⟨trivial, inf268, trivial⟩, inf269, ⟨trivial, inf270, trivial⟩⟩, inf271, ⟨⟨trivial, inf272, trivial⟩, inf273, ⟨trivial, inf274, trivial⟩⟩⟩⟩⟩⟩⟩⟩
 mixed := by kernel_rfl
instance c4 : Callable Tryz.prog 4 := ⟨_, Tryz.func4, by kernel_rfl, by kernel_rfl⟩
instance c5 : Callable Tryz.prog 5 := ⟨_, Tryz.func5, by kernel_rfl, by kernel_rfl⟩
instance c6 : Callable Tryz.prog 6 := ⟨_, Tryz.func6, by kernel_rfl, by kernel_rfl⟩
instance c8 : Callable Tryz.prog 8 := ⟨_, Tryz.func8, by kernel_rfl, by kernel_rfl⟩
instance c9 : Callable Tryz.prog 9 := ⟨_, Tryz.func9, by kernel_rfl, by kernel_rfl⟩
instance c10 : Callable Tryz.prog 10 := ⟨_, Tryz.func10, by kernel_rfl, by kernel_rfl⟩
instance c11 : Callable Tryz.prog 11 := ⟨_, Tryz.func11, by kernel_rfl, by kernel_rfl⟩
instance c12 : Callable Tryz.prog 12 := ⟨_, Tryz.func12, by kernel_rfl, by kernel_rfl⟩
instance c13 : Callable Tryz.prog 13 := ⟨_, Tryz.func13, by kernel_rfl, by kernel_rfl⟩
instance c14 : Callable Tryz.prog 14 := ⟨_, Tryz.func14, by kernel_rfl, by kernel_rfl⟩
instance c15 : Callable Tryz.prog 15 := ⟨_, Tryz.func15, by kernel_rfl, by kernel_rfl⟩
instance c16 : Callable Tryz.prog 16 := ⟨_, Tryz.func16, by kernel_rfl, by kernel_rfl⟩
instance c17 : Callable Tryz.prog 17 := ⟨_, Tryz.func17, by kernel_rfl, by kernel_rfl⟩
instance c18 : Callable Tryz.prog 18 := ⟨_, Tryz.func18, by kernel_rfl, by kernel_rfl⟩
instance c19 : Callable Tryz.prog 19 := ⟨_, Tryz.func19, by kernel_rfl, by kernel_rfl⟩
instance c20 : Callable Tryz.prog 20 := ⟨_, Tryz.func20, by kernel_rfl, by kernel_rfl⟩
instance c21 : Callable Tryz.prog 21 := ⟨_, Tryz.func21, by kernel_rfl, by kernel_rfl⟩
instance c22 : Callable Tryz.prog 22 := ⟨_, Tryz.func22, by kernel_rfl, by kernel_rfl⟩
instance c23 : Callable Tryz.prog 23 := ⟨_, Tryz.func23, by kernel_rfl, by kernel_rfl⟩
instance c24 : Callable Tryz.prog 24 := ⟨_, Tryz.func24, by kernel_rfl, by kernel_rfl⟩
instance c25 : Callable Tryz.prog 25 := ⟨_, Tryz.func25, by kernel_rfl, by kernel_rfl⟩
instance c26 : Callable Tryz.prog 26 := ⟨_, Tryz.func26, by kernel_rfl, by kernel_rfl⟩
instance c27 : Callable Tryz.prog 27 := ⟨_, Tryz.func27, by kernel_rfl, by kernel_rfl⟩
instance c28 : Callable Tryz.prog 28 := ⟨_, Tryz.func28, by kernel_rfl, by kernel_rfl⟩
instance c29 : Callable Tryz.prog 29 := ⟨_, Tryz.func29, by kernel_rfl, by kernel_rfl⟩
instance c30 : Callable Tryz.prog 30 := ⟨_, Tryz.func30, by kernel_rfl, by kernel_rfl⟩
instance c31 : Callable Tryz.prog 31 := ⟨_, Tryz.func31, by kernel_rfl, by kernel_rfl⟩
instance c32 : Callable Tryz.prog 32 := ⟨_, Tryz.func32, by kernel_rfl, by kernel_rfl⟩
instance c33 : Callable Tryz.prog 33 := ⟨_, Tryz.func33, by kernel_rfl, by kernel_rfl⟩
instance c34 : Callable Tryz.prog 34 := ⟨_, Tryz.func34, by kernel_rfl, by kernel_rfl⟩
instance c35 : Callable Tryz.prog 35 := ⟨_, Tryz.func35, by kernel_rfl, by kernel_rfl⟩
instance c36 : Callable Tryz.prog 36 := ⟨_, Tryz.func36, by kernel_rfl, by kernel_rfl⟩
instance c37 : Callable Tryz.prog 37 := ⟨_, Tryz.func37, by kernel_rfl, by kernel_rfl⟩
instance c38 : Callable Tryz.prog 38 := ⟨_, Tryz.func38, by kernel_rfl, by kernel_rfl⟩
instance c39 : Callable Tryz.prog 39 := ⟨_, Tryz.func39, by kernel_rfl, by kernel_rfl⟩
instance c40 : Callable Tryz.prog 40 := ⟨_, Tryz.func40, by kernel_rfl, by kernel_rfl⟩
instance c41 : Callable Tryz.prog 41 := ⟨_, Tryz.func41, by kernel_rfl, by kernel_rfl⟩
instance c42 : Callable Tryz.prog 42 := ⟨_, Tryz.func42, by kernel_rfl, by kernel_rfl⟩
instance c43 : Callable Tryz.prog 43 := ⟨_, Tryz.func43, by kernel_rfl, by kernel_rfl⟩
instance c44 : Callable Tryz.prog 44 := ⟨_, Tryz.func44, by kernel_rfl, by kernel_rfl⟩
instance c45 : Callable Tryz.prog 45 := ⟨_, Tryz.func45, by kernel_rfl, by kernel_rfl⟩
instance c46 : Callable Tryz.prog 46 := ⟨_, Tryz.func46, by kernel_rfl, by kernel_rfl⟩
instance c47 : Callable Tryz.prog 47 := ⟨_, Tryz.func47, by kernel_rfl, by kernel_rfl⟩
instance c48 : Callable Tryz.prog 48 := ⟨_, Tryz.func48, by kernel_rfl, by kernel_rfl⟩
instance c49 : Callable Tryz.prog 49 := ⟨_, Tryz.func49, by kernel_rfl, by kernel_rfl⟩
instance c50 : Callable Tryz.prog 50 := ⟨_, Tryz.func50, by kernel_rfl, by kernel_rfl⟩
instance c51 : Callable Tryz.prog 51 := ⟨_, Tryz.func51, by kernel_rfl, by kernel_rfl⟩
instance c52 : Callable Tryz.prog 52 := ⟨_, Tryz.func52, by kernel_rfl, by kernel_rfl⟩
instance c53 : Callable Tryz.prog 53 := ⟨_, Tryz.func53, by kernel_rfl, by kernel_rfl⟩
instance c54 : Callable Tryz.prog 54 := ⟨_, Tryz.func54, by kernel_rfl, by kernel_rfl⟩
instance c55 : Callable Tryz.prog 55 := ⟨_, Tryz.func55, by kernel_rfl, by kernel_rfl⟩
instance c56 : Callable Tryz.prog 56 := ⟨_, Tryz.func56, by kernel_rfl, by kernel_rfl⟩
instance c57 : Callable Tryz.prog 57 := ⟨_, Tryz.func57, by kernel_rfl, by kernel_rfl⟩
instance c58 : Callable Tryz.prog 58 := ⟨_, Tryz.func58, by kernel_rfl, by kernel_rfl⟩
instance c59 : Callable Tryz.prog 59 := ⟨_, Tryz.func59, by kernel_rfl, by kernel_rfl⟩
instance c60 : Callable Tryz.prog 60 := ⟨_, Tryz.func60, by kernel_rfl, by kernel_rfl⟩
instance c61 : Callable Tryz.prog 61 := ⟨_, Tryz.func61, by kernel_rfl, by kernel_rfl⟩
instance c62 : Callable Tryz.prog 62 := ⟨_, Tryz.func62, by kernel_rfl, by kernel_rfl⟩
instance c63 : Callable Tryz.prog 63 := ⟨_, Tryz.func63, by kernel_rfl, by kernel_rfl⟩
instance c64 : Callable Tryz.prog 64 := ⟨_, Tryz.func64, by kernel_rfl, by kernel_rfl⟩
instance c65 : Callable Tryz.prog 65 := ⟨_, Tryz.func65, by kernel_rfl, by kernel_rfl⟩
instance c66 : Callable Tryz.prog 66 := ⟨_, Tryz.func66, by kernel_rfl, by kernel_rfl⟩
instance c67 : Callable Tryz.prog 67 := ⟨_, Tryz.func67, by kernel_rfl, by kernel_rfl⟩
instance c68 : Callable Tryz.prog 68 := ⟨_, Tryz.func68, by kernel_rfl, by kernel_rfl⟩
instance c69 : Callable Tryz.prog 69 := ⟨_, Tryz.func69, by kernel_rfl, by kernel_rfl⟩
instance c70 : Callable Tryz.prog 70 := ⟨_, Tryz.func70, by kernel_rfl, by kernel_rfl⟩
instance c71 : Callable Tryz.prog 71 := ⟨_, Tryz.func71, by kernel_rfl, by kernel_rfl⟩
instance c72 : Callable Tryz.prog 72 := ⟨_, Tryz.func72, by kernel_rfl, by kernel_rfl⟩
instance c73 : Callable Tryz.prog 73 := ⟨_, Tryz.func73, by kernel_rfl, by kernel_rfl⟩
instance c74 : Callable Tryz.prog 74 := ⟨_, Tryz.func74, by kernel_rfl, by kernel_rfl⟩
instance c75 : Callable Tryz.prog 75 := ⟨_, Tryz.func75, by kernel_rfl, by kernel_rfl⟩
instance c76 : Callable Tryz.prog 76 := ⟨_, Tryz.func76, by kernel_rfl, by kernel_rfl⟩
instance c77 : Callable Tryz.prog 77 := ⟨_, Tryz.func77, by kernel_rfl, by kernel_rfl⟩
instance c78 : Callable Tryz.prog 78 := ⟨_, Tryz.func78, by kernel_rfl, by kernel_rfl⟩
instance c79 : Callable Tryz.prog 79 := ⟨_, Tryz.func79, by kernel_rfl, by kernel_rfl⟩
instance c80 : Callable Tryz.prog 80 := ⟨_, Tryz.func80, by kernel_rfl, by kernel_rfl⟩
instance c83 : Callable Tryz.prog 83 := ⟨_, Tryz.func83, by kernel_rfl, by kernel_rfl⟩
instance c85 : Callable Tryz.prog 85 := ⟨_, Tryz.func85, by kernel_rfl, by kernel_rfl⟩
instance c86 : Callable Tryz.prog 86 := ⟨_, Tryz.func86, by kernel_rfl, by kernel_rfl⟩
instance c87 : Callable Tryz.prog 87 := ⟨_, Tryz.func87, by kernel_rfl, by kernel_rfl⟩
instance c88 : Callable Tryz.prog 88 := ⟨_, Tryz.func88, by kernel_rfl, by kernel_rfl⟩
instance c89 : Callable Tryz.prog 89 := ⟨_, Tryz.func89, by kernel_rfl, by kernel_rfl⟩
instance c90 : Callable Tryz.prog 90 := ⟨_, Tryz.func90, by kernel_rfl, by kernel_rfl⟩
instance c91 : Callable Tryz.prog 91 := ⟨_, Tryz.func91, by kernel_rfl, by kernel_rfl⟩
instance c92 : Callable Tryz.prog 92 := ⟨_, Tryz.func92, by kernel_rfl, by kernel_rfl⟩
instance c93 : Callable Tryz.prog 93 := ⟨_, Tryz.func93, by kernel_rfl, by kernel_rfl⟩
instance c94 : Callable Tryz.prog 94 := ⟨_, Tryz.func94, by kernel_rfl, by kernel_rfl⟩
instance c95 : Callable Tryz.prog 95 := ⟨_, Tryz.func95, by kernel_rfl, by kernel_rfl⟩
instance c96 : Callable Tryz.prog 96 := ⟨_, Tryz.func96, by kernel_rfl, by kernel_rfl⟩
instance c97 : Callable Tryz.prog 97 := ⟨_, Tryz.func97, by kernel_rfl, by kernel_rfl⟩
instance c98 : Callable Tryz.prog 98 := ⟨_, Tryz.func98, by kernel_rfl, by kernel_rfl⟩
instance c99 : Callable Tryz.prog 99 := ⟨_, Tryz.func99, by kernel_rfl, by kernel_rfl⟩
instance c100 : Callable Tryz.prog 100 := ⟨_, Tryz.func100, by kernel_rfl, by kernel_rfl⟩
instance c101 : Callable Tryz.prog 101 := ⟨_, Tryz.func101, by kernel_rfl, by kernel_rfl⟩
instance c102 : Callable Tryz.prog 102 := ⟨_, Tryz.func102, by kernel_rfl, by kernel_rfl⟩
instance c103 : Callable Tryz.prog 103 := ⟨_, Tryz.func103, by kernel_rfl, by kernel_rfl⟩
instance c104 : Callable Tryz.prog 104 := ⟨_, Tryz.func104, by kernel_rfl, by kernel_rfl⟩
instance c105 : Callable Tryz.prog 105 := ⟨_, Tryz.func105, by kernel_rfl, by kernel_rfl⟩
instance c106 : Callable Tryz.prog 106 := ⟨_, Tryz.func106, by kernel_rfl, by kernel_rfl⟩
instance c107 : Callable Tryz.prog 107 := ⟨_, Tryz.func107, by kernel_rfl, by kernel_rfl⟩
instance c108 : Callable Tryz.prog 108 := ⟨_, Tryz.func108, by kernel_rfl, by kernel_rfl⟩
instance c109 : Callable Tryz.prog 109 := ⟨_, Tryz.func109, by kernel_rfl, by kernel_rfl⟩
instance c114 : Callable Tryz.prog 114 := ⟨_, Tryz.func114, by kernel_rfl, by kernel_rfl⟩
instance c115 : Callable Tryz.prog 115 := ⟨_, Tryz.func115, by kernel_rfl, by kernel_rfl⟩
instance c118 : Callable Tryz.prog 118 := ⟨_, Tryz.func118, by kernel_rfl, by kernel_rfl⟩
instance c119 : Callable Tryz.prog 119 := ⟨_, Tryz.func119, by kernel_rfl, by kernel_rfl⟩
instance c120 : Callable Tryz.prog 120 := ⟨_, Tryz.func120, by kernel_rfl, by kernel_rfl⟩
instance c121 : Callable Tryz.prog 121 := ⟨_, Tryz.func121, by kernel_rfl, by kernel_rfl⟩
instance c122 : Callable Tryz.prog 122 := ⟨_, Tryz.func122, by kernel_rfl, by kernel_rfl⟩
instance c123 : Callable Tryz.prog 123 := ⟨_, Tryz.func123, by kernel_rfl, by kernel_rfl⟩
instance c124 : Callable Tryz.prog 124 := ⟨_, Tryz.func124, by kernel_rfl, by kernel_rfl⟩
instance c125 : Callable Tryz.prog 125 := ⟨_, Tryz.func125, by kernel_rfl, by kernel_rfl⟩
instance c126 : Callable Tryz.prog 126 := ⟨_, Tryz.func126, by kernel_rfl, by kernel_rfl⟩
instance c127 : Callable Tryz.prog 127 := ⟨_, Tryz.func127, by kernel_rfl, by kernel_rfl⟩
instance c128 : Callable Tryz.prog 128 := ⟨_, Tryz.func128, by kernel_rfl, by kernel_rfl⟩
instance c129 : Callable Tryz.prog 129 := ⟨_, Tryz.func129, by kernel_rfl, by kernel_rfl⟩
instance c130 : Callable Tryz.prog 130 := ⟨_, Tryz.func130, by kernel_rfl, by kernel_rfl⟩
instance c131 : Callable Tryz.prog 131 := ⟨_, Tryz.func131, by kernel_rfl, by kernel_rfl⟩
instance c132 : Callable Tryz.prog 132 := ⟨_, Tryz.func132, by kernel_rfl, by kernel_rfl⟩
instance c133 : Callable Tryz.prog 133 := ⟨_, Tryz.func133, by kernel_rfl, by kernel_rfl⟩
instance c134 : Callable Tryz.prog 134 := ⟨_, Tryz.func134, by kernel_rfl, by kernel_rfl⟩
instance c136 : Callable Tryz.prog 136 := ⟨_, Tryz.func136, by kernel_rfl, by kernel_rfl⟩
instance c137 : Callable Tryz.prog 137 := ⟨_, Tryz.func137, by kernel_rfl, by kernel_rfl⟩
instance c138 : Callable Tryz.prog 138 := ⟨_, Tryz.func138, by kernel_rfl, by kernel_rfl⟩
instance c139 : Callable Tryz.prog 139 := ⟨_, Tryz.func139, by kernel_rfl, by kernel_rfl⟩
instance c140 : Callable Tryz.prog 140 := ⟨_, Tryz.func140, by kernel_rfl, by kernel_rfl⟩
instance c141 : Callable Tryz.prog 141 := ⟨_, Tryz.func141, by kernel_rfl, by kernel_rfl⟩
instance c142 : Callable Tryz.prog 142 := ⟨_, Tryz.func142, by kernel_rfl, by kernel_rfl⟩
instance c143 : Callable Tryz.prog 143 := ⟨_, Tryz.func143, by kernel_rfl, by kernel_rfl⟩
instance c144 : Callable Tryz.prog 144 := ⟨_, Tryz.func144, by kernel_rfl, by kernel_rfl⟩
instance c145 : Callable Tryz.prog 145 := ⟨_, Tryz.func145, by kernel_rfl, by kernel_rfl⟩
instance c146 : Callable Tryz.prog 146 := ⟨_, Tryz.func146, by kernel_rfl, by kernel_rfl⟩
instance c147 : Callable Tryz.prog 147 := ⟨_, Tryz.func147, by kernel_rfl, by kernel_rfl⟩
instance c148 : Callable Tryz.prog 148 := ⟨_, Tryz.func148, by kernel_rfl, by kernel_rfl⟩
instance c149 : Callable Tryz.prog 149 := ⟨_, Tryz.func149, by kernel_rfl, by kernel_rfl⟩
instance c150 : Callable Tryz.prog 150 := ⟨_, Tryz.func150, by kernel_rfl, by kernel_rfl⟩
instance c151 : Callable Tryz.prog 151 := ⟨_, Tryz.func151, by kernel_rfl, by kernel_rfl⟩
instance c152 : Callable Tryz.prog 152 := ⟨_, Tryz.func152, by kernel_rfl, by kernel_rfl⟩
instance c153 : Callable Tryz.prog 153 := ⟨_, Tryz.func153, by kernel_rfl, by kernel_rfl⟩
instance c154 : Callable Tryz.prog 154 := ⟨_, Tryz.func154, by kernel_rfl, by kernel_rfl⟩
instance c155 : Callable Tryz.prog 155 := ⟨_, Tryz.func155, by kernel_rfl, by kernel_rfl⟩
instance c156 : Callable Tryz.prog 156 := ⟨_, Tryz.func156, by kernel_rfl, by kernel_rfl⟩
instance c157 : Callable Tryz.prog 157 := ⟨_, Tryz.func157, by kernel_rfl, by kernel_rfl⟩
instance c158 : Callable Tryz.prog 158 := ⟨_, Tryz.func158, by kernel_rfl, by kernel_rfl⟩
instance c159 : Callable Tryz.prog 159 := ⟨_, Tryz.func159, by kernel_rfl, by kernel_rfl⟩
instance c160 : Callable Tryz.prog 160 := ⟨_, Tryz.func160, by kernel_rfl, by kernel_rfl⟩
instance c161 : Callable Tryz.prog 161 := ⟨_, Tryz.func161, by kernel_rfl, by kernel_rfl⟩
instance c162 : Callable Tryz.prog 162 := ⟨_, Tryz.func162, by kernel_rfl, by kernel_rfl⟩
instance c163 : Callable Tryz.prog 163 := ⟨_, Tryz.func163, by kernel_rfl, by kernel_rfl⟩
instance c164 : Callable Tryz.prog 164 := ⟨_, Tryz.func164, by kernel_rfl, by kernel_rfl⟩
instance c165 : Callable Tryz.prog 165 := ⟨_, Tryz.func165, by kernel_rfl, by kernel_rfl⟩
instance c166 : Callable Tryz.prog 166 := ⟨_, Tryz.func166, by kernel_rfl, by kernel_rfl⟩
instance c167 : Callable Tryz.prog 167 := ⟨_, Tryz.func167, by kernel_rfl, by kernel_rfl⟩
instance c186 : Callable Tryz.prog 186 := ⟨_, Tryz.func186, by kernel_rfl, by kernel_rfl⟩
instance c187 : Callable Tryz.prog 187 := ⟨_, Tryz.func187, by kernel_rfl, by kernel_rfl⟩
instance c188 : Callable Tryz.prog 188 := ⟨_, Tryz.func188, by kernel_rfl, by kernel_rfl⟩
end Go.Proofs.YtelfjhemnnbbpaaGreat
namespace Go.Proofs.YtelfjhemnnbbpaaGreat
open Go.Proofs.YtelfjhemnnbbpaaGreat.SL
theorem wrapI64 {n : Int} (h : -9223372036854775808 ≤ n ∧ n < 9223372036854775808) : IntKind.i64.wrap n = n := by rw [IntKind.wrap_i64]; omega
theorem wrapU64' (n : Int) : IntKind.u64.wrap n = n % 18446744073709551616 := by simp [IntKind.wrap, IntKind.bits, IntKind.signed]
theorem wrapU64 {n : Int} (h : 0 ≤ n ∧ n < 18446744073709551616) : IntKind.u64.wrap n = n := by rw [wrapU64']; omega
theorem wrapU32 {n : Int} (h : 0 ≤ n ∧ n < 4294967296) : IntKind.u32.wrap n = n := by rw [IntKind.wrap_u32]; omega
theorem wrapU8 {n : Int} (h : 0 ≤ n ∧ n < 256) : IntKind.u8.wrap n = n := by rw [IntKind.wrap_u8]; omega
theorem snoc_ind {α : Type} {p : List α → Prop} (h0 : p []) (h1 : ∀ l c, p l → p (l ++ [c])) (l : List α) : p l := by
 rw [← List.reverse_reverse l]
 induction l.reverse with
 | nil => exact h0
 | cons c l ih => rw [List.reverse_cons]; exact h1 _ _ ih
def getN (l : List UInt8) : Nat := l.foldl (fun a c => a * 256 + c.toNat) 0
theorem getN_snoc (l : List UInt8) (c : UInt8) : getN (l ++ [c]) = getN l * 256 + c.toNat := by simp [getN]
theorem getN_take {l : List UInt8} {k : Nat} (h : k < l.length) : getN (l.take (k + 1)) = getN (l.take k) * 256 + (l.getD k 0).toNat := by
 rw [List.take_succ_eq_append_getElem h, getN_snoc]; simp [List.getD, h]
theorem getN_lt : ∀ (l : List UInt8), getN l < 256 ^ l.length := by
 refine snoc_ind (by simp [getN]) ?_
 ·intro l c ih
  rw [getN_snoc, List.length_append, List.length_singleton, Nat.pow_succ]
  have := c.toNat_lt
  omega
def putN : Nat → Nat → List UInt8
 | _, 0 => []
 | n, s + 1 => putN (n / 256) s ++ [UInt8.ofNat n]
theorem putN_length : ∀ (s n : Nat), (putN n s).length = s
 | 0, _ => rfl
 | s + 1, n => by simp [putN, putN_length s]
theorem putN_cons : ∀ (s n : Nat), putN n (s + 1) = UInt8.ofNat (n / 256 ^ s) :: putN n s
 | 0, n => by simp [putN]
 | s + 1, n => by
  rw [putN, putN_cons s (n / 256), putN]
  rw [Nat.div_div_eq_div_mul, Nat.mul_comm, ← Nat.pow_succ]
  rfl
theorem getN_putN : ∀ (s n : Nat), n < 256 ^ s → getN (putN n s) = n
 | 0, n, h => by simp at h; subst h; rfl
 | s + 1, n, h => by
  rw [putN, getN_snoc, getN_putN s _ (by rw [Nat.pow_succ] at h; omega)]
  simp
  omega
theorem p8 : (2 : Int) ^ min (Int.toNat 8) IntKind.u64.bits = 256 := by decide
theorem p8' : (2 : Int) ^ min (Int.toNat 8) IntKind.u32.bits = 256 := by decide
theorem ofInt_nat {n a : Nat} (h : a < 2 ^ n) : (BitVec.ofInt n (a : Int)).toNat = a := by
 rw [BitVec.toNat_ofInt, ← Int.natCast_emod, Int.toNat_natCast, Nat.mod_eq_of_lt h]
theorem bits_and {k : IntKind} {a b : Nat} (ha : a < 2 ^ k.bits) (hb : b < 2 ^ k.bits) : bits .and k a b = k.wrap ((a &&& b : Nat) : Int) := by
 show k.wrap ((BitVec.ofInt k.bits a &&& BitVec.ofInt k.bits b).toNat : Int) = _
 rw [BitVec.toNat_and, ofInt_nat ha, ofInt_nat hb]
theorem bits_or {k : IntKind} {a b : Nat} (ha : a < 2 ^ k.bits) (hb : b < 2 ^ k.bits) : bits .or k a b = k.wrap ((a ||| b : Nat) : Int) := by
 show k.wrap ((BitVec.ofInt k.bits a ||| BitVec.ofInt k.bits b).toNat : Int) = _
 rw [BitVec.toNat_or, ofInt_nat ha, ofInt_nat hb]
theorem bits_xor {k : IntKind} {a b : Nat} (ha : a < 2 ^ k.bits) (hb : b < 2 ^ k.bits) : bits .xor k a b = k.wrap ((a ^^^ b : Nat) : Int) := by
 show k.wrap ((BitVec.ofInt k.bits a ^^^ BitVec.ofInt k.bits b).toNat : Int) = _
 rw [BitVec.toNat_xor, ofInt_nat ha, ofInt_nat hb]
end Go.Proofs.YtelfjhemnnbbpaaGreat
namespace Go.Proofs.YtelfjhemnnbbpaaGreat
open Go.Proofs.YtelfjhemnnbbpaaGreat.SL
def numTake (b : List UInt8) (size : Int) : Nat × List UInt8 × Int :=
 if size < 1 ∨ size > 8 then (0, [], 1) else if (b.length : Int) < size then (0, [], 2) else (getN (b.take size.toNat), b.drop size.toNat, 0)
def takeV (r : Nat × List UInt8 × Int) : Value := .tuple #[.int .u64 r.1, .string (str r.2.1), .int .i64 r.2.2]
set_option maxHeartbeats 1000000 in
theorem Take_does (b : List UInt8) (size : Int) (hs : -9223372036854775808 ≤ size ∧ size < 9223372036854775808) (hb : b.length < 9223372036854775808) :
  Does Tryz.prog 79 [.string (str b), .int .i64 size] [] (fun v H => v = takeV (numTake b size) ∧ H = []) := by
 refine does_of Tryz.func79 Tryz.ntmps79 rfl rfl rfl (fun w0 F0 => ?_)
 (repeat' (first|refine g_seq (h:=?_)|refine g_region (h:=?_)|refine l_nil (h:=?_)|refine n_then (h:=?_)|refine l_pures1 (h:=?_)|refine l_guard_yes (h:=?_)|refine l_guard_no (h:=?_)|refine g_skip (h:=?_)|refine g_ret (h:=?_)|refine n_then_ret (h:=?_)|refine n_block_ret (h:=?_)|refine g_block (h:=?_)|refine n_block (h:=?_)|refine g_cond_t (h:=?_)|(refine l_sp (h1 := ?_) (h0 := ?_) <;> intro h)|(refine g_sp (h1 := ?_) (h0 := ?_) <;> intro h)))
 ·refine r_ret ?_
  exact ⟨by rw [numTake, if_pos (by omega)]; rfl, rfl⟩
 ·refine r_ret ?_
  exact ⟨by rw [numTake, if_pos (by omega)]; rfl, rfl⟩
 ·refine r_ret ?_
  exact ⟨by rw [numTake, if_neg (by omega), if_pos (by omega)]; rfl, rfl⟩
 ·(refine g_loop (fun k : Nat => [(4, .int .u64 (getN (b.take k))), (21, .int .i64 k), (20, .int .i64 size), (0, .string (str b)), (1, .int .i64 size)]) (fun _ => []) (fun k => (k : Int) ≤ size) (fun k => size.toNat - k) (0) ?_ ?_ ?_ ?_; rotate_left; (repeat (first | refine ts_nil | (refine ts_cons rfl ?_ ?_; first | (with_reducible rfl) | rotate_left))); (first | (intro _ i; with_reducible refine i) | rotate_left); rotate_left; (try omega); rotate_right)
  ·intro k hk
   (repeat' (first|refine g_seq (h:=?_)|refine g_region (h:=?_)|refine l_nil (h:=?_)|refine n_then (h:=?_)|refine l_pures1 (h:=?_)|refine l_index (h:=?_)|refine l_shl (h:=?_)|refine g_skip (h:=?_)|refine g_block (h:=?_)|refine g_exit (h:=?_)|refine n_then_exit (h:=?_)|refine n_block_hit (h:=?_)|refine n_block (h:=?_)|(refine g_sp (h1 := ?_) (h0 := ?_) <;> intro h)))
   ·have hN := getN_lt (b.take k)
    have hp : 256 ^ (b.take k).length ≤ 256 ^ 7 := Nat.pow_le_pow_right (by decide) (by simp; omega)
    have hlt : getN (b.take k) < 256 ^ 7 := Nat.lt_of_lt_of_le hN hp
    have hby := byteAt_bd b k
    (refine n_back (k + 1) ?_ ?_ ?_ ?_; rotate_left; rotate_left; (repeat (first | refine ts_nil | (refine ts_cons rfl ?_ ?_; first | (with_reducible rfl) | rotate_left))); (first | (intro _ i; with_reducible refine i) | rotate_left); (try omega); (try omega))
    ·rw [p8, wrapU64 (n := byteAt b k) (by omega), wrapU64 (n := (getN (b.take k) : Int) * 256) (by omega), wrapU64 (by omega), getN_take (by omega)]
     simp [byteAt]
    ·rw [wrapI64 (by omega)]; rfl
   ·(refine g_draw [] (h := a_pass2 (h:=?_)))
    (repeat (first|refine l_nil (h:=?_)|refine n_then (h:=?_)|refine l_slice_str (h:=?_)|refine g_ret (h:=?_)|refine a_done (h:=?_)|refine a_one (h:=?_)|refine n_any (h := a_pass2 (h:=?_))))
    refine r_ret ?_
    obtain rfl : size = k := by omega
    refine ⟨?_, rfl⟩
    rw [numTake, if_neg (by omega), if_neg (by omega)]
    have e : cutB b k b.length = b.drop k := by unfold cutB; rw [List.take_of_length_le (by simp)]
    simp only [Int.toNat_natCast, e]
    rfl
  ·rfl
  ·rfl
def numPut (n : Nat) (size : Int) : List UInt8 × Int :=
 if size < 1 ∨ size > 8 then ([], 1) else if n < 256 ^ size.toNat then (putN n size.toNat, 0) else ([], 1)
def putV (r : List UInt8 × Int) : Value := .tuple #[.string (str r.1), .int .i64 r.2]
set_option maxHeartbeats 1000000 in
theorem Put_does (n : Nat) (size : Int) (hn : n < 18446744073709551616) (hs : -9223372036854775808 ≤ size ∧ size < 9223372036854775808) :
  Does Tryz.prog 65 [.int .u64 n, .int .i64 size] [] (fun v H => v = putV (numPut n size) ∧ H = []) := by
 refine does_of Tryz.func65 Tryz.ntmps65 rfl rfl rfl (fun w0 F0 => ?_)
 (repeat' (first|refine g_seq (h:=?_)|refine g_region (h:=?_)|refine l_nil (h:=?_)|refine n_then (h:=?_)|refine l_pures1 (h:=?_)|refine l_guard_yes (h:=?_)|refine l_guard_no (h:=?_)|(refine l_makeSlice (h:=?_); intro _)|refine g_skip (h:=?_)|refine g_ret (h:=?_)|refine n_then_ret (h:=?_)|refine g_block (h:=?_)|refine g_cond_t (h:=?_)|(refine l_sp (h1 := ?_) (h0 := ?_) <;> intro h)|(refine g_sp (h1 := ?_) (h0 := ?_) <;> intro h)))
 ·refine r_ret ?_
  exact ⟨by rw [numPut, if_pos (by omega)]; rfl, rfl⟩
 ·refine r_ret ?_
  exact ⟨by rw [numPut, if_pos (by omega)]; rfl, rfl⟩
 ·(repeat fail)
  rename_i b
  (refine g_loop (fun k : Nat => [(0, .int .u64 ((n / 256 ^ k : Nat) : Int)), (17, .int .i64 k), (16, .int .i64 size), (6, .slice (some ⟨b, 0, none⟩) size.toNat size.toNat), (1, .int .i64 size)]) (fun k => [cl b 5 (bsV (List.replicate (size.toNat - k) 0 ++ putN n k))]) (fun k => (k : Int) ≤ size) (fun k => size.toNat - k) (0) ?_ ?_ ?_ ?_; rotate_left; (repeat (first | refine ts_nil | (refine ts_cons rfl ?_ ?_; first | (with_reducible rfl) | rotate_left))); (first | (intro _ i; with_reducible refine i) | rotate_left); rotate_left; (try omega); rotate_right)
  ·intro k hk
   have e1 : IntKind.i64.wrap (size - 1) = size - 1 := wrapI64 (by omega)
   have e2 : IntKind.i64.wrap (IntKind.i64.wrap (size - 1) - (k : Int)) = size - 1 - k := by rw [e1]; exact wrapI64 (by omega)
   (repeat' (first|refine g_seq (h:=?_)|refine g_region (h:=?_)|refine l_nil (h:=?_)|refine n_then (h:=?_)|refine l_pures1 (h:=?_)|refine l_store_at (h:=?_)|refine l_indexAddr (h:=?_)|refine l_shr (h:=?_)|refine l_str_bs (h:=?_)|refine g_skip (h:=?_)|refine g_ret (h:=?_)|refine n_then_ret (h:=?_)|refine g_block (h:=?_)|refine g_exit (h:=?_)|refine n_then_exit (h:=?_)|refine n_block_hit (h:=?_)|refine n_block (h:=?_)|(refine g_sp (h1 := ?_) (h0 := ?_) <;> intro h)))
   ·have e3 : (IntKind.i64.wrap (IntKind.i64.wrap (size - 1) - (k : Int))).toNat = size.toNat - (k + 1) := by omega
    have e4 : IntKind.u8.wrap ((n / 256 ^ k : Nat) : Int) = ((n / 256 ^ k % 256 : Nat) : Int) := by rw [IntKind.wrap_u8]; omega
    (refine n_back (k + 1) ?_ ?_ ?_ ?_; rotate_left; rotate_left; (repeat (first | refine ts_nil | (refine ts_cons rfl ?_ ?_; first | (with_reducible rfl) | rotate_left))); (first | (intro _ i; with_reducible refine i) | rotate_left); (try omega); (try omega))
    ·rw [p8, Int.fdiv_eq_ediv_of_nonneg _ (by omega), Nat.pow_succ, ← Nat.div_div_eq_div_mul]; rfl
    ·rw [wrapI64 (by omega)]; rfl
    ·intro w i
     rw [e3, e4, bsV_set (by omega), Nat.zero_add, Nat.mul_one, show size.toNat - k = size.toNat - (k + 1) + 1 by omega, List.replicate_succ', List.append_assoc] at i
     rw [List.set_append_right _ _ (by simp), List.length_replicate, Nat.sub_self, List.singleton_append, List.set_cons_zero] at i
     rw [putN_cons]
     have e5 : UInt8.ofNat (((n / 256 ^ k % 256 : Nat) : Int)).toNat = UInt8.ofNat (n / 256 ^ k) := by apply UInt8.toNat.inj; rw [Int.toNat_natCast]; simp
     rw [e5] at i
     exact i
   ·obtain rfl : size = k := by omega
    refine r_retk [] ?_
    exact ⟨by rw [numPut, if_neg (by omega), if_neg]; rfl; rw [Int.toNat_natCast]; intro hh; rw [Nat.div_eq_of_lt hh] at *; omega, rfl⟩
   ·obtain rfl : size = k := by omega
    refine r_retk [] ?_
    refine ⟨?_, rfl⟩
    have hlt : n < 256 ^ k := by
     rcases Nat.lt_or_ge n (256 ^ k) with hh | hh
     ·exact hh
     ·have := Nat.div_pos hh (by exact Nat.pow_pos (by decide)); omega
    have el : (List.replicate ((k : Int).toNat - k) 0 ++ putN n k) = putN n k := by simp
    rw [numPut, if_neg (by omega), if_pos (by rw [Int.toNat_natCast]; exact hlt), Int.toNat_natCast]
    rw [Int.toNat_natCast] at el
    rw [el, List.drop_zero, List.take_of_length_le (by rw [putN_length]; exact Nat.le_refl _)]
    rfl
  ·simp
  ·rfl
  ·intro w i; simp only [Nat.sub_zero, putN, List.append_nil]; rw [← bsV_zeros]; exact i
end Go.Proofs.YtelfjhemnnbbpaaGreat
namespace Go.Proofs.YtelfjhemnnbbpaaGreat
open Go.Proofs.YtelfjhemnnbbpaaGreat.SL
def Rise (l : List Nat) : Prop := l.Pairwise (· < ·)
def uV (l : List Nat) : List Value := l.map fun k : Nat => Value.int .u64 (k : Int)
def posN : List Nat → Nat → Nat
 | [], _ => 0
 | k :: l, x => if k < x then posN l x + 1 else 0
theorem posN_le : ∀ (l : List Nat) (x : Nat), posN l x ≤ l.length
 | [], _ => Nat.le_refl _
 | k :: l, x => by rw [posN]; split; (have := posN_le l x; simp; omega); simp
theorem posN_of : ∀ {l : List Nat} {x p : Nat}, p ≤ l.length → (∀ j, j < p → l.getD j 0 < x) → (p < l.length → x ≤ l.getD p 0) → posN l x = p
 | [], x, p, h, _, _ => by simp at h; subst h; rfl
 | k :: l, x, 0, h, h1, h2 => by
  have := h2 (by simp)
  simp at this
  rw [posN, if_neg (by omega)]
 | k :: l, x, p + 1, h, h1, h2 => by
  have := h1 0 (by omega)
  simp at this
  rw [posN, if_pos this, posN_of (p := p) (by simpa using h) (fun j hj => by simpa using h1 (j + 1) (by omega)) (fun hp => by simpa using h2 (by simpa using hp))]
theorem posN_lt : ∀ {l : List Nat} {x j : Nat}, j < posN l x → l.getD j 0 < x
 | [], _, _, h => by simp [posN] at h
 | k :: l, x, j, h => by
  rw [posN] at h
  split at h
  ·cases j with
   | zero => simpa
   | succ j => simpa using posN_lt (l := l) (j := j) (by omega)
  ·omega
theorem Rise.get {l : List Nat} (h : Rise l) {i j : Nat} (hij : i < j) (hj : j < l.length) : l.getD i 0 < l.getD j 0 := by
 have := List.pairwise_iff_getElem.1 h i j (by omega) hj hij
 simpa [List.getD, hj, show i < l.length by omega] using this
theorem posN_mem {l : List Nat} (h : Rise l) {x : Nat} : x ∈ l ↔ posN l x < l.length ∧ l.getD (posN l x) 0 = x := by
 constructor
 ·intro hx
  obtain ⟨i, hi, rfl⟩ := List.getElem_of_mem hx
  have : posN l l[i] = i := posN_of (by omega) (fun j hj => by have := h.get hj hi; simpa [List.getD, hi] using this) (fun _ => by simp [List.getD, hi])
  rw [this]
  exact ⟨hi, by simp [List.getD, hi]⟩
 ·rintro ⟨h1, h2⟩
  rw [← h2]
  simp [List.getD, h1]
theorem uV_get {l : List Nat} {r : List Value} {j : Nat} (h : j < l.length) : (uV l ++ r)[j]? = some (.int .u64 (l.getD j 0 : Nat)) := by
 rw [List.getElem?_append_left (by simpa [uV] using h)]
 simp [uV, List.getD, h]
theorem uV_len (l : List Nat) : (uV l).length = l.length := by simp [uV]
def laidL {α : Type} (l : List α) (at' gone : Nat) (more : List α) : List α := l.take at' ++ more ++ l.drop (at' + gone)
theorem laidL_len {α : Type} (l : List α) (a g : Nat) (more : List α) : (laidL l a g more).length ≤ l.length + more.length + l.length := by
 simp only [laidL, List.length_append, List.length_take, List.length_drop]; omega
theorem laidL_map {α β : Type} (f : α → β) (l : List α) (a g : Nat) (more : List α) : (laidL l a g more).map f = laidL (l.map f) a g (more.map f) := by
 simp [laidL, List.map_take, List.map_drop]
structure Nd where
 leaf : Bool
 keys : List Nat
 vals : List (List UInt8)
 kids : List Int
def sumL (l : List (List UInt8)) : Nat := (l.map List.length).sum
theorem sumL_nil : sumL [] = 0 := rfl
theorem sumL_cons (v : List UInt8) (l : List (List UInt8)) : sumL (v :: l) = v.length + sumL l := by simp [sumL]
theorem sumL_append (l m : List (List UInt8)) : sumL (l ++ m) = sumL l + sumL m := by simp [sumL]
theorem sumL_take_succ {l : List (List UInt8)} {k : Nat} (h : k < l.length) : sumL (l.take (k + 1)) = sumL (l.take k) + (l.getD k []).length := by
 unfold sumL
 rw [List.take_add_one, List.getElem?_eq_getElem h, List.map_append, List.sum_append]
 simp [List.getD, h]
theorem sumL_take_le (l : List (List UInt8)) (k : Nat) : sumL (l.take k) ≤ sumL l := by
 conv => rhs; rw [← List.take_append_drop k l]
 rw [sumL_append]; omega
theorem sumL_le {l : List (List UInt8)} (h : ∀ v ∈ l, v.length ≤ 40) : sumL l ≤ 40 * l.length := by
 induction l with
 | nil => simp [sumL]
 | cons a l ih =>
  have := ih (fun v hv => h v (by simp [hv]))
  have := h a (by simp)
  rw [sumL_cons, List.length_cons]; omega
def Nd.size (d : Nd) : Nat := if d.leaf then 1 + 8 * d.keys.length + d.keys.length + sumL d.vals else 1 + 8 * d.keys.length + 2 * d.kids.length
structure Nd.fits (d : Nd) : Prop where
 k : d.keys.length < 10000
 i : d.kids.length < 10000
 v : d.vals.length < 10000
 s : sumL d.vals < 100000
structure Nd.plain (d : Nd) : Prop where
 rise : Rise d.keys
 key : ∀ k ∈ d.keys, k < 18446744073709551616
 val : ∀ v ∈ d.vals, v.length ≤ 40
 kid : ∀ i ∈ d.kids, 2 ≤ i ∧ i < 640
 vals : d.vals.length = if d.leaf then d.keys.length else 0
 kids : d.kids.length = if d.leaf then 0 else d.keys.length + 1
structure Nd.good (d : Nd) : Prop where
 p : d.plain
 some : d.leaf = true → 0 < d.keys.length
 size : d.size ≤ 240
theorem Nd.plain.fits {d : Nd} (h : d.plain) (hs : d.size ≤ 5000) : d.fits := by
 have h1 := hs
 have h2 := h.vals
 have h3 := h.kids
 have h4 := sumL_le h.val
 unfold Nd.size at h1
 cases hl : d.leaf <;> simp only [hl, if_true, Bool.false_eq_true, if_false] at h1 h2 h3 <;> constructor <;> omega
theorem Nd.good.fits {d : Nd} (h : d.good) : d.fits := h.p.fits (by have := h.size; omega)
def Nd.put (d : Nd) (x : Nat) (v : List UInt8) : Nd :=
 ⟨true, laidL d.keys (posN d.keys x) (if x ∈ d.keys then 1 else 0) [x], laidL d.vals (posN d.keys x) (if x ∈ d.keys then 1 else 0) [v], []⟩
def Nd.without (d : Nd) (i : Nat) : Nd := ⟨true, laidL d.keys i 1 [], laidL d.vals i 1 [], []⟩
def Nd.hang (d : Nd) (i : Nat) (x : Nat) (k : Int) : Nd := ⟨false, laidL d.keys i 0 [x], [], laidL d.kids (i + 1) 0 [k]⟩
def Nd.unhang (d : Nd) (i : Nat) : Nd := ⟨false, laidL d.keys i 1 [], [], laidL d.kids (i + 1) 1 []⟩
def Nd.up (d : Nd) : Nat := if d.leaf then 0 else 1
def Nd.front (d : Nd) (k : Nat) : Nd := ⟨d.leaf, d.keys.take k, if d.leaf then d.vals.take k else [], if d.leaf then [] else d.kids.take (k + 1)⟩
def Nd.back (d : Nd) (k : Nat) : Nd := ⟨d.leaf, d.keys.drop (k + d.up), if d.leaf then d.vals.drop k else [], if d.leaf then [] else d.kids.drop (k + 1)⟩
def Nd.cut (d : Nd) : Nat → Nat → Nat
 | 0, k => k
 | m + 1, k => if (d.front k).size < d.size / 2 then d.cut m (k + 1) else k
def Nd.at' (d : Nd) : Nat := d.cut (d.keys.length - 1 - d.up - 1) 1
def Nd.both (a : Nd) (mid : Nat) (b : Nd) : Nd := ⟨a.leaf, if a.leaf then a.keys ++ b.keys else a.keys ++ [mid] ++ b.keys, a.vals ++ b.vals, a.kids ++ b.kids⟩
def Nd.entT (d : Nd) (i : Nat) : List UInt8 := putN (d.keys.getD i 0) 8 ++ if d.leaf then UInt8.ofNat (d.vals.getD i []).length :: d.vals.getD i [] else putN (d.kids.getD (i + 1) 0).toNat 2
def Nd.partT (d : Nd) (j m : Nat) : List UInt8 := (List.range' j m).flatMap d.entT
def Nd.headT (d : Nd) : List UInt8 := if d.leaf then [1] else 2 :: putN (d.kids.getD 0 0).toNat 2
def Nd.text (d : Nd) : List UInt8 := d.headT ++ d.partT 0 d.keys.length
theorem Nd.partT_cons (d : Nd) (j m : Nat) : d.partT j (m + 1) = d.entT j ++ d.partT (j + 1) m := by simp [Nd.partT, List.range'_succ]
theorem Nd.partT_snoc (d : Nd) (j : Nat) : d.partT 0 (j + 1) = d.partT 0 j ++ d.entT j := by simp [Nd.partT, List.range'_1_concat]
theorem getD_mem {α : Type} {l : List α} {i : Nat} {z : α} (h : i < l.length) : l.getD i z ∈ l := by simp only [List.getD, List.getElem?_eq_getElem h, Option.getD_some]; exact List.getElem_mem h
theorem Nd.partT_len {d : Nd} : ∀ {j : Nat}, j ≤ d.keys.length → (d.leaf = true → d.vals.length = d.keys.length) → (d.partT 0 j).length = if d.leaf then 9 * j + sumL (d.vals.take j) else 10 * j
 | 0, _, _ => by simp [Nd.partT, sumL]
 | j + 1, h, hv => by
  rw [Nd.partT_snoc, List.length_append, Nd.partT_len (Nat.le_of_succ_le h) hv, Nd.entT, List.length_append, putN_length]
  cases hl : d.leaf
  ·simp only [Bool.false_eq_true, if_false, putN_length]; omega
  ·have := hv hl
   rw [sumL_take_succ (by omega)]
   simp only [if_true, List.length_cons]; omega
theorem Nd.text_len {d : Nd} (p : d.plain) : d.text.length = d.size := by
 rw [Nd.text, List.length_append, Nd.partT_len (Nat.le_refl _) (fun hl => by have := p.vals; rw [hl] at this; simpa using this), Nd.headT, Nd.size]
 have h1 := p.vals; have h2 := p.kids
 cases hl : d.leaf
 ·simp only [hl, Bool.false_eq_true, if_false] at h1 h2 ⊢
  simp only [List.length_cons, putN_length]; omega
 ·simp only [hl, if_true] at h1 h2 ⊢
  rw [← h1, List.take_length]
  simp only [List.length_cons, List.length_nil]; omega
end Go.Proofs.YtelfjhemnnbbpaaGreat
set_option maxRecDepth 20000
namespace Go.Proofs.YtelfjhemnnbbpaaGreat
open Go.Proofs.YtelfjhemnnbbpaaGreat.SL
theorem byte0 {s r : List UInt8} (hs : s.length ≤ 255) : IntKind.i64.wrap (byteAt (UInt8.ofNat s.length :: (s ++ r)) 0) = s.length := by
 have : byteAt (UInt8.ofNat s.length :: (s ++ r)) 0 = (s.length : Int) := by simp [byteAt]; omega
 rw [this]; exact wrapI64 (by omega)
theorem wrapU8n {n : Nat} (h : n ≤ 255) : IntKind.u8.wrap (n : Int) = n := by rw [IntKind.wrap_u8]; omega
theorem Text_does (s : List UInt8) (hs : s.length ≤ 255) : Does Tryz.prog 120 [.string (str s)] [] (fun v H => v = .tuple #[.string (str (UInt8.ofNat s.length :: s)), .int .i64 0] ∧ H = []) := by
 refine does_of Tryz.func120 Tryz.ntmps120 rfl rfl rfl (fun w0 F0 => ?_)
 (repeat' (first|refine g_seq (h:=?_)|refine g_region (h:=?_)|refine l_nil (h:=?_)|refine n_then (h:=?_)|refine l_pures1 (h:=?_)|(refine l_buildSlice1 (h:=?_); intro _)|refine g_skip (h:=?_)|(refine g_spF (h:=?_); intro h)))
 rename_i b
 have e1 : IntKind.u8.wrap (s.length : Int) = ((UInt8.ofNat s.length).toNat : Int) := by rw [wrapU8n hs]; simp; omega
 refine l_inv (H' := [cl b 5 (bsV [UInt8.ofNat s.length])]) (fun i => by rw [e1] at i; exact i) ?_
 (repeat (first|refine l_nil (h:=?_)|refine n_then (h:=?_)|refine l_pures1 (h:=?_)|refine l_concat (h:=?_)|refine l_str_bs (h:=?_)|refine g_ret (h:=?_)))
 refine r_retk [] ?_
 exact ⟨rfl, rfl⟩
theorem TakeText_does (s r : List UInt8) (hs : s.length ≤ 255) (hr : r.length < 1000000) : Does Tryz.prog 72 [.string (str (UInt8.ofNat s.length :: (s ++ r)))] [] (fun v H => v = .tuple #[.string (str s), .string (str r), .int .i64 0] ∧ H = []) := by
 have e0 := byte0 (r := r) hs
 have e1 : (UInt8.ofNat s.length :: (s ++ r)).length = s.length + r.length + 1 := by simp
 have e2 : IntKind.i64.wrap ((s.length : Int) + 1) = s.length + 1 := wrapI64 (by omega)
 refine does_of Tryz.func72 Tryz.ntmps72 rfl rfl rfl (fun w0 F0 => ?_)
 (repeat' (first|refine g_seq (h:=?_)|refine g_region (h:=?_)|refine l_nil (h:=?_)|refine n_then (h:=?_)|refine l_pures1 (h:=?_)|refine l_guard_yes (h:=?_)|refine l_index (h:=?_)|refine g_skip (h:=?_)|(refine g_spF (h:=?_); intro h)))
 rw [e0, e2]
 (refine g_draw [] (h := a_pass2 (h:=?_)))
 (repeat (first|refine l_nil (h:=?_)|refine n_then (h:=?_)|refine l_pures1 (h:=?_)|refine g_ret (h:=?_)|refine a_done (h:=?_)|refine a_one (h:=?_)|refine n_any (h := a_pass2 (h:=?_))|refine a_v (h:=?_)))
 refine r_retk [] ?_
 refine ⟨?_, rfl⟩
 have : ((s.length : Int) + 1).toNat = s.length + 1 := by omega
 have a1 : cutB (UInt8.ofNat s.length :: (s ++ r)) 1 (s.length + 1) = s := by simp [cutB]
 have a2 : cutB (UInt8.ofNat s.length :: (s ++ r)) (s.length + 1) (UInt8.ofNat s.length :: (s ++ r)).length = r := by simp [cutB]
 show Value.tuple #[.string (str (cutB (UInt8.ofNat s.length :: (s ++ r)) 1 ((s.length : Int) + 1).toNat)), .string (str (cutB (UInt8.ofNat s.length :: (s ++ r)) ((s.length : Int) + 1).toNat (UInt8.ofNat s.length :: (s ++ r)).length)), .int .i64 0] = _
 rw [this, a1, a2]
set_option maxHeartbeats 1000000 in
theorem place_cl (l : List Nat) (x : Nat) (g c : Nat) (r : List Value) (hl : l.length < 1000000) (hs : Rise l) :
  Does Tryz.prog 124 [.slice (some ⟨g, 0, none⟩) l.length c, .int .u64 x] [cl g 78 (uV l ++ r)]
   (fun v H => v = .tuple #[.int .i64 (posN l x), .bool (decide (x ∈ l))] ∧ H = [cl g 78 (uV l ++ r)]) := by
 refine does_of Tryz.func124 Tryz.ntmps124 rfl rfl rfl (fun w0 F0 => ?_)
 (repeat' (first|refine g_seq (h:=?_)|refine g_region (h:=?_)|refine l_nil (h:=?_)|refine n_then (h:=?_)|refine l_pures1 (h:=?_)|refine g_block (h:=?_)|refine g_scope (h:=?_)|refine g_label (h:=?_)))
 (refine g_loop (fun y : Nat × Nat => [(6, .int .i64 y.1), (7, .int .i64 y.2), (1, .int .u64 x), (0, .slice (some ⟨g, 0, none⟩) l.length c)]) (fun _ => [cl g 78 (uV l ++ r)]) (fun y => y.1 ≤ y.2 ∧ y.2 ≤ l.length ∧ (∀ j, j < y.1 → l.getD j 0 < x) ∧ (y.2 < l.length → x ≤ l.getD y.2 0)) (fun y => y.2 - y.1) ((0, l.length)) ?_ ?_ ?_ ?_; rotate_left; (repeat (first | refine ts_nil | (refine ts_cons rfl ?_ ?_; first | (with_reducible rfl) | rotate_left))); (first | (intro _ i; with_reducible refine i) | rotate_left); rotate_left; (try omega); rotate_right)
 ·rintro ⟨lo, hi⟩ ⟨h1, h2, h3, h4⟩
  dsimp only at h1 h2 h3 h4
  (repeat' (first|refine g_seq (h:=?_)|refine g_region (h:=?_)|refine l_nil (h:=?_)|refine n_then (h:=?_)|refine l_pures1 (h:=?_)|refine g_skip (h:=?_)|refine g_block (h:=?_)|refine g_exit (h:=?_)|refine n_then_exit (h:=?_)|refine n_block_hit (h:=?_)|(refine g_cond (ht := ?_) (hf := ?_) <;> intro h)))
  ·have hlt : lo < hi := by simpa using h
   have e0 : IntKind.i64.wrap ((lo : Int) + (hi : Int)) = ((lo + hi : Nat) : Int) := by rw [wrapI64 (by omega)]; omega
   have em : IntKind.i64.wrap ((IntKind.i64.wrap ((lo : Int) + (hi : Int))).tdiv 2) = (((lo + hi) / 2 : Nat) : Int) := by
    rw [e0, Int.tdiv_eq_ediv_of_nonneg (by omega), wrapI64 (by omega)]; omega
   have hm : (lo + hi) / 2 < hi ∧ lo ≤ (lo + hi) / 2 := by omega
   have hg : (uV l ++ r)[0 + ((((lo + hi) / 2 : Nat) : Int)).toNat * 1]? = some (.int .u64 (l.getD ((lo + hi) / 2) 0 : Nat)) := by
    rw [Nat.zero_add, Nat.mul_one, Int.toNat_natCast]; exact uV_get (by omega)
   generalize (lo + hi) / 2 = m at *
   rw [em]
   (repeat' (first|refine g_seq (h:=?_)|refine g_region (h:=?_)|refine l_nil (h:=?_)|refine n_then (h:=?_)|refine l_pures1 (h:=?_)|refine l_load_at (h:=?_)|refine l_indexAddr (h:=?_)|refine g_block (h:=?_)|refine g_exit (h:=?_)|refine n_then_exit (h:=?_)|refine n_block_hit (h:=?_)|refine n_block_miss (h:=?_)|refine n_block (h:=?_)|(refine g_sp (h1 := ?_) (h0 := ?_) <;> intro h)))
   ·have hm2 : m < l.length := by omega
    have hp : posN l x = m := posN_of (by omega) (fun j hj => by have := hs.get hj hm2; omega) (fun _ => by omega)
    (refine g_draw [cl _ _ _] (h := a_pass2 (h:=?_)))
    (repeat' (first|refine l_nil (h:=?_)|refine n_then (h:=?_)|refine l_pures1 (h:=?_)|refine l_guard_yes (h:=?_)|refine g_ret (h:=?_)|refine a_done (h:=?_)|refine a_one (h:=?_)|refine n_any (h := a_pass2 (h:=?_))|refine a_loadg (h := a_pass2 (h:=?_))|refine a_vg (h:=?_)|refine n_scope_ret (h:=?_)|(refine a_spT (h:=?_); intro h)))
    refine r_retk [cl g 78 (uV l ++ r)] ?_
    refine ⟨?_, rfl⟩
    have hx : l.getD m 0 = x := by omega
    have : x ∈ l := (posN_mem hs).2 (by rw [hp]; exact ⟨hm2, hx⟩)
    rw [hp, decide_eq_true this, hx]
    simp [packV]
   ·(refine n_back ((m + 1, hi)) ?_ ?_ ?_ ?_; rotate_left; rotate_left; (repeat (first | refine ts_nil | (refine ts_cons rfl ?_ ?_; first | (with_reducible rfl) | rotate_left))); (first | (intro _ i; with_reducible refine i) | rotate_left); (try omega); (try omega))
    ·refine ⟨by dsimp only; omega, h2, fun j hj => ?_, h4⟩
     dsimp only at hj
     rcases Nat.lt_or_ge j m with hj2 | hj2
     ·have := hs.get hj2 (by omega); omega
     ·obtain rfl : j = m := by omega
      omega
    ·dsimp only; omega
    ·rw [wrapI64 (by omega)]; rfl
   ·(refine n_back ((lo, m)) ?_ ?_ ?_ ?_; rotate_left; rotate_left; (repeat (first | refine ts_nil | (refine ts_cons rfl ?_ ?_; first | (with_reducible rfl) | rotate_left))); (first | (intro _ i; with_reducible refine i) | rotate_left); (try omega); (try omega))
    ·exact ⟨by dsimp only; omega, by dsimp only; omega, h3, fun _ => by dsimp only; omega⟩
    ·dsimp only; omega
  ·obtain rfl : lo = hi := by simp at h; omega
   have hp : posN l x = lo := posN_of (by omega) h3 h4
   have hg : lo < l.length → (uV l ++ r)[0 + ((lo : Nat) : Int).toNat * 1]? = some (.int .u64 (l.getD lo 0 : Nat)) := fun h => by
    rw [Nat.zero_add, Nat.mul_one, Int.toNat_natCast]; exact uV_get h
   (refine g_draw [cl _ _ _] (h := a_pass2 (h:=?_)))
   (repeat' (first|refine l_nil (h:=?_)|refine n_then (h:=?_)|refine l_pures1 (h:=?_)|refine l_guard_yes (h:=?_)|refine l_guard_no (h:=?_)|refine g_ret (h:=?_)|refine a_done (h:=?_)|refine a_one (h:=?_)|refine n_any (h := a_pass2 (h:=?_))|refine a_loadg (h := a_pass2 (h:=?_))|refine a_vg (h:=?_)|refine a_no (h:=?_)|refine n_scope_ret (h:=?_)|(refine a_sp (h1 := ?_) (h0 := ?_) <;> intro h)))
   ·have hlt : lo < l.length := by omega
    have hg := hg hlt
    (repeat' fail)
    refine r_retk [cl g 78 (uV l ++ r)] ?_
    refine ⟨?_, rfl⟩
    rw [hp, show decide (x ∈ l) = (((l.getD lo 0 : Nat) : Int) == ((x : Nat) : Int)) from ?_]
    ·simp [packV]
    ·rw [Bool.eq_iff_iff, decide_eq_true_iff, posN_mem hs, hp, beq_iff_eq]
     omega
   ·refine r_retk [cl g 78 (uV l ++ r)] ?_
    refine ⟨?_, rfl⟩
    rw [hp, decide_eq_false (fun hx => by have := (posN_mem hs).1 hx; omega)]
    rfl
 ·exact ⟨by simp, by simp, by simp, by simp⟩
 ·rfl
theorem place_nil (p : Option Addr) (c x : Nat) : Does Tryz.prog 124 [.slice p 0 c, .int .u64 x] [] (fun v H => v = .tuple #[.int .i64 0, .bool false] ∧ H = []) := by
 refine does_of Tryz.func124 Tryz.ntmps124 rfl rfl rfl (fun w0 F0 => ?_)
 (repeat' (first|refine g_seq (h:=?_)|refine g_region (h:=?_)|refine l_nil (h:=?_)|refine n_then (h:=?_)|refine l_pures1 (h:=?_)|refine g_block (h:=?_)|refine g_scope (h:=?_)|refine g_label (h:=?_)))
 (refine g_loop (fun y : Unit => [(6, .int .i64 0), (7, .int .i64 0), (1, .int .u64 x), (0, .slice p 0 c)]) (fun _ => []) (fun y => True) (fun y => 0) (()) ?_ ?_ ?_ ?_; rotate_left; (repeat (first | refine ts_nil | (refine ts_cons rfl ?_ ?_; first | (with_reducible rfl) | rotate_left))); (first | (intro _ i; with_reducible refine i) | rotate_left); rotate_left; (try omega); rotate_right)
 ·intro _ _
  (repeat' (first|refine g_seq (h:=?_)|refine g_region (h:=?_)|refine l_nil (h:=?_)|refine n_then (h:=?_)|refine l_pures1 (h:=?_)|refine g_exit (h:=?_)|refine n_then_exit (h:=?_)|refine n_block_hit (h:=?_)|refine g_cond_f (h:=?_)))
  (refine g_draw [] (h := a_pass2 (h:=?_)))
  (repeat' (first|refine l_nil (h:=?_)|refine n_then (h:=?_)|refine l_guard_no (h:=?_)|refine g_ret (h:=?_)|refine a_done (h:=?_)|refine a_one (h:=?_)|refine n_any (h := a_pass2 (h:=?_))|refine a_no (h:=?_)|refine n_scope_ret (h:=?_)))
  refine r_ret ?_
  exact ⟨rfl, rfl⟩
 ·trivial
 ·trivial
theorem does_frame {P : Program} {f : FuncId} {args : List Value} {H K : List SProp} {q : Value → List SProp → Prop} (h : Does P f args H q) : Does P f args (H ++ K) (fun v H' => ∃ H1, q v H1 ∧ H' = H1 ++ K) := fun w F s => by
 obtain ⟨F1, s1, back⟩ := (Inv.start s).hand
 exact (h w F1 s1).mono fun e w' ⟨v, H', he, hq, hi⟩ => ⟨v, H' ++ K, he, ⟨H', hq, rfl⟩, back hi⟩
theorem does_opens {P : Program} {α : Type} {f : FuncId} {args : List Value} {A : SProp} {p : α → Prop} {K : α → List SProp} {H : List SProp} {q : Value → List SProp → Prop} (o : Opens A p K) (h : ∀ x, p x → Does P f args (K x ++ H) q) : Does P f args (A :: H) q := by
 rintro w F ⟨F1, F2, a, s, d, u⟩
 obtain ⟨x, hx, s1⟩ := o _ _ a
 exact h x hx w F (sep_congr (sep_append s1 s d) fun b => (u b).symm)
theorem does_vec {P : Program} {f : FuncId} {args : List Value} {e : TypeId} {p : Option Addr} {m c : Nat} {xs : List Value} {H : List SProp} {q : Value → List SProp → Prop} (h0 : m = 0 → xs = [] → Does P f args (vec e 1 p m c xs :: H) q)
  (h1 : 0 < m → ∀ g r, p = some ⟨g, 0, none⟩ → m ≤ c → c ≤ maxLen → xs.length = m → (xs ++ r).length = c → Does P f args (cl g e (xs ++ r) :: H) q) : Does P f args (vec e 1 p m c xs :: H) q := by
 rcases Nat.eq_zero_or_pos m with hm | hm
 ·intro w F s
  have : xs.length = m * 1 := by obtain ⟨_, _, ⟨q, _⟩, _⟩ := s; exact q
  exact h0 hm (List.eq_nil_of_length_eq_zero (by omega)) w F s
 ·refine does_opens (vec_opens hm) ?_
  rintro ⟨g, r⟩ ⟨a, b, c1, d, e1⟩
  exact h1 hm g r a b c1 (by omega) (by simpa using e1)
theorem does_shuts {P : Program} {f : FuncId} {args : List Value} {H K : List SProp} {q : Value → List SProp → Prop} {A : SProp} (h : Does P f args H (fun v H' => q v (A :: K) ∧ ∃ L, Shuts L A ∧ H' = L ++ K)) : Does P f args H q := fun w F s =>
 (h w F s).mono fun e w' ⟨v, H', he, ⟨hq, L, hs, hH⟩, hi⟩ => ⟨v, A :: K, he, hq, by subst hH; exact hi.shuts hs⟩
theorem place_does (l : List Nat) (x : Nat) (p : Option Addr) (c : Nat) (hl : l.length < 1000000) (hs : Rise l) :
  Does Tryz.prog 124 [.slice p l.length c, .int .u64 x] [vec 78 1 p l.length c (uV l)]
   (fun v H => v = .tuple #[.int .i64 (posN l x), .bool (decide (x ∈ l))] ∧ H = [vec 78 1 p l.length c (uV l)]) := by
 refine does_vec (fun h0 _ => ?_) (fun h0 g r e1 h1 h2 h3 h4 => ?_)
 ·obtain rfl := List.eq_nil_of_length_eq_zero h0
  exact (does_frame (place_nil p c x)).mono fun v H ⟨H1, ⟨hv, hH⟩, e⟩ => ⟨by rw [hv]; simp [posN], by rw [e, hH]; rfl⟩
 ·subst e1
  refine does_shuts (A := vec _ 1 _ _ c (uV l)) (K := []) ((place_cl l x g c r hl hs).mono fun v H ⟨hv, hH⟩ => ⟨⟨hv, rfl⟩, _, vec_shuts h1 h2 (by rw [h3]; omega) (by rw [h4]; omega), hH⟩)
end Go.Proofs.YtelfjhemnnbbpaaGreat
set_option maxRecDepth 20000
namespace Go.Proofs.YtelfjhemnnbbpaaGreat
open Go.Proofs.YtelfjhemnnbbpaaGreat.SL
theorem outer_same : Outer Tryz.prog 116 Extern.AbiNoEscape.same := ⟨fun args w => run_callFunc_extern Tryz.func116 (by kernel_rfl) (by kernel_rfl) (by kernel_rfl) (by kernel_rfl) args w⟩
theorem lies_builder : liesAt Tryz.prog Tryz.prog.depth 112 (2 / Tryz.prog.cellsOf 112) 0 112 1 = true := by kernel_rfl
theorem copyCheck_none (b : Nat) (s : Value) : Does Tryz.prog 90 [.pointer (some ⟨b, 0, none⟩)] [cl b 112 [.pointer none, s]]
  (fun v H => v = .tuple #[] ∧ H = [cl b 112 [.pointer (some ⟨b, 0, none⟩), s]]) := by
 refine does_of Tryz.func90 Tryz.ntmps90 rfl rfl rfl (fun w0 F0 => ?_)
 (repeat' (first|refine g_seq (h:=?_)|refine g_region (h:=?_)|refine l_nil (h:=?_)|refine n_then (h:=?_)|refine l_pures1 (h:=?_)|refine l_load (h:=?_)|refine l_store (h:=?_)|refine g_cond_t (h:=?_)|refine l_to_unsafe (h:=?_)|refine l_from_unsafe (h:=?_)|refine l_outer_same outer_same (h:=?_)))
 refine r_end ?_
 exact ⟨rfl, rfl⟩
theorem copyCheck_some (b : Nat) (s : Value) : Does Tryz.prog 90 [.pointer (some ⟨b, 0, none⟩)] [cl b 112 [.pointer (some ⟨b, 0, none⟩), s]]
  (fun v H => v = .tuple #[] ∧ H = [cl b 112 [.pointer (some ⟨b, 0, none⟩), s]]) := by
 refine does_of Tryz.func90 Tryz.ntmps90 rfl rfl rfl (fun w0 F0 => ?_)
 (repeat' (first|refine g_seq (h:=?_)|refine g_region (h:=?_)|refine l_nil (h:=?_)|refine n_then (h:=?_)|refine l_pures1 (h:=?_)|refine l_load (h:=?_)|refine g_skip (h:=?_)|refine g_cond_f (h:=?_)|refine l_neq_same (h:=?_)))
 refine r_end ?_
 exact ⟨rfl, rfl⟩
def BldK (b : Nat) (l : List UInt8) (x : Option Addr × Option Addr × Nat) : List SProp :=
 [cl b 112 [.pointer x.1, .slice x.2.1 l.length x.2.2], vec 5 1 x.2.1 l.length x.2.2 (bsV l)]
def BldP (b : Nat) (l : List UInt8) (x : Option Addr × Option Addr × Nat) : Prop := x.1 = none ∨ x.1 = some ⟨b, 0, none⟩
def Bld (b : Nat) (l : List UInt8) : SProp := hid (BldP b l) (BldK b l)
theorem bWriteString_does (b : Nat) (l s : List UInt8) (hl : l.length + s.length < 1000000) : Does Tryz.prog 83 [.pointer (some ⟨b, 0, none⟩), .string (str s)] [Bld b l]
  (fun v H => (∃ x, v = x) ∧ H = [Bld b (l ++ s)]) := by
 refine does_of Tryz.func83 Tryz.ntmps83 rfl rfl rfl (fun w0 F0 => ?_)
 refine g_open (A := Bld b l) (h:=?_); (rintro ⟨q, p, c⟩ hq; dsimp only [BldK, List.cons_append, List.nil_append])
 rcases hq with h | h
 ·dsimp only at h; subst h
  (repeat' (first|refine g_seq (h:=?_)|refine g_region (h:=?_)|refine l_nil (h:=?_)|refine n_then (h:=?_)|refine l_pures1 (h:=?_)|(refine l_at 90 ?_; refine l_call (copyCheck_none b (.slice p l.length c)) ?_)|refine l_load (h:=?_)|refine l_store (h:=?_)|refine g_ret (h:=?_)|(refine l_append_str (h:=?_); intro _ _)))
  rename_i p' c'
  (refine n_shut (A := Bld b (l ++ s)) (K := BldK b (l ++ s) (((some ⟨b, 0, none⟩ : Option Addr), p', c'))) (hid_shuts (((some ⟨b, 0, none⟩ : Option Addr), p', c')) (Or.inr rfl)) (h:=?_) (p := by dsimp only [BldK]; (try simp only [List.map_nil, List.length_nil, List.length_set, List.length_append, List.length_cons, List.length_singleton, List.map_append, List.map_cons, Nat.zero_add, bsV_append]); exact parts_of))
  refine r_retk [Bld b (l ++ s)] ?_
  exact ⟨⟨_, rfl⟩, rfl⟩
 ·dsimp only at h; subst h
  (repeat' (first|refine g_seq (h:=?_)|refine g_region (h:=?_)|refine l_nil (h:=?_)|refine n_then (h:=?_)|refine l_pures1 (h:=?_)|(refine l_at 90 ?_; refine l_call (copyCheck_some b (.slice p l.length c)) ?_)|refine l_load (h:=?_)|refine l_store (h:=?_)|refine g_ret (h:=?_)|(refine l_append_str (h:=?_); intro _ _)))
  rename_i p' c'
  (refine n_shut (A := Bld b (l ++ s)) (K := BldK b (l ++ s) (((some ⟨b, 0, none⟩ : Option Addr), p', c'))) (hid_shuts (((some ⟨b, 0, none⟩ : Option Addr), p', c')) (Or.inr rfl)) (h:=?_) (p := by dsimp only [BldK]; (try simp only [List.map_nil, List.length_nil, List.length_set, List.length_append, List.length_cons, List.length_singleton, List.map_append, List.map_cons, Nat.zero_add, bsV_append]); exact parts_of))
  refine r_retk [Bld b (l ++ s)] ?_
  exact ⟨⟨_, rfl⟩, rfl⟩
theorem bsV_one (x : UInt8) : bsV [x] = [Value.int .u8 x.toNat] := rfl
theorem bWriteByte_does (b : Nat) (l : List UInt8) (x : UInt8) (hl : l.length < 1000000) : Does Tryz.prog 156 [.pointer (some ⟨b, 0, none⟩), .int .u8 x.toNat] [Bld b l]
  (fun v H => (∃ x, v = x) ∧ H = [Bld b (l ++ [x])]) := by
 refine does_of Tryz.func156 Tryz.ntmps156 rfl rfl rfl (fun w0 F0 => ?_)
 refine g_open (A := Bld b l) (h:=?_); (rintro ⟨q, p, c⟩ hq; dsimp only [BldK, List.cons_append, List.nil_append])
 rcases hq with h | h
 ·dsimp only at h; subst h
  (repeat' (first|refine g_seq (h:=?_)|refine g_region (h:=?_)|refine l_nil (h:=?_)|refine n_then (h:=?_)|refine l_pures1 (h:=?_)|(refine l_at 90 ?_; refine l_call (copyCheck_none b (.slice p l.length c)) ?_)|refine l_load (h:=?_)|refine l_store (h:=?_)|(refine l_buildSlice1 (h:=?_); intro _)|(refine l_append_new (h:=?_); intro _ _)|refine g_ret (h:=?_)))
  rename_i p' c'
  (refine n_shut (A := Bld b (l ++ [x])) (K := BldK b (l ++ [x]) (((some ⟨b, 0, none⟩ : Option Addr), p', c'))) (hid_shuts (((some ⟨b, 0, none⟩ : Option Addr), p', c')) (Or.inr rfl)) (h:=?_) (p := by dsimp only [BldK]; (try simp only [List.map_nil, List.length_nil, List.length_set, List.length_append, List.length_cons, List.length_singleton, List.map_append, List.map_cons, Nat.zero_add, bsV_append, bsV_one]); exact parts_of))
  refine r_retk [Bld b (l ++ [x])] ?_
  exact ⟨⟨_, rfl⟩, rfl⟩
 ·dsimp only at h; subst h
  (repeat' (first|refine g_seq (h:=?_)|refine g_region (h:=?_)|refine l_nil (h:=?_)|refine n_then (h:=?_)|refine l_pures1 (h:=?_)|(refine l_at 90 ?_; refine l_call (copyCheck_some b (.slice p l.length c)) ?_)|refine l_load (h:=?_)|refine l_store (h:=?_)|(refine l_buildSlice1 (h:=?_); intro _)|(refine l_append_new (h:=?_); intro _ _)|refine g_ret (h:=?_)))
  rename_i p' c'
  (refine n_shut (A := Bld b (l ++ [x])) (K := BldK b (l ++ [x]) (((some ⟨b, 0, none⟩ : Option Addr), p', c'))) (hid_shuts (((some ⟨b, 0, none⟩ : Option Addr), p', c')) (Or.inr rfl)) (h:=?_) (p := by dsimp only [BldK]; (try simp only [List.map_nil, List.length_nil, List.length_set, List.length_append, List.length_cons, List.length_singleton, List.map_append, List.map_cons, Nat.zero_add, bsV_append, bsV_one]); exact parts_of))
  refine r_retk [Bld b (l ++ [x])] ?_
  exact ⟨⟨_, rfl⟩, rfl⟩
theorem bString_does (b : Nat) (l : List UInt8) (hl : 0 < l.length) : Does Tryz.prog 59 [.pointer (some ⟨b, 0, none⟩)] [Bld b l] (fun v H => v = .string (str l) ∧ H = []) := by
 refine does_of Tryz.func59 Tryz.ntmps59 rfl rfl rfl (fun w0 F0 => ?_)
 refine g_open (A := Bld b l) (h:=?_); (rintro ⟨q, p, c⟩ hq; dsimp only [BldK, List.cons_append, List.nil_append])
 refine g_ptr (Take.there Take.here) hl ?_
 rintro g h hc
 subst h
 (repeat' (first|refine g_seq (h:=?_)|refine g_region (h:=?_)|refine l_nil (h:=?_)|refine n_then (h:=?_)|refine l_pures1 (h:=?_)))
 (refine g_draw [cl _ _ _] (h := a_pass2 (h:=?_)))
 (repeat' (first|refine l_nil (h:=?_)|refine n_then (h:=?_)|refine g_ret (h:=?_)|refine a_done (h:=?_)|refine a_load (h := a_pass2 (h:=?_))|refine a_one (h:=?_)|refine n_any (h := a_pass2 (h:=?_))|refine l_sliceData (h:=?_)|refine l_unsafeString (h:=?_)))
 refine r_retk [] ?_
 exact ⟨rfl, rfl⟩
end Go.Proofs.YtelfjhemnnbbpaaGreat

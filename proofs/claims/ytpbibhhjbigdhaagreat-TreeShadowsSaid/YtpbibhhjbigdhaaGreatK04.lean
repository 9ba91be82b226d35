/- Texts SlEnv, Byt, Num, NdP, joined. -/
import Derived.Test.YtpbibhhjbigdhaaGreatProg
import Derived.KernelRfl
import Derived.Test.YtpbibhhjbigdhaaGreatK03
/- The tables of types of this seat, for the framework: written by mkenv.py out of the print of the loaded program. -/
set_option linter.unusedVariables false
namespace Go.Proofs.YtpbibhhjbigdhaaGreat
open Go.Proofs.YtpbibhhjbigdhaaGreat.SL
set_option maxRecDepth 100000
def env : Env where
  ty := (.node (.node (.node (.node (.node (.node (.node (.node (.node .nil 0 (Go.TypeDesc.tuple #[]) .nil) 1 (Go.TypeDesc.func #[] #[] Bool.false) .nil) 2 (Go.TypeDesc.int Go.IntKind.i64) (.node .nil 3 (Go.TypeDesc.int Go.IntKind.i64) .nil)) 4 Go.TypeDesc.bool (.node (.node .nil 5 (Go.TypeDesc.int Go.IntKind.u8) .nil) 6 (Go.TypeDesc.int Go.IntKind.u8) (.node .nil 7 (Go.TypeDesc.struct #[{ name := "x", type := 2, offset := 0, embedded := Bool.false, tag := "", pkgPath := "runtime", byteOffset := 0 }, { name := "y", type := 3, offset := 1, embedded := Bool.false, tag := "", pkgPath := "runtime", byteOffset := 8 }, { name := "signed", type := 4, offset := 2, embedded := Bool.false, tag := "", pkgPath := "runtime", byteOffset := 16 }, { name := "code", type := 6, offset := 3, embedded := Bool.false, tag := "", pkgPath := "runtime", byteOffset := 17 }]) .nil))) 8 (Go.TypeDesc.struct #[{ name := "x", type := 2, offset := 0, embedded := Bool.false, tag := "", pkgPath := "runtime", byteOffset := 0 }, { name := "y", type := 3, offset := 1, embedded := Bool.false, tag := "", pkgPath := "runtime", byteOffset := 8 }, { name := "signed", type := 4, offset := 2, embedded := Bool.false, tag := "", pkgPath := "runtime", byteOffset := 16 }, { name := "code", type := 6, offset := 3, embedded := Bool.false, tag := "", pkgPath := "runtime", byteOffset := 17 }]) (.node (.node (.node .nil 9 Go.TypeDesc.string .nil) 10 Go.TypeDesc.string (.node .nil 11 Go.TypeDesc.string .nil)) 12 (Go.TypeDesc.int Go.IntKind.u64) (.node (.node .nil 13 (Go.TypeDesc.struct #[{ name := "msg", type := 9, offset := 0, embedded := Bool.false, tag := "", pkgPath := "runtime", byteOffset := 0 }, { name := "addr", type := 12, offset := 1, embedded := Bool.false, tag := "", pkgPath := "runtime", byteOffset := 16 }]) .nil) 14 (Go.TypeDesc.struct #[{ name := "msg", type := 9, offset := 0, embedded := Bool.false, tag := "", pkgPath := "runtime", byteOffset := 0 }, { name := "addr", type := 12, offset := 1, embedded := Bool.false, tag := "", pkgPath := "runtime", byteOffset := 16 }]) (.node .nil 15 (Go.TypeDesc.pointer 246) .nil)))) 16 (Go.TypeDesc.pointer 249) (.node (.node (.node (.node .nil 17 (Go.TypeDesc.pointer 256) .nil) 18 (Go.TypeDesc.struct #[{ name := "typ", type := 17, offset := 0, embedded := Bool.false, tag := "", pkgPath := "internal/runtime/maps", byteOffset := 0 }]) (.node .nil 19 (Go.TypeDesc.struct #[{ name := "typ", type := 17, offset := 0, embedded := Bool.false, tag := "", pkgPath := "internal/runtime/maps", byteOffset := 0 }]) .nil)) 20 (Go.TypeDesc.interface #[]) (.node (.node .nil 21 (Go.TypeDesc.int Go.IntKind.i32) .nil) 22 (Go.TypeDesc.slice 3) (.node .nil 23 (Go.TypeDesc.func #[] #[4] Bool.false) .nil))) 24 (Go.TypeDesc.pointer 37) (.node (.node (.node .nil 25 (Go.TypeDesc.tuple #[24, 4]) .nil) 26 (Go.TypeDesc.func #[3] #[24, 4] Bool.false) (.node .nil 27 (Go.TypeDesc.slice 38) .nil)) 28 (Go.TypeDesc.map 38 4) (.node (.node .nil 29 (Go.TypeDesc.int Go.IntKind.i64) .nil) 30 (Go.TypeDesc.tuple #[3, 29]) (.node .nil 31 (Go.TypeDesc.func #[34, 3, 38, 9] #[3, 29] Bool.false) .nil))))) 32 (Go.TypeDesc.pointer 134) (.node (.node (.node (.node (.node (.node .nil 33 (Go.TypeDesc.pointer 175) .nil) 34 (Go.TypeDesc.pointer 102) .nil) 35 (Go.TypeDesc.pointer 141) (.node .nil 36 (Go.TypeDesc.struct #[{ name := "d", type := 32, offset := 0, embedded := Bool.false, tag := "", pkgPath := "bailiwick/bailiwicklaw11", byteOffset := 0 }, { name := "x", type := 33, offset := 1, embedded := Bool.false, tag := "", pkgPath := "bailiwick/bailiwicklaw11", byteOffset := 8 }, { name := "s", type := 34, offset := 2, embedded := Bool.false, tag := "", pkgPath := "bailiwick/bailiwicklaw11", byteOffset := 16 }, { name := "r", type := 35, offset := 3, embedded := Bool.false, tag := "", pkgPath := "bailiwick/bailiwicklaw11", byteOffset := 24 }, { name := "root", type := 3, offset := 4, embedded := Bool.false, tag := "", pkgPath := "bailiwick/bailiwicklaw11", byteOffset := 32 }]) .nil)) 37 (Go.TypeDesc.struct #[{ name := "d", type := 32, offset := 0, embedded := Bool.false, tag := "", pkgPath := "bailiwick/bailiwicklaw11", byteOffset := 0 }, { name := "x", type := 33, offset := 1, embedded := Bool.false, tag := "", pkgPath := "bailiwick/bailiwicklaw11", byteOffset := 8 }, { name := "s", type := 34, offset := 2, embedded := Bool.false, tag := "", pkgPath := "bailiwick/bailiwicklaw11", byteOffset := 16 }, { name := "r", type := 35, offset := 3, embedded := Bool.false, tag := "", pkgPath := "bailiwick/bailiwicklaw11", byteOffset := 24 }, { name := "root", type := 3, offset := 4, embedded := Bool.false, tag := "", pkgPath := "bailiwick/bailiwicklaw11", byteOffset := 32 }]) (.node (.node .nil 38 (Go.TypeDesc.int Go.IntKind.u64) .nil) 39 (Go.TypeDesc.func #[3] #[38] Bool.false) (.node .nil 40 (Go.TypeDesc.func #[3] #[9] Bool.false) .nil))) 41 (Go.TypeDesc.tuple #[3, 4, 29]) (.node (.node (.node .nil 42 (Go.TypeDesc.func #[34, 3, 38] #[3, 4, 29] Bool.false) .nil) 43 (Go.TypeDesc.func #[] #[3] Bool.false) (.node .nil 44 (Go.TypeDesc.func #[22, 3] #[4] Bool.false) .nil)) 45 (Go.TypeDesc.slice 5) (.node (.node .nil 46 (Go.TypeDesc.tuple #[9, 4, 29]) .nil) 47 (Go.TypeDesc.func #[34, 3, 38] #[9, 4, 29] Bool.false) (.node .nil 48 (Go.TypeDesc.func #[22, 5, 38] #[4] Bool.false) .nil)))) 49 (Go.TypeDesc.slice 53) (.node (.node (.node (.node .nil 50 (Go.TypeDesc.tuple #[49, 29]) .nil) 51 (Go.TypeDesc.func #[34, 3, 38, 3] #[49, 29] Bool.false) (.node .nil 52 (Go.TypeDesc.struct #[{ name := "Key", type := 38, offset := 0, embedded := Bool.false, tag := "", pkgPath := "", byteOffset := 0 }, { name := "Value", type := 9, offset := 1, embedded := Bool.false, tag := "", pkgPath := "", byteOffset := 8 }]) .nil)) 53 (Go.TypeDesc.struct #[{ name := "Key", type := 38, offset := 0, embedded := Bool.false, tag := "", pkgPath := "", byteOffset := 0 }, { name := "Value", type := 9, offset := 1, embedded := Bool.false, tag := "", pkgPath := "", byteOffset := 8 }]) (.node (.node .nil 54 (Go.TypeDesc.func #[49, 49] #[4] Bool.false) .nil) 55 (Go.TypeDesc.func #[22, 3, 3] #[4] Bool.false) (.node .nil 56 (Go.TypeDesc.func #[22] #[4] Bool.false) .nil))) 57 (Go.TypeDesc.map 38 9) (.node (.node (.node .nil 58 (Go.TypeDesc.tuple #[9, 4]) .nil) 59 (Go.TypeDesc.tuple #[22, 29]) (.node .nil 60 (Go.TypeDesc.func #[34, 3] #[22, 29] Bool.false) .nil)) 61 (Go.TypeDesc.func #[3] #[29] Bool.false) (.node (.node .nil 62 (Go.TypeDesc.func #[] #[22] Bool.false) .nil) 63 (Go.TypeDesc.func #[22, 22] #[4] Bool.false) (.node .nil 64 (Go.TypeDesc.tuple #[32, 29]) .nil)))))) 65 (Go.TypeDesc.func #[3] #[32, 29] Bool.false) (.node (.node (.node (.node (.node (.node (.node .nil 66 (Go.TypeDesc.tuple #[34, 29]) .nil) 67 (Go.TypeDesc.func #[32] #[34, 29] Bool.false) .nil) 68 (Go.TypeDesc.tuple #[32, 33, 4]) (.node .nil 69 (Go.TypeDesc.func #[3] #[32, 33, 4] Bool.false) .nil)) 70 (Go.TypeDesc.tuple #[35, 3]) (.node (.node .nil 71 (Go.TypeDesc.func #[33] #[35, 3] Bool.false) .nil) 72 (Go.TypeDesc.pointer 74) (.node .nil 73 (Go.TypeDesc.struct #[{ name := "s", type := 34, offset := 0, embedded := Bool.false, tag := "", pkgPath := "bailiwick/tree", byteOffset := 0 }, { name := "read", type := 3, offset := 1, embedded := Bool.false, tag := "", pkgPath := "bailiwick/tree", byteOffset := 8 }, { name := "e", type := 29, offset := 2, embedded := Bool.false, tag := "", pkgPath := "bailiwick/tree", byteOffset := 16 }]) .nil))) 74 (Go.TypeDesc.struct #[{ name := "s", type := 34, offset := 0, embedded := Bool.false, tag := "", pkgPath := "bailiwick/tree", byteOffset := 0 }, { name := "read", type := 3, offset := 1, embedded := Bool.false, tag := "", pkgPath := "bailiwick/tree", byteOffset := 8 }, { name := "e", type := 29, offset := 2, embedded := Bool.false, tag := "", pkgPath := "bailiwick/tree", byteOffset := 16 }]) (.node (.node (.node .nil 75 (Go.TypeDesc.func #[3] #[3, 29] Bool.false) .nil) 76 (Go.TypeDesc.func #[79] #[3] Bool.false) (.node .nil 77 (Go.TypeDesc.slice 9) .nil)) 78 (Go.TypeDesc.struct #[{ name := "Leaf", type := 4, offset := 0, embedded := Bool.false, tag := "", pkgPath := "", byteOffset := 0 }, { name := "Keys", type := 27, offset := 1, embedded := Bool.false, tag := "", pkgPath := "", byteOffset := 8 }, { name := "Vals", type := 77, offset := 2, embedded := Bool.false, tag := "", pkgPath := "", byteOffset := 32 }, { name := "Kids", type := 22, offset := 3, embedded := Bool.false, tag := "", pkgPath := "", byteOffset := 56 }]) (.node (.node .nil 79 (Go.TypeDesc.struct #[{ name := "Leaf", type := 4, offset := 0, embedded := Bool.false, tag := "", pkgPath := "", byteOffset := 0 }, { name := "Keys", type := 27, offset := 1, embedded := Bool.false, tag := "", pkgPath := "", byteOffset := 8 }, { name := "Vals", type := 77, offset := 2, embedded := Bool.false, tag := "", pkgPath := "", byteOffset := 32 }, { name := "Kids", type := 22, offset := 3, embedded := Bool.false, tag := "", pkgPath := "", byteOffset := 56 }]) .nil) 80 (Go.TypeDesc.pointer 94) (.node .nil 81 (Go.TypeDesc.func #[3, 38] #[80] Bool.false) .nil)))) 82 (Go.TypeDesc.struct #[{ name := "at", type := 3, offset := 0, embedded := Bool.false, tag := "", pkgPath := "bailiwick/tree", byteOffset := 0 }, { name := "n", type := 79, offset := 1, embedded := Bool.false, tag := "", pkgPath := "bailiwick/tree", byteOffset := 8 }, { name := "i", type := 3, offset := 5, embedded := Bool.false, tag := "", pkgPath := "bailiwick/tree", byteOffset := 88 }]) (.node (.node (.node (.node .nil 83 (Go.TypeDesc.struct #[{ name := "at", type := 3, offset := 0, embedded := Bool.false, tag := "", pkgPath := "bailiwick/tree", byteOffset := 0 }, { name := "n", type := 79, offset := 1, embedded := Bool.false, tag := "", pkgPath := "bailiwick/tree", byteOffset := 8 }, { name := "i", type := 3, offset := 5, embedded := Bool.false, tag := "", pkgPath := "bailiwick/tree", byteOffset := 88 }]) .nil) 84 (Go.TypeDesc.tuple #[83, 4]) (.node .nil 85 (Go.TypeDesc.func #[] #[83, 4] Bool.false) .nil)) 86 (Go.TypeDesc.func #[79, 38, 9] #[79] Bool.false) (.node (.node .nil 87 (Go.TypeDesc.tuple #[79, 38, 79, 4]) .nil) 88 (Go.TypeDesc.func #[79] #[79, 38, 79, 4] Bool.false) (.node .nil 89 (Go.TypeDesc.func #[3, 79] #[3] Bool.false) .nil))) 90 (Go.TypeDesc.func #[79, 3, 38, 3] #[79] Bool.false) (.node (.node (.node .nil 91 (Go.TypeDesc.func #[79, 3] #[79] Bool.false) .nil) 92 (Go.TypeDesc.slice 83) (.node .nil 93 (Go.TypeDesc.struct #[{ name := "l", type := 92, offset := 0, embedded := Bool.false, tag := "", pkgPath := "bailiwick/tree", byteOffset := 0 }]) .nil)) 94 (Go.TypeDesc.struct #[{ name := "l", type := 92, offset := 0, embedded := Bool.false, tag := "", pkgPath := "bailiwick/tree", byteOffset := 0 }]) (.node (.node .nil 95 (Go.TypeDesc.func #[83, 79, 3] #[79] Bool.false) .nil) 96 (Go.TypeDesc.func #[29] #[4] Bool.false) (.node .nil 97 (Go.TypeDesc.func #[9] #[3] Bool.false) .nil))))) 98 (Go.TypeDesc.struct #[{ name := "gen", type := 3, offset := 0, embedded := Bool.false, tag := "", pkgPath := "bailiwick/shadow", byteOffset := 0 }, { name := "root", type := 3, offset := 1, embedded := Bool.false, tag := "", pkgPath := "bailiwick/shadow", byteOffset := 8 }, { name := "used", type := 9, offset := 2, embedded := Bool.false, tag := "", pkgPath := "bailiwick/shadow", byteOffset := 16 }]) (.node (.node (.node (.node (.node .nil 99 (Go.TypeDesc.struct #[{ name := "gen", type := 3, offset := 0, embedded := Bool.false, tag := "", pkgPath := "bailiwick/shadow", byteOffset := 0 }, { name := "root", type := 3, offset := 1, embedded := Bool.false, tag := "", pkgPath := "bailiwick/shadow", byteOffset := 8 }, { name := "used", type := 9, offset := 2, embedded := Bool.false, tag := "", pkgPath := "bailiwick/shadow", byteOffset := 16 }]) .nil) 100 (Go.TypeDesc.map 3 4) (.node .nil 101 (Go.TypeDesc.struct #[{ name := "d", type := 32, offset := 0, embedded := Bool.false, tag := "", pkgPath := "bailiwick/shadow", byteOffset := 0 }, { name := "h", type := 99, offset := 1, embedded := Bool.false, tag := "", pkgPath := "bailiwick/shadow", byteOffset := 8 }, { name := "fresh", type := 100, offset := 4, embedded := Bool.false, tag := "", pkgPath := "bailiwick/shadow", byteOffset := 40 }, { name := "given", type := 100, offset := 5, embedded := Bool.false, tag := "", pkgPath := "bailiwick/shadow", byteOffset := 48 }, { name := "down", type := 4, offset := 6, embedded := Bool.false, tag := "", pkgPath := "bailiwick/shadow", byteOffset := 56 }]) .nil)) 102 (Go.TypeDesc.struct #[{ name := "d", type := 32, offset := 0, embedded := Bool.false, tag := "", pkgPath := "bailiwick/shadow", byteOffset := 0 }, { name := "h", type := 99, offset := 1, embedded := Bool.false, tag := "", pkgPath := "bailiwick/shadow", byteOffset := 8 }, { name := "fresh", type := 100, offset := 4, embedded := Bool.false, tag := "", pkgPath := "bailiwick/shadow", byteOffset := 40 }, { name := "given", type := 100, offset := 5, embedded := Bool.false, tag := "", pkgPath := "bailiwick/shadow", byteOffset := 48 }, { name := "down", type := 4, offset := 6, embedded := Bool.false, tag := "", pkgPath := "bailiwick/shadow", byteOffset := 56 }]) (.node (.node .nil 103 (Go.TypeDesc.tuple #[3, 4]) .nil) 104 (Go.TypeDesc.func #[79, 38] #[3, 4] Bool.false) (.node .nil 105 (Go.TypeDesc.func #[152] #[] Bool.false) .nil))) 106 (Go.TypeDesc.func #[152] #[] Bool.false) (.node (.node (.node .nil 107 (Go.TypeDesc.func #[3, 38] #[106] Bool.false) .nil) 108 (Go.TypeDesc.pointer 111) (.node .nil 109 (Go.TypeDesc.slice 114) .nil)) 110 (Go.TypeDesc.struct #[{ name := "l", type := 109, offset := 0, embedded := Bool.false, tag := "", pkgPath := "bailiwick/tree", byteOffset := 0 }]) (.node (.node .nil 111 (Go.TypeDesc.struct #[{ name := "l", type := 109, offset := 0, embedded := Bool.false, tag := "", pkgPath := "bailiwick/tree", byteOffset := 0 }]) .nil) 112 (Go.TypeDesc.func #[114] #[] Bool.false) (.node .nil 113 (Go.TypeDesc.struct #[{ name := "at", type := 3, offset := 0, embedded := Bool.false, tag := "", pkgPath := "bailiwick/tree", byteOffset := 0 }, { name := "deep", type := 3, offset := 1, embedded := Bool.false, tag := "", pkgPath := "bailiwick/tree", byteOffset := 8 }]) .nil)))) 114 (Go.TypeDesc.struct #[{ name := "at", type := 3, offset := 0, embedded := Bool.false, tag := "", pkgPath := "bailiwick/tree", byteOffset := 0 }, { name := "deep", type := 3, offset := 1, embedded := Bool.false, tag := "", pkgPath := "bailiwick/tree", byteOffset := 8 }]) (.node (.node (.node (.node .nil 115 (Go.TypeDesc.tuple #[114, 4]) .nil) 116 (Go.TypeDesc.func #[] #[114, 4] Bool.false) (.node .nil 117 (Go.TypeDesc.func #[3, 3] #[79] Bool.false) .nil)) 118 (Go.TypeDesc.func #[158] #[] Bool.false) (.node (.node .nil 119 (Go.TypeDesc.func #[158] #[] Bool.false) .nil) 120 (Go.TypeDesc.func #[22] #[119] Bool.false) (.node .nil 121 (Go.TypeDesc.func #[123] #[22] Bool.false) .nil))) 122 (Go.TypeDesc.func #[149] #[] Bool.false) (.node (.node (.node .nil 123 (Go.TypeDesc.func #[149] #[] Bool.false) .nil) 124 (Go.TypeDesc.func #[100] #[123] Bool.false) (.node .nil 125 (Go.TypeDesc.func #[9, 3, 4] #[9] Bool.false) .nil)) 126 (Go.TypeDesc.func #[9, 3] #[4] Bool.false) (.node (.node .nil 127 (Go.TypeDesc.func #[29] #[29] Bool.false) .nil) 128 (Go.TypeDesc.func #[] #[29] Bool.false) (.node .nil 129 (Go.TypeDesc.func #[32] #[29] Bool.false) .nil))))))) 130 (Go.TypeDesc.func #[9, 3] #[9] Bool.false) (.node (.node (.node (.node (.node (.node (.node (.node .nil 131 (Go.TypeDesc.func #[77, 3] #[77] Bool.false) .nil) 132 (Go.TypeDesc.map 3 9) .nil) 133 (Go.TypeDesc.struct #[{ name := "now", type := 77, offset := 0, embedded := Bool.false, tag := "", pkgPath := "bailiwick/disk", byteOffset := 0 }, { name := "was", type := 132, offset := 1, embedded := Bool.false, tag := "", pkgPath := "bailiwick/disk", byteOffset := 24 }, { name := "order", type := 22, offset := 2, embedded := Bool.false, tag := "", pkgPath := "bailiwick/disk", byteOffset := 32 }, { name := "fuse", type := 3, offset := 3, embedded := Bool.false, tag := "", pkgPath := "bailiwick/disk", byteOffset := 56 }, { name := "gone", type := 4, offset := 4, embedded := Bool.false, tag := "", pkgPath := "bailiwick/disk", byteOffset := 64 }]) (.node .nil 134 (Go.TypeDesc.struct #[{ name := "now", type := 77, offset := 0, embedded := Bool.false, tag := "", pkgPath := "bailiwick/disk", byteOffset := 0 }, { name := "was", type := 132, offset := 1, embedded := Bool.false, tag := "", pkgPath := "bailiwick/disk", byteOffset := 24 }, { name := "order", type := 22, offset := 2, embedded := Bool.false, tag := "", pkgPath := "bailiwick/disk", byteOffset := 32 }, { name := "fuse", type := 3, offset := 3, embedded := Bool.false, tag := "", pkgPath := "bailiwick/disk", byteOffset := 56 }, { name := "gone", type := 4, offset := 4, embedded := Bool.false, tag := "", pkgPath := "bailiwick/disk", byteOffset := 64 }]) .nil)) 135 (Go.TypeDesc.func #[32, 99] #[34] Bool.false) (.node (.node .nil 136 (Go.TypeDesc.func #[3] #[33] Bool.false) .nil) 137 (Go.TypeDesc.func #[33, 3, 3, 9] #[3] Bool.false) (.node .nil 138 (Go.TypeDesc.func #[3, 3, 9] #[9] Bool.false) .nil))) 139 (Go.TypeDesc.func #[] #[9] Bool.false) (.node (.node (.node .nil 140 (Go.TypeDesc.struct #[{ name := "D", type := 33, offset := 0, embedded := Bool.false, tag := "", pkgPath := "", byteOffset := 0 }, { name := "Gen", type := 3, offset := 1, embedded := Bool.false, tag := "", pkgPath := "", byteOffset := 8 }, { name := "Root", type := 3, offset := 2, embedded := Bool.false, tag := "", pkgPath := "", byteOffset := 16 }, { name := "Used", type := 9, offset := 3, embedded := Bool.false, tag := "", pkgPath := "", byteOffset := 24 }, { name := "Fresh", type := 9, offset := 4, embedded := Bool.false, tag := "", pkgPath := "", byteOffset := 40 }, { name := "Given", type := 9, offset := 5, embedded := Bool.false, tag := "", pkgPath := "", byteOffset := 56 }, { name := "Gone", type := 4, offset := 6, embedded := Bool.false, tag := "", pkgPath := "", byteOffset := 72 }]) .nil) 141 (Go.TypeDesc.struct #[{ name := "D", type := 33, offset := 0, embedded := Bool.false, tag := "", pkgPath := "", byteOffset := 0 }, { name := "Gen", type := 3, offset := 1, embedded := Bool.false, tag := "", pkgPath := "", byteOffset := 8 }, { name := "Root", type := 3, offset := 2, embedded := Bool.false, tag := "", pkgPath := "", byteOffset := 16 }, { name := "Used", type := 9, offset := 3, embedded := Bool.false, tag := "", pkgPath := "", byteOffset := 24 }, { name := "Fresh", type := 9, offset := 4, embedded := Bool.false, tag := "", pkgPath := "", byteOffset := 40 }, { name := "Given", type := 9, offset := 5, embedded := Bool.false, tag := "", pkgPath := "", byteOffset := 56 }, { name := "Gone", type := 4, offset := 6, embedded := Bool.false, tag := "", pkgPath := "", byteOffset := 72 }]) (.node .nil 142 (Go.TypeDesc.func #[] #[3, 29] Bool.false) .nil)) 143 (Go.TypeDesc.func #[83] #[] Bool.false) (.node (.node .nil 144 (Go.TypeDesc.func #[27, 38] #[3, 4] Bool.false) .nil) 145 (Go.TypeDesc.func #[27, 3, 3, 27] #[27] Bool.true) (.node .nil 146 (Go.TypeDesc.func #[77, 3, 3, 77] #[77] Bool.true) .nil)))) 147 (Go.TypeDesc.func #[22, 3, 3, 22] #[22] Bool.true) (.node (.node (.node (.node .nil 148 (Go.TypeDesc.func #[3] #[79] Bool.false) .nil) 149 (Go.TypeDesc.func #[3] #[4] Bool.false) (.node .nil 150 (Go.TypeDesc.func #[79, 38, 79] #[79] Bool.false) .nil)) 151 (Go.TypeDesc.func #[5] #[3] Bool.false) (.node (.node .nil 152 (Go.TypeDesc.func #[53] #[4] Bool.false) .nil) 153 (Go.TypeDesc.func #[3, 3, 38, 152] #[4] Bool.false) (.node .nil 154 (Go.TypeDesc.tuple #[3, 9, 29]) .nil))) 155 (Go.TypeDesc.func #[3] #[3, 9, 29] Bool.false) (.node (.node (.node .nil 156 (Go.TypeDesc.tuple #[79, 29]) .nil) 157 (Go.TypeDesc.func #[9] #[79, 29] Bool.false) (.node .nil 158 (Go.TypeDesc.func #[3, 3] #[4] Bool.false) .nil)) 159 (Go.TypeDesc.func #[22] #[] Bool.false) (.node (.node .nil 160 (Go.TypeDesc.func #[32, 3, 3, 9] #[29] Bool.false) .nil) 161 (Go.TypeDesc.int Go.IntKind.u64) (.node .nil 162 (Go.TypeDesc.tuple #[161, 161]) .nil))))) 163 (Go.TypeDesc.func #[161, 161] #[161, 161] Bool.false) (.node (.node (.node (.node (.node .nil 164 (Go.TypeDesc.func #[9, 9] #[4] Bool.false) .nil) 165 (Go.TypeDesc.pointer 167) (.node .nil 166 (Go.TypeDesc.struct #[{ name := "addr", type := 165, offset := 0, embedded := Bool.false, tag := "", pkgPath := "strings", byteOffset := 0 }, { name := "buf", type := 45, offset := 1, embedded := Bool.false, tag := "", pkgPath := "strings", byteOffset := 8 }]) .nil)) 167 (Go.TypeDesc.struct #[{ name := "addr", type := 165, offset := 0, embedded := Bool.false, tag := "", pkgPath := "strings", byteOffset := 0 }, { name := "buf", type := 45, offset := 1, embedded := Bool.false, tag := "", pkgPath := "strings", byteOffset := 8 }]) (.node (.node .nil 168 (Go.TypeDesc.func #[3] #[] Bool.false) .nil) 169 (Go.TypeDesc.interface #[("Error", 139)]) (.node .nil 170 (Go.TypeDesc.interface #[("Error", 139)]) .nil))) 171 (Go.TypeDesc.tuple #[3, 170]) (.node (.node (.node .nil 172 (Go.TypeDesc.func #[9] #[3, 170] Bool.false) .nil) 173 (Go.TypeDesc.slice 205) (.node .nil 174 (Go.TypeDesc.struct #[{ name := "S", type := 77, offset := 0, embedded := Bool.false, tag := "", pkgPath := "", byteOffset := 0 }, { name := "L", type := 173, offset := 1, embedded := Bool.false, tag := "", pkgPath := "", byteOffset := 24 }, { name := "Fuse", type := 3, offset := 2, embedded := Bool.false, tag := "", pkgPath := "", byteOffset := 48 }, { name := "Gone", type := 4, offset := 3, embedded := Bool.false, tag := "", pkgPath := "", byteOffset := 56 }]) .nil)) 175 (Go.TypeDesc.struct #[{ name := "S", type := 77, offset := 0, embedded := Bool.false, tag := "", pkgPath := "", byteOffset := 0 }, { name := "L", type := 173, offset := 1, embedded := Bool.false, tag := "", pkgPath := "", byteOffset := 24 }, { name := "Fuse", type := 3, offset := 2, embedded := Bool.false, tag := "", pkgPath := "", byteOffset := 48 }, { name := "Gone", type := 4, offset := 3, embedded := Bool.false, tag := "", pkgPath := "", byteOffset := 56 }]) (.node (.node .nil 176 (Go.TypeDesc.func #[3, 9] #[9, 4] Bool.false) .nil) 177 (Go.TypeDesc.func #[3, 9] #[3] Bool.false) (.node .nil 178 (Go.TypeDesc.func #[38, 3] #[9, 4] Bool.false) .nil)))) 179 (Go.TypeDesc.tuple #[9, 29]) (.node (.node (.node (.node .nil 180 (Go.TypeDesc.func #[79] #[9, 29] Bool.false) .nil) 181 (Go.TypeDesc.func #[3, 3, 9] #[29] Bool.false) (.node .nil 182 (Go.TypeDesc.func #[209] #[27] Bool.true) .nil)) 183 (Go.TypeDesc.func #[211] #[77] Bool.true) (.node (.node .nil 184 (Go.TypeDesc.func #[212] #[22] Bool.true) .nil) 185 (Go.TypeDesc.func #[32, 3] #[3, 9, 29] Bool.false) (.node .nil 186 (Go.TypeDesc.pointer 188) .nil))) 187 (Go.TypeDesc.struct #[{ name := "b", type := 9, offset := 0, embedded := Bool.false, tag := "", pkgPath := "bailiwick/node", byteOffset := 0 }, { name := "bad", type := 4, offset := 1, embedded := Bool.false, tag := "", pkgPath := "bailiwick/node", byteOffset := 16 }]) (.node (.node (.node .nil 188 (Go.TypeDesc.struct #[{ name := "b", type := 9, offset := 0, embedded := Bool.false, tag := "", pkgPath := "bailiwick/node", byteOffset := 0 }, { name := "bad", type := 4, offset := 1, embedded := Bool.false, tag := "", pkgPath := "bailiwick/node", byteOffset := 16 }]) .nil) 189 (Go.TypeDesc.func #[79] #[4] Bool.false) (.node .nil 190 (Go.TypeDesc.func #[22, 123] #[22] Bool.false) .nil)) 191 (Go.TypeDesc.func #[22, 3, 3, 3] #[] Bool.false) (.node (.node .nil 192 (Go.TypeDesc.func #[161] #[3] Bool.false) .nil) 193 (Go.TypeDesc.func #[3, 9] #[9, 29] Bool.false) (.node .nil 194 (Go.TypeDesc.func #[3, 9] #[29] Bool.false) .nil)))))) 195 (Go.TypeDesc.func #[38, 3] #[9, 29] Bool.false) (.node (.node (.node (.node (.node (.node (.node .nil 196 (Go.TypeDesc.int Go.IntKind.u32) .nil) 197 (Go.TypeDesc.tuple #[196, 196]) .nil) 198 (Go.TypeDesc.func #[196, 196] #[196, 196] Bool.false) (.node .nil 199 (Go.TypeDesc.tuple #[38, 38]) .nil)) 200 (Go.TypeDesc.func #[38, 38] #[38, 38] Bool.false) (.node (.node .nil 201 (Go.TypeDesc.pointer 5) .nil) 202 (Go.TypeDesc.func #[196] #[9] Bool.false) (.node .nil 203 (Go.TypeDesc.func #[9] #[196] Bool.false) .nil))) 204 (Go.TypeDesc.struct #[{ name := "N", type := 3, offset := 0, embedded := Bool.false, tag := "", pkgPath := "", byteOffset := 0 }, { name := "S", type := 9, offset := 1, embedded := Bool.false, tag := "", pkgPath := "", byteOffset := 8 }]) (.node (.node (.node .nil 205 (Go.TypeDesc.struct #[{ name := "N", type := 3, offset := 0, embedded := Bool.false, tag := "", pkgPath := "", byteOffset := 0 }, { name := "S", type := 9, offset := 1, embedded := Bool.false, tag := "", pkgPath := "", byteOffset := 8 }]) .nil) 206 (Go.TypeDesc.func #[38, 3] #[] Bool.false) (.node .nil 207 (Go.TypeDesc.func #[5] #[170] Bool.false) .nil)) 208 (Go.TypeDesc.func #[9] #[9, 29] Bool.false) (.node (.node .nil 209 (Go.TypeDesc.slice 27) .nil) 210 (Go.TypeDesc.func #[27, 3] #[27] Bool.false) (.node .nil 211 (Go.TypeDesc.slice 77) .nil)))) 212 (Go.TypeDesc.slice 22) (.node (.node (.node (.node .nil 213 (Go.TypeDesc.func #[22, 3] #[22] Bool.false) .nil) 214 (Go.TypeDesc.func #[3] #[9, 29] Bool.false) (.node .nil 215 (Go.TypeDesc.func #[9] #[3, 9, 29] Bool.false) .nil)) 216 (Go.TypeDesc.tuple #[38, 9, 29]) (.node (.node .nil 217 (Go.TypeDesc.func #[9, 3] #[38, 9, 29] Bool.false) .nil) 218 (Go.TypeDesc.tuple #[9, 9, 29]) (.node .nil 219 (Go.TypeDesc.func #[9] #[9, 9, 29] Bool.false) .nil))) 220 (Go.TypeDesc.func #[22, 3, 3] #[] Bool.false) (.node (.node (.node .nil 221 (Go.TypeDesc.int Go.IntKind.i64) .nil) 222 (Go.TypeDesc.tuple #[3, 221]) (.node .nil 223 (Go.TypeDesc.func #[22, 3, 3] #[3, 221] Bool.false) .nil)) 224 (Go.TypeDesc.func #[22, 3, 3, 3] #[3] Bool.false) (.node (.node .nil 225 (Go.TypeDesc.func #[22, 3, 3, 3] #[3, 4] Bool.false) .nil) 226 (Go.TypeDesc.func #[196] #[3] Bool.false) (.node .nil 227 (Go.TypeDesc.func #[38] #[3] Bool.false) .nil))))) 228 Go.TypeDesc.unsafePointer (.node (.node (.node (.node (.node .nil 229 (Go.TypeDesc.func #[228] #[228] Bool.false) .nil) 230 (Go.TypeDesc.func #[3] #[45] Bool.false) (.node .nil 231 (Go.TypeDesc.func #[9] #[4] Bool.false) .nil)) 232 (Go.TypeDesc.func #[77, 231] #[4] Bool.false) (.node (.node .nil 233 (Go.TypeDesc.func #[22, 149] #[4] Bool.false) .nil) 234 (Go.TypeDesc.int Go.IntKind.u64) (.node .nil 235 (Go.TypeDesc.func #[3] #[161] Bool.false) .nil))) 236 (Go.TypeDesc.func #[] #[38] Bool.false) (.node (.node (.node .nil 237 (Go.TypeDesc.func #[22, 3, 238] #[3] Bool.false) .nil) 238 (Go.TypeDesc.pointer 3) (.node .nil 239 (Go.TypeDesc.func #[22, 3, 3, 3, 238] #[3] Bool.false) .nil)) 240 (Go.TypeDesc.func #[77, 231] #[3] Bool.false) (.node (.node .nil 241 (Go.TypeDesc.func #[22, 149] #[3] Bool.false) .nil) 242 (Go.TypeDesc.pointer 234) (.node .nil 243 (Go.TypeDesc.tuple #[3, 3]) .nil)))) 244 (Go.TypeDesc.func #[22, 3, 3, 238] #[3, 3] Bool.false) (.node (.node (.node (.node .nil 245 (Go.TypeDesc.struct #[{ name := "_interface", type := 17, offset := 0, embedded := Bool.false, tag := "", pkgPath := "runtime", byteOffset := 0 }, { name := "concrete", type := 17, offset := 1, embedded := Bool.false, tag := "", pkgPath := "runtime", byteOffset := 8 }, { name := "asserted", type := 17, offset := 2, embedded := Bool.false, tag := "", pkgPath := "runtime", byteOffset := 16 }, { name := "missingMethod", type := 9, offset := 3, embedded := Bool.false, tag := "", pkgPath := "runtime", byteOffset := 24 }]) .nil) 246 (Go.TypeDesc.struct #[{ name := "_interface", type := 17, offset := 0, embedded := Bool.false, tag := "", pkgPath := "runtime", byteOffset := 0 }, { name := "concrete", type := 17, offset := 1, embedded := Bool.false, tag := "", pkgPath := "runtime", byteOffset := 8 }, { name := "asserted", type := 17, offset := 2, embedded := Bool.false, tag := "", pkgPath := "runtime", byteOffset := 16 }, { name := "missingMethod", type := 9, offset := 3, embedded := Bool.false, tag := "", pkgPath := "runtime", byteOffset := 24 }]) (.node .nil 247 (Go.TypeDesc.array 0 16) .nil)) 248 (Go.TypeDesc.struct #[{ name := "_", type := 247, offset := 0, embedded := Bool.false, tag := "", pkgPath := "runtime", byteOffset := 0 }]) (.node (.node .nil 249 (Go.TypeDesc.struct #[{ name := "_", type := 247, offset := 0, embedded := Bool.false, tag := "", pkgPath := "runtime", byteOffset := 0 }]) .nil) 250 (Go.TypeDesc.int Go.IntKind.u8) (.node .nil 251 (Go.TypeDesc.int Go.IntKind.u8) .nil))) 252 (Go.TypeDesc.func #[228, 228] #[4] Bool.false) (.node (.node (.node .nil 253 (Go.TypeDesc.int Go.IntKind.i32) .nil) 254 (Go.TypeDesc.int Go.IntKind.i32) (.node .nil 255 (Go.TypeDesc.struct #[{ name := "Size_", type := 12, offset := 0, embedded := Bool.false, tag := "", pkgPath := "", byteOffset := 0 }, { name := "PtrBytes", type := 12, offset := 1, embedded := Bool.false, tag := "", pkgPath := "", byteOffset := 8 }, { name := "Hash", type := 196, offset := 2, embedded := Bool.false, tag := "", pkgPath := "", byteOffset := 16 }, { name := "TFlag", type := 250, offset := 3, embedded := Bool.false, tag := "", pkgPath := "", byteOffset := 20 }, { name := "Align_", type := 5, offset := 4, embedded := Bool.false, tag := "", pkgPath := "", byteOffset := 21 }, { name := "FieldAlign_", type := 5, offset := 5, embedded := Bool.false, tag := "", pkgPath := "", byteOffset := 22 }, { name := "Kind_", type := 251, offset := 6, embedded := Bool.false, tag := "", pkgPath := "", byteOffset := 23 }, { name := "Equal", type := 252, offset := 7, embedded := Bool.false, tag := "", pkgPath := "", byteOffset := 24 }, { name := "GCData", type := 201, offset := 8, embedded := Bool.false, tag := "", pkgPath := "", byteOffset := 32 }, { name := "Str", type := 253, offset := 9, embedded := Bool.false, tag := "", pkgPath := "", byteOffset := 40 }, { name := "PtrToThis", type := 254, offset := 10, embedded := Bool.false, tag := "", pkgPath := "", byteOffset := 44 }]) .nil)) 256 (Go.TypeDesc.struct #[{ name := "Size_", type := 12, offset := 0, embedded := Bool.false, tag := "", pkgPath := "", byteOffset := 0 }, { name := "PtrBytes", type := 12, offset := 1, embedded := Bool.false, tag := "", pkgPath := "", byteOffset := 8 }, { name := "Hash", type := 196, offset := 2, embedded := Bool.false, tag := "", pkgPath := "", byteOffset := 16 }, { name := "TFlag", type := 250, offset := 3, embedded := Bool.false, tag := "", pkgPath := "", byteOffset := 20 }, { name := "Align_", type := 5, offset := 4, embedded := Bool.false, tag := "", pkgPath := "", byteOffset := 21 }, { name := "FieldAlign_", type := 5, offset := 5, embedded := Bool.false, tag := "", pkgPath := "", byteOffset := 22 }, { name := "Kind_", type := 251, offset := 6, embedded := Bool.false, tag := "", pkgPath := "", byteOffset := 23 }, { name := "Equal", type := 252, offset := 7, embedded := Bool.false, tag := "", pkgPath := "", byteOffset := 24 }, { name := "GCData", type := 201, offset := 8, embedded := Bool.false, tag := "", pkgPath := "", byteOffset := 32 }, { name := "Str", type := 253, offset := 9, embedded := Bool.false, tag := "", pkgPath := "", byteOffset := 40 }, { name := "PtrToThis", type := 254, offset := 10, embedded := Bool.false, tag := "", pkgPath := "", byteOffset := 44 }]) (.node (.node .nil 257 (Go.TypeDesc.func #[259] #[4] Bool.false) .nil) 258 (Go.TypeDesc.struct #[{ name := "Kind", type := 3, offset := 0, embedded := Bool.false, tag := "", pkgPath := "", byteOffset := 0 }, { name := "Key", type := 38, offset := 1, embedded := Bool.false, tag := "", pkgPath := "", byteOffset := 8 }, { name := "Value", type := 9, offset := 2, embedded := Bool.false, tag := "", pkgPath := "", byteOffset := 16 }, { name := "N", type := 3, offset := 3, embedded := Bool.false, tag := "", pkgPath := "", byteOffset := 32 }, { name := "M", type := 3, offset := 4, embedded := Bool.false, tag := "", pkgPath := "", byteOffset := 40 }]) (.node .nil 259 (Go.TypeDesc.struct #[{ name := "Kind", type := 3, offset := 0, embedded := Bool.false, tag := "", pkgPath := "", byteOffset := 0 }, { name := "Key", type := 38, offset := 1, embedded := Bool.false, tag := "", pkgPath := "", byteOffset := 8 }, { name := "Value", type := 9, offset := 2, embedded := Bool.false, tag := "", pkgPath := "", byteOffset := 16 }, { name := "N", type := 3, offset := 3, embedded := Bool.false, tag := "", pkgPath := "", byteOffset := 32 }, { name := "M", type := 3, offset := 4, embedded := Bool.false, tag := "", pkgPath := "", byteOffset := 40 }]) .nil))))))))
  inf := (.node (.node (.node (.node (.node (.node (.node (.node (.node .nil 0 ((Go.Value.tuple #[]), 1, 0) .nil) 1 (Go.Value.nilFunc, 1, 8) .nil) 2 ((Go.Value.int Go.IntKind.i64 0), 1, 8) (.node .nil 3 ((Go.Value.int Go.IntKind.i64 0), 1, 8) .nil)) 4 ((Go.Value.bool Bool.false), 1, 1) (.node (.node .nil 5 ((Go.Value.int Go.IntKind.u8 0), 1, 1) .nil) 6 ((Go.Value.int Go.IntKind.u8 0), 1, 1) (.node .nil 7 ((Go.Value.agg #[Go.Value.int Go.IntKind.i64 0, Go.Value.int Go.IntKind.i64 0, Go.Value.bool Bool.false, Go.Value.int Go.IntKind.u8 0]), 4, 24) .nil))) 8 ((Go.Value.agg #[Go.Value.int Go.IntKind.i64 0, Go.Value.int Go.IntKind.i64 0, Go.Value.bool Bool.false, Go.Value.int Go.IntKind.u8 0]), 4, 24) (.node (.node (.node .nil 9 ((Go.Value.string { data := #[] }), 1, 16) .nil) 10 ((Go.Value.string { data := #[] }), 1, 16) (.node .nil 11 ((Go.Value.string { data := #[] }), 1, 16) .nil)) 12 ((Go.Value.int Go.IntKind.u64 0), 1, 8) (.node (.node .nil 13 ((Go.Value.agg #[Go.Value.string { data := #[] }, Go.Value.int Go.IntKind.u64 0]), 2, 24) .nil) 14 ((Go.Value.agg #[Go.Value.string { data := #[] }, Go.Value.int Go.IntKind.u64 0]), 2, 24) (.node .nil 15 ((Go.Value.pointer Option.none), 1, 8) .nil)))) 16 ((Go.Value.pointer Option.none), 1, 8) (.node (.node (.node (.node .nil 17 ((Go.Value.pointer Option.none), 1, 8) .nil) 18 ((Go.Value.agg #[Go.Value.pointer Option.none]), 1, 8) (.node .nil 19 ((Go.Value.agg #[Go.Value.pointer Option.none]), 1, 8) .nil)) 20 (Go.Value.nilIface, 1, 16) (.node (.node .nil 21 ((Go.Value.int Go.IntKind.i32 0), 1, 4) .nil) 22 ((Go.Value.slice Option.none 0 0), 1, 24) (.node .nil 23 (Go.Value.nilFunc, 1, 8) .nil))) 24 ((Go.Value.pointer Option.none), 1, 8) (.node (.node (.node .nil 25 ((Go.Value.tuple #[Go.Value.pointer Option.none, Go.Value.bool Bool.false]), 1, 0) .nil) 26 (Go.Value.nilFunc, 1, 8) (.node .nil 27 ((Go.Value.slice Option.none 0 0), 1, 24) .nil)) 28 ((Go.Value.map Option.none), 1, 8) (.node (.node .nil 29 ((Go.Value.int Go.IntKind.i64 0), 1, 8) .nil) 30 ((Go.Value.tuple #[Go.Value.int Go.IntKind.i64 0, Go.Value.int Go.IntKind.i64 0]), 1, 0) (.node .nil 31 (Go.Value.nilFunc, 1, 8) .nil))))) 32 ((Go.Value.pointer Option.none), 1, 8) (.node (.node (.node (.node (.node (.node .nil 33 ((Go.Value.pointer Option.none), 1, 8) .nil) 34 ((Go.Value.pointer Option.none), 1, 8) .nil) 35 ((Go.Value.pointer Option.none), 1, 8) (.node .nil 36 ((Go.Value.agg #[Go.Value.pointer Option.none, Go.Value.pointer Option.none, Go.Value.pointer Option.none, Go.Value.pointer Option.none, Go.Value.int Go.IntKind.i64 0]), 5, 40) .nil)) 37 ((Go.Value.agg #[Go.Value.pointer Option.none, Go.Value.pointer Option.none, Go.Value.pointer Option.none, Go.Value.pointer Option.none, Go.Value.int Go.IntKind.i64 0]), 5, 40) (.node (.node .nil 38 ((Go.Value.int Go.IntKind.u64 0), 1, 8) .nil) 39 (Go.Value.nilFunc, 1, 8) (.node .nil 40 (Go.Value.nilFunc, 1, 8) .nil))) 41 ((Go.Value.tuple #[Go.Value.int Go.IntKind.i64 0, Go.Value.bool Bool.false, Go.Value.int Go.IntKind.i64 0]), 1, 0) (.node (.node (.node .nil 42 (Go.Value.nilFunc, 1, 8) .nil) 43 (Go.Value.nilFunc, 1, 8) (.node .nil 44 (Go.Value.nilFunc, 1, 8) .nil)) 45 ((Go.Value.slice Option.none 0 0), 1, 24) (.node (.node .nil 46 ((Go.Value.tuple #[Go.Value.string { data := #[] }, Go.Value.bool Bool.false, Go.Value.int Go.IntKind.i64 0]), 1, 0) .nil) 47 (Go.Value.nilFunc, 1, 8) (.node .nil 48 (Go.Value.nilFunc, 1, 8) .nil)))) 49 ((Go.Value.slice Option.none 0 0), 1, 24) (.node (.node (.node (.node .nil 50 ((Go.Value.tuple #[Go.Value.slice Option.none 0 0, Go.Value.int Go.IntKind.i64 0]), 1, 0) .nil) 51 (Go.Value.nilFunc, 1, 8) (.node .nil 52 ((Go.Value.agg #[Go.Value.int Go.IntKind.u64 0, Go.Value.string { data := #[] }]), 2, 24) .nil)) 53 ((Go.Value.agg #[Go.Value.int Go.IntKind.u64 0, Go.Value.string { data := #[] }]), 2, 24) (.node (.node .nil 54 (Go.Value.nilFunc, 1, 8) .nil) 55 (Go.Value.nilFunc, 1, 8) (.node .nil 56 (Go.Value.nilFunc, 1, 8) .nil))) 57 ((Go.Value.map Option.none), 1, 8) (.node (.node (.node .nil 58 ((Go.Value.tuple #[Go.Value.string { data := #[] }, Go.Value.bool Bool.false]), 1, 0) .nil) 59 ((Go.Value.tuple #[Go.Value.slice Option.none 0 0, Go.Value.int Go.IntKind.i64 0]), 1, 0) (.node .nil 60 (Go.Value.nilFunc, 1, 8) .nil)) 61 (Go.Value.nilFunc, 1, 8) (.node (.node .nil 62 (Go.Value.nilFunc, 1, 8) .nil) 63 (Go.Value.nilFunc, 1, 8) (.node .nil 64 ((Go.Value.tuple #[Go.Value.pointer Option.none, Go.Value.int Go.IntKind.i64 0]), 1, 0) .nil)))))) 65 (Go.Value.nilFunc, 1, 8) (.node (.node (.node (.node (.node (.node (.node .nil 66 ((Go.Value.tuple #[Go.Value.pointer Option.none, Go.Value.int Go.IntKind.i64 0]), 1, 0) .nil) 67 (Go.Value.nilFunc, 1, 8) .nil) 68 ((Go.Value.tuple #[Go.Value.pointer Option.none, Go.Value.pointer Option.none, Go.Value.bool Bool.false]), 1, 0) (.node .nil 69 (Go.Value.nilFunc, 1, 8) .nil)) 70 ((Go.Value.tuple #[Go.Value.pointer Option.none, Go.Value.int Go.IntKind.i64 0]), 1, 0) (.node (.node .nil 71 (Go.Value.nilFunc, 1, 8) .nil) 72 ((Go.Value.pointer Option.none), 1, 8) (.node .nil 73 ((Go.Value.agg #[Go.Value.pointer Option.none, Go.Value.int Go.IntKind.i64 0, Go.Value.int Go.IntKind.i64 0]), 3, 24) .nil))) 74 ((Go.Value.agg #[Go.Value.pointer Option.none, Go.Value.int Go.IntKind.i64 0, Go.Value.int Go.IntKind.i64 0]), 3, 24) (.node (.node (.node .nil 75 (Go.Value.nilFunc, 1, 8) .nil) 76 (Go.Value.nilFunc, 1, 8) (.node .nil 77 ((Go.Value.slice Option.none 0 0), 1, 24) .nil)) 78 ((Go.Value.agg #[Go.Value.bool Bool.false, Go.Value.slice Option.none 0 0, Go.Value.slice Option.none 0 0, Go.Value.slice Option.none 0 0]), 4, 80) (.node (.node .nil 79 ((Go.Value.agg #[Go.Value.bool Bool.false, Go.Value.slice Option.none 0 0, Go.Value.slice Option.none 0 0, Go.Value.slice Option.none 0 0]), 4, 80) .nil) 80 ((Go.Value.pointer Option.none), 1, 8) (.node .nil 81 (Go.Value.nilFunc, 1, 8) .nil)))) 82 ((Go.Value.agg #[Go.Value.int Go.IntKind.i64 0, Go.Value.bool Bool.false, Go.Value.slice Option.none 0 0, Go.Value.slice Option.none 0 0, Go.Value.slice Option.none 0 0, Go.Value.int Go.IntKind.i64 0]), 6, 96) (.node (.node (.node (.node .nil 83 ((Go.Value.agg #[Go.Value.int Go.IntKind.i64 0, Go.Value.bool Bool.false, Go.Value.slice Option.none 0 0, Go.Value.slice Option.none 0 0, Go.Value.slice Option.none 0 0, Go.Value.int Go.IntKind.i64 0]), 6, 96) .nil) 84 ((Go.Value.tuple #[Go.Value.agg #[Go.Value.int Go.IntKind.i64 0, Go.Value.bool Bool.false, Go.Value.slice Option.none 0 0, Go.Value.slice Option.none 0 0, Go.Value.slice Option.none 0 0, Go.Value.int Go.IntKind.i64 0], Go.Value.bool Bool.false]), 1, 0) (.node .nil 85 (Go.Value.nilFunc, 1, 8) .nil)) 86 (Go.Value.nilFunc, 1, 8) (.node (.node .nil 87 ((Go.Value.tuple #[Go.Value.agg #[Go.Value.bool Bool.false, Go.Value.slice Option.none 0 0, Go.Value.slice Option.none 0 0, Go.Value.slice Option.none 0 0], Go.Value.int Go.IntKind.u64 0, Go.Value.agg #[Go.Value.bool Bool.false, Go.Value.slice Option.none 0 0, Go.Value.slice Option.none 0 0, Go.Value.slice Option.none 0 0], Go.Value.bool Bool.false]), 1, 0) .nil) 88 (Go.Value.nilFunc, 1, 8) (.node .nil 89 (Go.Value.nilFunc, 1, 8) .nil))) 90 (Go.Value.nilFunc, 1, 8) (.node (.node (.node .nil 91 (Go.Value.nilFunc, 1, 8) .nil) 92 ((Go.Value.slice Option.none 0 0), 1, 24) (.node .nil 93 ((Go.Value.agg #[Go.Value.slice Option.none 0 0]), 1, 24) .nil)) 94 ((Go.Value.agg #[Go.Value.slice Option.none 0 0]), 1, 24) (.node (.node .nil 95 (Go.Value.nilFunc, 1, 8) .nil) 96 (Go.Value.nilFunc, 1, 8) (.node .nil 97 (Go.Value.nilFunc, 1, 8) .nil))))) 98 ((Go.Value.agg #[Go.Value.int Go.IntKind.i64 0, Go.Value.int Go.IntKind.i64 0, Go.Value.string { data := #[] }]), 3, 32) (.node (.node (.node (.node (.node .nil 99 ((Go.Value.agg #[Go.Value.int Go.IntKind.i64 0, Go.Value.int Go.IntKind.i64 0, Go.Value.string { data := #[] }]), 3, 32) .nil) 100 ((Go.Value.map Option.none), 1, 8) (.node .nil 101 ((Go.Value.agg #[Go.Value.pointer Option.none, Go.Value.int Go.IntKind.i64 0, Go.Value.int Go.IntKind.i64 0, Go.Value.string { data := #[] }, Go.Value.map Option.none, Go.Value.map Option.none, Go.Value.bool Bool.false]), 7, 64) .nil)) 102 ((Go.Value.agg #[Go.Value.pointer Option.none, Go.Value.int Go.IntKind.i64 0, Go.Value.int Go.IntKind.i64 0, Go.Value.string { data := #[] }, Go.Value.map Option.none, Go.Value.map Option.none, Go.Value.bool Bool.false]), 7, 64) (.node (.node .nil 103 ((Go.Value.tuple #[Go.Value.int Go.IntKind.i64 0, Go.Value.bool Bool.false]), 1, 0) .nil) 104 (Go.Value.nilFunc, 1, 8) (.node .nil 105 (Go.Value.nilFunc, 1, 8) .nil))) 106 (Go.Value.nilFunc, 1, 8) (.node (.node (.node .nil 107 (Go.Value.nilFunc, 1, 8) .nil) 108 ((Go.Value.pointer Option.none), 1, 8) (.node .nil 109 ((Go.Value.slice Option.none 0 0), 1, 24) .nil)) 110 ((Go.Value.agg #[Go.Value.slice Option.none 0 0]), 1, 24) (.node (.node .nil 111 ((Go.Value.agg #[Go.Value.slice Option.none 0 0]), 1, 24) .nil) 112 (Go.Value.nilFunc, 1, 8) (.node .nil 113 ((Go.Value.agg #[Go.Value.int Go.IntKind.i64 0, Go.Value.int Go.IntKind.i64 0]), 2, 16) .nil)))) 114 ((Go.Value.agg #[Go.Value.int Go.IntKind.i64 0, Go.Value.int Go.IntKind.i64 0]), 2, 16) (.node (.node (.node (.node .nil 115 ((Go.Value.tuple #[Go.Value.agg #[Go.Value.int Go.IntKind.i64 0, Go.Value.int Go.IntKind.i64 0], Go.Value.bool Bool.false]), 1, 0) .nil) 116 (Go.Value.nilFunc, 1, 8) (.node .nil 117 (Go.Value.nilFunc, 1, 8) .nil)) 118 (Go.Value.nilFunc, 1, 8) (.node (.node .nil 119 (Go.Value.nilFunc, 1, 8) .nil) 120 (Go.Value.nilFunc, 1, 8) (.node .nil 121 (Go.Value.nilFunc, 1, 8) .nil))) 122 (Go.Value.nilFunc, 1, 8) (.node (.node (.node .nil 123 (Go.Value.nilFunc, 1, 8) .nil) 124 (Go.Value.nilFunc, 1, 8) (.node .nil 125 (Go.Value.nilFunc, 1, 8) .nil)) 126 (Go.Value.nilFunc, 1, 8) (.node (.node .nil 127 (Go.Value.nilFunc, 1, 8) .nil) 128 (Go.Value.nilFunc, 1, 8) (.node .nil 129 (Go.Value.nilFunc, 1, 8) .nil))))))) 130 (Go.Value.nilFunc, 1, 8) (.node (.node (.node (.node (.node (.node (.node (.node .nil 131 (Go.Value.nilFunc, 1, 8) .nil) 132 ((Go.Value.map Option.none), 1, 8) .nil) 133 ((Go.Value.agg #[Go.Value.slice Option.none 0 0, Go.Value.map Option.none, Go.Value.slice Option.none 0 0, Go.Value.int Go.IntKind.i64 0, Go.Value.bool Bool.false]), 5, 72) (.node .nil 134 ((Go.Value.agg #[Go.Value.slice Option.none 0 0, Go.Value.map Option.none, Go.Value.slice Option.none 0 0, Go.Value.int Go.IntKind.i64 0, Go.Value.bool Bool.false]), 5, 72) .nil)) 135 (Go.Value.nilFunc, 1, 8) (.node (.node .nil 136 (Go.Value.nilFunc, 1, 8) .nil) 137 (Go.Value.nilFunc, 1, 8) (.node .nil 138 (Go.Value.nilFunc, 1, 8) .nil))) 139 (Go.Value.nilFunc, 1, 8) (.node (.node (.node .nil 140 ((Go.Value.agg #[Go.Value.pointer Option.none, Go.Value.int Go.IntKind.i64 0, Go.Value.int Go.IntKind.i64 0, Go.Value.string { data := #[] }, Go.Value.string { data := #[] }, Go.Value.string { data := #[] }, Go.Value.bool Bool.false]), 7, 80) .nil) 141 ((Go.Value.agg #[Go.Value.pointer Option.none, Go.Value.int Go.IntKind.i64 0, Go.Value.int Go.IntKind.i64 0, Go.Value.string { data := #[] }, Go.Value.string { data := #[] }, Go.Value.string { data := #[] }, Go.Value.bool Bool.false]), 7, 80) (.node .nil 142 (Go.Value.nilFunc, 1, 8) .nil)) 143 (Go.Value.nilFunc, 1, 8) (.node (.node .nil 144 (Go.Value.nilFunc, 1, 8) .nil) 145 (Go.Value.nilFunc, 1, 8) (.node .nil 146 (Go.Value.nilFunc, 1, 8) .nil)))) 147 (Go.Value.nilFunc, 1, 8) (.node (.node (.node (.node .nil 148 (Go.Value.nilFunc, 1, 8) .nil) 149 (Go.Value.nilFunc, 1, 8) (.node .nil 150 (Go.Value.nilFunc, 1, 8) .nil)) 151 (Go.Value.nilFunc, 1, 8) (.node (.node .nil 152 (Go.Value.nilFunc, 1, 8) .nil) 153 (Go.Value.nilFunc, 1, 8) (.node .nil 154 ((Go.Value.tuple #[Go.Value.int Go.IntKind.i64 0, Go.Value.string { data := #[] }, Go.Value.int Go.IntKind.i64 0]), 1, 0) .nil))) 155 (Go.Value.nilFunc, 1, 8) (.node (.node (.node .nil 156 ((Go.Value.tuple #[Go.Value.agg #[Go.Value.bool Bool.false, Go.Value.slice Option.none 0 0, Go.Value.slice Option.none 0 0, Go.Value.slice Option.none 0 0], Go.Value.int Go.IntKind.i64 0]), 1, 0) .nil) 157 (Go.Value.nilFunc, 1, 8) (.node .nil 158 (Go.Value.nilFunc, 1, 8) .nil)) 159 (Go.Value.nilFunc, 1, 8) (.node (.node .nil 160 (Go.Value.nilFunc, 1, 8) .nil) 161 ((Go.Value.int Go.IntKind.u64 0), 1, 8) (.node .nil 162 ((Go.Value.tuple #[Go.Value.int Go.IntKind.u64 0, Go.Value.int Go.IntKind.u64 0]), 1, 0) .nil))))) 163 (Go.Value.nilFunc, 1, 8) (.node (.node (.node (.node (.node .nil 164 (Go.Value.nilFunc, 1, 8) .nil) 165 ((Go.Value.pointer Option.none), 1, 8) (.node .nil 166 ((Go.Value.agg #[Go.Value.pointer Option.none, Go.Value.slice Option.none 0 0]), 2, 32) .nil)) 167 ((Go.Value.agg #[Go.Value.pointer Option.none, Go.Value.slice Option.none 0 0]), 2, 32) (.node (.node .nil 168 (Go.Value.nilFunc, 1, 8) .nil) 169 (Go.Value.nilIface, 1, 16) (.node .nil 170 (Go.Value.nilIface, 1, 16) .nil))) 171 ((Go.Value.tuple #[Go.Value.int Go.IntKind.i64 0, Go.Value.nilIface]), 1, 0) (.node (.node (.node .nil 172 (Go.Value.nilFunc, 1, 8) .nil) 173 ((Go.Value.slice Option.none 0 0), 1, 24) (.node .nil 174 ((Go.Value.agg #[Go.Value.slice Option.none 0 0, Go.Value.slice Option.none 0 0, Go.Value.int Go.IntKind.i64 0, Go.Value.bool Bool.false]), 4, 64) .nil)) 175 ((Go.Value.agg #[Go.Value.slice Option.none 0 0, Go.Value.slice Option.none 0 0, Go.Value.int Go.IntKind.i64 0, Go.Value.bool Bool.false]), 4, 64) (.node (.node .nil 176 (Go.Value.nilFunc, 1, 8) .nil) 177 (Go.Value.nilFunc, 1, 8) (.node .nil 178 (Go.Value.nilFunc, 1, 8) .nil)))) 179 ((Go.Value.tuple #[Go.Value.string { data := #[] }, Go.Value.int Go.IntKind.i64 0]), 1, 0) (.node (.node (.node (.node .nil 180 (Go.Value.nilFunc, 1, 8) .nil) 181 (Go.Value.nilFunc, 1, 8) (.node .nil 182 (Go.Value.nilFunc, 1, 8) .nil)) 183 (Go.Value.nilFunc, 1, 8) (.node (.node .nil 184 (Go.Value.nilFunc, 1, 8) .nil) 185 (Go.Value.nilFunc, 1, 8) (.node .nil 186 ((Go.Value.pointer Option.none), 1, 8) .nil))) 187 ((Go.Value.agg #[Go.Value.string { data := #[] }, Go.Value.bool Bool.false]), 2, 24) (.node (.node (.node .nil 188 ((Go.Value.agg #[Go.Value.string { data := #[] }, Go.Value.bool Bool.false]), 2, 24) .nil) 189 (Go.Value.nilFunc, 1, 8) (.node .nil 190 (Go.Value.nilFunc, 1, 8) .nil)) 191 (Go.Value.nilFunc, 1, 8) (.node (.node .nil 192 (Go.Value.nilFunc, 1, 8) .nil) 193 (Go.Value.nilFunc, 1, 8) (.node .nil 194 (Go.Value.nilFunc, 1, 8) .nil)))))) 195 (Go.Value.nilFunc, 1, 8) (.node (.node (.node (.node (.node (.node (.node .nil 196 ((Go.Value.int Go.IntKind.u32 0), 1, 4) .nil) 197 ((Go.Value.tuple #[Go.Value.int Go.IntKind.u32 0, Go.Value.int Go.IntKind.u32 0]), 1, 0) .nil) 198 (Go.Value.nilFunc, 1, 8) (.node .nil 199 ((Go.Value.tuple #[Go.Value.int Go.IntKind.u64 0, Go.Value.int Go.IntKind.u64 0]), 1, 0) .nil)) 200 (Go.Value.nilFunc, 1, 8) (.node (.node .nil 201 ((Go.Value.pointer Option.none), 1, 8) .nil) 202 (Go.Value.nilFunc, 1, 8) (.node .nil 203 (Go.Value.nilFunc, 1, 8) .nil))) 204 ((Go.Value.agg #[Go.Value.int Go.IntKind.i64 0, Go.Value.string { data := #[] }]), 2, 24) (.node (.node (.node .nil 205 ((Go.Value.agg #[Go.Value.int Go.IntKind.i64 0, Go.Value.string { data := #[] }]), 2, 24) .nil) 206 (Go.Value.nilFunc, 1, 8) (.node .nil 207 (Go.Value.nilFunc, 1, 8) .nil)) 208 (Go.Value.nilFunc, 1, 8) (.node (.node .nil 209 ((Go.Value.slice Option.none 0 0), 1, 24) .nil) 210 (Go.Value.nilFunc, 1, 8) (.node .nil 211 ((Go.Value.slice Option.none 0 0), 1, 24) .nil)))) 212 ((Go.Value.slice Option.none 0 0), 1, 24) (.node (.node (.node (.node .nil 213 (Go.Value.nilFunc, 1, 8) .nil) 214 (Go.Value.nilFunc, 1, 8) (.node .nil 215 (Go.Value.nilFunc, 1, 8) .nil)) 216 ((Go.Value.tuple #[Go.Value.int Go.IntKind.u64 0, Go.Value.string { data := #[] }, Go.Value.int Go.IntKind.i64 0]), 1, 0) (.node (.node .nil 217 (Go.Value.nilFunc, 1, 8) .nil) 218 ((Go.Value.tuple #[Go.Value.string { data := #[] }, Go.Value.string { data := #[] }, Go.Value.int Go.IntKind.i64 0]), 1, 0) (.node .nil 219 (Go.Value.nilFunc, 1, 8) .nil))) 220 (Go.Value.nilFunc, 1, 8) (.node (.node (.node .nil 221 ((Go.Value.int Go.IntKind.i64 0), 1, 8) .nil) 222 ((Go.Value.tuple #[Go.Value.int Go.IntKind.i64 0, Go.Value.int Go.IntKind.i64 0]), 1, 0) (.node .nil 223 (Go.Value.nilFunc, 1, 8) .nil)) 224 (Go.Value.nilFunc, 1, 8) (.node (.node .nil 225 (Go.Value.nilFunc, 1, 8) .nil) 226 (Go.Value.nilFunc, 1, 8) (.node .nil 227 (Go.Value.nilFunc, 1, 8) .nil))))) 228 ((Go.Value.pointer Option.none), 1, 8) (.node (.node (.node (.node (.node .nil 229 (Go.Value.nilFunc, 1, 8) .nil) 230 (Go.Value.nilFunc, 1, 8) (.node .nil 231 (Go.Value.nilFunc, 1, 8) .nil)) 232 (Go.Value.nilFunc, 1, 8) (.node (.node .nil 233 (Go.Value.nilFunc, 1, 8) .nil) 234 ((Go.Value.int Go.IntKind.u64 0), 1, 8) (.node .nil 235 (Go.Value.nilFunc, 1, 8) .nil))) 236 (Go.Value.nilFunc, 1, 8) (.node (.node (.node .nil 237 (Go.Value.nilFunc, 1, 8) .nil) 238 ((Go.Value.pointer Option.none), 1, 8) (.node .nil 239 (Go.Value.nilFunc, 1, 8) .nil)) 240 (Go.Value.nilFunc, 1, 8) (.node (.node .nil 241 (Go.Value.nilFunc, 1, 8) .nil) 242 ((Go.Value.pointer Option.none), 1, 8) (.node .nil 243 ((Go.Value.tuple #[Go.Value.int Go.IntKind.i64 0, Go.Value.int Go.IntKind.i64 0]), 1, 0) .nil)))) 244 (Go.Value.nilFunc, 1, 8) (.node (.node (.node (.node .nil 245 ((Go.Value.agg #[Go.Value.pointer Option.none, Go.Value.pointer Option.none, Go.Value.pointer Option.none, Go.Value.string { data := #[] }]), 4, 40) .nil) 246 ((Go.Value.agg #[Go.Value.pointer Option.none, Go.Value.pointer Option.none, Go.Value.pointer Option.none, Go.Value.string { data := #[] }]), 4, 40) (.node .nil 247 ((Go.Value.agg #[]), 0, 0) .nil)) 248 ((Go.Value.agg #[]), 0, 0) (.node (.node .nil 249 ((Go.Value.agg #[]), 0, 0) .nil) 250 ((Go.Value.int Go.IntKind.u8 0), 1, 1) (.node .nil 251 ((Go.Value.int Go.IntKind.u8 0), 1, 1) .nil))) 252 (Go.Value.nilFunc, 1, 8) (.node (.node (.node .nil 253 ((Go.Value.int Go.IntKind.i32 0), 1, 4) .nil) 254 ((Go.Value.int Go.IntKind.i32 0), 1, 4) (.node .nil 255 ((Go.Value.agg #[Go.Value.int Go.IntKind.u64 0, Go.Value.int Go.IntKind.u64 0, Go.Value.int Go.IntKind.u32 0, Go.Value.int Go.IntKind.u8 0, Go.Value.int Go.IntKind.u8 0, Go.Value.int Go.IntKind.u8 0, Go.Value.int Go.IntKind.u8 0, Go.Value.nilFunc, Go.Value.pointer Option.none, Go.Value.int Go.IntKind.i32 0, Go.Value.int Go.IntKind.i32 0]), 11, 48) .nil)) 256 ((Go.Value.agg #[Go.Value.int Go.IntKind.u64 0, Go.Value.int Go.IntKind.u64 0, Go.Value.int Go.IntKind.u32 0, Go.Value.int Go.IntKind.u8 0, Go.Value.int Go.IntKind.u8 0, Go.Value.int Go.IntKind.u8 0, Go.Value.int Go.IntKind.u8 0, Go.Value.nilFunc, Go.Value.pointer Option.none, Go.Value.int Go.IntKind.i32 0, Go.Value.int Go.IntKind.i32 0]), 11, 48) (.node (.node .nil 257 (Go.Value.nilFunc, 1, 8) .nil) 258 ((Go.Value.agg #[Go.Value.int Go.IntKind.i64 0, Go.Value.int Go.IntKind.u64 0, Go.Value.string { data := #[] }, Go.Value.int Go.IntKind.i64 0, Go.Value.int Go.IntKind.i64 0]), 5, 48) (.node .nil 259 ((Go.Value.agg #[Go.Value.int Go.IntKind.i64 0, Go.Value.int Go.IntKind.u64 0, Go.Value.string { data := #[] }, Go.Value.int Go.IntKind.i64 0, Go.Value.int Go.IntKind.i64 0]), 5, 48) .nil))))))))
theorem inf0 : (Tryz.prog.info? 0).map (fun i => (i.zero, i.size, i.bytes)) = some (some (Go.Value.tuple #[]), 1, 0) := by kernel_rfl
theorem inf1 : (Tryz.prog.info? 1).map (fun i => (i.zero, i.size, i.bytes)) = some (some Go.Value.nilFunc, 1, 8) := by kernel_rfl
theorem inf2 : (Tryz.prog.info? 2).map (fun i => (i.zero, i.size, i.bytes)) = some (some (Go.Value.int Go.IntKind.i64 0), 1, 8) := by kernel_rfl
theorem inf3 : (Tryz.prog.info? 3).map (fun i => (i.zero, i.size, i.bytes)) = some (some (Go.Value.int Go.IntKind.i64 0), 1, 8) := by kernel_rfl
theorem inf4 : (Tryz.prog.info? 4).map (fun i => (i.zero, i.size, i.bytes)) = some (some (Go.Value.bool Bool.false), 1, 1) := by kernel_rfl
theorem inf5 : (Tryz.prog.info? 5).map (fun i => (i.zero, i.size, i.bytes)) = some (some (Go.Value.int Go.IntKind.u8 0), 1, 1) := by kernel_rfl
theorem inf6 : (Tryz.prog.info? 6).map (fun i => (i.zero, i.size, i.bytes)) = some (some (Go.Value.int Go.IntKind.u8 0), 1, 1) := by kernel_rfl
theorem inf7 : (Tryz.prog.info? 7).map (fun i => (i.zero, i.size, i.bytes)) = some (some (Go.Value.agg #[Go.Value.int Go.IntKind.i64 0, Go.Value.int Go.IntKind.i64 0, Go.Value.bool Bool.false, Go.Value.int Go.IntKind.u8 0]), 4, 24) := by kernel_rfl
theorem inf8 : (Tryz.prog.info? 8).map (fun i => (i.zero, i.size, i.bytes)) = some (some (Go.Value.agg #[Go.Value.int Go.IntKind.i64 0, Go.Value.int Go.IntKind.i64 0, Go.Value.bool Bool.false, Go.Value.int Go.IntKind.u8 0]), 4, 24) := by kernel_rfl
theorem inf9 : (Tryz.prog.info? 9).map (fun i => (i.zero, i.size, i.bytes)) = some (some (Go.Value.string { data := #[] }), 1, 16) := by kernel_rfl
theorem inf10 : (Tryz.prog.info? 10).map (fun i => (i.zero, i.size, i.bytes)) = some (some (Go.Value.string { data := #[] }), 1, 16) := by kernel_rfl
theorem inf11 : (Tryz.prog.info? 11).map (fun i => (i.zero, i.size, i.bytes)) = some (some (Go.Value.string { data := #[] }), 1, 16) := by kernel_rfl
theorem inf12 : (Tryz.prog.info? 12).map (fun i => (i.zero, i.size, i.bytes)) = some (some (Go.Value.int Go.IntKind.u64 0), 1, 8) := by kernel_rfl
theorem inf13 : (Tryz.prog.info? 13).map (fun i => (i.zero, i.size, i.bytes)) = some (some (Go.Value.agg #[Go.Value.string { data := #[] }, Go.Value.int Go.IntKind.u64 0]), 2, 24) := by kernel_rfl
theorem inf14 : (Tryz.prog.info? 14).map (fun i => (i.zero, i.size, i.bytes)) = some (some (Go.Value.agg #[Go.Value.string { data := #[] }, Go.Value.int Go.IntKind.u64 0]), 2, 24) := by kernel_rfl
theorem inf15 : (Tryz.prog.info? 15).map (fun i => (i.zero, i.size, i.bytes)) = some (some (Go.Value.pointer Option.none), 1, 8) := by kernel_rfl
theorem inf16 : (Tryz.prog.info? 16).map (fun i => (i.zero, i.size, i.bytes)) = some (some (Go.Value.pointer Option.none), 1, 8) := by kernel_rfl
theorem inf17 : (Tryz.prog.info? 17).map (fun i => (i.zero, i.size, i.bytes)) = some (some (Go.Value.pointer Option.none), 1, 8) := by kernel_rfl
theorem inf18 : (Tryz.prog.info? 18).map (fun i => (i.zero, i.size, i.bytes)) = some (some (Go.Value.agg #[Go.Value.pointer Option.none]), 1, 8) := by kernel_rfl
theorem inf19 : (Tryz.prog.info? 19).map (fun i => (i.zero, i.size, i.bytes)) = some (some (Go.Value.agg #[Go.Value.pointer Option.none]), 1, 8) := by kernel_rfl
theorem inf20 : (Tryz.prog.info? 20).map (fun i => (i.zero, i.size, i.bytes)) = some (some Go.Value.nilIface, 1, 16) := by kernel_rfl
theorem inf21 : (Tryz.prog.info? 21).map (fun i => (i.zero, i.size, i.bytes)) = some (some (Go.Value.int Go.IntKind.i32 0), 1, 4) := by kernel_rfl
theorem inf22 : (Tryz.prog.info? 22).map (fun i => (i.zero, i.size, i.bytes)) = some (some (Go.Value.slice Option.none 0 0), 1, 24) := by kernel_rfl
theorem inf23 : (Tryz.prog.info? 23).map (fun i => (i.zero, i.size, i.bytes)) = some (some Go.Value.nilFunc, 1, 8) := by kernel_rfl
theorem inf24 : (Tryz.prog.info? 24).map (fun i => (i.zero, i.size, i.bytes)) = some (some (Go.Value.pointer Option.none), 1, 8) := by kernel_rfl
theorem inf25 : (Tryz.prog.info? 25).map (fun i => (i.zero, i.size, i.bytes)) = some (some (Go.Value.tuple #[Go.Value.pointer Option.none, Go.Value.bool Bool.false]), 1, 0) := by kernel_rfl
theorem inf26 : (Tryz.prog.info? 26).map (fun i => (i.zero, i.size, i.bytes)) = some (some Go.Value.nilFunc, 1, 8) := by kernel_rfl
theorem inf27 : (Tryz.prog.info? 27).map (fun i => (i.zero, i.size, i.bytes)) = some (some (Go.Value.slice Option.none 0 0), 1, 24) := by kernel_rfl
theorem inf28 : (Tryz.prog.info? 28).map (fun i => (i.zero, i.size, i.bytes)) = some (some (Go.Value.map Option.none), 1, 8) := by kernel_rfl
theorem inf29 : (Tryz.prog.info? 29).map (fun i => (i.zero, i.size, i.bytes)) = some (some (Go.Value.int Go.IntKind.i64 0), 1, 8) := by kernel_rfl
theorem inf30 : (Tryz.prog.info? 30).map (fun i => (i.zero, i.size, i.bytes)) = some (some (Go.Value.tuple #[Go.Value.int Go.IntKind.i64 0, Go.Value.int Go.IntKind.i64 0]), 1, 0) := by kernel_rfl
theorem inf31 : (Tryz.prog.info? 31).map (fun i => (i.zero, i.size, i.bytes)) = some (some Go.Value.nilFunc, 1, 8) := by kernel_rfl
theorem inf32 : (Tryz.prog.info? 32).map (fun i => (i.zero, i.size, i.bytes)) = some (some (Go.Value.pointer Option.none), 1, 8) := by kernel_rfl
theorem inf33 : (Tryz.prog.info? 33).map (fun i => (i.zero, i.size, i.bytes)) = some (some (Go.Value.pointer Option.none), 1, 8) := by kernel_rfl
theorem inf34 : (Tryz.prog.info? 34).map (fun i => (i.zero, i.size, i.bytes)) = some (some (Go.Value.pointer Option.none), 1, 8) := by kernel_rfl
theorem inf35 : (Tryz.prog.info? 35).map (fun i => (i.zero, i.size, i.bytes)) = some (some (Go.Value.pointer Option.none), 1, 8) := by kernel_rfl
theorem inf36 : (Tryz.prog.info? 36).map (fun i => (i.zero, i.size, i.bytes)) = some (some (Go.Value.agg #[Go.Value.pointer Option.none, Go.Value.pointer Option.none, Go.Value.pointer Option.none, Go.Value.pointer Option.none, Go.Value.int Go.IntKind.i64 0]), 5, 40) := by kernel_rfl
theorem inf37 : (Tryz.prog.info? 37).map (fun i => (i.zero, i.size, i.bytes)) = some (some (Go.Value.agg #[Go.Value.pointer Option.none, Go.Value.pointer Option.none, Go.Value.pointer Option.none, Go.Value.pointer Option.none, Go.Value.int Go.IntKind.i64 0]), 5, 40) := by kernel_rfl
theorem inf38 : (Tryz.prog.info? 38).map (fun i => (i.zero, i.size, i.bytes)) = some (some (Go.Value.int Go.IntKind.u64 0), 1, 8) := by kernel_rfl
theorem inf39 : (Tryz.prog.info? 39).map (fun i => (i.zero, i.size, i.bytes)) = some (some Go.Value.nilFunc, 1, 8) := by kernel_rfl
theorem inf40 : (Tryz.prog.info? 40).map (fun i => (i.zero, i.size, i.bytes)) = some (some Go.Value.nilFunc, 1, 8) := by kernel_rfl
theorem inf41 : (Tryz.prog.info? 41).map (fun i => (i.zero, i.size, i.bytes)) = some (some (Go.Value.tuple #[Go.Value.int Go.IntKind.i64 0, Go.Value.bool Bool.false, Go.Value.int Go.IntKind.i64 0]), 1, 0) := by kernel_rfl
theorem inf42 : (Tryz.prog.info? 42).map (fun i => (i.zero, i.size, i.bytes)) = some (some Go.Value.nilFunc, 1, 8) := by kernel_rfl
theorem inf43 : (Tryz.prog.info? 43).map (fun i => (i.zero, i.size, i.bytes)) = some (some Go.Value.nilFunc, 1, 8) := by kernel_rfl
theorem inf44 : (Tryz.prog.info? 44).map (fun i => (i.zero, i.size, i.bytes)) = some (some Go.Value.nilFunc, 1, 8) := by kernel_rfl
theorem inf45 : (Tryz.prog.info? 45).map (fun i => (i.zero, i.size, i.bytes)) = some (some (Go.Value.slice Option.none 0 0), 1, 24) := by kernel_rfl
theorem inf46 : (Tryz.prog.info? 46).map (fun i => (i.zero, i.size, i.bytes)) = some (some (Go.Value.tuple #[Go.Value.string { data := #[] }, Go.Value.bool Bool.false, Go.Value.int Go.IntKind.i64 0]), 1, 0) := by kernel_rfl
theorem inf47 : (Tryz.prog.info? 47).map (fun i => (i.zero, i.size, i.bytes)) = some (some Go.Value.nilFunc, 1, 8) := by kernel_rfl
theorem inf48 : (Tryz.prog.info? 48).map (fun i => (i.zero, i.size, i.bytes)) = some (some Go.Value.nilFunc, 1, 8) := by kernel_rfl
theorem inf49 : (Tryz.prog.info? 49).map (fun i => (i.zero, i.size, i.bytes)) = some (some (Go.Value.slice Option.none 0 0), 1, 24) := by kernel_rfl
theorem inf50 : (Tryz.prog.info? 50).map (fun i => (i.zero, i.size, i.bytes)) = some (some (Go.Value.tuple #[Go.Value.slice Option.none 0 0, Go.Value.int Go.IntKind.i64 0]), 1, 0) := by kernel_rfl
theorem inf51 : (Tryz.prog.info? 51).map (fun i => (i.zero, i.size, i.bytes)) = some (some Go.Value.nilFunc, 1, 8) := by kernel_rfl
theorem inf52 : (Tryz.prog.info? 52).map (fun i => (i.zero, i.size, i.bytes)) = some (some (Go.Value.agg #[Go.Value.int Go.IntKind.u64 0, Go.Value.string { data := #[] }]), 2, 24) := by kernel_rfl
theorem inf53 : (Tryz.prog.info? 53).map (fun i => (i.zero, i.size, i.bytes)) = some (some (Go.Value.agg #[Go.Value.int Go.IntKind.u64 0, Go.Value.string { data := #[] }]), 2, 24) := by kernel_rfl
theorem inf54 : (Tryz.prog.info? 54).map (fun i => (i.zero, i.size, i.bytes)) = some (some Go.Value.nilFunc, 1, 8) := by kernel_rfl
theorem inf55 : (Tryz.prog.info? 55).map (fun i => (i.zero, i.size, i.bytes)) = some (some Go.Value.nilFunc, 1, 8) := by kernel_rfl
theorem inf56 : (Tryz.prog.info? 56).map (fun i => (i.zero, i.size, i.bytes)) = some (some Go.Value.nilFunc, 1, 8) := by kernel_rfl
theorem inf57 : (Tryz.prog.info? 57).map (fun i => (i.zero, i.size, i.bytes)) = some (some (Go.Value.map Option.none), 1, 8) := by kernel_rfl
theorem inf58 : (Tryz.prog.info? 58).map (fun i => (i.zero, i.size, i.bytes)) = some (some (Go.Value.tuple #[Go.Value.string { data := #[] }, Go.Value.bool Bool.false]), 1, 0) := by kernel_rfl
theorem inf59 : (Tryz.prog.info? 59).map (fun i => (i.zero, i.size, i.bytes)) = some (some (Go.Value.tuple #[Go.Value.slice Option.none 0 0, Go.Value.int Go.IntKind.i64 0]), 1, 0) := by kernel_rfl
theorem inf60 : (Tryz.prog.info? 60).map (fun i => (i.zero, i.size, i.bytes)) = some (some Go.Value.nilFunc, 1, 8) := by kernel_rfl
theorem inf61 : (Tryz.prog.info? 61).map (fun i => (i.zero, i.size, i.bytes)) = some (some Go.Value.nilFunc, 1, 8) := by kernel_rfl
theorem inf62 : (Tryz.prog.info? 62).map (fun i => (i.zero, i.size, i.bytes)) = some (some Go.Value.nilFunc, 1, 8) := by kernel_rfl
theorem inf63 : (Tryz.prog.info? 63).map (fun i => (i.zero, i.size, i.bytes)) = some (some Go.Value.nilFunc, 1, 8) := by kernel_rfl
theorem inf64 : (Tryz.prog.info? 64).map (fun i => (i.zero, i.size, i.bytes)) = some (some (Go.Value.tuple #[Go.Value.pointer Option.none, Go.Value.int Go.IntKind.i64 0]), 1, 0) := by kernel_rfl
theorem inf65 : (Tryz.prog.info? 65).map (fun i => (i.zero, i.size, i.bytes)) = some (some Go.Value.nilFunc, 1, 8) := by kernel_rfl
theorem inf66 : (Tryz.prog.info? 66).map (fun i => (i.zero, i.size, i.bytes)) = some (some (Go.Value.tuple #[Go.Value.pointer Option.none, Go.Value.int Go.IntKind.i64 0]), 1, 0) := by kernel_rfl
theorem inf67 : (Tryz.prog.info? 67).map (fun i => (i.zero, i.size, i.bytes)) = some (some Go.Value.nilFunc, 1, 8) := by kernel_rfl
theorem inf68 : (Tryz.prog.info? 68).map (fun i => (i.zero, i.size, i.bytes)) = some (some (Go.Value.tuple #[Go.Value.pointer Option.none, Go.Value.pointer Option.none, Go.Value.bool Bool.false]), 1, 0) := by kernel_rfl
theorem inf69 : (Tryz.prog.info? 69).map (fun i => (i.zero, i.size, i.bytes)) = some (some Go.Value.nilFunc, 1, 8) := by kernel_rfl
theorem inf70 : (Tryz.prog.info? 70).map (fun i => (i.zero, i.size, i.bytes)) = some (some (Go.Value.tuple #[Go.Value.pointer Option.none, Go.Value.int Go.IntKind.i64 0]), 1, 0) := by kernel_rfl
theorem inf71 : (Tryz.prog.info? 71).map (fun i => (i.zero, i.size, i.bytes)) = some (some Go.Value.nilFunc, 1, 8) := by kernel_rfl
theorem inf72 : (Tryz.prog.info? 72).map (fun i => (i.zero, i.size, i.bytes)) = some (some (Go.Value.pointer Option.none), 1, 8) := by kernel_rfl
theorem inf73 : (Tryz.prog.info? 73).map (fun i => (i.zero, i.size, i.bytes)) = some (some (Go.Value.agg #[Go.Value.pointer Option.none, Go.Value.int Go.IntKind.i64 0, Go.Value.int Go.IntKind.i64 0]), 3, 24) := by kernel_rfl
theorem inf74 : (Tryz.prog.info? 74).map (fun i => (i.zero, i.size, i.bytes)) = some (some (Go.Value.agg #[Go.Value.pointer Option.none, Go.Value.int Go.IntKind.i64 0, Go.Value.int Go.IntKind.i64 0]), 3, 24) := by kernel_rfl
theorem inf75 : (Tryz.prog.info? 75).map (fun i => (i.zero, i.size, i.bytes)) = some (some Go.Value.nilFunc, 1, 8) := by kernel_rfl
theorem inf76 : (Tryz.prog.info? 76).map (fun i => (i.zero, i.size, i.bytes)) = some (some Go.Value.nilFunc, 1, 8) := by kernel_rfl
theorem inf77 : (Tryz.prog.info? 77).map (fun i => (i.zero, i.size, i.bytes)) = some (some (Go.Value.slice Option.none 0 0), 1, 24) := by kernel_rfl
theorem inf78 : (Tryz.prog.info? 78).map (fun i => (i.zero, i.size, i.bytes)) = some (some (Go.Value.agg #[Go.Value.bool Bool.false, Go.Value.slice Option.none 0 0, Go.Value.slice Option.none 0 0, Go.Value.slice Option.none 0 0]), 4, 80) := by kernel_rfl
theorem inf79 : (Tryz.prog.info? 79).map (fun i => (i.zero, i.size, i.bytes)) = some (some (Go.Value.agg #[Go.Value.bool Bool.false, Go.Value.slice Option.none 0 0, Go.Value.slice Option.none 0 0, Go.Value.slice Option.none 0 0]), 4, 80) := by kernel_rfl
theorem inf80 : (Tryz.prog.info? 80).map (fun i => (i.zero, i.size, i.bytes)) = some (some (Go.Value.pointer Option.none), 1, 8) := by kernel_rfl
theorem inf81 : (Tryz.prog.info? 81).map (fun i => (i.zero, i.size, i.bytes)) = some (some Go.Value.nilFunc, 1, 8) := by kernel_rfl
theorem inf82 : (Tryz.prog.info? 82).map (fun i => (i.zero, i.size, i.bytes)) = some (some (Go.Value.agg #[Go.Value.int Go.IntKind.i64 0, Go.Value.bool Bool.false, Go.Value.slice Option.none 0 0, Go.Value.slice Option.none 0 0, Go.Value.slice Option.none 0 0, Go.Value.int Go.IntKind.i64 0]), 6, 96) := by kernel_rfl
theorem inf83 : (Tryz.prog.info? 83).map (fun i => (i.zero, i.size, i.bytes)) = some (some (Go.Value.agg #[Go.Value.int Go.IntKind.i64 0, Go.Value.bool Bool.false, Go.Value.slice Option.none 0 0, Go.Value.slice Option.none 0 0, Go.Value.slice Option.none 0 0, Go.Value.int Go.IntKind.i64 0]), 6, 96) := by kernel_rfl
theorem inf84 : (Tryz.prog.info? 84).map (fun i => (i.zero, i.size, i.bytes)) = some (some (Go.Value.tuple #[Go.Value.agg #[Go.Value.int Go.IntKind.i64 0, Go.Value.bool Bool.false, Go.Value.slice Option.none 0 0, Go.Value.slice Option.none 0 0, Go.Value.slice Option.none 0 0, Go.Value.int Go.IntKind.i64 0], Go.Value.bool Bool.false]), 1, 0) := by kernel_rfl
theorem inf85 : (Tryz.prog.info? 85).map (fun i => (i.zero, i.size, i.bytes)) = some (some Go.Value.nilFunc, 1, 8) := by kernel_rfl
theorem inf86 : (Tryz.prog.info? 86).map (fun i => (i.zero, i.size, i.bytes)) = some (some Go.Value.nilFunc, 1, 8) := by kernel_rfl
theorem inf87 : (Tryz.prog.info? 87).map (fun i => (i.zero, i.size, i.bytes)) = some (some (Go.Value.tuple #[Go.Value.agg #[Go.Value.bool Bool.false, Go.Value.slice Option.none 0 0, Go.Value.slice Option.none 0 0, Go.Value.slice Option.none 0 0], Go.Value.int Go.IntKind.u64 0, Go.Value.agg #[Go.Value.bool Bool.false, Go.Value.slice Option.none 0 0, Go.Value.slice Option.none 0 0, Go.Value.slice Option.none 0 0], Go.Value.bool Bool.false]), 1, 0) := by kernel_rfl
theorem inf88 : (Tryz.prog.info? 88).map (fun i => (i.zero, i.size, i.bytes)) = some (some Go.Value.nilFunc, 1, 8) := by kernel_rfl
theorem inf89 : (Tryz.prog.info? 89).map (fun i => (i.zero, i.size, i.bytes)) = some (some Go.Value.nilFunc, 1, 8) := by kernel_rfl
theorem inf90 : (Tryz.prog.info? 90).map (fun i => (i.zero, i.size, i.bytes)) = some (some Go.Value.nilFunc, 1, 8) := by kernel_rfl
theorem inf91 : (Tryz.prog.info? 91).map (fun i => (i.zero, i.size, i.bytes)) = some (some Go.Value.nilFunc, 1, 8) := by kernel_rfl
theorem inf92 : (Tryz.prog.info? 92).map (fun i => (i.zero, i.size, i.bytes)) = some (some (Go.Value.slice Option.none 0 0), 1, 24) := by kernel_rfl
theorem inf93 : (Tryz.prog.info? 93).map (fun i => (i.zero, i.size, i.bytes)) = some (some (Go.Value.agg #[Go.Value.slice Option.none 0 0]), 1, 24) := by kernel_rfl
theorem inf94 : (Tryz.prog.info? 94).map (fun i => (i.zero, i.size, i.bytes)) = some (some (Go.Value.agg #[Go.Value.slice Option.none 0 0]), 1, 24) := by kernel_rfl
theorem inf95 : (Tryz.prog.info? 95).map (fun i => (i.zero, i.size, i.bytes)) = some (some Go.Value.nilFunc, 1, 8) := by kernel_rfl
theorem inf96 : (Tryz.prog.info? 96).map (fun i => (i.zero, i.size, i.bytes)) = some (some Go.Value.nilFunc, 1, 8) := by kernel_rfl
theorem inf97 : (Tryz.prog.info? 97).map (fun i => (i.zero, i.size, i.bytes)) = some (some Go.Value.nilFunc, 1, 8) := by kernel_rfl
theorem inf98 : (Tryz.prog.info? 98).map (fun i => (i.zero, i.size, i.bytes)) = some (some (Go.Value.agg #[Go.Value.int Go.IntKind.i64 0, Go.Value.int Go.IntKind.i64 0, Go.Value.string { data := #[] }]), 3, 32) := by kernel_rfl
theorem inf99 : (Tryz.prog.info? 99).map (fun i => (i.zero, i.size, i.bytes)) = some (some (Go.Value.agg #[Go.Value.int Go.IntKind.i64 0, Go.Value.int Go.IntKind.i64 0, Go.Value.string { data := #[] }]), 3, 32) := by kernel_rfl
theorem inf100 : (Tryz.prog.info? 100).map (fun i => (i.zero, i.size, i.bytes)) = some (some (Go.Value.map Option.none), 1, 8) := by kernel_rfl
theorem inf101 : (Tryz.prog.info? 101).map (fun i => (i.zero, i.size, i.bytes)) = some (some (Go.Value.agg #[Go.Value.pointer Option.none, Go.Value.int Go.IntKind.i64 0, Go.Value.int Go.IntKind.i64 0, Go.Value.string { data := #[] }, Go.Value.map Option.none, Go.Value.map Option.none, Go.Value.bool Bool.false]), 7, 64) := by kernel_rfl
theorem inf102 : (Tryz.prog.info? 102).map (fun i => (i.zero, i.size, i.bytes)) = some (some (Go.Value.agg #[Go.Value.pointer Option.none, Go.Value.int Go.IntKind.i64 0, Go.Value.int Go.IntKind.i64 0, Go.Value.string { data := #[] }, Go.Value.map Option.none, Go.Value.map Option.none, Go.Value.bool Bool.false]), 7, 64) := by kernel_rfl
theorem inf103 : (Tryz.prog.info? 103).map (fun i => (i.zero, i.size, i.bytes)) = some (some (Go.Value.tuple #[Go.Value.int Go.IntKind.i64 0, Go.Value.bool Bool.false]), 1, 0) := by kernel_rfl
theorem inf104 : (Tryz.prog.info? 104).map (fun i => (i.zero, i.size, i.bytes)) = some (some Go.Value.nilFunc, 1, 8) := by kernel_rfl
theorem inf105 : (Tryz.prog.info? 105).map (fun i => (i.zero, i.size, i.bytes)) = some (some Go.Value.nilFunc, 1, 8) := by kernel_rfl
theorem inf106 : (Tryz.prog.info? 106).map (fun i => (i.zero, i.size, i.bytes)) = some (some Go.Value.nilFunc, 1, 8) := by kernel_rfl
theorem inf107 : (Tryz.prog.info? 107).map (fun i => (i.zero, i.size, i.bytes)) = some (some Go.Value.nilFunc, 1, 8) := by kernel_rfl
theorem inf108 : (Tryz.prog.info? 108).map (fun i => (i.zero, i.size, i.bytes)) = some (some (Go.Value.pointer Option.none), 1, 8) := by kernel_rfl
theorem inf109 : (Tryz.prog.info? 109).map (fun i => (i.zero, i.size, i.bytes)) = some (some (Go.Value.slice Option.none 0 0), 1, 24) := by kernel_rfl
theorem inf110 : (Tryz.prog.info? 110).map (fun i => (i.zero, i.size, i.bytes)) = some (some (Go.Value.agg #[Go.Value.slice Option.none 0 0]), 1, 24) := by kernel_rfl
theorem inf111 : (Tryz.prog.info? 111).map (fun i => (i.zero, i.size, i.bytes)) = some (some (Go.Value.agg #[Go.Value.slice Option.none 0 0]), 1, 24) := by kernel_rfl
theorem inf112 : (Tryz.prog.info? 112).map (fun i => (i.zero, i.size, i.bytes)) = some (some Go.Value.nilFunc, 1, 8) := by kernel_rfl
theorem inf113 : (Tryz.prog.info? 113).map (fun i => (i.zero, i.size, i.bytes)) = some (some (Go.Value.agg #[Go.Value.int Go.IntKind.i64 0, Go.Value.int Go.IntKind.i64 0]), 2, 16) := by kernel_rfl
theorem inf114 : (Tryz.prog.info? 114).map (fun i => (i.zero, i.size, i.bytes)) = some (some (Go.Value.agg #[Go.Value.int Go.IntKind.i64 0, Go.Value.int Go.IntKind.i64 0]), 2, 16) := by kernel_rfl
theorem inf115 : (Tryz.prog.info? 115).map (fun i => (i.zero, i.size, i.bytes)) = some (some (Go.Value.tuple #[Go.Value.agg #[Go.Value.int Go.IntKind.i64 0, Go.Value.int Go.IntKind.i64 0], Go.Value.bool Bool.false]), 1, 0) := by kernel_rfl
theorem inf116 : (Tryz.prog.info? 116).map (fun i => (i.zero, i.size, i.bytes)) = some (some Go.Value.nilFunc, 1, 8) := by kernel_rfl
theorem inf117 : (Tryz.prog.info? 117).map (fun i => (i.zero, i.size, i.bytes)) = some (some Go.Value.nilFunc, 1, 8) := by kernel_rfl
theorem inf118 : (Tryz.prog.info? 118).map (fun i => (i.zero, i.size, i.bytes)) = some (some Go.Value.nilFunc, 1, 8) := by kernel_rfl
theorem inf119 : (Tryz.prog.info? 119).map (fun i => (i.zero, i.size, i.bytes)) = some (some Go.Value.nilFunc, 1, 8) := by kernel_rfl
theorem inf120 : (Tryz.prog.info? 120).map (fun i => (i.zero, i.size, i.bytes)) = some (some Go.Value.nilFunc, 1, 8) := by kernel_rfl
theorem inf121 : (Tryz.prog.info? 121).map (fun i => (i.zero, i.size, i.bytes)) = some (some Go.Value.nilFunc, 1, 8) := by kernel_rfl
theorem inf122 : (Tryz.prog.info? 122).map (fun i => (i.zero, i.size, i.bytes)) = some (some Go.Value.nilFunc, 1, 8) := by kernel_rfl
theorem inf123 : (Tryz.prog.info? 123).map (fun i => (i.zero, i.size, i.bytes)) = some (some Go.Value.nilFunc, 1, 8) := by kernel_rfl
theorem inf124 : (Tryz.prog.info? 124).map (fun i => (i.zero, i.size, i.bytes)) = some (some Go.Value.nilFunc, 1, 8) := by kernel_rfl
theorem inf125 : (Tryz.prog.info? 125).map (fun i => (i.zero, i.size, i.bytes)) = some (some Go.Value.nilFunc, 1, 8) := by kernel_rfl
theorem inf126 : (Tryz.prog.info? 126).map (fun i => (i.zero, i.size, i.bytes)) = some (some Go.Value.nilFunc, 1, 8) := by kernel_rfl
theorem inf127 : (Tryz.prog.info? 127).map (fun i => (i.zero, i.size, i.bytes)) = some (some Go.Value.nilFunc, 1, 8) := by kernel_rfl
theorem inf128 : (Tryz.prog.info? 128).map (fun i => (i.zero, i.size, i.bytes)) = some (some Go.Value.nilFunc, 1, 8) := by kernel_rfl
theorem inf129 : (Tryz.prog.info? 129).map (fun i => (i.zero, i.size, i.bytes)) = some (some Go.Value.nilFunc, 1, 8) := by kernel_rfl
theorem inf130 : (Tryz.prog.info? 130).map (fun i => (i.zero, i.size, i.bytes)) = some (some Go.Value.nilFunc, 1, 8) := by kernel_rfl
theorem inf131 : (Tryz.prog.info? 131).map (fun i => (i.zero, i.size, i.bytes)) = some (some Go.Value.nilFunc, 1, 8) := by kernel_rfl
theorem inf132 : (Tryz.prog.info? 132).map (fun i => (i.zero, i.size, i.bytes)) = some (some (Go.Value.map Option.none), 1, 8) := by kernel_rfl
theorem inf133 : (Tryz.prog.info? 133).map (fun i => (i.zero, i.size, i.bytes)) = some (some (Go.Value.agg #[Go.Value.slice Option.none 0 0, Go.Value.map Option.none, Go.Value.slice Option.none 0 0, Go.Value.int Go.IntKind.i64 0, Go.Value.bool Bool.false]), 5, 72) := by kernel_rfl
theorem inf134 : (Tryz.prog.info? 134).map (fun i => (i.zero, i.size, i.bytes)) = some (some (Go.Value.agg #[Go.Value.slice Option.none 0 0, Go.Value.map Option.none, Go.Value.slice Option.none 0 0, Go.Value.int Go.IntKind.i64 0, Go.Value.bool Bool.false]), 5, 72) := by kernel_rfl
theorem inf135 : (Tryz.prog.info? 135).map (fun i => (i.zero, i.size, i.bytes)) = some (some Go.Value.nilFunc, 1, 8) := by kernel_rfl
theorem inf136 : (Tryz.prog.info? 136).map (fun i => (i.zero, i.size, i.bytes)) = some (some Go.Value.nilFunc, 1, 8) := by kernel_rfl
theorem inf137 : (Tryz.prog.info? 137).map (fun i => (i.zero, i.size, i.bytes)) = some (some Go.Value.nilFunc, 1, 8) := by kernel_rfl
theorem inf138 : (Tryz.prog.info? 138).map (fun i => (i.zero, i.size, i.bytes)) = some (some Go.Value.nilFunc, 1, 8) := by kernel_rfl
theorem inf139 : (Tryz.prog.info? 139).map (fun i => (i.zero, i.size, i.bytes)) = some (some Go.Value.nilFunc, 1, 8) := by kernel_rfl
theorem inf140 : (Tryz.prog.info? 140).map (fun i => (i.zero, i.size, i.bytes)) = some (some (Go.Value.agg #[Go.Value.pointer Option.none, Go.Value.int Go.IntKind.i64 0, Go.Value.int Go.IntKind.i64 0, Go.Value.string { data := #[] }, Go.Value.string { data := #[] }, Go.Value.string { data := #[] }, Go.Value.bool Bool.false]), 7, 80) := by kernel_rfl
theorem inf141 : (Tryz.prog.info? 141).map (fun i => (i.zero, i.size, i.bytes)) = some (some (Go.Value.agg #[Go.Value.pointer Option.none, Go.Value.int Go.IntKind.i64 0, Go.Value.int Go.IntKind.i64 0, Go.Value.string { data := #[] }, Go.Value.string { data := #[] }, Go.Value.string { data := #[] }, Go.Value.bool Bool.false]), 7, 80) := by kernel_rfl
theorem inf142 : (Tryz.prog.info? 142).map (fun i => (i.zero, i.size, i.bytes)) = some (some Go.Value.nilFunc, 1, 8) := by kernel_rfl
theorem inf143 : (Tryz.prog.info? 143).map (fun i => (i.zero, i.size, i.bytes)) = some (some Go.Value.nilFunc, 1, 8) := by kernel_rfl
theorem inf144 : (Tryz.prog.info? 144).map (fun i => (i.zero, i.size, i.bytes)) = some (some Go.Value.nilFunc, 1, 8) := by kernel_rfl
theorem inf145 : (Tryz.prog.info? 145).map (fun i => (i.zero, i.size, i.bytes)) = some (some Go.Value.nilFunc, 1, 8) := by kernel_rfl
theorem inf146 : (Tryz.prog.info? 146).map (fun i => (i.zero, i.size, i.bytes)) = some (some Go.Value.nilFunc, 1, 8) := by kernel_rfl
theorem inf147 : (Tryz.prog.info? 147).map (fun i => (i.zero, i.size, i.bytes)) = some (some Go.Value.nilFunc, 1, 8) := by kernel_rfl
theorem inf148 : (Tryz.prog.info? 148).map (fun i => (i.zero, i.size, i.bytes)) = some (some Go.Value.nilFunc, 1, 8) := by kernel_rfl
theorem inf149 : (Tryz.prog.info? 149).map (fun i => (i.zero, i.size, i.bytes)) = some (some Go.Value.nilFunc, 1, 8) := by kernel_rfl
theorem inf150 : (Tryz.prog.info? 150).map (fun i => (i.zero, i.size, i.bytes)) = some (some Go.Value.nilFunc, 1, 8) := by kernel_rfl
theorem inf151 : (Tryz.prog.info? 151).map (fun i => (i.zero, i.size, i.bytes)) = some (some Go.Value.nilFunc, 1, 8) := by kernel_rfl
theorem inf152 : (Tryz.prog.info? 152).map (fun i => (i.zero, i.size, i.bytes)) = some (some Go.Value.nilFunc, 1, 8) := by kernel_rfl
theorem inf153 : (Tryz.prog.info? 153).map (fun i => (i.zero, i.size, i.bytes)) = some (some Go.Value.nilFunc, 1, 8) := by kernel_rfl
theorem inf154 : (Tryz.prog.info? 154).map (fun i => (i.zero, i.size, i.bytes)) = some (some (Go.Value.tuple #[Go.Value.int Go.IntKind.i64 0, Go.Value.string { data := #[] }, Go.Value.int Go.IntKind.i64 0]), 1, 0) := by kernel_rfl
theorem inf155 : (Tryz.prog.info? 155).map (fun i => (i.zero, i.size, i.bytes)) = some (some Go.Value.nilFunc, 1, 8) := by kernel_rfl
theorem inf156 : (Tryz.prog.info? 156).map (fun i => (i.zero, i.size, i.bytes)) = some (some (Go.Value.tuple #[Go.Value.agg #[Go.Value.bool Bool.false, Go.Value.slice Option.none 0 0, Go.Value.slice Option.none 0 0, Go.Value.slice Option.none 0 0], Go.Value.int Go.IntKind.i64 0]), 1, 0) := by kernel_rfl
theorem inf157 : (Tryz.prog.info? 157).map (fun i => (i.zero, i.size, i.bytes)) = some (some Go.Value.nilFunc, 1, 8) := by kernel_rfl
theorem inf158 : (Tryz.prog.info? 158).map (fun i => (i.zero, i.size, i.bytes)) = some (some Go.Value.nilFunc, 1, 8) := by kernel_rfl
theorem inf159 : (Tryz.prog.info? 159).map (fun i => (i.zero, i.size, i.bytes)) = some (some Go.Value.nilFunc, 1, 8) := by kernel_rfl
theorem inf160 : (Tryz.prog.info? 160).map (fun i => (i.zero, i.size, i.bytes)) = some (some Go.Value.nilFunc, 1, 8) := by kernel_rfl
theorem inf161 : (Tryz.prog.info? 161).map (fun i => (i.zero, i.size, i.bytes)) = some (some (Go.Value.int Go.IntKind.u64 0), 1, 8) := by kernel_rfl
theorem inf162 : (Tryz.prog.info? 162).map (fun i => (i.zero, i.size, i.bytes)) = some (some (Go.Value.tuple #[Go.Value.int Go.IntKind.u64 0, Go.Value.int Go.IntKind.u64 0]), 1, 0) := by kernel_rfl
theorem inf163 : (Tryz.prog.info? 163).map (fun i => (i.zero, i.size, i.bytes)) = some (some Go.Value.nilFunc, 1, 8) := by kernel_rfl
theorem inf164 : (Tryz.prog.info? 164).map (fun i => (i.zero, i.size, i.bytes)) = some (some Go.Value.nilFunc, 1, 8) := by kernel_rfl
theorem inf165 : (Tryz.prog.info? 165).map (fun i => (i.zero, i.size, i.bytes)) = some (some (Go.Value.pointer Option.none), 1, 8) := by kernel_rfl
theorem inf166 : (Tryz.prog.info? 166).map (fun i => (i.zero, i.size, i.bytes)) = some (some (Go.Value.agg #[Go.Value.pointer Option.none, Go.Value.slice Option.none 0 0]), 2, 32) := by kernel_rfl
theorem inf167 : (Tryz.prog.info? 167).map (fun i => (i.zero, i.size, i.bytes)) = some (some (Go.Value.agg #[Go.Value.pointer Option.none, Go.Value.slice Option.none 0 0]), 2, 32) := by kernel_rfl
theorem inf168 : (Tryz.prog.info? 168).map (fun i => (i.zero, i.size, i.bytes)) = some (some Go.Value.nilFunc, 1, 8) := by kernel_rfl
theorem inf169 : (Tryz.prog.info? 169).map (fun i => (i.zero, i.size, i.bytes)) = some (some Go.Value.nilIface, 1, 16) := by kernel_rfl
theorem inf170 : (Tryz.prog.info? 170).map (fun i => (i.zero, i.size, i.bytes)) = some (some Go.Value.nilIface, 1, 16) := by kernel_rfl
theorem inf171 : (Tryz.prog.info? 171).map (fun i => (i.zero, i.size, i.bytes)) = some (some (Go.Value.tuple #[Go.Value.int Go.IntKind.i64 0, Go.Value.nilIface]), 1, 0) := by kernel_rfl
theorem inf172 : (Tryz.prog.info? 172).map (fun i => (i.zero, i.size, i.bytes)) = some (some Go.Value.nilFunc, 1, 8) := by kernel_rfl
theorem inf173 : (Tryz.prog.info? 173).map (fun i => (i.zero, i.size, i.bytes)) = some (some (Go.Value.slice Option.none 0 0), 1, 24) := by kernel_rfl
theorem inf174 : (Tryz.prog.info? 174).map (fun i => (i.zero, i.size, i.bytes)) = some (some (Go.Value.agg #[Go.Value.slice Option.none 0 0, Go.Value.slice Option.none 0 0, Go.Value.int Go.IntKind.i64 0, Go.Value.bool Bool.false]), 4, 64) := by kernel_rfl
theorem inf175 : (Tryz.prog.info? 175).map (fun i => (i.zero, i.size, i.bytes)) = some (some (Go.Value.agg #[Go.Value.slice Option.none 0 0, Go.Value.slice Option.none 0 0, Go.Value.int Go.IntKind.i64 0, Go.Value.bool Bool.false]), 4, 64) := by kernel_rfl
theorem inf176 : (Tryz.prog.info? 176).map (fun i => (i.zero, i.size, i.bytes)) = some (some Go.Value.nilFunc, 1, 8) := by kernel_rfl
theorem inf177 : (Tryz.prog.info? 177).map (fun i => (i.zero, i.size, i.bytes)) = some (some Go.Value.nilFunc, 1, 8) := by kernel_rfl
theorem inf178 : (Tryz.prog.info? 178).map (fun i => (i.zero, i.size, i.bytes)) = some (some Go.Value.nilFunc, 1, 8) := by kernel_rfl
theorem inf179 : (Tryz.prog.info? 179).map (fun i => (i.zero, i.size, i.bytes)) = some (some (Go.Value.tuple #[Go.Value.string { data := #[] }, Go.Value.int Go.IntKind.i64 0]), 1, 0) := by kernel_rfl
theorem inf180 : (Tryz.prog.info? 180).map (fun i => (i.zero, i.size, i.bytes)) = some (some Go.Value.nilFunc, 1, 8) := by kernel_rfl
theorem inf181 : (Tryz.prog.info? 181).map (fun i => (i.zero, i.size, i.bytes)) = some (some Go.Value.nilFunc, 1, 8) := by kernel_rfl
theorem inf182 : (Tryz.prog.info? 182).map (fun i => (i.zero, i.size, i.bytes)) = some (some Go.Value.nilFunc, 1, 8) := by kernel_rfl
theorem inf183 : (Tryz.prog.info? 183).map (fun i => (i.zero, i.size, i.bytes)) = some (some Go.Value.nilFunc, 1, 8) := by kernel_rfl
theorem inf184 : (Tryz.prog.info? 184).map (fun i => (i.zero, i.size, i.bytes)) = some (some Go.Value.nilFunc, 1, 8) := by kernel_rfl
theorem inf185 : (Tryz.prog.info? 185).map (fun i => (i.zero, i.size, i.bytes)) = some (some Go.Value.nilFunc, 1, 8) := by kernel_rfl
theorem inf186 : (Tryz.prog.info? 186).map (fun i => (i.zero, i.size, i.bytes)) = some (some (Go.Value.pointer Option.none), 1, 8) := by kernel_rfl
theorem inf187 : (Tryz.prog.info? 187).map (fun i => (i.zero, i.size, i.bytes)) = some (some (Go.Value.agg #[Go.Value.string { data := #[] }, Go.Value.bool Bool.false]), 2, 24) := by kernel_rfl
theorem inf188 : (Tryz.prog.info? 188).map (fun i => (i.zero, i.size, i.bytes)) = some (some (Go.Value.agg #[Go.Value.string { data := #[] }, Go.Value.bool Bool.false]), 2, 24) := by kernel_rfl
theorem inf189 : (Tryz.prog.info? 189).map (fun i => (i.zero, i.size, i.bytes)) = some (some Go.Value.nilFunc, 1, 8) := by kernel_rfl
theorem inf190 : (Tryz.prog.info? 190).map (fun i => (i.zero, i.size, i.bytes)) = some (some Go.Value.nilFunc, 1, 8) := by kernel_rfl
theorem inf191 : (Tryz.prog.info? 191).map (fun i => (i.zero, i.size, i.bytes)) = some (some Go.Value.nilFunc, 1, 8) := by kernel_rfl
theorem inf192 : (Tryz.prog.info? 192).map (fun i => (i.zero, i.size, i.bytes)) = some (some Go.Value.nilFunc, 1, 8) := by kernel_rfl
theorem inf193 : (Tryz.prog.info? 193).map (fun i => (i.zero, i.size, i.bytes)) = some (some Go.Value.nilFunc, 1, 8) := by kernel_rfl
theorem inf194 : (Tryz.prog.info? 194).map (fun i => (i.zero, i.size, i.bytes)) = some (some Go.Value.nilFunc, 1, 8) := by kernel_rfl
theorem inf195 : (Tryz.prog.info? 195).map (fun i => (i.zero, i.size, i.bytes)) = some (some Go.Value.nilFunc, 1, 8) := by kernel_rfl
theorem inf196 : (Tryz.prog.info? 196).map (fun i => (i.zero, i.size, i.bytes)) = some (some (Go.Value.int Go.IntKind.u32 0), 1, 4) := by kernel_rfl
theorem inf197 : (Tryz.prog.info? 197).map (fun i => (i.zero, i.size, i.bytes)) = some (some (Go.Value.tuple #[Go.Value.int Go.IntKind.u32 0, Go.Value.int Go.IntKind.u32 0]), 1, 0) := by kernel_rfl
theorem inf198 : (Tryz.prog.info? 198).map (fun i => (i.zero, i.size, i.bytes)) = some (some Go.Value.nilFunc, 1, 8) := by kernel_rfl
theorem inf199 : (Tryz.prog.info? 199).map (fun i => (i.zero, i.size, i.bytes)) = some (some (Go.Value.tuple #[Go.Value.int Go.IntKind.u64 0, Go.Value.int Go.IntKind.u64 0]), 1, 0) := by kernel_rfl
theorem inf200 : (Tryz.prog.info? 200).map (fun i => (i.zero, i.size, i.bytes)) = some (some Go.Value.nilFunc, 1, 8) := by kernel_rfl
theorem inf201 : (Tryz.prog.info? 201).map (fun i => (i.zero, i.size, i.bytes)) = some (some (Go.Value.pointer Option.none), 1, 8) := by kernel_rfl
theorem inf202 : (Tryz.prog.info? 202).map (fun i => (i.zero, i.size, i.bytes)) = some (some Go.Value.nilFunc, 1, 8) := by kernel_rfl
theorem inf203 : (Tryz.prog.info? 203).map (fun i => (i.zero, i.size, i.bytes)) = some (some Go.Value.nilFunc, 1, 8) := by kernel_rfl
theorem inf204 : (Tryz.prog.info? 204).map (fun i => (i.zero, i.size, i.bytes)) = some (some (Go.Value.agg #[Go.Value.int Go.IntKind.i64 0, Go.Value.string { data := #[] }]), 2, 24) := by kernel_rfl
theorem inf205 : (Tryz.prog.info? 205).map (fun i => (i.zero, i.size, i.bytes)) = some (some (Go.Value.agg #[Go.Value.int Go.IntKind.i64 0, Go.Value.string { data := #[] }]), 2, 24) := by kernel_rfl
theorem inf206 : (Tryz.prog.info? 206).map (fun i => (i.zero, i.size, i.bytes)) = some (some Go.Value.nilFunc, 1, 8) := by kernel_rfl
theorem inf207 : (Tryz.prog.info? 207).map (fun i => (i.zero, i.size, i.bytes)) = some (some Go.Value.nilFunc, 1, 8) := by kernel_rfl
theorem inf208 : (Tryz.prog.info? 208).map (fun i => (i.zero, i.size, i.bytes)) = some (some Go.Value.nilFunc, 1, 8) := by kernel_rfl
theorem inf209 : (Tryz.prog.info? 209).map (fun i => (i.zero, i.size, i.bytes)) = some (some (Go.Value.slice Option.none 0 0), 1, 24) := by kernel_rfl
theorem inf210 : (Tryz.prog.info? 210).map (fun i => (i.zero, i.size, i.bytes)) = some (some Go.Value.nilFunc, 1, 8) := by kernel_rfl
theorem inf211 : (Tryz.prog.info? 211).map (fun i => (i.zero, i.size, i.bytes)) = some (some (Go.Value.slice Option.none 0 0), 1, 24) := by kernel_rfl
theorem inf212 : (Tryz.prog.info? 212).map (fun i => (i.zero, i.size, i.bytes)) = some (some (Go.Value.slice Option.none 0 0), 1, 24) := by kernel_rfl
theorem inf213 : (Tryz.prog.info? 213).map (fun i => (i.zero, i.size, i.bytes)) = some (some Go.Value.nilFunc, 1, 8) := by kernel_rfl
theorem inf214 : (Tryz.prog.info? 214).map (fun i => (i.zero, i.size, i.bytes)) = some (some Go.Value.nilFunc, 1, 8) := by kernel_rfl
theorem inf215 : (Tryz.prog.info? 215).map (fun i => (i.zero, i.size, i.bytes)) = some (some Go.Value.nilFunc, 1, 8) := by kernel_rfl
theorem inf216 : (Tryz.prog.info? 216).map (fun i => (i.zero, i.size, i.bytes)) = some (some (Go.Value.tuple #[Go.Value.int Go.IntKind.u64 0, Go.Value.string { data := #[] }, Go.Value.int Go.IntKind.i64 0]), 1, 0) := by kernel_rfl
theorem inf217 : (Tryz.prog.info? 217).map (fun i => (i.zero, i.size, i.bytes)) = some (some Go.Value.nilFunc, 1, 8) := by kernel_rfl
theorem inf218 : (Tryz.prog.info? 218).map (fun i => (i.zero, i.size, i.bytes)) = some (some (Go.Value.tuple #[Go.Value.string { data := #[] }, Go.Value.string { data := #[] }, Go.Value.int Go.IntKind.i64 0]), 1, 0) := by kernel_rfl
theorem inf219 : (Tryz.prog.info? 219).map (fun i => (i.zero, i.size, i.bytes)) = some (some Go.Value.nilFunc, 1, 8) := by kernel_rfl
theorem inf220 : (Tryz.prog.info? 220).map (fun i => (i.zero, i.size, i.bytes)) = some (some Go.Value.nilFunc, 1, 8) := by kernel_rfl
theorem inf221 : (Tryz.prog.info? 221).map (fun i => (i.zero, i.size, i.bytes)) = some (some (Go.Value.int Go.IntKind.i64 0), 1, 8) := by kernel_rfl
theorem inf222 : (Tryz.prog.info? 222).map (fun i => (i.zero, i.size, i.bytes)) = some (some (Go.Value.tuple #[Go.Value.int Go.IntKind.i64 0, Go.Value.int Go.IntKind.i64 0]), 1, 0) := by kernel_rfl
theorem inf223 : (Tryz.prog.info? 223).map (fun i => (i.zero, i.size, i.bytes)) = some (some Go.Value.nilFunc, 1, 8) := by kernel_rfl
theorem inf224 : (Tryz.prog.info? 224).map (fun i => (i.zero, i.size, i.bytes)) = some (some Go.Value.nilFunc, 1, 8) := by kernel_rfl
theorem inf225 : (Tryz.prog.info? 225).map (fun i => (i.zero, i.size, i.bytes)) = some (some Go.Value.nilFunc, 1, 8) := by kernel_rfl
theorem inf226 : (Tryz.prog.info? 226).map (fun i => (i.zero, i.size, i.bytes)) = some (some Go.Value.nilFunc, 1, 8) := by kernel_rfl
theorem inf227 : (Tryz.prog.info? 227).map (fun i => (i.zero, i.size, i.bytes)) = some (some Go.Value.nilFunc, 1, 8) := by kernel_rfl
theorem inf228 : (Tryz.prog.info? 228).map (fun i => (i.zero, i.size, i.bytes)) = some (some (Go.Value.pointer Option.none), 1, 8) := by kernel_rfl
theorem inf229 : (Tryz.prog.info? 229).map (fun i => (i.zero, i.size, i.bytes)) = some (some Go.Value.nilFunc, 1, 8) := by kernel_rfl
theorem inf230 : (Tryz.prog.info? 230).map (fun i => (i.zero, i.size, i.bytes)) = some (some Go.Value.nilFunc, 1, 8) := by kernel_rfl
theorem inf231 : (Tryz.prog.info? 231).map (fun i => (i.zero, i.size, i.bytes)) = some (some Go.Value.nilFunc, 1, 8) := by kernel_rfl
theorem inf232 : (Tryz.prog.info? 232).map (fun i => (i.zero, i.size, i.bytes)) = some (some Go.Value.nilFunc, 1, 8) := by kernel_rfl
theorem inf233 : (Tryz.prog.info? 233).map (fun i => (i.zero, i.size, i.bytes)) = some (some Go.Value.nilFunc, 1, 8) := by kernel_rfl
theorem inf234 : (Tryz.prog.info? 234).map (fun i => (i.zero, i.size, i.bytes)) = some (some (Go.Value.int Go.IntKind.u64 0), 1, 8) := by kernel_rfl
theorem inf235 : (Tryz.prog.info? 235).map (fun i => (i.zero, i.size, i.bytes)) = some (some Go.Value.nilFunc, 1, 8) := by kernel_rfl
theorem inf236 : (Tryz.prog.info? 236).map (fun i => (i.zero, i.size, i.bytes)) = some (some Go.Value.nilFunc, 1, 8) := by kernel_rfl
theorem inf237 : (Tryz.prog.info? 237).map (fun i => (i.zero, i.size, i.bytes)) = some (some Go.Value.nilFunc, 1, 8) := by kernel_rfl
theorem inf238 : (Tryz.prog.info? 238).map (fun i => (i.zero, i.size, i.bytes)) = some (some (Go.Value.pointer Option.none), 1, 8) := by kernel_rfl
theorem inf239 : (Tryz.prog.info? 239).map (fun i => (i.zero, i.size, i.bytes)) = some (some Go.Value.nilFunc, 1, 8) := by kernel_rfl
theorem inf240 : (Tryz.prog.info? 240).map (fun i => (i.zero, i.size, i.bytes)) = some (some Go.Value.nilFunc, 1, 8) := by kernel_rfl
theorem inf241 : (Tryz.prog.info? 241).map (fun i => (i.zero, i.size, i.bytes)) = some (some Go.Value.nilFunc, 1, 8) := by kernel_rfl
theorem inf242 : (Tryz.prog.info? 242).map (fun i => (i.zero, i.size, i.bytes)) = some (some (Go.Value.pointer Option.none), 1, 8) := by kernel_rfl
theorem inf243 : (Tryz.prog.info? 243).map (fun i => (i.zero, i.size, i.bytes)) = some (some (Go.Value.tuple #[Go.Value.int Go.IntKind.i64 0, Go.Value.int Go.IntKind.i64 0]), 1, 0) := by kernel_rfl
theorem inf244 : (Tryz.prog.info? 244).map (fun i => (i.zero, i.size, i.bytes)) = some (some Go.Value.nilFunc, 1, 8) := by kernel_rfl
theorem inf245 : (Tryz.prog.info? 245).map (fun i => (i.zero, i.size, i.bytes)) = some (some (Go.Value.agg #[Go.Value.pointer Option.none, Go.Value.pointer Option.none, Go.Value.pointer Option.none, Go.Value.string { data := #[] }]), 4, 40) := by kernel_rfl
theorem inf246 : (Tryz.prog.info? 246).map (fun i => (i.zero, i.size, i.bytes)) = some (some (Go.Value.agg #[Go.Value.pointer Option.none, Go.Value.pointer Option.none, Go.Value.pointer Option.none, Go.Value.string { data := #[] }]), 4, 40) := by kernel_rfl
theorem inf247 : (Tryz.prog.info? 247).map (fun i => (i.zero, i.size, i.bytes)) = some (some (Go.Value.agg #[]), 0, 0) := by kernel_rfl
theorem inf248 : (Tryz.prog.info? 248).map (fun i => (i.zero, i.size, i.bytes)) = some (some (Go.Value.agg #[]), 0, 0) := by kernel_rfl
theorem inf249 : (Tryz.prog.info? 249).map (fun i => (i.zero, i.size, i.bytes)) = some (some (Go.Value.agg #[]), 0, 0) := by kernel_rfl
theorem inf250 : (Tryz.prog.info? 250).map (fun i => (i.zero, i.size, i.bytes)) = some (some (Go.Value.int Go.IntKind.u8 0), 1, 1) := by kernel_rfl
theorem inf251 : (Tryz.prog.info? 251).map (fun i => (i.zero, i.size, i.bytes)) = some (some (Go.Value.int Go.IntKind.u8 0), 1, 1) := by kernel_rfl
theorem inf252 : (Tryz.prog.info? 252).map (fun i => (i.zero, i.size, i.bytes)) = some (some Go.Value.nilFunc, 1, 8) := by kernel_rfl
theorem inf253 : (Tryz.prog.info? 253).map (fun i => (i.zero, i.size, i.bytes)) = some (some (Go.Value.int Go.IntKind.i32 0), 1, 4) := by kernel_rfl
theorem inf254 : (Tryz.prog.info? 254).map (fun i => (i.zero, i.size, i.bytes)) = some (some (Go.Value.int Go.IntKind.i32 0), 1, 4) := by kernel_rfl
theorem inf255 : (Tryz.prog.info? 255).map (fun i => (i.zero, i.size, i.bytes)) = some (some (Go.Value.agg #[Go.Value.int Go.IntKind.u64 0, Go.Value.int Go.IntKind.u64 0, Go.Value.int Go.IntKind.u32 0, Go.Value.int Go.IntKind.u8 0, Go.Value.int Go.IntKind.u8 0, Go.Value.int Go.IntKind.u8 0, Go.Value.int Go.IntKind.u8 0, Go.Value.nilFunc, Go.Value.pointer Option.none, Go.Value.int Go.IntKind.i32 0, Go.Value.int Go.IntKind.i32 0]), 11, 48) := by kernel_rfl
theorem inf256 : (Tryz.prog.info? 256).map (fun i => (i.zero, i.size, i.bytes)) = some (some (Go.Value.agg #[Go.Value.int Go.IntKind.u64 0, Go.Value.int Go.IntKind.u64 0, Go.Value.int Go.IntKind.u32 0, Go.Value.int Go.IntKind.u8 0, Go.Value.int Go.IntKind.u8 0, Go.Value.int Go.IntKind.u8 0, Go.Value.int Go.IntKind.u8 0, Go.Value.nilFunc, Go.Value.pointer Option.none, Go.Value.int Go.IntKind.i32 0, Go.Value.int Go.IntKind.i32 0]), 11, 48) := by kernel_rfl
theorem inf257 : (Tryz.prog.info? 257).map (fun i => (i.zero, i.size, i.bytes)) = some (some Go.Value.nilFunc, 1, 8) := by kernel_rfl
theorem inf258 : (Tryz.prog.info? 258).map (fun i => (i.zero, i.size, i.bytes)) = some (some (Go.Value.agg #[Go.Value.int Go.IntKind.i64 0, Go.Value.int Go.IntKind.u64 0, Go.Value.string { data := #[] }, Go.Value.int Go.IntKind.i64 0, Go.Value.int Go.IntKind.i64 0]), 5, 48) := by kernel_rfl
theorem inf259 : (Tryz.prog.info? 259).map (fun i => (i.zero, i.size, i.bytes)) = some (some (Go.Value.agg #[Go.Value.int Go.IntKind.i64 0, Go.Value.int Go.IntKind.u64 0, Go.Value.string { data := #[] }, Go.Value.int Go.IntKind.i64 0, Go.Value.int Go.IntKind.i64 0]), 5, 48) := by kernel_rfl
set_option maxRecDepth 1000000 in
instance env_ok : EnvOk Tryz.prog env where
  ty := ⟨⟨⟨⟨⟨⟨⟨⟨⟨trivial, Tryz.underlying0, trivial⟩, Tryz.underlying1, trivial⟩, Tryz.underlying2, ⟨trivial, Tryz.underlying3, trivial⟩⟩, Tryz.underlying4, ⟨⟨trivial, Tryz.underlying5, trivial⟩, Tryz.underlying6, ⟨trivial, Tryz.underlying7, trivial⟩⟩⟩, Tryz.underlying8, ⟨⟨⟨trivial, Tryz.underlying9, trivial⟩, Tryz.underlying10, ⟨trivial, Tryz.underlying11, trivial⟩⟩, Tryz.underlying12, ⟨⟨trivial, Tryz.underlying13, trivial⟩, Tryz.underlying14, ⟨trivial, Tryz.underlying15, trivial⟩⟩⟩⟩, Tryz.underlying16, ⟨⟨⟨⟨trivial, Tryz.underlying17, trivial⟩, Tryz.underlying18, ⟨trivial, Tryz.underlying19, trivial⟩⟩, Tryz.underlying20, ⟨⟨trivial, Tryz.underlying21, trivial⟩, Tryz.underlying22, ⟨trivial, Tryz.underlying23, trivial⟩⟩⟩, Tryz.underlying24, ⟨⟨⟨trivial, Tryz.underlying25, trivial⟩, Tryz.underlying26, ⟨trivial, Tryz.underlying27, trivial⟩⟩, Tryz.underlying28, ⟨⟨trivial, Tryz.underlying29, trivial⟩, Tryz.underlying30, ⟨trivial, Tryz.underlying31, trivial⟩⟩⟩⟩⟩, Tryz.underlying32, ⟨⟨⟨⟨⟨⟨trivial, Tryz.underlying33, trivial⟩, Tryz.underlying34, trivial⟩, Tryz.underlying35, ⟨trivial, Tryz.underlying36, trivial⟩⟩, Tryz.underlying37, ⟨⟨trivial, Tryz.underlying38, trivial⟩, Tryz.underlying39, ⟨trivial, Tryz.underlying40, trivial⟩⟩⟩, Tryz.underlying41, ⟨⟨⟨trivial, Tryz.underlying42, trivial⟩, Tryz.underlying43, ⟨trivial, Tryz.underlying44, trivial⟩⟩, Tryz.underlying45, ⟨⟨trivial, Tryz.underlying46, trivial⟩, Tryz.underlying47, ⟨trivial, Tryz.underlying48, trivial⟩⟩⟩⟩, Tryz.underlying49, ⟨⟨⟨⟨trivial, Tryz.underlying50, trivial⟩, Tryz.underlying51, ⟨trivial, Tryz.underlying52, trivial⟩⟩, Tryz.underlying53, ⟨⟨trivial, Tryz.underlying54, trivial⟩, Tryz.underlying55, ⟨trivial, Tryz.underlying56, trivial⟩⟩⟩, Tryz.underlying57, ⟨⟨⟨trivial, Tryz.underlying58, trivial⟩, Tryz.underlying59, ⟨trivial, Tryz.underlying60, trivial⟩⟩, Tryz.underlying61, ⟨⟨trivial, Tryz.underlying62, trivial⟩, Tryz.underlying63, ⟨trivial, Tryz.underlying64, trivial⟩⟩⟩⟩⟩⟩, Tryz.underlying65, ⟨⟨⟨⟨⟨⟨⟨trivial, Tryz.underlying66, trivial⟩, Tryz.underlying67, trivial⟩, Tryz.underlying68, ⟨trivial, Tryz.underlying69, trivial⟩⟩, Tryz.underlying70, ⟨⟨trivial, Tryz.underlying71, trivial⟩, Tryz.underlying72, ⟨trivial, Tryz.underlying73, trivial⟩⟩⟩, Tryz.underlying74, ⟨⟨⟨trivial, Tryz.underlying75, trivial⟩, Tryz.underlying76, ⟨trivial, Tryz.underlying77, trivial⟩⟩, Tryz.underlying78, ⟨⟨trivial, Tryz.underlying79, trivial⟩, Tryz.underlying80, ⟨trivial, Tryz.underlying81, trivial⟩⟩⟩⟩, Tryz.underlying82, ⟨⟨⟨⟨trivial, Tryz.underlying83, trivial⟩, Tryz.underlying84, ⟨trivial, Tryz.underlying85, trivial⟩⟩, Tryz.underlying86, ⟨⟨trivial, Tryz.underlying87, trivial⟩, Tryz.underlying88, ⟨trivial, Tryz.underlying89, trivial⟩⟩⟩, Tryz.underlying90, ⟨⟨⟨trivial, Tryz.underlying91, trivial⟩, Tryz.underlying92, ⟨trivial, Tryz.underlying93, trivial⟩⟩, Tryz.underlying94, ⟨⟨trivial, Tryz.underlying95, trivial⟩, Tryz.underlying96, ⟨trivial, Tryz.underlying97, trivial⟩⟩⟩⟩⟩, Tryz.underlying98, ⟨⟨⟨⟨⟨trivial, Tryz.underlying99, trivial⟩, Tryz.underlying100, ⟨trivial, Tryz.underlying101, trivial⟩⟩, Tryz.underlying102, ⟨⟨trivial, Tryz.underlying103, trivial⟩, Tryz.underlying104, ⟨trivial, Tryz.underlying105, trivial⟩⟩⟩, Tryz.underlying106, ⟨⟨⟨trivial, Tryz.underlying107, trivial⟩, Tryz.underlying108, ⟨trivial, Tryz.underlying109, trivial⟩⟩, Tryz.underlying110, ⟨⟨trivial, Tryz.underlying111, trivial⟩, Tryz.underlying112, ⟨trivial, Tryz.underlying113, trivial⟩⟩⟩⟩, Tryz.underlying114, ⟨⟨⟨⟨trivial, Tryz.underlying115, trivial⟩, Tryz.underlying116, ⟨trivial, Tryz.underlying117, trivial⟩⟩, Tryz.underlying118, ⟨⟨trivial, Tryz.underlying119, trivial⟩, Tryz.underlying120, ⟨trivial, Tryz.underlying121, trivial⟩⟩⟩, Tryz.underlying122, ⟨⟨⟨trivial, Tryz.underlying123, trivial⟩, Tryz.underlying124, ⟨trivial, Tryz.underlying125, trivial⟩⟩, Tryz.underlying126, ⟨⟨trivial, Tryz.underlying127, trivial⟩, Tryz.underlying128, ⟨trivial, Tryz.underlying129, trivial⟩⟩⟩⟩⟩⟩⟩, Tryz.underlying130, ⟨⟨⟨⟨⟨⟨⟨⟨trivial, Tryz.underlying131, trivial⟩, Tryz.underlying132, trivial⟩, Tryz.underlying133, ⟨trivial, Tryz.underlying134, trivial⟩⟩, Tryz.underlying135, ⟨⟨trivial, Tryz.underlying136, trivial⟩, Tryz.underlying137, ⟨trivial, Tryz.underlying138, trivial⟩⟩⟩, Tryz.underlying139, ⟨⟨⟨trivial, Tryz.underlying140, trivial⟩, Tryz.underlying141, ⟨trivial, Tryz.underlying142, trivial⟩⟩, Tryz.underlying143, ⟨⟨trivial, Tryz.underlying144, trivial⟩, Tryz.underlying145, ⟨trivial, Tryz.underlying146, trivial⟩⟩⟩⟩, Tryz.underlying147, ⟨⟨⟨⟨trivial, Tryz.underlying148, trivial⟩, Tryz.underlying149, ⟨trivial, Tryz.underlying150, trivial⟩⟩, Tryz.underlying151, ⟨⟨trivial, Tryz.underlying152, trivial⟩, Tryz.underlying153, ⟨trivial, Tryz.underlying154, trivial⟩⟩⟩, Tryz.underlying155, ⟨⟨⟨trivial, Tryz.underlying156, trivial⟩, Tryz.underlying157, ⟨trivial, Tryz.underlying158, trivial⟩⟩, Tryz.underlying159, ⟨⟨trivial, Tryz.underlying160, trivial⟩, Tryz.underlying161, ⟨trivial, Tryz.underlying162, trivial⟩⟩⟩⟩⟩, Tryz.underlying163, ⟨⟨⟨⟨⟨trivial, Tryz.underlying164, trivial⟩, Tryz.underlying165, ⟨trivial, Tryz.underlying166, trivial⟩⟩, Tryz.underlying167, ⟨⟨trivial, Tryz.underlying168, trivial⟩, Tryz.underlying169, ⟨trivial, Tryz.underlying170, trivial⟩⟩⟩, Tryz.underlying171, ⟨⟨⟨trivial, Tryz.underlying172, trivial⟩, Tryz.underlying173, ⟨trivial, Tryz.underlying174, trivial⟩⟩, Tryz.underlying175, ⟨⟨trivial, Tryz.underlying176, trivial⟩, Tryz.underlying177, ⟨trivial, Tryz.underlying178, trivial⟩⟩⟩⟩, Tryz.underlying179, ⟨⟨⟨⟨trivial, Tryz.underlying180, trivial⟩, Tryz.underlying181, ⟨trivial, Tryz.underlying182, trivial⟩⟩, Tryz.underlying183, ⟨⟨trivial, Tryz.underlying184, trivial⟩, Tryz.underlying185, ⟨trivial, Tryz.underlying186, trivial⟩⟩⟩, Tryz.underlying187, ⟨⟨⟨trivial, Tryz.underlying188, trivial⟩, Tryz.underlying189, ⟨trivial, Tryz.underlying190, trivial⟩⟩, Tryz.underlying191, ⟨⟨trivial, Tryz.underlying192, trivial⟩, Tryz.underlying193, ⟨trivial, Tryz.underlying194, trivial⟩⟩⟩⟩⟩⟩, Tryz.underlying195, ⟨⟨⟨⟨⟨⟨⟨trivial, Tryz.underlying196, trivial⟩, Tryz.underlying197, trivial⟩, Tryz.underlying198, ⟨trivial, Tryz.underlying199, trivial⟩⟩, Tryz.underlying200, ⟨⟨trivial, Tryz.underlying201, trivial⟩, Tryz.underlying202, ⟨trivial, Tryz.underlying203, trivial⟩⟩⟩, Tryz.underlying204, ⟨⟨⟨trivial, Tryz.underlying205, trivial⟩, Tryz.underlying206, ⟨trivial, Tryz.underlying207, trivial⟩⟩, Tryz.underlying208, ⟨⟨trivial, Tryz.underlying209, trivial⟩, Tryz.underlying210, ⟨trivial, Tryz.underlying211, trivial⟩⟩⟩⟩, Tryz.underlying212, ⟨⟨⟨⟨trivial, Tryz.underlying213, trivial⟩, Tryz.underlying214, ⟨trivial, Tryz.underlying215, trivial⟩⟩, Tryz.underlying216, ⟨⟨trivial, Tryz.underlying217, trivial⟩, Tryz.underlying218, ⟨trivial, Tryz.underlying219, trivial⟩⟩⟩, Tryz.underlying220, ⟨⟨⟨trivial, Tryz.underlying221, trivial⟩, Tryz.underlying222, ⟨trivial, Tryz.underlying223, trivial⟩⟩, Tryz.underlying224, ⟨⟨trivial, Tryz.underlying225, trivial⟩, Tryz.underlying226, ⟨trivial, Tryz.underlying227, trivial⟩⟩⟩⟩⟩, Tryz.underlying228, ⟨⟨⟨⟨⟨trivial, Tryz.underlying229, trivial⟩, Tryz.underlying230, ⟨trivial, Tryz.underlying231, trivial⟩⟩, Tryz.underlying232, ⟨⟨trivial, Tryz.underlying233, trivial⟩, Tryz.underlying234, ⟨trivial, Tryz.underlying235, trivial⟩⟩⟩, Tryz.underlying236, ⟨⟨⟨trivial, Tryz.underlying237, trivial⟩, Tryz.underlying238, ⟨trivial, Tryz.underlying239, trivial⟩⟩, Tryz.underlying240, ⟨⟨trivial, Tryz.underlying241, trivial⟩, Tryz.underlying242, ⟨trivial, Tryz.underlying243, trivial⟩⟩⟩⟩, Tryz.underlying244, ⟨⟨⟨⟨trivial, Tryz.underlying245, trivial⟩, Tryz.underlying246, ⟨trivial, Tryz.underlying247, trivial⟩⟩, Tryz.underlying248, ⟨⟨trivial, Tryz.underlying249, trivial⟩, Tryz.underlying250, ⟨trivial, Tryz.underlying251, trivial⟩⟩⟩, Tryz.underlying252, ⟨⟨⟨trivial, Tryz.underlying253, trivial⟩, Tryz.underlying254, ⟨trivial, Tryz.underlying255, trivial⟩⟩, Tryz.underlying256, ⟨⟨trivial, Tryz.underlying257, trivial⟩, Tryz.underlying258, ⟨trivial, Tryz.underlying259, trivial⟩⟩⟩⟩⟩⟩⟩⟩
  inf := ⟨⟨⟨⟨⟨⟨⟨⟨⟨trivial, inf0, trivial⟩, inf1, trivial⟩, inf2, ⟨trivial, inf3, trivial⟩⟩, inf4, ⟨⟨trivial, inf5, trivial⟩, inf6, ⟨trivial, inf7, trivial⟩⟩⟩, inf8, ⟨⟨⟨trivial, inf9, trivial⟩, inf10, ⟨trivial, inf11, trivial⟩⟩, inf12, ⟨⟨trivial, inf13, trivial⟩, inf14, ⟨trivial, inf15, trivial⟩⟩⟩⟩, inf16, ⟨⟨⟨⟨trivial, inf17, trivial⟩, inf18, ⟨trivial, inf19, trivial⟩⟩, inf20, ⟨⟨trivial, inf21, trivial⟩, inf22, ⟨trivial, inf23, trivial⟩⟩⟩, inf24, ⟨⟨⟨trivial, inf25, trivial⟩, inf26, ⟨trivial, inf27, trivial⟩⟩, inf28, ⟨⟨trivial, inf29, trivial⟩, inf30, ⟨trivial, inf31, trivial⟩⟩⟩⟩⟩, inf32, ⟨⟨⟨⟨⟨⟨trivial, inf33, trivial⟩, inf34, trivial⟩, inf35, ⟨trivial, inf36, trivial⟩⟩, inf37, ⟨⟨trivial, inf38, trivial⟩, inf39, ⟨trivial, inf40, trivial⟩⟩⟩, inf41, ⟨⟨⟨trivial, inf42, trivial⟩, inf43, ⟨trivial, inf44, trivial⟩⟩, inf45, ⟨⟨trivial, inf46, trivial⟩, inf47, ⟨trivial, inf48, trivial⟩⟩⟩⟩, inf49, ⟨⟨⟨⟨trivial, inf50, trivial⟩, inf51, ⟨trivial, inf52, trivial⟩⟩, inf53, ⟨⟨trivial, inf54, trivial⟩, inf55, ⟨trivial, inf56, trivial⟩⟩⟩, inf57, ⟨⟨⟨trivial, inf58, trivial⟩, inf59, ⟨trivial, inf60, trivial⟩⟩, inf61, ⟨⟨trivial, inf62, trivial⟩, inf63, ⟨trivial, inf64, trivial⟩⟩⟩⟩⟩⟩, inf65, ⟨⟨⟨⟨⟨⟨⟨trivial, inf66, trivial⟩, inf67, trivial⟩, inf68, ⟨trivial, inf69, trivial⟩⟩, inf70, ⟨⟨trivial, inf71, trivial⟩, inf72, ⟨trivial, inf73, trivial⟩⟩⟩, inf74, ⟨⟨⟨trivial, inf75, trivial⟩, inf76, ⟨trivial, inf77, trivial⟩⟩, inf78, ⟨⟨trivial, inf79, trivial⟩, inf80, ⟨trivial, inf81, trivial⟩⟩⟩⟩, inf82, ⟨⟨⟨⟨trivial, inf83, trivial⟩, inf84, ⟨trivial, inf85, trivial⟩⟩, inf86, ⟨⟨trivial, inf87, trivial⟩, inf88, ⟨trivial, inf89, trivial⟩⟩⟩, inf90, ⟨⟨⟨trivial, inf91, trivial⟩, inf92, ⟨trivial, inf93, trivial⟩⟩, inf94, ⟨⟨trivial, inf95, trivial⟩, inf96, ⟨trivial, inf97, trivial⟩⟩⟩⟩⟩, inf98, ⟨⟨⟨⟨⟨trivial, inf99, trivial⟩, inf100, ⟨trivial, inf101, trivial⟩⟩, inf102, ⟨⟨trivial, inf103, trivial⟩, inf104, ⟨trivial, inf105, trivial⟩⟩⟩, inf106, ⟨⟨⟨trivial, inf107, trivial⟩, inf108, ⟨trivial, inf109, trivial⟩⟩, inf110, ⟨⟨trivial, inf111, trivial⟩, inf112, ⟨trivial, inf113, trivial⟩⟩⟩⟩, inf114, ⟨⟨⟨⟨trivial, inf115, trivial⟩, inf116, ⟨trivial, inf117, trivial⟩⟩, inf118, ⟨⟨trivial, inf119, trivial⟩, inf120, ⟨trivial, inf121, trivial⟩⟩⟩, inf122, ⟨⟨⟨trivial, inf123, trivial⟩, inf124, ⟨trivial, inf125, trivial⟩⟩, inf126, ⟨⟨trivial, inf127, trivial⟩, inf128, ⟨trivial, inf129, trivial⟩⟩⟩⟩⟩⟩⟩, inf130, ⟨⟨⟨⟨⟨⟨⟨⟨trivial, inf131, trivial⟩, inf132, trivial⟩, inf133, ⟨trivial, inf134, trivial⟩⟩, inf135, ⟨⟨trivial, inf136, trivial⟩, inf137, ⟨trivial, inf138, trivial⟩⟩⟩, inf139, ⟨⟨⟨trivial, inf140, trivial⟩, inf141, ⟨trivial, inf142, trivial⟩⟩, inf143, ⟨⟨trivial, inf144, trivial⟩, inf145, ⟨trivial, inf146, trivial⟩⟩⟩⟩, inf147, ⟨⟨⟨⟨trivial, inf148, trivial⟩, inf149, ⟨trivial, inf150, trivial⟩⟩, inf151, ⟨⟨trivial, inf152, trivial⟩, inf153, ⟨trivial, inf154, trivial⟩⟩⟩, inf155, ⟨⟨⟨trivial, inf156, trivial⟩, inf157, ⟨trivial, inf158, trivial⟩⟩, inf159, ⟨⟨trivial, inf160, trivial⟩, inf161, ⟨trivial, inf162, trivial⟩⟩⟩⟩⟩, inf163, ⟨⟨⟨⟨⟨trivial, inf164, trivial⟩, inf165, ⟨trivial, inf166, trivial⟩⟩, inf167, ⟨⟨trivial, inf168, trivial⟩, inf169, ⟨trivial, inf170, trivial⟩⟩⟩, inf171, ⟨⟨⟨trivial, inf172, trivial⟩, inf173, ⟨trivial, inf174, trivial⟩⟩, inf175, ⟨⟨trivial, inf176, trivial⟩, inf177, ⟨trivial, inf178, trivial⟩⟩⟩⟩, inf179, ⟨⟨⟨⟨trivial, inf180, trivial⟩, inf181, ⟨trivial, inf182, trivial⟩⟩, inf183, ⟨⟨trivial, inf184, trivial⟩, inf185, ⟨trivial, inf186, trivial⟩⟩⟩, inf187, ⟨⟨⟨trivial, inf188, trivial⟩, inf189, ⟨trivial, inf190, trivial⟩⟩, inf191, ⟨⟨trivial, inf192, trivial⟩, inf193, ⟨trivial, inf194, trivial⟩⟩⟩⟩⟩⟩, inf195, ⟨⟨⟨⟨⟨⟨⟨trivial, inf196, trivial⟩, inf197, trivial⟩, inf198, ⟨trivial, inf199, trivial⟩⟩, inf200, ⟨⟨trivial, inf201, trivial⟩, inf202, ⟨trivial, inf203, trivial⟩⟩⟩, inf204, ⟨⟨⟨trivial, inf205, trivial⟩, inf206, ⟨trivial, inf207, trivial⟩⟩, inf208, ⟨⟨trivial, inf209, trivial⟩, inf210, ⟨trivial, inf211, trivial⟩⟩⟩⟩, inf212, ⟨⟨⟨⟨trivial, inf213, trivial⟩, inf214, ⟨trivial, inf215, trivial⟩⟩, inf216, ⟨⟨trivial, inf217, trivial⟩, inf218, ⟨trivial, inf219, trivial⟩⟩⟩, inf220, ⟨⟨⟨trivial, inf221, trivial⟩, inf222, ⟨trivial, inf223, trivial⟩⟩, inf224, ⟨⟨trivial, inf225, trivial⟩, inf226, ⟨trivial, inf227, trivial⟩⟩⟩⟩⟩, inf228, ⟨⟨⟨⟨⟨trivial, inf229, trivial⟩, inf230, ⟨trivial, inf231, trivial⟩⟩, inf232, ⟨⟨trivial, inf233, trivial⟩, inf234, ⟨trivial, inf235, trivial⟩⟩⟩, inf236, ⟨⟨⟨trivial, inf237, trivial⟩, inf238, ⟨trivial, inf239, trivial⟩⟩, inf240, ⟨⟨trivial, inf241, trivial⟩, inf242, ⟨trivial, inf243, trivial⟩⟩⟩⟩, inf244, ⟨⟨⟨⟨trivial, inf245, trivial⟩, inf246, ⟨trivial, inf247, trivial⟩⟩, inf248, ⟨⟨trivial, inf249, trivial⟩, inf250, ⟨trivial, inf251, trivial⟩⟩⟩, inf252, ⟨⟨⟨trivial, inf253, trivial⟩, inf254, ⟨trivial, inf255, trivial⟩⟩, inf256, ⟨⟨trivial, inf257, trivial⟩, inf258, ⟨trivial, inf259, trivial⟩⟩⟩⟩⟩⟩⟩⟩
  mixed := by kernel_rfl
instance c2 : Callable Tryz.prog 2 := ⟨_, Tryz.func2, by kernel_rfl, by kernel_rfl⟩
instance c3 : Callable Tryz.prog 3 := ⟨_, Tryz.func3, by kernel_rfl, by kernel_rfl⟩
instance c4 : Callable Tryz.prog 4 := ⟨_, Tryz.func4, by kernel_rfl, by kernel_rfl⟩
instance c5 : Callable Tryz.prog 5 := ⟨_, Tryz.func5, by kernel_rfl, by kernel_rfl⟩
instance c6 : Callable Tryz.prog 6 := ⟨_, Tryz.func6, by kernel_rfl, by kernel_rfl⟩
instance c7 : Callable Tryz.prog 7 := ⟨_, Tryz.func7, by kernel_rfl, by kernel_rfl⟩
instance c8 : Callable Tryz.prog 8 := ⟨_, Tryz.func8, by kernel_rfl, by kernel_rfl⟩
instance c9 : Callable Tryz.prog 9 := ⟨_, Tryz.func9, by kernel_rfl, by kernel_rfl⟩
instance c10 : Callable Tryz.prog 10 := ⟨_, Tryz.func10, by kernel_rfl, by kernel_rfl⟩
instance c11 : Callable Tryz.prog 11 := ⟨_, Tryz.func11, by kernel_rfl, by kernel_rfl⟩
instance c12 : Callable Tryz.prog 12 := ⟨_, Tryz.func12, by kernel_rfl, by kernel_rfl⟩
instance c13 : Callable Tryz.prog 13 := ⟨_, Tryz.func13, by kernel_rfl, by kernel_rfl⟩
instance c14 : Callable Tryz.prog 14 := ⟨_, Tryz.func14, by kernel_rfl, by kernel_rfl⟩
instance c15 : Callable Tryz.prog 15 := ⟨_, Tryz.func15, by kernel_rfl, by kernel_rfl⟩
instance c16 : Callable Tryz.prog 16 := ⟨_, Tryz.func16, by kernel_rfl, by kernel_rfl⟩
instance c17 : Callable Tryz.prog 17 := ⟨_, Tryz.func17, by kernel_rfl, by kernel_rfl⟩
instance c18 : Callable Tryz.prog 18 := ⟨_, Tryz.func18, by kernel_rfl, by kernel_rfl⟩
instance c19 : Callable Tryz.prog 19 := ⟨_, Tryz.func19, by kernel_rfl, by kernel_rfl⟩
instance c20 : Callable Tryz.prog 20 := ⟨_, Tryz.func20, by kernel_rfl, by kernel_rfl⟩
instance c21 : Callable Tryz.prog 21 := ⟨_, Tryz.func21, by kernel_rfl, by kernel_rfl⟩
instance c22 : Callable Tryz.prog 22 := ⟨_, Tryz.func22, by kernel_rfl, by kernel_rfl⟩
instance c23 : Callable Tryz.prog 23 := ⟨_, Tryz.func23, by kernel_rfl, by kernel_rfl⟩
instance c24 : Callable Tryz.prog 24 := ⟨_, Tryz.func24, by kernel_rfl, by kernel_rfl⟩
instance c25 : Callable Tryz.prog 25 := ⟨_, Tryz.func25, by kernel_rfl, by kernel_rfl⟩
instance c26 : Callable Tryz.prog 26 := ⟨_, Tryz.func26, by kernel_rfl, by kernel_rfl⟩
instance c27 : Callable Tryz.prog 27 := ⟨_, Tryz.func27, by kernel_rfl, by kernel_rfl⟩
instance c28 : Callable Tryz.prog 28 := ⟨_, Tryz.func28, by kernel_rfl, by kernel_rfl⟩
instance c29 : Callable Tryz.prog 29 := ⟨_, Tryz.func29, by kernel_rfl, by kernel_rfl⟩
instance c30 : Callable Tryz.prog 30 := ⟨_, Tryz.func30, by kernel_rfl, by kernel_rfl⟩
instance c31 : Callable Tryz.prog 31 := ⟨_, Tryz.func31, by kernel_rfl, by kernel_rfl⟩
instance c32 : Callable Tryz.prog 32 := ⟨_, Tryz.func32, by kernel_rfl, by kernel_rfl⟩
instance c33 : Callable Tryz.prog 33 := ⟨_, Tryz.func33, by kernel_rfl, by kernel_rfl⟩
instance c34 : Callable Tryz.prog 34 := ⟨_, Tryz.func34, by kernel_rfl, by kernel_rfl⟩
instance c35 : Callable Tryz.prog 35 := ⟨_, Tryz.func35, by kernel_rfl, by kernel_rfl⟩
instance c36 : Callable Tryz.prog 36 := ⟨_, Tryz.func36, by kernel_rfl, by kernel_rfl⟩
instance c37 : Callable Tryz.prog 37 := ⟨_, Tryz.func37, by kernel_rfl, by kernel_rfl⟩
instance c38 : Callable Tryz.prog 38 := ⟨_, Tryz.func38, by kernel_rfl, by kernel_rfl⟩
instance c39 : Callable Tryz.prog 39 := ⟨_, Tryz.func39, by kernel_rfl, by kernel_rfl⟩
instance c40 : Callable Tryz.prog 40 := ⟨_, Tryz.func40, by kernel_rfl, by kernel_rfl⟩
instance c41 : Callable Tryz.prog 41 := ⟨_, Tryz.func41, by kernel_rfl, by kernel_rfl⟩
instance c42 : Callable Tryz.prog 42 := ⟨_, Tryz.func42, by kernel_rfl, by kernel_rfl⟩
instance c43 : Callable Tryz.prog 43 := ⟨_, Tryz.func43, by kernel_rfl, by kernel_rfl⟩
instance c44 : Callable Tryz.prog 44 := ⟨_, Tryz.func44, by kernel_rfl, by kernel_rfl⟩
instance c45 : Callable Tryz.prog 45 := ⟨_, Tryz.func45, by kernel_rfl, by kernel_rfl⟩
instance c46 : Callable Tryz.prog 46 := ⟨_, Tryz.func46, by kernel_rfl, by kernel_rfl⟩
instance c47 : Callable Tryz.prog 47 := ⟨_, Tryz.func47, by kernel_rfl, by kernel_rfl⟩
instance c48 : Callable Tryz.prog 48 := ⟨_, Tryz.func48, by kernel_rfl, by kernel_rfl⟩
instance c49 : Callable Tryz.prog 49 := ⟨_, Tryz.func49, by kernel_rfl, by kernel_rfl⟩
instance c50 : Callable Tryz.prog 50 := ⟨_, Tryz.func50, by kernel_rfl, by kernel_rfl⟩
instance c51 : Callable Tryz.prog 51 := ⟨_, Tryz.func51, by kernel_rfl, by kernel_rfl⟩
instance c52 : Callable Tryz.prog 52 := ⟨_, Tryz.func52, by kernel_rfl, by kernel_rfl⟩
instance c53 : Callable Tryz.prog 53 := ⟨_, Tryz.func53, by kernel_rfl, by kernel_rfl⟩
instance c54 : Callable Tryz.prog 54 := ⟨_, Tryz.func54, by kernel_rfl, by kernel_rfl⟩
instance c55 : Callable Tryz.prog 55 := ⟨_, Tryz.func55, by kernel_rfl, by kernel_rfl⟩
instance c56 : Callable Tryz.prog 56 := ⟨_, Tryz.func56, by kernel_rfl, by kernel_rfl⟩
instance c57 : Callable Tryz.prog 57 := ⟨_, Tryz.func57, by kernel_rfl, by kernel_rfl⟩
instance c58 : Callable Tryz.prog 58 := ⟨_, Tryz.func58, by kernel_rfl, by kernel_rfl⟩
instance c59 : Callable Tryz.prog 59 := ⟨_, Tryz.func59, by kernel_rfl, by kernel_rfl⟩
instance c60 : Callable Tryz.prog 60 := ⟨_, Tryz.func60, by kernel_rfl, by kernel_rfl⟩
instance c61 : Callable Tryz.prog 61 := ⟨_, Tryz.func61, by kernel_rfl, by kernel_rfl⟩
instance c62 : Callable Tryz.prog 62 := ⟨_, Tryz.func62, by kernel_rfl, by kernel_rfl⟩
instance c63 : Callable Tryz.prog 63 := ⟨_, Tryz.func63, by kernel_rfl, by kernel_rfl⟩
instance c64 : Callable Tryz.prog 64 := ⟨_, Tryz.func64, by kernel_rfl, by kernel_rfl⟩
instance c65 : Callable Tryz.prog 65 := ⟨_, Tryz.func65, by kernel_rfl, by kernel_rfl⟩
instance c66 : Callable Tryz.prog 66 := ⟨_, Tryz.func66, by kernel_rfl, by kernel_rfl⟩
instance c67 : Callable Tryz.prog 67 := ⟨_, Tryz.func67, by kernel_rfl, by kernel_rfl⟩
instance c68 : Callable Tryz.prog 68 := ⟨_, Tryz.func68, by kernel_rfl, by kernel_rfl⟩
instance c69 : Callable Tryz.prog 69 := ⟨_, Tryz.func69, by kernel_rfl, by kernel_rfl⟩
instance c70 : Callable Tryz.prog 70 := ⟨_, Tryz.func70, by kernel_rfl, by kernel_rfl⟩
instance c71 : Callable Tryz.prog 71 := ⟨_, Tryz.func71, by kernel_rfl, by kernel_rfl⟩
instance c72 : Callable Tryz.prog 72 := ⟨_, Tryz.func72, by kernel_rfl, by kernel_rfl⟩
instance c73 : Callable Tryz.prog 73 := ⟨_, Tryz.func73, by kernel_rfl, by kernel_rfl⟩
instance c74 : Callable Tryz.prog 74 := ⟨_, Tryz.func74, by kernel_rfl, by kernel_rfl⟩
instance c75 : Callable Tryz.prog 75 := ⟨_, Tryz.func75, by kernel_rfl, by kernel_rfl⟩
instance c76 : Callable Tryz.prog 76 := ⟨_, Tryz.func76, by kernel_rfl, by kernel_rfl⟩
instance c77 : Callable Tryz.prog 77 := ⟨_, Tryz.func77, by kernel_rfl, by kernel_rfl⟩
instance c78 : Callable Tryz.prog 78 := ⟨_, Tryz.func78, by kernel_rfl, by kernel_rfl⟩
instance c79 : Callable Tryz.prog 79 := ⟨_, Tryz.func79, by kernel_rfl, by kernel_rfl⟩
instance c80 : Callable Tryz.prog 80 := ⟨_, Tryz.func80, by kernel_rfl, by kernel_rfl⟩
instance c81 : Callable Tryz.prog 81 := ⟨_, Tryz.func81, by kernel_rfl, by kernel_rfl⟩
instance c82 : Callable Tryz.prog 82 := ⟨_, Tryz.func82, by kernel_rfl, by kernel_rfl⟩
instance c83 : Callable Tryz.prog 83 := ⟨_, Tryz.func83, by kernel_rfl, by kernel_rfl⟩
instance c84 : Callable Tryz.prog 84 := ⟨_, Tryz.func84, by kernel_rfl, by kernel_rfl⟩
instance c85 : Callable Tryz.prog 85 := ⟨_, Tryz.func85, by kernel_rfl, by kernel_rfl⟩
instance c86 : Callable Tryz.prog 86 := ⟨_, Tryz.func86, by kernel_rfl, by kernel_rfl⟩
instance c87 : Callable Tryz.prog 87 := ⟨_, Tryz.func87, by kernel_rfl, by kernel_rfl⟩
instance c88 : Callable Tryz.prog 88 := ⟨_, Tryz.func88, by kernel_rfl, by kernel_rfl⟩
instance c89 : Callable Tryz.prog 89 := ⟨_, Tryz.func89, by kernel_rfl, by kernel_rfl⟩
instance c90 : Callable Tryz.prog 90 := ⟨_, Tryz.func90, by kernel_rfl, by kernel_rfl⟩
instance c91 : Callable Tryz.prog 91 := ⟨_, Tryz.func91, by kernel_rfl, by kernel_rfl⟩
instance c92 : Callable Tryz.prog 92 := ⟨_, Tryz.func92, by kernel_rfl, by kernel_rfl⟩
instance c93 : Callable Tryz.prog 93 := ⟨_, Tryz.func93, by kernel_rfl, by kernel_rfl⟩
instance c94 : Callable Tryz.prog 94 := ⟨_, Tryz.func94, by kernel_rfl, by kernel_rfl⟩
instance c95 : Callable Tryz.prog 95 := ⟨_, Tryz.func95, by kernel_rfl, by kernel_rfl⟩
instance c96 : Callable Tryz.prog 96 := ⟨_, Tryz.func96, by kernel_rfl, by kernel_rfl⟩
instance c97 : Callable Tryz.prog 97 := ⟨_, Tryz.func97, by kernel_rfl, by kernel_rfl⟩
instance c98 : Callable Tryz.prog 98 := ⟨_, Tryz.func98, by kernel_rfl, by kernel_rfl⟩
instance c99 : Callable Tryz.prog 99 := ⟨_, Tryz.func99, by kernel_rfl, by kernel_rfl⟩
instance c100 : Callable Tryz.prog 100 := ⟨_, Tryz.func100, by kernel_rfl, by kernel_rfl⟩
instance c101 : Callable Tryz.prog 101 := ⟨_, Tryz.func101, by kernel_rfl, by kernel_rfl⟩
instance c102 : Callable Tryz.prog 102 := ⟨_, Tryz.func102, by kernel_rfl, by kernel_rfl⟩
instance c103 : Callable Tryz.prog 103 := ⟨_, Tryz.func103, by kernel_rfl, by kernel_rfl⟩
instance c104 : Callable Tryz.prog 104 := ⟨_, Tryz.func104, by kernel_rfl, by kernel_rfl⟩
instance c105 : Callable Tryz.prog 105 := ⟨_, Tryz.func105, by kernel_rfl, by kernel_rfl⟩
instance c106 : Callable Tryz.prog 106 := ⟨_, Tryz.func106, by kernel_rfl, by kernel_rfl⟩
instance c107 : Callable Tryz.prog 107 := ⟨_, Tryz.func107, by kernel_rfl, by kernel_rfl⟩
instance c108 : Callable Tryz.prog 108 := ⟨_, Tryz.func108, by kernel_rfl, by kernel_rfl⟩
instance c109 : Callable Tryz.prog 109 := ⟨_, Tryz.func109, by kernel_rfl, by kernel_rfl⟩
instance c110 : Callable Tryz.prog 110 := ⟨_, Tryz.func110, by kernel_rfl, by kernel_rfl⟩
instance c111 : Callable Tryz.prog 111 := ⟨_, Tryz.func111, by kernel_rfl, by kernel_rfl⟩
instance c112 : Callable Tryz.prog 112 := ⟨_, Tryz.func112, by kernel_rfl, by kernel_rfl⟩
instance c113 : Callable Tryz.prog 113 := ⟨_, Tryz.func113, by kernel_rfl, by kernel_rfl⟩
instance c114 : Callable Tryz.prog 114 := ⟨_, Tryz.func114, by kernel_rfl, by kernel_rfl⟩
instance c115 : Callable Tryz.prog 115 := ⟨_, Tryz.func115, by kernel_rfl, by kernel_rfl⟩
instance c116 : Callable Tryz.prog 116 := ⟨_, Tryz.func116, by kernel_rfl, by kernel_rfl⟩
instance c117 : Callable Tryz.prog 117 := ⟨_, Tryz.func117, by kernel_rfl, by kernel_rfl⟩
instance c118 : Callable Tryz.prog 118 := ⟨_, Tryz.func118, by kernel_rfl, by kernel_rfl⟩
instance c119 : Callable Tryz.prog 119 := ⟨_, Tryz.func119, by kernel_rfl, by kernel_rfl⟩
instance c120 : Callable Tryz.prog 120 := ⟨_, Tryz.func120, by kernel_rfl, by kernel_rfl⟩
instance c121 : Callable Tryz.prog 121 := ⟨_, Tryz.func121, by kernel_rfl, by kernel_rfl⟩
instance c122 : Callable Tryz.prog 122 := ⟨_, Tryz.func122, by kernel_rfl, by kernel_rfl⟩
instance c123 : Callable Tryz.prog 123 := ⟨_, Tryz.func123, by kernel_rfl, by kernel_rfl⟩
instance c124 : Callable Tryz.prog 124 := ⟨_, Tryz.func124, by kernel_rfl, by kernel_rfl⟩
instance c125 : Callable Tryz.prog 125 := ⟨_, Tryz.func125, by kernel_rfl, by kernel_rfl⟩
instance c126 : Callable Tryz.prog 126 := ⟨_, Tryz.func126, by kernel_rfl, by kernel_rfl⟩
instance c127 : Callable Tryz.prog 127 := ⟨_, Tryz.func127, by kernel_rfl, by kernel_rfl⟩
instance c128 : Callable Tryz.prog 128 := ⟨_, Tryz.func128, by kernel_rfl, by kernel_rfl⟩
instance c129 : Callable Tryz.prog 129 := ⟨_, Tryz.func129, by kernel_rfl, by kernel_rfl⟩
instance c130 : Callable Tryz.prog 130 := ⟨_, Tryz.func130, by kernel_rfl, by kernel_rfl⟩
instance c131 : Callable Tryz.prog 131 := ⟨_, Tryz.func131, by kernel_rfl, by kernel_rfl⟩
instance c132 : Callable Tryz.prog 132 := ⟨_, Tryz.func132, by kernel_rfl, by kernel_rfl⟩
instance c133 : Callable Tryz.prog 133 := ⟨_, Tryz.func133, by kernel_rfl, by kernel_rfl⟩
instance c134 : Callable Tryz.prog 134 := ⟨_, Tryz.func134, by kernel_rfl, by kernel_rfl⟩
instance c135 : Callable Tryz.prog 135 := ⟨_, Tryz.func135, by kernel_rfl, by kernel_rfl⟩
instance c136 : Callable Tryz.prog 136 := ⟨_, Tryz.func136, by kernel_rfl, by kernel_rfl⟩
instance c137 : Callable Tryz.prog 137 := ⟨_, Tryz.func137, by kernel_rfl, by kernel_rfl⟩
instance c138 : Callable Tryz.prog 138 := ⟨_, Tryz.func138, by kernel_rfl, by kernel_rfl⟩
instance c139 : Callable Tryz.prog 139 := ⟨_, Tryz.func139, by kernel_rfl, by kernel_rfl⟩
instance c140 : Callable Tryz.prog 140 := ⟨_, Tryz.func140, by kernel_rfl, by kernel_rfl⟩
instance c141 : Callable Tryz.prog 141 := ⟨_, Tryz.func141, by kernel_rfl, by kernel_rfl⟩
instance c142 : Callable Tryz.prog 142 := ⟨_, Tryz.func142, by kernel_rfl, by kernel_rfl⟩
instance c143 : Callable Tryz.prog 143 := ⟨_, Tryz.func143, by kernel_rfl, by kernel_rfl⟩
instance c146 : Callable Tryz.prog 146 := ⟨_, Tryz.func146, by kernel_rfl, by kernel_rfl⟩
instance c147 : Callable Tryz.prog 147 := ⟨_, Tryz.func147, by kernel_rfl, by kernel_rfl⟩
instance c148 : Callable Tryz.prog 148 := ⟨_, Tryz.func148, by kernel_rfl, by kernel_rfl⟩
instance c149 : Callable Tryz.prog 149 := ⟨_, Tryz.func149, by kernel_rfl, by kernel_rfl⟩
instance c150 : Callable Tryz.prog 150 := ⟨_, Tryz.func150, by kernel_rfl, by kernel_rfl⟩
instance c151 : Callable Tryz.prog 151 := ⟨_, Tryz.func151, by kernel_rfl, by kernel_rfl⟩
instance c152 : Callable Tryz.prog 152 := ⟨_, Tryz.func152, by kernel_rfl, by kernel_rfl⟩
instance c153 : Callable Tryz.prog 153 := ⟨_, Tryz.func153, by kernel_rfl, by kernel_rfl⟩
instance c154 : Callable Tryz.prog 154 := ⟨_, Tryz.func154, by kernel_rfl, by kernel_rfl⟩
instance c155 : Callable Tryz.prog 155 := ⟨_, Tryz.func155, by kernel_rfl, by kernel_rfl⟩
instance c156 : Callable Tryz.prog 156 := ⟨_, Tryz.func156, by kernel_rfl, by kernel_rfl⟩
instance c157 : Callable Tryz.prog 157 := ⟨_, Tryz.func157, by kernel_rfl, by kernel_rfl⟩
instance c158 : Callable Tryz.prog 158 := ⟨_, Tryz.func158, by kernel_rfl, by kernel_rfl⟩
end Go.Proofs.YtpbibhhjbigdhaaGreat
/- Plain facts on numbers as bytes. -/
set_option linter.unusedVariables false
set_option linter.unusedSimpArgs false
namespace Go.Proofs.YtpbibhhjbigdhaaGreat
open Go.Proofs.YtpbibhhjbigdhaaGreat.SL

theorem wrapI64 {n : Int} (h : -9223372036854775808 ≤ n ∧ n < 9223372036854775808) : IntKind.i64.wrap n = n := by rw [IntKind.wrap_i64]; omega
theorem wrapU64' (n : Int) : IntKind.u64.wrap n = n % 18446744073709551616 := by simp [IntKind.wrap, IntKind.bits, IntKind.signed]
theorem wrapU64 {n : Int} (h : 0 ≤ n ∧ n < 18446744073709551616) : IntKind.u64.wrap n = n := by rw [wrapU64']; omega
theorem wrapU32 {n : Int} (h : 0 ≤ n ∧ n < 4294967296) : IntKind.u32.wrap n = n := by rw [IntKind.wrap_u32]; omega
theorem wrapU8 {n : Int} (h : 0 ≤ n ∧ n < 256) : IntKind.u8.wrap n = n := by rw [IntKind.wrap_u8]; omega

theorem snoc_ind {α : Type} {p : List α → Prop} (h0 : p []) (h1 : ∀ l c, p l → p (l ++ [c])) (l : List α) : p l := by
  rw [← List.reverse_reverse l]
  induction l.reverse with
  | nil => exact h0
  | cons c l ih => rw [List.reverse_cons]; exact h1 _ _ ih

/-- The number that bytes are, the greatest first. -/
def getN (l : List UInt8) : Nat := l.foldl (fun a c => a * 256 + c.toNat) 0
theorem getN_snoc (l : List UInt8) (c : UInt8) : getN (l ++ [c]) = getN l * 256 + c.toNat := by simp [getN]
theorem getN_take {l : List UInt8} {k : Nat} (h : k < l.length) : getN (l.take (k + 1)) = getN (l.take k) * 256 + (l.getD k 0).toNat := by
  rw [List.take_succ_eq_append_getElem h, getN_snoc]; simp [List.getD, h]
theorem getN_lt : ∀ (l : List UInt8), getN l < 256 ^ l.length := by
  refine snoc_ind (by simp [getN]) ?_
  · intro l c ih
    rw [getN_snoc, List.length_append, List.length_singleton, Nat.pow_succ]
    have := c.toNat_lt
    omega

/-- A number as so many bytes, the greatest first. -/
def putN : Nat → Nat → List UInt8
  | _, 0 => []
  | n, s + 1 => putN (n / 256) s ++ [UInt8.ofNat n]
theorem putN_length : ∀ (s n : Nat), (putN n s).length = s
  | 0, _ => rfl
  | s + 1, n => by simp [putN, putN_length s]
theorem putN_cons : ∀ (s n : Nat), putN n (s + 1) = UInt8.ofNat (n / 256 ^ s) :: putN n s
  | 0, n => by simp [putN]
  | s + 1, n => by
    rw [putN, putN_cons s (n / 256), putN]
    rw [Nat.div_div_eq_div_mul, Nat.mul_comm, ← Nat.pow_succ]
    rfl
theorem getN_putN : ∀ (s n : Nat), n < 256 ^ s → getN (putN n s) = n
  | 0, n, h => by simp at h; subst h; rfl
  | s + 1, n, h => by
    rw [putN, getN_snoc, getN_putN s _ (by rw [Nat.pow_succ] at h; omega)]
    simp
    omega
theorem putN_getN : ∀ (l : List UInt8), putN (getN l) l.length = l := by
  refine snoc_ind rfl ?_
  · intro l c ih
    rw [getN_snoc, List.length_append, List.length_singleton, putN]
    have hc := c.toNat_lt
    rw [show (getN l * 256 + c.toNat) / 256 = getN l by omega, ih]
    congr 2
    apply UInt8.toNat.inj
    simp
theorem p8 : (2 : Int) ^ min (Int.toNat 8) IntKind.u64.bits = 256 := by decide
theorem p8' : (2 : Int) ^ min (Int.toNat 8) IntKind.u32.bits = 256 := by decide

/-! Bitwise -/
theorem bits_odd (k : Int) : bits BinOp.and IntKind.i64 k 1 = k % 2 := by
  have h : (BitVec.ofInt 64 k &&& BitVec.ofInt 64 1).toNat = (k % 2).toNat := by
    rw [BitVec.toNat_and, BitVec.toNat_ofInt, BitVec.toNat_ofInt]
    have : (1 % (2 ^ 64 : Nat) : Int).toNat = 1 := by decide
    rw [this, Nat.and_one_is_mod]
    omega
  show IntKind.i64.wrap ((BitVec.ofInt 64 k &&& BitVec.ofInt 64 1).toNat : Int) = k % 2
  rw [h, IntKind.wrap_i64]
  omega
theorem ofInt_nat {n a : Nat} (h : a < 2 ^ n) : (BitVec.ofInt n (a : Int)).toNat = a := by
  rw [BitVec.toNat_ofInt, ← Int.natCast_emod, Int.toNat_natCast, Nat.mod_eq_of_lt h]
theorem bits_and {k : IntKind} {a b : Nat} (ha : a < 2 ^ k.bits) (hb : b < 2 ^ k.bits) : bits .and k a b = k.wrap ((a &&& b : Nat) : Int) := by
  show k.wrap ((BitVec.ofInt k.bits a &&& BitVec.ofInt k.bits b).toNat : Int) = _
  rw [BitVec.toNat_and, ofInt_nat ha, ofInt_nat hb]
theorem bits_or {k : IntKind} {a b : Nat} (ha : a < 2 ^ k.bits) (hb : b < 2 ^ k.bits) : bits .or k a b = k.wrap ((a ||| b : Nat) : Int) := by
  show k.wrap ((BitVec.ofInt k.bits a ||| BitVec.ofInt k.bits b).toNat : Int) = _
  rw [BitVec.toNat_or, ofInt_nat ha, ofInt_nat hb]
theorem bits_xor {k : IntKind} {a b : Nat} (ha : a < 2 ^ k.bits) (hb : b < 2 ^ k.bits) : bits .xor k a b = k.wrap ((a ^^^ b : Nat) : Int) := by
  show k.wrap ((BitVec.ofInt k.bits a ^^^ BitVec.ofInt k.bits b).toNat : Int) = _
  rw [BitVec.toNat_xor, ofInt_nat ha, ofInt_nat hb]
end Go.Proofs.YtpbibhhjbigdhaaGreat
/- Package num, as contracts over lists of bytes. -/
set_option linter.unusedVariables false
set_option linter.unusedSimpArgs false
namespace Go.Proofs.YtpbibhhjbigdhaaGreat
open Go.Proofs.YtpbibhhjbigdhaaGreat.SL

def numTake (b : List UInt8) (size : Int) : Nat × List UInt8 × Int :=
  if size < 1 ∨ size > 8 then (0, [], 1) else if (b.length : Int) < size then (0, [], 2) else (getN (b.take size.toNat), b.drop size.toNat, 0)
def takeV (r : Nat × List UInt8 × Int) : Value := .tuple #[.int .u64 r.1, .string (str r.2.1), .int .i64 r.2.2]

set_option maxHeartbeats 1000000 in
theorem Take_does (b : List UInt8) (size : Int) (hs : -9223372036854775808 ≤ size ∧ size < 9223372036854775808) (hb : b.length < 9223372036854775808) :
    Does Tryz.prog 128 [.string (str b), .int .i64 size] [] (fun v H => v = takeV (numTake b size) ∧ H = []) := by
  refine does_of Tryz.func128 Tryz.ntmps128 rfl rfl rfl (fun w0 F0 => ?_)
  (repeat' (first | refine g_seq (h := ?_) | refine g_region (h := ?_) | refine l_nil (h := ?_) | refine n_then (h := ?_) | refine l_pures1 (h := ?_) | refine l_guard_yes (h := ?_) | refine l_guard_no (h := ?_) | refine g_skip (h := ?_) | refine g_ret (h := ?_) | refine n_then_ret (h := ?_) | refine n_block_ret (h := ?_) | refine g_block (h := ?_) | refine n_block (h := ?_) | refine g_cond_t (h := ?_) | (refine l_sp (h1 := ?_) (h0 := ?_) <;> intro h) | (refine g_sp (h1 := ?_) (h0 := ?_) <;> intro h)))
  · refine r_ret ?_
    exact ⟨by rw [numTake, if_pos (by omega)]; rfl, rfl⟩
  · refine r_ret ?_
    exact ⟨by rw [numTake, if_pos (by omega)]; rfl, rfl⟩
  · refine r_ret ?_
    exact ⟨by rw [numTake, if_neg (by omega), if_pos (by omega)]; rfl, rfl⟩
  · (refine g_loop (fun k : Nat => [(4, .int .u64 (getN (b.take k))), (21, .int .i64 k), (20, .int .i64 size), (0, .string (str b)), (1, .int .i64 size)]) (fun _ => []) (fun k => (k : Int) ≤ size) (fun k => size.toNat - k) (0) ?_ ?_ ?_ ?_; rotate_left; (repeat (first | refine ts_nil | (refine ts_cons rfl ?_ ?_; first | (with_reducible rfl) | rotate_left))); (first | (intro _ i; with_reducible refine i) | rotate_left); rotate_left; (try omega); rotate_right)
    · intro k hk
      (repeat' (first | refine g_seq (h := ?_) | refine g_region (h := ?_) | refine l_nil (h := ?_) | refine n_then (h := ?_) | refine l_pures1 (h := ?_) | refine l_index (h := ?_) | refine l_shl (h := ?_) | refine g_skip (h := ?_) | refine g_block (h := ?_) | refine g_exit (h := ?_) | refine n_then_exit (h := ?_) | refine n_block_hit (h := ?_) | refine n_block (h := ?_) | (refine g_sp (h1 := ?_) (h0 := ?_) <;> intro h)))
      · have hN := getN_lt (b.take k)
        have hp : 256 ^ (b.take k).length ≤ 256 ^ 7 := Nat.pow_le_pow_right (by decide) (by simp; omega)
        have hlt : getN (b.take k) < 256 ^ 7 := Nat.lt_of_lt_of_le hN hp
        have hby := byteAt_bd b k
        (refine n_back (k + 1) ?_ ?_ ?_ ?_; rotate_left; rotate_left; (repeat (first | refine ts_nil | (refine ts_cons rfl ?_ ?_; first | (with_reducible rfl) | rotate_left))); (first | (intro _ i; with_reducible refine i) | rotate_left); (try omega); (try omega))
        · rw [p8, wrapU64 (n := byteAt b k) (by omega), wrapU64 (n := (getN (b.take k) : Int) * 256) (by omega), wrapU64 (by omega), getN_take (by omega)]
          simp [byteAt]
        · rw [wrapI64 (by omega)]; rfl
      · (refine g_draw [] (h := a_pass2 (h := ?_)))
        (repeat (first | refine l_nil (h := ?_) | refine n_then (h := ?_) | refine l_slice_str (h := ?_) | refine g_ret (h := ?_) | refine a_done (h := ?_) | refine a_one (h := ?_) | refine n_any (h := a_pass2 (h := ?_))))
        refine r_ret ?_
        obtain rfl : size = k := by omega
        refine ⟨?_, rfl⟩
        rw [numTake, if_neg (by omega), if_neg (by omega)]
        have e : cutB b k b.length = b.drop k := by unfold cutB; rw [List.take_of_length_le (by simp)]
        simp only [Int.toNat_natCast, e]
        rfl
    · rfl
    · rfl

/-- A number as bytes; none where it has no room, or there are not one to eight. -/
def numPut (n : Nat) (size : Int) : List UInt8 × Int :=
  if size < 1 ∨ size > 8 then ([], 1) else if n < 256 ^ size.toNat then (putN n size.toNat, 0) else ([], 1)
def putV (r : List UInt8 × Int) : Value := .tuple #[.string (str r.1), .int .i64 r.2]

set_option maxHeartbeats 1000000 in
theorem Put_does (n : Nat) (size : Int) (hn : n < 18446744073709551616) (hs : -9223372036854775808 ≤ size ∧ size < 9223372036854775808) :
    Does Tryz.prog 112 [.int .u64 n, .int .i64 size] [] (fun v H => v = putV (numPut n size) ∧ H = []) := by
  refine does_of Tryz.func112 Tryz.ntmps112 rfl rfl rfl (fun w0 F0 => ?_)
  (repeat' (first | refine g_seq (h := ?_) | refine g_region (h := ?_) | refine l_nil (h := ?_) | refine n_then (h := ?_) | refine l_pures1 (h := ?_) | refine l_guard_yes (h := ?_) | refine l_guard_no (h := ?_) | (refine l_makeSlice (h := ?_); intro _) | refine g_skip (h := ?_) | refine g_ret (h := ?_) | refine n_then_ret (h := ?_) | refine g_block (h := ?_) | refine g_cond_t (h := ?_) | (refine l_sp (h1 := ?_) (h0 := ?_) <;> intro h) | (refine g_sp (h1 := ?_) (h0 := ?_) <;> intro h)))
  · refine r_ret ?_
    exact ⟨by rw [numPut, if_pos (by omega)]; rfl, rfl⟩
  · refine r_ret ?_
    exact ⟨by rw [numPut, if_pos (by omega)]; rfl, rfl⟩
  · (repeat fail)
    rename_i b
    (refine g_loop (fun k : Nat => [(0, .int .u64 ((n / 256 ^ k : Nat) : Int)), (17, .int .i64 k), (16, .int .i64 size), (6, .slice (some ⟨b, 0, none⟩) size.toNat size.toNat), (1, .int .i64 size)]) (fun k => [cl b 5 (bsV (List.replicate (size.toNat - k) 0 ++ putN n k))]) (fun k => (k : Int) ≤ size) (fun k => size.toNat - k) (0) ?_ ?_ ?_ ?_; rotate_left; (repeat (first | refine ts_nil | (refine ts_cons rfl ?_ ?_; first | (with_reducible rfl) | rotate_left))); (first | (intro _ i; with_reducible refine i) | rotate_left); rotate_left; (try omega); rotate_right)
    · intro k hk
      have e1 : IntKind.i64.wrap (size - 1) = size - 1 := wrapI64 (by omega)
      have e2 : IntKind.i64.wrap (IntKind.i64.wrap (size - 1) - (k : Int)) = size - 1 - k := by rw [e1]; exact wrapI64 (by omega)
      (repeat' (first | refine g_seq (h := ?_) | refine g_region (h := ?_) | refine l_nil (h := ?_) | refine n_then (h := ?_) | refine l_pures1 (h := ?_) | refine l_store_at (h := ?_) | refine l_indexAddr (h := ?_) | refine l_shr (h := ?_) | refine l_str_bs (h := ?_) | refine g_skip (h := ?_) | refine g_ret (h := ?_) | refine n_then_ret (h := ?_) | refine g_block (h := ?_) | refine g_exit (h := ?_) | refine n_then_exit (h := ?_) | refine n_block_hit (h := ?_) | refine n_block (h := ?_) | (refine g_sp (h1 := ?_) (h0 := ?_) <;> intro h)))
      · have e3 : (IntKind.i64.wrap (IntKind.i64.wrap (size - 1) - (k : Int))).toNat = size.toNat - (k + 1) := by omega
        have e4 : IntKind.u8.wrap ((n / 256 ^ k : Nat) : Int) = ((n / 256 ^ k % 256 : Nat) : Int) := by rw [IntKind.wrap_u8]; omega
        (refine n_back (k + 1) ?_ ?_ ?_ ?_; rotate_left; rotate_left; (repeat (first | refine ts_nil | (refine ts_cons rfl ?_ ?_; first | (with_reducible rfl) | rotate_left))); (first | (intro _ i; with_reducible refine i) | rotate_left); (try omega); (try omega))
        · rw [p8, Int.fdiv_eq_ediv_of_nonneg _ (by omega), Nat.pow_succ, ← Nat.div_div_eq_div_mul]; rfl
        · rw [wrapI64 (by omega)]; rfl
        · intro w i
          rw [e3, e4, bsV_set (by omega), Nat.zero_add, Nat.mul_one, show size.toNat - k = size.toNat - (k + 1) + 1 by omega, List.replicate_succ', List.append_assoc] at i
          rw [List.set_append_right _ _ (by simp), List.length_replicate, Nat.sub_self, List.singleton_append, List.set_cons_zero] at i
          rw [putN_cons]
          have e5 : UInt8.ofNat (((n / 256 ^ k % 256 : Nat) : Int)).toNat = UInt8.ofNat (n / 256 ^ k) := by apply UInt8.toNat.inj; rw [Int.toNat_natCast]; simp
          rw [e5] at i
          exact i
      · obtain rfl : size = k := by omega
        refine r_retk [] ?_
        exact ⟨by rw [numPut, if_neg (by omega), if_neg]; rfl; rw [Int.toNat_natCast]; intro hh; rw [Nat.div_eq_of_lt hh] at *; omega, rfl⟩
      · obtain rfl : size = k := by omega
        refine r_retk [] ?_
        refine ⟨?_, rfl⟩
        have hlt : n < 256 ^ k := by
          rcases Nat.lt_or_ge n (256 ^ k) with hh | hh
          · exact hh
          · have := Nat.div_pos hh (by exact Nat.pow_pos (by decide)); omega
        have el : (List.replicate ((k : Int).toNat - k) 0 ++ putN n k) = putN n k := by simp
        rw [numPut, if_neg (by omega), if_pos (by rw [Int.toNat_natCast]; exact hlt), Int.toNat_natCast]
        rw [Int.toNat_natCast] at el
        rw [el, List.drop_zero, List.take_of_length_le (by rw [putN_length]; exact Nat.le_refl _)]
        rfl
    · simp
    · rfl
    · intro w i; simp only [Nat.sub_zero, putN, List.append_nil]; rw [← bsV_zeros]; exact i
end Go.Proofs.YtpbibhhjbigdhaaGreat
/- Nodes of a tree, as plain data: places of keys, what becomes of a node, when it may be on a page. -/
set_option linter.unusedVariables false
set_option linter.unusedSimpArgs false
namespace Go.Proofs.YtpbibhhjbigdhaaGreat
open Go.Proofs.YtpbibhhjbigdhaaGreat.SL

/-- Rising keys. -/
def Rise (l : List Nat) : Prop := l.Pairwise (· < ·)
def uV (l : List Nat) : List Value := l.map fun k : Nat => Value.int .u64 (k : Int)
/-- The first place of a key that is not below. -/
def posN : List Nat → Nat → Nat
  | [], _ => 0
  | k :: l, x => if k < x then posN l x + 1 else 0
theorem posN_le : ∀ (l : List Nat) (x : Nat), posN l x ≤ l.length
  | [], _ => Nat.le_refl _
  | k :: l, x => by rw [posN]; split; (have := posN_le l x; simp; omega); simp
theorem posN_of : ∀ {l : List Nat} {x p : Nat}, p ≤ l.length → (∀ j, j < p → l.getD j 0 < x) → (p < l.length → x ≤ l.getD p 0) → posN l x = p
  | [], x, p, h, _, _ => by simp at h; subst h; rfl
  | k :: l, x, 0, h, h1, h2 => by
    have := h2 (by simp)
    simp at this
    rw [posN, if_neg (by omega)]
  | k :: l, x, p + 1, h, h1, h2 => by
    have := h1 0 (by omega)
    simp at this
    rw [posN, if_pos this, posN_of (p := p) (by simpa using h) (fun j hj => by simpa using h1 (j + 1) (by omega)) (fun hp => by simpa using h2 (by simpa using hp))]
theorem posN_lt : ∀ {l : List Nat} {x j : Nat}, j < posN l x → l.getD j 0 < x
  | [], _, _, h => by simp [posN] at h
  | k :: l, x, j, h => by
    rw [posN] at h
    split at h
    · cases j with
      | zero => simpa
      | succ j => simpa using posN_lt (l := l) (j := j) (by omega)
    · omega
theorem posN_ge : ∀ {l : List Nat} {x : Nat}, posN l x < l.length → x ≤ l.getD (posN l x) 0
  | [], _, h => by simp [posN] at h
  | k :: l, x, h => by
    rw [posN] at h ⊢
    split
    · rw [if_pos (by assumption)] at h; simpa using posN_ge (l := l) (by simpa using h)
    · simp; omega
theorem Rise.get {l : List Nat} (h : Rise l) {i j : Nat} (hij : i < j) (hj : j < l.length) : l.getD i 0 < l.getD j 0 := by
  have := List.pairwise_iff_getElem.1 h i j (by omega) hj hij
  simpa [List.getD, hj, show i < l.length by omega] using this
theorem posN_mem {l : List Nat} (h : Rise l) {x : Nat} : x ∈ l ↔ posN l x < l.length ∧ l.getD (posN l x) 0 = x := by
  constructor
  · intro hx
    obtain ⟨i, hi, rfl⟩ := List.getElem_of_mem hx
    have : posN l l[i] = i := posN_of (by omega) (fun j hj => by have := h.get hj hi; simpa [List.getD, hi] using this) (fun _ => by simp [List.getD, hi])
    rw [this]
    exact ⟨hi, by simp [List.getD, hi]⟩
  · rintro ⟨h1, h2⟩
    rw [← h2]
    simp [List.getD, h1]
theorem uV_get {l : List Nat} {r : List Value} {j : Nat} (h : j < l.length) : (uV l ++ r)[j]? = some (.int .u64 (l.getD j 0 : Nat)) := by
  rw [List.getElem?_append_left (by simpa [uV] using h)]
  simp [uV, List.getD, h]
theorem uV_len (l : List Nat) : (uV l).length = l.length := by simp [uV]

/-- A list in which some things from a place on are others. -/
def laidL {α : Type} (l : List α) (at' gone : Nat) (more : List α) : List α := l.take at' ++ more ++ l.drop (at' + gone)
theorem laidL_len {α : Type} (l : List α) (a g : Nat) (more : List α) : (laidL l a g more).length ≤ l.length + more.length + l.length := by
  simp only [laidL, List.length_append, List.length_take, List.length_drop]; omega
theorem laidL_map {α β : Type} (f : α → β) (l : List α) (a g : Nat) (more : List α) : (laidL l a g more).map f = laidL (l.map f) a g (more.map f) := by
  simp [laidL, List.map_take, List.map_drop]

/-- A node. -/
structure Nd where
  leaf : Bool
  keys : List Nat
  vals : List (List UInt8)
  kids : List Int
def sumL (l : List (List UInt8)) : Nat := (l.map List.length).sum
theorem sumL_nil : sumL [] = 0 := rfl
theorem sumL_cons (v : List UInt8) (l : List (List UInt8)) : sumL (v :: l) = v.length + sumL l := by simp [sumL]
theorem sumL_append (l m : List (List UInt8)) : sumL (l ++ m) = sumL l + sumL m := by simp [sumL]
theorem sumL_take_succ {l : List (List UInt8)} {k : Nat} (h : k < l.length) : sumL (l.take (k + 1)) = sumL (l.take k) + (l.getD k []).length := by
  unfold sumL
  rw [List.take_add_one, List.getElem?_eq_getElem h, List.map_append, List.sum_append]
  simp [List.getD, h]
theorem sumL_take_le (l : List (List UInt8)) (k : Nat) : sumL (l.take k) ≤ sumL l := by
  conv => rhs; rw [← List.take_append_drop k l]
  rw [sumL_append]; omega
theorem sumL_le {l : List (List UInt8)} (h : ∀ v ∈ l, v.length ≤ 40) : sumL l ≤ 40 * l.length := by
  induction l with
  | nil => simp [sumL]
  | cons a l ih =>
    have := ih (fun v hv => h v (by simp [hv]))
    have := h a (by simp)
    rw [sumL_cons, List.length_cons]; omega
def Nd.size (d : Nd) : Nat := if d.leaf then 1 + 8 * d.keys.length + d.keys.length + sumL d.vals else 1 + 8 * d.keys.length + 2 * d.kids.length
/-- Not too great to be told. -/
structure Nd.fits (d : Nd) : Prop where
  k : d.keys.length < 10000
  i : d.kids.length < 10000
  v : d.vals.length < 10000
  s : sumL d.vals < 100000
/-- A node as it may be, however great, or with nothing in it. -/
structure Nd.plain (d : Nd) : Prop where
  rise : Rise d.keys
  key : ∀ k ∈ d.keys, k < 18446744073709551616
  val : ∀ v ∈ d.vals, v.length ≤ 40
  kid : ∀ i ∈ d.kids, 2 ≤ i ∧ i < 640
  vals : d.vals.length = if d.leaf then d.keys.length else 0
  kids : d.kids.length = if d.leaf then 0 else d.keys.length + 1
/-- A node as it may be on a page. -/
structure Nd.good (d : Nd) : Prop where
  p : d.plain
  some : d.leaf = true → 0 < d.keys.length
  size : d.size ≤ 240
theorem Nd.plain.fits {d : Nd} (h : d.plain) (hs : d.size ≤ 5000) : d.fits := by
  have h1 := hs
  have h2 := h.vals
  have h3 := h.kids
  have h4 := sumL_le h.val
  unfold Nd.size at h1
  cases hl : d.leaf <;> simp only [hl, if_true, Bool.false_eq_true, if_false] at h1 h2 h3 <;> constructor <;> omega
theorem Nd.good.fits {d : Nd} (h : d.good) : d.fits := h.p.fits (by have := h.size; omega)

/-- What becomes of nodes. -/
def Nd.put (d : Nd) (x : Nat) (v : List UInt8) : Nd :=
  ⟨true, laidL d.keys (posN d.keys x) (if x ∈ d.keys then 1 else 0) [x], laidL d.vals (posN d.keys x) (if x ∈ d.keys then 1 else 0) [v], []⟩
def Nd.without (d : Nd) (i : Nat) : Nd := ⟨true, laidL d.keys i 1 [], laidL d.vals i 1 [], []⟩
def Nd.hang (d : Nd) (i : Nat) (x : Nat) (k : Int) : Nd := ⟨false, laidL d.keys i 0 [x], [], laidL d.kids (i + 1) 0 [k]⟩
def Nd.unhang (d : Nd) (i : Nat) : Nd := ⟨false, laidL d.keys i 1 [], [], laidL d.kids (i + 1) 1 []⟩
def Nd.up (d : Nd) : Nat := if d.leaf then 0 else 1
/-- The first part of a split at k. -/
def Nd.front (d : Nd) (k : Nat) : Nd := ⟨d.leaf, d.keys.take k, if d.leaf then d.vals.take k else [], if d.leaf then [] else d.kids.take (k + 1)⟩
def Nd.back (d : Nd) (k : Nat) : Nd := ⟨d.leaf, d.keys.drop (k + d.up), if d.leaf then d.vals.drop k else [], if d.leaf then [] else d.kids.drop (k + 1)⟩
/-- Where a node is split: from k on, so many steps at most. -/
def Nd.cut (d : Nd) : Nat → Nat → Nat
  | 0, k => k
  | m + 1, k => if (d.front k).size < d.size / 2 then d.cut m (k + 1) else k
def Nd.at' (d : Nd) : Nat := d.cut (d.keys.length - 1 - d.up - 1) 1
def Nd.both (a : Nd) (mid : Nat) (b : Nd) : Nd := ⟨a.leaf, if a.leaf then a.keys ++ b.keys else a.keys ++ [mid] ++ b.keys, a.vals ++ b.vals, a.kids ++ b.kids⟩
/-- What a node's text has of a key. -/
def Nd.entT (d : Nd) (i : Nat) : List UInt8 := putN (d.keys.getD i 0) 8 ++ if d.leaf then UInt8.ofNat (d.vals.getD i []).length :: d.vals.getD i [] else putN (d.kids.getD (i + 1) 0).toNat 2
def Nd.partT (d : Nd) (j m : Nat) : List UInt8 := (List.range' j m).flatMap d.entT
def Nd.headT (d : Nd) : List UInt8 := if d.leaf then [1] else 2 :: putN (d.kids.getD 0 0).toNat 2
/-- A node's text. -/
def Nd.text (d : Nd) : List UInt8 := d.headT ++ d.partT 0 d.keys.length
theorem Nd.partT_cons (d : Nd) (j m : Nat) : d.partT j (m + 1) = d.entT j ++ d.partT (j + 1) m := by simp [Nd.partT, List.range'_succ]
theorem Nd.partT_snoc (d : Nd) (j : Nat) : d.partT 0 (j + 1) = d.partT 0 j ++ d.entT j := by simp [Nd.partT, List.range'_1_concat]
theorem getD_mem {α : Type} {l : List α} {i : Nat} {z : α} (h : i < l.length) : l.getD i z ∈ l := by simp only [List.getD, List.getElem?_eq_getElem h, Option.getD_some]; exact List.getElem_mem h
theorem Nd.partT_len {d : Nd} : ∀ {j : Nat}, j ≤ d.keys.length → (d.leaf = true → d.vals.length = d.keys.length) → (d.partT 0 j).length = if d.leaf then 9 * j + sumL (d.vals.take j) else 10 * j
  | 0, _, _ => by simp [Nd.partT, sumL]
  | j + 1, h, hv => by
    rw [Nd.partT_snoc, List.length_append, Nd.partT_len (Nat.le_of_succ_le h) hv, Nd.entT, List.length_append, putN_length]
    cases hl : d.leaf
    · simp only [Bool.false_eq_true, if_false, putN_length]; omega
    · have := hv hl
      rw [sumL_take_succ (by omega)]
      simp only [if_true, List.length_cons]; omega
theorem Nd.text_len {d : Nd} (p : d.plain) : d.text.length = d.size := by
  rw [Nd.text, List.length_append, Nd.partT_len (Nat.le_refl _) (fun hl => by have := p.vals; rw [hl] at this; simpa using this), Nd.headT, Nd.size]
  have h1 := p.vals; have h2 := p.kids
  cases hl : d.leaf
  · simp only [hl, Bool.false_eq_true, if_false] at h1 h2 ⊢
    simp only [List.length_cons, putN_length]; omega
  · simp only [hl, if_true] at h1 h2 ⊢
    rw [← h1, List.take_length]
    simp only [List.length_cons, List.length_nil]; omega
end Go.Proofs.YtpbibhhjbigdhaaGreat

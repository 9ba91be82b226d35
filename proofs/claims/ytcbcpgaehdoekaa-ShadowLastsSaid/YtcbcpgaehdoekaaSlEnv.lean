/- The tables of types of this seat, for the framework: written by mkenv.py out of the print of the loaded program. -/
import Derived.Test.YtcbcpgaehdoekaaSlJ
import Derived.Test.YtcbcpgaehdoekaaProg
import Derived.KernelRfl
set_option linter.unusedVariables false
namespace Go.Proofs.Ytcbcpgaehdoekaa
open Go.Proofs.Ytcbcpgaehdoekaa.SL
set_option maxRecDepth 100000
def env : Env where
  ty := [(0, (Go.TypeDesc.tuple #[])),
    (1, (Go.TypeDesc.func #[] #[] Bool.false)),
    (2, (Go.TypeDesc.int Go.IntKind.i64)),
    (3, (Go.TypeDesc.int Go.IntKind.i64)),
    (4, Go.TypeDesc.bool),
    (5, (Go.TypeDesc.int Go.IntKind.u8)),
    (6, (Go.TypeDesc.int Go.IntKind.u8)),
    (7, (Go.TypeDesc.struct #[{ name := "x", type := 2, offset := 0, embedded := Bool.false, tag := "", pkgPath := "runtime", byteOffset := 0 }, { name := "y", type := 3, offset := 1, embedded := Bool.false, tag := "", pkgPath := "runtime", byteOffset := 8 }, { name := "signed", type := 4, offset := 2, embedded := Bool.false, tag := "", pkgPath := "runtime", byteOffset := 16 }, { name := "code", type := 6, offset := 3, embedded := Bool.false, tag := "", pkgPath := "runtime", byteOffset := 17 }])),
    (8, (Go.TypeDesc.struct #[{ name := "x", type := 2, offset := 0, embedded := Bool.false, tag := "", pkgPath := "runtime", byteOffset := 0 }, { name := "y", type := 3, offset := 1, embedded := Bool.false, tag := "", pkgPath := "runtime", byteOffset := 8 }, { name := "signed", type := 4, offset := 2, embedded := Bool.false, tag := "", pkgPath := "runtime", byteOffset := 16 }, { name := "code", type := 6, offset := 3, embedded := Bool.false, tag := "", pkgPath := "runtime", byteOffset := 17 }])),
    (9, Go.TypeDesc.string),
    (10, Go.TypeDesc.string),
    (11, Go.TypeDesc.string),
    (12, (Go.TypeDesc.int Go.IntKind.u64)),
    (13, (Go.TypeDesc.struct #[{ name := "msg", type := 9, offset := 0, embedded := Bool.false, tag := "", pkgPath := "runtime", byteOffset := 0 }, { name := "addr", type := 12, offset := 1, embedded := Bool.false, tag := "", pkgPath := "runtime", byteOffset := 16 }])),
    (14, (Go.TypeDesc.struct #[{ name := "msg", type := 9, offset := 0, embedded := Bool.false, tag := "", pkgPath := "runtime", byteOffset := 0 }, { name := "addr", type := 12, offset := 1, embedded := Bool.false, tag := "", pkgPath := "runtime", byteOffset := 16 }])),
    (15, (Go.TypeDesc.pointer 133)),
    (16, (Go.TypeDesc.pointer 136)),
    (17, (Go.TypeDesc.pointer 143)),
    (18, (Go.TypeDesc.struct #[{ name := "typ", type := 17, offset := 0, embedded := Bool.false, tag := "", pkgPath := "internal/runtime/maps", byteOffset := 0 }])),
    (19, (Go.TypeDesc.struct #[{ name := "typ", type := 17, offset := 0, embedded := Bool.false, tag := "", pkgPath := "internal/runtime/maps", byteOffset := 0 }])),
    (20, (Go.TypeDesc.interface #[])),
    (21, (Go.TypeDesc.int Go.IntKind.i32)),
    (22, (Go.TypeDesc.func #[] #[4] Bool.false)),
    (23, (Go.TypeDesc.pointer 71)),
    (24, (Go.TypeDesc.pointer 54)),
    (25, (Go.TypeDesc.tuple #[23, 24])),
    (26, (Go.TypeDesc.func #[3] #[23, 24] Bool.false)),
    (27, (Go.TypeDesc.func #[] #[3] Bool.false)),
    (28, (Go.TypeDesc.int Go.IntKind.i64)),
    (29, (Go.TypeDesc.tuple #[3, 28])),
    (30, (Go.TypeDesc.func #[] #[3, 28] Bool.false)),
    (31, (Go.TypeDesc.func #[3] #[4] Bool.false)),
    (32, (Go.TypeDesc.func #[3] #[28] Bool.false)),
    (33, (Go.TypeDesc.slice 3)),
    (34, (Go.TypeDesc.func #[] #[33] Bool.false)),
    (35, (Go.TypeDesc.func #[3, 3] #[4] Bool.false)),
    (36, (Go.TypeDesc.func #[3, 3, 9] #[28] Bool.false)),
    (37, (Go.TypeDesc.tuple #[3, 9, 28])),
    (38, (Go.TypeDesc.func #[3] #[3, 9, 28] Bool.false)),
    (39, (Go.TypeDesc.func #[3, 9] #[4] Bool.false)),
    (40, (Go.TypeDesc.slice 9)),
    (41, (Go.TypeDesc.tuple #[24, 28])),
    (42, (Go.TypeDesc.func #[23] #[24, 28] Bool.false)),
    (43, (Go.TypeDesc.func #[40, 3, 9] #[4] Bool.false)),
    (44, (Go.TypeDesc.func #[3] #[] Bool.false)),
    (45, (Go.TypeDesc.func #[33] #[] Bool.false)),
    (46, (Go.TypeDesc.func #[40, 3, 33] #[4] Bool.false)),
    (47, (Go.TypeDesc.tuple #[23, 28])),
    (48, (Go.TypeDesc.func #[3] #[23, 28] Bool.false)),
    (49, (Go.TypeDesc.func #[9] #[3] Bool.false)),
    (50, (Go.TypeDesc.struct #[{ name := "gen", type := 3, offset := 0, embedded := Bool.false, tag := "", pkgPath := "bailiwick/shadow", byteOffset := 0 }, { name := "root", type := 3, offset := 1, embedded := Bool.false, tag := "", pkgPath := "bailiwick/shadow", byteOffset := 8 }, { name := "used", type := 9, offset := 2, embedded := Bool.false, tag := "", pkgPath := "bailiwick/shadow", byteOffset := 16 }])),
    (51, (Go.TypeDesc.struct #[{ name := "gen", type := 3, offset := 0, embedded := Bool.false, tag := "", pkgPath := "bailiwick/shadow", byteOffset := 0 }, { name := "root", type := 3, offset := 1, embedded := Bool.false, tag := "", pkgPath := "bailiwick/shadow", byteOffset := 8 }, { name := "used", type := 9, offset := 2, embedded := Bool.false, tag := "", pkgPath := "bailiwick/shadow", byteOffset := 16 }])),
    (52, (Go.TypeDesc.map 3 4)),
    (53, (Go.TypeDesc.struct #[{ name := "d", type := 23, offset := 0, embedded := Bool.false, tag := "", pkgPath := "bailiwick/shadow", byteOffset := 0 }, { name := "h", type := 51, offset := 1, embedded := Bool.false, tag := "", pkgPath := "bailiwick/shadow", byteOffset := 8 }, { name := "fresh", type := 52, offset := 4, embedded := Bool.false, tag := "", pkgPath := "bailiwick/shadow", byteOffset := 40 }, { name := "given", type := 52, offset := 5, embedded := Bool.false, tag := "", pkgPath := "bailiwick/shadow", byteOffset := 48 }, { name := "down", type := 4, offset := 6, embedded := Bool.false, tag := "", pkgPath := "bailiwick/shadow", byteOffset := 56 }])),
    (54, (Go.TypeDesc.struct #[{ name := "d", type := 23, offset := 0, embedded := Bool.false, tag := "", pkgPath := "bailiwick/shadow", byteOffset := 0 }, { name := "h", type := 51, offset := 1, embedded := Bool.false, tag := "", pkgPath := "bailiwick/shadow", byteOffset := 8 }, { name := "fresh", type := 52, offset := 4, embedded := Bool.false, tag := "", pkgPath := "bailiwick/shadow", byteOffset := 40 }, { name := "given", type := 52, offset := 5, embedded := Bool.false, tag := "", pkgPath := "bailiwick/shadow", byteOffset := 48 }, { name := "down", type := 4, offset := 6, embedded := Bool.false, tag := "", pkgPath := "bailiwick/shadow", byteOffset := 56 }])),
    (55, (Go.TypeDesc.func #[9, 3] #[4] Bool.false)),
    (56, (Go.TypeDesc.func #[28] #[28] Bool.false)),
    (57, (Go.TypeDesc.func #[23, 3, 3, 9] #[28] Bool.false)),
    (58, (Go.TypeDesc.func #[60] #[33] Bool.false)),
    (59, (Go.TypeDesc.func #[31] #[] Bool.false)),
    (60, (Go.TypeDesc.func #[31] #[] Bool.false)),
    (61, (Go.TypeDesc.func #[52] #[60] Bool.false)),
    (62, (Go.TypeDesc.func #[9, 3, 4] #[9] Bool.false)),
    (63, (Go.TypeDesc.func #[] #[28] Bool.false)),
    (64, (Go.TypeDesc.func #[23] #[28] Bool.false)),
    (65, (Go.TypeDesc.func #[23, 3] #[3, 9, 28] Bool.false)),
    (66, (Go.TypeDesc.tuple #[51, 4])),
    (67, (Go.TypeDesc.func #[23, 3] #[51, 4] Bool.false)),
    (68, (Go.TypeDesc.func #[23, 51] #[24] Bool.false)),
    (69, (Go.TypeDesc.map 3 9)),
    (70, (Go.TypeDesc.struct #[{ name := "now", type := 40, offset := 0, embedded := Bool.false, tag := "", pkgPath := "bailiwick/disk", byteOffset := 0 }, { name := "was", type := 69, offset := 1, embedded := Bool.false, tag := "", pkgPath := "bailiwick/disk", byteOffset := 24 }, { name := "order", type := 33, offset := 2, embedded := Bool.false, tag := "", pkgPath := "bailiwick/disk", byteOffset := 32 }, { name := "fuse", type := 3, offset := 3, embedded := Bool.false, tag := "", pkgPath := "bailiwick/disk", byteOffset := 56 }, { name := "gone", type := 4, offset := 4, embedded := Bool.false, tag := "", pkgPath := "bailiwick/disk", byteOffset := 64 }])),
    (71, (Go.TypeDesc.struct #[{ name := "now", type := 40, offset := 0, embedded := Bool.false, tag := "", pkgPath := "bailiwick/disk", byteOffset := 0 }, { name := "was", type := 69, offset := 1, embedded := Bool.false, tag := "", pkgPath := "bailiwick/disk", byteOffset := 24 }, { name := "order", type := 33, offset := 2, embedded := Bool.false, tag := "", pkgPath := "bailiwick/disk", byteOffset := 32 }, { name := "fuse", type := 3, offset := 3, embedded := Bool.false, tag := "", pkgPath := "bailiwick/disk", byteOffset := 56 }, { name := "gone", type := 4, offset := 4, embedded := Bool.false, tag := "", pkgPath := "bailiwick/disk", byteOffset := 64 }])),
    (72, (Go.TypeDesc.func #[9, 3] #[9] Bool.false)),
    (73, (Go.TypeDesc.func #[40, 3] #[40] Bool.false)),
    (74, (Go.TypeDesc.func #[3] #[9] Bool.false)),
    (75, (Go.TypeDesc.func #[5] #[3] Bool.false)),
    (76, (Go.TypeDesc.tuple #[9, 28])),
    (77, (Go.TypeDesc.func #[3, 9] #[9, 28] Bool.false)),
    (78, (Go.TypeDesc.func #[3, 9] #[28] Bool.false)),
    (79, (Go.TypeDesc.slice 5)),
    (80, (Go.TypeDesc.func #[] #[9] Bool.false)),
    (81, (Go.TypeDesc.func #[3] #[9, 28] Bool.false)),
    (82, (Go.TypeDesc.func #[9] #[3, 9, 28] Bool.false)),
    (83, (Go.TypeDesc.int Go.IntKind.u64)),
    (84, (Go.TypeDesc.tuple #[83, 9, 28])),
    (85, (Go.TypeDesc.func #[9, 3] #[83, 9, 28] Bool.false)),
    (86, (Go.TypeDesc.func #[23, 3] #[4] Bool.false)),
    (87, (Go.TypeDesc.int Go.IntKind.u64)),
    (88, (Go.TypeDesc.tuple #[87, 87])),
    (89, (Go.TypeDesc.func #[87, 87] #[87, 87] Bool.false)),
    (90, (Go.TypeDesc.func #[9, 9] #[4] Bool.false)),
    (91, (Go.TypeDesc.pointer 93)),
    (92, (Go.TypeDesc.struct #[{ name := "addr", type := 91, offset := 0, embedded := Bool.false, tag := "", pkgPath := "strings", byteOffset := 0 }, { name := "buf", type := 79, offset := 1, embedded := Bool.false, tag := "", pkgPath := "strings", byteOffset := 8 }])),
    (93, (Go.TypeDesc.struct #[{ name := "addr", type := 91, offset := 0, embedded := Bool.false, tag := "", pkgPath := "strings", byteOffset := 0 }, { name := "buf", type := 79, offset := 1, embedded := Bool.false, tag := "", pkgPath := "strings", byteOffset := 8 }])),
    (94, (Go.TypeDesc.interface #[("Error", 80)])),
    (95, (Go.TypeDesc.interface #[("Error", 80)])),
    (96, (Go.TypeDesc.tuple #[3, 95])),
    (97, (Go.TypeDesc.func #[9] #[3, 95] Bool.false)),
    (98, (Go.TypeDesc.int Go.IntKind.u32)),
    (99, (Go.TypeDesc.func #[9] #[98] Bool.false)),
    (100, (Go.TypeDesc.tuple #[9, 4])),
    (101, (Go.TypeDesc.func #[33, 60] #[33] Bool.false)),
    (102, (Go.TypeDesc.func #[33, 3, 3, 3] #[] Bool.false)),
    (103, (Go.TypeDesc.func #[87] #[3] Bool.false)),
    (104, (Go.TypeDesc.func #[83, 3] #[9, 28] Bool.false)),
    (105, (Go.TypeDesc.tuple #[98, 98])),
    (106, (Go.TypeDesc.func #[98, 98] #[98, 98] Bool.false)),
    (107, (Go.TypeDesc.tuple #[83, 83])),
    (108, (Go.TypeDesc.func #[83, 83] #[83, 83] Bool.false)),
    (109, (Go.TypeDesc.pointer 5)),
    (110, (Go.TypeDesc.func #[33, 3, 3] #[] Bool.false)),
    (111, (Go.TypeDesc.int Go.IntKind.i64)),
    (112, (Go.TypeDesc.tuple #[3, 111])),
    (113, (Go.TypeDesc.func #[33, 3, 3] #[3, 111] Bool.false)),
    (114, (Go.TypeDesc.func #[33, 3, 3] #[4] Bool.false)),
    (115, (Go.TypeDesc.func #[33, 3, 3, 3] #[3] Bool.false)),
    (116, (Go.TypeDesc.tuple #[3, 4])),
    (117, (Go.TypeDesc.func #[33, 3, 3, 3] #[3, 4] Bool.false)),
    (118, (Go.TypeDesc.func #[98] #[3] Bool.false)),
    (119, (Go.TypeDesc.func #[83] #[3] Bool.false)),
    (120, Go.TypeDesc.unsafePointer),
    (121, (Go.TypeDesc.func #[120] #[120] Bool.false)),
    (122, (Go.TypeDesc.func #[3] #[79] Bool.false)),
    (123, (Go.TypeDesc.int Go.IntKind.u64)),
    (124, (Go.TypeDesc.func #[3] #[87] Bool.false)),
    (125, (Go.TypeDesc.func #[] #[83] Bool.false)),
    (126, (Go.TypeDesc.func #[33, 3, 127] #[3] Bool.false)),
    (127, (Go.TypeDesc.pointer 3)),
    (128, (Go.TypeDesc.func #[33, 3, 3, 3, 127] #[3] Bool.false)),
    (129, (Go.TypeDesc.pointer 123)),
    (130, (Go.TypeDesc.tuple #[3, 3])),
    (131, (Go.TypeDesc.func #[33, 3, 3, 127] #[3, 3] Bool.false)),
    (132, (Go.TypeDesc.struct #[{ name := "_interface", type := 17, offset := 0, embedded := Bool.false, tag := "", pkgPath := "runtime", byteOffset := 0 }, { name := "concrete", type := 17, offset := 1, embedded := Bool.false, tag := "", pkgPath := "runtime", byteOffset := 8 }, { name := "asserted", type := 17, offset := 2, embedded := Bool.false, tag := "", pkgPath := "runtime", byteOffset := 16 }, { name := "missingMethod", type := 9, offset := 3, embedded := Bool.false, tag := "", pkgPath := "runtime", byteOffset := 24 }])),
    (133, (Go.TypeDesc.struct #[{ name := "_interface", type := 17, offset := 0, embedded := Bool.false, tag := "", pkgPath := "runtime", byteOffset := 0 }, { name := "concrete", type := 17, offset := 1, embedded := Bool.false, tag := "", pkgPath := "runtime", byteOffset := 8 }, { name := "asserted", type := 17, offset := 2, embedded := Bool.false, tag := "", pkgPath := "runtime", byteOffset := 16 }, { name := "missingMethod", type := 9, offset := 3, embedded := Bool.false, tag := "", pkgPath := "runtime", byteOffset := 24 }])),
    (134, (Go.TypeDesc.array 0 16)),
    (135, (Go.TypeDesc.struct #[{ name := "_", type := 134, offset := 0, embedded := Bool.false, tag := "", pkgPath := "runtime", byteOffset := 0 }])),
    (136, (Go.TypeDesc.struct #[{ name := "_", type := 134, offset := 0, embedded := Bool.false, tag := "", pkgPath := "runtime", byteOffset := 0 }])),
    (137, (Go.TypeDesc.int Go.IntKind.u8)),
    (138, (Go.TypeDesc.int Go.IntKind.u8)),
    (139, (Go.TypeDesc.func #[120, 120] #[4] Bool.false)),
    (140, (Go.TypeDesc.int Go.IntKind.i32)),
    (141, (Go.TypeDesc.int Go.IntKind.i32)),
    (142, (Go.TypeDesc.struct #[{ name := "Size_", type := 12, offset := 0, embedded := Bool.false, tag := "", pkgPath := "", byteOffset := 0 }, { name := "PtrBytes", type := 12, offset := 1, embedded := Bool.false, tag := "", pkgPath := "", byteOffset := 8 }, { name := "Hash", type := 98, offset := 2, embedded := Bool.false, tag := "", pkgPath := "", byteOffset := 16 }, { name := "TFlag", type := 137, offset := 3, embedded := Bool.false, tag := "", pkgPath := "", byteOffset := 20 }, { name := "Align_", type := 5, offset := 4, embedded := Bool.false, tag := "", pkgPath := "", byteOffset := 21 }, { name := "FieldAlign_", type := 5, offset := 5, embedded := Bool.false, tag := "", pkgPath := "", byteOffset := 22 }, { name := "Kind_", type := 138, offset := 6, embedded := Bool.false, tag := "", pkgPath := "", byteOffset := 23 }, { name := "Equal", type := 139, offset := 7, embedded := Bool.false, tag := "", pkgPath := "", byteOffset := 24 }, { name := "GCData", type := 109, offset := 8, embedded := Bool.false, tag := "", pkgPath := "", byteOffset := 32 }, { name := "Str", type := 140, offset := 9, embedded := Bool.false, tag := "", pkgPath := "", byteOffset := 40 }, { name := "PtrToThis", type := 141, offset := 10, embedded := Bool.false, tag := "", pkgPath := "", byteOffset := 44 }])),
    (143, (Go.TypeDesc.struct #[{ name := "Size_", type := 12, offset := 0, embedded := Bool.false, tag := "", pkgPath := "", byteOffset := 0 }, { name := "PtrBytes", type := 12, offset := 1, embedded := Bool.false, tag := "", pkgPath := "", byteOffset := 8 }, { name := "Hash", type := 98, offset := 2, embedded := Bool.false, tag := "", pkgPath := "", byteOffset := 16 }, { name := "TFlag", type := 137, offset := 3, embedded := Bool.false, tag := "", pkgPath := "", byteOffset := 20 }, { name := "Align_", type := 5, offset := 4, embedded := Bool.false, tag := "", pkgPath := "", byteOffset := 21 }, { name := "FieldAlign_", type := 5, offset := 5, embedded := Bool.false, tag := "", pkgPath := "", byteOffset := 22 }, { name := "Kind_", type := 138, offset := 6, embedded := Bool.false, tag := "", pkgPath := "", byteOffset := 23 }, { name := "Equal", type := 139, offset := 7, embedded := Bool.false, tag := "", pkgPath := "", byteOffset := 24 }, { name := "GCData", type := 109, offset := 8, embedded := Bool.false, tag := "", pkgPath := "", byteOffset := 32 }, { name := "Str", type := 140, offset := 9, embedded := Bool.false, tag := "", pkgPath := "", byteOffset := 40 }, { name := "PtrToThis", type := 141, offset := 10, embedded := Bool.false, tag := "", pkgPath := "", byteOffset := 44 }]))]
  inf := [(0, ((Go.Value.tuple #[]), 1, 0)),
    (1, (Go.Value.nilFunc, 1, 8)),
    (2, ((Go.Value.int Go.IntKind.i64 0), 1, 8)),
    (3, ((Go.Value.int Go.IntKind.i64 0), 1, 8)),
    (4, ((Go.Value.bool Bool.false), 1, 1)),
    (5, ((Go.Value.int Go.IntKind.u8 0), 1, 1)),
    (6, ((Go.Value.int Go.IntKind.u8 0), 1, 1)),
    (7, ((Go.Value.agg #[Go.Value.int Go.IntKind.i64 0, Go.Value.int Go.IntKind.i64 0, Go.Value.bool Bool.false, Go.Value.int Go.IntKind.u8 0]), 4, 24)),
    (8, ((Go.Value.agg #[Go.Value.int Go.IntKind.i64 0, Go.Value.int Go.IntKind.i64 0, Go.Value.bool Bool.false, Go.Value.int Go.IntKind.u8 0]), 4, 24)),
    (9, ((Go.Value.string { data := #[] }), 1, 16)),
    (10, ((Go.Value.string { data := #[] }), 1, 16)),
    (11, ((Go.Value.string { data := #[] }), 1, 16)),
    (12, ((Go.Value.int Go.IntKind.u64 0), 1, 8)),
    (13, ((Go.Value.agg #[Go.Value.string { data := #[] }, Go.Value.int Go.IntKind.u64 0]), 2, 24)),
    (14, ((Go.Value.agg #[Go.Value.string { data := #[] }, Go.Value.int Go.IntKind.u64 0]), 2, 24)),
    (15, ((Go.Value.pointer Option.none), 1, 8)),
    (16, ((Go.Value.pointer Option.none), 1, 8)),
    (17, ((Go.Value.pointer Option.none), 1, 8)),
    (18, ((Go.Value.agg #[Go.Value.pointer Option.none]), 1, 8)),
    (19, ((Go.Value.agg #[Go.Value.pointer Option.none]), 1, 8)),
    (20, (Go.Value.nilIface, 1, 16)),
    (21, ((Go.Value.int Go.IntKind.i32 0), 1, 4)),
    (22, (Go.Value.nilFunc, 1, 8)),
    (23, ((Go.Value.pointer Option.none), 1, 8)),
    (24, ((Go.Value.pointer Option.none), 1, 8)),
    (25, ((Go.Value.tuple #[Go.Value.pointer Option.none, Go.Value.pointer Option.none]), 1, 0)),
    (26, (Go.Value.nilFunc, 1, 8)),
    (27, (Go.Value.nilFunc, 1, 8)),
    (28, ((Go.Value.int Go.IntKind.i64 0), 1, 8)),
    (29, ((Go.Value.tuple #[Go.Value.int Go.IntKind.i64 0, Go.Value.int Go.IntKind.i64 0]), 1, 0)),
    (30, (Go.Value.nilFunc, 1, 8)),
    (31, (Go.Value.nilFunc, 1, 8)),
    (32, (Go.Value.nilFunc, 1, 8)),
    (33, ((Go.Value.slice Option.none 0 0), 1, 24)),
    (34, (Go.Value.nilFunc, 1, 8)),
    (35, (Go.Value.nilFunc, 1, 8)),
    (36, (Go.Value.nilFunc, 1, 8)),
    (37, ((Go.Value.tuple #[Go.Value.int Go.IntKind.i64 0, Go.Value.string { data := #[] }, Go.Value.int Go.IntKind.i64 0]), 1, 0)),
    (38, (Go.Value.nilFunc, 1, 8)),
    (39, (Go.Value.nilFunc, 1, 8)),
    (40, ((Go.Value.slice Option.none 0 0), 1, 24)),
    (41, ((Go.Value.tuple #[Go.Value.pointer Option.none, Go.Value.int Go.IntKind.i64 0]), 1, 0)),
    (42, (Go.Value.nilFunc, 1, 8)),
    (43, (Go.Value.nilFunc, 1, 8)),
    (44, (Go.Value.nilFunc, 1, 8)),
    (45, (Go.Value.nilFunc, 1, 8)),
    (46, (Go.Value.nilFunc, 1, 8)),
    (47, ((Go.Value.tuple #[Go.Value.pointer Option.none, Go.Value.int Go.IntKind.i64 0]), 1, 0)),
    (48, (Go.Value.nilFunc, 1, 8)),
    (49, (Go.Value.nilFunc, 1, 8)),
    (50, ((Go.Value.agg #[Go.Value.int Go.IntKind.i64 0, Go.Value.int Go.IntKind.i64 0, Go.Value.string { data := #[] }]), 3, 32)),
    (51, ((Go.Value.agg #[Go.Value.int Go.IntKind.i64 0, Go.Value.int Go.IntKind.i64 0, Go.Value.string { data := #[] }]), 3, 32)),
    (52, ((Go.Value.map Option.none), 1, 8)),
    (53, ((Go.Value.agg #[Go.Value.pointer Option.none, Go.Value.int Go.IntKind.i64 0, Go.Value.int Go.IntKind.i64 0, Go.Value.string { data := #[] }, Go.Value.map Option.none, Go.Value.map Option.none, Go.Value.bool Bool.false]), 7, 64)),
    (54, ((Go.Value.agg #[Go.Value.pointer Option.none, Go.Value.int Go.IntKind.i64 0, Go.Value.int Go.IntKind.i64 0, Go.Value.string { data := #[] }, Go.Value.map Option.none, Go.Value.map Option.none, Go.Value.bool Bool.false]), 7, 64)),
    (55, (Go.Value.nilFunc, 1, 8)),
    (56, (Go.Value.nilFunc, 1, 8)),
    (57, (Go.Value.nilFunc, 1, 8)),
    (58, (Go.Value.nilFunc, 1, 8)),
    (59, (Go.Value.nilFunc, 1, 8)),
    (60, (Go.Value.nilFunc, 1, 8)),
    (61, (Go.Value.nilFunc, 1, 8)),
    (62, (Go.Value.nilFunc, 1, 8)),
    (63, (Go.Value.nilFunc, 1, 8)),
    (64, (Go.Value.nilFunc, 1, 8)),
    (65, (Go.Value.nilFunc, 1, 8)),
    (66, ((Go.Value.tuple #[Go.Value.agg #[Go.Value.int Go.IntKind.i64 0, Go.Value.int Go.IntKind.i64 0, Go.Value.string { data := #[] }], Go.Value.bool Bool.false]), 1, 0)),
    (67, (Go.Value.nilFunc, 1, 8)),
    (68, (Go.Value.nilFunc, 1, 8)),
    (69, ((Go.Value.map Option.none), 1, 8)),
    (70, ((Go.Value.agg #[Go.Value.slice Option.none 0 0, Go.Value.map Option.none, Go.Value.slice Option.none 0 0, Go.Value.int Go.IntKind.i64 0, Go.Value.bool Bool.false]), 5, 72)),
    (71, ((Go.Value.agg #[Go.Value.slice Option.none 0 0, Go.Value.map Option.none, Go.Value.slice Option.none 0 0, Go.Value.int Go.IntKind.i64 0, Go.Value.bool Bool.false]), 5, 72)),
    (72, (Go.Value.nilFunc, 1, 8)),
    (73, (Go.Value.nilFunc, 1, 8)),
    (74, (Go.Value.nilFunc, 1, 8)),
    (75, (Go.Value.nilFunc, 1, 8)),
    (76, ((Go.Value.tuple #[Go.Value.string { data := #[] }, Go.Value.int Go.IntKind.i64 0]), 1, 0)),
    (77, (Go.Value.nilFunc, 1, 8)),
    (78, (Go.Value.nilFunc, 1, 8)),
    (79, ((Go.Value.slice Option.none 0 0), 1, 24)),
    (80, (Go.Value.nilFunc, 1, 8)),
    (81, (Go.Value.nilFunc, 1, 8)),
    (82, (Go.Value.nilFunc, 1, 8)),
    (83, ((Go.Value.int Go.IntKind.u64 0), 1, 8)),
    (84, ((Go.Value.tuple #[Go.Value.int Go.IntKind.u64 0, Go.Value.string { data := #[] }, Go.Value.int Go.IntKind.i64 0]), 1, 0)),
    (85, (Go.Value.nilFunc, 1, 8)),
    (86, (Go.Value.nilFunc, 1, 8)),
    (87, ((Go.Value.int Go.IntKind.u64 0), 1, 8)),
    (88, ((Go.Value.tuple #[Go.Value.int Go.IntKind.u64 0, Go.Value.int Go.IntKind.u64 0]), 1, 0)),
    (89, (Go.Value.nilFunc, 1, 8)),
    (90, (Go.Value.nilFunc, 1, 8)),
    (91, ((Go.Value.pointer Option.none), 1, 8)),
    (92, ((Go.Value.agg #[Go.Value.pointer Option.none, Go.Value.slice Option.none 0 0]), 2, 32)),
    (93, ((Go.Value.agg #[Go.Value.pointer Option.none, Go.Value.slice Option.none 0 0]), 2, 32)),
    (94, (Go.Value.nilIface, 1, 16)),
    (95, (Go.Value.nilIface, 1, 16)),
    (96, ((Go.Value.tuple #[Go.Value.int Go.IntKind.i64 0, Go.Value.nilIface]), 1, 0)),
    (97, (Go.Value.nilFunc, 1, 8)),
    (98, ((Go.Value.int Go.IntKind.u32 0), 1, 4)),
    (99, (Go.Value.nilFunc, 1, 8)),
    (100, ((Go.Value.tuple #[Go.Value.string { data := #[] }, Go.Value.bool Bool.false]), 1, 0)),
    (101, (Go.Value.nilFunc, 1, 8)),
    (102, (Go.Value.nilFunc, 1, 8)),
    (103, (Go.Value.nilFunc, 1, 8)),
    (104, (Go.Value.nilFunc, 1, 8)),
    (105, ((Go.Value.tuple #[Go.Value.int Go.IntKind.u32 0, Go.Value.int Go.IntKind.u32 0]), 1, 0)),
    (106, (Go.Value.nilFunc, 1, 8)),
    (107, ((Go.Value.tuple #[Go.Value.int Go.IntKind.u64 0, Go.Value.int Go.IntKind.u64 0]), 1, 0)),
    (108, (Go.Value.nilFunc, 1, 8)),
    (109, ((Go.Value.pointer Option.none), 1, 8)),
    (110, (Go.Value.nilFunc, 1, 8)),
    (111, ((Go.Value.int Go.IntKind.i64 0), 1, 8)),
    (112, ((Go.Value.tuple #[Go.Value.int Go.IntKind.i64 0, Go.Value.int Go.IntKind.i64 0]), 1, 0)),
    (113, (Go.Value.nilFunc, 1, 8)),
    (114, (Go.Value.nilFunc, 1, 8)),
    (115, (Go.Value.nilFunc, 1, 8)),
    (116, ((Go.Value.tuple #[Go.Value.int Go.IntKind.i64 0, Go.Value.bool Bool.false]), 1, 0)),
    (117, (Go.Value.nilFunc, 1, 8)),
    (118, (Go.Value.nilFunc, 1, 8)),
    (119, (Go.Value.nilFunc, 1, 8)),
    (120, ((Go.Value.pointer Option.none), 1, 8)),
    (121, (Go.Value.nilFunc, 1, 8)),
    (122, (Go.Value.nilFunc, 1, 8)),
    (123, ((Go.Value.int Go.IntKind.u64 0), 1, 8)),
    (124, (Go.Value.nilFunc, 1, 8)),
    (125, (Go.Value.nilFunc, 1, 8)),
    (126, (Go.Value.nilFunc, 1, 8)),
    (127, ((Go.Value.pointer Option.none), 1, 8)),
    (128, (Go.Value.nilFunc, 1, 8)),
    (129, ((Go.Value.pointer Option.none), 1, 8)),
    (130, ((Go.Value.tuple #[Go.Value.int Go.IntKind.i64 0, Go.Value.int Go.IntKind.i64 0]), 1, 0)),
    (131, (Go.Value.nilFunc, 1, 8)),
    (132, ((Go.Value.agg #[Go.Value.pointer Option.none, Go.Value.pointer Option.none, Go.Value.pointer Option.none, Go.Value.string { data := #[] }]), 4, 40)),
    (133, ((Go.Value.agg #[Go.Value.pointer Option.none, Go.Value.pointer Option.none, Go.Value.pointer Option.none, Go.Value.string { data := #[] }]), 4, 40)),
    (134, ((Go.Value.agg #[]), 0, 0)),
    (135, ((Go.Value.agg #[]), 0, 0)),
    (136, ((Go.Value.agg #[]), 0, 0)),
    (137, ((Go.Value.int Go.IntKind.u8 0), 1, 1)),
    (138, ((Go.Value.int Go.IntKind.u8 0), 1, 1)),
    (139, (Go.Value.nilFunc, 1, 8)),
    (140, ((Go.Value.int Go.IntKind.i32 0), 1, 4)),
    (141, ((Go.Value.int Go.IntKind.i32 0), 1, 4)),
    (142, ((Go.Value.agg #[Go.Value.int Go.IntKind.u64 0, Go.Value.int Go.IntKind.u64 0, Go.Value.int Go.IntKind.u32 0, Go.Value.int Go.IntKind.u8 0, Go.Value.int Go.IntKind.u8 0, Go.Value.int Go.IntKind.u8 0, Go.Value.int Go.IntKind.u8 0, Go.Value.nilFunc, Go.Value.pointer Option.none, Go.Value.int Go.IntKind.i32 0, Go.Value.int Go.IntKind.i32 0]), 11, 48)),
    (143, ((Go.Value.agg #[Go.Value.int Go.IntKind.u64 0, Go.Value.int Go.IntKind.u64 0, Go.Value.int Go.IntKind.u32 0, Go.Value.int Go.IntKind.u8 0, Go.Value.int Go.IntKind.u8 0, Go.Value.int Go.IntKind.u8 0, Go.Value.int Go.IntKind.u8 0, Go.Value.nilFunc, Go.Value.pointer Option.none, Go.Value.int Go.IntKind.i32 0, Go.Value.int Go.IntKind.i32 0]), 11, 48))]
theorem inf0 : (Try.prog.info? 0).map (fun i => (i.zero, i.size, i.bytes)) = some (some (Go.Value.tuple #[]), 1, 0) := by kernel_rfl
theorem inf1 : (Try.prog.info? 1).map (fun i => (i.zero, i.size, i.bytes)) = some (some Go.Value.nilFunc, 1, 8) := by kernel_rfl
theorem inf2 : (Try.prog.info? 2).map (fun i => (i.zero, i.size, i.bytes)) = some (some (Go.Value.int Go.IntKind.i64 0), 1, 8) := by kernel_rfl
theorem inf3 : (Try.prog.info? 3).map (fun i => (i.zero, i.size, i.bytes)) = some (some (Go.Value.int Go.IntKind.i64 0), 1, 8) := by kernel_rfl
theorem inf4 : (Try.prog.info? 4).map (fun i => (i.zero, i.size, i.bytes)) = some (some (Go.Value.bool Bool.false), 1, 1) := by kernel_rfl
theorem inf5 : (Try.prog.info? 5).map (fun i => (i.zero, i.size, i.bytes)) = some (some (Go.Value.int Go.IntKind.u8 0), 1, 1) := by kernel_rfl
theorem inf6 : (Try.prog.info? 6).map (fun i => (i.zero, i.size, i.bytes)) = some (some (Go.Value.int Go.IntKind.u8 0), 1, 1) := by kernel_rfl
theorem inf7 : (Try.prog.info? 7).map (fun i => (i.zero, i.size, i.bytes)) = some (some (Go.Value.agg #[Go.Value.int Go.IntKind.i64 0, Go.Value.int Go.IntKind.i64 0, Go.Value.bool Bool.false, Go.Value.int Go.IntKind.u8 0]), 4, 24) := by kernel_rfl
theorem inf8 : (Try.prog.info? 8).map (fun i => (i.zero, i.size, i.bytes)) = some (some (Go.Value.agg #[Go.Value.int Go.IntKind.i64 0, Go.Value.int Go.IntKind.i64 0, Go.Value.bool Bool.false, Go.Value.int Go.IntKind.u8 0]), 4, 24) := by kernel_rfl
theorem inf9 : (Try.prog.info? 9).map (fun i => (i.zero, i.size, i.bytes)) = some (some (Go.Value.string { data := #[] }), 1, 16) := by kernel_rfl
theorem inf10 : (Try.prog.info? 10).map (fun i => (i.zero, i.size, i.bytes)) = some (some (Go.Value.string { data := #[] }), 1, 16) := by kernel_rfl
theorem inf11 : (Try.prog.info? 11).map (fun i => (i.zero, i.size, i.bytes)) = some (some (Go.Value.string { data := #[] }), 1, 16) := by kernel_rfl
theorem inf12 : (Try.prog.info? 12).map (fun i => (i.zero, i.size, i.bytes)) = some (some (Go.Value.int Go.IntKind.u64 0), 1, 8) := by kernel_rfl
theorem inf13 : (Try.prog.info? 13).map (fun i => (i.zero, i.size, i.bytes)) = some (some (Go.Value.agg #[Go.Value.string { data := #[] }, Go.Value.int Go.IntKind.u64 0]), 2, 24) := by kernel_rfl
theorem inf14 : (Try.prog.info? 14).map (fun i => (i.zero, i.size, i.bytes)) = some (some (Go.Value.agg #[Go.Value.string { data := #[] }, Go.Value.int Go.IntKind.u64 0]), 2, 24) := by kernel_rfl
theorem inf15 : (Try.prog.info? 15).map (fun i => (i.zero, i.size, i.bytes)) = some (some (Go.Value.pointer Option.none), 1, 8) := by kernel_rfl
theorem inf16 : (Try.prog.info? 16).map (fun i => (i.zero, i.size, i.bytes)) = some (some (Go.Value.pointer Option.none), 1, 8) := by kernel_rfl
theorem inf17 : (Try.prog.info? 17).map (fun i => (i.zero, i.size, i.bytes)) = some (some (Go.Value.pointer Option.none), 1, 8) := by kernel_rfl
theorem inf18 : (Try.prog.info? 18).map (fun i => (i.zero, i.size, i.bytes)) = some (some (Go.Value.agg #[Go.Value.pointer Option.none]), 1, 8) := by kernel_rfl
theorem inf19 : (Try.prog.info? 19).map (fun i => (i.zero, i.size, i.bytes)) = some (some (Go.Value.agg #[Go.Value.pointer Option.none]), 1, 8) := by kernel_rfl
theorem inf20 : (Try.prog.info? 20).map (fun i => (i.zero, i.size, i.bytes)) = some (some Go.Value.nilIface, 1, 16) := by kernel_rfl
theorem inf21 : (Try.prog.info? 21).map (fun i => (i.zero, i.size, i.bytes)) = some (some (Go.Value.int Go.IntKind.i32 0), 1, 4) := by kernel_rfl
theorem inf22 : (Try.prog.info? 22).map (fun i => (i.zero, i.size, i.bytes)) = some (some Go.Value.nilFunc, 1, 8) := by kernel_rfl
theorem inf23 : (Try.prog.info? 23).map (fun i => (i.zero, i.size, i.bytes)) = some (some (Go.Value.pointer Option.none), 1, 8) := by kernel_rfl
theorem inf24 : (Try.prog.info? 24).map (fun i => (i.zero, i.size, i.bytes)) = some (some (Go.Value.pointer Option.none), 1, 8) := by kernel_rfl
theorem inf25 : (Try.prog.info? 25).map (fun i => (i.zero, i.size, i.bytes)) = some (some (Go.Value.tuple #[Go.Value.pointer Option.none, Go.Value.pointer Option.none]), 1, 0) := by kernel_rfl
theorem inf26 : (Try.prog.info? 26).map (fun i => (i.zero, i.size, i.bytes)) = some (some Go.Value.nilFunc, 1, 8) := by kernel_rfl
theorem inf27 : (Try.prog.info? 27).map (fun i => (i.zero, i.size, i.bytes)) = some (some Go.Value.nilFunc, 1, 8) := by kernel_rfl
theorem inf28 : (Try.prog.info? 28).map (fun i => (i.zero, i.size, i.bytes)) = some (some (Go.Value.int Go.IntKind.i64 0), 1, 8) := by kernel_rfl
theorem inf29 : (Try.prog.info? 29).map (fun i => (i.zero, i.size, i.bytes)) = some (some (Go.Value.tuple #[Go.Value.int Go.IntKind.i64 0, Go.Value.int Go.IntKind.i64 0]), 1, 0) := by kernel_rfl
theorem inf30 : (Try.prog.info? 30).map (fun i => (i.zero, i.size, i.bytes)) = some (some Go.Value.nilFunc, 1, 8) := by kernel_rfl
theorem inf31 : (Try.prog.info? 31).map (fun i => (i.zero, i.size, i.bytes)) = some (some Go.Value.nilFunc, 1, 8) := by kernel_rfl
theorem inf32 : (Try.prog.info? 32).map (fun i => (i.zero, i.size, i.bytes)) = some (some Go.Value.nilFunc, 1, 8) := by kernel_rfl
theorem inf33 : (Try.prog.info? 33).map (fun i => (i.zero, i.size, i.bytes)) = some (some (Go.Value.slice Option.none 0 0), 1, 24) := by kernel_rfl
theorem inf34 : (Try.prog.info? 34).map (fun i => (i.zero, i.size, i.bytes)) = some (some Go.Value.nilFunc, 1, 8) := by kernel_rfl
theorem inf35 : (Try.prog.info? 35).map (fun i => (i.zero, i.size, i.bytes)) = some (some Go.Value.nilFunc, 1, 8) := by kernel_rfl
theorem inf36 : (Try.prog.info? 36).map (fun i => (i.zero, i.size, i.bytes)) = some (some Go.Value.nilFunc, 1, 8) := by kernel_rfl
theorem inf37 : (Try.prog.info? 37).map (fun i => (i.zero, i.size, i.bytes)) = some (some (Go.Value.tuple #[Go.Value.int Go.IntKind.i64 0, Go.Value.string { data := #[] }, Go.Value.int Go.IntKind.i64 0]), 1, 0) := by kernel_rfl
theorem inf38 : (Try.prog.info? 38).map (fun i => (i.zero, i.size, i.bytes)) = some (some Go.Value.nilFunc, 1, 8) := by kernel_rfl
theorem inf39 : (Try.prog.info? 39).map (fun i => (i.zero, i.size, i.bytes)) = some (some Go.Value.nilFunc, 1, 8) := by kernel_rfl
theorem inf40 : (Try.prog.info? 40).map (fun i => (i.zero, i.size, i.bytes)) = some (some (Go.Value.slice Option.none 0 0), 1, 24) := by kernel_rfl
theorem inf41 : (Try.prog.info? 41).map (fun i => (i.zero, i.size, i.bytes)) = some (some (Go.Value.tuple #[Go.Value.pointer Option.none, Go.Value.int Go.IntKind.i64 0]), 1, 0) := by kernel_rfl
theorem inf42 : (Try.prog.info? 42).map (fun i => (i.zero, i.size, i.bytes)) = some (some Go.Value.nilFunc, 1, 8) := by kernel_rfl
theorem inf43 : (Try.prog.info? 43).map (fun i => (i.zero, i.size, i.bytes)) = some (some Go.Value.nilFunc, 1, 8) := by kernel_rfl
theorem inf44 : (Try.prog.info? 44).map (fun i => (i.zero, i.size, i.bytes)) = some (some Go.Value.nilFunc, 1, 8) := by kernel_rfl
theorem inf45 : (Try.prog.info? 45).map (fun i => (i.zero, i.size, i.bytes)) = some (some Go.Value.nilFunc, 1, 8) := by kernel_rfl
theorem inf46 : (Try.prog.info? 46).map (fun i => (i.zero, i.size, i.bytes)) = some (some Go.Value.nilFunc, 1, 8) := by kernel_rfl
theorem inf47 : (Try.prog.info? 47).map (fun i => (i.zero, i.size, i.bytes)) = some (some (Go.Value.tuple #[Go.Value.pointer Option.none, Go.Value.int Go.IntKind.i64 0]), 1, 0) := by kernel_rfl
theorem inf48 : (Try.prog.info? 48).map (fun i => (i.zero, i.size, i.bytes)) = some (some Go.Value.nilFunc, 1, 8) := by kernel_rfl
theorem inf49 : (Try.prog.info? 49).map (fun i => (i.zero, i.size, i.bytes)) = some (some Go.Value.nilFunc, 1, 8) := by kernel_rfl
theorem inf50 : (Try.prog.info? 50).map (fun i => (i.zero, i.size, i.bytes)) = some (some (Go.Value.agg #[Go.Value.int Go.IntKind.i64 0, Go.Value.int Go.IntKind.i64 0, Go.Value.string { data := #[] }]), 3, 32) := by kernel_rfl
theorem inf51 : (Try.prog.info? 51).map (fun i => (i.zero, i.size, i.bytes)) = some (some (Go.Value.agg #[Go.Value.int Go.IntKind.i64 0, Go.Value.int Go.IntKind.i64 0, Go.Value.string { data := #[] }]), 3, 32) := by kernel_rfl
theorem inf52 : (Try.prog.info? 52).map (fun i => (i.zero, i.size, i.bytes)) = some (some (Go.Value.map Option.none), 1, 8) := by kernel_rfl
theorem inf53 : (Try.prog.info? 53).map (fun i => (i.zero, i.size, i.bytes)) = some (some (Go.Value.agg #[Go.Value.pointer Option.none, Go.Value.int Go.IntKind.i64 0, Go.Value.int Go.IntKind.i64 0, Go.Value.string { data := #[] }, Go.Value.map Option.none, Go.Value.map Option.none, Go.Value.bool Bool.false]), 7, 64) := by kernel_rfl
theorem inf54 : (Try.prog.info? 54).map (fun i => (i.zero, i.size, i.bytes)) = some (some (Go.Value.agg #[Go.Value.pointer Option.none, Go.Value.int Go.IntKind.i64 0, Go.Value.int Go.IntKind.i64 0, Go.Value.string { data := #[] }, Go.Value.map Option.none, Go.Value.map Option.none, Go.Value.bool Bool.false]), 7, 64) := by kernel_rfl
theorem inf55 : (Try.prog.info? 55).map (fun i => (i.zero, i.size, i.bytes)) = some (some Go.Value.nilFunc, 1, 8) := by kernel_rfl
theorem inf56 : (Try.prog.info? 56).map (fun i => (i.zero, i.size, i.bytes)) = some (some Go.Value.nilFunc, 1, 8) := by kernel_rfl
theorem inf57 : (Try.prog.info? 57).map (fun i => (i.zero, i.size, i.bytes)) = some (some Go.Value.nilFunc, 1, 8) := by kernel_rfl
theorem inf58 : (Try.prog.info? 58).map (fun i => (i.zero, i.size, i.bytes)) = some (some Go.Value.nilFunc, 1, 8) := by kernel_rfl
theorem inf59 : (Try.prog.info? 59).map (fun i => (i.zero, i.size, i.bytes)) = some (some Go.Value.nilFunc, 1, 8) := by kernel_rfl
theorem inf60 : (Try.prog.info? 60).map (fun i => (i.zero, i.size, i.bytes)) = some (some Go.Value.nilFunc, 1, 8) := by kernel_rfl
theorem inf61 : (Try.prog.info? 61).map (fun i => (i.zero, i.size, i.bytes)) = some (some Go.Value.nilFunc, 1, 8) := by kernel_rfl
theorem inf62 : (Try.prog.info? 62).map (fun i => (i.zero, i.size, i.bytes)) = some (some Go.Value.nilFunc, 1, 8) := by kernel_rfl
theorem inf63 : (Try.prog.info? 63).map (fun i => (i.zero, i.size, i.bytes)) = some (some Go.Value.nilFunc, 1, 8) := by kernel_rfl
theorem inf64 : (Try.prog.info? 64).map (fun i => (i.zero, i.size, i.bytes)) = some (some Go.Value.nilFunc, 1, 8) := by kernel_rfl
theorem inf65 : (Try.prog.info? 65).map (fun i => (i.zero, i.size, i.bytes)) = some (some Go.Value.nilFunc, 1, 8) := by kernel_rfl
theorem inf66 : (Try.prog.info? 66).map (fun i => (i.zero, i.size, i.bytes)) = some (some (Go.Value.tuple #[Go.Value.agg #[Go.Value.int Go.IntKind.i64 0, Go.Value.int Go.IntKind.i64 0, Go.Value.string { data := #[] }], Go.Value.bool Bool.false]), 1, 0) := by kernel_rfl
theorem inf67 : (Try.prog.info? 67).map (fun i => (i.zero, i.size, i.bytes)) = some (some Go.Value.nilFunc, 1, 8) := by kernel_rfl
theorem inf68 : (Try.prog.info? 68).map (fun i => (i.zero, i.size, i.bytes)) = some (some Go.Value.nilFunc, 1, 8) := by kernel_rfl
theorem inf69 : (Try.prog.info? 69).map (fun i => (i.zero, i.size, i.bytes)) = some (some (Go.Value.map Option.none), 1, 8) := by kernel_rfl
theorem inf70 : (Try.prog.info? 70).map (fun i => (i.zero, i.size, i.bytes)) = some (some (Go.Value.agg #[Go.Value.slice Option.none 0 0, Go.Value.map Option.none, Go.Value.slice Option.none 0 0, Go.Value.int Go.IntKind.i64 0, Go.Value.bool Bool.false]), 5, 72) := by kernel_rfl
theorem inf71 : (Try.prog.info? 71).map (fun i => (i.zero, i.size, i.bytes)) = some (some (Go.Value.agg #[Go.Value.slice Option.none 0 0, Go.Value.map Option.none, Go.Value.slice Option.none 0 0, Go.Value.int Go.IntKind.i64 0, Go.Value.bool Bool.false]), 5, 72) := by kernel_rfl
theorem inf72 : (Try.prog.info? 72).map (fun i => (i.zero, i.size, i.bytes)) = some (some Go.Value.nilFunc, 1, 8) := by kernel_rfl
theorem inf73 : (Try.prog.info? 73).map (fun i => (i.zero, i.size, i.bytes)) = some (some Go.Value.nilFunc, 1, 8) := by kernel_rfl
theorem inf74 : (Try.prog.info? 74).map (fun i => (i.zero, i.size, i.bytes)) = some (some Go.Value.nilFunc, 1, 8) := by kernel_rfl
theorem inf75 : (Try.prog.info? 75).map (fun i => (i.zero, i.size, i.bytes)) = some (some Go.Value.nilFunc, 1, 8) := by kernel_rfl
theorem inf76 : (Try.prog.info? 76).map (fun i => (i.zero, i.size, i.bytes)) = some (some (Go.Value.tuple #[Go.Value.string { data := #[] }, Go.Value.int Go.IntKind.i64 0]), 1, 0) := by kernel_rfl
theorem inf77 : (Try.prog.info? 77).map (fun i => (i.zero, i.size, i.bytes)) = some (some Go.Value.nilFunc, 1, 8) := by kernel_rfl
theorem inf78 : (Try.prog.info? 78).map (fun i => (i.zero, i.size, i.bytes)) = some (some Go.Value.nilFunc, 1, 8) := by kernel_rfl
theorem inf79 : (Try.prog.info? 79).map (fun i => (i.zero, i.size, i.bytes)) = some (some (Go.Value.slice Option.none 0 0), 1, 24) := by kernel_rfl
theorem inf80 : (Try.prog.info? 80).map (fun i => (i.zero, i.size, i.bytes)) = some (some Go.Value.nilFunc, 1, 8) := by kernel_rfl
theorem inf81 : (Try.prog.info? 81).map (fun i => (i.zero, i.size, i.bytes)) = some (some Go.Value.nilFunc, 1, 8) := by kernel_rfl
theorem inf82 : (Try.prog.info? 82).map (fun i => (i.zero, i.size, i.bytes)) = some (some Go.Value.nilFunc, 1, 8) := by kernel_rfl
theorem inf83 : (Try.prog.info? 83).map (fun i => (i.zero, i.size, i.bytes)) = some (some (Go.Value.int Go.IntKind.u64 0), 1, 8) := by kernel_rfl
theorem inf84 : (Try.prog.info? 84).map (fun i => (i.zero, i.size, i.bytes)) = some (some (Go.Value.tuple #[Go.Value.int Go.IntKind.u64 0, Go.Value.string { data := #[] }, Go.Value.int Go.IntKind.i64 0]), 1, 0) := by kernel_rfl
theorem inf85 : (Try.prog.info? 85).map (fun i => (i.zero, i.size, i.bytes)) = some (some Go.Value.nilFunc, 1, 8) := by kernel_rfl
theorem inf86 : (Try.prog.info? 86).map (fun i => (i.zero, i.size, i.bytes)) = some (some Go.Value.nilFunc, 1, 8) := by kernel_rfl
theorem inf87 : (Try.prog.info? 87).map (fun i => (i.zero, i.size, i.bytes)) = some (some (Go.Value.int Go.IntKind.u64 0), 1, 8) := by kernel_rfl
theorem inf88 : (Try.prog.info? 88).map (fun i => (i.zero, i.size, i.bytes)) = some (some (Go.Value.tuple #[Go.Value.int Go.IntKind.u64 0, Go.Value.int Go.IntKind.u64 0]), 1, 0) := by kernel_rfl
theorem inf89 : (Try.prog.info? 89).map (fun i => (i.zero, i.size, i.bytes)) = some (some Go.Value.nilFunc, 1, 8) := by kernel_rfl
theorem inf90 : (Try.prog.info? 90).map (fun i => (i.zero, i.size, i.bytes)) = some (some Go.Value.nilFunc, 1, 8) := by kernel_rfl
theorem inf91 : (Try.prog.info? 91).map (fun i => (i.zero, i.size, i.bytes)) = some (some (Go.Value.pointer Option.none), 1, 8) := by kernel_rfl
theorem inf92 : (Try.prog.info? 92).map (fun i => (i.zero, i.size, i.bytes)) = some (some (Go.Value.agg #[Go.Value.pointer Option.none, Go.Value.slice Option.none 0 0]), 2, 32) := by kernel_rfl
theorem inf93 : (Try.prog.info? 93).map (fun i => (i.zero, i.size, i.bytes)) = some (some (Go.Value.agg #[Go.Value.pointer Option.none, Go.Value.slice Option.none 0 0]), 2, 32) := by kernel_rfl
theorem inf94 : (Try.prog.info? 94).map (fun i => (i.zero, i.size, i.bytes)) = some (some Go.Value.nilIface, 1, 16) := by kernel_rfl
theorem inf95 : (Try.prog.info? 95).map (fun i => (i.zero, i.size, i.bytes)) = some (some Go.Value.nilIface, 1, 16) := by kernel_rfl
theorem inf96 : (Try.prog.info? 96).map (fun i => (i.zero, i.size, i.bytes)) = some (some (Go.Value.tuple #[Go.Value.int Go.IntKind.i64 0, Go.Value.nilIface]), 1, 0) := by kernel_rfl
theorem inf97 : (Try.prog.info? 97).map (fun i => (i.zero, i.size, i.bytes)) = some (some Go.Value.nilFunc, 1, 8) := by kernel_rfl
theorem inf98 : (Try.prog.info? 98).map (fun i => (i.zero, i.size, i.bytes)) = some (some (Go.Value.int Go.IntKind.u32 0), 1, 4) := by kernel_rfl
theorem inf99 : (Try.prog.info? 99).map (fun i => (i.zero, i.size, i.bytes)) = some (some Go.Value.nilFunc, 1, 8) := by kernel_rfl
theorem inf100 : (Try.prog.info? 100).map (fun i => (i.zero, i.size, i.bytes)) = some (some (Go.Value.tuple #[Go.Value.string { data := #[] }, Go.Value.bool Bool.false]), 1, 0) := by kernel_rfl
theorem inf101 : (Try.prog.info? 101).map (fun i => (i.zero, i.size, i.bytes)) = some (some Go.Value.nilFunc, 1, 8) := by kernel_rfl
theorem inf102 : (Try.prog.info? 102).map (fun i => (i.zero, i.size, i.bytes)) = some (some Go.Value.nilFunc, 1, 8) := by kernel_rfl
theorem inf103 : (Try.prog.info? 103).map (fun i => (i.zero, i.size, i.bytes)) = some (some Go.Value.nilFunc, 1, 8) := by kernel_rfl
theorem inf104 : (Try.prog.info? 104).map (fun i => (i.zero, i.size, i.bytes)) = some (some Go.Value.nilFunc, 1, 8) := by kernel_rfl
theorem inf105 : (Try.prog.info? 105).map (fun i => (i.zero, i.size, i.bytes)) = some (some (Go.Value.tuple #[Go.Value.int Go.IntKind.u32 0, Go.Value.int Go.IntKind.u32 0]), 1, 0) := by kernel_rfl
theorem inf106 : (Try.prog.info? 106).map (fun i => (i.zero, i.size, i.bytes)) = some (some Go.Value.nilFunc, 1, 8) := by kernel_rfl
theorem inf107 : (Try.prog.info? 107).map (fun i => (i.zero, i.size, i.bytes)) = some (some (Go.Value.tuple #[Go.Value.int Go.IntKind.u64 0, Go.Value.int Go.IntKind.u64 0]), 1, 0) := by kernel_rfl
theorem inf108 : (Try.prog.info? 108).map (fun i => (i.zero, i.size, i.bytes)) = some (some Go.Value.nilFunc, 1, 8) := by kernel_rfl
theorem inf109 : (Try.prog.info? 109).map (fun i => (i.zero, i.size, i.bytes)) = some (some (Go.Value.pointer Option.none), 1, 8) := by kernel_rfl
theorem inf110 : (Try.prog.info? 110).map (fun i => (i.zero, i.size, i.bytes)) = some (some Go.Value.nilFunc, 1, 8) := by kernel_rfl
theorem inf111 : (Try.prog.info? 111).map (fun i => (i.zero, i.size, i.bytes)) = some (some (Go.Value.int Go.IntKind.i64 0), 1, 8) := by kernel_rfl
theorem inf112 : (Try.prog.info? 112).map (fun i => (i.zero, i.size, i.bytes)) = some (some (Go.Value.tuple #[Go.Value.int Go.IntKind.i64 0, Go.Value.int Go.IntKind.i64 0]), 1, 0) := by kernel_rfl
theorem inf113 : (Try.prog.info? 113).map (fun i => (i.zero, i.size, i.bytes)) = some (some Go.Value.nilFunc, 1, 8) := by kernel_rfl
theorem inf114 : (Try.prog.info? 114).map (fun i => (i.zero, i.size, i.bytes)) = some (some Go.Value.nilFunc, 1, 8) := by kernel_rfl
theorem inf115 : (Try.prog.info? 115).map (fun i => (i.zero, i.size, i.bytes)) = some (some Go.Value.nilFunc, 1, 8) := by kernel_rfl
theorem inf116 : (Try.prog.info? 116).map (fun i => (i.zero, i.size, i.bytes)) = some (some (Go.Value.tuple #[Go.Value.int Go.IntKind.i64 0, Go.Value.bool Bool.false]), 1, 0) := by kernel_rfl
theorem inf117 : (Try.prog.info? 117).map (fun i => (i.zero, i.size, i.bytes)) = some (some Go.Value.nilFunc, 1, 8) := by kernel_rfl
theorem inf118 : (Try.prog.info? 118).map (fun i => (i.zero, i.size, i.bytes)) = some (some Go.Value.nilFunc, 1, 8) := by kernel_rfl
theorem inf119 : (Try.prog.info? 119).map (fun i => (i.zero, i.size, i.bytes)) = some (some Go.Value.nilFunc, 1, 8) := by kernel_rfl
theorem inf120 : (Try.prog.info? 120).map (fun i => (i.zero, i.size, i.bytes)) = some (some (Go.Value.pointer Option.none), 1, 8) := by kernel_rfl
theorem inf121 : (Try.prog.info? 121).map (fun i => (i.zero, i.size, i.bytes)) = some (some Go.Value.nilFunc, 1, 8) := by kernel_rfl
theorem inf122 : (Try.prog.info? 122).map (fun i => (i.zero, i.size, i.bytes)) = some (some Go.Value.nilFunc, 1, 8) := by kernel_rfl
theorem inf123 : (Try.prog.info? 123).map (fun i => (i.zero, i.size, i.bytes)) = some (some (Go.Value.int Go.IntKind.u64 0), 1, 8) := by kernel_rfl
theorem inf124 : (Try.prog.info? 124).map (fun i => (i.zero, i.size, i.bytes)) = some (some Go.Value.nilFunc, 1, 8) := by kernel_rfl
theorem inf125 : (Try.prog.info? 125).map (fun i => (i.zero, i.size, i.bytes)) = some (some Go.Value.nilFunc, 1, 8) := by kernel_rfl
theorem inf126 : (Try.prog.info? 126).map (fun i => (i.zero, i.size, i.bytes)) = some (some Go.Value.nilFunc, 1, 8) := by kernel_rfl
theorem inf127 : (Try.prog.info? 127).map (fun i => (i.zero, i.size, i.bytes)) = some (some (Go.Value.pointer Option.none), 1, 8) := by kernel_rfl
theorem inf128 : (Try.prog.info? 128).map (fun i => (i.zero, i.size, i.bytes)) = some (some Go.Value.nilFunc, 1, 8) := by kernel_rfl
theorem inf129 : (Try.prog.info? 129).map (fun i => (i.zero, i.size, i.bytes)) = some (some (Go.Value.pointer Option.none), 1, 8) := by kernel_rfl
theorem inf130 : (Try.prog.info? 130).map (fun i => (i.zero, i.size, i.bytes)) = some (some (Go.Value.tuple #[Go.Value.int Go.IntKind.i64 0, Go.Value.int Go.IntKind.i64 0]), 1, 0) := by kernel_rfl
theorem inf131 : (Try.prog.info? 131).map (fun i => (i.zero, i.size, i.bytes)) = some (some Go.Value.nilFunc, 1, 8) := by kernel_rfl
theorem inf132 : (Try.prog.info? 132).map (fun i => (i.zero, i.size, i.bytes)) = some (some (Go.Value.agg #[Go.Value.pointer Option.none, Go.Value.pointer Option.none, Go.Value.pointer Option.none, Go.Value.string { data := #[] }]), 4, 40) := by kernel_rfl
theorem inf133 : (Try.prog.info? 133).map (fun i => (i.zero, i.size, i.bytes)) = some (some (Go.Value.agg #[Go.Value.pointer Option.none, Go.Value.pointer Option.none, Go.Value.pointer Option.none, Go.Value.string { data := #[] }]), 4, 40) := by kernel_rfl
theorem inf134 : (Try.prog.info? 134).map (fun i => (i.zero, i.size, i.bytes)) = some (some (Go.Value.agg #[]), 0, 0) := by kernel_rfl
theorem inf135 : (Try.prog.info? 135).map (fun i => (i.zero, i.size, i.bytes)) = some (some (Go.Value.agg #[]), 0, 0) := by kernel_rfl
theorem inf136 : (Try.prog.info? 136).map (fun i => (i.zero, i.size, i.bytes)) = some (some (Go.Value.agg #[]), 0, 0) := by kernel_rfl
theorem inf137 : (Try.prog.info? 137).map (fun i => (i.zero, i.size, i.bytes)) = some (some (Go.Value.int Go.IntKind.u8 0), 1, 1) := by kernel_rfl
theorem inf138 : (Try.prog.info? 138).map (fun i => (i.zero, i.size, i.bytes)) = some (some (Go.Value.int Go.IntKind.u8 0), 1, 1) := by kernel_rfl
theorem inf139 : (Try.prog.info? 139).map (fun i => (i.zero, i.size, i.bytes)) = some (some Go.Value.nilFunc, 1, 8) := by kernel_rfl
theorem inf140 : (Try.prog.info? 140).map (fun i => (i.zero, i.size, i.bytes)) = some (some (Go.Value.int Go.IntKind.i32 0), 1, 4) := by kernel_rfl
theorem inf141 : (Try.prog.info? 141).map (fun i => (i.zero, i.size, i.bytes)) = some (some (Go.Value.int Go.IntKind.i32 0), 1, 4) := by kernel_rfl
theorem inf142 : (Try.prog.info? 142).map (fun i => (i.zero, i.size, i.bytes)) = some (some (Go.Value.agg #[Go.Value.int Go.IntKind.u64 0, Go.Value.int Go.IntKind.u64 0, Go.Value.int Go.IntKind.u32 0, Go.Value.int Go.IntKind.u8 0, Go.Value.int Go.IntKind.u8 0, Go.Value.int Go.IntKind.u8 0, Go.Value.int Go.IntKind.u8 0, Go.Value.nilFunc, Go.Value.pointer Option.none, Go.Value.int Go.IntKind.i32 0, Go.Value.int Go.IntKind.i32 0]), 11, 48) := by kernel_rfl
theorem inf143 : (Try.prog.info? 143).map (fun i => (i.zero, i.size, i.bytes)) = some (some (Go.Value.agg #[Go.Value.int Go.IntKind.u64 0, Go.Value.int Go.IntKind.u64 0, Go.Value.int Go.IntKind.u32 0, Go.Value.int Go.IntKind.u8 0, Go.Value.int Go.IntKind.u8 0, Go.Value.int Go.IntKind.u8 0, Go.Value.int Go.IntKind.u8 0, Go.Value.nilFunc, Go.Value.pointer Option.none, Go.Value.int Go.IntKind.i32 0, Go.Value.int Go.IntKind.i32 0]), 11, 48) := by kernel_rfl
set_option maxRecDepth 1000000 in
theorem env_ty : ∀ p ∈ env.ty, Try.prog.underlying p.1 = some p.2 := (List.forall_mem_cons.2 ⟨Try.underlying0, (List.forall_mem_cons.2 ⟨Try.underlying1, (List.forall_mem_cons.2 ⟨Try.underlying2, (List.forall_mem_cons.2 ⟨Try.underlying3, (List.forall_mem_cons.2 ⟨Try.underlying4, (List.forall_mem_cons.2 ⟨Try.underlying5, (List.forall_mem_cons.2 ⟨Try.underlying6, (List.forall_mem_cons.2 ⟨Try.underlying7, (List.forall_mem_cons.2 ⟨Try.underlying8, (List.forall_mem_cons.2 ⟨Try.underlying9, (List.forall_mem_cons.2 ⟨Try.underlying10, (List.forall_mem_cons.2 ⟨Try.underlying11, (List.forall_mem_cons.2 ⟨Try.underlying12, (List.forall_mem_cons.2 ⟨Try.underlying13, (List.forall_mem_cons.2 ⟨Try.underlying14, (List.forall_mem_cons.2 ⟨Try.underlying15, (List.forall_mem_cons.2 ⟨Try.underlying16, (List.forall_mem_cons.2 ⟨Try.underlying17, (List.forall_mem_cons.2 ⟨Try.underlying18, (List.forall_mem_cons.2 ⟨Try.underlying19, (List.forall_mem_cons.2 ⟨Try.underlying20, (List.forall_mem_cons.2 ⟨Try.underlying21, (List.forall_mem_cons.2 ⟨Try.underlying22, (List.forall_mem_cons.2 ⟨Try.underlying23, (List.forall_mem_cons.2 ⟨Try.underlying24, (List.forall_mem_cons.2 ⟨Try.underlying25, (List.forall_mem_cons.2 ⟨Try.underlying26, (List.forall_mem_cons.2 ⟨Try.underlying27, (List.forall_mem_cons.2 ⟨Try.underlying28, (List.forall_mem_cons.2 ⟨Try.underlying29, (List.forall_mem_cons.2 ⟨Try.underlying30, (List.forall_mem_cons.2 ⟨Try.underlying31, (List.forall_mem_cons.2 ⟨Try.underlying32, (List.forall_mem_cons.2 ⟨Try.underlying33, (List.forall_mem_cons.2 ⟨Try.underlying34, (List.forall_mem_cons.2 ⟨Try.underlying35, (List.forall_mem_cons.2 ⟨Try.underlying36, (List.forall_mem_cons.2 ⟨Try.underlying37, (List.forall_mem_cons.2 ⟨Try.underlying38, (List.forall_mem_cons.2 ⟨Try.underlying39, (List.forall_mem_cons.2 ⟨Try.underlying40, (List.forall_mem_cons.2 ⟨Try.underlying41, (List.forall_mem_cons.2 ⟨Try.underlying42, (List.forall_mem_cons.2 ⟨Try.underlying43, (List.forall_mem_cons.2 ⟨Try.underlying44, (List.forall_mem_cons.2 ⟨Try.underlying45, (List.forall_mem_cons.2 ⟨Try.underlying46, (List.forall_mem_cons.2 ⟨Try.underlying47, (List.forall_mem_cons.2 ⟨Try.underlying48, (List.forall_mem_cons.2 ⟨Try.underlying49, (List.forall_mem_cons.2 ⟨Try.underlying50, (List.forall_mem_cons.2 ⟨Try.underlying51, (List.forall_mem_cons.2 ⟨Try.underlying52, (List.forall_mem_cons.2 ⟨Try.underlying53, (List.forall_mem_cons.2 ⟨Try.underlying54, (List.forall_mem_cons.2 ⟨Try.underlying55, (List.forall_mem_cons.2 ⟨Try.underlying56, (List.forall_mem_cons.2 ⟨Try.underlying57, (List.forall_mem_cons.2 ⟨Try.underlying58, (List.forall_mem_cons.2 ⟨Try.underlying59, (List.forall_mem_cons.2 ⟨Try.underlying60, (List.forall_mem_cons.2 ⟨Try.underlying61, (List.forall_mem_cons.2 ⟨Try.underlying62, (List.forall_mem_cons.2 ⟨Try.underlying63, (List.forall_mem_cons.2 ⟨Try.underlying64, (List.forall_mem_cons.2 ⟨Try.underlying65, (List.forall_mem_cons.2 ⟨Try.underlying66, (List.forall_mem_cons.2 ⟨Try.underlying67, (List.forall_mem_cons.2 ⟨Try.underlying68, (List.forall_mem_cons.2 ⟨Try.underlying69, (List.forall_mem_cons.2 ⟨Try.underlying70, (List.forall_mem_cons.2 ⟨Try.underlying71, (List.forall_mem_cons.2 ⟨Try.underlying72, (List.forall_mem_cons.2 ⟨Try.underlying73, (List.forall_mem_cons.2 ⟨Try.underlying74, (List.forall_mem_cons.2 ⟨Try.underlying75, (List.forall_mem_cons.2 ⟨Try.underlying76, (List.forall_mem_cons.2 ⟨Try.underlying77, (List.forall_mem_cons.2 ⟨Try.underlying78, (List.forall_mem_cons.2 ⟨Try.underlying79, (List.forall_mem_cons.2 ⟨Try.underlying80, (List.forall_mem_cons.2 ⟨Try.underlying81, (List.forall_mem_cons.2 ⟨Try.underlying82, (List.forall_mem_cons.2 ⟨Try.underlying83, (List.forall_mem_cons.2 ⟨Try.underlying84, (List.forall_mem_cons.2 ⟨Try.underlying85, (List.forall_mem_cons.2 ⟨Try.underlying86, (List.forall_mem_cons.2 ⟨Try.underlying87, (List.forall_mem_cons.2 ⟨Try.underlying88, (List.forall_mem_cons.2 ⟨Try.underlying89, (List.forall_mem_cons.2 ⟨Try.underlying90, (List.forall_mem_cons.2 ⟨Try.underlying91, (List.forall_mem_cons.2 ⟨Try.underlying92, (List.forall_mem_cons.2 ⟨Try.underlying93, (List.forall_mem_cons.2 ⟨Try.underlying94, (List.forall_mem_cons.2 ⟨Try.underlying95, (List.forall_mem_cons.2 ⟨Try.underlying96, (List.forall_mem_cons.2 ⟨Try.underlying97, (List.forall_mem_cons.2 ⟨Try.underlying98, (List.forall_mem_cons.2 ⟨Try.underlying99, (List.forall_mem_cons.2 ⟨Try.underlying100, (List.forall_mem_cons.2 ⟨Try.underlying101, (List.forall_mem_cons.2 ⟨Try.underlying102, (List.forall_mem_cons.2 ⟨Try.underlying103, (List.forall_mem_cons.2 ⟨Try.underlying104, (List.forall_mem_cons.2 ⟨Try.underlying105, (List.forall_mem_cons.2 ⟨Try.underlying106, (List.forall_mem_cons.2 ⟨Try.underlying107, (List.forall_mem_cons.2 ⟨Try.underlying108, (List.forall_mem_cons.2 ⟨Try.underlying109, (List.forall_mem_cons.2 ⟨Try.underlying110, (List.forall_mem_cons.2 ⟨Try.underlying111, (List.forall_mem_cons.2 ⟨Try.underlying112, (List.forall_mem_cons.2 ⟨Try.underlying113, (List.forall_mem_cons.2 ⟨Try.underlying114, (List.forall_mem_cons.2 ⟨Try.underlying115, (List.forall_mem_cons.2 ⟨Try.underlying116, (List.forall_mem_cons.2 ⟨Try.underlying117, (List.forall_mem_cons.2 ⟨Try.underlying118, (List.forall_mem_cons.2 ⟨Try.underlying119, (List.forall_mem_cons.2 ⟨Try.underlying120, (List.forall_mem_cons.2 ⟨Try.underlying121, (List.forall_mem_cons.2 ⟨Try.underlying122, (List.forall_mem_cons.2 ⟨Try.underlying123, (List.forall_mem_cons.2 ⟨Try.underlying124, (List.forall_mem_cons.2 ⟨Try.underlying125, (List.forall_mem_cons.2 ⟨Try.underlying126, (List.forall_mem_cons.2 ⟨Try.underlying127, (List.forall_mem_cons.2 ⟨Try.underlying128, (List.forall_mem_cons.2 ⟨Try.underlying129, (List.forall_mem_cons.2 ⟨Try.underlying130, (List.forall_mem_cons.2 ⟨Try.underlying131, (List.forall_mem_cons.2 ⟨Try.underlying132, (List.forall_mem_cons.2 ⟨Try.underlying133, (List.forall_mem_cons.2 ⟨Try.underlying134, (List.forall_mem_cons.2 ⟨Try.underlying135, (List.forall_mem_cons.2 ⟨Try.underlying136, (List.forall_mem_cons.2 ⟨Try.underlying137, (List.forall_mem_cons.2 ⟨Try.underlying138, (List.forall_mem_cons.2 ⟨Try.underlying139, (List.forall_mem_cons.2 ⟨Try.underlying140, (List.forall_mem_cons.2 ⟨Try.underlying141, (List.forall_mem_cons.2 ⟨Try.underlying142, (List.forall_mem_cons.2 ⟨Try.underlying143, (fun _ h => nomatch h)⟩)⟩)⟩)⟩)⟩)⟩)⟩)⟩)⟩)⟩)⟩)⟩)⟩)⟩)⟩)⟩)⟩)⟩)⟩)⟩)⟩)⟩)⟩)⟩)⟩)⟩)⟩)⟩)⟩)⟩)⟩)⟩)⟩)⟩)⟩)⟩)⟩)⟩)⟩)⟩)⟩)⟩)⟩)⟩)⟩)⟩)⟩)⟩)⟩)⟩)⟩)⟩)⟩)⟩)⟩)⟩)⟩)⟩)⟩)⟩)⟩)⟩)⟩)⟩)⟩)⟩)⟩)⟩)⟩)⟩)⟩)⟩)⟩)⟩)⟩)⟩)⟩)⟩)⟩)⟩)⟩)⟩)⟩)⟩)⟩)⟩)⟩)⟩)⟩)⟩)⟩)⟩)⟩)⟩)⟩)⟩)⟩)⟩)⟩)⟩)⟩)⟩)⟩)⟩)⟩)⟩)⟩)⟩)⟩)⟩)⟩)⟩)⟩)⟩)⟩)⟩)⟩)⟩)⟩)⟩)⟩)⟩)⟩)⟩)⟩)⟩)⟩)⟩)⟩)⟩)⟩)⟩)⟩)⟩)⟩)⟩)⟩)⟩)⟩)⟩)⟩)⟩)⟩)⟩)
set_option maxRecDepth 1000000 in
theorem env_inf : ∀ p ∈ env.inf, (Try.prog.info? p.1).map (fun i => (i.zero, i.size, i.bytes)) = some (some p.2.1, p.2.2.1, p.2.2.2) := (List.forall_mem_cons.2 ⟨inf0, (List.forall_mem_cons.2 ⟨inf1, (List.forall_mem_cons.2 ⟨inf2, (List.forall_mem_cons.2 ⟨inf3, (List.forall_mem_cons.2 ⟨inf4, (List.forall_mem_cons.2 ⟨inf5, (List.forall_mem_cons.2 ⟨inf6, (List.forall_mem_cons.2 ⟨inf7, (List.forall_mem_cons.2 ⟨inf8, (List.forall_mem_cons.2 ⟨inf9, (List.forall_mem_cons.2 ⟨inf10, (List.forall_mem_cons.2 ⟨inf11, (List.forall_mem_cons.2 ⟨inf12, (List.forall_mem_cons.2 ⟨inf13, (List.forall_mem_cons.2 ⟨inf14, (List.forall_mem_cons.2 ⟨inf15, (List.forall_mem_cons.2 ⟨inf16, (List.forall_mem_cons.2 ⟨inf17, (List.forall_mem_cons.2 ⟨inf18, (List.forall_mem_cons.2 ⟨inf19, (List.forall_mem_cons.2 ⟨inf20, (List.forall_mem_cons.2 ⟨inf21, (List.forall_mem_cons.2 ⟨inf22, (List.forall_mem_cons.2 ⟨inf23, (List.forall_mem_cons.2 ⟨inf24, (List.forall_mem_cons.2 ⟨inf25, (List.forall_mem_cons.2 ⟨inf26, (List.forall_mem_cons.2 ⟨inf27, (List.forall_mem_cons.2 ⟨inf28, (List.forall_mem_cons.2 ⟨inf29, (List.forall_mem_cons.2 ⟨inf30, (List.forall_mem_cons.2 ⟨inf31, (List.forall_mem_cons.2 ⟨inf32, (List.forall_mem_cons.2 ⟨inf33, (List.forall_mem_cons.2 ⟨inf34, (List.forall_mem_cons.2 ⟨inf35, (List.forall_mem_cons.2 ⟨inf36, (List.forall_mem_cons.2 ⟨inf37, (List.forall_mem_cons.2 ⟨inf38, (List.forall_mem_cons.2 ⟨inf39, (List.forall_mem_cons.2 ⟨inf40, (List.forall_mem_cons.2 ⟨inf41, (List.forall_mem_cons.2 ⟨inf42, (List.forall_mem_cons.2 ⟨inf43, (List.forall_mem_cons.2 ⟨inf44, (List.forall_mem_cons.2 ⟨inf45, (List.forall_mem_cons.2 ⟨inf46, (List.forall_mem_cons.2 ⟨inf47, (List.forall_mem_cons.2 ⟨inf48, (List.forall_mem_cons.2 ⟨inf49, (List.forall_mem_cons.2 ⟨inf50, (List.forall_mem_cons.2 ⟨inf51, (List.forall_mem_cons.2 ⟨inf52, (List.forall_mem_cons.2 ⟨inf53, (List.forall_mem_cons.2 ⟨inf54, (List.forall_mem_cons.2 ⟨inf55, (List.forall_mem_cons.2 ⟨inf56, (List.forall_mem_cons.2 ⟨inf57, (List.forall_mem_cons.2 ⟨inf58, (List.forall_mem_cons.2 ⟨inf59, (List.forall_mem_cons.2 ⟨inf60, (List.forall_mem_cons.2 ⟨inf61, (List.forall_mem_cons.2 ⟨inf62, (List.forall_mem_cons.2 ⟨inf63, (List.forall_mem_cons.2 ⟨inf64, (List.forall_mem_cons.2 ⟨inf65, (List.forall_mem_cons.2 ⟨inf66, (List.forall_mem_cons.2 ⟨inf67, (List.forall_mem_cons.2 ⟨inf68, (List.forall_mem_cons.2 ⟨inf69, (List.forall_mem_cons.2 ⟨inf70, (List.forall_mem_cons.2 ⟨inf71, (List.forall_mem_cons.2 ⟨inf72, (List.forall_mem_cons.2 ⟨inf73, (List.forall_mem_cons.2 ⟨inf74, (List.forall_mem_cons.2 ⟨inf75, (List.forall_mem_cons.2 ⟨inf76, (List.forall_mem_cons.2 ⟨inf77, (List.forall_mem_cons.2 ⟨inf78, (List.forall_mem_cons.2 ⟨inf79, (List.forall_mem_cons.2 ⟨inf80, (List.forall_mem_cons.2 ⟨inf81, (List.forall_mem_cons.2 ⟨inf82, (List.forall_mem_cons.2 ⟨inf83, (List.forall_mem_cons.2 ⟨inf84, (List.forall_mem_cons.2 ⟨inf85, (List.forall_mem_cons.2 ⟨inf86, (List.forall_mem_cons.2 ⟨inf87, (List.forall_mem_cons.2 ⟨inf88, (List.forall_mem_cons.2 ⟨inf89, (List.forall_mem_cons.2 ⟨inf90, (List.forall_mem_cons.2 ⟨inf91, (List.forall_mem_cons.2 ⟨inf92, (List.forall_mem_cons.2 ⟨inf93, (List.forall_mem_cons.2 ⟨inf94, (List.forall_mem_cons.2 ⟨inf95, (List.forall_mem_cons.2 ⟨inf96, (List.forall_mem_cons.2 ⟨inf97, (List.forall_mem_cons.2 ⟨inf98, (List.forall_mem_cons.2 ⟨inf99, (List.forall_mem_cons.2 ⟨inf100, (List.forall_mem_cons.2 ⟨inf101, (List.forall_mem_cons.2 ⟨inf102, (List.forall_mem_cons.2 ⟨inf103, (List.forall_mem_cons.2 ⟨inf104, (List.forall_mem_cons.2 ⟨inf105, (List.forall_mem_cons.2 ⟨inf106, (List.forall_mem_cons.2 ⟨inf107, (List.forall_mem_cons.2 ⟨inf108, (List.forall_mem_cons.2 ⟨inf109, (List.forall_mem_cons.2 ⟨inf110, (List.forall_mem_cons.2 ⟨inf111, (List.forall_mem_cons.2 ⟨inf112, (List.forall_mem_cons.2 ⟨inf113, (List.forall_mem_cons.2 ⟨inf114, (List.forall_mem_cons.2 ⟨inf115, (List.forall_mem_cons.2 ⟨inf116, (List.forall_mem_cons.2 ⟨inf117, (List.forall_mem_cons.2 ⟨inf118, (List.forall_mem_cons.2 ⟨inf119, (List.forall_mem_cons.2 ⟨inf120, (List.forall_mem_cons.2 ⟨inf121, (List.forall_mem_cons.2 ⟨inf122, (List.forall_mem_cons.2 ⟨inf123, (List.forall_mem_cons.2 ⟨inf124, (List.forall_mem_cons.2 ⟨inf125, (List.forall_mem_cons.2 ⟨inf126, (List.forall_mem_cons.2 ⟨inf127, (List.forall_mem_cons.2 ⟨inf128, (List.forall_mem_cons.2 ⟨inf129, (List.forall_mem_cons.2 ⟨inf130, (List.forall_mem_cons.2 ⟨inf131, (List.forall_mem_cons.2 ⟨inf132, (List.forall_mem_cons.2 ⟨inf133, (List.forall_mem_cons.2 ⟨inf134, (List.forall_mem_cons.2 ⟨inf135, (List.forall_mem_cons.2 ⟨inf136, (List.forall_mem_cons.2 ⟨inf137, (List.forall_mem_cons.2 ⟨inf138, (List.forall_mem_cons.2 ⟨inf139, (List.forall_mem_cons.2 ⟨inf140, (List.forall_mem_cons.2 ⟨inf141, (List.forall_mem_cons.2 ⟨inf142, (List.forall_mem_cons.2 ⟨inf143, (fun _ h => nomatch h)⟩)⟩)⟩)⟩)⟩)⟩)⟩)⟩)⟩)⟩)⟩)⟩)⟩)⟩)⟩)⟩)⟩)⟩)⟩)⟩)⟩)⟩)⟩)⟩)⟩)⟩)⟩)⟩)⟩)⟩)⟩)⟩)⟩)⟩)⟩)⟩)⟩)⟩)⟩)⟩)⟩)⟩)⟩)⟩)⟩)⟩)⟩)⟩)⟩)⟩)⟩)⟩)⟩)⟩)⟩)⟩)⟩)⟩)⟩)⟩)⟩)⟩)⟩)⟩)⟩)⟩)⟩)⟩)⟩)⟩)⟩)⟩)⟩)⟩)⟩)⟩)⟩)⟩)⟩)⟩)⟩)⟩)⟩)⟩)⟩)⟩)⟩)⟩)⟩)⟩)⟩)⟩)⟩)⟩)⟩)⟩)⟩)⟩)⟩)⟩)⟩)⟩)⟩)⟩)⟩)⟩)⟩)⟩)⟩)⟩)⟩)⟩)⟩)⟩)⟩)⟩)⟩)⟩)⟩)⟩)⟩)⟩)⟩)⟩)⟩)⟩)⟩)⟩)⟩)⟩)⟩)⟩)⟩)⟩)⟩)⟩)⟩)⟩)⟩)⟩)⟩)⟩)⟩)⟩)
theorem env_ok : EnvOk Try.prog env := ⟨env_ty, env_inf, by kernel_rfl⟩
theorem c2 : Callable Try.prog 2 := ⟨Try.f2, Try.func2, by kernel_rfl, by kernel_rfl⟩
theorem c3 : Callable Try.prog 3 := ⟨Try.f3, Try.func3, by kernel_rfl, by kernel_rfl⟩
theorem c4 : Callable Try.prog 4 := ⟨Try.f4, Try.func4, by kernel_rfl, by kernel_rfl⟩
theorem c5 : Callable Try.prog 5 := ⟨Try.f5, Try.func5, by kernel_rfl, by kernel_rfl⟩
theorem c6 : Callable Try.prog 6 := ⟨Try.f6, Try.func6, by kernel_rfl, by kernel_rfl⟩
theorem c7 : Callable Try.prog 7 := ⟨Try.f7, Try.func7, by kernel_rfl, by kernel_rfl⟩
theorem c8 : Callable Try.prog 8 := ⟨Try.f8, Try.func8, by kernel_rfl, by kernel_rfl⟩
theorem c9 : Callable Try.prog 9 := ⟨Try.f9, Try.func9, by kernel_rfl, by kernel_rfl⟩
theorem c10 : Callable Try.prog 10 := ⟨Try.f10, Try.func10, by kernel_rfl, by kernel_rfl⟩
theorem c11 : Callable Try.prog 11 := ⟨Try.f11, Try.func11, by kernel_rfl, by kernel_rfl⟩
theorem c12 : Callable Try.prog 12 := ⟨Try.f12, Try.func12, by kernel_rfl, by kernel_rfl⟩
theorem c13 : Callable Try.prog 13 := ⟨Try.f13, Try.func13, by kernel_rfl, by kernel_rfl⟩
theorem c14 : Callable Try.prog 14 := ⟨Try.f14, Try.func14, by kernel_rfl, by kernel_rfl⟩
theorem c15 : Callable Try.prog 15 := ⟨Try.f15, Try.func15, by kernel_rfl, by kernel_rfl⟩
theorem c16 : Callable Try.prog 16 := ⟨Try.f16, Try.func16, by kernel_rfl, by kernel_rfl⟩
theorem c17 : Callable Try.prog 17 := ⟨Try.f17, Try.func17, by kernel_rfl, by kernel_rfl⟩
theorem c18 : Callable Try.prog 18 := ⟨Try.f18, Try.func18, by kernel_rfl, by kernel_rfl⟩
theorem c19 : Callable Try.prog 19 := ⟨Try.f19, Try.func19, by kernel_rfl, by kernel_rfl⟩
theorem c20 : Callable Try.prog 20 := ⟨Try.f20, Try.func20, by kernel_rfl, by kernel_rfl⟩
theorem c21 : Callable Try.prog 21 := ⟨Try.f21, Try.func21, by kernel_rfl, by kernel_rfl⟩
theorem c22 : Callable Try.prog 22 := ⟨Try.f22, Try.func22, by kernel_rfl, by kernel_rfl⟩
theorem c23 : Callable Try.prog 23 := ⟨Try.f23, Try.func23, by kernel_rfl, by kernel_rfl⟩
theorem c24 : Callable Try.prog 24 := ⟨Try.f24, Try.func24, by kernel_rfl, by kernel_rfl⟩
theorem c25 : Callable Try.prog 25 := ⟨Try.f25, Try.func25, by kernel_rfl, by kernel_rfl⟩
theorem c26 : Callable Try.prog 26 := ⟨Try.f26, Try.func26, by kernel_rfl, by kernel_rfl⟩
theorem c27 : Callable Try.prog 27 := ⟨Try.f27, Try.func27, by kernel_rfl, by kernel_rfl⟩
theorem c28 : Callable Try.prog 28 := ⟨Try.f28, Try.func28, by kernel_rfl, by kernel_rfl⟩
theorem c29 : Callable Try.prog 29 := ⟨Try.f29, Try.func29, by kernel_rfl, by kernel_rfl⟩
theorem c30 : Callable Try.prog 30 := ⟨Try.f30, Try.func30, by kernel_rfl, by kernel_rfl⟩
theorem c31 : Callable Try.prog 31 := ⟨Try.f31, Try.func31, by kernel_rfl, by kernel_rfl⟩
theorem c32 : Callable Try.prog 32 := ⟨Try.f32, Try.func32, by kernel_rfl, by kernel_rfl⟩
theorem c33 : Callable Try.prog 33 := ⟨Try.f33, Try.func33, by kernel_rfl, by kernel_rfl⟩
theorem c34 : Callable Try.prog 34 := ⟨Try.f34, Try.func34, by kernel_rfl, by kernel_rfl⟩
theorem c35 : Callable Try.prog 35 := ⟨Try.f35, Try.func35, by kernel_rfl, by kernel_rfl⟩
theorem c36 : Callable Try.prog 36 := ⟨Try.f36, Try.func36, by kernel_rfl, by kernel_rfl⟩
theorem c37 : Callable Try.prog 37 := ⟨Try.f37, Try.func37, by kernel_rfl, by kernel_rfl⟩
theorem c38 : Callable Try.prog 38 := ⟨Try.f38, Try.func38, by kernel_rfl, by kernel_rfl⟩
theorem c39 : Callable Try.prog 39 := ⟨Try.f39, Try.func39, by kernel_rfl, by kernel_rfl⟩
theorem c40 : Callable Try.prog 40 := ⟨Try.f40, Try.func40, by kernel_rfl, by kernel_rfl⟩
theorem c41 : Callable Try.prog 41 := ⟨Try.f41, Try.func41, by kernel_rfl, by kernel_rfl⟩
theorem c42 : Callable Try.prog 42 := ⟨Try.f42, Try.func42, by kernel_rfl, by kernel_rfl⟩
theorem c43 : Callable Try.prog 43 := ⟨Try.f43, Try.func43, by kernel_rfl, by kernel_rfl⟩
theorem c44 : Callable Try.prog 44 := ⟨Try.f44, Try.func44, by kernel_rfl, by kernel_rfl⟩
theorem c45 : Callable Try.prog 45 := ⟨Try.f45, Try.func45, by kernel_rfl, by kernel_rfl⟩
theorem c46 : Callable Try.prog 46 := ⟨Try.f46, Try.func46, by kernel_rfl, by kernel_rfl⟩
theorem c47 : Callable Try.prog 47 := ⟨Try.f47, Try.func47, by kernel_rfl, by kernel_rfl⟩
theorem c48 : Callable Try.prog 48 := ⟨Try.f48, Try.func48, by kernel_rfl, by kernel_rfl⟩
theorem c49 : Callable Try.prog 49 := ⟨Try.f49, Try.func49, by kernel_rfl, by kernel_rfl⟩
theorem c50 : Callable Try.prog 50 := ⟨Try.f50, Try.func50, by kernel_rfl, by kernel_rfl⟩
theorem c51 : Callable Try.prog 51 := ⟨Try.f51, Try.func51, by kernel_rfl, by kernel_rfl⟩
theorem c52 : Callable Try.prog 52 := ⟨Try.f52, Try.func52, by kernel_rfl, by kernel_rfl⟩
theorem c53 : Callable Try.prog 53 := ⟨Try.f53, Try.func53, by kernel_rfl, by kernel_rfl⟩
theorem c54 : Callable Try.prog 54 := ⟨Try.f54, Try.func54, by kernel_rfl, by kernel_rfl⟩
theorem c55 : Callable Try.prog 55 := ⟨Try.f55, Try.func55, by kernel_rfl, by kernel_rfl⟩
theorem c56 : Callable Try.prog 56 := ⟨Try.f56, Try.func56, by kernel_rfl, by kernel_rfl⟩
theorem c57 : Callable Try.prog 57 := ⟨Try.f57, Try.func57, by kernel_rfl, by kernel_rfl⟩
theorem c58 : Callable Try.prog 58 := ⟨Try.f58, Try.func58, by kernel_rfl, by kernel_rfl⟩
theorem c59 : Callable Try.prog 59 := ⟨Try.f59, Try.func59, by kernel_rfl, by kernel_rfl⟩
theorem c60 : Callable Try.prog 60 := ⟨Try.f60, Try.func60, by kernel_rfl, by kernel_rfl⟩
theorem c61 : Callable Try.prog 61 := ⟨Try.f61, Try.func61, by kernel_rfl, by kernel_rfl⟩
theorem c62 : Callable Try.prog 62 := ⟨Try.f62, Try.func62, by kernel_rfl, by kernel_rfl⟩
theorem c63 : Callable Try.prog 63 := ⟨Try.f63, Try.func63, by kernel_rfl, by kernel_rfl⟩
theorem c64 : Callable Try.prog 64 := ⟨Try.f64, Try.func64, by kernel_rfl, by kernel_rfl⟩
theorem c65 : Callable Try.prog 65 := ⟨Try.f65, Try.func65, by kernel_rfl, by kernel_rfl⟩
theorem c66 : Callable Try.prog 66 := ⟨Try.f66, Try.func66, by kernel_rfl, by kernel_rfl⟩
theorem c67 : Callable Try.prog 67 := ⟨Try.f67, Try.func67, by kernel_rfl, by kernel_rfl⟩
theorem c68 : Callable Try.prog 68 := ⟨Try.f68, Try.func68, by kernel_rfl, by kernel_rfl⟩
theorem c69 : Callable Try.prog 69 := ⟨Try.f69, Try.func69, by kernel_rfl, by kernel_rfl⟩
theorem c70 : Callable Try.prog 70 := ⟨Try.f70, Try.func70, by kernel_rfl, by kernel_rfl⟩
theorem c71 : Callable Try.prog 71 := ⟨Try.f71, Try.func71, by kernel_rfl, by kernel_rfl⟩
theorem c72 : Callable Try.prog 72 := ⟨Try.f72, Try.func72, by kernel_rfl, by kernel_rfl⟩
theorem c73 : Callable Try.prog 73 := ⟨Try.f73, Try.func73, by kernel_rfl, by kernel_rfl⟩
theorem c74 : Callable Try.prog 74 := ⟨Try.f74, Try.func74, by kernel_rfl, by kernel_rfl⟩
theorem c75 : Callable Try.prog 75 := ⟨Try.f75, Try.func75, by kernel_rfl, by kernel_rfl⟩
theorem c76 : Callable Try.prog 76 := ⟨Try.f76, Try.func76, by kernel_rfl, by kernel_rfl⟩
theorem c77 : Callable Try.prog 77 := ⟨Try.f77, Try.func77, by kernel_rfl, by kernel_rfl⟩
theorem c78 : Callable Try.prog 78 := ⟨Try.f78, Try.func78, by kernel_rfl, by kernel_rfl⟩
theorem c79 : Callable Try.prog 79 := ⟨Try.f79, Try.func79, by kernel_rfl, by kernel_rfl⟩
theorem c80 : Callable Try.prog 80 := ⟨Try.f80, Try.func80, by kernel_rfl, by kernel_rfl⟩
theorem c81 : Callable Try.prog 81 := ⟨Try.f81, Try.func81, by kernel_rfl, by kernel_rfl⟩
theorem c84 : Callable Try.prog 84 := ⟨Try.f84, Try.func84, by kernel_rfl, by kernel_rfl⟩
theorem c85 : Callable Try.prog 85 := ⟨Try.f85, Try.func85, by kernel_rfl, by kernel_rfl⟩
theorem c86 : Callable Try.prog 86 := ⟨Try.f86, Try.func86, by kernel_rfl, by kernel_rfl⟩
theorem c87 : Callable Try.prog 87 := ⟨Try.f87, Try.func87, by kernel_rfl, by kernel_rfl⟩
theorem c88 : Callable Try.prog 88 := ⟨Try.f88, Try.func88, by kernel_rfl, by kernel_rfl⟩
theorem c89 : Callable Try.prog 89 := ⟨Try.f89, Try.func89, by kernel_rfl, by kernel_rfl⟩
theorem c90 : Callable Try.prog 90 := ⟨Try.f90, Try.func90, by kernel_rfl, by kernel_rfl⟩
end Go.Proofs.Ytcbcpgaehdoekaa

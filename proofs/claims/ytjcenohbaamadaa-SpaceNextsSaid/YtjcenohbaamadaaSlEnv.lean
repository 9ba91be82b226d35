/- The tables of types of this seat, for the framework: written by mkenv.py out of the print of the loaded program. -/
import Derived.Test.YtjcenohbaamadaaSlF
import Derived.Test.YtjcenohbaamadaaProg
import Derived.KernelRfl
set_option linter.unusedVariables false
namespace Go.Proofs.Ytjcenohbaamadaa
open Go.Proofs.Ytjcenohbaamadaa.SL
set_option maxRecDepth 100000
def env : Env where
  ty := [(0, (Go.TypeDesc.tuple #[])),
    (1, (Go.TypeDesc.func #[] #[] Bool.false)),
    (2, (Go.TypeDesc.int Go.IntKind.i64)),
    (3, (Go.TypeDesc.int Go.IntKind.i64)),
    (4, Go.TypeDesc.bool),
    (5, (Go.TypeDesc.int Go.IntKind.u8)),
    (6, (Go.TypeDesc.int Go.IntKind.u8)),
    (7, (Go.TypeDesc.struct #[{ name := "x", type := 2, offset := 0, embedded := Bool.false, tag := "", pkgPath := "runtime", byteOffset := 0 }, { name := "y", type := 3, offset := 1, embedded := Bool.false, tag := "", pkgPath := "runtime", byteOffset := 8 }, { name := "signed", type := 4, offset := 2, embedded := Bool.false, tag := "", pkgPath := "runtime", byteOffset := 16 }, { name := "code", type := 6, offset := 3, embedded := Bool.false, tag := "", pkgPath := "runtime", byteOffset := 17 }])),
    (8, (Go.TypeDesc.struct #[{ name := "x", type := 2, offset := 0, embedded := Bool.false, tag := "", pkgPath := "runtime", byteOffset := 0 }, { name := "y", type := 3, offset := 1, embedded := Bool.false, tag := "", pkgPath := "runtime", byteOffset := 8 }, { name := "signed", type := 4, offset := 2, embedded := Bool.false, tag := "", pkgPath := "runtime", byteOffset := 16 }, { name := "code", type := 6, offset := 3, embedded := Bool.false, tag := "", pkgPath := "runtime", byteOffset := 17 }])),
    (9, Go.TypeDesc.string),
    (10, Go.TypeDesc.string),
    (11, Go.TypeDesc.string),
    (12, (Go.TypeDesc.int Go.IntKind.u64)),
    (13, (Go.TypeDesc.struct #[{ name := "msg", type := 9, offset := 0, embedded := Bool.false, tag := "", pkgPath := "runtime", byteOffset := 0 }, { name := "addr", type := 12, offset := 1, embedded := Bool.false, tag := "", pkgPath := "runtime", byteOffset := 16 }])),
    (14, (Go.TypeDesc.struct #[{ name := "msg", type := 9, offset := 0, embedded := Bool.false, tag := "", pkgPath := "runtime", byteOffset := 0 }, { name := "addr", type := 12, offset := 1, embedded := Bool.false, tag := "", pkgPath := "runtime", byteOffset := 16 }])),
    (15, (Go.TypeDesc.pointer 40)),
    (16, (Go.TypeDesc.pointer 43)),
    (17, (Go.TypeDesc.pointer 52)),
    (18, (Go.TypeDesc.struct #[{ name := "typ", type := 17, offset := 0, embedded := Bool.false, tag := "", pkgPath := "internal/runtime/maps", byteOffset := 0 }])),
    (19, (Go.TypeDesc.struct #[{ name := "typ", type := 17, offset := 0, embedded := Bool.false, tag := "", pkgPath := "internal/runtime/maps", byteOffset := 0 }])),
    (20, (Go.TypeDesc.interface #[])),
    (21, (Go.TypeDesc.int Go.IntKind.i32)),
    (22, (Go.TypeDesc.int Go.IntKind.u32)),
    (23, (Go.TypeDesc.int Go.IntKind.u64)),
    (24, (Go.TypeDesc.func #[] #[4] Bool.false)),
    (25, (Go.TypeDesc.tuple #[23, 4])),
    (26, (Go.TypeDesc.func #[3, 3, 3] #[23, 4] Bool.false)),
    (27, (Go.TypeDesc.func #[23, 3, 3] #[4] Bool.false)),
    (28, (Go.TypeDesc.func #[5, 22, 22, 22, 23] #[4] Bool.false)),
    (29, (Go.TypeDesc.tuple #[3, 3, 3])),
    (30, (Go.TypeDesc.func #[23] #[3, 3, 3] Bool.false)),
    (31, (Go.TypeDesc.func #[23] #[23, 4] Bool.false)),
    (32, (Go.TypeDesc.func #[23, 3, 3, 3] #[4] Bool.false)),
    (33, (Go.TypeDesc.func #[3] #[23] Bool.false)),
    (34, (Go.TypeDesc.func #[5, 22, 22, 5, 22, 22] #[4] Bool.false)),
    (35, (Go.TypeDesc.func #[3, 3, 3, 23] #[4] Bool.false)),
    (36, (Go.TypeDesc.func #[5, 22] #[4] Bool.false)),
    (37, (Go.TypeDesc.int Go.IntKind.u64)),
    (38, (Go.TypeDesc.func #[] #[9] Bool.false)),
    (39, (Go.TypeDesc.struct #[{ name := "_interface", type := 17, offset := 0, embedded := Bool.false, tag := "", pkgPath := "runtime", byteOffset := 0 }, { name := "concrete", type := 17, offset := 1, embedded := Bool.false, tag := "", pkgPath := "runtime", byteOffset := 8 }, { name := "asserted", type := 17, offset := 2, embedded := Bool.false, tag := "", pkgPath := "runtime", byteOffset := 16 }, { name := "missingMethod", type := 9, offset := 3, embedded := Bool.false, tag := "", pkgPath := "runtime", byteOffset := 24 }])),
    (40, (Go.TypeDesc.struct #[{ name := "_interface", type := 17, offset := 0, embedded := Bool.false, tag := "", pkgPath := "runtime", byteOffset := 0 }, { name := "concrete", type := 17, offset := 1, embedded := Bool.false, tag := "", pkgPath := "runtime", byteOffset := 8 }, { name := "asserted", type := 17, offset := 2, embedded := Bool.false, tag := "", pkgPath := "runtime", byteOffset := 16 }, { name := "missingMethod", type := 9, offset := 3, embedded := Bool.false, tag := "", pkgPath := "runtime", byteOffset := 24 }])),
    (41, (Go.TypeDesc.array 0 16)),
    (42, (Go.TypeDesc.struct #[{ name := "_", type := 41, offset := 0, embedded := Bool.false, tag := "", pkgPath := "runtime", byteOffset := 0 }])),
    (43, (Go.TypeDesc.struct #[{ name := "_", type := 41, offset := 0, embedded := Bool.false, tag := "", pkgPath := "runtime", byteOffset := 0 }])),
    (44, (Go.TypeDesc.func #[] #[3] Bool.false)),
    (45, (Go.TypeDesc.int Go.IntKind.u8)),
    (46, (Go.TypeDesc.int Go.IntKind.u8)),
    (47, (Go.TypeDesc.func #[53, 53] #[4] Bool.false)),
    (48, (Go.TypeDesc.pointer 5)),
    (49, (Go.TypeDesc.int Go.IntKind.i32)),
    (50, (Go.TypeDesc.int Go.IntKind.i32)),
    (51, (Go.TypeDesc.struct #[{ name := "Size_", type := 12, offset := 0, embedded := Bool.false, tag := "", pkgPath := "", byteOffset := 0 }, { name := "PtrBytes", type := 12, offset := 1, embedded := Bool.false, tag := "", pkgPath := "", byteOffset := 8 }, { name := "Hash", type := 22, offset := 2, embedded := Bool.false, tag := "", pkgPath := "", byteOffset := 16 }, { name := "TFlag", type := 45, offset := 3, embedded := Bool.false, tag := "", pkgPath := "", byteOffset := 20 }, { name := "Align_", type := 5, offset := 4, embedded := Bool.false, tag := "", pkgPath := "", byteOffset := 21 }, { name := "FieldAlign_", type := 5, offset := 5, embedded := Bool.false, tag := "", pkgPath := "", byteOffset := 22 }, { name := "Kind_", type := 46, offset := 6, embedded := Bool.false, tag := "", pkgPath := "", byteOffset := 23 }, { name := "Equal", type := 47, offset := 7, embedded := Bool.false, tag := "", pkgPath := "", byteOffset := 24 }, { name := "GCData", type := 48, offset := 8, embedded := Bool.false, tag := "", pkgPath := "", byteOffset := 32 }, { name := "Str", type := 49, offset := 9, embedded := Bool.false, tag := "", pkgPath := "", byteOffset := 40 }, { name := "PtrToThis", type := 50, offset := 10, embedded := Bool.false, tag := "", pkgPath := "", byteOffset := 44 }])),
    (52, (Go.TypeDesc.struct #[{ name := "Size_", type := 12, offset := 0, embedded := Bool.false, tag := "", pkgPath := "", byteOffset := 0 }, { name := "PtrBytes", type := 12, offset := 1, embedded := Bool.false, tag := "", pkgPath := "", byteOffset := 8 }, { name := "Hash", type := 22, offset := 2, embedded := Bool.false, tag := "", pkgPath := "", byteOffset := 16 }, { name := "TFlag", type := 45, offset := 3, embedded := Bool.false, tag := "", pkgPath := "", byteOffset := 20 }, { name := "Align_", type := 5, offset := 4, embedded := Bool.false, tag := "", pkgPath := "", byteOffset := 21 }, { name := "FieldAlign_", type := 5, offset := 5, embedded := Bool.false, tag := "", pkgPath := "", byteOffset := 22 }, { name := "Kind_", type := 46, offset := 6, embedded := Bool.false, tag := "", pkgPath := "", byteOffset := 23 }, { name := "Equal", type := 47, offset := 7, embedded := Bool.false, tag := "", pkgPath := "", byteOffset := 24 }, { name := "GCData", type := 48, offset := 8, embedded := Bool.false, tag := "", pkgPath := "", byteOffset := 32 }, { name := "Str", type := 49, offset := 9, embedded := Bool.false, tag := "", pkgPath := "", byteOffset := 40 }, { name := "PtrToThis", type := 50, offset := 10, embedded := Bool.false, tag := "", pkgPath := "", byteOffset := 44 }])),
    (53, Go.TypeDesc.unsafePointer)]
  inf := [(0, ((Go.Value.tuple #[]), 1, 0)),
    (1, (Go.Value.nilFunc, 1, 8)),
    (2, ((Go.Value.int Go.IntKind.i64 0), 1, 8)),
    (3, ((Go.Value.int Go.IntKind.i64 0), 1, 8)),
    (4, ((Go.Value.bool Bool.false), 1, 1)),
    (5, ((Go.Value.int Go.IntKind.u8 0), 1, 1)),
    (6, ((Go.Value.int Go.IntKind.u8 0), 1, 1)),
    (7, ((Go.Value.agg #[Go.Value.int Go.IntKind.i64 0, Go.Value.int Go.IntKind.i64 0, Go.Value.bool Bool.false, Go.Value.int Go.IntKind.u8 0]), 4, 24)),
    (8, ((Go.Value.agg #[Go.Value.int Go.IntKind.i64 0, Go.Value.int Go.IntKind.i64 0, Go.Value.bool Bool.false, Go.Value.int Go.IntKind.u8 0]), 4, 24)),
    (9, ((Go.Value.string { data := #[] }), 1, 16)),
    (10, ((Go.Value.string { data := #[] }), 1, 16)),
    (11, ((Go.Value.string { data := #[] }), 1, 16)),
    (12, ((Go.Value.int Go.IntKind.u64 0), 1, 8)),
    (13, ((Go.Value.agg #[Go.Value.string { data := #[] }, Go.Value.int Go.IntKind.u64 0]), 2, 24)),
    (14, ((Go.Value.agg #[Go.Value.string { data := #[] }, Go.Value.int Go.IntKind.u64 0]), 2, 24)),
    (15, ((Go.Value.pointer Option.none), 1, 8)),
    (16, ((Go.Value.pointer Option.none), 1, 8)),
    (17, ((Go.Value.pointer Option.none), 1, 8)),
    (18, ((Go.Value.agg #[Go.Value.pointer Option.none]), 1, 8)),
    (19, ((Go.Value.agg #[Go.Value.pointer Option.none]), 1, 8)),
    (20, (Go.Value.nilIface, 1, 16)),
    (21, ((Go.Value.int Go.IntKind.i32 0), 1, 4)),
    (22, ((Go.Value.int Go.IntKind.u32 0), 1, 4)),
    (23, ((Go.Value.int Go.IntKind.u64 0), 1, 8)),
    (24, (Go.Value.nilFunc, 1, 8)),
    (25, ((Go.Value.tuple #[Go.Value.int Go.IntKind.u64 0, Go.Value.bool Bool.false]), 1, 0)),
    (26, (Go.Value.nilFunc, 1, 8)),
    (27, (Go.Value.nilFunc, 1, 8)),
    (28, (Go.Value.nilFunc, 1, 8)),
    (29, ((Go.Value.tuple #[Go.Value.int Go.IntKind.i64 0, Go.Value.int Go.IntKind.i64 0, Go.Value.int Go.IntKind.i64 0]), 1, 0)),
    (30, (Go.Value.nilFunc, 1, 8)),
    (31, (Go.Value.nilFunc, 1, 8)),
    (32, (Go.Value.nilFunc, 1, 8)),
    (33, (Go.Value.nilFunc, 1, 8)),
    (34, (Go.Value.nilFunc, 1, 8)),
    (35, (Go.Value.nilFunc, 1, 8)),
    (36, (Go.Value.nilFunc, 1, 8)),
    (37, ((Go.Value.int Go.IntKind.u64 0), 1, 8)),
    (38, (Go.Value.nilFunc, 1, 8)),
    (39, ((Go.Value.agg #[Go.Value.pointer Option.none, Go.Value.pointer Option.none, Go.Value.pointer Option.none, Go.Value.string { data := #[] }]), 4, 40)),
    (40, ((Go.Value.agg #[Go.Value.pointer Option.none, Go.Value.pointer Option.none, Go.Value.pointer Option.none, Go.Value.string { data := #[] }]), 4, 40)),
    (41, ((Go.Value.agg #[]), 0, 0)),
    (42, ((Go.Value.agg #[]), 0, 0)),
    (43, ((Go.Value.agg #[]), 0, 0)),
    (44, (Go.Value.nilFunc, 1, 8)),
    (45, ((Go.Value.int Go.IntKind.u8 0), 1, 1)),
    (46, ((Go.Value.int Go.IntKind.u8 0), 1, 1)),
    (47, (Go.Value.nilFunc, 1, 8)),
    (48, ((Go.Value.pointer Option.none), 1, 8)),
    (49, ((Go.Value.int Go.IntKind.i32 0), 1, 4)),
    (50, ((Go.Value.int Go.IntKind.i32 0), 1, 4)),
    (51, ((Go.Value.agg #[Go.Value.int Go.IntKind.u64 0, Go.Value.int Go.IntKind.u64 0, Go.Value.int Go.IntKind.u32 0, Go.Value.int Go.IntKind.u8 0, Go.Value.int Go.IntKind.u8 0, Go.Value.int Go.IntKind.u8 0, Go.Value.int Go.IntKind.u8 0, Go.Value.nilFunc, Go.Value.pointer Option.none, Go.Value.int Go.IntKind.i32 0, Go.Value.int Go.IntKind.i32 0]), 11, 48)),
    (52, ((Go.Value.agg #[Go.Value.int Go.IntKind.u64 0, Go.Value.int Go.IntKind.u64 0, Go.Value.int Go.IntKind.u32 0, Go.Value.int Go.IntKind.u8 0, Go.Value.int Go.IntKind.u8 0, Go.Value.int Go.IntKind.u8 0, Go.Value.int Go.IntKind.u8 0, Go.Value.nilFunc, Go.Value.pointer Option.none, Go.Value.int Go.IntKind.i32 0, Go.Value.int Go.IntKind.i32 0]), 11, 48)),
    (53, ((Go.Value.pointer Option.none), 1, 8))]
theorem env_ty : ∀ p ∈ env.ty, Try.prog.underlying p.1 = some p.2 := by
  intro p hp
  simp only [env, List.mem_cons, List.not_mem_nil, or_false] at hp
  rcases hp with rfl | rfl | rfl | rfl | rfl | rfl | rfl | rfl | rfl | rfl | rfl | rfl | rfl | rfl | rfl | rfl | rfl | rfl | rfl | rfl | rfl | rfl | rfl | rfl | rfl | rfl | rfl | rfl | rfl | rfl | rfl | rfl | rfl | rfl | rfl | rfl | rfl | rfl | rfl | rfl | rfl | rfl | rfl | rfl | rfl | rfl | rfl | rfl | rfl | rfl | rfl | rfl | rfl | rfl
  · exact Try.underlying0
  · exact Try.underlying1
  · exact Try.underlying2
  · exact Try.underlying3
  · exact Try.underlying4
  · exact Try.underlying5
  · exact Try.underlying6
  · exact Try.underlying7
  · exact Try.underlying8
  · exact Try.underlying9
  · exact Try.underlying10
  · exact Try.underlying11
  · exact Try.underlying12
  · exact Try.underlying13
  · exact Try.underlying14
  · exact Try.underlying15
  · exact Try.underlying16
  · exact Try.underlying17
  · exact Try.underlying18
  · exact Try.underlying19
  · exact Try.underlying20
  · exact Try.underlying21
  · exact Try.underlying22
  · exact Try.underlying23
  · exact Try.underlying24
  · exact Try.underlying25
  · exact Try.underlying26
  · exact Try.underlying27
  · exact Try.underlying28
  · exact Try.underlying29
  · exact Try.underlying30
  · exact Try.underlying31
  · exact Try.underlying32
  · exact Try.underlying33
  · exact Try.underlying34
  · exact Try.underlying35
  · exact Try.underlying36
  · exact Try.underlying37
  · exact Try.underlying38
  · exact Try.underlying39
  · exact Try.underlying40
  · exact Try.underlying41
  · exact Try.underlying42
  · exact Try.underlying43
  · exact Try.underlying44
  · exact Try.underlying45
  · exact Try.underlying46
  · exact Try.underlying47
  · exact Try.underlying48
  · exact Try.underlying49
  · exact Try.underlying50
  · exact Try.underlying51
  · exact Try.underlying52
  · exact Try.underlying53
theorem env_inf : ∀ p ∈ env.inf, (Try.prog.info? p.1).map (fun i => (i.zero, i.size, i.bytes)) = some (some p.2.1, p.2.2.1, p.2.2.2) := by
  intro p hp
  simp only [env, List.mem_cons, List.not_mem_nil, or_false] at hp
  rcases hp with rfl | rfl | rfl | rfl | rfl | rfl | rfl | rfl | rfl | rfl | rfl | rfl | rfl | rfl | rfl | rfl | rfl | rfl | rfl | rfl | rfl | rfl | rfl | rfl | rfl | rfl | rfl | rfl | rfl | rfl | rfl | rfl | rfl | rfl | rfl | rfl | rfl | rfl | rfl | rfl | rfl | rfl | rfl | rfl | rfl | rfl | rfl | rfl | rfl | rfl | rfl | rfl | rfl | rfl
  · kernel_rfl
  · kernel_rfl
  · kernel_rfl
  · kernel_rfl
  · kernel_rfl
  · kernel_rfl
  · kernel_rfl
  · kernel_rfl
  · kernel_rfl
  · kernel_rfl
  · kernel_rfl
  · kernel_rfl
  · kernel_rfl
  · kernel_rfl
  · kernel_rfl
  · kernel_rfl
  · kernel_rfl
  · kernel_rfl
  · kernel_rfl
  · kernel_rfl
  · kernel_rfl
  · kernel_rfl
  · kernel_rfl
  · kernel_rfl
  · kernel_rfl
  · kernel_rfl
  · kernel_rfl
  · kernel_rfl
  · kernel_rfl
  · kernel_rfl
  · kernel_rfl
  · kernel_rfl
  · kernel_rfl
  · kernel_rfl
  · kernel_rfl
  · kernel_rfl
  · kernel_rfl
  · kernel_rfl
  · kernel_rfl
  · kernel_rfl
  · kernel_rfl
  · kernel_rfl
  · kernel_rfl
  · kernel_rfl
  · kernel_rfl
  · kernel_rfl
  · kernel_rfl
  · kernel_rfl
  · kernel_rfl
  · kernel_rfl
  · kernel_rfl
  · kernel_rfl
  · kernel_rfl
  · kernel_rfl
theorem env_ok : EnvOk Try.prog env := ⟨env_ty, env_inf, by kernel_rfl⟩
theorem c2 : Callable Try.prog 2 := ⟨Try.f2, Try.func2, by kernel_rfl, by kernel_rfl⟩
theorem c3 : Callable Try.prog 3 := ⟨Try.f3, Try.func3, by kernel_rfl, by kernel_rfl⟩
theorem c4 : Callable Try.prog 4 := ⟨Try.f4, Try.func4, by kernel_rfl, by kernel_rfl⟩
theorem c5 : Callable Try.prog 5 := ⟨Try.f5, Try.func5, by kernel_rfl, by kernel_rfl⟩
theorem c6 : Callable Try.prog 6 := ⟨Try.f6, Try.func6, by kernel_rfl, by kernel_rfl⟩
theorem c7 : Callable Try.prog 7 := ⟨Try.f7, Try.func7, by kernel_rfl, by kernel_rfl⟩
theorem c8 : Callable Try.prog 8 := ⟨Try.f8, Try.func8, by kernel_rfl, by kernel_rfl⟩
theorem c9 : Callable Try.prog 9 := ⟨Try.f9, Try.func9, by kernel_rfl, by kernel_rfl⟩
theorem c10 : Callable Try.prog 10 := ⟨Try.f10, Try.func10, by kernel_rfl, by kernel_rfl⟩
theorem c11 : Callable Try.prog 11 := ⟨Try.f11, Try.func11, by kernel_rfl, by kernel_rfl⟩
theorem c12 : Callable Try.prog 12 := ⟨Try.f12, Try.func12, by kernel_rfl, by kernel_rfl⟩
theorem c13 : Callable Try.prog 13 := ⟨Try.f13, Try.func13, by kernel_rfl, by kernel_rfl⟩
theorem c14 : Callable Try.prog 14 := ⟨Try.f14, Try.func14, by kernel_rfl, by kernel_rfl⟩
theorem c15 : Callable Try.prog 15 := ⟨Try.f15, Try.func15, by kernel_rfl, by kernel_rfl⟩
theorem c16 : Callable Try.prog 16 := ⟨Try.f16, Try.func16, by kernel_rfl, by kernel_rfl⟩
theorem c17 : Callable Try.prog 17 := ⟨Try.f17, Try.func17, by kernel_rfl, by kernel_rfl⟩
theorem c18 : Callable Try.prog 18 := ⟨Try.f18, Try.func18, by kernel_rfl, by kernel_rfl⟩
end Go.Proofs.Ytjcenohbaamadaa

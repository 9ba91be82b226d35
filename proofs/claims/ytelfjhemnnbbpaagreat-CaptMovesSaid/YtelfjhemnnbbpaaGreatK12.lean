/- Texts CaX, CpM, joined. -/
import Derived.Test.YtelfjhemnnbbpaaGreatK11
set_option linter.unusedVariables false
set_option linter.unusedSimpArgs false
set_option maxRecDepth 20000
namespace Go.Proofs.YtelfjhemnnbbpaaGreat
open Go.Proofs.YtelfjhemnnbbpaaGreat.SL
def CS.z : CS := ⟨[], []⟩
theorem z_ok : CS.z.ok where
 ow := fun n o h => by unfold CS.owAt CS.z at h; split at h <;> simp at h
 cp := fun n c h => by unfold CS.capAt CS.z at h; split at h <;> simp at h
 par := fun n c h _ => by unfold CS.capAt CS.z at h; split at h <;> simp at h
 size := by simp [CS.z]
theorem ct_new (P : TxP) : CtI P CS.z [] := ⟨Rp.nil, z_ok⟩
theorem z_isNm (f : List UInt8) (n : Nat) : isNm CS.z f n = false := by
 unfold isNm CS.owAt CS.z
 split <;> simp
theorem made15_does : Does Tryz.prog 10 [] [] (fun v H => ∃ t db sb, v = .pointer (some ⟨t, 0, none⟩) ∧ H = [Ct (TxP.new t sb db 640) CS.z]) := by
 obtain ⟨E1, f1, k0⟩ := tr_new (N := 640) (by omega)
 refine does_of Tryz.func10 Tryz.ntmps10 rfl rfl rfl (fun w0 F0 => ?_)
 (repeat' (first|refine g_seq (h:=?_)|refine g_region (h:=?_)|refine l_nil (h:=?_)|refine n_then (h:=?_)|refine l_pures1 (h:=?_)|(refine l_at 26 ?_; refine l_call_ (new_is (i := 640) (n := 640) rfl (by omega)) ?_; rintro _ _ _ ⟨db, rfl, rfl⟩ he; cases he)|(refine l_at 27 ?_; refine l_call_ (format_is f1) ?_; rintro _ _ _ ⟨sb, rfl, rfl⟩ he; cases he)|refine l_guard_yes (h:=?_)|refine g_skip (h:=?_)|refine g_cond_f (h:=?_)))
 (refine l_shut (A := Sto (TxP.new 0 sb db 640)) (K := StoK (TxP.new 0 sb db 640) ((headNew.over, E1))) (hid_shuts ((headNew.over, E1)) (sto_new k0)) (h:=?_) (p := by dsimp only [StoK]; (try simp only [List.map_nil, List.length_nil, List.length_set, List.length_append, List.length_cons, List.length_singleton, List.map_append, List.map_cons, Nat.zero_add, TxP.new]); exact parts_of))
 have hb : Does Tryz.prog 28 [.pointer (some ⟨sb, 0, none⟩)] [Sto (TxP.new 0 sb db 640)] (fun v H => ∃ t, v = .pointer (some ⟨t, 0, none⟩) ∧ H = [Tx (TxP.new t sb db 640) []]) := begin_does (TxP.new 0 sb db 640)
 (repeat' (first|refine l_nil (h:=?_)|refine n_then (h:=?_)|refine l_pures1 (h:=?_)|(refine l_atc ?_; refine l_call_ (hb) ?_; rintro _ _ _ ⟨t, rfl, rfl⟩ he; cases he)|refine g_ret (h:=?_)))
 (refine n_shut (A := Ct (TxP.new t sb db 640) CS.z) (K := CtK (TxP.new t sb db 640) CS.z (([] : List Ent))) (hid_shuts (([] : List Ent)) (ct_new _)) (h:=?_) (p := by dsimp only [CtK]; (try simp only [List.map_nil, List.length_nil, List.length_set, List.length_append, List.length_cons, List.length_singleton, List.map_append, List.map_cons, Nat.zero_add]); exact parts_of))
 refine r_retk [Ct (TxP.new t sb db 640) CS.z] ?_
 exact ⟨t, db, sb, rfl, rfl⟩
theorem roomNew {t sb db : Nat} {s : CS} (h : s.ow.length + 3 * s.cp.length < 280) : roomC (TxP.new t sb db 640) s := by
 show 0 + 2 * (s.ow.length + 3 * s.cp.length) + 60 < 640
 omega
def pkN (c : Int) (n : Nat) : Nat := (if c < 0 then -(c + 1) else c).toNat % n
theorem pkN_lt (c : Int) {n : Nat} (h : 0 < n) : pkN c n < n := Nat.mod_lt _ h
theorem pick15_does (c : Int) (n : Nat) (hc : -9223372036854775808 ≤ c ∧ c < 9223372036854775808) (hn : 0 < n ∧ n < 1000000) : Does Tryz.prog 21 [.int .i64 c, .int .i64 n] [] (fun v H => v = .int .i64 (pkN c n : Nat) ∧ H = []) := by
 have key : ∀ x : Int, 0 ≤ x → x.tmod (n : Int) = ((x.toNat % n : Nat) : Int) := fun x hx => by
  obtain ⟨m, rfl⟩ := Int.eq_ofNat_of_zero_le hx
  rw [Int.tmod_eq_emod_of_nonneg hx, Int.toNat_natCast]; rfl
 have hlt := pkN_lt c hn.1
 by_cases q : c < 0
 ·have e1 : IntKind.i64.wrap (c + 1) = c + 1 := wrapI64 (by omega)
  have e2 : IntKind.i64.wrap (-(IntKind.i64.wrap (c + 1))) = -(c + 1) := by rw [e1, wrapI64 (by omega)]
  have e3 : IntKind.i64.wrap (0 - (IntKind.i64.wrap (c + 1))) = -(c + 1) := by rw [e1, wrapI64 (by omega)]; omega
  have e4 : (pkN c n : Int) = (-(c + 1)).tmod n := by rw [key _ (by omega)]; unfold pkN; rw [if_pos q]
  refine does_of Tryz.func21 Tryz.ntmps21 rfl rfl rfl (fun w0 F0 => ?_)
  (repeat' (first|refine g_seq (h:=?_)|refine g_region (h:=?_)|refine l_nil (h:=?_)|refine n_then (h:=?_)|refine l_pures1 (h:=?_)|refine l_rem (h:=?_)|refine g_ret (h:=?_)|(refine g_spT (h:=?_); intro h)))
  refine r_retk [] ?_
  refine ⟨?_, rfl⟩
  show Value.int _ _ = _
  first | rw [e2, e4] | rw [e3, e4]
  try rw [wrapI64 (by omega)]
 ·have e4 : (pkN c n : Int) = c.tmod n := by rw [key _ (by omega)]; unfold pkN; rw [if_neg q]
  refine does_of Tryz.func21 Tryz.ntmps21 rfl rfl rfl (fun w0 F0 => ?_)
  (repeat' (first|refine g_seq (h:=?_)|refine g_region (h:=?_)|refine l_nil (h:=?_)|refine n_then (h:=?_)|refine l_pures1 (h:=?_)|refine l_rem (h:=?_)|refine g_skip (h:=?_)|refine g_ret (h:=?_)|(refine g_spF (h:=?_); intro h)))
  refine r_retk [] ?_
  refine ⟨?_, rfl⟩
  show Value.int _ _ = _
  rw [e4]
  try rw [wrapI64 (by omega)]
abbrev nmRoot : List UInt8 := [82, 111, 111, 116]
abbrev nmroot : List UInt8 := [114, 111, 111, 116]
theorem lett_all {l : List UInt8} (h : l.all (fun c => decide ((97 ≤ c.toNat ∧ c.toNat ≤ 122) ∨ (65 ≤ c.toNat ∧ c.toNat ≤ 90))) = true) : ∀ c ∈ l, lett c := fun c hc => by
 have := List.all_eq_true.1 h c hc
 simpa [lett] using this
theorem foldRoot : FoldTo nmRoot nmroot := by
 have := fold_letters nmRoot (by decide) (lett_all (by decide))
 rw [show lowL nmRoot = nmroot by decide] at this
 exact this
theorem foldroot : FoldTo nmroot nmroot := by
 have := fold_letters nmroot (by decide) (lett_all (by decide))
 rw [show lowL nmroot = nmroot by decide] at this
 exact this
theorem fold1 (c : UInt8) (h : 97 ≤ c.toNat ∧ c.toNat ≤ 122) : FoldTo [c] [c] := by
 have := fold_letters [c] (by simp) (fun x hx => by rw [List.mem_singleton.1 hx]; exact .inl h)
 rw [show lowL [c] = [c] by unfold lowL lowB; simp; omega] at this
 exact this
def exS1 : CS := ⟨[⟨nmroot, 9, 0⟩], []⟩
def exS2 : CS := ⟨[⟨nmroot, 9, 1⟩], [some ⟨0, 5, 1, 7, 0, 1, 0, 0, false, true⟩]⟩
def exS3 : CS := ⟨[⟨nmroot, 9, 2⟩], [some ⟨0, 5, 1, 7, 0, 1, 0, 0, false, true⟩, some ⟨1, 5, 1, 3, 1, 2, 10, 0, false, true⟩]⟩
set_option maxHeartbeats 4000000 in
theorem examples15_does : Does Tryz.prog 9 [] [] (fun v H => v = .bool true ∧ H = []) := by
 refine does_of Tryz.func9 Tryz.ntmps9 rfl rfl rfl (fun w0 F0 => ?_)
 (repeat (first|refine g_seq (h:=?_)|refine g_region (h:=?_)|refine l_nil (h:=?_)|refine n_then (h:=?_)|refine l_pures1 (h:=?_)|(refine l_atc ?_; refine l_call_ (made15_does) ?_; rintro _ _ _ ⟨t, db, sb, rfl, rfl⟩ he; cases he)|refine g_skip (h:=?_)|refine g_cond_f (h:=?_)))
 have h1 : Does Tryz.prog 12 [.pointer (some ⟨t, 0, none⟩), .string { data := #[82, 111, 111, 116] }, .int .i64 9] [Ct (TxP.new t sb db 640) CS.z] (fun v H => v = .tuple #[.int .i64 1, .int .i64 0] ∧ H = [Ct (TxP.new t sb db 640) exS1]) :=
  cReg_does (TxP.new t sb db 640) CS.z (roomNew (by simp [CS.z])) nmRoot nmroot 9 foldRoot foldroot (by decide) (by decide) (by simp [CS.z]) (z_isNm _)
 have h2 : Does Tryz.prog 14 [.pointer (some ⟨t, 0, none⟩), .int .i64 1, .int .i64 5, .int .i64 7, .int .i64 0, .int .i64 0] [Ct (TxP.new t sb db 640) exS1] (fun v H => v = .tuple #[.int .i64 1, .int .i64 0] ∧ H = [Ct (TxP.new t sb db 640) exS2]) :=
  cMint_does (TxP.new t sb db 640) exS1 (roomNew (by simp [exS1])) 1 5 7 0 0 ⟨nmroot, 9, 0⟩ rfl (by decide) (by decide) (by decide) (by decide) (by decide) (by simp [exS1])
 have h3 : Does Tryz.prog 15 [.pointer (some ⟨t, 0, none⟩), .int .i64 1, .int .i64 1, .int .i64 3, .int .i64 1, .int .i64 10, .int .i64 0] [Ct (TxP.new t sb db 640) exS2] (fun v H => v = .tuple #[.int .i64 2, .int .i64 0] ∧ H = [Ct (TxP.new t sb db 640) exS3]) :=
  cDer_does (TxP.new t sb db 640) exS2 (roomNew (by simp [exS2])) 1 1 3 1 10 0 ⟨0, 5, 1, 7, 0, 1, 0, 0, false, true⟩ ⟨nmroot, 9, 1⟩ rfl rfl rfl (by decide) (by decide) (by decide) (by decide) (by decide) (by decide) (by simp [exS2])
 have h4 : Does Tryz.prog 15 [.pointer (some ⟨t, 0, none⟩), .int .i64 1, .int .i64 1, .int .i64 8, .int .i64 1, .int .i64 10, .int .i64 0] [Ct (TxP.new t sb db 640) exS3] (fun v H => v = .tuple #[.int .i64 0, .int .i64 7] ∧ H = [Ct (TxP.new t sb db 640) exS3]) :=
  cDerNot_does (TxP.new t sb db 640) exS3 1 1 8 1 10 0 ⟨0, 5, 1, 7, 0, 1, 0, 0, false, true⟩ ⟨nmroot, 9, 2⟩ rfl rfl rfl (by decide) (by decide) (by decide) (by decide)
 have h5 : Does Tryz.prog 22 [.pointer (some ⟨t, 0, none⟩), .int .i64 2, .int .i64 10] [Ct (TxP.new t sb db 640) exS3] (fun v H => v = .int .i64 11 ∧ H = [Ct (TxP.new t sb db 640) exS3]) :=
  cState_does (TxP.new t sb db 640) exS3 2 10 ⟨1, 5, 1, 3, 1, 2, 10, 0, false, true⟩ rfl
 (repeat (first|refine g_seq (h:=?_)|refine g_region (h:=?_)|refine l_nil (h:=?_)|refine n_then (h:=?_)|refine l_pures1 (h:=?_)|(refine l_atc ?_; refine l_call (h1) ?_)))
 (repeat (first|refine g_seq (h:=?_)|refine g_region (h:=?_)|refine l_nil (h:=?_)|refine n_then (h:=?_)|refine l_pures1 (h:=?_)|(refine l_atc ?_; refine l_call (h2) ?_)))
 (repeat (first|refine g_seq (h:=?_)|refine g_region (h:=?_)|refine l_nil (h:=?_)|refine n_then (h:=?_)|refine l_pures1 (h:=?_)|(refine l_atc ?_; refine l_call (h3) ?_)))
 (repeat (first|refine g_seq (h:=?_)|refine g_region (h:=?_)|refine l_nil (h:=?_)|refine n_then (h:=?_)|refine l_pures1 (h:=?_)|(refine l_atc ?_; refine l_call (h4) ?_)|refine l_guard_yes (h:=?_)))
 (repeat' (first|refine l_nil (h:=?_)|refine n_then (h:=?_)|refine l_pures1 (h:=?_)|(refine l_atc ?_; refine l_call (h5) ?_)|refine l_guard_yes (h:=?_)|refine g_ret (h:=?_)))
 refine r_retk [] ?_
 exact ⟨rfl, rfl⟩
section
variable (t sb db : Nat) (s : CS)
theorem nGet_does (n : Nat) (c : Cp) (hc : s.capAt n = some c) : Does Tryz.prog 17 [.pointer (some ⟨t, 0, none⟩), .int .i64 n] [Ct (TxP.new t sb db 640) s] (fun v H => v = .tuple #[.agg (cpA n c), .int .i64 0] ∧ H = [Ct (TxP.new t sb db 640) s]) := cGet_does (TxP.new t sb db 640) s n c hc
theorem nEnds_does (n : Nat) (c : Cp) (hc : s.capAt n = some c) : Does Tryz.prog 24 [.pointer (some ⟨t, 0, none⟩), .int .i64 n] [Ct (TxP.new t sb db 640) s] (fun v H => v = .tuple #[.int .i64 (endsL (s.up 9 n) : Nat), .int .i64 0] ∧ H = [Ct (TxP.new t sb db 640) s]) := cEnds_does (TxP.new t sb db 640) s n c hc
end
end Go.Proofs.YtelfjhemnnbbpaaGreat
set_option maxRecDepth 20000
namespace Go.Proofs.YtelfjhemnnbbpaaGreat
open Go.Proofs.YtelfjhemnnbbpaaGreat.SL
theorem bits_and16 {a b : Nat} (ha : a < 65536) (hb : b < 65536) : bits .and .i64 a b = ((a &&& b : Nat) : Int) := by
 show IntKind.i64.wrap ((BitVec.ofInt 64 a &&& BitVec.ofInt 64 b).toNat : Int) = _
 have h1 : (BitVec.ofInt 64 (a : Int)).toNat = a := ofInt_nat (n := 64) (by omega)
 have h2 : (BitVec.ofInt 64 (b : Int)).toNat = b := ofInt_nat (n := 64) (by omega)
 have h3 : a &&& b ≤ a := Nat.and_le_left
 rw [BitVec.toNat_and, h1, h2, wrapI64]
 omega
def mvS (x y z : Nat) : CS := ⟨[⟨[120], 9, 3⟩], [some ⟨0, 5, 1, x, 0, 1, 0, 0, false, true⟩, some ⟨0, 6, 1, y, 0, 1, 0, 0, false, true⟩, some ⟨1, 5, 1, z, 0, 2, 0, 0, false, true⟩]⟩
def mvT (x y z : Nat) : CS := ⟨[⟨[120], 9, 3⟩], [some ⟨0, 5, 1, x, 0, 1, 0, 0, false, true⟩, some ⟨0, 6, 1, y, 0, 1, 0, 0, false, true⟩, some ⟨2, 6, 1, z, 0, 2, 0, 0, false, true⟩]⟩
theorem mv_33 (x y z : Nat) : (mvS x y z).move 3 3 = (6, mvS x y z) := rfl
theorem mv_12 (x y z : Nat) : (mvS x y z).move 1 2 = (6, mvS x y z) := rfl
theorem mv_32 (x y z : Nat) : (mvS x y z).move 3 2 = if subB z y = false then (7, mvS x y z) else (0, mvT x y z) := rfl
set_option maxHeartbeats 8000000 in
theorem CaptMoves_does (a b c : Int) (ha : 0 ≤ a ∧ a < 65536) (hb : 0 ≤ b ∧ b < 65536) (hc : 0 ≤ c ∧ c < 65536) :
  Does Tryz.prog 4 [.int .u16 a, .int .u16 b, .int .u16 c] [] (fun v H => v = .bool true ∧ H = []) := by
 obtain ⟨x, rfl⟩ : ∃ x : Nat, a = x := ⟨a.toNat, by omega⟩
 obtain ⟨y, rfl⟩ : ∃ y : Nat, b = y := ⟨b.toNat, by omega⟩
 obtain ⟨w, rfl⟩ : ∃ w : Nat, c = w := ⟨c.toNat, by omega⟩
 have ewx : IntKind.i64.wrap (x : Int) = x := wrapI64 (by omega)
 have ewy : IntKind.i64.wrap (y : Int) = y := wrapI64 (by omega)
 have eww : IntKind.i64.wrap (w : Int) = w := wrapI64 (by omega)
 obtain ⟨z, hz⟩ : ∃ z, z = w &&& x := ⟨_, rfl⟩
 have ez : bits .and .i64 (w : Int) (x : Int) = (z : Int) := by rw [bits_and16 (by omega) (by omega), hz]
 have hzx : subB z x = true := by simp [subB, hz, Nat.and_assoc]
 have hzl : z < 65536 := by have : w &&& x ≤ w := Nat.and_le_left; omega
 have hsb := sub_does z y hzl (by omega)
 refine does_of Tryz.func4 Tryz.ntmps4 rfl rfl rfl (fun w0 F0 => ?_)
 (repeat (first|refine g_seq (h:=?_)|refine g_region (h:=?_)|refine l_nil (h:=?_)|refine n_then (h:=?_)|refine l_pures1 (h:=?_)|(refine l_atc ?_; refine l_call (examples15_does) ?_)|(refine l_atc ?_; refine l_call_ (made15_does) ?_; rintro _ _ _ ⟨t, db, sb, rfl, rfl⟩ he; cases he)|refine g_skip (h:=?_)|refine g_cond_f (h:=?_)))
 rw [ewx, eww, ez, ewy]
 have h1 : Does Tryz.prog 12 [.pointer (some ⟨t, 0, none⟩), .string { data := #[120] }, .int .i64 9] [Ct (TxP.new t sb db 640) CS.z] (fun v H => v = .tuple #[.int .i64 1, .int .i64 0] ∧ H = [Ct (TxP.new t sb db 640) ⟨[⟨[120], 9, 0⟩], []⟩]) :=
  cReg_does (TxP.new t sb db 640) CS.z (roomNew (by simp [CS.z])) [120] [120] 9 (fold1 120 (by decide)) (fold1 120 (by decide)) (by decide) (by decide) (by simp [CS.z]) (z_isNm _)
 have h2 : Does Tryz.prog 14 [.pointer (some ⟨t, 0, none⟩), .int .i64 1, .int .i64 5, .int .i64 x, .int .i64 0, .int .i64 0] [Ct (TxP.new t sb db 640) ⟨[⟨[120], 9, 0⟩], []⟩] (fun v H => v = .tuple #[.int .i64 1, .int .i64 0] ∧ H = [Ct (TxP.new t sb db 640) ⟨[⟨[120], 9, 1⟩], [some ⟨0, 5, 1, x, 0, 1, 0, 0, false, true⟩]⟩]) :=
  cMint_does (TxP.new t sb db 640) ⟨[⟨[120], 9, 0⟩], []⟩ (roomNew (by simp)) 1 5 x 0 0 ⟨[120], 9, 0⟩ rfl (by decide) (by omega) (by decide) (by decide) (by decide) (by simp)
 have h3 : Does Tryz.prog 14 [.pointer (some ⟨t, 0, none⟩), .int .i64 1, .int .i64 6, .int .i64 y, .int .i64 0, .int .i64 0] [Ct (TxP.new t sb db 640) ⟨[⟨[120], 9, 1⟩], [some ⟨0, 5, 1, x, 0, 1, 0, 0, false, true⟩]⟩] (fun v H => v = .tuple #[.int .i64 2, .int .i64 0] ∧ H = [Ct (TxP.new t sb db 640) ⟨[⟨[120], 9, 2⟩], [some ⟨0, 5, 1, x, 0, 1, 0, 0, false, true⟩, some ⟨0, 6, 1, y, 0, 1, 0, 0, false, true⟩]⟩]) :=
  cMint_does (TxP.new t sb db 640) ⟨[⟨[120], 9, 1⟩], [some ⟨0, 5, 1, x, 0, 1, 0, 0, false, true⟩]⟩ (roomNew (by simp)) 1 6 y 0 0 ⟨[120], 9, 1⟩ rfl (by decide) (by omega) (by decide) (by decide) (by decide) (by simp)
 have h4 : Does Tryz.prog 15 [.pointer (some ⟨t, 0, none⟩), .int .i64 1, .int .i64 1, .int .i64 z, .int .i64 0, .int .i64 0, .int .i64 0] [Ct (TxP.new t sb db 640) ⟨[⟨[120], 9, 2⟩], [some ⟨0, 5, 1, x, 0, 1, 0, 0, false, true⟩, some ⟨0, 6, 1, y, 0, 1, 0, 0, false, true⟩]⟩] (fun v H => v = .tuple #[.int .i64 3, .int .i64 0] ∧ H = [Ct (TxP.new t sb db 640) (mvS x y z)]) :=
  cDer_does (TxP.new t sb db 640) ⟨[⟨[120], 9, 2⟩], [some ⟨0, 5, 1, x, 0, 1, 0, 0, false, true⟩, some ⟨0, 6, 1, y, 0, 1, 0, 0, false, true⟩]⟩ (roomNew (by simp)) 1 1 z 0 0 0 ⟨0, 5, 1, x, 0, 1, 0, 0, false, true⟩ ⟨[120], 9, 2⟩ rfl rfl rfl hzl (by decide) (by decide) hzx (show (1 : Nat) < 8 by decide) (show (2 : Nat) < 9 by decide) (by simp)
 have hroom : roomC (TxP.new t sb db 640) (mvS x y z) := roomNew (by simp [mvS])
 have h5 := cMove_does (TxP.new t sb db 640) (mvS x y z) hroom 3 3
 have h6 := cMove_does (TxP.new t sb db 640) (mvS x y z) hroom 1 2
 have h7 := cMove_does (TxP.new t sb db 640) (mvS x y z) hroom 3 2
 rw [mv_33] at h5
 rw [mv_12] at h6
 rw [mv_32] at h7
 have h5 : Does Tryz.prog 16 [.pointer (some ⟨t, 0, none⟩), .int .i64 3, .int .i64 3, .int .i64 0] [Ct (TxP.new t sb db 640) (mvS x y z)] (fun v H => v = .int .i64 6 ∧ H = [Ct (TxP.new t sb db 640) (mvS x y z)]) := h5
 have h6 : Does Tryz.prog 16 [.pointer (some ⟨t, 0, none⟩), .int .i64 1, .int .i64 2, .int .i64 0] [Ct (TxP.new t sb db 640) (mvS x y z)] (fun v H => v = .int .i64 6 ∧ H = [Ct (TxP.new t sb db 640) (mvS x y z)]) := h6
 by_cases hf : subB z y = false
 ·rw [if_pos hf] at h7
  have h7 : Does Tryz.prog 16 [.pointer (some ⟨t, 0, none⟩), .int .i64 3, .int .i64 2, .int .i64 0] [Ct (TxP.new t sb db 640) (mvS x y z)] (fun v H => v = .int .i64 7 ∧ H = [Ct (TxP.new t sb db 640) (mvS x y z)]) := h7
  rw [hf] at hsb
  have h8 : Does Tryz.prog 17 [.pointer (some ⟨t, 0, none⟩), .int .i64 3] [Ct (TxP.new t sb db 640) (mvS x y z)] (fun v H => v = .tuple #[.agg #[.int .i64 3, .int .i64 1, .int .i64 5, .int .i64 1, .int .i64 z, .int .i64 0, .int .i64 2, .int .i64 0, .int .i64 0, .bool false], .int .i64 0] ∧ H = [Ct (TxP.new t sb db 640) (mvS x y z)]) := nGet_does t sb db (mvS x y z) 3 _ rfl
  have h9 : Does Tryz.prog 18 [.pointer (some ⟨t, 0, none⟩), .int .i64 1, .int .i64 0, .int .i64 9] [Ct (TxP.new t sb db 640) (mvS x y z)] (fun v H => ∃ p cap, v = .tuple #[.slice p 1 cap, .int .i64 0] ∧ H = [Ct (TxP.new t sb db 640) (mvS x y z), vec 3 1 p 1 cap [.int .i64 3]]) := cKids_does (TxP.new t sb db 640) (mvS x y z) 1 0 9 (by omega) (by omega)
  have h10 : Does Tryz.prog 18 [.pointer (some ⟨t, 0, none⟩), .int .i64 2, .int .i64 0, .int .i64 9] [Ct (TxP.new t sb db 640) (mvS x y z)] (fun v H => ∃ p cap, v = .tuple #[.slice p 0 cap, .int .i64 0] ∧ H = [Ct (TxP.new t sb db 640) (mvS x y z), vec 3 1 p 0 cap []]) := cKids_does (TxP.new t sb db 640) (mvS x y z) 2 0 9 (by omega) (by omega)
  (repeat (first|refine g_seq (h:=?_)|refine g_region (h:=?_)|refine l_nil (h:=?_)|refine n_then (h:=?_)|refine l_pures1 (h:=?_)|(refine l_atc ?_; refine l_call (h1) ?_)|(refine l_atc ?_; refine l_call (h2) ?_)))
  (repeat (first|refine g_seq (h:=?_)|refine g_region (h:=?_)|refine l_nil (h:=?_)|refine n_then (h:=?_)|refine l_pures1 (h:=?_)|(refine l_atc ?_; refine l_call (h3) ?_)|(refine l_atc ?_; refine l_call (h4) ?_)))
  (repeat (first|refine g_seq (h:=?_)|refine g_region (h:=?_)|refine l_nil (h:=?_)|refine n_then (h:=?_)|refine l_pures1 (h:=?_)|(refine l_atc ?_; refine l_call (h5) ?_)|(refine l_atc ?_; refine l_call (h6) ?_)|(refine l_atc ?_; refine l_call (h7) ?_)|(refine l_atc ?_; refine l_call (h8) ?_)|refine l_store (h:=?_)|(refine l_alloc (h:=?_); intro _)))
  (repeat (first|refine g_seq (h:=?_)|refine g_region (h:=?_)|refine l_nil (h:=?_)|refine n_then (h:=?_)|refine l_pures1 (h:=?_)|(refine l_atc ?_; refine l_call_ (h9) ?_; rintro _ _ _ ⟨p, cp, rfl, rfl⟩ he; cases he)))
  (repeat (first|refine g_seq (h:=?_)|refine g_region (h:=?_)|refine l_nil (h:=?_)|refine n_then (h:=?_)|refine l_pures1 (h:=?_)|(refine l_atc ?_; refine l_call_ (h10) ?_; rintro _ _ _ ⟨q, cq, rfl, rfl⟩ he; cases he)))
  (repeat' (first|refine g_seq (h:=?_)|refine g_region (h:=?_)|refine l_nil (h:=?_)|refine n_then (h:=?_)|refine l_pures1 (h:=?_)|(refine l_atc ?_; refine l_call (hsb) ?_)|refine l_guard_yes (h:=?_)|refine l_load (h:=?_)|refine g_skip (h:=?_)|refine g_ret (h:=?_)|refine n_then_ret (h:=?_)|refine g_cond_t (h:=?_)|refine g_cond_f (h:=?_)))
  refine r_retk [] ?_
  exact ⟨rfl, rfl⟩
 ·rw [if_neg hf] at h7
  have hf : subB z y = true := by simpa using hf
  have h7 : Does Tryz.prog 16 [.pointer (some ⟨t, 0, none⟩), .int .i64 3, .int .i64 2, .int .i64 0] [Ct (TxP.new t sb db 640) (mvS x y z)] (fun v H => v = .int .i64 0 ∧ H = [Ct (TxP.new t sb db 640) (mvT x y z)]) := h7
  rw [hf] at hsb
  have h8 : Does Tryz.prog 17 [.pointer (some ⟨t, 0, none⟩), .int .i64 3] [Ct (TxP.new t sb db 640) (mvT x y z)] (fun v H => v = .tuple #[.agg #[.int .i64 3, .int .i64 2, .int .i64 6, .int .i64 1, .int .i64 z, .int .i64 0, .int .i64 2, .int .i64 0, .int .i64 0, .bool false], .int .i64 0] ∧ H = [Ct (TxP.new t sb db 640) (mvT x y z)]) := nGet_does t sb db (mvT x y z) 3 _ rfl
  have h9 : Does Tryz.prog 18 [.pointer (some ⟨t, 0, none⟩), .int .i64 1, .int .i64 0, .int .i64 9] [Ct (TxP.new t sb db 640) (mvT x y z)] (fun v H => ∃ p cap, v = .tuple #[.slice p 0 cap, .int .i64 0] ∧ H = [Ct (TxP.new t sb db 640) (mvT x y z), vec 3 1 p 0 cap []]) := cKids_does (TxP.new t sb db 640) (mvT x y z) 1 0 9 (by omega) (by omega)
  have h10 : Does Tryz.prog 18 [.pointer (some ⟨t, 0, none⟩), .int .i64 2, .int .i64 0, .int .i64 9] [Ct (TxP.new t sb db 640) (mvT x y z)] (fun v H => ∃ p cap, v = .tuple #[.slice p 1 cap, .int .i64 0] ∧ H = [Ct (TxP.new t sb db 640) (mvT x y z), vec 3 1 p 1 cap [.int .i64 3]]) := cKids_does (TxP.new t sb db 640) (mvT x y z) 2 0 9 (by omega) (by omega)
  (repeat (first|refine g_seq (h:=?_)|refine g_region (h:=?_)|refine l_nil (h:=?_)|refine n_then (h:=?_)|refine l_pures1 (h:=?_)|(refine l_atc ?_; refine l_call (h1) ?_)|(refine l_atc ?_; refine l_call (h2) ?_)))
  (repeat (first|refine g_seq (h:=?_)|refine g_region (h:=?_)|refine l_nil (h:=?_)|refine n_then (h:=?_)|refine l_pures1 (h:=?_)|(refine l_atc ?_; refine l_call (h3) ?_)|(refine l_atc ?_; refine l_call (h4) ?_)))
  (repeat (first|refine g_seq (h:=?_)|refine g_region (h:=?_)|refine l_nil (h:=?_)|refine n_then (h:=?_)|refine l_pures1 (h:=?_)|(refine l_atc ?_; refine l_call (h5) ?_)|(refine l_atc ?_; refine l_call (h6) ?_)|(refine l_atc ?_; refine l_call (h7) ?_)|(refine l_atc ?_; refine l_call (h8) ?_)|refine l_store (h:=?_)|(refine l_alloc (h:=?_); intro _)))
  (repeat (first|refine g_seq (h:=?_)|refine g_region (h:=?_)|refine l_nil (h:=?_)|refine n_then (h:=?_)|refine l_pures1 (h:=?_)|(refine l_atc ?_; refine l_call_ (h9) ?_; rintro _ _ _ ⟨p, cp, rfl, rfl⟩ he; cases he)))
  (repeat (first|refine g_seq (h:=?_)|refine g_region (h:=?_)|refine l_nil (h:=?_)|refine n_then (h:=?_)|refine l_pures1 (h:=?_)|(refine l_atc ?_; refine l_call_ (h10) ?_; rintro _ _ _ ⟨q, cq, rfl, rfl⟩ he; cases he)))
  refine l_ptr (m := 1) (h:=?_); rintro gq rfl hcq
  have hg : ([.int .i64 3] : List Value)[0 + (0 : Int).toNat * 1]? = some (.int .i64 3) := rfl
  (repeat' (first|refine g_seq (h:=?_)|refine g_region (h:=?_)|refine l_nil (h:=?_)|refine n_then (h:=?_)|refine l_pures1 (h:=?_)|(refine l_atc ?_; refine l_call (hsb) ?_)|refine l_guard_yes (h:=?_)|refine l_load (h:=?_)|refine l_indexAddr (h:=?_)|refine g_skip (h:=?_)|refine g_ret (h:=?_)|refine g_cond_f (h:=?_)|refine l_load_vec (h:=?_)))
  refine r_retk [] ?_
  exact ⟨rfl, rfl⟩
theorem wf_u16 {a : Int} (h : (Lit.int .u16 a).wf = true) : 0 ≤ a ∧ a < 65536 := by
 simp [Lit.wf, IntKind.min, IntKind.max, IntKind.bits, IntKind.signed] at h
 omega
end Go.Proofs.YtelfjhemnnbbpaaGreat

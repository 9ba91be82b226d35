/- Texts CaA, CaQ, CaB, CaR, CaU, CaN, CaS, CaM, SlU, SlV, SlW, LbA, joined. -/
import Derived.Laws.RangeString
import Derived.Test.YtelfjhemnnbbpaaGreatK09
set_option linter.unusedVariables false
set_option linter.unusedSimpArgs false
set_option maxRecDepth 20000
namespace Go.Proofs.YtelfjhemnnbbpaaGreat
open Go.Proofs.YtelfjhemnnbbpaaGreat.SL
theorem cKey_does (k a b : Nat) (hk : k < 16) (ha : a ≤ 268435455) (hb : b < 4294967296) : Does Tryz.prog 37 [.int .i64 k, .int .i64 a, .int .i64 b] [] (fun v H => v = .int .u64 (kyN k a b : Nat) ∧ H = []) := by
 have hK := Key_does k a b hk ha hb
 refine does_of Tryz.func37 Tryz.ntmps37 rfl rfl rfl (fun w0 F0 => ?_)
 (repeat' (first|refine g_seq (h:=?_)|refine g_region (h:=?_)|refine l_nil (h:=?_)|refine n_then (h:=?_)|refine l_pures1 (h:=?_)|(refine l_atc ?_; refine l_call (hK) ?_)|refine g_ret (h:=?_)))
 refine r_ret ?_
 exact ⟨rfl, rfl⟩
theorem cTold_does (P : TxP) (T : List Ent) (e : Int) : Does Tryz.prog 30 [.pointer (some ⟨P.t, 0, none⟩), .int .i64 e] [Tx P T] (fun v H => v = .int .i64 e ∧ H = [Tx P T]) := by
 have he := tErr_does P T
 refine does_of Tryz.func30 Tryz.ntmps30 rfl rfl rfl (fun w0 F0 => ?_)
 (repeat' (first|refine g_seq (h:=?_)|refine g_region (h:=?_)|refine l_nil (h:=?_)|refine n_then (h:=?_)|refine l_pures1 (h:=?_)|(refine l_atc ?_; refine l_call (he) ?_)|refine g_skip (h:=?_)|refine g_ret (h:=?_)|refine g_cond_f (h:=?_)))
 refine r_ret ?_
 exact ⟨rfl, rfl⟩
theorem cNumb_does (P : TxP) (T : List Ent) (n : Nat) : Does Tryz.prog 34 [.pointer (some ⟨P.t, 0, none⟩), .int .i64 n] [Tx P T] (fun v H => v = .tuple #[.int .i64 n, .int .i64 0] ∧ H = [Tx P T]) := by
 have he := tErr_does P T
 refine does_of Tryz.func34 Tryz.ntmps34 rfl rfl rfl (fun w0 F0 => ?_)
 (repeat' (first|refine g_seq (h:=?_)|refine g_region (h:=?_)|refine l_nil (h:=?_)|refine n_then (h:=?_)|refine l_pures1 (h:=?_)|(refine l_atc ?_; refine l_call (he) ?_)|refine g_skip (h:=?_)|refine g_ret (h:=?_)|refine g_cond_f (h:=?_)))
 refine r_ret ?_
 exact ⟨rfl, rfl⟩
theorem cId_does (n : Nat) (h : 1 ≤ n ∧ n ≤ 16777215) : Does Tryz.prog 35 [.int .i64 n] [] (fun v H => v = .bool true ∧ H = []) := by
 refine does_of Tryz.func35 Tryz.ntmps35 rfl rfl rfl (fun w0 F0 => ?_)
 (repeat' (first|refine g_seq (h:=?_)|refine g_region (h:=?_)|refine l_nil (h:=?_)|refine n_then (h:=?_)|refine l_pures1 (h:=?_)|refine l_guard_yes (h:=?_)|refine g_ret (h:=?_)|(refine l_spT (h:=?_); intro h)))
 refine r_retk [] ?_
 exact ⟨(by first | (simp [packV]; done) | (simp [packV]; omega)), rfl⟩
theorem cIdNo_does (n : Nat) (h : ¬ (1 ≤ n ∧ n ≤ 16777215)) : Does Tryz.prog 35 [.int .i64 n] [] (fun v H => v = .bool false ∧ H = []) := by
 refine does_of Tryz.func35 Tryz.ntmps35 rfl rfl rfl (fun w0 F0 => ?_)
 (repeat' (first|refine g_seq (h:=?_)|refine g_region (h:=?_)|refine l_nil (h:=?_)|refine n_then (h:=?_)|refine l_pures1 (h:=?_)|refine l_guard_yes (h:=?_)|refine l_guard_no (h:=?_)|refine g_ret (h:=?_)|(refine l_sp (h1 := ?_) (h0 := ?_) <;> intro h)))
 all_goals
  refine r_retk [] ?_
 all_goals exact ⟨(by first | (simp [packV]; done) | (simp [packV]; omega)), rfl⟩
theorem getV_none {T : List Ent} {x : Nat} (h : getE T x = none) : optV (getE T x) = .tuple #[.string { data := #[] }, .bool false] := by rw [h]; rfl
theorem getV_some {T : List Ent} {x : Nat} {v : List UInt8} (h : getE T x = some v) : optV (getE T x) = .tuple #[.string (str v), .bool true] := by rw [h]; rfl
theorem cNumber_does (P : TxP) (T : List Ent) (m n : Nat) (hn : n < 4294967296) (hm : m ≤ 16777215) (hv : getE T (kyN 9 0 n) = numV m) : Does Tryz.prog 49 [.pointer (some ⟨P.t, 0, none⟩), .int .i64 n] [Tx P T] (fun v H => v = .tuple #[.int .i64 m, .int .i64 0] ∧ H = [Tx P T]) := by
 have hK : Does Tryz.prog 70 [.int .i64 9, .int .i64 0, .int .i64 n] [] (fun v H => v = .tuple #[.int .u64 (kyN 9 0 n : Nat), .bool true] ∧ H = []) := Key_does 9 0 n (by omega) (by omega) hn
 have hg := tGet_does P T (kyN 9 0 n)
 have ht := cTold_does P T 0
 by_cases q : m = 0
 ·subst q
  rw [getV_none (hv.trans (if_pos rfl))] at hg
  refine does_of Tryz.func49 Tryz.ntmps49 rfl rfl rfl (fun w0 F0 => ?_)
  (repeat' (first|refine g_seq (h:=?_)|refine g_region (h:=?_)|refine l_nil (h:=?_)|refine n_then (h:=?_)|refine l_pures1 (h:=?_)|(refine l_atc ?_; refine l_call (hK) ?_)|(refine l_atc ?_; refine l_call (hg) ?_)|(refine l_atc ?_; refine l_call (ht) ?_)|refine g_skip (h:=?_)|refine g_ret (h:=?_)|refine n_then_ret (h:=?_)|refine g_cond_t (h:=?_)|refine g_cond_f (h:=?_)))
  refine r_ret ?_
  exact ⟨rfl, rfl⟩
 ·rw [getV_some (hv.trans (if_neg q))] at hg
  have hl := putN_length 3 m
  have hT := Take_does (putN m 3) 3 (by omega) (by omega)
  have hT2 := take_putN (n := m) (k := 3) (by omega) (by omega) []
  rw [List.append_nil] at hT2
  have hT2 : numTake (putN m 3) 3 = (m, [], 0) := hT2
  rw [hT2] at hT
  have hT : Does Tryz.prog 79 [.string (str (putN m 3)), .int .i64 3] [] (fun v H => v = .tuple #[.int .u64 m, .string { data := #[] }, .int .i64 0] ∧ H = []) := hT
  have ew : IntKind.i64.wrap (m : Int) = m := wrapI64 (by omega)
  refine does_of Tryz.func49 Tryz.ntmps49 rfl rfl rfl (fun w0 F0 => ?_)
  (repeat' (first|refine g_seq (h:=?_)|refine g_region (h:=?_)|refine l_nil (h:=?_)|refine n_then (h:=?_)|refine l_pures1 (h:=?_)|(refine l_atc ?_; refine l_call (hK) ?_)|(refine l_atc ?_; refine l_call (hg) ?_)|(refine l_atc ?_; refine l_call (hT) ?_)|refine l_guard_yes (h:=?_)|refine g_skip (h:=?_)|refine g_ret (h:=?_)|refine g_cond_f (h:=?_)))
  refine r_retk [Tx P T] ?_
  exact ⟨by rw [ew]; rfl, rfl⟩
theorem fresh_does (P : TxP) (T : List Ent) (m n : Nat) (hn : n < 4294967296) (hm : m < 16777215) (hv : getE T (kyN 9 0 n) = numV m) (room : P.room T) : Does Tryz.prog 32 [.pointer (some ⟨P.t, 0, none⟩), .int .i64 n] [Tx P T] (fun v H => v = .tuple #[.int .i64 (m + 1 : Nat), .int .i64 0] ∧ H = [Tx P (putE T (kyN 9 0 n) (putN (m + 1) 3))]) := by
 have hN := cNumber_does P T m n hn (by omega) hv
 have hK : Does Tryz.prog 37 [.int .i64 9, .int .i64 0, .int .i64 n] [] (fun v H => v = .int .u64 (kyN 9 0 n : Nat) ∧ H = []) := cKey_does 9 0 n (by omega) (by omega) hn
 have hp := Put_does (m + 1) 3 (by omega) (by omega)
 have hp2 := putN_ok (n := m + 1) (k := 3) (by omega) (by omega)
 have hp2 : numPut (m + 1) 3 = (putN (m + 1) 3, 0) := hp2
 rw [hp2] at hp
 have hput := tPut_does P T (kyN 9 0 n) (putN (m + 1) 3) (kyN_lt (by omega) (by omega) hn) (by rw [putN_length]; omega) room
 have ht := cTold_does P (putE T (kyN 9 0 n) (putN (m + 1) 3)) 0
 have ew : IntKind.i64.wrap ((m : Int) + 1) = ((m + 1 : Nat) : Int) := by rw [wrapI64 (by omega)]; rfl
 have ew2 : IntKind.u64.wrap ((m + 1 : Nat) : Int) = ((m + 1 : Nat) : Int) := wrapU64 (by omega)
 refine does_of Tryz.func32 Tryz.ntmps32 rfl rfl rfl (fun w0 F0 => ?_)
 (repeat' (first|refine g_seq (h:=?_)|refine g_region (h:=?_)|refine l_nil (h:=?_)|refine n_then (h:=?_)|refine l_pures1 (h:=?_)|(refine l_atc ?_; refine l_call (hN) ?_)|refine g_skip (h:=?_)|refine g_block (h:=?_)|refine n_block (h:=?_)|refine g_cond_f (h:=?_)|(refine g_spF (h:=?_); intro h)))
 rw [ew, ew2]
 (repeat' (first|refine g_seq (h:=?_)|refine g_region (h:=?_)|refine l_nil (h:=?_)|refine n_then (h:=?_)|refine l_pures1 (h:=?_)|(refine l_atc ?_; refine l_call (hK) ?_)|(refine l_atc ?_; refine l_call (hp) ?_)|(refine l_atc ?_; refine l_call (hput) ?_)|(refine l_atc ?_; refine l_call (ht) ?_)|refine g_ret (h:=?_)))
 refine r_retk [Tx P (putE T (kyN 9 0 n) (putN (m + 1) 3))] ?_
 exact ⟨by rw [ew]; rfl, rfl⟩
theorem ownerOf_does (P : TxP) (T : List Ent) (n : Nat) (o : Ow) (ok : o.ok n) (hv : getE T (kyN 3 0 n) = some o.text) : Does Tryz.prog 13 [.pointer (some ⟨P.t, 0, none⟩), .int .i64 n] [Tx P T] (fun v H => v = .tuple #[.agg (owA n o), .int .i64 0] ∧ H = [Tx P T]) := by
 have hi := cId_does n ok.id
 have hid := ok.id
 have hK : Does Tryz.prog 37 [.int .i64 3, .int .i64 0, .int .i64 n] [] (fun v H => v = .int .u64 (kyN 3 0 n : Nat) ∧ H = []) := cKey_does 3 0 n (by omega) (by omega) (by omega)
 have hg := tGet_does P T (kyN 3 0 n)
 rw [getV_some hv] at hg
 have ht := takeOwner_does n o ok
 refine does_of Tryz.func13 Tryz.ntmps13 rfl rfl rfl (fun w0 F0 => ?_)
 (repeat' (first|refine g_seq (h:=?_)|refine g_region (h:=?_)|refine l_nil (h:=?_)|refine n_then (h:=?_)|refine l_pures1 (h:=?_)|(refine l_atc ?_; refine l_call (hi) ?_)|(refine l_atc ?_; refine l_call (hK) ?_)|(refine l_atc ?_; refine l_call (hg) ?_)|(refine l_atc ?_; refine l_call (ht) ?_)|refine l_store (h:=?_)|(refine l_alloc (h:=?_); intro _)|refine g_skip (h:=?_)|refine g_ret (h:=?_)|refine g_cond_f (h:=?_)))
 refine r_retk [Tx P T] ?_
 exact ⟨rfl, rfl⟩
def owZ : Array Value := #[.int .i64 0, .string { data := #[] }, .int .i64 0, .int .i64 0]
theorem getCap_does (P : TxP) (T : List Ent) (n : Nat) (c : Cp) (ok : c.ok n) (hv : getE T (kyN 1 0 n) = some c.text) : Does Tryz.prog 17 [.pointer (some ⟨P.t, 0, none⟩), .int .i64 n] [Tx P T] (fun v H => v = .tuple #[.agg (cpA n c), .int .i64 0] ∧ H = [Tx P T]) := by
 have hi := cId_does n ok.id
 have hid := ok.id
 have hK : Does Tryz.prog 37 [.int .i64 1, .int .i64 0, .int .i64 n] [] (fun v H => v = .int .u64 (kyN 1 0 n : Nat) ∧ H = []) := cKey_does 1 0 n (by omega) (by omega) (by omega)
 have hg := tGet_does P T (kyN 1 0 n)
 rw [getV_some hv] at hg
 have ht := takeCap_does n c ok
 refine does_of Tryz.func17 Tryz.ntmps17 rfl rfl rfl (fun w0 F0 => ?_)
 (repeat' (first|refine g_seq (h:=?_)|refine g_region (h:=?_)|refine l_nil (h:=?_)|refine n_then (h:=?_)|refine l_pures1 (h:=?_)|(refine l_atc ?_; refine l_call (hi) ?_)|(refine l_atc ?_; refine l_call (hK) ?_)|(refine l_atc ?_; refine l_call (hg) ?_)|(refine l_atc ?_; refine l_call (ht) ?_)|refine l_store (h:=?_)|(refine l_alloc (h:=?_); intro _)|refine g_skip (h:=?_)|refine g_ret (h:=?_)|refine g_cond_f (h:=?_)))
 refine r_retk [Tx P T] ?_
 exact ⟨rfl, rfl⟩
def cpZ : Array Value := #[.int .i64 0, .int .i64 0, .int .i64 0, .int .i64 0, .int .i64 0, .int .i64 0, .int .i64 0, .int .i64 0, .int .i64 0, .bool false]
theorem getCapNo_does (P : TxP) (T : List Ent) (n : Nat) (hv : (1 ≤ n ∧ n ≤ 16777215) → getE T (kyN 1 0 n) = none) : Does Tryz.prog 17 [.pointer (some ⟨P.t, 0, none⟩), .int .i64 n] [Tx P T] (fun v H => v = .tuple #[.agg cpZ, .int .i64 3] ∧ H = [Tx P T]) := by
 have ht := cTold_does P T 3
 by_cases hid : 1 ≤ n ∧ n ≤ 16777215
 ·have hi := cId_does n hid
  have hK : Does Tryz.prog 37 [.int .i64 1, .int .i64 0, .int .i64 n] [] (fun v H => v = .int .u64 (kyN 1 0 n : Nat) ∧ H = []) := cKey_does 1 0 n (by omega) (by omega) (by omega)
  have hg := tGet_does P T (kyN 1 0 n)
  rw [getV_none (hv hid)] at hg
  refine does_of Tryz.func17 Tryz.ntmps17 rfl rfl rfl (fun w0 F0 => ?_)
  (repeat' (first|refine g_seq (h:=?_)|refine g_region (h:=?_)|refine l_nil (h:=?_)|refine n_then (h:=?_)|refine l_pures1 (h:=?_)|(refine l_atc ?_; refine l_call (hi) ?_)|(refine l_atc ?_; refine l_call (hK) ?_)|(refine l_atc ?_; refine l_call (hg) ?_)|(refine l_atc ?_; refine l_call (ht) ?_)|refine l_store (h:=?_)|(refine l_alloc (h:=?_); intro _)|refine g_skip (h:=?_)|refine g_ret (h:=?_)|refine n_then_ret (h:=?_)|refine g_cond_t (h:=?_)|refine g_cond_f (h:=?_)))
  refine r_retk [Tx P T] ?_
  exact ⟨rfl, rfl⟩
 ·have hi := cIdNo_does n hid
  refine does_of Tryz.func17 Tryz.ntmps17 rfl rfl rfl (fun w0 F0 => ?_)
  (repeat' (first|refine g_seq (h:=?_)|refine g_region (h:=?_)|refine l_nil (h:=?_)|refine n_then (h:=?_)|refine l_pures1 (h:=?_)|(refine l_atc ?_; refine l_call (hi) ?_)|(refine l_atc ?_; refine l_call (ht) ?_)|refine l_store (h:=?_)|(refine l_alloc (h:=?_); intro _)|refine g_ret (h:=?_)|refine n_then_ret (h:=?_)|refine g_cond_t (h:=?_)))
  refine r_retk [Tx P T] ?_
  exact ⟨rfl, rfl⟩
theorem setOwner_does (P : TxP) (T : List Ent) (n : Nat) (o : Ow) (ok : o.ok n) (room : P.room T) : Does Tryz.prog 33 [.pointer (some ⟨P.t, 0, none⟩), .agg (owA n o)] [Tx P T] (fun v H => v = .tuple #[] ∧ H = [Tx P (putE T (kyN 3 0 n) o.text)]) := by
 have hid := ok.id
 have hln := ok.len
 have hp := putOwner_does n o ok
 have hK : Does Tryz.prog 37 [.int .i64 3, .int .i64 0, .int .i64 n] [] (fun v H => v = .int .u64 (kyN 3 0 n : Nat) ∧ H = []) := cKey_does 3 0 n (by omega) (by omega) (by omega)
 have hput := tPut_does P T (kyN 3 0 n) o.text (kyN_lt (by omega) (by omega) (by omega)) (by rw [Ow.text_len]; omega) room
 refine does_of Tryz.func33 Tryz.ntmps33 rfl rfl rfl (fun w0 F0 => ?_)
 (repeat' (first|refine g_seq (h:=?_)|refine g_region (h:=?_)|refine l_nil (h:=?_)|refine n_then (h:=?_)|refine l_pures1 (h:=?_)|(refine l_atc ?_; refine l_call (hp) ?_)|(refine l_atc ?_; refine l_call (hK) ?_)|(refine l_atc ?_; refine l_call (hput) ?_)|refine l_load (h:=?_)|(refine l_box (h:=?_); intro _)))
 refine r_endk [Tx P (putE T (kyN 3 0 n) o.text)] ?_
 exact ⟨rfl, rfl⟩
theorem setCap_does (P : TxP) (T : List Ent) (n : Nat) (c : Cp) (ok : c.ok n) (room : P.room T) : Does Tryz.prog 44 [.pointer (some ⟨P.t, 0, none⟩), .agg (cpA n c)] [Tx P T] (fun v H => v = .tuple #[] ∧ H = [Tx P (putE T (kyN 1 0 n) c.text)]) := by
 have hid := ok.id
 have hp := putCap_does n c ok
 have hK : Does Tryz.prog 37 [.int .i64 1, .int .i64 0, .int .i64 n] [] (fun v H => v = .int .u64 (kyN 1 0 n : Nat) ∧ H = []) := cKey_does 1 0 n (by omega) (by omega) (by omega)
 have hput := tPut_does P T (kyN 1 0 n) c.text (kyN_lt (by omega) (by omega) (by omega)) (by rw [Cp.text_len]; omega) room
 refine does_of Tryz.func44 Tryz.ntmps44 rfl rfl rfl (fun w0 F0 => ?_)
 (repeat' (first|refine g_seq (h:=?_)|refine g_region (h:=?_)|refine l_nil (h:=?_)|refine n_then (h:=?_)|refine l_pures1 (h:=?_)|(refine l_atc ?_; refine l_call (hp) ?_)|(refine l_atc ?_; refine l_call (hK) ?_)|(refine l_atc ?_; refine l_call (hput) ?_)|refine l_load (h:=?_)|(refine l_box (h:=?_); intro _)))
 refine r_endk [Tx P (putE T (kyN 1 0 n) c.text)] ?_
 exact ⟨rfl, rfl⟩
theorem cMay0_does (mask : Nat) (badge expiry : Int) (h1 : mask < 65536) (h2 : 0 ≤ badge ∧ badge < 4294967296) (h3 : 0 ≤ expiry ∧ expiry ≤ 268435455) : Does Tryz.prog 39 [.int .i64 mask, .int .i64 badge, .int .i64 expiry] [] (fun v H => v = .bool true ∧ H = []) := by
 have hs := sub_does mask mask h1 h1
 rw [subB_self] at hs
 refine does_of Tryz.func39 Tryz.ntmps39 rfl rfl rfl (fun w0 F0 => ?_)
 (repeat' (first|refine g_seq (h:=?_)|refine g_region (h:=?_)|refine l_nil (h:=?_)|refine n_then (h:=?_)|refine l_pures1 (h:=?_)|(refine l_atc ?_; refine l_call (hs) ?_)|refine l_guard_yes (h:=?_)|refine g_ret (h:=?_)|(refine l_spT (h:=?_); intro h)))
 refine r_retk [] ?_
 exact ⟨(by first | (simp [packV]; done) | (simp [packV]; omega)), rfl⟩
theorem cMay_does (mask badge expiry : Nat) (h1 : mask < 65536) (h2 : badge < 4294967296) (h3 : expiry ≤ 268435455) : Does Tryz.prog 39 [.int .i64 mask, .int .i64 badge, .int .i64 expiry] [] (fun v H => v = .bool true ∧ H = []) := cMay0_does mask badge expiry h1 (by omega) (by omega)
end Go.Proofs.YtelfjhemnnbbpaaGreat
set_option maxRecDepth 20000
namespace Go.Proofs.YtelfjhemnnbbpaaGreat
open Go.Proofs.YtelfjhemnnbbpaaGreat.SL
theorem val1 (s : CS) (a b : Nat) : s.val 1 a b = if a = 0 then (s.capAt b).map Cp.text else none := by simp [CS.val]
theorem val2 (s : CS) (a b : Nat) : s.val 2 a b = if s.kid a b = true then some [] else none := by simp [CS.val]
theorem val3 (s : CS) (a b : Nat) : s.val 3 a b = if a = 0 then (s.owAt b).map Ow.text else none := by simp [CS.val]
theorem val5 (s : CS) (a b : Nat) : s.val 5 a b = if s.lease a b = true then some [] else none := by simp [CS.val]
theorem val9 (s : CS) (a b : Nat) : s.val 9 a b = if a = 0 ∧ b = 1 then numV s.cp.length else if a = 0 ∧ b = 2 then numV s.ow.length else none := by simp [CS.val]
theorem val_no (s : CS) {k a b : Nat} (h : k ≠ 1 ∧ k ≠ 2 ∧ k ≠ 3 ∧ k ≠ 5 ∧ k ≠ 9) : s.val k a b = none := by
 obtain ⟨h1, h2, h3, h4, h5⟩ := h
 simp [CS.val, h1, h2, h3, h4, h5]
theorem Vals.upd_ne {f : Vals} {k a b k' a' b' : Nat} {v : Option (List UInt8)} (h : k' ≠ k) : f.upd k a b v k' a' b' = f k' a' b' := by
 unfold Vals.upd; rw [if_neg (fun q => h q.1)]
theorem Vals.upd_at {f : Vals} {k a b a' b' : Nat} {v : Option (List UInt8)} : f.upd k a b v k a' b' = if a' = a ∧ b' = b then v else f k a' b' := by
 unfold Vals.upd; simp
def Vals.updIf (f : Vals) (q : Prop) [Decidable q] (k a b : Nat) (v : Option (List UInt8)) : Vals := if q then f.upd k a b v else f
theorem Vals.updIf_t {f : Vals} {q : Prop} [Decidable q] {k a b : Nat} {v : Option (List UInt8)} (h : q) : f.updIf q k a b v = f.upd k a b v := if_pos h
theorem Vals.updIf_f {f : Vals} {q : Prop} [Decidable q] {k a b : Nat} {v : Option (List UInt8)} (h : ¬ q) : f.updIf q k a b v = f := if_neg h
theorem Vals.updIf_ne {f : Vals} {q : Prop} [Decidable q] {k a b k' a' b' : Nat} {v : Option (List UInt8)} (h : k' ≠ k) : f.updIf q k a b v k' a' b' = f k' a' b' := by
 unfold Vals.updIf; split
 ·exact Vals.upd_ne h
 ·rfl
theorem Vals.updIf_at {f : Vals} {q : Prop} [Decidable q] {k a b a' b' : Nat} {v : Option (List UInt8)} : f.updIf q k a b v k a' b' = if q ∧ a' = a ∧ b' = b then v else f k a' b' := by
 unfold Vals.updIf
 by_cases h : q
 ·rw [if_pos h, Vals.upd_at]; simp [h]
 ·rw [if_neg h]; simp [h]
theorem val_ext {f : Vals} {s : CS} (h1 : ∀ a b, f 1 a b = s.val 1 a b) (h2 : ∀ a b, f 2 a b = s.val 2 a b) (h3 : ∀ a b, f 3 a b = s.val 3 a b) (h5 : ∀ a b, f 5 a b = s.val 5 a b) (h9 : ∀ a b, f 9 a b = s.val 9 a b)
  (h0 : ∀ k a b, (k ≠ 1 ∧ k ≠ 2 ∧ k ≠ 3 ∧ k ≠ 5 ∧ k ≠ 9) → f k a b = none) : ∀ k a b, f k a b = s.val k a b := by
 intro k a b
 by_cases q : k ≠ 1 ∧ k ≠ 2 ∧ k ≠ 3 ∧ k ≠ 5 ∧ k ≠ 9
 ·rw [h0 _ _ _ q, val_no s q]
 ·have : k = 1 ∨ k = 2 ∨ k = 3 ∨ k = 5 ∨ k = 9 := by omega
  rcases this with rfl | rfl | rfl | rfl | rfl
  ·exact h1 a b
  ·exact h2 a b
  ·exact h3 a b
  ·exact h5 a b
  ·exact h9 a b
def CS.add (s : CS) (c : Cp) (o' : Ow) : CS := ⟨s.ow.set (c.owner - 1) o', s.cp ++ [some c]⟩
def CS.setC (s : CS) (n : Nat) (c : Option Cp) : CS := ⟨s.ow, s.cp.set (n - 1) c⟩
def CS.setO (s : CS) (n : Nat) (o : Ow) : CS := ⟨s.ow.set (n - 1) o, s.cp⟩
def CS.addO (s : CS) (o : Ow) : CS := ⟨s.ow ++ [o], s.cp⟩
theorem add_cap (s : CS) (c : Cp) (o' : Ow) (n : Nat) : (s.add c o').capAt n = if n = s.cp.length + 1 then some c else s.capAt n := by
 unfold CS.capAt CS.add
 by_cases h0 : n = 0
 ·subst h0; rw [if_pos rfl, if_neg (by omega), if_pos rfl]
 ·rw [if_neg h0, if_neg h0]
  by_cases q : n = s.cp.length + 1
  ·subst q; rw [if_pos rfl]; simp
  ·rw [if_neg q]
   rcases Nat.lt_or_ge (n - 1) s.cp.length with h | h
   ·rw [List.getElem?_append_left h]
   ·rw [List.getElem?_eq_none h, List.getElem?_eq_none (by simp; omega)]
theorem cap_new (s : CS) : s.capAt (s.cp.length + 1) = none := by
 cases h : s.capAt (s.cp.length + 1) with
 | none => rfl
 | some c => have := capAt_lt h; omega
theorem setO_ow {s : CS} {i : Nat} (h : 1 ≤ i ∧ i ≤ s.ow.length) (o : Ow) (l : List (Option Cp)) (n : Nat) : CS.owAt ⟨s.ow.set (i - 1) o, l⟩ n = if n = i then some o else s.owAt n := by
 unfold CS.owAt
 by_cases h0 : n = 0
 ·subst h0; rw [if_pos rfl, if_neg (by omega), if_pos rfl]
 ·rw [if_neg h0, if_neg h0]
  by_cases q : n = i
  ·subst q; rw [if_pos rfl]; simp only; rw [List.getElem?_set_self (by omega)]
  ·rw [if_neg q]; simp only; rw [List.getElem?_set_ne (by omega)]
theorem setC_cap {s : CS} {i : Nat} (h : 1 ≤ i ∧ i ≤ s.cp.length) (c : Option Cp) (n : Nat) : (s.setC i c).capAt n = if n = i then c else s.capAt n := by
 unfold CS.capAt CS.setC
 by_cases h0 : n = 0
 ·subst h0; rw [if_pos rfl, if_neg (by omega), if_pos rfl]
 ·rw [if_neg h0, if_neg h0]
  by_cases q : n = i
  ·subst q; rw [if_pos rfl]; simp only; rw [List.getElem?_set_self (by omega)]; rfl
  ·rw [if_neg q]; simp only; rw [List.getElem?_set_ne (by omega)]
theorem addO_ow (s : CS) (o : Ow) (n : Nat) : (s.addO o).owAt n = if n = s.ow.length + 1 then some o else s.owAt n := by
 unfold CS.owAt CS.addO
 by_cases h0 : n = 0
 ·subst h0; rw [if_pos rfl, if_neg (by omega), if_pos rfl]
 ·rw [if_neg h0, if_neg h0]
  by_cases q : n = s.ow.length + 1
  ·subst q; rw [if_pos rfl]; simp
  ·rw [if_neg q]
   rcases Nat.lt_or_ge (n - 1) s.ow.length with h | h
   ·simp only; rw [List.getElem?_append_left h]
   ·simp only; rw [List.getElem?_eq_none h, List.getElem?_eq_none (by simp; omega)]
theorem numV_succ (m : Nat) : numV (m + 1) = some (putN (m + 1) 3) := by simp [numV]
theorem add_val {s : CS} {c : Cp} {o o' : Ow} (ho : s.owAt c.owner = some o) (hd : c.due = true) : ∀ k a b,
  ((((Vals.upd s.val 9 0 1 (some (putN (s.cp.length + 1) 3))).upd 1 0 (s.cp.length + 1) (some c.text)).upd 3 0 c.owner (some o'.text)).updIf (0 < c.expiry) 5 c.expiry (s.cp.length + 1) (some [])).updIf (0 < c.parent) 2 c.parent (s.cp.length + 1) (some []) k a b = (s.add c o').val k a b := by
 have hn := cap_new s
 have hol := owAt_lt ho
 refine val_ext ?_ ?_ ?_ ?_ ?_ ?_
 ·intro a b
  rw [Vals.updIf_ne (by omega), Vals.updIf_ne (by omega), Vals.upd_ne (by omega), Vals.upd_at, Vals.upd_ne (by omega), val1, val1, add_cap]
  by_cases h1 : a = 0 <;> by_cases h2 : b = s.cp.length + 1 <;> simp [h1, h2]
 ·intro a b
  rw [Vals.updIf_at, Vals.updIf_ne (by omega), Vals.upd_ne (by omega), Vals.upd_ne (by omega), Vals.upd_ne (by omega), val2, val2]
  unfold CS.kid
  rw [add_cap]
  by_cases h2 : b = s.cp.length + 1
  ·subst h2
   rw [if_pos rfl, hn]
   simp only [Option.any_none, Option.any_some, Bool.and_false, Bool.false_eq_true, if_false]
   by_cases h3 : a = c.parent
   ·subst h3
    by_cases h4 : c.parent = 0
    ·simp [h4]
    ·have : 0 < c.parent := by omega
     simp [h4, this]
   ·have : ¬ c.parent = a := fun h => h3 h.symm
    simp [h3, this]
  ·simp [h2]
 ·intro a b
  rw [Vals.updIf_ne (by omega), Vals.updIf_ne (by omega), Vals.upd_at, Vals.upd_ne (by omega), Vals.upd_ne (by omega), val3, val3]
  unfold CS.add
  rw [setO_ow hol]
  by_cases h1 : a = 0 <;> by_cases h2 : b = c.owner <;> simp [h1, h2]
 ·intro a b
  rw [Vals.updIf_ne (by omega), Vals.updIf_at, Vals.upd_ne (by omega), Vals.upd_ne (by omega), Vals.upd_ne (by omega), val5, val5]
  unfold CS.lease
  rw [add_cap]
  by_cases h2 : b = s.cp.length + 1
  ·subst h2
   rw [if_pos rfl, hn]
   simp only [Option.any_none, Option.any_some, Bool.and_false, Bool.false_eq_true, if_false, hd, Bool.and_true]
   by_cases h3 : a = c.expiry
   ·subst h3
    by_cases h4 : c.expiry = 0
    ·simp [h4]
    ·have : 0 < c.expiry := by omega
     simp [h4, this]
   ·have : ¬ c.expiry = a := fun h => h3 h.symm
    simp [h3, this]
  ·simp [h2]
 ·intro a b
  rw [Vals.updIf_ne (by omega), Vals.updIf_ne (by omega), Vals.upd_ne (by omega), Vals.upd_ne (by omega), Vals.upd_at, val9, val9, show (s.add c o').cp.length = s.cp.length + 1 by simp [CS.add], show (s.add c o').ow.length = s.ow.length by simp [CS.add], numV_succ]
  by_cases h1 : a = 0 ∧ b = 1 <;> simp [h1]
 ·rintro k a b ⟨q1, q2, q3, q4, q5⟩
  rw [Vals.updIf_ne (by omega), Vals.updIf_ne (by omega), Vals.upd_ne (by omega), Vals.upd_ne (by omega), Vals.upd_ne (by omega)]
  exact val_no s ⟨q1, q2, q3, q4, q5⟩
theorem addO_val {s : CS} {o : Ow} : ∀ k a b, (Vals.upd s.val 9 0 2 (some (putN (s.ow.length + 1) 3))).upd 3 0 (s.ow.length + 1) (some o.text) k a b = (s.addO o).val k a b := by
 have hc : ∀ n, (s.addO o).capAt n = s.capAt n := fun _ => rfl
 refine val_ext ?_ ?_ ?_ ?_ ?_ ?_
 ·intro a b
  rw [Vals.upd_ne (by omega), Vals.upd_ne (by omega), val1, val1, hc]
 ·intro a b
  rw [Vals.upd_ne (by omega), Vals.upd_ne (by omega), val2, val2]; rfl
 ·intro a b
  rw [Vals.upd_at, Vals.upd_ne (by omega), val3, val3, addO_ow]
  by_cases h1 : a = 0 <;> by_cases h2 : b = s.ow.length + 1 <;> simp [h1, h2]
 ·intro a b
  rw [Vals.upd_ne (by omega), Vals.upd_ne (by omega), val5, val5]; rfl
 ·intro a b
  rw [Vals.upd_ne (by omega), Vals.upd_at, val9, val9, show (s.addO o).ow.length = s.ow.length + 1 by simp [CS.addO], show (s.addO o).cp = s.cp from rfl, numV_succ]
  by_cases h1 : a = 0 ∧ b = 2
  ·obtain ⟨rfl, rfl⟩ := h1; simp
  ·rw [if_neg h1]; simp [h1]
 ·rintro k a b ⟨q1, q2, q3, q4, q5⟩
  rw [Vals.upd_ne (by omega), Vals.upd_ne (by omega)]
  exact val_no s ⟨q1, q2, q3, q4, q5⟩
theorem setO_val {s : CS} {n : Nat} (h : 1 ≤ n ∧ n ≤ s.ow.length) (o : Ow) : ∀ k a b, Vals.upd s.val 3 0 n (some o.text) k a b = (s.setO n o).val k a b := by
 refine val_ext ?_ ?_ ?_ ?_ ?_ ?_
 ·intro a b
  rw [Vals.upd_ne (by omega), val1, val1]; rfl
 ·intro a b
  rw [Vals.upd_ne (by omega), val2, val2]; rfl
 ·intro a b
  rw [Vals.upd_at, val3, val3]
  unfold CS.setO
  rw [setO_ow h]
  by_cases h1 : a = 0 <;> by_cases h2 : b = n <;> simp [h1, h2]
 ·intro a b
  rw [Vals.upd_ne (by omega), val5, val5]; rfl
 ·intro a b
  rw [Vals.upd_ne (by omega), val9, val9, show (s.setO n o).ow.length = s.ow.length by simp [CS.setO]]; rfl
 ·rintro k a b ⟨q1, q2, q3, q4, q5⟩
  rw [Vals.upd_ne (by omega)]
  exact val_no s ⟨q1, q2, q3, q4, q5⟩
theorem setC_val {s : CS} {n : Nat} (h : 1 ≤ n ∧ n ≤ s.cp.length) (oc : Option Cp) {f : Vals}
  (h1 : ∀ a b, f 1 a b = if a = 0 ∧ b = n then oc.map Cp.text else s.val 1 a b)
  (h2 : ∀ a b, f 2 a b = if b = n then (if (decide (a ≠ 0) && oc.any fun c => decide (c.parent = a)) = true then some [] else none) else s.val 2 a b)
  (h5 : ∀ a b, f 5 a b = if b = n then (if (decide (a ≠ 0) && oc.any fun c => decide (c.expiry = a) && c.due) = true then some [] else none) else s.val 5 a b)
  (h0 : ∀ k a b, k ≠ 1 ∧ k ≠ 2 ∧ k ≠ 5 → f k a b = s.val k a b) : ∀ k a b, f k a b = (s.setC n oc).val k a b := by
 refine val_ext ?_ ?_ ?_ ?_ ?_ ?_
 ·intro a b
  rw [h1, val1, val1, setC_cap h]
  by_cases q1 : a = 0 <;> by_cases q2 : b = n <;> simp [q1, q2]
 ·intro a b
  rw [h2, val2, val2]
  unfold CS.kid
  rw [setC_cap h]
  by_cases q2 : b = n <;> simp [q2]
 ·intro a b
  rw [h0 _ _ _ ⟨by omega, by omega, by omega⟩, val3, val3]; rfl
 ·intro a b
  rw [h5, val5, val5]
  unfold CS.lease
  rw [setC_cap h]
  by_cases q2 : b = n <;> simp [q2]
 ·intro a b
  rw [h0 _ _ _ ⟨by omega, by omega, by omega⟩, val9, val9, show (s.setC n oc).cp.length = s.cp.length by simp [CS.setC]]; rfl
 ·rintro k a b ⟨q1, q2, q3, q4, q5⟩
  rw [h0 _ _ _ ⟨q1, q2, q4⟩]
  exact val_no s ⟨q1, q2, q3, q4, q5⟩
def CS.kids (s : CS) (p : Nat) : List Nat := (List.range' 1 s.cp.length).filter fun n => s.kid p n
theorem und_kids {T : List Ent} {s : CS} (r : Rp T s.val) {p : Nat} (hp : p ≤ 268435455) (hc : s.cp.length ≤ 16777215) : und T 2 p = s.kids p := by
 refine riseN_ext (und_rise r.ord 2 p) (List.Pairwise.filter _ (List.pairwise_lt_range' ..)) fun n => ?_
 rw [und_mem r.ord, CS.kids, List.mem_filter, List.mem_range'_1]
 constructor
 ·rintro ⟨h1, h2⟩
  rw [r.val 2 p n (by omega) hp h1, val2] at h2
  split at h2
  ·rename_i q
   refine ⟨?_, q⟩
   simp only [CS.kid, Bool.and_eq_true] at q
   obtain ⟨c, hc1, _⟩ := (Option.any_eq_true _ _).1 q.2
   have := capAt_lt hc1
   omega
  ·cases h2
 ·rintro ⟨h1, h2⟩
  refine ⟨by omega, ?_⟩
  rw [r.val 2 p n (by omega) hp (by omega), val2, if_pos h2]; rfl
theorem und_owners {T : List Ent} {s : CS} (r : Rp T s.val) (hc : s.ow.length ≤ 16777215) : und T 3 0 = List.range' 1 s.ow.length := by
 refine riseN_ext (und_rise r.ord 3 0) (List.pairwise_lt_range' ..) fun n => ?_
 rw [und_mem r.ord, List.mem_range'_1]
 constructor
 ·rintro ⟨h1, h2⟩
  rw [r.val 3 0 n (by omega) (by omega) h1, val3, if_pos rfl, Option.isSome_map] at h2
  obtain ⟨o, ho⟩ := Option.isSome_iff_exists.1 h2
  have := owAt_lt ho
  omega
 ·intro h1
  refine ⟨by omega, ?_⟩
  rw [r.val 3 0 n (by omega) (by omega) (by omega), val3, if_pos rfl, Option.isSome_map]
  unfold CS.owAt
  rw [if_neg (by omega), List.getElem?_eq_getElem (by omega)]; rfl
end Go.Proofs.YtelfjhemnnbbpaaGreat
set_option maxRecDepth 20000
namespace Go.Proofs.YtelfjhemnnbbpaaGreat
open Go.Proofs.YtelfjhemnnbbpaaGreat.SL
structure CS.ok (s : CS) : Prop where
 ow : ∀ n o, s.owAt n = some o → o.ok n
 cp : ∀ n c, s.capAt n = some c → c.ok n
 par : ∀ n c, s.capAt n = some c → c.parent ≠ 0 → ∃ p, s.capAt c.parent = some p ∧ c.depth = p.depth + 1
 size : s.cp.length ≤ 1000 ∧ s.ow.length ≤ 1000
def roomC (P : TxP) (s : CS) : Prop := P.U.length + 2 * (s.ow.length + 3 * s.cp.length) + 60 < P.N
structure CtI (P : TxP) (s : CS) (T : List Ent) : Prop where
 rp : Rp T s.val
 ok : s.ok
def CtK (P : TxP) (s : CS) (T : List Ent) : List SProp := [Tx P T]
def Ct (P : TxP) (s : CS) : SProp := hid (CtI P s) (CtK P s)
theorem CtI.room {P : TxP} {s : CS} {T : List Ent} (k : CtI P s T) (h : roomC P s) {T' : List Ent} (h2 : T'.length ≤ T.length + 6) : P.room T' := by
 have := k.rp.len
 unfold roomC at h
 unfold TxP.room
 omega
theorem putE_le {T : List Ent} {f : Vals} (r : Rp T f) (x : Nat) (v : List UInt8) {m : Nat} (h : T.length ≤ m) : (putE T x v).length ≤ m + 1 := by
 have := putE_len T x v r.ord
 omega
theorem putEmpty_does (P : TxP) (T : List Ent) (x : Nat) (hx : x < 18446744073709551616) (room : P.room T) : Does Tryz.prog 43 [.pointer (some ⟨P.t, 0, none⟩), .int .u64 x, .string { data := #[] }] [Tx P T] (fun u H => u = .bool true ∧ H = [Tx P (putE T x [])]) := tPut_does P T x [] hx (by simp) room
set_option maxHeartbeats 4000000 in
theorem cLay_does (P : TxP) (s : CS) (T : List Ent) (c : Cp) (o : Ow) (k : CtI P s T) (room : roomC P s) (ho : s.owAt c.owner = some o) (hq : o.hav < o.limit) (hc : c.ok (s.cp.length + 1)) (hd : c.due = true) (hcut : c.cut = 0) (hrev : c.rev = false) :
  Does Tryz.prog 40 [.pointer (some ⟨P.t, 0, none⟩), .agg (owA c.owner o), .agg #[.int .i64 0, .int .i64 c.parent, .int .i64 c.object, .int .i64 0, .int .i64 c.rights, .int .i64 c.badge, .int .i64 c.depth, .int .i64 c.expiry, .int .i64 0, .bool false]] [Tx P T]
   (fun v H => ∃ T', v = .tuple #[.int .i64 (s.cp.length + 1 : Nat), .int .i64 0] ∧ H = [Tx P T'] ∧ Rp T' (s.add c ⟨o.name, o.limit, o.hav + 1⟩).val) := by
 have hok := k.ok.ow _ _ ho
 have hsz := k.ok.size
 have hol := hok.limit
 have hid := hc.id
 have hown := hc.owner
 have hpar := hc.parent
 have hexp := hc.expiry
 obtain ⟨m, hm⟩ : ∃ m, m = s.cp.length := ⟨_, rfl⟩
 rw [← hm] at hid
 have ok' : Ow.ok c.owner ⟨o.name, o.limit, o.hav + 1⟩ := ⟨hok.id, hok.name, hok.len, hok.limit, by show o.hav + 1 ≤ o.limit; omega⟩
 obtain ⟨o', ho'⟩ : ∃ o', o' = Ow.mk o.name o.limit (o.hav + 1) := ⟨_, rfl⟩
 rw [← ho'] at ok' ⊢
 have hv := k.rp.val 9 0 1 (by omega) (by omega) (by omega)
 rw [val9, if_pos ⟨rfl, rfl⟩, ← hm] at hv
 have hF : Does Tryz.prog 32 [.pointer (some ⟨P.t, 0, none⟩), .int .i64 1] [Tx P T] (fun v H => v = .tuple #[.int .i64 (m + 1 : Nat), .int .i64 0] ∧ H = [Tx P (putE T (kyN 9 0 1) (putN (m + 1) 3))]) := fresh_does P T m 1 (by omega) (by omega) hv (k.room room (by omega))
 have r1 := k.rp.put (k := 9) (a := 0) (b := 1) (by omega) (by omega) (by omega) (putN (m + 1) 3)
 have n1 := putE_le k.rp (kyN 9 0 1) (putN (m + 1) 3) (Nat.le_refl _)
 obtain ⟨T1, h1⟩ : ∃ T1, T1 = putE T (kyN 9 0 1) (putN (m + 1) 3) := ⟨_, rfl⟩
 rw [← h1] at hF r1 n1
 have hC := setCap_does P T1 (m + 1) c (hm ▸ hc) (k.room room (by omega))
 have r2 := r1.put (k := 1) (a := 0) (b := m + 1) (by omega) (by omega) (by omega) c.text
 have n2 := putE_le r1 (kyN 1 0 (m + 1)) c.text n1
 obtain ⟨T2, h2⟩ : ∃ T2, T2 = putE T1 (kyN 1 0 (m + 1)) c.text := ⟨_, rfl⟩
 rw [← h2] at hC r2 n2
 have hO := setOwner_does P T2 c.owner o' ok' (k.room room (by omega))
 have r3 := r2.put (k := 3) (a := 0) (b := c.owner) (by omega) (by omega) (by omega) o'.text
 have n3 := putE_le r2 (kyN 3 0 c.owner) o'.text n2
 obtain ⟨T3, h3⟩ : ∃ T3, T3 = putE T2 (kyN 3 0 c.owner) o'.text := ⟨_, rfl⟩
 rw [← h3] at hO r3 n3
 have hK5 : Does Tryz.prog 37 [.int .i64 5, .int .i64 c.expiry, .int .i64 (m + 1 : Nat)] [] (fun v H => v = .int .u64 (kyN 5 c.expiry (m + 1) : Nat) ∧ H = []) := cKey_does 5 c.expiry (m + 1) (by omega) (by omega) (by omega)
 have hK2 : Does Tryz.prog 37 [.int .i64 2, .int .i64 c.parent, .int .i64 (m + 1 : Nat)] [] (fun v H => v = .int .u64 (kyN 2 c.parent (m + 1) : Nat) ∧ H = []) := cKey_does 2 c.parent (m + 1) (by omega) (by omega) (by omega)
 have r4 := r3.put (k := 5) (a := c.expiry) (b := m + 1) (by omega) (by omega) (by omega) []
 have n4 := putE_le r3 (kyN 5 c.expiry (m + 1)) [] n3
 have hP5 := putEmpty_does P T3 (kyN 5 c.expiry (m + 1)) (kyN_lt (by omega) (by omega) (by omega)) (k.room room (by omega))
 have hP2 := putEmpty_does P T3 (kyN 2 c.parent (m + 1)) (kyN_lt (by omega) (by omega) (by omega)) (k.room room (by omega))
 have r5 := r3.put (k := 2) (a := c.parent) (b := m + 1) (by omega) (by omega) (by omega) []
 obtain ⟨T4, h4⟩ : ∃ T4, T4 = putE T3 (kyN 5 c.expiry (m + 1)) [] := ⟨_, rfl⟩
 rw [← h4] at hP5 r4 n4
 have hP25 := putEmpty_does P T4 (kyN 2 c.parent (m + 1)) (kyN_lt (by omega) (by omega) (by omega)) (k.room room (by omega))
 have r6 := r4.put (k := 2) (a := c.parent) (b := m + 1) (by omega) (by omega) (by omega) []
 have hN := fun T => cNumb_does P T (m + 1)
 have hval := add_val (o' := o') ho hd
 rw [← hm] at hval
 have ew : IntKind.i64.wrap ((o.hav : Int) + 1) = ((o'.hav : Nat) : Int) := by rw [wrapI64 (by omega), ho']; rfl
 have e1 : o.name = o'.name := by rw [ho']
 have e2 : o.limit = o'.limit := by rw [ho']
 have e3 : cpA (m + 1) c = #[.int .i64 (m + 1 : Nat), .int .i64 c.parent, .int .i64 c.object, .int .i64 c.owner, .int .i64 c.rights, .int .i64 c.badge, .int .i64 c.depth, .int .i64 c.expiry, .int .i64 0, .bool false] := by
  show #[_, _, _, _, _, _, _, _, Value.int .i64 (c.cut : Nat), Value.bool c.rev] = _
  rw [hcut, hrev]; rfl
 rw [e3] at hC
 have e4 : owA c.owner o' = #[.int .i64 c.owner, .string (str o.name), .int .i64 o.limit, .int .i64 (IntKind.i64.wrap ((o.hav : Int) + 1))] := by rw [ew, e1, e2]
 rw [e4] at hO
 rw [← hm]
 refine does_of Tryz.func40 Tryz.ntmps40 rfl rfl rfl (fun w0 F0 => ?_)
 (repeat' (first|refine g_seq (h:=?_)|refine g_region (h:=?_)|refine l_nil (h:=?_)|refine n_then (h:=?_)|refine l_pures1 (h:=?_)|(refine l_atc ?_; refine l_call (hF) ?_)|refine l_load (h:=?_)|(refine l_box (h:=?_); intro _)|refine g_skip (h:=?_)|refine g_cond_f (h:=?_)|(refine g_spF (h:=?_); intro h)))
 rename_i b4 b5
 refine g_inv (H' := [Tx P T1, cl b5 41 [.int .i64 0, .int .i64 c.parent, .int .i64 c.object, .int .i64 0, .int .i64 c.rights, .int .i64 c.badge, .int .i64 c.depth, .int .i64 c.expiry, .int .i64 0, .bool false], cl b4 28 [.int .i64 c.owner, .string (str o.name), .int .i64 o.limit, .int .i64 o.hav]]) (fun i => i) ?_
 (refine g_draw [cl b4 28 [.int .i64 c.owner, .string (str o.name), .int .i64 o.limit, .int .i64 o.hav]] (h := a_pass2 (h:=?_)))
 (repeat' (first|refine g_seq (h:=?_)|refine g_region (h:=?_)|refine l_nil (h:=?_)|refine n_then (h:=?_)|refine l_pures1 (h:=?_)|(refine l_atc ?_; refine l_call (hC) ?_)|(refine l_atc ?_; refine l_call (hO) ?_)|(refine l_atc ?_; refine l_call (hK5) ?_)|(refine l_atc ?_; refine l_call (hK2) ?_)|(refine l_atc ?_; refine l_call (hP5) ?_)|(refine l_atc ?_; refine l_call (hP2) ?_)|(refine l_atc ?_; refine l_call (hP25) ?_)|(refine l_atc ?_; refine l_call (hN _) ?_)|refine l_load (h:=?_)|refine l_store (h:=?_)|refine g_skip (h:=?_)|refine g_ret (h:=?_)|refine a_done (h:=?_)|refine a_load (h := a_pass2 (h:=?_))|refine a_one (h:=?_)|refine n_any (h := a_pass2 (h:=?_))|(refine g_sp (h1 := ?_) (h0 := ?_) <;> intro h)))
 ·rw [Vals.updIf_t (show 0 < c.parent by omega), Vals.updIf_t (show 0 < c.expiry by omega)] at hval
  refine r_retk [Tx P (putE T4 (kyN 2 c.parent (m + 1)) [])] ?_
  exact ⟨_, rfl, rfl, r6.to fun k a b _ _ _ => hval k a b⟩
 ·rw [Vals.updIf_f (show ¬ 0 < c.parent by omega), Vals.updIf_t (show 0 < c.expiry by omega)] at hval
  refine r_retk [Tx P T4] ?_
  exact ⟨_, rfl, rfl, r4.to fun k a b _ _ _ => hval k a b⟩
 ·rw [Vals.updIf_t (show 0 < c.parent by omega), Vals.updIf_f (show ¬ 0 < c.expiry by omega)] at hval
  refine r_retk [Tx P (putE T3 (kyN 2 c.parent (m + 1)) [])] ?_
  exact ⟨_, rfl, rfl, r5.to fun k a b _ _ _ => hval k a b⟩
 ·rw [Vals.updIf_f (show ¬ 0 < c.parent by omega), Vals.updIf_f (show ¬ 0 < c.expiry by omega)] at hval
  refine r_retk [Tx P T3] ?_
  exact ⟨_, rfl, rfl, r3.to fun k a b _ _ _ => hval k a b⟩
end Go.Proofs.YtelfjhemnnbbpaaGreat

set_option maxRecDepth 20000
namespace Go.Proofs.YtelfjhemnnbbpaaGreat
open Go.Proofs.YtelfjhemnnbbpaaGreat.SL
def CS.up (s : CS) : Nat → Nat → List (Nat × Cp)
 | 0, _ => []
 | f + 1, n => match s.capAt n with
  | none => []
  | some c => (n, c) :: if c.parent = 0 then [] else s.up f c.parent
theorem up_some {s : CS} {f n : Nat} {c : Cp} (h : s.capAt n = some c) : s.up (f + 1) n = (n, c) :: if c.parent = 0 then [] else s.up f c.parent := by simp [CS.up, h]
theorem up_at {s : CS} (ok : s.ok) : ∀ (f n : Nat) (c : Cp), s.capAt n = some c → c.depth ≤ f → (s.up f n).length = c.depth ∧ (s.up f n)[0]? = some (n, c) ∧
  ∀ i m d, (s.up f n)[i]? = some (m, d) → s.capAt m = some d ∧ (d.parent = 0 → (s.up f n).length = i + 1) ∧ (d.parent ≠ 0 → ∃ p, (s.up f n)[i + 1]? = some (d.parent, p))
 | 0, n, c, h, hd => by
  have := (ok.cp n c h).depth
  omega
 | f + 1, n, c, h, hd => by
  have hc := ok.cp n c h
  rw [up_some h]
  by_cases q : c.parent = 0
  ·rw [if_pos q]
   have := hc.root.2 q
   refine ⟨by simp [this], rfl, fun i m d hi => ?_⟩
   cases i with
   | zero =>
    simp only [List.getElem?_cons_zero, Option.some.injEq, Prod.mk.injEq] at hi
    obtain ⟨rfl, rfl⟩ := hi
    exact ⟨h, fun _ => rfl, fun h2 => absurd q h2⟩
   | succ i => simp at hi
  ·rw [if_neg q]
   obtain ⟨p, hp, hdp⟩ := ok.par n c h q
   obtain ⟨i1, i2, i3⟩ := up_at ok f c.parent p hp (by omega)
   refine ⟨by simp [i1, hdp], rfl, fun i m d hi => ?_⟩
   cases i with
   | zero =>
    simp only [List.getElem?_cons_zero, Option.some.injEq, Prod.mk.injEq] at hi
    obtain ⟨rfl, rfl⟩ := hi
    exact ⟨h, fun h2 => absurd h2 q, fun _ => ⟨p, by simpa using i2⟩⟩
   | succ i =>
    simp only [List.getElem?_cons_succ] at hi
    obtain ⟨j1, j2, j3⟩ := i3 i m d hi
    refine ⟨j1, fun h2 => by simp [j2 h2], fun h2 => ?_⟩
    obtain ⟨p2, hp2⟩ := j3 h2
    exact ⟨p2, by simpa using hp2⟩
def badF : Option Nat → List (Nat × Cp) → Bool
 | _, [] => false
 | p, (n, c) :: r => c.rev || p.any (fun q => decide (q ≤ c.cut)) || badF (some n) r
def late (now : Int) (c : Cp) : Bool := decide (0 < c.expiry) && decide ((c.expiry : Int) ≤ now)
def CS.state (s : CS) (n : Nat) (now : Int) : Int :=
 if s.capAt n = none then 3 else if badF none (s.up 9 n) = true then 10 else if (s.up 9 n).any (fun e => late now e.2) = true then 11 else 0
def endF (a : Nat) (c : Cp) : Nat := if 0 < c.expiry ∧ (a = 0 ∨ c.expiry < a) then c.expiry else a
def endsL (l : List (Nat × Cp)) : Nat := l.foldl (fun a e => endF a e.2) 0
theorem endsL_le : ∀ (l : List (Nat × Cp)) (a : Nat), a ≤ 268435455 → (∀ e ∈ l, e.2.expiry ≤ 268435455) → l.foldl (fun a e => endF a e.2) a ≤ 268435455
 | [], a, h, _ => h
 | e :: l, a, h, h2 => by
  refine endsL_le l _ ?_ fun x hx => h2 x (by simp [hx])
  have := h2 e (by simp)
  show endF a e.2 ≤ 268435455
  unfold endF
  split <;> omega
def cpC (l : List (Nat × Cp)) : List Value := l.flatMap fun e => [Value.int .i64 (e.1 : Nat), .int .i64 e.2.parent, .int .i64 e.2.object, .int .i64 e.2.owner, .int .i64 e.2.rights, .int .i64 e.2.badge, .int .i64 e.2.depth, .int .i64 e.2.expiry, .int .i64 e.2.cut, .bool e.2.rev]
theorem cpC_snoc (l : List (Nat × Cp)) (e : Nat × Cp) : cpC (l ++ [e]) = cpC l ++ [Value.int .i64 (e.1 : Nat), .int .i64 e.2.parent, .int .i64 e.2.object, .int .i64 e.2.owner, .int .i64 e.2.rights, .int .i64 e.2.badge, .int .i64 e.2.depth, .int .i64 e.2.expiry, .int .i64 e.2.cut, .bool e.2.rev] := by simp [cpC]
theorem cpC_len : ∀ (l : List (Nat × Cp)), (cpC l).length = l.length * 10
 | [] => rfl
 | e :: l => by
  have ih := cpC_len l
  simp only [cpC, List.flatMap_cons, List.length_append, List.length_cons, List.length_nil] at *; omega
theorem cpC_cut : ∀ {l : List (Nat × Cp)} {j : Nat} {e : Nat × Cp}, l[j]? = some e → ((cpC l).drop (j * 10)).take 10 = [Value.int .i64 (e.1 : Nat), .int .i64 e.2.parent, .int .i64 e.2.object, .int .i64 e.2.owner, .int .i64 e.2.rights, .int .i64 e.2.badge, .int .i64 e.2.depth, .int .i64 e.2.expiry, .int .i64 e.2.cut, .bool e.2.rev]
 | x :: l, 0, e, h => by simp only [List.getElem?_cons_zero, Option.some.injEq] at h; subst h; rfl
 | x :: l, j + 1, e, h => by
  have ih := cpC_cut (l := l) (j := j) (by simpa using h)
  have : (j + 1) * 10 = j * 10 + 1 + 1 + 1 + 1 + 1 + 1 + 1 + 1 + 1 + 1 := by omega
  rw [this]
  exact ih
theorem part_cp {l : List (Nat × Cp)} {j : Nat} {e : Nat × Cp} (h : l[j]? = some e) : partV env 41 (cpC l) (0 + ((j : Nat) : Int).toNat * 10) = some (.agg (cpA e.1 e.2)) := by
 have hj : j < l.length := by
  rcases Nat.lt_or_ge j l.length with q | q
  ·exact q
  ·rw [List.getElem?_eq_none q] at h; cases h
 have e0 : 0 + ((j : Nat) : Int).toNat * 10 = j * 10 := by rw [Int.toNat_natCast, Nat.zero_add]
 have hc : cutL (cpC l) (j * 10) 10 = some [Value.int .i64 (e.1 : Nat), .int .i64 e.2.parent, .int .i64 e.2.object, .int .i64 e.2.owner, .int .i64 e.2.rights, .int .i64 e.2.badge, .int .i64 e.2.depth, .int .i64 e.2.expiry, .int .i64 e.2.cut, .bool e.2.rev] := by
  rw [cutL_of (by rw [cpC_len]; omega), cpC_cut h]
 rw [e0]
 show (match cutL (cpC l) (j * 10) 10 with
    | some r => some (Value.agg r.toArray)
    | none => none) = _
 rw [hc]
theorem CtI.cap {P : TxP} {s : CS} {T : List Ent} (k : CtI P s T) {n : Nat} {c : Cp} (h : s.capAt n = some c) : getE T (kyN 1 0 n) = some c.text := by
 have := capAt_lt h
 have := k.ok.size
 rw [k.rp.val 1 0 n (by omega) (by omega) (by omega), val1, if_pos rfl, h]; rfl
theorem CtI.noCap {P : TxP} {s : CS} {T : List Ent} (k : CtI P s T) {n : Nat} (h : s.capAt n = none) : (1 ≤ n ∧ n ≤ 16777215) → getE T (kyN 1 0 n) = none := fun hn => by
 rw [k.rp.val 1 0 n (by omega) (by omega) (by omega), val1, if_pos rfl, h]; rfl
theorem CtI.owner {P : TxP} {s : CS} {T : List Ent} (k : CtI P s T) {n : Nat} {o : Ow} (h : s.owAt n = some o) : getE T (kyN 3 0 n) = some o.text := by
 have := owAt_lt h
 have := k.ok.size
 rw [k.rp.val 3 0 n (by omega) (by omega) (by omega), val3, if_pos rfl, h]; rfl
set_option maxHeartbeats 4000000 in
theorem chain_does (P : TxP) (s : CS) (T : List Ent) (n : Nat) (c : Cp) (k : CtI P s T) (hc : s.capAt n = some c) : Does Tryz.prog 48 [.pointer (some ⟨P.t, 0, none⟩), .int .i64 n] [Tx P T]
  (fun v H => ∃ p cap, v = .tuple #[.slice p (s.up 9 n).length cap, .int .i64 0] ∧ H = [vec 41 10 p (s.up 9 n).length cap (cpC (s.up 9 n)), Tx P T]) := by
 have hd := (k.ok.cp n c hc).depth
 obtain ⟨u1, u2, u3⟩ := up_at k.ok 9 n c hc (by omega)
 obtain ⟨L, hL⟩ : ∃ L, L = s.up 9 n := ⟨_, rfl⟩
 rw [← hL] at u1 u2 u3 ⊢
 refine does_of Tryz.func48 Tryz.ntmps48 rfl rfl rfl (fun w0 F0 => ?_)
 (repeat' (first|refine g_seq (h:=?_)|refine g_region (h:=?_)|refine l_nil (h:=?_)|refine n_then (h:=?_)|refine l_pures1 (h:=?_)|refine g_block (h:=?_)))
 refine g_inv (fun i => vec_nil (41) (10) i) ?_
 (refine g_loop (fun y : Nat × Nat × Option Addr × Nat => [(9, .int .i64 y.1), (6, .slice y.2.2.1 y.1 y.2.2.2), (1, .int .i64 y.2.1), (0, .pointer (some ⟨P.t, 0, none⟩))]) (fun y => [vec 41 10 y.2.2.1 y.1 y.2.2.2 (cpC (L.take y.1)), Tx P T]) (fun y => ∃ d, L[y.1]? = some (y.2.1, d)) (fun y => L.length - y.1) ((0, n, none, 0)) ?_ ?_ ?_ ?_; rotate_left; (repeat (first | refine ts_nil | (refine ts_cons rfl ?_ ?_; first | (with_reducible rfl) | rotate_left))); (first | (intro _ i; with_reducible refine i) | rotate_left); rotate_left; (try omega); rotate_right)
 ·rintro ⟨i, m, p, cap⟩ ⟨d, hd2⟩
  dsimp only at hd2 ⊢
  obtain ⟨g1, g2, g3⟩ := u3 i m d hd2
  have hi : i < L.length := (List.getElem?_eq_some_iff.1 hd2).1
  have hg := getCap_does P T m d (k.ok.cp m d g1) (k.cap g1)
  have e1 : cpC (L.take (i + 1)) = cpC (L.take i) ++ [Value.int .i64 (m : Nat), .int .i64 d.parent, .int .i64 d.object, .int .i64 d.owner, .int .i64 d.rights, .int .i64 d.badge, .int .i64 d.depth, .int .i64 d.expiry, .int .i64 d.cut, .bool d.rev] := by
   have e0 : L.take (i + 1) = L.take i ++ [(m, d)] := by rw [List.take_add_one, hd2]; rfl
   rw [e0, cpC_snoc]
  (repeat' (first|refine g_seq (h:=?_)|refine g_region (h:=?_)|refine l_nil (h:=?_)|refine n_then (h:=?_)|refine l_pures1 (h:=?_)|(refine l_atc ?_; refine l_call (hg) ?_)|refine l_load (h:=?_)|refine l_store (h:=?_)|(refine l_alloc (h:=?_); intro _)|(refine l_buildSlice1 (h:=?_); intro _)|(refine l_append_new (h:=?_); intro _ _)|refine g_skip (h:=?_)|refine g_ret (h:=?_)|refine n_then_ret (h:=?_)|refine n_block_ret (h:=?_)|refine g_block (h:=?_)|refine n_block (h:=?_)|refine g_cond_f (h:=?_)|(refine g_spT (h:=?_); intro h)|(refine g_sp (h1 := ?_) (h0 := ?_) <;> intro h)))
  all_goals rename_i hi9 b1 b2 p' cap'
  ·have hlen := g2 (by omega)
   have e2 : cpC (L.take i) ++ #[Value.int .i64 (m : Nat), .int .i64 d.parent, .int .i64 d.object, .int .i64 d.owner, .int .i64 d.rights, .int .i64 d.badge, .int .i64 d.depth, .int .i64 d.expiry, .int .i64 d.cut, .bool d.rev].toList = cpC L := by
    rw [show L = L.take (i + 1) from (List.take_of_length_le (by omega)).symm, List.take_take, Nat.min_eq_left (by omega)]
    exact e1.symm
   rw [e2, ← hlen]
   refine r_retk [vec 41 10 p' L.length cap' (cpC L), Tx P T] ?_
   exact ⟨p', cap', rfl, rfl⟩
  ·have hne : d.parent ≠ 0 := by omega
   obtain ⟨pc, hpc⟩ := g3 hne
   have hlt := (List.getElem?_eq_some_iff.1 hpc).1
   have e2 : cpC (L.take i) ++ #[Value.int .i64 (m : Nat), .int .i64 d.parent, .int .i64 d.object, .int .i64 d.owner, .int .i64 d.rights, .int .i64 d.badge, .int .i64 d.depth, .int .i64 d.expiry, .int .i64 d.cut, .bool d.rev].toList = cpC (L.take (i + 1)) := e1.symm
   rw [e2]
   (refine n_back ((i + 1, d.parent, p', cap')) ?_ ?_ ?_ ?_; rotate_left; rotate_left; (repeat (first | refine ts_nil | (refine ts_cons rfl ?_ ?_; first | (with_reducible rfl) | rotate_left))); (first | (intro _ i; with_reducible refine i) | rotate_left); (try omega); (try omega))
   ·exact ⟨pc, hpc⟩
   ·dsimp only; omega
   ·rw [wrapI64 (by omega)]; rfl
   ·intro _ i; exact inv_keep parts_of i
 ·exact ⟨c, u2⟩
 ·rfl
 ·intro _ i
  dsimp only
  rw [show cpC (L.take 0) = [] from rfl]
  exact inv_keep parts_of i
theorem getCapAt_does (P : TxP) (s : CS) (T : List Ent) (n : Nat) (c : Cp) (k : CtI P s T) (hc : s.capAt n = some c) : Does Tryz.prog 17 [.pointer (some ⟨P.t, 0, none⟩), .int .i64 n] [Tx P T] (fun v H => v = .tuple #[.agg (cpA n c), .int .i64 0] ∧ H = [Tx P T]) := getCap_does P T n c (k.ok.cp n c hc) (k.cap hc)
theorem getCapNone_does (P : TxP) (s : CS) (T : List Ent) (n : Nat) (k : CtI P s T) (hc : s.capAt n = none) : Does Tryz.prog 17 [.pointer (some ⟨P.t, 0, none⟩), .int .i64 n] [Tx P T] (fun v H => v = .tuple #[.agg cpZ, .int .i64 3] ∧ H = [Tx P T]) := getCapNo_does P T n (k.noCap hc)
theorem chainNo_does (P : TxP) (s : CS) (T : List Ent) (n : Nat) (k : CtI P s T) (hc : s.capAt n = none) : Does Tryz.prog 48 [.pointer (some ⟨P.t, 0, none⟩), .int .i64 n] [Tx P T]
  (fun v H => v = .tuple #[.slice none 0 0, .int .i64 3] ∧ H = [Tx P T]) := by
 have hg := getCapNone_does P s T n k hc
 refine does_of Tryz.func48 Tryz.ntmps48 rfl rfl rfl (fun w0 F0 => ?_)
 (repeat' (first|refine g_seq (h:=?_)|refine g_region (h:=?_)|refine l_nil (h:=?_)|refine n_then (h:=?_)|refine l_pures1 (h:=?_)|refine g_block (h:=?_)))
 (refine g_loop (fun y : Nat => [(9, .int .i64 0), (1, .int .i64 n), (0, .pointer (some ⟨P.t, 0, none⟩))]) (fun y => [Tx P T]) (fun y => True) (fun y => 0) (0) ?_ ?_ ?_ ?_; rotate_left; (repeat (first | refine ts_nil | (refine ts_cons rfl ?_ ?_; first | (with_reducible rfl) | rotate_left))); (first | (intro _ i; with_reducible refine i) | rotate_left); rotate_left; (try omega); rotate_right)
 ·intro y _
  (repeat' (first|refine g_seq (h:=?_)|refine g_region (h:=?_)|refine l_nil (h:=?_)|refine n_then (h:=?_)|refine l_pures1 (h:=?_)|(refine l_atc ?_; refine l_call (hg) ?_)|refine l_store (h:=?_)|(refine l_alloc (h:=?_); intro _)|refine g_skip (h:=?_)|refine g_ret (h:=?_)|refine n_then_ret (h:=?_)|refine n_block_ret (h:=?_)|refine g_block (h:=?_)|refine g_cond_t (h:=?_)))
  refine r_retk [Tx P T] ?_
  exact ⟨rfl, rfl⟩
 all_goals first
  | trivial
  | rfl
  | (intro _ i; exact inv_keep parts_of i)
end Go.Proofs.YtelfjhemnnbbpaaGreat
set_option maxRecDepth 20000
namespace Go.Proofs.YtelfjhemnnbbpaaGreat
open Go.Proofs.YtelfjhemnnbbpaaGreat.SL
theorem spIn_does (k' a' b' k a : Nat) (hk' : k' < 16) (ha' : a' ≤ 268435455) (hb' : b' < 4294967296) : Does Tryz.prog 62 [.int .u64 (kyN k' a' b' : Nat), .int .i64 k, .int .i64 a] [] (fun v H => v = .bool (decide (k' = k) && decide (a' = a)) ∧ H = []) := by
 have hs := Split_does k' a' b' hk' ha' hb'
 refine does_of Tryz.func62 Tryz.ntmps62 rfl rfl rfl (fun w0 F0 => ?_)
 (repeat' (first|refine g_seq (h:=?_)|refine g_region (h:=?_)|refine l_nil (h:=?_)|refine n_then (h:=?_)|refine l_pures1 (h:=?_)|(refine l_atc ?_; refine l_call (hs) ?_)|refine l_guard_yes (h:=?_)|refine l_guard_no (h:=?_)|refine g_ret (h:=?_)|(refine l_sp (h1 := ?_) (h0 := ?_) <;> intro h)))
 all_goals
  refine r_ret ?_
 all_goals refine ⟨?_, rfl⟩
 all_goals
  by_cases q1 : k' = k <;> by_cases q2 : a' = a
 all_goals have q3 : ((k' : Int) = k) ↔ k' = k := by omega
 all_goals have q4 : ((a' : Int) = a) ↔ a' = a := by omega
 all_goals simp_all [packV]
theorem under_does (t : Nat) (k a : Int) : Does Tryz.prog 31 [.pointer (some ⟨t, 0, none⟩), .int .i64 k, .int .i64 a] [] (fun v H => ∃ b1 b2 b3, v = .func (.func 60) #[] #[.pointer (some ⟨b1, 0, none⟩), .pointer (some ⟨b2, 0, none⟩), .pointer (some ⟨b3, 0, none⟩)] ∧ H = [cl b1 3 [.int .i64 k], cl b2 3 [.int .i64 a], cl b3 24 [.pointer (some ⟨t, 0, none⟩)]]) := by
 refine does_of Tryz.func31 Tryz.ntmps31 rfl rfl rfl (fun w0 F0 => ?_)
 (repeat (first|refine g_seq (h:=?_)|refine g_region (h:=?_)|refine l_nil (h:=?_)|refine n_then (h:=?_)|refine l_pures1 (h:=?_)|(refine l_box (h:=?_); intro _)|refine g_ret (h:=?_)))
 rename_i b3 b1 b2
 refine r_retk [cl b1 3 [.int .i64 k], cl b2 3 [.int .i64 a], cl b3 24 [.pointer (some ⟨t, 0, none⟩)]] ?_
 exact ⟨b1, b2, b3, rfl, rfl⟩
theorem rng_key {T : List Ent} {k a : Nat} {e : Ent} (h : e ∈ rng T (kyN k a 0) (kyN k a 0 + 4294967296)) : e.1 = kyN k a (e.1 % 4294967296) := by
 obtain ⟨_, h2, h3⟩ := rng_mem.1 h
 unfold kyN at h2 h3 ⊢
 omega
set_option maxHeartbeats 4000000 in
theorem underF_does (P : TxP) (T : List Ent) (k a l b1 b2 b3 : Nat) (C X : Nat → SProp) (st : Nat → Bool) (hk : k < 15) (ha : a ≤ 268435455) (o : Ord T) (hlt : ∀ e ∈ T, e.1 < 18446744073709551616) (hT : T.length < 10000)
  (hY : ∀ i (hi : i < (und T k a).length), SL.Yields Tryz.prog l [.int .i64 ((und T k a)[i] : Nat)] [C i, Tx P T] (fun v H => v = .bool (!st i) ∧ H = [if st i = true then X i else C (i + 1), Tx P T])) :
  Does Tryz.prog 60 [.func (.yield l) #[] #[], .pointer (some ⟨b1, 0, none⟩), .pointer (some ⟨b2, 0, none⟩), .pointer (some ⟨b3, 0, none⟩)] [C 0, cl b1 3 [.int .i64 k], cl b2 3 [.int .i64 a], cl b3 24 [.pointer (some ⟨P.t, 0, none⟩)], Tx P T]
   (fun v H => v = .tuple #[] ∧ ∃ A, H = [A, cl b1 3 [.int .i64 k], cl b2 3 [.int .i64 a], cl b3 24 [.pointer (some ⟨P.t, 0, none⟩)], Tx P T] ∧
    ((A = C (und T k a).length ∧ ∀ i, i < (und T k a).length → st i = false) ∨ ∃ i, i < (und T k a).length ∧ st i = true ∧ (∀ j, j < i → st j = false) ∧ A = X i)) := by
 have hF : Does Tryz.prog 37 [.int .i64 k, .int .i64 a, .int .i64 0] [] (fun v H => v = .int .u64 (kyN k a 0 : Nat) ∧ H = []) := cKey_does k a 0 (by omega) ha (by omega)
 obtain ⟨R, hR⟩ : ∃ R, R = geE T (kyN k a 0) := ⟨_, rfl⟩
 obtain ⟨E, hE⟩ : ∃ E, E = rng T (kyN k a 0) (kyN k a 0 + 4294967296) := ⟨_, rfl⟩
 obtain ⟨Z, hZ⟩ : ∃ Z, Z = geE T (kyN k a 0 + 4294967296) := ⟨_, rfl⟩
 have hsp := rng_split o (lo := kyN k a 0) (hi := kyN k a 0 + 4294967296) (by omega)
 rw [← hR, ← hE, ← hZ] at hsp
 have hund : und T k a = E.map fun e => e.1 % 4294967296 := by rw [hE]; rfl
 have hul : (und T k a).length = E.length := by rw [hund, List.length_map]
 have hEm : ∀ e ∈ E, e.1 = kyN k a (e.1 % 4294967296) := fun e he => by rw [hE] at he; exact rng_key he
 have hEk : ∀ i (hi : i < E.length), E[i].1 = kyN k a ((und T k a)[i]'(by omega)) ∧ (und T k a)[i]'(by omega) < 4294967296 := fun i hi => by
  have h1 := hEm _ (List.getElem_mem hi)
  have h2 : (und T k a)[i]'(by omega) = E[i].1 % 4294967296 := by simp only [hund, List.getElem_map]
  rw [h2]
  exact ⟨h1, by omega⟩
 have hZk : ∀ e ∈ Z, kyN k a 0 + 4294967296 ≤ e.1 ∧ e.1 < 18446744073709551616 := fun e he => by
  rw [hZ] at he
  have := List.mem_filter.1 he
  exact ⟨by simpa using this.2, hlt e this.1⟩
 have hRl : R.length ≤ T.length := by rw [hR]; exact List.length_filter_le _ _
 have hRE : R.length = E.length + Z.length := by rw [hsp, List.length_append]
 simp only [hul]
 refine does_of Tryz.func60 Tryz.ntmps60 rfl rfl rfl (fun w0 F0 => ?_)
 (repeat' (first|refine g_seq (h:=?_)|refine g_region (h:=?_)|refine l_nil (h:=?_)|refine n_then (h:=?_)|refine l_pures1 (h:=?_)|(refine l_atc ?_; refine l_call (hF) ?_)|refine l_load (h:=?_)|refine g_block (h:=?_)))
 (refine g_loop (fun j : Nat => [(5, .int .u64 (goOn T (kyN k a 0) j : Nat)), (6, .bool true), (0, .func (.yield l) #[] #[]), (0 + 1, .pointer (some ⟨b1, 0, none⟩)), (0 + 1 + 1, .pointer (some ⟨b2, 0, none⟩)), (0 + 1 + 1 + 1, .pointer (some ⟨b3, 0, none⟩))]) (fun j => [C j, cl b1 3 [.int .i64 k], cl b2 3 [.int .i64 a], cl b3 24 [.pointer (some ⟨P.t, 0, none⟩)], Tx P T]) (fun j => j ≤ E.length ∧ ∀ i, i < j → st i = false) (fun j => E.length - j) (0) ?_ ?_ ?_ ?_; rotate_left; (repeat (first | refine ts_nil | (refine ts_cons rfl ?_ ?_; first | (with_reducible rfl) | rotate_left))); (first | (intro _ i; with_reducible refine i) | rotate_left); rotate_left; (try omega); rotate_right)
 ·rintro j ⟨hj, hst⟩
  have hsc := tScan_does P T (goOn T (kyN k a 0) j) 16 hT (by omega)
  rw [goOn_ge o (by rw [← hR]; omega), ← hR] at hsc
  obtain ⟨es, hes⟩ : ∃ es, es = (R.drop j).take (Int.toNat 16) := ⟨_, rfl⟩
  rw [← hes] at hsc
  have hesl : es.length = min 16 (R.length - j) := by rw [hes]; simp
  have heg : ∀ i (hi : i < es.length), es.getD i (0, []) = R[j + i]'(by omega) := fun i hi => by
   have hi2 : i < 16 ∧ j + i < R.length := by omega
   subst hes
   rw [List.getD, List.getElem?_take, if_pos (show i < Int.toNat 16 from hi2.1), List.getElem?_drop, List.getElem?_eq_getElem hi2.2]; rfl
  (repeat (first|refine g_seq (h:=?_)|refine g_region (h:=?_)|refine l_nil (h:=?_)|refine n_then (h:=?_)|refine l_pures1 (h:=?_)|(refine l_atc ?_; refine l_call_ (hsc) ?_; rintro _ _ _ ⟨pa, ca, rfl, rfl⟩ he; cases he)|refine l_load (h:=?_)|refine g_skip (h:=?_)|refine g_block (h:=?_)|refine g_cond_t (h:=?_)))
  (refine g_loop (fun i : Nat => [(22, .int .i64 i), (21, .int .i64 es.length), (20, .slice pa es.length ca), (7, .slice pa es.length ca), (0, .func (.yield l) #[] #[]), (0 + 1, .pointer (some ⟨b1, 0, none⟩)), (0 + 1 + 1, .pointer (some ⟨b2, 0, none⟩)), (0 + 1 + 1 + 1, .pointer (some ⟨b3, 0, none⟩))]) (fun i => [C (j + i), vec 121 2 pa es.length ca (entC es), cl b1 3 [.int .i64 k], cl b2 3 [.int .i64 a], cl b3 24 [.pointer (some ⟨P.t, 0, none⟩)], Tx P T]) (fun i => i ≤ es.length ∧ j + i ≤ E.length ∧ ∀ q, q < j + i → st q = false) (fun i => es.length - i) (0) ?_ ?_ ?_ ?_; rotate_left; (repeat (first | refine ts_nil | (refine ts_cons rfl ?_ ?_; first | (with_reducible rfl) | rotate_left))); (first | (intro _ i; with_reducible refine i) | rotate_left); rotate_left; (try omega); rotate_right)
  ·rintro i ⟨hi, hji, hsi⟩
   by_cases hil : i < es.length
   ·refine g_ptr (m := es.length) (p := pa) (h:=?_); rintro ga rfl hca
    have hpt := part_ent (l := es) (j := i) hil
    rw [heg i hil] at hpt
    have hRl2 : j + i < R.length := by omega
    by_cases hEi : j + i < E.length
    ·have hRe : R[j + i] = E[j + i] := by simp only [hsp]; rw [List.getElem_append_left hEi]
     obtain ⟨hk1, hk2⟩ := hEk (j + i) hEi
     obtain ⟨n, hn⟩ : ∃ n, n = (und T k a)[j + i]'(by omega) := ⟨_, rfl⟩
     have hYi := hY (j + i) (by omega)
     rw [← hn] at hk1 hk2 hYi
     obtain ⟨⟨e1, e2⟩, he⟩ : ∃ e, e = E[j + i] := ⟨_, rfl⟩
     rw [hRe, ← he] at hpt
     rw [← he] at hk1
     dsimp only at hk1
     subst hk1
     have hin := spIn_does k a n k a (by omega) ha hk2
     simp only [decide_true, Bool.and_self] at hin
     have hsp2 := Split_does k a n (by omega) ha hk2
     cases hs : st (j + i)
     ·have hs2 : ∀ q, q < j + (i + 1) → st q = false := fun q hq => by
       by_cases h : q < j + i
       ·exact hsi q h
       ·rw [show q = j + i by omega]; exact hs
      rw [hs] at hYi
      simp only [Bool.not_false, Bool.false_eq_true, if_false] at hYi
      rw [show j + i + 1 = j + (i + 1) from rfl] at hYi
      (repeat' (first|((with_reducible show G _ _ _ _ (Code.region 8 _ _) _ _ _ _); refine g_region_w ?_)|(refine lw_i ?_; refine lw_yield (hYi) (h:=?_); rintro _ _ _ ⟨rfl, rfl⟩ he; cases he)|refine g_seq (h:=?_)|refine g_region (h:=?_)|refine l_nil (h:=?_)|refine n_then (h:=?_)|refine l_pures1 (h:=?_)|(refine l_atc ?_; refine l_call (hin) ?_)|(refine l_at 63 ?_; refine l_call (hsp2) ?_)|refine l_load (h:=?_)|refine l_store (h:=?_)|(refine l_alloc (h:=?_); intro _)|refine l_indexAddr (h:=?_)|refine g_skip (h:=?_)|refine g_block (h:=?_)|refine n_block (h:=?_)|refine g_cond_f (h:=?_)|refine l_load_vec (h:=?_)|refine n_lw (h:=?_)|refine lw_nil (h:=?_)|refine lw_step (h:=?_)|(refine g_spT (h:=?_); intro h)))
      (refine n_back (i + 1) ?_ ?_ ?_ ?_; rotate_left; rotate_left; (repeat (first | refine ts_nil | (refine ts_cons rfl ?_ ?_; first | (with_reducible rfl) | rotate_left))); (first | (intro _ i; with_reducible refine i) | rotate_left); (try omega); (try omega))
      all_goals first
       | exact ⟨hil, by omega, hs2⟩
       | omega
       | (rw [wrapI64 (by omega)]; rfl)
       | (intro _ i; exact inv_keep parts_of i)
       | rfl
     ·rw [hs] at hYi
      simp only [Bool.not_true, if_true] at hYi
      (repeat' (first|((with_reducible show G _ _ _ _ (Code.region 8 _ _) _ _ _ _); refine g_region_w ?_)|(refine lw_i ?_; refine lw_yield (hYi) (h:=?_); rintro _ _ _ ⟨rfl, rfl⟩ he; cases he)|refine g_seq (h:=?_)|refine g_region (h:=?_)|refine l_nil (h:=?_)|refine n_then (h:=?_)|refine l_pures1 (h:=?_)|(refine l_atc ?_; refine l_call (hin) ?_)|(refine l_at 63 ?_; refine l_call (hsp2) ?_)|refine l_load (h:=?_)|refine l_store (h:=?_)|(refine l_alloc (h:=?_); intro _)|refine l_indexAddr (h:=?_)|refine g_skip (h:=?_)|refine g_ret (h:=?_)|refine n_then_ret (h:=?_)|refine n_block_ret (h:=?_)|refine g_block (h:=?_)|refine g_cond_t (h:=?_)|refine g_cond_f (h:=?_)|refine l_load_vec (h:=?_)|refine n_lw (h:=?_)|refine lw_nil (h:=?_)|refine lw_step (h:=?_)|(refine g_spT (h:=?_); intro h)))
      refine r_retk [X (j + i), cl b1 3 [.int .i64 k], cl b2 3 [.int .i64 a], cl b3 24 [.pointer (some ⟨P.t, 0, none⟩)], Tx P T] ?_
      exact ⟨rfl, _, rfl, .inr ⟨j + i, hEi, hs, hsi, rfl⟩⟩
    ·have hje : j + i = E.length := by omega
     have hRz : R[j + i] ∈ Z := by
      have : R[j + i] = Z[j + i - E.length]'(by omega) := by simp only [hsp]; rw [List.getElem_append_right (by omega)]
      rw [this]
      exact List.getElem_mem _
     obtain ⟨z1, z2⟩ := hZk _ hRz
     obtain ⟨⟨e1, e2⟩, he⟩ : ∃ e, e = R[j + i] := ⟨_, rfl⟩
     rw [← he] at hpt z1 z2
     dsimp only at z1 z2
     obtain ⟨k', a', b', q1, q2, q3, rfl⟩ := kyN_split z2
     have hin := spIn_does k' a' b' k a q1 q2 q3
     have hne : (decide (k' = k) && decide (a' = a)) = false := by
      rw [Bool.and_eq_false_iff, decide_eq_false_iff_not, decide_eq_false_iff_not]
      rcases Nat.lt_or_ge 0 (if k' = k ∧ a' = a then 1 else 0) with h | h
      ·split at h
       ·rename_i hh
        obtain ⟨rfl, rfl⟩ := hh
        unfold kyN at z1; omega
       ·omega
      ·by_cases h1 : k' = k
       ·right; rintro rfl; simp [h1] at h
       ·exact .inl h1
     rw [hne] at hin
     (repeat' (first|refine g_seq (h:=?_)|refine g_region (h:=?_)|refine l_nil (h:=?_)|refine n_then (h:=?_)|refine l_pures1 (h:=?_)|(refine l_atc ?_; refine l_call (hin) ?_)|refine l_load (h:=?_)|refine l_store (h:=?_)|(refine l_alloc (h:=?_); intro _)|refine l_indexAddr (h:=?_)|refine g_skip (h:=?_)|refine g_ret (h:=?_)|refine n_then_ret (h:=?_)|refine n_block_ret (h:=?_)|refine g_block (h:=?_)|refine g_cond_t (h:=?_)|refine l_load_vec (h:=?_)|(refine g_spT (h:=?_); intro h)))
     rw [hje]
     refine r_retk [C E.length, cl b1 3 [.int .i64 k], cl b2 3 [.int .i64 a], cl b3 24 [.pointer (some ⟨P.t, 0, none⟩)], Tx P T] ?_
     exact ⟨rfl, _, rfl, .inl ⟨rfl, fun q hq => hsi q (by omega)⟩⟩
   ·obtain rfl : i = es.length := by omega
    by_cases h16 : es.length < 16
    ·have hje : j + es.length = E.length := by omega
     rw [hje]
     (repeat' (first|refine g_seq (h:=?_)|refine g_region (h:=?_)|refine l_nil (h:=?_)|refine n_then (h:=?_)|refine l_pures1 (h:=?_)|refine g_ret (h:=?_)|refine n_then_ret (h:=?_)|refine n_block_ret (h:=?_)|refine g_exit (h:=?_)|refine n_then_exit (h:=?_)|refine n_block_hit (h:=?_)|(refine g_spT (h:=?_); intro h)|(refine g_spF (h:=?_); intro h)))
     refine r_retk [C E.length, cl b1 3 [.int .i64 k], cl b2 3 [.int .i64 a], cl b3 24 [.pointer (some ⟨P.t, 0, none⟩)], Tx P T] ?_
     exact ⟨rfl, _, rfl, .inl ⟨rfl, fun q hq => hsi q (by omega)⟩⟩
    ·have h16' : es.length = 16 := by omega
     have hR15 : j + 15 < R.length := by omega
     have hRe : R[j + 15] = E[j + 15]'(by omega) := by simp only [hsp]; rw [List.getElem_append_left (by omega)]
     obtain ⟨hk1, hk2⟩ := hEk (j + 15) (by omega)
     have hgo : goOn T (kyN k a 0) (j + 16) = R[j + 15].1 + 1 := by
      unfold goOn
      rw [if_neg (by omega), ← hR, show j + 16 - 1 = j + 15 by omega, List.getD, List.getElem?_eq_getElem hR15]; rfl
     have hnx := Next_does R[j + 15].1 (by rw [hRe, hk1]; unfold kyN; omega)
     rw [← hgo] at hnx
     have hel : (es.length : Int) = 16 := by omega
     have hi15 := entC_get0 (l := es) (j := 15) (by omega)
     rw [heg 15 (by omega)] at hi15
     refine g_ptr (m := es.length) (p := pa) (h:=?_); rintro ga rfl hca
     have ew15 : IntKind.i64.wrap ((es.length : Int) - 1) = 15 := by rw [wrapI64 (by omega)]; omega
     have hib : 0 ≤ IntKind.i64.wrap ((es.length : Int) - 1) ∧ IntKind.i64.wrap ((es.length : Int) - 1) < es.length := by rw [ew15]; omega
     have hg15 : (entC es)[0 + (IntKind.i64.wrap ((es.length : Int) - 1)).toNat * 2 + 0]? = some (.int .u64 (R[j + 15].1 : Nat)) := by rw [ew15]; exact hi15
     (repeat' (first|refine g_seq (h:=?_)|refine g_region (h:=?_)|refine l_nil (h:=?_)|refine n_then (h:=?_)|refine l_pures1 (h:=?_)|(refine l_atc ?_; refine l_call (hnx) ?_)|refine l_indexAddr (h:=?_)|refine g_skip (h:=?_)|refine g_exit (h:=?_)|refine n_then_exit (h:=?_)|refine n_block_hit (h:=?_)|refine n_block (h:=?_)|refine l_load_vec (h:=?_)|(refine g_spF (h:=?_); intro h)))
     rw [h16']
     (refine n_back (j + 16) ?_ ?_ ?_ ?_; rotate_left; rotate_left; (repeat (first | refine ts_nil | (refine ts_cons rfl ?_ ?_; first | (with_reducible rfl) | rotate_left))); (first | (intro _ i; with_reducible refine i) | rotate_left); (try omega); (try omega))
     all_goals first
      | exact ⟨by omega, by rw [← h16']; exact hsi⟩
      | omega
      | (intro _ i; exact inv_keep parts_of i)
      | rfl
  all_goals first
   | exact ⟨Nat.zero_le _, by omega, fun q hq => hst q (by omega)⟩
   | rfl
   | (intro _ i; simp only [Nat.add_zero]; exact inv_keep parts_of i)
 all_goals first
  | exact ⟨Nat.zero_le _, fun i hi => absurd hi (by omega)⟩
  | rfl
  | (intro _ i; exact inv_keep parts_of i)
end Go.Proofs.YtelfjhemnnbbpaaGreat
set_option maxRecDepth 20000
namespace Go.Proofs.YtelfjhemnnbbpaaGreat
open Go.Proofs.YtelfjhemnnbbpaaGreat.SL
theorem Yields.openR {Pr : Program} {l : Nat} {xs : List Value} {q : Value → List SProp → Prop} {α : Type} {A : SProp} {p : α → Prop} {K : α → List SProp} {R : List SProp} (o : Opens A p K) (h : ∀ x, p x → SL.Yields Pr l xs (K x ++ R) q) : SL.Yields Pr l xs (A :: R) q := fun w F s => by
 obtain ⟨F1, F2, a, e, d, u⟩ := s
 obtain ⟨x, hx, s1⟩ := o _ _ a
 exact h x hx w F (sep_congr (sep_append s1 e d) (fun b => (u b).symm))
abbrev owZL : List Value := [.int .i64 0, .string { data := #[] }, .int .i64 0, .int .i64 0]
abbrev NdmK (l n : Nat) (tm : List (Nat × Value)) (asg body : Code) (st : LoopState) (pe : Option Code) (t b2 b4 b5 b6 : Nat) (f : List UInt8) (r : List Value) (e : Int) (x : Unit) : List SProp :=
 [lp l n tm #[23] asg body st pe, cl b2 24 [.pointer (some ⟨t, 0, none⟩)], cl b4 28 r, cl b5 29 [.int .i64 e], cl b6 9 [.string (str f)]]
def Ndm (l n : Nat) (tm : List (Nat × Value)) (asg body : Code) (st : LoopState) (pe : Option Code) (t b2 b4 b5 b6 : Nat) (f : List UInt8) (r : List Value) (e : Int) : SProp := hid (fun _ : Unit => True) (NdmK l n tm asg body st pe t b2 b4 b5 b6 f r e)
set_option maxHeartbeats 4000000 in
theorem named_yields0 (P : TxP) (s : CS) (T : List Ent) (k : CtI P s T) (i : Nat) (o : Ow) (ho : s.owAt (1 + i) = some o) (l b2 b4 b5 b6 : Nat) (f : List UInt8) (tm0 : List (Nat × Value)) (asg body : Code) (w2 : tget tm0 2 = some (.pointer (some ⟨b2, 0, none⟩))) (w4 : tget tm0 4 = some (.pointer (some ⟨b4, 0, none⟩))) (w5 : tget tm0 5 = some (.pointer (some ⟨b5, 0, none⟩))) (w6 : tget tm0 6 = some (.pointer (some ⟨b6, 0, none⟩)))
  (hA : asg = rfA (nav [1, 1, 1, 0, 1, 2] (bdy Tryz.f11))) (hB : body = rfB (nav [1, 1, 1, 0, 1, 2] (bdy Tryz.f11))) :
  SL.Yields Tryz.prog l [.int .i64 (1 + i : Nat)] (NdmK l 43 tm0 asg body .ready none P.t b2 b4 b5 b6 f owZL 0 () ++ [Tx P T])
   (fun v H => v = .bool (!decide (o.name = f)) ∧ ∃ R, Parts (if o.name = f then NdmK l 43 tm0 asg body .done (some .ret) P.t b2 b4 b5 b6 f (owA (1 + i) o).toList 0 () ++ [Tx P T] else NdmK l 43 tm0 asg body .ready none P.t b2 b4 b5 b6 f owZL 0 () ++ [Tx P T]) H R) := by
 dsimp only [NdmK, List.cons_append, List.nil_append]
 have hof := ownerOf_does P T (1 + i) o (k.ok.ow _ _ ho) (k.owner ho)
 refine yields_of (ps := [23]) (fun w0 F0 => ?_)
 refine gr_weak (tm' := [(23, .int .i64 (1 + i : Nat)), (2, .pointer (some ⟨b2, 0, none⟩)), (4, .pointer (some ⟨b4, 0, none⟩)), (5, .pointer (some ⟨b5, 0, none⟩)), (6, .pointer (some ⟨b6, 0, none⟩))]) ⟨rfl, w2, w4, w5, w6, trivial⟩ (fun i => i) ?_
 refine gr_as hA ?_
 dsimp only [rfA, nav, bdy, Tryz.f11, Option.getD]
 (repeat (first|refine l_nil (h:=?_)|refine l_pures1 (h:=?_)|refine gr_region (h:=?_)))
 refine n_begin (h:=?_)
 refine gr_as hB ?_
 dsimp only [rfA, rfB, nav, bdy, Tryz.f11, Option.getD]
 (repeat' (first|refine l_nil (h:=?_)|refine l_pures1 (h:=?_)|(refine l_atc ?_; refine l_call (hof) ?_)|refine l_guard_yes (h:=?_)|refine l_load (h:=?_)|refine l_store (h:=?_)|(refine l_alloc (h:=?_); intro _)|refine n_block_ret (h:=?_)|refine n_block (h:=?_)|refine gr_seq (h:=?_)|refine gr_region (h:=?_)|refine nr_then (h:=?_)|refine gr_block (h:=?_)|refine gr_skip (h:=?_)|refine gr_ret (h:=?_)|(refine gr_sp (h1 := ?_) (h0 := ?_) <;> intro h)))
 ·refine n_round_ret ⟨by rw [decide_eq_true h]; rfl, ?_⟩
  rw [if_pos h]
  exact ⟨_, parts_of⟩
 ·refine n_round ⟨by rw [decide_eq_false h]; rfl, ?_⟩
  rw [if_neg h]
  exact ⟨_, parts_of⟩
theorem named_yields (P : TxP) (s : CS) (T : List Ent) (k : CtI P s T) (i : Nat) (o : Ow) (ho : s.owAt (1 + i) = some o) (l b2 b4 b5 b6 : Nat) (f : List UInt8) (tm0 : List (Nat × Value)) (asg body : Code) (w2 : tget tm0 2 = some (.pointer (some ⟨b2, 0, none⟩))) (w4 : tget tm0 4 = some (.pointer (some ⟨b4, 0, none⟩))) (w5 : tget tm0 5 = some (.pointer (some ⟨b5, 0, none⟩))) (w6 : tget tm0 6 = some (.pointer (some ⟨b6, 0, none⟩)))
  (hA : asg = rfA (nav [1, 1, 1, 0, 1, 2] (bdy Tryz.f11))) (hB : body = rfB (nav [1, 1, 1, 0, 1, 2] (bdy Tryz.f11))) :
  SL.Yields Tryz.prog l [.int .i64 (1 + i : Nat)] [Ndm l 43 tm0 asg body .ready none P.t b2 b4 b5 b6 f owZL 0, Tx P T]
   (fun v H => v = .bool (!decide (o.name = f)) ∧ H = [if decide (o.name = f) = true then Ndm l 43 tm0 asg body .done (some .ret) P.t b2 b4 b5 b6 f (owA (1 + i) o).toList 0 else Ndm l 43 tm0 asg body .ready none P.t b2 b4 b5 b6 f owZL 0, Tx P T]) := by
 refine Yields.openR hid_opens ?_
 rintro ⟨⟩ _
 refine (named_yields0 P s T k i o ho l b2 b4 b5 b6 f tm0 asg body w2 w4 w5 w6 hA hB).post ?_
 rintro v H' ⟨rfl, R, hp⟩
 refine ⟨_, ⟨rfl, rfl⟩, ?_⟩
 intro w0 F0 w iv
 by_cases hm : o.name = f
 ·rw [if_pos hm] at hp
  rw [if_pos (by simpa using hm)]
  exact Inv.shuts (hid_shuts (p := fun _ : Unit => True) (K := NdmK l 43 tm0 asg body .done (some .ret) P.t b2 b4 b5 b6 f (owA (1 + i) o).toList 0) () trivial) ((iv.parts hp).drop)
 ·rw [if_neg hm] at hp
  rw [if_neg (by simpa using hm)]
  exact Inv.shuts (hid_shuts (p := fun _ : Unit => True) (K := NdmK l 43 tm0 asg body .ready none P.t b2 b4 b5 b6 f owZL 0) () trivial) ((iv.parts hp).drop)
def isNm (s : CS) (f : List UInt8) (n : Nat) : Bool := (s.owAt n).any fun o => decide (o.name = f)
def NmF (t b2 b4 b5 b6 c1 c2 c3 : Nat) (f : List UInt8) (P : TxP) (T : List Ent) (r : List Value) (K' : List SProp) : Prop :=
 K' = [cl b2 24 [.pointer (some ⟨t, 0, none⟩)], cl b4 28 r, cl b5 29 [.int .i64 0], cl b6 9 [.string (str f)], cl c1 3 [.int .i64 3], cl c2 3 [.int .i64 0], cl c3 24 [.pointer (some ⟨t, 0, none⟩)], Tx P T]
theorem named_hs (P : TxP) (s : CS) (T : List Ent) (k : CtI P s T) (l b2 b4 b5 b6 c1 c2 c3 : Nat) (f : List UInt8) (tm0 : List (Nat × Value)) (asg body : Code) (w2 : tget tm0 2 = some (.pointer (some ⟨b2, 0, none⟩))) (w4 : tget tm0 4 = some (.pointer (some ⟨b4, 0, none⟩))) (w5 : tget tm0 5 = some (.pointer (some ⟨b5, 0, none⟩))) (w6 : tget tm0 6 = some (.pointer (some ⟨b6, 0, none⟩)))
  (hA : asg = rfA (nav [1, 1, 1, 0, 1, 2] (bdy Tryz.f11))) (hB : body = rfB (nav [1, 1, 1, 0, 1, 2] (bdy Tryz.f11))) :
  Does Tryz.prog 60 [.func (.yield l) #[] #[], .pointer (some ⟨c1, 0, none⟩), .pointer (some ⟨c2, 0, none⟩), .pointer (some ⟨c3, 0, none⟩)]
   [lp l 43 tm0 #[23] asg body .ready none, cl b2 24 [.pointer (some ⟨P.t, 0, none⟩)], cl b4 28 owZL, cl b5 29 [.int .i64 0], cl b6 9 [.string (str f)], cl c1 3 [.int .i64 3], cl c2 3 [.int .i64 0], cl c3 24 [.pointer (some ⟨P.t, 0, none⟩)], Tx P T]
   (fun _ H' => (∃ K', H' = lp l 43 tm0 #[23] asg body .ready none :: K' ∧ (∀ n, isNm s f n = false) ∧ NmF P.t b2 b4 b5 b6 c1 c2 c3 f P T owZL K')
    ∨ ∃ c K', H' = lp l 43 tm0 #[23] asg body .done (some c) :: K' ∧ c = .ret ∧ ∃ n o, s.owAt n = some o ∧ o.name = f ∧ (∀ m, m < n → isNm s f m = false) ∧ NmF P.t b2 b4 b5 b6 c1 c2 c3 f P T (owA n o).toList K') := by
 have hu := und_owners k.rp (by have := k.ok.size; omega)
 have hul : (und T 3 0).length = s.ow.length := by rw [hu]; simp
 have hone : ∀ i, i < s.ow.length → ∃ o, s.owAt (1 + i) = some o := fun i hi => by
  unfold CS.owAt; rw [if_neg (by omega), List.getElem?_eq_getElem (by omega)]; exact ⟨_, rfl⟩
 have hnone : ∀ n, (∀ i, i < s.ow.length → n ≠ 1 + i) → isNm s f n = false := fun n h => by
  unfold isNm
  cases ho : s.owAt n with
  | none => rfl
  | some o =>
   have := owAt_lt ho
   exact absurd (show n = 1 + (n - 1) by omega) (h _ (by omega))
 have hf := underF_does P T 3 0 l c1 c2 c3 (fun _ => Ndm l 43 tm0 asg body .ready none P.t b2 b4 b5 b6 f owZL 0)
  (fun i => Ndm l 43 tm0 asg body .done (some .ret) P.t b2 b4 b5 b6 f (owA (1 + i) ((s.owAt (1 + i)).getD ⟨[], 0, 0⟩)).toList 0) (fun i => isNm s f (1 + i)) (by omega) (by omega) k.rp.ord k.rp.lt (by have := k.rp.len; have := k.ok.size; omega) (fun i hi => by
   rw [hul] at hi
   obtain ⟨o, ho⟩ := hone i hi
   have e1 : (und T 3 0)[i]'(by rw [hul]; exact hi) = 1 + i := by simp only [hu, List.getElem_range']; omega
   have e2 : isNm s f (1 + i) = decide (o.name = f) := by unfold isNm; rw [ho]; rfl
   rw [e1, e2, ho]
   exact named_yields P s T k i o ho l b2 b4 b5 b6 f tm0 asg body w2 w4 w5 w6 hA hB)
 rw [hul] at hf
 refine does_pre (does_post hf ?_) (fun i => Inv.shuts (K := NdmK l 43 tm0 asg body .ready none P.t b2 b4 b5 b6 f owZL 0 ()) (hid_shuts (p := fun _ : Unit => True) (K := NdmK l 43 tm0 asg body .ready none P.t b2 b4 b5 b6 f owZL 0) () trivial) i)
 rintro v H1 ⟨rfl, A, rfl, ⟨rfl, hst⟩ | ⟨i, hi, h1, h2, rfl⟩⟩ w0 F0 w iv
 ·obtain ⟨⟨⟩, _, i2⟩ := Inv.opens (hid_opens (p := fun _ : Unit => True) (K := NdmK l 43 tm0 asg body .ready none P.t b2 b4 b5 b6 f owZL 0)) iv
  refine ⟨_, .inl ⟨_, rfl, fun n => ?_, rfl⟩, i2⟩
  by_cases h : ∃ i, i < s.ow.length ∧ n = 1 + i
  ·obtain ⟨i, hi, rfl⟩ := h
   exact hst i hi
  ·exact hnone n fun i hi e => h ⟨i, hi, e⟩
 ·obtain ⟨o, ho⟩ := hone i hi
  rw [ho] at iv
  obtain ⟨⟨⟩, _, i2⟩ := Inv.opens (hid_opens (p := fun _ : Unit => True) (K := NdmK l 43 tm0 asg body .done (some .ret) P.t b2 b4 b5 b6 f (owA (1 + i) o).toList 0)) iv
  refine ⟨_, .inr ⟨_, _, rfl, rfl, 1 + i, o, ho, by simpa [isNm, ho] using h1, fun m hm => ?_, rfl⟩, i2⟩
  by_cases h : ∃ j, j < s.ow.length ∧ m = 1 + j
  ·obtain ⟨j, hj, rfl⟩ := h
   exact h2 j (by omega)
  ·exact hnone m fun j hj e => h ⟨j, hj, e⟩
set_option maxHeartbeats 4000000 in
theorem named_does (P : TxP) (s : CS) (T : List Ent) (k : CtI P s T) (nm f : List UInt8) (hfo : FoldTo nm f) : Does Tryz.prog 11 [.pointer (some ⟨P.t, 0, none⟩), .string (str nm)] [Tx P T]
  (fun v H => (((∀ n, isNm s f n = false) ∧ v = .tuple #[.agg owZ, .int .i64 3]) ∨ ∃ n o, s.owAt n = some o ∧ o.name = f ∧ (∀ m, m < n → isNm s f m = false) ∧ v = .tuple #[.agg (owA n o), .int .i64 0]) ∧ H = [Tx P T]) := by
 have hfo : Does Tryz.prog 29 [.string (str nm)] [] (fun v H => v = .tuple #[.string (str f), .bool true] ∧ H = []) := hfo
 have ht := cTold_does P T 3
 refine does_of_m Tryz.func11 Tryz.ntmps11 rfl rfl rfl (fun w0 F0 => ?_)
 (repeat (first|refine g_seq (h:=?_)|refine g_region (h:=?_)|refine l_nil (h:=?_)|refine n_then (h:=?_)|refine l_pures1 (h:=?_)|(refine l_atc ?_; refine l_call (hfo) ?_)|(refine l_atc ?_; refine l_call_ (under_does P.t 3 0) ?_; rintro _ _ _ ⟨c1, c2, c3, rfl, rfl⟩ he; cases he)|refine l_load (h:=?_)|refine l_store (h:=?_)|(refine l_box (h:=?_); intro _)|(refine l_alloc (h:=?_); intro _)|refine g_skip (h:=?_)|refine g_block (h:=?_)|refine g_cond_f (h:=?_)))
 rename_i b2 b4 b5 b6
 refine g_inv (H' := [cl c1 3 [.int .i64 3], cl c2 3 [.int .i64 0], cl c3 24 [.pointer (some ⟨P.t, 0, none⟩)], cl b6 9 [.string (str f)], cl b5 29 [.int .i64 0], cl b4 28 owZL, cl b2 24 [.pointer (some ⟨P.t, 0, none⟩)], Tx P T]) (fun i => i) ?_
 refine g_rangeFunc (qn := fun K' => (∀ n, isNm s f n = false) ∧ NmF P.t b2 b4 b5 b6 c1 c2 c3 f P T owZL K') (qx := fun c K' => c = .ret ∧ ∃ n o, s.owAt n = some o ∧ o.name = f ∧ (∀ m, m < n → isNm s f m = false) ∧ NmF P.t b2 b4 b5 b6 c1 c2 c3 f P T (owA n o).toList K')
  (K := [cl b2 24 [.pointer (some ⟨P.t, 0, none⟩)], cl b4 28 owZL, cl b5 29 [.int .i64 0], cl b6 9 [.string (str f)], cl c1 3 [.int .i64 3], cl c2 3 [.int .i64 0], cl c3 24 [.pointer (some ⟨P.t, 0, none⟩)], Tx P T]) ?_ ?_ ?_
 ·intro l
  exact named_hs P s T k l b2 b4 b5 b6 c1 c2 c3 f _ _ _ rfl rfl rfl rfl (by rfl) (by rfl)
 ·rintro D0 K' ⟨hno, rfl⟩
  dsimp only [List.cons_append, List.nil_append]
  (repeat' (first|refine g_seq (h:=?_)|refine g_region (h:=?_)|refine l_nil (h:=?_)|refine n_then (h:=?_)|refine l_pures1 (h:=?_)|(refine l_atc ?_; refine l_call (ht) ?_)|refine l_load (h:=?_)|refine l_store (h:=?_)|refine g_ret (h:=?_)|refine n_block (h:=?_)))
  refine r_retM [Tx P T] ?_
  exact ⟨.inl ⟨hno, rfl⟩, rfl⟩
 ·rintro D0 c K' ⟨rfl, n, o, h1, h2, h3, rfl⟩
  dsimp only [List.cons_append, List.nil_append]
  (repeat' (first|refine g_ret (h:=?_)|refine n_then_ret (h:=?_)|refine n_block_ret (h:=?_)))
  refine r_retM [Tx P T] ?_
  exact ⟨.inr ⟨n, o, h1, h2, h3, rfl⟩, rfl⟩
theorem namedNo_does (P : TxP) (s : CS) (T : List Ent) (k : CtI P s T) (nm f : List UInt8) (hfo : FoldTo nm f) (hno : ∀ n, isNm s f n = false) : Does Tryz.prog 11 [.pointer (some ⟨P.t, 0, none⟩), .string (str nm)] [Tx P T]
  (fun v H => v = .tuple #[.agg owZ, .int .i64 3] ∧ H = [Tx P T]) := (named_does P s T k nm f hfo).mono (by
 rintro v H ⟨⟨_, h⟩ | ⟨n, o, h1, h2, _⟩, rfl⟩
 ·exact ⟨h, rfl⟩
 ·have := hno n
  rw [isNm, h1] at this
  simp [h2] at this)
set_option maxHeartbeats 4000000 in
theorem register_does (P : TxP) (s : CS) (T : List Ent) (k : CtI P s T) (room : roomC P s) (nm f : List UInt8) (limit : Nat) (hfo : FoldTo nm f) (hff : FoldTo f f) (hfl : f.length ≤ 32) (hl : limit ≤ 1000) (hn : s.ow.length < 1000) (hno : ∀ n, isNm s f n = false) : Does Tryz.prog 12 [.pointer (some ⟨P.t, 0, none⟩), .string (str nm), .int .i64 limit] [Tx P T]
  (fun v H => ∃ T', v = .tuple #[.int .i64 (s.ow.length + 1 : Nat), .int .i64 0] ∧ H = [Tx P T'] ∧ Rp T' (s.addO ⟨f, limit, 0⟩).val) := by
 have hfo2 : Does Tryz.prog 29 [.string (str nm)] [] (fun v H => v = .tuple #[.string (str f), .bool true] ∧ H = []) := hfo
 have hNm := namedNo_does P s T k nm f hfo hno
 obtain ⟨m, hm⟩ : ∃ m, m = s.ow.length := ⟨_, rfl⟩
 have hv := k.rp.val 9 0 2 (by omega) (by omega) (by omega)
 rw [val9, if_neg (by omega), if_pos ⟨rfl, rfl⟩, ← hm] at hv
 have hF : Does Tryz.prog 32 [.pointer (some ⟨P.t, 0, none⟩), .int .i64 2] [Tx P T] (fun v H => v = .tuple #[.int .i64 (m + 1 : Nat), .int .i64 0] ∧ H = [Tx P (putE T (kyN 9 0 2) (putN (m + 1) 3))]) := fresh_does P T m 2 (by omega) (by omega) hv (k.room room (by omega))
 have r1 := k.rp.put (k := 9) (a := 0) (b := 2) (by omega) (by omega) (by omega) (putN (m + 1) 3)
 have n1 := putE_le k.rp (kyN 9 0 2) (putN (m + 1) 3) (Nat.le_refl _)
 obtain ⟨T1, h1⟩ : ∃ T1, T1 = putE T (kyN 9 0 2) (putN (m + 1) 3) := ⟨_, rfl⟩
 rw [← h1] at hF r1 n1
 have ok' : Ow.ok (m + 1) ⟨f, limit, 0⟩ := ⟨by omega, hff, hfl, hl, by simp⟩
 have hO : Does Tryz.prog 33 [.pointer (some ⟨P.t, 0, none⟩), .agg #[.int .i64 (m + 1 : Nat), .string (str f), .int .i64 limit, .int .i64 0]] [Tx P T1] (fun v H => v = .tuple #[] ∧ H = [Tx P (putE T1 (kyN 3 0 (m + 1)) (Ow.text ⟨f, limit, 0⟩))]) := setOwner_does P T1 (m + 1) ⟨f, limit, 0⟩ ok' (k.room room (by omega))
 have r2 := r1.put (k := 3) (a := 0) (b := m + 1) (by omega) (by omega) (by omega) (Ow.text ⟨f, limit, 0⟩)
 obtain ⟨T2, h2⟩ : ∃ T2, T2 = putE T1 (kyN 3 0 (m + 1)) (Ow.text ⟨f, limit, 0⟩) := ⟨_, rfl⟩
 rw [← h2] at hO r2
 have hN := cNumb_does P T2 (m + 1)
 have hval := addO_val (s := s) (o := ⟨f, limit, 0⟩)
 rw [← hm] at hval ⊢
 refine does_of Tryz.func12 Tryz.ntmps12 rfl rfl rfl (fun w0 F0 => ?_)
 (repeat' (first|refine g_seq (h:=?_)|refine g_region (h:=?_)|refine l_nil (h:=?_)|refine n_then (h:=?_)|refine l_pures1 (h:=?_)|(refine l_atc ?_; refine l_call (hfo2) ?_)|(refine l_atc ?_; refine l_call (hNm) ?_)|(refine l_atc ?_; refine l_call (hF) ?_)|(refine l_atc ?_; refine l_call (hO) ?_)|(refine l_atc ?_; refine l_call (hN) ?_)|refine l_guard_yes (h:=?_)|refine l_store (h:=?_)|(refine l_alloc (h:=?_); intro _)|refine g_skip (h:=?_)|refine g_ret (h:=?_)|refine g_block (h:=?_)|refine n_block (h:=?_)|refine g_cond_t (h:=?_)|refine g_cond_f (h:=?_)|(refine g_spF (h:=?_); intro h)))
 refine r_retk [Tx P T2] ?_
 exact ⟨T2, rfl, rfl, r2.to fun k a b _ _ _ => hval k a b⟩
end Go.Proofs.YtelfjhemnnbbpaaGreat
set_option maxRecDepth 20000
namespace Go.Proofs.YtelfjhemnnbbpaaGreat
open Go.Proofs.YtelfjhemnnbbpaaGreat.SL
set_option maxHeartbeats 4000000 in
theorem ends_does (P : TxP) (s : CS) (T : List Ent) (n : Nat) (c : Cp) (k : CtI P s T) (hc : s.capAt n = some c) : Does Tryz.prog 24 [.pointer (some ⟨P.t, 0, none⟩), .int .i64 n] [Tx P T]
  (fun v H => v = .tuple #[.int .i64 (endsL (s.up 9 n) : Nat), .int .i64 0] ∧ H = [Tx P T]) := by
 have hch := chain_does P s T n c k hc
 have hd := (k.ok.cp n c hc).depth
 obtain ⟨u1, u2, u3⟩ := up_at k.ok 9 n c hc (by omega)
 obtain ⟨L, hL⟩ : ∃ L, L = s.up 9 n := ⟨_, rfl⟩
 rw [← hL] at u1 u2 u3 hch ⊢
 have hex : ∀ e ∈ L, e.2.expiry ≤ 268435455 := fun e he => by
  obtain ⟨i, hi, rfl⟩ := List.mem_iff_getElem.1 he
  have := (u3 i L[i].1 L[i].2 (List.getElem?_eq_getElem hi)).1
  exact (k.ok.cp _ _ this).expiry
 have hcl := cpC_len L
 refine does_of Tryz.func24 Tryz.ntmps24 rfl rfl rfl (fun w0 F0 => ?_)
 (repeat' (first|refine g_seq (h:=?_)|refine g_region (h:=?_)|refine l_nil (h:=?_)|refine n_then (h:=?_)|refine l_pures1 (h:=?_)|(refine l_atc ?_; refine l_call_ (hch) ?_; rintro _ _ _ ⟨pa, ca, rfl, rfl⟩ he; cases he)|refine g_skip (h:=?_)|refine g_block (h:=?_)|refine g_cond_f (h:=?_)))
 (refine g_loop (fun i : Nat => [(22, .int .i64 i), (21, .int .i64 L.length), (20, .slice pa L.length ca), (8, .int .i64 (endsL (L.take i) : Nat)), (0, .pointer (some ⟨P.t, 0, none⟩))]) (fun i => [vec 41 10 pa L.length ca (cpC L), Tx P T]) (fun i => i ≤ L.length) (fun i => L.length - i) (0) ?_ ?_ ?_ ?_; rotate_left; (repeat (first | refine ts_nil | (refine ts_cons rfl ?_ ?_; first | (with_reducible rfl) | rotate_left))); (first | (intro _ i; with_reducible refine i) | rotate_left); rotate_left; (try omega); rotate_right)
 ·intro i hi
  by_cases hil : i < L.length
  ·refine g_ptr (m := L.length) (p := pa) (h:=?_); rintro ga rfl hca
   have hpt := part_cp (l := L) (j := i) (List.getElem?_eq_getElem hil)
   have hel := hex _ (List.getElem_mem hil)
   have hle := endsL_le (L.take i) 0 (by omega) (fun e he => hex e (List.mem_of_mem_take he))
   have hnx : endsL (L.take (i + 1)) = endF (endsL (L.take i)) L[i].2 := by
    unfold endsL
    rw [List.take_succ_eq_append_getElem hil, List.foldl_append]; rfl
   obtain ⟨E, hE⟩ : ∃ E, E = endsL (L.take i) := ⟨_, rfl⟩
   obtain ⟨x, hx⟩ : ∃ x, x = L[i] := ⟨_, rfl⟩
   have hle : E ≤ 268435455 := hE ▸ hle
   rw [← hx] at hpt hel
   rw [← hE, ← hx] at hnx
   rw [← hE]
   (repeat' (first|refine g_seq (h:=?_)|refine g_region (h:=?_)|refine l_nil (h:=?_)|refine n_then (h:=?_)|refine l_pures1 (h:=?_)|refine l_guard_yes (h:=?_)|refine l_guard_no (h:=?_)|refine l_guard_un (h:=?_)|refine l_load (h:=?_)|refine l_store (h:=?_)|(refine l_alloc (h:=?_); intro _)|refine l_indexAddr (h:=?_)|refine g_skip (h:=?_)|refine g_block (h:=?_)|refine n_block (h:=?_)|refine g_cond_t (h:=?_)|refine g_cond_f (h:=?_)|refine l_load_vec (h:=?_)|(refine l_sp (h1 := ?_) (h0 := ?_) <;> intro h)|(refine g_spT (h:=?_); intro h)|(refine g_sp (h1 := ?_) (h0 := ?_) <;> intro h)))
   all_goals
    (refine n_back (i + 1) ?_ ?_ ?_ ?_; rotate_left; rotate_left; (repeat (first | refine ts_nil | (refine ts_cons rfl ?_ ?_; first | (with_reducible rfl) | rotate_left))); (first | (intro _ i; with_reducible refine i) | rotate_left); (try omega); (try omega))
   all_goals first
    | (dsimp only; omega)
    | (rw [wrapI64 (by omega)]; rfl)
    | (intro _ i; exact inv_keep parts_of i)
    | (rw [hnx]; unfold endF; rw [if_pos (by omega)]; done)
    | (rw [hnx]; unfold endF; rw [if_neg (by omega)]; done)
    | rfl
  ·obtain rfl : i = L.length := by omega
   rw [List.take_length]
   (repeat' (first|refine g_seq (h:=?_)|refine g_region (h:=?_)|refine l_nil (h:=?_)|refine n_then (h:=?_)|refine l_pures1 (h:=?_)|refine g_ret (h:=?_)|refine g_exit (h:=?_)|refine n_then_exit (h:=?_)|refine n_block_hit (h:=?_)|(refine g_spF (h:=?_); intro h)))
   refine r_retk [Tx P T] ?_
   exact ⟨rfl, rfl⟩
 all_goals first
  | exact Nat.zero_le _
  | rfl
  | (intro _ i; exact inv_keep parts_of i)
theorem cpC_get0 {l : List (Nat × Cp)} {j : Nat} {e : Nat × Cp} (h : l[j]? = some e) : (cpC l)[j * 10]? = some (.int .i64 (e.1 : Nat)) := by
 have := congrArg (fun q : List Value => q[0]?) (cpC_cut h)
 simpa [List.getElem?_take, List.getElem?_drop] using this
theorem badF_drop {L : List (Nat × Cp)} {i : Nat} (h : i < L.length) (q : Option Nat) : badF q (L.drop i) = (L[i].2.rev || q.any (fun m => decide (m ≤ L[i].2.cut)) || badF (some L[i].1) (L.drop (i + 1))) := by
 rw [List.drop_eq_getElem_cons h]; rfl
def prevO (L : List (Nat × Cp)) (i : Nat) : Option Nat := if i = 0 then none else (L[i - 1]?).map (·.1)
set_option maxHeartbeats 4000000 in
theorem state_does (P : TxP) (s : CS) (T : List Ent) (n : Nat) (now : Int) (c : Cp) (k : CtI P s T) (hc : s.capAt n = some c) : Does Tryz.prog 22 [.pointer (some ⟨P.t, 0, none⟩), .int .i64 n, .int .i64 now] [Tx P T]
  (fun v H => v = .int .i64 (s.state n now) ∧ H = [Tx P T]) := by
 have hch := chain_does P s T n c k hc
 have hd := (k.ok.cp n c hc).depth
 obtain ⟨u1, u2, u3⟩ := up_at k.ok 9 n c hc (by omega)
 have hst : s.state n now = if badF none (s.up 9 n) = true then 10 else if (s.up 9 n).any (fun e => late now e.2) = true then 11 else 0 := by
  unfold CS.state; rw [if_neg (by rw [hc]; simp)]
 rw [hst]
 obtain ⟨L, hL⟩ : ∃ L, L = s.up 9 n := ⟨_, rfl⟩
 rw [← hL] at u1 u2 u3 hch ⊢
 have hcl := cpC_len L
 refine does_of Tryz.func22 Tryz.ntmps22 rfl rfl rfl (fun w0 F0 => ?_)
 (repeat' (first|refine g_seq (h:=?_)|refine g_region (h:=?_)|refine l_nil (h:=?_)|refine n_then (h:=?_)|refine l_pures1 (h:=?_)|(refine l_atc ?_; refine l_call_ (hch) ?_; rintro _ _ _ ⟨pa, ca, rfl, rfl⟩ he; cases he)|refine g_skip (h:=?_)|refine g_block (h:=?_)|refine g_cond_f (h:=?_)))
 (refine g_loop (fun i : Nat => [(23, .int .i64 i), (22, .int .i64 L.length), (21, .slice pa L.length ca), (7, .slice pa L.length ca), (9, .bool ((L.take i).any (fun e => late now e.2))), (2, .int .i64 now), (0, .pointer (some ⟨P.t, 0, none⟩))]) (fun i => [vec 41 10 pa L.length ca (cpC L), Tx P T]) (fun i => i ≤ L.length ∧ badF none L = badF (prevO L i) (L.drop i)) (fun i => L.length - i) (0) ?_ ?_ ?_ ?_; rotate_left; (repeat (first | refine ts_nil | (refine ts_cons rfl ?_ ?_; first | (with_reducible rfl) | rotate_left))); (first | (intro _ i; with_reducible refine i) | rotate_left); rotate_left; (try omega); rotate_right)
 ·rintro i ⟨hi, hbad⟩
  by_cases hil : i < L.length
  ·refine g_ptr (m := L.length) (p := pa) (h:=?_); rintro ga rfl hca
   have hpt := part_cp (l := L) (j := i) (List.getElem?_eq_getElem hil)
   rw [badF_drop hil] at hbad
   have hnx : (L.take (i + 1)).any (fun e => late now e.2) = ((L.take i).any (fun e => late now e.2) || late now L[i].2) := by
    rw [List.take_succ_eq_append_getElem hil, List.any_append]; simp
   have hpv : prevO L (i + 1) = some L[i].1 := by
    unfold prevO; rw [if_neg (by omega)]; simp [hil]
   obtain ⟨x, hx⟩ : ∃ x, x = L[i] := ⟨_, rfl⟩
   rw [← hx] at hpt hbad hnx hpv
   obtain ⟨m, x⟩ := x
   dsimp only at hpt hbad hnx hpv
   have hpt : partV env 41 (cpC L) (0 + ((i : Nat) : Int).toNat * 10) = some (.agg (cpA m x)) := hpt
   cases hr : x.rev
   ·rw [hr, Bool.false_or] at hbad
    have hpt : partV env 41 (cpC L) (0 + ((i : Nat) : Int).toNat * 10) = some (.agg #[.int .i64 m, .int .i64 x.parent, .int .i64 x.object, .int .i64 x.owner, .int .i64 x.rights, .int .i64 x.badge, .int .i64 x.depth, .int .i64 x.expiry, .int .i64 x.cut, .bool false]) := by rw [hpt, ← hr]
    rcases Nat.eq_zero_or_pos i with h0 | h0
    ·subst h0
     have hp0 : prevO L 0 = none := rfl
     rw [hp0, Option.any_none, Bool.false_or] at hbad
     (repeat' (first|refine g_seq (h:=?_)|refine g_region (h:=?_)|refine l_nil (h:=?_)|refine n_then (h:=?_)|refine l_pures1 (h:=?_)|refine l_store (h:=?_)|(refine l_alloc (h:=?_); intro _)|refine l_indexAddr (h:=?_)|refine g_skip (h:=?_)|refine g_block (h:=?_)|refine l_load_vec (h:=?_)|(refine g_spT (h:=?_); intro h)))
     rename_i b11
     (refine g_draw [cl b11 41 [.int .i64 m, .int .i64 x.parent, .int .i64 x.object, .int .i64 x.owner, .int .i64 x.rights, .int .i64 x.badge, .int .i64 x.depth, .int .i64 x.expiry, .int .i64 x.cut, .bool false]] (h := a_pass2 (h:=?_)))
     (repeat' (first|refine g_region (h:=?_)|refine l_nil (h:=?_)|refine n_then (h:=?_)|refine l_pures1 (h:=?_)|refine l_guard_yes (h:=?_)|refine l_guard_no (h:=?_)|refine l_load (h:=?_)|refine g_skip (h:=?_)|refine a_done (h:=?_)|refine a_load (h := a_pass2 (h:=?_))|refine a_one (h:=?_)|refine n_any (h := a_pass2 (h:=?_))|refine a_no (h:=?_)|refine n_block (h:=?_)|refine g_cond_f (h:=?_)|(refine l_sp (h1 := ?_) (h0 := ?_) <;> intro h)))
     all_goals
      (refine n_back (0 + 1) ?_ ?_ ?_ ?_; rotate_left; rotate_left; (repeat (first | refine ts_nil | (refine ts_cons rfl ?_ ?_; first | (with_reducible rfl) | rotate_left))); (first | (intro _ i; with_reducible refine i) | rotate_left); (try omega); (try omega))
     all_goals first
      | exact ⟨hil, by rw [hpv]; exact hbad⟩
      | omega
      | (dsimp only; omega)
      | (rw [wrapI64 (by omega)]; rfl)
      | (intro _ i; exact inv_keep parts_of i)
      | (rw [hnx]; simp_all [late]; done)
      | (rw [hnx, ‹(List.take i L).any (fun e => late now e.2) = false›, Bool.false_or, late, decide_eq_true (show 0 < x.expiry by omega), Bool.true_and]; done)
      | (rw [hnx, ‹(List.take i L).any (fun e => late now e.2) = false›, Bool.false_or, late, decide_eq_false (show ¬ 0 < x.expiry by omega), Bool.false_and]; done)
      | rfl
    ·have ew1 : IntKind.i64.wrap ((i : Int) - 1) = ((i - 1 : Nat) : Int) := by rw [wrapI64 (by omega)]; omega
     obtain ⟨⟨q, y⟩, hq2⟩ : ∃ e, L[i - 1]? = some e := ⟨_, List.getElem?_eq_getElem (by omega)⟩
     have hib : 0 ≤ IntKind.i64.wrap ((i : Int) - 1) ∧ IntKind.i64.wrap ((i : Int) - 1) < L.length := by rw [ew1]; omega
     have hg1 : (cpC L)[0 + (IntKind.i64.wrap ((i : Int) - 1)).toNat * 10 + 0]? = some (.int .i64 (q : Nat)) := by
      rw [ew1, Int.toNat_natCast, Nat.zero_add, Nat.add_zero]
      exact cpC_get0 hq2
     have hp0 : prevO L i = some q := by unfold prevO; rw [if_neg (by omega), hq2]; rfl
     rw [hp0, Option.any_some] at hbad
     (repeat' (first|refine g_seq (h:=?_)|refine g_region (h:=?_)|refine l_nil (h:=?_)|refine n_then (h:=?_)|refine l_pures1 (h:=?_)|refine l_store (h:=?_)|(refine l_alloc (h:=?_); intro _)|refine l_indexAddr (h:=?_)|refine g_skip (h:=?_)|refine g_block (h:=?_)|refine l_load_vec (h:=?_)|(refine g_spT (h:=?_); intro h)))
     rename_i b11
     (refine g_draw [cl b11 41 [.int .i64 m, .int .i64 x.parent, .int .i64 x.object, .int .i64 x.owner, .int .i64 x.rights, .int .i64 x.badge, .int .i64 x.depth, .int .i64 x.expiry, .int .i64 x.cut, .bool false], vec 41 10 (some ⟨ga, 0, none⟩) L.length ca (cpC L)] (h := a_pass2 (h:=?_)))
     (repeat' (first|refine g_seq (h:=?_)|refine g_region (h:=?_)|refine l_nil (h:=?_)|refine n_then (h:=?_)|refine l_pures1 (h:=?_)|refine l_guard_yes (h:=?_)|refine l_guard_no (h:=?_)|refine l_guard_un (h:=?_)|refine l_load (h:=?_)|refine g_skip (h:=?_)|refine g_ret (h:=?_)|refine n_then_ret (h:=?_)|refine n_block_ret (h:=?_)|refine a_done (h:=?_)|refine a_load (h := a_pass2 (h:=?_))|refine a_one (h:=?_)|refine n_any (h := a_pass2 (h:=?_))|refine a_vg (h:=?_)|refine n_block (h:=?_)|refine a_loadg_vec (h := a_pass2 (h:=?_))|(refine a_spT (h:=?_); intro h)|(refine l_sp (h1 := ?_) (h0 := ?_) <;> intro h)|(refine g_sp (h1 := ?_) (h0 := ?_) <;> intro h)))
     ·have hb : badF none L = true := by rw [hbad, decide_eq_true (by omega), Bool.true_or]
      refine r_retk [Tx P T] ?_
      exact ⟨by rw [hb, if_pos rfl]; rfl, rfl⟩
     all_goals have hb : badF none L = badF (some m) (L.drop (i + 1)) := by rw [hbad, decide_eq_false (by omega), Bool.false_or]
     all_goals
      (refine n_back (i + 1) ?_ ?_ ?_ ?_; rotate_left; rotate_left; (repeat (first | refine ts_nil | (refine ts_cons rfl ?_ ?_; first | (with_reducible rfl) | rotate_left))); (first | (intro _ i; with_reducible refine i) | rotate_left); (try omega); (try omega))
     all_goals first
      | exact ⟨hil, by rw [hpv]; exact hb⟩
      | omega
      | (dsimp only; omega)
      | (rw [wrapI64 (by omega)]; rfl)
      | (intro _ i; exact inv_keep parts_of i)
      | (rw [hnx]; simp_all [late]; done)
      | (rw [hnx, ‹(List.take i L).any (fun e => late now e.2) = false›, Bool.false_or, late, decide_eq_true (show 0 < x.expiry by omega), Bool.true_and]; done)
      | (rw [hnx, ‹(List.take i L).any (fun e => late now e.2) = false›, Bool.false_or, late, decide_eq_false (show ¬ 0 < x.expiry by omega), Bool.false_and]; done)
      | rfl
   ·rw [hr, Bool.true_or, Bool.true_or] at hbad
    have hpt : partV env 41 (cpC L) (0 + ((i : Nat) : Int).toNat * 10) = some (.agg #[.int .i64 m, .int .i64 x.parent, .int .i64 x.object, .int .i64 x.owner, .int .i64 x.rights, .int .i64 x.badge, .int .i64 x.depth, .int .i64 x.expiry, .int .i64 x.cut, .bool true]) := by rw [hpt, ← hr]
    rw [hbad]
    (repeat' (first|refine g_seq (h:=?_)|refine g_region (h:=?_)|refine l_nil (h:=?_)|refine n_then (h:=?_)|refine l_pures1 (h:=?_)|refine l_store (h:=?_)|(refine l_alloc (h:=?_); intro _)|refine l_indexAddr (h:=?_)|refine g_skip (h:=?_)|refine g_block (h:=?_)|refine l_load_vec (h:=?_)|(refine g_spT (h:=?_); intro h)))
    rename_i b11
    (refine g_draw [cl b11 41 [.int .i64 m, .int .i64 x.parent, .int .i64 x.object, .int .i64 x.owner, .int .i64 x.rights, .int .i64 x.badge, .int .i64 x.depth, .int .i64 x.expiry, .int .i64 x.cut, .bool true]] (h := a_pass2 (h:=?_)))
    (repeat' (first|refine g_seq (h:=?_)|refine g_region (h:=?_)|refine l_nil (h:=?_)|refine n_then (h:=?_)|refine l_pures1 (h:=?_)|refine l_guard_no (h:=?_)|refine l_guard_un (h:=?_)|refine g_ret (h:=?_)|refine n_then_ret (h:=?_)|refine n_block_ret (h:=?_)|refine a_done (h:=?_)|refine a_load (h := a_pass2 (h:=?_))|refine a_one (h:=?_)|refine n_any (h := a_pass2 (h:=?_))|refine a_un (h:=?_)|refine g_cond_t (h:=?_)))
    refine r_retk [Tx P T] ?_
    exact ⟨by rw [if_pos rfl]; rfl, rfl⟩
  ·obtain rfl : i = L.length := by omega
   rw [List.take_length]
   have hbad : badF none L = false := by rw [hbad, List.drop_length]; rfl
   rw [hbad]
   (repeat' (first|refine g_seq (h:=?_)|refine g_region (h:=?_)|refine l_nil (h:=?_)|refine n_then (h:=?_)|refine l_pures1 (h:=?_)|refine g_skip (h:=?_)|refine g_ret (h:=?_)|refine n_then_ret (h:=?_)|refine g_exit (h:=?_)|refine n_then_exit (h:=?_)|refine n_block_hit (h:=?_)|(refine g_spF (h:=?_); intro h)|(refine g_sp (h1 := ?_) (h0 := ?_) <;> intro h)))
   ·refine r_retk [Tx P T] ?_
    exact ⟨by rw [if_neg (by simp), if_pos h]; rfl, rfl⟩
   ·refine r_retk [Tx P T] ?_
    exact ⟨by rw [if_neg (by simp), if_neg (by rw [h]; simp)]; rfl, rfl⟩
 all_goals first
  | exact ⟨Nat.zero_le _, rfl⟩
  | rfl
  | (intro _ i; exact inv_keep parts_of i)
end Go.Proofs.YtelfjhemnnbbpaaGreat
set_option maxRecDepth 20000
namespace Go.Proofs.YtelfjhemnnbbpaaGreat
open Go.Proofs.YtelfjhemnnbbpaaGreat.SL
theorem layFull_does (P : TxP) (T : List Ent) (n : Nat) (o : Ow) (hq : ¬ o.hav < o.limit) (c1 c2 c3 c4 c5 c6 : Int) : Does Tryz.prog 40 [.pointer (some ⟨P.t, 0, none⟩), .agg (owA n o), .agg #[.int .i64 0, .int .i64 c1, .int .i64 c2, .int .i64 0, .int .i64 c3, .int .i64 c4, .int .i64 c5, .int .i64 c6, .int .i64 0, .bool false]] [Tx P T]
  (fun v H => v = .tuple #[.int .i64 0, .int .i64 8] ∧ H = [Tx P T]) := by
 refine does_of Tryz.func40 Tryz.ntmps40 rfl rfl rfl (fun w0 F0 => ?_)
 (repeat' (first|refine g_seq (h:=?_)|refine g_region (h:=?_)|refine l_nil (h:=?_)|refine n_then (h:=?_)|refine l_pures1 (h:=?_)|refine l_load (h:=?_)|(refine l_box (h:=?_); intro _)|refine g_ret (h:=?_)|refine n_then_ret (h:=?_)|(refine g_spT (h:=?_); intro h)))
 refine r_retk [Tx P T] ?_
 exact ⟨rfl, rfl⟩
set_option maxHeartbeats 4000000 in
theorem mint_does (P : TxP) (s : CS) (T : List Ent) (k : CtI P s T) (room : roomC P s) (owner object mask badge expiry : Nat) (o : Ow) (ho : s.owAt owner = some o) (hob : 1 ≤ object ∧ object ≤ 16777215) (hm : mask < 65536) (hb : badge < 4294967296) (he : expiry ≤ 268435455) (hq : o.hav < o.limit) (hc : Cp.ok (s.cp.length + 1) ⟨0, object, owner, mask, badge, 1, expiry, 0, false, true⟩) :
  Does Tryz.prog 14 [.pointer (some ⟨P.t, 0, none⟩), .int .i64 owner, .int .i64 object, .int .i64 mask, .int .i64 badge, .int .i64 expiry] [Tx P T]
   (fun v H => ∃ T', v = .tuple #[.int .i64 (s.cp.length + 1 : Nat), .int .i64 0] ∧ H = [Tx P T'] ∧ Rp T' (s.add ⟨0, object, owner, mask, badge, 1, expiry, 0, false, true⟩ ⟨o.name, o.limit, o.hav + 1⟩).val) := by
 have hi := cId_does object hob
 have hmay := cMay_does mask badge expiry hm hb he
 have hof := ownerOf_does P T owner o (k.ok.ow _ _ ho) (k.owner ho)
 have hL : Does Tryz.prog 40 [.pointer (some ⟨P.t, 0, none⟩), .agg (owA owner o), .agg #[.int .i64 0, .int .i64 0, .int .i64 object, .int .i64 0, .int .i64 mask, .int .i64 badge, .int .i64 1, .int .i64 expiry, .int .i64 0, .bool false]] [Tx P T]
   (fun v H => ∃ T', v = .tuple #[.int .i64 (s.cp.length + 1 : Nat), .int .i64 0] ∧ H = [Tx P T'] ∧ Rp T' (s.add ⟨0, object, owner, mask, badge, 1, expiry, 0, false, true⟩ ⟨o.name, o.limit, o.hav + 1⟩).val) :=
  cLay_does P s T ⟨0, object, owner, mask, badge, 1, expiry, 0, false, true⟩ o k room ho hq hc rfl rfl rfl
 refine does_of Tryz.func14 Tryz.ntmps14 rfl rfl rfl (fun w0 F0 => ?_)
 (repeat' (first|refine g_seq (h:=?_)|refine g_region (h:=?_)|refine l_nil (h:=?_)|refine n_then (h:=?_)|refine l_pures1 (h:=?_)|(refine l_atc ?_; refine l_call (hi) ?_)|(refine l_atc ?_; refine l_call (hmay) ?_)|(refine l_atc ?_; refine l_call (hof) ?_)|(refine l_atc ?_; refine l_call_ (hL) ?_; rintro _ _ _ ⟨T', rfl, rfl, hr⟩ he; cases he)|refine l_guard_yes (h:=?_)|refine l_load (h:=?_)|refine l_store (h:=?_)|(refine l_alloc (h:=?_); intro _)|refine g_skip (h:=?_)|refine g_ret (h:=?_)|refine g_cond_f (h:=?_)))
 refine r_retk [Tx P T'] ?_
 exact ⟨T', rfl, rfl, hr⟩
set_option maxHeartbeats 4000000 in
theorem mintFull_does (P : TxP) (s : CS) (T : List Ent) (k : CtI P s T) (owner object mask badge expiry : Nat) (o : Ow) (ho : s.owAt owner = some o) (hob : 1 ≤ object ∧ object ≤ 16777215) (hm : mask < 65536) (hb : badge < 4294967296) (he : expiry ≤ 268435455) (hq : ¬ o.hav < o.limit) :
  Does Tryz.prog 14 [.pointer (some ⟨P.t, 0, none⟩), .int .i64 owner, .int .i64 object, .int .i64 mask, .int .i64 badge, .int .i64 expiry] [Tx P T]
   (fun v H => v = .tuple #[.int .i64 0, .int .i64 8] ∧ H = [Tx P T]) := by
 have hi := cId_does object hob
 have hmay := cMay_does mask badge expiry hm hb he
 have hof := ownerOf_does P T owner o (k.ok.ow _ _ ho) (k.owner ho)
 have hL := layFull_does P T owner o hq 0 object mask badge 1 expiry
 refine does_of Tryz.func14 Tryz.ntmps14 rfl rfl rfl (fun w0 F0 => ?_)
 (repeat' (first|refine g_seq (h:=?_)|refine g_region (h:=?_)|refine l_nil (h:=?_)|refine n_then (h:=?_)|refine l_pures1 (h:=?_)|(refine l_atc ?_; refine l_call (hi) ?_)|(refine l_atc ?_; refine l_call (hmay) ?_)|(refine l_atc ?_; refine l_call (hof) ?_)|(refine l_atc ?_; refine l_call (hL) ?_)|refine l_guard_yes (h:=?_)|refine l_load (h:=?_)|refine l_store (h:=?_)|(refine l_alloc (h:=?_); intro _)|refine g_skip (h:=?_)|refine g_ret (h:=?_)|refine g_cond_f (h:=?_)))
 refine r_retk [Tx P T] ?_
 exact ⟨rfl, rfl⟩
set_option maxHeartbeats 4000000 in
theorem derive_does (P : TxP) (s : CS) (T : List Ent) (k : CtI P s T) (room : roomC P s) (parent owner mask badge expiry : Nat) (now : Int) (p : Cp) (o : Ow) (hp : s.capAt parent = some p) (hst : s.state parent now = 0) (ho : s.owAt owner = some o) (hm : mask < 65536) (hb : badge < 4294967296) (he : expiry ≤ 268435455) (hs : subB mask p.rights = true) (hd : p.depth < 8) (hq : o.hav < o.limit)
  (hc : Cp.ok (s.cp.length + 1) ⟨parent, p.object, owner, mask, badge, p.depth + 1, expiry, 0, false, true⟩) :
  Does Tryz.prog 15 [.pointer (some ⟨P.t, 0, none⟩), .int .i64 parent, .int .i64 owner, .int .i64 mask, .int .i64 badge, .int .i64 expiry, .int .i64 now] [Tx P T]
   (fun v H => ∃ T', v = .tuple #[.int .i64 (s.cp.length + 1 : Nat), .int .i64 0] ∧ H = [Tx P T'] ∧ Rp T' (s.add ⟨parent, p.object, owner, mask, badge, p.depth + 1, expiry, 0, false, true⟩ ⟨o.name, o.limit, o.hav + 1⟩).val) := by
 have hmay := cMay_does mask badge expiry hm hb he
 have hst2 := state_does P s T parent now p k hp
 rw [hst] at hst2
 have hg := getCapAt_does P s T parent p k hp
 have hof := ownerOf_does P T owner o (k.ok.ow _ _ ho) (k.owner ho)
 have hsb := sub_does mask p.rights hm (k.ok.cp _ _ hp).rights
 rw [hs] at hsb
 have ew : IntKind.i64.wrap ((p.depth : Int) + 1) = ((p.depth + 1 : Nat) : Int) := by rw [wrapI64 (by omega)]; rfl
 have hL : Does Tryz.prog 40 [.pointer (some ⟨P.t, 0, none⟩), .agg (owA owner o), .agg #[.int .i64 0, .int .i64 parent, .int .i64 p.object, .int .i64 0, .int .i64 mask, .int .i64 badge, .int .i64 (IntKind.i64.wrap ((p.depth : Int) + 1)), .int .i64 expiry, .int .i64 0, .bool false]] [Tx P T]
   (fun v H => ∃ T', v = .tuple #[.int .i64 (s.cp.length + 1 : Nat), .int .i64 0] ∧ H = [Tx P T'] ∧ Rp T' (s.add ⟨parent, p.object, owner, mask, badge, p.depth + 1, expiry, 0, false, true⟩ ⟨o.name, o.limit, o.hav + 1⟩).val) := by
  rw [ew]
  exact cLay_does P s T ⟨parent, p.object, owner, mask, badge, p.depth + 1, expiry, 0, false, true⟩ o k room ho hq hc rfl rfl rfl
 refine does_of Tryz.func15 Tryz.ntmps15 rfl rfl rfl (fun w0 F0 => ?_)
 (repeat' (first|refine g_seq (h:=?_)|refine g_region (h:=?_)|refine l_nil (h:=?_)|refine n_then (h:=?_)|refine l_pures1 (h:=?_)|(refine l_atc ?_; refine l_call (hmay) ?_)|(refine l_atc ?_; refine l_call (hst2) ?_)|(refine l_atc ?_; refine l_call (hg) ?_)|(refine l_atc ?_; refine l_call (hof) ?_)|(refine l_atc ?_; refine l_call (hsb) ?_)|(refine l_atc ?_; refine l_call_ (hL) ?_; rintro _ _ _ ⟨T', rfl, rfl, hr⟩ he; cases he)|refine l_load (h:=?_)|refine l_store (h:=?_)|(refine l_alloc (h:=?_); intro _)|refine g_skip (h:=?_)|refine g_ret (h:=?_)|refine g_block (h:=?_)|refine n_block (h:=?_)|refine g_cond_f (h:=?_)|(refine g_spF (h:=?_); intro h)))
 refine r_retk [Tx P T'] ?_
 exact ⟨T', rfl, rfl, hr⟩
set_option maxHeartbeats 4000000 in
theorem deriveFull_does (P : TxP) (s : CS) (T : List Ent) (k : CtI P s T) (parent owner mask badge expiry : Nat) (now : Int) (p : Cp) (o : Ow) (hp : s.capAt parent = some p) (hst : s.state parent now = 0) (ho : s.owAt owner = some o) (hm : mask < 65536) (hb : badge < 4294967296) (he : expiry ≤ 268435455) (hs : subB mask p.rights = true) (hd : p.depth < 8) (hq : ¬ o.hav < o.limit) :
  Does Tryz.prog 15 [.pointer (some ⟨P.t, 0, none⟩), .int .i64 parent, .int .i64 owner, .int .i64 mask, .int .i64 badge, .int .i64 expiry, .int .i64 now] [Tx P T]
   (fun v H => v = .tuple #[.int .i64 0, .int .i64 8] ∧ H = [Tx P T]) := by
 have hmay := cMay_does mask badge expiry hm hb he
 have hst2 := state_does P s T parent now p k hp
 rw [hst] at hst2
 have hg := getCapAt_does P s T parent p k hp
 have hof := ownerOf_does P T owner o (k.ok.ow _ _ ho) (k.owner ho)
 have hsb := sub_does mask p.rights hm (k.ok.cp _ _ hp).rights
 rw [hs] at hsb
 have hL := layFull_does P T owner o hq parent p.object mask badge (IntKind.i64.wrap ((p.depth : Int) + 1)) expiry
 refine does_of Tryz.func15 Tryz.ntmps15 rfl rfl rfl (fun w0 F0 => ?_)
 (repeat' (first|refine g_seq (h:=?_)|refine g_region (h:=?_)|refine l_nil (h:=?_)|refine n_then (h:=?_)|refine l_pures1 (h:=?_)|(refine l_atc ?_; refine l_call (hmay) ?_)|(refine l_atc ?_; refine l_call (hst2) ?_)|(refine l_atc ?_; refine l_call (hg) ?_)|(refine l_atc ?_; refine l_call (hof) ?_)|(refine l_atc ?_; refine l_call (hsb) ?_)|(refine l_atc ?_; refine l_call (hL) ?_)|refine l_load (h:=?_)|refine l_store (h:=?_)|(refine l_alloc (h:=?_); intro _)|refine g_skip (h:=?_)|refine g_ret (h:=?_)|refine g_block (h:=?_)|refine n_block (h:=?_)|refine g_cond_f (h:=?_)|(refine g_spF (h:=?_); intro h)))
 refine r_retk [Tx P T] ?_
 exact ⟨rfl, rfl⟩
set_option maxHeartbeats 4000000 in
theorem deriveDeep_does (P : TxP) (s : CS) (T : List Ent) (k : CtI P s T) (parent owner mask badge expiry : Nat) (now : Int) (p : Cp) (o : Ow) (hp : s.capAt parent = some p) (hst : s.state parent now = 0) (ho : s.owAt owner = some o) (hm : mask < 65536) (hb : badge < 4294967296) (he : expiry ≤ 268435455) (hs : subB mask p.rights = true) (hd : ¬ p.depth < 8) :
  Does Tryz.prog 15 [.pointer (some ⟨P.t, 0, none⟩), .int .i64 parent, .int .i64 owner, .int .i64 mask, .int .i64 badge, .int .i64 expiry, .int .i64 now] [Tx P T]
   (fun v H => v = .tuple #[.int .i64 0, .int .i64 9] ∧ H = [Tx P T]) := by
 have hmay := cMay_does mask badge expiry hm hb he
 have hst2 := state_does P s T parent now p k hp
 rw [hst] at hst2
 have hg := getCapAt_does P s T parent p k hp
 have hof := ownerOf_does P T owner o (k.ok.ow _ _ ho) (k.owner ho)
 have hsb := sub_does mask p.rights hm (k.ok.cp _ _ hp).rights
 rw [hs] at hsb
 refine does_of Tryz.func15 Tryz.ntmps15 rfl rfl rfl (fun w0 F0 => ?_)
 (repeat' (first|refine g_seq (h:=?_)|refine g_region (h:=?_)|refine l_nil (h:=?_)|refine n_then (h:=?_)|refine l_pures1 (h:=?_)|(refine l_atc ?_; refine l_call (hmay) ?_)|(refine l_atc ?_; refine l_call (hst2) ?_)|(refine l_atc ?_; refine l_call (hg) ?_)|(refine l_atc ?_; refine l_call (hof) ?_)|(refine l_atc ?_; refine l_call (hsb) ?_)|refine l_load (h:=?_)|refine l_store (h:=?_)|(refine l_alloc (h:=?_); intro _)|refine g_skip (h:=?_)|refine g_ret (h:=?_)|refine n_then_ret (h:=?_)|refine n_block_ret (h:=?_)|refine g_block (h:=?_)|refine g_cond_f (h:=?_)|(refine g_spT (h:=?_); intro h)))
 refine r_retk [Tx P T] ?_
 exact ⟨rfl, rfl⟩
set_option maxHeartbeats 4000000 in
theorem deriveNot_does (P : TxP) (s : CS) (T : List Ent) (k : CtI P s T) (parent owner mask badge expiry : Nat) (now : Int) (p : Cp) (o : Ow) (hp : s.capAt parent = some p) (hst : s.state parent now = 0) (ho : s.owAt owner = some o) (hm : mask < 65536) (hb : badge < 4294967296) (he : expiry ≤ 268435455) (hs : subB mask p.rights = false) :
  Does Tryz.prog 15 [.pointer (some ⟨P.t, 0, none⟩), .int .i64 parent, .int .i64 owner, .int .i64 mask, .int .i64 badge, .int .i64 expiry, .int .i64 now] [Tx P T]
   (fun v H => v = .tuple #[.int .i64 0, .int .i64 7] ∧ H = [Tx P T]) := by
 have hmay := cMay_does mask badge expiry hm hb he
 have hst2 := state_does P s T parent now p k hp
 rw [hst] at hst2
 have hg := getCapAt_does P s T parent p k hp
 have hof := ownerOf_does P T owner o (k.ok.ow _ _ ho) (k.owner ho)
 have hsb := sub_does mask p.rights hm (k.ok.cp _ _ hp).rights
 rw [hs] at hsb
 refine does_of Tryz.func15 Tryz.ntmps15 rfl rfl rfl (fun w0 F0 => ?_)
 (repeat' (first|refine g_seq (h:=?_)|refine g_region (h:=?_)|refine l_nil (h:=?_)|refine n_then (h:=?_)|refine l_pures1 (h:=?_)|(refine l_atc ?_; refine l_call (hmay) ?_)|(refine l_atc ?_; refine l_call (hst2) ?_)|(refine l_atc ?_; refine l_call (hg) ?_)|(refine l_atc ?_; refine l_call (hof) ?_)|(refine l_atc ?_; refine l_call (hsb) ?_)|refine l_load (h:=?_)|refine l_store (h:=?_)|(refine l_alloc (h:=?_); intro _)|refine g_skip (h:=?_)|refine g_ret (h:=?_)|refine n_then_ret (h:=?_)|refine n_block_ret (h:=?_)|refine g_block (h:=?_)|refine g_cond_t (h:=?_)|refine g_cond_f (h:=?_)))
 refine r_retk [Tx P T] ?_
 exact ⟨rfl, rfl⟩
theorem addO_ok {s : CS} (ok : s.ok) {o : Ow} (h : o.ok (s.ow.length + 1)) (hn : s.ow.length < 1000) : (s.addO o).ok where
 ow := fun n o' h' => by
  rw [addO_ow] at h'
  split at h'
  ·rename_i q; cases h'; rw [q]; exact h
  ·exact ok.ow n o' h'
 cp := ok.cp
 par := ok.par
 size := ⟨ok.size.1, by simp [CS.addO]; omega⟩
theorem add_ok {s : CS} (ok : s.ok) {c : Cp} {o o' : Ow} (ho : s.owAt c.owner = some o) (hc : c.ok (s.cp.length + 1)) (ho' : o'.ok c.owner) (hp : c.parent ≠ 0 → ∃ p, s.capAt c.parent = some p ∧ c.depth = p.depth + 1) (hn : s.cp.length < 1000) : (s.add c o').ok where
 ow := fun n x h' => by
  unfold CS.add at h'
  rw [setO_ow (owAt_lt ho)] at h'
  split at h'
  ·rename_i q; cases h'; rw [q]; exact ho'
  ·exact ok.ow n x h'
 cp := fun n x h' => by
  rw [add_cap] at h'
  split at h'
  ·rename_i q; cases h'; rw [q]; exact hc
  ·exact ok.cp n x h'
 par := fun n x h' hne => by
  rw [add_cap] at h'
  split at h'
  ·cases h'
   obtain ⟨p, h1, h2⟩ := hp hne
   have := capAt_lt h1
   exact ⟨p, by rw [add_cap, if_neg (by omega)]; exact h1, h2⟩
  ·obtain ⟨p, h1, h2⟩ := ok.par n x h' hne
   have := capAt_lt h1
   exact ⟨p, by rw [add_cap, if_neg (by omega)]; exact h1, h2⟩
 size := ⟨by simp [CS.add]; omega, by simp [CS.add]; exact ok.size.2⟩
end Go.Proofs.YtelfjhemnnbbpaaGreat
namespace Go.Proofs.YtelfjhemnnbbpaaGreat.SL
section
variable {P : Program} {E : Env} {n : Nat} {w0 : World} {F0 : Nat → Prop} {Q : Exit → Act → World → Prop} {tm : List (Nat × Value)} {D : List Deferred} {H H' : List SProp} {ops rest : List Oper}
variable {ty : TypeId} {pos : String} {after : Array Edge}
def eqInts (E : Env) (xs ys : List Value) : List Field → Option Bool
 | [] => some true
 | f :: l => (match partV E f.type xs f.offset with
  | some (.int k a) => (match partV E f.type ys f.offset with
   | some (.int k' b) => (match look E.ty f.type with
    | some (.int _) => bif (decide (f.name = "_") || !decide (k = k')) then none else (match eqInts E xs ys l with
     | some r => some (a == b && r)
     | none => none)
    | _ => none)
   | _ => none)
  | _ => none)
theorem run_eqInt {t : Nat} {q k : IntKind} (hu : P.underlying t = some (.int q)) (d : Nat) (a b : Int) (w : World) : (Op.equalIn (d + 1) t (.int k a) (.int k b)).run P w = .ok (a == b) w := by
 unfold Op.equalIn
 simp only [Sem.run_bind, run_underlying hu, Result.andThen, if_true, Sem.run_pure]
theorem run_eqList (k : EnvOk P E) {xs ys : Array Value} (d : Nat) (w : World) : ∀ {fs : List Field} {r : Bool}, eqInts E xs.toList ys.toList fs = some r →
  (forIn fs (none, ()) fun (f : Field) (__s : Option Bool × Unit) =>
     (if f.name ≠ "_" then do
      let __do_lift ← part f.type xs f.offset
      let __do_lift_1 ← part f.type ys f.offset
      let __do_lift ← Op.equalIn (d + 1) f.type __do_lift __do_lift_1
      if (!__do_lift) = true then pure (ForInStep.done (some false, ())) else pure (ForInStep.yield (none, ()))
     else pure (ForInStep.yield (none, ())) : Sem (ForInStep (Option Bool × Unit)))).run P w = .ok (if r then (none, ()) else (some false, ())) w
 | [], r, h => by
  simp only [eqInts, Option.some.injEq] at h
  subst h
  simp
 | f :: l, r, h => by
  simp only [eqInts] at h
  split at h
  ·rename_i q a h1
   split at h
   ·rename_i q' b h2
    split at h
    ·rename_i q2 h3
     cases hc : (decide (f.name = "_") || !decide (q = q')) with
     | true => rw [hc] at h; cases h
     | false =>
      rw [hc, cond_false] at h
      simp only [Bool.or_eq_false_iff, decide_eq_false_iff_not, Bool.not_eq_false', decide_eq_true_eq] at hc
      obtain ⟨hn, rfl⟩ := hc
      split at h
      ·rename_i r' h4
       simp only [Option.some.injEq] at h; subst h
       have ih := run_eqList k d w h4
       rw [List.forIn_cons]
       simp only [hn, ne_eq, not_false_eq_true, if_true, Sem.run_bind, partV_sound k h1, partV_sound k h2, run_eqInt (k.under h3), Result.andThen]
       by_cases hab : a = b
       ·subst hab
        simp only [beq_self_eq_true, Bool.not_true, Bool.false_eq_true, if_false, Sem.run_pure, Bool.true_and]
        exact ih
       ·have : (a == b) = false := by simpa using hab
        simp only [this, Bool.not_false, if_true, Sem.run_pure, Bool.false_and, Bool.false_eq_true, if_false]
      ·cases h
    ·cases h
   ·cases h
  ·cases h
theorem run_eqStruct (k : EnvOk P E) {t : Nat} {xs ys : Array Value} {fs : Array Field} {r : Bool} (hu : P.underlying t = some (.struct fs)) (hs : P.stoodInHeld t = false) (h : eqInts E xs.toList ys.toList fs.toList = some r) (w : World) : (Op.equal t (.agg xs) (.agg ys)).run P w = .ok r w := by
 unfold Op.equal
 obtain ⟨d, hd⟩ : ∃ d, Op.maxDepth = d + 1 + 1 := ⟨Op.maxDepth - 2, by decide⟩
 rw [hd]
 unfold Op.equalIn
 have hp : (program).run P w = .ok P w := by simp [program, Sem.run]
 simp only [Sem.run_bind, run_underlying hu, Result.andThen, hp, hs, Bool.false_eq_true, if_false]
 have hl := run_eqList k (xs := xs) (ys := ys) d w h
 rw [← Array.forIn_toList]
 rw [hl]
 cases r <;> simp
class Plain (P : Program) (t : Nat) : Prop where
 it : P.stoodInHeld t = false ∧ P.eqGuardType P.depth t = false
theorem l_eqStruct {d t t2 : Nat} {x y : Operand} {xs ys : Array Value} {fs : Array Field} {r : Bool} (k : EnvOk P E := by refine inferInstance) (hd : Nat.blt d n = true := by refine rfl) (hx : ev tm x = some (.agg xs) := by refine rfl) (hy : ev tm y = some (.agg ys) := by refine rfl) (hu : look E.ty t = some (.struct fs) := by refine rfl) (hr : eqInts E xs.toList ys.toList fs.toList = some r := by refine rfl) (pl : Plain P t := by refine inferInstance)
  (h : L P n w0 F0 ops.toArray rest Q ((d, .bool r) :: tm) D H) : L P n w0 F0 ops.toArray (⟨some d, .binOp .eql t x y t2, ty, pos, after, none⟩ :: rest) Q tm D H := .mk fun a w st => by
 refine wpList_value rfl (v := .bool r) (w' := w) ?_ (h _ _ (st.put hd _))
 have hp : (program).run P w = .ok P w := by simp [program, Sem.run]
 have hg : (eqGuard .eql t x y (.agg xs) (.agg ys)).run P w = .ok () w := by
  unfold eqGuard
  simp [Sem.run_bind, hp, Result.andThen, pl.it.2]
 simp only [execOp, ev_sound st.tm hx, ev_sound st.tm hy, Sem.run_bind, hg, Result.andThen, binOp, run_eqStruct k (k.under hu) pl.it.1 hr, Sem.run_pure]
theorem l_neStruct {d t t2 : Nat} {x y : Operand} {xs ys : Array Value} {fs : Array Field} {r : Bool} (k : EnvOk P E := by refine inferInstance) (hd : Nat.blt d n = true := by refine rfl) (hx : ev tm x = some (.agg xs) := by refine rfl) (hy : ev tm y = some (.agg ys) := by refine rfl) (hu : look E.ty t = some (.struct fs) := by refine rfl) (hr : eqInts E xs.toList ys.toList fs.toList = some r := by refine rfl) (pl : Plain P t := by refine inferInstance)
  (h : L P n w0 F0 ops.toArray rest Q ((d, .bool (!r)) :: tm) D H) : L P n w0 F0 ops.toArray (⟨some d, .binOp .neq t x y t2, ty, pos, after, none⟩ :: rest) Q tm D H := .mk fun a w st => by
 refine wpList_value rfl (v := .bool (!r)) (w' := w) ?_ (h _ _ (st.put hd _))
 have hp : (program).run P w = .ok P w := by simp [program, Sem.run]
 have hg : (eqGuard .neq t x y (.agg xs) (.agg ys)).run P w = .ok () w := by
  unfold eqGuard
  simp [Sem.run_bind, hp, Result.andThen, pl.it.2]
 simp only [execOp, ev_sound st.tm hx, ev_sound st.tm hy, Sem.run_bind, hg, Result.andThen, binOp, run_eqStruct k (k.under hu) pl.it.1 hr, Sem.run_pure]
end
end Go.Proofs.YtelfjhemnnbbpaaGreat.SL
namespace Go.Proofs.YtelfjhemnnbbpaaGreat.SL
section
variable {P : Program} {E : Env} {n : Nat} {w0 : World} {F0 : Nat → Prop} {Q : Exit → Act → World → Prop} {tm : List (Nat × Value)} {D : List Deferred} {H H' : List SProp} {ops rest : List Oper}
variable {ty : TypeId} {pos : String} {after : Array Edge}
theorem l_indexArr {d t e b off m sz by' : Nat} {x i : Operand} {kk : IntKind} {j : Int} {z : Value} (k : EnvOk P E := by refine inferInstance) (hd : Nat.blt d n = true := by refine rfl) (hx : ev tm x = some (.pointer (some ⟨b, off, none⟩)) := by refine rfl) (hi : ev tm i = some (.int kk j) := by refine rfl) (ht : look E.ty t = some (.array m e) := by refine rfl) (he : look E.inf e = some (z, sz, by') := by refine rfl)
  (hb : 0 ≤ j ∧ j < m := by first | assumption | omega | (refine ⟨?_, ?_⟩ <;> omega)) (h : L P n w0 F0 ops.toArray rest Q ((d, .pointer (some ⟨b, off + j.toNat * sz, none⟩)) :: tm) D H) :
  L P n w0 F0 ops.toArray (⟨some d, .indexAddr t x i, ty, pos, after, none⟩ :: rest) Q tm D H := by
 refine .mk fun a w s => ?_
 refine wpList_value rfl (v := .pointer (some ⟨b, off + j.toNat * sz, none⟩)) (w' := w) ?_ (h _ _ (s.put hd _))
 have ha : (⟨b, off, none⟩ : Addr).add (j.toNat * sz) = ⟨b, off + j.toNat * sz, none⟩ := by unfold Addr.add; split <;> simp_all
 simp only [execOp, ev_sound s.tm hx, ev_sound s.tm hi, Instr.indexAt, asIntOf, Instr.sureAddr, Sem.run_bind, Sem.run_pure, Result.andThen, run_underlying (k.under ht), if_pos hb, run_size k he, ha]
end
end Go.Proofs.YtelfjhemnnbbpaaGreat.SL
namespace Go.Proofs.YtelfjhemnnbbpaaGreat.SL
section
variable {P : Program} {E : Env} {n : Nat} {w0 : World} {F0 : Nat → Prop} {Q : Exit → Act → World → Prop} {tm : List (Nat × Value)} {D : List Deferred} {H H' : List SProp} {ops rest : List Oper}
variable {ty : TypeId} {pos : String} {after : Array Edge}
def itr (b : Nat) (s : ByteArray) (p : Nat) : SProp := pts b (.stringIter s p)
theorem itr_get {w : World} {b p : Nat} {s : ByteArray} (i : Inv w0 F0 (itr b s p :: H) w) : w.heap[b]? = some (.stringIter s p) := by
 obtain ⟨⟨F, ⟨_, _, ⟨e, _⟩, _⟩, _⟩, _⟩ := i
 exact e
theorem l_range_str {d t : Nat} {x : Operand} {s : ByteArray} (k : EnvOk P E := by refine inferInstance) (hd : Nat.blt d n = true := by refine rfl) (hx : ev tm x = some (.string s) := by refine rfl) (ht : look E.ty t = some .string := by refine rfl)
  (h : ∀ b, L P n w0 F0 ops.toArray rest Q ((d, .pointer (some ⟨b, 0, none⟩)) :: tm) D (itr b s 0 :: H)) : L P n w0 F0 ops.toArray (⟨some d, .range t x, ty, pos, after, none⟩ :: rest) Q tm D H := by
 refine .mk fun a w st => ?_
 refine wpList_value rfl (v := .pointer (some ⟨w.heap.size, 0, none⟩)) (w' := w.iter s 0) ?_ (h w.heap.size _ _ ⟨st.tm.put hd _, st.defers, st.inv.alloc _⟩)
 simp [execOp, ev_sound st.tm hx, run_range_string _ _ _ (k.under ht)]
theorem run_next_str {w : World} {b p r c : Nat} {s : ByteArray} (hw : w.heap[b]? = some (.stringIter s p)) (hp : p < s.size) (hdec : Utf8.decode s p = (r, c)) :
  (Instr.next (.pointer (some ⟨b, 0, none⟩)) true ty).run P w = .ok (.tuple #[.bool true, .int .i64 p, .int .i32 r]) { w with heap := w.heap.setIfInBounds b (.stringIter s (p + c)) } := by
 simp [Instr.next, getObj, setObj, Sem.run_bind, Sem.run, Result.andThen, hw, hp, hdec, goInt]
theorem l_next_str {d b p r c : Nat} {it : Operand} {s : ByteArray} (hd : Nat.blt d n = true := by refine rfl) (hx : ev tm it = some (.pointer (some ⟨b, 0, none⟩)) := by refine rfl) (tk : Take (itr b s p) H H' := by with_reducible (repeat (first | refine Take.here | apply Take.there)))
  (hp : p < s.size := by assumption) (hdec : Utf8.decode s p = (r, c) := by assumption)
  (h : L P n w0 F0 ops.toArray rest Q ((d, .tuple #[.bool true, .int .i64 p, .int .i32 r]) :: tm) D (itr b s (p + c) :: H')) : L P n w0 F0 ops.toArray (⟨some d, .next it true, ty, pos, after, none⟩ :: rest) Q tm D H := by
 refine .mk fun a w st => ?_
 have hi := st.inv.take tk
 have hw := itr_get hi
 have hbl := lt_of_some hw
 refine wpList_value rfl (v := .tuple #[.bool true, .int .i64 p, .int .i32 r]) (w' := { w with heap := w.heap.setIfInBounds b (.stringIter s (p + c)) }) ?_ (h _ _ ⟨st.tm.put hd _, st.defers, ?_⟩)
 ·simp [execOp, ev_sound st.tm hx, run_next_str hw hp hdec]
 ·refine hi.set1 (fun ⟨_, f⟩ => f) ⟨by simp [Array.getElem?_setIfInBounds, hbl], fun _ => Iff.rfl⟩ (fun c hc => ?_) (by simp) rfl rfl rfl
  simp only
  rw [Array.getElem?_setIfInBounds_ne (Ne.symm hc)]
theorem l_next_end {d b p : Nat} {it : Operand} {s : ByteArray} (hd : Nat.blt d n = true := by refine rfl) (hx : ev tm it = some (.pointer (some ⟨b, 0, none⟩)) := by refine rfl) (tk : Take (itr b s p) H H' := by with_reducible (repeat (first | refine Take.here | apply Take.there)))
  (hp : ¬ p < s.size := by assumption)
  (h : L P n w0 F0 ops.toArray rest Q ((d, .tuple #[.bool false]) :: tm) D (itr b s p :: H')) : L P n w0 F0 ops.toArray (⟨some d, .next it true, ty, pos, after, none⟩ :: rest) Q tm D H := by
 refine .mk fun a w st => ?_
 have hi := st.inv.take tk
 have hw := itr_get hi
 refine wpList_value rfl (v := .tuple #[.bool false]) (w' := w) ?_ (h _ _ ⟨st.tm.put hd _, st.defers, hi⟩)
 have hr : (Instr.next (.pointer (some ⟨b, 0, none⟩)) true ty).run P w = .ok (.tuple #[.bool false]) w := by
  simp [Instr.next, getObj, Sem.run_bind, Sem.run, Result.andThen, hw, hp]
 simp [execOp, ev_sound st.tm hx, hr]
end
end Go.Proofs.YtelfjhemnnbbpaaGreat.SL
set_option maxRecDepth 20000
namespace Go.Proofs.YtelfjhemnnbbpaaGreat
open Go.Proofs.YtelfjhemnnbbpaaGreat.SL
def lett (c : UInt8) : Prop := (97 ≤ c.toNat ∧ c.toNat ≤ 122) ∨ (65 ≤ c.toNat ∧ c.toNat ≤ 90)
def lowB (c : UInt8) : UInt8 := if 65 ≤ c.toNat ∧ c.toNat ≤ 90 then UInt8.ofNat (c.toNat + 32) else c
theorem lowB_nat {c : UInt8} (h : 65 ≤ c.toNat ∧ c.toNat ≤ 90) : (lowB c).toNat = c.toNat + 32 := by
 unfold lowB
 rw [if_pos h]
 have : c.toNat + 32 < 256 := by omega
 simp [Nat.mod_eq_of_lt this]
theorem lowB_low {c : UInt8} (h : ¬ (65 ≤ c.toNat ∧ c.toNat ≤ 90)) : lowB c = c := if_neg h
theorem str_size (l : List UInt8) : (str l).size = l.length := by simp [str, ByteArray.size]
theorem str_dec {l : List UInt8} {i : Nat} (h : i < l.length) (hc : (l[i]).toNat < 128) : Utf8.decode (str l) i = ((l[i]).toNat, 1) := by
 have h2 : i < (str l).size := by rw [str_size]; exact h
 have e : (str l)[i]'h2 = l[i] := by simp [str]; rfl
 have := decode_ascii (str l) i h2 (by rw [e]; exact hc)
 rw [e] at this
 exact this
theorem lPlain_does (r : Nat) (h : (97 ≤ r ∧ r ≤ 122) ∨ (65 ≤ r ∧ r ≤ 90)) : Does Tryz.prog 89 [.int .i32 r] [] (fun v H => v = .bool true ∧ H = []) := by
 refine does_of Tryz.func89 Tryz.ntmps89 rfl rfl rfl (fun w0 F0 => ?_)
 (repeat' (first|refine g_seq (h:=?_)|refine g_region (h:=?_)|refine l_nil (h:=?_)|refine n_then (h:=?_)|refine l_pures1 (h:=?_)|refine l_guard_yes (h:=?_)|refine l_guard_no (h:=?_)|refine g_skip (h:=?_)|refine g_ret (h:=?_)|refine n_then_ret (h:=?_)|refine n_block_ret (h:=?_)|refine g_block (h:=?_)|refine g_cond_f (h:=?_)|(refine l_spT (h:=?_); intro h)|(refine l_sp (h1 := ?_) (h0 := ?_) <;> intro h)|(refine g_spT (h:=?_); intro h)))
 all_goals
  refine r_retk [] ?_
 all_goals exact ⟨rfl, rfl⟩
theorem runes_does (l : List UInt8) (hl : l.length ≤ 1000) (hc : ∀ c ∈ l, c.toNat < 128) : Does Tryz.prog 88 [.string (str l)] [] (fun v H => v = .int .i64 l.length ∧ H = []) := by
 have hsz := str_size l
 refine does_of Tryz.func88 Tryz.ntmps88 rfl rfl rfl (fun w0 F0 => ?_)
 (repeat' (first|refine g_seq (h:=?_)|refine g_region (h:=?_)|refine l_nil (h:=?_)|refine n_then (h:=?_)|refine l_pures1 (h:=?_)|refine g_block (h:=?_)|(refine l_range_str (h:=?_); intro _)))
 rename_i b
 (refine g_loop (fun i : Nat => [(3, .int .i64 i), (5, .pointer (some ⟨b, 0, none⟩))]) (fun i => [itr b (str l) i]) (fun i => i ≤ l.length) (fun i => l.length - i) (0) ?_ ?_ ?_ ?_; rotate_left; (repeat (first | refine ts_nil | (refine ts_cons rfl ?_ ?_; first | (with_reducible rfl) | rotate_left))); (first | (intro _ i; with_reducible refine i) | rotate_left); rotate_left; (try omega); rotate_right)
 ·intro i hi
  by_cases hil : i < l.length
  ·have hp : i < (str l).size := by omega
   have hdec := str_dec hil (hc _ (List.getElem_mem hil))
   (repeat' (first|refine g_seq (h:=?_)|refine g_region (h:=?_)|refine l_nil (h:=?_)|refine n_then (h:=?_)|refine l_pures1 (h:=?_)|refine g_skip (h:=?_)|refine g_block (h:=?_)|refine n_block (h:=?_)|refine g_cond_t (h:=?_)|refine l_next_str (h:=?_)))
   (refine n_back (i + 1) ?_ ?_ ?_ ?_; rotate_left; rotate_left; (repeat (first | refine ts_nil | (refine ts_cons rfl ?_ ?_; first | (with_reducible rfl) | rotate_left))); (first | (intro _ i; with_reducible refine i) | rotate_left); (try omega); (try omega))
   all_goals first
    | exact hil
    | omega
    | (rw [wrapI64 (by omega)]; rfl)
    | (intro _ i; exact inv_keep parts_of i)
    | rfl
  ·obtain rfl : i = l.length := by omega
   have hp : ¬ l.length < (str l).size := by omega
   (repeat' (first|refine g_seq (h:=?_)|refine g_region (h:=?_)|refine l_nil (h:=?_)|refine n_then (h:=?_)|refine l_pures1 (h:=?_)|refine g_ret (h:=?_)|refine g_exit (h:=?_)|refine n_then_exit (h:=?_)|refine n_block_hit (h:=?_)|refine g_cond_f (h:=?_)|refine l_next_end (h:=?_)))
   refine r_retk [] ?_
   exact ⟨rfl, rfl⟩
 all_goals first
  | exact Nat.zero_le _
  | rfl
  | (intro _ i; exact inv_keep parts_of i)
theorem right2_does (l : List UInt8) (h1 : 1 ≤ l.length ∧ l.length ≤ 16) (hc : ∀ c ∈ l, lett c) : Does Tryz.prog 57 [.string (str l)] [] (fun v H => v = .bool true ∧ H = []) := by
 have hsz := str_size l
 have hru := runes_does l (by omega) (fun c h => by have := hc c h; unfold lett at this; omega)
 refine does_of Tryz.func57 Tryz.ntmps57 rfl rfl rfl (fun w0 F0 => ?_)
 (repeat' (first|refine g_seq (h:=?_)|refine g_region (h:=?_)|refine l_nil (h:=?_)|refine n_then (h:=?_)|refine l_pures1 (h:=?_)|(refine l_atc ?_; refine l_call (hru) ?_)|refine l_guard_yes (h:=?_)|refine l_guard_no (h:=?_)|refine g_skip (h:=?_)|refine g_ret (h:=?_)|refine n_then_ret (h:=?_)|refine g_block (h:=?_)|refine g_cond_t (h:=?_)|(refine l_range_str (h:=?_); intro _)|(refine l_spF (h:=?_); intro h)|(refine l_sp (h1 := ?_) (h0 := ?_) <;> intro h)|(refine g_spF (h:=?_); intro h)))
 ·subst h; simp at h1
 rename_i b
 (refine g_loop (fun y : Nat × Nat => [(3, .int .i32 y.2), (19, .pointer (some ⟨b, 0, none⟩))]) (fun y => [itr b (str l) y.1]) (fun y => y.1 ≤ l.length ∧ (0 < y.1 → (97 ≤ y.2 ∧ y.2 ≤ 122) ∨ (65 ≤ y.2 ∧ y.2 ≤ 90))) (fun y => l.length - y.1) ((0, 46)) ?_ ?_ ?_ ?_; rotate_left; (repeat (first | refine ts_nil | (refine ts_cons rfl ?_ ?_; first | (with_reducible rfl) | rotate_left))); (first | (intro _ i; with_reducible refine i) | rotate_left); rotate_left; (try omega); rotate_right)
 ·rintro ⟨i, w⟩ ⟨hi, hw⟩
  dsimp only at hi hw ⊢
  by_cases hil : i < l.length
  ·have hp : i < (str l).size := by omega
   have hlt := hc _ (List.getElem_mem hil)
   obtain ⟨x, hx⟩ : ∃ x, x = l[i] := ⟨_, rfl⟩
   have hdec : Utf8.decode (str l) i = (x.toNat, 1) := by rw [hx]; exact str_dec hil (by have := hlt; unfold lett at this; omega)
   have hlt : lett x := by rw [hx]; exact hlt
   unfold lett at hlt
   have hpl := lPlain_does x.toNat hlt
   (repeat' (first|refine g_seq (h:=?_)|refine g_region (h:=?_)|refine l_nil (h:=?_)|refine n_then (h:=?_)|refine l_pures1 (h:=?_)|(refine l_atc ?_; refine l_call (hpl) ?_)|refine g_skip (h:=?_)|refine g_block (h:=?_)|refine n_block (h:=?_)|refine g_cond_t (h:=?_)|refine l_next_str (h:=?_)))
   (refine n_back ((i + 1, x.toNat)) ?_ ?_ ?_ ?_; rotate_left; rotate_left; (repeat (first | refine ts_nil | (refine ts_cons rfl ?_ ?_; first | (with_reducible rfl) | rotate_left))); (first | (intro _ i; with_reducible refine i) | rotate_left); (try omega); (try omega))
   all_goals first
    | exact ⟨hil, fun _ => hlt⟩
    | omega
    | (dsimp only; omega)
    | (intro _ i; exact inv_keep parts_of i)
    | rfl
  ·obtain rfl : i = l.length := by omega
   have hp : ¬ l.length < (str l).size := by omega
   have hpl := lPlain_does w (hw (by omega))
   (repeat' (first|refine g_seq (h:=?_)|refine g_region (h:=?_)|refine l_nil (h:=?_)|refine n_then (h:=?_)|refine l_pures1 (h:=?_)|(refine l_atc ?_; refine l_call (hpl) ?_)|refine g_ret (h:=?_)|refine g_exit (h:=?_)|refine n_then_exit (h:=?_)|refine n_block_hit (h:=?_)|refine g_cond_f (h:=?_)|refine l_next_end (h:=?_)))
   refine r_retk [] ?_
   exact ⟨rfl, rfl⟩
 all_goals first
  | exact ⟨Nat.zero_le _, fun h => absurd h (by omega)⟩
  | rfl
  | (intro _ i; exact inv_keep parts_of i)
theorem appendRune_does (r cap : Nat) (p : Option Addr) (l : List UInt8) (c : UInt8) (hr : r = c.toNat) (h : r < 128) (hl : l.length < 1000000) : Does Tryz.prog 91 [.slice p l.length cap, .int .i32 r] [vec 5 1 p l.length cap (bsV l)] (fun v H => ∃ p' cap', v = .slice p' (l.length + 1) cap' ∧ H = [vec 5 1 p' (l.length + 1) cap' (bsV (l ++ [c]))]) := by
 have e1 : IntKind.u32.wrap (r : Int) = r := by simp [IntKind.wrap, IntKind.bits, IntKind.signed]; omega
 have e2 : IntKind.u8.wrap (r : Int) = (c.toNat : Int) := by subst hr; simp [IntKind.wrap, IntKind.bits, IntKind.signed]; omega
 refine does_of Tryz.func91 Tryz.ntmps91 rfl rfl rfl (fun w0 F0 => ?_)
 (repeat (first|refine g_seq (h:=?_)|refine g_region (h:=?_)|refine l_nil (h:=?_)|refine n_then (h:=?_)|refine l_pures1 (h:=?_)))
 rw [e1]
 (repeat' (first|refine g_seq (h:=?_)|refine g_region (h:=?_)|refine l_nil (h:=?_)|refine n_then (h:=?_)|refine l_pures1 (h:=?_)|(refine l_buildSlice1 (h:=?_); intro _)|(refine l_append_new (h:=?_); intro _ _)|refine g_ret (h:=?_)|refine n_then_ret (h:=?_)|(refine g_spT (h:=?_); intro h)))
 rename_i b1 p' cap'
 have e3 : bsV l ++ [Value.int .u8 (IntKind.u8.wrap (r : Int))] = bsV (l ++ [c]) := by rw [e2, bsV_append, bsV_one]
 rw [e3]
 refine r_retk [vec 5 1 p' (l.length + 1) cap' (bsV (l ++ [c]))] ?_
 exact ⟨p', cap', rfl, rfl⟩
theorem bWriteRune_does (b : Nat) (l : List UInt8) (c : UInt8) (r : Int) (hr : r = c.toNat) (h : c.toNat < 128) (hl : l.length < 1000000) : Does Tryz.prog 58 [.pointer (some ⟨b, 0, none⟩), .int .i32 r] [Bld b l] (fun v H => (∃ x, v = x) ∧ H = [Bld b (l ++ [c])]) := by
 subst hr
 refine does_of Tryz.func58 Tryz.ntmps58 rfl rfl rfl (fun w0 F0 => ?_)
 refine g_open (A := Bld b l) (h:=?_); (rintro ⟨q, p, cc⟩ hq; dsimp only [BldK, List.cons_append, List.nil_append])
 have ha := appendRune_does c.toNat cc p l c rfl h hl
 have hl1 : (l ++ [c]).length = l.length + 1 := by simp
 rw [← hl1] at ha
 rcases hq with h | h
 ·dsimp only at h; subst h
  (repeat' (first|refine g_seq (h:=?_)|refine g_region (h:=?_)|refine l_nil (h:=?_)|refine n_then (h:=?_)|refine l_pures1 (h:=?_)|(refine l_at 90 ?_; refine l_call (copyCheck_none b (.slice p l.length cc)) ?_)|(refine l_atc ?_; refine l_call_ (ha) ?_; rintro _ _ _ ⟨p', cap', rfl, rfl⟩ he; cases he)|refine l_load (h:=?_)|refine l_store (h:=?_)|refine g_ret (h:=?_)))
  (refine n_shut (A := Bld b (l ++ [c])) (K := BldK b (l ++ [c]) (((some ⟨b, 0, none⟩ : Option Addr), p', cap'))) (hid_shuts (((some ⟨b, 0, none⟩ : Option Addr), p', cap')) (Or.inr rfl)) (h:=?_) (p := by dsimp only [BldK]; (try simp only [List.map_nil, List.length_nil, List.length_set, List.length_append, List.length_cons, List.length_singleton, List.map_append, List.map_cons, Nat.zero_add, bsV_append, bsV_one]); exact parts_of))
  refine r_retk [Bld b (l ++ [c])] ?_
  exact ⟨⟨_, rfl⟩, rfl⟩
 ·dsimp only at h; subst h
  (repeat' (first|refine g_seq (h:=?_)|refine g_region (h:=?_)|refine l_nil (h:=?_)|refine n_then (h:=?_)|refine l_pures1 (h:=?_)|(refine l_at 90 ?_; refine l_call (copyCheck_some b (.slice p l.length cc)) ?_)|(refine l_atc ?_; refine l_call_ (ha) ?_; rintro _ _ _ ⟨p', cap', rfl, rfl⟩ he; cases he)|refine l_load (h:=?_)|refine l_store (h:=?_)|refine g_ret (h:=?_)))
  (refine n_shut (A := Bld b (l ++ [c])) (K := BldK b (l ++ [c]) (((some ⟨b, 0, none⟩ : Option Addr), p', cap'))) (hid_shuts (((some ⟨b, 0, none⟩ : Option Addr), p', cap')) (Or.inr rfl)) (h:=?_) (p := by dsimp only [BldK]; (try simp only [List.map_nil, List.length_nil, List.length_set, List.length_append, List.length_cons, List.length_singleton, List.map_append, List.map_cons, Nat.zero_add, bsV_append, bsV_one]); exact parts_of))
  refine r_retk [Bld b (l ++ [c])] ?_
  exact ⟨⟨_, rfl⟩, rfl⟩
def lowL (l : List UInt8) : List UInt8 := l.map lowB
theorem fold_letters (l : List UInt8) (h1 : 1 ≤ l.length ∧ l.length ≤ 16) (hc : ∀ c ∈ l, lett c) : FoldTo l (lowL l) := by
 unfold FoldTo
 have hsz := str_size l
 have hri := right2_does l h1 hc
 have hll : (lowL l).length = l.length := by simp [lowL]
 refine does_of Tryz.func29 Tryz.ntmps29 rfl rfl rfl (fun w0 F0 => ?_)
 (repeat' (first|refine g_seq (h:=?_)|refine g_region (h:=?_)|refine l_nil (h:=?_)|refine n_then (h:=?_)|refine l_pures1 (h:=?_)|(refine l_atc ?_; refine l_call (hri) ?_)|(refine l_alloc (h:=?_); intro _)|refine g_skip (h:=?_)|refine g_block (h:=?_)|refine g_cond_f (h:=?_)|(refine l_range_str (h:=?_); intro _)))
 rename_i b1 b
 refine g_inv (fun i => vec_nil (5) (1) i) ?_
 (refine g_shut (A := Bld b1 []) (K := BldK b1 [] (((none : Option Addr), (none : Option Addr), 0))) (hid_shuts (((none : Option Addr), (none : Option Addr), 0)) (Or.inl rfl)) (h:=?_) (p := by dsimp only [BldK]; (try simp only [List.map_nil, List.length_nil, List.length_set, List.length_append, List.length_cons, List.length_singleton, List.map_append, List.map_cons, Nat.zero_add, bsV]); exact parts_of))
 (refine g_loop (fun i : Nat => [(11, .pointer (some ⟨b, 0, none⟩)), (4, .pointer (some ⟨b1, 0, none⟩))]) (fun i => [itr b (str l) i, Bld b1 (lowL (l.take i))]) (fun i => i ≤ l.length) (fun i => l.length - i) (0) ?_ ?_ ?_ ?_; rotate_left; (repeat (first | refine ts_nil | (refine ts_cons rfl ?_ ?_; first | (with_reducible rfl) | rotate_left))); (first | (intro _ i; with_reducible refine i) | rotate_left); rotate_left; (try omega); rotate_right)
 ·intro i hi
  by_cases hil : i < l.length
  ·have hp : i < (str l).size := by omega
   have hlt := hc _ (List.getElem_mem hil)
   obtain ⟨x, hx⟩ : ∃ x, x = l[i] := ⟨_, rfl⟩
   have hdec : Utf8.decode (str l) i = (x.toNat, 1) := by rw [hx]; exact str_dec hil (by have := hlt; unfold lett at this; omega)
   have hlt : lett x := by rw [hx]; exact hlt
   unfold lett at hlt
   have hnx : lowL (l.take (i + 1)) = lowL (l.take i) ++ [lowB x] := by
    rw [List.take_succ_eq_append_getElem hil, hx]; unfold lowL; rw [List.map_append]; rfl
   have hlk : (lowL (l.take i)).length < 1000000 := by simp [lowL]; omega
   by_cases q : 65 ≤ x.toNat ∧ x.toNat ≤ 90
   ·have hwr := bWriteRune_does b1 (lowL (l.take i)) (lowB x) (IntKind.i32.wrap ((x.toNat : Int) + 32)) (by rw [lowB_nat q]; simp [IntKind.wrap, IntKind.bits, IntKind.signed]; omega) (by rw [lowB_nat q]; omega) hlk
    rw [← hnx] at hwr
    (repeat' (first|refine g_seq (h:=?_)|refine g_region (h:=?_)|refine l_nil (h:=?_)|refine n_then (h:=?_)|refine l_pures1 (h:=?_)|(refine l_atc ?_; refine l_call_ (hwr) ?_; rintro _ _ _ ⟨⟨_, rfl⟩, rfl⟩ he; cases he)|refine l_guard_yes (h:=?_)|refine g_skip (h:=?_)|refine g_block (h:=?_)|refine n_block (h:=?_)|refine g_cond_t (h:=?_)|refine l_next_str (h:=?_)|(refine l_spT (h:=?_); intro h)|(refine g_spT (h:=?_); intro h)))
    (refine n_back (i + 1) ?_ ?_ ?_ ?_; rotate_left; rotate_left; (repeat (first | refine ts_nil | (refine ts_cons rfl ?_ ?_; first | (with_reducible rfl) | rotate_left))); (first | (intro _ i; with_reducible refine i) | rotate_left); (try omega); (try omega))
    all_goals first
     | exact hil
     | omega
     | (intro _ i; exact inv_keep parts_of i)
     | rfl
   ·have hwr := bWriteRune_does b1 (lowL (l.take i)) (lowB x) (x.toNat : Int) (by rw [lowB_low q]) (by rw [lowB_low q]; omega) hlk
    rw [← hnx] at hwr
    (repeat' (first|refine g_seq (h:=?_)|refine g_region (h:=?_)|refine l_nil (h:=?_)|refine n_then (h:=?_)|refine l_pures1 (h:=?_)|(refine l_atc ?_; refine l_call_ (hwr) ?_; rintro _ _ _ ⟨⟨_, rfl⟩, rfl⟩ he; cases he)|refine l_guard_yes (h:=?_)|refine g_skip (h:=?_)|refine g_block (h:=?_)|refine n_block (h:=?_)|refine g_cond_t (h:=?_)|refine l_next_str (h:=?_)|(refine l_spT (h:=?_); intro h)|(refine g_spF (h:=?_); intro h)))
    (refine n_back (i + 1) ?_ ?_ ?_ ?_; rotate_left; rotate_left; (repeat (first | refine ts_nil | (refine ts_cons rfl ?_ ?_; first | (with_reducible rfl) | rotate_left))); (first | (intro _ i; with_reducible refine i) | rotate_left); (try omega); (try omega))
    all_goals first
     | exact hil
     | omega
     | (intro _ i; exact inv_keep parts_of i)
     | rfl
  ·obtain rfl : i = l.length := by omega
   have hp : ¬ l.length < (str l).size := by omega
   have hstr := bString_does b1 (lowL l) (by omega)
   rw [List.take_length]
   (repeat' (first|refine g_seq (h:=?_)|refine g_region (h:=?_)|refine l_nil (h:=?_)|refine n_then (h:=?_)|refine l_pures1 (h:=?_)|(refine l_atc ?_; refine l_call (hstr) ?_)|refine g_ret (h:=?_)|refine g_exit (h:=?_)|refine n_then_exit (h:=?_)|refine n_block_hit (h:=?_)|refine g_cond_f (h:=?_)|refine l_next_end (h:=?_)))
   refine r_retk [] ?_
   exact ⟨rfl, rfl⟩
 all_goals first
  | exact Nat.zero_le _
  | rfl
  | (intro _ i; rw [show lowL (l.take 0) = [] from rfl]; exact inv_keep parts_of i)
end Go.Proofs.YtelfjhemnnbbpaaGreat

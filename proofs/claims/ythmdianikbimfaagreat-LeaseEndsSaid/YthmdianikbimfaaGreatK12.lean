/- Texts LeP, LeE, RowL, RowS, joined. -/
import Derived.SliceStrings
import Derived.ChangeSlices
import Derived.Carry
import Derived.Test.YthmdianikbimfaaGreatK11
set_option linter.unusedVariables false
set_option linter.unusedSimpArgs false
set_option maxRecDepth 20000
namespace Go.Proofs.YthmdianikbimfaaGreat
open Go.Proofs.YthmdianikbimfaaGreat.SL
theorem pick16_does (c : Int) (n : Nat) (hc : -9223372036854775808 ≤ c ∧ c < 9223372036854775808) (hn : 0 < n ∧ n < 1000000) : Does Tryz.prog 10 [.int .i64 c, .int .i64 n] [] (fun v H => v = .int .i64 (pkN c n : Nat) ∧ H = []) := by
  have key : ∀ x : Int, 0 ≤ x → x.tmod (n : Int) = ((x.toNat % n : Nat) : Int) := fun x hx => by
    obtain ⟨m, rfl⟩ := Int.eq_ofNat_of_zero_le hx
    rw [Int.tmod_eq_emod_of_nonneg hx, Int.toNat_natCast]; rfl
  have hlt := pkN_lt c hn.1
  by_cases q : c < 0
  · have e1 : IntKind.i64.wrap (c + 1) = c + 1 := wrapI64 (by omega)
    have e2 : IntKind.i64.wrap (-(IntKind.i64.wrap (c + 1))) = -(c + 1) := by rw [e1, wrapI64 (by omega)]
    have e3 : IntKind.i64.wrap (0 - (IntKind.i64.wrap (c + 1))) = -(c + 1) := by rw [e1, wrapI64 (by omega)]; omega
    have e4 : (pkN c n : Int) = (-(c + 1)).tmod n := by rw [key _ (by omega)]; unfold pkN; rw [if_pos q]
    refine does_of Tryz.func10 Tryz.ntmps10 rfl rfl rfl (fun w0 F0 => ?_)
    (repeat' (first | refine g_seq (h := ?_) | refine g_region (h := ?_) | refine l_nil (h := ?_) | refine n_then (h := ?_) | refine l_pures1 (h := ?_) | refine l_rem (h := ?_) | refine g_ret (h := ?_) | (refine g_spT (h := ?_); intro h)))
    refine r_retk [] ?_
    refine ⟨?_, rfl⟩
    show Value.int _ _ = _
    first | rw [e2, e4] | rw [e3, e4]
    try rw [wrapI64 (by omega)]
  · have e4 : (pkN c n : Int) = c.tmod n := by rw [key _ (by omega)]; unfold pkN; rw [if_neg q]
    refine does_of Tryz.func10 Tryz.ntmps10 rfl rfl rfl (fun w0 F0 => ?_)
    (repeat' (first | refine g_seq (h := ?_) | refine g_region (h := ?_) | refine l_nil (h := ?_) | refine n_then (h := ?_) | refine l_pures1 (h := ?_) | refine l_rem (h := ?_) | refine g_skip (h := ?_) | refine g_ret (h := ?_) | (refine g_spF (h := ?_); intro h)))
    refine r_retk [] ?_
    refine ⟨?_, rfl⟩
    show Value.int _ _ = _
    rw [e4]
    try rw [wrapI64 (by omega)]
theorem late_any (now : Nat) : ∀ (l : List (Nat × Cp)), l.any (fun e => late now e.2) = decide (0 < endsL l ∧ endsL l ≤ now)
  | [] => by simp [endsL]
  | e :: l => by
    rw [List.any_cons, late_any now l, endsL_cons]
    unfold late lmin
    by_cases h1 : e.2.expiry = 0
    · simp [h1]
    · have h2 : 0 < e.2.expiry := by omega
      by_cases h3 : endsL l = 0
      · simp [h1, h2, h3]
      · have h4 : 0 < endsL l := by omega
        simp only [h1, h2, h3, h4, if_false, decide_true, Bool.true_and, true_and]
        by_cases h5 : e.2.expiry ≤ now <;> by_cases h6 : endsL l ≤ now <;> simp [h5, h6] <;> omega
theorem state_clean {s : CS} (ok : s.ok) (cl : s.clean) {n : Nat} {c : Cp} (h : s.capAt n = some c) (now : Nat) : s.state n now = if 0 < endsL (s.up 9 n) ∧ endsL (s.up 9 n) ≤ now then 11 else 0 := by
  unfold CS.state
  rw [if_neg (by rw [h]; simp), bad_clean ok cl 9 n none (fun _ e => by cases e), if_neg (by simp), late_any]
  simp only [decide_eq_true_eq]
end Go.Proofs.YthmdianikbimfaaGreat
set_option maxRecDepth 20000
namespace Go.Proofs.YthmdianikbimfaaGreat
open Go.Proofs.YthmdianikbimfaaGreat.SL
theorem lmin_is2 (k E : Nat) : (0 < k ∧ (E = 0 ∨ k < E) ∧ lmin k E = k) ∨ (¬ (0 < k ∧ (E = 0 ∨ k < E)) ∧ lmin k E = E) := by
  unfold lmin
  repeat' split
  all_goals omega
structure EndI (i : Nat) (s : CS) : Prop where
  ok : s.ok
  cl : s.clean
  ow : s.ow = [⟨[120], 100, s.cp.length⟩]
  len : s.cp.length = i
  top : i ≠ 0 → ∃ c, s.capAt i = some c ∧ c.depth = i ∧ c.rights = 1 ∧ c.object = 1
theorem end_add {i : Nat} {s : CS} (h : EndI i s) (hi : i < 8) {k : Nat} (hk : k < 61) {s' : CS} (hs : s' = s.add ⟨i, 1, 1, 1, 0, i + 1, k, 0, false, true⟩ ⟨[120], 100, i + 1⟩) :
    EndI (i + 1) s' ∧ s'.capAt (i + 1) = some ⟨i, 1, 1, 1, 0, i + 1, k, 0, false, true⟩ ∧ endsL (s'.up 9 (i + 1)) = lmin k (endsL (s.up 9 i)) := by
  have hl := h.len
  have ho : s.owAt 1 = some ⟨[120], 100, i⟩ := by unfold CS.owAt; rw [h.ow, hl]; rfl
  have hc : Cp.ok (i + 1) ⟨i, 1, 1, 1, 0, i + 1, k, 0, false, true⟩ := cpOk_of (by simp [cpOkB]; omega)
  have hok : s'.ok := by
    rw [hs]
    refine add_ok h.ok ho (by rw [hl]; exact hc) (hav_ok (h.ok.ow _ _ ho) (by show i < 100; omega)) (fun hne => ?_) (by omega)
    obtain ⟨c, h1, h2, _⟩ := h.top hne
    exact ⟨c, h1, by show i + 1 = c.depth + 1; omega⟩
  have hcap : s'.capAt (i + 1) = some ⟨i, 1, 1, 1, 0, i + 1, k, 0, false, true⟩ := by rw [hs, add_cap, hl, if_pos rfl]
  have hcl : s'.cp.length = i + 1 := by rw [hs]; simp [CS.add, hl]
  refine ⟨⟨hok, by rw [hs]; exact add_clean h.cl rfl rfl, ?_, hcl, fun _ => ⟨_, hcap, rfl, rfl, rfl⟩⟩, hcap, ?_⟩
  · rw [hcl, hs]; simp [CS.add, h.ow]
  · rw [up_step hok hcap, endsL_cons]
    show lmin k (endsL (if i = 0 then [] else s'.up 9 i)) = _
    by_cases q : i = 0
    · subst q
      have h0 : s.up 9 0 = [] := up_none (by unfold CS.capAt; rfl)
      rw [if_pos rfl, h0]
    · rw [if_neg q]
      obtain ⟨c, h1, _⟩ := h.top q
      rw [hs, up_add h.ok _ _ 9 _ c h1]
def enS : CS := ⟨[⟨[120], 100, 0⟩], []⟩
theorem end0 : EndI 0 enS where
  ok := addO_ok z_ok (o := ⟨[120], 100, 0⟩) ⟨by decide, fold1 120 (by decide), by decide, by decide, by decide⟩ (by simp [CS.z])
  cl := fun n c h => by have := capAt_lt h; simp [enS] at this; omega
  ow := rfl
  len := rfl
  top := fun h => absurd rfl h
set_option maxHeartbeats 8000000 in
theorem LeaseEnds_does (p : Option Addr) (ks : List Int) (cap : Nat) (o : Obj) (now0 ren0 : Int) (hk : ∀ z ∈ ks, (Lit.int .i64 z).wf = true) (hl : ks.length ≤ 9223372036854775807) (b1 : -9223372036854775808 ≤ now0 ∧ now0 < 9223372036854775808) (b2 : -9223372036854775808 ≤ ren0 ∧ ren0 < 9223372036854775808) :
    Does Tryz.prog 4 [.slice p ks.length cap, .int .i64 now0, .int .i64 ren0] [ins p ks.length (ks.map encZ') o] (fun v H => v = .bool true ∧ H = [ins p ks.length (ks.map encZ') o]) := by
  have hpn : Does Tryz.prog 10 [.int .i64 now0, .int .i64 50] [] (fun v H => v = .int .i64 (pkN now0 50 : Nat) ∧ H = []) := pick16_does now0 50 b1 (by omega)
  have hpr : Does Tryz.prog 10 [.int .i64 ren0, .int .i64 60] [] (fun v H => v = .int .i64 (pkN ren0 60 : Nat) ∧ H = []) := pick16_does ren0 60 b2 (by omega)
  have hN := pkN_lt now0 (n := 50) (by omega)
  have hr := pkN_lt ren0 (n := 60) (by omega)
  obtain ⟨N, hNe⟩ : ∃ N, N = pkN now0 50 := ⟨_, rfl⟩
  obtain ⟨r, hre⟩ : ∃ r, r = pkN ren0 60 := ⟨_, rfl⟩
  rw [← hNe] at hpn hN
  rw [← hre] at hpr hr
  clear hNe hre b1 b2
  refine does_of Tryz.func4 Tryz.ntmps4 rfl rfl rfl (fun w0 F0 => ?_)
  (repeat (first | refine g_seq (h := ?_) | refine g_region (h := ?_) | refine l_nil (h := ?_) | refine n_then (h := ?_) | refine l_pures1 (h := ?_) | (refine l_atc ?_; refine l_call (examples16_does) ?_) | (refine l_atc ?_; refine l_call_ (made16c_does) ?_; rintro _ _ _ ⟨t, db, sb, rfl, rfl⟩ he; cases he) | refine g_skip (h := ?_) | refine g_cond_f (h := ?_)))
  have h1 : Does Tryz.prog 9 [.pointer (some ⟨t, 0, none⟩), .string { data := #[120] }, .int .i64 100] [Ct (TxP.new t sb db 640) CS.z] (fun v H => v = .tuple #[.int .i64 1, .int .i64 0] ∧ H = [Ct (TxP.new t sb db 640) enS]) :=
    cReg_does (TxP.new t sb db 640) CS.z (roomNew (by simp [CS.z])) [120] [120] 100 (fold1 120 (by decide)) (fold1 120 (by decide)) (by decide) (by decide) (by simp [CS.z]) (z_isNm _)
  (repeat' (first | refine g_seq (h := ?_) | refine g_region (h := ?_) | refine l_nil (h := ?_) | refine n_then (h := ?_) | refine l_pures1 (h := ?_) | (refine l_atc ?_; refine l_call (h1) ?_) | (refine l_atc ?_; refine l_call (hpn) ?_) | refine g_block (h := ?_)))
  clear h1 hpn
  (refine g_loop (fun y : Nat × CS => [(13, .int .i64 y.1), (12, .int .i64 y.1), (11, .int .i64 (endsL (y.2.up 9 y.1) : Nat)), (10, .int .i64 0), (8, .pointer (some ⟨t, 0, none⟩)), (7, .bool true), (2, .int .i64 ren0), (1, .int .i64 N), (0, .slice p ks.length cap)]) (fun y => [Ct (TxP.new t sb db 640) y.2, ins p ks.length (ks.map encZ') o]) (fun y => y.1 ≤ ks.length ∧ y.1 ≤ 8 ∧ EndI y.1 y.2) (fun y => 8 - y.1) ((0, enS)) ?_ ?_ ?_ ?_; rotate_left; (repeat (first | refine ts_nil | (refine ts_cons rfl ?_ ?_; first | (with_reducible rfl) | rotate_left))); (first | (intro _ i; with_reducible refine i) | rotate_left); rotate_left; (try omega); rotate_right)
  · rintro ⟨i, s⟩ ⟨hi, hi8, hI⟩
    dsimp only at hi hi8 hI ⊢
    have hlen := hI.len
    have how : s.owAt 1 = some ⟨[120], 100, i⟩ := by unfold CS.owAt; rw [hI.ow, hlen]; rfl
    by_cases hil : i < ks.length ∧ i < 8
    · refine g_open (o := ins_opens (p := p) (m := ks.length) (by omega)) (h := ?_); (rintro ⟨gb, off, row, fr, T0⟩ ⟨rfl, rfl, v5, v6, v7⟩; dsimp only [List.cons_append, List.nil_append])
      have hgt : row[off + i * 1]? = some (encZ' (ks.getD i 0)) := ins_get v5 hil.1 (by rw [List.getElem?_map, List.getD, List.getElem?_eq_getElem hil.1]; rfl)
      have hw := wf_i64 (hk _ (getD_mem hil.1 (z := 0)))
      obtain ⟨z, hz⟩ : ∃ z, z = ks.getD i 0 := ⟨_, rfl⟩
      rw [← hz] at hgt hw
      have hgt : row[off + i * 1]? = some (.int .i64 z) := hgt
      have hpk : Does Tryz.prog 10 [.int .i64 z, .int .i64 41] [] (fun v H => v = .int .i64 (pkN z 41 : Nat) ∧ H = []) := pick16_does z 41 hw (by omega)
      have hkl := pkN_lt z (n := 41) (by omega)
      obtain ⟨k, hkk⟩ : ∃ k, k = pkN z 41 := ⟨_, rfl⟩
      rw [← hkk] at hpk hkl
      obtain ⟨s', hs'⟩ : ∃ s', s' = s.add ⟨i, 1, 1, 1, 0, i + 1, k, 0, false, true⟩ ⟨[120], 100, i + 1⟩ := ⟨_, rfl⟩
      obtain ⟨hI', hcap', hend'⟩ := end_add hI (by omega) (by omega) hs'
      have hlm := lmin_is2 k (endsL (s.up 9 i))
      obtain ⟨E, hEe⟩ : ∃ E, E = endsL (s.up 9 i) := ⟨_, rfl⟩
      rw [← hEe] at hlm hend'
      rw [← hEe]
      by_cases h0 : i = 0
      · have hM : Does Tryz.prog 11 [.pointer (some ⟨t, 0, none⟩), .int .i64 1, .int .i64 1, .int .i64 1, .int .i64 0, .int .i64 k] [Ct (TxP.new t sb db 640) s] (fun v H => v = .tuple #[.int .i64 (i + 1 : Nat), .int .i64 0] ∧ H = [Ct (TxP.new t sb db 640) s']) := by
          have := cMint_does (TxP.new t sb db 640) s (roomNew (by rw [hI.ow, hlen]; simp; omega)) 1 1 1 0 k ⟨[120], 100, i⟩ how (by omega) (by omega) (by omega) (by omega) (by show i < 100; omega) (by omega)
          rw [hlen] at this
          have e : s' = s.add ⟨0, 1, 1, 1, 0, 1, k, 0, false, true⟩ ⟨[120], 100, i + 1⟩ := by rw [hs', h0]
          rw [e]
          exact this
        clear hs' hcap' hkk how hz hEe
        (repeat' (first | refine g_seq (h := ?_) | refine g_region (h := ?_) | refine l_nil (h := ?_) | refine n_then (h := ?_) | refine l_pures1 (h := ?_) | (refine l_atc ?_; refine l_call (hpk) ?_) | refine l_guard_yes (h := ?_) | refine l_load_p (h := ?_) | refine l_indexAddr (h := ?_) | refine g_skip (h := ?_) | refine g_block (h := ?_) | (refine l_spT (h := ?_); intro h) | (refine g_spT (h := ?_); intro h)))
        refine l_shut (ins_shuts v5 v6 v7) (h := ?_)
        (repeat' (first | refine g_seq (h := ?_) | refine g_region (h := ?_) | refine l_nil (h := ?_) | refine n_then (h := ?_) | refine l_pures1 (h := ?_) | (refine l_atc ?_; refine l_call (hM) ?_) | refine l_guard_yes (h := ?_) | refine l_guard_no (h := ?_) | refine l_guard_un (h := ?_) | refine g_skip (h := ?_) | refine n_block (h := ?_) | refine g_cond_t (h := ?_) | refine g_cond_f (h := ?_) | (refine l_sp (h1 := ?_) (h0 := ?_) <;> intro h) | (refine g_sp (h1 := ?_) (h0 := ?_) <;> intro h)))
        all_goals
          (refine n_back ((i + 1, s')) ?_ ?_ ?_ ?_; rotate_left; rotate_left; (repeat (first | refine ts_nil | (refine ts_cons rfl ?_ ?_; first | (with_reducible rfl) | rotate_left))); (first | (intro _ i; with_reducible refine i) | rotate_left); (try omega); (try omega))
        all_goals first
          | exact ⟨hil.1, hil.2, hI'⟩
          | omega
          | (dsimp only; omega)
          | (rw [wrapI64 (by omega)]; rfl)
          | (dsimp only; rw [hend']; congr 1; omega)
          | (intro _ i; exact inv_keep parts_of i)
          | rfl
      · have hDr : Does Tryz.prog 14 [.pointer (some ⟨t, 0, none⟩), .int .i64 i, .int .i64 1, .int .i64 1, .int .i64 0, .int .i64 k, .int .i64 0] [Ct (TxP.new t sb db 640) s] (fun v H => v = .tuple #[.int .i64 (i + 1 : Nat), .int .i64 0] ∧ H = [Ct (TxP.new t sb db 640) s']) := by
          obtain ⟨c, t1, t2, t3, t4⟩ := hI.top h0
          have := cDer_does (TxP.new t sb db 640) s (roomNew (by rw [hI.ow, hlen]; simp; omega)) i 1 1 0 k 0 c ⟨[120], 100, i⟩ t1 (state0 hI.ok hI.cl t1) how (by omega) (by omega) (by omega) (by rw [t3]; decide) (by omega) (by show i < 100; omega) (by omega)
          rw [hlen, t2, t4, ← hs'] at this
          exact this
        clear hs' hcap' hkk how hz hEe
        (repeat' (first | refine g_seq (h := ?_) | refine g_region (h := ?_) | refine l_nil (h := ?_) | refine n_then (h := ?_) | refine l_pures1 (h := ?_) | (refine l_atc ?_; refine l_call (hpk) ?_) | refine l_guard_yes (h := ?_) | refine l_load_p (h := ?_) | refine l_indexAddr (h := ?_) | refine g_skip (h := ?_) | refine g_block (h := ?_) | (refine l_spT (h := ?_); intro h) | (refine g_spT (h := ?_); intro h) | (refine g_spF (h := ?_); intro h)))
        refine l_shut (ins_shuts v5 v6 v7) (h := ?_)
        (repeat' (first | refine g_seq (h := ?_) | refine g_region (h := ?_) | refine l_nil (h := ?_) | refine n_then (h := ?_) | refine l_pures1 (h := ?_) | (refine l_atc ?_; refine l_call (hDr) ?_) | refine l_guard_yes (h := ?_) | refine l_guard_no (h := ?_) | refine l_guard_un (h := ?_) | refine g_skip (h := ?_) | refine n_block (h := ?_) | refine g_cond_t (h := ?_) | refine g_cond_f (h := ?_) | (refine l_sp (h1 := ?_) (h0 := ?_) <;> intro h) | (refine g_sp (h1 := ?_) (h0 := ?_) <;> intro h)))
        all_goals
          (refine n_back ((i + 1, s')) ?_ ?_ ?_ ?_; rotate_left; rotate_left; (repeat (first | refine ts_nil | (refine ts_cons rfl ?_ ?_; first | (with_reducible rfl) | rotate_left))); (first | (intro _ i; with_reducible refine i) | rotate_left); (try omega); (try omega))
        all_goals first
          | exact ⟨hil.1, hil.2, hI'⟩
          | omega
          | (dsimp only; omega)
          | (rw [wrapI64 (by omega)]; rfl)
          | (dsimp only; rw [hend']; congr 1; omega)
          | (intro _ i; exact inv_keep parts_of i)
          | rfl
    · by_cases h0 : i = 0
      · clear how hpr
        (repeat' (first | refine g_seq (h := ?_) | refine g_region (h := ?_) | refine l_nil (h := ?_) | refine n_then (h := ?_) | refine l_pures1 (h := ?_) | refine l_guard_yes (h := ?_) | refine l_guard_no (h := ?_) | refine g_ret (h := ?_) | refine n_then_ret (h := ?_) | refine g_exit (h := ?_) | refine n_then_exit (h := ?_) | refine n_block_hit (h := ?_) | refine g_cond_f (h := ?_) | (refine l_spF (h := ?_); intro h) | (refine g_spT (h := ?_); intro h)))
        all_goals
          refine r_retk [ins p ks.length (ks.map encZ') o] ?_
        all_goals exact ⟨rfl, rfl⟩
      · obtain ⟨c, t1, t2, t3, t4⟩ := hI.top h0
        have hE := nEnds_does t sb db s i c t1
        have hst := state_clean hI.ok hI.cl t1 N
        have hS := nState_does t sb db s i N c t1
        rw [hst] at hS
        obtain ⟨E, hEe⟩ : ∃ E, E = endsL (s.up 9 i) := ⟨_, rfl⟩
        rw [← hEe] at hE hS hst
        rw [← hEe]
        have hroom := roomNew (t := t) (sb := sb) (db := db) (s := s) (by rw [hI.ow, hlen]; simp; omega)
        suffices tl : SL.G Tryz.prog 174 w0 F0 (nav [1, 1, 1, 1, 1, 1, 1, 1, 1, 1] (bdy Tryz.f4)) (SL.Post Tryz.prog Tryz.f4 w0 F0 (fun v H => v = .bool true ∧ H = [ins p ks.length (ks.map encZ') o])) [(12, .int .i64 i), (11, .int .i64 E), (10, .int .i64 0), (8, .pointer (some ⟨t, 0, none⟩)), (7, .bool true), (2, .int .i64 ren0), (1, .int .i64 N), (0, .slice p ks.length cap)] [] [Ct (TxP.new t sb db 640) s, ins p ks.length (ks.map encZ') o] by
          (repeat' (first | ((with_reducible show G _ _ _ _ (Code.seq (Code.seq (Code.region 25 _ _) _) _) _ _ _ _); exact g_bang (tl)) | refine g_seq (h := ?_) | refine g_region (h := ?_) | refine l_nil (h := ?_) | refine n_then (h := ?_) | refine l_pures1 (h := ?_) | refine l_guard_yes (h := ?_) | refine l_guard_no (h := ?_) | refine g_exit (h := ?_) | refine n_then_exit (h := ?_) | refine n_block_hit (h := ?_) | refine g_cond_f (h := ?_) | (refine l_sp (h1 := ?_) (h0 := ?_) <;> intro h) | (refine g_spF (h := ?_); intro h)))
        by_cases ho : 0 < E ∧ E ≤ N
        · rw [if_pos ho] at hS hst
          have hRn : Does Tryz.prog 12 [.pointer (some ⟨t, 0, none⟩), .int .i64 i, .int .i64 r, .int .i64 N] [Ct (TxP.new t sb db 640) s] (fun v H => v = .int .i64 11 ∧ H = [Ct (TxP.new t sb db 640) s]) :=
            ct_same fun T k => by have := renewErr_does (TxP.new t sb db 640) s T k i r N c t1 (by rw [hst]; decide); rw [hst] at this; exact this
          clear hst hEe t1 t2 t3 t4 how hlen hroom hI
          obtain ⟨c, hc⟩ : ∃ c, c = nav [1, 1, 1, 1, 1, 1, 1, 1, 1, 1] (bdy Tryz.f4) := ⟨_, rfl⟩
          rw [← hc]
          dsimp only [nav, bdy, Tryz.f4, Option.getD] at hc
          subst hc
          (repeat' (first | refine g_seq (h := ?_) | refine g_region (h := ?_) | refine l_nil (h := ?_) | refine n_then (h := ?_) | refine l_pures1 (h := ?_) | (refine l_atc ?_; refine l_call (hE) ?_) | (refine l_atc ?_; refine l_call (hS) ?_) | (refine l_atc ?_; refine l_call (hpr) ?_) | (refine l_atc ?_; refine l_call (hRn) ?_) | refine l_guard_yes (h := ?_) | refine g_skip (h := ?_) | refine g_ret (h := ?_) | refine n_then_ret (h := ?_) | (refine l_spT (h := ?_); intro h) | (refine g_spT (h := ?_); intro h) | (refine g_spF (h := ?_); intro h)))
          refine r_retk [ins p ks.length (ks.map encZ') o] ?_
          exact ⟨rfl, rfl⟩
        · rw [if_neg ho] at hS hst
          obtain ⟨g, fi, s', hRn, hgf⟩ : ∃ (g : Int) (fi : Bool) (s' : CS), Does Tryz.prog 12 [.pointer (some ⟨t, 0, none⟩), .int .i64 i, .int .i64 r, .int .i64 N] [Ct (TxP.new t sb db 640) s] (fun v H => v = .int .i64 g ∧ H = [Ct (TxP.new t sb db 640) s']) ∧ ((g = 0 ∧ fi = true ∧ (r = 0 ∨ N < r)) ∨ (g = 1 ∧ fi = false ∧ ¬ (r = 0 ∨ N < r))) := by
            by_cases hf : r = 0 ∨ N < r
            · exact ⟨0, true, s.setC i (some (c.renew r)), cRenew_does (TxP.new t sb db 640) s hroom i r N c t1 hst (by omega) hf (by omega), .inl ⟨rfl, rfl, hf⟩⟩
            · exact ⟨1, false, s, ct_same fun T k => renewArg_does (TxP.new t sb db 640) s T k i r N c t1 hst (by omega) (by omega), .inr ⟨rfl, rfl, hf⟩⟩
          clear hst hEe t1 t2 t3 t4 how hlen hroom hI
          suffices tl35 : ∀ b : Bool, b = fi → SL.G Tryz.prog 174 w0 F0 (nav [1, 1, 1, 1, 1, 1, 1, 1, 1, 1, 1, 1, 1, 1, 1, 1, 1, 1] (bdy Tryz.f4)) (SL.Post Tryz.prog Tryz.f4 w0 F0 (fun v H => v = .bool true ∧ H = [ins p ks.length (ks.map encZ') o])) [(22, .bool b), (21, .int .i64 g), (20, .int .i64 0), (18, .int .i64 0), (17, .int .i64 E), (11, .int .i64 E), (10, .int .i64 0), (7, .bool true)] [] [Ct (TxP.new t sb db 640) s', ins p ks.length (ks.map encZ') o] by
            suffices tl29 : ∀ b : Bool, b = false → SL.G Tryz.prog 174 w0 F0 (nav [1, 1, 1, 1, 1, 1, 1, 1, 1, 1, 1, 1, 1] (bdy Tryz.f4)) (SL.Post Tryz.prog Tryz.f4 w0 F0 (fun v H => v = .bool true ∧ H = [ins p ks.length (ks.map encZ') o])) [(19, .bool b), (18, .int .i64 0), (17, .int .i64 E), (12, .int .i64 i), (11, .int .i64 E), (10, .int .i64 0), (8, .pointer (some ⟨t, 0, none⟩)), (7, .bool true), (2, .int .i64 ren0), (1, .int .i64 N), (0, .slice p ks.length cap)] [] [Ct (TxP.new t sb db 640) s, ins p ks.length (ks.map encZ') o] by
              obtain ⟨c, hc⟩ : ∃ c, c = nav [1, 1, 1, 1, 1, 1, 1, 1, 1, 1] (bdy Tryz.f4) := ⟨_, rfl⟩
              rw [← hc]
              dsimp only [nav, bdy, Tryz.f4, Option.getD] at hc
              subst hc
              (repeat' (first | ((with_reducible show G _ _ _ _ (Code.seq (Code.region 29 _ _) _) _ _ _ _); refine g_bang (tl29 _ ?_)) | refine g_seq (h := ?_) | refine g_region (h := ?_) | refine l_nil (h := ?_) | refine n_then (h := ?_) | refine l_pures1 (h := ?_) | (refine l_atc ?_; refine l_call (hE) ?_) | refine l_guard_yes (h := ?_) | refine l_guard_no (h := ?_) | refine g_skip (h := ?_) | (refine l_sp (h1 := ?_) (h0 := ?_) <;> intro h) | (refine g_spF (h := ?_); intro h)))
              all_goals first
                | rfl
                | (rw [decide_eq_false_iff_not]; omega)
            rintro b rfl
            obtain ⟨c, hc⟩ : ∃ c, c = nav [1, 1, 1, 1, 1, 1, 1, 1, 1, 1, 1, 1, 1] (bdy Tryz.f4) := ⟨_, rfl⟩
            rw [← hc]
            dsimp only [nav, bdy, Tryz.f4, Option.getD] at hc
            subst hc
            (repeat' (first | ((with_reducible show G _ _ _ _ (Code.seq (Code.region 35 _ _) _) _ _ _ _); refine g_bang (tl35 _ ?_)) | refine g_seq (h := ?_) | refine g_region (h := ?_) | refine l_nil (h := ?_) | refine n_then (h := ?_) | refine l_pures1 (h := ?_) | (refine l_atc ?_; refine l_call (hS) ?_) | (refine l_atc ?_; refine l_call (hpr) ?_) | (refine l_atc ?_; refine l_call (hRn) ?_) | refine l_guard_yes (h := ?_) | refine l_guard_no (h := ?_) | refine g_skip (h := ?_) | refine g_cond_f (h := ?_) | (refine l_sp (h1 := ?_) (h0 := ?_) <;> intro h)))
            all_goals
              rcases hgf with ⟨_, rfl, hf⟩ | ⟨_, rfl, hf⟩ <;> first
                | rfl
                | (exfalso; omega)
                | (rw [decide_eq_true_iff]; omega)
                | (rw [decide_eq_false_iff_not]; omega)
          rintro b rfl
          rcases hgf with ⟨rfl, rfl, hf⟩ | ⟨rfl, rfl, hf⟩
          · skip
            obtain ⟨c, hc⟩ : ∃ c, c = nav [1, 1, 1, 1, 1, 1, 1, 1, 1, 1, 1, 1, 1, 1, 1, 1, 1, 1] (bdy Tryz.f4) := ⟨_, rfl⟩
            rw [← hc]
            dsimp only [nav, bdy, Tryz.f4, Option.getD] at hc
            subst hc
            (repeat' (first | refine g_seq (h := ?_) | refine g_region (h := ?_) | refine l_nil (h := ?_) | refine n_then (h := ?_) | refine l_pures1 (h := ?_) | refine l_guard_yes (h := ?_) | refine l_guard_no (h := ?_) | refine g_ret (h := ?_) | (refine l_spT (h := ?_); intro h)))
            refine r_retk [ins p ks.length (ks.map encZ') o] ?_
            exact ⟨rfl, rfl⟩
          · skip
            obtain ⟨c, hc⟩ : ∃ c, c = nav [1, 1, 1, 1, 1, 1, 1, 1, 1, 1, 1, 1, 1, 1, 1, 1, 1, 1] (bdy Tryz.f4) := ⟨_, rfl⟩
            rw [← hc]
            dsimp only [nav, bdy, Tryz.f4, Option.getD] at hc
            subst hc
            (repeat' (first | refine g_seq (h := ?_) | refine g_region (h := ?_) | refine l_nil (h := ?_) | refine n_then (h := ?_) | refine l_pures1 (h := ?_) | refine l_guard_yes (h := ?_) | refine g_ret (h := ?_) | (refine l_spT (h := ?_); intro h)))
            refine r_retk [ins p ks.length (ks.map encZ') o] ?_
            exact ⟨rfl, rfl⟩
  all_goals first
    | exact ⟨Nat.zero_le _, by omega, end0⟩
    | rfl
    | (intro _ i; exact inv_keep parts_of i)
end Go.Proofs.YthmdianikbimfaaGreat
namespace Go.Proofs.YthmdianikbimfaaGreat.SL
open Go.RowKit Go.WideElems
def Keeps (A : SProp) (W : World) (F : Nat → Prop) : Prop := ∀ h' F', A.holds h' F' → ∀ b, F b → h'[b]? = W.heap[b]?
theorem row_ofA {P : Program} {f : FuncId} {args : List Value} {A : SProp} {W : World} {F : Nat → Prop} (d : Does P f args [A] (fun v H => v = .bool true ∧ H = [A])) (hx : Keeps A W F) (s : A.holds W.heap F) :
    Calls P f args.toArray W fun e W' => e = .returned (.bool true) ∧ Go.RowKit.Below W.heap.size W W' := by
  refine (d W F ⟨F, fun _ => False, s, fun _ h => h, fun _ _ h => h, fun b => ⟨.inl, fun o => o.elim id False.elim⟩⟩).mono ?_
  rintro e W' ⟨v, H', rfl, ⟨rfl, rfl⟩, i⟩
  obtain ⟨⟨G, ⟨F1, _, a, _⟩, _⟩, _⟩ := id i
  refine ⟨rfl, i.os, i.tape, i.output, i.size, fun k hk => ?_⟩
  by_cases q : F k
  · exact hx _ _ a k q
  · exact i.frame k hk q
theorem keeps_ins {p : Option Addr} {m : Nat} {xs : List Value} {o : Obj} {W : World} {F : Nat → Prop} (hm : 0 < m) (s : (ins p m xs o).holds W.heap F) : Keeps (ins p m xs o) W F := by
  rintro h' F' ⟨_, z'⟩ b hb
  obtain ⟨_, z⟩ := s
  rcases z with ⟨e, _⟩ | ⟨g, off, row, fr, T, q1, q2, _, h3, e, f⟩
  · omega
  · rcases z' with ⟨e', _⟩ | ⟨g', off', row', fr', T', q1', q2', _, _, e', f'⟩
    · omega
    · rw [q1] at q1'
      cases q1'
      rw [(f b).1 hb, e, e']
theorem cells_ins {W : World} {a : Addr} {m : Nat} {xs : List Value} (hl : xs.length = m) (h : ∀ i, i < m → W.cell? (a.add i) = xs[i]?) : ∃ o F, (ins (some a) m xs o).holds W.heap F ∧ Keeps (ins (some a) m xs o) W F ∧ (m = 0 → ∀ x, ¬ F x) := by
  by_cases hm : m = 0
  · exact ⟨.map #[] 0, fun _ => False, ⟨hl, .inl ⟨hm, fun _ h => h⟩⟩, fun _ _ _ _ h => h.elim, fun _ _ h => h⟩
  · obtain ⟨b, off, spot⟩ := a
    have h0 := h 0 (by omega)
    have hspot : spot = none := by
      rw [List.getElem?_eq_getElem (by omega)] at h0
      simpa [Addr.add] using World.cell?_spot h0
    subst hspot
    have h1 : ∀ i, i < m → W.cell? ⟨b, off + i, none⟩ = xs[i]? := fun i hi => by rw [← Go.WideShapes.add_plain]; exact h i hi
    have h2 := h1 0 (by omega)
    rw [List.getElem?_eq_getElem (by omega)] at h2
    obtain ⟨c, T, fr, hb⟩ : ∃ c T fr, W.heap[b]? = some (.cells c T fr) := by
      unfold World.cell? at h2
      split at h2
      · rename_i hb; exact ⟨_, _, _, hb⟩
      · cases h2
    have h3 : ∀ i, i < m → c[off + i]? = xs[i]? := fun i hi => by rw [← h1 i hi, cell_at hb]
    have hlen : off + m ≤ c.toList.length := by
      have := h3 (m - 1) (by omega)
      rw [List.getElem?_eq_getElem (by omega)] at this
      have := (Array.getElem?_eq_some_iff.1 this).1
      simp; omega
    have hs : (ins (some ⟨b, off, none⟩) m xs (.cells c T fr)).holds W.heap (fun x => x = b) := by
     refine ⟨hl, .inr ⟨b, off, c.toList, fr, T, rfl, by simp, ?_, hlen, hb, fun _ => Iff.rfl⟩⟩
     apply List.ext_getElem?
     intro i
     by_cases hi : i < m
     · rw [List.getElem?_take_of_lt hi, List.getElem?_drop, Array.getElem?_toList, h3 i hi]
     · rw [List.getElem?_eq_none (by simp; omega), List.getElem?_eq_none (by omega)]
    exact ⟨_, _, hs, keeps_ins (by omega) hs, fun q => absurd q hm⟩
theorem nil_ins {W : World} : (ins none 0 [] (.map #[] 0)).holds W.heap (fun _ => False) ∧ Keeps (ins none 0 [] (.map #[] 0)) W (fun _ => False) := ⟨⟨rfl, .inl ⟨rfl, fun _ h => h⟩⟩, fun _ _ _ _ h => h.elim⟩
theorem ins_two {W : World} {p1 p2 : Option Addr} {m1 m2 : Nat} {xs ys : List Value} {o1 o2 : Obj} {F1 F2 : Nat → Prop} (s1 : (ins p1 m1 xs o1).holds W.heap F1) (k1 : Keeps (ins p1 m1 xs o1) W F1) (z1 : m1 = 0 → ∀ x, ¬ F1 x) (s2 : (ins p2 m2 ys o2).holds W.heap F2) (k2 : Keeps (ins p2 m2 ys o2) W F2) (z2 : m2 = 0 → ∀ x, ¬ F2 x) :
    ∃ (A R1 R2 : SProp) (F : Nat → Prop), A.holds W.heap F ∧ Keeps A W F ∧ Opens A (fun _ : Unit => True) (fun _ => [ins p1 m1 xs o1, R1]) ∧ Shuts [ins p1 m1 xs o1, R1] A ∧ Opens A (fun _ : Unit => True) (fun _ => [ins p2 m2 ys o2, R2]) ∧ Shuts [ins p2 m2 ys o2, R2] A := by
  by_cases hd : ∃ x, F1 x ∧ F2 x
  · obtain ⟨x, h1, h2⟩ := hd
    have key : ∀ {p p' : Option Addr} {m m' : Nat} {xs ys : List Value} {o o' : Obj} {G G' : Nat → Prop}, (ins p m xs o).holds W.heap G → (ins p' m' ys o').holds W.heap G' → G x → G' x → 0 < m → ∀ h F, (ins p m xs o).holds h F → (ins p' m' ys o').holds h F := by
      intro p p' m m' xs ys o o' G G' ⟨_, z⟩ ⟨l', z'⟩ hx hx' hm h F ⟨_, y⟩
      rcases z with ⟨_, f⟩ | ⟨g, off, row, fr, T, q1, q2, q3, q4, e, f⟩
      · exact absurd hx (f x)
      · rcases z' with ⟨_, f'⟩ | ⟨g', off', row', fr', T', q1', q2', q3', q4', e', f'⟩
        · exact absurd hx' (f' x)
        · obtain rfl := (f x).1 hx
          obtain rfl := (f' x).1 hx'
          rw [e] at e'
          cases e'
          rcases y with ⟨e0, _⟩ | ⟨g2, off2, row2, fr2, T2, y1, y2, y3, y4, y5, y6⟩
          · omega
          · rw [q1] at y1
            cases y1
            exact ⟨l', .inr ⟨_, off', row', fr', T', q1', q2', q3', q4', y5, y6⟩⟩
    have emp : ∀ {K : SProp} {h : Array Obj} {F : Nat → Prop}, K.holds h F ↔ sep [K, fact True] h F := by
      intro K h F
      refine ⟨fun a => ⟨F, fun _ => False, a, ⟨fun _ => False, fun _ => False, ⟨trivial, fun _ h => h⟩, fun _ h => h, fun _ _ h => h, fun b => ⟨.inl, fun o => o.elim id id⟩⟩, fun _ _ h => h, fun b => ⟨.inl, fun o => o.elim id False.elim⟩⟩, ?_⟩
      rintro ⟨G1, G2, a, ⟨G3, G4, ⟨_, e⟩, f, _, u2⟩, d, u⟩
      have : F = G1 := by
        funext b
        apply propext
        rw [u b, u2 b]
        exact ⟨fun o => o.elim id (fun o => o.elim (fun q => (e b q).elim) (fun q => (f b q).elim)), .inl⟩
      rw [this]; exact a
    have hm1 : 0 < m1 := Nat.pos_of_ne_zero fun q => z1 q x h1
    have hm2 : 0 < m2 := Nat.pos_of_ne_zero fun q => z2 q x h2
    exact ⟨ins p1 m1 xs o1, fact True, fact True, F1, s1, k1, fun h F a => ⟨(), trivial, emp.1 a⟩, fun h F a => emp.2 a,
      fun h F a => ⟨(), trivial, emp.1 (key s1 s2 h1 h2 hm1 h F a)⟩, fun h F a => key s2 s1 h2 h1 hm2 h F (emp.2 a)⟩
  · refine ⟨⟨fun h F => sep [ins p1 m1 xs o1, ins p2 m2 ys o2] h F, sep_loc, sep_bnd⟩, ins p2 m2 ys o2, ins p1 m1 xs o1, fun x => F1 x ∨ F2 x, ?_, ?_, fun h F a => ⟨(), trivial, a⟩, fun h F a => a, fun h F a => ⟨(), trivial, ?_⟩, fun h F a => ?_⟩
    · exact ⟨F1, F2, s1, ⟨F2, fun _ => False, s2, fun _ h => h, fun _ _ h => h, fun b => ⟨.inl, fun o => o.elim id False.elim⟩⟩, fun x a b => hd ⟨x, a, b⟩, fun _ => Iff.rfl⟩
    · rintro h' F' ⟨G1, G2, a, ⟨G3, G4, b, _⟩, _⟩ x hx
      exact hx.elim (k1 _ _ a x) (k2 _ _ b x)
    · exact (Parts.cons (Take.there Take.here) (Parts.cons Take.here Parts.nil)).sep a
    · exact (Parts.cons (Take.there Take.here) (Parts.cons Take.here Parts.nil)).sep a
end Go.Proofs.YthmdianikbimfaaGreat.SL
namespace Go.Proofs.YthmdianikbimfaaGreat
open Go.Proofs.YthmdianikbimfaaGreat.SL Go.ChangeShapes
section
variable {H : Type} {enc : TypeId × Value → H} {P : Program} {W : World}
theorem open_Zs {t e : TypeId} (ht : P.underlying t = some (.slice e)) (he : P.underlying e = some (.int .i64)) (hc : P.cellsOf e = 1) {v : Value} (hv : ∃ a0 len cap, v = .slice a0 len cap) {d : DataW H} {ps : List MemPlace} (h : DataW.Trod enc P W 0 (fun _ => true) true t v d ps) :
    ∃ (a0 : Option Addr) (cap : Nat) (zs : List Int) (o : Obj) (F : Nat → Prop), v = .slice a0 zs.length cap ∧ (ins a0 zs.length (zs.map encZ') o).holds W.heap F ∧ Keeps (ins a0 zs.length (zs.map encZ') o) W F ∧ (zs.length = 0 → ∀ x, ¬ F x) ∧ (∀ z ∈ zs, (Lit.int .i64 z).wf = true) ∧ zs.length ≤ 9223372036854775807 := by
  obtain ⟨a0, len, cap, rfl⟩ := hv
  obtain ⟨fuel, hf⟩ := h
  rcases open_ints ht he hc hf with ⟨hcs, _⟩ | ⟨a, len', cap', ss, hcs, _, hle, hmax, hlen, _, hcell, hw⟩
  · simp [Value.cells] at hcs
    obtain ⟨rfl, rfl, rfl⟩ := hcs
    exact ⟨none, 0, [], .map #[] 0, _, rfl, nil_ins.1, nil_ins.2, fun _ _ h => h, by simp, by simp⟩
  · simp [Value.cells] at hcs
    obtain ⟨rfl, rfl, rfl⟩ := hcs
    simp only [if_true] at hlen
    have hl : (ss.take len).length = len := by rw [List.length_take]; omega
    have hm' : ((ss.take len).map encZ').length = (ss.take len).length := by simp
    obtain ⟨o, F, s1, s2, s3⟩ := cells_ins (W := W) (a := a) hm' (fun i hi => by
      rw [hcell i (by omega), List.getElem?_map, List.getElem?_take_of_lt (by omega), List.getD, List.getElem?_eq_getElem (by omega)]; rfl)
    simp only [maxLen] at hmax
    exact ⟨some a, cap, ss.take len, o, F, by rw [hl], s1, s2, s3, fun z hz => hw z (List.mem_of_mem_take hz), by omega⟩
end
end Go.Proofs.YthmdianikbimfaaGreat

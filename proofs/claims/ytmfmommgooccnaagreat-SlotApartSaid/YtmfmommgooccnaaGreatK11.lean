/- Texts StG, StH, StI, StK, StL, StM, StJ, RowL, RowU, RowS, joined. -/
import Derived.SliceStrings
import Derived.ChangeSlices
import Derived.Carry
import Derived.Test.YtmfmommgooccnaaGreatK10
/- Package slot: Used. -/
set_option maxRecDepth 20000
set_option linter.unusedVariables false
set_option linter.unusedSimpArgs false
namespace Go.Proofs.YtmfmommgooccnaaGreat
open Go.Proofs.YtmfmommgooccnaaGreat.SL

set_option maxHeartbeats 4000000 in
theorem sUsedYes_does (P : TxP) (L : List Sl) (nonce : Nat) (hn : nonce < 18446744073709551616) (hL : L.length ≤ 200) (ok : ∀ s ∈ L, s.ok) (i0 : Nat) (hi0 : i0 < L.length) (hu : L[i0].cap ≠ 0 ∧ L[i0].nonce = nonce) :
    Does Tryz.prog 22 [.pointer (some ⟨P.t, 0, none⟩), .int .u64 nonce] [Tx P (slotT 1 L)] (fun v H => v = .tuple #[.bool true, .int .i64 0] ∧ H = [Tx P (slotT 1 L)]) := by
  have hsl := slots_does P L hL ok
  have hel := slE_len 1 L
  obtain ⟨es, hes⟩ : ∃ es, es = slE 1 L := ⟨_, rfl⟩
  rw [← hes] at hsl hel
  refine does_of Tryz.func22 Tryz.ntmps22 rfl rfl rfl (fun w0 F0 => ?_)
  (repeat' (first | refine g_seq (h := ?_) | refine g_region (h := ?_) | refine l_nil (h := ?_) | refine n_then (h := ?_) | refine l_pures1 (h := ?_) | (refine l_atc ?_; refine l_call_ (hsl) ?_; rintro _ _ _ ⟨ps, cs, rfl, rfl⟩ he; cases he) | refine g_skip (h := ?_) | refine g_block (h := ?_) | refine g_cond_f (h := ?_)))
  (refine g_loop (fun i : Nat => [(20, .int .i64 i), (19, .int .i64 es.length), (18, .slice ps es.length cs), (1, .int .u64 nonce)]) (fun i => [vec 32 4 ps es.length cs (slC es), Tx P (slotT 1 L)]) (fun i => i ≤ i0) (fun i => L.length - i) (0) ?_ ?_ ?_ ?_; rotate_left; (repeat (first | refine ts_nil | (refine ts_cons rfl ?_ ?_; first | (with_reducible rfl) | rotate_left))); (first | (intro _ i; with_reducible refine i) | rotate_left); rotate_left; (try omega); rotate_right)
  · intro i hi
    have hil : i < L.length := by omega
    refine g_ptr (m := es.length) (p := ps) (h := ?_); rintro gs rfl hcs
    have hge : es[i]? = some (1 + i, L[i]) := by rw [hes]; exact slE_get hil
    have hpt := part_sl hge
    dsimp only at hpt
    have hii : i = i0 → L[i].cap ≠ 0 ∧ L[i].nonce = nonce := by rintro rfl; exact hu
    obtain ⟨s, hs⟩ : ∃ s, s = L[i] := ⟨_, rfl⟩
    rw [← hs] at hpt hii
    by_cases q : s.cap ≠ 0 ∧ s.nonce = nonce
    · (repeat' (first | refine g_seq (h := ?_) | refine g_region (h := ?_) | refine l_nil (h := ?_) | refine n_then (h := ?_) | refine l_pures1 (h := ?_) | refine l_guard_yes (h := ?_) | refine l_load (h := ?_) | refine l_store (h := ?_) | (refine l_alloc (h := ?_); intro _) | refine l_indexAddr (h := ?_) | refine g_skip (h := ?_) | refine g_ret (h := ?_) | refine n_then_ret (h := ?_) | refine n_block_ret (h := ?_) | refine g_block (h := ?_) | refine l_load_vec (h := ?_) | (refine l_spT (h := ?_); intro h) | (refine g_spT (h := ?_); intro h)))
      refine r_retk [Tx P (slotT 1 L)] ?_
      exact ⟨rfl, rfl⟩
    · have hlt : i < i0 := by
        rcases Nat.lt_or_ge i i0 with h | h
        · exact h
        · exact absurd (hii (by omega)) q
      (repeat' (first | refine g_seq (h := ?_) | refine g_region (h := ?_) | refine l_nil (h := ?_) | refine n_then (h := ?_) | refine l_pures1 (h := ?_) | refine l_guard_yes (h := ?_) | refine l_guard_no (h := ?_) | refine l_load (h := ?_) | refine l_store (h := ?_) | (refine l_alloc (h := ?_); intro _) | refine l_indexAddr (h := ?_) | refine g_skip (h := ?_) | refine g_block (h := ?_) | refine n_block (h := ?_) | refine g_cond_f (h := ?_) | refine l_load_vec (h := ?_) | (refine l_sp (h1 := ?_) (h0 := ?_) <;> intro h) | (refine g_spT (h := ?_); intro h) | (refine g_spF (h := ?_); intro h)))
      all_goals
        (refine n_back (i + 1) ?_ ?_ ?_ ?_; rotate_left; rotate_left; (repeat (first | refine ts_nil | (refine ts_cons rfl ?_ ?_; first | (with_reducible rfl) | rotate_left))); (first | (intro _ i; with_reducible refine i) | rotate_left); (try omega); (try omega))
      all_goals first
        | exact hlt
        | (dsimp only; omega)
        | (rw [wrapI64 (by omega)]; rfl)
        | (intro _ i; exact inv_keep parts_of i)
        | rfl
  all_goals first
    | exact Nat.zero_le _
    | rfl
    | (intro _ i; exact inv_keep parts_of i)

set_option maxHeartbeats 4000000 in
theorem sUsedNo_does (P : TxP) (L : List Sl) (nonce : Nat) (hn : nonce < 18446744073709551616) (hL : L.length ≤ 200) (ok : ∀ s ∈ L, s.ok) (hu : ∀ s ∈ L, ¬ (s.cap ≠ 0 ∧ s.nonce = nonce)) :
    Does Tryz.prog 22 [.pointer (some ⟨P.t, 0, none⟩), .int .u64 nonce] [Tx P (slotT 1 L)] (fun v H => v = .tuple #[.bool false, .int .i64 0] ∧ H = [Tx P (slotT 1 L)]) := by
  have hsl := slots_does P L hL ok
  have hel := slE_len 1 L
  obtain ⟨es, hes⟩ : ∃ es, es = slE 1 L := ⟨_, rfl⟩
  rw [← hes] at hsl hel
  refine does_of Tryz.func22 Tryz.ntmps22 rfl rfl rfl (fun w0 F0 => ?_)
  (repeat' (first | refine g_seq (h := ?_) | refine g_region (h := ?_) | refine l_nil (h := ?_) | refine n_then (h := ?_) | refine l_pures1 (h := ?_) | (refine l_atc ?_; refine l_call_ (hsl) ?_; rintro _ _ _ ⟨ps, cs, rfl, rfl⟩ he; cases he) | refine g_skip (h := ?_) | refine g_block (h := ?_) | refine g_cond_f (h := ?_)))
  (refine g_loop (fun i : Nat => [(20, .int .i64 i), (19, .int .i64 es.length), (18, .slice ps es.length cs), (1, .int .u64 nonce)]) (fun i => [vec 32 4 ps es.length cs (slC es), Tx P (slotT 1 L)]) (fun i => i ≤ L.length) (fun i => L.length - i) (0) ?_ ?_ ?_ ?_; rotate_left; (repeat (first | refine ts_nil | (refine ts_cons rfl ?_ ?_; first | (with_reducible rfl) | rotate_left))); (first | (intro _ i; with_reducible refine i) | rotate_left); rotate_left; (try omega); rotate_right)
  · intro i hi
    by_cases hil : i < L.length
    · refine g_ptr (m := es.length) (p := ps) (h := ?_); rintro gs rfl hcs
      have hge : es[i]? = some (1 + i, L[i]) := by rw [hes]; exact slE_get hil
      have hpt := part_sl hge
      dsimp only at hpt
      obtain ⟨s, hs⟩ : ∃ s, s = L[i] := ⟨_, rfl⟩
      rw [← hs] at hpt
      have hus := hu s (hs ▸ List.getElem_mem _)
      (repeat' (first | refine g_seq (h := ?_) | refine g_region (h := ?_) | refine l_nil (h := ?_) | refine n_then (h := ?_) | refine l_pures1 (h := ?_) | refine l_guard_yes (h := ?_) | refine l_guard_no (h := ?_) | refine l_load (h := ?_) | refine l_store (h := ?_) | (refine l_alloc (h := ?_); intro _) | refine l_indexAddr (h := ?_) | refine g_skip (h := ?_) | refine g_block (h := ?_) | refine n_block (h := ?_) | refine g_cond_f (h := ?_) | refine l_load_vec (h := ?_) | (refine l_sp (h1 := ?_) (h0 := ?_) <;> intro h) | (refine g_spT (h := ?_); intro h) | (refine g_spF (h := ?_); intro h)))
      all_goals
        (refine n_back (i + 1) ?_ ?_ ?_ ?_; rotate_left; rotate_left; (repeat (first | refine ts_nil | (refine ts_cons rfl ?_ ?_; first | (with_reducible rfl) | rotate_left))); (first | (intro _ i; with_reducible refine i) | rotate_left); (try omega); (try omega))
      all_goals first
        | exact hil
        | (dsimp only; omega)
        | (rw [wrapI64 (by omega)]; rfl)
        | (intro _ i; exact inv_keep parts_of i)
        | rfl
    · (repeat' (first | refine g_seq (h := ?_) | refine g_region (h := ?_) | refine l_nil (h := ?_) | refine n_then (h := ?_) | refine l_pures1 (h := ?_) | refine g_ret (h := ?_) | refine g_exit (h := ?_) | refine n_then_exit (h := ?_) | refine n_block_hit (h := ?_) | (refine g_spF (h := ?_); intro h)))
      refine r_retk [Tx P (slotT 1 L)] ?_
      exact ⟨rfl, rfl⟩
  all_goals first
    | exact Nat.zero_le _
    | rfl
    | (intro _ i; exact inv_keep parts_of i)
end Go.Proofs.YtmfmommgooccnaaGreat
/- Slots and the nonces that are live: plain facts. -/
set_option maxRecDepth 20000
set_option linter.unusedVariables false
set_option linter.unusedSimpArgs false
namespace Go.Proofs.YtmfmommgooccnaaGreat
open Go.Proofs.YtmfmommgooccnaaGreat.SL

structure Apart (L : List Sl) (f1 f2 : Nat → Nat) : Prop where
  a : ∀ (j : Nat) (s : Sl), L[j]? = some s → s.cap ≠ 0 → s.nonce < 256 ∧ f1 s.nonce = 1 + j ∧ f2 s.nonce = s.cap
  b : ∀ k, k < 256 → f1 k ≠ 0 → ∃ (j : Nat) (s : Sl), L[j]? = some s ∧ f1 k = 1 + j ∧ s.cap ≠ 0 ∧ s.nonce = k
theorem Apart.nil : Apart [] (fun _ => 0) (fun _ => 0) := ⟨fun j s h => by simp at h, fun k _ h => absurd rfl h⟩
theorem Apart.not {L : List Sl} {f1 f2 : Nat → Nat} (h : Apart L f1 f2) {n : Nat} (h0 : f1 n = 0) : ∀ s ∈ L, ¬ (s.cap ≠ 0 ∧ s.nonce = n) := by
  rintro s hs ⟨h1, rfl⟩
  obtain ⟨j, hj⟩ := List.getElem?_of_mem hs
  have := (h.a j s hj h1).2.1
  omega
theorem Apart.yes {L : List Sl} {f1 f2 : Nat → Nat} (h : Apart L f1 f2) {n : Nat} (hn : n < 256) (h0 : f1 n ≠ 0) : ∃ j, ∃ hj : j < L.length, f1 n = 1 + j ∧ L[j].cap ≠ 0 ∧ L[j].nonce = n ∧ f2 n = L[j].cap := by
  obtain ⟨j, s, e, e1, e2, e3⟩ := h.b n hn h0
  obtain ⟨hj, rfl⟩ := List.getElem?_eq_some_iff.1 e
  refine ⟨j, hj, e1, e2, e3, ?_⟩
  have := (h.a j _ e e2).2.2
  rw [e3] at this
  exact this
theorem takeL_get {L : List Sl} {c n : Nat} (j : Nat) : (takeL L c n)[j]? = if j = takeAt L then some ⟨c, epochAt L, n⟩ else L[j]? := by
  have htl := takeAt_le L
  unfold takeL
  split
  · rename_i h
    by_cases hj : j = takeAt L
    · subst hj
      rw [if_pos rfl]
      simp [h]
    · rw [if_neg hj, List.getElem?_set_ne (Ne.symm hj)]
  · rename_i h
    have e2 : takeAt L = L.length := by omega
    rw [e2]
    by_cases hj : j = L.length
    · subst hj
      rw [if_pos rfl]
      simp
    · rw [if_neg hj]
      rcases Nat.lt_or_ge j L.length with q | q
      · rw [List.getElem?_append_left q]
      · rw [List.getElem?_eq_none (by simp; omega), List.getElem?_eq_none q]
theorem takeAt_cap {L : List Sl} {s : Sl} (h : L[takeAt L]? = some s) : s.cap = 0 := by
  obtain ⟨hj, rfl⟩ := List.getElem?_eq_some_iff.1 h
  exact (takeAt_free hj).1
def upd (f : Nat → Nat) (n v q : Nat) : Nat := if q = n then v else f q
theorem Apart.take {L : List Sl} {f1 f2 : Nat → Nat} (h : Apart L f1 f2) {n c : Nat} (hn : n < 256) (h0 : f1 n = 0) (hc : c ≠ 0) : Apart (takeL L c n) (upd f1 n (1 + takeAt L)) (upd f2 n c) := by
  refine ⟨fun j s e hs => ?_, fun k hk hq => ?_⟩
  · rw [takeL_get] at e
    split at e
    · rename_i hj
      simp only [Option.some.injEq] at e
      subst e
      refine ⟨hn, ?_, ?_⟩
      · simp [upd, hj]
      · simp [upd]
    · rename_i hj
      obtain ⟨e1, e2, e3⟩ := h.a j s e hs
      have hne : s.nonce ≠ n := by
        intro q
        rw [q] at e2
        omega
      exact ⟨e1, by unfold upd; rw [if_neg hne]; exact e2, by unfold upd; rw [if_neg hne]; exact e3⟩
  · unfold upd at hq ⊢
    by_cases hkn : k = n
    · subst hkn
      exact ⟨takeAt L, ⟨c, epochAt L, k⟩, by rw [takeL_get, if_pos rfl], by rw [if_pos rfl], hc, rfl⟩
    · rw [if_neg hkn] at hq
      obtain ⟨j, s, e, e1, e2, e3⟩ := h.b k hk hq
      have hj : j ≠ takeAt L := by
        rintro rfl
        exact e2 (takeAt_cap e)
      exact ⟨j, s, by rw [takeL_get, if_neg hj]; exact e, by rw [if_neg hkn]; exact e1, e2, e3⟩
def cut (f1 f2 : Nat → Nat) (c q : Nat) : Nat := if f1 q ≠ 0 ∧ f2 q = c then 0 else f1 q
theorem Apart.free {L : List Sl} {f1 f2 : Nat → Nat} (h : Apart L f1 f2) {c : Nat} (hc : c ≠ 0) : Apart (L.map (Sl.fr c)) (cut f1 f2 c) f2 := by
  refine ⟨fun j s' e hs => ?_, fun k hk hq => ?_⟩
  · rw [List.getElem?_map] at e
    obtain ⟨s, e0, rfl⟩ := Option.map_eq_some_iff.1 e
    by_cases z : s.cap ≠ 0 ∧ s.cap = c
    · have e4 : Sl.fr c s = ⟨0, s.epoch + 1, 0⟩ := by unfold Sl.fr; rw [if_pos z]
      rw [e4] at hs
      exact absurd rfl hs
    · have e4 : Sl.fr c s = s := by unfold Sl.fr; rw [if_neg z]
      rw [e4] at hs ⊢
      obtain ⟨e1, e2, e3⟩ := h.a j s e0 hs
      refine ⟨e1, ?_, e3⟩
      unfold cut
      rw [if_neg (fun q => z ⟨hs, by rw [← e3]; exact q.2⟩)]
      exact e2
  · unfold cut at hq ⊢
    by_cases z : f1 k ≠ 0 ∧ f2 k = c
    · rw [if_pos z] at hq
      exact absurd rfl hq
    · rw [if_neg z] at hq ⊢
      obtain ⟨j, s, e, e1, e2, e3⟩ := h.b k hk hq
      have e5 := (h.a j s e e2).2.2
      have e4 : Sl.fr c s = s := by
        unfold Sl.fr
        rw [if_neg]
        rintro ⟨_, q2⟩
        exact z ⟨hq, by rw [← e3, e5]; exact q2⟩
      exact ⟨j, s, by rw [List.getElem?_map, e, Option.map_some, e4], e1, e2, e3⟩
def cntA (f1 f2 : Nat → Nat) (c k : Nat) : Nat := ((List.range k).filter fun q => decide (f1 q ≠ 0 ∧ f2 q = c)).length
theorem cntA_zero (f1 f2 : Nat → Nat) (c : Nat) : cntA f1 f2 c 0 = 0 := rfl
theorem cntA_yes {f1 f2 : Nat → Nat} {c k : Nat} (h : f1 k ≠ 0 ∧ f2 k = c) : cntA f1 f2 c (k + 1) = cntA f1 f2 c k + 1 := by
  unfold cntA
  rw [List.range_succ, List.filter_append, List.length_append, List.filter_cons_of_pos (by simpa using h)]
  rfl
theorem cntA_no {f1 f2 : Nat → Nat} {c k : Nat} (h : ¬ (f1 k ≠ 0 ∧ f2 k = c)) : cntA f1 f2 c (k + 1) = cntA f1 f2 c k := by
  unfold cntA
  rw [List.range_succ, List.filter_append, List.length_append, List.filter_cons_of_neg (by simpa using h)]
  rfl
theorem cntA_le (f1 f2 : Nat → Nat) (c k : Nat) : cntA f1 f2 c k ≤ k := by
  have := List.length_filter_le (fun q => decide (f1 q ≠ 0 ∧ f2 q = c)) (List.range k)
  simpa [cntA] using this
theorem Apart.count {L : List Sl} {f1 f2 : Nat → Nat} (h : Apart L f1 f2) {c : Nat} (hc : c ≠ 0) : frN c L = cntA f1 f2 c 256 := by
  have hp : L.Pairwise fun s s' => s.cap ≠ 0 → s'.cap ≠ 0 → s.nonce ≠ s'.nonce := by
    rw [List.pairwise_iff_getElem]
    intro i j hi hj hij h1 h2 q
    have e1 := (h.a i _ (List.getElem?_eq_getElem hi) h1).2.1
    have e2 := (h.a j _ (List.getElem?_eq_getElem hj) h2).2.1
    rw [q] at e1
    omega
  have n1 : ((L.filter fun s => decide (s.cap ≠ 0 ∧ s.cap = c)).map Sl.nonce).Nodup := by
    unfold List.Nodup
    rw [List.pairwise_map, List.pairwise_filter]
    refine hp.imp fun {s s'} q h1 h2 => ?_
    exact q (of_decide_eq_true h1).1 (of_decide_eq_true h2).1
  have n2 : ((List.range 256).filter fun q => decide (f1 q ≠ 0 ∧ f2 q = c)).Nodup := List.Pairwise.filter _ List.nodup_range
  have hm : ∀ x, x ∈ ((L.filter fun s => decide (s.cap ≠ 0 ∧ s.cap = c)).map Sl.nonce) ↔ x ∈ ((List.range 256).filter fun q => decide (f1 q ≠ 0 ∧ f2 q = c)) := by
    intro x
    constructor
    · intro hx
      obtain ⟨s, hs, rfl⟩ := List.mem_map.1 hx
      obtain ⟨hs1, hs2⟩ := List.mem_filter.1 hs
      have hs3 := of_decide_eq_true hs2
      obtain ⟨j, hj⟩ := List.getElem?_of_mem hs1
      obtain ⟨e1, e2, e3⟩ := h.a j s hj hs3.1
      refine List.mem_filter.2 ⟨List.mem_range.2 e1, decide_eq_true ⟨by omega, by rw [e3]; exact hs3.2⟩⟩
    · intro hx
      obtain ⟨hx1, hx2⟩ := List.mem_filter.1 hx
      have hx3 := of_decide_eq_true hx2
      obtain ⟨j, hj, e1, e2, e3, e4⟩ := h.yes (List.mem_range.1 hx1) hx3.1
      refine List.mem_map.2 ⟨L[j], List.mem_filter.2 ⟨List.getElem_mem hj, decide_eq_true ⟨e2, by rw [← e4]; exact hx3.2⟩⟩, e3⟩
  have hperm := (List.perm_ext_iff_of_nodup n1 n2).2 hm
  have := hperm.length_eq
  rw [List.length_map] at this
  exact this
/-- What a map of bytes has. -/
def Has (kv : List (Int × Int)) (f : Nat → Nat) : Prop := ∀ k : Nat, k < 256 → (kvGet kv (k : Int)).getD 0 = (f k : Int)
theorem Has.nil : Has [] (fun _ => 0) := fun k _ => by simp [kvGet]
theorem Has.put {kv : List (Int × Int)} {f : Nat → Nat} (h : Has kv f) (n v : Nat) : Has (kvPut kv (n : Int) (v : Int)) (upd f n v) := fun k hk => by
  rw [kvGet_put]
  unfold upd
  by_cases q : k = n
  · subst q
    rw [if_pos rfl, if_pos rfl]
    rfl
  · rw [if_neg (by omega), if_neg q]
    exact h k hk
def midA (f1 f2 : Nat → Nat) (c k q : Nat) : Nat := if q < k then cut f1 f2 c q else f1 q
theorem midA_zero (f1 f2 : Nat → Nat) (c : Nat) : midA f1 f2 c 0 = f1 := by funext q; unfold midA; rw [if_neg (by omega)]
theorem midA_at (f1 f2 : Nat → Nat) (c k : Nat) : midA f1 f2 c k k = f1 k := by unfold midA; rw [if_neg (by omega)]
theorem Has.all {kv : List (Int × Int)} {f1 f2 : Nat → Nat} {c : Nat} (h : Has kv (midA f1 f2 c 256)) : Has kv (cut f1 f2 c) := fun k hk => by
  rw [h k hk]; unfold midA; rw [if_pos hk]
theorem Has.step {kv : List (Int × Int)} {f1 f2 : Nat → Nat} {c k : Nat} (h : Has kv (midA f1 f2 c k)) (hk : ¬ (f1 k ≠ 0 ∧ f2 k = c)) : Has kv (midA f1 f2 c (k + 1)) := fun q hq => by
  rw [h q hq]
  unfold midA
  by_cases z : q < k
  · rw [if_pos z, if_pos (by omega)]
  · rw [if_neg z]
    by_cases z2 : q = k
    · subst z2
      rw [if_pos (by omega)]
      unfold cut
      rw [if_neg hk]
    · rw [if_neg (by omega)]
theorem Has.stepPut {kv : List (Int × Int)} {f1 f2 : Nat → Nat} {c k : Nat} (h : Has kv (midA f1 f2 c k)) (hk : f1 k ≠ 0 ∧ f2 k = c) : Has (kvPut kv (k : Int) 0) (midA f1 f2 c (k + 1)) := fun q hq => by
  refine (h.put k 0 q hq).trans ?_
  unfold upd midA
  by_cases z2 : q = k
  · subst z2
    rw [if_pos rfl, if_pos (by omega)]
    unfold cut
    rw [if_pos hk]
  · rw [if_neg z2]
    by_cases z : q < k
    · rw [if_pos z, if_pos (by omega)]
    · rw [if_neg z, if_neg (by omega)]
end Go.Proofs.YtmfmommgooccnaaGreat
/- Law SlotApart. -/
set_option maxRecDepth 20000
set_option linter.unusedVariables false
set_option linter.unusedSimpArgs false
namespace Go.Proofs.YtmfmommgooccnaaGreat
open Go.Proofs.YtmfmommgooccnaaGreat.SL

set_option maxHeartbeats 8000000 in
theorem apart_tail (t sb db mb1 mb2 : Nat) (A : SProp) (L : List Sl) (f1 f2 : Nat → Nat) (kv1 kv2 : List (Int × Int)) (ha : Apart L f1 f2) (h1 : Has kv1 f1) (h2 : Has kv2 f2) (hL : L.length ≤ 200) (ok : ∀ s ∈ L, s.ok) (w0 : World) (F0 : Nat → Prop) :
    G Tryz.prog 205 w0 F0 (nav [1, 1, 1, 1, 1, 1, 1, 1] (bdy Tryz.f4)) (Post Tryz.prog Tryz.f4 w0 F0 (fun v H => v = .bool true ∧ H = [A]))
      [(8, .map (some mb2)), (7, .map (some mb1)), (6, .pointer (some ⟨t, 0, none⟩)), (5, .bool true)] [] [mpk .u8 mb1 (Value.int .i64) kv1, mpk .u8 mb2 (Value.int .i64) kv2, Tx (TxP.new t sb db 640) (slotT 1 L), A] := by
  obtain ⟨c, hc⟩ : ∃ c, c = nav [1, 1, 1, 1, 1, 1, 1, 1] (bdy Tryz.f4) := ⟨_, rfl⟩
  rw [← hc]
  dsimp only [nav, bdy, Tryz.f4, Option.getD] at hc
  subst hc
  (repeat (first | refine g_seq (h := ?_) | refine g_region (h := ?_) | refine l_nil (h := ?_) | refine n_then (h := ?_) | refine l_pures1 (h := ?_) | refine g_block (h := ?_)))
  (refine g_loop (fun k : Nat => [(18, .int .i64 k), (8, .map (some mb2)), (7, .map (some mb1)), (6, .pointer (some ⟨t, 0, none⟩)), (5, .bool true)]) (fun k => [mpk .u8 mb1 (Value.int .i64) kv1, mpk .u8 mb2 (Value.int .i64) kv2, Tx (TxP.new t sb db 640) (slotT 1 L), A]) (fun k => k ≤ 256) (fun k => 256 - k) (0) ?_ ?_ ?_ ?_; rotate_left; (repeat (first | refine ts_nil | (refine ts_cons rfl ?_ ?_; first | (with_reducible rfl) | rotate_left))); (first | (intro _ i; with_reducible refine i) | rotate_left); rotate_left; (try omega); rotate_right)
  · intro k hk
    by_cases hkl : k < 256
    · have ew8 : IntKind.u8.wrap (k : Int) = k := wrapU8 (by omega)
      have ewu : IntKind.u64.wrap (k : Int) = k := wrapU64 (by omega)
      have hg1 : (kvGet kv1 (IntKind.u8.wrap (k : Int))).getD 0 = (f1 k : Int) := by rw [ew8]; exact h1 k hkl
      have hg2 : (kvGet kv2 (IntKind.u8.wrap (k : Int))).getD 0 = (f2 k : Int) := by rw [ew8]; exact h2 k hkl
      by_cases h0 : f1 k = 0
      · (repeat' (first | refine g_seq (h := ?_) | refine g_region (h := ?_) | refine l_nil (h := ?_) | refine n_then (h := ?_) | refine l_pures1 (h := ?_) | refine g_skip (h := ?_) | refine g_block (h := ?_) | refine g_exit (h := ?_) | refine n_then_exit (h := ?_) | refine n_block_hit (h := ?_) | refine l_lookup_k _ (h := ?_) | (refine g_spT (h := ?_); intro h)))
        (refine n_back (k + 1) ?_ ?_ ?_ ?_; rotate_left; rotate_left; (repeat (first | refine ts_nil | (refine ts_cons rfl ?_ ?_; first | (with_reducible rfl) | rotate_left))); (first | (intro _ i; with_reducible refine i) | rotate_left); (try omega); (try omega))
        all_goals first
          | (dsimp only; omega)
          | (rw [wrapI64 (by omega)]; rfl)
          | (intro _ i; exact inv_keep parts_of i)
          | rfl
      · obtain ⟨j, hj, e1, e2, e3, e4⟩ := ha.yes hkl h0
        have hA := sAt_does (TxP.new t sb db 640) L j hj hL ok
        obtain ⟨s, hs⟩ : ∃ s, s = L[j] := ⟨_, rfl⟩
        rw [← hs] at hA e2 e3 e4
        have hA : Does Tryz.prog 21 [.pointer (some ⟨t, 0, none⟩), .int .i64 (1 + j : Nat)] [Tx (TxP.new t sb db 640) (slotT 1 L)] (fun v H => v = .tuple #[.agg #[.int .i64 (1 + j : Nat), .int .i64 s.cap, .int .i64 s.epoch, .int .u64 s.nonce], .int .i64 0] ∧ H = [Tx (TxP.new t sb db 640) (slotT 1 L)]) := hA
        rw [e1] at hg1
        rw [← hg1] at hA
        (repeat' (first | refine g_seq (h := ?_) | refine g_region (h := ?_) | refine l_nil (h := ?_) | refine n_then (h := ?_) | refine l_pures1 (h := ?_) | (refine l_atc ?_; refine l_call (hA) ?_) | refine l_guard_yes (h := ?_) | refine l_load (h := ?_) | refine l_store (h := ?_) | (refine l_alloc (h := ?_); intro _) | refine g_skip (h := ?_) | refine g_block (h := ?_) | refine n_block (h := ?_) | refine l_lookup_k _ (h := ?_) | (refine l_spF (h := ?_); intro h) | (refine g_spT (h := ?_); intro h) | (refine g_spF (h := ?_); intro h)))
        (refine n_back (k + 1) ?_ ?_ ?_ ?_; rotate_left; rotate_left; (repeat (first | refine ts_nil | (refine ts_cons rfl ?_ ?_; first | (with_reducible rfl) | rotate_left))); (first | (intro _ i; with_reducible refine i) | rotate_left); (try omega); (try omega))
        all_goals first
          | (dsimp only; omega)
          | (rw [wrapI64 (by omega)]; rfl)
          | (intro _ i; exact inv_keep parts_of i)
          | rfl
    · (repeat' (first | refine g_seq (h := ?_) | refine g_region (h := ?_) | refine l_nil (h := ?_) | refine n_then (h := ?_) | refine l_pures1 (h := ?_) | refine g_ret (h := ?_) | refine g_exit (h := ?_) | refine n_then_exit (h := ?_) | refine n_block_hit (h := ?_) | (refine g_spF (h := ?_); intro h)))
      refine r_retk [A] ?_
      exact ⟨rfl, rfl⟩
  all_goals first
    | exact Nat.zero_le _
    | rfl
    | (intro _ i; exact inv_keep parts_of i)
end Go.Proofs.YtmfmommgooccnaaGreat
/- Law SlotApart: the end of a round. -/
set_option maxRecDepth 20000
set_option linter.unusedVariables false
set_option linter.unusedSimpArgs false
namespace Go.Proofs.YtmfmommgooccnaaGreat
open Go.Proofs.YtmfmommgooccnaaGreat.SL

abbrev apT (t mb1 mb2 i : Nat) (v0 v1 : Value) : List (Nat × Value) := [(9, .int .i64 i), (8, .map (some mb2)), (7, .map (some mb1)), (6, .pointer (some ⟨t, 0, none⟩)), (5, .bool true), (0, v0), (1, v1)]
set_option maxHeartbeats 8000000 in
theorem apart_free (t sb db mb1 mb2 i : Nat) (A R2 : SProp) (p2 : Option Addr) (zs : List Int) (cap2 : Nat) (o2 : Obj) (v0 : Value) (L : List Sl) (f1 f2 : Nat → Nat) (kv1 kv2 : List (Int × Int)) (hi : i < 40) (hL : L.length ≤ 41) (ok : ∀ s ∈ L, s.ok) (ha : Apart L f1 f2) (h1 : Has kv1 f1) (h2 : Has kv2 f2) (hz : ∀ z ∈ zs, (Lit.int .u8 z).wf = true) (hlz : zs.length ≤ 9223372036854775807)
    (op2 : Opens A (fun _ : Unit => True) (fun _ => [ins p2 zs.length (zs.map (Value.int .u8)) o2, R2])) (sh2 : Shuts [ins p2 zs.length (zs.map (Value.int .u8)) o2, R2] A) (w0 : World) (F0 : Nat → Prop) (Q : Exit → Act → World → Prop) (hc : SL.Calm Q)
    (hq : ∀ (L' : List Sl) (f1' : Nat → Nat) (kv1' : List (Int × Int)) (e : Exit), (e = .exit 1 ∨ e = .normal) → L'.length = L.length → (∀ s ∈ L', s.ok) → Apart L' f1' f2 → Has kv1' f1' → N 205 w0 F0 e Q (apT t mb1 mb2 i v0 (.slice p2 zs.length cap2)) [] [mpk .u8 mb1 (Value.int .i64) kv1', mpk .u8 mb2 (Value.int .i64) kv2, Tx (TxP.new t sb db 640) (slotT 1 L'), A]) :
    G Tryz.prog 205 w0 F0 (nav [1, 1, 1, 1, 1, 1, 1, 0, 1, 2, 2, 1, 0, 2, 1, 1, 1, 1] (bdy Tryz.f4)) Q (apT t mb1 mb2 i v0 (.slice p2 zs.length cap2)) [] [mpk .u8 mb1 (Value.int .i64) kv1, mpk .u8 mb2 (Value.int .i64) kv2, Tx (TxP.new t sb db 640) (slotT 1 L), A] := by
  have room : ∀ (L : List Sl), L.length ≤ 200 → (TxP.new t sb db 640).room (slotT 1 L) := fun L h => by show 0 + 2 * (slotT 1 L).length + 25 < 640; rw [slotT_len]; omega
  obtain ⟨c, hc⟩ : ∃ c, c = nav [1, 1, 1, 1, 1, 1, 1, 0, 1, 2, 2, 1, 0, 2, 1, 1, 1, 1] (bdy Tryz.f4) := ⟨_, rfl⟩
  rw [← hc]
  dsimp only [nav, bdy, Tryz.f4, Option.getD] at hc
  subst hc
  by_cases hiz : i < zs.length
  · refine g_inv (fun i => open2 op2 (i.take (A := A) (by with_reducible (repeat (first | refine Take.here | apply Take.there))))) ?_
    have hgt0 := hz _ (getD_mem hiz (z := 0))
    refine g_open (o := ins_opens (p := p2) (m := zs.length) (by omega)) (h := ?_); (rintro ⟨gb, off, row, fr, T0⟩ ⟨rfl, rfl, v5, v6, v7⟩; dsimp only [List.cons_append, List.nil_append])
    have hgt : row[off + i * 1]? = some (.int .u8 (zs.getD i 0)) := ins_get v5 hiz (by rw [List.getElem?_map, List.getD, List.getElem?_eq_getElem hiz]; rfl)
    have hw := wf_u8' hgt0
    obtain ⟨x, hx⟩ : ∃ x : Nat, zs.getD i 0 = x := ⟨(zs.getD i 0).toNat, by omega⟩
    rw [hx] at hgt hw
    obtain ⟨c, hc⟩ : ∃ c : Nat, c = 1 + x % 8 := ⟨_, rfl⟩
    have ec : IntKind.i64.wrap (1 + IntKind.i64.wrap ((x : Int).tmod 8)) = (c : Int) := by rw [Int.tmod_eq_emod_of_nonneg (by omega), wrapI64 (n := (x : Int) % 8) (by omega), wrapI64 (by omega)]; omega
    have hF : Does Tryz.prog 19 [.pointer (some ⟨t, 0, none⟩), .int .i64 c] [Tx (TxP.new t sb db 640) (slotT 1 L)] (fun v H => v = .tuple #[.int .i64 (frN c L : Nat), .int .i64 0] ∧ H = [Tx (TxP.new t sb db 640) (slotT 1 (L.map (Sl.fr c)))]) :=
      sFree_does (TxP.new t sb db 640) L c (by omega) (by omega) ok (room _ (by omega))
    have hcnt := ha.count (c := c) (by omega)
    have hfl := frN_le c L
    (repeat' (first | refine g_seq (h := ?_) | refine g_region (h := ?_) | refine l_nil (h := ?_) | refine n_then (h := ?_) | refine l_pures1 (h := ?_) | refine l_load_p (h := ?_) | refine l_indexAddr (h := ?_) | refine g_skip (h := ?_) | (refine g_spF (h := ?_); intro h)))
    refine l_shut (ins_shuts v5 v6 v7) (h := ?_)
    refine l_inv (fun i => shut2 sh2 ((i.take (A := R2) (by with_reducible (repeat (first | refine Take.here | apply Take.there)))).take (A := ins (some ⟨gb, off, none⟩) zs.length (zs.map (Value.int .u8)) (.cells row.toArray T0 fr)) (Take.there (by with_reducible (repeat (first | refine Take.here | apply Take.there)))))) ?_
    rw [ec]
    (repeat' (first | refine g_seq (h := ?_) | refine g_region (h := ?_) | refine l_nil (h := ?_) | refine n_then (h := ?_) | refine l_pures1 (h := ?_) | (refine l_atc ?_; refine l_call (hF) ?_) | refine g_block (h := ?_)))
    (refine g_loop (fun y : Nat × List (Int × Int) => [(17, .int .i64 y.1), (16, .int .i64 0), (15, .int .i64 ((frN c L : Int) - (cntA f1 f2 c y.1 : Int))), (14, .int .i64 c), (9, .int .i64 i), (8, .map (some mb2)), (7, .map (some mb1)), (6, .pointer (some ⟨t, 0, none⟩)), (5, .bool true), (0, v0), (1, .slice (some ⟨gb, off, none⟩) zs.length cap2)]) (fun y => [mpk .u8 mb1 (Value.int .i64) y.2, mpk .u8 mb2 (Value.int .i64) kv2, Tx (TxP.new t sb db 640) (slotT 1 (L.map (Sl.fr c))), A]) (fun y => Has y.2 (midA f1 f2 c y.1) ∧ y.1 ≤ 256) (fun y => 256 - y.1) ((0, kv1)) ?_ ?_ ?_ ?_; rotate_left; (repeat (first | refine ts_nil | (refine ts_cons rfl ?_ ?_; first | (with_reducible rfl) | rotate_left))); (first | (intro _ i; with_reducible refine i) | rotate_left); rotate_left; (try omega); rotate_right)
    · rintro ⟨k, kv⟩ ⟨hh, hk⟩
      dsimp only at hh hk ⊢
      by_cases hkl : k < 256
      · have ew8 : IntKind.u8.wrap (k : Int) = k := wrapU8 (by omega)
        have hg1 : (kvGet kv (IntKind.u8.wrap (k : Int))).getD 0 = (f1 k : Int) := by rw [ew8, hh k hkl, midA_at]
        have hg2 : (kvGet kv2 (IntKind.u8.wrap (k : Int))).getD 0 = (f2 k : Int) := by rw [ew8]; exact h2 k hkl
        have hcl := cntA_le f1 f2 c k
        by_cases hp : f1 k ≠ 0 ∧ f2 k = c
        · have hcy := cntA_yes hp
          have hst := hh.stepPut hp
          rw [← ew8] at hst
          have ew : IntKind.i64.wrap ((frN c L : Int) - (cntA f1 f2 c k : Int) - 1) = (frN c L : Int) - (cntA f1 f2 c (k + 1) : Int) := by rw [wrapI64 (by omega)]; omega
          obtain ⟨q1, q2⟩ := hp
          (repeat' (first | refine g_seq (h := ?_) | refine g_region (h := ?_) | refine l_nil (h := ?_) | refine n_then (h := ?_) | refine l_pures1 (h := ?_) | refine l_guard_yes (h := ?_) | refine g_skip (h := ?_) | refine g_block (h := ?_) | refine n_block (h := ?_) | refine l_lookup_k _ (h := ?_) | refine l_mapUpdate_k (h := ?_) | (refine l_spT (h := ?_); intro h) | (refine g_spT (h := ?_); intro h)))
          rw [ew]
          (refine n_back ((k + 1, kvPut kv (IntKind.u8.wrap (k : Int)) 0)) ?_ ?_ ?_ ?_; rotate_left; rotate_left; (repeat (first | refine ts_nil | (refine ts_cons rfl ?_ ?_; first | (with_reducible rfl) | rotate_left))); (first | (intro _ i; with_reducible refine i) | rotate_left); (try omega); (try omega))
          all_goals first
            | exact ⟨hst, hkl⟩
            | (dsimp only; omega)
            | (rw [wrapI64 (by omega)]; rfl)
            | (intro _ i; exact inv_keep parts_of i)
            | rfl
        · have hcy := cntA_no hp
          have hst := hh.step hp
          (repeat' (first | refine g_seq (h := ?_) | refine g_region (h := ?_) | refine l_nil (h := ?_) | refine n_then (h := ?_) | refine l_pures1 (h := ?_) | refine l_guard_yes (h := ?_) | refine l_guard_no (h := ?_) | refine g_skip (h := ?_) | refine g_block (h := ?_) | refine n_block (h := ?_) | refine g_cond_f (h := ?_) | refine l_lookup_k _ (h := ?_) | (refine l_sp (h1 := ?_) (h0 := ?_) <;> intro h) | (refine g_spT (h := ?_); intro h) | (refine g_spF (h := ?_); intro h)))
          all_goals
            (refine n_back ((k + 1, kv)) ?_ ?_ ?_ ?_; rotate_left; rotate_left; (repeat (first | refine ts_nil | (refine ts_cons rfl ?_ ?_; first | (with_reducible rfl) | rotate_left))); (first | (intro _ i; with_reducible refine i) | rotate_left); (try omega); (try omega))
          all_goals first
            | exact ⟨hst, hkl⟩
            | (dsimp only; omega)
            | (rw [wrapI64 (by omega)]; rfl)
            | (rw [hcy]; done)
            | (rw [hcy]; rfl)
            | (intro _ i; exact inv_keep parts_of i)
            | rfl
      · obtain rfl : k = 256 := by omega
        (repeat' (first | refine g_seq (h := ?_) | refine g_region (h := ?_) | refine l_nil (h := ?_) | refine n_then (h := ?_) | refine l_pures1 (h := ?_) | refine l_guard_yes (h := ?_) | refine g_skip (h := ?_) | refine g_exit (h := ?_) | refine n_then_exit (h := ?_) | refine n_block_hit (h := ?_) | refine g_cond_f (h := ?_) | (refine g_spF (h := ?_); intro h)))
        exact n_bang (hq (L.map (Sl.fr c)) (cut f1 f2 c) kv .normal (.inr rfl) (by simp) (fun s hs => by
          obtain ⟨s', h1, rfl⟩ := List.mem_map.1 hs
          exact fr_ok (ok _ h1)) (ha.free (by omega)) hh.all)
    · refine ⟨?_, Nat.zero_le _⟩
      rw [midA_zero]
      exact h1
    all_goals first
      | rfl
      | (dsimp only; rw [cntA_zero]; simp; done)
      | (intro _ i; exact inv_keep parts_of i)
  · (repeat' (first | refine g_seq (h := ?_) | refine g_region (h := ?_) | refine l_nil (h := ?_) | refine n_then (h := ?_) | refine l_pures1 (h := ?_) | refine g_exit (h := ?_) | refine n_then_exit (h := ?_) | (refine g_spT (h := ?_); intro h)))
    exact n_bang (hq L f1 kv1 (.exit 1) (.inl rfl) rfl ok ha h1)

theorem apart_freeO (t sb db mb1 mb2 i : Nat) (A R1 R2 : SProp) (p2 : Option Addr) (zs : List Int) (cap2 : Nat) (o2 : Obj) (v0 : Value) (L : List Sl) (f1 f2 : Nat → Nat) (kv1 kv2 : List (Int × Int)) (gb off m : Nat) (xs row : List Value) (fr : Nat × Nat) (T0 : TypeId) (v5 : (row.drop off).take m = xs) (v6 : off + m ≤ row.length) (v7 : xs.length = m) (sh1 : Shuts [ins (some ⟨gb, off, none⟩) m xs (.cells row.toArray T0 fr), R1] A) (hi : i < 40) (hL : L.length ≤ 41) (ok : ∀ s ∈ L, s.ok) (ha : Apart L f1 f2) (h1 : Has kv1 f1) (h2 : Has kv2 f2) (hz : ∀ z ∈ zs, (Lit.int .u8 z).wf = true) (hlz : zs.length ≤ 9223372036854775807)
    (op2 : Opens A (fun _ : Unit => True) (fun _ => [ins p2 zs.length (zs.map (Value.int .u8)) o2, R2])) (sh2 : Shuts [ins p2 zs.length (zs.map (Value.int .u8)) o2, R2] A) (w0 : World) (F0 : Nat → Prop) (Q : Exit → Act → World → Prop) (hc : SL.Calm Q)
    (hq : ∀ (L' : List Sl) (f1' : Nat → Nat) (kv1' : List (Int × Int)) (e : Exit), (e = .exit 1 ∨ e = .normal) → L'.length = L.length → (∀ s ∈ L', s.ok) → Apart L' f1' f2 → Has kv1' f1' → N 205 w0 F0 e Q (apT t mb1 mb2 i v0 (.slice p2 zs.length cap2)) [] [mpk .u8 mb1 (Value.int .i64) kv1', mpk .u8 mb2 (Value.int .i64) kv2, Tx (TxP.new t sb db 640) (slotT 1 L'), A]) :
    G Tryz.prog 205 w0 F0 (nav [1, 1, 1, 1, 1, 1, 1, 0, 1, 2, 2, 1, 0, 2, 1, 1, 1, 1] (bdy Tryz.f4)) Q (apT t mb1 mb2 i v0 (.slice p2 zs.length cap2)) [] [mpk .u8 mb1 (Value.int .i64) kv1, mpk .u8 mb2 (Value.int .i64) kv2, Tx (TxP.new t sb db 640) (slotT 1 L), pts gb (.cells row.toArray T0 fr), R1] := by
  refine g_shut (ins_shuts v5 v6 v7) (h := ?_)
  refine g_inv (fun i => shut2 sh1 ((i.take (A := R1) (by with_reducible (repeat (first | refine Take.here | apply Take.there)))).take (A := ins (some ⟨gb, off, none⟩) m xs (.cells row.toArray T0 fr)) (Take.there (by with_reducible (repeat (first | refine Take.here | apply Take.there)))))) ?_
  exact g_bang (apart_free t sb db mb1 mb2 i A R2 p2 zs cap2 o2 v0 L f1 f2 kv1 kv2 hi hL ok ha h1 h2 hz hlz op2 sh2 w0 F0 Q hc hq)
end Go.Proofs.YtmfmommgooccnaaGreat
/- Law SlotApart: a round, where the nonce is new. -/
set_option maxRecDepth 20000
set_option linter.unusedVariables false
set_option linter.unusedSimpArgs false
namespace Go.Proofs.YtmfmommgooccnaaGreat
open Go.Proofs.YtmfmommgooccnaaGreat.SL

set_option maxHeartbeats 8000000 in
theorem apart_new (t sb db mb1 mb2 i : Nat) (A R1 R2 : SProp) (p1 p2 : Option Addr) (ks zs : List Int) (cap1 cap2 : Nat) (o1 o2 : Obj) (L : List Sl) (f1 f2 : Nat → Nat) (kv1 kv2 : List (Int × Int)) (hil : i < ks.length) (hi : i < 40) (hL : L.length ≤ 40) (ok : ∀ s ∈ L, s.ok) (ha : Apart L f1 f2) (h1 : Has kv1 f1) (h2 : Has kv2 f2) (hk : ∀ z ∈ ks, (Lit.int .u8 z).wf = true) (hz : ∀ z ∈ zs, (Lit.int .u8 z).wf = true) (hl : ks.length ≤ 9223372036854775807) (hlz : zs.length ≤ 9223372036854775807)
    (op1 : Opens A (fun _ : Unit => True) (fun _ => [ins p1 ks.length (ks.map (Value.int .u8)) o1, R1])) (sh1 : Shuts [ins p1 ks.length (ks.map (Value.int .u8)) o1, R1] A)
    (op2 : Opens A (fun _ : Unit => True) (fun _ => [ins p2 zs.length (zs.map (Value.int .u8)) o2, R2])) (sh2 : Shuts [ins p2 zs.length (zs.map (Value.int .u8)) o2, R2] A)
    (x : Nat) (hx : ks.getD i 0 = x) (h0 : f1 x = 0) (w0 : World) (F0 : Nat → Prop) (Q : Exit → Act → World → Prop) (hc : SL.Calm Q)
    (hq : ∀ (L' : List Sl) (f1' f2' : Nat → Nat) (kv1' kv2' : List (Int × Int)) (e : Exit), (e = .exit 1 ∨ e = .normal) → L'.length ≤ L.length + 1 → (∀ s ∈ L', s.ok) → Apart L' f1' f2' → Has kv1' f1' → Has kv2' f2' → N 205 w0 F0 e Q (apT t mb1 mb2 i (.slice p1 ks.length cap1) (.slice p2 zs.length cap2)) [] [mpk .u8 mb1 (Value.int .i64) kv1', mpk .u8 mb2 (Value.int .i64) kv2', Tx (TxP.new t sb db 640) (slotT 1 L'), A]) :
    G Tryz.prog 205 w0 F0 (nav [1, 1, 1, 1, 1, 1, 1, 0, 1, 2, 2, 1, 0, 2] (bdy Tryz.f4)) Q (apT t mb1 mb2 i (.slice p1 ks.length cap1) (.slice p2 zs.length cap2)) [] [mpk .u8 mb1 (Value.int .i64) kv1, mpk .u8 mb2 (Value.int .i64) kv2, Tx (TxP.new t sb db 640) (slotT 1 L), A] := by
  have room : ∀ (L : List Sl), L.length ≤ 200 → (TxP.new t sb db 640).room (slotT 1 L) := fun L h => by show 0 + 2 * (slotT 1 L).length + 25 < 640; rw [slotT_len]; omega
  obtain ⟨c, hc⟩ : ∃ c, c = nav [1, 1, 1, 1, 1, 1, 1, 0, 1, 2, 2, 1, 0, 2] (bdy Tryz.f4) := ⟨_, rfl⟩
  rw [← hc]
  dsimp only [nav, bdy, Tryz.f4, Option.getD] at hc
  subst hc
  refine g_inv (fun i => open2 op1 (i.take (A := A) (by with_reducible (repeat (first | refine Take.here | apply Take.there))))) ?_
  refine g_open (o := ins_opens (p := p1) (m := ks.length) (by omega)) (h := ?_); (rintro ⟨gb, off, row, fr, T0⟩ ⟨rfl, rfl, v5, v6, v7⟩; dsimp only [List.cons_append, List.nil_append])
  have hgt : row[off + i * 1]? = some (.int .u8 (ks.getD i 0)) := ins_get v5 hil (by rw [List.getElem?_map, List.getD, List.getElem?_eq_getElem hil]; rfl)
  have hw := wf_u8' (hk _ (getD_mem hil (z := 0)))
  rw [hx] at hgt hw
  obtain ⟨c, hc5⟩ : ∃ c : Nat, c = 1 + i % 5 := ⟨_, rfl⟩
  have hr : (i : Int).tmod 5 = ((i % 5 : Nat) : Int) := by rw [Int.tmod_eq_emod_of_nonneg (by omega)]; omega
  have ec : IntKind.i64.wrap (1 + (i : Int).tmod 5) = (c : Int) := by rw [hr, wrapI64 (by omega)]; omega
  have ewx : IntKind.u64.wrap (x : Int) = x := wrapU64 (by omega)
  have htl := takeAt_le L
  have hg1 : (kvGet kv1 (x : Int)).getD 0 = (f1 x : Int) := h1 x (by omega)
  have hu := ha.not h0
  have hU : Does Tryz.prog 22 [.pointer (some ⟨t, 0, none⟩), .int .u64 x] [Tx (TxP.new t sb db 640) (slotT 1 L)] (fun v H => v = .tuple #[.bool false, .int .i64 0] ∧ H = [Tx (TxP.new t sb db 640) (slotT 1 L)]) := sUsedNo_does (TxP.new t sb db 640) L x (by omega) (by omega) ok hu
  have hT : Does Tryz.prog 20 [.pointer (some ⟨t, 0, none⟩), .int .i64 c, .int .u64 x] [Tx (TxP.new t sb db 640) (slotT 1 L)] (fun v H => v = .tuple #[.agg #[.int .i64 (1 + takeAt L : Nat), .int .i64 c, .int .i64 (epochAt L : Nat), .int .u64 x], .int .i64 0] ∧ H = [Tx (TxP.new t sb db 640) (slotT 1 (takeL L c x))]) :=
    slotTake_does (TxP.new t sb db 640) L c x (by omega) (by omega) (by omega) ok (room _ (by omega)) hu (by omega)
  have hd : decide ((kvGet kv1 (x : Int)).getD 0 > 0) = false := by rw [hg1, h0]; rfl
  (repeat (first | refine g_seq (h := ?_) | refine g_region (h := ?_) | refine l_pures1 (h := ?_) | refine l_load_p (h := ?_) | refine l_indexAddr (h := ?_)))
  rw [ewx]
  (repeat (first | refine g_seq (h := ?_) | refine g_region (h := ?_) | refine l_nil (h := ?_) | refine n_then (h := ?_) | refine l_pures1 (h := ?_) | (refine l_atc ?_; refine l_call (hU) ?_) | refine l_load_p (h := ?_) | refine l_indexAddr (h := ?_)))
  rw [ewx, ec]
  (repeat (first | refine g_seq (h := ?_) | refine l_nil (h := ?_) | refine n_then (h := ?_) | refine l_pures1 (h := ?_) | (refine l_atc ?_; refine l_call (hT) ?_) | refine l_store (h := ?_) | (refine l_alloc (h := ?_); intro _)))
  rename_i b12
  (refine g_draw [mpk .u8 mb1 (Value.int .i64) kv1, cl b12 32 [.int .i64 (1 + takeAt L : Nat), .int .i64 c, .int .i64 (epochAt L : Nat), .int .u64 x], pts gb (.cells row.toArray T0 fr)] (h := a_pass2 (h := ?_)))
  (repeat (first | refine l_nil (h := ?_) | refine l_pures1 (h := ?_) | refine l_guard_yes (h := ?_) | refine l_load_p (h := ?_) | refine l_indexAddr (h := ?_) | refine a_one (h := ?_) | refine n_any (h := a_pass2 (h := ?_)) | refine a_vg (h := ?_) | refine l_lookup_k _ (h := ?_)))
  rw [hd]
  (repeat (first | refine l_nil (h := ?_) | refine l_pures1 (h := ?_) | refine l_guard_yes (h := ?_) | refine l_guard_no (h := ?_) | refine a_one (h := ?_) | refine n_any (h := a_pass2 (h := ?_)) | refine a_loadg (h := a_pass2 (h := ?_)) | refine a_vg (h := ?_)))
  have e6 : ((c : Int) != (c : Int)) = false := by simp
  have e7 : ((x : Int) != (x : Int)) = false := by simp
  rw [ec, e6]
  (repeat (first | refine l_nil (h := ?_) | refine n_then (h := ?_) | refine l_pures1 (h := ?_) | refine l_guard_yes (h := ?_) | refine l_load_p (h := ?_) | refine l_indexAddr (h := ?_) | refine a_done (h := ?_) | refine a_one (h := ?_) | refine n_any (h := a_pass2 (h := ?_)) | refine a_loadg (h := a_pass2 (h := ?_)) | refine a_vg (h := ?_)))
  rw [ewx, e7]
  (repeat (first | refine g_seq (h := ?_) | refine g_region (h := ?_) | refine l_nil (h := ?_) | refine n_then (h := ?_) | refine l_pures1 (h := ?_) | refine g_skip (h := ?_) | refine g_cond_t (h := ?_) | refine g_cond_f (h := ?_)))
  (refine g_draw [pts gb (.cells row.toArray T0 fr), cl b12 32 [.int .i64 (1 + takeAt L : Nat), .int .i64 c, .int .i64 (epochAt L : Nat), .int .u64 x]] (h := a_pass2 (h := ?_)))
  (repeat (first | refine l_nil (h := ?_) | refine n_then (h := ?_) | refine l_load_p (h := ?_) | refine l_indexAddr (h := ?_) | refine a_done (h := ?_) | refine a_load (h := a_pass2 (h := ?_)) | refine a_one (h := ?_) | refine n_any (h := a_pass2 (h := ?_)) | refine l_mapUpdate_k (h := ?_)))
  (refine g_draw [pts gb (.cells row.toArray T0 fr), cl b12 32 [.int .i64 (1 + takeAt L : Nat), .int .i64 c, .int .i64 (epochAt L : Nat), .int .u64 x]] (h := a_pass2 (h := ?_)))
  have hll := takeL_len L c x
  have hok2 := takeL_ok (cap := c) (n := x) ok (by omega) (by omega)
  have ha2 := ha.take (n := x) (c := c) (by omega) h0 (by omega)
  have h12 := h1.put x (1 + takeAt L)
  have h22 := h2.put x c
  have hb := fun hq => apart_freeO t sb db mb1 mb2 i A R1 R2 p2 zs cap2 o2 (.slice (some ⟨gb, off, none⟩) ks.length cap1) (takeL L c x) (upd f1 x (1 + takeAt L)) (upd f2 x c) (kvPut kv1 (x : Int) ((1 + takeAt L : Nat) : Int)) (kvPut kv2 (x : Int) (c : Int)) gb off ks.length (ks.map (Value.int .u8)) row fr T0 v5 v6 v7 sh1 hi (by omega) hok2 ha2 h12 h22 hz hlz op2 sh2 w0 F0 Q hc hq
  (repeat (first | ((with_reducible show G _ _ _ _ (Code.seq (Code.seq (Code.region 19 _ _) _) _) _ _ _ _); refine g_bang (hb ?_)) | refine l_nil (h := ?_) | refine n_then (h := ?_) | refine l_load_p (h := ?_) | refine l_indexAddr (h := ?_) | refine a_done (h := ?_) | refine a_load (h := a_pass2 (h := ?_)) | refine a_one (h := ?_) | refine n_any (h := a_pass2 (h := ?_)) | refine l_mapUpdate_k (h := ?_)))
  intro L' f1' kv1' e he hlen ok' ha' h1'
  exact hq L' f1' (upd f2 x c) kv1' _ e he (by omega) ok' ha' h1' h22
end Go.Proofs.YtmfmommgooccnaaGreat
/- Law SlotApart: a round, where the nonce is not new. -/
set_option maxRecDepth 20000
set_option linter.unusedVariables false
set_option linter.unusedSimpArgs false
namespace Go.Proofs.YtmfmommgooccnaaGreat
open Go.Proofs.YtmfmommgooccnaaGreat.SL

set_option maxHeartbeats 8000000 in
theorem apart_old (t sb db mb1 mb2 i : Nat) (A R1 R2 : SProp) (p1 p2 : Option Addr) (ks zs : List Int) (cap1 cap2 : Nat) (o1 o2 : Obj) (L : List Sl) (f1 f2 : Nat → Nat) (kv1 kv2 : List (Int × Int)) (hil : i < ks.length) (hi : i < 40) (hL : L.length ≤ 40) (ok : ∀ s ∈ L, s.ok) (ha : Apart L f1 f2) (h1 : Has kv1 f1) (h2 : Has kv2 f2) (hk : ∀ z ∈ ks, (Lit.int .u8 z).wf = true) (hz : ∀ z ∈ zs, (Lit.int .u8 z).wf = true) (hl : ks.length ≤ 9223372036854775807) (hlz : zs.length ≤ 9223372036854775807)
    (op1 : Opens A (fun _ : Unit => True) (fun _ => [ins p1 ks.length (ks.map (Value.int .u8)) o1, R1])) (sh1 : Shuts [ins p1 ks.length (ks.map (Value.int .u8)) o1, R1] A)
    (op2 : Opens A (fun _ : Unit => True) (fun _ => [ins p2 zs.length (zs.map (Value.int .u8)) o2, R2])) (sh2 : Shuts [ins p2 zs.length (zs.map (Value.int .u8)) o2, R2] A)
    (x : Nat) (hx : ks.getD i 0 = x) (h0 : f1 x ≠ 0) (w0 : World) (F0 : Nat → Prop) (Q : Exit → Act → World → Prop) (hc : SL.Calm Q)
    (hq : ∀ (L' : List Sl) (f1' f2' : Nat → Nat) (kv1' kv2' : List (Int × Int)) (e : Exit), (e = .exit 1 ∨ e = .normal) → L'.length ≤ L.length + 1 → (∀ s ∈ L', s.ok) → Apart L' f1' f2' → Has kv1' f1' → Has kv2' f2' → N 205 w0 F0 e Q (apT t mb1 mb2 i (.slice p1 ks.length cap1) (.slice p2 zs.length cap2)) [] [mpk .u8 mb1 (Value.int .i64) kv1', mpk .u8 mb2 (Value.int .i64) kv2', Tx (TxP.new t sb db 640) (slotT 1 L'), A]) :
    G Tryz.prog 205 w0 F0 (nav [1, 1, 1, 1, 1, 1, 1, 0, 1, 2, 2, 1, 0, 2] (bdy Tryz.f4)) Q (apT t mb1 mb2 i (.slice p1 ks.length cap1) (.slice p2 zs.length cap2)) [] [mpk .u8 mb1 (Value.int .i64) kv1, mpk .u8 mb2 (Value.int .i64) kv2, Tx (TxP.new t sb db 640) (slotT 1 L), A] := by
  have room : ∀ (L : List Sl), L.length ≤ 200 → (TxP.new t sb db 640).room (slotT 1 L) := fun L h => by show 0 + 2 * (slotT 1 L).length + 25 < 640; rw [slotT_len]; omega
  obtain ⟨c, hc⟩ : ∃ c, c = nav [1, 1, 1, 1, 1, 1, 1, 0, 1, 2, 2, 1, 0, 2] (bdy Tryz.f4) := ⟨_, rfl⟩
  rw [← hc]
  dsimp only [nav, bdy, Tryz.f4, Option.getD] at hc
  subst hc
  refine g_inv (fun i => open2 op1 (i.take (A := A) (by with_reducible (repeat (first | refine Take.here | apply Take.there))))) ?_
  refine g_open (o := ins_opens (p := p1) (m := ks.length) (by omega)) (h := ?_); (rintro ⟨gb, off, row, fr, T0⟩ ⟨rfl, rfl, v5, v6, v7⟩; dsimp only [List.cons_append, List.nil_append])
  have hgt : row[off + i * 1]? = some (.int .u8 (ks.getD i 0)) := ins_get v5 hil (by rw [List.getElem?_map, List.getD, List.getElem?_eq_getElem hil]; rfl)
  have hw := wf_u8' (hk _ (getD_mem hil (z := 0)))
  rw [hx] at hgt hw
  obtain ⟨c, hc5⟩ : ∃ c : Nat, c = 1 + i % 5 := ⟨_, rfl⟩
  have hr : (i : Int).tmod 5 = ((i % 5 : Nat) : Int) := by rw [Int.tmod_eq_emod_of_nonneg (by omega)]; omega
  have ec : IntKind.i64.wrap (1 + (i : Int).tmod 5) = (c : Int) := by rw [hr, wrapI64 (by omega)]; omega
  have ewx : IntKind.u64.wrap (x : Int) = x := wrapU64 (by omega)
  have htl := takeAt_le L
  have hg1 : (kvGet kv1 (x : Int)).getD 0 = (f1 x : Int) := h1 x (by omega)
  obtain ⟨j, hj, e1, e2, e3, e4⟩ := ha.yes (by omega) h0
  have hU : Does Tryz.prog 22 [.pointer (some ⟨t, 0, none⟩), .int .u64 x] [Tx (TxP.new t sb db 640) (slotT 1 L)] (fun v H => v = .tuple #[.bool true, .int .i64 0] ∧ H = [Tx (TxP.new t sb db 640) (slotT 1 L)]) := sUsedYes_does (TxP.new t sb db 640) L x (by omega) (by omega) ok j hj ⟨e2, e3⟩
  have hT : Does Tryz.prog 20 [.pointer (some ⟨t, 0, none⟩), .int .i64 c, .int .u64 x] [Tx (TxP.new t sb db 640) (slotT 1 L)] (fun v H => v = .tuple #[.agg #[.int .i64 0, .int .i64 0, .int .i64 0, .int .u64 0], .int .i64 13] ∧ H = [Tx (TxP.new t sb db 640) (slotT 1 L)]) :=
    sTakeBusy_does (TxP.new t sb db 640) L c x (by omega) (by omega) (by omega) ok j hj ⟨e2, e3⟩
  have hd : decide ((kvGet kv1 (x : Int)).getD 0 > 0) = true := by rw [hg1]; exact decide_eq_true (by omega)
  (repeat (first | refine g_seq (h := ?_) | refine g_region (h := ?_) | refine l_pures1 (h := ?_) | refine l_load_p (h := ?_) | refine l_indexAddr (h := ?_)))
  rw [ewx]
  (repeat (first | refine g_seq (h := ?_) | refine g_region (h := ?_) | refine l_nil (h := ?_) | refine n_then (h := ?_) | refine l_pures1 (h := ?_) | (refine l_atc ?_; refine l_call (hU) ?_) | refine l_load_p (h := ?_) | refine l_indexAddr (h := ?_)))
  rw [ewx, ec]
  (repeat (first | refine g_seq (h := ?_) | refine l_nil (h := ?_) | refine n_then (h := ?_) | refine l_pures1 (h := ?_) | (refine l_atc ?_; refine l_call (hT) ?_) | refine l_store (h := ?_) | (refine l_alloc (h := ?_); intro _)))
  rename_i b12
  (refine g_draw [mpk .u8 mb1 (Value.int .i64) kv1, cl b12 32 [.int .i64 0, .int .i64 0, .int .i64 0, .int .u64 0], pts gb (.cells row.toArray T0 fr)] (h := a_pass2 (h := ?_)))
  (repeat (first | refine l_nil (h := ?_) | refine l_pures1 (h := ?_) | refine l_guard_yes (h := ?_) | refine l_load_p (h := ?_) | refine l_indexAddr (h := ?_) | refine a_one (h := ?_) | refine n_any (h := a_pass2 (h := ?_)) | refine a_vg (h := ?_) | refine l_lookup_k _ (h := ?_)))
  rw [hd]
  have hb := fun hq => apart_freeO t sb db mb1 mb2 i A R1 R2 p2 zs cap2 o2 (.slice (some ⟨gb, off, none⟩) ks.length cap1) L f1 f2 kv1 kv2 gb off ks.length (ks.map (Value.int .u8)) row fr T0 v5 v6 v7 sh1 hi (by omega) ok ha h1 h2 hz hlz op2 sh2 w0 F0 Q hc hq
  (repeat (first | ((with_reducible show G _ _ _ _ (Code.seq (Code.seq (Code.region 19 _ _) _) _) _ _ _ _); refine g_bang (hb ?_)) | refine g_seq (h := ?_) | refine g_region (h := ?_) | refine l_nil (h := ?_) | refine n_then (h := ?_) | refine l_pures1 (h := ?_) | refine l_guard_yes (h := ?_) | refine l_guard_no (h := ?_) | refine l_guard_un (h := ?_) | refine g_skip (h := ?_) | refine a_done (h := ?_) | refine a_one (h := ?_) | refine n_any (h := a_pass2 (h := ?_)) | refine a_un (h := ?_) | refine g_cond_f (h := ?_)))
  intro L' f1' kv1' e he hlen ok' ha' h1'
  exact hq L' f1' f2 kv1' _ e he (by omega) ok' ha' h1' h2
end Go.Proofs.YtmfmommgooccnaaGreat
/- Law SlotApart: the first loop. -/
set_option maxRecDepth 20000
set_option linter.unusedVariables false
set_option linter.unusedSimpArgs false
namespace Go.Proofs.YtmfmommgooccnaaGreat
open Go.Proofs.YtmfmommgooccnaaGreat.SL

set_option maxHeartbeats 8000000 in
theorem SlotApart_does (A R1 R2 : SProp) (p1 p2 : Option Addr) (ks zs : List Int) (cap1 cap2 : Nat) (o1 o2 : Obj) (hk : ∀ z ∈ ks, (Lit.int .u8 z).wf = true) (hz : ∀ z ∈ zs, (Lit.int .u8 z).wf = true) (hl : ks.length ≤ 9223372036854775807) (hlz : zs.length ≤ 9223372036854775807)
    (op1 : Opens A (fun _ : Unit => True) (fun _ => [ins p1 ks.length (ks.map (Value.int .u8)) o1, R1])) (sh1 : Shuts [ins p1 ks.length (ks.map (Value.int .u8)) o1, R1] A)
    (op2 : Opens A (fun _ : Unit => True) (fun _ => [ins p2 zs.length (zs.map (Value.int .u8)) o2, R2])) (sh2 : Shuts [ins p2 zs.length (zs.map (Value.int .u8)) o2, R2] A) :
    Does Tryz.prog 4 [.slice p1 ks.length cap1, .slice p2 zs.length cap2] [A] (fun v H => v = .bool true ∧ H = [A]) := by
  refine does_of Tryz.func4 Tryz.ntmps4 rfl rfl rfl (fun w0 F0 => ?_)
  (repeat' (first | refine g_seq (h := ?_) | refine g_region (h := ?_) | refine l_nil (h := ?_) | refine n_then (h := ?_) | refine l_pures1 (h := ?_) | (refine l_atc ?_; refine l_call (examples17_does) ?_) | (refine l_atc ?_; refine l_call_ (made17_does) ?_; rintro _ _ _ ⟨t, db, sb, rfl, rfl⟩ he; cases he) | refine g_skip (h := ?_) | refine g_cond_f (h := ?_)))
  (refine l_makeMap_k (.u8) (Value.int .i64) (h := ?_); intro _)
  (repeat (first | refine g_seq (h := ?_) | refine g_region (h := ?_) | refine l_nil (h := ?_) | refine n_then (h := ?_) | refine l_pures1 (h := ?_)))
  (refine l_makeMap_k (.u8) (Value.int .i64) (h := ?_); intro _)
  (repeat (first | refine g_seq (h := ?_) | refine g_region (h := ?_) | refine l_nil (h := ?_) | refine n_then (h := ?_) | refine l_pures1 (h := ?_) | refine g_block (h := ?_)))
  rename_i mb1 mb2
  have room : ∀ (L : List Sl), L.length ≤ 200 → (TxP.new t sb db 640).room (slotT 1 L) := fun L h => by show 0 + 2 * (slotT 1 L).length + 25 < 640; rw [slotT_len]; omega
  (refine g_loop (fun y : Nat × List Sl × (Nat → Nat) × (Nat → Nat) × List (Int × Int) × List (Int × Int) => [(9, .int .i64 y.1), (8, .map (some mb2)), (7, .map (some mb1)), (6, .pointer (some ⟨t, 0, none⟩)), (5, .bool true), (0, .slice p1 ks.length cap1), (1, .slice p2 zs.length cap2)]) (fun y => [mpk .u8 mb1 (Value.int .i64) y.2.2.2.2.1, mpk .u8 mb2 (Value.int .i64) y.2.2.2.2.2, Tx (TxP.new t sb db 640) (slotT 1 y.2.1), A]) (fun y => y.2.1.length ≤ y.1 ∧ (∀ s ∈ y.2.1, s.ok) ∧ Apart y.2.1 y.2.2.1 y.2.2.2.1 ∧ Has y.2.2.2.2.1 y.2.2.1 ∧ Has y.2.2.2.2.2 y.2.2.2.1 ∧ y.1 ≤ ks.length ∧ y.1 ≤ 40) (fun y => ks.length - y.1) ((0, [], (fun _ => 0), (fun _ => 0), [], [])) ?_ ?_ ?_ ?_; rotate_left; (repeat (first | refine ts_nil | (refine ts_cons rfl ?_ ?_; first | (with_reducible rfl) | rotate_left))); (first | (intro _ i; with_reducible refine i) | rotate_left); rotate_left; (try omega); rotate_right)
  · rintro ⟨i, L, f1, f2, kv1, kv2⟩ ⟨hL, ok, ha, h1, h2, hi, hi40⟩
    dsimp only at hL ok ha h1 h2 hi hi40 ⊢
    by_cases hil : i < ks.length ∧ i < 40
    · have hw := wf_u8' (hk _ (getD_mem hil.1 (z := 0)))
      obtain ⟨x, hx⟩ : ∃ x : Nat, ks.getD i 0 = x := ⟨(ks.getD i 0).toNat, by omega⟩
      by_cases h0 : f1 x = 0
      · skip
        (repeat' (first | ((with_reducible show G _ _ _ _ (Code.seq (Code.region 12 _ _) _) _ _ _ _); refine g_bang (apart_new t sb db mb1 mb2 i A R1 R2 p1 p2 ks zs cap1 cap2 o1 o2 L f1 f2 kv1 kv2 hil.1 hil.2 (by omega) ok ha h1 h2 hk hz hl hlz op1 sh1 op2 sh2 x hx h0 w0 F0 _ (by with_reducible (repeat (first | refine calm_post | apply calm_then | apply calm_block))) ?_)) | refine g_seq (h := ?_) | refine g_region (h := ?_) | refine l_nil (h := ?_) | refine n_then (h := ?_) | refine l_pures1 (h := ?_) | refine l_guard_yes (h := ?_) | refine g_skip (h := ?_) | refine g_block (h := ?_) | (refine l_spT (h := ?_); intro h) | (refine g_spT (h := ?_); intro h)))
        intro L' f1' f2' kv1' kv2' e he hlen ok' ha' h1' h2'
        rcases he with rfl | rfl
        all_goals
          (repeat (first | refine g_region (h := ?_) | refine l_nil (h := ?_) | refine n_then (h := ?_) | refine l_pures1 (h := ?_) | refine n_block_hit (h := ?_) | refine n_block (h := ?_)))
        all_goals
          (refine n_back ((i + 1, L', f1', f2', kv1', kv2')) ?_ ?_ ?_ ?_; rotate_left; rotate_left; (repeat (first | refine ts_nil | (refine ts_cons rfl ?_ ?_; first | (with_reducible rfl) | rotate_left))); (first | (intro _ i; with_reducible refine i) | rotate_left); (try omega); (try omega))
        all_goals first
          | exact ⟨by dsimp only; omega, ok', ha', h1', h2', hil.1, hil.2⟩
          | (dsimp only; omega)
          | (rw [wrapI64 (by omega)]; rfl)
          | (intro _ i; exact inv_keep parts_of i)
          | rfl
      · skip
        (repeat' (first | ((with_reducible show G _ _ _ _ (Code.seq (Code.region 12 _ _) _) _ _ _ _); refine g_bang (apart_old t sb db mb1 mb2 i A R1 R2 p1 p2 ks zs cap1 cap2 o1 o2 L f1 f2 kv1 kv2 hil.1 hil.2 (by omega) ok ha h1 h2 hk hz hl hlz op1 sh1 op2 sh2 x hx h0 w0 F0 _ (by with_reducible (repeat (first | refine calm_post | apply calm_then | apply calm_block))) ?_)) | refine g_seq (h := ?_) | refine g_region (h := ?_) | refine l_nil (h := ?_) | refine n_then (h := ?_) | refine l_pures1 (h := ?_) | refine l_guard_yes (h := ?_) | refine g_skip (h := ?_) | refine g_block (h := ?_) | (refine l_spT (h := ?_); intro h) | (refine g_spT (h := ?_); intro h)))
        intro L' f1' f2' kv1' kv2' e he hlen ok' ha' h1' h2'
        rcases he with rfl | rfl
        all_goals
          (repeat (first | refine g_region (h := ?_) | refine l_nil (h := ?_) | refine n_then (h := ?_) | refine l_pures1 (h := ?_) | refine n_block_hit (h := ?_) | refine n_block (h := ?_)))
        all_goals
          (refine n_back ((i + 1, L', f1', f2', kv1', kv2')) ?_ ?_ ?_ ?_; rotate_left; rotate_left; (repeat (first | refine ts_nil | (refine ts_cons rfl ?_ ?_; first | (with_reducible rfl) | rotate_left))); (first | (intro _ i; with_reducible refine i) | rotate_left); (try omega); (try omega))
        all_goals first
          | exact ⟨by dsimp only; omega, ok', ha', h1', h2', hil.1, hil.2⟩
          | (dsimp only; omega)
          | (rw [wrapI64 (by omega)]; rfl)
          | (intro _ i; exact inv_keep parts_of i)
          | rfl
    · have hend := apart_tail t sb db mb1 mb2 A L f1 f2 kv1 kv2 ha h1 h2 (by omega) ok w0 F0
      (repeat' (first | ((with_reducible show G _ _ _ _ (Code.seq (Code.seq (Code.region 30 _ _) _) _) _ _ _ _); exact g_bang (hend)) | refine g_seq (h := ?_) | refine g_region (h := ?_) | refine l_nil (h := ?_) | refine n_then (h := ?_) | refine l_pures1 (h := ?_) | refine l_guard_yes (h := ?_) | refine l_guard_no (h := ?_) | refine g_exit (h := ?_) | refine n_then_exit (h := ?_) | refine n_block_hit (h := ?_) | refine g_cond_f (h := ?_) | (refine l_sp (h1 := ?_) (h0 := ?_) <;> intro h) | (refine g_spF (h := ?_); intro h)))
  all_goals first
    | exact ⟨Nat.le_refl _, fun s hs => by simp at hs, Apart.nil, Has.nil, Has.nil, Nat.zero_le _, Nat.zero_le _⟩
    | rfl
    | (intro _ i; exact inv_keep parts_of i)
    | (intro _ i; (show SL.Inv _ _ [mpk .u8 mb1 (Value.int .i64) [], mpk .u8 mb2 (Value.int .i64) [], Tx (TxP.new t sb db 640) [], A] _); exact inv_keep parts_of i)
end Go.Proofs.YtmfmommgooccnaaGreat
/- The framework, part 11: laws that take slices: what a row asks of them. -/
set_option linter.unusedVariables false
set_option linter.unusedSimpArgs false
namespace Go.Proofs.YtmfmommgooccnaaGreat.SL
open Go.RowKit Go.WideElems

/-- Wherever A holds its blocks F are as in W. -/
def Keeps (A : SProp) (W : World) (F : Nat → Prop) : Prop := ∀ h' F', A.holds h' F' → ∀ b, F b → h'[b]? = W.heap[b]?
theorem row_ofA {P : Program} {f : FuncId} {args : List Value} {A : SProp} {W : World} {F : Nat → Prop} (d : Does P f args [A] (fun v H => v = .bool true ∧ H = [A])) (hx : Keeps A W F) (s : A.holds W.heap F) :
    Calls P f args.toArray W fun e W' => e = .returned (.bool true) ∧ Go.RowKit.Below W.heap.size W W' := by
  refine (d W F ⟨F, fun _ => False, s, fun _ h => h, fun _ _ h => h, fun b => ⟨.inl, fun o => o.elim id False.elim⟩⟩).mono ?_
  rintro e W' ⟨v, H', rfl, ⟨rfl, rfl⟩, i⟩
  obtain ⟨⟨G, ⟨F1, _, a, _⟩, _⟩, _⟩ := id i
  refine ⟨rfl, i.os, i.tape, i.output, i.size, fun k hk => ?_⟩
  by_cases q : F k
  · exact hx _ _ a k q
  · exact i.frame k hk q
theorem keeps_ins {p : Option Addr} {m : Nat} {xs : List Value} {o : Obj} {W : World} {F : Nat → Prop} (hm : 0 < m) (s : (ins p m xs o).holds W.heap F) : Keeps (ins p m xs o) W F := by
  rintro h' F' ⟨_, z'⟩ b hb
  obtain ⟨_, z⟩ := s
  rcases z with ⟨e, _⟩ | ⟨g, off, row, fr, T, q1, q2, _, h3, e, f⟩
  · omega
  · rcases z' with ⟨e', _⟩ | ⟨g', off', row', fr', T', q1', q2', _, _, e', f'⟩
    · omega
    · rw [q1] at q1'
      cases q1'
      rw [(f b).1 hb, e, e']

/-- Cells that are there are an input row. -/
theorem cells_ins {W : World} {a : Addr} {m : Nat} {xs : List Value} (hl : xs.length = m) (h : ∀ i, i < m → W.cell? (a.add i) = xs[i]?) : ∃ o F, (ins (some a) m xs o).holds W.heap F ∧ Keeps (ins (some a) m xs o) W F ∧ (m = 0 → ∀ x, ¬ F x) := by
  by_cases hm : m = 0
  · exact ⟨.map #[] 0, fun _ => False, ⟨hl, .inl ⟨hm, fun _ h => h⟩⟩, fun _ _ _ _ h => h.elim, fun _ _ h => h⟩
  · obtain ⟨b, off, spot⟩ := a
    have h0 := h 0 (by omega)
    have hspot : spot = none := by
      rw [List.getElem?_eq_getElem (by omega)] at h0
      simpa [Addr.add] using World.cell?_spot h0
    subst hspot
    have h1 : ∀ i, i < m → W.cell? ⟨b, off + i, none⟩ = xs[i]? := fun i hi => by rw [← Go.WideShapes.add_plain]; exact h i hi
    have h2 := h1 0 (by omega)
    rw [List.getElem?_eq_getElem (by omega)] at h2
    obtain ⟨c, T, fr, hb⟩ : ∃ c T fr, W.heap[b]? = some (.cells c T fr) := by
      unfold World.cell? at h2
      split at h2
      · rename_i hb; exact ⟨_, _, _, hb⟩
      · cases h2
    have h3 : ∀ i, i < m → c[off + i]? = xs[i]? := fun i hi => by rw [← h1 i hi, cell_at hb]
    have hlen : off + m ≤ c.toList.length := by
      have := h3 (m - 1) (by omega)
      rw [List.getElem?_eq_getElem (by omega)] at this
      have := (Array.getElem?_eq_some_iff.1 this).1
      simp; omega
    have hs : (ins (some ⟨b, off, none⟩) m xs (.cells c T fr)).holds W.heap (fun x => x = b) := by
     refine ⟨hl, .inr ⟨b, off, c.toList, fr, T, rfl, by simp, ?_, hlen, hb, fun _ => Iff.rfl⟩⟩
     apply List.ext_getElem?
     intro i
     by_cases hi : i < m
     · rw [List.getElem?_take_of_lt hi, List.getElem?_drop, Array.getElem?_toList, h3 i hi]
     · rw [List.getElem?_eq_none (by simp; omega), List.getElem?_eq_none (by omega)]
    exact ⟨_, _, hs, keeps_ins (by omega) hs, fun q => absurd q hm⟩
theorem nil_ins {W : World} : (ins none 0 [] (.map #[] 0)).holds W.heap (fun _ => False) ∧ Keeps (ins none 0 [] (.map #[] 0)) W (fun _ => False) := ⟨⟨rfl, .inl ⟨rfl, fun _ h => h⟩⟩, fun _ _ _ _ h => h.elim⟩

/-- Two input rows, in one block or in two: what holds them both, and each with what is left. -/
theorem ins_two {W : World} {p1 p2 : Option Addr} {m1 m2 : Nat} {xs ys : List Value} {o1 o2 : Obj} {F1 F2 : Nat → Prop} (s1 : (ins p1 m1 xs o1).holds W.heap F1) (k1 : Keeps (ins p1 m1 xs o1) W F1) (z1 : m1 = 0 → ∀ x, ¬ F1 x) (s2 : (ins p2 m2 ys o2).holds W.heap F2) (k2 : Keeps (ins p2 m2 ys o2) W F2) (z2 : m2 = 0 → ∀ x, ¬ F2 x) :
    ∃ (A R1 R2 : SProp) (F : Nat → Prop), A.holds W.heap F ∧ Keeps A W F ∧ Opens A (fun _ : Unit => True) (fun _ => [ins p1 m1 xs o1, R1]) ∧ Shuts [ins p1 m1 xs o1, R1] A ∧ Opens A (fun _ : Unit => True) (fun _ => [ins p2 m2 ys o2, R2]) ∧ Shuts [ins p2 m2 ys o2, R2] A := by
  by_cases hd : ∃ x, F1 x ∧ F2 x
  · obtain ⟨x, h1, h2⟩ := hd
    have key : ∀ {p p' : Option Addr} {m m' : Nat} {xs ys : List Value} {o o' : Obj} {G G' : Nat → Prop}, (ins p m xs o).holds W.heap G → (ins p' m' ys o').holds W.heap G' → G x → G' x → 0 < m → ∀ h F, (ins p m xs o).holds h F → (ins p' m' ys o').holds h F := by
      intro p p' m m' xs ys o o' G G' ⟨_, z⟩ ⟨l', z'⟩ hx hx' hm h F ⟨_, y⟩
      rcases z with ⟨_, f⟩ | ⟨g, off, row, fr, T, q1, q2, q3, q4, e, f⟩
      · exact absurd hx (f x)
      · rcases z' with ⟨_, f'⟩ | ⟨g', off', row', fr', T', q1', q2', q3', q4', e', f'⟩
        · exact absurd hx' (f' x)
        · obtain rfl := (f x).1 hx
          obtain rfl := (f' x).1 hx'
          rw [e] at e'
          cases e'
          rcases y with ⟨e0, _⟩ | ⟨g2, off2, row2, fr2, T2, y1, y2, y3, y4, y5, y6⟩
          · omega
          · rw [q1] at y1
            cases y1
            exact ⟨l', .inr ⟨_, off', row', fr', T', q1', q2', q3', q4', y5, y6⟩⟩
    have emp : ∀ {K : SProp} {h : Array Obj} {F : Nat → Prop}, K.holds h F ↔ sep [K, fact True] h F := by
      intro K h F
      refine ⟨fun a => ⟨F, fun _ => False, a, ⟨fun _ => False, fun _ => False, ⟨trivial, fun _ h => h⟩, fun _ h => h, fun _ _ h => h, fun b => ⟨.inl, fun o => o.elim id id⟩⟩, fun _ _ h => h, fun b => ⟨.inl, fun o => o.elim id False.elim⟩⟩, ?_⟩
      rintro ⟨G1, G2, a, ⟨G3, G4, ⟨_, e⟩, f, _, u2⟩, d, u⟩
      have : F = G1 := by
        funext b
        apply propext
        rw [u b, u2 b]
        exact ⟨fun o => o.elim id (fun o => o.elim (fun q => (e b q).elim) (fun q => (f b q).elim)), .inl⟩
      rw [this]; exact a
    have hm1 : 0 < m1 := Nat.pos_of_ne_zero fun q => z1 q x h1
    have hm2 : 0 < m2 := Nat.pos_of_ne_zero fun q => z2 q x h2
    exact ⟨ins p1 m1 xs o1, fact True, fact True, F1, s1, k1, fun h F a => ⟨(), trivial, emp.1 a⟩, fun h F a => emp.2 a,
      fun h F a => ⟨(), trivial, emp.1 (key s1 s2 h1 h2 hm1 h F a)⟩, fun h F a => key s2 s1 h2 h1 hm2 h F (emp.2 a)⟩
  · refine ⟨⟨fun h F => sep [ins p1 m1 xs o1, ins p2 m2 ys o2] h F, sep_loc, sep_bnd⟩, ins p2 m2 ys o2, ins p1 m1 xs o1, fun x => F1 x ∨ F2 x, ?_, ?_, fun h F a => ⟨(), trivial, a⟩, fun h F a => a, fun h F a => ⟨(), trivial, ?_⟩, fun h F a => ?_⟩
    · exact ⟨F1, F2, s1, ⟨F2, fun _ => False, s2, fun _ h => h, fun _ _ h => h, fun b => ⟨.inl, fun o => o.elim id False.elim⟩⟩, fun x a b => hd ⟨x, a, b⟩, fun _ => Iff.rfl⟩
    · rintro h' F' ⟨G1, G2, a, ⟨G3, G4, b, _⟩, _⟩ x hx
      exact hx.elim (k1 _ _ a x) (k2 _ _ b x)
    · exact (Parts.cons (Take.there Take.here) (Parts.cons Take.here Parts.nil)).sep a
    · exact (Parts.cons (Take.there Take.here) (Parts.cons Take.here Parts.nil)).sep a
end Go.Proofs.YtmfmommgooccnaaGreat.SL
/- Rows over slices of whole numbers of any kind. -/
set_option linter.unusedVariables false
set_option linter.unusedSimpArgs false
namespace Go.Proofs.YtmfmommgooccnaaGreat
open Go.Proofs.YtmfmommgooccnaaGreat.SL Go.ChangeShapes

section
variable {H : Type} {enc : TypeId × Value → H} {P : Program} {W : World}
theorem open_Ks {t e : TypeId} {k : IntKind} (ht : P.underlying t = some (.slice e)) (he : P.underlying e = some (.int k)) (hc : P.cellsOf e = 1) {v : Value} (hv : ∃ a0 len cap, v = .slice a0 len cap) {d : DataW H} {ps : List MemPlace} (h : DataW.Trod enc P W 0 (fun _ => true) true t v d ps) :
    ∃ (a0 : Option Addr) (cap : Nat) (zs : List Int) (o : Obj) (F : Nat → Prop), v = .slice a0 zs.length cap ∧ (ins a0 zs.length (zs.map (Value.int k)) o).holds W.heap F ∧ Keeps (ins a0 zs.length (zs.map (Value.int k)) o) W F ∧ (zs.length = 0 → ∀ x, ¬ F x) ∧ (∀ z ∈ zs, (Lit.int k z).wf = true) ∧ zs.length ≤ 9223372036854775807 := by
  obtain ⟨a0, len, cap, rfl⟩ := hv
  obtain ⟨fuel, hf⟩ := h
  rcases open_ints ht he hc hf with ⟨hcs, _⟩ | ⟨a, len', cap', ss, hcs, _, hle, hmax, hlen, _, hcell, hw⟩
  · simp [Value.cells] at hcs
    obtain ⟨rfl, rfl, rfl⟩ := hcs
    exact ⟨none, 0, [], .map #[] 0, _, rfl, nil_ins.1, nil_ins.2, fun _ _ h => h, by simp, by simp⟩
  · simp [Value.cells] at hcs
    obtain ⟨rfl, rfl, rfl⟩ := hcs
    simp only [if_true] at hlen
    have hl : (ss.take len).length = len := by rw [List.length_take]; omega
    have hm' : ((ss.take len).map (Value.int k)).length = (ss.take len).length := by simp
    obtain ⟨o, F, s1, s2, s3⟩ := cells_ins (W := W) (a := a) hm' (fun i hi => by
      rw [hcell i (by omega), List.getElem?_map, List.getElem?_take_of_lt (by omega), List.getD, List.getElem?_eq_getElem (by omega)]; rfl)
    simp only [maxLen] at hmax
    exact ⟨some a, cap, ss.take len, o, F, by rw [hl], s1, s2, s3, fun z hz => hw z (List.mem_of_mem_take hz), by omega⟩
end
end Go.Proofs.YtmfmommgooccnaaGreat
/- Rows over slices of strings and of whole numbers. -/
set_option linter.unusedVariables false
set_option linter.unusedSimpArgs false
namespace Go.Proofs.YtmfmommgooccnaaGreat
open Go.Proofs.YtmfmommgooccnaaGreat.SL Go.ChangeShapes

section
variable {H : Type} {enc : TypeId × Value → H} {P : Program} {W : World}
end
end Go.Proofs.YtmfmommgooccnaaGreat

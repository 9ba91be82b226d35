/- Texts StB, StC, SlU, StD, SlV, StF, joined. -/
import Derived.Test.YtmfmommgooccnaaGreatK09
/- Package slot: Take, Free, Used. -/
set_option maxRecDepth 20000
set_option linter.unusedVariables false
set_option linter.unusedSimpArgs false
namespace Go.Proofs.YtmfmommgooccnaaGreat
open Go.Proofs.YtmfmommgooccnaaGreat.SL

theorem slC_len : ∀ (l : List (Nat × Sl)), (slC l).length = l.length * 4
  | [] => rfl
  | e :: l => by
    have ih := slC_len l
    simp only [slC, List.flatMap_cons, List.length_append, List.length_cons, List.length_nil] at *; omega
theorem slC_cut : ∀ {l : List (Nat × Sl)} {j : Nat} {e : Nat × Sl}, l[j]? = some e → ((slC l).drop (j * 4)).take 4 = [Value.int .i64 (e.1 : Nat), .int .i64 e.2.cap, .int .i64 e.2.epoch, .int .u64 e.2.nonce]
  | e :: l, 0, _, h => by cases h; rfl
  | e :: l, j + 1, _, h => by
    have ih := slC_cut (l := l) (j := j) (by simpa using h)
    have : (j + 1) * 4 = j * 4 + 1 + 1 + 1 + 1 := by omega
    rw [this]
    exact ih
theorem part_sl {l : List (Nat × Sl)} {j : Nat} {e : Nat × Sl} (h : l[j]? = some e) : partV env 32 (slC l) (0 + ((j : Nat) : Int).toNat * 4) = some (.agg (slA e.1 e.2)) := by
  have hj := (List.getElem?_eq_some_iff.1 h).1
  have e0 : 0 + ((j : Nat) : Int).toNat * 4 = j * 4 := by rw [Int.toNat_natCast, Nat.zero_add]
  have hc : cutL (slC l) (j * 4) 4 = some [Value.int .i64 (e.1 : Nat), .int .i64 e.2.cap, .int .i64 e.2.epoch, .int .u64 e.2.nonce] := by
    rw [cutL_of (by rw [slC_len]; omega), slC_cut h]
  rw [e0]
  show (match cutL (slC l) (j * 4) 4 with
        | some r => some (Value.agg r.toArray)
        | none => none) = _
  rw [hc]
/-- What is known of the slots: by their numbers. -/
def Known (L : List Sl) (i : Nat) (kv : List (Int × Value)) : Prop := ∀ j : Nat, kvGet kv ((1 + j : Nat) : Int) = if j < i then some (.agg (slA (1 + j) (L.getD j ⟨0, 0, 0⟩))) else none
theorem Known.step {L : List Sl} {i : Nat} {kv : List (Int × Value)} (h : Known L i kv) (hi : i < L.length) : Known L (i + 1) (kvPut kv ((1 + i : Nat) : Int) (.agg (slA (1 + i) L[i]))) := by
  intro j
  rw [kvGet_put, h j]
  by_cases q : j = i
  · subst q
    rw [if_pos rfl, if_pos (by omega)]
    simp [List.getD, hi]
  · rw [if_neg (by omega)]
    by_cases q2 : j < i
    · rw [if_pos q2, if_pos (by omega)]
    · rw [if_neg q2, if_neg (by omega)]

set_option maxHeartbeats 8000000 in
theorem slotTake_does (P : TxP) (L : List Sl) (cap nonce : Nat) (hc : 1 ≤ cap ∧ cap ≤ 16777215) (hn : nonce < 18446744073709551616) (hL : L.length ≤ 200) (ok : ∀ s ∈ L, s.ok) (room : P.room (slotT 1 L)) (hu : ∀ s ∈ L, ¬ (s.cap ≠ 0 ∧ s.nonce = nonce)) (hfree : takeAt L < 200) :
    Does Tryz.prog 20 [.pointer (some ⟨P.t, 0, none⟩), .int .i64 cap, .int .u64 nonce] [Tx P (slotT 1 L)] (fun v H => v = .tuple #[.agg (slA (1 + takeAt L) ⟨cap, epochAt L, nonce⟩), .int .i64 0] ∧ H = [Tx P (slotT 1 (takeL L cap nonce))]) := by
  have hsl := slots_does P L hL ok
  have hel := slE_len 1 L
  obtain ⟨es, hes⟩ : ∃ es, es = slE 1 L := ⟨_, rfl⟩
  rw [← hes] at hsl hel
  refine does_of Tryz.func20 Tryz.ntmps20 rfl rfl rfl (fun w0 F0 => ?_)
  (repeat' (first | refine g_seq (h := ?_) | refine g_region (h := ?_) | refine l_nil (h := ?_) | refine n_then (h := ?_) | refine l_pures1 (h := ?_) | (refine l_atc ?_; refine l_call_ (hsl) ?_; rintro _ _ _ ⟨ps, cs, rfl, rfl⟩ he; cases he) | refine l_guard_yes (h := ?_) | (refine l_alloc (h := ?_); intro _) | refine g_skip (h := ?_) | refine g_cond_f (h := ?_) | (refine l_spF (h := ?_); intro h) | (refine g_spF (h := ?_); intro h)))
  (refine l_makeMap (fun v : Value => v) (h := ?_); intro _)
  (repeat (first | refine g_seq (h := ?_) | refine g_region (h := ?_) | refine l_nil (h := ?_) | refine n_then (h := ?_) | refine l_pures1 (h := ?_) | refine g_block (h := ?_)))
  rename_i b6 hx mb
  (refine g_loop (fun y : Nat × List (Int × Value) => [(37, .int .i64 y.1), (36, .int .i64 es.length), (35, .slice ps es.length cs), (10, .map (some mb)), (6, .pointer (some ⟨b6, 0, none⟩)), (0, .pointer (some ⟨P.t, 0, none⟩)), (1, .int .i64 cap), (2, .int .u64 nonce)]) (fun y => [mp mb (fun v : Value => v) y.2, vec 32 4 ps es.length cs (slC es), Tx P (slotT 1 L), cl b6 32 [.int .i64 0, .int .i64 0, .int .i64 0, .int .u64 0]]) (fun y => Known L y.1 y.2 ∧ y.1 ≤ L.length) (fun y => L.length - y.1) ((0, [])) ?_ ?_ ?_ ?_; rotate_left; (repeat (first | refine ts_nil | (refine ts_cons rfl ?_ ?_; first | (with_reducible rfl) | rotate_left))); (first | (intro _ i; with_reducible refine i) | rotate_left); rotate_left; (try omega); rotate_right)
  · rintro ⟨i, kv⟩ ⟨hk, hi⟩
    dsimp only at hk hi ⊢
    by_cases hil : i < L.length
    · refine g_ptr (m := es.length) (p := ps) (h := ?_); rintro gs rfl hcs
      have hge : es[i]? = some (1 + i, L[i]) := by rw [hes]; exact slE_get hil
      have hpt := part_sl hge
      dsimp only at hpt
      obtain ⟨s, hs⟩ : ∃ s, s = L[i] := ⟨_, rfl⟩
      have hst := hk.step hil
      rw [← hs] at hpt hst
      have hus := hu s (hs ▸ List.getElem_mem _)
      (repeat' (first | refine g_seq (h := ?_) | refine g_region (h := ?_) | refine l_nil (h := ?_) | refine n_then (h := ?_) | refine l_pures1 (h := ?_) | refine l_guard_yes (h := ?_) | refine l_guard_no (h := ?_) | refine l_load (h := ?_) | refine l_store (h := ?_) | (refine l_alloc (h := ?_); intro _) | refine l_indexAddr (h := ?_) | refine l_mapUpdate (h := ?_) | refine g_skip (h := ?_) | refine g_block (h := ?_) | refine n_block (h := ?_) | refine g_cond_f (h := ?_) | refine l_load_vec (h := ?_) | (refine l_sp (h1 := ?_) (h0 := ?_) <;> intro h) | (refine g_spT (h := ?_); intro h) | (refine g_spF (h := ?_); intro h)))
      all_goals
        (refine n_back ((i + 1, kvPut kv ((1 + i : Nat) : Int) (.agg (slA (1 + i) s)))) ?_ ?_ ?_ ?_; rotate_left; rotate_left; (repeat (first | refine ts_nil | (refine ts_cons rfl ?_ ?_; first | (with_reducible rfl) | rotate_left))); (first | (intro _ i; with_reducible refine i) | rotate_left); (try omega); (try omega))
      all_goals first
        | exact ⟨hst, hil⟩
        | (dsimp only; omega)
        | (rw [wrapI64 (by omega)]; rfl)
        | (intro _ i; exact inv_keep parts_of i)
        | rfl
    · obtain rfl : i = L.length := by omega
      have htl := takeAt_le L
      have hepb : 1 ≤ epochAt L ∧ epochAt L ≤ 15 := by
        unfold epochAt
        split
        · rename_i h
          have h2 := takeAt_free h
          have h3 := ok _ (List.getElem_mem h)
          have e : (L.getD (takeAt L) ⟨0, 1, 0⟩) = L[takeAt L] := by simp [List.getD, h]
          rw [e]
          exact ⟨h3.2.1, h2.2⟩
        · exact ⟨by omega, by omega⟩
      have hset := sSet_does P (slotT 1 L) (1 + takeAt L) ⟨cap, epochAt L, nonce⟩ (by omega) ⟨hc.2, hepb.1, Nat.le_trans hepb.2 (by omega), .inr hepb.2, hn⟩ room
      rw [takeL_put] at hset
      have herr := tErr_does P (slotT 1 (takeL L cap nonce))
      (repeat' (first | refine g_seq (h := ?_) | refine g_region (h := ?_) | refine l_nil (h := ?_) | refine n_then (h := ?_) | refine l_pures1 (h := ?_) | refine g_block (h := ?_) | refine g_exit (h := ?_) | refine n_then_exit (h := ?_) | refine n_block_hit (h := ?_) | (refine g_spF (h := ?_); intro h)))
      (refine g_loop (fun j : Nat => [(13, .int .i64 (1 + j : Nat)), (10, .map (some mb)), (6, .pointer (some ⟨b6, 0, none⟩)), (0, .pointer (some ⟨P.t, 0, none⟩)), (1, .int .i64 cap), (2, .int .u64 nonce)]) (fun j => [mp mb (fun v : Value => v) kv, Tx P (slotT 1 L), cl b6 32 [.int .i64 0, .int .i64 0, .int .i64 0, .int .u64 0]]) (fun j => j ≤ takeAt L) (fun j => takeAt L - j) (0) ?_ ?_ ?_ ?_; rotate_left; (repeat (first | refine ts_nil | (refine ts_cons rfl ?_ ?_; first | (with_reducible rfl) | rotate_left))); (first | (intro _ i; with_reducible refine i) | rotate_left); rotate_left; (try omega); rotate_right)
      · intro j hj
        have hkj := hk j
        have hd : j < 200 → decide (((1 + j : Nat) : Int) ≤ 200) = true := fun h => by simp; omega
        rcases Nat.lt_or_ge j (takeAt L) with hlt | hge
        · have hjl : j < L.length := by omega
          have hbusy := takeAt_busy hlt hjl
          obtain ⟨s, hs⟩ : ∃ s, s = L[j] := ⟨_, rfl⟩
          have hgd : L.getD j ⟨0, 0, 0⟩ = s := by rw [hs]; simp [List.getD, hjl]
          rw [← hs] at hbusy
          rw [if_pos hjl, hgd] at hkj
          (repeat (first | refine g_seq (h := ?_) | refine g_region (h := ?_) | refine l_nil (h := ?_) | refine n_then (h := ?_) | refine l_pures1 (h := ?_)))
          rw [hd (by omega)]
          (repeat (first | refine g_seq (h := ?_) | refine g_region (h := ?_) | refine n_then (h := ?_) | refine l_pures1 (h := ?_) | (refine l_alloc (h := ?_); intro _) | refine l_lookup_ok _ (h := ?_) | refine g_skip (h := ?_) | refine g_block (h := ?_) | refine g_cond_t (h := ?_)))
          rw [hkj]
          (repeat' (first | refine g_seq (h := ?_) | refine g_region (h := ?_) | refine l_nil (h := ?_) | refine n_then (h := ?_) | refine l_pures1 (h := ?_) | refine l_guard_yes (h := ?_) | refine l_guard_no (h := ?_) | refine l_load (h := ?_) | refine l_store (h := ?_) | refine g_skip (h := ?_) | refine g_exit (h := ?_) | refine n_then_exit (h := ?_) | refine n_block_hit (h := ?_) | refine g_cond_t (h := ?_) | refine g_cond_f (h := ?_) | (refine l_sp (h1 := ?_) (h0 := ?_) <;> intro h) | (refine g_spT (h := ?_); intro h)))
          all_goals
            (refine n_back (j + 1) ?_ ?_ ?_ ?_; rotate_left; rotate_left; (repeat (first | refine ts_nil | (refine ts_cons rfl ?_ ?_; first | (with_reducible rfl) | rotate_left))); (first | (intro _ i; with_reducible refine i) | rotate_left); (try omega); (try omega))
          all_goals first
            | (dsimp only; omega)
            | (rw [wrapI64 (by omega)]; congr 1; omega)
            | (rw [wrapI64 (by omega)]; rfl)
            | (intro _ i; exact inv_keep parts_of i)
            | rfl
        · obtain rfl : j = takeAt L := by omega
          by_cases hjl : takeAt L < L.length
          · have hfr := takeAt_free hjl
            obtain ⟨s, hs⟩ : ∃ s, s = L[takeAt L] := ⟨_, rfl⟩
            have hgd : L.getD (takeAt L) ⟨0, 0, 0⟩ = s := by rw [hs]; simp [List.getD, hjl]
            have hep : epochAt L = s.epoch := by unfold epochAt; rw [if_pos hjl, hs]; simp [List.getD, hjl]
            rw [← hs] at hfr
            rw [if_pos hjl, hgd] at hkj
            rw [hep] at hset ⊢
            (repeat (first | refine g_seq (h := ?_) | refine g_region (h := ?_) | refine l_nil (h := ?_) | refine n_then (h := ?_) | refine l_pures1 (h := ?_)))
            rw [hd (by omega)]
            (repeat (first | refine g_seq (h := ?_) | refine g_region (h := ?_) | refine n_then (h := ?_) | refine l_pures1 (h := ?_) | (refine l_alloc (h := ?_); intro _) | refine l_lookup_ok _ (h := ?_) | refine g_skip (h := ?_) | refine g_block (h := ?_) | refine g_cond_t (h := ?_)))
            rw [hkj]
            (repeat' (first | refine g_seq (h := ?_) | refine g_region (h := ?_) | refine l_nil (h := ?_) | refine n_then (h := ?_) | refine l_pures1 (h := ?_) | (refine l_atc ?_; refine l_call (hset) ?_) | (refine l_atc ?_; refine l_call (herr) ?_) | refine l_guard_yes (h := ?_) | refine l_load (h := ?_) | refine l_store (h := ?_) | refine g_skip (h := ?_) | refine g_ret (h := ?_) | refine n_then_ret (h := ?_) | refine n_block_ret (h := ?_) | refine g_cond_f (h := ?_) | (refine l_spF (h := ?_); intro h) | (refine g_spF (h := ?_); intro h)))
            refine r_retk [Tx P (slotT 1 (takeL L cap nonce))] ?_
            exact ⟨rfl, rfl⟩
          · have hep : epochAt L = 1 := by unfold epochAt; rw [if_neg hjl]
            rw [if_neg hjl] at hkj
            rw [hep] at hset ⊢
            have hset : Does Tryz.prog 56 [.pointer (some ⟨P.t, 0, none⟩), .agg #[.int .i64 (1 + takeAt L : Nat), .int .i64 cap, .int .i64 1, .int .u64 nonce]] [Tx P (slotT 1 L)] (fun v H => v = .tuple #[] ∧ H = [Tx P (slotT 1 (takeL L cap nonce))]) := hset
            (repeat (first | refine g_seq (h := ?_) | refine g_region (h := ?_) | refine l_nil (h := ?_) | refine n_then (h := ?_) | refine l_pures1 (h := ?_)))
            rw [hd (by omega)]
            (repeat (first | refine g_seq (h := ?_) | refine g_region (h := ?_) | refine n_then (h := ?_) | refine l_pures1 (h := ?_) | (refine l_alloc (h := ?_); intro _) | refine l_lookup_ok _ (h := ?_) | refine g_skip (h := ?_) | refine g_block (h := ?_) | refine g_cond_t (h := ?_)))
            rw [hkj]
            (repeat' (first | refine g_seq (h := ?_) | refine g_region (h := ?_) | refine l_nil (h := ?_) | refine n_then (h := ?_) | refine l_pures1 (h := ?_) | (refine l_atc ?_; refine l_call (hset) ?_) | (refine l_atc ?_; refine l_call (herr) ?_) | refine l_guard_yes (h := ?_) | refine l_load (h := ?_) | refine l_store (h := ?_) | refine g_skip (h := ?_) | refine g_ret (h := ?_) | refine n_then_ret (h := ?_) | refine n_block_ret (h := ?_) | refine g_cond_t (h := ?_) | refine g_cond_f (h := ?_)))
            refine r_retk [Tx P (slotT 1 (takeL L cap nonce))] ?_
            exact ⟨rfl, rfl⟩
      all_goals first
        | exact Nat.zero_le _
        | rfl
        | (intro _ i; exact inv_keep parts_of i)
  · exact ⟨fun j => by simp [kvGet], Nat.zero_le _⟩
  all_goals first
    | rfl
    | (intro _ i; exact inv_keep parts_of i)

set_option maxHeartbeats 4000000 in
/-- A nonce that a live slot has is refused. -/
theorem sTakeBusy_does (P : TxP) (L : List Sl) (cap nonce : Nat) (hc : 1 ≤ cap ∧ cap ≤ 16777215) (hn : nonce < 18446744073709551616) (hL : L.length ≤ 200) (ok : ∀ s ∈ L, s.ok) (i0 : Nat) (hi0 : i0 < L.length) (hu : L[i0].cap ≠ 0 ∧ L[i0].nonce = nonce) :
    Does Tryz.prog 20 [.pointer (some ⟨P.t, 0, none⟩), .int .i64 cap, .int .u64 nonce] [Tx P (slotT 1 L)] (fun v H => v = .tuple #[.agg #[.int .i64 0, .int .i64 0, .int .i64 0, .int .u64 0], .int .i64 13] ∧ H = [Tx P (slotT 1 L)]) := by
  have hsl := slots_does P L hL ok
  have hel := slE_len 1 L
  obtain ⟨es, hes⟩ : ∃ es, es = slE 1 L := ⟨_, rfl⟩
  rw [← hes] at hsl hel
  refine does_of Tryz.func20 Tryz.ntmps20 rfl rfl rfl (fun w0 F0 => ?_)
  (repeat' (first | refine g_seq (h := ?_) | refine g_region (h := ?_) | refine l_nil (h := ?_) | refine n_then (h := ?_) | refine l_pures1 (h := ?_) | (refine l_atc ?_; refine l_call_ (hsl) ?_; rintro _ _ _ ⟨ps, cs, rfl, rfl⟩ he; cases he) | refine l_guard_yes (h := ?_) | (refine l_alloc (h := ?_); intro _) | refine g_skip (h := ?_) | refine g_cond_f (h := ?_) | (refine l_spF (h := ?_); intro h) | (refine g_spF (h := ?_); intro h)))
  (refine l_makeMap (fun v : Value => v) (h := ?_); intro _)
  (repeat (first | refine g_seq (h := ?_) | refine g_region (h := ?_) | refine l_nil (h := ?_) | refine n_then (h := ?_) | refine l_pures1 (h := ?_) | refine g_block (h := ?_)))
  rename_i b6 hx mb
  (refine g_loop (fun y : Nat × List (Int × Value) => [(37, .int .i64 y.1), (36, .int .i64 es.length), (35, .slice ps es.length cs), (10, .map (some mb)), (6, .pointer (some ⟨b6, 0, none⟩)), (0, .pointer (some ⟨P.t, 0, none⟩)), (1, .int .i64 cap), (2, .int .u64 nonce)]) (fun y => [mp mb (fun v : Value => v) y.2, vec 32 4 ps es.length cs (slC es), Tx P (slotT 1 L), cl b6 32 [.int .i64 0, .int .i64 0, .int .i64 0, .int .u64 0]]) (fun y => y.1 ≤ i0) (fun y => L.length - y.1) ((0, [])) ?_ ?_ ?_ ?_; rotate_left; (repeat (first | refine ts_nil | (refine ts_cons rfl ?_ ?_; first | (with_reducible rfl) | rotate_left))); (first | (intro _ i; with_reducible refine i) | rotate_left); rotate_left; (try omega); rotate_right)
  · rintro ⟨i, kv⟩ hi
    dsimp only at hi ⊢
    have hil : i < L.length := by omega
    refine g_ptr (m := es.length) (p := ps) (h := ?_); rintro gs rfl hcs
    have hge : es[i]? = some (1 + i, L[i]) := by rw [hes]; exact slE_get hil
    have hpt := part_sl hge
    dsimp only at hpt
    have hii : i = i0 → L[i].cap ≠ 0 ∧ L[i].nonce = nonce := by rintro rfl; exact hu
    obtain ⟨s, hs⟩ : ∃ s, s = L[i] := ⟨_, rfl⟩
    rw [← hs] at hpt hii
    by_cases q : s.cap ≠ 0 ∧ s.nonce = nonce
    · (repeat' (first | refine g_seq (h := ?_) | refine g_region (h := ?_) | refine l_nil (h := ?_) | refine n_then (h := ?_) | refine l_pures1 (h := ?_) | refine l_guard_yes (h := ?_) | refine l_load (h := ?_) | refine l_store (h := ?_) | (refine l_alloc (h := ?_); intro _) | refine l_indexAddr (h := ?_) | refine g_skip (h := ?_) | refine g_ret (h := ?_) | refine n_then_ret (h := ?_) | refine n_block_ret (h := ?_) | refine g_block (h := ?_) | refine l_load_vec (h := ?_) | (refine l_spT (h := ?_); intro h) | (refine g_spT (h := ?_); intro h)))
      refine r_retk [Tx P (slotT 1 L)] ?_
      exact ⟨rfl, rfl⟩
    · have hlt : i < i0 := by
        rcases Nat.lt_or_ge i i0 with h | h
        · exact h
        · exact absurd (hii (by omega)) q
      (repeat' (first | refine g_seq (h := ?_) | refine g_region (h := ?_) | refine l_nil (h := ?_) | refine n_then (h := ?_) | refine l_pures1 (h := ?_) | refine l_guard_yes (h := ?_) | refine l_guard_no (h := ?_) | refine l_load (h := ?_) | refine l_store (h := ?_) | (refine l_alloc (h := ?_); intro _) | refine l_indexAddr (h := ?_) | refine l_mapUpdate (h := ?_) | refine g_skip (h := ?_) | refine g_block (h := ?_) | refine n_block (h := ?_) | refine g_cond_f (h := ?_) | refine l_load_vec (h := ?_) | (refine l_sp (h1 := ?_) (h0 := ?_) <;> intro h) | (refine g_spT (h := ?_); intro h) | (refine g_spF (h := ?_); intro h)))
      all_goals
        (refine n_back ((i + 1, kvPut kv ((1 + i : Nat) : Int) (.agg (slA (1 + i) s)))) ?_ ?_ ?_ ?_; rotate_left; rotate_left; (repeat (first | refine ts_nil | (refine ts_cons rfl ?_ ?_; first | (with_reducible rfl) | rotate_left))); (first | (intro _ i; with_reducible refine i) | rotate_left); (try omega); (try omega))
      all_goals first
        | exact hlt
        | (dsimp only; omega)
        | (rw [wrapI64 (by omega)]; rfl)
        | (intro _ i; exact inv_keep parts_of i)
        | rfl
  all_goals first
    | exact Nat.zero_le _
    | rfl
    | (intro _ i; exact inv_keep parts_of i)
end Go.Proofs.YtmfmommgooccnaaGreat
/- Package slot: Free. -/
set_option maxRecDepth 20000
set_option linter.unusedVariables false
set_option linter.unusedSimpArgs false
namespace Go.Proofs.YtmfmommgooccnaaGreat
open Go.Proofs.YtmfmommgooccnaaGreat.SL

set_option maxHeartbeats 8000000 in
theorem sFree_does (P : TxP) (L : List Sl) (cap : Nat) (hc : 1 ≤ cap ∧ cap ≤ 16777215) (hL : L.length ≤ 200) (ok : ∀ s ∈ L, s.ok) (room : P.room (slotT 1 L)) :
    Does Tryz.prog 19 [.pointer (some ⟨P.t, 0, none⟩), .int .i64 cap] [Tx P (slotT 1 L)] (fun v H => v = .tuple #[.int .i64 (frN cap L : Nat), .int .i64 0] ∧ H = [Tx P (slotT 1 (L.map (Sl.fr cap)))]) := by
  have hsl := slots_does P L hL ok
  have hel := slE_len 1 L
  obtain ⟨es, hes⟩ : ∃ es, es = slE 1 L := ⟨_, rfl⟩
  rw [← hes] at hsl hel
  have hm0 := mixL_zero cap L
  refine does_of Tryz.func19 Tryz.ntmps19 rfl rfl rfl (fun w0 F0 => ?_)
  (repeat' (first | refine g_seq (h := ?_) | refine g_region (h := ?_) | refine l_nil (h := ?_) | refine n_then (h := ?_) | refine l_pures1 (h := ?_) | (refine l_atc ?_; refine l_call_ (hsl) ?_; rintro _ _ _ ⟨ps, cs, rfl, rfl⟩ he; cases he) | refine g_skip (h := ?_) | refine g_block (h := ?_) | refine g_cond_f (h := ?_)))
  (refine g_loop (fun i : Nat => [(22, .int .i64 i), (21, .int .i64 es.length), (20, .slice ps es.length cs), (8, .int .i64 (frN cap (L.take i) : Nat)), (0, .pointer (some ⟨P.t, 0, none⟩)), (1, .int .i64 cap)]) (fun i => [Tx P (slotT 1 (mixL cap L i)), vec 32 4 ps es.length cs (slC es)]) (fun i => i ≤ L.length) (fun i => L.length - i) (0) ?_ ?_ ?_ ?_; rotate_left; (repeat (first | refine ts_nil | (refine ts_cons rfl ?_ ?_; first | (with_reducible rfl) | rotate_left))); (first | (intro _ i; with_reducible refine i) | rotate_left); rotate_left; (try omega); rotate_right)
  · intro i hi
    by_cases hil : i < L.length
    · refine g_ptr (m := es.length) (p := ps) (h := ?_); rintro gs rfl hcs
      have hge : es[i]? = some (1 + i, L[i]) := by rw [hes]; exact slE_get hil
      have hpt := part_sl hge
      dsimp only at hpt
      have hsm := ok _ (List.getElem_mem hil)
      have hfs := frN_snoc (cap := cap) hil
      have hfl := frN_le cap (L.take i)
      have hml := mixL_put (cap := cap) hil
      have hkp := mixL_keep (cap := cap) hil
      have hmr : P.room (slotT 1 (mixL cap L i)) := by unfold TxP.room at room ⊢; rw [slotT_len, mixL_len]; rw [slotT_len] at room; exact room
      obtain ⟨s, hs⟩ : ∃ s, s = L[i] := ⟨_, rfl⟩
      rw [← hs] at hpt hsm hfs hml hkp
      have hsok := hsm
      obtain ⟨o1, o2, o3, o4, o5⟩ := hsm
      simp only [List.length_take] at hfl
      by_cases q : s.cap ≠ 0 ∧ s.cap = cap
      · rw [if_pos q] at hfs
        have hset := sSet_does P (slotT 1 (mixL cap L i)) (1 + i) ⟨0, s.epoch + 1, 0⟩ (by omega) ⟨by simp, by simp, by show s.epoch + 1 ≤ 16; omega, .inl rfl, by simp⟩ hmr
        rw [hml q] at hset
        have hset : Does Tryz.prog 56 [.pointer (some ⟨P.t, 0, none⟩), .agg #[.int .i64 (1 + i : Nat), .int .i64 0, .int .i64 (s.epoch + 1 : Nat), .int .u64 0]] [Tx P (slotT 1 (mixL cap L i))] (fun v H => v = .tuple #[] ∧ H = [Tx P (slotT 1 (mixL cap L (i + 1)))]) := hset
        have ew : IntKind.i64.wrap ((s.epoch : Int) + 1) = ((s.epoch + 1 : Nat) : Int) := by rw [wrapI64 (by omega)]; omega
        have ew2 : IntKind.i64.wrap ((frN cap (L.take i) : Int) + 1) = ((frN cap (L.take i) + 1 : Nat) : Int) := by rw [wrapI64 (by omega)]; omega
        rw [← hfs] at ew2
        (repeat' (first | refine g_seq (h := ?_) | refine g_region (h := ?_) | refine l_nil (h := ?_) | refine n_then (h := ?_) | refine l_pures1 (h := ?_) | refine l_guard_yes (h := ?_) | refine l_load (h := ?_) | refine l_store (h := ?_) | (refine l_alloc (h := ?_); intro _) | refine l_indexAddr (h := ?_) | refine g_skip (h := ?_) | refine g_block (h := ?_) | refine l_load_vec (h := ?_) | (refine l_spT (h := ?_); intro h) | (refine g_spT (h := ?_); intro h)))
        rw [ew]
        (repeat' (first | refine g_region (h := ?_) | refine l_nil (h := ?_) | refine n_then (h := ?_) | refine l_pures1 (h := ?_) | (refine l_atc ?_; refine l_call (hset) ?_) | refine n_block (h := ?_)))
        rw [ew2]
        (refine n_back (i + 1) ?_ ?_ ?_ ?_; rotate_left; rotate_left; (repeat (first | refine ts_nil | (refine ts_cons rfl ?_ ?_; first | (with_reducible rfl) | rotate_left))); (first | (intro _ i; with_reducible refine i) | rotate_left); (try omega); (try omega))
        all_goals first
          | (dsimp only; omega)
          | (rw [wrapI64 (by omega)]; rfl)
          | (intro _ i; exact inv_keep parts_of i)
          | rfl
      · rw [if_neg q, Nat.add_zero] at hfs
        (repeat' (first | refine g_seq (h := ?_) | refine g_region (h := ?_) | refine l_nil (h := ?_) | refine n_then (h := ?_) | refine l_pures1 (h := ?_) | refine l_guard_yes (h := ?_) | refine l_guard_no (h := ?_) | refine l_load (h := ?_) | refine l_store (h := ?_) | (refine l_alloc (h := ?_); intro _) | refine l_indexAddr (h := ?_) | refine g_skip (h := ?_) | refine g_block (h := ?_) | refine n_block (h := ?_) | refine g_cond_f (h := ?_) | refine l_load_vec (h := ?_) | (refine l_sp (h1 := ?_) (h0 := ?_) <;> intro h) | (refine g_spT (h := ?_); intro h) | (refine g_spF (h := ?_); intro h)))
        all_goals
          (refine n_back (i + 1) ?_ ?_ ?_ ?_; rotate_left; rotate_left; (repeat (first | refine ts_nil | (refine ts_cons rfl ?_ ?_; first | (with_reducible rfl) | rotate_left))); (first | (intro _ i; with_reducible refine i) | rotate_left); (try omega); (try omega))
        all_goals first
          | (rw [hfs]; done)
          | (rw [hfs]; rfl)
          | (intro _ i; rw [hkp q]; exact inv_keep parts_of i)
          | (dsimp only; omega)
          | (rw [wrapI64 (by omega)]; rfl)
          | (intro _ i; exact inv_keep parts_of i)
          | rfl
    · obtain rfl : i = L.length := by omega
      have he := tErr_does P (slotT 1 (L.map (Sl.fr cap)))
      rw [mixL_all, frN_all]
      (repeat' (first | refine g_seq (h := ?_) | refine g_region (h := ?_) | refine l_nil (h := ?_) | refine n_then (h := ?_) | refine l_pures1 (h := ?_) | (refine l_atc ?_; refine l_call (he) ?_) | refine g_skip (h := ?_) | refine g_ret (h := ?_) | refine g_exit (h := ?_) | refine n_then_exit (h := ?_) | refine n_block_hit (h := ?_) | refine g_cond_f (h := ?_) | (refine g_spF (h := ?_); intro h)))
      refine r_retk [Tx P (slotT 1 (L.map (Sl.fr cap)))] ?_
      exact ⟨rfl, rfl⟩
  all_goals first
    | exact Nat.zero_le _
    | rfl
    | (intro _ i; rw [hm0]; exact inv_keep parts_of i)
end Go.Proofs.YtmfmommgooccnaaGreat
/- The framework, part 21: structs of whole numbers compared. -/
set_option linter.unusedVariables false
set_option linter.unusedSimpArgs false
namespace Go.Proofs.YtmfmommgooccnaaGreat.SL
section
variable {P : Program} {E : Env} {n : Nat} {w0 : World} {F0 : Nat → Prop} {Q : Exit → Act → World → Prop} {tm : List (Nat × Value)} {D : List Deferred} {H H' : List SProp} {ops rest : List Oper}
variable {ty : TypeId} {pos : String} {after : Array Edge}

/-- Are all fields, which are whole numbers, the same? -/
def eqInts (E : Env) (xs ys : List Value) : List Field → Option Bool
  | [] => some true
  | f :: l => (match partV E f.type xs f.offset with
    | some (.int k a) => (match partV E f.type ys f.offset with
      | some (.int k' b) => (match look E.ty f.type with
        | some (.int _) => bif (decide (f.name = "_") || !decide (k = k')) then none else (match eqInts E xs ys l with
          | some r => some (a == b && r)
          | none => none)
        | _ => none)
      | _ => none)
    | _ => none)
theorem run_eqInt {t : Nat} {q k : IntKind} (hu : P.underlying t = some (.int q)) (d : Nat) (a b : Int) (w : World) : (Op.equalIn (d + 1) t (.int k a) (.int k b)).run P w = .ok (a == b) w := by
  unfold Op.equalIn
  simp only [Sem.run_bind, run_underlying hu, Result.andThen, if_true, Sem.run_pure]
theorem run_eqList (k : EnvOk P E) {xs ys : Array Value} (d : Nat) (w : World) : ∀ {fs : List Field} {r : Bool}, eqInts E xs.toList ys.toList fs = some r →
    (forIn fs (none, ()) fun (f : Field) (__s : Option Bool × Unit) =>
          (if f.name ≠ "_" then do
            let __do_lift ← part f.type xs f.offset
            let __do_lift_1 ← part f.type ys f.offset
            let __do_lift ← Op.equalIn (d + 1) f.type __do_lift __do_lift_1
            if (!__do_lift) = true then pure (ForInStep.done (some false, ())) else pure (ForInStep.yield (none, ()))
          else pure (ForInStep.yield (none, ())) : Sem (ForInStep (Option Bool × Unit)))).run P w = .ok (if r then (none, ()) else (some false, ())) w
  | [], r, h => by
    simp only [eqInts, Option.some.injEq] at h
    subst h
    simp
  | f :: l, r, h => by
    simp only [eqInts] at h
    split at h
    · rename_i q a h1
      split at h
      · rename_i q' b h2
        split at h
        · rename_i q2 h3
          cases hc : (decide (f.name = "_") || !decide (q = q')) with
          | true => rw [hc] at h; cases h
          | false =>
            rw [hc, cond_false] at h
            simp only [Bool.or_eq_false_iff, decide_eq_false_iff_not, Bool.not_eq_false', decide_eq_true_eq] at hc
            obtain ⟨hn, rfl⟩ := hc
            split at h
            · rename_i r' h4
              simp only [Option.some.injEq] at h; subst h
              have ih := run_eqList k d w h4
              rw [List.forIn_cons]
              simp only [hn, ne_eq, not_false_eq_true, if_true, Sem.run_bind, partV_sound k h1, partV_sound k h2, run_eqInt (k.under h3), Result.andThen]
              by_cases hab : a = b
              · subst hab
                simp only [beq_self_eq_true, Bool.not_true, Bool.false_eq_true, if_false, Sem.run_pure, Bool.true_and]
                exact ih
              · have : (a == b) = false := by simpa using hab
                simp only [this, Bool.not_false, if_true, Sem.run_pure, Bool.false_and, Bool.false_eq_true, if_false]
            · cases h
        · cases h
      · cases h
    · cases h
theorem run_eqStruct (k : EnvOk P E) {t : Nat} {xs ys : Array Value} {fs : Array Field} {r : Bool} (hu : P.underlying t = some (.struct fs)) (hs : P.stoodInHeld t = false) (h : eqInts E xs.toList ys.toList fs.toList = some r) (w : World) : (Op.equal t (.agg xs) (.agg ys)).run P w = .ok r w := by
  unfold Op.equal
  obtain ⟨d, hd⟩ : ∃ d, Op.maxDepth = d + 1 + 1 := ⟨Op.maxDepth - 2, by decide⟩
  rw [hd]
  unfold Op.equalIn
  have hp : (program).run P w = .ok P w := by simp [program, Sem.run]
  simp only [Sem.run_bind, run_underlying hu, Result.andThen, hp, hs, Bool.false_eq_true, if_false]
  have hl := run_eqList k (xs := xs) (ys := ys) d w h
  rw [← Array.forIn_toList]
  rw [hl]
  cases r <;> simp
/-- A type of structs of whole numbers, of which nothing is known but what it says. -/
class Plain (P : Program) (t : Nat) : Prop where
  it : P.stoodInHeld t = false ∧ P.eqGuardType P.depth t = false
theorem l_eqStruct {d t t2 : Nat} {x y : Operand} {xs ys : Array Value} {fs : Array Field} {r : Bool} (k : EnvOk P E := by refine inferInstance) (hd : Nat.blt d n = true := by refine rfl) (hx : ev tm x = some (.agg xs) := by refine rfl) (hy : ev tm y = some (.agg ys) := by refine rfl) (hu : look E.ty t = some (.struct fs) := by refine rfl) (hr : eqInts E xs.toList ys.toList fs.toList = some r := by refine rfl) (pl : Plain P t := by refine inferInstance)
    (h : L P n w0 F0 ops.toArray rest Q ((d, .bool r) :: tm) D H) : L P n w0 F0 ops.toArray (⟨some d, .binOp .eql t x y t2, ty, pos, after, none⟩ :: rest) Q tm D H := .mk fun a w st => by
  refine wpList_value rfl (v := .bool r) (w' := w) ?_ (h _ _ (st.put hd _))
  have hp : (program).run P w = .ok P w := by simp [program, Sem.run]
  have hg : (eqGuard .eql t x y (.agg xs) (.agg ys)).run P w = .ok () w := by
    unfold eqGuard
    simp [Sem.run_bind, hp, Result.andThen, pl.it.2]
  simp only [execOp, ev_sound st.tm hx, ev_sound st.tm hy, Sem.run_bind, hg, Result.andThen, binOp, run_eqStruct k (k.under hu) pl.it.1 hr, Sem.run_pure]
theorem l_neStruct {d t t2 : Nat} {x y : Operand} {xs ys : Array Value} {fs : Array Field} {r : Bool} (k : EnvOk P E := by refine inferInstance) (hd : Nat.blt d n = true := by refine rfl) (hx : ev tm x = some (.agg xs) := by refine rfl) (hy : ev tm y = some (.agg ys) := by refine rfl) (hu : look E.ty t = some (.struct fs) := by refine rfl) (hr : eqInts E xs.toList ys.toList fs.toList = some r := by refine rfl) (pl : Plain P t := by refine inferInstance)
    (h : L P n w0 F0 ops.toArray rest Q ((d, .bool (!r)) :: tm) D H) : L P n w0 F0 ops.toArray (⟨some d, .binOp .neq t x y t2, ty, pos, after, none⟩ :: rest) Q tm D H := .mk fun a w st => by
  refine wpList_value rfl (v := .bool (!r)) (w' := w) ?_ (h _ _ (st.put hd _))
  have hp : (program).run P w = .ok P w := by simp [program, Sem.run]
  have hg : (eqGuard .neq t x y (.agg xs) (.agg ys)).run P w = .ok () w := by
    unfold eqGuard
    simp [Sem.run_bind, hp, Result.andThen, pl.it.2]
  simp only [execOp, ev_sound st.tm hx, ev_sound st.tm hy, Sem.run_bind, hg, Result.andThen, binOp, run_eqStruct k (k.under hu) pl.it.1 hr, Sem.run_pure]
end
end Go.Proofs.YtmfmommgooccnaaGreat.SL
/- Law SlotEpochs. -/
set_option maxRecDepth 20000
set_option linter.unusedVariables false
set_option linter.unusedSimpArgs false
namespace Go.Proofs.YtmfmommgooccnaaGreat
open Go.Proofs.YtmfmommgooccnaaGreat.SL

instance plainSlot : Plain Tryz.prog 32 := ⟨⟨by kernel_rfl, by kernel_rfl⟩⟩

theorem examples17_does : Does Tryz.prog 17 [] [] (fun v H => v = .bool true ∧ H = []) := by
  have room : ∀ t sb db (L : List Sl), L.length ≤ 200 → (TxP.new t sb db 640).room (slotT 1 L) := fun t sb db L h => by show 0 + 2 * (slotT 1 L).length + 25 < 640; rw [slotT_len]; omega
  refine does_of Tryz.func17 Tryz.ntmps17 rfl rfl rfl (fun w0 F0 => ?_)
  (repeat (first | refine g_seq (h := ?_) | refine g_region (h := ?_) | refine l_nil (h := ?_) | refine n_then (h := ?_) | refine l_pures1 (h := ?_) | (refine l_atc ?_; refine l_call_ (made17_does) ?_; rintro _ _ _ ⟨t, db, sb, rfl, rfl⟩ he; cases he) | refine g_skip (h := ?_) | refine g_cond_f (h := ?_)))
  have h1 : Does Tryz.prog 20 [.pointer (some ⟨t, 0, none⟩), .int .i64 9, .int .u64 7] [Tx (TxP.new t sb db 640) []] (fun v H => v = .tuple #[.agg #[.int .i64 1, .int .i64 9, .int .i64 1, .int .u64 7], .int .i64 0] ∧ H = [Tx (TxP.new t sb db 640) (slotT 1 [⟨9, 1, 7⟩])]) :=
    slotTake_does (TxP.new t sb db 640) [] 9 7 (by omega) (by omega) (by simp) (by simp) (room _ _ _ _ (by simp)) (by simp) (by decide)
  have h2 : Does Tryz.prog 20 [.pointer (some ⟨t, 0, none⟩), .int .i64 9, .int .u64 7] [Tx (TxP.new t sb db 640) (slotT 1 [⟨9, 1, 7⟩])] (fun v H => v = .tuple #[.agg #[.int .i64 0, .int .i64 0, .int .i64 0, .int .u64 0], .int .i64 13] ∧ H = [Tx (TxP.new t sb db 640) (slotT 1 [⟨9, 1, 7⟩])]) :=
    sTakeBusy_does (TxP.new t sb db 640) [⟨9, 1, 7⟩] 9 7 (by omega) (by omega) (by simp) (by simp [Sl.ok]) 0 (by simp) (by simp)
  have h3 : Does Tryz.prog 19 [.pointer (some ⟨t, 0, none⟩), .int .i64 9] [Tx (TxP.new t sb db 640) (slotT 1 [⟨9, 1, 7⟩])] (fun v H => v = .tuple #[.int .i64 1, .int .i64 0] ∧ H = [Tx (TxP.new t sb db 640) (slotT 1 [⟨0, 2, 0⟩])]) :=
    sFree_does (TxP.new t sb db 640) [⟨9, 1, 7⟩] 9 (by omega) (by simp) (by simp [Sl.ok]) (room _ _ _ _ (by simp))
  have h4 : Does Tryz.prog 20 [.pointer (some ⟨t, 0, none⟩), .int .i64 8, .int .u64 7] [Tx (TxP.new t sb db 640) (slotT 1 [⟨0, 2, 0⟩])] (fun v H => v = .tuple #[.agg #[.int .i64 1, .int .i64 8, .int .i64 2, .int .u64 7], .int .i64 0] ∧ H = [Tx (TxP.new t sb db 640) (slotT 1 [⟨8, 2, 7⟩])]) :=
    slotTake_does (TxP.new t sb db 640) [⟨0, 2, 0⟩] 8 7 (by omega) (by omega) (by simp) (by simp [Sl.ok]) (room _ _ _ _ (by simp)) (by simp) (by decide)
  (repeat (first | refine g_seq (h := ?_) | refine g_region (h := ?_) | refine l_nil (h := ?_) | refine n_then (h := ?_) | refine l_pures1 (h := ?_) | (refine l_atc ?_; refine l_call (h1) ?_) | refine l_store (h := ?_) | (refine l_alloc (h := ?_); intro _)))
  (repeat (first | refine g_seq (h := ?_) | refine g_region (h := ?_) | refine l_nil (h := ?_) | refine n_then (h := ?_) | refine l_pures1 (h := ?_) | (refine l_atc ?_; refine l_call (h2) ?_) | refine l_store (h := ?_) | (refine l_alloc (h := ?_); intro _)))
  (repeat (first | refine g_seq (h := ?_) | refine g_region (h := ?_) | refine l_nil (h := ?_) | refine n_then (h := ?_) | refine l_pures1 (h := ?_) | (refine l_atc ?_; refine l_call (h3) ?_)))
  (repeat' (first | refine g_seq (h := ?_) | refine g_region (h := ?_) | refine l_nil (h := ?_) | refine n_then (h := ?_) | refine l_pures1 (h := ?_) | (refine l_atc ?_; refine l_call (h4) ?_) | refine l_guard_yes (h := ?_) | refine l_load (h := ?_) | refine l_store (h := ?_) | (refine l_alloc (h := ?_); intro _) | refine g_ret (h := ?_) | refine l_eqStruct (h := ?_)))
  refine r_retk [] ?_
  exact ⟨rfl, rfl⟩
end Go.Proofs.YtmfmommgooccnaaGreat
/- The framework, part 22: places in an array. -/
set_option linter.unusedVariables false
set_option linter.unusedSimpArgs false
namespace Go.Proofs.YtmfmommgooccnaaGreat.SL
section
variable {P : Program} {E : Env} {n : Nat} {w0 : World} {F0 : Nat → Prop} {Q : Exit → Act → World → Prop} {tm : List (Nat × Value)} {D : List Deferred} {H H' : List SProp} {ops rest : List Oper}
variable {ty : TypeId} {pos : String} {after : Array Edge}

theorem l_indexArr {d t e b off m sz by' : Nat} {x i : Operand} {kk : IntKind} {j : Int} {z : Value} (k : EnvOk P E := by refine inferInstance) (hd : Nat.blt d n = true := by refine rfl) (hx : ev tm x = some (.pointer (some ⟨b, off, none⟩)) := by refine rfl) (hi : ev tm i = some (.int kk j) := by refine rfl) (ht : look E.ty t = some (.array m e) := by refine rfl) (he : look E.inf e = some (z, sz, by') := by refine rfl)
    (hb : 0 ≤ j ∧ j < m := by first | assumption | omega | (refine ⟨?_, ?_⟩ <;> omega)) (h : L P n w0 F0 ops.toArray rest Q ((d, .pointer (some ⟨b, off + j.toNat * sz, none⟩)) :: tm) D H) :
    L P n w0 F0 ops.toArray (⟨some d, .indexAddr t x i, ty, pos, after, none⟩ :: rest) Q tm D H := by
  refine .mk fun a w s => ?_
  refine wpList_value rfl (v := .pointer (some ⟨b, off + j.toNat * sz, none⟩)) (w' := w) ?_ (h _ _ (s.put hd _))
  have ha : (⟨b, off, none⟩ : Addr).add (j.toNat * sz) = ⟨b, off + j.toNat * sz, none⟩ := by unfold Addr.add; split <;> simp_all
  simp only [execOp, ev_sound s.tm hx, ev_sound s.tm hi, Instr.indexAt, asIntOf, Instr.sureAddr, Sem.run_bind, Sem.run_pure, Result.andThen, run_underlying (k.under ht), if_pos hb, run_size k he, ha]
end
end Go.Proofs.YtmfmommgooccnaaGreat.SL
/- Law SlotLeast. -/
set_option maxRecDepth 20000
set_option linter.unusedVariables false
set_option linter.unusedSimpArgs false
namespace Go.Proofs.YtmfmommgooccnaaGreat
open Go.Proofs.YtmfmommgooccnaaGreat.SL

theorem wf_u8' {a : Int} (h : (Lit.int .u8 a).wf = true) : 0 ≤ a ∧ a < 256 := by
  simp [Lit.wf, IntKind.min, IntKind.max, IntKind.bits, IntKind.signed] at h
  omega
theorem takeL_mem {L : List Sl} {cap n : Nat} {s : Sl} (h : s ∈ takeL L cap n) : s ∈ L ∨ s = ⟨cap, epochAt L, n⟩ := by
  unfold takeL at h
  split at h
  · exact List.mem_or_eq_of_mem_set h
  · simpa using h
theorem epochAt_bd {L : List Sl} (ok : ∀ s ∈ L, s.ok) : 1 ≤ epochAt L ∧ epochAt L ≤ 15 := by
  unfold epochAt
  split
  · rename_i h
    have h2 := takeAt_free h
    have h3 := ok _ (List.getElem_mem h)
    have e : (L.getD (takeAt L) ⟨0, 1, 0⟩) = L[takeAt L] := by simp [List.getD, h]
    rw [e]
    exact ⟨h3.2.1, h2.2⟩
  · exact ⟨by omega, by omega⟩
theorem takeL_ok {L : List Sl} {cap n : Nat} (ok : ∀ s ∈ L, s.ok) (hc : cap ≤ 16777215) (hn : n < 18446744073709551616) : ∀ s ∈ takeL L cap n, s.ok := by
  intro s hs
  rcases takeL_mem hs with h | rfl
  · exact ok s h
  · have := epochAt_bd ok
    exact ⟨hc, this.1, Nat.le_trans this.2 (by omega), .inr this.2, hn⟩
/-- The cap of the slot of a number. -/
def capAt (L : List Sl) (q : Nat) : Nat := if q = 0 then 0 else (L.getD (q - 1) ⟨0, 0, 0⟩).cap
theorem capAt_succ {L : List Sl} {j : Nat} (h : j < L.length) : capAt L (1 + j) = L[j].cap := by
  have e : 1 + j - 1 = j := by omega
  unfold capAt
  rw [if_neg (by omega), e]
  simp [List.getD, h]
theorem capAt_none {L : List Sl} {j : Nat} (h : L.length ≤ j) : capAt L (1 + j) = 0 := by
  have e : 1 + j - 1 = j := by omega
  unfold capAt
  rw [if_neg (by omega), e]
  simp [List.getD, List.getElem?_eq_none h]
theorem capAt_take {L : List Sl} : capAt L (1 + takeAt L) = 0 := by
  rcases Nat.lt_or_ge (takeAt L) L.length with h | h
  · rw [capAt_succ h]; exact (takeAt_free h).1
  · exact capAt_none h
theorem capAt_fr {L : List Sl} {c : Nat} (hc : 1 ≤ c) (q : Nat) : capAt (L.map (Sl.fr c)) q = if capAt L q = c then 0 else capAt L q := by
  by_cases h0 : q = 0
  · subst h0
    simp [capAt]
  · obtain ⟨j, rfl⟩ : ∃ j, q = 1 + j := ⟨q - 1, by omega⟩
    rcases Nat.lt_or_ge j L.length with h | h
    · rw [capAt_succ (by simpa using h), capAt_succ h, List.getElem_map]
      unfold Sl.fr
      by_cases z : L[j].cap = c
      · rw [if_pos ⟨by omega, z⟩, if_pos z]
      · rw [if_neg (fun q => z q.2), if_neg z]
    · rw [capAt_none (by simpa using h), capAt_none h]
      simp
theorem capAt_takeL {L : List Sl} {cap n : Nat} (q : Nat) : capAt (takeL L cap n) q = if q = 1 + takeAt L then cap else capAt L q := by
  have htl := takeAt_le L
  by_cases h0 : q = 0
  · subst h0
    rw [if_neg (by omega)]
    rfl
  · obtain ⟨j, rfl⟩ : ∃ j, q = 1 + j := ⟨q - 1, by omega⟩
    have e : 1 + j - 1 = j := by omega
    unfold capAt
    rw [if_neg h0, if_neg h0, e]
    unfold takeL
    split
    · rename_i h
      by_cases hj : j = takeAt L
      · subst hj
        rw [if_pos rfl]
        simp [List.getD, h]
      · rw [if_neg (by omega)]
        simp [List.getD, List.getElem?_set_ne (Ne.symm hj)]
    · rename_i h
      have e2 : takeAt L = L.length := by omega
      rw [e2]
      by_cases hj : j = L.length
      · subst hj
        rw [if_pos rfl]
        simp [List.getD]
      · rw [if_neg (by omega)]
        rcases Nat.lt_or_ge j L.length with q | q
        · simp [List.getD, List.getElem?_append_left q]
        · simp [List.getD, List.getElem?_append_right q, List.getElem?_eq_none q, List.getElem?_cons, show j - L.length ≠ 0 by omega]
/-- Sixty numbers. -/
def arr (f : Nat → Nat) : List Value := (List.range 60).map fun q => .int .i64 (f q)
theorem arr_len (f : Nat → Nat) : (arr f).length = 60 := by simp [arr]
theorem arr_get {f : Nat → Nat} {q : Nat} (h : q < 60) : (arr f)[0 + ((q : Nat) : Int).toNat * 1]? = some (.int .i64 (f q)) := by simp [arr, h]
theorem arr_set {f g : Nat → Nat} {q v : Nat} (h : q < 60) (e : ∀ x, x < 60 → g x = if x = q then v else f x) : (arr f).set (0 + ((q : Nat) : Int).toNat * 1) (.int .i64 v) = arr g := by
  apply List.ext_getElem
  · simp [arr]
  · intro x h1 h2
    have hx : x < 60 := by simpa [arr] using h2
    rw [List.getElem_set]
    have := e x hx
    by_cases hq : q = x
    · subst hq
      rw [if_pos rfl] at this
      simp [arr, this]
    · rw [if_neg (fun z => hq z.symm)] at this
      rw [if_neg (by simpa using hq)]
      simp [arr, this]
theorem arr_congr {f g : Nat → Nat} (e : ∀ x, x < 60 → f x = g x) : arr f = arr g := by
  unfold arr
  refine List.map_congr_left fun x hx => ?_
  rw [e x (List.mem_range.1 hx)]
theorem arr_zero : arr (capAt []) = [.int .i64 0, .int .i64 0, .int .i64 0, .int .i64 0, .int .i64 0, .int .i64 0, .int .i64 0, .int .i64 0, .int .i64 0, .int .i64 0, .int .i64 0, .int .i64 0, .int .i64 0, .int .i64 0, .int .i64 0, .int .i64 0, .int .i64 0, .int .i64 0, .int .i64 0, .int .i64 0, .int .i64 0, .int .i64 0, .int .i64 0, .int .i64 0, .int .i64 0, .int .i64 0, .int .i64 0, .int .i64 0, .int .i64 0, .int .i64 0, .int .i64 0, .int .i64 0, .int .i64 0, .int .i64 0, .int .i64 0, .int .i64 0, .int .i64 0, .int .i64 0, .int .i64 0, .int .i64 0, .int .i64 0, .int .i64 0, .int .i64 0, .int .i64 0, .int .i64 0, .int .i64 0, .int .i64 0, .int .i64 0, .int .i64 0, .int .i64 0, .int .i64 0, .int .i64 0, .int .i64 0, .int .i64 0, .int .i64 0, .int .i64 0, .int .i64 0, .int .i64 0, .int .i64 0, .int .i64 0] := by rfl
def midC (L : List Sl) (c k q : Nat) : Nat := if q < k ∧ capAt L q = c then 0 else capAt L q
theorem midC_zero {L : List Sl} {c : Nat} : arr (midC L c 0) = arr (capAt L) := arr_congr fun x _ => by unfold midC; rw [if_neg (by omega)]
theorem midC_all {L : List Sl} {c : Nat} (hc : 1 ≤ c) : arr (midC L c 60) = arr (capAt (L.map (Sl.fr c))) := arr_congr fun x hx => by
  rw [capAt_fr hc]
  unfold midC
  by_cases z : capAt L x = c
  · rw [if_pos ⟨hx, z⟩, if_pos z]
  · rw [if_neg (fun q => z q.2), if_neg z]
theorem midC_at {L : List Sl} {c k : Nat} : midC L c k k = capAt L k := by unfold midC; rw [if_neg (by omega)]
theorem midC_keep {L : List Sl} {c k : Nat} (h : capAt L k ≠ c) : arr (midC L c (k + 1)) = arr (midC L c k) := arr_congr fun x hx => by
  unfold midC
  by_cases z : x < k ∧ capAt L x = c
  · rw [if_pos z, if_pos ⟨by omega, z.2⟩]
  · rw [if_neg z, if_neg]
    rintro ⟨z1, z2⟩
    by_cases hxk : x = k
    · subst hxk; exact h z2
    · exact z ⟨by omega, z2⟩
theorem midC_set {L : List Sl} {c k : Nat} (hk : k < 60) (h : capAt L k = c) : (arr (midC L c k)).set (0 + ((k : Nat) : Int).toNat * 1) (.int .i64 0) = arr (midC L c (k + 1)) := by
  refine arr_set (v := 0) hk fun x hx => ?_
  unfold midC
  by_cases hxk : x = k
  · subst hxk
    rw [if_pos ⟨by omega, h⟩, if_pos rfl]
  · rw [if_neg hxk]
    by_cases z : x < k ∧ capAt L x = c
    · rw [if_pos z, if_pos ⟨by omega, z.2⟩]
    · rw [if_neg z, if_neg]
      rintro ⟨z1, z2⟩
      exact z ⟨by omega, z2⟩

set_option maxHeartbeats 8000000 in
theorem SlotLeast_does (p : Option Addr) (ks : List Int) (cap : Nat) (o : Obj) (hk : ∀ z ∈ ks, (Lit.int .u8 z).wf = true) (hl : ks.length ≤ 9223372036854775807) :
    Does Tryz.prog 3 [.slice p ks.length cap] [ins p ks.length (ks.map (Value.int .u8)) o] (fun v H => v = .bool true ∧ H = [ins p ks.length (ks.map (Value.int .u8)) o]) := by
  refine does_of Tryz.func3 Tryz.ntmps3 rfl rfl rfl (fun w0 F0 => ?_)
  (repeat' (first | refine g_seq (h := ?_) | refine g_region (h := ?_) | refine l_nil (h := ?_) | refine n_then (h := ?_) | refine l_pures1 (h := ?_) | (refine l_atc ?_; refine l_call (examples17_does) ?_) | (refine l_atc ?_; refine l_call_ (made17_does) ?_; rintro _ _ _ ⟨t, db, sb, rfl, rfl⟩ he; cases he) | (refine l_alloc (h := ?_); intro _) | refine g_skip (h := ?_) | refine g_block (h := ?_) | refine g_cond_f (h := ?_)))
  rename_i b5
  have room : ∀ (L : List Sl), L.length ≤ 200 → (TxP.new t sb db 640).room (slotT 1 L) := fun L h => by show 0 + 2 * (slotT 1 L).length + 25 < 640; rw [slotT_len]; omega
  (refine g_loop (fun y : Nat × List Sl => [(6, .int .i64 y.1), (5, .pointer (some ⟨b5, 0, none⟩)), (4, .pointer (some ⟨t, 0, none⟩)), (3, .bool true), (0, .slice p ks.length cap)]) (fun y => [cl b5 26 (arr (capAt y.2)), Tx (TxP.new t sb db 640) (slotT 1 y.2), ins p ks.length (ks.map (Value.int .u8)) o]) (fun y => y.2.length ≤ y.1 ∧ (∀ s ∈ y.2, s.ok) ∧ (∀ s ∈ y.2, s.cap ≠ 0 → s.nonce < y.1) ∧ y.1 ≤ ks.length ∧ y.1 ≤ 40) (fun y => ks.length - y.1) ((0, [])) ?_ ?_ ?_ ?_; rotate_left; (repeat (first | refine ts_nil | (refine ts_cons rfl ?_ ?_; first | (with_reducible rfl) | rotate_left))); (first | (intro _ i; with_reducible refine i) | rotate_left); rotate_left; (try omega); rotate_right)
  · rintro ⟨i, L⟩ ⟨hL, ok, hn, hi, hi40⟩
    dsimp only at hL ok hn hi hi40 ⊢
    by_cases hil : i < ks.length ∧ i < 40
    · refine g_open (o := ins_opens (p := p) (m := ks.length) (by omega)) (h := ?_); (rintro ⟨gb, off, row, fr, T0⟩ ⟨rfl, rfl, v5, v6, v7⟩; dsimp only [List.cons_append, List.nil_append])
      have hgt : row[off + i * 1]? = some (.int .u8 (ks.getD i 0)) := ins_get v5 hil.1 (by rw [List.getElem?_map, List.getD, List.getElem?_eq_getElem hil.1]; rfl)
      have hw := wf_u8' (hk _ (getD_mem hil.1 (z := 0)))
      obtain ⟨x, hx⟩ : ∃ x : Nat, ks.getD i 0 = x := ⟨(ks.getD i 0).toNat, by omega⟩
      rw [hx] at hgt hw
      obtain ⟨c, hc⟩ : ∃ c : Nat, c = 1 + x % 9 := ⟨_, rfl⟩
      have ec : IntKind.i64.wrap (1 + IntKind.i64.wrap ((x : Int).tmod 9)) = (c : Int) := by rw [Int.tmod_eq_emod_of_nonneg (by omega), wrapI64 (n := (x : Int) % 9) (by omega), wrapI64 (by omega)]; omega
      have ewi : IntKind.u64.wrap (i : Int) = i := wrapU64 (by omega)
      have htl := takeAt_le L
      by_cases hxl : 128 ≤ x
      · have hF : Does Tryz.prog 19 [.pointer (some ⟨t, 0, none⟩), .int .i64 c] [Tx (TxP.new t sb db 640) (slotT 1 L)] (fun v H => v = .tuple #[.int .i64 (frN c L : Nat), .int .i64 0] ∧ H = [Tx (TxP.new t sb db 640) (slotT 1 (L.map (Sl.fr c)))]) :=
          sFree_does (TxP.new t sb db 640) L c (by omega) (by omega) ok (room _ (by omega))
        (repeat' (first | refine g_seq (h := ?_) | refine g_region (h := ?_) | refine l_nil (h := ?_) | refine n_then (h := ?_) | refine l_pures1 (h := ?_) | refine l_guard_yes (h := ?_) | refine l_load_p (h := ?_) | refine l_indexAddr (h := ?_) | refine g_skip (h := ?_) | refine g_block (h := ?_) | (refine l_spT (h := ?_); intro h) | (refine g_spT (h := ?_); intro h)))
        refine l_shut (ins_shuts v5 v6 v7) (h := ?_)
        rw [ec]
        (repeat' (first | refine g_seq (h := ?_) | refine g_region (h := ?_) | refine l_nil (h := ?_) | refine n_then (h := ?_) | refine l_pures1 (h := ?_) | (refine l_atc ?_; refine l_call (hF) ?_) | refine g_block (h := ?_)))
        (refine g_loop (fun k : Nat => [(10, .int .i64 k), (9, .int .i64 0), (7, .int .i64 c), (6, .int .i64 i), (5, .pointer (some ⟨b5, 0, none⟩)), (4, .pointer (some ⟨t, 0, none⟩)), (3, .bool true), (0, .slice (some ⟨gb, off, none⟩) ks.length cap)]) (fun k => [cl b5 26 (arr (midC L c k)), Tx (TxP.new t sb db 640) (slotT 1 (L.map (Sl.fr c))), ins (some ⟨gb, off, none⟩) ks.length (ks.map (Value.int .u8)) (.cells row.toArray T0 fr)]) (fun k => k ≤ 60) (fun k => 60 - k) (0) ?_ ?_ ?_ ?_; rotate_left; (repeat (first | refine ts_nil | (refine ts_cons rfl ?_ ?_; first | (with_reducible rfl) | rotate_left))); (first | (intro _ i; with_reducible refine i) | rotate_left); rotate_left; (try omega); rotate_right)
        · intro k hk60
          by_cases hkl : k < 60
          · have hg := arr_get (f := midC L c k) hkl
            have hal := arr_len (midC L c k)
            rw [midC_at] at hg
            by_cases hq : capAt L k = c
            · have hst := midC_set (L := L) hkl hq
              (repeat' (first | refine g_seq (h := ?_) | refine g_region (h := ?_) | refine l_nil (h := ?_) | refine n_then (h := ?_) | refine l_pures1 (h := ?_) | refine l_load_at (h := ?_) | refine l_store_at (h := ?_) | refine g_skip (h := ?_) | refine g_block (h := ?_) | refine n_block (h := ?_) | refine l_indexArr (h := ?_) | (refine g_spT (h := ?_); intro h)))
              rw [hst]
              (refine n_back (k + 1) ?_ ?_ ?_ ?_; rotate_left; rotate_left; (repeat (first | refine ts_nil | (refine ts_cons rfl ?_ ?_; first | (with_reducible rfl) | rotate_left))); (first | (intro _ i; with_reducible refine i) | rotate_left); (try omega); (try omega))
              all_goals first
                | (dsimp only; omega)
                | (rw [wrapI64 (by omega)]; rfl)
                | (intro _ i; exact inv_keep parts_of i)
                | rfl
            · have hkp := midC_keep (L := L) (c := c) (k := k) hq
              (repeat' (first | refine g_seq (h := ?_) | refine g_region (h := ?_) | refine l_nil (h := ?_) | refine n_then (h := ?_) | refine l_pures1 (h := ?_) | refine l_load_at (h := ?_) | refine g_skip (h := ?_) | refine g_block (h := ?_) | refine n_block (h := ?_) | refine l_indexArr (h := ?_) | (refine g_spT (h := ?_); intro h) | (refine g_spF (h := ?_); intro h)))
              (refine n_back (k + 1) ?_ ?_ ?_ ?_; rotate_left; rotate_left; (repeat (first | refine ts_nil | (refine ts_cons rfl ?_ ?_; first | (with_reducible rfl) | rotate_left))); (first | (intro _ i; with_reducible refine i) | rotate_left); (try omega); (try omega))
              all_goals first
                | (dsimp only; omega)
                | (rw [wrapI64 (by omega)]; rfl)
                | (intro _ i; rw [hkp]; exact inv_keep parts_of i)
                | rfl
          · obtain rfl : k = 60 := by omega
            rw [midC_all (by omega)]
            (repeat' (first | refine g_seq (h := ?_) | refine g_region (h := ?_) | refine l_nil (h := ?_) | refine n_then (h := ?_) | refine l_pures1 (h := ?_) | refine g_skip (h := ?_) | refine g_exit (h := ?_) | refine n_then_exit (h := ?_) | refine n_block_hit (h := ?_) | refine g_cond_f (h := ?_)))
            (refine n_back ((i + 1, L.map (Sl.fr c))) ?_ ?_ ?_ ?_; rotate_left; rotate_left; (repeat (first | refine ts_nil | (refine ts_cons rfl ?_ ?_; first | (with_reducible rfl) | rotate_left))); (first | (intro _ i; with_reducible refine i) | rotate_left); (try omega); (try omega))
            all_goals first
              | (refine ⟨by simp; omega, fun s hs => ?_, fun s hs hs0 => ?_, hil.1, hil.2⟩
                 · obtain ⟨s', h1, rfl⟩ := List.mem_map.1 hs
                   exact fr_ok (ok _ h1)
                 · obtain ⟨s', h1, rfl⟩ := List.mem_map.1 hs
                   have h2 := hn s' h1
                   unfold Sl.fr at hs0 ⊢
                   split
                   · rename_i z; rw [if_pos z] at hs0; exact absurd rfl hs0
                   · rename_i z; rw [if_neg z] at hs0; have := h2 hs0; dsimp only; omega)
              | (dsimp only; omega)
              | (rw [wrapI64 (by omega)]; rfl)
              | (intro _ i; exact inv_keep parts_of i)
              | rfl
        all_goals first
          | exact Nat.zero_le _
          | rfl
          | (intro _ i; rw [midC_zero]; exact inv_keep parts_of i)
      · have hu : ∀ s ∈ L, ¬ (s.cap ≠ 0 ∧ s.nonce = i) := fun s hs q => by
          have := hn s hs q.1
          omega
        have hT : Does Tryz.prog 20 [.pointer (some ⟨t, 0, none⟩), .int .i64 c, .int .u64 i] [Tx (TxP.new t sb db 640) (slotT 1 L)] (fun v H => v = .tuple #[.agg #[.int .i64 (1 + takeAt L : Nat), .int .i64 c, .int .i64 (epochAt L : Nat), .int .u64 i], .int .i64 0] ∧ H = [Tx (TxP.new t sb db 640) (slotT 1 (takeL L c i))]) :=
          slotTake_does (TxP.new t sb db 640) L c i (by omega) (by omega) (by omega) ok (room _ (by omega)) hu (by omega)
        have hll := takeL_len L c i
        have hok2 := takeL_ok (cap := c) (n := i) ok (by omega) (by omega)
        have hal := arr_len (capAt L)
        have hg0 := arr_get (f := capAt L) (q := 1 + takeAt L) (by omega)
        rw [capAt_take] at hg0
        have hst : (arr (capAt L)).set (0 + ((1 + takeAt L : Nat) : Int).toNat * 1) (.int .i64 c) = arr (capAt (takeL L c i)) := arr_set (by omega) fun x _ => capAt_takeL x
        (repeat' (first | refine g_seq (h := ?_) | refine g_region (h := ?_) | refine l_nil (h := ?_) | refine n_then (h := ?_) | refine l_pures1 (h := ?_) | refine l_guard_yes (h := ?_) | refine l_load_p (h := ?_) | refine l_indexAddr (h := ?_) | refine g_skip (h := ?_) | refine g_block (h := ?_) | (refine l_spT (h := ?_); intro h) | (refine g_spT (h := ?_); intro h) | (refine g_spF (h := ?_); intro h)))
        refine l_shut (ins_shuts v5 v6 v7) (h := ?_)
        rw [ec, ewi]
        (repeat' (first | refine g_seq (h := ?_) | refine g_region (h := ?_) | refine l_nil (h := ?_) | refine n_then (h := ?_) | refine l_pures1 (h := ?_) | (refine l_atc ?_; refine l_call (hT) ?_) | refine l_guard_yes (h := ?_) | refine l_load (h := ?_) | refine l_store (h := ?_) | (refine l_alloc (h := ?_); intro _) | refine l_load_at (h := ?_) | refine g_skip (h := ?_) | refine g_block (h := ?_) | refine g_cond_f (h := ?_) | refine l_indexArr (h := ?_) | (refine l_spF (h := ?_); intro h)))
        rename_i b11 _
        (refine g_loop (fun j : Nat => [(13, .int .i64 (1 + j : Nat)), (11, .pointer (some ⟨b11, 0, none⟩)), (7, .int .i64 c), (6, .int .i64 i), (5, .pointer (some ⟨b5, 0, none⟩)), (4, .pointer (some ⟨t, 0, none⟩)), (3, .bool true), (0, .slice (some ⟨gb, off, none⟩) ks.length cap)]) (fun j => [cl b11 32 [.int .i64 (1 + takeAt L : Nat), .int .i64 c, .int .i64 (epochAt L), .int .u64 i], cl b5 26 (arr (capAt L)), Tx (TxP.new t sb db 640) (slotT 1 (takeL L c i)), ins (some ⟨gb, off, none⟩) ks.length (ks.map (Value.int .u8)) (.cells row.toArray T0 fr)]) (fun j => j ≤ takeAt L) (fun j => takeAt L - j) (0) ?_ ?_ ?_ ?_; rotate_left; (repeat (first | refine ts_nil | (refine ts_cons rfl ?_ ?_; first | (with_reducible rfl) | rotate_left))); (first | (intro _ i; with_reducible refine i) | rotate_left); rotate_left; (try omega); rotate_right)
        · intro j hj
          rcases Nat.lt_or_ge j (takeAt L) with hlt | hge
          · have hjl : j < L.length := by omega
            have hbusy := takeAt_busy hlt hjl
            have hgj := arr_get (f := capAt L) (q := 1 + j) (by omega)
            rw [capAt_succ hjl] at hgj
            have hj2 : j < (takeL L c i).length := by unfold takeL; split <;> simp <;> omega
            have he : (takeL L c i)[j] = L[j] := by
              unfold takeL
              split
              · rw [List.getElem_set_ne (by omega)]
              · rw [List.getElem_append_left hjl]
            have hA := sAt_does (TxP.new t sb db 640) (takeL L c i) j hj2 (by omega) hok2
            rw [he] at hA
            obtain ⟨s, hs⟩ : ∃ s, s = L[j] := ⟨_, rfl⟩
            rw [← hs] at hA hgj hbusy
            have hA : Does Tryz.prog 21 [.pointer (some ⟨t, 0, none⟩), .int .i64 (1 + j : Nat)] [Tx (TxP.new t sb db 640) (slotT 1 (takeL L c i))] (fun v H => v = .tuple #[.agg #[.int .i64 (1 + j : Nat), .int .i64 s.cap, .int .i64 s.epoch, .int .u64 s.nonce], .int .i64 0] ∧ H = [Tx (TxP.new t sb db 640) (slotT 1 (takeL L c i))]) := hA
            (repeat' (first | refine g_seq (h := ?_) | refine g_region (h := ?_) | refine l_nil (h := ?_) | refine n_then (h := ?_) | refine l_pures1 (h := ?_) | (refine l_atc ?_; refine l_call (hA) ?_) | refine l_guard_yes (h := ?_) | refine l_guard_no (h := ?_) | refine l_guard_un (h := ?_) | refine l_load (h := ?_) | refine l_store (h := ?_) | (refine l_alloc (h := ?_); intro _) | refine l_load_at (h := ?_) | refine g_skip (h := ?_) | refine g_block (h := ?_) | refine n_block (h := ?_) | refine g_cond_f (h := ?_) | refine l_indexArr (h := ?_) | (refine l_sp (h1 := ?_) (h0 := ?_) <;> intro h) | (refine g_spT (h := ?_); intro h) | (refine g_spF (h := ?_); intro h)))
            all_goals
              (refine n_back (j + 1) ?_ ?_ ?_ ?_; rotate_left; rotate_left; (repeat (first | refine ts_nil | (refine ts_cons rfl ?_ ?_; first | (with_reducible rfl) | rotate_left))); (first | (intro _ i; with_reducible refine i) | rotate_left); (try omega); (try omega))
            all_goals first
              | (dsimp only; omega)
              | (congr 1; rw [wrapI64 (by omega)]; omega)
              | (intro _ i; exact inv_keep parts_of i)
              | rfl
          · obtain rfl : j = takeAt L := by omega
            (repeat' (first | refine g_seq (h := ?_) | refine g_region (h := ?_) | refine l_nil (h := ?_) | refine n_then (h := ?_) | refine l_pures1 (h := ?_) | refine l_load (h := ?_) | refine l_store_at (h := ?_) | refine g_exit (h := ?_) | refine n_then_exit (h := ?_) | refine n_block_hit (h := ?_) | refine n_block (h := ?_) | refine l_indexArr (h := ?_) | (refine g_spF (h := ?_); intro h)))
            rw [hst]
            (refine n_back ((i + 1, takeL L c i)) ?_ ?_ ?_ ?_; rotate_left; rotate_left; (repeat (first | refine ts_nil | (refine ts_cons rfl ?_ ?_; first | (with_reducible rfl) | rotate_left))); (first | (intro _ i; with_reducible refine i) | rotate_left); (try omega); (try omega))
            all_goals first
              | (refine ⟨by dsimp only; omega, hok2, fun s hs hs0 => ?_, hil.1, hil.2⟩
                 rcases takeL_mem hs with h | rfl
                 · have := hn s h hs0; dsimp only; omega
                 · dsimp only; omega)
              | (dsimp only; omega)
              | (rw [wrapI64 (by omega)]; rfl)
              | (intro _ i; exact inv_keep parts_of i)
              | rfl
        all_goals first
          | exact Nat.zero_le _
          | rfl
          | (intro _ i; exact inv_keep parts_of i)
    · (repeat' (first | refine g_seq (h := ?_) | refine g_region (h := ?_) | refine l_nil (h := ?_) | refine n_then (h := ?_) | refine l_pures1 (h := ?_) | refine l_guard_yes (h := ?_) | refine l_guard_no (h := ?_) | refine g_ret (h := ?_) | refine g_exit (h := ?_) | refine n_then_exit (h := ?_) | refine n_block_hit (h := ?_) | refine g_cond_f (h := ?_) | (refine l_sp (h1 := ?_) (h0 := ?_) <;> intro h) | (refine g_spF (h := ?_); intro h)))
      all_goals
        refine r_retk [ins p ks.length (ks.map (Value.int .u8)) o] ?_
      all_goals exact ⟨rfl, rfl⟩
  all_goals first
    | (refine ⟨Nat.le_refl _, ?_, ?_, Nat.zero_le _, Nat.zero_le _⟩ <;> (intro s hs; simp at hs))
    | rfl
    | (intro _ i; (show SL.Inv _ _ [cl b5 26 (arr (capAt [])), Tx (TxP.new t sb db 640) [], ins p ks.length (ks.map (Value.int .u8)) o] _); rw [arr_zero]; exact i)
end Go.Proofs.YtmfmommgooccnaaGreat

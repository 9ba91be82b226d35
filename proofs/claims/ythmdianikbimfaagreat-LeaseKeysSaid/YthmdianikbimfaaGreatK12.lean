/- Texts LeM, LeA, LeN, LeB, LeP, LeK, RowL, RowS, joined. -/
import Derived.SliceStrings
import Derived.ChangeSlices
import Derived.Carry
import Derived.Test.YthmdianikbimfaaGreatK11
set_option linter.unusedVariables false
set_option linter.unusedSimpArgs false
set_option maxRecDepth 20000
namespace Go.Proofs.YthmdianikbimfaaGreat
open Go.Proofs.YthmdianikbimfaaGreat.SL
theorem relExt {α : Type} {r : α → α → Prop} (ir : ∀ x, ¬ r x x) (asy : ∀ x y, r x y → ¬ r y x) : ∀ {a b : List α}, a.Pairwise r → b.Pairwise r → (∀ x, x ∈ a ↔ x ∈ b) → a = b
  | [], [], _, _, _ => rfl
  | [], y :: b, _, _, h => by have := (h y).2 (by simp); cases this
  | x :: a, [], _, _, h => by have := (h x).1 (by simp); cases this
  | x :: a, y :: b, p, q, h => by
    have p2 := List.pairwise_cons.1 p
    have q2 := List.pairwise_cons.1 q
    have hxy : x = y := by
      rcases List.mem_cons.1 ((h x).1 (by simp)) with e | e
      · exact e
      · rcases List.mem_cons.1 ((h y).2 (by simp)) with e2 | e2
        · exact e2.symm
        · exact absurd (p2.1 y e2) (asy _ _ (q2.1 x e))
    subst hxy
    congr 1
    refine relExt ir asy p2.2 q2.2 fun z => ⟨fun hz => ?_, fun hz => ?_⟩
    · rcases List.mem_cons.1 ((h z).1 (List.mem_cons_of_mem _ hz)) with e | e
      · subst e; exact absurd (p2.1 z hz) (ir z)
      · exact e
    · rcases List.mem_cons.1 ((h z).2 (List.mem_cons_of_mem _ hz)) with e | e
      · subst e; exact absurd (q2.1 z hz) (ir z)
      · exact e
def ltP (x y : Nat × Nat) : Prop := x.1 < y.1 ∨ (x.1 = y.1 ∧ x.2 < y.2)
def leP (T : List Ent) : List (Nat × Nat) := (rng T (kyN 5 0 0) (kyN 6 0 0)).map fun e => (e.1 / 4294967296 % 268435456, e.1 % 4294967296)
theorem le_key {T : List Ent} {e : Ent} (h : e ∈ rng T (kyN 5 0 0) (kyN 6 0 0)) : e.1 = kyN 5 (e.1 / 4294967296 % 268435456) (e.1 % 4294967296) := by
  obtain ⟨_, h2, h3⟩ := rng_mem.1 h
  unfold kyN at h2 h3 ⊢
  omega
theorem leP_rise {T : List Ent} (o : Ord T) : (leP T).Pairwise ltP := by
  refine List.pairwise_map.2 (List.Pairwise.imp_of_mem ?_ (List.Pairwise.filter _ (geE_ord o _)))
  intro x y hx hy h
  have h1 := (rng_mem (T := T)).1 hx
  have h2 := (rng_mem (T := T)).1 hy
  unfold kyN at h1 h2
  show _ < _ ∨ (_ = _ ∧ _ < _)
  dsimp only
  omega
theorem leP_mem {T : List Ent} (o : Ord T) {a n : Nat} : (a, n) ∈ leP T ↔ a ≤ 268435455 ∧ n < 4294967296 ∧ (getE T (kyN 5 a n)).isSome = true := by
  unfold leP
  rw [List.mem_map]
  constructor
  · rintro ⟨e, he, h⟩
    have hk := le_key he
    obtain ⟨h1, h2, h3⟩ := rng_mem.1 he
    simp only [Prod.mk.injEq] at h
    rw [h.1, h.2] at hk
    refine ⟨by omega, by omega, ?_⟩
    rw [← hk, getE_of o (x := e.1) (v := e.2) h1]
    rfl
  · rintro ⟨h1, h2, h3⟩
    obtain ⟨v, hv⟩ := mem_of_get h3
    refine ⟨_, rng_mem.2 ⟨hv, by unfold kyN; omega, by unfold kyN; omega⟩, ?_⟩
    simp only [Prod.mk.injEq]
    unfold kyN
    omega
def CS.dueP (s : CS) (now : Nat) : List (Nat × Nat) := (List.range' 1 now).flatMap fun a => ((List.range' 1 s.cp.length).filter fun n => s.lease a n).map fun n => (a, n)
def CS.due (s : CS) (now : Nat) : List Nat := (List.range' 1 now).flatMap fun a => (List.range' 1 s.cp.length).filter fun n => s.lease a n
theorem due_map (s : CS) (now : Nat) : (s.dueP now).map (·.2) = s.due now := by
  unfold CS.dueP CS.due
  rw [List.map_flatMap]
  congr 1
  funext a
  rw [List.map_map]
  conv => rhs; rw [← List.map_id ((List.range' 1 s.cp.length).filter fun n => s.lease a n)]
  rfl
theorem lease_lt {s : CS} {a n : Nat} (h : s.lease a n = true) : 1 ≤ a ∧ 1 ≤ n ∧ n ≤ s.cp.length := by
  simp only [CS.lease, Bool.and_eq_true, decide_eq_true_eq] at h
  obtain ⟨c, hc1, _⟩ := (Option.any_eq_true _ _).1 h.2
  have := capAt_lt hc1
  omega
theorem dueP_mem {s : CS} {now : Nat} {x : Nat × Nat} : x ∈ s.dueP now ↔ x.1 ≤ now ∧ s.lease x.1 x.2 = true := by
  unfold CS.dueP
  rw [List.mem_flatMap]
  constructor
  · rintro ⟨a, ha, h⟩
    obtain ⟨n, hn, rfl⟩ := List.mem_map.1 h
    have h1 := List.mem_range'_1.1 ha
    exact ⟨by dsimp only; omega, (List.mem_filter.1 hn).2⟩
  · rintro ⟨h1, h2⟩
    have := lease_lt h2
    exact ⟨x.1, List.mem_range'_1.2 (by omega), List.mem_map.2 ⟨x.2, List.mem_filter.2 ⟨List.mem_range'_1.2 (by omega), h2⟩, rfl⟩⟩
theorem dueP_rise (s : CS) (now : Nat) : (s.dueP now).Pairwise ltP := by
  unfold CS.dueP
  rw [List.pairwise_flatMap]
  refine ⟨fun a _ => ?_, ?_⟩
  · refine List.pairwise_map.2 (List.Pairwise.imp ?_ (List.Pairwise.filter _ (List.pairwise_lt_range' ..)))
    intro x y h
    exact .inr ⟨rfl, h⟩
  · refine List.Pairwise.imp ?_ (List.pairwise_lt_range' ..)
    intro a b h x hx y hy
    obtain ⟨_, _, rfl⟩ := List.mem_map.1 hx
    obtain ⟨_, _, rfl⟩ := List.mem_map.1 hy
    exact .inl h
theorem leP_due {T : List Ent} {s : CS} (r : Rp T s.val) (ok : s.cp.length ≤ 1000) (hexp : ∀ n c, s.capAt n = some c → c.expiry ≤ 268435455) (now : Nat) : (leP T).filter (fun x => decide (x.1 ≤ now)) = s.dueP now := by
  refine relExt (r := ltP) (fun x h => ?_) (fun x y h h' => ?_) (List.Pairwise.filter _ (leP_rise r.ord)) (dueP_rise s now) fun x => ?_
  · rcases h with h | h <;> omega
  · rcases h with h | h <;> rcases h' with h' | h' <;> omega
  · obtain ⟨a, n⟩ := x
    rw [List.mem_filter, leP_mem r.ord, dueP_mem]
    simp only [decide_eq_true_eq]
    constructor
    · rintro ⟨⟨h1, h2, h3⟩, h4⟩
      rw [r.val 5 a n (by omega) h1 h2, val5] at h3
      refine ⟨h4, ?_⟩
      split at h3
      · rename_i q; exact q
      · cases h3
    · rintro ⟨h4, h5⟩
      have hl := lease_lt h5
      have ha : a ≤ 268435455 := by
        simp only [CS.lease, Bool.and_eq_true, decide_eq_true_eq] at h5
        obtain ⟨c, hc1, hc2⟩ := (Option.any_eq_true _ _).1 h5.2
        simp only [Bool.and_eq_true, decide_eq_true_eq] at hc2
        have := hexp n c hc1
        omega
      refine ⟨⟨ha, by omega, ?_⟩, h4⟩
      rw [r.val 5 a n (by omega) ha (by omega), val5, if_pos h5]; rfl
theorem due_cut {E : List (Nat × Nat)} (o : E.Pairwise ltP) {now most j : Nat} (hj : j ≤ E.length) (h1 : ∀ i (h : i < j), (E[i]'(by omega)).1 ≤ now ∧ i < most) (h2 : j = E.length ∨ ∃ h : j < E.length, now < E[j].1 ∨ most ≤ j) :
    E.take j = (E.filter fun x => decide (x.1 ≤ now)).take most := by
  have hjm : j ≤ most := by
    rcases Nat.eq_zero_or_pos j with q | q
    · omega
    · have := (h1 (j - 1) (by omega)).2; omega
  have e0 : E = E.take j ++ E.drop j := (List.take_append_drop j E).symm
  have hf1 : (E.take j).filter (fun x => decide (x.1 ≤ now)) = E.take j := List.filter_eq_self.2 fun a ha => by
    obtain ⟨i, hi, rfl⟩ := List.mem_iff_getElem.1 ha
    rw [List.getElem_take]
    rw [List.length_take] at hi
    simpa using (h1 i (by omega)).1
  have hl : (E.take j).length = j := by rw [List.length_take]; omega
  conv => rhs; rw [e0, List.filter_append, hf1]
  by_cases q : most ≤ j
  · have : most = j := by omega
    subst this
    conv => rhs; rw [← hl]
    simp
  · have hd : (E.drop j).filter (fun x => decide (x.1 ≤ now)) = [] := by
      rcases h2 with h2 | ⟨h3, h2 | h2⟩
      · rw [List.drop_of_length_le (by omega)]; rfl
      · refine List.filter_eq_nil_iff.2 fun a ha => ?_
        obtain ⟨i, hi, rfl⟩ := List.mem_iff_getElem.1 ha
        rw [List.length_drop] at hi
        rw [List.getElem_drop]
        have o2 := List.pairwise_iff_getElem.1 o
        rcases Nat.eq_zero_or_pos i with q0 | q0
        · subst q0; simpa using h2
        · have := o2 j (j + i) h3 (by omega) (by omega)
          unfold ltP at this
          simp; omega
      · omega
    rw [hd, List.append_nil]
    exact (List.take_of_length_le (by omega)).symm
theorem due_nodup {s : CS} (now : Nat) : (s.due now).Nodup := by
  rw [← due_map]
  refine List.pairwise_map.2 (List.Pairwise.imp_of_mem ?_ (dueP_rise s now))
  intro x y hx hy h e
  have h1 := (dueP_mem.1 hx).2
  have h2 := (dueP_mem.1 hy).2
  rw [← e] at h2
  simp only [CS.lease, Bool.and_eq_true, decide_eq_true_eq] at h1 h2
  obtain ⟨c, hc1, hc2⟩ := (Option.any_eq_true _ _).1 h1.2
  obtain ⟨d, hd1, hd2⟩ := (Option.any_eq_true _ _).1 h2.2
  rw [hc1] at hd1
  cases hd1
  simp only [Bool.and_eq_true, decide_eq_true_eq] at hc2 hd2
  unfold ltP at h
  omega
theorem due_mem {s : CS} {now n : Nat} : n ∈ s.due now ↔ ∃ a, a ≤ now ∧ s.lease a n = true := by
  rw [← due_map, List.mem_map]
  constructor
  · rintro ⟨x, hx, rfl⟩
    exact ⟨x.1, dueP_mem.1 hx⟩
  · rintro ⟨a, h⟩
    exact ⟨(a, n), dueP_mem.2 h, rfl⟩
theorem due_len {s : CS} {now : Nat} : (s.due now).length ≤ s.cp.length := by
  have h := nodup_sub (A := (s.due now).map fun n : Nat => (n : Int)) (B := (List.range' 1 s.cp.length).map fun n : Nat => (n : Int)) (by
    refine List.Pairwise.map _ (fun a b h => ?_) (due_nodup now)
    omega) (fun a ha => by
    obtain ⟨n, hn, rfl⟩ := List.mem_map.1 ha
    obtain ⟨b, _, hb⟩ := due_mem.1 hn
    have := lease_lt hb
    exact List.mem_map.2 ⟨n, List.mem_range'_1.2 (by omega), rfl⟩)
  simpa using h
def mCp (e : Nat × Bool) : Cp := ⟨0, 1, 1, 1, 0, 1, e.1, 0, false, e.2⟩
def mS (lim : Nat) (es : List (Nat × Bool)) : CS := ⟨[⟨[120], lim, es.length⟩], es.map fun e => some (mCp e)⟩
theorem mS_cap (lim : Nat) (es : List (Nat × Bool)) (n : Nat) : (mS lim es).capAt n = if n = 0 then none else (es[n - 1]?).map mCp := by
  unfold CS.capAt mS
  split
  · rfl
  · simp only [List.getElem?_map]
    cases es[n - 1]? <;> rfl
theorem mS_at {lim : Nat} {es : List (Nat × Bool)} {i : Nat} {e : Nat × Bool} (h : es[i]? = some e) : (mS lim es).capAt (i + 1) = some (mCp e) := by
  rw [mS_cap, if_neg (by omega), Nat.add_sub_cancel, h]; rfl
theorem mS_some {lim : Nat} {es : List (Nat × Bool)} {n : Nat} {c : Cp} (h : (mS lim es).capAt n = some c) : ∃ e, es[n - 1]? = some e ∧ c = mCp e ∧ 1 ≤ n := by
  rw [mS_cap] at h
  split at h
  · cases h
  · obtain ⟨e, he, rfl⟩ := Option.map_eq_some_iff.1 h
    exact ⟨e, he, rfl, by omega⟩
theorem mS_ow (lim : Nat) (es : List (Nat × Bool)) : (mS lim es).owAt 1 = some ⟨[120], lim, es.length⟩ := rfl
theorem mS_len (lim : Nat) (es : List (Nat × Bool)) : (mS lim es).cp.length = es.length := by simp [mS]
structure MOk (lim : Nat) (es : List (Nat × Bool)) : Prop where
  len : es.length ≤ lim
  lim : lim ≤ 1000
  exp : ∀ e ∈ es, e.1 ≤ 268435455
theorem mS_ok {lim : Nat} {es : List (Nat × Bool)} (h : MOk lim es) : (mS lim es).ok where
  ow := fun n o ho => by
    have := owAt_lt ho
    have hn : n = 1 := by simp [mS] at this; omega
    subst hn
    cases ho
    exact ⟨by decide, fold1 120 (by decide), (show (1 : Nat) ≤ 32 by decide), h.lim, h.len⟩
  cp := fun n c hc => by
    obtain ⟨e, he, rfl, hn⟩ := mS_some hc
    have h1 := List.getElem?_eq_some_iff.1 he
    obtain ⟨h2, h3⟩ := h1
    have h4 := h.exp e (h3 ▸ List.getElem_mem h2)
    have := h.len
    have := h.lim
    exact ⟨by omega, by simp [mCp], by simp [mCp]; omega, by simp [mCp], by simp [mCp], by simp [mCp], by simp [mCp], by simp [mCp], h4, by simp [mCp], by simp [mCp]⟩
  par := fun n c hc hne => by
    obtain ⟨e, he, rfl, hn⟩ := mS_some hc
    exact absurd rfl hne
  size := ⟨by rw [mS_len]; have := h.len; have := h.lim; omega, by simp [mS]⟩
theorem mS_clean (lim : Nat) (es : List (Nat × Bool)) : (mS lim es).clean := fun n c hc => by
  obtain ⟨e, he, rfl, hn⟩ := mS_some hc
  exact ⟨rfl, rfl⟩
theorem mS_up {lim : Nat} {es : List (Nat × Bool)} {i : Nat} {e : Nat × Bool} (h : es[i]? = some e) : (mS lim es).up 9 (i + 1) = [(i + 1, mCp e)] := by
  rw [up_some (mS_at h)]; rfl
theorem mS_add (lim : Nat) (es : List (Nat × Bool)) (e : Nat × Bool) : (mS lim es).add (mCp e) ⟨[120], lim, es.length + 1⟩ = mS lim (es ++ [e]) := by
  simp [CS.add, mS, mCp]
theorem mS_set (lim : Nat) (es : List (Nat × Bool)) (i : Nat) (e : Nat × Bool) : (mS lim es).setC (i + 1) (some (mCp e)) = mS lim (es.set i e) := by
  simp [CS.setC, mS, List.map_set]
theorem mS_lease (lim : Nat) (es : List (Nat × Bool)) (a n : Nat) : (mS lim es).lease a n = true ↔ a ≠ 0 ∧ n ≠ 0 ∧ es[n - 1]? = some (a, true) := by
  simp only [CS.lease, Bool.and_eq_true, decide_eq_true_eq]
  rw [mS_cap]
  by_cases q : n = 0
  · simp [q]
  · rw [if_neg q]
    cases h : es[n - 1]? with
    | none => simp
    | some e =>
      obtain ⟨x, y⟩ := e
      simp [mCp, q]
theorem mok_add {lim : Nat} {es : List (Nat × Bool)} (h : MOk lim es) (hl : es.length < lim) {e : Nat × Bool} (he : e.1 ≤ 268435455) : MOk lim (es ++ [e]) :=
  ⟨by simp; omega, h.lim, fun x hx => by
    rcases List.mem_append.1 hx with hx | hx
    · exact h.exp x hx
    · rw [List.mem_singleton.1 hx]; exact he⟩
theorem mok_set {lim : Nat} {es : List (Nat × Bool)} (h : MOk lim es) (i : Nat) {e : Nat × Bool} (he : e.1 ≤ 268435455) : MOk lim (es.set i e) :=
  ⟨by simpa using h.len, h.lim, fun x hx => by
    rcases List.mem_or_eq_of_mem_set hx with hx | rfl
    · exact h.exp x hx
    · exact he⟩
section
variable (t sb db : Nat)
theorem mReg_does (lim : Nat) (hl : lim ≤ 1000) : Does Tryz.prog 9 [.pointer (some ⟨t, 0, none⟩), .string { data := #[120] }, .int .i64 lim] [Ct (TxP.new t sb db 640) CS.z] (fun v H => v = .tuple #[.int .i64 1, .int .i64 0] ∧ H = [Ct (TxP.new t sb db 640) (mS lim [])]) :=
  cReg_does (TxP.new t sb db 640) CS.z (roomNew (by simp [CS.z])) [120] [120] lim (fold1 120 (by decide)) (fold1 120 (by decide)) (by decide) hl (by simp [CS.z]) (z_isNm _)
theorem mRoom {lim : Nat} {es : List (Nat × Bool)} (h : es.length ≤ 90) : roomC (TxP.new t sb db 640) (mS lim es) := roomNew (by rw [mS_len]; simp [mS]; omega)
theorem mMint_does (lim : Nat) (es : List (Nat × Bool)) (e : Nat) (h : es.length ≤ 90) (hl : es.length < lim) (he : e ≤ 268435455) :
    Does Tryz.prog 11 [.pointer (some ⟨t, 0, none⟩), .int .i64 1, .int .i64 1, .int .i64 1, .int .i64 0, .int .i64 e] [Ct (TxP.new t sb db 640) (mS lim es)] (fun v H => v = .tuple #[.int .i64 (es.length + 1 : Nat), .int .i64 0] ∧ H = [Ct (TxP.new t sb db 640) (mS lim (es ++ [(e, true)]))]) := by
  have h1 := cMint_does (TxP.new t sb db 640) (mS lim es) (mRoom t sb db h) 1 1 1 0 e ⟨[120], lim, es.length⟩ (mS_ow lim es) (by omega) (by omega) (by omega) he hl (by rw [mS_len]; omega)
  rw [mS_len] at h1
  have e1 := mS_add lim es (e, true)
  rw [← e1]
  exact h1
theorem mRenew_does (lim : Nat) (es : List (Nat × Bool)) (ok : MOk lim es) (h : es.length ≤ 90) (i e : Nat) (x : Nat × Bool) (hx : es[i]? = some x) (he : e ≤ 268435455) :
    Does Tryz.prog 12 [.pointer (some ⟨t, 0, none⟩), .int .i64 (i + 1 : Nat), .int .i64 e, .int .i64 0] [Ct (TxP.new t sb db 640) (mS lim es)] (fun v H => v = .int .i64 0 ∧ H = [Ct (TxP.new t sb db 640) (mS lim (es.set i (e, true)))]) := by
  have h1 := cRenew_does (TxP.new t sb db 640) (mS lim es) (mRoom t sb db h) (i + 1) e 0 (mCp x) (mS_at hx) (state0 (mS_ok ok) (mS_clean lim es) (mS_at hx)) he (by omega) (by omega)
  rw [← mS_set]
  exact h1
end
end Go.Proofs.YthmdianikbimfaaGreat
set_option maxRecDepth 20000
namespace Go.Proofs.YthmdianikbimfaaGreat
open Go.Proofs.YthmdianikbimfaaGreat.SL
theorem leases_does (t : Nat) : Does Tryz.prog 39 [.pointer (some ⟨t, 0, none⟩)] [] (fun v H => ∃ b1, v = .func (.func 69) #[] #[.pointer (some ⟨b1, 0, none⟩)] ∧ H = [cl b1 24 [.pointer (some ⟨t, 0, none⟩)]]) := by
  refine does_of Tryz.func39 Tryz.ntmps39 rfl rfl rfl (fun w0 F0 => ?_)
  (repeat (first | refine g_seq (h := ?_) | refine g_region (h := ?_) | refine l_nil (h := ?_) | refine n_then (h := ?_) | refine l_pures1 (h := ?_) | (refine l_box (h := ?_); intro _) | refine g_ret (h := ?_)))
  rename_i b1
  refine r_retk [cl b1 24 [.pointer (some ⟨t, 0, none⟩)]] ?_
  exact ⟨b1, rfl, rfl⟩
set_option maxHeartbeats 4000000 in
theorem leasesF_does (P : TxP) (T : List Ent) (l b1 : Nat) (C X : Nat → SProp) (st : Nat → Bool) (o : Ord T) (hlt : ∀ e ∈ T, e.1 < 18446744073709551616) (hT : T.length < 10000)
    (hY : ∀ i (hi : i < (leP T).length), SL.Yields Tryz.prog l [.int .i64 ((leP T)[i].1 : Nat), .int .i64 ((leP T)[i].2 : Nat)] [C i, Tx P T] (fun v H => v = .bool (!st i) ∧ H = [if st i = true then X i else C (i + 1), Tx P T])) :
    Does Tryz.prog 69 [.func (.yield l) #[] #[], .pointer (some ⟨b1, 0, none⟩)] [C 0, cl b1 24 [.pointer (some ⟨P.t, 0, none⟩)], Tx P T]
      (fun v H => v = .tuple #[] ∧ ∃ A, H = [A, cl b1 24 [.pointer (some ⟨P.t, 0, none⟩)], Tx P T] ∧
        ((A = C (leP T).length ∧ ∀ i, i < (leP T).length → st i = false) ∨ ∃ i, i < (leP T).length ∧ st i = true ∧ (∀ j, j < i → st j = false) ∧ A = X i)) := by
  have hF : Does Tryz.prog 70 [.int .i64 5] [] (fun v H => v = .int .u64 (kyN 5 0 0 : Nat) ∧ H = []) := First_does 5 (by omega)
  obtain ⟨R, hR⟩ : ∃ R, R = geE T (kyN 5 0 0) := ⟨_, rfl⟩
  obtain ⟨E, hE⟩ : ∃ E, E = rng T (kyN 5 0 0) (kyN 6 0 0) := ⟨_, rfl⟩
  obtain ⟨Z, hZ⟩ : ∃ Z, Z = geE T (kyN 6 0 0) := ⟨_, rfl⟩
  have hsp := rng_split o (lo := kyN 5 0 0) (hi := kyN 6 0 0) (by unfold kyN; omega)
  rw [← hR, ← hE, ← hZ] at hsp
  have hund : leP T = E.map fun e => (e.1 / 4294967296 % 268435456, e.1 % 4294967296) := by rw [hE]; rfl
  have hul : (leP T).length = E.length := by rw [hund, List.length_map]
  have hEm : ∀ e ∈ E, e.1 = kyN 5 (e.1 / 4294967296 % 268435456) (e.1 % 4294967296) := fun e he => by rw [hE] at he; exact le_key he
  have hEk : ∀ i (hi : i < E.length), E[i].1 = kyN 5 ((leP T)[i]'(by omega)).1 ((leP T)[i]'(by omega)).2 ∧ ((leP T)[i]'(by omega)).1 ≤ 268435455 ∧ ((leP T)[i]'(by omega)).2 < 4294967296 := fun i hi => by
    have h1 := hEm _ (List.getElem_mem hi)
    have h2 : (leP T)[i]'(by omega) = (E[i].1 / 4294967296 % 268435456, E[i].1 % 4294967296) := by simp only [hund, List.getElem_map]
    rw [h2]
    exact ⟨h1, by dsimp only; omega, by dsimp only; omega⟩
  have hZk : ∀ e ∈ Z, kyN 6 0 0 ≤ e.1 ∧ e.1 < 18446744073709551616 := fun e he => by
    rw [hZ] at he
    have := List.mem_filter.1 he
    exact ⟨by simpa using this.2, hlt e this.1⟩
  have hRl : R.length ≤ T.length := by rw [hR]; exact List.length_filter_le _ _
  have hRE : R.length = E.length + Z.length := by rw [hsp, List.length_append]
  simp only [hul]
  refine does_of Tryz.func69 Tryz.ntmps69 rfl rfl rfl (fun w0 F0 => ?_)
  (repeat' (first | refine g_seq (h := ?_) | refine g_region (h := ?_) | refine l_nil (h := ?_) | refine n_then (h := ?_) | refine l_pures1 (h := ?_) | (refine l_atc ?_; refine l_call (hF) ?_) | refine g_block (h := ?_)))
  (refine g_loop (fun j : Nat => [(3, .int .u64 (goOn T (kyN 5 0 0) j : Nat)), (0, .func (.yield l) #[] #[]), (0 + 1, .pointer (some ⟨b1, 0, none⟩))]) (fun j => [C j, cl b1 24 [.pointer (some ⟨P.t, 0, none⟩)], Tx P T]) (fun j => j ≤ E.length ∧ ∀ i, i < j → st i = false) (fun j => E.length - j) (0) ?_ ?_ ?_ ?_; rotate_left; (repeat (first | refine ts_nil | (refine ts_cons rfl ?_ ?_; first | (with_reducible rfl) | rotate_left))); (first | (intro _ i; with_reducible refine i) | rotate_left); rotate_left; (try omega); rotate_right)
  · rintro j ⟨hj, hst⟩
    have hsc := tScan_does P T (goOn T (kyN 5 0 0) j) 16 hT (by omega)
    rw [goOn_ge o (by rw [← hR]; omega), ← hR] at hsc
    obtain ⟨es, hes⟩ : ∃ es, es = (R.drop j).take (Int.toNat 16) := ⟨_, rfl⟩
    rw [← hes] at hsc
    have hesl : es.length = min 16 (R.length - j) := by rw [hes]; simp
    have heg : ∀ i (hi : i < es.length), es.getD i (0, []) = R[j + i]'(by omega) := fun i hi => by
      have hi2 : i < 16 ∧ j + i < R.length := by omega
      subst hes
      rw [List.getD, List.getElem?_take, if_pos (show i < Int.toNat 16 from hi2.1), List.getElem?_drop, List.getElem?_eq_getElem hi2.2]; rfl
    (repeat (first | refine g_seq (h := ?_) | refine g_region (h := ?_) | refine l_nil (h := ?_) | refine n_then (h := ?_) | refine l_pures1 (h := ?_) | (refine l_atc ?_; refine l_call_ (hsc) ?_; rintro _ _ _ ⟨pa, ca, rfl, rfl⟩ he; cases he) | refine l_load (h := ?_) | refine g_block (h := ?_)))
    (refine g_loop (fun i : Nat => [(16, .int .i64 i), (15, .int .i64 es.length), (14, .slice pa es.length ca), (4, .slice pa es.length ca), (0, .func (.yield l) #[] #[]), (0 + 1, .pointer (some ⟨b1, 0, none⟩))]) (fun i => [C (j + i), vec 129 2 pa es.length ca (entC es), cl b1 24 [.pointer (some ⟨P.t, 0, none⟩)], Tx P T]) (fun i => i ≤ es.length ∧ j + i ≤ E.length ∧ ∀ q, q < j + i → st q = false) (fun i => es.length - i) (0) ?_ ?_ ?_ ?_; rotate_left; (repeat (first | refine ts_nil | (refine ts_cons rfl ?_ ?_; first | (with_reducible rfl) | rotate_left))); (first | (intro _ i; with_reducible refine i) | rotate_left); rotate_left; (try omega); rotate_right)
    · rintro i ⟨hi, hji, hsi⟩
      by_cases hil : i < es.length
      · refine g_ptr (m := es.length) (p := pa) (h := ?_); rintro ga rfl hca
        have hpt := part_ent (l := es) (j := i) hil
        rw [heg i hil] at hpt
        have hRl2 : j + i < R.length := by omega
        by_cases hEi : j + i < E.length
        · have hRe : R[j + i] = E[j + i] := by simp only [hsp]; rw [List.getElem_append_left hEi]
          obtain ⟨hk1, hk2, hk3⟩ := hEk (j + i) hEi
          obtain ⟨⟨a, n⟩, hn⟩ : ∃ n, n = (leP T)[j + i]'(by omega) := ⟨_, rfl⟩
          have hYi := hY (j + i) (by omega)
          rw [← hn] at hk1 hk2 hk3 hYi
          dsimp only at hk1 hk2 hk3 hYi
          obtain ⟨⟨e1, e2⟩, he⟩ : ∃ e, e = E[j + i] := ⟨_, rfl⟩
          rw [hRe, ← he] at hpt
          rw [← he] at hk1
          dsimp only at hk1
          subst hk1
          have hsp2 : Does Tryz.prog 72 [.int .u64 (kyN 5 a n : Nat)] [] (fun v H => v = .tuple #[.int .i64 5, .int .i64 a, .int .i64 n] ∧ H = []) := Split_does 5 a n (by omega) hk2 hk3
          cases hs : st (j + i)
          · have hs2 : ∀ q, q < j + (i + 1) → st q = false := fun q hq => by
              by_cases h : q < j + i
              · exact hsi q h
              · rw [show q = j + i by omega]; exact hs
            rw [hs] at hYi
            simp only [Bool.not_false, Bool.false_eq_true, if_false] at hYi
            rw [show j + i + 1 = j + (i + 1) from rfl] at hYi
            (repeat' (first | ((with_reducible show G _ _ _ _ (Code.region 6 _ _) _ _ _ _); refine g_region_w ?_) | (refine lw_i ?_; refine lw_yield (hYi) (h := ?_); rintro _ _ _ ⟨rfl, rfl⟩ he; cases he) | refine g_seq (h := ?_) | refine g_region (h := ?_) | refine l_nil (h := ?_) | refine n_then (h := ?_) | refine l_pures1 (h := ?_) | (refine l_atc ?_; refine l_call (hsp2) ?_) | refine l_load (h := ?_) | refine l_store (h := ?_) | (refine l_alloc (h := ?_); intro _) | refine l_indexAddr (h := ?_) | refine g_skip (h := ?_) | refine g_block (h := ?_) | refine n_block (h := ?_) | refine g_cond_f (h := ?_) | refine l_load_vec (h := ?_) | refine n_lw (h := ?_) | refine lw_nil (h := ?_) | refine lw_guard_yes (h := ?_) | refine lw_step (h := ?_) | (refine g_spT (h := ?_); intro h)))
            (refine n_back (i + 1) ?_ ?_ ?_ ?_; rotate_left; rotate_left; (repeat (first | refine ts_nil | (refine ts_cons rfl ?_ ?_; first | (with_reducible rfl) | rotate_left))); (first | (intro _ i; with_reducible refine i) | rotate_left); (try omega); (try omega))
            all_goals first
              | exact ⟨hil, by omega, hs2⟩
              | omega
              | (rw [wrapI64 (by omega)]; rfl)
              | (intro _ i; exact inv_keep parts_of i)
              | rfl
          · rw [hs] at hYi
            simp only [Bool.not_true, if_true] at hYi
            (repeat' (first | ((with_reducible show G _ _ _ _ (Code.region 6 _ _) _ _ _ _); refine g_region_w ?_) | (refine lw_i ?_; refine lw_yield (hYi) (h := ?_); rintro _ _ _ ⟨rfl, rfl⟩ he; cases he) | refine g_seq (h := ?_) | refine g_region (h := ?_) | refine l_nil (h := ?_) | refine n_then (h := ?_) | refine l_pures1 (h := ?_) | (refine l_atc ?_; refine l_call (hsp2) ?_) | refine l_load (h := ?_) | refine l_store (h := ?_) | (refine l_alloc (h := ?_); intro _) | refine l_indexAddr (h := ?_) | refine g_skip (h := ?_) | refine g_ret (h := ?_) | refine n_then_ret (h := ?_) | refine n_block_ret (h := ?_) | refine g_block (h := ?_) | refine g_cond_t (h := ?_) | refine l_load_vec (h := ?_) | refine n_lw (h := ?_) | refine lw_nil (h := ?_) | refine lw_guard_yes (h := ?_) | refine lw_step (h := ?_) | (refine g_spT (h := ?_); intro h)))
            refine r_retk [X (j + i), cl b1 24 [.pointer (some ⟨P.t, 0, none⟩)], Tx P T] ?_
            exact ⟨rfl, _, rfl, .inr ⟨j + i, hEi, hs, hsi, rfl⟩⟩
        · have hje : j + i = E.length := by omega
          have hRz : R[j + i] ∈ Z := by
            have : R[j + i] = Z[j + i - E.length]'(by omega) := by simp only [hsp]; rw [List.getElem_append_right (by omega)]
            rw [this]
            exact List.getElem_mem _
          obtain ⟨z1, z2⟩ := hZk _ hRz
          obtain ⟨⟨e1, e2⟩, he⟩ : ∃ e, e = R[j + i] := ⟨_, rfl⟩
          rw [← he] at hpt z1 z2
          dsimp only at z1 z2
          obtain ⟨k', a', b', q1, q2, q3, rfl⟩ := kyN_split z2
          have hsp2 := Split_does k' a' b' q1 q2 q3
          have hne : k' ≠ 5 := by
            rintro rfl
            unfold kyN at z1; omega
          (repeat' (first | ((with_reducible show G _ _ _ _ (Code.region 6 _ _) _ _ _ _); refine g_region_w ?_) | refine g_seq (h := ?_) | refine g_region (h := ?_) | refine l_nil (h := ?_) | refine n_then (h := ?_) | refine l_pures1 (h := ?_) | (refine l_atc ?_; refine l_call (hsp2) ?_) | refine l_guard_no (h := ?_) | refine l_load (h := ?_) | refine l_store (h := ?_) | (refine l_alloc (h := ?_); intro _) | refine l_indexAddr (h := ?_) | refine g_skip (h := ?_) | refine g_ret (h := ?_) | refine n_then_ret (h := ?_) | refine n_block_ret (h := ?_) | refine g_block (h := ?_) | refine g_cond_t (h := ?_) | refine l_load_vec (h := ?_) | refine n_lw (h := ?_) | refine lw_nil (h := ?_) | refine lw_step (h := ?_) | (refine l_spT (h := ?_); intro h) | (refine g_spT (h := ?_); intro h)))
          rw [hje]
          refine r_retk [C E.length, cl b1 24 [.pointer (some ⟨P.t, 0, none⟩)], Tx P T] ?_
          exact ⟨rfl, _, rfl, .inl ⟨rfl, fun q hq => hsi q (by omega)⟩⟩
      · obtain rfl : i = es.length := by omega
        by_cases h16 : es.length < 16
        · have hje : j + es.length = E.length := by omega
          rw [hje]
          (repeat' (first | refine g_seq (h := ?_) | refine g_region (h := ?_) | refine l_nil (h := ?_) | refine n_then (h := ?_) | refine l_pures1 (h := ?_) | refine g_ret (h := ?_) | refine n_then_ret (h := ?_) | refine n_block_ret (h := ?_) | refine g_exit (h := ?_) | refine n_then_exit (h := ?_) | refine n_block_hit (h := ?_) | (refine g_spT (h := ?_); intro h) | (refine g_spF (h := ?_); intro h)))
          refine r_retk [C E.length, cl b1 24 [.pointer (some ⟨P.t, 0, none⟩)], Tx P T] ?_
          exact ⟨rfl, _, rfl, .inl ⟨rfl, fun q hq => hsi q (by omega)⟩⟩
        · have h16' : es.length = 16 := by omega
          have hR15 : j + 15 < R.length := by omega
          have hRe : R[j + 15] = E[j + 15]'(by omega) := by simp only [hsp]; rw [List.getElem_append_left (by omega)]
          obtain ⟨hk1, hk2, hk3⟩ := hEk (j + 15) (by omega)
          have hgo : goOn T (kyN 5 0 0) (j + 16) = R[j + 15].1 + 1 := by
            unfold goOn
            rw [if_neg (by omega), ← hR, show j + 16 - 1 = j + 15 by omega, List.getD, List.getElem?_eq_getElem hR15]; rfl
          have hnx := Next_does R[j + 15].1 (by rw [hRe, hk1]; unfold kyN; omega)
          rw [← hgo] at hnx
          have hel : (es.length : Int) = 16 := by omega
          have hi15 := entC_get0 (l := es) (j := 15) (by omega)
          rw [heg 15 (by omega)] at hi15
          refine g_ptr (m := es.length) (p := pa) (h := ?_); rintro ga rfl hca
          have ew15 : IntKind.i64.wrap ((es.length : Int) - 1) = 15 := by rw [wrapI64 (by omega)]; omega
          have hib : 0 ≤ IntKind.i64.wrap ((es.length : Int) - 1) ∧ IntKind.i64.wrap ((es.length : Int) - 1) < es.length := by rw [ew15]; omega
          have hg15 : (entC es)[0 + (IntKind.i64.wrap ((es.length : Int) - 1)).toNat * 2 + 0]? = some (.int .u64 (R[j + 15].1 : Nat)) := by rw [ew15]; exact hi15
          (repeat' (first | refine g_seq (h := ?_) | refine g_region (h := ?_) | refine l_nil (h := ?_) | refine n_then (h := ?_) | refine l_pures1 (h := ?_) | (refine l_atc ?_; refine l_call (hnx) ?_) | refine l_indexAddr (h := ?_) | refine g_skip (h := ?_) | refine g_exit (h := ?_) | refine n_then_exit (h := ?_) | refine n_block_hit (h := ?_) | refine n_block (h := ?_) | refine l_load_vec (h := ?_) | (refine g_spF (h := ?_); intro h)))
          rw [h16']
          (refine n_back (j + 16) ?_ ?_ ?_ ?_; rotate_left; rotate_left; (repeat (first | refine ts_nil | (refine ts_cons rfl ?_ ?_; first | (with_reducible rfl) | rotate_left))); (first | (intro _ i; with_reducible refine i) | rotate_left); (try omega); (try omega))
          all_goals first
            | exact ⟨by omega, by rw [← h16']; exact hsi⟩
            | omega
            | (intro _ i; exact inv_keep parts_of i)
            | rfl
    all_goals first
      | exact ⟨Nat.zero_le _, by omega, fun q hq => hst q (by omega)⟩
      | rfl
      | (intro _ i; simp only [Nat.add_zero]; exact inv_keep parts_of i)
  all_goals first
    | exact ⟨Nat.zero_le _, fun i hi => absurd hi (by omega)⟩
    | rfl
    | (intro _ i; exact inv_keep parts_of i)
end Go.Proofs.YthmdianikbimfaaGreat
set_option maxRecDepth 20000
namespace Go.Proofs.YthmdianikbimfaaGreat
open Go.Proofs.YthmdianikbimfaaGreat.SL
def Cp.undue (c : Cp) : Cp := { c with due := false }
theorem forget_val {s : CS} {n : Nat} {c : Cp} (hc : s.capAt n = some c) : ∀ k a b,
    (Vals.updIf s.val (0 < c.expiry) 5 c.expiry n none) k a b = (s.setC n (some c.undue)).val k a b := by
  have hn := capAt_lt hc
  refine setC_val hn _ ?_ ?_ ?_ ?_
  · intro a b
    rw [Vals.updIf_ne (by omega)]
    by_cases q : a = 0 ∧ b = n
    · obtain ⟨rfl, rfl⟩ := q
      rw [if_pos ⟨rfl, rfl⟩, val1, if_pos rfl, hc]; rfl
    · rw [if_neg q]
  · intro a b
    rw [Vals.updIf_ne (by omega)]
    by_cases q : b = n
    · subst q; rw [if_pos rfl, val2]; unfold CS.kid; rw [hc]; rfl
    · rw [if_neg q]
  · intro a b
    rw [Vals.updIf_at]
    by_cases q : b = n
    · subst q
      rw [if_pos rfl, val5]
      unfold CS.lease
      rw [hc]
      simp only [Option.any_some, Cp.undue, Bool.and_false, Bool.false_eq_true, if_false]
      by_cases h1 : a = c.expiry
      · subst h1
        by_cases h2 : c.expiry = 0
        · simp [h2]
        · have : 0 < c.expiry := by omega
          simp [this]
      · have h1' : ¬ c.expiry = a := fun h => h1 h.symm
        simp [h1, h1']
    · simp [q]
  · rintro k a b ⟨q1, q2, q3⟩
    rw [Vals.updIf_ne q3]
theorem undue_ok {n : Nat} {c : Cp} (h : c.ok n) : c.undue.ok n := ⟨h.id, h.parent, h.other, h.object, h.owner, h.rights, h.badge, h.depth, h.expiry, h.cut, h.root⟩
set_option maxHeartbeats 4000000 in
theorem forget_does (P : TxP) (s : CS) (T : List Ent) (k : CtI P s T) (room : roomC P s) (n : Nat) (c : Cp) (hc : s.capAt n = some c) :
    Does Tryz.prog 17 [.pointer (some ⟨P.t, 0, none⟩), .int .i64 n] [Tx P T] (fun v H => ∃ T', v = .int .i64 0 ∧ H = [Tx P T'] ∧ Rp T' (s.setC n (some c.undue)).val) := by
  have hg := getCapAt_does P s T n c k hc
  have hid := capAt_lt hc
  have hsz := k.ok.size
  have hex := (k.ok.cp n c hc).expiry
  have hK1 : Does Tryz.prog 35 [.int .i64 5, .int .i64 c.expiry, .int .i64 n] [] (fun v H => v = .int .u64 (kyN 5 c.expiry n : Nat) ∧ H = []) := leKey_does 5 c.expiry n (by omega) hex (by omega)
  have hval := forget_val hc
  have hD := tDelete_does P T (kyN 5 c.expiry n) (k.room room (by omega))
  by_cases q : 0 < c.expiry
  · rw [Vals.updIf_t q] at hval
    have r1 := k.rp.del (k := 5) (a := c.expiry) (b := n) (by omega) hex (by omega)
    obtain ⟨T1, h1⟩ : ∃ T1, T1 = delE T (kyN 5 c.expiry n) := ⟨_, rfl⟩
    rw [← h1] at hD r1
    have hE := tErr_does P T1
    refine does_of Tryz.func17 Tryz.ntmps17 rfl rfl rfl (fun w0 F0 => ?_)
    (repeat' (first | refine g_seq (h := ?_) | refine g_region (h := ?_) | refine l_nil (h := ?_) | refine n_then (h := ?_) | refine l_pures1 (h := ?_) | (refine l_atc ?_; refine l_call (hg) ?_) | (refine l_atc ?_; refine l_call (hK1) ?_) | (refine l_atc ?_; refine l_call (hD) ?_) | (refine l_atc ?_; refine l_call (hE) ?_) | refine l_load (h := ?_) | refine l_store (h := ?_) | (refine l_alloc (h := ?_); intro _) | refine g_skip (h := ?_) | refine g_ret (h := ?_) | refine g_cond_f (h := ?_) | (refine g_spT (h := ?_); intro h)))
    refine r_retk [Tx P T1] ?_
    exact ⟨T1, rfl, rfl, r1.to fun k a b _ _ _ => hval k a b⟩
  · rw [Vals.updIf_f q] at hval
    have hE := tErr_does P T
    refine does_of Tryz.func17 Tryz.ntmps17 rfl rfl rfl (fun w0 F0 => ?_)
    (repeat' (first | refine g_seq (h := ?_) | refine g_region (h := ?_) | refine l_nil (h := ?_) | refine n_then (h := ?_) | refine l_pures1 (h := ?_) | (refine l_atc ?_; refine l_call (hg) ?_) | (refine l_atc ?_; refine l_call (hE) ?_) | refine l_load (h := ?_) | refine l_store (h := ?_) | (refine l_alloc (h := ?_); intro _) | refine g_skip (h := ?_) | refine g_ret (h := ?_) | refine g_cond_f (h := ?_) | (refine g_spF (h := ?_); intro h)))
    refine r_retk [Tx P T] ?_
    exact ⟨T, rfl, rfl, k.rp.to fun k a b _ _ _ => hval k a b⟩
theorem cForget_does (P : TxP) (s : CS) (room : roomC P s) (n : Nat) (c : Cp) (hc : s.capAt n = some c) :
    Does Tryz.prog 17 [.pointer (some ⟨P.t, 0, none⟩), .int .i64 n] [Ct P s] (fun v H => v = .int .i64 0 ∧ H = [Ct P (s.setC n (some c.undue))]) :=
  ct_of fun T k => (forget_does P s T k room n c hc).mono fun v H ⟨T', h1, h2, h3⟩ => ⟨T', h1, h2, h3, setC_ok k.ok hc (undue_ok (k.ok.cp n c hc)) rfl rfl⟩
theorem forgetNone_does (P : TxP) (s : CS) (n : Nat) (hc : s.capAt n = none) :
    Does Tryz.prog 17 [.pointer (some ⟨P.t, 0, none⟩), .int .i64 n] [Ct P s] (fun v H => v = .int .i64 3 ∧ H = [Ct P s]) := ct_same fun T k => by
  have hg := getCapNone_does P s T n k hc
  refine does_of Tryz.func17 Tryz.ntmps17 rfl rfl rfl (fun w0 F0 => ?_)
  (repeat' (first | refine g_seq (h := ?_) | refine g_region (h := ?_) | refine l_nil (h := ?_) | refine n_then (h := ?_) | refine l_pures1 (h := ?_) | (refine l_atc ?_; refine l_call (hg) ?_) | refine l_store (h := ?_) | (refine l_alloc (h := ?_); intro _) | refine g_ret (h := ?_) | refine n_then_ret (h := ?_) | refine g_cond_t (h := ?_)))
  refine r_retk [Tx P T] ?_
  exact ⟨rfl, rfl⟩
theorem mForget_does (t sb db lim : Nat) (es : List (Nat × Bool)) (h : es.length ≤ 90) (i : Nat) (x : Nat × Bool) (hx : es[i]? = some x) :
    Does Tryz.prog 17 [.pointer (some ⟨t, 0, none⟩), .int .i64 (i + 1 : Nat)] [Ct (TxP.new t sb db 640) (mS lim es)] (fun v H => v = .int .i64 0 ∧ H = [Ct (TxP.new t sb db 640) (mS lim (es.set i (x.1, false)))]) := by
  have h1 := cForget_does (TxP.new t sb db 640) (mS lim es) (mRoom t sb db h) (i + 1) (mCp x) (mS_at hx)
  rw [← mS_set]
  exact h1
end Go.Proofs.YthmdianikbimfaaGreat
set_option maxRecDepth 20000
namespace Go.Proofs.YthmdianikbimfaaGreat
open Go.Proofs.YthmdianikbimfaaGreat.SL
def encN (n : Nat) : Value := .int .i64 (n : Nat)
abbrev DuK (l n : Nat) (tm : List (Nat × Value)) (asg body : Code) (st : LoopState) (pe : Option Code) (b4 b5 b8 now most : Nat) (ids : List Nat) (x : Option Addr × Nat) : List SProp :=
  [lp l n tm #[14, 15] asg body st pe, cl b4 3 [.int .i64 now], cl b5 3 [.int .i64 most], cl b8 22 [.slice x.1 ids.length x.2], vec 3 1 x.1 ids.length x.2 (ids.map encN)]
def Du (l n : Nat) (tm : List (Nat × Value)) (asg body : Code) (st : LoopState) (pe : Option Code) (b4 b5 b8 now most : Nat) (ids : List Nat) : SProp := hid (fun _ : Option Addr × Nat => True) (DuK l n tm asg body st pe b4 b5 b8 now most ids)
set_option maxHeartbeats 4000000 in
theorem du_yields0 (P : TxP) (T : List Ent) (l b4 b5 b8 now most at' id : Nat) (ids : List Nat) (x : Option Addr × Nat) (tm0 : List (Nat × Value)) (asg body : Code) (hl : ids.length < 100000) (ha : at' ≤ 268435455) (hid : id < 4294967296) (hn : now < 1000000000) (hm : most < 1000000000) (w4 : tget tm0 4 = some (.pointer (some ⟨b4, 0, none⟩))) (w5 : tget tm0 5 = some (.pointer (some ⟨b5, 0, none⟩))) (w8 : tget tm0 8 = some (.pointer (some ⟨b8, 0, none⟩)))
    (hA : asg = rfA (nav [1, 1, 0, 1, 2] (bdy Tryz.f13))) (hB : body = rfB (nav [1, 1, 0, 1, 2] (bdy Tryz.f13))) :
    SL.Yields Tryz.prog l [.int .i64 at', .int .i64 id] (DuK l 35 tm0 asg body .ready none b4 b5 b8 now most ids x ++ [Tx P T])
      (fun v H => v = .bool (!(decide (now < at') || decide (most ≤ ids.length))) ∧ ∃ x' R, Parts (if (decide (now < at') || decide (most ≤ ids.length)) = true then DuK l 35 tm0 asg body .done (some (.exit 0)) b4 b5 b8 now most ids x' ++ [Tx P T] else DuK l 35 tm0 asg body .ready none b4 b5 b8 now most (ids ++ [id]) x' ++ [Tx P T]) H R) := by
  obtain ⟨p, cap⟩ := x
  dsimp only [DuK, List.cons_append, List.nil_append]
  refine yields_of (ps := [14, 15]) (fun w0 F0 => ?_)
  refine gr_weak (tm' := [(15, .int .i64 id), (14, .int .i64 at'), (4, .pointer (some ⟨b4, 0, none⟩)), (5, .pointer (some ⟨b5, 0, none⟩)), (8, .pointer (some ⟨b8, 0, none⟩))]) ⟨rfl, rfl, w4, w5, w8, trivial⟩ (fun i => i) ?_
  have e0 : (ids ++ [id]).length = ids.length + 1 := by simp
  have e1 : ids.map encN ++ [Value.int .i64 id] = (ids ++ [id]).map encN := by simp [encN]
  refine gr_as hA ?_
  dsimp only [rfA, nav, bdy, Tryz.f13, Option.getD]
  (repeat (first | refine l_nil (h := ?_) | refine l_pures1 (h := ?_) | refine gr_seq (h := ?_) | refine gr_region (h := ?_) | refine nr_then (h := ?_)))
  refine n_begin (h := ?_)
  refine gr_as hB ?_
  dsimp only [rfA, rfB, nav, bdy, Tryz.f13, Option.getD]
  by_cases q1 : now < at'
  · (repeat' (first | refine l_nil (h := ?_) | refine l_pures1 (h := ?_) | refine l_guard_no (h := ?_) | refine l_load (h := ?_) | refine n_then_exit (h := ?_) | refine n_block_miss (h := ?_) | refine gr_seq (h := ?_) | refine gr_region (h := ?_) | refine nr_then (h := ?_) | refine gr_block (h := ?_) | refine gr_exit (h := ?_) | refine gr_cond_t (h := ?_) | (refine l_spT (h := ?_); intro h)))
    refine n_round_x ⟨by simp [q1], (p, cap), ?_⟩
    rw [if_pos (by simp [q1])]
    exact ⟨_, parts_of⟩
  · by_cases q2 : most ≤ ids.length
    · (repeat' (first | refine l_nil (h := ?_) | refine l_pures1 (h := ?_) | refine l_guard_yes (h := ?_) | refine l_load (h := ?_) | refine n_then_exit (h := ?_) | refine n_block_miss (h := ?_) | refine gr_seq (h := ?_) | refine gr_region (h := ?_) | refine nr_then (h := ?_) | refine gr_block (h := ?_) | refine gr_exit (h := ?_) | (refine l_spF (h := ?_); intro h) | (refine gr_spT (h := ?_); intro h)))
      refine n_round_x ⟨by simp [q1, q2], (p, cap), ?_⟩
      rw [if_pos (by simp [q2])]
      exact ⟨_, parts_of⟩
    · (repeat' (first | refine l_nil (h := ?_) | refine l_pures1 (h := ?_) | refine l_guard_yes (h := ?_) | refine l_load (h := ?_) | refine l_store (h := ?_) | (refine l_buildSlice1 (h := ?_); intro _) | (refine l_append_new (h := ?_); intro _ _) | refine n_block (h := ?_) | refine gr_seq (h := ?_) | refine gr_region (h := ?_) | refine nr_then (h := ?_) | refine gr_block (h := ?_) | refine gr_skip (h := ?_) | (refine l_spF (h := ?_); intro h) | (refine gr_spF (h := ?_); intro h)))
      rename_i p' cap'
      rw [← e0, e1]
      refine n_round ⟨by simp [q1, q2], (p', cap'), ?_⟩
      rw [if_neg (by simp [q1, q2])]
      exact ⟨_, parts_of⟩
theorem du_yields (P : TxP) (T : List Ent) (l b4 b5 b8 now most at' id : Nat) (ids : List Nat) (tm0 : List (Nat × Value)) (asg body : Code) (hl : ids.length < 100000) (ha : at' ≤ 268435455) (hid : id < 4294967296) (hn : now < 1000000000) (hm : most < 1000000000) (w4 : tget tm0 4 = some (.pointer (some ⟨b4, 0, none⟩))) (w5 : tget tm0 5 = some (.pointer (some ⟨b5, 0, none⟩))) (w8 : tget tm0 8 = some (.pointer (some ⟨b8, 0, none⟩)))
    (hA : asg = rfA (nav [1, 1, 0, 1, 2] (bdy Tryz.f13))) (hB : body = rfB (nav [1, 1, 0, 1, 2] (bdy Tryz.f13))) :
    SL.Yields Tryz.prog l [.int .i64 at', .int .i64 id] [Du l 35 tm0 asg body .ready none b4 b5 b8 now most ids, Tx P T]
      (fun v H => v = .bool (!(decide (now < at') || decide (most ≤ ids.length))) ∧ H = [if (decide (now < at') || decide (most ≤ ids.length)) = true then Du l 35 tm0 asg body .done (some (.exit 0)) b4 b5 b8 now most ids else Du l 35 tm0 asg body .ready none b4 b5 b8 now most (ids ++ [id]), Tx P T]) := by
  refine Yields.openR hid_opens ?_
  rintro x _
  refine (du_yields0 P T l b4 b5 b8 now most at' id ids x tm0 asg body hl ha hid hn hm w4 w5 w8 hA hB).post ?_
  rintro v H' ⟨rfl, x', R, hp⟩
  refine ⟨_, ⟨rfl, rfl⟩, ?_⟩
  intro w0 F0 w iv
  cases hc : (decide (now < at') || decide (most ≤ ids.length))
  · rw [hc] at hp
    simp only [Bool.false_eq_true, if_false] at hp ⊢
    exact Inv.shuts (hid_shuts (p := fun _ : Option Addr × Nat => True) (K := DuK l 35 tm0 asg body .ready none b4 b5 b8 now most (ids ++ [id])) x' trivial) ((iv.parts hp).drop)
  · rw [hc] at hp
    simp only [if_true] at hp ⊢
    exact Inv.shuts (hid_shuts (p := fun _ : Option Addr × Nat => True) (K := DuK l 35 tm0 asg body .done (some (.exit 0)) b4 b5 b8 now most ids) x' trivial) ((iv.parts hp).drop)
def DuF (t b1 b4 b5 b8 now most : Nat) (ids : List Nat) (P : TxP) (T : List Ent) (K' : List SProp) : Prop :=
  ∃ (p : Option Addr) (cap : Nat), K' = [cl b4 3 [.int .i64 now], cl b5 3 [.int .i64 most], cl b8 22 [.slice p ids.length cap], vec 3 1 p ids.length cap (ids.map encN), cl b1 24 [.pointer (some ⟨t, 0, none⟩)], Tx P T]
theorem due_hs (P : TxP) (s : CS) (T : List Ent) (k : CtI P s T) (l b1 b4 b5 b8 now most : Nat) (hn : now < 1000000000) (hm : most < 1000000000) (tm0 : List (Nat × Value)) (asg body : Code) (w4 : tget tm0 4 = some (.pointer (some ⟨b4, 0, none⟩))) (w5 : tget tm0 5 = some (.pointer (some ⟨b5, 0, none⟩))) (w8 : tget tm0 8 = some (.pointer (some ⟨b8, 0, none⟩)))
    (hA : asg = rfA (nav [1, 1, 0, 1, 2] (bdy Tryz.f13))) (hB : body = rfB (nav [1, 1, 0, 1, 2] (bdy Tryz.f13))) :
    Does Tryz.prog 69 [.func (.yield l) #[] #[], .pointer (some ⟨b1, 0, none⟩)]
      [lp l 35 tm0 #[14, 15] asg body .ready none, cl b4 3 [.int .i64 now], cl b5 3 [.int .i64 most], cl b8 22 [.slice none 0 0], vec 3 1 none 0 0 [], cl b1 24 [.pointer (some ⟨P.t, 0, none⟩)], Tx P T]
      (fun _ H' => (∃ K', H' = lp l 35 tm0 #[14, 15] asg body .ready none :: K' ∧ DuF P.t b1 b4 b5 b8 now most ((s.due now).take most) P T K')
        ∨ ∃ c K', H' = lp l 35 tm0 #[14, 15] asg body .done (some c) :: K' ∧ c = .exit 0 ∧ DuF P.t b1 b4 b5 b8 now most ((s.due now).take most) P T K') := by
  have hexp : ∀ n c, s.capAt n = some c → c.expiry ≤ 268435455 := fun n c h => (k.ok.cp n c h).expiry
  have hdue := leP_due k.rp (k.ok.size.1) hexp now
  have hTl : T.length < 10000 := by have := k.rp.len; have := k.ok.size; omega
  have hLl : (leP T).length ≤ T.length := by
    unfold leP rng
    rw [List.length_map]
    exact Nat.le_trans (List.length_filter_le _ _) (List.length_filter_le _ _)
  obtain ⟨E, hE⟩ : ∃ E, E = leP T := ⟨_, rfl⟩
  have hEo : E.Pairwise ltP := hE ▸ leP_rise k.rp.ord
  have hEm : ∀ x ∈ E, x.1 ≤ 268435455 ∧ x.2 < 4294967296 := fun x hx => by
    rw [hE] at hx
    have := (leP_mem (a := x.1) (n := x.2) k.rp.ord).1 hx
    exact ⟨this.1, this.2.1⟩
  have hids : ∀ i (h : i < E.length), (E.take i).map (·.2) ++ [E[i].2] = (E.take (i + 1)).map (·.2) := fun i h => by
    rw [List.take_succ_eq_append_getElem h, List.map_append]; rfl
  have hil : ∀ i, i ≤ E.length → ((E.take i).map (·.2)).length = i := fun i h => by rw [List.length_map, List.length_take]; omega
  have hf := leasesF_does P T l b1 (fun i => Du l 35 tm0 asg body .ready none b4 b5 b8 now most ((E.take i).map (·.2))) (fun i => Du l 35 tm0 asg body .done (some (.exit 0)) b4 b5 b8 now most ((E.take i).map (·.2)))
    (fun i => decide (now < (E.getD i (0, 0)).1) || decide (most ≤ i)) k.rp.ord k.rp.lt hTl (fun i hi => by
      have hi2 : i < E.length := hE ▸ hi
      have e0 : (leP T)[i] = E[i] := by simp only [hE]
      have e1 : E.getD i (0, 0) = E[i] := by rw [List.getD, List.getElem?_eq_getElem hi2]; rfl
      have h := du_yields P T l b4 b5 b8 now most E[i].1 E[i].2 ((E.take i).map (·.2)) tm0 asg body (by rw [hil i (by omega)]; omega) (hEm _ (List.getElem_mem hi2)).1 (hEm _ (List.getElem_mem hi2)).2 hn hm w4 w5 w8 hA hB
      rw [hids i hi2, hil i (by omega)] at h
      rw [e0, e1]
      exact h)
  rw [← hE] at hf hdue
  have hcut : ∀ j, j ≤ E.length → (∀ i, i < j → (decide (now < (E.getD i (0, 0)).1) || decide (most ≤ i)) = false) → (j = E.length ∨ (decide (now < (E.getD j (0, 0)).1) || decide (most ≤ j)) = true) → (E.take j).map (·.2) = (s.due now).take most := fun j hj h1 h2 => by
    have hc := due_cut hEo (now := now) (most := most) hj (fun i hi => by
      have h := h1 i hi
      have e1 : E.getD i (0, 0) = E[i]'(by omega) := by rw [List.getD, List.getElem?_eq_getElem (by omega)]; rfl
      rw [e1] at h
      simp only [Bool.or_eq_false_iff, decide_eq_false_iff_not] at h
      omega) (by
      rcases h2 with h2 | h2
      · exact .inl h2
      · rcases Nat.lt_or_ge j E.length with q | q
        · have e1 : E.getD j (0, 0) = E[j] := by rw [List.getD, List.getElem?_eq_getElem q]; rfl
          rw [e1] at h2
          simp only [Bool.or_eq_true, decide_eq_true_eq] at h2
          exact .inr ⟨q, h2⟩
        · exact .inl (by omega))
    rw [hc, hdue, List.map_take, due_map]
  refine does_pre (does_post hf ?_) (fun i => Inv.shuts (K := DuK l 35 tm0 asg body .ready none b4 b5 b8 now most [] (none, 0)) (hid_shuts (p := fun _ : Option Addr × Nat => True) (K := DuK l 35 tm0 asg body .ready none b4 b5 b8 now most []) (none, 0) trivial) i)
  rintro v H1 ⟨rfl, A, rfl, ⟨rfl, hst⟩ | ⟨i, hi, h1, h2, rfl⟩⟩ w0 F0 w iv
  · rw [hcut E.length (Nat.le_refl _) hst (.inl rfl)] at iv
    obtain ⟨⟨p, cap⟩, _, i2⟩ := Inv.opens (hid_opens (p := fun _ : Option Addr × Nat => True) (K := DuK l 35 tm0 asg body .ready none b4 b5 b8 now most ((s.due now).take most))) iv
    exact ⟨_, .inl ⟨_, rfl, p, cap, rfl⟩, i2⟩
  · rw [hcut i (by omega) h2 (.inr h1)] at iv
    obtain ⟨⟨p, cap⟩, _, i2⟩ := Inv.opens (hid_opens (p := fun _ : Option Addr × Nat => True) (K := DuK l 35 tm0 asg body .done (some (.exit 0)) b4 b5 b8 now most ((s.due now).take most))) iv
    exact ⟨_, .inr ⟨_, _, rfl, rfl, p, cap, rfl⟩, i2⟩
set_option maxHeartbeats 4000000 in
theorem due_does (P : TxP) (s : CS) (T : List Ent) (k : CtI P s T) (now most : Nat) (hn : now < 1000000000) (hm : most < 1000000000) : Does Tryz.prog 13 [.pointer (some ⟨P.t, 0, none⟩), .int .i64 now, .int .i64 most] [Tx P T]
    (fun v H => ∃ p cap, v = .tuple #[.slice p ((s.due now).take most).length cap, .int .i64 0] ∧ H = [vec 3 1 p ((s.due now).take most).length cap (((s.due now).take most).map encN), Tx P T]) := by
  have he := tErr_does P T
  refine does_of_m Tryz.func13 Tryz.ntmps13 rfl rfl rfl (fun w0 F0 => ?_)
  (repeat (first | refine g_seq (h := ?_) | refine g_region (h := ?_) | refine l_nil (h := ?_) | refine n_then (h := ?_) | refine l_pures1 (h := ?_) | (refine l_atc ?_; refine l_call_ (leases_does P.t) ?_; rintro _ _ _ ⟨b1, rfl, rfl⟩ he; cases he) | (refine l_box (h := ?_); intro _) | (refine l_alloc (h := ?_); intro _) | refine g_block (h := ?_)))
  rename_i b4 b5 b8
  refine g_inv (fun i => vec_nil (3) (1) i) ?_
  refine g_rangeFunc (qn := DuF P.t b1 b4 b5 b8 now most ((s.due now).take most) P T) (qx := fun c K' => c = .exit 0 ∧ DuF P.t b1 b4 b5 b8 now most ((s.due now).take most) P T K')
    (K := [cl b4 3 [.int .i64 now], cl b5 3 [.int .i64 most], cl b8 22 [.slice none 0 0], vec 3 1 none 0 0 [], cl b1 24 [.pointer (some ⟨P.t, 0, none⟩)], Tx P T]) ?_ ?_ ?_
  · intro l
    exact due_hs P s T k l b1 b4 b5 b8 now most hn hm _ _ _ rfl rfl rfl (by rfl) (by rfl)
  · rintro D0 K' ⟨p, cap, rfl⟩
    dsimp only [List.cons_append, List.nil_append]
    (repeat' (first | refine g_seq (h := ?_) | refine g_region (h := ?_) | refine l_nil (h := ?_) | refine n_then (h := ?_) | refine l_pures1 (h := ?_) | (refine l_atc ?_; refine l_call (he) ?_) | refine l_load (h := ?_) | refine g_skip (h := ?_) | refine g_ret (h := ?_) | refine n_block (h := ?_) | refine g_cond_f (h := ?_)))
    refine r_retM [vec 3 1 p ((s.due now).take most).length cap (((s.due now).take most).map encN), Tx P T] ?_
    exact ⟨p, cap, rfl, rfl⟩
  · rintro D0 c K' ⟨rfl, p, cap, rfl⟩
    dsimp only [List.cons_append, List.nil_append]
    (repeat' (first | refine g_seq (h := ?_) | refine g_region (h := ?_) | refine l_nil (h := ?_) | refine n_then (h := ?_) | refine l_pures1 (h := ?_) | (refine l_atc ?_; refine l_call (he) ?_) | refine l_load (h := ?_) | refine g_skip (h := ?_) | refine g_ret (h := ?_) | refine g_exit (h := ?_) | refine n_block_hit (h := ?_) | refine g_cond_f (h := ?_)))
    refine r_retM [vec 3 1 p ((s.due now).take most).length cap (((s.due now).take most).map encN), Tx P T] ?_
    exact ⟨p, cap, rfl, rfl⟩
theorem cDue_does (P : TxP) (s : CS) (now most : Nat) (hn : now < 1000000000) (hm : most < 1000000000) : Does Tryz.prog 13 [.pointer (some ⟨P.t, 0, none⟩), .int .i64 now, .int .i64 most] [Ct P s]
    (fun v H => ∃ p cap, v = .tuple #[.slice p ((s.due now).take most).length cap, .int .i64 0] ∧ H = [Ct P s, vec 3 1 p ((s.due now).take most).length cap (((s.due now).take most).map encN)]) := by
  refine does_opens (H := []) (p := CtI P s) (K := CtK P s) hid_opens fun T k => does_post (due_does P s T k now most hn hm) ?_
  rintro v H1 ⟨p, cap, rfl, rfl⟩ w0 F0 w i
  have i2 : SL.Inv w0 F0 ([Tx P T] ++ [vec 3 1 p ((s.due now).take most).length cap (((s.due now).take most).map encN)]) w := (i.parts (K := [Tx P T, vec 3 1 p ((s.due now).take most).length cap (((s.due now).take most).map encN)]) parts_of).drop
  exact ⟨[Ct P s, vec 3 1 p ((s.due now).take most).length cap (((s.due now).take most).map encN)], ⟨p, cap, rfl, rfl⟩, Inv.shuts (K := CtK P s T) (hid_shuts (p := CtI P s) (K := CtK P s) T k) i2⟩
theorem encN_get {D : List Nat} {q : Nat} (h : q < D.length) : (D.map encN)[0 + ((q : Nat) : Int).toNat * 1]? = some (.int .i64 (D[q] : Nat)) := by
  rw [Int.toNat_natCast, Nat.zero_add, Nat.mul_one, List.getElem?_map, List.getElem?_eq_getElem h]; rfl
end Go.Proofs.YthmdianikbimfaaGreat
set_option maxRecDepth 20000
namespace Go.Proofs.YthmdianikbimfaaGreat
open Go.Proofs.YthmdianikbimfaaGreat.SL
theorem pick16_does (c : Int) (n : Nat) (hc : -9223372036854775808 ≤ c ∧ c < 9223372036854775808) (hn : 0 < n ∧ n < 1000000) : Does Tryz.prog 10 [.int .i64 c, .int .i64 n] [] (fun v H => v = .int .i64 (pkN c n : Nat) ∧ H = []) := by
  have key : ∀ x : Int, 0 ≤ x → x.tmod (n : Int) = ((x.toNat % n : Nat) : Int) := fun x hx => by
    obtain ⟨m, rfl⟩ := Int.eq_ofNat_of_zero_le hx
    rw [Int.tmod_eq_emod_of_nonneg hx, Int.toNat_natCast]; rfl
  have hlt := pkN_lt c hn.1
  by_cases q : c < 0
  · have e1 : IntKind.i64.wrap (c + 1) = c + 1 := wrapI64 (by omega)
    have e2 : IntKind.i64.wrap (-(IntKind.i64.wrap (c + 1))) = -(c + 1) := by rw [e1, wrapI64 (by omega)]
    have e3 : IntKind.i64.wrap (0 - (IntKind.i64.wrap (c + 1))) = -(c + 1) := by rw [e1, wrapI64 (by omega)]; omega
    have e4 : (pkN c n : Int) = (-(c + 1)).tmod n := by rw [key _ (by omega)]; unfold pkN; rw [if_pos q]
    refine does_of Tryz.func10 Tryz.ntmps10 rfl rfl rfl (fun w0 F0 => ?_)
    (repeat' (first | refine g_seq (h := ?_) | refine g_region (h := ?_) | refine l_nil (h := ?_) | refine n_then (h := ?_) | refine l_pures1 (h := ?_) | refine l_rem (h := ?_) | refine g_ret (h := ?_) | (refine g_spT (h := ?_); intro h)))
    refine r_retk [] ?_
    refine ⟨?_, rfl⟩
    show Value.int _ _ = _
    first | rw [e2, e4] | rw [e3, e4]
    try rw [wrapI64 (by omega)]
  · have e4 : (pkN c n : Int) = c.tmod n := by rw [key _ (by omega)]; unfold pkN; rw [if_neg q]
    refine does_of Tryz.func10 Tryz.ntmps10 rfl rfl rfl (fun w0 F0 => ?_)
    (repeat' (first | refine g_seq (h := ?_) | refine g_region (h := ?_) | refine l_nil (h := ?_) | refine n_then (h := ?_) | refine l_pures1 (h := ?_) | refine l_rem (h := ?_) | refine g_skip (h := ?_) | refine g_ret (h := ?_) | (refine g_spF (h := ?_); intro h)))
    refine r_retk [] ?_
    refine ⟨?_, rfl⟩
    show Value.int _ _ = _
    rw [e4]
    try rw [wrapI64 (by omega)]
theorem late_any (now : Nat) : ∀ (l : List (Nat × Cp)), l.any (fun e => late now e.2) = decide (0 < endsL l ∧ endsL l ≤ now)
  | [] => by simp [endsL]
  | e :: l => by
    rw [List.any_cons, late_any now l, endsL_cons]
    unfold late lmin
    by_cases h1 : e.2.expiry = 0
    · simp [h1]
    · have h2 : 0 < e.2.expiry := by omega
      by_cases h3 : endsL l = 0
      · simp [h1, h2, h3]
      · have h4 : 0 < endsL l := by omega
        simp only [h1, h2, h3, h4, if_false, decide_true, Bool.true_and, true_and]
        by_cases h5 : e.2.expiry ≤ now <;> by_cases h6 : endsL l ≤ now <;> simp [h5, h6] <;> omega
theorem state_clean {s : CS} (ok : s.ok) (cl : s.clean) {n : Nat} {c : Cp} (h : s.capAt n = some c) (now : Nat) : s.state n now = if 0 < endsL (s.up 9 n) ∧ endsL (s.up 9 n) ≤ now then 11 else 0 := by
  unfold CS.state
  rw [if_neg (by rw [h]; simp), bad_clean ok cl 9 n none (fun _ e => by cases e), if_neg (by simp), late_any]
  simp only [decide_eq_true_eq]
end Go.Proofs.YthmdianikbimfaaGreat
set_option maxRecDepth 20000
namespace Go.Proofs.YthmdianikbimfaaGreat
open Go.Proofs.YthmdianikbimfaaGreat.SL
def bKey (ks zs : List Int) (q : Nat) : Nat := if q < zs.length then 1 + pkN (zs.getD q 0) 50 else 1 + pkN (ks.getD q 0) 50
def kyE (ks zs : List Int) (i : Nat) : List (Nat × Bool) := (List.range i).map fun q => (bKey ks zs q, true)
theorem bKey_bd (ks zs : List Int) (q : Nat) : 1 ≤ bKey ks zs q ∧ bKey ks zs q ≤ 50 := by
  have h1 := pkN_lt (zs.getD q 0) (n := 50) (by omega)
  have h2 := pkN_lt (ks.getD q 0) (n := 50) (by omega)
  unfold bKey
  split <;> omega
theorem kyE_len (ks zs : List Int) (i : Nat) : (kyE ks zs i).length = i := by simp [kyE]
theorem kyE_succ (ks zs : List Int) (i : Nat) : kyE ks zs i ++ [(bKey ks zs i, true)] = kyE ks zs (i + 1) := by simp [kyE, List.range_succ]
theorem kyE_set (ks zs : List Int) (i a b : Nat) : (kyE ks zs i ++ [(a, true)]).set i (b, true) = kyE ks zs i ++ [(b, true)] := by
  rw [List.set_append, if_neg (by rw [kyE_len]; omega), kyE_len]
  simp
theorem kyE_get {ks zs : List Int} {i q : Nat} (h : q < i) : (kyE ks zs i)[q]? = some (bKey ks zs q, true) := by simp [kyE, h]
theorem kyE_ok {ks zs : List Int} {i : Nat} (h : i ≤ 50) : MOk 50 (kyE ks zs i) :=
  ⟨by rw [kyE_len]; omega, by omega, fun e he => by
    obtain ⟨q, _, rfl⟩ := List.mem_map.1 he
    have := bKey_bd ks zs q
    show bKey ks zs q ≤ 268435455
    omega⟩
theorem key_count (ks zs : List Int) {i : Nat} (hi : i < 12) (now : Nat) : (((mS 50 (kyE ks zs (i + 1))).due now).take 100).count (i + 1) = if bKey ks zs i ≤ now then 1 else 0 := by
  have hl := due_len (s := mS 50 (kyE ks zs (i + 1))) (now := now)
  rw [mS_len, kyE_len] at hl
  rw [List.take_of_length_le (by omega), (due_nodup now).count]
  have hm : i + 1 ∈ (mS 50 (kyE ks zs (i + 1))).due now ↔ bKey ks zs i ≤ now := by
    rw [due_mem]
    have hb := bKey_bd ks zs i
    constructor
    · rintro ⟨a, h1, h2⟩
      obtain ⟨_, _, h3⟩ := (mS_lease _ _ _ _).1 h2
      rw [Nat.add_sub_cancel, kyE_get (by omega)] at h3
      simp at h3
      omega
    · intro h
      refine ⟨bKey ks zs i, h, (mS_lease _ _ _ _).2 ⟨by omega, by omega, ?_⟩⟩
      rw [Nat.add_sub_cancel, kyE_get (by omega)]
  by_cases q : bKey ks zs i ≤ now
  · rw [if_pos q, if_pos (hm.2 q)]
  · rw [if_neg q, if_neg (fun h => q (hm.1 h))]
theorem count_succ {D : List Nat} {q n : Nat} (h : q < D.length) : (D.take (q + 1)).count n = (D.take q).count n + if D[q] = n then 1 else 0 := by
  rw [List.take_succ_eq_append_getElem h, List.count_append, List.count_singleton]
  simp
abbrev kyT (t i b : Nat) (S1 S2 : Value) : List (Nat × Value) := [(12, .int .i64 (i + 1 : Nat)), (11, .int .i64 b), (9, .int .i64 i), (8, .int .i64 0), (6, .pointer (some ⟨t, 0, none⟩)), (5, .bool true), (0, S1), (1, S2)]
set_option maxHeartbeats 4000000 in
theorem keys_now (t sb db i b : Nat) (s : CS) (A : SProp) (S1 S2 : Value) (hi : i < 12) (hb : b ≤ 50) (hcnt : ∀ now, ((s.due now).take 100).count (i + 1) = if b ≤ now then 1 else 0) (w0 : World) (F0 : Nat → Prop) (Q : Exit → Act → World → Prop) (hc : SL.Calm Q)
    (hq : N 113 w0 F0 .normal Q (kyT t i b S1 S2) [] [Ct (TxP.new t sb db 640) s, A]) :
    G Tryz.prog 113 w0 F0 (nav [1, 1, 1, 1, 1, 1, 0, 1, 2, 2, 1, 0, 2, 1, 1, 1, 1, 1] (bdy Tryz.f3)) Q (kyT t i b S1 S2) [] [Ct (TxP.new t sb db 640) s, A] := by
  obtain ⟨c, hc⟩ : ∃ c, c = nav [1, 1, 1, 1, 1, 1, 0, 1, 2, 2, 1, 0, 2, 1, 1, 1, 1, 1] (bdy Tryz.f3) := ⟨_, rfl⟩
  rw [← hc]
  dsimp only [nav, bdy, Tryz.f3, Option.getD] at hc
  subst hc
  (repeat (first | refine g_seq (h := ?_) | refine g_region (h := ?_) | refine l_nil (h := ?_) | refine n_then (h := ?_) | refine l_pures1 (h := ?_) | refine g_block (h := ?_)))
  (refine g_loop (fun now : Nat => (14, .int .i64 now) :: kyT t i b S1 S2) (fun now => [Ct (TxP.new t sb db 640) s, A]) (fun now => now ≤ 52) (fun now => 52 - now) (0) ?_ ?_ ?_ ?_; rotate_left; (repeat (first | refine ts_nil | (refine ts_cons rfl ?_ ?_; first | (with_reducible rfl) | rotate_left))); (first | (intro _ i; with_reducible refine i) | rotate_left); rotate_left; (try omega); rotate_right)
  · intro now hn
    by_cases hn51 : now ≤ 51
    · have hD := cDue_does (TxP.new t sb db 640) s now 100 (by omega) (by omega)
      have hc := hcnt now
      obtain ⟨D, hDe⟩ : ∃ D, D = (s.due now).take 100 := ⟨_, rfl⟩
      rw [← hDe] at hD hc
      have hD : Does Tryz.prog 13 [.pointer (some ⟨t, 0, none⟩), .int .i64 now, .int .i64 100] [Ct (TxP.new t sb db 640) s] (fun v H => ∃ p cap, v = .tuple #[.slice p D.length cap, .int .i64 0] ∧ H = [Ct (TxP.new t sb db 640) s, vec 3 1 p D.length cap (D.map encN)]) := hD
      have hDl : D.length ≤ 100 := by rw [hDe, List.length_take]; omega
      (repeat' (first | refine g_seq (h := ?_) | refine g_region (h := ?_) | refine l_nil (h := ?_) | refine n_then (h := ?_) | refine l_pures1 (h := ?_) | (refine l_atc ?_; refine l_call_ (hD) ?_; rintro _ _ _ ⟨pD, cD, rfl, rfl⟩ he; cases he) | refine g_skip (h := ?_) | refine g_block (h := ?_) | (refine g_spT (h := ?_); intro h)))
      (refine g_loop (fun q : Nat => (18, .int .i64 q) :: (17, .int .i64 ((D.take q).count (i + 1) : Nat)) :: (16, .int .i64 0) :: (15, .slice pD D.length cD) :: (14, .int .i64 now) :: kyT t i b S1 S2) (fun q => [Ct (TxP.new t sb db 640) s, vec 3 1 pD D.length cD (D.map encN), A]) (fun q => q ≤ D.length) (fun q => D.length - q) (0) ?_ ?_ ?_ ?_; rotate_left; (repeat (first | refine ts_nil | (refine ts_cons rfl ?_ ?_; first | (with_reducible rfl) | rotate_left))); (first | (intro _ i; with_reducible refine i) | rotate_left); rotate_left; (try omega); rotate_right)
      · intro q hq
        by_cases hql : q < D.length
        · refine g_ptr (m := D.length) (p := pD) (h := ?_); rintro ga rfl hca
          have hg := encN_get hql
          have hsu := count_succ (n := i + 1) hql
          have hle : (D.take q).count (i + 1) ≤ q := Nat.le_trans List.count_le_length (List.length_take_le _ _)
          obtain ⟨x, hx⟩ : ∃ x, x = D[q] := ⟨_, rfl⟩
          obtain ⟨c0, hc0⟩ : ∃ c0, c0 = (D.take q).count (i + 1) := ⟨_, rfl⟩
          rw [← hx] at hg hsu
          rw [← hc0] at hsu hle
          rw [← hc0]
          by_cases hxi : x = i + 1
          · rw [if_pos hxi] at hsu
            (repeat' (first | refine g_seq (h := ?_) | refine g_region (h := ?_) | refine l_nil (h := ?_) | refine n_then (h := ?_) | refine l_pures1 (h := ?_) | refine l_indexAddr (h := ?_) | refine g_skip (h := ?_) | refine g_block (h := ?_) | refine n_block (h := ?_) | refine l_load_vec (h := ?_) | (refine g_spT (h := ?_); intro h)))
            (refine n_back (q + 1) ?_ ?_ ?_ ?_; rotate_left; rotate_left; (repeat (first | refine ts_nil | (refine ts_cons rfl ?_ ?_; first | (with_reducible rfl) | rotate_left))); (first | (intro _ i; with_reducible refine i) | rotate_left); (try omega); (try omega))
            all_goals first
              | omega
              | (dsimp only; omega)
              | (rw [hsu, wrapI64 (by omega)]; rfl)
              | (rw [wrapI64 (by omega)]; rfl)
              | (intro _ i; exact inv_keep parts_of i)
              | rfl
          · rw [if_neg hxi] at hsu
            (repeat' (first | refine g_seq (h := ?_) | refine g_region (h := ?_) | refine l_nil (h := ?_) | refine n_then (h := ?_) | refine l_pures1 (h := ?_) | refine l_indexAddr (h := ?_) | refine g_skip (h := ?_) | refine g_block (h := ?_) | refine n_block (h := ?_) | refine l_load_vec (h := ?_) | (refine g_spT (h := ?_); intro h) | (refine g_spF (h := ?_); intro h)))
            (refine n_back (q + 1) ?_ ?_ ?_ ?_; rotate_left; rotate_left; (repeat (first | refine ts_nil | (refine ts_cons rfl ?_ ?_; first | (with_reducible rfl) | rotate_left))); (first | (intro _ i; with_reducible refine i) | rotate_left); (try omega); (try omega))
            all_goals first
              | omega
              | (dsimp only; omega)
              | (rw [hsu]; rfl)
              | (rw [wrapI64 (by omega)]; rfl)
              | (intro _ i; exact inv_keep parts_of i)
              | rfl
        · obtain rfl : q = D.length := by omega
          rw [List.take_length, hc]
          have ed : decide (((D.length : Nat) : Int) < (D.length : Nat)) = false := by simp
          by_cases hbn : b ≤ now
          · rw [if_pos hbn]
            have hx : (!((((1 : Nat) : Int) == 1) == decide ((now : Int) ≥ (b : Int)))) = false := by
              have : decide ((now : Int) ≥ (b : Int)) = true := by rw [decide_eq_true_iff]; omega
              rw [this]; rfl
            (repeat (first | refine g_seq (h := ?_) | refine g_region (h := ?_) | refine l_nil (h := ?_) | refine n_then (h := ?_) | refine l_pures1 (h := ?_)))
            rw [ed]
            (repeat (first | refine g_seq (h := ?_) | refine g_region (h := ?_) | refine n_then (h := ?_) | refine l_pures1 (h := ?_) | refine l_guard_yes (h := ?_) | refine g_exit (h := ?_) | refine n_then_exit (h := ?_) | refine n_block_hit (h := ?_) | refine g_cond_f (h := ?_)))
            rw [hx]
            (repeat (first | refine g_region (h := ?_) | refine l_nil (h := ?_) | refine n_then (h := ?_) | refine l_pures1 (h := ?_) | refine l_guard_yes (h := ?_) | refine g_skip (h := ?_) | refine n_block (h := ?_) | refine g_cond_f (h := ?_)))
            (refine n_back (now + 1) ?_ ?_ ?_ ?_; rotate_left; rotate_left; (repeat (first | refine ts_nil | (refine ts_cons rfl ?_ ?_; first | (with_reducible rfl) | rotate_left))); (first | (intro _ i; with_reducible refine i) | rotate_left); (try omega); (try omega))
            all_goals first
              | omega
              | (dsimp only; omega)
              | (rw [wrapI64 (by omega)]; rfl)
              | (intro _ i; exact inv_keep parts_of i)
              | rfl
          · rw [if_neg hbn]
            have hx : (!((((0 : Nat) : Int) == 1) == decide ((now : Int) ≥ (b : Int)))) = false := by
              have : decide ((now : Int) ≥ (b : Int)) = false := by rw [decide_eq_false_iff_not]; omega
              rw [this]; rfl
            (repeat (first | refine g_seq (h := ?_) | refine g_region (h := ?_) | refine l_nil (h := ?_) | refine n_then (h := ?_) | refine l_pures1 (h := ?_)))
            rw [ed]
            (repeat (first | refine g_seq (h := ?_) | refine g_region (h := ?_) | refine n_then (h := ?_) | refine l_pures1 (h := ?_) | refine l_guard_yes (h := ?_) | refine g_exit (h := ?_) | refine n_then_exit (h := ?_) | refine n_block_hit (h := ?_) | refine g_cond_f (h := ?_)))
            rw [hx]
            (repeat (first | refine g_region (h := ?_) | refine l_nil (h := ?_) | refine n_then (h := ?_) | refine l_pures1 (h := ?_) | refine l_guard_yes (h := ?_) | refine g_skip (h := ?_) | refine n_block (h := ?_) | refine g_cond_f (h := ?_)))
            (refine n_back (now + 1) ?_ ?_ ?_ ?_; rotate_left; rotate_left; (repeat (first | refine ts_nil | (refine ts_cons rfl ?_ ?_; first | (with_reducible rfl) | rotate_left))); (first | (intro _ i; with_reducible refine i) | rotate_left); (try omega); (try omega))
            all_goals first
              | omega
              | (dsimp only; omega)
              | (rw [wrapI64 (by omega)]; rfl)
              | (intro _ i; exact inv_keep parts_of i)
              | rfl
      all_goals first
        | exact Nat.zero_le _
        | rfl
        | (intro _ i; exact inv_keep parts_of i)
    · (repeat' (first | refine g_seq (h := ?_) | refine g_region (h := ?_) | refine l_nil (h := ?_) | refine n_then (h := ?_) | refine l_pures1 (h := ?_) | refine g_exit (h := ?_) | refine n_then_exit (h := ?_) | refine n_block_hit (h := ?_) | (refine g_spF (h := ?_); intro h)))
      exact n_bang hq
  all_goals first
    | exact Nat.zero_le _
    | rfl
    | (intro _ i; exact inv_keep parts_of i)
set_option maxHeartbeats 8000000 in
theorem LeaseKeys_does (A R1 R2 : SProp) (p1 p2 : Option Addr) (ks zs : List Int) (cap1 cap2 : Nat) (o1 o2 : Obj) (hk : ∀ z ∈ ks, (Lit.int .i64 z).wf = true) (hz : ∀ z ∈ zs, (Lit.int .i64 z).wf = true) (hl : ks.length ≤ 9223372036854775807) (hlz : zs.length ≤ 9223372036854775807)
    (op1 : Opens A (fun _ : Unit => True) (fun _ => [ins p1 ks.length (ks.map encZ') o1, R1])) (sh1 : Shuts [ins p1 ks.length (ks.map encZ') o1, R1] A)
    (op2 : Opens A (fun _ : Unit => True) (fun _ => [ins p2 zs.length (zs.map encZ') o2, R2])) (sh2 : Shuts [ins p2 zs.length (zs.map encZ') o2, R2] A) :
    Does Tryz.prog 3 [.slice p1 ks.length cap1, .slice p2 zs.length cap2] [A] (fun v H => v = .bool true ∧ H = [A]) := by
  refine does_of Tryz.func3 Tryz.ntmps3 rfl rfl rfl (fun w0 F0 => ?_)
  (repeat (first | refine g_seq (h := ?_) | refine g_region (h := ?_) | refine l_nil (h := ?_) | refine n_then (h := ?_) | refine l_pures1 (h := ?_) | (refine l_atc ?_; refine l_call (examples16_does) ?_) | (refine l_atc ?_; refine l_call_ (made16c_does) ?_; rintro _ _ _ ⟨t, db, sb, rfl, rfl⟩ he; cases he) | refine g_skip (h := ?_) | refine g_cond_f (h := ?_)))
  have h1 := mReg_does t sb db 50 (by omega)
  have h1 : Does Tryz.prog 9 [.pointer (some ⟨t, 0, none⟩), .string { data := #[120] }, .int .i64 50] [Ct (TxP.new t sb db 640) CS.z] (fun v H => v = .tuple #[.int .i64 1, .int .i64 0] ∧ H = [Ct (TxP.new t sb db 640) (mS 50 (kyE ks zs 0))]) := h1
  (repeat' (first | refine g_seq (h := ?_) | refine g_region (h := ?_) | refine l_nil (h := ?_) | refine n_then (h := ?_) | refine l_pures1 (h := ?_) | (refine l_atc ?_; refine l_call (h1) ?_) | refine g_block (h := ?_)))
  clear h1
  (refine g_loop (fun i : Nat => [(9, .int .i64 i), (8, .int .i64 0), (6, .pointer (some ⟨t, 0, none⟩)), (5, .bool true), (0, .slice p1 ks.length cap1), (1, .slice p2 zs.length cap2)]) (fun i => [Ct (TxP.new t sb db 640) (mS 50 (kyE ks zs i)), A]) (fun i => i ≤ ks.length ∧ i ≤ 12) (fun i => 12 - i) (0) ?_ ?_ ?_ ?_; rotate_left; (repeat (first | refine ts_nil | (refine ts_cons rfl ?_ ?_; first | (with_reducible rfl) | rotate_left))); (first | (intro _ i; with_reducible refine i) | rotate_left); rotate_left; (try omega); rotate_right)
  · rintro i ⟨hi, hi12⟩
    by_cases hil : i < ks.length ∧ i < 12
    · refine g_inv (fun i => open2 op1 (i.take (A := A) (by with_reducible (repeat (first | refine Take.here | apply Take.there))))) ?_
      refine g_open (o := ins_opens (p := p1) (m := ks.length) (by omega)) (h := ?_); (rintro ⟨gb, off, row, fr, T0⟩ ⟨rfl, rfl, v5, v6, v7⟩; dsimp only [List.cons_append, List.nil_append])
      have hgt : row[off + i * 1]? = some (encZ' (ks.getD i 0)) := ins_get v5 hil.1 (by rw [List.getElem?_map, List.getD, List.getElem?_eq_getElem hil.1]; rfl)
      have hw := wf_i64 (hk _ (getD_mem hil.1 (z := 0)))
      obtain ⟨z, hze⟩ : ∃ z, z = ks.getD i 0 := ⟨_, rfl⟩
      rw [← hze] at hgt hw
      have hgt : row[off + i * 1]? = some (.int .i64 z) := hgt
      have hpk : Does Tryz.prog 10 [.int .i64 z, .int .i64 50] [] (fun v H => v = .int .i64 (pkN z 50 : Nat) ∧ H = []) := pick16_does z 50 hw (by omega)
      have hkl := pkN_lt z (n := 50) (by omega)
      obtain ⟨a, ha⟩ : ∃ a, a = 1 + pkN z 50 := ⟨_, rfl⟩
      have ewa : IntKind.i64.wrap (1 + ((pkN z 50 : Nat) : Int)) = (a : Int) := by rw [wrapI64 (by omega)]; omega
      obtain ⟨es, hes⟩ : ∃ es, es = kyE ks zs i := ⟨_, rfl⟩
      have hlen : es.length = i := by rw [hes, kyE_len]
      have hM : Does Tryz.prog 11 [.pointer (some ⟨t, 0, none⟩), .int .i64 1, .int .i64 1, .int .i64 1, .int .i64 0, .int .i64 a] [Ct (TxP.new t sb db 640) (mS 50 es)] (fun v H => v = .tuple #[.int .i64 (i + 1 : Nat), .int .i64 0] ∧ H = [Ct (TxP.new t sb db 640) (mS 50 (es ++ [(a, true)]))]) := by
        have h := mMint_does t sb db 50 es a (by omega) (by omega) (by omega)
        rw [hlen] at h
        exact h
      rw [← hes]
      (repeat' (first | refine g_seq (h := ?_) | refine g_region (h := ?_) | refine l_nil (h := ?_) | refine n_then (h := ?_) | refine l_pures1 (h := ?_) | (refine l_atc ?_; refine l_call (hpk) ?_) | refine l_guard_yes (h := ?_) | refine l_load_p (h := ?_) | refine l_indexAddr (h := ?_) | refine g_skip (h := ?_) | refine g_block (h := ?_) | (refine l_spT (h := ?_); intro h) | (refine g_spT (h := ?_); intro h)))
      rw [ewa]
      refine l_shut (ins_shuts v5 v6 v7) (h := ?_)
      refine l_inv (fun i => shut2 sh1 ((i.take (A := R1) (by with_reducible (repeat (first | refine Take.here | apply Take.there)))).take (A := ins (some ⟨gb, off, none⟩) ks.length (ks.map encZ') (.cells row.toArray T0 fr)) (Take.there (by with_reducible (repeat (first | refine Take.here | apply Take.there)))))) ?_
      by_cases hiz : i < zs.length
      · have hb : bKey ks zs i = 1 + pkN (zs.getD i 0) 50 := by unfold bKey; rw [if_pos hiz]
        have hw2 := wf_i64 (hz _ (getD_mem hiz (z := 0)))
        obtain ⟨y, hy⟩ : ∃ y, y = zs.getD i 0 := ⟨_, rfl⟩
        have hpk2 : Does Tryz.prog 10 [.int .i64 y, .int .i64 50] [] (fun v H => v = .int .i64 (pkN y 50 : Nat) ∧ H = []) := pick16_does y 50 (by rw [hy]; exact hw2) (by omega)
        have hkl2 := pkN_lt y (n := 50) (by omega)
        obtain ⟨b, hbe⟩ : ∃ b, b = 1 + pkN y 50 := ⟨_, rfl⟩
        have ewb : IntKind.i64.wrap (1 + ((pkN y 50 : Nat) : Int)) = (b : Int) := by rw [wrapI64 (by omega)]; omega
        have hbb : bKey ks zs i = b := by rw [hb, hbe, hy]
        have hse : (es ++ [(a, true)]).set i (b, true) = kyE ks zs (i + 1) := by rw [hes, kyE_set, ← hbb, kyE_succ]
        have hR : Does Tryz.prog 12 [.pointer (some ⟨t, 0, none⟩), .int .i64 (i + 1 : Nat), .int .i64 b, .int .i64 0] [Ct (TxP.new t sb db 640) (mS 50 (es ++ [(a, true)]))] (fun v H => v = .int .i64 0 ∧ H = [Ct (TxP.new t sb db 640) (mS 50 (kyE ks zs (i + 1)))]) := by
          have h := mRenew_does t sb db 50 (es ++ [(a, true)]) (by rw [hes]; exact mok_add (kyE_ok (by omega)) (by rw [kyE_len]; omega) (by show a ≤ 268435455; omega)) (by simp; omega) i b (a, true) (by rw [← hlen]; simp) (by omega)
          rw [hse] at h
          exact h
        have hcnt := fun now => key_count ks zs (i := i) hil.2 now
        rw [hbb] at hcnt
        obtain ⟨s1, hs1⟩ : ∃ s1, s1 = mS 50 (kyE ks zs (i + 1)) := ⟨_, rfl⟩
        rw [← hs1] at hR hcnt
        (repeat' (first | refine g_seq (h := ?_) | refine g_region (h := ?_) | refine l_nil (h := ?_) | refine n_then (h := ?_) | refine l_pures1 (h := ?_) | (refine l_atc ?_; refine l_call (hM) ?_) | refine g_skip (h := ?_) | refine g_cond_f (h := ?_) | (refine g_spT (h := ?_); intro h)))
        refine l_inv (fun i => open2 op2 (i.take (A := A) (by with_reducible (repeat (first | refine Take.here | apply Take.there))))) ?_
        refine l_open (o := ins_opens (p := p2) (m := zs.length) (by omega)) (h := ?_); (rintro ⟨gb2, off2, row2, fr2, T2⟩ ⟨rfl, rfl, u5, u6, u7⟩; dsimp only [List.cons_append, List.nil_append])
        have hgt2 : row2[off2 + i * 1]? = some (encZ' (zs.getD i 0)) := ins_get u5 hiz (by rw [List.getElem?_map, List.getD, List.getElem?_eq_getElem hiz]; rfl)
        rw [← hy] at hgt2
        have hgt2 : row2[off2 + i * 1]? = some (.int .i64 y) := hgt2
        (repeat' (first | refine g_seq (h := ?_) | refine g_region (h := ?_) | refine l_nil (h := ?_) | refine n_then (h := ?_) | refine l_pures1 (h := ?_) | (refine l_atc ?_; refine l_call (hpk2) ?_) | refine l_load_p (h := ?_) | refine l_indexAddr (h := ?_)))
        rw [ewb]
        refine l_shut (ins_shuts u5 u6 u7) (h := ?_)
        refine l_inv (fun i => shut2 sh2 ((i.take (A := R2) (by with_reducible (repeat (first | refine Take.here | apply Take.there)))).take (A := ins (some ⟨gb2, off2, none⟩) zs.length (zs.map encZ') (.cells row2.toArray T2 fr2)) (Take.there (by with_reducible (repeat (first | refine Take.here | apply Take.there)))))) ?_
        (repeat' (first | ((with_reducible show G _ _ _ _ (Code.seq (Code.region 20 _ _) _) _ _ _ _); refine g_bang (keys_now t sb db i b s1 A (.slice (some ⟨gb, off, none⟩) ks.length cap1) (.slice (some ⟨gb2, off2, none⟩) zs.length cap2) hil.2 (by omega) hcnt w0 F0 _ (by with_reducible (repeat (first | refine calm_post | apply calm_then | apply calm_block))) ?_)) | refine g_region (h := ?_) | refine l_nil (h := ?_) | refine n_then (h := ?_) | refine l_pures1 (h := ?_) | (refine l_atc ?_; refine l_call (hR) ?_) | refine g_skip (h := ?_) | refine n_block (h := ?_) | refine g_cond_f (h := ?_)))
        (repeat fail)
        (refine n_back (i + 1) ?_ ?_ ?_ ?_; rotate_left; rotate_left; (repeat (first | refine ts_nil | (refine ts_cons rfl ?_ ?_; first | (with_reducible rfl) | rotate_left))); (first | (intro _ i; with_reducible refine i) | rotate_left); (try omega); (try omega))
        all_goals first
          | exact hil
          | omega
          | (dsimp only; omega)
          | (rw [wrapI64 (by omega)]; rfl)
          | (intro _ i; rw [← hs1]; exact inv_keep parts_of i)
          | rfl
      · have hb : bKey ks zs i = a := by unfold bKey; rw [if_neg hiz, ha, hze]
        have hse : es ++ [(a, true)] = kyE ks zs (i + 1) := by rw [hes, ← hb, kyE_succ]
        have hcnt := fun now => key_count ks zs (i := i) hil.2 now
        rw [hb] at hcnt
        obtain ⟨s1, hs1⟩ : ∃ s1, s1 = mS 50 (kyE ks zs (i + 1)) := ⟨_, rfl⟩
        rw [← hs1] at hcnt
        rw [hse, ← hs1] at hM
        (repeat' (first | ((with_reducible show G _ _ _ _ (Code.seq (Code.region 20 _ _) _) _ _ _ _); refine g_bang (keys_now t sb db i a s1 A (.slice (some ⟨gb, off, none⟩) ks.length cap1) (.slice p2 zs.length cap2) hil.2 (by omega) hcnt w0 F0 _ (by with_reducible (repeat (first | refine calm_post | apply calm_then | apply calm_block))) ?_)) | refine g_seq (h := ?_) | refine g_region (h := ?_) | refine l_nil (h := ?_) | refine n_then (h := ?_) | refine l_pures1 (h := ?_) | (refine l_atc ?_; refine l_call (hM) ?_) | refine g_skip (h := ?_) | refine n_block (h := ?_) | refine g_cond_f (h := ?_) | (refine g_spF (h := ?_); intro h)))
        (repeat fail)
        (refine n_back (i + 1) ?_ ?_ ?_ ?_; rotate_left; rotate_left; (repeat (first | refine ts_nil | (refine ts_cons rfl ?_ ?_; first | (with_reducible rfl) | rotate_left))); (first | (intro _ i; with_reducible refine i) | rotate_left); (try omega); (try omega))
        all_goals first
          | exact hil
          | omega
          | (dsimp only; omega)
          | (rw [wrapI64 (by omega)]; rfl)
          | (intro _ i; rw [← hs1]; exact inv_keep parts_of i)
          | rfl
    · (repeat' (first | refine g_seq (h := ?_) | refine g_region (h := ?_) | refine l_nil (h := ?_) | refine n_then (h := ?_) | refine l_pures1 (h := ?_) | refine l_guard_yes (h := ?_) | refine l_guard_no (h := ?_) | refine g_ret (h := ?_) | refine g_exit (h := ?_) | refine n_then_exit (h := ?_) | refine n_block_hit (h := ?_) | refine g_cond_f (h := ?_) | (refine l_sp (h1 := ?_) (h0 := ?_) <;> intro h) | (refine g_spF (h := ?_); intro h)))
      all_goals
        refine r_retk [A] ?_
      all_goals exact ⟨rfl, rfl⟩
  all_goals first
    | exact ⟨Nat.zero_le _, Nat.zero_le _⟩
    | rfl
    | (intro _ i; exact inv_keep parts_of i)
end Go.Proofs.YthmdianikbimfaaGreat
namespace Go.Proofs.YthmdianikbimfaaGreat.SL
open Go.RowKit Go.WideElems
def Keeps (A : SProp) (W : World) (F : Nat → Prop) : Prop := ∀ h' F', A.holds h' F' → ∀ b, F b → h'[b]? = W.heap[b]?
theorem row_ofA {P : Program} {f : FuncId} {args : List Value} {A : SProp} {W : World} {F : Nat → Prop} (d : Does P f args [A] (fun v H => v = .bool true ∧ H = [A])) (hx : Keeps A W F) (s : A.holds W.heap F) :
    Calls P f args.toArray W fun e W' => e = .returned (.bool true) ∧ Go.RowKit.Below W.heap.size W W' := by
  refine (d W F ⟨F, fun _ => False, s, fun _ h => h, fun _ _ h => h, fun b => ⟨.inl, fun o => o.elim id False.elim⟩⟩).mono ?_
  rintro e W' ⟨v, H', rfl, ⟨rfl, rfl⟩, i⟩
  obtain ⟨⟨G, ⟨F1, _, a, _⟩, _⟩, _⟩ := id i
  refine ⟨rfl, i.os, i.tape, i.output, i.size, fun k hk => ?_⟩
  by_cases q : F k
  · exact hx _ _ a k q
  · exact i.frame k hk q
theorem keeps_ins {p : Option Addr} {m : Nat} {xs : List Value} {o : Obj} {W : World} {F : Nat → Prop} (hm : 0 < m) (s : (ins p m xs o).holds W.heap F) : Keeps (ins p m xs o) W F := by
  rintro h' F' ⟨_, z'⟩ b hb
  obtain ⟨_, z⟩ := s
  rcases z with ⟨e, _⟩ | ⟨g, off, row, fr, T, q1, q2, _, h3, e, f⟩
  · omega
  · rcases z' with ⟨e', _⟩ | ⟨g', off', row', fr', T', q1', q2', _, _, e', f'⟩
    · omega
    · rw [q1] at q1'
      cases q1'
      rw [(f b).1 hb, e, e']
theorem cells_ins {W : World} {a : Addr} {m : Nat} {xs : List Value} (hl : xs.length = m) (h : ∀ i, i < m → W.cell? (a.add i) = xs[i]?) : ∃ o F, (ins (some a) m xs o).holds W.heap F ∧ Keeps (ins (some a) m xs o) W F ∧ (m = 0 → ∀ x, ¬ F x) := by
  by_cases hm : m = 0
  · exact ⟨.map #[] 0, fun _ => False, ⟨hl, .inl ⟨hm, fun _ h => h⟩⟩, fun _ _ _ _ h => h.elim, fun _ _ h => h⟩
  · obtain ⟨b, off, spot⟩ := a
    have h0 := h 0 (by omega)
    have hspot : spot = none := by
      rw [List.getElem?_eq_getElem (by omega)] at h0
      simpa [Addr.add] using World.cell?_spot h0
    subst hspot
    have h1 : ∀ i, i < m → W.cell? ⟨b, off + i, none⟩ = xs[i]? := fun i hi => by rw [← Go.WideShapes.add_plain]; exact h i hi
    have h2 := h1 0 (by omega)
    rw [List.getElem?_eq_getElem (by omega)] at h2
    obtain ⟨c, T, fr, hb⟩ : ∃ c T fr, W.heap[b]? = some (.cells c T fr) := by
      unfold World.cell? at h2
      split at h2
      · rename_i hb; exact ⟨_, _, _, hb⟩
      · cases h2
    have h3 : ∀ i, i < m → c[off + i]? = xs[i]? := fun i hi => by rw [← h1 i hi, cell_at hb]
    have hlen : off + m ≤ c.toList.length := by
      have := h3 (m - 1) (by omega)
      rw [List.getElem?_eq_getElem (by omega)] at this
      have := (Array.getElem?_eq_some_iff.1 this).1
      simp; omega
    have hs : (ins (some ⟨b, off, none⟩) m xs (.cells c T fr)).holds W.heap (fun x => x = b) := by
     refine ⟨hl, .inr ⟨b, off, c.toList, fr, T, rfl, by simp, ?_, hlen, hb, fun _ => Iff.rfl⟩⟩
     apply List.ext_getElem?
     intro i
     by_cases hi : i < m
     · rw [List.getElem?_take_of_lt hi, List.getElem?_drop, Array.getElem?_toList, h3 i hi]
     · rw [List.getElem?_eq_none (by simp; omega), List.getElem?_eq_none (by omega)]
    exact ⟨_, _, hs, keeps_ins (by omega) hs, fun q => absurd q hm⟩
theorem nil_ins {W : World} : (ins none 0 [] (.map #[] 0)).holds W.heap (fun _ => False) ∧ Keeps (ins none 0 [] (.map #[] 0)) W (fun _ => False) := ⟨⟨rfl, .inl ⟨rfl, fun _ h => h⟩⟩, fun _ _ _ _ h => h.elim⟩
theorem ins_two {W : World} {p1 p2 : Option Addr} {m1 m2 : Nat} {xs ys : List Value} {o1 o2 : Obj} {F1 F2 : Nat → Prop} (s1 : (ins p1 m1 xs o1).holds W.heap F1) (k1 : Keeps (ins p1 m1 xs o1) W F1) (z1 : m1 = 0 → ∀ x, ¬ F1 x) (s2 : (ins p2 m2 ys o2).holds W.heap F2) (k2 : Keeps (ins p2 m2 ys o2) W F2) (z2 : m2 = 0 → ∀ x, ¬ F2 x) :
    ∃ (A R1 R2 : SProp) (F : Nat → Prop), A.holds W.heap F ∧ Keeps A W F ∧ Opens A (fun _ : Unit => True) (fun _ => [ins p1 m1 xs o1, R1]) ∧ Shuts [ins p1 m1 xs o1, R1] A ∧ Opens A (fun _ : Unit => True) (fun _ => [ins p2 m2 ys o2, R2]) ∧ Shuts [ins p2 m2 ys o2, R2] A := by
  by_cases hd : ∃ x, F1 x ∧ F2 x
  · obtain ⟨x, h1, h2⟩ := hd
    have key : ∀ {p p' : Option Addr} {m m' : Nat} {xs ys : List Value} {o o' : Obj} {G G' : Nat → Prop}, (ins p m xs o).holds W.heap G → (ins p' m' ys o').holds W.heap G' → G x → G' x → 0 < m → ∀ h F, (ins p m xs o).holds h F → (ins p' m' ys o').holds h F := by
      intro p p' m m' xs ys o o' G G' ⟨_, z⟩ ⟨l', z'⟩ hx hx' hm h F ⟨_, y⟩
      rcases z with ⟨_, f⟩ | ⟨g, off, row, fr, T, q1, q2, q3, q4, e, f⟩
      · exact absurd hx (f x)
      · rcases z' with ⟨_, f'⟩ | ⟨g', off', row', fr', T', q1', q2', q3', q4', e', f'⟩
        · exact absurd hx' (f' x)
        · obtain rfl := (f x).1 hx
          obtain rfl := (f' x).1 hx'
          rw [e] at e'
          cases e'
          rcases y with ⟨e0, _⟩ | ⟨g2, off2, row2, fr2, T2, y1, y2, y3, y4, y5, y6⟩
          · omega
          · rw [q1] at y1
            cases y1
            exact ⟨l', .inr ⟨_, off', row', fr', T', q1', q2', q3', q4', y5, y6⟩⟩
    have emp : ∀ {K : SProp} {h : Array Obj} {F : Nat → Prop}, K.holds h F ↔ sep [K, fact True] h F := by
      intro K h F
      refine ⟨fun a => ⟨F, fun _ => False, a, ⟨fun _ => False, fun _ => False, ⟨trivial, fun _ h => h⟩, fun _ h => h, fun _ _ h => h, fun b => ⟨.inl, fun o => o.elim id id⟩⟩, fun _ _ h => h, fun b => ⟨.inl, fun o => o.elim id False.elim⟩⟩, ?_⟩
      rintro ⟨G1, G2, a, ⟨G3, G4, ⟨_, e⟩, f, _, u2⟩, d, u⟩
      have : F = G1 := by
        funext b
        apply propext
        rw [u b, u2 b]
        exact ⟨fun o => o.elim id (fun o => o.elim (fun q => (e b q).elim) (fun q => (f b q).elim)), .inl⟩
      rw [this]; exact a
    have hm1 : 0 < m1 := Nat.pos_of_ne_zero fun q => z1 q x h1
    have hm2 : 0 < m2 := Nat.pos_of_ne_zero fun q => z2 q x h2
    exact ⟨ins p1 m1 xs o1, fact True, fact True, F1, s1, k1, fun h F a => ⟨(), trivial, emp.1 a⟩, fun h F a => emp.2 a,
      fun h F a => ⟨(), trivial, emp.1 (key s1 s2 h1 h2 hm1 h F a)⟩, fun h F a => key s2 s1 h2 h1 hm2 h F (emp.2 a)⟩
  · refine ⟨⟨fun h F => sep [ins p1 m1 xs o1, ins p2 m2 ys o2] h F, sep_loc, sep_bnd⟩, ins p2 m2 ys o2, ins p1 m1 xs o1, fun x => F1 x ∨ F2 x, ?_, ?_, fun h F a => ⟨(), trivial, a⟩, fun h F a => a, fun h F a => ⟨(), trivial, ?_⟩, fun h F a => ?_⟩
    · exact ⟨F1, F2, s1, ⟨F2, fun _ => False, s2, fun _ h => h, fun _ _ h => h, fun b => ⟨.inl, fun o => o.elim id False.elim⟩⟩, fun x a b => hd ⟨x, a, b⟩, fun _ => Iff.rfl⟩
    · rintro h' F' ⟨G1, G2, a, ⟨G3, G4, b, _⟩, _⟩ x hx
      exact hx.elim (k1 _ _ a x) (k2 _ _ b x)
    · exact (Parts.cons (Take.there Take.here) (Parts.cons Take.here Parts.nil)).sep a
    · exact (Parts.cons (Take.there Take.here) (Parts.cons Take.here Parts.nil)).sep a
end Go.Proofs.YthmdianikbimfaaGreat.SL
namespace Go.Proofs.YthmdianikbimfaaGreat
open Go.Proofs.YthmdianikbimfaaGreat.SL Go.ChangeShapes
section
variable {H : Type} {enc : TypeId × Value → H} {P : Program} {W : World}
theorem open_Zs {t e : TypeId} (ht : P.underlying t = some (.slice e)) (he : P.underlying e = some (.int .i64)) (hc : P.cellsOf e = 1) {v : Value} (hv : ∃ a0 len cap, v = .slice a0 len cap) {d : DataW H} {ps : List MemPlace} (h : DataW.Trod enc P W 0 (fun _ => true) true t v d ps) :
    ∃ (a0 : Option Addr) (cap : Nat) (zs : List Int) (o : Obj) (F : Nat → Prop), v = .slice a0 zs.length cap ∧ (ins a0 zs.length (zs.map encZ') o).holds W.heap F ∧ Keeps (ins a0 zs.length (zs.map encZ') o) W F ∧ (zs.length = 0 → ∀ x, ¬ F x) ∧ (∀ z ∈ zs, (Lit.int .i64 z).wf = true) ∧ zs.length ≤ 9223372036854775807 := by
  obtain ⟨a0, len, cap, rfl⟩ := hv
  obtain ⟨fuel, hf⟩ := h
  rcases open_ints ht he hc hf with ⟨hcs, _⟩ | ⟨a, len', cap', ss, hcs, _, hle, hmax, hlen, _, hcell, hw⟩
  · simp [Value.cells] at hcs
    obtain ⟨rfl, rfl, rfl⟩ := hcs
    exact ⟨none, 0, [], .map #[] 0, _, rfl, nil_ins.1, nil_ins.2, fun _ _ h => h, by simp, by simp⟩
  · simp [Value.cells] at hcs
    obtain ⟨rfl, rfl, rfl⟩ := hcs
    simp only [if_true] at hlen
    have hl : (ss.take len).length = len := by rw [List.length_take]; omega
    have hm' : ((ss.take len).map encZ').length = (ss.take len).length := by simp
    obtain ⟨o, F, s1, s2, s3⟩ := cells_ins (W := W) (a := a) hm' (fun i hi => by
      rw [hcell i (by omega), List.getElem?_map, List.getElem?_take_of_lt (by omega), List.getD, List.getElem?_eq_getElem (by omega)]; rfl)
    simp only [maxLen] at hmax
    exact ⟨some a, cap, ss.take len, o, F, by rw [hl], s1, s2, s3, fun z hz => hw z (List.mem_of_mem_take hz), by omega⟩
end
end Go.Proofs.YthmdianikbimfaaGreat

/- The framework, part 8: operations whose order is open; the way back to a loop's head. -/
import Derived.Test.YtcbcpgaehdoekaaSlG
set_option linter.unusedVariables false
set_option linter.unusedSimpArgs false
namespace Go.Proofs.Ytcbcpgaehdoekaa.SL

theorem wp_mono2 {P : Program} {o : Oper} {a : Act} {w : World} {K K' : Act → World → Prop} {Q Q' : Exit → Act → World → Prop} (h : ∀ a w, K a w → K' a w) (hq : ∀ e a w, e ≠ .normal → Q e a w → Q' e a w)
    (hh : o.wp P a w K Q) : o.wp P a w K' Q' := by
  have hl : LetsOut Q → LetsOut Q' := fun ⟨a, w, q⟩ => ⟨a, w, hq _ _ _ (by simp) q⟩
  unfold Oper.wp at *
  generalize (execOp a.eval o).run P w = r at *
  cases r with
  | ok n w' =>
    cases n <;> simp only [Oper.upon] at hh ⊢ <;>
      first
        | exact h _ _ hh
        | exact Calls.mono hh (fun e w'' he => by cases e <;> first | exact h _ _ he | exact hq _ _ _ (by simp) he | exact hl he)
        | exact Rows.mono hh (fun _ _ he => h _ _ he)
  | halt x w' => cases x <;> simp only [Oper.upon] at hh ⊢ <;> first | exact hq _ _ _ (by simp) hh | exact hh

theorem ts_nil {tm : List (Nat × Value)} : tsub tm [] := trivial
theorem ts_cons {tm l : List (Nat × Value)} {k : Nat} {v v' : Value} (h1 : tget tm k = some v') (h2 : v' = v) (h3 : tsub tm l) : tsub tm ((k, v) :: l) := ⟨h1.trans (congrArg some h2), h3⟩

section
variable {P : Program} {E : Env} {n : Nat} {w0 : World} {F0 : Nat → Prop} {Q : Exit → Act → World → Prop} {tm : List (Nat × Value)} {D : List Deferred} {H H' : List SProp} {ops : List Oper}

/-- Back to the head of a loop. -/
theorem n_back {α : Type} {tmx : α → List (Nat × Value)} {Hx : α → List SProp} {I : α → Prop} {μ : α → Nat} {m : Nat} (y : α) (hI : I y) (hm : μ y < m) (ht : tsub tm (tmx y)) (hh : ∀ {w}, Inv w0 F0 H w → Inv w0 F0 (Hx y) w) :
    N n w0 F0 .normal (Exit.then (fun a w => ∃ y, I y ∧ μ y < m ∧ St n w0 F0 (tmx y) D (Hx y) a w) Q) tm D H :=
  fun a w s => ⟨y, hI, hm, s.tm.sub ht, s.defers, hh s.inv⟩

/-- How many are not listed yet. -/
def unl (listed : Array Bool) : Nat := (listed.toList.filter (fun b => !b)).length
theorem filter_set : ∀ (l : List Bool) (i : Nat), l[i]? = some false → ((l.set i true).filter (fun b => !b)).length + 1 = (l.filter (fun b => !b)).length
  | [], i, h => by simp at h
  | b :: l, 0, h => by simp at h; subst h; simp
  | b :: l, i + 1, h => by
    simp only [List.getElem?_cons_succ] at h
    have := filter_set l i h
    cases b <;> simp [List.filter_cons] at this ⊢ <;> omega
theorem unl_set {listed : Array Bool} {i : Nat} (h : listed.getD i true = false) : unl (listed.setIfInBounds i true) + 1 = unl listed := by
  unfold unl
  rw [Array.toList_setIfInBounds]
  refine filter_set _ _ ?_
  rcases Nat.lt_or_ge i listed.size with h' | h'
  · simp [h'] at h; simp [h', h]
  · simp [Array.getElem?_eq_none h'] at h

/-- In whatever order what is left of a region's operations comes up. Hs: what no operation of it turns. -/
def A (P : Program) (n : Nat) (w0 : World) (F0 : Nat → Prop) (ops : List Oper) (Hs : List SProp) (listed : Array Bool) (Q : Exit → Act → World → Prop) (tm : List (Nat × Value)) (D : List Deferred) (H : List SProp) : Prop :=
  ∀ fuel, unl listed ≤ fuel → ∀ a w, St n w0 F0 tm D H a w → (∃ F, sep Hs w.heap F) → wpAnyH P .any ops.toArray Q (fun w => ∃ F, sep Hs w.heap F) fuel listed a w

theorem Inv.has {Hs : List SProp} {w : World} (i : Inv w0 F0 H w) (p : Parts Hs H H') : ∃ F, sep Hs w.heap F := by
  obtain ⟨⟨F, s, _⟩, _⟩ := i.parts p
  obtain ⟨F1, _, s1, _⟩ := sep_split s
  exact ⟨F1, s1⟩

theorem g_draw {id : Nat} {l : List Oper} (Hs : List SProp) (k : EnvOk P E) (p : Parts Hs H H') (h : A P n w0 F0 l Hs (Array.replicate l.length false) Q tm D H) : G P n w0 F0 (.region id l.toArray true) Q tm D H := by
  intro a w s
  refine wp_region_held (S := fun w => ∃ F, sep Hs w.heap F) k.mixed ?_
  refine h _ ?_ a _ ⟨s.tm, s.defers, s.inv.drew _⟩ (s.inv.has p)
  simp only [unl, Array.toList_replicate, List.size_toArray]
  exact Nat.le_trans (List.length_filter_le _ _) (by simp)

/-- May operation i come up? -/
def rdyB (after : List Edge) (listed : Array Bool) : Bool := after.all fun e => !Region.binds .any e || listed.getD e.on false

theorem rdyB_iff {after : Array Edge} {listed : Array Bool} : rdyB after.toList listed = true ↔ ∀ e ∈ after, Region.binds .any e = true → listed.getD e.on false = true := by
  unfold rdyB
  rw [List.all_eq_true]
  constructor
  · intro h e he hb
    have := h e (by simpa using he)
    simpa [hb] using this
  · intro h e he
    cases hb : Region.binds .any e
    · rfl
    · simpa using h e (by simpa using he) hb

/-- Nobody whom operation oi (number i) would disturb may still come up ahead of it. -/
def freeL (ops : Array Oper) (i : Nat) (oi : Oper) (listed : Array Bool) : List Oper → Nat → Bool
  | [], _ => true
  | oj :: l, j => (Nat.beq j i || listed.getD j true || (oj.after.toList.any fun e => Region.binds .any e && Nat.beq e.on i) || oi.apart ops oj) && freeL ops i oi listed l (j + 1)
theorem freeL_spec {ops : Array Oper} {i : Nat} {oi : Oper} {listed : Array Bool} : ∀ {l : List Oper} {j : Nat}, freeL ops i oi listed l j = true → ∀ k ok, l[k]? = some ok → j + k ≠ i → listed.getD (j + k) true = false →
    (∀ e ∈ ok.after, Region.binds .any e = true → e.on ≠ i) → oi.apart ops ok = true
  | [], _, _, k, ok, hk, _, _, _ => by simp at hk
  | oj :: l, j, h, k, ok, hk, hne, hl, he => by
    simp only [freeL, Bool.and_eq_true] at h
    cases k with
    | zero =>
      simp only [List.getElem?_cons_zero, Option.some.injEq] at hk
      subst hk
      simp only [Nat.add_zero] at hne hl
      have h1 := h.1
      simp only [Bool.or_eq_true] at h1
      rcases h1 with ((h1 | h1) | h1) | h1
      · exact absurd (Nat.eq_of_beq_eq_true h1) hne
      · rw [hl] at h1; cases h1
      · rw [List.any_eq_true] at h1
        obtain ⟨e, h2, h3⟩ := h1
        simp only [Bool.and_eq_true] at h3
        exact absurd (Nat.eq_of_beq_eq_true h3.2) (he e (by simpa using h2) h3.1)
      · exact h1
    | succ k =>
      simp only [List.getElem?_cons_succ] at hk
      exact freeL_spec h.2 k ok hk (by omega) (by rw [show j + 1 + k = j + (k + 1) by omega]; exact hl) he

def isSel : Op → Bool
  | .select _ _ => true
  | _ => false
def noSel : List Oper → Bool
  | [] => true
  | ⟨_, op, _, _, _, _⟩ :: l => !isSel op && noSel l
theorem noSel_spec : ∀ {l : List Oper}, noSel l = true → ∀ (j : Nat) (o : Oper) (cs : Array SelectCase) (b : Bool), l[j]? = some o → o.op ≠ .select cs b
  | [], _, j, o, cs, b, h => by simp at h
  | ⟨d, op, ty, pos, after, g⟩ :: l, hn, j, o, cs, b, h => by
    simp only [noSel, Bool.and_eq_true, Bool.not_eq_true'] at hn
    cases j with
    | zero =>
      simp only [List.getElem?_cons_zero, Option.some.injEq] at h
      subst h
      rintro rfl
      exact absurd hn.1 (by simp [isSel])
    | succ j => simp only [List.getElem?_cons_succ] at h; exact noSel_spec hn.2 j o cs b h

theorem a_take {Hs : List SProp} {listed : Array Bool} {i d : Nat} {op : Op} {ty : TypeId} {pos : String} {after : Array Edge} {v : Value} (hd : Nat.blt d n = true) (ho : nth ops i = some ⟨some d, op, ty, pos, after, none⟩)
    (hQ : ∀ c a w, Q (.panic c) (a.put (some d) v) w → Q (.panic c) a w) (hs : noSel ops = true) (hf : freeL ops.toArray i ⟨some d, op, ty, pos, after, none⟩ listed ops 0 = true) (hl : listed.getD i true = false) (hr : rdyB after.toList listed = true)
    (hy : ∀ a w, Tm n tm a → (∃ F, sep Hs w.heap F) → (execOp a.eval ⟨some d, op, ty, pos, after, none⟩).run P w = .ok (.value v) w)
    (h : A P n w0 F0 ops Hs (listed.setIfInBounds i true) Q ((d, v) :: tm) D H) : A P n w0 F0 ops Hs listed Q tm D H := by
  intro fuel hfu a w s hS
  have hu := unl_set hl
  obtain ⟨m, rfl⟩ : ∃ m, fuel = m + 1 := ⟨fuel - 1, by omega⟩
  have hi : ops.toArray[i]? = some ⟨some d, op, ty, pos, after, none⟩ := by rw [nth_eq] at ho; simpa using ho
  refine wpAnyH_first hi (fun j o cs b hj => noSel_spec hs j o cs b (by simpa using hj)) hQ m listed a w ?_ (mem_ready.2 ⟨hl, _, hi, rdyB_iff.1 hr⟩) (v := v) (.inl ⟨rfl, fun w hw => hy a w s.tm hw⟩) hS (h m (by omega) _ _ (s.put hd v) hS)
  intro j oj hj hne hun hno
  exact freeL_spec hf j oj (by simpa using hj) (by omega) (by simpa using hun) hno

/-- A post that does not look at the frame where the code panics. -/
def Calm (Q : Exit → Act → World → Prop) : Prop := ∀ c a w d v, Q (.panic c) (a.put d v) w → Q (.panic c) a w
theorem calm_post {fn : Func} {q : Value → List SProp → Prop} : Calm (Post P fn w0 F0 q) := by
  intro c a w d v h
  obtain ⟨hd, v', H', he, _⟩ := h
  cases he
theorem calm_then {K : Act → World → Prop} (h : Calm Q) : Calm (Exit.then K Q) := fun c a w d v q => h c a w d v q
theorem calm_block {id : Nat} (h : Calm Q) : Calm (Exit.inBlock id Q) := fun c a w d v q => h c a w d v q

/-- All operations that only compute, one pass. -/
def passA (E : Env) (n : Nat) (ops : List Oper) : List Oper → Nat → Array Bool → List (Nat × Value) → Array Bool × List (Nat × Value)
  | [], _, listed, tm => (listed, tm)
  | ⟨some d, op, ty, pos, after, none⟩ :: l, i, listed, tm =>
    (match (bif Nat.blt d n && !listed.getD i true && rdyB after.toList listed then pureOp E tm op else none) with
    | some v => (bif freeL ops.toArray i ⟨some d, op, ty, pos, after, none⟩ listed ops 0 then passA E n ops l (i + 1) (listed.setIfInBounds i true) ((d, v) :: tm) else passA E n ops l (i + 1) listed tm)
    | none => passA E n ops l (i + 1) listed tm)
  | _ :: l, i, listed, tm => passA E n ops l (i + 1) listed tm

theorem a_pass {Hs : List SProp} (k : EnvOk P E) (hc : Calm Q) (hs : noSel ops = true) : ∀ {l : List Oper} {i : Nat} {listed listed' : Array Bool} {tm tm' : List (Nat × Value)}, ops.drop i = l → passA E n ops l i listed tm = (listed', tm') →
    A P n w0 F0 ops Hs listed' Q tm' D H → A P n w0 F0 ops Hs listed Q tm D H
  | [], i, listed, listed', tm, tm', _, e, h => by
    simp only [passA, Prod.mk.injEq] at e
    obtain ⟨rfl, rfl⟩ := e
    exact h
  | o :: l, i, listed, listed', tm, tm', hdr, e, h => by
    have hnext : ops.drop (i + 1) = l := by rw [← List.drop_drop, hdr]; rfl
    obtain ⟨dst, op, ty, pos, after, g⟩ := o
    have skip : passA E n ops l (i + 1) listed tm = (listed', tm') → A P n w0 F0 ops Hs listed Q tm D H := fun e => a_pass k hc hs hnext e h
    cases dst with
    | none => exact skip (by simpa [passA] using e)
    | some d =>
      cases g with
      | some g => exact skip (by simpa [passA] using e)
      | none =>
        simp only [passA] at e
        cases hb : (Nat.blt d n && !listed.getD i true && rdyB after.toList listed) with
        | false => rw [hb] at e; exact skip (by simpa using e)
        | true =>
          rw [hb] at e
          simp only [cond_true] at e
          cases hv : pureOp E tm op with
          | none => rw [hv] at e; exact skip e
          | some v =>
            rw [hv] at e
            simp only at e
            cases hf : freeL ops.toArray i ⟨some d, op, ty, pos, after, none⟩ listed ops 0 with
            | false => rw [hf] at e; exact skip (by simpa using e)
            | true =>
              rw [hf] at e
              simp only [cond_true] at e
              simp only [Bool.and_eq_true, Bool.not_eq_true'] at hb
              have ho : nth ops i = some ⟨some d, op, ty, pos, after, none⟩ := by
                rw [nth_eq]
                have := congrArg (fun q => q[0]?) hdr
                simpa using this
              exact a_take hb.1.1 ho (fun c a w => hc c a w _ _) hs hf hb.1.2 hb.2 (fun a w ht _ => pureOp_sound k ht hv _ _ _ _ w) (a_pass k hc hs hnext e h)

/-- The first load that may come up. -/
def nextLoad : List Oper → Nat → Array Bool → Option Nat
  | [], _, _ => none
  | ⟨some _, .load _ _, _, _, after, none⟩ :: l, i, listed => bif !listed.getD i true && rdyB after.toList listed then some i else nextLoad l (i + 1) listed
  | _ :: l, i, listed => nextLoad l (i + 1) listed

theorem a_load {Hs Hs' : List SProp} {listed : Array Bool} {i d t b off : Nat} {x : Operand} {c : List Value} {T ty : TypeId} {pos : String} {after : Array Edge} {v : Value} (k : EnvOk P E) (hc : Calm Q) (hs : noSel ops = true) (hi : nextLoad ops 0 listed = some i)
    (ho : nth ops i = some ⟨some d, .load t x, ty, pos, after, none⟩) (hd : Nat.blt d n = true) (hx : ev tm x = some (.pointer (some ⟨b, off, none⟩))) (ht : Take (cl b T c) Hs Hs') (hv : partV E t c off = some v)
    (hf : freeL ops.toArray i ⟨some d, .load t x, ty, pos, after, none⟩ listed ops 0 = true) (hl : listed.getD i true = false) (hr : rdyB after.toList listed = true)
    (h : A P n w0 F0 ops Hs (listed.setIfInBounds i true) Q ((d, v) :: tm) D H) : A P n w0 F0 ops Hs listed Q tm D H :=
  a_take hd ho (fun c a w => hc c a w _ _) hs hf hl hr (fun a w htm ⟨F, s⟩ => by
    obtain ⟨F1, F2, ⟨⟨fr, _, e⟩, _⟩, _⟩ := ht.sep s
    simp [execOp, ev_sound htm hx, run_loadAt k e hv]) h

/-- Which may come up. -/
def comes (listed : Array Bool) : List Oper → Nat → List Nat
  | [], _ => []
  | ⟨_, _, _, _, after, _⟩ :: l, j => bif !listed.getD j true && rdyB after.toList listed then j :: comes listed l (j + 1) else comes listed l (j + 1)
theorem comes_spec {listed : Array Bool} : ∀ {l : List Oper} {j k : Nat} {o : Oper}, l[k]? = some o → listed.getD (j + k) true = false → rdyB o.after.toList listed = true → (j + k) ∈ comes listed l j
  | [], _, _, _, h, _, _ => by simp at h
  | ⟨d, op, ty, pos, after, g⟩ :: l, j, k, o, h, h1, h2 => by
    cases k with
    | zero =>
      simp only [List.getElem?_cons_zero, Option.some.injEq] at h
      subst h
      simp only [Nat.add_zero] at h1 ⊢
      simp [comes, h1, h2]
    | succ k =>
      simp only [List.getElem?_cons_succ] at h
      have := comes_spec (j := j + 1) h (by rw [show j + 1 + k = j + (k + 1) by omega]; exact h1) h2
      rw [show j + 1 + k = j + (k + 1) by omega] at this
      unfold comes
      cases (!listed.getD j true && rdyB after.toList listed)
      · exact this
      · exact List.mem_cons_of_mem _ this
theorem ready_comes {listed : Array Bool} {i : Nat} (h : i ∈ Region.ready .any ops.toArray listed) : i ∈ comes listed ops 0 := by
  obtain ⟨h1, o, h2, h3⟩ := mem_ready.1 h
  have := comes_spec (j := 0) (l := ops) (k := i) (o := o) (by simpa using h2) (by simpa using h1) (rdyB_iff.2 h3)
  simpa using this

/-- Just one may come up: it is carried out. -/
theorem a_one {Hs : List SProp} {listed : Array Bool} {i : Nat} {d : Option Nat} {op : Op} {ty : TypeId} {pos : String} {after : Array Edge} {g : Option (Nat × Bool)} (hr : comes listed ops 0 = [i]) (ho : nth ops i = some ⟨d, op, ty, pos, after, g⟩)
    (hl : listed.getD i true = false) (hrd : rdyB after.toList listed = true)
    (h : L P n w0 F0 ops.toArray [⟨d, op, ty, pos, after, g⟩] (Exit.then (fun a w => (∃ F, sep Hs w.heap F) ∧ ∀ fuel, unl (listed.setIfInBounds i true) ≤ fuel → wpAnyH P .any ops.toArray Q (fun w => ∃ F, sep Hs w.heap F) fuel (listed.setIfInBounds i true) a w) Q) tm D H) :
    A P n w0 F0 ops Hs listed Q tm D H := by
  intro fuel hfu a w s hS
  have hu := unl_set hl
  obtain ⟨m, rfl⟩ : ∃ m, fuel = m + 1 := ⟨fuel - 1, by omega⟩
  have hi : ops.toArray[i]? = some ⟨d, op, ty, pos, after, g⟩ := by rw [nth_eq] at ho; simpa using ho
  have hmem : i ∈ Region.ready .any ops.toArray listed := mem_ready.2 ⟨hl, _, hi, rdyB_iff.1 hrd⟩
  refine ⟨fun h0 => (by rw [h0] at hmem; cases hmem), fun j hj => ?_⟩
  have hj' := ready_comes hj
  rw [hr] at hj'
  simp only [List.mem_singleton] at hj'
  subst hj'
  have h1 := h a w s
  unfold wpList at h1
  unfold wpOp
  simp only [hi]
  split
  · rename_i hw
    rw [if_pos hw] at h1
    rcases h1 with h1 | ⟨h1, h2⟩
    · refine .inl (wp_mono2 ?_ ?_ h1)
      · intro a' w' h'
        exact ⟨h'.1, h'.2 m (by omega)⟩
      · intro e a' w' he hq
        cases e <;> first | exact absurd rfl he | exact hq
    · exact .inr ⟨h1, by obtain ⟨a', w', q⟩ := h2; exact ⟨a', w', q⟩⟩
  · rename_i hw
    rw [if_neg hw] at h1
    exact ⟨h1.1, h1.2 m (by omega)⟩

theorem n_any {Hs : List SProp} {listed : Array Bool} (p : Parts Hs H H') (h : A P n w0 F0 ops Hs listed Q tm D H) :
    N n w0 F0 .normal (Exit.then (fun a w => (∃ F, sep Hs w.heap F) ∧ ∀ fuel, unl listed ≤ fuel → wpAnyH P .any ops.toArray Q (fun w => ∃ F, sep Hs w.heap F) fuel listed a w) Q) tm D H :=
  fun a w s => ⟨s.inv.has p, fun fuel hf => h fuel hf a w s (s.inv.has p)⟩
theorem a_done {Hs : List SProp} {listed : Array Bool} (hr : comes listed ops 0 = []) (h : N n w0 F0 .normal Q tm D H) : A P n w0 F0 ops Hs listed Q tm D H :=
  fun fuel _ a w s _ => wpAnyH_done (List.eq_nil_iff_forall_not_mem.2 fun i hi => by
    have := ready_comes hi
    rw [hr] at this
    cases this) (h a w s) fuel
end
theorem inv_keep {w0 : World} {F0 : Nat → Prop} {K H H' : List SProp} (p : Parts K H H') : ∀ {w : World}, Inv w0 F0 H w → Inv w0 F0 K w := fun i => Inv.drop (Inv.parts i p)
end Go.Proofs.Ytcbcpgaehdoekaa.SL

/- The framework, part 5: the steps of a walk through one operation. -/
import Derived.Test.YtcbcpgaehdoekaaSlD
import Derived.Laws.Cells
set_option linter.unusedVariables false
set_option linter.unusedSimpArgs false
namespace Go.Proofs.Ytcbcpgaehdoekaa.SL

/-- A row of cells, none of them shared with a text. -/
def cl (b : Nat) (T : TypeId) (l : List Value) : SProp where
  holds h F := (∃ fr : Nat × Nat, (∀ o, o < l.length → ¬ (fr.1 ≤ o ∧ o < fr.2)) ∧ h[b]? = some (.cells l.toArray T fr)) ∧ ∀ x, F x ↔ x = b
  loc := fun ⟨⟨fr, q, e⟩, f⟩ k => ⟨⟨fr, q, by rw [k b ((f b).2 rfl)]; exact e⟩, f⟩
  bnd := fun ⟨⟨_, _, e⟩, f⟩ x hx => by rw [(f x).1 hx]; exact lt_of_some e
theorem Inv.cell {w0 w : World} {F0 : Nat → Prop} {b : Nat} {T : TypeId} {l : List Value} {H : List SProp} (i : Inv w0 F0 (cl b T l :: H) w) :
    ∃ fr : Nat × Nat, (∀ o, o < l.length → ¬ (fr.1 ≤ o ∧ o < fr.2)) ∧ w.heap[b]? = some (.cells l.toArray T fr) := by
  obtain ⟨⟨F, ⟨_, _, ⟨e, _⟩, _⟩, _⟩, _⟩ := i
  exact e
theorem sep_cl {h : Array Obj} {b : Nat} {T : TypeId} {l : List Value} {fr : Nat × Nat} {H : List SProp} {F : Nat → Prop} (q : ∀ o, o < l.length → ¬ (fr.1 ≤ o ∧ o < fr.2)) (s : sep (pts b (.cells l.toArray T fr) :: H) h F) : sep (cl b T l :: H) h F := by
  obtain ⟨F1, F2, ⟨e, f⟩, r⟩ := s
  exact ⟨F1, F2, ⟨⟨fr, q, e⟩, f⟩, r⟩
theorem Inv.to_cl {w0 w : World} {F0 : Nat → Prop} {b : Nat} {T : TypeId} {l : List Value} {fr : Nat × Nat} {H : List SProp} (q : ∀ o, o < l.length → ¬ (fr.1 ≤ o ∧ o < fr.2)) (i : Inv w0 F0 (pts b (.cells l.toArray T fr) :: H) w) : Inv w0 F0 (cl b T l :: H) w :=
  i.imp fun s => ⟨_, sep_cl q s, fun _ h => h⟩
theorem Inv.new_cl {w0 w : World} {F0 : Nat → Prop} {H : List SProp} (i : Inv w0 F0 H w) (T : TypeId) (l : List Value) :
    Inv w0 F0 (cl w.heap.size T l :: H) { w with heap := w.heap.push (.cells l.toArray T (0, 0)) } := (i.alloc _).to_cl (fun _ _ h => by omega)
/-- A row's cells turned. -/
theorem Inv.set_cl {w0 w w' : World} {F0 : Nat → Prop} {b : Nat} {T : TypeId} {l l' : List Value} {fr : Nat × Nat} {H : List SProp} (i : Inv w0 F0 (cl b T l :: H) w) (q : ∀ o, o < l'.length → ¬ (fr.1 ≤ o ∧ o < fr.2))
    (hb : w'.heap[b]? = some (.cells l'.toArray T fr)) (hn : ∀ c, c ≠ b → w'.heap[c]? = w.heap[c]?) (hs : w'.heap.size = w.heap.size) (e1 : w'.os = w.os) (e2 : w'.tape = w.tape) (e3 : w'.output = w.output) :
    Inv w0 F0 (cl b T l' :: H) w' := by
  exact i.set1 (fun ⟨_, f⟩ => f) ⟨⟨fr, q, hb⟩, fun _ => Iff.rfl⟩ hn hs e1 e2 e3

def runP (E : Env) (n : Nat) : List Oper → List (Nat × Value) → List (Nat × Value) × List Oper
  | [], tm => (tm, [])
  | ⟨some d, op, ty, pos, after, none⟩ :: rest, tm => (match (bif Nat.blt d n then pureOp E tm op else none) with
    | some v => runP E n rest ((d, v) :: tm)
    | none => (tm, ⟨some d, op, ty, pos, after, none⟩ :: rest))
  | o :: rest, tm => (tm, o :: rest)

/-- Slot number j's own place: where operation j of a region writes. -/
def slotOf (l : List Oper) (j : Nat) : Option Nat :=
  match nth l j with
  | some ⟨d, _, _, _, _, _⟩ => d
  | none => none
theorem slotOf_eq {l : List Oper} {j t : Nat} (h : slotOf l j = some t) : (l.toArray[j]?).bind (·.dst) = some t := by
  unfold slotOf at h
  rw [nth_eq] at h
  split at h
  · rename_i he; simp [he, h]
  · cases h

/-- The cells of a value that is to be stored. -/
def cellsV (v : Value) : Option (List Value) :=
  match v with
  | .agg cs => bif cs.toList.all (·.oneCell') then some cs.toList else none
  | .tuple _ => none
  | v => some [v]
theorem cellsV_spec {v : Value} {vs : List Value} (h : cellsV v = some vs) : v.cells.toList = vs ∧ ∀ u ∈ vs, u.oneCell' = true := by
  unfold cellsV at h
  split at h
  · rename_i cs
    obtain ⟨h1, rfl⟩ := bif_some h
    exact ⟨rfl, by simpa only [List.all_eq_true] using h1⟩
  · cases h
  · rename_i h1 h2
    simp only [Option.some.injEq] at h; subst h
    cases v <;> first | exact absurd rfl (h1 _) | exact absurd rfl (h2 _) | exact ⟨rfl, by simp [Value.oneCell']⟩

def copyO : List Value → List Value → Option (List Value)
  | [], r => some r
  | x :: l, r => match copyO l r with
    | some s => some (x :: s)
    | none => none
theorem copyO_eq : ∀ {l r s : List Value}, copyO l r = some s → s = l ++ r
  | [], r, s, e => by simp [copyO] at e; simp [e]
  | x :: l, r, s, e => by
    simp only [copyO] at e
    cases h : copyO l r with
    | none => rw [h] at e; cases e
    | some q =>
      rw [h] at e
      simp only [Option.some.injEq] at e
      subst e
      rw [copyO_eq h]
      rfl
def argsO (first vs cap : List Value) : Option (List Value) :=
  match copyO vs cap with
  | some r => copyO first r
  | none => none
theorem argsO_eq {first vs cap r : List Value} (h : argsO first vs cap = some r) : first ++ vs ++ cap = r := by
  unfold argsO at h
  split at h
  · rename_i q hq
    rw [copyO_eq h, copyO_eq hq, List.append_assoc]
  · cases h

def appO : List SProp → List SProp → Option (List SProp)
  | [], r => some r
  | x :: l, r => match appO l r with
    | some s => some (x :: s)
    | none => none
theorem appO_eq : ∀ (l r : List SProp), appO l r = some (l ++ r)
  | [], r => rfl
  | x :: l, r => by simp [appO, appO_eq l r]

def Callable (P : Program) (g : FuncId) : Prop := ∃ fn, P.funcs[g]? = some fn ∧ (fn.name == "runtime.NumGoroutine") = false ∧ fn.body.isNone = false

section
variable {P : Program} {E : Env} {n : Nat} {w0 : World} {F0 : Nat → Prop} {Q : Exit → Act → World → Prop} {tm : List (Nat × Value)} {D : List Deferred} {H H' : List SProp} {ops rest : List Oper}
variable {ty : TypeId} {pos : String} {after : Array Edge}

theorem wpList_value {o : Oper} {a : Act} {w w' : World} {v : Value} {ops : Array Oper} (hg : o.guard = none) (hr : (execOp a.eval o).run P w = .ok (.value v) w') (h : wpList P ops Q rest (a.put o.dst v) w') : wpList P ops Q (o :: rest) a w := by
  refine wpList_plain hg fun K hK => ?_
  simp only [Oper.wp, hr, Oper.upon]
  exact hK _ _ h
theorem wpList_unit {o : Oper} {a : Act} {w w' : World} {ops : Array Oper} (hg : o.guard = none) (hr : (execOp a.eval o).run P w = .ok .skip w') (h : wpList P ops Q rest (a.put o.dst undef) w') : wpList P ops Q (o :: rest) a w := by
  refine wpList_plain hg fun K hK => ?_
  simp only [Oper.wp, hr, Oper.upon]
  exact hK _ _ h
theorem wpList_enter {o : Oper} {a : Act} {w w' : World} {f : FuncId} {args : Array Value} {R : Value → World → Prop} {ops : Array Oper} (hg : o.guard = none) (hr : (execOp a.eval o).run P w = .ok (.enter f args) w')
    (hc : Calls P f args w' fun e w'' => ∃ v, e = .returned v ∧ R v w'') (h : ∀ v w'', R v w'' → wpList P ops Q rest (a.put o.dst v) w'') : wpList P ops Q (o :: rest) a w := by
  refine wpList_plain hg fun K hK => ?_
  simp only [Oper.wp, hr, Oper.upon]
  exact hc.mono fun e w'' ⟨v, he, r⟩ => by subst he; exact hK _ _ (h v w'' r)

theorem l_nil (h : N n w0 F0 .normal Q tm D H) : L P n w0 F0 ops.toArray [] Q tm D H := fun a w s => wpList_nil (h a w s)

theorem l_pure {d : Nat} {op : Op} {v : Value} (k : EnvOk P E) (hd : Nat.blt d n = true) (hv : pureOp E tm op = some v) (h : L P n w0 F0 ops.toArray rest Q ((d, v) :: tm) D H) :
    L P n w0 F0 ops.toArray (⟨some d, op, ty, pos, after, none⟩ :: rest) Q tm D H :=
  fun a w s => wpList_value rfl (pureOp_sound k s.tm hv _ _ _ _ _) (h _ _ (s.put hd v))

theorem l_pure_none {op : Op} {v : Value} (k : EnvOk P E) (hv : pureOp E tm op = some v) (h : L P n w0 F0 ops.toArray rest Q tm D H) :
    L P n w0 F0 ops.toArray (⟨none, op, ty, pos, after, none⟩ :: rest) Q tm D H :=
  fun a w s => wpList_value rfl (pureOp_sound k s.tm hv _ _ _ _ _) (h _ _ s)

theorem l_pures (k : EnvOk P E) : ∀ {l : List Oper} {tm tm' : List (Nat × Value)}, runP E n l tm = (tm', rest) → L P n w0 F0 ops.toArray rest Q tm' D H → L P n w0 F0 ops.toArray l Q tm D H
  | [], tm, tm', e, h => by
    simp only [runP, Prod.mk.injEq] at e
    obtain ⟨rfl, rfl⟩ := e
    exact h
  | ⟨some d, op, ty, pos, after, none⟩ :: r, tm, tm', e, h => by
    simp only [runP] at e
    cases hb : Nat.blt d n with
    | false =>
      simp only [hb, cond_false, Prod.mk.injEq] at e
      obtain ⟨rfl, rfl⟩ := e
      exact h
    | true =>
      cases hv : pureOp E tm op with
      | none =>
        simp only [hb, hv, cond_true, Prod.mk.injEq] at e
        obtain ⟨rfl, rfl⟩ := e
        exact h
      | some v =>
        simp only [hb, hv, cond_true] at e
        exact l_pure k hb hv (l_pures k e h)
  | ⟨none, op, ty, pos, after, none⟩ :: r, tm, tm', e, h => by
    simp only [runP, Prod.mk.injEq] at e
    obtain ⟨rfl, rfl⟩ := e
    exact h
  | ⟨some d, op, ty, pos, after, some g⟩ :: r, tm, tm', e, h => by
    simp only [runP, Prod.mk.injEq] at e
    obtain ⟨rfl, rfl⟩ := e
    exact h
  | ⟨none, op, ty, pos, after, some g⟩ :: r, tm, tm', e, h => by
    simp only [runP, Prod.mk.injEq] at e
    obtain ⟨rfl, rfl⟩ := e
    exact h

/-- The same, at least one. -/
theorem l_pures1 {d : Nat} {op : Op} {v : Value} {tm' : List (Nat × Value)} {rest' : List Oper} (k : EnvOk P E) (hd : Nat.blt d n = true) (hv : pureOp E tm op = some v)
    (e : runP E n rest ((d, v) :: tm) = (tm', rest')) (h : L P n w0 F0 ops.toArray rest' Q tm' D H) : L P n w0 F0 ops.toArray (⟨some d, op, ty, pos, after, none⟩ :: rest) Q tm D H :=
  l_pure k hd hv (l_pures k e h)

/-! Guards -/
theorem l_guard_yes {dst : Option Nat} {op : Op} {j t : Nat} {want : Bool} (hs : slotOf ops j = some t) (ht : tget tm t = some (.bool want)) (hb : Nat.blt t n = true)
    (h : L P n w0 F0 ops.toArray (⟨dst, op, ty, pos, after, none⟩ :: rest) Q tm D H) : L P n w0 F0 ops.toArray (⟨dst, op, ty, pos, after, some (j, want)⟩ :: rest) Q tm D H := by
  intro a w s
  have h1 := h a w s
  have hlt : t < n := by simpa [Nat.blt_eq] using hb
  have hg := s.tm.get t _ ht
  have hy : yielded ops.toArray a.tmps j = some want := by
    unfold yielded
    rw [slotOf_eq hs]
    have : a.tmps[t]? = some (.bool want) := by
      have hl : t < a.tmps.size := by rw [s.tm.size]; exact hlt
      simp [hl] at hg ⊢
      exact hg
    simp [this]
  have hw : Region.wanted (⟨dst, op, ty, pos, after, some (j, want)⟩ : Oper) (yielded ops.toArray a.tmps) = true := by simp [Region.wanted, hy]
  unfold wpList at h1 ⊢
  rw [if_pos hw]
  rw [if_pos (show Region.wanted (⟨dst, op, ty, pos, after, none⟩ : Oper) (yielded ops.toArray a.tmps) = true from rfl)] at h1
  exact h1
theorem l_guard_no {d : Nat} {op : Op} {j t : Nat} {want b : Bool} (hs : slotOf ops j = some t) (ht : tget tm t = some (.bool b)) (hb : Nat.blt t n = true) (hne : (b == want) = false) (hd : Nat.blt d n = true)
    (h : L P n w0 F0 ops.toArray rest Q ((d, undef) :: tm) D H) : L P n w0 F0 ops.toArray (⟨some d, op, ty, pos, after, some (j, want)⟩ :: rest) Q tm D H := by
  intro a w s
  have hlt : t < n := by simpa [Nat.blt_eq] using hb
  have hg := s.tm.get t _ ht
  have hy : yielded ops.toArray a.tmps j = some b := by
    unfold yielded
    rw [slotOf_eq hs]
    have : a.tmps[t]? = some (.bool b) := by
      have hl : t < a.tmps.size := by rw [s.tm.size]; exact hlt
      simp [hl] at hg ⊢
      exact hg
    simp [this]
  have hw : ¬ Region.wanted (⟨some d, op, ty, pos, after, some (j, want)⟩ : Oper) (yielded ops.toArray a.tmps) = true := by simp [Region.wanted, hy]; simpa using hne
  unfold wpList
  rw [if_neg hw]
  exact h _ _ (s.put hd undef)
theorem l_guard_no0 {op : Op} {j t : Nat} {want b : Bool} (hs : slotOf ops j = some t) (ht : tget tm t = some (.bool b)) (hb : Nat.blt t n = true) (hne : (b == want) = false)
    (h : L P n w0 F0 ops.toArray rest Q tm D H) : L P n w0 F0 ops.toArray (⟨none, op, ty, pos, after, some (j, want)⟩ :: rest) Q tm D H := by
  intro a w s
  have hlt : t < n := by simpa [Nat.blt_eq] using hb
  have hg := s.tm.get t _ ht
  have hy : yielded ops.toArray a.tmps j = some b := by
    unfold yielded
    rw [slotOf_eq hs]
    have : a.tmps[t]? = some (.bool b) := by
      have hl : t < a.tmps.size := by rw [s.tm.size]; exact hlt
      simp [hl] at hg ⊢
      exact hg
    simp [this]
  have hw : ¬ Region.wanted (⟨none, op, ty, pos, after, some (j, want)⟩ : Oper) (yielded ops.toArray a.tmps) = true := by simp [Region.wanted, hy]; simpa using hne
  unfold wpList
  rw [if_neg hw]
  exact h _ _ s
def noBool : Value → Bool
  | .bool _ => false
  | _ => true
theorem yielded_none {a : Act} {j t : Nat} {v : Value} (s : Tm n tm a) (hs : slotOf ops j = some t) (ht : tget tm t = some v) (hv : noBool v = true) (want : Bool) : (yielded ops.toArray a.tmps j == some want) = false := by
  have hg := s.get t _ ht
  unfold yielded
  rw [slotOf_eq hs]
  simp only [Option.bind_some]
  cases hq : a.tmps[t]? with
  | none => rfl
  | some u =>
    have : u = v := by
      have h2 : a.tmps.getD t undef = u := by simp [hq]
      rw [h2] at hg; exact hg
    subst this
    cases u <;> first | rfl | cases hv
theorem l_guard_un {d : Nat} {op : Op} {j t : Nat} {want : Bool} {v : Value} (hs : slotOf ops j = some t) (ht : tget tm t = some v) (hv : noBool v = true) (hd : Nat.blt d n = true)
    (h : L P n w0 F0 ops.toArray rest Q ((d, undef) :: tm) D H) : L P n w0 F0 ops.toArray (⟨some d, op, ty, pos, after, some (j, want)⟩ :: rest) Q tm D H := by
  intro a w s
  have hw : ¬ Region.wanted (⟨some d, op, ty, pos, after, some (j, want)⟩ : Oper) (yielded ops.toArray a.tmps) = true := by simp only [Region.wanted, yielded_none s.tm hs ht hv want]; exact Bool.false_ne_true
  unfold wpList
  rw [if_neg hw]
  exact h _ _ (s.put hd undef)
theorem l_guard_un0 {op : Op} {j t : Nat} {want : Bool} {v : Value} (hs : slotOf ops j = some t) (ht : tget tm t = some v) (hv : noBool v = true)
    (h : L P n w0 F0 ops.toArray rest Q tm D H) : L P n w0 F0 ops.toArray (⟨none, op, ty, pos, after, some (j, want)⟩ :: rest) Q tm D H := by
  intro a w s
  have hw : ¬ Region.wanted (⟨none, op, ty, pos, after, some (j, want)⟩ : Oper) (yielded ops.toArray a.tmps) = true := by simp only [Region.wanted, yielded_none s.tm hs ht hv want]; exact Bool.false_ne_true
  unfold wpList
  rw [if_neg hw]
  exact h _ _ s
/-- A test that is not known yet: both ways. -/
theorem l_guard_split {l : List Oper} {dst : Option Nat} {op : Op} {j t : Nat} {want b : Bool} (hs : slotOf ops j = some t) (ht : tget tm t = some (.bool b))
    (h1 : b = true → L P n w0 F0 ops.toArray (⟨dst, op, ty, pos, after, some (j, want)⟩ :: l) Q ((t, .bool true) :: tm) D H)
    (h0 : b = false → L P n w0 F0 ops.toArray (⟨dst, op, ty, pos, after, some (j, want)⟩ :: l) Q ((t, .bool false) :: tm) D H) :
    L P n w0 F0 ops.toArray (⟨dst, op, ty, pos, after, some (j, want)⟩ :: l) Q tm D H := by
  intro a w s
  have ext : ∀ u, b = u → Tm n ((t, .bool u) :: tm) a := by
    rintro u rfl
    refine ⟨s.tm.size, fun t' v e => ?_⟩
    simp only [tget] at e
    by_cases q : Nat.beq t t' = true
    · rw [q] at e
      have := Nat.eq_of_beq_eq_true q
      subst this
      simp only [cond_true, Option.some.injEq] at e
      subst e
      exact s.tm.get _ _ ht
    · rw [Bool.eq_false_iff.2 q] at e
      exact s.tm.get _ _ e
  cases b
  · exact h0 rfl a w ⟨ext _ rfl, s.defers, s.inv⟩
  · exact h1 rfl a w ⟨ext _ rfl, s.defers, s.inv⟩

/-! Memory -/
theorem cell_at {w : World} {b off : Nat} {c : Array Value} {T : TypeId} {fr : Nat × Nat} (h : w.heap[b]? = some (.cells c T fr)) : w.cell? ⟨b, off, none⟩ = c[off]? := by
  simp [World.cell?, h]

theorem run_loadAt (k : EnvOk P E) {t b off : Nat} {c : List Value} {T : TypeId} {fr : Nat × Nat} {v : Value} {w : World} (hw : w.heap[b]? = some (.cells c.toArray T fr)) (hv : partV E t c off = some v) :
    (Instr.loadAt t (.pointer (some ⟨b, off, none⟩))).run P w = .ok v w := by
  unfold partV at hv
  cases hd : look E.ty t with
  | none => rw [hd] at hv; cases hv
  | some d =>
    rw [hd] at hv
    simp only at hv
    unfold Instr.loadAt loadVar
    simp only [Instr.sureAddr, Sem.run_bind, Sem.run_pure, Result.andThen, run_isAgg k hd]
    cases ha : isAggTy d with
    | true =>
      rw [ha] at hv
      simp only [cond_true] at hv
      cases hi : look E.inf t with
      | none => rw [hi] at hv; cases hv
      | some p =>
        obtain ⟨z, s, by'⟩ := p
        rw [hi] at hv
        simp only at hv
        cases hc : cutL c off s with
        | none => rw [hc] at hv; cases hv
        | some r =>
          rw [hc] at hv
          simp only [Option.some.injEq] at hv
          subst hv
          obtain ⟨rfl, hl⟩ := cutL_spec hc
          have hlen : ((c.drop off).take s).length = s := by simp; omega
          have hload := run_loadCells_list (P := P) w ⟨b, off, none⟩ ((c.drop off).take s) (fun j u hu => by
            have hj : j < s := by have := (List.getElem?_eq_some_iff.1 hu).1; omega
            rw [List.getElem?_take_of_lt hj, List.getElem?_drop] at hu
            have : (⟨b, off, none⟩ : Addr).add j = ⟨b, off + j, none⟩ := by unfold Addr.add; split <;> simp_all
            rw [this, cell_at hw]
            simpa using hu)
          rw [hlen] at hload
          simp only [if_true, Sem.run_bind, run_size k hi, Result.andThen, hload, Sem.run_pure]
    | false =>
      rw [ha] at hv
      simp only [cond_false] at hv
      rw [nth_eq] at hv
      have hc : w.cell? ⟨b, off, none⟩ = some v := by rw [cell_at hw]; simpa using hv
      simp [load, Sem.run, hc]

theorem l_load {d t b off : Nat} {x : Operand} {c : List Value} {T : TypeId} {v : Value} (k : EnvOk P E) (hd : Nat.blt d n = true) (hx : ev tm x = some (.pointer (some ⟨b, off, none⟩)))
    (ht : Take (cl b T c) H H') (hv : partV E t c off = some v) (h : L P n w0 F0 ops.toArray rest Q ((d, v) :: tm) D H) :
    L P n w0 F0 ops.toArray (⟨some d, .load t x, ty, pos, after, none⟩ :: rest) Q tm D H := by
  intro a w s
  obtain ⟨fr, _, hw⟩ := (s.inv.take ht).cell
  refine wpList_value rfl (v := v) (w' := w) ?_ (h _ _ (s.put hd v))
  simp [execOp, ev_sound s.tm hx, run_loadAt k hw hv]

/-- Cells stored one behind the other into an owned row. -/
theorem run_storeC (b off : Nat) (T : TypeId) (fr : Nat × Nat) : ∀ (vs : List Value) (i : Nat) (cur : List Value) (w : World), w.heap[b]? = some (.cells cur.toArray T fr) → (∀ o, o < cur.length → ¬ (fr.1 ≤ o ∧ o < fr.2)) →
    off + i + vs.length ≤ cur.length → (∀ v ∈ vs, v.oneCell' = true) →
    ∃ w', (storeCells ⟨b, off, none⟩ vs i).run P w = .ok () w' ∧ w'.heap[b]? = some (.cells (cur.take (off + i) ++ vs ++ cur.drop (off + i + vs.length)).toArray T fr) ∧
      (∀ c, c ≠ b → w'.heap[c]? = w.heap[c]?) ∧ w'.heap.size = w.heap.size ∧ w'.os = w.os ∧ w'.tape = w.tape ∧ w'.output = w.output
  | [], i, cur, w, hw, _, _, _ => ⟨w, by simp [storeCells], by simpa using hw, fun _ _ => rfl, rfl, rfl, rfl, rfl⟩
  | v :: vs, i, cur, w, hw, hq, hl, h1 => by
    simp only [List.length_cons] at hl
    have hadd : (⟨b, off, none⟩ : Addr).add i = ⟨b, off + i, none⟩ := by unfold Addr.add; split <;> simp_all
    have hi : off + i < cur.length := by omega
    have hcell : w.cell? ⟨b, off + i, none⟩ = some cur[off + i] := by simp [World.cell?, hw, hi]
    have hfro : w.frozen? ⟨b, off + i, none⟩ = false := by
      obtain ⟨f1, f2⟩ := fr
      have := hq _ hi
      simp only [World.frozen?, hw]
      simp only [Bool.and_eq_false_iff, decide_eq_false_iff_not]
      simp only at this
      omega
    have hw1 : (w.setCell ⟨b, off + i, none⟩ v).heap[b]? = some (.cells (cur.set (off + i) v).toArray T fr) := by
      simp [World.setCell, Array.getElem?_modify, hw]
    have hst : (store ((⟨b, off, none⟩ : Addr).add i) v).run P w = .ok () (w.setCell ⟨b, off + i, none⟩ v) := by
      rw [hadd, run_store P w _ v _ (h1 v (by simp)), hcell]
      simp [hfro]
    obtain ⟨w', r, e, n, s, e1, e2, e3⟩ := run_storeC b off T fr vs (i + 1) (cur.set (off + i) v) _ hw1 (by simpa using hq) (by simp; omega) (fun u hu => h1 u (by simp [hu]))
    refine ⟨w', ?_, ?_, ?_, ?_, e1, e2, e3⟩
    · simp only [storeCells, Sem.run_bind, hst, Result.andThen, r]
    · rw [e]
      congr 3
      rw [List.drop_set_of_lt (by omega), show off + (i + 1) + vs.length = off + i + (vs.length + 1) by omega, show off + (i + 1) = off + i + 1 by omega]
      rw [List.take_set, List.take_succ_eq_append_getElem hi, List.set_append_right _ _ (by simp; omega)]
      simp [List.length_take, show min (off + i) cur.length = off + i by omega]
    · intro c hc
      rw [n c hc]
      simp [World.setCell, Array.getElem?_modify, Ne.symm hc]
    · rw [s]; simp [World.setCell]

theorem run_storeAt (k : EnvOk P E) {t b off : Nat} {c vs : List Value} {T : TypeId} {fr : Nat × Nat} {v z : Value} {bys : Nat} {w : World} (hw : w.heap[b]? = some (.cells c.toArray T fr)) (hq : ∀ o, o < c.length → ¬ (fr.1 ≤ o ∧ o < fr.2))
    (hs : look E.inf t = some (z, vs.length, bys)) (hc : cellsV v = some vs) (hl : off + vs.length ≤ c.length) :
    ∃ w', (Instr.storeAt t (.pointer (some ⟨b, off, none⟩)) v).run P w = .ok () w' ∧ w'.heap[b]? = some (.cells (c.take off ++ vs ++ c.drop (off + vs.length)).toArray T fr) ∧
      (∀ c, c ≠ b → w'.heap[c]? = w.heap[c]?) ∧ w'.heap.size = w.heap.size ∧ w'.os = w.os ∧ w'.tape = w.tape ∧ w'.output = w.output := by
  obtain ⟨e1, e2⟩ := cellsV_spec hc
  obtain ⟨w', r, rest⟩ := run_storeC (P := P) b off T fr vs 0 c w hw hq (by simpa using hl) e2
  refine ⟨w', ?_, by simpa using rest⟩
  have hsz : v.cells.size = vs.length := by rw [← e1]; simp
  simp only [Instr.storeAt, Instr.sureAddr, storeVar, Sem.run_bind, Sem.run_pure, Result.andThen, run_size k hs, hsz, e1, ne_eq, not_true, if_false, r]

theorem l_store {t b off : Nat} {x y : Operand} {c c' vs : List Value} {T : TypeId} {v z : Value} {m bys : Nat} (k : EnvOk P E) (hx : ev tm x = some (.pointer (some ⟨b, off, none⟩))) (hy : ev tm y = some v)
    (hs : look E.inf t = some (z, m, bys)) (hc : cellsV v = some vs) (hm : Nat.beq vs.length m = true) (ht : Take (cl b T c) H H') (hl : layL c off vs = some c')
    (h : L P n w0 F0 ops.toArray rest Q tm D (cl b T c' :: H')) : L P n w0 F0 ops.toArray (⟨none, .store t x y, ty, pos, after, none⟩ :: rest) Q tm D H := by
  intro a w s
  obtain rfl := Nat.eq_of_beq_eq_true hm
  have i := s.inv.take ht
  obtain ⟨fr, hq, hw⟩ := i.cell
  obtain ⟨rfl, hlen⟩ := layL_spec hl
  obtain ⟨w', r, e, nn, sz, e1, e2, e3⟩ := run_storeAt k hw hq hs hc hlen
  refine wpList_unit rfl (w' := w') ?_ (h _ _ ⟨s.tm, s.defers, i.set_cl (fr := fr) ?_ e nn sz e1 e2 e3⟩)
  · simp only [execOp, ev_sound s.tm hx, ev_sound s.tm hy, Sem.run_bind, r, Result.andThen, Sem.run_pure]
  · intro o ho
    refine hq o ?_
    simp at ho
    omega

/-- A cell at a place that is a variable's. -/
theorem l_load_at {d t b off : Nat} {x : Operand} {c : List Value} {T : TypeId} {v : Value} {dd : TypeDesc} (k : EnvOk P E) (hd : Nat.blt d n = true) (hx : ev tm x = some (.pointer (some ⟨b, off, none⟩)))
    (ht : Take (cl b T c) H H') (hu : look E.ty t = some dd) (ha : isAggTy dd = false) (hv : c[off]? = some v) (h : L P n w0 F0 ops.toArray rest Q ((d, v) :: tm) D H) :
    L P n w0 F0 ops.toArray (⟨some d, .load t x, ty, pos, after, none⟩ :: rest) Q tm D H :=
  fun a w s => by
    obtain ⟨fr, _, hw⟩ := (s.inv.take ht).cell
    refine wpList_value rfl (v := v) (w' := w) ?_ (h _ _ (s.put hd v))
    have : partV E t c off = some v := by unfold partV; rw [hu]; simp only [ha, cond_false]; rw [nth_eq]; exact hv
    simp [execOp, ev_sound s.tm hx, run_loadAt k hw this]
theorem l_store_at {t b off : Nat} {x y : Operand} {c : List Value} {T : TypeId} {v z : Value} {bys : Nat} (k : EnvOk P E) (hx : ev tm x = some (.pointer (some ⟨b, off, none⟩))) (hy : ev tm y = some v)
    (hs : look E.inf t = some (z, 1, bys)) (hc : cellsV v = some [v]) (ht : Take (cl b T c) H H') (hl : off < c.length)
    (h : L P n w0 F0 ops.toArray rest Q tm D (cl b T (c.set off v) :: H')) : L P n w0 F0 ops.toArray (⟨none, .store t x y, ty, pos, after, none⟩ :: rest) Q tm D H := by
  intro a w s
  have i := s.inv.take ht
  obtain ⟨fr, hq, hw⟩ := i.cell
  obtain ⟨w', r, e, nn, sz, e1, e2, e3⟩ := run_storeAt (vs := [v]) k hw hq hs hc (show off + 1 ≤ c.length from hl)
  have ec : c.take off ++ [v] ++ c.drop (off + 1) = c.set off v := by
    rw [List.set_eq_take_append_cons_drop]; simp [hl]
  refine wpList_unit rfl (w' := w') ?_ (h _ _ ⟨s.tm, s.defers, i.set_cl (fr := fr) ?_ (by rw [e]; simp only [List.length_singleton]; rw [ec]) nn sz e1 e2 e3⟩)
  · simp only [execOp, ev_sound s.tm hx, ev_sound s.tm hy, Sem.run_bind, r, Result.andThen, Sem.run_pure]
  · intro o ho
    exact hq o (by simpa using ho)

theorem l_alloc {d e : Nat} {z : Value} {s bys : Nat} {zs : List Value} (k : EnvOk P E) (hd : Nat.blt d n = true) (hi : look E.inf e = some (z, s, bys)) (hz : cellsV z = some zs)
    (h : ∀ b, L P n w0 F0 ops.toArray rest Q ((d, .pointer (some ⟨b, 0, none⟩)) :: tm) D (cl b e zs :: H)) : L P n w0 F0 ops.toArray (⟨some d, .alloc e, ty, pos, after, none⟩ :: rest) Q tm D H := by
  intro a w st
  obtain ⟨e1, _⟩ := cellsV_spec hz
  have ec : z.cells = zs.toArray := by apply Array.ext'; simpa using e1
  refine wpList_value rfl (v := .pointer (some ⟨w.heap.size, 0, none⟩)) (w' := { w with heap := w.heap.push (.cells zs.toArray e (0, 0)) }) ?_
    (h w.heap.size _ _ ⟨st.tm.put hd _, st.defers, st.inv.new_cl _ _⟩)
  simp [execOp, Instr.alloc, run_zero k hi, newVar, newRow, newObj, Sem.run, ec]

theorem l_box {d e : Nat} {x : Operand} {v : Value} {vs : List Value} (hd : Nat.blt d n = true) (hx : ev tm x = some v) (hz : cellsV v = some vs)
    (h : ∀ b, L P n w0 F0 ops.toArray rest Q ((d, .pointer (some ⟨b, 0, none⟩)) :: tm) D (cl b e vs :: H)) : L P n w0 F0 ops.toArray (⟨some d, .box e x, ty, pos, after, none⟩ :: rest) Q tm D H := by
  intro a w st
  obtain ⟨e1, _⟩ := cellsV_spec hz
  have ec : v.cells = vs.toArray := by apply Array.ext'; simpa using e1
  refine wpList_value rfl (v := .pointer (some ⟨w.heap.size, 0, none⟩)) (w' := { w with heap := w.heap.push (.cells vs.toArray e (0, 0)) }) ?_
    (h w.heap.size _ _ ⟨st.tm.put hd _, st.defers, st.inv.new_cl _ _⟩)
  simp [execOp, ev_sound st.tm hx, Instr.box, newVar, newRow, newObj, Sem.run, ec]

/-! Calls -/
theorem run_call {g : FuncId} {c : Callable P g} {tm : List (Nat × Value)} {a : Act} (ht : Tm n tm a) {f : Operand} {xs : Array Operand} {ts : Array TypeId} {first cap : Array Value} {vs : List Value}
    (hf : ev tm f = some (.func (.func g) first cap)) (hx : evs tm xs.toList = some vs) (dst : Option Nat) (w : World) :
    (execOp a.eval ⟨dst, .call ⟨.value f, xs, ts⟩, ty, pos, after, none⟩).run P w = .ok (.enter g (first.toList ++ vs ++ cap.toList).toArray) w := by
  obtain ⟨fn, h1, h2, h3⟩ := c
  have e1 : xs.map a.eval = vs.toArray := by apply Array.ext'; simpa using evs_sound ht hx
  have e2 : (first ++ vs.toArray) ++ cap = (first.toList ++ vs ++ cap.toList).toArray := by apply Array.ext'; simp
  have hn : ¬ (fn.name == "runtime.NumGoroutine") = true := by rw [h2]; exact Bool.false_ne_true
  have hb : ¬ fn.body.isNone = true := by rw [h3]; exact Bool.false_ne_true
  have hc : (callFunc g ((first ++ vs.toArray) ++ cap)).run P w = .ok (.enter g ((first ++ vs.toArray) ++ cap)) w := by
    unfold callFunc
    simp only [program, Sem.run_bind, Sem.run, Result.andThen, h1, if_neg hn, if_neg hb, Sem.run_pure]
  simp only [execOp, resolve, ev_sound ht hf, e1, Deferred.ofValue, invoke, Sem.run_bind, Sem.run_pure, Result.andThen]
  rw [← e2]
  exact hc

theorem l_call {d g : Nat} {f : Operand} {xs : Array Operand} {ts : Array TypeId} {first cap : Array Value} {vs args : List Value} {K : List SProp} {q : Value → List SProp → Prop} (c : Callable P g) (hd : Nat.blt d n = true)
    (hf : ev tm f = some (.func (.func g) first cap)) (hx : evs tm xs.toList = some vs) (ha : argsO first.toList vs cap.toList = some args) (hs : Does P g args K q) (hp : Parts K H H')
    (h : ∀ v K' H'', q v K' → appO K' H' = some H'' → L P n w0 F0 ops.toArray rest Q ((d, v) :: tm) D H'') : L P n w0 F0 ops.toArray (⟨some d, .call ⟨.value f, xs, ts⟩, ty, pos, after, none⟩ :: rest) Q tm D H := by
  intro a w s
  obtain ⟨F1, s1, back⟩ := (s.inv.parts hp).hand
  obtain rfl := argsO_eq ha
  refine wpList_enter rfl (run_call (c := c) s.tm hf hx _ w) (R := fun v w' => ∃ K', q v K' ∧ Inv w F1 K' w') ?_ ?_
  · exact (hs w F1 s1).mono fun e w' ⟨v, K', he, hq, hi⟩ => ⟨v, he, K', hq, hi⟩
  · rintro v w' ⟨K', hq, hi⟩
    exact h v K' _ hq (appO_eq K' H') _ _ ⟨s.tm.put hd v, s.defers, back hi⟩

theorem l_call0 {g : Nat} {f : Operand} {xs : Array Operand} {ts : Array TypeId} {first cap : Array Value} {vs args : List Value} {K : List SProp} {q : Value → List SProp → Prop} (c : Callable P g)
    (hf : ev tm f = some (.func (.func g) first cap)) (hx : evs tm xs.toList = some vs) (ha : argsO first.toList vs cap.toList = some args) (hs : Does P g args K q) (hp : Parts K H H')
    (h : ∀ v K' H'', q v K' → appO K' H' = some H'' → L P n w0 F0 ops.toArray rest Q tm D H'') : L P n w0 F0 ops.toArray (⟨none, .call ⟨.value f, xs, ts⟩, ty, pos, after, none⟩ :: rest) Q tm D H := by
  intro a w s
  obtain ⟨F1, s1, back⟩ := (s.inv.parts hp).hand
  obtain rfl := argsO_eq ha
  refine wpList_enter rfl (run_call (c := c) s.tm hf hx _ w) (R := fun v w' => ∃ K', q v K' ∧ Inv w F1 K' w') ?_ ?_
  · exact (hs w F1 s1).mono fun e w' ⟨v, K', he, hq, hi⟩ => ⟨v, he, K', hq, hi⟩
  · rintro v w' ⟨K', hq, hi⟩
    exact h v K' _ hq (appO_eq K' H') _ _ ⟨s.tm, s.defers, back hi⟩

end
end Go.Proofs.Ytcbcpgaehdoekaa.SL

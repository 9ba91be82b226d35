/- The framework, part 5: the steps of a walk through one operation. -/
import Derived.Test.YtjcenohbaamadaaSlD
import Derived.Laws.CopyRow
import Derived.Laws.Cells
set_option linter.unusedVariables false
set_option linter.unusedSimpArgs false
namespace Go.Proofs.Ytjcenohbaamadaa.SL

/-- A row of cells, none of them shared with a text. -/
def cl (b : Nat) (T : TypeId) (l : List Value) : SProp := pts b (.cells l.toArray T (0, 0))

def runP (E : Env) (n : Nat) : List Oper → List (Nat × Value) → List (Nat × Value) × List Oper
  | [], tm => (tm, [])
  | ⟨some d, op, ty, pos, after, none⟩ :: rest, tm => (match (bif Nat.blt d n then pureOp E tm op else none) with
    | some v => runP E n rest ((d, v) :: tm)
    | none => (tm, ⟨some d, op, ty, pos, after, none⟩ :: rest))
  | o :: rest, tm => (tm, o :: rest)

/-- Slot number j's own place: where operation j of a region writes. -/
def slotOf (l : List Oper) (j : Nat) : Option Nat :=
  match nth l j with
  | some ⟨d, _, _, _, _, _⟩ => d
  | none => none
theorem slotOf_eq {l : List Oper} {j t : Nat} (h : slotOf l j = some t) : (l.toArray[j]?).bind (·.dst) = some t := by
  unfold slotOf at h
  rw [nth_eq] at h
  split at h
  · rename_i he; simp [he, h]
  · cases h

/-- The cells of a value that is to be stored. -/
def cellsV (v : Value) : Option (List Value) :=
  match v with
  | .agg cs => bif cs.toList.all (·.oneCell') then some cs.toList else none
  | .tuple _ => none
  | v => some [v]
theorem cellsV_spec {v : Value} {vs : List Value} (h : cellsV v = some vs) : v.cells.toList = vs ∧ ∀ u ∈ vs, u.oneCell' = true := by
  unfold cellsV at h
  split at h
  · rename_i cs
    obtain ⟨h1, rfl⟩ := bif_some h
    exact ⟨rfl, by simpa only [List.all_eq_true] using h1⟩
  · cases h
  · rename_i h1 h2
    simp only [Option.some.injEq] at h; subst h
    cases v <;> first | exact absurd rfl (h1 _) | exact absurd rfl (h2 _) | exact ⟨rfl, by simp [Value.oneCell']⟩

def copyO : List Value → List Value → Option (List Value)
  | [], r => some r
  | x :: l, r => match copyO l r with
    | some s => some (x :: s)
    | none => none
theorem copyO_eq : ∀ {l r s : List Value}, copyO l r = some s → s = l ++ r
  | [], r, s, e => by simp [copyO] at e; simp [e]
  | x :: l, r, s, e => by
    simp only [copyO] at e
    cases h : copyO l r with
    | none => rw [h] at e; cases e
    | some q =>
      rw [h] at e
      simp only [Option.some.injEq] at e
      subst e
      rw [copyO_eq h]
      rfl
def argsO (first vs cap : List Value) : Option (List Value) :=
  match copyO vs cap with
  | some r => copyO first r
  | none => none
theorem argsO_eq {first vs cap r : List Value} (h : argsO first vs cap = some r) : first ++ vs ++ cap = r := by
  unfold argsO at h
  split at h
  · rename_i q hq
    rw [copyO_eq h, copyO_eq hq, List.append_assoc]
  · cases h

def appO : List SProp → List SProp → Option (List SProp)
  | [], r => some r
  | x :: l, r => match appO l r with
    | some s => some (x :: s)
    | none => none
theorem appO_eq : ∀ (l r : List SProp), appO l r = some (l ++ r)
  | [], r => rfl
  | x :: l, r => by simp [appO, appO_eq l r]

def Callable (P : Program) (g : FuncId) : Prop := ∃ fn, P.funcs[g]? = some fn ∧ (fn.name == "runtime.NumGoroutine") = false ∧ fn.body.isNone = false

section
variable {P : Program} {E : Env} {n : Nat} {w0 : World} {F0 : Nat → Prop} {Q : Exit → Act → World → Prop} {tm : List (Nat × Value)} {D : List Deferred} {H H' : List SProp} {ops rest : List Oper}
variable {ty : TypeId} {pos : String} {after : Array Edge}

theorem wpList_value {o : Oper} {a : Act} {w w' : World} {v : Value} {ops : Array Oper} (hg : o.guard = none) (hr : (execOp a.eval o).run P w = .ok (.value v) w') (h : wpList P ops Q rest (a.put o.dst v) w') : wpList P ops Q (o :: rest) a w := by
  refine wpList_plain hg fun K hK => ?_
  simp only [Oper.wp, hr, Oper.upon]
  exact hK _ _ h
theorem wpList_unit {o : Oper} {a : Act} {w w' : World} {ops : Array Oper} (hg : o.guard = none) (hr : (execOp a.eval o).run P w = .ok .skip w') (h : wpList P ops Q rest (a.put o.dst undef) w') : wpList P ops Q (o :: rest) a w := by
  refine wpList_plain hg fun K hK => ?_
  simp only [Oper.wp, hr, Oper.upon]
  exact hK _ _ h
theorem wpList_enter {o : Oper} {a : Act} {w w' : World} {f : FuncId} {args : Array Value} {R : Value → World → Prop} {ops : Array Oper} (hg : o.guard = none) (hr : (execOp a.eval o).run P w = .ok (.enter f args) w')
    (hc : Calls P f args w' fun e w'' => ∃ v, e = .returned v ∧ R v w'') (h : ∀ v w'', R v w'' → wpList P ops Q rest (a.put o.dst v) w'') : wpList P ops Q (o :: rest) a w := by
  refine wpList_plain hg fun K hK => ?_
  simp only [Oper.wp, hr, Oper.upon]
  exact hc.mono fun e w'' ⟨v, he, r⟩ => by subst he; exact hK _ _ (h v w'' r)

theorem l_nil (h : N n w0 F0 .normal Q tm D H) : L P n w0 F0 ops.toArray [] Q tm D H := fun a w s => wpList_nil (h a w s)

theorem l_pure {d : Nat} {op : Op} {v : Value} (k : EnvOk P E) (hd : Nat.blt d n = true) (hv : pureOp E tm op = some v) (h : L P n w0 F0 ops.toArray rest Q ((d, v) :: tm) D H) :
    L P n w0 F0 ops.toArray (⟨some d, op, ty, pos, after, none⟩ :: rest) Q tm D H :=
  fun a w s => wpList_value rfl (pureOp_sound k s.tm hv _ _ _ _ _) (h _ _ (s.put hd v))

theorem l_pure_none {op : Op} {v : Value} (k : EnvOk P E) (hv : pureOp E tm op = some v) (h : L P n w0 F0 ops.toArray rest Q tm D H) :
    L P n w0 F0 ops.toArray (⟨none, op, ty, pos, after, none⟩ :: rest) Q tm D H :=
  fun a w s => wpList_value rfl (pureOp_sound k s.tm hv _ _ _ _ _) (h _ _ s)

theorem l_pures (k : EnvOk P E) : ∀ {l : List Oper} {tm tm' : List (Nat × Value)}, runP E n l tm = (tm', rest) → L P n w0 F0 ops.toArray rest Q tm' D H → L P n w0 F0 ops.toArray l Q tm D H
  | [], tm, tm', e, h => by
    simp only [runP, Prod.mk.injEq] at e
    obtain ⟨rfl, rfl⟩ := e
    exact h
  | ⟨some d, op, ty, pos, after, none⟩ :: r, tm, tm', e, h => by
    simp only [runP] at e
    cases hb : Nat.blt d n with
    | false =>
      simp only [hb, cond_false, Prod.mk.injEq] at e
      obtain ⟨rfl, rfl⟩ := e
      exact h
    | true =>
      cases hv : pureOp E tm op with
      | none =>
        simp only [hb, hv, cond_true, Prod.mk.injEq] at e
        obtain ⟨rfl, rfl⟩ := e
        exact h
      | some v =>
        simp only [hb, hv, cond_true] at e
        exact l_pure k hb hv (l_pures k e h)
  | ⟨none, op, ty, pos, after, none⟩ :: r, tm, tm', e, h => by
    simp only [runP, Prod.mk.injEq] at e
    obtain ⟨rfl, rfl⟩ := e
    exact h
  | ⟨some d, op, ty, pos, after, some g⟩ :: r, tm, tm', e, h => by
    simp only [runP, Prod.mk.injEq] at e
    obtain ⟨rfl, rfl⟩ := e
    exact h
  | ⟨none, op, ty, pos, after, some g⟩ :: r, tm, tm', e, h => by
    simp only [runP, Prod.mk.injEq] at e
    obtain ⟨rfl, rfl⟩ := e
    exact h

/-- The same, at least one. -/
theorem l_pures1 {d : Nat} {op : Op} {v : Value} {tm' : List (Nat × Value)} {rest' : List Oper} (k : EnvOk P E) (hd : Nat.blt d n = true) (hv : pureOp E tm op = some v)
    (e : runP E n rest ((d, v) :: tm) = (tm', rest')) (h : L P n w0 F0 ops.toArray rest' Q tm' D H) : L P n w0 F0 ops.toArray (⟨some d, op, ty, pos, after, none⟩ :: rest) Q tm D H :=
  l_pure k hd hv (l_pures k e h)

/-! Guards -/
theorem l_guard_yes {dst : Option Nat} {op : Op} {j t : Nat} {want : Bool} (hs : slotOf ops j = some t) (ht : tget tm t = some (.bool want)) (hb : Nat.blt t n = true)
    (h : L P n w0 F0 ops.toArray (⟨dst, op, ty, pos, after, none⟩ :: rest) Q tm D H) : L P n w0 F0 ops.toArray (⟨dst, op, ty, pos, after, some (j, want)⟩ :: rest) Q tm D H := by
  intro a w s
  have h1 := h a w s
  have hlt : t < n := by simpa [Nat.blt_eq] using hb
  have hg := s.tm.get t _ ht
  have hy : yielded ops.toArray a.tmps j = some want := by
    unfold yielded
    rw [slotOf_eq hs]
    have : a.tmps[t]? = some (.bool want) := by
      have hl : t < a.tmps.size := by rw [s.tm.size]; exact hlt
      simp [hl] at hg ⊢
      exact hg
    simp [this]
  have hw : Region.wanted (⟨dst, op, ty, pos, after, some (j, want)⟩ : Oper) (yielded ops.toArray a.tmps) = true := by simp [Region.wanted, hy]
  unfold wpList at h1 ⊢
  rw [if_pos hw]
  rw [if_pos (show Region.wanted (⟨dst, op, ty, pos, after, none⟩ : Oper) (yielded ops.toArray a.tmps) = true from rfl)] at h1
  exact h1
theorem l_guard_no {d : Nat} {op : Op} {j t : Nat} {want b : Bool} (hs : slotOf ops j = some t) (ht : tget tm t = some (.bool b)) (hb : Nat.blt t n = true) (hne : (b == want) = false) (hd : Nat.blt d n = true)
    (h : L P n w0 F0 ops.toArray rest Q ((d, undef) :: tm) D H) : L P n w0 F0 ops.toArray (⟨some d, op, ty, pos, after, some (j, want)⟩ :: rest) Q tm D H := by
  intro a w s
  have hlt : t < n := by simpa [Nat.blt_eq] using hb
  have hg := s.tm.get t _ ht
  have hy : yielded ops.toArray a.tmps j = some b := by
    unfold yielded
    rw [slotOf_eq hs]
    have : a.tmps[t]? = some (.bool b) := by
      have hl : t < a.tmps.size := by rw [s.tm.size]; exact hlt
      simp [hl] at hg ⊢
      exact hg
    simp [this]
  have hw : ¬ Region.wanted (⟨some d, op, ty, pos, after, some (j, want)⟩ : Oper) (yielded ops.toArray a.tmps) = true := by simp [Region.wanted, hy]; simpa using hne
  unfold wpList
  rw [if_neg hw]
  exact h _ _ (s.put hd undef)
theorem l_guard_no0 {op : Op} {j t : Nat} {want b : Bool} (hs : slotOf ops j = some t) (ht : tget tm t = some (.bool b)) (hb : Nat.blt t n = true) (hne : (b == want) = false)
    (h : L P n w0 F0 ops.toArray rest Q tm D H) : L P n w0 F0 ops.toArray (⟨none, op, ty, pos, after, some (j, want)⟩ :: rest) Q tm D H := by
  intro a w s
  have hlt : t < n := by simpa [Nat.blt_eq] using hb
  have hg := s.tm.get t _ ht
  have hy : yielded ops.toArray a.tmps j = some b := by
    unfold yielded
    rw [slotOf_eq hs]
    have : a.tmps[t]? = some (.bool b) := by
      have hl : t < a.tmps.size := by rw [s.tm.size]; exact hlt
      simp [hl] at hg ⊢
      exact hg
    simp [this]
  have hw : ¬ Region.wanted (⟨none, op, ty, pos, after, some (j, want)⟩ : Oper) (yielded ops.toArray a.tmps) = true := by simp [Region.wanted, hy]; simpa using hne
  unfold wpList
  rw [if_neg hw]
  exact h _ _ s
def noBool : Value → Bool
  | .bool _ => false
  | _ => true
theorem yielded_none {a : Act} {j t : Nat} {v : Value} (s : Tm n tm a) (hs : slotOf ops j = some t) (ht : tget tm t = some v) (hv : noBool v = true) (want : Bool) : (yielded ops.toArray a.tmps j == some want) = false := by
  have hg := s.get t _ ht
  unfold yielded
  rw [slotOf_eq hs]
  simp only [Option.bind_some]
  cases hq : a.tmps[t]? with
  | none => rfl
  | some u =>
    have : u = v := by
      have h2 : a.tmps.getD t undef = u := by simp [hq]
      rw [h2] at hg; exact hg
    subst this
    cases u <;> first | rfl | cases hv
theorem l_guard_un {d : Nat} {op : Op} {j t : Nat} {want : Bool} {v : Value} (hs : slotOf ops j = some t) (ht : tget tm t = some v) (hv : noBool v = true) (hd : Nat.blt d n = true)
    (h : L P n w0 F0 ops.toArray rest Q ((d, undef) :: tm) D H) : L P n w0 F0 ops.toArray (⟨some d, op, ty, pos, after, some (j, want)⟩ :: rest) Q tm D H := by
  intro a w s
  have hw : ¬ Region.wanted (⟨some d, op, ty, pos, after, some (j, want)⟩ : Oper) (yielded ops.toArray a.tmps) = true := by simp only [Region.wanted, yielded_none s.tm hs ht hv want]; exact Bool.false_ne_true
  unfold wpList
  rw [if_neg hw]
  exact h _ _ (s.put hd undef)
theorem l_guard_un0 {op : Op} {j t : Nat} {want : Bool} {v : Value} (hs : slotOf ops j = some t) (ht : tget tm t = some v) (hv : noBool v = true)
    (h : L P n w0 F0 ops.toArray rest Q tm D H) : L P n w0 F0 ops.toArray (⟨none, op, ty, pos, after, some (j, want)⟩ :: rest) Q tm D H := by
  intro a w s
  have hw : ¬ Region.wanted (⟨none, op, ty, pos, after, some (j, want)⟩ : Oper) (yielded ops.toArray a.tmps) = true := by simp only [Region.wanted, yielded_none s.tm hs ht hv want]; exact Bool.false_ne_true
  unfold wpList
  rw [if_neg hw]
  exact h _ _ s
/-- A test that is not known yet: both ways. -/
theorem l_guard_split {l : List Oper} {dst : Option Nat} {op : Op} {j t : Nat} {want b : Bool} (hs : slotOf ops j = some t) (ht : tget tm t = some (.bool b))
    (h1 : b = true → L P n w0 F0 ops.toArray (⟨dst, op, ty, pos, after, some (j, want)⟩ :: l) Q ((t, .bool true) :: tm) D H)
    (h0 : b = false → L P n w0 F0 ops.toArray (⟨dst, op, ty, pos, after, some (j, want)⟩ :: l) Q ((t, .bool false) :: tm) D H) :
    L P n w0 F0 ops.toArray (⟨dst, op, ty, pos, after, some (j, want)⟩ :: l) Q tm D H := by
  intro a w s
  have ext : ∀ u, b = u → Tm n ((t, .bool u) :: tm) a := by
    rintro u rfl
    refine ⟨s.tm.size, fun t' v e => ?_⟩
    simp only [tget] at e
    by_cases q : Nat.beq t t' = true
    · rw [q] at e
      have := Nat.eq_of_beq_eq_true q
      subst this
      simp only [cond_true, Option.some.injEq] at e
      subst e
      exact s.tm.get _ _ ht
    · rw [Bool.eq_false_iff.2 q] at e
      exact s.tm.get _ _ e
  cases b
  · exact h0 rfl a w ⟨ext _ rfl, s.defers, s.inv⟩
  · exact h1 rfl a w ⟨ext _ rfl, s.defers, s.inv⟩

/-! Memory -/
theorem cell_at {w : World} {b off : Nat} {c : Array Value} {T : TypeId} {fr : Nat × Nat} (h : w.heap[b]? = some (.cells c T fr)) : w.cell? ⟨b, off, none⟩ = c[off]? := by
  simp [World.cell?, h]

theorem run_loadAt (k : EnvOk P E) {t b off : Nat} {c : List Value} {T : TypeId} {fr : Nat × Nat} {v : Value} {w : World} (hw : w.heap[b]? = some (.cells c.toArray T fr)) (hv : partV E t c off = some v) :
    (Instr.loadAt t (.pointer (some ⟨b, off, none⟩))).run P w = .ok v w := by
  unfold partV at hv
  cases hd : look E.ty t with
  | none => rw [hd] at hv; cases hv
  | some d =>
    rw [hd] at hv
    simp only at hv
    unfold Instr.loadAt loadVar
    simp only [Instr.sureAddr, Sem.run_bind, Sem.run_pure, Result.andThen, run_isAgg k hd]
    cases ha : isAggTy d with
    | true =>
      rw [ha] at hv
      simp only [cond_true] at hv
      cases hi : look E.inf t with
      | none => rw [hi] at hv; cases hv
      | some p =>
        obtain ⟨z, s, by'⟩ := p
        rw [hi] at hv
        simp only at hv
        cases hc : cutL c off s with
        | none => rw [hc] at hv; cases hv
        | some r =>
          rw [hc] at hv
          simp only [Option.some.injEq] at hv
          subst hv
          obtain ⟨rfl, hl⟩ := cutL_spec hc
          have hlen : ((c.drop off).take s).length = s := by simp; omega
          have hload := run_loadCells_list (P := P) w ⟨b, off, none⟩ ((c.drop off).take s) (fun j u hu => by
            have hj : j < s := by have := (List.getElem?_eq_some_iff.1 hu).1; omega
            rw [List.getElem?_take_of_lt hj, List.getElem?_drop] at hu
            have : (⟨b, off, none⟩ : Addr).add j = ⟨b, off + j, none⟩ := by unfold Addr.add; split <;> simp_all
            rw [this, cell_at hw]
            simpa using hu)
          rw [hlen] at hload
          simp only [if_true, Sem.run_bind, run_size k hi, Result.andThen, hload, Sem.run_pure]
    | false =>
      rw [ha] at hv
      simp only [cond_false] at hv
      rw [nth_eq] at hv
      have hc : w.cell? ⟨b, off, none⟩ = some v := by rw [cell_at hw]; simpa using hv
      simp [load, Sem.run, hc]

theorem l_load {d t b off : Nat} {x : Operand} {c : List Value} {T : TypeId} {v : Value} (k : EnvOk P E) (hd : Nat.blt d n = true) (hx : ev tm x = some (.pointer (some ⟨b, off, none⟩)))
    (ht : Take (cl b T c) H H') (hv : partV E t c off = some v) (h : L P n w0 F0 ops.toArray rest Q ((d, v) :: tm) D H) :
    L P n w0 F0 ops.toArray (⟨some d, .load t x, ty, pos, after, none⟩ :: rest) Q tm D H := by
  intro a w s
  have hw := (s.inv.take ht).get
  refine wpList_value rfl (v := v) (w' := w) ?_ (h _ _ (s.put hd v))
  simp [execOp, ev_sound s.tm hx, run_loadAt k hw hv]

/-- A world in which one owned block has been turned. -/
theorem inv_setRow {w : World} {b : Nat} {T : TypeId} {c c' : List Value} (i : Inv w0 F0 (cl b T c :: H) w) : Inv w0 F0 (cl b T c' :: H) (w.setRow b c'.toArray) := by
  have hw := i.get
  refine i.set (o' := .cells c'.toArray T (0, 0)) (setRow_heap w b c.toArray _ T _ hw) ?_ ?_ rfl rfl rfl
  · intro x hx
    simp [World.setRow, Array.getElem?_modify, Ne.symm hx]
  · simp [World.setRow]

theorem l_store {t b off : Nat} {x y : Operand} {c c' vs : List Value} {T : TypeId} {v z : Value} {bys : Nat} (k : EnvOk P E) (hx : ev tm x = some (.pointer (some ⟨b, off, none⟩))) (hy : ev tm y = some v)
    (hs : look E.inf t = some (z, vs.length, bys)) (hc : cellsV v = some vs) (ht : Take (cl b T c) H H') (hl : layL c off vs = some c')
    (h : L P n w0 F0 ops.toArray rest Q tm D (cl b T c' :: H')) : L P n w0 F0 ops.toArray (⟨none, .store t x y, ty, pos, after, none⟩ :: rest) Q tm D H := by
  intro a w s
  have i := s.inv.take ht
  have hw := i.get
  obtain ⟨e1, e2⟩ := cellsV_spec hc
  obtain ⟨rfl, hlen⟩ := layL_spec hl
  have hst := run_storeCells_at (P := P) b off T vs 0 c.toArray w hw (by simpa using hlen) e2
  simp only [Nat.add_zero] at hst
  refine wpList_unit rfl (w' := w.setRow b (c.take off ++ vs ++ c.drop (off + vs.length)).toArray) ?_ (h _ _ ⟨s.tm, s.defers, inv_setRow i⟩)
  have hsz : v.cells.size = vs.length := by rw [← e1]; simp
  simp only [execOp, ev_sound s.tm hx, ev_sound s.tm hy, Instr.storeAt, Instr.sureAddr, storeVar, Sem.run_bind, Sem.run_pure, Result.andThen, run_size k hs, hsz, e1, ne_eq, not_true, if_false, hst]

theorem l_alloc {d e : Nat} {z : Value} {s bys : Nat} {zs : List Value} (k : EnvOk P E) (hd : Nat.blt d n = true) (hi : look E.inf e = some (z, s, bys)) (hz : cellsV z = some zs)
    (h : ∀ b, L P n w0 F0 ops.toArray rest Q ((d, .pointer (some ⟨b, 0, none⟩)) :: tm) D (cl b e zs :: H)) : L P n w0 F0 ops.toArray (⟨some d, .alloc e, ty, pos, after, none⟩ :: rest) Q tm D H := by
  intro a w st
  obtain ⟨e1, _⟩ := cellsV_spec hz
  have ec : z.cells = zs.toArray := by apply Array.ext'; simpa using e1
  refine wpList_value rfl (v := .pointer (some ⟨w.heap.size, 0, none⟩)) (w' := { w with heap := w.heap.push (.cells zs.toArray e (0, 0)) }) ?_
    (h w.heap.size _ _ ⟨st.tm.put hd _, st.defers, st.inv.alloc _⟩)
  simp [execOp, Instr.alloc, run_zero k hi, newVar, newRow, newObj, Sem.run, ec]

theorem l_box {d e : Nat} {x : Operand} {v : Value} {vs : List Value} (hd : Nat.blt d n = true) (hx : ev tm x = some v) (hz : cellsV v = some vs)
    (h : ∀ b, L P n w0 F0 ops.toArray rest Q ((d, .pointer (some ⟨b, 0, none⟩)) :: tm) D (cl b e vs :: H)) : L P n w0 F0 ops.toArray (⟨some d, .box e x, ty, pos, after, none⟩ :: rest) Q tm D H := by
  intro a w st
  obtain ⟨e1, _⟩ := cellsV_spec hz
  have ec : v.cells = vs.toArray := by apply Array.ext'; simpa using e1
  refine wpList_value rfl (v := .pointer (some ⟨w.heap.size, 0, none⟩)) (w' := { w with heap := w.heap.push (.cells vs.toArray e (0, 0)) }) ?_
    (h w.heap.size _ _ ⟨st.tm.put hd _, st.defers, st.inv.alloc _⟩)
  simp [execOp, ev_sound st.tm hx, Instr.box, newVar, newRow, newObj, Sem.run, ec]

/-! Calls -/
theorem run_call {g : FuncId} {c : Callable P g} {tm : List (Nat × Value)} {a : Act} (ht : Tm n tm a) {f : Operand} {xs : Array Operand} {ts : Array TypeId} {first cap : Array Value} {vs : List Value}
    (hf : ev tm f = some (.func (.func g) first cap)) (hx : evs tm xs.toList = some vs) (dst : Option Nat) (w : World) :
    (execOp a.eval ⟨dst, .call ⟨.value f, xs, ts⟩, ty, pos, after, none⟩).run P w = .ok (.enter g (first.toList ++ vs ++ cap.toList).toArray) w := by
  obtain ⟨fn, h1, h2, h3⟩ := c
  have e1 : xs.map a.eval = vs.toArray := by apply Array.ext'; simpa using evs_sound ht hx
  have e2 : (first ++ vs.toArray) ++ cap = (first.toList ++ vs ++ cap.toList).toArray := by apply Array.ext'; simp
  have hn : ¬ (fn.name == "runtime.NumGoroutine") = true := by rw [h2]; exact Bool.false_ne_true
  have hb : ¬ fn.body.isNone = true := by rw [h3]; exact Bool.false_ne_true
  have hc : (callFunc g ((first ++ vs.toArray) ++ cap)).run P w = .ok (.enter g ((first ++ vs.toArray) ++ cap)) w := by
    unfold callFunc
    simp only [program, Sem.run_bind, Sem.run, Result.andThen, h1, if_neg hn, if_neg hb, Sem.run_pure]
  simp only [execOp, resolve, ev_sound ht hf, e1, Deferred.ofValue, invoke, Sem.run_bind, Sem.run_pure, Result.andThen]
  rw [← e2]
  exact hc

theorem l_call {d g : Nat} {f : Operand} {xs : Array Operand} {ts : Array TypeId} {first cap : Array Value} {vs args : List Value} {K : List SProp} {q : Value → List SProp → Prop} (c : Callable P g) (hd : Nat.blt d n = true)
    (hf : ev tm f = some (.func (.func g) first cap)) (hx : evs tm xs.toList = some vs) (ha : argsO first.toList vs cap.toList = some args) (hs : Does P g args K q) (hp : Parts K H H')
    (h : ∀ v K' H'', q v K' → appO K' H' = some H'' → L P n w0 F0 ops.toArray rest Q ((d, v) :: tm) D H'') : L P n w0 F0 ops.toArray (⟨some d, .call ⟨.value f, xs, ts⟩, ty, pos, after, none⟩ :: rest) Q tm D H := by
  intro a w s
  obtain ⟨F1, s1, back⟩ := (s.inv.parts hp).hand
  obtain rfl := argsO_eq ha
  refine wpList_enter rfl (run_call (c := c) s.tm hf hx _ w) (R := fun v w' => ∃ K', q v K' ∧ Inv w F1 K' w') ?_ ?_
  · exact (hs w F1 s1).mono fun e w' ⟨v, K', he, hq, hi⟩ => ⟨v, he, K', hq, hi⟩
  · rintro v w' ⟨K', hq, hi⟩
    exact h v K' _ hq (appO_eq K' H') _ _ ⟨s.tm.put hd v, s.defers, back hi⟩

theorem l_call0 {g : Nat} {f : Operand} {xs : Array Operand} {ts : Array TypeId} {first cap : Array Value} {vs args : List Value} {K : List SProp} {q : Value → List SProp → Prop} (c : Callable P g)
    (hf : ev tm f = some (.func (.func g) first cap)) (hx : evs tm xs.toList = some vs) (ha : argsO first.toList vs cap.toList = some args) (hs : Does P g args K q) (hp : Parts K H H')
    (h : ∀ v K' H'', q v K' → appO K' H' = some H'' → L P n w0 F0 ops.toArray rest Q tm D H'') : L P n w0 F0 ops.toArray (⟨none, .call ⟨.value f, xs, ts⟩, ty, pos, after, none⟩ :: rest) Q tm D H := by
  intro a w s
  obtain ⟨F1, s1, back⟩ := (s.inv.parts hp).hand
  obtain rfl := argsO_eq ha
  refine wpList_enter rfl (run_call (c := c) s.tm hf hx _ w) (R := fun v w' => ∃ K', q v K' ∧ Inv w F1 K' w') ?_ ?_
  · exact (hs w F1 s1).mono fun e w' ⟨v, K', he, hq, hi⟩ => ⟨v, he, K', hq, hi⟩
  · rintro v w' ⟨K', hq, hi⟩
    exact h v K' _ hq (appO_eq K' H') _ _ ⟨s.tm, s.defers, back hi⟩

end
end Go.Proofs.Ytjcenohbaamadaa.SL

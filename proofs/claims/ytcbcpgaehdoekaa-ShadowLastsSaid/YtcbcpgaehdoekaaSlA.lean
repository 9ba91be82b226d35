/- The framework, part 1: assertions on disjoint parts of the heap, contracts of functions over them, and the judgements of a walk. Nothing here speaks of one program. -/
import Derived.Orders
import Derived.OrdersHeld
import Derived.Tactics
import Derived.Below
set_option linter.unusedVariables false
set_option linter.unusedSimpArgs false
namespace Go.Proofs.Ytcbcpgaehdoekaa.SL

/-- An assertion on a heap and on the blocks that it speaks of. -/
structure SProp where
  holds : Array Obj → (Nat → Prop) → Prop
  loc : ∀ {h h' : Array Obj} {F : Nat → Prop}, holds h F → (∀ b, F b → h'[b]? = h[b]?) → holds h' F
  bnd : ∀ {h : Array Obj} {F : Nat → Prop}, holds h F → ∀ b, F b → b < h.size

theorem lt_of_some {h : Array Obj} {b : Nat} {o : Obj} (e : h[b]? = some o) : b < h.size := (Array.getElem?_eq_some_iff.1 e).1

/-- Block b is o, and the assertion speaks of it alone. -/
def pts (b : Nat) (o : Obj) : SProp where
  holds h F := h[b]? = some o ∧ ∀ x, F x ↔ x = b
  loc := fun ⟨e, f⟩ k => ⟨by rw [k b ((f b).2 rfl)]; exact e, f⟩
  bnd := fun ⟨e, f⟩ x hx => by rw [(f x).1 hx]; exact lt_of_some e

/-- A plain fact. -/
def fact (p : Prop) : SProp where
  holds _ F := p ∧ ∀ x, ¬ F x
  loc := fun ⟨e, f⟩ _ => ⟨e, f⟩
  bnd := fun ⟨_, f⟩ x hx => absurd hx (f x)

def ex {α : Type} (f : α → SProp) : SProp where
  holds h F := ∃ x, (f x).holds h F
  loc := fun ⟨x, e⟩ k => ⟨x, (f x).loc e k⟩
  bnd := fun ⟨x, e⟩ => (f x).bnd e

/-- All of a list, on disjoint blocks. -/
def sep : List SProp → Array Obj → (Nat → Prop) → Prop
  | [], _, F => ∀ b, ¬ F b
  | A :: H, h, F => ∃ F1 F2, A.holds h F1 ∧ sep H h F2 ∧ (∀ b, F1 b → ¬ F2 b) ∧ ∀ b, F b ↔ (F1 b ∨ F2 b)

theorem sep_loc : ∀ {H : List SProp} {h h' : Array Obj} {F : Nat → Prop}, sep H h F → (∀ b, F b → h'[b]? = h[b]?) → sep H h' F
  | [], _, _, _, s, _ => s
  | A :: _, _, _, _, ⟨F1, F2, a, s, d, u⟩, k =>
    ⟨F1, F2, A.loc a (fun b hb => k b ((u b).2 (.inl hb))), sep_loc s (fun b hb => k b ((u b).2 (.inr hb))), d, u⟩

theorem sep_bnd : ∀ {H : List SProp} {h : Array Obj} {F : Nat → Prop}, sep H h F → ∀ b, F b → b < h.size
  | [], _, _, s, b, hb => absurd hb (s b)
  | A :: _, _, _, ⟨_, _, a, s, _, u⟩, b, hb => ((u b).1 hb).elim (A.bnd a b) (sep_bnd s b)

/-- A list as one assertion. -/
def all (H : List SProp) : SProp := ⟨sep H, sep_loc, sep_bnd⟩

theorem sep_congr {h : Array Obj} : ∀ {H : List SProp} {F G : Nat → Prop}, sep H h F → (∀ b, F b ↔ G b) → sep H h G
  | [], _, _, s, e => fun b hb => s b ((e b).2 hb)
  | _ :: _, _, _, ⟨F1, F2, a, s, d, u⟩, e => ⟨F1, F2, a, s, d, fun b => (e b).symm.trans (u b)⟩

theorem sep_append {h : Array Obj} : ∀ {H K : List SProp} {F G : Nat → Prop}, sep H h F → sep K h G → (∀ b, F b → ¬ G b) →
    sep (H ++ K) h (fun b => F b ∨ G b)
  | [], _, _, _, s, t, _ => sep_congr t fun b => ⟨.inr, fun o => o.elim (fun hb => absurd hb (s b)) id⟩
  | _ :: _, _, F, G, ⟨F1, F2, a, s, d, u⟩, t, dj =>
    ⟨F1, fun b => F2 b ∨ G b, a, sep_append s t (fun b hb => dj b ((u b).2 (.inr hb))),
      fun b h1 h2 => h2.elim (d b h1) (dj b ((u b).2 (.inl h1))), fun b => by show F b ∨ G b ↔ _; rw [u b]; exact or_assoc⟩

theorem sep_split {h : Array Obj} : ∀ {H K : List SProp} {F : Nat → Prop}, sep (H ++ K) h F →
    ∃ F1 F2, sep H h F1 ∧ sep K h F2 ∧ (∀ b, F1 b → ¬ F2 b) ∧ ∀ b, F b ↔ (F1 b ∨ F2 b)
  | [], _, F, s => ⟨fun _ => False, F, fun _ hb => hb, s, fun _ hb => hb.elim, fun _ => ⟨.inr, fun o => o.elim False.elim id⟩⟩
  | _ :: _, _, _, ⟨G1, G2, a, s, d, u⟩ => by
    obtain ⟨F1, F2, s1, s2, d2, u2⟩ := sep_split s
    refine ⟨fun b => G1 b ∨ F1 b, F2, ⟨G1, F1, a, s1, fun b h1 h2 => d b h1 ((u2 b).2 (.inl h2)), fun _ => Iff.rfl⟩, s2, ?_, ?_⟩
    · intro b hb h2
      exact hb.elim (fun h1 => d b h1 ((u2 b).2 (.inr h2))) (fun h1 => d2 b h1 h2)
    · intro b
      rw [u b, u2 b]
      exact or_assoc.symm

/-- A stands somewhere in H; the others are H'. -/
inductive Take (A : SProp) : List SProp → List SProp → Prop
  | here {H : List SProp} : Take A (A :: H) H
  | there {B : SProp} {H H' : List SProp} : Take A H H' → Take A (B :: H) (B :: H')

theorem Take.sep {A : SProp} {H H' : List SProp} (t : Take A H H') {h : Array Obj} : ∀ {F : Nat → Prop}, SL.sep H h F → SL.sep (A :: H') h F := by
  induction t with
  | here => exact fun s => s
  | there _ ih =>
    rintro F ⟨F1, F2, b, s, d, u⟩
    obtain ⟨G1, G2, a, s', d', u'⟩ := ih s
    refine ⟨G1, fun x => F1 x ∨ G2 x, a, ⟨F1, G2, b, s', fun x h1 h2 => d x h1 ((u' x).2 (.inr h2)), fun _ => Iff.rfl⟩, ?_, ?_⟩
    · intro x h1 h2
      exact h2.elim (fun h3 => d x h3 ((u' x).2 (.inl h1))) (d' x h1)
    · intro x
      rw [u x, u' x]
      exact ⟨fun o => o.elim (fun q => .inr (.inl q)) (fun o => o.elim .inl (fun q => .inr (.inr q))), fun o => o.elim (fun q => .inr (.inl q)) (fun o => o.elim .inl (fun q => .inr (.inr q)))⟩

/-- H is K and H', in whatever order. -/
inductive Parts : List SProp → List SProp → List SProp → Prop
  | nil {H : List SProp} : Parts [] H H
  | cons {A : SProp} {K H H1 H2 : List SProp} : Take A H H1 → Parts K H1 H2 → Parts (A :: K) H H2

theorem Parts.sep {K H H' : List SProp} (p : Parts K H H') {h : Array Obj} : ∀ {F : Nat → Prop}, SL.sep H h F → SL.sep (K ++ H') h F := by
  induction p with
  | nil => exact fun s => s
  | cons t _ ih =>
    intro F s
    obtain ⟨F1, F2, a, s', d, u⟩ := t.sep s
    exact ⟨F1, F2, a, ih s', d, u⟩

/-- What is owned now, and that all else is as it was in w0, but for the blocks F0 that were owned then. -/
structure Inv (w0 : World) (F0 : Nat → Prop) (H : List SProp) (w : World) : Prop where
  own : ∃ F, sep H w.heap F ∧ ∀ b, b < w0.heap.size → ¬ F0 b → ¬ F b
  frame : ∀ b, b < w0.heap.size → ¬ F0 b → w.heap[b]? = w0.heap[b]?
  size : w0.heap.size ≤ w.heap.size
  os : w.os = w0.os
  tape : w.tape = w0.tape
  output : w.output = w0.output

theorem Inv.start {w : World} {F : Nat → Prop} {H : List SProp} (s : sep H w.heap F) : Inv w F H w :=
  ⟨⟨F, s, fun _ _ n => n⟩, fun _ _ _ => rfl, Nat.le_refl _, rfl, rfl, rfl⟩

theorem Inv.imp {w0 w : World} {F0 : Nat → Prop} {H H' : List SProp} (i : Inv w0 F0 H w)
    (k : ∀ {h : Array Obj} {F : Nat → Prop}, sep H h F → ∃ F', sep H' h F' ∧ ∀ b, F' b → F b) : Inv w0 F0 H' w := by
  obtain ⟨⟨F, s, o⟩, fr, sz, a, b, c⟩ := i
  obtain ⟨F', s', sub⟩ := k s
  exact ⟨⟨F', s', fun x hx n hf => o x hx n (sub x hf)⟩, fr, sz, a, b, c⟩

theorem Inv.parts {w0 w : World} {F0 : Nat → Prop} {K H H' : List SProp} (i : Inv w0 F0 H w) (p : Parts K H H') : Inv w0 F0 (K ++ H') w :=
  i.imp fun s => ⟨_, p.sep s, fun _ h => h⟩
theorem Inv.take {w0 w : World} {F0 : Nat → Prop} {A : SProp} {H H' : List SProp} (i : Inv w0 F0 H w) (p : Take A H H') : Inv w0 F0 (A :: H') w :=
  i.imp fun s => ⟨_, p.sep s, fun _ h => h⟩
/-- What is owned may be forgotten. -/
theorem Inv.drop {w0 w : World} {F0 : Nat → Prop} {K H' : List SProp} (i : Inv w0 F0 (K ++ H') w) : Inv w0 F0 K w :=
  i.imp fun s => by
    obtain ⟨F1, F2, s1, _, _, u⟩ := sep_split s
    exact ⟨F1, s1, fun b hb => (u b).2 (.inl hb)⟩

/-- A part of what is owned may be handed on, and what comes back takes its place. -/
theorem Inv.hand {w0 w : World} {F0 : Nat → Prop} {K H' : List SProp} (i : Inv w0 F0 (K ++ H') w) :
    ∃ F1, sep K w.heap F1 ∧ ∀ {K' : List SProp} {w' : World}, Inv w F1 K' w' → Inv w0 F0 (K' ++ H') w' := by
  obtain ⟨⟨F, s, o⟩, fr, sz, e1, e2, e3⟩ := i
  obtain ⟨F1, F2, s1, s2, d, u⟩ := sep_split s
  refine ⟨F1, s1, fun {K' w'} ⟨⟨G, t, o'⟩, fr', sz', e1', e2', e3'⟩ => ?_⟩
  refine ⟨⟨fun b => G b ∨ F2 b, sep_append t (sep_loc s2 ?_) ?_, ?_⟩, ?_, Nat.le_trans sz sz', e1'.trans e1, e2'.trans e2, e3'.trans e3⟩
  · intro b hb
    exact fr' b (sep_bnd s2 b hb) (fun h1 => d b h1 hb)
  · intro b hg hb
    exact o' b (sep_bnd s2 b hb) (fun h1 => d b h1 hb) hg
  · intro b hb n hg
    have nf := o b hb n
    rcases hg with hg | hg
    · exact o' b (Nat.lt_of_lt_of_le hb sz) (fun h1 => nf ((u b).2 (.inl h1))) hg
    · exact nf ((u b).2 (.inr hg))
  · intro b hb n
    have nf := o b hb n
    rw [fr' b (Nat.lt_of_lt_of_le hb sz) (fun h1 => nf ((u b).2 (.inl h1)))]
    exact fr b hb n
/-- A step that turns owned blocks alone, and makes new ones. -/
theorem Inv.turn {w0 w w' : World} {F0 : Nat → Prop} {K H' K' : List SProp} (i : Inv w0 F0 (K ++ H') w)
    (k : ∀ F, sep K w.heap F → Inv w F K' w') : Inv w0 F0 (K' ++ H') w' := by
  obtain ⟨F1, s1, h⟩ := i.hand
  exact h (k F1 s1)

theorem Inv.drew {w0 w : World} {F0 : Nat → Prop} {H : List SProp} (i : Inv w0 F0 H w) (n : Nat) : Inv w0 F0 H { w with drawn := n } :=
  ⟨i.own, i.frame, i.size, i.os, i.tape, i.output⟩

/-- A new block. -/
theorem Inv.alloc {w0 w : World} {F0 : Nat → Prop} {H : List SProp} (i : Inv w0 F0 H w) (o : Obj) :
    Inv w0 F0 (pts w.heap.size o :: H) { w with heap := w.heap.push o } := by
  have := Inv.turn (K := []) (H' := H) (K' := [pts w.heap.size o]) (w' := { w with heap := w.heap.push o }) i ?_
  · exact this
  · intro F s
    refine ⟨⟨fun b => b = w.heap.size, ⟨fun b => b = w.heap.size, fun _ => False, ⟨by simp, fun _ => Iff.rfl⟩, fun _ h => h, fun _ _ h => h, fun b => by simp⟩, ?_⟩, ?_, by simp, rfl, rfl, rfl⟩
    · intro b hb _ e; omega
    · intro b hb _
      show (w.heap.push o)[b]? = _
      rw [Array.getElem?_push, if_neg (by omega)]

theorem pts_get {b : Nat} {o : Obj} {H : List SProp} {h : Array Obj} {F : Nat → Prop} (s : sep (pts b o :: H) h F) : h[b]? = some o := by
  obtain ⟨_, _, ⟨e, _⟩, _⟩ := s
  exact e
theorem Inv.get {w0 w : World} {F0 : Nat → Prop} {b : Nat} {o : Obj} {H : List SProp} (i : Inv w0 F0 (pts b o :: H) w) : w.heap[b]? = some o := by
  obtain ⟨⟨F, s, _⟩, _⟩ := i
  exact pts_get s

/-- What is owned of one block alone, turned into something else of that block. -/
theorem Inv.set1 {w0 w w' : World} {F0 : Nat → Prop} {b : Nat} {A A' : SProp} {H : List SProp} (i : Inv w0 F0 (A :: H) w) (hA : ∀ {h : Array Obj} {F : Nat → Prop}, A.holds h F → ∀ x, F x ↔ x = b)
    (hb : A'.holds w'.heap (fun x => x = b)) (hn : ∀ c, c ≠ b → w'.heap[c]? = w.heap[c]?) (hs : w'.heap.size = w.heap.size) (e1 : w'.os = w.os) (e2 : w'.tape = w.tape) (e3 : w'.output = w.output) :
    Inv w0 F0 (A' :: H) w' := by
  refine Inv.turn (K := [A]) (K' := [A']) i ?_
  rintro F ⟨F1, F2, a, e, _, u⟩
  have f := hA a
  have hF : ∀ x, F x ↔ x = b := fun x => by rw [u x, f x]; exact ⟨fun o => o.elim id (fun q => absurd q (e x)), .inl⟩
  refine ⟨⟨fun x => x = b, ⟨fun x => x = b, fun _ => False, hb, fun _ q => q, fun _ _ q => q, fun x => by simp⟩, ?_⟩, ?_, by omega, e1, e2, e3⟩
  · intro x _ n q; exact n ((hF x).2 q)
  · intro x _ n; exact hn x (fun q => n ((hF x).2 q))
/-- An owned block turned into another one. -/
theorem Inv.set {w0 w w' : World} {F0 : Nat → Prop} {b : Nat} {o o' : Obj} {H : List SProp} (i : Inv w0 F0 (pts b o :: H) w)
    (hb : w'.heap[b]? = some o') (hn : ∀ c, c ≠ b → w'.heap[c]? = w.heap[c]?) (hs : w'.heap.size = w.heap.size) (e1 : w'.os = w.os) (e2 : w'.tape = w.tape) (e3 : w'.output = w.output) :
    Inv w0 F0 (pts b o' :: H) w' :=
  i.set1 (fun ⟨_, f⟩ => f) ⟨hb, fun _ => Iff.rfl⟩ hn hs e1 e2 e3

/-- A contract: at each heap that has H, the call comes back with a value and a heap that Q tells; all else is as it was. -/
def Does (P : Program) (f : FuncId) (args : List Value) (H : List SProp) (Q : Value → List SProp → Prop) : Prop :=
  ∀ (w : World) (F : Nat → Prop), sep H w.heap F →
    Calls P f args.toArray w fun e w' => ∃ v H', e = .returned v ∧ Q v H' ∧ Inv w F H' w'

theorem Does.mono {P : Program} {f : FuncId} {args : List Value} {H : List SProp} {Q Q' : Value → List SProp → Prop} (s : Does P f args H Q)
    (k : ∀ v H', Q v H' → Q' v H') : Does P f args H Q' :=
  fun w F h => (s w F h).mono fun _ _ ⟨v, H', e, q, i⟩ => ⟨v, H', e, k v H' q, i⟩

/-! ### The frame's slots -/
def tget : List (Nat × Value) → Nat → Option Value
  | [], _ => none
  | (k, v) :: l, t => bif Nat.beq k t then some v else tget l t

structure Tm (n : Nat) (tm : List (Nat × Value)) (a : Act) : Prop where
  size : a.tmps.size = n
  get : ∀ t v, tget tm t = some v → a.tmps.getD t undef = v

theorem Tm.put {n : Nat} {tm : List (Nat × Value)} {a : Act} (h : Tm n tm a) {d : Nat} (hd : Nat.blt d n = true) (v : Value) : Tm n ((d, v) :: tm) (a.put (some d) v) := by
  have hlt : d < n := by simpa [Nat.blt_eq] using hd
  refine ⟨by simp [Act.put, h.size], fun t u e => ?_⟩
  simp only [tget] at e
  by_cases q : Nat.beq d t = true
  · rw [q] at e
    have hdt : d = t := Nat.eq_of_beq_eq_true q
    subst hdt
    simp only [cond_true, Option.some.injEq] at e
    subst e
    simp [Act.put, h.size, hlt]
  · have q' : Nat.beq d t = false := Bool.eq_false_iff.2 q
    rw [q'] at e
    have hne : d ≠ t := fun e' => by subst e'; simp at q'
    have := h.get t u e
    simpa [Act.put, Array.getElem?_setIfInBounds_ne hne] using this

theorem Tm.put_none {n : Nat} {tm : List (Nat × Value)} {a : Act} (h : Tm n tm a) (v : Value) : Tm n tm (a.put none v) := h

/-- Fewer slots told, or told otherwise. -/
def tsub (tm : List (Nat × Value)) : List (Nat × Value) → Prop
  | [] => True
  | (k, v) :: l => tget tm k = some v ∧ tsub tm l
theorem tsub_get {tm : List (Nat × Value)} : ∀ {l : List (Nat × Value)}, tsub tm l → ∀ {t : Nat} {v : Value}, tget l t = some v → tget tm t = some v
  | [], _, _, _, e => by simp [tget] at e
  | (k, u) :: l, ⟨h, r⟩, t, v, e => by
    simp only [tget] at e
    by_cases q : Nat.beq k t = true
    · rw [q] at e
      have := Nat.eq_of_beq_eq_true q
      subst this
      simp only [cond_true, Option.some.injEq] at e
      subst e
      exact h
    · have q' : Nat.beq k t = false := Bool.eq_false_iff.2 q
      rw [q'] at e
      exact tsub_get r e
theorem Tm.sub {n : Nat} {tm l : List (Nat × Value)} {a : Act} (h : Tm n tm a) (s : tsub tm l) : Tm n l a :=
  ⟨h.size, fun t v e => h.get t v (tsub_get s e)⟩

def ev (tm : List (Nat × Value)) : Operand → Option Value
  | .tmp t => tget tm t
  | .const v => some v
  | .global g => some (.pointer (some ⟨g, 0, none⟩))
  | .func f => some (.func (.func f) #[] #[])

theorem ev_sound {n : Nat} {tm : List (Nat × Value)} {a : Act} (h : Tm n tm a) : ∀ {x : Operand} {v : Value}, ev tm x = some v → a.eval x = v
  | .tmp t, v, e => h.get t v e
  | .const _, _, e => Option.some.inj e
  | .global _, _, e => Option.some.inj e
  | .func _, _, e => Option.some.inj e

def evs (tm : List (Nat × Value)) : List Operand → Option (List Value)
  | [] => some []
  | x :: l => match ev tm x with
    | none => none
    | some v => match evs tm l with
      | none => none
      | some vs => some (v :: vs)
theorem evs_sound {n : Nat} {tm : List (Nat × Value)} {a : Act} (h : Tm n tm a) : ∀ {l : List Operand} {vs : List Value}, evs tm l = some vs → l.map a.eval = vs
  | [], _, e => by simpa [evs] using e
  | x :: l, vs, e => by
    simp only [evs] at e
    cases h1 : ev tm x with
    | none => simp [h1] at e
    | some v =>
      cases h2 : evs tm l with
      | none => simp [h1, h2] at e
      | some us =>
        simp [h1, h2] at e
        subst e
        simp [ev_sound h h1, evs_sound h h2]

/-! ### The judgements -/
/-- All that is known at a place: the slots, the deferred calls, what is owned. -/
structure St (n : Nat) (w0 : World) (F0 : Nat → Prop) (tm : List (Nat × Value)) (D : List Deferred) (H : List SProp) (a : Act) (w : World) : Prop where
  tm : Tm n tm a
  defers : a.defers = D
  inv : Inv w0 F0 H w

def G (P : Program) (n : Nat) (w0 : World) (F0 : Nat → Prop) (c : Code) (Q : Exit → Act → World → Prop) (tm : List (Nat × Value)) (D : List Deferred) (H : List SProp) : Prop :=
  ∀ a w, St n w0 F0 tm D H a w → c.wp P Q a w
def N (n : Nat) (w0 : World) (F0 : Nat → Prop) (e : Exit) (Q : Exit → Act → World → Prop) (tm : List (Nat × Value)) (D : List Deferred) (H : List SProp) : Prop :=
  ∀ a w, St n w0 F0 tm D H a w → Q e a w
def L (P : Program) (n : Nat) (w0 : World) (F0 : Nat → Prop) (ops : Array Oper) (l : List Oper) (Q : Exit → Act → World → Prop) (tm : List (Nat × Value)) (D : List Deferred) (H : List SProp) : Prop :=
  ∀ a w, St n w0 F0 tm D H a w → wpList P ops Q l a w

section
variable {P : Program} {n : Nat} {w0 : World} {F0 : Nat → Prop} {Q : Exit → Act → World → Prop} {tm : List (Nat × Value)} {D : List Deferred} {H : List SProp}

theorem St.put {d : Nat} {a : Act} {w : World} (h : St n w0 F0 tm D H a w) (hd : Nat.blt d n = true) (v : Value) : St n w0 F0 ((d, v) :: tm) D H (a.put (some d) v) w :=
  ⟨h.tm.put hd v, h.defers, h.inv⟩

theorem g_seq {x y : Code} (h : G P n w0 F0 x (Exit.then (y.wp P Q) Q) tm D H) : G P n w0 F0 (.seq x y) Q tm D H :=
  fun a w s => wp_seq (h a w s)
theorem n_then {y : Code} (h : G P n w0 F0 y Q tm D H) : N n w0 F0 .normal (Exit.then (y.wp P Q) Q) tm D H := h
theorem n_then_ret {K : Act → World → Prop} (h : N n w0 F0 .ret Q tm D H) : N n w0 F0 .ret (Exit.then K Q) tm D H := h
theorem n_then_exit {id : Nat} {K : Act → World → Prop} (h : N n w0 F0 (.exit id) Q tm D H) : N n w0 F0 (.exit id) (Exit.then K Q) tm D H := h
theorem n_block {id : Nat} (h : N n w0 F0 .normal Q tm D H) : N n w0 F0 .normal (Exit.inBlock id Q) tm D H := h
theorem n_block_ret {id : Nat} (h : N n w0 F0 .ret Q tm D H) : N n w0 F0 .ret (Exit.inBlock id Q) tm D H := h
theorem n_block_hit {id : Nat} (h : N n w0 F0 .normal Q tm D H) : N n w0 F0 (.exit id) (Exit.inBlock id Q) tm D H :=
  fun a w s => by simp only [Exit.inBlock, if_true]; exact h a w s
theorem n_block_miss {id id' : Nat} (hne : Nat.beq id' id = false) (h : N n w0 F0 (.exit id') Q tm D H) : N n w0 F0 (.exit id') (Exit.inBlock id Q) tm D H :=
  fun a w s => by
    have : id' ≠ id := fun e => by subst e; simp at hne
    simp only [Exit.inBlock, if_neg this]; exact h a w s
theorem g_skip (h : N n w0 F0 .normal Q tm D H) : G P n w0 F0 .skip Q tm D H := fun a w s => wp_skip (h a w s)
theorem g_exit {id : Nat} (h : N n w0 F0 (.exit id) Q tm D H) : G P n w0 F0 (.exit id) Q tm D H := fun a w s => wp_exit (h a w s)
theorem g_ret (h : N n w0 F0 .ret Q tm D H) : G P n w0 F0 .ret Q tm D H := fun a w s => wp_ret (h a w s)
theorem g_block {id : Nat} {c : Code} (h : G P n w0 F0 c (Exit.inBlock id Q) tm D H) : G P n w0 F0 (.block id c) Q tm D H := fun a w s => wp_block (h a w s)
theorem g_label {id : Nat} (h : N n w0 F0 .normal Q tm D H) : G P n w0 F0 (.label id) Q tm D H := fun a w s => wp_label (h a w s)
theorem g_cond {c : Operand} {x y : Code} {t : Bool} (hc : ev tm c = some (.bool t)) (ht : t = true → G P n w0 F0 x Q tm D H) (hf : t = false → G P n w0 F0 y Q tm D H) :
    G P n w0 F0 (.cond c x y) Q tm D H :=
  fun a w s => wp_cond_split (ev_sound s.tm hc) (fun e => ht e a w s) (fun e => hf e a w s)
theorem g_cond_t {c : Operand} {x y : Code} (hc : ev tm c = some (.bool true)) (h : G P n w0 F0 x Q tm D H) : G P n w0 F0 (.cond c x y) Q tm D H :=
  fun a w s => wp_cond_true (ev_sound s.tm hc) (h a w s)
theorem g_cond_f {c : Operand} {x y : Code} (hc : ev tm c = some (.bool false)) (h : G P n w0 F0 y Q tm D H) : G P n w0 F0 (.cond c x y) Q tm D H :=
  fun a w s => wp_cond_false (ev_sound s.tm hc) (h a w s)
theorem g_region {id : Nat} {l : List Oper} (h : L P n w0 F0 l.toArray l Q tm D H) : G P n w0 F0 (.region id l.toArray false) Q tm D H :=
  fun a w s => wp_region_lit (h a w s)

/-- Less is known. -/
theorem g_weak {c : Code} {tm' : List (Nat × Value)} {H' : List SProp} (ht : tsub tm tm') (hh : ∀ {w}, Inv w0 F0 H w → Inv w0 F0 H' w) (h : G P n w0 F0 c Q tm' D H') : G P n w0 F0 c Q tm D H :=
  fun a w s => h a w ⟨s.tm.sub ht, s.defers, hh s.inv⟩
theorem n_weak {e : Exit} {tm' : List (Nat × Value)} {H' : List SProp} (ht : tsub tm tm') (hh : ∀ {w}, Inv w0 F0 H w → Inv w0 F0 H' w) (h : N n w0 F0 e Q tm' D H') : N n w0 F0 e Q tm D H :=
  fun a w s => h a w ⟨s.tm.sub ht, s.defers, hh s.inv⟩

/-- A loop: at each round's head there is an x at which the slots and what is owned are as told; every round lowers the measure. -/
theorem g_loop {α : Type} {c : Code} (tmx : α → List (Nat × Value)) (Hx : α → List SProp) (I : α → Prop) (μ : α → Nat) (x0 : α) (h0 : I x0) (ht : tsub tm (tmx x0)) (hh : ∀ {w}, Inv w0 F0 H w → Inv w0 F0 (Hx x0) w)
    (round : ∀ x, I x → G P n w0 F0 c (Exit.then (fun a w => ∃ y, I y ∧ μ y < μ x ∧ St n w0 F0 (tmx y) D (Hx y) a w) Q) (tmx x) D (Hx x)) :
    G P n w0 F0 (.loop c) Q tm D H := by
  have key : ∀ (m : Nat) (x : α), μ x = m → I x → ∀ a w, St n w0 F0 (tmx x) D (Hx x) a w → ∀ (b : Frame) (k : List Item) (cs : List Frame),
      ∃ e a' w', Q e a' w' ∧ Arrives P (lone (b.at a (.code c :: .inLoop c :: k)) cs w) b k cs e a' w' := by
    intro m
    induction m using Nat.strongRecOn with
    | _ m ih =>
      intro x hx hI a w s b k cs
      obtain ⟨e, a₁, w₁, hq, harr⟩ := round x hI a w s b (.inLoop c :: k) cs
      cases e with
      | normal =>
        obtain ⟨y, hIy, hlt, hs⟩ := hq
        obtain ⟨e₂, a₂, w₂, hq₂, harr₂⟩ := ih (μ y) (hx ▸ hlt) y rfl hIy a₁ w₁ hs b k cs
        exact ⟨e₂, a₂, w₂, hq₂, .of_steps (Steps.trans harr (.one step_inLoop)) harr₂⟩
      | exit id => exact ⟨_, a₁, w₁, hq, .pass (x := .inLoop c) rfl (fun _ _ => .inl (by simp)) harr⟩
      | goto l => exact ⟨_, a₁, w₁, hq, .pass (x := .inLoop c) rfl (fun _ _ => .inl (by simp)) harr⟩
      | ret => exact ⟨_, a₁, w₁, hq, .pass (x := .inLoop c) rfl (fun _ _ => .inl (by simp)) harr⟩
      | panic ch => exact ⟨_, a₁, w₁, hq, .pass (x := .inLoop c) rfl (fun _ _ => .inl (by simp)) harr⟩
      | outgrown => exact ⟨_, a₁, w₁, hq, .pass (x := .inLoop c) rfl (fun _ _ => .inl (by simp)) harr⟩
  intro a w s b k cs
  obtain ⟨e, a', w', hq, harr⟩ := key _ x0 rfl h0 a w ⟨s.tm.sub ht, s.defers, hh s.inv⟩ b k cs
  exact ⟨e, a', w', hq, .of_steps (.one step_loop) harr⟩
end
end Go.Proofs.Ytcbcpgaehdoekaa.SL

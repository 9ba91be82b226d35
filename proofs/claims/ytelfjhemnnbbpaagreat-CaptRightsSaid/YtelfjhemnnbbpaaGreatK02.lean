/- Texts SlI, SlJ, SlK, SlL, joined. -/
import Derived.Laws.Append
import Derived.Laws.AppendOwn
import Derived.MapKept
import Derived.Great.BuildSlice
import Derived.Lib.SlKeysI
import Derived.Maps.Own
import Derived.Below
import Derived.Scope
import Derived.Lib.UnsafeStr
import Derived.Laws.Externs
import Derived.KernelRfl
import Derived.Test.YtelfjhemnnbbpaaGreatK01
set_option linter.unusedVariables false
set_option linter.unusedSimpArgs false
namespace Go.Proofs.YtelfjhemnnbbpaaGreat.SL
theorem layL_all : ∀ (c vs : List Value), c.length = vs.length → layL c 0 vs = some vs
 | [], [], _ => rfl
 | x :: c, v :: vs, h => by
  have := layL_all c vs (by simpa using h)
  simp [layL, this]
 | [], v :: vs, h => by simp at h
 | x :: c, [], h => by simp at h
theorem mxI_eq (a b : Int) : mxI a b = max a b := by unfold mxI; cases h : decide (b ≤ a) <;> simp_all <;> omega
theorem mnI_eq (a b : Int) : mnI a b = min a b := by unfold mnI; cases h : decide (a ≤ b) <;> simp_all <;> omega
section
variable {P : Program} {E : Env} {n : Nat} {w0 : World} {F0 : Nat → Prop} {Q : Exit → Act → World → Prop} {tm : List (Nat × Value)} {D : List Deferred} {H H' : List SProp} {ops rest : List Oper}
variable {ty : TypeId} {pos : String} {after : Array Edge}
def Opens {α : Type} (A : SProp) (p : α → Prop) (K : α → List SProp) : Prop := ∀ h F, A.holds h F → ∃ x, p x ∧ sep (K x) h F
def Shuts (K : List SProp) (A : SProp) : Prop := ∀ h F, sep K h F → A.holds h F
theorem Inv.opens {α : Type} {A : SProp} {p : α → Prop} {K : α → List SProp} (o : Opens A p K) {w : World} (i : Inv w0 F0 (A :: H) w) : ∃ x, p x ∧ Inv w0 F0 (K x ++ H) w := by
 obtain ⟨⟨F, ⟨F1, F2, a, s, d, u⟩, hF⟩, r1, r2, r3, r4, r5⟩ := i
 obtain ⟨x, hx, s1⟩ := o _ _ a
 exact ⟨x, hx, ⟨F, sep_congr (sep_append s1 s d) (fun b => (u b).symm), hF⟩, r1, r2, r3, r4, r5⟩
theorem Inv.shuts {A : SProp} {K : List SProp} (o : Shuts K A) {w : World} (i : Inv w0 F0 (K ++ H) w) : Inv w0 F0 (A :: H) w := by
 refine i.imp fun s => ?_
 obtain ⟨F1, F2, s1, s2, d, u⟩ := sep_split s
 exact ⟨_, ⟨F1, F2, o _ _ s1, s2, d, u⟩, fun _ h => h⟩
theorem Inv.shut {A : SProp} {K : List SProp} (o : Shuts K A) (p : Parts K H H') {w : World} (i : Inv w0 F0 H w) : Inv w0 F0 (A :: H') w := (i.parts p).shuts o
theorem g_open {α : Type} {A : SProp} {p : α → Prop} {K : α → List SProp} {c : Code} (o : Opens A p K := by refine hid_opens) (t : Take A H H' := by with_reducible (repeat (first | refine Take.here | apply Take.there))) (h : ∀ x, p x → G P n w0 F0 c Q tm D (K x ++ H')) : G P n w0 F0 c Q tm D H := .mk fun a w s => by
 obtain ⟨x, hx, i⟩ := (s.inv.take t).opens o
 exact h x hx a w ⟨s.tm, s.defers, i⟩
theorem l_open {α : Type} {A : SProp} {p : α → Prop} {K : α → List SProp} {l : List Oper} {ops : Array Oper} (o : Opens A p K := by refine hid_opens) (t : Take A H H' := by with_reducible (repeat (first | refine Take.here | apply Take.there))) (h : ∀ x, p x → L P n w0 F0 ops l Q tm D (K x ++ H')) : L P n w0 F0 ops l Q tm D H := .mk fun a w s => by
 obtain ⟨x, hx, i⟩ := (s.inv.take t).opens o
 exact h x hx a w ⟨s.tm, s.defers, i⟩
theorem g_shut {A : SProp} {K : List SProp} {c : Code} (o : Shuts K A) (p : Parts K H H' := by with_reducible (repeat (first | refine Parts.nil | (apply Parts.cons; repeat (first | refine Take.here | apply Take.there))))) (h : G P n w0 F0 c Q tm D (A :: H')) : G P n w0 F0 c Q tm D H := .mk fun a w s => h a w ⟨s.tm, s.defers, s.inv.shut o p⟩
theorem l_shut {A : SProp} {K : List SProp} {l : List Oper} {ops : Array Oper} (o : Shuts K A) (p : Parts K H H' := by with_reducible (repeat (first | refine Parts.nil | (apply Parts.cons; repeat (first | refine Take.here | apply Take.there))))) (h : L P n w0 F0 ops l Q tm D (A :: H')) : L P n w0 F0 ops l Q tm D H := .mk fun a w s => h a w ⟨s.tm, s.defers, s.inv.shut o p⟩
theorem n_shut {A : SProp} {K : List SProp} {e : Exit} (o : Shuts K A) (p : Parts K H H' := by with_reducible (repeat (first | refine Parts.nil | (apply Parts.cons; repeat (first | refine Take.here | apply Take.there))))) (h : N n w0 F0 e Q tm D (A :: H')) : N n w0 F0 e Q tm D H := .mk fun a w s => h a w ⟨s.tm, s.defers, s.inv.shut o p⟩
theorem g_inv {c : Code} (hh : ∀ {w}, Inv w0 F0 H w → Inv w0 F0 H' w) (h : G P n w0 F0 c Q tm D H') : G P n w0 F0 c Q tm D H := .mk fun a w s => h a w ⟨s.tm, s.defers, hh s.inv⟩
theorem l_inv {l : List Oper} {ops : Array Oper} (hh : ∀ {w}, Inv w0 F0 H w → Inv w0 F0 H' w) (h : L P n w0 F0 ops l Q tm D H') : L P n w0 F0 ops l Q tm D H := .mk fun a w s => h a w ⟨s.tm, s.defers, hh s.inv⟩
theorem n_inv {e : Exit} (hh : ∀ {w}, Inv w0 F0 H w → Inv w0 F0 H' w) (h : N n w0 F0 e Q tm D H') : N n w0 F0 e Q tm D H := .mk fun a w s => h a w ⟨s.tm, s.defers, hh s.inv⟩
def hid {α : Type} (p : α → Prop) (K : α → List SProp) : SProp where
 holds h F := ∃ x, p x ∧ sep (K x) h F
 loc := fun ⟨x, q, e⟩ k => ⟨x, q, sep_loc e k⟩
 bnd := fun ⟨x, _, e⟩ => sep_bnd e
theorem hid_opens {α : Type} {p : α → Prop} {K : α → List SProp} : Opens (hid p K) p K := fun _ _ h => h
theorem hid_shuts {α : Type} {p : α → Prop} {K : α → List SProp} (x : α) (hx : p x) : Shuts (K x) (hid p K) := fun _ _ s => ⟨x, hx, s⟩
def vec (e : TypeId) (sz : Nat) (p : Option Addr) (m cap : Nat) (xs : List Value) : SProp where
 holds h F := xs.length = m * sz ∧ ((p = none ∧ m = 0 ∧ cap = 0 ∧ ∀ x, ¬ F x) ∨
  ∃ g rest, p = some ⟨g, 0, none⟩ ∧ m ≤ cap ∧ cap ≤ maxLen ∧ (xs ++ rest).length = cap * sz ∧ (cl g e (xs ++ rest)).holds h F)
 loc := fun ⟨q, o⟩ k => ⟨q, o.elim .inl fun ⟨g, rest, q1, q2, q3, q4, e⟩ => .inr ⟨g, rest, q1, q2, q3, q4, (cl g _ _).loc e k⟩⟩
 bnd := fun ⟨q, o⟩ x hx => o.elim (fun ⟨_, _, _, f⟩ => absurd hx (f x)) fun ⟨g, rest, q1, q2, q3, q4, e⟩ => (cl g _ _).bnd e x hx
theorem vec_len {e : TypeId} {sz : Nat} {p : Option Addr} {m cap : Nat} {xs : List Value} {w : World} (i : Inv w0 F0 (vec e sz p m cap xs :: H) w) : xs.length = m * sz := by
 obtain ⟨⟨F, ⟨_, _, ⟨q, _⟩, _⟩, _⟩, _⟩ := i
 exact q
theorem vec_opens {e : TypeId} {sz : Nat} {p : Option Addr} {m cap : Nat} {xs : List Value} (hm : 0 < m) :
  Opens (vec e sz p m cap xs) (fun x : Nat × List Value => p = some ⟨x.1, 0, none⟩ ∧ m ≤ cap ∧ cap ≤ maxLen ∧ xs.length = m * sz ∧ (xs ++ x.2).length = cap * sz) (fun x => [cl x.1 e (xs ++ x.2)]) := by
 rintro h F ⟨q, o⟩
 rcases o with ⟨_, rfl, _⟩ | ⟨g, rest, rfl, h1, h2, h3, e1⟩
 ·omega
 ·exact ⟨(g, rest), ⟨rfl, h1, h2, q, h3⟩, F, fun _ => False, e1, fun _ h => h, fun _ _ h => h, fun b => ⟨.inl, fun o => o.elim id False.elim⟩⟩
theorem vec_shuts {e : TypeId} {sz g m cap : Nat} {xs rest : List Value} (h1 : m ≤ cap) (h2 : cap ≤ maxLen) (h3 : xs.length = m * sz) (h4 : (xs ++ rest).length = cap * sz) : Shuts [cl g e (xs ++ rest)] (vec e sz (some ⟨g, 0, none⟩) m cap xs) := by
 rintro h F ⟨F1, F2, a, s, d, u⟩
 have : ∀ b, F b ↔ F1 b := fun b => (u b).trans ⟨fun o => o.elim id (fun q => (s b q).elim), .inl⟩
 obtain ⟨x, f⟩ := a
 exact ⟨h3, .inr ⟨g, rest, rfl, h1, h2, h4, x, fun b => (this b).trans (f b)⟩⟩
theorem vec_nil (e : TypeId) (sz : Nat) {w : World} (i : Inv w0 F0 H w) : Inv w0 F0 (vec e sz none 0 0 [] :: H) w :=
 i.imp fun {h F} s => ⟨F, ⟨fun _ => False, F, ⟨by simp, .inl ⟨rfl, rfl, rfl, fun _ h => h⟩⟩, s, fun _ h => h.elim, fun _ => ⟨.inr, fun o => o.elim False.elim id⟩⟩, fun _ h => h⟩
def ins (p : Option Addr) (m : Nat) (xs : List Value) (o : Obj) : SProp where
 holds h F := xs.length = m ∧ ((m = 0 ∧ ∀ x, ¬ F x) ∨ ∃ (g off : Nat) (row : List Value) (fr : Nat × Nat) (T : TypeId), p = some ⟨g, off, none⟩ ∧ o = .cells row.toArray T fr ∧ (row.drop off).take m = xs ∧ off + m ≤ row.length ∧ (pts g o).holds h F)
 loc := fun ⟨q, z⟩ k => ⟨q, z.elim .inl fun ⟨g, off, row, fr, T, q1, q0, q2, q3, e⟩ => .inr ⟨g, off, row, fr, T, q1, q0, q2, q3, (pts g _).loc e k⟩⟩
 bnd := fun ⟨q, z⟩ x hx => z.elim (fun ⟨_, f⟩ => absurd hx (f x)) fun ⟨g, off, row, fr, T, q1, q0, q2, q3, e⟩ => (pts g _).bnd e x hx
theorem ins_opens {p : Option Addr} {m : Nat} {xs : List Value} {o : Obj} (hm : 0 < m) :
  Opens (ins p m xs o) (fun x : Nat × Nat × List Value × (Nat × Nat) × TypeId => p = some ⟨x.1, x.2.1, none⟩ ∧ o = .cells x.2.2.1.toArray x.2.2.2.2 x.2.2.2.1 ∧ (x.2.2.1.drop x.2.1).take m = xs ∧ x.2.1 + m ≤ x.2.2.1.length ∧ xs.length = m) (fun x => [pts x.1 (.cells x.2.2.1.toArray x.2.2.2.2 x.2.2.2.1)]) := by
 rintro h F ⟨q, z⟩
 rcases z with ⟨rfl, _⟩ | ⟨g, off, row, fr, T, rfl, rfl, h1, h2, e1⟩
 ·omega
 ·exact ⟨(g, off, row, fr, T), ⟨rfl, rfl, h1, h2, q⟩, F, fun _ => False, e1, fun _ h => h, fun _ _ h => h, fun b => ⟨.inl, fun o => o.elim id False.elim⟩⟩
theorem ins_shuts {g off m : Nat} {xs row : List Value} {fr : Nat × Nat} {T : TypeId} (h1 : (row.drop off).take m = xs) (h2 : off + m ≤ row.length) (h3 : xs.length = m) : Shuts [pts g (.cells row.toArray T fr)] (ins (some ⟨g, off, none⟩) m xs (.cells row.toArray T fr)) := by
 rintro h F ⟨F1, F2, a, s, d, u⟩
 have : ∀ b, F b ↔ F1 b := fun b => (u b).trans ⟨fun o => o.elim id (fun q => (s b q).elim), .inl⟩
 obtain ⟨x, f⟩ := a
 exact ⟨h3, .inr ⟨g, off, row, fr, T, rfl, rfl, h1, h2, x, fun b => (this b).trans (f b)⟩⟩
theorem l_append {d t e sz by' m cap k c b off : Nat} {s x : Operand} {p : Option Addr} {z : Value} {xs news row : List Value} {T : TypeId} (ke : EnvOk P E := by refine inferInstance) (hd : Nat.blt d n = true := by refine rfl) (hs : ev tm s = some (.slice p m cap) := by refine rfl) (hx : ev tm x = some (.slice (some ⟨b, off, none⟩) k c) := by refine rfl)
  (ht : look E.ty t = some (.slice e) := by refine rfl) (he : look E.inf e = some (z, sz, by') := by refine rfl) (hz : z.cells.size = sz := by refine rfl) (tv : Take (vec e sz p m cap xs) H H' := by with_reducible (repeat (first | refine Take.here | apply Take.there))) (hb : ∃ H2, Take (cl b T row) H' H2 := by refine ⟨_, ?_⟩; with_reducible (repeat (first | refine Take.here | apply Take.there))) (hn : (row.drop off).take (k * sz) = news := by refine rfl) (hl : news.length = k * sz := by refine rfl) (h1 : news.all (·.oneCell') = true := by refine rfl)
  (hfit : m + k ≤ 9223372036854775807 ∧ (m + k) * by' ≤ 140737488355328 := by first | assumption | omega | (refine ⟨?_, ?_⟩ <;> omega) | (simp only [List.length_cons, List.length_nil, str] at *; omega) | (simp only [List.length_append] at *; omega) | (simp only [List.length_take, List.length_drop, List.length_cons, List.length_nil]; omega)) (h : ∀ p' cap', L P n w0 F0 ops.toArray rest Q ((d, .slice p' (m + k) cap') :: tm) D (vec e sz p' (m + k) cap' (xs ++ news) :: H')) :
  L P n w0 F0 ops.toArray (⟨some d, .call { callee := .builtin .append, args := #[s, x], argTypes := #[t, t] }, ty, pos, after, none⟩ :: rest) Q tm D H := by
 refine .mk fun a w st => ?_
 have i := st.inv.take tv
 obtain ⟨H2, tb⟩ := hb
 have hsl := ev_sound st.tm hs
 have hxl := ev_sound st.tm hx
 have hcell : ∀ j u, news[j]? = some u → w.cell? ((⟨b, off, none⟩ : Addr).add j) = some u := by
  have i2 := i.parts (Parts.cons (Take.there tb) Parts.nil)
  obtain ⟨fr, _, hw⟩ := Inv.cell (i2 : Inv w0 F0 (cl b T row :: _) w)
  intro j u hu
  have hj : j < k * sz := by have := (List.getElem?_eq_some_iff.1 hu).1; omega
  rw [← hn, List.getElem?_take_of_lt hj, List.getElem?_drop] at hu
  have : (⟨b, off, none⟩ : Addr).add j = ⟨b, off + j, none⟩ := by unfold Addr.add; split <;> simp_all
  rw [this, cell_at hw]
  simpa using hu
 have h1' : ∀ u ∈ news, u.oneCell' = true := by simpa only [List.all_eq_true] using h1
 have hu := ke.under ht
 obtain ⟨info, hi, hi1, hi2, hi3⟩ := ke.info he
 subst hi2 hi3
 obtain ⟨hf1, hf2⟩ := hfit
 have hf1 : m + k ≤ maxLen := by simp only [maxLen]; exact hf1
 have h63 : m + k ≤ 9223372036854775807 := by simp only [maxLen] at hf1; omega
 have key : ∃ p' cap' w', (Builtin.append_ #[t, t] ty #[.slice p m cap, .slice (some ⟨b, off, none⟩) k c]).run P w = .ok (.slice p' (m + k) cap') w' ∧ Inv w0 F0 ([vec e info.size p' (m + k) cap' (xs ++ news)] ++ H') w' := by
  obtain ⟨⟨F, ⟨F1, F2, ⟨hxs, hv⟩, _⟩, _⟩, _⟩ := id i
  have hlen : (xs ++ news).length = (m + k) * info.size := by rw [List.length_append, hxs, hl, Nat.add_mul]
  have fresh : ∀ old, (w.drew.alloc (.cells (xs.toArray ++ news.toArray ++ Builtin.zeroCells z.cells (grownCap w (m + k) old e - (m + k))) e)).heap = w.heap.push (.cells (xs.toArray ++ news.toArray ++ Builtin.zeroCells z.cells (grownCap w (m + k) old e - (m + k))) e (0, 0)) := fun _ => rfl
  have new : ∀ old, Inv w0 F0 ([vec e info.size (some ⟨w.heap.size, 0, none⟩) (m + k) (grownCap w (m + k) old e) (xs ++ news)] ++ H') (w.drew.alloc (.cells (xs.toArray ++ news.toArray ++ Builtin.zeroCells z.cells (grownCap w (m + k) old e - (m + k))) e)) := by
   intro old
   have hge := grownCap_ge w (m + k) old e
   have hcm : grownCap w (m + k) old e ≤ maxLen := grownCap_le_maxLen w (m + k) old e hf1
   refine Inv.turn (K := [vec e info.size p m cap xs]) i fun G sG => ?_
   have e0 : (w.heap.push (.cells (xs.toArray ++ news.toArray ++ Builtin.zeroCells z.cells (grownCap w (m + k) old e - (m + k))) e (0, 0)))[w.heap.size]? = some (.cells ((xs ++ news) ++ (Builtin.zeroCells z.cells (grownCap w (m + k) old e - (m + k))).toList).toArray e (0, 0)) := by
    simp only [Array.getElem?_push_size, Option.some.injEq, Obj.cells.injEq, and_true]
    apply Array.ext'; simp
   refine ⟨⟨fun x => x = w.heap.size, ⟨fun x => x = w.heap.size, fun _ => False, ⟨hlen, .inr ⟨w.heap.size, (Builtin.zeroCells z.cells (grownCap w (m + k) old e - (m + k))).toList, rfl, hge, hcm, ?_, ⟨⟨(0, 0), fun _ _ h => by omega, e0⟩, fun _ => Iff.rfl⟩⟩⟩, fun _ h => h, fun _ _ h => h, fun _ => ⟨.inl, fun o => o.elim id False.elim⟩⟩, fun x hx _ e => by omega⟩, ?_, by rw [fresh]; simp, rfl, rfl, rfl⟩
   ·rw [List.length_append, hlen, Array.length_toList, size_zeroCells, hz, ← Nat.add_mul]
    congr 1; omega
   ·intro x hx _
    rw [fresh, Array.getElem?_push_lt hx, Array.getElem?_eq_getElem hx]
  rcases hv with ⟨rfl, rfl, rfl, hF1⟩ | ⟨g, row', rfl, hc1, hc2, hc3, ⟨⟨fr, hfr, e1⟩, hF1⟩⟩
  ·have hx0 : xs = [] := List.eq_nil_of_length_eq_zero (by simpa using hxs)
   subst hx0
   by_cases hk : k = 0
   ·subst hk
    have hn0 : news = [] := List.eq_nil_of_length_eq_zero (by simpa using hl)
    subst hn0
    refine ⟨none, 0, w, ?_, i⟩
    simp [Builtin.append_, run_underlying hu, sizeOf, typeInfo, hi, Builtin.lenOf, Builtin.firstCells, loadCells, loadCellsFrom]
   ·have hr := run_append_nil (P := P) w t ty e info z hu hi hi1 ⟨b, off, none⟩ k c news hl hcell (by omega) (by omega) (by rw [Nat.zero_add] at hf2; omega)
    have := new 0
    simp only [Nat.zero_add, List.nil_append, Array.empty_append] at this ⊢
    exact ⟨_, _, _, hr, this⟩
  ·by_cases hroom : m + k ≤ cap
   ·have hfit : m * info.size + news.length ≤ (xs ++ row').length := by rw [hl, hc3, ← Nat.add_mul]; exact Nat.mul_le_mul_right _ hroom
    obtain ⟨w', hr, e2, nn, hs', f1, f2, f3⟩ := run_storeC (P := P) g (m * info.size) e fr news 0 (xs ++ row') w e1 hfr (by simpa using hfit) h1'
    have hf := run_firstCells_some (P := P) w info.size k ⟨b, off, none⟩ k c news hl hcell
    have hr2 : (Builtin.append_ #[t, t] ty #[.slice (some ⟨g, 0, none⟩) m cap, .slice (some ⟨b, off, none⟩) k c]).run P w = .ok (.slice (some ⟨g, 0, none⟩) (m + k) cap) w' := by
     simp [Builtin.append_, run_underlying hu, sizeOf, typeInfo, hi, Builtin.lenOf, hroom, hf, Addr.add_lit, hr]
    refine ⟨_, _, _, hr2, ?_⟩
    refine Inv.turn (K := [vec e info.size (some ⟨g, 0, none⟩) m cap xs]) i fun G sG => ?_
    obtain ⟨G1, G2, ⟨_, g1⟩, g2, _, gu⟩ := sG
    have hG : ∀ x, G x ↔ x = g := by
     rcases g1 with ⟨q, _⟩ | ⟨g', row2, q, _, _, _, _, q2⟩
     ·cases q
     ·simp only [Option.some.injEq, Addr.mk.injEq, and_true, true_and] at q
      subst q
      intro x
      rw [gu x, q2 x]
      exact ⟨fun o => o.elim id (fun o => (g2 x o).elim), .inl⟩
    have e3 : (List.take (m * info.size + 0) (xs ++ row') ++ news ++ List.drop (m * info.size + 0 + news.length) (xs ++ row')) = (xs ++ news) ++ row'.drop news.length := by
     rw [← hxs]
     simp [List.drop_append]
    rw [e3] at e2
    have hlen2 : (xs ++ news ++ row'.drop news.length).length = cap * info.size := by
     simp only [List.length_append, List.length_drop] at hc3 hfit ⊢
     omega
    refine ⟨⟨G, ⟨G, fun _ => False, ⟨hlen, .inr ⟨g, row'.drop news.length, rfl, hroom, hc2, hlen2, ⟨⟨fr, fun o ho => hfr o (by rw [hc3, ← hlen2]; exact ho), e2⟩, hG⟩⟩⟩, fun _ h => h, fun _ _ h => h, fun _ => ⟨.inl, fun o => o.elim id False.elim⟩⟩, fun x _ h => h⟩, ?_, by omega, f1, f2, f3⟩
    intro x _ hx
    exact nn x (fun q => hx ((hG x).2 q))
   ·have holds : ∀ j u, xs[j]? = some u → w.cell? ((⟨g, 0, none⟩ : Addr).add j) = some u := by
     intro j u hu'
     have : (⟨g, 0, none⟩ : Addr).add j = ⟨g, j, none⟩ := by unfold Addr.add; split <;> simp_all
     rw [this, cell_at e1]
     have hj := (List.getElem?_eq_some_iff.1 hu').1
     rw [List.getElem?_toArray, List.getElem?_append_left hj]
     exact hu'
    have hr := run_append_grow (P := P) w t ty e info z hu hi hi1 ⟨g, 0, none⟩ m cap xs hxs holds ⟨b, off, none⟩ k c news hl hcell (by omega) (by omega) (growslice_fits (by omega) hf2)
    exact ⟨_, _, _, hr, new cap⟩
 obtain ⟨p', cap', w', hr, hi'⟩ := key
 refine wpList_value rfl (v := .slice p' (m + k) cap') (w' := w') ?_ (h p' cap' _ _ ⟨st.tm.put hd _, st.defers, hi'⟩)
 simp only [execOp, resolve, invoke, builtin, Sem.run_bind, Sem.run_pure, Result.andThen_ok, List.map_toArray, List.map_cons, List.map_nil, hsl, hxl, hr]
theorem l_append_new {d t e sz by' m cap b c : Nat} {s x : Operand} {p : Option Addr} {z : Value} {xs row : List Value} {T : TypeId} {H2 : List SProp} (ke : EnvOk P E := by refine inferInstance) (hd : Nat.blt d n = true := by refine rfl) (hs : ev tm s = some (.slice p m cap) := by refine rfl) (hx : ev tm x = some (.slice (some ⟨b, 0, none⟩) 1 c) := by refine rfl)
  (ht : look E.ty t = some (.slice e) := by refine rfl) (he : look E.inf e = some (z, sz, by') := by refine rfl) (hz : Nat.beq z.cells.size sz = true := by refine rfl) (tv : Take (vec e sz p m cap xs) H H' := by with_reducible (repeat (first | refine Take.here | apply Take.there))) (tb : Take (cl b T row) H' H2 := by with_reducible (repeat (first | refine Take.here | apply Take.there))) (hl : Nat.beq row.length sz = true := by refine rfl) (h1 : row.all (·.oneCell') = true := by refine rfl)
  (hfit : m + 1 ≤ 9223372036854775807 ∧ (m + 1) * by' ≤ 140737488355328 := by first | assumption | omega | (refine ⟨?_, ?_⟩ <;> omega) | (simp only [List.length_cons, List.length_nil, str] at *; omega) | (simp only [List.length_append] at *; omega) | (simp only [List.length_take, List.length_drop, List.length_cons, List.length_nil]; omega)) (h : ∀ p' cap', L P n w0 F0 ops.toArray rest Q ((d, .slice p' (m + 1) cap') :: tm) D (vec e sz p' (m + 1) cap' (xs ++ row) :: H2)) :
  L P n w0 F0 ops.toArray (⟨some d, .call { callee := .builtin .append, args := #[s, x], argTypes := #[t, t] }, ty, pos, after, none⟩ :: rest) Q tm D H := by
 have hl := Nat.eq_of_beq_eq_true hl
 have hz := Nat.eq_of_beq_eq_true hz
 refine l_append ke hd hs hx ht he hz tv ⟨_, tb⟩ (news := row) (by rw [List.drop_zero, Nat.one_mul, ← hl, List.take_length]) (by omega) h1 hfit fun p' cap' => ?_
 exact l_inv (fun i => i.imp fun {h F} s => by
  obtain ⟨F1, F2, a, s2, dj, u⟩ := s
  obtain ⟨G1, G2, _, s3, _, u3⟩ := tb.sep s2
  exact ⟨fun x => F1 x ∨ G2 x, ⟨F1, G2, a, s3, fun x h1 h2 => dj x h1 ((u3 x).2 (.inr h2)), fun _ => Iff.rfl⟩, fun x hx => (u x).2 (hx.elim .inl fun q => .inr ((u3 x).2 (.inr q)))⟩) (h p' cap')
theorem l_buildSlice1 {d t e by' : Nat} {x : Operand} {v z : Value} {zs vs : List Value} {sz : Nat} (k : EnvOk P E := by refine inferInstance) (hd : Nat.blt d n = true := by refine rfl) (hx : ev tm x = some v := by refine rfl) (ht : look E.ty t = some (.slice e) := by refine rfl) (he : look E.inf e = some (z, sz, by') := by refine rfl) (hz : cellsV z = some zs := by refine rfl) (hv : cellsV v = some vs := by refine rfl)
  (hsz : Nat.beq vs.length sz = true ∧ Nat.beq zs.length sz = true ∧ Nat.ble 1 sz = true ∧ Nat.ble sz 1000 = true := by refine ⟨rfl, rfl, rfl, rfl⟩) (h : ∀ b, L P n w0 F0 ops.toArray rest Q ((d, .slice (some ⟨b, 0, none⟩) 1 1) :: tm) D (cl b e vs :: H)) :
  L P n w0 F0 ops.toArray (⟨some d, .buildSlice t 1 #[(0, x)], ty, pos, after, none⟩ :: rest) Q tm D H := by
 refine .mk fun a w st => ?_
 obtain ⟨q1, q2, q3, q4⟩ := hsz
 have q1 := Nat.eq_of_beq_eq_true q1
 have q2 := Nat.eq_of_beq_eq_true q2
 have q3 := Nat.le_of_ble_eq_true q3
 have q4 := Nat.le_of_ble_eq_true q4
 obtain ⟨e1, _⟩ := cellsV_spec hz
 obtain ⟨e2, _⟩ := cellsV_spec hv
 have ec : z.cells = zs.toArray := by apply Array.ext'; simpa using e1
 have ev' : v.cells = vs.toArray := by apply Array.ext'; simpa using e2
 refine wpList_value rfl (v := .slice (some ⟨w.heap.size, 0, none⟩) 1 1) (w' := { w with heap := w.heap.push (.cells vs.toArray e (0, 0)) }) ?_ (h w.heap.size _ _ ⟨st.tm.put hd _, st.defers, st.inv.new_cl _ _⟩)
 obtain ⟨info, hi, hi1, hi2, hi3⟩ := k.info he
 subst hi2
 have hfill : Instr.fill (fun i => some (i * info.size, info.size)) ((Array.range (1 * info.size)).map (z.cells[· % z.cells.size]!)) [(0, v)] = some vs.toArray := by
  have hl := layL_all ((Array.range (1 * info.size)).map (z.cells[· % z.cells.size]!)).toList vs (by simp [q1])
  rw [← e2] at hl
  obtain ⟨h1, h2⟩ := fold_lay hl
  simp only [Instr.fill, Nat.zero_mul]
  rw [if_neg (by simp [ev', q1]), h2, e2]
 have hr := run_buildSlice w t e 1 #[(0, v)] vs.toArray info z (k.under ht) hi hi1 (by omega) (by omega) hfill
 simp only [execOp, Sem.run_bind, List.map_toArray, List.map_cons, List.map_nil, ev_sound st.tm hx, hr, Result.andThen_ok, Sem.run_pure]
 rfl
theorem l_bytes_of {d st dt e : Nat} {x : Operand} {l : List UInt8} (k : EnvOk P E := by refine inferInstance) (hd : Nat.blt d n = true := by refine rfl) (hx : ev tm x = some (.string ⟨⟨l⟩⟩) := by refine rfl) (hs : look E.ty st = some .string := by refine rfl) (hdt : look E.ty dt = some (.slice e) := by refine rfl) (he : look E.ty e = some (.int .u8) := by refine rfl)
  (h : ∀ b cap, l.length ≤ cap → L P n w0 F0 ops.toArray rest Q ((d, .slice (some ⟨b, 0, none⟩) l.length cap) :: tm) D (cl b e (bsV (l ++ List.replicate (cap - l.length) 0)) :: H)) :
  L P n w0 F0 ops.toArray (⟨some d, .convert st dt x, ty, pos, after, none⟩ :: rest) Q tm D H := by
 refine .mk fun a w s => ?_
 have hge := grownCap_ge w l.length 0 e
 have key : ∃ w', (Conv.stringToBytes e (str l)).run P w = .ok (.slice (some ⟨w.heap.size, 0, none⟩) l.length (grownCap w l.length 0 e)) w' ∧
   w'.heap = w.heap.push (.cells (bsV (l ++ List.replicate (grownCap w l.length 0 e - l.length) 0)).toArray e ((bsV (l ++ List.replicate (grownCap w l.length 0 e - l.length) 0)).length, (bsV (l ++ List.replicate (grownCap w l.length 0 e - l.length) 0)).length + 1)) ∧ w'.os = w.os ∧ w'.tape = w.tape ∧ w'.output = w.output := by
  have el : (((str l).data.map fun (c : UInt8) => Value.int .u8 c.toNat) ++ Array.replicate (grownCap w l.length 0 e - l.length) (.int .u8 0)) = (bsV (l ++ List.replicate (grownCap w l.length 0 e - l.length) 0)).toArray := by
   apply Array.ext'; simp [bsV]; rfl
  have hsz : (str l).size = l.length := rfl
  have hg : grownCap w l.length 0 e = (Question.appendCap l.length 0 e).cut (w.tape w.drawn (.appendCap l.length 0 e)) := rfl
  refine ⟨(w.drew.alloc (.cells (bsV (l ++ List.replicate (grownCap w l.length 0 e - l.length) 0)).toArray e)).freeze ⟨w.heap.size, (bsV (l ++ List.replicate (grownCap w l.length 0 e - l.length) 0)).length, none⟩ 1, ?_, ?_, rfl, rfl, rfl⟩
  ·simp only [Conv.stringToBytes, Sem.run_bind, run_choose_drew, hsz]
   rw [if_neg (by simp [Question.forced])]
   simp only [Result.andThen, ← hg, el, newRow, Sem.run_bind, run_newObj_alloc, Sem.run_pure, markStringish, run_shape]
   have hshape : (w.drew.alloc (.cells (bsV (l ++ List.replicate (grownCap w l.length 0 e - l.length) 0)).toArray e)).shape? w.heap.size = some (e, (bsV (l ++ List.replicate (grownCap w l.length 0 e - l.length) 0)).length) := by
    unfold World.shape?
    rw [show (w.drew.alloc (.cells (bsV (l ++ List.replicate (grownCap w l.length 0 e - l.length) 0)).toArray e)).heap[w.heap.size]? = some (.cells (bsV (l ++ List.replicate (grownCap w l.length 0 e - l.length) 0)).toArray e (0, 0)) from heap_alloc_new w.drew _]
    rfl
   have hd' : w.drew.heap.size = w.heap.size := rfl
   simp only [hd', hshape, Result.andThen, run_freeze]
  ·simp only [World.freeze, Nat.one_ne_zero, if_false]
   apply Array.ext_getElem?
   intro j
   simp only [World.alloc]
   rw [Array.getElem?_modify]
   by_cases hj : j = w.heap.size
   ·subst hj
    have hd' : w.drew.heap = w.heap := rfl
    rw [hd']
    simp
   ·have hd' : w.drew.heap = w.heap := rfl
    rw [if_neg (fun q => hj q.symm), hd', Array.getElem?_push, Array.getElem?_push, if_neg hj, if_neg hj]
 obtain ⟨w', hr, hh, h1, h2, h3⟩ := key
 have hr' : (Conv.stringToBytes e ⟨⟨l⟩⟩).run P w = .ok (.slice (some ⟨w.heap.size, 0, none⟩) l.length (grownCap w l.length 0 e)) w' := hr
 refine wpList_value rfl (v := .slice (some ⟨w.heap.size, 0, none⟩) l.length (grownCap w l.length 0 e)) (w' := w') ?_ (h w.heap.size _ hge _ _ ⟨s.tm.put hd _, s.defers, ?_⟩)
 ·simp only [execOp, ev_sound s.tm hx, convert, Sem.run_bind, run_underlying (k.under hs), run_underlying (k.under hdt), Result.andThen, run_underlying (k.under he), hr', Sem.run_pure]
 ·have i := (s.inv.alloc (.cells (bsV (l ++ List.replicate (grownCap w l.length 0 e - l.length) 0)).toArray e ((bsV (l ++ List.replicate (grownCap w l.length 0 e - l.length) 0)).length, (bsV (l ++ List.replicate (grownCap w l.length 0 e - l.length) 0)).length + 1))).to_cl (fun o ho q => by simp only at q; omega)
  obtain ⟨i1, i2, i3, i4, i5, i6⟩ := i
  exact ⟨by rw [hh]; exact i1, by rw [hh]; exact i2, by rw [hh]; exact i3, h1.trans i4, h2.trans i5, h3.trans i6⟩
theorem l_copy_str {d t st e b off m cap by' : Nat} {x y : Operand} {T : TypeId} {r l : List UInt8} {z : Value} (k : EnvOk P E := by refine inferInstance) (hd : Nat.blt d n = true := by refine rfl) (hx : ev tm x = some (.slice (some ⟨b, off, none⟩) m cap) := by refine rfl) (hy : ev tm y = some (.string ⟨⟨l⟩⟩) := by refine rfl)
  (ht : look E.ty t = some (.slice e) := by refine rfl) (he : look E.inf e = some (z, 1, by') := by refine rfl) (tk : Take (cl b T (bsV r)) H H' := by with_reducible (repeat (first | refine Take.here | apply Take.there))) (hb : off + m ≤ r.length := by first | omega | (simp only [List.length_replicate, List.length_append, List.length_set, List.length_cons, List.length_nil] at *; omega) | (simp only [List.length_replicate, List.length_append, List.length_set, List.length_cons, List.length_nil, putN_length] at *; omega))
  (h : L P n w0 F0 ops.toArray rest Q ((d, .int .i64 (min l.length m : Nat)) :: tm) D (cl b T (bsV (r.take off ++ l.take (min l.length m) ++ r.drop (off + min l.length m))) :: H')) :
  L P n w0 F0 ops.toArray (⟨some d, .call { callee := .builtin .copy, args := #[x, y], argTypes := #[t, st] }, ty, pos, after, none⟩ :: rest) Q tm D H := by
 refine .mk fun a w s => ?_
 have i := s.inv.take tk
 obtain ⟨fr, hq, hw⟩ := i.cell
 have ecut : ((⟨⟨l⟩⟩ : ByteArray).extract 0 (min l.length m)).data.map (fun c => Value.int .u8 c.toNat) = (bsV (l.take (min l.length m))).toArray := by
  rw [ba_cut l 0 _ (Nat.min_le_left _ _)]
  apply Array.ext'
  simp only [bsV, cutB, Array.toList_map, List.drop_zero, Nat.sub_zero]
  rfl
 have h1 : ∀ v ∈ bsV (l.take (min l.length m)), v.oneCell' = true := by
  intro v hv
  simp only [bsV, List.mem_map] at hv
  obtain ⟨c, _, rfl⟩ := hv
  rfl
 obtain ⟨w', hr, e, nn, sz, e1, e2, e3⟩ := run_storeC (P := P) b off T fr (bsV (l.take (min l.length m))) 0 (bsV r) w hw hq (by simp only [bsV_length, List.length_take]; omega) h1
 have hlen : (bsV (l.take (min l.length m))).length = min l.length m := by rw [bsV_length, List.length_take]; omega
 rw [hlen, Nat.add_zero] at e
 have ee : (bsV r).take off ++ bsV (l.take (min l.length m)) ++ (bsV r).drop (off + min l.length m) = bsV (r.take off ++ l.take (min l.length m) ++ r.drop (off + min l.length m)) := by simp [bsV, List.map_take, List.map_drop]
 rw [ee] at e
 refine wpList_value rfl (v := .int .i64 (min l.length m : Nat)) (w' := w') ?_ (h _ _ ⟨s.tm.put hd _, s.defers, i.set_cl (fr := fr) ?_ e nn sz e1 e2 e3⟩)
 ·have hl : (⟨⟨l⟩⟩ : ByteArray).size = l.length := rfl
  have hn' : Nat.min l.length m = min l.length m := rfl
  have hn2 : (fun (b : UInt8) => Value.int .u8 (b.toNat : Int)) = (fun c => Value.int .u8 c.toNat) := rfl
  have hc : (Builtin.copy_ #[t, st] ty #[.slice (some ⟨b, off, none⟩) m cap, .string ⟨⟨l⟩⟩]).run P w = .ok (.int .i64 (min l.length m : Nat)) w' := by
   simp only [Builtin.copy_, List.getElem?_toArray, List.getElem?_cons_zero, List.getElem?_cons_succ, Sem.run_bind, run_underlying (k.under ht), Result.andThen, Builtin.lenOf, Sem.run_pure, run_size k he, Builtin.firstCells, hl, hn', ecut, hr, goInt]
  simp only [execOp, resolve, invoke, builtin, Sem.run_bind, Sem.run_pure, Result.andThen_ok, List.map_toArray, List.map_cons, List.map_nil, ev_sound s.tm hx, ev_sound s.tm hy, hc]
 ·intro o ho
  refine hq o ?_
  simp only [bsV_length, List.length_append, List.length_take, List.length_drop] at ho ⊢
  omega
theorem nnegI_of {m : Int} (h : 0 ≤ m) : nnegI m = true := by cases m with | ofNat _ => rfl | negSucc _ => omega
theorem l_bin {d t t2 : Nat} {op : BinOp} {x y : Operand} {u u' v : Value} (k : EnvOk P E) (hd : Nat.blt d n = true) (hx : ev tm x = some u) (hy : ev tm y = some u') (hv : binV E op t u u' = some v)
  (h : L P n w0 F0 ops.toArray rest Q ((d, v) :: tm) D H) : L P n w0 F0 ops.toArray (⟨some d, .binOp op t x y t2, ty, pos, after, none⟩ :: rest) Q tm D H := by
 refine .mk fun a w s => ?_
 refine wpList_value rfl (v := v) (w' := w) ?_ (h _ _ (s.put hd _))
 simp only [execOp, ev_sound s.tm hx, ev_sound s.tm hy, Sem.run_bind, binV_sound k hv x y w, Result.andThen, Sem.run_pure]
theorem l_shr {d t t2 : Nat} {x y : Operand} {kk k' : IntKind} {u m : Int} (k : EnvOk P E := by refine inferInstance) (hd : Nat.blt d n = true := by refine rfl) (hx : ev tm x = some (.int kk u) := by refine rfl) (hy : ev tm y = some (.int k' m) := by refine rfl) (hm : 0 ≤ m := by first | assumption | omega | (refine ⟨?_, ?_⟩ <;> omega) | (simp only [List.length_cons, List.length_nil, str] at *; omega) | (simp only [List.length_append] at *; omega) | (simp only [List.length_take, List.length_drop, List.length_cons, List.length_nil]; omega))
  (h : L P n w0 F0 ops.toArray rest Q ((d, .int kk (u.fdiv (2 ^ (min m.toNat kk.bits)))) :: tm) D H) : L P n w0 F0 ops.toArray (⟨some d, .binOp .shr t x y t2, ty, pos, after, none⟩ :: rest) Q tm D H :=
 l_bin k hd hx hy (by simp [binV, intV, nnegI_of hm]) h
theorem l_shl {d t t2 : Nat} {x y : Operand} {kk k' : IntKind} {u m : Int} (k : EnvOk P E := by refine inferInstance) (hd : Nat.blt d n = true := by refine rfl) (hx : ev tm x = some (.int kk u) := by refine rfl) (hy : ev tm y = some (.int k' m) := by refine rfl) (hm : 0 ≤ m := by first | assumption | omega | (refine ⟨?_, ?_⟩ <;> omega) | (simp only [List.length_cons, List.length_nil, str] at *; omega) | (simp only [List.length_append] at *; omega) | (simp only [List.length_take, List.length_drop, List.length_cons, List.length_nil]; omega))
  (h : L P n w0 F0 ops.toArray rest Q ((d, .int kk (kk.wrap (u * 2 ^ (min m.toNat kk.bits)))) :: tm) D H) : L P n w0 F0 ops.toArray (⟨some d, .binOp .shl t x y t2, ty, pos, after, none⟩ :: rest) Q tm D H :=
 l_bin k hd hx hy (by simp [binV, intV, nnegI_of hm]) h
def V (P : Program) (n : Nat) (tm : List (Nat × Value)) (op : Op) (v : Value) : Prop :=
 ∀ (a : Act) (dst : Option Nat) (ty : TypeId) (pos : String) (after : Array Edge) (w : World), Tm n tm a → (execOp a.eval ⟨dst, op, ty, pos, after, none⟩).run P w = .ok (.value v) w
theorem v_pure {op : Op} {v : Value} (k : EnvOk P E := by refine inferInstance) (h : pureOp E tm op = some v := by refine rfl) : V P n tm op v := fun a dst ty pos after w ht => pureOp_sound k ht h dst ty pos after w
theorem v_bin {t t2 : Nat} {op : BinOp} {x y : Operand} {u u' v : Value} (k : EnvOk P E) (hx : ev tm x = some u) (hy : ev tm y = some u') (hv : binV E op t u u' = some v) : V P n tm (.binOp op t x y t2) v := by
 intro a dst ty pos after w ht
 simp only [execOp, ev_sound ht hx, ev_sound ht hy, Sem.run_bind, binV_sound k hv x y w, Result.andThen, Sem.run_pure]
theorem v_shr {t t2 : Nat} {x y : Operand} {kk k' : IntKind} {u m : Int} (k : EnvOk P E := by refine inferInstance) (hx : ev tm x = some (.int kk u) := by refine rfl) (hy : ev tm y = some (.int k' m) := by refine rfl) (hm : 0 ≤ m := by first | assumption | omega | (refine ⟨?_, ?_⟩ <;> omega) | (simp only [List.length_cons, List.length_nil, str] at *; omega) | (simp only [List.length_append] at *; omega) | (simp only [List.length_take, List.length_drop, List.length_cons, List.length_nil]; omega)) : V P n tm (.binOp .shr t x y t2) (.int kk (u.fdiv (2 ^ (min m.toNat kk.bits)))) :=
 v_bin k hx hy (by simp [binV, intV, nnegI_of hm])
theorem v_shl {t t2 : Nat} {x y : Operand} {kk k' : IntKind} {u m : Int} (k : EnvOk P E := by refine inferInstance) (hx : ev tm x = some (.int kk u) := by refine rfl) (hy : ev tm y = some (.int k' m) := by refine rfl) (hm : 0 ≤ m := by first | assumption | omega | (refine ⟨?_, ?_⟩ <;> omega) | (simp only [List.length_cons, List.length_nil, str] at *; omega) | (simp only [List.length_append] at *; omega) | (simp only [List.length_take, List.length_drop, List.length_cons, List.length_nil]; omega)) : V P n tm (.binOp .shl t x y t2) (.int kk (kk.wrap (u * 2 ^ (min m.toNat kk.bits)))) :=
 v_bin k hx hy (by simp [binV, intV, nnegI_of hm])
theorem v_index {t : Nat} {x i : Operand} {l : List UInt8} {kk : IntKind} {j : Int} (k : EnvOk P E := by refine inferInstance) (hx : ev tm x = some (.string ⟨⟨l⟩⟩) := by refine rfl) (hi : ev tm i = some (.int kk j) := by refine rfl) (ht : look E.ty t = some .string := by refine rfl) (hb : 0 ≤ j ∧ j < l.length := by first | assumption | omega | (refine ⟨?_, ?_⟩ <;> omega) | (simp only [List.length_cons, List.length_nil, str] at *; omega) | (simp only [List.length_append] at *; omega) | (simp only [List.length_take, List.length_drop, List.length_cons, List.length_nil]; omega)) : V P n tm (.index t x i) (.int .u8 (byteAt l j)) := by
 intro a dst ty pos after w htm
 have hlt : j.toNat < l.length := by omega
 simp only [execOp, ev_sound htm hx, ev_sound htm hi, Instr.index, asIntOf, Sem.run_bind, Sem.run_pure, Result.andThen, run_underlying (k.under ht), if_pos hb.1, ba_get, List.getElem?_eq_getElem hlt]
 simp [byteAt, List.getD, hlt]
theorem v_indexAddr {t e b off len cap sz by' : Nat} {x i : Operand} {kk : IntKind} {j : Int} {z : Value} (k : EnvOk P E := by refine inferInstance) (hx : ev tm x = some (.slice (some ⟨b, off, none⟩) len cap) := by refine rfl) (hi : ev tm i = some (.int kk j) := by refine rfl) (ht : look E.ty t = some (.slice e) := by refine rfl) (he : look E.inf e = some (z, sz, by') := by refine rfl) (hb : 0 ≤ j ∧ j < len := by first | assumption | omega | (refine ⟨?_, ?_⟩ <;> omega) | (simp only [List.length_cons, List.length_nil, str] at *; omega) | (simp only [List.length_append] at *; omega) | (simp only [List.length_take, List.length_drop, List.length_cons, List.length_nil]; omega)) :
  V P n tm (.indexAddr t x i) (.pointer (some ⟨b, off + j.toNat * sz, none⟩)) := by
 intro a dst ty pos after w htm
 have ha : (⟨b, off, none⟩ : Addr).add (j.toNat * sz) = ⟨b, off + j.toNat * sz, none⟩ := by unfold Addr.add; split <;> simp_all
 simp only [execOp, ev_sound htm hx, ev_sound htm hi, Instr.indexAt, asIntOf, Sem.run_bind, Sem.run_pure, Result.andThen, run_underlying (k.under ht), if_pos hb, run_size k he, ha]
theorem yielded_some {a : Act} {ol : List Oper} {j t : Nat} {b : Bool} (s : Tm n tm a) (hs : slotOf ol j = some t) (ht : tget tm t = some (.bool b)) (hb : Nat.blt t n = true) : yielded ol.toArray a.tmps j = some b := by
 have hlt : t < n := by simpa [Nat.blt_eq] using hb
 have hg := s.get t _ ht
 unfold yielded
 rw [slotOf_eq hs]
 have : a.tmps[t]? = some (.bool b) := by
  have hl : t < a.tmps.size := by rw [s.size]; exact hlt
  simp [hl] at hg ⊢
  exact hg
 simp [this]
def nextR : List Oper → Nat → Array Bool → Option Nat
 | [], _, _ => none
 | ⟨_, .load _ _, _, _, _, none⟩ :: l, i, listed => nextR l (i + 1) listed
 | ⟨_, _, _, _, after, _⟩ :: l, i, listed => bif !listed.getD i true && rdyB after.toList listed then some i else nextR l (i + 1) listed
theorem a_y {Hs : List SProp} {listed : Array Bool} {i d : Nat} {op : Op} {g : Option (Nat × Bool)} {v : Value} (hc : Calm Q) (hs : noSel ops = true) (ho : nth ops i = some ⟨some d, op, ty, pos, after, g⟩) (hd : Nat.blt d n = true)
  (hf : freeL ops.toArray i ⟨some d, op, ty, pos, after, g⟩ listed ops 0 = true) (hl : listed.getD i true = false) (hr : rdyB after.toList listed = true)
  (hy : ∀ a, Tm n tm a → (Region.wanted (⟨some d, op, ty, pos, after, g⟩ : Oper) (yielded ops.toArray a.tmps) = true ∧ V P n tm op v) ∨ (Region.wanted (⟨some d, op, ty, pos, after, g⟩ : Oper) (yielded ops.toArray a.tmps) = false ∧ v = undef))
  (h : A P n w0 F0 ops Hs (listed.setIfInBounds i true) Q ((d, v) :: tm) D H) : A P n w0 F0 ops Hs listed Q tm D H := by
 refine .mk fun fuel hfu a w s hS => ?_
 have hu := unl_set hl
 obtain ⟨m, rfl⟩ : ∃ m, fuel = m + 1 := ⟨fuel - 1, by omega⟩
 have hi : ops.toArray[i]? = some ⟨some d, op, ty, pos, after, g⟩ := by rw [nth_eq] at ho; simpa using ho
 refine wpAnyH_first hi (fun j o cs b hj => noSel_spec hs j o cs b (by simpa using hj)) (fun c a w => hc c a w _ _) m listed a w ?_ (mem_ready.2 ⟨hl, _, hi, rdyB_iff.1 hr⟩) (v := v) ?_ hS (h m (by omega) _ _ (s.put hd v) hS)
 ·intro j oj hj hne hun hno
  exact freeL_spec hf j oj (by simpa using hj) (by omega) (by simpa using hun) hno
 ·rcases hy a s.tm with ⟨h1, h2⟩ | ⟨h1, h2⟩
  ·exact .inl ⟨h1, fun w _ => h2 a (some d) ty pos after w s.tm⟩
  ·exact .inr ⟨h1, h2⟩
def copyB : List Bool → Option (List Bool)
 | [] => some []
 | true :: l => match copyB l with
  | some r => some (true :: r)
  | none => none
 | false :: l => match copyB l with
  | some r => some (false :: r)
  | none => none
theorem copyB_eq : ∀ {l r : List Bool}, copyB l = some r → l = r
 | [], r, e => by simp [copyB] at e; exact e.symm
 | true :: l, r, e => by
  simp only [copyB] at e
  cases h : copyB l with
  | none => rw [h] at e; cases e
  | some q => rw [h] at e; simp only [Option.some.injEq] at e; rw [← e, copyB_eq h]
 | false :: l, r, e => by
  simp only [copyB] at e
  cases h : copyB l with
  | none => rw [h] at e; cases e
  | some q => rw [h] at e; simp only [Option.some.injEq] at e; rw [← e, copyB_eq h]
theorem copyB_arr {a : Array Bool} {r : List Bool} (e : copyB a.toList = some r) : a = r.toArray := by rw [← copyB_eq e]
theorem a_pass2 {Hs : List SProp} {listed listed' : Array Bool} {ll : List Bool} {tm' : List (Nat × Value)} (k : EnvOk P E := by refine inferInstance) (hs : noSel ops = true := by refine rfl) (e : passA E n ops ops 0 listed tm = (listed', tm') := by refine rfl) (hn : copyB listed'.toList = some ll := by refine rfl) (hc : Calm Q := by with_reducible (repeat (first | assumption | refine calm_post | refine calm_postM | refine calm_round | apply calm_then | apply calm_block | apply calm_scope)))
  (h : A P n w0 F0 ops Hs ll.toArray Q tm' D H) : A P n w0 F0 ops Hs listed Q tm D H :=
 a_pass k hc hs (i := 0) rfl e (by rw [copyB_arr hn]; exact h)
theorem a_v {Hs : List SProp} {listed : Array Bool} {i d : Nat} {op : Op} {v : Value} (hc : Calm Q := by with_reducible (repeat (first | assumption | refine calm_post | refine calm_postM | refine calm_round | apply calm_then | apply calm_block | apply calm_scope))) (hs : noSel ops = true := by refine rfl) (hi : nextR ops 0 listed = some i := by refine rfl) (ho : nth ops i = some ⟨some d, op, ty, pos, after, none⟩ := by refine rfl) (hd : Nat.blt d n = true := by refine rfl)
  (hy : V P n tm op v := by first | refine v_pure | refine v_index | refine v_shl | refine v_shr | refine v_rem | refine v_quo | refine v_indexAddr | refine v_slice | refine v_slice_str | refine v_slice_any | refine v_sliceData) (hf : freeL ops.toArray i ⟨some d, op, ty, pos, after, none⟩ listed ops 0 = true := by refine rfl) (hl : listed.getD i true = false := by refine rfl) (hr : rdyB after.toList listed = true := by refine rfl)
  {ll : List Bool} (hn : copyB (listed.setIfInBounds i true).toList = some ll := by refine rfl) (h : A P n w0 F0 ops Hs ll.toArray Q ((d, v) :: tm) D H) : A P n w0 F0 ops Hs listed Q tm D H :=
 a_y hc hs ho hd hf hl hr (fun _ _ => .inl ⟨rfl, hy⟩) (by rw [copyB_arr hn]; exact h)
theorem a_vg {Hs : List SProp} {listed : Array Bool} {i d j t : Nat} {op : Op} {want : Bool} {v : Value} (hc : Calm Q := by with_reducible (repeat (first | assumption | refine calm_post | refine calm_postM | refine calm_round | apply calm_then | apply calm_block | apply calm_scope))) (hs : noSel ops = true := by refine rfl) (hi : nextR ops 0 listed = some i := by refine rfl) (ho : nth ops i = some ⟨some d, op, ty, pos, after, some (j, want)⟩ := by refine rfl) (hd : Nat.blt d n = true := by refine rfl)
  (hst : slotOf ops j = some t := by refine rfl) (htb : tget tm t = some (.bool want) := by refine rfl) (hb : Nat.blt t n = true := by refine rfl)
  (hy : V P n tm op v := by first | refine v_pure | refine v_index | refine v_shl | refine v_shr | refine v_rem | refine v_quo | refine v_indexAddr | refine v_slice | refine v_slice_str | refine v_slice_any | refine v_sliceData) (hf : freeL ops.toArray i ⟨some d, op, ty, pos, after, some (j, want)⟩ listed ops 0 = true := by refine rfl) (hl : listed.getD i true = false := by refine rfl) (hr : rdyB after.toList listed = true := by refine rfl)
  {ll : List Bool} (hn : copyB (listed.setIfInBounds i true).toList = some ll := by refine rfl) (h : A P n w0 F0 ops Hs ll.toArray Q ((d, v) :: tm) D H) : A P n w0 F0 ops Hs listed Q tm D H :=
 a_y hc hs ho hd hf hl hr (fun a htm => .inl ⟨by simp [Region.wanted, yielded_some htm hst htb hb], hy⟩) (by rw [copyB_arr hn]; exact h)
theorem a_no {Hs : List SProp} {listed : Array Bool} {i d j t : Nat} {op : Op} {want b : Bool} (hc : Calm Q := by with_reducible (repeat (first | assumption | refine calm_post | refine calm_postM | refine calm_round | apply calm_then | apply calm_block | apply calm_scope))) (hs : noSel ops = true := by refine rfl) (hi : nextR ops 0 listed = some i := by refine rfl) (ho : nth ops i = some ⟨some d, op, ty, pos, after, some (j, want)⟩ := by refine rfl) (hd : Nat.blt d n = true := by refine rfl)
  (hst : slotOf ops j = some t := by refine rfl) (htb : tget tm t = some (.bool b) := by refine rfl) (hb : Nat.blt t n = true := by refine rfl) (hne : (b == want) = false := by refine rfl)
  (hf : freeL ops.toArray i ⟨some d, op, ty, pos, after, some (j, want)⟩ listed ops 0 = true := by refine rfl) (hl : listed.getD i true = false := by refine rfl) (hr : rdyB after.toList listed = true := by refine rfl)
  {ll : List Bool} (hn : copyB (listed.setIfInBounds i true).toList = some ll := by refine rfl) (h : A P n w0 F0 ops Hs ll.toArray Q ((d, undef) :: tm) D H) : A P n w0 F0 ops Hs listed Q tm D H :=
 a_y hc hs ho hd hf hl hr (fun a htm => .inr ⟨by simp only [Region.wanted, yielded_some htm hst htb hb]; simpa using hne, rfl⟩) (by rw [copyB_arr hn]; exact h)
theorem a_un {Hs : List SProp} {listed : Array Bool} {i d j t : Nat} {op : Op} {want : Bool} {u : Value} (hc : Calm Q := by with_reducible (repeat (first | assumption | refine calm_post | refine calm_postM | refine calm_round | apply calm_then | apply calm_block | apply calm_scope))) (hs : noSel ops = true := by refine rfl) (hi : nextR ops 0 listed = some i := by refine rfl) (ho : nth ops i = some ⟨some d, op, ty, pos, after, some (j, want)⟩ := by refine rfl) (hd : Nat.blt d n = true := by refine rfl)
  (hst : slotOf ops j = some t := by refine rfl) (htb : tget tm t = some u := by refine rfl) (hu : noBool u = true := by refine rfl)
  (hf : freeL ops.toArray i ⟨some d, op, ty, pos, after, some (j, want)⟩ listed ops 0 = true := by refine rfl) (hl : listed.getD i true = false := by refine rfl) (hr : rdyB after.toList listed = true := by refine rfl)
  {ll : List Bool} (hn : copyB (listed.setIfInBounds i true).toList = some ll := by refine rfl) (h : A P n w0 F0 ops Hs ll.toArray Q ((d, undef) :: tm) D H) : A P n w0 F0 ops Hs listed Q tm D H :=
 a_y hc hs ho hd hf hl hr (fun a htm => .inr ⟨by simp only [Region.wanted]; exact yielded_none htm hst htb hu want, rfl⟩) (by rw [copyB_arr hn]; exact h)
theorem a_load_at {Hs Hs' : List SProp} {listed : Array Bool} {ll : List Bool} {i d t b off : Nat} {x : Operand} {c : List Value} {T : TypeId} {v : Value} {dd : TypeDesc} (k : EnvOk P E := by refine inferInstance) (hs : noSel ops = true := by refine rfl) (hi : nextLoad ops 0 listed = some i := by refine rfl)
  (ho : nth ops i = some ⟨some d, .load t x, ty, pos, after, none⟩ := by refine rfl) (hd : Nat.blt d n = true := by refine rfl) (hx : ev tm x = some (.pointer (some ⟨b, off, none⟩)) := by refine rfl) (ht : Take (cl b T c) Hs Hs' := by with_reducible (repeat (first | refine Take.here | apply Take.there))) (hu : look E.ty t = some dd := by refine rfl) (ha : isAggTy dd = false := by refine rfl) (hv : c[off]? = some v := by first | assumption | refine bsV_get (by first | omega | (simp; omega)) | refine uV_get (by omega) | refine rfl)
  (hf : freeL ops.toArray i ⟨some d, .load t x, ty, pos, after, none⟩ listed ops 0 = true := by refine rfl) (hl : listed.getD i true = false := by refine rfl) (hr : rdyB after.toList listed = true := by refine rfl) (hn : copyB (listed.setIfInBounds i true).toList = some ll := by refine rfl) (hc : Calm Q := by with_reducible (repeat (first | assumption | refine calm_post | refine calm_postM | refine calm_round | apply calm_then | apply calm_block | apply calm_scope)))
  (h : A P n w0 F0 ops Hs ll.toArray Q ((d, v) :: tm) D H) : A P n w0 F0 ops Hs listed Q tm D H :=
 a_load k hc hs hi ho hd hx ht (by unfold partV; rw [hu]; simp only [ha, cond_false]; rw [nth_eq]; exact hv) hf hl hr (by rw [copyB_arr hn]; exact h)
theorem a_split {Hs : List SProp} {listed : Array Bool} {i j t : Nat} {dst : Option Nat} {op : Op} {want b : Bool} (hi : nextR ops 0 listed = some i := by refine rfl) (ho : nth ops i = some ⟨dst, op, ty, pos, after, some (j, want)⟩ := by refine rfl)
  (hst : slotOf ops j = some t := by refine rfl) (htb : tget tm t = some (.bool b) := by refine rfl)
  (h1 : b = true → A P n w0 F0 ops Hs listed Q ((t, .bool true) :: tm) D H) (h0 : b = false → A P n w0 F0 ops Hs listed Q ((t, .bool false) :: tm) D H) : A P n w0 F0 ops Hs listed Q tm D H := by
 refine .mk fun fuel hfu a w s hS => ?_
 have ext : ∀ u, b = u → Tm n ((t, .bool u) :: tm) a := by
  rintro u rfl
  refine ⟨s.tm.size, fun t' v e => ?_⟩
  simp only [tget] at e
  by_cases q : Nat.beq t t' = true
  ·rw [q] at e
   have := Nat.eq_of_beq_eq_true q
   subst this
   simp only [cond_true, Option.some.injEq] at e
   subst e
   exact s.tm.get _ _ htb
  ·rw [Bool.eq_false_iff.2 q] at e
   exact s.tm.get _ _ e
 cases b
 ·exact h0 rfl fuel hfu a w ⟨ext _ rfl, s.defers, s.inv⟩ hS
 ·exact h1 rfl fuel hfu a w ⟨ext _ rfl, s.defers, s.inv⟩ hS
inductive NL : Bool → Prop
 | t : NL true
 | f : NL false
theorem NL.any {b : Bool} : NL b := by cases b; exact .f; exact .t
theorem a_sp {Hs : List SProp} {listed : Array Bool} {i j t : Nat} {dst : Option Nat} {op : Op} {want b : Bool} {p1 p0 : Prop} (hi : nextR ops 0 listed = some i := by refine rfl) (ho : nth ops i = some ⟨dst, op, ty, pos, after, some (j, want)⟩ := by refine rfl)
  (hst : slotOf ops j = some t := by refine rfl) (htb : tget tm t = some (.bool b) := by refine rfl) (hl : NL b := by first | ((fail_if_success (with_reducible refine NL.t)); (fail_if_success (with_reducible refine NL.f)); refine NL.any)) (e1 : b = true → p1 := by intro h; (try dsimp only at h); (try simp only [beq_true, beq_false, decide_eq_decide, beq_iff_eq, bne_iff_ne, beq_eq_false_iff_ne, bne_eq_false_iff_eq, decide_eq_true_eq, decide_eq_false_iff_not, Bool.not_eq_true', Bool.not_eq_false', ne_eq, Decidable.not_not] at h); refine h) (e0 : b = false → p0 := by intro h; (try dsimp only at h); (try simp only [beq_true, beq_false, decide_eq_decide, beq_iff_eq, bne_iff_ne, beq_eq_false_iff_ne, bne_eq_false_iff_eq, decide_eq_true_eq, decide_eq_false_iff_not, Bool.not_eq_true', Bool.not_eq_false', ne_eq, Decidable.not_not] at h); refine h)
  (h1 : p1 → A P n w0 F0 ops Hs listed Q ((t, .bool true) :: tm) D H) (h0 : p0 → A P n w0 F0 ops Hs listed Q ((t, .bool false) :: tm) D H) : A P n w0 F0 ops Hs listed Q tm D H := a_split hi ho hst htb (fun h => h1 (e1 h)) (fun h => h0 (e0 h))
theorem a_spT {Hs : List SProp} {listed : Array Bool} {i j t : Nat} {dst : Option Nat} {op : Op} {want b : Bool} {p1 : Prop} (hi : nextR ops 0 listed = some i := by refine rfl) (ho : nth ops i = some ⟨dst, op, ty, pos, after, some (j, want)⟩ := by refine rfl)
  (hst : slotOf ops j = some t := by refine rfl) (htb : tget tm t = some (.bool b) := by refine rfl) (hl : NL b := by first | ((fail_if_success (with_reducible refine NL.t)); (fail_if_success (with_reducible refine NL.f)); refine NL.any)) (hn : b = false → False := by intro h; (try dsimp only at h); (try simp only [beq_true, beq_false, decide_eq_decide, beq_iff_eq, bne_iff_ne, beq_eq_false_iff_ne, bne_eq_false_iff_eq, decide_eq_true_eq, decide_eq_false_iff_not, Bool.not_eq_true', Bool.not_eq_false', ne_eq, Decidable.not_not] at h); first | done | (simp only [eq_self, not_true_eq_false, not_false_eq_true, reduceCtorEq] at h; done) | omega) (e1 : b = true → p1 := by intro h; (try dsimp only at h); (try simp only [beq_true, beq_false, decide_eq_decide, beq_iff_eq, bne_iff_ne, beq_eq_false_iff_ne, bne_eq_false_iff_eq, decide_eq_true_eq, decide_eq_false_iff_not, Bool.not_eq_true', Bool.not_eq_false', ne_eq, Decidable.not_not] at h); refine h)
  (h : p1 → A P n w0 F0 ops Hs listed Q ((t, .bool true) :: tm) D H) : A P n w0 F0 ops Hs listed Q tm D H := a_split hi ho hst htb (fun h1 => h (e1 h1)) (fun h1 => (hn h1).elim)
theorem a_spF {Hs : List SProp} {listed : Array Bool} {i j t : Nat} {dst : Option Nat} {op : Op} {want b : Bool} {p0 : Prop} (hi : nextR ops 0 listed = some i := by refine rfl) (ho : nth ops i = some ⟨dst, op, ty, pos, after, some (j, want)⟩ := by refine rfl)
  (hst : slotOf ops j = some t := by refine rfl) (htb : tget tm t = some (.bool b) := by refine rfl) (hl : NL b := by first | ((fail_if_success (with_reducible refine NL.t)); (fail_if_success (with_reducible refine NL.f)); refine NL.any)) (hn : b = true → False := by intro h; (try dsimp only at h); (try simp only [beq_true, beq_false, decide_eq_decide, beq_iff_eq, bne_iff_ne, beq_eq_false_iff_ne, bne_eq_false_iff_eq, decide_eq_true_eq, decide_eq_false_iff_not, Bool.not_eq_true', Bool.not_eq_false', ne_eq, Decidable.not_not] at h); first | done | (simp only [eq_self, not_true_eq_false, not_false_eq_true, reduceCtorEq] at h; done) | omega) (e0 : b = false → p0 := by intro h; (try dsimp only at h); (try simp only [beq_true, beq_false, decide_eq_decide, beq_iff_eq, bne_iff_ne, beq_eq_false_iff_ne, bne_eq_false_iff_eq, decide_eq_true_eq, decide_eq_false_iff_not, Bool.not_eq_true', Bool.not_eq_false', ne_eq, Decidable.not_not] at h); refine h)
  (h : p0 → A P n w0 F0 ops Hs listed Q ((t, .bool false) :: tm) D H) : A P n w0 F0 ops Hs listed Q tm D H := a_split hi ho hst htb (fun h1 => (hn h1).elim) (fun h1 => h (e0 h1))
def kvGet {α : Type} : List (Int × α) → Int → Option α
 | [], _ => none
 | (j, v) :: l, i => if j = i then some v else kvGet l i
def kvPut {α : Type} : List (Int × α) → Int → α → List (Int × α)
 | [], i, x => [(i, x)]
 | (j, v) :: l, i, x => if j = i then (i, x) :: l else (j, v) :: kvPut l i x
def kvDel {α : Type} : List (Int × α) → Int → List (Int × α)
 | [], _ => []
 | (j, v) :: l, i => if j = i then l else (j, v) :: kvDel l i
def mp {α : Type} (b : Nat) (enc : α → Value) (kv : List (Int × α)) : SProp where
 holds h F := (∃ es clock, h[b]? = some (.map es clock) ∧ es.toList.map (fun x => (x.key, x.val)) = kv.map (fun p => (Value.int .i64 p.1, enc p.2)) ∧ (∀ x ∈ es.toList, x.born < clock) ∧ (es.toList.map MapEntry.born).Nodup ∧ (kv.map Prod.fst).Nodup) ∧ ∀ x, F x ↔ x = b
 loc := fun ⟨⟨es, c, e, r⟩, f⟩ k => ⟨⟨es, c, by rw [k b ((f b).2 rfl)]; exact e, r⟩, f⟩
 bnd := fun ⟨⟨_, _, e, _⟩, f⟩ x hx => by rw [(f x).1 hx]; exact lt_of_some e
theorem same_int (k : Int) (j : Int) : Instr.sameNow (.int .i64) (.int .i64 k) (.int .i64 j) = some (k == j) := by simp [Instr.sameNow]
theorem find_spec {α : Type} {enc : α → Value} (k : Int) : ∀ (es : List MapEntry) (kv : List (Int × α)) (i : Nat), es.map (fun x => (x.key, x.val)) = kv.map (fun p => (Value.int .i64 p.1, enc p.2)) →
  (kvGet kv k = none ∧ Instr.findNow (.int .i64) (.int .i64 k) es i = some none ∧ (∀ x, kvPut kv k x = kv ++ [(k, x)]) ∧ kvDel kv k = kv ∧ k ∉ kv.map (·.1)) ∨
  ∃ j v e0, kvGet kv k = some v ∧ Instr.findNow (.int .i64) (.int .i64 k) es i = some (some (i + j, enc v)) ∧ es[j]? = some e0 ∧ e0.key = .int .i64 k ∧
   (∀ x, (es.set j { e0 with val := enc x }).map (fun x => (x.key, x.val)) = (kvPut kv k x).map (fun p => (Value.int .i64 p.1, enc p.2))) ∧ (∀ x, (kvPut kv k x).map (·.1) = kv.map (·.1)) ∧
   (es.eraseIdx j).map (fun x => (x.key, x.val)) = (kvDel kv k).map (fun p => (Value.int .i64 p.1, enc p.2)) ∧ (kvDel kv k).Sublist kv
 | [], [], i, _ => .inl ⟨rfl, rfl, fun _ => rfl, rfl, by simp⟩
 | [], _ :: _, i, h => by simp at h
 | _ :: _, [], i, h => by simp at h
 | e :: es, (j, v) :: kv, i, h => by
  simp only [List.map_cons, List.cons.injEq, Prod.mk.injEq] at h
  obtain ⟨⟨h1, h2⟩, h3⟩ := h
  by_cases q : j = k
  ·subst q
   refine .inr ⟨0, v, e, by simp [kvGet], by simp [Instr.findNow, h1, same_int, h2], rfl, h1, fun x => ?_, fun x => by simp [kvPut], ?_, ?_⟩
   ·simp [kvPut, h1, h3]
   ·simp [kvDel, h3]
   ·simp [kvDel]
  ·have q' : ¬ k = j := fun q2 => q q2.symm
   rcases find_spec k es kv (i + 1) h3 with ⟨g1, g2, g3, g4, g5⟩ | ⟨m, u, e0, g1, g2, g3, g4, g5, g6, g7, g8⟩
   ·refine .inl ⟨by simp [kvGet, q, g1], by simp [Instr.findNow, h1, same_int, beq_eq_false_iff_ne.2 q', g2], fun x => by simp [kvPut, q, g3], by simp [kvDel, q, g4], ?_⟩
    simp only [List.map_cons, List.mem_cons, not_or]
    exact ⟨q', g5⟩
   ·refine .inr ⟨m + 1, u, e0, by simp [kvGet, q, g1], ?_, by simpa using g3, g4, fun x => ?_, fun x => by simp [kvPut, q, g6], ?_, ?_⟩
    ·simp [Instr.findNow, h1, same_int, beq_eq_false_iff_ne.2 q', g2]
     omega
    ·simp [kvPut, q, h1, h2, g5]
    ·simp [kvDel, q, h1, h2, g7]
    ·simp [kvDel, q, g8]
theorem run_checkKey_int {t : TypeId} {c : Bool} {v : Value} {kk : IntKind} {w : World} (h : P.underlying t = some (.int kk)) : (Instr.checkKey c 10000 t v).run P w = .ok () w := by
 show (Instr.checkKey c (9999 + 1) t v).run P w = _
 rw [Instr.checkKey]
 simp only [Sem.run_bind, run_underlying h, Result.andThen]
 rfl
theorem l_makeMap {d t : Nat} {α : Type} (enc : α → Value) (hd : Nat.blt d n = true := by refine rfl) (h : ∀ b, L P n w0 F0 ops.toArray rest Q ((d, .map (some b)) :: tm) D (mp b enc [] :: H)) :
  L P n w0 F0 ops.toArray (⟨some d, .makeMap t none, ty, pos, after, none⟩ :: rest) Q tm D H := by
 refine .mk fun a w s => ?_
 refine wpList_value rfl (v := .map (some w.heap.size)) (w' := { w with heap := w.heap.push (.map #[] 0) }) ?_ (h w.heap.size _ _ ⟨s.tm.put hd _, s.defers, ?_⟩)
 ·simp [execOp, Instr.makeMap]
 ·refine (s.inv.alloc (.map #[] 0)).imp fun {h F} s => ?_
  obtain ⟨F1, F2, ⟨e, f⟩, r⟩ := s
  exact ⟨F, ⟨F1, F2, ⟨⟨#[], 0, e, by simp⟩, f⟩, r⟩, fun _ h => h⟩
theorem run_lookup_int {α : Type} {t kt et : TypeId} {enc : α → Value} {kv : List (Int × α)} {i : Int} {z : α} {b sz by' : Nat} {es : Array MapEntry} {clock : Nat} {ok : Bool} {w : World} (k : EnvOk P E) (hw : w.heap[b]? = some (.map es clock))
  (he : es.toList.map (fun x => (x.key, x.val)) = kv.map (fun p => (Value.int .i64 p.1, enc p.2))) (ht : look E.ty t = some (.map kt et)) (hk : look E.ty kt = some (.int .i64)) (hz : look E.inf et = some (enc z, sz, by')) :
  (Instr.lookup t (.map (some b)) (.int .i64 i) ok).run P w = .ok (if ok then .tuple #[enc ((kvGet kv i).getD z), .bool (kvGet kv i).isSome] else enc ((kvGet kv i).getD z)) w := by
 simp only [Instr.lookup, Sem.run_bind, run_underlying (k.under ht), Result.andThen, MapKept.run_getObj_map hw, Sem.run_pure, run_checkKey_int (k.under hk), Instr.findKey, run_underlying (k.under hk)]
 rcases find_spec (enc := enc) i es.toList kv 0 he with ⟨g1, g2, _⟩ | ⟨j, v, e0, g1, g2, _⟩
 ·simp only [g1, g2, Sem.run_pure, Sem.run_bind, run_zero k hz, Result.andThen, Option.getD_none, Option.isSome_none]
 ·simp only [g1, g2, Sem.run_pure, Sem.run_bind, Result.andThen, Option.getD_some, Option.isSome_some]
theorem l_lookup {α : Type} {d t kt et b sz by' : Nat} {x y : Operand} {enc : α → Value} {kv : List (Int × α)} {i : Int} (z : α) {zv : Value} (k : EnvOk P E := by refine inferInstance) (hd : Nat.blt d n = true := by refine rfl) (hx : ev tm x = some (.map (some b)) := by refine rfl) (hy : ev tm y = some (.int .i64 i) := by refine rfl)
  (ht : look E.ty t = some (.map kt et) := by refine rfl) (hk : look E.ty kt = some (.int .i64) := by refine rfl) (hz : look E.inf et = some (zv, sz, by') := by refine rfl) (tk : Take (mp b enc kv) H H' := by with_reducible (repeat (first | refine Take.here | apply Take.there))) (hze : zv = enc z := by refine rfl)
  (h : L P n w0 F0 ops.toArray rest Q ((d, enc ((kvGet kv i).getD z)) :: tm) D H) :
  L P n w0 F0 ops.toArray (⟨some d, .lookup t x y false, ty, pos, after, none⟩ :: rest) Q tm D H := by
 subst hze
 refine .mk fun a w s => ?_
 obtain ⟨⟨_, ⟨_, _, ⟨⟨es, clock, hw, he, _⟩, _⟩, _⟩, _⟩, _⟩ := s.inv.take tk
 refine wpList_value rfl (v := enc ((kvGet kv i).getD z)) (w' := w) ?_ (h _ _ (s.put hd _))
 simp only [execOp, ev_sound s.tm hx, ev_sound s.tm hy, Sem.run_bind, run_lookup_int k hw he ht hk hz, Result.andThen, Sem.run_pure, Bool.false_eq_true, if_false]
theorem l_lookup_ok {α : Type} {d t kt et b sz by' : Nat} {x y : Operand} {enc : α → Value} {kv : List (Int × α)} {i : Int} (z : α) {zv : Value} (k : EnvOk P E := by refine inferInstance) (hd : Nat.blt d n = true := by refine rfl) (hx : ev tm x = some (.map (some b)) := by refine rfl) (hy : ev tm y = some (.int .i64 i) := by refine rfl)
  (ht : look E.ty t = some (.map kt et) := by refine rfl) (hk : look E.ty kt = some (.int .i64) := by refine rfl) (hz : look E.inf et = some (zv, sz, by') := by refine rfl) (tk : Take (mp b enc kv) H H' := by with_reducible (repeat (first | refine Take.here | apply Take.there))) (hze : zv = enc z := by refine rfl)
  (h : L P n w0 F0 ops.toArray rest Q ((d, .tuple #[enc ((kvGet kv i).getD z), .bool (kvGet kv i).isSome]) :: tm) D H) :
  L P n w0 F0 ops.toArray (⟨some d, .lookup t x y true, ty, pos, after, none⟩ :: rest) Q tm D H := by
 subst hze
 refine .mk fun a w s => ?_
 obtain ⟨⟨_, ⟨_, _, ⟨⟨es, clock, hw, he, _⟩, _⟩, _⟩, _⟩, _⟩ := s.inv.take tk
 refine wpList_value rfl (v := .tuple #[enc ((kvGet kv i).getD z), .bool (kvGet kv i).isSome]) (w' := w) ?_ (h _ _ (s.put hd _))
 simp only [execOp, ev_sound s.tm hx, ev_sound s.tm hy, Sem.run_bind, run_lookup_int k hw he ht hk hz, Result.andThen, Sem.run_pure, if_true]
theorem inv_mp {α : Type} {enc : α → Value} {kv kv' : List (Int × α)} {b : Nat} {es' : Array MapEntry} {clock' : Nat} {w w' : World} (i : Inv w0 F0 (mp b enc kv :: H) w) (hb : w'.heap[b]? = some (.map es' clock'))
  (h1 : es'.toList.map (fun x => (x.key, x.val)) = kv'.map (fun p => (Value.int .i64 p.1, enc p.2))) (h2 : ∀ x ∈ es'.toList, x.born < clock') (h3 : (es'.toList.map MapEntry.born).Nodup) (h4 : (kv'.map Prod.fst).Nodup)
  (hn : ∀ c, c ≠ b → w'.heap[c]? = w.heap[c]?) (hs : w'.heap.size = w.heap.size) (e1 : w'.os = w.os) (e2 : w'.tape = w.tape) (e3 : w'.output = w.output) : Inv w0 F0 (mp b enc kv' :: H) w' :=
 i.set1 (fun ⟨_, f⟩ => f) ⟨⟨es', clock', hb, h1, h2, h3, h4⟩, fun _ => Iff.rfl⟩ hn hs e1 e2 e3
theorem l_mapUpdate {α : Type} {t kt et b : Nat} {x y u : Operand} {enc : α → Value} {kv : List (Int × α)} {i : Int} {v : α} {vv : Value} (k : EnvOk P E := by refine inferInstance) (hx : ev tm x = some (.map (some b)) := by refine rfl) (hy : ev tm y = some (.int .i64 i) := by refine rfl) (hu : ev tm u = some vv := by refine rfl)
  (ht : look E.ty t = some (.map kt et) := by refine rfl) (hk : look E.ty kt = some (.int .i64) := by refine rfl) (tk : Take (mp b enc kv) H H' := by with_reducible (repeat (first | refine Take.here | apply Take.there))) (hv : vv = enc v := by refine rfl)
  (h : L P n w0 F0 ops.toArray rest Q tm D (mp b enc (kvPut kv i v) :: H')) :
  L P n w0 F0 ops.toArray (⟨none, .mapUpdate t x y u, ty, pos, after, none⟩ :: rest) Q tm D H := by
 subst hv
 refine .mk fun a w s => ?_
 have hi := s.inv.take tk
 obtain ⟨⟨_, ⟨_, _, ⟨⟨es, clock, hw, he, h2, h3, h4⟩, _⟩, _⟩, _⟩, _⟩ := id hi
 have hbl := lt_of_some hw
 have hset : ∀ o, ((setObj b o).run P w) = .ok () { w with heap := w.heap.setIfInBounds b o } := fun o => MapKept.run_setObj_map o hw
 have main : ∃ w', (Instr.mapUpdate t (.map (some b)) (.int .i64 i) (enc v)).run P w = .ok () w' ∧ Inv w0 F0 (mp b enc (kvPut kv i v) :: H') w' := by
  simp only [Instr.mapUpdate, Sem.run_bind, run_underlying (k.under ht), Result.andThen, MapKept.run_getObj_map hw, Sem.run_pure, run_checkKey_int (k.under hk), Instr.findKey, run_underlying (k.under hk)]
  rcases find_spec (enc := enc) i es.toList kv 0 he with ⟨g1, g2, g3, g4, g5⟩ | ⟨j, u, e0, g1, g2, g3, g4, g5, g6, g7⟩
  ·simp only [g2, Sem.run_pure, Result.andThen, hset]
   refine ⟨_, rfl, inv_mp hi (es' := es.push { key := .int .i64 i, val := enc v, born := clock }) (clock' := clock + 1) (by simp [hbl]) ?_ ?_ ?_ ?_ ?_ (by simp) rfl rfl rfl⟩
   ·simp [g3, he]
   ·intro x hx
    simp only [Array.toList_push, List.mem_append, List.mem_singleton] at hx
    rcases hx with hx | rfl
    ·exact Nat.lt_succ_of_lt (h2 x hx)
    ·exact Nat.lt_succ_self _
   ·simp only [Array.toList_push, List.map_append, List.map_cons, List.map_nil]
    refine List.nodup_append.2 ⟨h3, by simp, ?_⟩
    intro x hx y hy
    simp only [List.mem_singleton] at hy
    subst hy
    obtain ⟨e, he', rfl⟩ := List.mem_map.1 hx
    exact Nat.ne_of_lt (h2 e he')
   ·rw [g3, List.map_append]
    refine List.nodup_append.2 ⟨h4, by simp, ?_⟩
    intro x hx y hy
    simp only [List.map_cons, List.map_nil, List.mem_singleton] at hy
    subst hy
    exact fun q => g5 (by rw [← q]; exact hx)
   ·intro c hc
    simp [Array.getElem?_setIfInBounds, hc.symm]
  ·have hj : es[j]? = some e0 := by rw [← Array.getElem?_toList]; exact g3
   have hjl : j < es.toList.length := (List.getElem?_eq_some_iff.1 g3).1
   simp only [g2, Nat.zero_add, Sem.run_pure, hj, Option.map_some, Option.getD_some, g4, Sem.run_bind, MapKept.run_keyThatStays (d := .int .i64) (k := .int .i64 i) rfl, Result.andThen, hset]
   have em : (es.modify j fun e => { key := Value.int .i64 i, val := enc v, born := e.born }).toList = es.toList.set j { e0 with val := enc v } := by
    rw [Array.toList_modify]
    apply List.ext_getElem?
    intro q
    rw [List.getElem?_modify, List.getElem?_set]
    by_cases hq : j = q
    ·subst hq
     simp only [if_true, hjl, g3, Option.map_some, g4]
     cases e0; simp only at g4; subst g4; rfl
    ·simp [hq]
   refine ⟨_, rfl, inv_mp hi (es' := es.modify j fun e => { key := Value.int .i64 i, val := enc v, born := e.born }) (clock' := clock) (by simp [hbl]) ?_ ?_ ?_ ?_ ?_ (by simp) rfl rfl rfl⟩
   ·rw [em]; exact g5 v
   ·intro x hx
    rw [em] at hx
    rcases List.mem_or_eq_of_mem_set hx with hx | rfl
    ·exact h2 x hx
    ·exact h2 e0 (List.mem_of_getElem? g3)
   ·rw [em, List.map_set]
    have : (es.toList.map MapEntry.born).set j e0.born = es.toList.map MapEntry.born := by
     apply List.ext_getElem?
     intro q
     rw [List.getElem?_set]
     by_cases hq : j = q
     ·subst hq
      rw [if_pos rfl, if_pos (by simpa using hjl), List.getElem?_map, g3]; rfl
     ·simp [hq]
    simp only [this]; exact h3
   ·have := g6 v
    rw [show (kvPut kv i v).map Prod.fst = kv.map Prod.fst from this]; exact h4
   ·intro c hc
    simp [Array.getElem?_setIfInBounds, hc.symm]
 obtain ⟨w', hr, hi'⟩ := main
 refine wpList_unit rfl (w' := w') ?_ (h _ _ ⟨s.tm, s.defers, hi'⟩)
 simp only [execOp, ev_sound s.tm hx, ev_sound s.tm hy, ev_sound s.tm hu, Sem.run_bind, hr, Result.andThen, Sem.run_pure]
theorem l_delete {α : Type} {d : Option Nat} {t kt et b ka : Nat} {x y : Operand} {enc : α → Value} {kv : List (Int × α)} {i : Int} (k : EnvOk P E) (hd : ∀ j, d = some j → Nat.blt j n = true) (hx : ev tm x = some (.map (some b))) (hy : ev tm y = some (.int .i64 i))
  (ht : look E.ty t = some (.map kt et)) (hk : look E.ty kt = some (.int .i64)) (tk : Take (mp b enc kv) H H')
  (h : L P n w0 F0 ops.toArray rest Q (match d with | some j => (j, .tuple #[]) :: tm | none => tm) D (mp b enc (kvDel kv i) :: H')) :
  L P n w0 F0 ops.toArray (⟨d, .call { callee := .builtin .delete, args := #[x, y], argTypes := #[t, ka] }, ty, pos, after, none⟩ :: rest) Q tm D H := by
 refine .mk fun a w s => ?_
 have hi := s.inv.take tk
 obtain ⟨⟨_, ⟨_, _, ⟨⟨es, clock, hw, he, h2, h3, h4⟩, _⟩, _⟩, _⟩, _⟩ := id hi
 have hbl := lt_of_some hw
 have hset : ∀ o, ((setObj b o).run P w) = .ok () { w with heap := w.heap.setIfInBounds b o } := fun o => MapKept.run_setObj_map o hw
 have main : ∃ w', (Builtin.delete_ #[t, ka] ty #[.map (some b), .int .i64 i]).run P w = .ok (.tuple #[]) w' ∧ Inv w0 F0 (mp b enc (kvDel kv i) :: H') w' := by
  simp only [Builtin.delete_, List.getElem?_toArray, List.getElem?_cons_zero, List.getElem?_cons_succ, Sem.run_bind, run_underlying (k.under ht), Result.andThen, MapKept.run_getObj_map hw, Sem.run_pure, run_checkKey_int (k.under hk), Instr.findKey, run_underlying (k.under hk)]
  rcases find_spec (enc := enc) i es.toList kv 0 he with ⟨g1, g2, g3, g4, g5⟩ | ⟨j, u, e0, g1, g2, g3, g4, g5, g6, g7, g8⟩
  ·simp only [g2, Sem.run_pure, Sem.run_bind, Result.andThen, hset]
   exact ⟨_, rfl, inv_mp hi (es' := es) (clock' := clock) (by simp [hbl]) (by rw [g4]; exact he) h2 h3 (by rw [g4]; exact h4) (fun c hc => by simp [Array.getElem?_setIfInBounds, hc.symm]) (by simp) rfl rfl rfl⟩
  ·simp only [g2, Nat.zero_add, Sem.run_pure, Sem.run_bind, Result.andThen, hset]
   have em : (es.eraseIdxIfInBounds j).toList = es.toList.eraseIdx j := by
    have hj : j < es.size := by have := (List.getElem?_eq_some_iff.1 g3).1; simpa using this
    simp [Array.eraseIdxIfInBounds, hj]
   refine ⟨_, rfl, inv_mp hi (es' := es.eraseIdxIfInBounds j) (clock' := clock) (by simp [hbl]) (by rw [em]; exact g7) ?_ ?_ ?_ (fun c hc => by simp [Array.getElem?_setIfInBounds, hc.symm]) (by simp) rfl rfl rfl⟩
   ·intro x hx
    rw [em] at hx
    exact h2 x ((List.eraseIdx_sublist _ _).mem hx)
   ·rw [em]
    exact ((List.eraseIdx_sublist _ _).map _).nodup h3
   ·exact (g8.map _).nodup h4
 obtain ⟨w', hr, hi'⟩ := main
 have hr2 : (execOp a.eval ⟨d, .call { callee := .builtin .delete, args := #[x, y], argTypes := #[t, ka] }, ty, pos, after, none⟩).run P w = .ok (.value (.tuple #[])) w' := by
  simp only [execOp, resolve, invoke, builtin, Sem.run_bind, Sem.run_pure, Result.andThen_ok, List.map_toArray, List.map_cons, List.map_nil, ev_sound s.tm hx, ev_sound s.tm hy, hr]
 refine wpList_value rfl (v := .tuple #[]) (w' := w') hr2 (h _ _ ?_)
 cases d with
 | none => exact ⟨s.tm, s.defers, hi'⟩
 | some j => exact ⟨s.tm.put (hd j rfl) _, s.defers, hi'⟩
theorem l_len_map {α : Type} {d t kt et b : Nat} {x : Operand} {enc : α → Value} {kv : List (Int × α)} (k : EnvOk P E := by refine inferInstance) (hd : Nat.blt d n = true := by refine rfl) (hx : ev tm x = some (.map (some b)) := by refine rfl) (ht : look E.ty t = some (.map kt et) := by refine rfl) (tk : Take (mp b enc kv) H H' := by with_reducible (repeat (first | refine Take.here | apply Take.there)))
  (h : L P n w0 F0 ops.toArray rest Q ((d, .int .i64 (kv.length : Nat)) :: tm) D H) :
  L P n w0 F0 ops.toArray (⟨some d, .call { callee := .builtin .len, args := #[x], argTypes := #[t] }, ty, pos, after, none⟩ :: rest) Q tm D H := by
 refine .mk fun a w s => ?_
 obtain ⟨⟨_, ⟨_, _, ⟨⟨es, clock, hw, he, _⟩, _⟩, _⟩, _⟩, _⟩ := s.inv.take tk
 have hl : es.size = kv.length := by have := congrArg List.length he; simpa using this
 refine wpList_value rfl (v := .int .i64 (kv.length : Nat)) (w' := w) ?_ (h _ _ (s.put hd _))
 have hr : (Builtin.len_ #[t] ty #[.map (some b)]).run P w = .ok (.int .i64 (kv.length : Nat)) w := by
  simp only [Builtin.len_, List.getElem?_toArray, List.getElem?_cons_zero, Sem.run_bind, run_underlying (k.under ht), Result.andThen, MapKept.run_getObj_map hw, Sem.run_pure, goInt, hl]
 simp only [execOp, resolve, invoke, builtin, Sem.run_bind, Sem.run_pure, Result.andThen_ok, List.map_toArray, List.map_cons, List.map_nil, ev_sound s.tm hx, hr]
end
end Go.Proofs.YtelfjhemnnbbpaaGreat.SL
namespace Go.Proofs.YtelfjhemnnbbpaaGreat.SL
open Go.RowKit Go.WideElems
section
variable {P : Program} {n : Nat} {w0 : World} {F0 : Nat → Prop} {H : List SProp}
theorem inv_below {F : Nat → Prop} {K : List SProp} {w w' : World} (b : Below w.heap.size w w') (s : sep K w.heap F) : Inv w F K w' :=
 ⟨⟨F, sep_loc s (fun x hx => b.block x (sep_bnd s x hx)), fun _ _ h => h⟩, fun x hx _ => b.block x hx, b.size, b.os, b.tape, b.output⟩
theorem does_below {f : FuncId} {args : List Value} {v : Value} (h : ∀ w, Calls P f args.toArray w fun e w' => e = .returned v ∧ Below w.heap.size w w') : Does P f args [] (fun u H => u = v ∧ H = []) := by
 intro w F s
 exact (h w).mono fun e w' ⟨h1, h2⟩ => ⟨v, [], h1, ⟨rfl, rfl⟩, inv_below h2 s⟩
theorem addr_add (b o j : Nat) : (⟨b, o, none⟩ : Addr).add j = ⟨b, o + j, none⟩ := by unfold Addr.add; split <;> simp_all
theorem l_copy_in {E : Env} {Q : Exit → Act → World → Prop} {tm : List (Nat × Value)} {D : List Deferred} {H' : List SProp} {ops rest : List Oper} {ty : TypeId} {pos : String} {after : Array Edge} {d t e b o1 o2 m k cap cap' by' : Nat} {x y : Operand} {T : TypeId} {c : List Value} {z : Value} (ke : EnvOk P E := by refine inferInstance) (hd : Nat.blt d n = true := by refine rfl)
  (hx : ev tm x = some (.slice (some ⟨b, o1, none⟩) m cap) := by refine rfl) (hy : ev tm y = some (.slice (some ⟨b, o2, none⟩) k cap') := by refine rfl) (ht : look E.ty t = some (.slice e) := by refine rfl) (he : look E.inf e = some (z, 1, by') := by refine rfl) (tk : Take (cl b T c) H H' := by with_reducible (repeat (first | refine Take.here | apply Take.there)))
  (h1 : ∀ u ∈ c, u.oneCell' = true := by first | assumption | (intro u hu; simp at hu; simp [hu, Value.oneCell'])) (hb : o1 + m ≤ c.length ∧ o2 + k ≤ c.length := by first | assumption | omega | (refine ⟨?_, ?_⟩ <;> omega) | (simp only [List.length_cons, List.length_nil, str] at *; omega) | (simp only [List.length_append] at *; omega) | (simp only [List.length_take, List.length_drop, List.length_cons, List.length_nil]; omega))
  (h : L P n w0 F0 ops.toArray rest Q ((d, .int .i64 (min k m : Nat)) :: tm) D (cl b T (c.take o1 ++ (c.drop o2).take (min k m) ++ c.drop (o1 + min k m)) :: H')) :
  L P n w0 F0 ops.toArray (⟨some d, .call { callee := .builtin .copy, args := #[x, y], argTypes := #[t, t] }, ty, pos, after, none⟩ :: rest) Q tm D H := by
 refine .mk fun a w s => ?_
 have i := s.inv.take tk
 obtain ⟨fr, hq, hw⟩ := i.cell
 obtain ⟨hb1, hb2⟩ := hb
 have hlen : ((c.drop o2).take (min k m)).length = min k m := by rw [List.length_take, List.length_drop]; omega
 have hcell : ∀ j u, ((c.drop o2).take (min k m))[j]? = some u → w.cell? ((⟨b, o2, none⟩ : Addr).add j) = some u := by
  intro j u hu
  have hj : j < min k m := by have := (List.getElem?_eq_some_iff.1 hu).1; omega
  rw [List.getElem?_take_of_lt hj, List.getElem?_drop] at hu
  have : (⟨b, o2, none⟩ : Addr).add j = ⟨b, o2 + j, none⟩ := by unfold Addr.add; split <;> simp_all
  rw [this, cell_at hw]
  simpa using hu
 have h1' : ∀ u ∈ (c.drop o2).take (min k m), u.oneCell' = true := fun u hu => h1 u (List.mem_of_mem_drop (List.mem_of_mem_take hu))
 obtain ⟨w', hr, e1, nn, sz, f1, f2, f3⟩ := run_storeC (P := P) b o1 T fr ((c.drop o2).take (min k m)) 0 c w hw hq (by omega) h1'
 rw [hlen, Nat.add_zero] at e1
 have hf := run_firstCells_some (P := P) w 1 (min k m) ⟨b, o2, none⟩ k cap' ((c.drop o2).take (min k m)) (by omega) hcell
 have hn' : Nat.min k m = min k m := rfl
 refine wpList_value rfl (v := .int .i64 (min k m : Nat)) (w' := w') ?_ (h _ _ ⟨s.tm.put hd _, s.defers, i.set_cl (fr := fr) ?_ e1 nn sz f1 f2 f3⟩)
 ·have hc : (Builtin.copy_ #[t, t] ty #[.slice (some ⟨b, o1, none⟩) m cap, .slice (some ⟨b, o2, none⟩) k cap']).run P w = .ok (.int .i64 (min k m : Nat)) w' := by
   simp only [Builtin.copy_, List.getElem?_toArray, List.getElem?_cons_zero, List.getElem?_cons_succ, Sem.run_bind, run_underlying (ke.under ht), Result.andThen, Builtin.lenOf, Sem.run_pure, run_size ke he, hn', hf, List.toList_toArray, hr, goInt]
  simp only [execOp, resolve, invoke, builtin, Sem.run_bind, Sem.run_pure, Result.andThen_ok, List.map_toArray, List.map_cons, List.map_nil, ev_sound s.tm hx, ev_sound s.tm hy, hc]
 ·intro o ho
  refine hq o ?_
  simp only [List.length_append, hlen, List.length_take, List.length_drop] at ho ⊢
  omega
theorem l_copy_row {E : Env} {Q : Exit → Act → World → Prop} {tm : List (Nat × Value)} {D : List Deferred} {H' : List SProp} {ops rest : List Oper} {ty : TypeId} {pos : String} {after : Array Edge} {d t e b b2 o1 o2 m k cap cap' by' : Nat} {x y : Operand} {T T2 : TypeId} {c r : List Value} {H2 : List SProp} {z : Value} (ke : EnvOk P E := by refine inferInstance) (hd : Nat.blt d n = true := by refine rfl)
  (hx : ev tm x = some (.slice (some ⟨b, o1, none⟩) m cap) := by refine rfl) (hy : ev tm y = some (.slice (some ⟨b2, o2, none⟩) k cap') := by refine rfl) (ht : look E.ty t = some (.slice e) := by refine rfl) (he : look E.inf e = some (z, 1, by') := by refine rfl) (tk : Take (cl b T c) H H' := by with_reducible (repeat (first | refine Take.here | apply Take.there))) (tb : Take (cl b2 T2 r) H' H2 := by with_reducible (repeat (first | refine Take.here | apply Take.there)))
  (h1 : ∀ u ∈ r, u.oneCell' = true := by first | assumption | (intro u hu; simp at hu; simp [hu, Value.oneCell'])) (hb : o1 + m ≤ c.length ∧ o2 + k ≤ r.length := by first | assumption | omega | (refine ⟨?_, ?_⟩ <;> omega) | (simp only [List.length_cons, List.length_nil, str] at *; omega) | (simp only [List.length_append] at *; omega) | (simp only [List.length_take, List.length_drop, List.length_cons, List.length_nil]; omega))
  (h : L P n w0 F0 ops.toArray rest Q ((d, .int .i64 (min k m : Nat)) :: tm) D (cl b T (c.take o1 ++ (r.drop o2).take (min k m) ++ c.drop (o1 + min k m)) :: H')) :
  L P n w0 F0 ops.toArray (⟨some d, .call { callee := .builtin .copy, args := #[x, y], argTypes := #[t, t] }, ty, pos, after, none⟩ :: rest) Q tm D H := by
 refine .mk fun a w s => ?_
 have i := s.inv.take tk
 obtain ⟨fr, hq, hw⟩ := i.cell
 obtain ⟨hb1, hb2⟩ := hb
 have i2 := i.parts (Parts.cons (Take.there tb) Parts.nil)
 obtain ⟨fr2, _, hw2⟩ := Inv.cell (i2 : Inv w0 F0 (cl b2 T2 r :: _) w)
 have hlen : ((r.drop o2).take (min k m)).length = min k m := by rw [List.length_take, List.length_drop]; omega
 have hcell : ∀ j u, ((r.drop o2).take (min k m))[j]? = some u → w.cell? ((⟨b2, o2, none⟩ : Addr).add j) = some u := by
  intro j u hu
  have hj : j < min k m := by have := (List.getElem?_eq_some_iff.1 hu).1; omega
  rw [List.getElem?_take_of_lt hj, List.getElem?_drop] at hu
  rw [addr_add, cell_at hw2]
  simpa using hu
 have h1' : ∀ u ∈ (r.drop o2).take (min k m), u.oneCell' = true := fun u hu => h1 u (List.mem_of_mem_drop (List.mem_of_mem_take hu))
 obtain ⟨w', hr, e1, nn, sz, f1, f2, f3⟩ := run_storeC (P := P) b o1 T fr ((r.drop o2).take (min k m)) 0 c w hw hq (by omega) h1'
 rw [hlen, Nat.add_zero] at e1
 have hf := run_firstCells_some (P := P) w 1 (min k m) ⟨b2, o2, none⟩ k cap' ((r.drop o2).take (min k m)) (by omega) hcell
 have hn' : Nat.min k m = min k m := rfl
 refine wpList_value rfl (v := .int .i64 (min k m : Nat)) (w' := w') ?_ (h _ _ ⟨s.tm.put hd _, s.defers, i.set_cl (fr := fr) ?_ e1 nn sz f1 f2 f3⟩)
 ·have hc : (Builtin.copy_ #[t, t] ty #[.slice (some ⟨b, o1, none⟩) m cap, .slice (some ⟨b2, o2, none⟩) k cap']).run P w = .ok (.int .i64 (min k m : Nat)) w' := by
   simp only [Builtin.copy_, List.getElem?_toArray, List.getElem?_cons_zero, List.getElem?_cons_succ, Sem.run_bind, run_underlying (ke.under ht), Result.andThen, Builtin.lenOf, Sem.run_pure, run_size ke he, hn', hf, List.toList_toArray, hr, goInt]
  simp only [execOp, resolve, invoke, builtin, Sem.run_bind, Sem.run_pure, Result.andThen_ok, List.map_toArray, List.map_cons, List.map_nil, ev_sound s.tm hx, ev_sound s.tm hy, hc]
 ·intro o ho
  refine hq o ?_
  simp only [List.length_append, hlen, List.length_take, List.length_drop] at ho ⊢
  omega
theorem l_load_p {E : Env} {Q : Exit → Act → World → Prop} {tm : List (Nat × Value)} {D : List Deferred} {H' : List SProp} {ops rest : List Oper} {ty : TypeId} {pos : String} {after : Array Edge} {d t b off : Nat} {x : Operand} {c : List Value} {T : TypeId} {fr : Nat × Nat} {v : Value} {dd : TypeDesc} (k : EnvOk P E := by refine inferInstance) (hd : Nat.blt d n = true := by refine rfl) (hx : ev tm x = some (.pointer (some ⟨b, off, none⟩)) := by refine rfl)
  (ht : Take (pts b (.cells c.toArray T fr)) H H' := by with_reducible (repeat (first | refine Take.here | apply Take.there))) (hu : look E.ty t = some dd := by refine rfl) (ha : isAggTy dd = false := by refine rfl) (hv : c[off]? = some v := by first | assumption | refine bsV_get (by first | omega | (simp; omega)) | refine uV_get (by omega) | refine rfl) (h : L P n w0 F0 ops.toArray rest Q ((d, v) :: tm) D H) :
  L P n w0 F0 ops.toArray (⟨some d, .load t x, ty, pos, after, none⟩ :: rest) Q tm D H :=
 .mk fun a w s => by
  have hw := (s.inv.take ht).get
  refine wpList_value rfl (v := v) (w' := w) ?_ (h _ _ (s.put hd v))
  have : partV E t c off = some v := by unfold partV; rw [hu]; simp only [ha, cond_false]; rw [nth_eq]; exact hv
  simp [execOp, ev_sound s.tm hx, run_loadAt k hw this]
theorem a_load_p {E : Env} {Q : Exit → Act → World → Prop} {tm : List (Nat × Value)} {D : List Deferred} {ops : List Oper} {ty : TypeId} {pos : String} {after : Array Edge} {Hs Hs' : List SProp} {listed : Array Bool} {ll : List Bool} {i d t b off : Nat} {x : Operand} {c : List Value} {T : TypeId} {fr : Nat × Nat} {v : Value} {dd : TypeDesc} (k : EnvOk P E := by refine inferInstance) (hs : noSel ops = true := by refine rfl) (hi : nextLoad ops 0 listed = some i := by refine rfl)
  (ho : nth ops i = some ⟨some d, .load t x, ty, pos, after, none⟩ := by refine rfl) (hd : Nat.blt d n = true := by refine rfl) (hx : ev tm x = some (.pointer (some ⟨b, off, none⟩)) := by refine rfl) (ht : Take (pts b (.cells c.toArray T fr)) Hs Hs' := by with_reducible (repeat (first | refine Take.here | apply Take.there))) (hu : look E.ty t = some dd := by refine rfl) (ha : isAggTy dd = false := by refine rfl) (hv : c[off]? = some v := by first | assumption | refine bsV_get (by first | omega | (simp; omega)) | refine uV_get (by omega) | refine rfl)
  (hf : freeL ops.toArray i ⟨some d, .load t x, ty, pos, after, none⟩ listed ops 0 = true := by refine rfl) (hl : listed.getD i true = false := by refine rfl) (hr : rdyB after.toList listed = true := by refine rfl) (hn : copyB (listed.setIfInBounds i true).toList = some ll := by refine rfl) (hc : Calm Q := by with_reducible (repeat (first | assumption | refine calm_post | refine calm_postM | refine calm_round | apply calm_then | apply calm_block | apply calm_scope)))
  (h : A P n w0 F0 ops Hs ll.toArray Q ((d, v) :: tm) D H) : A P n w0 F0 ops Hs listed Q tm D H :=
 a_take (v := v) hd ho (fun c a w => hc c a w _ _) hs hf hl hr (fun a w htm ⟨F, s⟩ => by
  obtain ⟨F1, F2, ⟨e, _⟩, _⟩ := ht.sep s
  have hp : partV E t c off = some v := by unfold partV; rw [hu]; simp only [ha, cond_false]; rw [nth_eq]; exact hv
  simp [execOp, ev_sound htm hx, run_loadAt k e hp]) (by rw [copyB_arr hn]; exact h)
theorem a_yh {Q : Exit → Act → World → Prop} {tm : List (Nat × Value)} {D : List Deferred} {ops : List Oper} {ty : TypeId} {pos : String} {after : Array Edge} {Hs : List SProp} {listed : Array Bool} {i d j t : Nat} {op : Op} {want : Bool} {v : Value} (hc : Calm Q) (hs : noSel ops = true) (ho : nth ops i = some ⟨some d, op, ty, pos, after, some (j, want)⟩) (hd : Nat.blt d n = true)
  (hst : slotOf ops j = some t) (htb : tget tm t = some (.bool want)) (hb : Nat.blt t n = true)
  (hf : freeL ops.toArray i ⟨some d, op, ty, pos, after, some (j, want)⟩ listed ops 0 = true) (hl : listed.getD i true = false) (hr : rdyB after.toList listed = true)
  (hy : ∀ a w, Tm n tm a → (∃ F, sep Hs w.heap F) → (execOp a.eval ⟨some d, op, ty, pos, after, none⟩).run P w = .ok (.value v) w)
  (h : A P n w0 F0 ops Hs (listed.setIfInBounds i true) Q ((d, v) :: tm) D H) : A P n w0 F0 ops Hs listed Q tm D H := by
 refine .mk fun fuel hfu a w s hS => ?_
 have hu := unl_set hl
 obtain ⟨m, rfl⟩ : ∃ m, fuel = m + 1 := ⟨fuel - 1, by omega⟩
 have hi : ops.toArray[i]? = some ⟨some d, op, ty, pos, after, some (j, want)⟩ := by rw [nth_eq] at ho; simpa using ho
 refine wpAnyH_first hi (fun j o cs b hj => noSel_spec hs j o cs b (by simpa using hj)) (fun c a w => hc c a w _ _) m listed a w ?_ (mem_ready.2 ⟨hl, _, hi, rdyB_iff.1 hr⟩) (v := v) ?_ hS (h m (by omega) _ _ (s.put hd v) hS)
 ·intro j oj hj hne hun hno
  exact freeL_spec hf j oj (by simpa using hj) (by omega) (by simpa using hun) hno
 ·exact .inl ⟨by simp [Region.wanted, yielded_some s.tm hst htb hb], fun w hw => by
   have := hy a w s.tm hw
   simpa [execOp] using this⟩
theorem a_loadg_p {E : Env} {Q : Exit → Act → World → Prop} {tm : List (Nat × Value)} {D : List Deferred} {ops : List Oper} {ty : TypeId} {pos : String} {after : Array Edge} {Hs Hs' : List SProp} {listed : Array Bool} {ll : List Bool} {i d j ts t b off : Nat} {want : Bool} {x : Operand} {c : List Value} {T : TypeId} {fr : Nat × Nat} {v : Value} {dd : TypeDesc} (k : EnvOk P E := by refine inferInstance) (hs : noSel ops = true := by refine rfl) (hi : nextR ops 0 listed = some i := by refine rfl)
  (ho : nth ops i = some ⟨some d, .load t x, ty, pos, after, some (j, want)⟩ := by refine rfl) (hd : Nat.blt d n = true := by refine rfl) (hst : slotOf ops j = some ts := by refine rfl) (htb : tget tm ts = some (.bool want) := by refine rfl) (hb : Nat.blt ts n = true := by refine rfl) (hx : ev tm x = some (.pointer (some ⟨b, off, none⟩)) := by refine rfl) (ht : Take (pts b (.cells c.toArray T fr)) Hs Hs' := by with_reducible (repeat (first | refine Take.here | apply Take.there))) (hu : look E.ty t = some dd := by refine rfl) (ha : isAggTy dd = false := by refine rfl) (hv : c[off]? = some v := by first | assumption | refine bsV_get (by first | omega | (simp; omega)) | refine uV_get (by omega) | refine rfl)
  (hf : freeL ops.toArray i ⟨some d, .load t x, ty, pos, after, some (j, want)⟩ listed ops 0 = true := by refine rfl) (hl : listed.getD i true = false := by refine rfl) (hr : rdyB after.toList listed = true := by refine rfl) (hn : copyB (listed.setIfInBounds i true).toList = some ll := by refine rfl) (hc : Calm Q := by with_reducible (repeat (first | assumption | refine calm_post | refine calm_postM | refine calm_round | apply calm_then | apply calm_block | apply calm_scope)))
  (h : A P n w0 F0 ops Hs ll.toArray Q ((d, v) :: tm) D H) : A P n w0 F0 ops Hs listed Q tm D H :=
 a_yh (v := v) hc hs ho hd hst htb hb hf hl hr (fun a w htm ⟨F, s⟩ => by
  obtain ⟨F1, F2, ⟨e, _⟩, _⟩ := ht.sep s
  have hp : partV E t c off = some v := by unfold partV; rw [hu]; simp only [ha, cond_false]; rw [nth_eq]; exact hv
  simp [execOp, ev_sound htm hx, run_loadAt k e hp]) (by rw [copyB_arr hn]; exact h)
theorem a_loadg {E : Env} {Q : Exit → Act → World → Prop} {tm : List (Nat × Value)} {D : List Deferred} {ops : List Oper} {ty : TypeId} {pos : String} {after : Array Edge} {Hs Hs' : List SProp} {listed : Array Bool} {ll : List Bool} {i d j ts t b off : Nat} {want : Bool} {x : Operand} {c : List Value} {T : TypeId} {v : Value} {dd : TypeDesc} (k : EnvOk P E := by refine inferInstance) (hs : noSel ops = true := by refine rfl) (hi : nextR ops 0 listed = some i := by refine rfl)
  (ho : nth ops i = some ⟨some d, .load t x, ty, pos, after, some (j, want)⟩ := by refine rfl) (hd : Nat.blt d n = true := by refine rfl) (hst : slotOf ops j = some ts := by refine rfl) (htb : tget tm ts = some (.bool want) := by refine rfl) (hb : Nat.blt ts n = true := by refine rfl) (hx : ev tm x = some (.pointer (some ⟨b, off, none⟩)) := by refine rfl) (ht : Take (cl b T c) Hs Hs' := by with_reducible (repeat (first | refine Take.here | apply Take.there))) (hu : look E.ty t = some dd := by refine rfl) (ha : isAggTy dd = false := by refine rfl) (hv : c[off]? = some v := by first | assumption | refine bsV_get (by first | omega | (simp; omega)) | refine uV_get (by omega) | refine rfl)
  (hf : freeL ops.toArray i ⟨some d, .load t x, ty, pos, after, some (j, want)⟩ listed ops 0 = true := by refine rfl) (hl : listed.getD i true = false := by refine rfl) (hr : rdyB after.toList listed = true := by refine rfl) (hn : copyB (listed.setIfInBounds i true).toList = some ll := by refine rfl) (hc : Calm Q := by with_reducible (repeat (first | assumption | refine calm_post | refine calm_postM | refine calm_round | apply calm_then | apply calm_block | apply calm_scope)))
  (h : A P n w0 F0 ops Hs ll.toArray Q ((d, v) :: tm) D H) : A P n w0 F0 ops Hs listed Q tm D H :=
 a_yh (v := v) hc hs ho hd hst htb hb hf hl hr (fun a w htm ⟨F, s⟩ => by
  obtain ⟨F1, F2, ⟨⟨fr, _, e⟩, _⟩, _⟩ := ht.sep s
  have hp : partV E t c off = some v := by unfold partV; rw [hu]; simp only [ha, cond_false]; rw [nth_eq]; exact hv
  simp [execOp, ev_sound htm hx, run_loadAt k e hp]) (by rw [copyB_arr hn]; exact h)
theorem sameK_self (k : IntKind) : sameK k k = true := by cases k <;> rfl
theorem nzI_of {y : Int} (h : y ≠ 0) : nzI y = true := by unfold nzI; first | simpa using h | (split <;> simp_all) | (cases y <;> simp_all)
theorem v_rem {E : Env} {tm : List (Nat × Value)} {t t2 : Nat} {x y : Operand} {kk : IntKind} {u m : Int} (k : EnvOk P E := by refine inferInstance) (hx : ev tm x = some (.int kk u) := by refine rfl) (hy : ev tm y = some (.int kk m) := by refine rfl) (hm : m ≠ 0 := by first | assumption | omega | (refine ⟨?_, ?_⟩ <;> omega) | (simp only [List.length_cons, List.length_nil, str] at *; omega) | (simp only [List.length_append] at *; omega) | (simp only [List.length_take, List.length_drop, List.length_cons, List.length_nil]; omega)) : V P n tm (.binOp .rem t x y t2) (.int kk (u.tmod m)) :=
 v_bin k hx hy (by simp [binV, intV, sameK_self, nzI_of hm])
theorem v_quo {E : Env} {tm : List (Nat × Value)} {t t2 : Nat} {x y : Operand} {kk : IntKind} {u m : Int} (k : EnvOk P E := by refine inferInstance) (hx : ev tm x = some (.int kk u) := by refine rfl) (hy : ev tm y = some (.int kk m) := by refine rfl) (hm : m ≠ 0 := by first | assumption | omega | (refine ⟨?_, ?_⟩ <;> omega) | (simp only [List.length_cons, List.length_nil, str] at *; omega) | (simp only [List.length_append] at *; omega) | (simp only [List.length_take, List.length_drop, List.length_cons, List.length_nil]; omega)) : V P n tm (.binOp .quo t x y t2) (.int kk (kk.wrap (u.tdiv m))) :=
 v_bin k hx hy (by simp [binV, intV, sameK_self, nzI_of hm])
theorem l_delete0 {α : Type} {E : Env} {Q : Exit → Act → World → Prop} {tm : List (Nat × Value)} {D : List Deferred} {H' : List SProp} {ops rest : List Oper} {ty : TypeId} {pos : String} {after : Array Edge} {t kt et b ka : Nat} {x y : Operand} {enc : α → Value} {kv : List (Int × α)} {i : Int} (k : EnvOk P E := by refine inferInstance) (hx : ev tm x = some (.map (some b)) := by refine rfl) (hy : ev tm y = some (.int .i64 i) := by refine rfl)
  (ht : look E.ty t = some (.map kt et) := by refine rfl) (hk : look E.ty kt = some (.int .i64) := by refine rfl) (tk : Take (mp b enc kv) H H' := by with_reducible (repeat (first | refine Take.here | apply Take.there)))
  (h : L P n w0 F0 ops.toArray rest Q tm D (mp b enc (kvDel kv i) :: H')) :
  L P n w0 F0 ops.toArray (⟨none, .call { callee := .builtin .delete, args := #[x, y], argTypes := #[t, ka] }, ty, pos, after, none⟩ :: rest) Q tm D H :=
 l_delete k (d := none) (fun _ q => nomatch q) hx hy ht hk tk h
theorem l_rem {E : Env} {Q : Exit → Act → World → Prop} {tm : List (Nat × Value)} {D : List Deferred} {ops rest : List Oper} {ty : TypeId} {pos : String} {after : Array Edge} {d t t2 : Nat} {x y : Operand} {kk : IntKind} {u m : Int} (k : EnvOk P E := by refine inferInstance) (hd : Nat.blt d n = true := by refine rfl) (hx : ev tm x = some (.int kk u) := by refine rfl) (hy : ev tm y = some (.int kk m) := by refine rfl) (hm : m ≠ 0 := by first | assumption | omega | (refine ⟨?_, ?_⟩ <;> omega) | (simp only [List.length_cons, List.length_nil, str] at *; omega) | (simp only [List.length_append] at *; omega) | (simp only [List.length_take, List.length_drop, List.length_cons, List.length_nil]; omega))
  (h : L P n w0 F0 ops.toArray rest Q ((d, .int kk (u.tmod m)) :: tm) D H) : L P n w0 F0 ops.toArray (⟨some d, .binOp .rem t x y t2, ty, pos, after, none⟩ :: rest) Q tm D H :=
 l_bin k hd hx hy (by simp [binV, intV, sameK_self, nzI_of hm]) h
theorem l_quo {E : Env} {Q : Exit → Act → World → Prop} {tm : List (Nat × Value)} {D : List Deferred} {ops rest : List Oper} {ty : TypeId} {pos : String} {after : Array Edge} {d t t2 : Nat} {x y : Operand} {kk : IntKind} {u m : Int} (k : EnvOk P E := by refine inferInstance) (hd : Nat.blt d n = true := by refine rfl) (hx : ev tm x = some (.int kk u) := by refine rfl) (hy : ev tm y = some (.int kk m) := by refine rfl) (hm : m ≠ 0 := by first | assumption | omega | (refine ⟨?_, ?_⟩ <;> omega) | (simp only [List.length_cons, List.length_nil, str] at *; omega) | (simp only [List.length_append] at *; omega) | (simp only [List.length_take, List.length_drop, List.length_cons, List.length_nil]; omega))
  (h : L P n w0 F0 ops.toArray rest Q ((d, .int kk (kk.wrap (u.tdiv m))) :: tm) D H) : L P n w0 F0 ops.toArray (⟨some d, .binOp .quo t x y t2, ty, pos, after, none⟩ :: rest) Q tm D H :=
 l_bin k hd hx hy (by simp [binV, intV, sameK_self, nzI_of hm]) h
theorem v_slice {E : Env} {tm : List (Nat × Value)} {t e b off len cap sz by' : Nat} {x : Operand} {lo hi : Option Operand} {jl jh : Int} {z : Value} (k : EnvOk P E := by refine inferInstance) (hx : ev tm x = some (.slice (some ⟨b, off, none⟩) len cap) := by refine rfl) (ht : look E.ty t = some (.slice e) := by refine rfl) (he : look E.inf e = some (z, sz, by') := by refine rfl)
  (h1 : evO tm 0 lo = some jl := by refine rfl) (h2 : evO tm len hi = some jh := by refine rfl) (hb : 0 ≤ jl ∧ jl ≤ jh ∧ jh ≤ cap := by first | assumption | omega | (refine ⟨?_, ?_⟩ <;> omega) | (simp only [List.length_cons, List.length_nil, str] at *; omega) | (simp only [List.length_append] at *; omega) | (simp only [List.length_take, List.length_drop, List.length_cons, List.length_nil]; omega)) (hl : len ≤ cap := by first | assumption | omega | (refine ⟨?_, ?_⟩ <;> omega) | (simp only [List.length_cons, List.length_nil, str] at *; omega) | (simp only [List.length_append] at *; omega) | (simp only [List.length_take, List.length_drop, List.length_cons, List.length_nil]; omega)) (hlt : jl < cap := by first | assumption | omega | (refine ⟨?_, ?_⟩ <;> omega) | (simp only [List.length_cons, List.length_nil, str] at *; omega) | (simp only [List.length_append] at *; omega) | (simp only [List.length_take, List.length_drop, List.length_cons, List.length_nil]; omega)) : V P n tm (.slice t x lo hi none) (.slice (some ⟨b, off + jl.toNat * sz, none⟩) (jh.toNat - jl.toNat) (cap - jl.toNat)) := by
 intro a dst ty pos after w htm
 have ha : (⟨b, off, none⟩ : Addr).add (jl.toNat * sz) = ⟨b, off + jl.toNat * sz, none⟩ := by unfold Addr.add; split <;> simp_all
 have hr := run_bounds (P := P) (isS := true) (w := w) htm h1 h2 hb hl
 simp only [execOp, ev_sound htm hx, Option.map_none, Instr.sliceAt, Instr.slice, Sem.run_bind, run_underlying (k.under ht), Result.andThen, hr, Sem.run_pure, run_size k he, Option.map_some, ha]
 rw [if_neg (by omega)]
end
end Go.Proofs.YtelfjhemnnbbpaaGreat.SL
namespace Go.Proofs.YtelfjhemnnbbpaaGreat.SL
def csq : Nat → Code → Code
 | 0, c => c
 | k + 1, .seq _ y => csq k y
 | _ + 1, c => c
def nav : List Nat → Code → Code
 | [], c => c
 | 0 :: p, .seq a _ => nav p a
 | 0 :: p, .cond _ a _ => nav p a
 | 1 :: p, .seq _ b => nav p b
 | 1 :: p, .cond _ _ b => nav p b
 | 2 :: p, .block _ b => nav p b
 | 2 :: p, .loop b => nav p b
 | 2 :: p, .scope b => nav p b
 | _, c => c
def bdy (f : Func) : Code := f.body.getD .skip
section
variable {P : Program} {n : Nat} {w0 : World} {F0 : Nat → Prop} {Q : Exit → Act → World → Prop} {tm : List (Nat × Value)} {D : List Deferred} {H : List SProp}
theorem g_scope {c : Code} (h : G P n w0 F0 c (Exit.noGoto Q) tm D H) : G P n w0 F0 (.scope c) Q tm D H := .mk fun a w s => wp_scope_straight (h a w s)
theorem n_scope (h : N n w0 F0 .normal Q tm D H) : N n w0 F0 .normal (Exit.noGoto Q) tm D H := .mk fun a w s => h a w s
theorem n_scope_ret (h : N n w0 F0 .ret Q tm D H) : N n w0 F0 .ret (Exit.noGoto Q) tm D H := .mk fun a w s => h a w s
theorem n_scope_exit {id : Nat} (h : N n w0 F0 (.exit id) Q tm D H) : N n w0 F0 (.exit id) (Exit.noGoto Q) tm D H := .mk fun a w s => h a w s
theorem calm_scope (h : Calm Q) : Calm (Exit.noGoto Q) := fun c a w d v q => h c a w d v q
theorem v_slice_str {E : Env} {t : Nat} {x : Operand} {lo hi : Option Operand} {l : List UInt8} {jl jh : Int} (k : EnvOk P E := by refine inferInstance) (hx : ev tm x = some (.string ⟨⟨l⟩⟩) := by refine rfl) (ht : look E.ty t = some .string := by refine rfl) (h1 : evO tm 0 lo = some jl := by refine rfl) (h2 : evO tm l.length hi = some jh := by refine rfl)
  (hb : 0 ≤ jl ∧ jl ≤ jh ∧ jh ≤ l.length := by first | assumption | omega | (refine ⟨?_, ?_⟩ <;> omega) | (simp only [List.length_cons, List.length_nil, str] at *; omega) | (simp only [List.length_append] at *; omega) | (simp only [List.length_take, List.length_drop, List.length_cons, List.length_nil]; omega)) : V P n tm (.slice t x lo hi none) (.string (str (cutB l jl.toNat jh.toNat))) := by
 intro a dst ty pos after w htm
 have e : (ByteArray.mk ⟨l⟩).size = l.length := rfl
 have hr := run_bounds (P := P) (isS := false) (w := w) htm h1 h2 hb (Nat.le_refl _)
 rw [← e] at hr
 simp only [execOp, ev_sound htm hx, Option.map_none, Instr.sliceAt, Instr.slice, Sem.run_bind, run_underlying (k.under ht), Result.andThen, Option.isSome_none, Bool.false_eq_true, if_false, hr, Sem.run_pure]
 rw [ba_cut _ _ _ (by omega)]
end
end Go.Proofs.YtelfjhemnnbbpaaGreat.SL
namespace Go.Proofs.YtelfjhemnnbbpaaGreat.SL
section
variable {P : Program} {E : Env} {n : Nat} {w0 : World} {F0 : Nat → Prop} {Q : Exit → Act → World → Prop} {tm : List (Nat × Value)} {D : List Deferred} {H H' : List SProp} {ops rest : List Oper}
variable {ty : TypeId} {pos : String} {after : Array Edge}
theorem append_core {t u e sz by' m cap k : Nat} {p : Option Addr} {x z : Value} {xs news : List Value} {du : TypeDesc} {w : World} (ke : EnvOk P E)
  (ht : look E.ty t = some (.slice e)) (hu' : look E.ty u = some du) (hdu : du = .string ∨ ∃ e', du = .slice e') (he : look E.inf e = some (z, sz, by')) (hz : z.cells.size = sz) (i : Inv w0 F0 (vec e sz p m cap xs :: H') w)
  (hlen1 : (Builtin.lenOf x).run P w = .ok k w) (hf : (Builtin.firstCells sz k x).run P w = .ok news.toArray w) (hfd : (Builtin.firstCells sz k x).run P w.drew = .ok news.toArray w.drew) (hl : news.length = k * sz) (h1 : news.all (·.oneCell') = true)
  (hfit : m + k ≤ 9223372036854775807 ∧ (m + k) * by' ≤ 140737488355328) :
  ∃ p' cap' w', (Builtin.append_ #[t, u] ty #[.slice p m cap, x]).run P w = .ok (.slice p' (m + k) cap') w' ∧ Inv w0 F0 ([vec e sz p' (m + k) cap' (xs ++ news)] ++ H') w' := by
 have h1' : ∀ u ∈ news, u.oneCell' = true := by simpa only [List.all_eq_true] using h1
 have hu := ke.under ht
 have hu2 := ke.under hu'
 obtain ⟨info, hi, hi1, hi2, hi3⟩ := ke.info he
 subst hi2 hi3
 obtain ⟨hf1, hf2⟩ := hfit
 have hf1 : m + k ≤ maxLen := by simp only [maxLen]; exact hf1
 have h63 : m + k ≤ 9223372036854775807 := by simp only [maxLen] at hf1; omega
 have key : ∃ p' cap' w', (Builtin.append_ #[t, u] ty #[.slice p m cap, x]).run P w = .ok (.slice p' (m + k) cap') w' ∧ Inv w0 F0 ([vec e info.size p' (m + k) cap' (xs ++ news)] ++ H') w' := by
  obtain ⟨⟨F, ⟨F1, F2, ⟨hxs, hv⟩, _⟩, _⟩, _⟩ := id i
  have hlen : (xs ++ news).length = (m + k) * info.size := by rw [List.length_append, hxs, hl, Nat.add_mul]
  have fresh : ∀ old, (w.drew.alloc (.cells (xs.toArray ++ news.toArray ++ Builtin.zeroCells z.cells (grownCap w (m + k) old e - (m + k))) e)).heap = w.heap.push (.cells (xs.toArray ++ news.toArray ++ Builtin.zeroCells z.cells (grownCap w (m + k) old e - (m + k))) e (0, 0)) := fun _ => rfl
  have new : ∀ old, Inv w0 F0 ([vec e info.size (some ⟨w.heap.size, 0, none⟩) (m + k) (grownCap w (m + k) old e) (xs ++ news)] ++ H') (w.drew.alloc (.cells (xs.toArray ++ news.toArray ++ Builtin.zeroCells z.cells (grownCap w (m + k) old e - (m + k))) e)) := by
   intro old
   have hge := grownCap_ge w (m + k) old e
   have hcm : grownCap w (m + k) old e ≤ maxLen := grownCap_le_maxLen w (m + k) old e hf1
   refine Inv.turn (K := [vec e info.size p m cap xs]) i fun G sG => ?_
   have e0 : (w.heap.push (.cells (xs.toArray ++ news.toArray ++ Builtin.zeroCells z.cells (grownCap w (m + k) old e - (m + k))) e (0, 0)))[w.heap.size]? = some (.cells ((xs ++ news) ++ (Builtin.zeroCells z.cells (grownCap w (m + k) old e - (m + k))).toList).toArray e (0, 0)) := by
    simp only [Array.getElem?_push_size, Option.some.injEq, Obj.cells.injEq, and_true]
    apply Array.ext'; simp
   refine ⟨⟨fun x => x = w.heap.size, ⟨fun x => x = w.heap.size, fun _ => False, ⟨hlen, .inr ⟨w.heap.size, (Builtin.zeroCells z.cells (grownCap w (m + k) old e - (m + k))).toList, rfl, hge, hcm, ?_, ⟨⟨(0, 0), fun _ _ h => by omega, e0⟩, fun _ => Iff.rfl⟩⟩⟩, fun _ h => h, fun _ _ h => h, fun _ => ⟨.inl, fun o => o.elim id False.elim⟩⟩, fun x hx _ e => by omega⟩, ?_, by rw [fresh]; simp, rfl, rfl, rfl⟩
   ·rw [List.length_append, hlen, Array.length_toList, size_zeroCells, hz, ← Nat.add_mul]
    congr 1; omega
   ·intro x hx _
    rw [fresh, Array.getElem?_push_lt hx, Array.getElem?_eq_getElem hx]
  rcases hv with ⟨rfl, rfl, rfl, hF1⟩ | ⟨g, row', rfl, hc1, hc2, hc3, ⟨⟨fr, hfr, e1⟩, hF1⟩⟩
  ·have hx0 : xs = [] := List.eq_nil_of_length_eq_zero (by simpa using hxs)
   subst hx0
   by_cases hk : k = 0
   ·subst hk
    have hn0 : news = [] := List.eq_nil_of_length_eq_zero (by simpa using hl)
    subst hn0
    refine ⟨none, 0, w, ?_, i⟩
    rcases hdu with rfl | ⟨e', rfl⟩ <;> simp [Builtin.append_, run_underlying hu, run_underlying hu2, sizeOf, typeInfo, hi, hlen1, hf]
   ·have hr : (Builtin.append_ #[t, u] ty #[.slice none 0 0, x]).run P w = .ok (.slice (some ⟨w.heap.size, 0, none⟩) k (grownCap w k 0 e)) (w.drew.alloc (.cells (news.toArray ++ Builtin.zeroCells z.cells (grownCap w k 0 e - k)) e)) := by
     have h63' : ¬ (9223372036854775807 < (k : Int)) := by omega
     have h48' : ¬ (281474976710656 < Builtin.nextslicecap k 0 * info.bytes) := by rw [nextslicecap_zero (by omega)]; rw [Nat.zero_add] at hf2; omega
     rcases hdu with rfl | ⟨e', rfl⟩ <;> simp [Builtin.append_, run_underlying hu, run_underlying hu2, sizeOf, typeInfo, zeroValue, hi, hi1, hlen1, hfd, hk, h63', h48', Question.forced, run_firstCells_none, newRow, grownCap]
    have := new 0
    simp only [Nat.zero_add, List.nil_append, Array.empty_append] at this ⊢
    exact ⟨_, _, _, hr, this⟩
  ·by_cases hroom : m + k ≤ cap
   ·have hfit : m * info.size + news.length ≤ (xs ++ row').length := by rw [hl, hc3, ← Nat.add_mul]; exact Nat.mul_le_mul_right _ hroom
    obtain ⟨w', hr, e2, nn, hs', f1, f2, f3⟩ := run_storeC (P := P) g (m * info.size) e fr news 0 (xs ++ row') w e1 hfr (by simpa using hfit) h1'
    have hr2 : (Builtin.append_ #[t, u] ty #[.slice (some ⟨g, 0, none⟩) m cap, x]).run P w = .ok (.slice (some ⟨g, 0, none⟩) (m + k) cap) w' := by
     rcases hdu with rfl | ⟨e', rfl⟩ <;> simp [Builtin.append_, run_underlying hu, run_underlying hu2, sizeOf, typeInfo, hi, hlen1, hroom, hf, Addr.add_lit, hr]
    refine ⟨_, _, _, hr2, ?_⟩
    refine Inv.turn (K := [vec e info.size (some ⟨g, 0, none⟩) m cap xs]) i fun G sG => ?_
    obtain ⟨G1, G2, ⟨_, g1⟩, g2, _, gu⟩ := sG
    have hG : ∀ x, G x ↔ x = g := by
     rcases g1 with ⟨q, _⟩ | ⟨g', row2, q, _, _, _, _, q2⟩
     ·cases q
     ·simp only [Option.some.injEq, Addr.mk.injEq, and_true, true_and] at q
      subst q
      intro x
      rw [gu x, q2 x]
      exact ⟨fun o => o.elim id (fun o => (g2 x o).elim), .inl⟩
    have e3 : (List.take (m * info.size + 0) (xs ++ row') ++ news ++ List.drop (m * info.size + 0 + news.length) (xs ++ row')) = (xs ++ news) ++ row'.drop news.length := by
     rw [← hxs]
     simp [List.drop_append]
    rw [e3] at e2
    have hlen2 : (xs ++ news ++ row'.drop news.length).length = cap * info.size := by
     simp only [List.length_append, List.length_drop] at hc3 hfit ⊢
     omega
    refine ⟨⟨G, ⟨G, fun _ => False, ⟨hlen, .inr ⟨g, row'.drop news.length, rfl, hroom, hc2, hlen2, ⟨⟨fr, fun o ho => hfr o (by rw [hc3, ← hlen2]; exact ho), e2⟩, hG⟩⟩⟩, fun _ h => h, fun _ _ h => h, fun _ => ⟨.inl, fun o => o.elim id False.elim⟩⟩, fun x _ h => h⟩, ?_, by omega, f1, f2, f3⟩
    intro x _ hx
    exact nn x (fun q => hx ((hG x).2 q))
   ·have holds : ∀ j u, xs[j]? = some u → w.cell? ((⟨g, 0, none⟩ : Addr).add j) = some u := by
     intro j u hu'
     have : (⟨g, 0, none⟩ : Addr).add j = ⟨g, j, none⟩ := by unfold Addr.add; split <;> simp_all
     rw [this, cell_at e1]
     have hj := (List.getElem?_eq_some_iff.1 hu').1
     rw [List.getElem?_toArray, List.getElem?_append_left hj]
     exact hu'
    have hr : (Builtin.append_ #[t, u] ty #[.slice (some ⟨g, 0, none⟩) m cap, x]).run P w = .ok (.slice (some ⟨w.heap.size, 0, none⟩) (m + k) (grownCap w (m + k) cap e)) (w.drew.alloc (.cells (xs.toArray ++ news.toArray ++ Builtin.zeroCells z.cells (grownCap w (m + k) cap e - (m + k))) e)) := by
     have hn : ¬ (m + k ≤ cap) := by omega
     have h63' : ¬ (9223372036854775807 < ((m : Int) + (k : Int))) := by omega
     have h48' : ¬ (281474976710656 < Builtin.nextslicecap (m + k) cap * info.bytes) := by have := growslice_fits (need := m + k) (old := cap) (by omega) hf2; omega
     have hfo := run_firstCells_some (P := P) w.drew info.size m ⟨g, 0, none⟩ m cap xs hxs (by simpa using holds)
     rcases hdu with rfl | ⟨e', rfl⟩ <;>
     ·simp [Builtin.append_, run_underlying hu, run_underlying hu2, sizeOf, typeInfo, zeroValue, hi, hi1, hlen1, hn, h63', h48', Question.forced, hfd, hfo, newRow, grownCap]
      try
       congr 2
       apply Array.ext'
       simp [List.append_assoc]
    exact ⟨_, _, _, hr, new cap⟩
 exact key
end
end Go.Proofs.YtelfjhemnnbbpaaGreat.SL

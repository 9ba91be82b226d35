/- Texts RowL, RowU, RowS, joined. -/
import Derived.SliceStrings
import Derived.ChangeSlices
import Derived.Carry
import Derived.Test.YtmfmommgooccnaaGreatK10
/- The framework, part 11: laws that take slices: what a row asks of them. -/
set_option linter.unusedVariables false
set_option linter.unusedSimpArgs false
namespace Go.Proofs.YtmfmommgooccnaaGreat.SL
open Go.RowKit Go.WideElems

/-- Wherever A holds its blocks F are as in W. -/
def Keeps (A : SProp) (W : World) (F : Nat → Prop) : Prop := ∀ h' F', A.holds h' F' → ∀ b, F b → h'[b]? = W.heap[b]?
theorem row_ofA {P : Program} {f : FuncId} {args : List Value} {A : SProp} {W : World} {F : Nat → Prop} (d : Does P f args [A] (fun v H => v = .bool true ∧ H = [A])) (hx : Keeps A W F) (s : A.holds W.heap F) :
    Calls P f args.toArray W fun e W' => e = .returned (.bool true) ∧ Go.RowKit.Below W.heap.size W W' := by
  refine (d W F ⟨F, fun _ => False, s, fun _ h => h, fun _ _ h => h, fun b => ⟨.inl, fun o => o.elim id False.elim⟩⟩).mono ?_
  rintro e W' ⟨v, H', rfl, ⟨rfl, rfl⟩, i⟩
  obtain ⟨⟨G, ⟨F1, _, a, _⟩, _⟩, _⟩ := id i
  refine ⟨rfl, i.os, i.tape, i.output, i.size, fun k hk => ?_⟩
  by_cases q : F k
  · exact hx _ _ a k q
  · exact i.frame k hk q
theorem keeps_ins {p : Option Addr} {m : Nat} {xs : List Value} {o : Obj} {W : World} {F : Nat → Prop} (hm : 0 < m) (s : (ins p m xs o).holds W.heap F) : Keeps (ins p m xs o) W F := by
  rintro h' F' ⟨_, z'⟩ b hb
  obtain ⟨_, z⟩ := s
  rcases z with ⟨e, _⟩ | ⟨g, off, row, fr, T, q1, q2, _, h3, e, f⟩
  · omega
  · rcases z' with ⟨e', _⟩ | ⟨g', off', row', fr', T', q1', q2', _, _, e', f'⟩
    · omega
    · rw [q1] at q1'
      cases q1'
      rw [(f b).1 hb, e, e']

/-- Cells that are there are an input row. -/
theorem cells_ins {W : World} {a : Addr} {m : Nat} {xs : List Value} (hl : xs.length = m) (h : ∀ i, i < m → W.cell? (a.add i) = xs[i]?) : ∃ o F, (ins (some a) m xs o).holds W.heap F ∧ Keeps (ins (some a) m xs o) W F ∧ (m = 0 → ∀ x, ¬ F x) := by
  by_cases hm : m = 0
  · exact ⟨.map #[] 0, fun _ => False, ⟨hl, .inl ⟨hm, fun _ h => h⟩⟩, fun _ _ _ _ h => h.elim, fun _ _ h => h⟩
  · obtain ⟨b, off, spot⟩ := a
    have h0 := h 0 (by omega)
    have hspot : spot = none := by
      rw [List.getElem?_eq_getElem (by omega)] at h0
      simpa [Addr.add] using World.cell?_spot h0
    subst hspot
    have h1 : ∀ i, i < m → W.cell? ⟨b, off + i, none⟩ = xs[i]? := fun i hi => by rw [← Go.WideShapes.add_plain]; exact h i hi
    have h2 := h1 0 (by omega)
    rw [List.getElem?_eq_getElem (by omega)] at h2
    obtain ⟨c, T, fr, hb⟩ : ∃ c T fr, W.heap[b]? = some (.cells c T fr) := by
      unfold World.cell? at h2
      split at h2
      · rename_i hb; exact ⟨_, _, _, hb⟩
      · cases h2
    have h3 : ∀ i, i < m → c[off + i]? = xs[i]? := fun i hi => by rw [← h1 i hi, cell_at hb]
    have hlen : off + m ≤ c.toList.length := by
      have := h3 (m - 1) (by omega)
      rw [List.getElem?_eq_getElem (by omega)] at this
      have := (Array.getElem?_eq_some_iff.1 this).1
      simp; omega
    have hs : (ins (some ⟨b, off, none⟩) m xs (.cells c T fr)).holds W.heap (fun x => x = b) := by
     refine ⟨hl, .inr ⟨b, off, c.toList, fr, T, rfl, by simp, ?_, hlen, hb, fun _ => Iff.rfl⟩⟩
     apply List.ext_getElem?
     intro i
     by_cases hi : i < m
     · rw [List.getElem?_take_of_lt hi, List.getElem?_drop, Array.getElem?_toList, h3 i hi]
     · rw [List.getElem?_eq_none (by simp; omega), List.getElem?_eq_none (by omega)]
    exact ⟨_, _, hs, keeps_ins (by omega) hs, fun q => absurd q hm⟩
theorem nil_ins {W : World} : (ins none 0 [] (.map #[] 0)).holds W.heap (fun _ => False) ∧ Keeps (ins none 0 [] (.map #[] 0)) W (fun _ => False) := ⟨⟨rfl, .inl ⟨rfl, fun _ h => h⟩⟩, fun _ _ _ _ h => h.elim⟩

/-- Two input rows, in one block or in two: what holds them both, and each with what is left. -/
theorem ins_two {W : World} {p1 p2 : Option Addr} {m1 m2 : Nat} {xs ys : List Value} {o1 o2 : Obj} {F1 F2 : Nat → Prop} (s1 : (ins p1 m1 xs o1).holds W.heap F1) (k1 : Keeps (ins p1 m1 xs o1) W F1) (z1 : m1 = 0 → ∀ x, ¬ F1 x) (s2 : (ins p2 m2 ys o2).holds W.heap F2) (k2 : Keeps (ins p2 m2 ys o2) W F2) (z2 : m2 = 0 → ∀ x, ¬ F2 x) :
    ∃ (A R1 R2 : SProp) (F : Nat → Prop), A.holds W.heap F ∧ Keeps A W F ∧ Opens A (fun _ : Unit => True) (fun _ => [ins p1 m1 xs o1, R1]) ∧ Shuts [ins p1 m1 xs o1, R1] A ∧ Opens A (fun _ : Unit => True) (fun _ => [ins p2 m2 ys o2, R2]) ∧ Shuts [ins p2 m2 ys o2, R2] A := by
  by_cases hd : ∃ x, F1 x ∧ F2 x
  · obtain ⟨x, h1, h2⟩ := hd
    have key : ∀ {p p' : Option Addr} {m m' : Nat} {xs ys : List Value} {o o' : Obj} {G G' : Nat → Prop}, (ins p m xs o).holds W.heap G → (ins p' m' ys o').holds W.heap G' → G x → G' x → 0 < m → ∀ h F, (ins p m xs o).holds h F → (ins p' m' ys o').holds h F := by
      intro p p' m m' xs ys o o' G G' ⟨_, z⟩ ⟨l', z'⟩ hx hx' hm h F ⟨_, y⟩
      rcases z with ⟨_, f⟩ | ⟨g, off, row, fr, T, q1, q2, q3, q4, e, f⟩
      · exact absurd hx (f x)
      · rcases z' with ⟨_, f'⟩ | ⟨g', off', row', fr', T', q1', q2', q3', q4', e', f'⟩
        · exact absurd hx' (f' x)
        · obtain rfl := (f x).1 hx
          obtain rfl := (f' x).1 hx'
          rw [e] at e'
          cases e'
          rcases y with ⟨e0, _⟩ | ⟨g2, off2, row2, fr2, T2, y1, y2, y3, y4, y5, y6⟩
          · omega
          · rw [q1] at y1
            cases y1
            exact ⟨l', .inr ⟨_, off', row', fr', T', q1', q2', q3', q4', y5, y6⟩⟩
    have emp : ∀ {K : SProp} {h : Array Obj} {F : Nat → Prop}, K.holds h F ↔ sep [K, fact True] h F := by
      intro K h F
      refine ⟨fun a => ⟨F, fun _ => False, a, ⟨fun _ => False, fun _ => False, ⟨trivial, fun _ h => h⟩, fun _ h => h, fun _ _ h => h, fun b => ⟨.inl, fun o => o.elim id id⟩⟩, fun _ _ h => h, fun b => ⟨.inl, fun o => o.elim id False.elim⟩⟩, ?_⟩
      rintro ⟨G1, G2, a, ⟨G3, G4, ⟨_, e⟩, f, _, u2⟩, d, u⟩
      have : F = G1 := by
        funext b
        apply propext
        rw [u b, u2 b]
        exact ⟨fun o => o.elim id (fun o => o.elim (fun q => (e b q).elim) (fun q => (f b q).elim)), .inl⟩
      rw [this]; exact a
    have hm1 : 0 < m1 := Nat.pos_of_ne_zero fun q => z1 q x h1
    have hm2 : 0 < m2 := Nat.pos_of_ne_zero fun q => z2 q x h2
    exact ⟨ins p1 m1 xs o1, fact True, fact True, F1, s1, k1, fun h F a => ⟨(), trivial, emp.1 a⟩, fun h F a => emp.2 a,
      fun h F a => ⟨(), trivial, emp.1 (key s1 s2 h1 h2 hm1 h F a)⟩, fun h F a => key s2 s1 h2 h1 hm2 h F (emp.2 a)⟩
  · refine ⟨⟨fun h F => sep [ins p1 m1 xs o1, ins p2 m2 ys o2] h F, sep_loc, sep_bnd⟩, ins p2 m2 ys o2, ins p1 m1 xs o1, fun x => F1 x ∨ F2 x, ?_, ?_, fun h F a => ⟨(), trivial, a⟩, fun h F a => a, fun h F a => ⟨(), trivial, ?_⟩, fun h F a => ?_⟩
    · exact ⟨F1, F2, s1, ⟨F2, fun _ => False, s2, fun _ h => h, fun _ _ h => h, fun b => ⟨.inl, fun o => o.elim id False.elim⟩⟩, fun x a b => hd ⟨x, a, b⟩, fun _ => Iff.rfl⟩
    · rintro h' F' ⟨G1, G2, a, ⟨G3, G4, b, _⟩, _⟩ x hx
      exact hx.elim (k1 _ _ a x) (k2 _ _ b x)
    · exact (Parts.cons (Take.there Take.here) (Parts.cons Take.here Parts.nil)).sep a
    · exact (Parts.cons (Take.there Take.here) (Parts.cons Take.here Parts.nil)).sep a
end Go.Proofs.YtmfmommgooccnaaGreat.SL
/- Rows over slices of whole numbers of any kind. -/
set_option linter.unusedVariables false
set_option linter.unusedSimpArgs false
namespace Go.Proofs.YtmfmommgooccnaaGreat
open Go.Proofs.YtmfmommgooccnaaGreat.SL Go.ChangeShapes

section
variable {H : Type} {enc : TypeId × Value → H} {P : Program} {W : World}
theorem open_Ks {t e : TypeId} {k : IntKind} (ht : P.underlying t = some (.slice e)) (he : P.underlying e = some (.int k)) (hc : P.cellsOf e = 1) {v : Value} (hv : ∃ a0 len cap, v = .slice a0 len cap) {d : DataW H} {ps : List MemPlace} (h : DataW.Trod enc P W 0 (fun _ => true) true t v d ps) :
    ∃ (a0 : Option Addr) (cap : Nat) (zs : List Int) (o : Obj) (F : Nat → Prop), v = .slice a0 zs.length cap ∧ (ins a0 zs.length (zs.map (Value.int k)) o).holds W.heap F ∧ Keeps (ins a0 zs.length (zs.map (Value.int k)) o) W F ∧ (zs.length = 0 → ∀ x, ¬ F x) ∧ (∀ z ∈ zs, (Lit.int k z).wf = true) ∧ zs.length ≤ 9223372036854775807 := by
  obtain ⟨a0, len, cap, rfl⟩ := hv
  obtain ⟨fuel, hf⟩ := h
  rcases open_ints ht he hc hf with ⟨hcs, _⟩ | ⟨a, len', cap', ss, hcs, _, hle, hmax, hlen, _, hcell, hw⟩
  · simp [Value.cells] at hcs
    obtain ⟨rfl, rfl, rfl⟩ := hcs
    exact ⟨none, 0, [], .map #[] 0, _, rfl, nil_ins.1, nil_ins.2, fun _ _ h => h, by simp, by simp⟩
  · simp [Value.cells] at hcs
    obtain ⟨rfl, rfl, rfl⟩ := hcs
    simp only [if_true] at hlen
    have hl : (ss.take len).length = len := by rw [List.length_take]; omega
    have hm' : ((ss.take len).map (Value.int k)).length = (ss.take len).length := by simp
    obtain ⟨o, F, s1, s2, s3⟩ := cells_ins (W := W) (a := a) hm' (fun i hi => by
      rw [hcell i (by omega), List.getElem?_map, List.getElem?_take_of_lt (by omega), List.getD, List.getElem?_eq_getElem (by omega)]; rfl)
    simp only [maxLen] at hmax
    exact ⟨some a, cap, ss.take len, o, F, by rw [hl], s1, s2, s3, fun z hz => hw z (List.mem_of_mem_take hz), by omega⟩
end
end Go.Proofs.YtmfmommgooccnaaGreat
/- Rows over slices of strings and of whole numbers. -/
set_option linter.unusedVariables false
set_option linter.unusedSimpArgs false
namespace Go.Proofs.YtmfmommgooccnaaGreat
open Go.Proofs.YtmfmommgooccnaaGreat.SL Go.ChangeShapes

section
variable {H : Type} {enc : TypeId × Value → H} {P : Program} {W : World}
end
end Go.Proofs.YtmfmommgooccnaaGreat

/- Rows over slices of strings and of whole numbers. -/
import Derived.Test.YtcbcpgaehdoekaaRowL
import Derived.Test.YtcbcpgaehdoekaaDisk
import Derived.Carry
set_option linter.unusedVariables false
set_option linter.unusedSimpArgs false
namespace Go.Proofs.Ytcbcpgaehdoekaa
open Go.Proofs.Ytcbcpgaehdoekaa.SL Go.ChangeShapes

section
variable {H : Type} {enc : TypeId × Value → H} {P : Program} {W : World}
theorem open_Ss {t e : TypeId} (ht : P.underlying t = some (.slice e)) (he : P.underlying e = some .string) (hc : P.cellsOf e = 1) {v : Value} (hv : ∃ a0 len cap, v = .slice a0 len cap) {d : DataW H} {ps : List MemPlace} (h : DataW.Trod enc P W 0 (fun _ => true) true t v d ps) :
    ∃ (a0 : Option Addr) (cap : Nat) (Tx : List (List UInt8)) (o : Obj) (F : Nat → Prop), v = .slice a0 Tx.length cap ∧ (ins a0 Tx.length (Tx.map encS) o).holds W.heap F ∧ Keeps (ins a0 Tx.length (Tx.map encS) o) W F ∧ (Tx.length = 0 → ∀ x, ¬ F x) ∧ (∀ l ∈ Tx, l.length ≤ 9223372036854775807) ∧ Tx.length ≤ 9223372036854775807 := by
  obtain ⟨a0, len, cap, rfl⟩ := hv
  obtain ⟨fuel, hf⟩ := h
  rcases open_strings ht he hc hf with ⟨hcs, _⟩ | ⟨a, len', cap', ss, hcs, _, hle, hmax, hlen, _, hcell, hw⟩
  · simp [Value.cells] at hcs
    obtain ⟨rfl, rfl, rfl⟩ := hcs
    exact ⟨none, 0, [], .map #[] 0, _, rfl, nil_ins.1, nil_ins.2, fun _ _ h => h, by simp, by simp⟩
  · simp [Value.cells] at hcs
    obtain ⟨rfl, rfl, rfl⟩ := hcs
    simp only [if_true] at hlen
    obtain ⟨Tx, hTx⟩ : ∃ Tx, Tx = (ss.take len).map fun s => s.data.toList := ⟨_, rfl⟩
    have hl : Tx.length = len := by rw [hTx, List.length_map, List.length_take]; omega
    have hx : Tx.map encS = (ss.take len).map fun s => Value.string s := by
      rw [hTx, List.map_map]
      apply List.map_congr_left
      rintro ⟨⟨s⟩⟩ _
      rfl
    have hm' : (Tx.map encS).length = Tx.length := by simp
    obtain ⟨o, F, s1, s2, s3⟩ := cells_ins (W := W) (a := a) hm' (fun i hi => by
      rw [hcell i (by omega), hx, List.getElem?_map, List.getElem?_take_of_lt (by omega), List.getD]
      rw [List.getElem?_eq_getElem (by omega)]; rfl)
    simp only [maxLen] at hmax
    refine ⟨some a, cap, Tx, o, F, by rw [hl], s1, s2, s3, ?_, by omega⟩
    intro l hl'
    rw [hTx] at hl'
    obtain ⟨s, hs, rfl⟩ := List.mem_map.1 hl'
    have := hw s (List.mem_of_mem_take hs)
    simp only [maxLen] at this
    rw [Array.length_toList]; exact this
theorem open_Zs {t e : TypeId} (ht : P.underlying t = some (.slice e)) (he : P.underlying e = some (.int .i64)) (hc : P.cellsOf e = 1) {v : Value} (hv : ∃ a0 len cap, v = .slice a0 len cap) {d : DataW H} {ps : List MemPlace} (h : DataW.Trod enc P W 0 (fun _ => true) true t v d ps) :
    ∃ (a0 : Option Addr) (cap : Nat) (zs : List Int) (o : Obj) (F : Nat → Prop), v = .slice a0 zs.length cap ∧ (ins a0 zs.length (zs.map encZ') o).holds W.heap F ∧ Keeps (ins a0 zs.length (zs.map encZ') o) W F ∧ (zs.length = 0 → ∀ x, ¬ F x) ∧ (∀ z ∈ zs, (Lit.int .i64 z).wf = true) ∧ zs.length ≤ 9223372036854775807 := by
  obtain ⟨a0, len, cap, rfl⟩ := hv
  obtain ⟨fuel, hf⟩ := h
  rcases open_ints ht he hc hf with ⟨hcs, _⟩ | ⟨a, len', cap', ss, hcs, _, hle, hmax, hlen, _, hcell, hw⟩
  · simp [Value.cells] at hcs
    obtain ⟨rfl, rfl, rfl⟩ := hcs
    exact ⟨none, 0, [], .map #[] 0, _, rfl, nil_ins.1, nil_ins.2, fun _ _ h => h, by simp, by simp⟩
  · simp [Value.cells] at hcs
    obtain ⟨rfl, rfl, rfl⟩ := hcs
    simp only [if_true] at hlen
    have hl : (ss.take len).length = len := by rw [List.length_take]; omega
    have hm' : ((ss.take len).map encZ').length = (ss.take len).length := by simp
    obtain ⟨o, F, s1, s2, s3⟩ := cells_ins (W := W) (a := a) hm' (fun i hi => by
      rw [hcell i (by omega), List.getElem?_map, List.getElem?_take_of_lt (by omega), List.getD, List.getElem?_eq_getElem (by omega)]; rfl)
    simp only [maxLen] at hmax
    exact ⟨some a, cap, ss.take len, o, F, by rw [hl], s1, s2, s3, fun z hz => hw z (List.mem_of_mem_take hz), by omega⟩
end
end Go.Proofs.Ytcbcpgaehdoekaa

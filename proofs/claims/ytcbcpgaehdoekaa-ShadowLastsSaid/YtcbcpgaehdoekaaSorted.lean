/- maps.Keys and slices.Sorted at a map of whole numbers, as contracts. -/
import Derived.Test.YtcbcpgaehdoekaaShadW
import Derived.Test.YtcbcpgaehdoekaaLayS
set_option linter.unusedVariables false
set_option linter.unusedSimpArgs false
namespace Go.Proofs.Ytcbcpgaehdoekaa
open Go.Proofs.Ytcbcpgaehdoekaa.SL

theorem Keys_does (m : Nat) : Does Try.prog 32 [.map (some m)] [] (fun v H => ∃ box, v = .func (.func 48) #[] #[.pointer (some ⟨box, 0, none⟩)] ∧ H = [cl box 52 [.map (some m)]]) := by
  intro w F s
  refine (Try.keys_calls (some m) w).mono fun e w' ⟨h1, h2⟩ => ?_
  subst h2
  have i : Inv w F [] w := ⟨⟨F, s, fun _ _ h => h⟩, fun _ _ _ => rfl, Nat.le_refl _, rfl, rfl, rfl⟩
  exact ⟨_, _, h1, ⟨w.heap.size, rfl, rfl⟩, Inv.to_cl (fr := (0, 0)) (fun _ _ h => by omega) (i.alloc (.cells #[.map (some m)] 52))⟩

/-- A set's numbers, rising. -/
def rise (l : List Int) : List Int := l.mergeSort fun x y => decide (x ≤ y)
theorem rise_perm (l : List Int) : (rise l).Perm l := List.mergeSort_perm _ _
theorem rise_sorted (l : List Int) : (rise l).Pairwise (fun a b => a ≤ b) := by
  have := List.pairwise_mergeSort (le := fun x y : Int => decide (x ≤ y)) (fun a b c h1 h2 => by simp at h1 h2 ⊢; omega) (fun a b => by simp; omega) l
  simpa [rise] using this
theorem rise_of {l m : List Int} (h : l.Perm m) : rise l = rise m :=
  List.Perm.eq_of_pairwise (le := fun a b => a ≤ b) (fun a b _ _ h1 h2 => by omega) (rise_sorted l) (rise_sorted m) (((rise_perm l).trans h).trans (rise_perm m).symm)

theorem Sorted_does (box m : Nat) (l : List Int) (hb : ∀ i ∈ l, -9223372036854775808 ≤ i ∧ i < 9223372036854775808) (hl : l.length ≤ 1000000) : Does Try.prog 31 [.func (.func 48) #[] #[.pointer (some ⟨box, 0, none⟩)]] [cl box 52 [.map (some m)], mp m Value.bool (tt l)]
    (fun v H => ∃ p cap, v = .slice p l.length cap ∧ H = [vec 3 1 p l.length cap ((rise l).map encZ'), cl box 52 [.map (some m)], mp m Value.bool (tt l)]) := by
  intro w F s
  obtain ⟨F1, F2, a1, ⟨F3, F4, a2, _, _, _⟩, _, _⟩ := id s
  have hkt : Try.prog.underlying 3 = some (.int .i64) := env_ok.under rfl
  obtain ⟨D0, o1, o2, o3⟩ := owns_of_mp (P := Try.prog) (kt := 3) hkt (by intro p hp; obtain ⟨i, hi, rfl⟩ := List.mem_map.1 hp; exact hb i hi) (by simpa [tt] using hl) a2
  rw [tt_fst] at o3
  have hlen : (tt l).length = l.length := by simp [tt]
  obtain ⟨⟨fr, hfr, hw⟩, hF1⟩ := id a1
  refine (Try.sorted_calls m box _ D0 _ w (by rw [cell_at hw]; rfl) (lt_of_some hw) o1 (by rw [o2, hlen]; simp only [maxLen]; omega) (by rw [o2, hlen]; omega)).mono fun e w' ⟨v, ss, h1, h2, h3, h4, h5⟩ => ?_
  have hp : ss.Perm l := h2.trans o3
  have hss : ss.mergeSort (fun x y => decide (x ≤ y)) = rise l := rise_of hp
  rw [hss, hp.length_eq] at h3
  obtain ⟨p, cap, G, e1, g1, g2⟩ := vec_of_ownsRow h3
  exact ⟨_, _, h1, ⟨p, cap, e1, rfl⟩, inv_beside h5 s g1 g2⟩
end Go.Proofs.Ytcbcpgaehdoekaa

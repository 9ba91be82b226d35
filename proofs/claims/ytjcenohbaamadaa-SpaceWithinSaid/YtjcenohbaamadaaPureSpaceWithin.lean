/- SpaceWithin's plain law: with keys as sums, all that lies between two keys of one kind and first number is of them. For every argument of its kind. -/
import Derived.Test.YtjcenohbaamadaaPSpaceWithinx1
import Derived.Test.YtjcenohbaamadaaSpaceLem
namespace Go.Proofs.Ytjcenohbaamadaa.Pure
open Go.RowKit Go.Proofs.Ytjcenohbaamadaa.PSpaceWithin Go.Proofs.YtjcenohbaamadaaW.PrintWords Go.Proofs.YtjcenohbaamadaaW.PrintLast Go.Proofs.YtjcenohbaamadaaW.PrintMore Go.Proofs.Ytjcenohbaamadaa.SpaceLem

theorem key_eq (k a b : Int) : space_Key.f k a b = some (mkKey k a b) := by
  unfold space_Key.f
  by_cases h : 0 ≤ k ∧ k < 16 ∧ 0 ≤ a ∧ a < 268435456 ∧ 0 ≤ b ∧ b < 4294967296
  · rw [if_neg (by omega), if_neg (by omega), if_neg (by omega), if_neg (by omega), if_neg (by omega), if_neg (by omega), mkKey_yes h, sum_wraps h]
  · rw [mkKey_no h]
    repeat' split
    all_goals first | rfl | (exfalso; omega)
theorem split_eq {x : Int} (h : 0 ≤ x ∧ x < 18446744073709551616) : space_Split.f x = some (keyParts x) := by
  unfold space_Split.f keyParts; rw [and_i64 h, top_wraps h]
theorem in_eq {x : Int} (h : 0 ≤ x ∧ x < 18446744073709551616) (k a : Int) :
    space_In.f x k a = some (decide (x / 1152921504606846976 = k ∧ x / 4294967296 % 268435456 = a)) := by
  unfold space_In.f; rw [split_eq h]; simp only [Option.bind_some, keyParts]
  by_cases h1 : x / 1152921504606846976 = k
  · rw [if_pos h1]; simp only [h1, true_and]; rfl
  · rw [if_neg h1]; simp [h1]
theorem ex_eq : bailiwicklaw13_examples.f = some true := by
  unfold bailiwicklaw13_examples.f
  rw [key_eq, mkKey_yes (by omega)]
  simp only [Option.bind_some]
  rw [if_pos (by omega), if_true, in_eq (by omega)]
  decide

theorem SpaceWithin : bailiwicklaw13_SpaceWithin.Pure := by
  intro a0 a1 a2 a3 a4 h0 h1 h2 h3 h4
  have h0 := wf_u8 h0
  have h1 := wf_u32 h1
  have h2 := wf_u32 h2
  have h3 := wf_u32 h3
  have h4 := wf_u64 h4
  have e0 : wrap64 (Int.tmod a0 16) = a0 % 16 := by
    rw [Int.tmod_eq_emod_of_nonneg (by omega)]; unfold wrap64; omega
  have e1 : wrap64 (Int.tmod a1 268435456) = a1 % 268435456 := by
    rw [Int.tmod_eq_emod_of_nonneg (by omega)]; unfold wrap64; omega
  have e2 : wrap64 (mn a2 a3) = mn a2 a3 := by unfold wrap64 mn; split <;> omega
  have e3 : wrap64 (mx a2 a3) = mx a2 a3 := by unfold wrap64 mx; split <;> omega
  have m1 : 0 ≤ mn a2 a3 ∧ mn a2 a3 < 4294967296 := by unfold mn; split <;> omega
  have m2 : 0 ≤ mx a2 a3 ∧ mx a2 a3 < 4294967296 := by unfold mx; split <;> omega
  have m3 : mn a2 a3 ≤ mx a2 a3 := by unfold mn mx; split <;> split <;> omega
  unfold bailiwicklaw13_SpaceWithin.f
  rw [ex_eq]
  simp only [Option.bind_some, if_true, e0, e1, e2, e3, key_eq]
  rw [mkKey_yes (by omega), mkKey_yes (by omega)]
  generalize mn a2 a3 = p at *
  generalize mx a2 a3 = q at *
  generalize hi : a0 % 16 = i
  generalize hj : a1 % 268435456 = j
  have hi' : 0 ≤ i ∧ i < 16 := by omega
  have hj' : 0 ≤ j ∧ j < 268435456 := by omega
  have hp := in_eq (x := i * 1152921504606846976 + j * 4294967296 + p) (by omega) i j
  have hq := in_eq (x := i * 1152921504606846976 + j * 4294967296 + q) (by omega) i j
  have hk := in_eq h4 i j
  rw [decide_eq_true (by omega)] at hp hq
  dsimp only
  rw [hp, hq, hk, if_pos (show i * 1152921504606846976 + j * 4294967296 + p ≤ i * 1152921504606846976 + j * 4294967296 + q by omega)]
  simp only [Option.bind_some, if_true]
  by_cases c1 : a4 ≥ i * 1152921504606846976 + j * 4294967296 + p
  · rw [if_pos c1]
    by_cases c2 : a4 ≤ i * 1152921504606846976 + j * 4294967296 + q
    · rw [if_pos c2, decide_eq_true (by omega)]; rfl
    · rw [if_neg c2]
  · rw [if_neg c1, if_pos (show i * 1152921504606846976 + j * 4294967296 + p ≤ i * 1152921504606846976 + j * 4294967296 + q by omega)]

end Go.Proofs.Ytjcenohbaamadaa.Pure

/- SpaceKeys's plain law: Keys, parts and next keys by sums are those by bits, for every argument of its kind. -/
import Derived.Test.YtjcenohbaamadaaPSpaceKeysx1
import Derived.Test.YtjcenohbaamadaaSpaceLem
namespace Go.Proofs.Ytjcenohbaamadaa.Pure
open Go.RowKit Go.Proofs.Ytjcenohbaamadaa.PSpaceKeys Go.Proofs.YtjcenohbaamadaaW.PrintWords Go.Proofs.YtjcenohbaamadaaW.PrintLast Go.Proofs.YtjcenohbaamadaaW.PrintMore Go.Proofs.Ytjcenohbaamadaa.SpaceLem

theorem key_eq (k a b : Int) : space_Key.f k a b = some (mkKey k a b) := by
  unfold space_Key.f
  by_cases h : 0 ≤ k ∧ k < 16 ∧ 0 ≤ a ∧ a < 268435456 ∧ 0 ≤ b ∧ b < 4294967296
  · rw [if_neg (by omega), if_neg (by omega), if_neg (by omega), if_neg (by omega), if_neg (by omega), if_neg (by omega), mkKey_yes h, sum_wraps h]
  · rw [mkKey_no h]
    repeat' split
    all_goals first | rfl | (exfalso; omega)
theorem split_eq {x : Int} (h : 0 ≤ x ∧ x < 18446744073709551616) : space_Split.f x = some (keyParts x) := by
  unfold space_Split.f keyParts; rw [and_i64 h, top_wraps h]
theorem in_eq {x : Int} (h : 0 ≤ x ∧ x < 18446744073709551616) (k a : Int) :
    space_In.f x k a = some (decide (x / 1152921504606846976 = k ∧ x / 4294967296 % 268435456 = a)) := by
  unfold space_In.f; rw [split_eq h]; simp only [Option.bind_some, keyParts]
  by_cases h1 : x / 1152921504606846976 = k
  · rw [if_pos h1]; simp only [h1, true_and]; rfl
  · rw [if_neg h1]; simp [h1]
theorem ex_eq : bailiwicklaw13_examples.f = some true := by
  unfold bailiwicklaw13_examples.f
  rw [key_eq, mkKey_yes (by omega)]
  simp only [Option.bind_some]
  rw [if_pos (by omega), if_true, in_eq (by omega)]
  decide

theorem rkey_eq (k a b : Int) : bailiwickref13_Key.f k a b = some (mkKey k a b) := by
  unfold bailiwickref13_Key.f
  by_cases h : 0 ≤ k ∧ k < 16 ∧ 0 ≤ a ∧ a < 268435456 ∧ 0 ≤ b ∧ b < 4294967296
  · rw [if_neg (by omega), if_neg (by omega), if_neg (by omega), if_neg (by omega), if_neg (by omega), if_neg (by omega), mkKey_yes h, or_wraps h]
  · rw [mkKey_no h]
    repeat' split
    all_goals first | rfl | (exfalso; omega)
theorem rsplit_eq {x : Int} (h : 0 ≤ x ∧ x < 18446744073709551616) : bailiwickref13_Split.f x = some (keyParts x) := by
  unfold bailiwickref13_Split.f keyParts; rw [and_u64 h, top_wraps h, low_u64 h]
theorem rin_eq {x : Int} (h : 0 ≤ x ∧ x < 18446744073709551616) (k a : Int) :
    bailiwickref13_In.f x k a = some (decide (x / 1152921504606846976 = k ∧ x / 4294967296 % 268435456 = a)) := by
  unfold bailiwickref13_In.f; rw [rsplit_eq h]; simp only [Option.bind_some, keyParts]
  by_cases h1 : x / 1152921504606846976 = k
  · rw [if_pos h1]; simp only [h1, true_and]; rfl
  · rw [if_neg h1]; simp [h1]

theorem SpaceKeys : bailiwicklaw13_SpaceKeys.Pure := by
  intro a0 a1 a2 a3 h0 h1 h2 h3
  have h3 := wf_u64 h3
  have hn : ((IntKind.u64.wrap (a3 + 1) != 0) == decide (IntKind.u64.wrap (a3 + 1) > 0)) = true := by
    rw [wrapU64]
    generalize hz : (a3 + 1) % 18446744073709551616 = z
    by_cases e : z = 0
    · subst e; decide
    · have x1 : (z != 0) = true := by simpa using e
      have x2 : decide (z > 0) = true := decide_eq_true (by omega)
      rw [x1, x2]; rfl
  unfold bailiwicklaw13_SpaceKeys.f space_First.f bailiwickref13_First.f space_Next.f bailiwickref13_Next.f
  rw [ex_eq, split_eq h3, rsplit_eq h3, in_eq h3, rin_eq h3]
  simp only [Option.bind_some, if_true, key_eq, rkey_eq, hn, beq_self_eq_true]

end Go.Proofs.Ytjcenohbaamadaa.Pure

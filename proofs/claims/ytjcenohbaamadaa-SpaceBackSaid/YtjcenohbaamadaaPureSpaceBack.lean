/- SpaceBack's plain law: A key's parts make the key again, and a key made of parts has them, for every argument of its kind. -/
import Derived.Test.YtjcenohbaamadaaPSpaceBackx1
import Derived.Test.YtjcenohbaamadaaSpaceLem
namespace Go.Proofs.Ytjcenohbaamadaa.Pure
open Go.RowKit Go.Proofs.Ytjcenohbaamadaa.PSpaceBack Go.Proofs.YtjcenohbaamadaaW.PrintWords Go.Proofs.YtjcenohbaamadaaW.PrintLast Go.Proofs.YtjcenohbaamadaaW.PrintMore Go.Proofs.Ytjcenohbaamadaa.SpaceLem

theorem key_eq (k a b : Int) : space_Key.f k a b = some (mkKey k a b) := by
  unfold space_Key.f
  by_cases h : 0 ≤ k ∧ k < 16 ∧ 0 ≤ a ∧ a < 268435456 ∧ 0 ≤ b ∧ b < 4294967296
  · rw [if_neg (by omega), if_neg (by omega), if_neg (by omega), if_neg (by omega), if_neg (by omega), if_neg (by omega), mkKey_yes h, sum_wraps h]
  · rw [mkKey_no h]
    repeat' split
    all_goals first | rfl | (exfalso; omega)
theorem split_eq {x : Int} (h : 0 ≤ x ∧ x < 18446744073709551616) : space_Split.f x = some (keyParts x) := by
  unfold space_Split.f keyParts; rw [and_i64 h, top_wraps h]
theorem in_eq {x : Int} (h : 0 ≤ x ∧ x < 18446744073709551616) (k a : Int) :
    space_In.f x k a = some (decide (x / 1152921504606846976 = k ∧ x / 4294967296 % 268435456 = a)) := by
  unfold space_In.f; rw [split_eq h]; simp only [Option.bind_some, keyParts]
  by_cases h1 : x / 1152921504606846976 = k
  · rw [if_pos h1]; simp only [h1, true_and]; rfl
  · rw [if_neg h1]; simp [h1]
theorem ex_eq : bailiwicklaw13_examples.f = some true := by
  unfold bailiwicklaw13_examples.f
  rw [key_eq, mkKey_yes (by omega)]
  simp only [Option.bind_some]
  rw [if_pos (by omega), if_true, in_eq (by omega)]
  decide

theorem next_eq (x : Int) : space_Next.f x = some (IntKind.u64.wrap (x + 1), ((IntKind.u64.wrap (x + 1)) != 0)) := rfl

theorem SpaceBack : bailiwicklaw13_SpaceBack.Pure := by
  intro a0 a1 a2 a3 h0 h1 h2 h3
  have h0 := wf_u64 h0
  have h1 := wf_i64 h1
  have h2 := wf_i64 h2
  have h3 := wf_i64 h3
  have hn : ((IntKind.u64.wrap (a0 + 1) != 0) == decide (IntKind.u64.wrap (a0 + 1) > a0)) = true := by
    rw [wrapU64]
    by_cases e : a0 = 18446744073709551615
    · subst e; decide
    · rw [show (a0 + 1) % 18446744073709551616 = a0 + 1 by omega]
      have x1 : (a0 + 1 != 0) = true := by simp; omega
      have x2 : decide (a0 + 1 > a0) = true := decide_eq_true (by omega)
      rw [x1, x2]; rfl
  have hb : mkKey (a0 / 1152921504606846976) (a0 / 4294967296 % 268435456) (a0 % 4294967296) = (a0, true) := by
    rw [mkKey_yes (by omega)]
    congr 1; omega
  unfold bailiwicklaw13_SpaceBack.f
  rw [ex_eq, split_eq h0]
  simp only [Option.bind_some, if_true, keyParts, key_eq, next_eq, hb, hn]
  by_cases h : 0 ≤ a1 ∧ a1 < 16 ∧ 0 ≤ a2 ∧ a2 < 268435456 ∧ 0 ≤ a3 ∧ a3 < 4294967296
  · have hx : 0 ≤ a1 * 1152921504606846976 + a2 * 4294967296 + a3 ∧ a1 * 1152921504606846976 + a2 * 4294967296 + a3 < 18446744073709551616 := by omega
    have hi := in_eq hx a1 a2
    rw [decide_eq_true (by omega)] at hi
    rw [mkKey_yes h]
    dsimp only
    rw [split_eq hx, hi]
    simp only [Option.bind_some, if_true, keyParts]
    rw [if_pos (show (a1 * 1152921504606846976 + a2 * 4294967296 + a3) / 1152921504606846976 = a1 by omega),
      if_pos (show (a1 * 1152921504606846976 + a2 * 4294967296 + a3) / 4294967296 % 268435456 = a2 by omega),
      if_pos (show (a1 * 1152921504606846976 + a2 * 4294967296 + a3) % 4294967296 = a3 by omega)]
    rw [if_pos (show a1 ≥ 0 by omega), if_pos (show a1 < 16 by omega), if_pos (show a2 ≥ 0 by omega), if_pos (show a2 < 268435456 by omega), if_pos (show a3 ≥ 0 by omega), decide_eq_true (show a3 < 4294967296 by omega)]
    split <;> rfl
  · rw [mkKey_no h]
    dsimp only
    rw [if_neg (by simp)]
    have hf : (if a1 ≥ 0 then (if a1 < 16 then (if a2 ≥ 0 then (if a2 < 268435456 then (if a3 ≥ 0 then (some (false == (decide (a3 < 4294967296)))) else (some (false == false))) else (some (false == false))) else (some (false == false))) else (some (false == false))) else (some (false == false))) = some true := by
      repeat' split
      all_goals first | rfl | (rw [decide_eq_false (by omega)]; rfl)
    rw [hf]
    split <;> rfl

end Go.Proofs.Ytjcenohbaamadaa.Pure

/- Whole numbers as the keys' parts: what the wraps, masks and sums of package space come to. No condition of its own. -/
import Derived.Laws.BitsLemmas
import Derived.RowKit
namespace Go.Proofs.Ytjcenohbaamadaa.SpaceLem
open Go.RowKit

theorem wrapU64 (n : Int) : IntKind.u64.wrap n = n % 18446744073709551616 := by simp [IntKind.wrap, IntKind.bits, IntKind.signed]

theorem wf_u64 {a : Int} (h : (Lit.int .u64 a).wf = true) : 0 ≤ a ∧ a < 18446744073709551616 := by
  simp only [Lit.wf, IntKind.min, IntKind.max, IntKind.signed, IntKind.bits, Bool.and_eq_true] at h
  simp at h
  omega
theorem wf_i64 {a : Int} (h : (Lit.int .i64 a).wf = true) : -9223372036854775808 ≤ a ∧ a < 9223372036854775808 := by
  simp only [Lit.wf, IntKind.min, IntKind.max, IntKind.signed, IntKind.bits, Bool.and_eq_true] at h
  simp at h
  omega
theorem wf_u32 {a : Int} (h : (Lit.int .u32 a).wf = true) : 0 ≤ a ∧ a < 4294967296 := by
  simp only [Lit.wf, IntKind.min, IntKind.max, IntKind.signed, IntKind.bits, Bool.and_eq_true] at h
  simp at h
  omega
theorem wf_u8 {a : Int} (h : (Lit.int .u8 a).wf = true) : 0 ≤ a ∧ a < 256 := by
  simp only [Lit.wf, IntKind.min, IntKind.max, IntKind.signed, IntKind.bits, Bool.and_eq_true] at h
  simp at h
  omega

/-- A key out of its parts. -/
def mkKey (k a b : Int) : Int × Bool :=
  if 0 ≤ k ∧ k < 16 ∧ 0 ≤ a ∧ a < 268435456 ∧ 0 ≤ b ∧ b < 4294967296 then (k * 1152921504606846976 + a * 4294967296 + b, true) else (0, false)
/-- A key's parts. -/
def keyParts (x : Int) : Int × Int × Int := (x / 1152921504606846976, x / 4294967296 % 268435456, x % 4294967296)

theorem mkKey_yes {k a b : Int} (h : 0 ≤ k ∧ k < 16 ∧ 0 ≤ a ∧ a < 268435456 ∧ 0 ≤ b ∧ b < 4294967296) : mkKey k a b = (k * 1152921504606846976 + a * 4294967296 + b, true) := by
  unfold mkKey; rw [if_pos h]
theorem mkKey_no {k a b : Int} (h : ¬ (0 ≤ k ∧ k < 16 ∧ 0 ≤ a ∧ a < 268435456 ∧ 0 ≤ b ∧ b < 4294967296)) : mkKey k a b = (0, false) := by
  unfold mkKey; rw [if_neg h]

theorem sum_wraps {k a b : Int} (h : 0 ≤ k ∧ k < 16 ∧ 0 ≤ a ∧ a < 268435456 ∧ 0 ≤ b ∧ b < 4294967296) :
    IntKind.u64.wrap ((IntKind.u64.wrap ((IntKind.u64.wrap ((IntKind.u64.wrap (k)) * 1152921504606846976)) + (IntKind.u64.wrap ((IntKind.u64.wrap (a)) * 4294967296)))) + (IntKind.u64.wrap (b)))
      = k * 1152921504606846976 + a * 4294967296 + b := by
  simp only [wrapU64]; omega

theorem or_wraps {k a b : Int} (h : 0 ≤ k ∧ k < 16 ∧ 0 ≤ a ∧ a < 268435456 ∧ 0 ≤ b ∧ b < 4294967296) :
    Go.bits .or .u64 (Go.bits .or .u64 (IntKind.u64.wrap ((IntKind.u64.wrap (k)) * 1152921504606846976)) (IntKind.u64.wrap ((IntKind.u64.wrap (a)) * 4294967296))) (IntKind.u64.wrap (b))
      = k * 1152921504606846976 + a * 4294967296 + b := by
  have e1 : IntKind.u64.wrap ((IntKind.u64.wrap (k)) * 1152921504606846976) = k * 1152921504606846976 := by simp only [wrapU64]; omega
  have e2 : IntKind.u64.wrap ((IntKind.u64.wrap (a)) * 4294967296) = a * 4294967296 := by simp only [wrapU64]; omega
  have e3 : IntKind.u64.wrap b = b := by simp only [wrapU64]; omega
  rw [e1, e2, e3]
  have hk : ∀ n : Int, 0 ≤ n → n < 2 ^ 64 → IntKind.u64.wrap n = n := fun n h0 h1 => by rw [wrapU64]; omega
  rw [bits_join .u64 64 (by decide) hk 60 (k * 1152921504606846976) (a * 4294967296) (by omega) (by omega) (by omega) (by omega) (by omega) (by omega)]
  rw [bits_join .u64 64 (by decide) hk 32 (k * 1152921504606846976 + a * 4294967296) b (by omega) (by omega) (by omega) (by omega) (by omega) (by omega)]

theorem and_i64 {x : Int} (h : 0 ≤ x ∧ x < 18446744073709551616) : Go.bits .and .i64 (wrap64 (x / 4294967296)) 268435455 = x / 4294967296 % 268435456 := by
  have e : wrap64 (x / 4294967296) = x / 4294967296 := by unfold wrap64; omega
  rw [e]
  exact bits_mask .i64 63 (by decide) (fun n h0 h1 => by rw [IntKind.wrap_i64]; omega) 28 (by decide) _ (by omega) (by omega)
theorem and_u64 {x : Int} (h : 0 ≤ x ∧ x < 18446744073709551616) : wrap64 (Go.bits .and .u64 (x / 4294967296) 268435455) = x / 4294967296 % 268435456 := by
  have e : Go.bits .and .u64 (x / 4294967296) 268435455 = x / 4294967296 % 268435456 :=
    bits_mask .u64 64 (by decide) (fun n h0 h1 => by rw [wrapU64]; omega) 28 (by decide) _ (by omega) (by omega)
  rw [e]; unfold wrap64; omega
theorem low_u64 {x : Int} (h : 0 ≤ x ∧ x < 18446744073709551616) : wrap64 (Go.bits .and .u64 x 4294967295) = x % 4294967296 := by
  have e : Go.bits .and .u64 x 4294967295 = x % 4294967296 :=
    bits_mask .u64 64 (by decide) (fun n h0 h1 => by rw [wrapU64]; omega) 32 (by decide) _ (by omega) (by omega)
  rw [e]; unfold wrap64; omega
theorem top_wraps {x : Int} (h : 0 ≤ x ∧ x < 18446744073709551616) : wrap64 (x / 1152921504606846976) = x / 1152921504606846976 := by unfold wrap64; omega

end Go.Proofs.Ytjcenohbaamadaa.SpaceLem

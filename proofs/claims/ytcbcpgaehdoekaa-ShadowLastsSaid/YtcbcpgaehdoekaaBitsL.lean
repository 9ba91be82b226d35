/- Plain facts on sets of numbers as bytes. -/
import Derived.Test.YtcbcpgaehdoekaaBits
set_option linter.unusedVariables false
set_option linter.unusedSimpArgs false
namespace Go.Proofs.Ytcbcpgaehdoekaa
open Go.Proofs.Ytcbcpgaehdoekaa.SL

theorem withB_len (b : List UInt8) (i : Int) (on : Bool) : (withB b i on).length = b.length := by
  unfold withB; split <;> simp
theorem hasB_with {b : List UInt8} {i : Int} {on : Bool} (h0 : 0 ≤ i) (h1 : i.toNat / 8 < b.length) (j : Int) : hasB (withB b i on) j = if j = i then on else hasB b j := by
  unfold withB
  by_cases hh : hasB b i = on
  · rw [if_pos (.inr (.inr hh))]
    by_cases hj : j = i
    · subst hj; rw [if_pos rfl, hh]
    · rw [if_neg hj]
  · rw [if_neg (by simp only [not_or]; exact ⟨by omega, by omega, hh⟩)]
    have hx : (b.getD (i.toNat / 8) 0).toNat ^^^ 2 ^ (i.toNat % 8) < 256 := (bit_turn (UInt8.toNat_lt _) (Nat.mod_lt _ (by decide))).2
    have hof : (UInt8.ofNat ((b.getD (i.toNat / 8) 0).toNat ^^^ 2 ^ (i.toNat % 8))).toNat = (b.getD (i.toNat / 8) 0).toNat ^^^ 2 ^ (i.toNat % 8) := by
      simp only [UInt8.toNat_ofNat', Nat.reducePow]; exact Nat.mod_eq_of_lt hx
    by_cases hj0 : 0 ≤ j
    · by_cases hb : j.toNat / 8 = i.toNat / 8
      · have hg : (b.set (i.toNat / 8) (UInt8.ofNat ((b.getD (i.toNat / 8) 0).toNat ^^^ 2 ^ (i.toNat % 8)))).getD (j.toNat / 8) 0 = UInt8.ofNat ((b.getD (i.toNat / 8) 0).toNat ^^^ 2 ^ (i.toNat % 8)) := by
          rw [hb, List.getD, List.getElem?_set_self h1]; rfl
        unfold hasB
        rw [hg, hof, Nat.testBit_xor, Nat.testBit_two_pow, hb]
        unfold hasB at hh
        by_cases hj : j = i
        · subst hj
          rw [if_pos rfl]
          simp only [decide_true, decide_eq_true hj0, Bool.true_and] at hh ⊢
          cases hc : (b.getD (j.toNat / 8) 0).toNat.testBit (j.toNat % 8) <;> cases on <;> simp_all
        · rw [if_neg hj]
          have : ¬ i.toNat % 8 = j.toNat % 8 := by omega
          simp [this]
      · have hg : (b.set (i.toNat / 8) (UInt8.ofNat ((b.getD (i.toNat / 8) 0).toNat ^^^ 2 ^ (i.toNat % 8)))).getD (j.toNat / 8) 0 = b.getD (j.toNat / 8) 0 := by
          rw [List.getD, List.getElem?_set_ne (fun q => hb q.symm)]; rfl
        unfold hasB
        rw [hg, if_neg (fun q => hb (by rw [q]))]
    · unfold hasB
      rw [if_neg (by omega), decide_eq_false hj0]
      simp
end Go.Proofs.Ytcbcpgaehdoekaa

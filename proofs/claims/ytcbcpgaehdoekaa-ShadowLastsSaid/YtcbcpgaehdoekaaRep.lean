/- strings.Repeat, and what is built on it. -/
import Derived.Test.YtcbcpgaehdoekaaBitsL
import Derived.Test.YtcbcpgaehdoekaaLayR
import Derived.Test.YtcbcpgaehdoekaaSlJ
set_option linter.unusedVariables false
set_option linter.unusedSimpArgs false
namespace Go.Proofs.Ytcbcpgaehdoekaa
open Go.Proofs.Ytcbcpgaehdoekaa.SL

theorem Repeat_does (c : Nat) (hc : c ≤ 140737488355328) : Does Try.prog 39 [.string { data := #[0] }, .int .i64 c] [] (fun v H => v = .string (str (List.replicate c 0)) ∧ H = []) := by
  refine does_below (v := .string (str (List.replicate c 0))) fun w => (Try.repeat_calls (str [0]) c w (by omega) ?_).mono fun e w' h => ⟨?_, h.2⟩
  · show 1 * c ≤ _
    omega
  · rw [h.1]
    have e : ∀ c, Lib.repeatL [0] c = List.replicate c 0 := fun c => by
      induction c with
      | zero => rfl
      | succ c ih => rw [Lib.repeatL, ih]; rfl
    show Ending.returned (Value.string ⟨(Lib.repeatL [0] c).toArray⟩) = _
    rw [e]
    rfl

def newB (n : Int) : List UInt8 := List.replicate ((min (max n 0) 100000 + 7) / 8).toNat 0
theorem bNew_does (n : Int) (hn : -9223372036854775808 ≤ n ∧ n < 9223372036854775808) : Does Try.prog 41 [.int .i64 n] [] (fun v H => v = .string (str (newB n)) ∧ H = []) := by
  refine does_of Try.func41 Try.ntmps41 rfl rfl rfl (fun w0 F0 => ?_)
  (repeat (first | ((with_reducible apply g_seq)) | ((with_reducible apply g_region)) | ((with_reducible apply l_nil)) | ((with_reducible apply n_then)) | ((with_reducible apply l_pures1 env_ok); rfl; rfl; rfl)))
  (simp only [cond_true, cond_false, mxI_eq, mnI_eq])
  obtain ⟨m, hm⟩ : ∃ m, min (max n 0) 100000 = m := ⟨_, rfl⟩
  have hb : 0 ≤ m ∧ m ≤ 100000 := by omega
  rw [hm]
  have e : IntKind.i64.wrap ((IntKind.i64.wrap (IntKind.i64.wrap (m + 8) - 1)).tdiv 8) = (((m + 7) / 8).toNat : Int) := by
    rw [wrapI64 (n := m + 8) (by omega), wrapI64 (n := m + 8 - 1) (by omega), Int.tdiv_eq_ediv_of_nonneg (by omega), wrapI64 (by omega)]
    omega
  rw [e]
  (repeat' (first | ((with_reducible apply l_nil)) | ((with_reducible apply n_then)) | ((with_reducible apply l_pures1 env_ok); rfl; rfl; rfl) | ((with_reducible apply l_call c39); rfl; rfl; rfl; rfl; (with_reducible exact Repeat_does ((m + 7) / 8).toNat (by omega)); (repeat (first | (with_reducible exact Parts.nil) | ((with_reducible apply Parts.cons); (repeat (first | (with_reducible exact Take.here) | ((with_reducible apply Take.there))))))); rintro _ _ _ ⟨rfl, rfl⟩ he; cases he) | ((with_reducible apply g_ret))))
  (apply n_ret env_ok rfl; (repeat (first | (with_reducible exact ResV.nil) | (apply ResV.tmp; rfl) | (apply ResV.cell; rfl; (repeat (first | (with_reducible exact Take.here) | ((with_reducible apply Take.there)))); rfl) | exact ResV.nil)); refine ⟨_, ?_, fun i => i⟩)
  exact ⟨by rw [newB, hm]; rfl, rfl⟩
end Go.Proofs.Ytcbcpgaehdoekaa

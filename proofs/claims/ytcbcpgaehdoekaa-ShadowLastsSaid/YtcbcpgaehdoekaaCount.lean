/- bits.Count. -/
import Derived.Test.YtcbcpgaehdoekaaRep
set_option linter.unusedVariables false
set_option linter.unusedSimpArgs false
namespace Go.Proofs.Ytcbcpgaehdoekaa
open Go.Proofs.Ytcbcpgaehdoekaa.SL

/-- How many bits of a byte are set. -/
def ones (c : Nat) : Nat := (List.range 8).countP fun m => c.testBit m
set_option maxRecDepth 100000 in
theorem Ones_does (c : UInt8) : Does Try.prog 43 [.int .u8 c.toNat] [] (fun v H => v = .int .i64 (ones c.toNat) ∧ H = []) := by
  refine does_of Try.func43 Try.ntmps43 rfl rfl rfl (fun w0 F0 => ?_)
  have hc := c.toNat_lt
  (repeat (first | ((with_reducible apply g_seq)) | ((with_reducible apply g_region)) | ((with_reducible apply l_nil)) | ((with_reducible apply n_then)) | ((with_reducible apply l_pures1 env_ok); rfl; rfl; rfl)))
  refine l_index (j := (c.toNat : Int)) env_ok rfl rfl rfl rfl ?_ ?_
  · refine ⟨Int.natCast_nonneg _, ?_⟩
    have : c.toNat < 256 := hc
    show (c.toNat : Int) < ((256 : Nat) : Int)
    omega
  · (repeat (first | ((with_reducible apply l_nil)) | ((with_reducible apply n_then)) | ((with_reducible apply l_pures1 env_ok); rfl; rfl; rfl) | ((with_reducible apply g_ret))))
    (apply n_ret env_ok rfl; (repeat (first | (with_reducible exact ResV.nil) | (apply ResV.tmp; rfl) | (apply ResV.cell; rfl; (repeat (first | (with_reducible exact Take.here) | ((with_reducible apply Take.there)))); rfl) | exact ResV.nil)); refine ⟨_, ?_, fun i => i⟩)
    refine ⟨?_, rfl⟩
    refine congrArg (Value.int IntKind.i64) ?_
    revert hc
    generalize c.toNat = k
    revert k
    decide

theorem ones_le (c : Nat) : ones c ≤ 8 := by
  have := List.countP_le_length (p := fun m => c.testBit m) (l := List.range 8)
  simpa [ones] using this
/-- How many numbers a set has. -/
def countB : List UInt8 → Nat
  | [] => 0
  | c :: l => ones c.toNat + countB l
theorem countB_snoc (c : UInt8) : ∀ l, countB (l ++ [c]) = countB l + ones c.toNat
  | [] => by simp [countB]
  | d :: l => by rw [List.cons_append, countB, countB_snoc c l, countB]; omega
theorem countB_le : ∀ l, countB l ≤ 8 * l.length
  | [] => by simp [countB]
  | c :: l => by have := ones_le c.toNat; have := countB_le l; simp only [countB, List.length_cons]; omega

theorem Count_does (b : List UInt8) (hb : b.length ≤ 1000000) : Does Try.prog 27 [.string (str b)] [] (fun v H => v = .int .i64 (countB b) ∧ H = []) := by
  refine does_of Try.func27 Try.ntmps27 rfl rfl rfl (fun w0 F0 => ?_)
  (repeat (first | ((with_reducible apply g_seq)) | ((with_reducible apply g_region)) | ((with_reducible apply l_nil)) | ((with_reducible apply n_then)) | ((with_reducible apply l_pures1 env_ok); rfl; rfl; rfl) | ((with_reducible apply g_block))))
  (refine g_loop (fun k : Nat => [(7, .int .i64 k), (6, .int .i64 b.length), (5, .string (str b)), (3, .int .i64 (countB (b.take k))), (0, .string (str b))]) (fun _ => []) (fun k => k ≤ b.length) (fun k => b.length - k) (0) ?_ ?_ ?_ ?_; rotate_left; (repeat (first | (with_reducible exact ts_nil) | ((with_reducible apply ts_cons); rfl; first | (with_reducible rfl) | rotate_left))); (first | (intro _ i; with_reducible exact i) | rotate_left); rotate_left; (try omega); rotate_right)
  · intro k hk
    have hle := countB_le (b.take k)
    have hl : (b.take k).length ≤ k := by simp; omega
    rcases (show k < b.length ∨ k = b.length by omega) with hlt | heq
    · have hby : byteAt b k = ((b.getD k 0).toNat : Int) := by unfold byteAt; rw [Int.toNat_natCast]
      have ho := ones_le (b.getD k 0).toNat
      (repeat' (first | ((with_reducible apply g_seq)) | ((with_reducible apply g_region)) | ((with_reducible apply l_nil)) | ((with_reducible apply n_then)) | ((with_reducible apply l_pures1 env_ok); rfl; rfl; rfl) | ((with_reducible apply l_index env_ok); rfl; rfl; rfl; rfl; (first | assumption | omega | (refine ⟨?_, ?_⟩ <;> omega) | (simp only [List.length_cons, List.length_nil, str] at *; omega) | (simp only [List.length_append] at *; omega))) | ((with_reducible apply g_skip)) | ((with_reducible apply g_block)) | ((with_reducible apply g_cond); rfl; (intro h; (try dsimp only at h); (try simp only [beq_true, beq_false, decide_eq_decide, beq_iff_eq, bne_iff_ne, beq_eq_false_iff_ne, bne_eq_false_iff_eq, decide_eq_true_eq, decide_eq_false_iff_not, Bool.not_eq_true', Bool.not_eq_false', ne_eq, Decidable.not_not] at h); (try (focus (exfalso; first | (simp only [eq_self, not_true_eq_false, not_false_eq_true, reduceCtorEq] at h; done) | omega)))); rotate_left; (intro h; (try dsimp only at h); (try simp only [beq_true, beq_false, decide_eq_decide, beq_iff_eq, bne_iff_ne, beq_eq_false_iff_ne, bne_eq_false_iff_eq, decide_eq_true_eq, decide_eq_false_iff_not, Bool.not_eq_true', Bool.not_eq_false', ne_eq, Decidable.not_not] at h); (try (focus (exfalso; first | (simp only [eq_self, not_true_eq_false, not_false_eq_true, reduceCtorEq] at h; done) | omega)))); rotate_left)))
      rw [hby]
      (repeat' (first | ((with_reducible apply g_region)) | ((with_reducible apply l_nil)) | ((with_reducible apply n_then)) | ((with_reducible apply l_pures1 env_ok); rfl; rfl; rfl) | ((with_reducible apply l_call c43); rfl; rfl; rfl; rfl; (with_reducible exact Ones_does (b.getD k 0)); (repeat (first | (with_reducible exact Parts.nil) | ((with_reducible apply Parts.cons); (repeat (first | (with_reducible exact Take.here) | ((with_reducible apply Take.there))))))); rintro _ _ _ ⟨rfl, rfl⟩ he; cases he) | ((with_reducible apply n_block))))
      (refine n_back (k + 1) ?_ ?_ ?_ ?_; rotate_left; rotate_left; (repeat (first | (with_reducible exact ts_nil) | ((with_reducible apply ts_cons); rfl; first | (with_reducible rfl) | rotate_left))); (first | (intro _ i; with_reducible exact i) | rotate_left); (try omega); (try omega))
      · rw [wrapI64 (by omega)]; rfl
      · rw [wrapI64 (by omega), List.take_succ_eq_append_getElem hlt, countB_snoc, List.getD, List.getElem?_eq_getElem hlt]; rfl
    · subst heq
      (repeat' (first | ((with_reducible apply g_seq)) | ((with_reducible apply g_region)) | ((with_reducible apply l_nil)) | ((with_reducible apply n_then)) | ((with_reducible apply l_pures1 env_ok); rfl; rfl; rfl) | ((with_reducible apply g_ret)) | ((with_reducible apply g_exit)) | ((with_reducible apply n_then_exit)) | ((with_reducible apply n_block_hit)) | ((with_reducible apply g_cond); rfl; (intro h; (try dsimp only at h); (try simp only [beq_true, beq_false, decide_eq_decide, beq_iff_eq, bne_iff_ne, beq_eq_false_iff_ne, bne_eq_false_iff_eq, decide_eq_true_eq, decide_eq_false_iff_not, Bool.not_eq_true', Bool.not_eq_false', ne_eq, Decidable.not_not] at h); (try (focus (exfalso; first | (simp only [eq_self, not_true_eq_false, not_false_eq_true, reduceCtorEq] at h; done) | omega)))); rotate_left; (intro h; (try dsimp only at h); (try simp only [beq_true, beq_false, decide_eq_decide, beq_iff_eq, bne_iff_ne, beq_eq_false_iff_ne, bne_eq_false_iff_eq, decide_eq_true_eq, decide_eq_false_iff_not, Bool.not_eq_true', Bool.not_eq_false', ne_eq, Decidable.not_not] at h); (try (focus (exfalso; first | (simp only [eq_self, not_true_eq_false, not_false_eq_true, reduceCtorEq] at h; done) | omega)))); rotate_left)))
      (apply n_ret env_ok rfl; (repeat (first | (with_reducible exact ResV.nil) | (apply ResV.tmp; rfl) | (apply ResV.cell; rfl; (repeat (first | (with_reducible exact Take.here) | ((with_reducible apply Take.there)))); rfl) | exact ResV.nil)); refine ⟨_, ?_, fun i => i⟩)
      rw [List.take_length]
      exact ⟨rfl, rfl⟩
  all_goals rfl
end Go.Proofs.Ytcbcpgaehdoekaa

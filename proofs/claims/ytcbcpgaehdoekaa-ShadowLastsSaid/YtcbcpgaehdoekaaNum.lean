/- Package num, as contracts over lists of bytes. -/
import Derived.Test.YtcbcpgaehdoekaaSlEnv
import Derived.Test.YtcbcpgaehdoekaaByt
set_option linter.unusedVariables false
set_option linter.unusedSimpArgs false
namespace Go.Proofs.Ytcbcpgaehdoekaa
open Go.Proofs.Ytcbcpgaehdoekaa.SL

def numTake (b : List UInt8) (size : Int) : Nat × List UInt8 × Int :=
  if size < 1 ∨ size > 8 then (0, [], 1) else if (b.length : Int) < size then (0, [], 2) else (getN (b.take size.toNat), b.drop size.toNat, 0)
def takeV (r : Nat × List UInt8 × Int) : Value := .tuple #[.int .u64 r.1, .string (str r.2.1), .int .i64 r.2.2]

set_option maxHeartbeats 1000000 in
theorem Take_does (b : List UInt8) (size : Int) (hs : -9223372036854775808 ≤ size ∧ size < 9223372036854775808) (hb : b.length < 9223372036854775808) :
    Does Try.prog 52 [.string (str b), .int .i64 size] [] (fun v H => v = takeV (numTake b size) ∧ H = []) := by
  refine does_of Try.func52 Try.ntmps52 rfl rfl rfl (fun w0 F0 => ?_)
  (repeat' (first | ((with_reducible apply g_seq)) | ((with_reducible apply g_region)) | ((with_reducible apply l_nil)) | ((with_reducible apply n_then)) | ((with_reducible apply l_pures1 env_ok); rfl; rfl; rfl) | ((with_reducible apply l_guard_yes); rfl; rfl; rfl) | ((with_reducible apply l_guard_no); rfl; rfl; rfl; rfl; rfl) | ((with_reducible apply g_skip)) | ((with_reducible apply g_ret)) | ((with_reducible apply n_then_ret)) | ((with_reducible apply n_block_ret)) | ((with_reducible apply g_block)) | ((with_reducible apply n_block)) | ((with_reducible apply g_cond_t); rfl) | ((with_reducible apply l_guard_split); rfl; rfl; (intro h; (try dsimp only at h); (try simp only [beq_true, beq_false, decide_eq_decide, beq_iff_eq, bne_iff_ne, beq_eq_false_iff_ne, bne_eq_false_iff_eq, decide_eq_true_eq, decide_eq_false_iff_not, Bool.not_eq_true', Bool.not_eq_false', ne_eq, Decidable.not_not] at h); (try (focus (exfalso; first | (simp only [eq_self, not_true_eq_false, not_false_eq_true, reduceCtorEq] at h; done) | omega)))); rotate_left; (intro h; (try dsimp only at h); (try simp only [beq_true, beq_false, decide_eq_decide, beq_iff_eq, bne_iff_ne, beq_eq_false_iff_ne, bne_eq_false_iff_eq, decide_eq_true_eq, decide_eq_false_iff_not, Bool.not_eq_true', Bool.not_eq_false', ne_eq, Decidable.not_not] at h); (try (focus (exfalso; first | (simp only [eq_self, not_true_eq_false, not_false_eq_true, reduceCtorEq] at h; done) | omega)))); rotate_left) | ((with_reducible apply g_cond); rfl; (intro h; (try dsimp only at h); (try simp only [beq_true, beq_false, decide_eq_decide, beq_iff_eq, bne_iff_ne, beq_eq_false_iff_ne, bne_eq_false_iff_eq, decide_eq_true_eq, decide_eq_false_iff_not, Bool.not_eq_true', Bool.not_eq_false', ne_eq, Decidable.not_not] at h); (try (focus (exfalso; first | (simp only [eq_self, not_true_eq_false, not_false_eq_true, reduceCtorEq] at h; done) | omega)))); rotate_left; (intro h; (try dsimp only at h); (try simp only [beq_true, beq_false, decide_eq_decide, beq_iff_eq, bne_iff_ne, beq_eq_false_iff_ne, bne_eq_false_iff_eq, decide_eq_true_eq, decide_eq_false_iff_not, Bool.not_eq_true', Bool.not_eq_false', ne_eq, Decidable.not_not] at h); (try (focus (exfalso; first | (simp only [eq_self, not_true_eq_false, not_false_eq_true, reduceCtorEq] at h; done) | omega)))); rotate_left)))
  · (apply n_ret env_ok rfl; (repeat (first | (with_reducible exact ResV.nil) | (apply ResV.tmp; rfl) | (apply ResV.cell; rfl; (repeat (first | (with_reducible exact Take.here) | ((with_reducible apply Take.there)))); rfl) | exact ResV.nil)); refine ⟨_, ?_, fun i => i⟩)
    exact ⟨by rw [numTake, if_pos (by omega)]; rfl, rfl⟩
  · (apply n_ret env_ok rfl; (repeat (first | (with_reducible exact ResV.nil) | (apply ResV.tmp; rfl) | (apply ResV.cell; rfl; (repeat (first | (with_reducible exact Take.here) | ((with_reducible apply Take.there)))); rfl) | exact ResV.nil)); refine ⟨_, ?_, fun i => i⟩)
    exact ⟨by rw [numTake, if_pos (by omega)]; rfl, rfl⟩
  · (apply n_ret env_ok rfl; (repeat (first | (with_reducible exact ResV.nil) | (apply ResV.tmp; rfl) | (apply ResV.cell; rfl; (repeat (first | (with_reducible exact Take.here) | ((with_reducible apply Take.there)))); rfl) | exact ResV.nil)); refine ⟨_, ?_, fun i => i⟩)
    exact ⟨by rw [numTake, if_neg (by omega), if_pos (by omega)]; rfl, rfl⟩
  · (refine g_loop (fun k : Nat => [(4, .int .u64 (getN (b.take k))), (21, .int .i64 k), (20, .int .i64 size), (0, .string (str b)), (1, .int .i64 size)]) (fun _ => []) (fun k => (k : Int) ≤ size) (fun k => size.toNat - k) (0) ?_ ?_ ?_ ?_; rotate_left; (repeat (first | (with_reducible exact ts_nil) | ((with_reducible apply ts_cons); rfl; first | (with_reducible rfl) | rotate_left))); (first | (intro _ i; with_reducible exact i) | rotate_left); rotate_left; (try omega); rotate_right)
    · intro k hk
      (repeat' (first | ((with_reducible apply g_seq)) | ((with_reducible apply g_region)) | ((with_reducible apply l_nil)) | ((with_reducible apply n_then)) | ((with_reducible apply l_pures1 env_ok); rfl; rfl; rfl) | ((with_reducible apply l_index env_ok); rfl; rfl; rfl; rfl; (first | assumption | omega | (refine ⟨?_, ?_⟩ <;> omega) | (simp only [List.length_cons, List.length_nil, str] at *; omega) | (simp only [List.length_append] at *; omega))) | ((with_reducible apply l_shl env_ok); rfl; rfl; rfl; (first | assumption | omega | (refine ⟨?_, ?_⟩ <;> omega) | (simp only [List.length_cons, List.length_nil, str] at *; omega) | (simp only [List.length_append] at *; omega))) | ((with_reducible apply g_skip)) | ((with_reducible apply g_block)) | ((with_reducible apply g_exit)) | ((with_reducible apply n_then_exit)) | ((with_reducible apply n_block_hit)) | ((with_reducible apply n_block)) | ((with_reducible apply g_cond); rfl; (intro h; (try dsimp only at h); (try simp only [beq_true, beq_false, decide_eq_decide, beq_iff_eq, bne_iff_ne, beq_eq_false_iff_ne, bne_eq_false_iff_eq, decide_eq_true_eq, decide_eq_false_iff_not, Bool.not_eq_true', Bool.not_eq_false', ne_eq, Decidable.not_not] at h); (try (focus (exfalso; first | (simp only [eq_self, not_true_eq_false, not_false_eq_true, reduceCtorEq] at h; done) | omega)))); rotate_left; (intro h; (try dsimp only at h); (try simp only [beq_true, beq_false, decide_eq_decide, beq_iff_eq, bne_iff_ne, beq_eq_false_iff_ne, bne_eq_false_iff_eq, decide_eq_true_eq, decide_eq_false_iff_not, Bool.not_eq_true', Bool.not_eq_false', ne_eq, Decidable.not_not] at h); (try (focus (exfalso; first | (simp only [eq_self, not_true_eq_false, not_false_eq_true, reduceCtorEq] at h; done) | omega)))); rotate_left)))
      · have hN := getN_lt (b.take k)
        have hp : 256 ^ (b.take k).length ≤ 256 ^ 7 := Nat.pow_le_pow_right (by decide) (by simp; omega)
        have hlt : getN (b.take k) < 256 ^ 7 := Nat.lt_of_lt_of_le hN hp
        have hby := byteAt_bd b k
        (refine n_back (k + 1) ?_ ?_ ?_ ?_; rotate_left; rotate_left; (repeat (first | (with_reducible exact ts_nil) | ((with_reducible apply ts_cons); rfl; first | (with_reducible rfl) | rotate_left))); (first | (intro _ i; with_reducible exact i) | rotate_left); (try omega); (try omega))
        · rw [p8, wrapU64 (n := byteAt b k) (by omega), wrapU64 (n := (getN (b.take k) : Int) * 256) (by omega), wrapU64 (by omega), getN_take (by omega)]
          simp [byteAt]
        · rw [wrapI64 (by omega)]; rfl
      · ((with_reducible apply g_draw [] env_ok); (repeat (first | (with_reducible exact Parts.nil) | ((with_reducible apply Parts.cons); (repeat (first | (with_reducible exact Take.here) | ((with_reducible apply Take.there))))))); ((with_reducible apply a_pass2 env_ok); rfl; rfl; rfl; (repeat (first | exact calm_post | (with_reducible apply calm_then) | (with_reducible apply calm_block)))))
        (repeat (first | ((with_reducible apply l_nil)) | ((with_reducible apply n_then)) | ((with_reducible apply l_slice_str env_ok); rfl; rfl; rfl; rfl; rfl; (first | assumption | omega | (refine ⟨?_, ?_⟩ <;> omega) | (simp only [List.length_cons, List.length_nil, str] at *; omega) | (simp only [List.length_append] at *; omega))) | ((with_reducible apply g_ret)) | ((with_reducible apply a_done); rfl) | ((with_reducible apply a_one); rfl; rfl; rfl; rfl) | ((with_reducible apply n_any); (repeat (first | (with_reducible exact Parts.nil) | ((with_reducible apply Parts.cons); (repeat (first | (with_reducible exact Take.here) | ((with_reducible apply Take.there))))))); ((with_reducible apply a_pass2 env_ok); rfl; rfl; rfl; (repeat (first | exact calm_post | (with_reducible apply calm_then) | (with_reducible apply calm_block)))))))
        (apply n_ret env_ok rfl; (repeat (first | (with_reducible exact ResV.nil) | (apply ResV.tmp; rfl) | (apply ResV.cell; rfl; (repeat (first | (with_reducible exact Take.here) | ((with_reducible apply Take.there)))); rfl) | exact ResV.nil)); refine ⟨_, ?_, fun i => i⟩)
        obtain rfl : size = k := by omega
        refine ⟨?_, rfl⟩
        rw [numTake, if_neg (by omega), if_neg (by omega)]
        have e : cutB b k b.length = b.drop k := by unfold cutB; rw [List.take_of_length_le (by simp)]
        simp only [Int.toNat_natCast, e]
        rfl
    · rfl
    · rfl

/-- A number as bytes; none where it has no room, or there are not one to eight. -/
def numPut (n : Nat) (size : Int) : List UInt8 × Int :=
  if size < 1 ∨ size > 8 then ([], 1) else if n < 256 ^ size.toNat then (putN n size.toNat, 0) else ([], 1)
def putV (r : List UInt8 × Int) : Value := .tuple #[.string (str r.1), .int .i64 r.2]

set_option maxHeartbeats 1000000 in
theorem Put_does (n : Nat) (size : Int) (hn : n < 18446744073709551616) (hs : -9223372036854775808 ≤ size ∧ size < 9223372036854775808) :
    Does Try.prog 65 [.int .u64 n, .int .i64 size] [] (fun v H => v = putV (numPut n size) ∧ H = []) := by
  refine does_of Try.func65 Try.ntmps65 rfl rfl rfl (fun w0 F0 => ?_)
  (repeat' (first | ((with_reducible apply g_seq)) | ((with_reducible apply g_region)) | ((with_reducible apply l_nil)) | ((with_reducible apply n_then)) | ((with_reducible apply l_pures1 env_ok); rfl; rfl; rfl) | ((with_reducible apply l_guard_yes); rfl; rfl; rfl) | ((with_reducible apply l_guard_no); rfl; rfl; rfl; rfl; rfl) | ((with_reducible apply l_makeSlice env_ok); rfl; rfl; rfl; rfl; rfl; rfl; (first | assumption | omega | (refine ⟨?_, ?_⟩ <;> omega) | (simp only [List.length_cons, List.length_nil, str] at *; omega) | (simp only [List.length_append] at *; omega)); intro _) | ((with_reducible apply g_skip)) | ((with_reducible apply g_ret)) | ((with_reducible apply n_then_ret)) | ((with_reducible apply g_block)) | ((with_reducible apply g_cond_t); rfl) | ((with_reducible apply l_guard_split); rfl; rfl; (intro h; (try dsimp only at h); (try simp only [beq_true, beq_false, decide_eq_decide, beq_iff_eq, bne_iff_ne, beq_eq_false_iff_ne, bne_eq_false_iff_eq, decide_eq_true_eq, decide_eq_false_iff_not, Bool.not_eq_true', Bool.not_eq_false', ne_eq, Decidable.not_not] at h); (try (focus (exfalso; first | (simp only [eq_self, not_true_eq_false, not_false_eq_true, reduceCtorEq] at h; done) | omega)))); rotate_left; (intro h; (try dsimp only at h); (try simp only [beq_true, beq_false, decide_eq_decide, beq_iff_eq, bne_iff_ne, beq_eq_false_iff_ne, bne_eq_false_iff_eq, decide_eq_true_eq, decide_eq_false_iff_not, Bool.not_eq_true', Bool.not_eq_false', ne_eq, Decidable.not_not] at h); (try (focus (exfalso; first | (simp only [eq_self, not_true_eq_false, not_false_eq_true, reduceCtorEq] at h; done) | omega)))); rotate_left) | ((with_reducible apply g_cond); rfl; (intro h; (try dsimp only at h); (try simp only [beq_true, beq_false, decide_eq_decide, beq_iff_eq, bne_iff_ne, beq_eq_false_iff_ne, bne_eq_false_iff_eq, decide_eq_true_eq, decide_eq_false_iff_not, Bool.not_eq_true', Bool.not_eq_false', ne_eq, Decidable.not_not] at h); (try (focus (exfalso; first | (simp only [eq_self, not_true_eq_false, not_false_eq_true, reduceCtorEq] at h; done) | omega)))); rotate_left; (intro h; (try dsimp only at h); (try simp only [beq_true, beq_false, decide_eq_decide, beq_iff_eq, bne_iff_ne, beq_eq_false_iff_ne, bne_eq_false_iff_eq, decide_eq_true_eq, decide_eq_false_iff_not, Bool.not_eq_true', Bool.not_eq_false', ne_eq, Decidable.not_not] at h); (try (focus (exfalso; first | (simp only [eq_self, not_true_eq_false, not_false_eq_true, reduceCtorEq] at h; done) | omega)))); rotate_left)))
  · (apply n_ret env_ok rfl; (repeat (first | (with_reducible exact ResV.nil) | (apply ResV.tmp; rfl) | (apply ResV.cell; rfl; (repeat (first | (with_reducible exact Take.here) | ((with_reducible apply Take.there)))); rfl) | exact ResV.nil)); refine ⟨_, ?_, fun i => i⟩)
    exact ⟨by rw [numPut, if_pos (by omega)]; rfl, rfl⟩
  · (apply n_ret env_ok rfl; (repeat (first | (with_reducible exact ResV.nil) | (apply ResV.tmp; rfl) | (apply ResV.cell; rfl; (repeat (first | (with_reducible exact Take.here) | ((with_reducible apply Take.there)))); rfl) | exact ResV.nil)); refine ⟨_, ?_, fun i => i⟩)
    exact ⟨by rw [numPut, if_pos (by omega)]; rfl, rfl⟩
  · (repeat fail)
    rename_i b
    (refine g_loop (fun k : Nat => [(0, .int .u64 ((n / 256 ^ k : Nat) : Int)), (17, .int .i64 k), (16, .int .i64 size), (6, .slice (some ⟨b, 0, none⟩) size.toNat size.toNat), (1, .int .i64 size)]) (fun k => [cl b 5 (bsV (List.replicate (size.toNat - k) 0 ++ putN n k))]) (fun k => (k : Int) ≤ size) (fun k => size.toNat - k) (0) ?_ ?_ ?_ ?_; rotate_left; (repeat (first | (with_reducible exact ts_nil) | ((with_reducible apply ts_cons); rfl; first | (with_reducible rfl) | rotate_left))); (first | (intro _ i; with_reducible exact i) | rotate_left); rotate_left; (try omega); rotate_right)
    · intro k hk
      have e1 : IntKind.i64.wrap (size - 1) = size - 1 := wrapI64 (by omega)
      have e2 : IntKind.i64.wrap (IntKind.i64.wrap (size - 1) - (k : Int)) = size - 1 - k := by rw [e1]; exact wrapI64 (by omega)
      (repeat' (first | ((with_reducible apply g_seq)) | ((with_reducible apply g_region)) | ((with_reducible apply l_nil)) | ((with_reducible apply n_then)) | ((with_reducible apply l_pures1 env_ok); rfl; rfl; rfl) | ((with_reducible apply l_store_at env_ok); rfl; rfl; rfl; rfl; (repeat (first | (with_reducible exact Take.here) | ((with_reducible apply Take.there)))); (first | omega | (simp only [List.length_map, List.length_replicate, List.length_append, List.length_set, List.length_cons, List.length_nil, bsV] at *; omega))) | ((with_reducible apply l_indexAddr env_ok); rfl; rfl; rfl; rfl; rfl; (first | assumption | omega | (refine ⟨?_, ?_⟩ <;> omega) | (simp only [List.length_cons, List.length_nil, str] at *; omega) | (simp only [List.length_append] at *; omega))) | ((with_reducible apply l_shr env_ok); rfl; rfl; rfl; (first | assumption | omega | (refine ⟨?_, ?_⟩ <;> omega) | (simp only [List.length_cons, List.length_nil, str] at *; omega) | (simp only [List.length_append] at *; omega))) | ((with_reducible apply l_str_bs env_ok); rfl; rfl; rfl; rfl; rfl; (repeat (first | (with_reducible exact Take.here) | ((with_reducible apply Take.there)))); (first | omega | (simp only [List.length_replicate, List.length_append, List.length_set, List.length_cons, List.length_nil, putN_length] at *; omega))) | ((with_reducible apply g_skip)) | ((with_reducible apply g_ret)) | ((with_reducible apply n_then_ret)) | ((with_reducible apply g_block)) | ((with_reducible apply g_exit)) | ((with_reducible apply n_then_exit)) | ((with_reducible apply n_block_hit)) | ((with_reducible apply n_block)) | ((with_reducible apply g_cond); rfl; (intro h; (try dsimp only at h); (try simp only [beq_true, beq_false, decide_eq_decide, beq_iff_eq, bne_iff_ne, beq_eq_false_iff_ne, bne_eq_false_iff_eq, decide_eq_true_eq, decide_eq_false_iff_not, Bool.not_eq_true', Bool.not_eq_false', ne_eq, Decidable.not_not] at h); (try (focus (exfalso; first | (simp only [eq_self, not_true_eq_false, not_false_eq_true, reduceCtorEq] at h; done) | omega)))); rotate_left; (intro h; (try dsimp only at h); (try simp only [beq_true, beq_false, decide_eq_decide, beq_iff_eq, bne_iff_ne, beq_eq_false_iff_ne, bne_eq_false_iff_eq, decide_eq_true_eq, decide_eq_false_iff_not, Bool.not_eq_true', Bool.not_eq_false', ne_eq, Decidable.not_not] at h); (try (focus (exfalso; first | (simp only [eq_self, not_true_eq_false, not_false_eq_true, reduceCtorEq] at h; done) | omega)))); rotate_left)))
      · have e3 : (IntKind.i64.wrap (IntKind.i64.wrap (size - 1) - (k : Int))).toNat = size.toNat - (k + 1) := by omega
        have e4 : IntKind.u8.wrap ((n / 256 ^ k : Nat) : Int) = ((n / 256 ^ k % 256 : Nat) : Int) := by rw [IntKind.wrap_u8]; omega
        (refine n_back (k + 1) ?_ ?_ ?_ ?_; rotate_left; rotate_left; (repeat (first | (with_reducible exact ts_nil) | ((with_reducible apply ts_cons); rfl; first | (with_reducible rfl) | rotate_left))); (first | (intro _ i; with_reducible exact i) | rotate_left); (try omega); (try omega))
        · rw [p8, Int.fdiv_eq_ediv_of_nonneg _ (by omega), Nat.pow_succ, ← Nat.div_div_eq_div_mul]; rfl
        · rw [wrapI64 (by omega)]; rfl
        · intro w i
          rw [e3, e4, bsV_set (by omega), Nat.zero_add, Nat.mul_one, show size.toNat - k = size.toNat - (k + 1) + 1 by omega, List.replicate_succ', List.append_assoc] at i
          rw [List.set_append_right _ _ (by simp), List.length_replicate, Nat.sub_self, List.singleton_append, List.set_cons_zero] at i
          rw [putN_cons]
          have e5 : UInt8.ofNat (((n / 256 ^ k % 256 : Nat) : Int)).toNat = UInt8.ofNat (n / 256 ^ k) := by apply UInt8.toNat.inj; rw [Int.toNat_natCast]; simp
          rw [e5] at i
          exact i
      · obtain rfl : size = k := by omega
        (apply n_ret env_ok rfl; (repeat (first | (with_reducible exact ResV.nil) | (apply ResV.tmp; rfl) | (apply ResV.cell; rfl; (repeat (first | (with_reducible exact Take.here) | ((with_reducible apply Take.there)))); rfl) | exact ResV.nil)); refine ⟨[], ?_, ?_⟩; rotate_left; (intro _; refine @inv_keep _ _ _ _ ?_ ?_ _); rotate_left; (repeat (first | (with_reducible exact Parts.nil) | ((with_reducible apply Parts.cons); (repeat (first | (with_reducible exact Take.here) | ((with_reducible apply Take.there))))))); rotate_right)
        exact ⟨by rw [numPut, if_neg (by omega), if_neg]; rfl; rw [Int.toNat_natCast]; intro hh; rw [Nat.div_eq_of_lt hh] at *; omega, rfl⟩
      · obtain rfl : size = k := by omega
        (apply n_ret env_ok rfl; (repeat (first | (with_reducible exact ResV.nil) | (apply ResV.tmp; rfl) | (apply ResV.cell; rfl; (repeat (first | (with_reducible exact Take.here) | ((with_reducible apply Take.there)))); rfl) | exact ResV.nil)); refine ⟨[], ?_, ?_⟩; rotate_left; (intro _; refine @inv_keep _ _ _ _ ?_ ?_ _); rotate_left; (repeat (first | (with_reducible exact Parts.nil) | ((with_reducible apply Parts.cons); (repeat (first | (with_reducible exact Take.here) | ((with_reducible apply Take.there))))))); rotate_right)
        refine ⟨?_, rfl⟩
        have hlt : n < 256 ^ k := by
          rcases Nat.lt_or_ge n (256 ^ k) with hh | hh
          · exact hh
          · have := Nat.div_pos hh (by exact Nat.pow_pos (by decide)); omega
        have el : (List.replicate ((k : Int).toNat - k) 0 ++ putN n k) = putN n k := by simp
        rw [numPut, if_neg (by omega), if_pos (by rw [Int.toNat_natCast]; exact hlt), Int.toNat_natCast]
        rw [Int.toNat_natCast] at el
        rw [el, List.drop_zero, List.take_of_length_le (by rw [putN_length]; exact Nat.le_refl _)]
        rfl
    · simp
    · rfl
    · intro w i; simp only [Nat.sub_zero, putN, List.append_nil]; rw [← bsV_zeros]; exact i
end Go.Proofs.Ytcbcpgaehdoekaa

/- Texts Byt, Num, NdP, NdA, NdB, NdC, joined. -/
import Derived.KernelRfl
import Derived.Test.YtmfmommgooccnaaGreatK04
/- Plain facts on numbers as bytes. -/
set_option linter.unusedVariables false
set_option linter.unusedSimpArgs false
namespace Go.Proofs.YtmfmommgooccnaaGreat
open Go.Proofs.YtmfmommgooccnaaGreat.SL

theorem wrapI64 {n : Int} (h : -9223372036854775808 ≤ n ∧ n < 9223372036854775808) : IntKind.i64.wrap n = n := by rw [IntKind.wrap_i64]; omega
theorem wrapU64' (n : Int) : IntKind.u64.wrap n = n % 18446744073709551616 := by simp [IntKind.wrap, IntKind.bits, IntKind.signed]
theorem wrapU64 {n : Int} (h : 0 ≤ n ∧ n < 18446744073709551616) : IntKind.u64.wrap n = n := by rw [wrapU64']; omega
theorem wrapU32 {n : Int} (h : 0 ≤ n ∧ n < 4294967296) : IntKind.u32.wrap n = n := by rw [IntKind.wrap_u32]; omega
theorem wrapU8 {n : Int} (h : 0 ≤ n ∧ n < 256) : IntKind.u8.wrap n = n := by rw [IntKind.wrap_u8]; omega

theorem snoc_ind {α : Type} {p : List α → Prop} (h0 : p []) (h1 : ∀ l c, p l → p (l ++ [c])) (l : List α) : p l := by
  rw [← List.reverse_reverse l]
  induction l.reverse with
  | nil => exact h0
  | cons c l ih => rw [List.reverse_cons]; exact h1 _ _ ih

/-- The number that bytes are, the greatest first. -/
def getN (l : List UInt8) : Nat := l.foldl (fun a c => a * 256 + c.toNat) 0
theorem getN_snoc (l : List UInt8) (c : UInt8) : getN (l ++ [c]) = getN l * 256 + c.toNat := by simp [getN]
theorem getN_take {l : List UInt8} {k : Nat} (h : k < l.length) : getN (l.take (k + 1)) = getN (l.take k) * 256 + (l.getD k 0).toNat := by
  rw [List.take_succ_eq_append_getElem h, getN_snoc]; simp [List.getD, h]
theorem getN_lt : ∀ (l : List UInt8), getN l < 256 ^ l.length := by
  refine snoc_ind (by simp [getN]) ?_
  · intro l c ih
    rw [getN_snoc, List.length_append, List.length_singleton, Nat.pow_succ]
    have := c.toNat_lt
    omega

/-- A number as so many bytes, the greatest first. -/
def putN : Nat → Nat → List UInt8
  | _, 0 => []
  | n, s + 1 => putN (n / 256) s ++ [UInt8.ofNat n]
theorem putN_length : ∀ (s n : Nat), (putN n s).length = s
  | 0, _ => rfl
  | s + 1, n => by simp [putN, putN_length s]
theorem putN_cons : ∀ (s n : Nat), putN n (s + 1) = UInt8.ofNat (n / 256 ^ s) :: putN n s
  | 0, n => by simp [putN]
  | s + 1, n => by
    rw [putN, putN_cons s (n / 256), putN]
    rw [Nat.div_div_eq_div_mul, Nat.mul_comm, ← Nat.pow_succ]
    rfl
theorem getN_putN : ∀ (s n : Nat), n < 256 ^ s → getN (putN n s) = n
  | 0, n, h => by simp at h; subst h; rfl
  | s + 1, n, h => by
    rw [putN, getN_snoc, getN_putN s _ (by rw [Nat.pow_succ] at h; omega)]
    simp
    omega
theorem p8 : (2 : Int) ^ min (Int.toNat 8) IntKind.u64.bits = 256 := by decide
theorem p8' : (2 : Int) ^ min (Int.toNat 8) IntKind.u32.bits = 256 := by decide

/-! Bitwise -/
theorem ofInt_nat {n a : Nat} (h : a < 2 ^ n) : (BitVec.ofInt n (a : Int)).toNat = a := by
  rw [BitVec.toNat_ofInt, ← Int.natCast_emod, Int.toNat_natCast, Nat.mod_eq_of_lt h]
theorem bits_and {k : IntKind} {a b : Nat} (ha : a < 2 ^ k.bits) (hb : b < 2 ^ k.bits) : bits .and k a b = k.wrap ((a &&& b : Nat) : Int) := by
  show k.wrap ((BitVec.ofInt k.bits a &&& BitVec.ofInt k.bits b).toNat : Int) = _
  rw [BitVec.toNat_and, ofInt_nat ha, ofInt_nat hb]
theorem bits_or {k : IntKind} {a b : Nat} (ha : a < 2 ^ k.bits) (hb : b < 2 ^ k.bits) : bits .or k a b = k.wrap ((a ||| b : Nat) : Int) := by
  show k.wrap ((BitVec.ofInt k.bits a ||| BitVec.ofInt k.bits b).toNat : Int) = _
  rw [BitVec.toNat_or, ofInt_nat ha, ofInt_nat hb]
theorem bits_xor {k : IntKind} {a b : Nat} (ha : a < 2 ^ k.bits) (hb : b < 2 ^ k.bits) : bits .xor k a b = k.wrap ((a ^^^ b : Nat) : Int) := by
  show k.wrap ((BitVec.ofInt k.bits a ^^^ BitVec.ofInt k.bits b).toNat : Int) = _
  rw [BitVec.toNat_xor, ofInt_nat ha, ofInt_nat hb]
end Go.Proofs.YtmfmommgooccnaaGreat
/- Package num, as contracts over lists of bytes. -/
set_option linter.unusedVariables false
set_option linter.unusedSimpArgs false
namespace Go.Proofs.YtmfmommgooccnaaGreat
open Go.Proofs.YtmfmommgooccnaaGreat.SL

def numTake (b : List UInt8) (size : Int) : Nat × List UInt8 × Int :=
  if size < 1 ∨ size > 8 then (0, [], 1) else if (b.length : Int) < size then (0, [], 2) else (getN (b.take size.toNat), b.drop size.toNat, 0)
def takeV (r : Nat × List UInt8 × Int) : Value := .tuple #[.int .u64 r.1, .string (str r.2.1), .int .i64 r.2.2]

set_option maxHeartbeats 1000000 in
theorem Take_does (b : List UInt8) (size : Int) (hs : -9223372036854775808 ≤ size ∧ size < 9223372036854775808) (hb : b.length < 9223372036854775808) :
    Does Tryz.prog 136 [.string (str b), .int .i64 size] [] (fun v H => v = takeV (numTake b size) ∧ H = []) := by
  refine does_of Tryz.func136 Tryz.ntmps136 rfl rfl rfl (fun w0 F0 => ?_)
  (repeat' (first | (refine g_i ?_; (first | (refine g_seq (h := ?_)) | (refine g_region (h := ?_)) | (refine g_skip (h := ?_)) | (refine g_ret (h := ?_)) | (refine g_block (h := ?_)) | (refine g_exit (h := ?_)) | (refine g_cond_t (h := ?_)) | (refine g_cond_f (h := ?_)) | (refine g_scope (h := ?_)) | (refine g_label (h := ?_)) | (refine g_spT (h := ?_); intro h) | (refine g_spF (h := ?_); intro h) | (refine g_sp (h1 := ?_) (h0 := ?_) <;> intro h))) | (refine l_i ?_; (first | (refine l_nil (h := ?_)) | (refine l_pures1 (h := ?_)) | (refine l_guard_yes (h := ?_)) | (refine l_guard_no (h := ?_)) | (refine l_guard_no0 (h := ?_)) | (refine l_guard_un (h := ?_)) | (refine l_guard_un0 (h := ?_)) | (refine l_load (h := ?_)) | (refine l_store (h := ?_)) | (refine l_box (h := ?_); intro _) | (refine l_alloc (h := ?_); intro _) | (refine l_index (h := ?_)) | (refine l_slice_str (h := ?_)) | (refine l_concat (h := ?_)) | (refine l_makeSlice (h := ?_); intro _) | (refine l_load_at (h := ?_)) | (refine l_store_at (h := ?_)) | (refine l_load_p (h := ?_)) | (refine l_indexAddr (h := ?_)) | (refine l_rem (h := ?_)) | (refine l_quo (h := ?_)) | (refine l_shr (h := ?_)) | (refine l_shl (h := ?_)) | (refine l_slice (h := ?_)) | (refine l_copy_in (h := ?_)) | (refine l_copy_row (h := ?_)) | (refine l_str_bs (h := ?_)) | (refine l_bytes_of (h := ?_); intro _ _ _) | (refine l_copy_str (h := ?_)) | (refine l_lookup _ (h := ?_)) | (refine l_lookup_ok _ (h := ?_)) | (refine l_mapUpdate (h := ?_)) | (refine l_delete0 (h := ?_)) | (refine l_len_map (h := ?_)) | (refine l_buildSlice1 (h := ?_); intro _) | (refine l_append_new (h := ?_); intro _ _) | (refine l_append (h := ?_); intro _ _) | (refine l_pure_none (h := ?_)) | (refine l_load_vec (h := ?_)) | (refine l_store_vec (h := ?_)) | (refine l_append_str (h := ?_); intro _ _) | (refine l_append_zeros (h := ?_); intro _ _ _) | (refine l_to_unsafe (h := ?_)) | (refine l_from_unsafe (h := ?_)) | (refine l_neq_same (h := ?_)) | (refine l_slice_any (h := ?_)) | (refine l_buildSlice2 (h := ?_); intro _) | (refine l_buildSlice3 (h := ?_); intro _) | (refine l_buildSlice4 (h := ?_); intro _) | (refine l_slice3n (h := ?_)) | (refine l_sliceData (h := ?_)) | (refine l_outer_same outer_same (h := ?_)) | (refine l_unsafeString (h := ?_)) | (refine l_assert (h := ?_)) | (refine l_eqStruct (h := ?_)) | (refine l_neStruct (h := ?_)) | (refine l_indexArr (h := ?_)) | (refine l_lookup_k _ (h := ?_)) | (refine l_lookup_ok_k _ (h := ?_)) | (refine l_mapUpdate_k (h := ?_)) | (refine l_delete0_k (h := ?_)) | (refine l_len_map_k (h := ?_)) | (refine l_spT (h := ?_); intro h) | (refine l_spF (h := ?_); intro h) | (refine l_sp (h1 := ?_) (h0 := ?_) <;> intro h))) | (refine n_i ?_; (first | (refine n_then (h := ?_)) | (refine n_then_ret (h := ?_)) | (refine n_block_ret (h := ?_)) | (refine n_then_exit (h := ?_)) | (refine n_block_hit (h := ?_)) | (refine n_any (h := a_pass2 (h := ?_))) | (refine n_block_miss (h := ?_)) | (refine n_block (h := ?_)) | (refine n_scope (h := ?_)) | (refine n_scope_ret (h := ?_)) | (refine n_scope_exit (h := ?_)) | (refine n_lw (h := ?_)) | (refine nr_then (h := ?_)))) | (refine a_i ?_; (first | (refine a_done (h := ?_)) | (refine a_load (h := a_pass2 (h := ?_))) | (refine a_one (h := ?_)) | (refine a_load_at (h := a_pass2 (h := ?_))) | (refine a_load_p (h := a_pass2 (h := ?_))) | (refine a_loadg_p (h := a_pass2 (h := ?_))) | (refine a_loadg (h := a_pass2 (h := ?_))) | (refine a_v (h := ?_)) | (refine a_vg (h := ?_)) | (refine a_no (h := ?_)) | (refine a_un (h := ?_)) | (refine a_load_vec (h := a_pass2 (h := ?_))) | (refine a_loadg_vec (h := a_pass2 (h := ?_))) | (refine a_w (h := ?_)) | (refine a_lookupg_k _ (h := a_pass2 (h := ?_))) | (refine a_spT (h := ?_); intro h) | (refine a_spF (h := ?_); intro h) | (refine a_sp (h1 := ?_) (h0 := ?_) <;> intro h) | (refine a_fork2 (h1 := ?_) (h2 := ?_)) | (refine a_fork3 (h1 := ?_) (h2 := ?_) (h3 := ?_)))) | (refine lw_i ?_; (first | (refine lw_nil (h := ?_)) | (refine lw_step (h := ?_)) | (refine lw_guard_yes (h := ?_)))) | (refine gr_i ?_; (first | (refine gr_seq (h := ?_)) | (refine gr_region (h := ?_)) | (refine gr_block (h := ?_)) | (refine gr_skip (h := ?_)) | (refine gr_exit (h := ?_)) | (refine gr_ret (h := ?_)) | (refine gr_label (h := ?_)) | (refine gr_cond_t (h := ?_)) | (refine gr_cond_f (h := ?_)) | (refine gr_spT (h := ?_); intro h) | (refine gr_spF (h := ?_); intro h) | (refine gr_sp (h1 := ?_) (h0 := ?_) <;> intro h))) | (refine a1_i ?_; (first | (refine a1_of (h := ?_))))))
  · refine r_ret ?_
    exact ⟨by rw [numTake, if_pos (by omega)]; rfl, rfl⟩
  · refine r_ret ?_
    exact ⟨by rw [numTake, if_pos (by omega)]; rfl, rfl⟩
  · refine r_ret ?_
    exact ⟨by rw [numTake, if_neg (by omega), if_pos (by omega)]; rfl, rfl⟩
  · (refine g_loop (fun k : Nat => [(4, .int .u64 (getN (b.take k))), (21, .int .i64 k), (20, .int .i64 size), (0, .string (str b)), (1, .int .i64 size)]) (fun _ => []) (fun k => (k : Int) ≤ size) (fun k => size.toNat - k) (0) ?_ ?_ ?_ ?_; rotate_left; (repeat (first | refine ts_nil | (refine ts_cons rfl ?_ ?_; first | (with_reducible rfl) | rotate_left))); (first | (intro _ i; with_reducible refine i) | rotate_left); rotate_left; (try omega); rotate_right)
    · intro k hk
      (repeat' (first | (refine g_i ?_; (first | (refine g_seq (h := ?_)) | (refine g_region (h := ?_)) | (refine g_skip (h := ?_)) | (refine g_ret (h := ?_)) | (refine g_block (h := ?_)) | (refine g_exit (h := ?_)) | (refine g_cond_t (h := ?_)) | (refine g_cond_f (h := ?_)) | (refine g_scope (h := ?_)) | (refine g_label (h := ?_)) | (refine g_spT (h := ?_); intro h) | (refine g_spF (h := ?_); intro h) | (refine g_sp (h1 := ?_) (h0 := ?_) <;> intro h))) | (refine l_i ?_; (first | (refine l_nil (h := ?_)) | (refine l_pures1 (h := ?_)) | (refine l_guard_yes (h := ?_)) | (refine l_guard_no (h := ?_)) | (refine l_guard_no0 (h := ?_)) | (refine l_guard_un (h := ?_)) | (refine l_guard_un0 (h := ?_)) | (refine l_load (h := ?_)) | (refine l_store (h := ?_)) | (refine l_box (h := ?_); intro _) | (refine l_alloc (h := ?_); intro _) | (refine l_index (h := ?_)) | (refine l_slice_str (h := ?_)) | (refine l_concat (h := ?_)) | (refine l_makeSlice (h := ?_); intro _) | (refine l_load_at (h := ?_)) | (refine l_store_at (h := ?_)) | (refine l_load_p (h := ?_)) | (refine l_indexAddr (h := ?_)) | (refine l_rem (h := ?_)) | (refine l_quo (h := ?_)) | (refine l_shr (h := ?_)) | (refine l_shl (h := ?_)) | (refine l_slice (h := ?_)) | (refine l_copy_in (h := ?_)) | (refine l_copy_row (h := ?_)) | (refine l_str_bs (h := ?_)) | (refine l_bytes_of (h := ?_); intro _ _ _) | (refine l_copy_str (h := ?_)) | (refine l_lookup _ (h := ?_)) | (refine l_lookup_ok _ (h := ?_)) | (refine l_mapUpdate (h := ?_)) | (refine l_delete0 (h := ?_)) | (refine l_len_map (h := ?_)) | (refine l_buildSlice1 (h := ?_); intro _) | (refine l_append_new (h := ?_); intro _ _) | (refine l_append (h := ?_); intro _ _) | (refine l_pure_none (h := ?_)) | (refine l_load_vec (h := ?_)) | (refine l_store_vec (h := ?_)) | (refine l_append_str (h := ?_); intro _ _) | (refine l_append_zeros (h := ?_); intro _ _ _) | (refine l_to_unsafe (h := ?_)) | (refine l_from_unsafe (h := ?_)) | (refine l_neq_same (h := ?_)) | (refine l_slice_any (h := ?_)) | (refine l_buildSlice2 (h := ?_); intro _) | (refine l_buildSlice3 (h := ?_); intro _) | (refine l_buildSlice4 (h := ?_); intro _) | (refine l_slice3n (h := ?_)) | (refine l_sliceData (h := ?_)) | (refine l_outer_same outer_same (h := ?_)) | (refine l_unsafeString (h := ?_)) | (refine l_assert (h := ?_)) | (refine l_eqStruct (h := ?_)) | (refine l_neStruct (h := ?_)) | (refine l_indexArr (h := ?_)) | (refine l_lookup_k _ (h := ?_)) | (refine l_lookup_ok_k _ (h := ?_)) | (refine l_mapUpdate_k (h := ?_)) | (refine l_delete0_k (h := ?_)) | (refine l_len_map_k (h := ?_)) | (refine l_spT (h := ?_); intro h) | (refine l_spF (h := ?_); intro h) | (refine l_sp (h1 := ?_) (h0 := ?_) <;> intro h))) | (refine n_i ?_; (first | (refine n_then (h := ?_)) | (refine n_then_ret (h := ?_)) | (refine n_block_ret (h := ?_)) | (refine n_then_exit (h := ?_)) | (refine n_block_hit (h := ?_)) | (refine n_any (h := a_pass2 (h := ?_))) | (refine n_block_miss (h := ?_)) | (refine n_block (h := ?_)) | (refine n_scope (h := ?_)) | (refine n_scope_ret (h := ?_)) | (refine n_scope_exit (h := ?_)) | (refine n_lw (h := ?_)) | (refine nr_then (h := ?_)))) | (refine a_i ?_; (first | (refine a_done (h := ?_)) | (refine a_load (h := a_pass2 (h := ?_))) | (refine a_one (h := ?_)) | (refine a_load_at (h := a_pass2 (h := ?_))) | (refine a_load_p (h := a_pass2 (h := ?_))) | (refine a_loadg_p (h := a_pass2 (h := ?_))) | (refine a_loadg (h := a_pass2 (h := ?_))) | (refine a_v (h := ?_)) | (refine a_vg (h := ?_)) | (refine a_no (h := ?_)) | (refine a_un (h := ?_)) | (refine a_load_vec (h := a_pass2 (h := ?_))) | (refine a_loadg_vec (h := a_pass2 (h := ?_))) | (refine a_w (h := ?_)) | (refine a_lookupg_k _ (h := a_pass2 (h := ?_))) | (refine a_spT (h := ?_); intro h) | (refine a_spF (h := ?_); intro h) | (refine a_sp (h1 := ?_) (h0 := ?_) <;> intro h) | (refine a_fork2 (h1 := ?_) (h2 := ?_)) | (refine a_fork3 (h1 := ?_) (h2 := ?_) (h3 := ?_)))) | (refine lw_i ?_; (first | (refine lw_nil (h := ?_)) | (refine lw_step (h := ?_)) | (refine lw_guard_yes (h := ?_)))) | (refine gr_i ?_; (first | (refine gr_seq (h := ?_)) | (refine gr_region (h := ?_)) | (refine gr_block (h := ?_)) | (refine gr_skip (h := ?_)) | (refine gr_exit (h := ?_)) | (refine gr_ret (h := ?_)) | (refine gr_label (h := ?_)) | (refine gr_cond_t (h := ?_)) | (refine gr_cond_f (h := ?_)) | (refine gr_spT (h := ?_); intro h) | (refine gr_spF (h := ?_); intro h) | (refine gr_sp (h1 := ?_) (h0 := ?_) <;> intro h))) | (refine a1_i ?_; (first | (refine a1_of (h := ?_))))))
      · have hN := getN_lt (b.take k)
        have hp : 256 ^ (b.take k).length ≤ 256 ^ 7 := Nat.pow_le_pow_right (by decide) (by simp; omega)
        have hlt : getN (b.take k) < 256 ^ 7 := Nat.lt_of_lt_of_le hN hp
        have hby := byteAt_bd b k
        (refine n_back (k + 1) ?_ ?_ ?_ ?_; rotate_left; rotate_left; (repeat (first | refine ts_nil | (refine ts_cons rfl ?_ ?_; first | (with_reducible rfl) | rotate_left))); (first | (intro _ i; with_reducible refine i) | rotate_left); (try omega); (try omega))
        · rw [p8, wrapU64 (n := byteAt b k) (by omega), wrapU64 (n := (getN (b.take k) : Int) * 256) (by omega), wrapU64 (by omega), getN_take (by omega)]
          simp [byteAt]
        · rw [wrapI64 (by omega)]; rfl
      · (refine g_draw [] (h := a_pass2 (h := ?_)))
        (repeat (first | (refine g_i ?_; (first | (refine g_seq (h := ?_)) | (refine g_region (h := ?_)) | (refine g_skip (h := ?_)) | (refine g_ret (h := ?_)) | (refine g_block (h := ?_)) | (refine g_exit (h := ?_)) | (refine g_cond_t (h := ?_)) | (refine g_cond_f (h := ?_)) | (refine g_scope (h := ?_)) | (refine g_label (h := ?_)))) | (refine l_i ?_; (first | (refine l_nil (h := ?_)) | (refine l_pures1 (h := ?_)) | (refine l_guard_yes (h := ?_)) | (refine l_guard_no (h := ?_)) | (refine l_guard_no0 (h := ?_)) | (refine l_guard_un (h := ?_)) | (refine l_guard_un0 (h := ?_)) | (refine l_load (h := ?_)) | (refine l_store (h := ?_)) | (refine l_box (h := ?_); intro _) | (refine l_alloc (h := ?_); intro _) | (refine l_index (h := ?_)) | (refine l_slice_str (h := ?_)) | (refine l_concat (h := ?_)) | (refine l_makeSlice (h := ?_); intro _) | (refine l_load_at (h := ?_)) | (refine l_store_at (h := ?_)) | (refine l_load_p (h := ?_)) | (refine l_indexAddr (h := ?_)) | (refine l_rem (h := ?_)) | (refine l_quo (h := ?_)) | (refine l_shr (h := ?_)) | (refine l_shl (h := ?_)) | (refine l_slice (h := ?_)) | (refine l_copy_in (h := ?_)) | (refine l_copy_row (h := ?_)) | (refine l_str_bs (h := ?_)) | (refine l_bytes_of (h := ?_); intro _ _ _) | (refine l_copy_str (h := ?_)) | (refine l_lookup _ (h := ?_)) | (refine l_lookup_ok _ (h := ?_)) | (refine l_mapUpdate (h := ?_)) | (refine l_delete0 (h := ?_)) | (refine l_len_map (h := ?_)) | (refine l_buildSlice1 (h := ?_); intro _) | (refine l_append_new (h := ?_); intro _ _) | (refine l_append (h := ?_); intro _ _) | (refine l_pure_none (h := ?_)) | (refine l_load_vec (h := ?_)) | (refine l_store_vec (h := ?_)) | (refine l_append_str (h := ?_); intro _ _) | (refine l_append_zeros (h := ?_); intro _ _ _) | (refine l_to_unsafe (h := ?_)) | (refine l_from_unsafe (h := ?_)) | (refine l_neq_same (h := ?_)) | (refine l_slice_any (h := ?_)) | (refine l_buildSlice2 (h := ?_); intro _) | (refine l_buildSlice3 (h := ?_); intro _) | (refine l_buildSlice4 (h := ?_); intro _) | (refine l_slice3n (h := ?_)) | (refine l_sliceData (h := ?_)) | (refine l_outer_same outer_same (h := ?_)) | (refine l_unsafeString (h := ?_)) | (refine l_assert (h := ?_)) | (refine l_eqStruct (h := ?_)) | (refine l_neStruct (h := ?_)) | (refine l_indexArr (h := ?_)) | (refine l_lookup_k _ (h := ?_)) | (refine l_lookup_ok_k _ (h := ?_)) | (refine l_mapUpdate_k (h := ?_)) | (refine l_delete0_k (h := ?_)) | (refine l_len_map_k (h := ?_)))) | (refine n_i ?_; (first | (refine n_then (h := ?_)) | (refine n_then_ret (h := ?_)) | (refine n_block_ret (h := ?_)) | (refine n_then_exit (h := ?_)) | (refine n_block_hit (h := ?_)) | (refine n_any (h := a_pass2 (h := ?_))) | (refine n_block_miss (h := ?_)) | (refine n_block (h := ?_)) | (refine n_scope (h := ?_)) | (refine n_scope_ret (h := ?_)) | (refine n_scope_exit (h := ?_)) | (refine n_lw (h := ?_)) | (refine nr_then (h := ?_)))) | (refine a_i ?_; (first | (refine a_done (h := ?_)) | (refine a_load (h := a_pass2 (h := ?_))) | (refine a_one (h := ?_)) | (refine a_load_at (h := a_pass2 (h := ?_))) | (refine a_load_p (h := a_pass2 (h := ?_))) | (refine a_loadg_p (h := a_pass2 (h := ?_))) | (refine a_loadg (h := a_pass2 (h := ?_))) | (refine a_v (h := ?_)) | (refine a_vg (h := ?_)) | (refine a_no (h := ?_)) | (refine a_un (h := ?_)) | (refine a_load_vec (h := a_pass2 (h := ?_))) | (refine a_loadg_vec (h := a_pass2 (h := ?_))) | (refine a_w (h := ?_)) | (refine a_lookupg_k _ (h := a_pass2 (h := ?_))) | (refine a_fork2 (h1 := ?_) (h2 := ?_)) | (refine a_fork3 (h1 := ?_) (h2 := ?_) (h3 := ?_)))) | (refine lw_i ?_; (first | (refine lw_nil (h := ?_)) | (refine lw_step (h := ?_)) | (refine lw_guard_yes (h := ?_)))) | (refine gr_i ?_; (first | (refine gr_seq (h := ?_)) | (refine gr_region (h := ?_)) | (refine gr_block (h := ?_)) | (refine gr_skip (h := ?_)) | (refine gr_exit (h := ?_)) | (refine gr_ret (h := ?_)) | (refine gr_label (h := ?_)) | (refine gr_cond_t (h := ?_)) | (refine gr_cond_f (h := ?_)))) | (refine a1_i ?_; (first | (refine a1_of (h := ?_))))))
        refine r_ret ?_
        obtain rfl : size = k := by omega
        refine ⟨?_, rfl⟩
        rw [numTake, if_neg (by omega), if_neg (by omega)]
        have e : cutB b k b.length = b.drop k := by unfold cutB; rw [List.take_of_length_le (by simp)]
        simp only [Int.toNat_natCast, e]
        rfl
    · rfl
    · rfl

/-- A number as bytes; none where it has no room, or there are not one to eight. -/
def numPut (n : Nat) (size : Int) : List UInt8 × Int :=
  if size < 1 ∨ size > 8 then ([], 1) else if n < 256 ^ size.toNat then (putN n size.toNat, 0) else ([], 1)
def putV (r : List UInt8 × Int) : Value := .tuple #[.string (str r.1), .int .i64 r.2]

set_option maxHeartbeats 1000000 in
theorem Put_does (n : Nat) (size : Int) (hn : n < 18446744073709551616) (hs : -9223372036854775808 ≤ size ∧ size < 9223372036854775808) :
    Does Tryz.prog 131 [.int .u64 n, .int .i64 size] [] (fun v H => v = putV (numPut n size) ∧ H = []) := by
  refine does_of Tryz.func131 Tryz.ntmps131 rfl rfl rfl (fun w0 F0 => ?_)
  (repeat' (first | (refine g_i ?_; (first | (refine g_seq (h := ?_)) | (refine g_region (h := ?_)) | (refine g_skip (h := ?_)) | (refine g_ret (h := ?_)) | (refine g_block (h := ?_)) | (refine g_exit (h := ?_)) | (refine g_cond_t (h := ?_)) | (refine g_cond_f (h := ?_)) | (refine g_scope (h := ?_)) | (refine g_label (h := ?_)) | (refine g_spT (h := ?_); intro h) | (refine g_spF (h := ?_); intro h) | (refine g_sp (h1 := ?_) (h0 := ?_) <;> intro h))) | (refine l_i ?_; (first | (refine l_nil (h := ?_)) | (refine l_pures1 (h := ?_)) | (refine l_guard_yes (h := ?_)) | (refine l_guard_no (h := ?_)) | (refine l_guard_no0 (h := ?_)) | (refine l_guard_un (h := ?_)) | (refine l_guard_un0 (h := ?_)) | (refine l_load (h := ?_)) | (refine l_store (h := ?_)) | (refine l_box (h := ?_); intro _) | (refine l_alloc (h := ?_); intro _) | (refine l_index (h := ?_)) | (refine l_slice_str (h := ?_)) | (refine l_concat (h := ?_)) | (refine l_makeSlice (h := ?_); intro _) | (refine l_load_at (h := ?_)) | (refine l_store_at (h := ?_)) | (refine l_load_p (h := ?_)) | (refine l_indexAddr (h := ?_)) | (refine l_rem (h := ?_)) | (refine l_quo (h := ?_)) | (refine l_shr (h := ?_)) | (refine l_shl (h := ?_)) | (refine l_slice (h := ?_)) | (refine l_copy_in (h := ?_)) | (refine l_copy_row (h := ?_)) | (refine l_str_bs (h := ?_)) | (refine l_bytes_of (h := ?_); intro _ _ _) | (refine l_copy_str (h := ?_)) | (refine l_lookup _ (h := ?_)) | (refine l_lookup_ok _ (h := ?_)) | (refine l_mapUpdate (h := ?_)) | (refine l_delete0 (h := ?_)) | (refine l_len_map (h := ?_)) | (refine l_buildSlice1 (h := ?_); intro _) | (refine l_append_new (h := ?_); intro _ _) | (refine l_append (h := ?_); intro _ _) | (refine l_pure_none (h := ?_)) | (refine l_load_vec (h := ?_)) | (refine l_store_vec (h := ?_)) | (refine l_append_str (h := ?_); intro _ _) | (refine l_append_zeros (h := ?_); intro _ _ _) | (refine l_to_unsafe (h := ?_)) | (refine l_from_unsafe (h := ?_)) | (refine l_neq_same (h := ?_)) | (refine l_slice_any (h := ?_)) | (refine l_buildSlice2 (h := ?_); intro _) | (refine l_buildSlice3 (h := ?_); intro _) | (refine l_buildSlice4 (h := ?_); intro _) | (refine l_slice3n (h := ?_)) | (refine l_sliceData (h := ?_)) | (refine l_outer_same outer_same (h := ?_)) | (refine l_unsafeString (h := ?_)) | (refine l_assert (h := ?_)) | (refine l_eqStruct (h := ?_)) | (refine l_neStruct (h := ?_)) | (refine l_indexArr (h := ?_)) | (refine l_lookup_k _ (h := ?_)) | (refine l_lookup_ok_k _ (h := ?_)) | (refine l_mapUpdate_k (h := ?_)) | (refine l_delete0_k (h := ?_)) | (refine l_len_map_k (h := ?_)) | (refine l_spT (h := ?_); intro h) | (refine l_spF (h := ?_); intro h) | (refine l_sp (h1 := ?_) (h0 := ?_) <;> intro h))) | (refine n_i ?_; (first | (refine n_then (h := ?_)) | (refine n_then_ret (h := ?_)) | (refine n_block_ret (h := ?_)) | (refine n_then_exit (h := ?_)) | (refine n_block_hit (h := ?_)) | (refine n_any (h := a_pass2 (h := ?_))) | (refine n_block_miss (h := ?_)) | (refine n_block (h := ?_)) | (refine n_scope (h := ?_)) | (refine n_scope_ret (h := ?_)) | (refine n_scope_exit (h := ?_)) | (refine n_lw (h := ?_)) | (refine nr_then (h := ?_)))) | (refine a_i ?_; (first | (refine a_done (h := ?_)) | (refine a_load (h := a_pass2 (h := ?_))) | (refine a_one (h := ?_)) | (refine a_load_at (h := a_pass2 (h := ?_))) | (refine a_load_p (h := a_pass2 (h := ?_))) | (refine a_loadg_p (h := a_pass2 (h := ?_))) | (refine a_loadg (h := a_pass2 (h := ?_))) | (refine a_v (h := ?_)) | (refine a_vg (h := ?_)) | (refine a_no (h := ?_)) | (refine a_un (h := ?_)) | (refine a_load_vec (h := a_pass2 (h := ?_))) | (refine a_loadg_vec (h := a_pass2 (h := ?_))) | (refine a_w (h := ?_)) | (refine a_lookupg_k _ (h := a_pass2 (h := ?_))) | (refine a_spT (h := ?_); intro h) | (refine a_spF (h := ?_); intro h) | (refine a_sp (h1 := ?_) (h0 := ?_) <;> intro h) | (refine a_fork2 (h1 := ?_) (h2 := ?_)) | (refine a_fork3 (h1 := ?_) (h2 := ?_) (h3 := ?_)))) | (refine lw_i ?_; (first | (refine lw_nil (h := ?_)) | (refine lw_step (h := ?_)) | (refine lw_guard_yes (h := ?_)))) | (refine gr_i ?_; (first | (refine gr_seq (h := ?_)) | (refine gr_region (h := ?_)) | (refine gr_block (h := ?_)) | (refine gr_skip (h := ?_)) | (refine gr_exit (h := ?_)) | (refine gr_ret (h := ?_)) | (refine gr_label (h := ?_)) | (refine gr_cond_t (h := ?_)) | (refine gr_cond_f (h := ?_)) | (refine gr_spT (h := ?_); intro h) | (refine gr_spF (h := ?_); intro h) | (refine gr_sp (h1 := ?_) (h0 := ?_) <;> intro h))) | (refine a1_i ?_; (first | (refine a1_of (h := ?_))))))
  · refine r_ret ?_
    exact ⟨by rw [numPut, if_pos (by omega)]; rfl, rfl⟩
  · refine r_ret ?_
    exact ⟨by rw [numPut, if_pos (by omega)]; rfl, rfl⟩
  · (repeat (first | (refine g_i ?_; (first | (refine g_seq (h := ?_)) | (refine g_region (h := ?_)) | (refine g_skip (h := ?_)) | (refine g_ret (h := ?_)) | (refine g_block (h := ?_)) | (refine g_exit (h := ?_)) | (refine g_cond_t (h := ?_)) | (refine g_cond_f (h := ?_)) | (refine g_scope (h := ?_)) | (refine g_label (h := ?_)))) | (refine l_i ?_; (first | (refine l_nil (h := ?_)) | (refine l_pures1 (h := ?_)) | (refine l_guard_yes (h := ?_)) | (refine l_guard_no (h := ?_)) | (refine l_guard_no0 (h := ?_)) | (refine l_guard_un (h := ?_)) | (refine l_guard_un0 (h := ?_)) | (refine l_load (h := ?_)) | (refine l_store (h := ?_)) | (refine l_box (h := ?_); intro _) | (refine l_alloc (h := ?_); intro _) | (refine l_index (h := ?_)) | (refine l_slice_str (h := ?_)) | (refine l_concat (h := ?_)) | (refine l_makeSlice (h := ?_); intro _) | (refine l_load_at (h := ?_)) | (refine l_store_at (h := ?_)) | (refine l_load_p (h := ?_)) | (refine l_indexAddr (h := ?_)) | (refine l_rem (h := ?_)) | (refine l_quo (h := ?_)) | (refine l_shr (h := ?_)) | (refine l_shl (h := ?_)) | (refine l_slice (h := ?_)) | (refine l_copy_in (h := ?_)) | (refine l_copy_row (h := ?_)) | (refine l_str_bs (h := ?_)) | (refine l_bytes_of (h := ?_); intro _ _ _) | (refine l_copy_str (h := ?_)) | (refine l_lookup _ (h := ?_)) | (refine l_lookup_ok _ (h := ?_)) | (refine l_mapUpdate (h := ?_)) | (refine l_delete0 (h := ?_)) | (refine l_len_map (h := ?_)) | (refine l_buildSlice1 (h := ?_); intro _) | (refine l_append_new (h := ?_); intro _ _) | (refine l_append (h := ?_); intro _ _) | (refine l_pure_none (h := ?_)) | (refine l_load_vec (h := ?_)) | (refine l_store_vec (h := ?_)) | (refine l_append_str (h := ?_); intro _ _) | (refine l_append_zeros (h := ?_); intro _ _ _) | (refine l_to_unsafe (h := ?_)) | (refine l_from_unsafe (h := ?_)) | (refine l_neq_same (h := ?_)) | (refine l_slice_any (h := ?_)) | (refine l_buildSlice2 (h := ?_); intro _) | (refine l_buildSlice3 (h := ?_); intro _) | (refine l_buildSlice4 (h := ?_); intro _) | (refine l_slice3n (h := ?_)) | (refine l_sliceData (h := ?_)) | (refine l_outer_same outer_same (h := ?_)) | (refine l_unsafeString (h := ?_)) | (refine l_assert (h := ?_)) | (refine l_eqStruct (h := ?_)) | (refine l_neStruct (h := ?_)) | (refine l_indexArr (h := ?_)) | (refine l_lookup_k _ (h := ?_)) | (refine l_lookup_ok_k _ (h := ?_)) | (refine l_mapUpdate_k (h := ?_)) | (refine l_delete0_k (h := ?_)) | (refine l_len_map_k (h := ?_)))) | (refine n_i ?_; (first | (refine n_then (h := ?_)) | (refine n_then_ret (h := ?_)) | (refine n_block_ret (h := ?_)) | (refine n_then_exit (h := ?_)) | (refine n_block_hit (h := ?_)) | (refine n_any (h := a_pass2 (h := ?_))) | (refine n_block_miss (h := ?_)) | (refine n_block (h := ?_)) | (refine n_scope (h := ?_)) | (refine n_scope_ret (h := ?_)) | (refine n_scope_exit (h := ?_)) | (refine n_lw (h := ?_)) | (refine nr_then (h := ?_)))) | (refine a_i ?_; (first | (refine a_done (h := ?_)) | (refine a_load (h := a_pass2 (h := ?_))) | (refine a_one (h := ?_)) | (refine a_load_at (h := a_pass2 (h := ?_))) | (refine a_load_p (h := a_pass2 (h := ?_))) | (refine a_loadg_p (h := a_pass2 (h := ?_))) | (refine a_loadg (h := a_pass2 (h := ?_))) | (refine a_v (h := ?_)) | (refine a_vg (h := ?_)) | (refine a_no (h := ?_)) | (refine a_un (h := ?_)) | (refine a_load_vec (h := a_pass2 (h := ?_))) | (refine a_loadg_vec (h := a_pass2 (h := ?_))) | (refine a_w (h := ?_)) | (refine a_lookupg_k _ (h := a_pass2 (h := ?_))) | (refine a_fork2 (h1 := ?_) (h2 := ?_)) | (refine a_fork3 (h1 := ?_) (h2 := ?_) (h3 := ?_)))) | (refine lw_i ?_; (first | (refine lw_nil (h := ?_)) | (refine lw_step (h := ?_)) | (refine lw_guard_yes (h := ?_)))) | (refine gr_i ?_; (first | (refine gr_seq (h := ?_)) | (refine gr_region (h := ?_)) | (refine gr_block (h := ?_)) | (refine gr_skip (h := ?_)) | (refine gr_exit (h := ?_)) | (refine gr_ret (h := ?_)) | (refine gr_label (h := ?_)) | (refine gr_cond_t (h := ?_)) | (refine gr_cond_f (h := ?_)))) | (refine a1_i ?_; (first | (refine a1_of (h := ?_))))))
    rename_i b
    (refine g_loop (fun k : Nat => [(0, .int .u64 ((n / 256 ^ k : Nat) : Int)), (17, .int .i64 k), (16, .int .i64 size), (6, .slice (some ⟨b, 0, none⟩) size.toNat size.toNat), (1, .int .i64 size)]) (fun k => [cl b 5 (bsV (List.replicate (size.toNat - k) 0 ++ putN n k))]) (fun k => (k : Int) ≤ size) (fun k => size.toNat - k) (0) ?_ ?_ ?_ ?_; rotate_left; (repeat (first | refine ts_nil | (refine ts_cons rfl ?_ ?_; first | (with_reducible rfl) | rotate_left))); (first | (intro _ i; with_reducible refine i) | rotate_left); rotate_left; (try omega); rotate_right)
    · intro k hk
      have e1 : IntKind.i64.wrap (size - 1) = size - 1 := wrapI64 (by omega)
      have e2 : IntKind.i64.wrap (IntKind.i64.wrap (size - 1) - (k : Int)) = size - 1 - k := by rw [e1]; exact wrapI64 (by omega)
      (repeat' (first | (refine g_i ?_; (first | (refine g_seq (h := ?_)) | (refine g_region (h := ?_)) | (refine g_skip (h := ?_)) | (refine g_ret (h := ?_)) | (refine g_block (h := ?_)) | (refine g_exit (h := ?_)) | (refine g_cond_t (h := ?_)) | (refine g_cond_f (h := ?_)) | (refine g_scope (h := ?_)) | (refine g_label (h := ?_)) | (refine g_spT (h := ?_); intro h) | (refine g_spF (h := ?_); intro h) | (refine g_sp (h1 := ?_) (h0 := ?_) <;> intro h))) | (refine l_i ?_; (first | (refine l_nil (h := ?_)) | (refine l_pures1 (h := ?_)) | (refine l_guard_yes (h := ?_)) | (refine l_guard_no (h := ?_)) | (refine l_guard_no0 (h := ?_)) | (refine l_guard_un (h := ?_)) | (refine l_guard_un0 (h := ?_)) | (refine l_load (h := ?_)) | (refine l_store (h := ?_)) | (refine l_box (h := ?_); intro _) | (refine l_alloc (h := ?_); intro _) | (refine l_index (h := ?_)) | (refine l_slice_str (h := ?_)) | (refine l_concat (h := ?_)) | (refine l_makeSlice (h := ?_); intro _) | (refine l_load_at (h := ?_)) | (refine l_store_at (h := ?_)) | (refine l_load_p (h := ?_)) | (refine l_indexAddr (h := ?_)) | (refine l_rem (h := ?_)) | (refine l_quo (h := ?_)) | (refine l_shr (h := ?_)) | (refine l_shl (h := ?_)) | (refine l_slice (h := ?_)) | (refine l_copy_in (h := ?_)) | (refine l_copy_row (h := ?_)) | (refine l_str_bs (h := ?_)) | (refine l_bytes_of (h := ?_); intro _ _ _) | (refine l_copy_str (h := ?_)) | (refine l_lookup _ (h := ?_)) | (refine l_lookup_ok _ (h := ?_)) | (refine l_mapUpdate (h := ?_)) | (refine l_delete0 (h := ?_)) | (refine l_len_map (h := ?_)) | (refine l_buildSlice1 (h := ?_); intro _) | (refine l_append_new (h := ?_); intro _ _) | (refine l_append (h := ?_); intro _ _) | (refine l_pure_none (h := ?_)) | (refine l_load_vec (h := ?_)) | (refine l_store_vec (h := ?_)) | (refine l_append_str (h := ?_); intro _ _) | (refine l_append_zeros (h := ?_); intro _ _ _) | (refine l_to_unsafe (h := ?_)) | (refine l_from_unsafe (h := ?_)) | (refine l_neq_same (h := ?_)) | (refine l_slice_any (h := ?_)) | (refine l_buildSlice2 (h := ?_); intro _) | (refine l_buildSlice3 (h := ?_); intro _) | (refine l_buildSlice4 (h := ?_); intro _) | (refine l_slice3n (h := ?_)) | (refine l_sliceData (h := ?_)) | (refine l_outer_same outer_same (h := ?_)) | (refine l_unsafeString (h := ?_)) | (refine l_assert (h := ?_)) | (refine l_eqStruct (h := ?_)) | (refine l_neStruct (h := ?_)) | (refine l_indexArr (h := ?_)) | (refine l_lookup_k _ (h := ?_)) | (refine l_lookup_ok_k _ (h := ?_)) | (refine l_mapUpdate_k (h := ?_)) | (refine l_delete0_k (h := ?_)) | (refine l_len_map_k (h := ?_)) | (refine l_spT (h := ?_); intro h) | (refine l_spF (h := ?_); intro h) | (refine l_sp (h1 := ?_) (h0 := ?_) <;> intro h))) | (refine n_i ?_; (first | (refine n_then (h := ?_)) | (refine n_then_ret (h := ?_)) | (refine n_block_ret (h := ?_)) | (refine n_then_exit (h := ?_)) | (refine n_block_hit (h := ?_)) | (refine n_any (h := a_pass2 (h := ?_))) | (refine n_block_miss (h := ?_)) | (refine n_block (h := ?_)) | (refine n_scope (h := ?_)) | (refine n_scope_ret (h := ?_)) | (refine n_scope_exit (h := ?_)) | (refine n_lw (h := ?_)) | (refine nr_then (h := ?_)))) | (refine a_i ?_; (first | (refine a_done (h := ?_)) | (refine a_load (h := a_pass2 (h := ?_))) | (refine a_one (h := ?_)) | (refine a_load_at (h := a_pass2 (h := ?_))) | (refine a_load_p (h := a_pass2 (h := ?_))) | (refine a_loadg_p (h := a_pass2 (h := ?_))) | (refine a_loadg (h := a_pass2 (h := ?_))) | (refine a_v (h := ?_)) | (refine a_vg (h := ?_)) | (refine a_no (h := ?_)) | (refine a_un (h := ?_)) | (refine a_load_vec (h := a_pass2 (h := ?_))) | (refine a_loadg_vec (h := a_pass2 (h := ?_))) | (refine a_w (h := ?_)) | (refine a_lookupg_k _ (h := a_pass2 (h := ?_))) | (refine a_spT (h := ?_); intro h) | (refine a_spF (h := ?_); intro h) | (refine a_sp (h1 := ?_) (h0 := ?_) <;> intro h) | (refine a_fork2 (h1 := ?_) (h2 := ?_)) | (refine a_fork3 (h1 := ?_) (h2 := ?_) (h3 := ?_)))) | (refine lw_i ?_; (first | (refine lw_nil (h := ?_)) | (refine lw_step (h := ?_)) | (refine lw_guard_yes (h := ?_)))) | (refine gr_i ?_; (first | (refine gr_seq (h := ?_)) | (refine gr_region (h := ?_)) | (refine gr_block (h := ?_)) | (refine gr_skip (h := ?_)) | (refine gr_exit (h := ?_)) | (refine gr_ret (h := ?_)) | (refine gr_label (h := ?_)) | (refine gr_cond_t (h := ?_)) | (refine gr_cond_f (h := ?_)) | (refine gr_spT (h := ?_); intro h) | (refine gr_spF (h := ?_); intro h) | (refine gr_sp (h1 := ?_) (h0 := ?_) <;> intro h))) | (refine a1_i ?_; (first | (refine a1_of (h := ?_))))))
      · have e3 : (IntKind.i64.wrap (IntKind.i64.wrap (size - 1) - (k : Int))).toNat = size.toNat - (k + 1) := by omega
        have e4 : IntKind.u8.wrap ((n / 256 ^ k : Nat) : Int) = ((n / 256 ^ k % 256 : Nat) : Int) := by rw [IntKind.wrap_u8]; omega
        (refine n_back (k + 1) ?_ ?_ ?_ ?_; rotate_left; rotate_left; (repeat (first | refine ts_nil | (refine ts_cons rfl ?_ ?_; first | (with_reducible rfl) | rotate_left))); (first | (intro _ i; with_reducible refine i) | rotate_left); (try omega); (try omega))
        · rw [p8, Int.fdiv_eq_ediv_of_nonneg _ (by omega), Nat.pow_succ, ← Nat.div_div_eq_div_mul]; rfl
        · rw [wrapI64 (by omega)]; rfl
        · intro w i
          rw [e3, e4, bsV_set (by omega), Nat.zero_add, Nat.mul_one, show size.toNat - k = size.toNat - (k + 1) + 1 by omega, List.replicate_succ', List.append_assoc] at i
          rw [List.set_append_right _ _ (by simp), List.length_replicate, Nat.sub_self, List.singleton_append, List.set_cons_zero] at i
          rw [putN_cons]
          have e5 : UInt8.ofNat (((n / 256 ^ k % 256 : Nat) : Int)).toNat = UInt8.ofNat (n / 256 ^ k) := by apply UInt8.toNat.inj; rw [Int.toNat_natCast]; simp
          rw [e5] at i
          exact i
      · obtain rfl : size = k := by omega
        refine r_retk [] ?_
        exact ⟨by rw [numPut, if_neg (by omega), if_neg]; rfl; rw [Int.toNat_natCast]; intro hh; rw [Nat.div_eq_of_lt hh] at *; omega, rfl⟩
      · obtain rfl : size = k := by omega
        refine r_retk [] ?_
        refine ⟨?_, rfl⟩
        have hlt : n < 256 ^ k := by
          rcases Nat.lt_or_ge n (256 ^ k) with hh | hh
          · exact hh
          · have := Nat.div_pos hh (by exact Nat.pow_pos (by decide)); omega
        have el : (List.replicate ((k : Int).toNat - k) 0 ++ putN n k) = putN n k := by simp
        rw [numPut, if_neg (by omega), if_pos (by rw [Int.toNat_natCast]; exact hlt), Int.toNat_natCast]
        rw [Int.toNat_natCast] at el
        rw [el, List.drop_zero, List.take_of_length_le (by rw [putN_length]; exact Nat.le_refl _)]
        rfl
    · simp
    · rfl
    · intro w i; simp only [Nat.sub_zero, putN, List.append_nil]; rw [← bsV_zeros]; exact i
end Go.Proofs.YtmfmommgooccnaaGreat
/- Nodes of a tree, as plain data: places of keys, what becomes of a node, when it may be on a page. -/
set_option linter.unusedVariables false
set_option linter.unusedSimpArgs false
namespace Go.Proofs.YtmfmommgooccnaaGreat
open Go.Proofs.YtmfmommgooccnaaGreat.SL

/-- Rising keys. -/
def Rise (l : List Nat) : Prop := l.Pairwise (· < ·)
def uV (l : List Nat) : List Value := l.map fun k : Nat => Value.int .u64 (k : Int)
/-- The first place of a key that is not below. -/
def posN : List Nat → Nat → Nat
  | [], _ => 0
  | k :: l, x => if k < x then posN l x + 1 else 0
theorem posN_le : ∀ (l : List Nat) (x : Nat), posN l x ≤ l.length
  | [], _ => Nat.le_refl _
  | k :: l, x => by rw [posN]; split; (have := posN_le l x; simp; omega); simp
theorem posN_of : ∀ {l : List Nat} {x p : Nat}, p ≤ l.length → (∀ j, j < p → l.getD j 0 < x) → (p < l.length → x ≤ l.getD p 0) → posN l x = p
  | [], x, p, h, _, _ => by simp at h; subst h; rfl
  | k :: l, x, 0, h, h1, h2 => by
    have := h2 (by simp)
    simp at this
    rw [posN, if_neg (by omega)]
  | k :: l, x, p + 1, h, h1, h2 => by
    have := h1 0 (by omega)
    simp at this
    rw [posN, if_pos this, posN_of (p := p) (by simpa using h) (fun j hj => by simpa using h1 (j + 1) (by omega)) (fun hp => by simpa using h2 (by simpa using hp))]
theorem posN_lt : ∀ {l : List Nat} {x j : Nat}, j < posN l x → l.getD j 0 < x
  | [], _, _, h => by simp [posN] at h
  | k :: l, x, j, h => by
    rw [posN] at h
    split at h
    · cases j with
      | zero => simpa
      | succ j => simpa using posN_lt (l := l) (j := j) (by omega)
    · omega
theorem Rise.get {l : List Nat} (h : Rise l) {i j : Nat} (hij : i < j) (hj : j < l.length) : l.getD i 0 < l.getD j 0 := by
  have := List.pairwise_iff_getElem.1 h i j (by omega) hj hij
  simpa [List.getD, hj, show i < l.length by omega] using this
theorem posN_mem {l : List Nat} (h : Rise l) {x : Nat} : x ∈ l ↔ posN l x < l.length ∧ l.getD (posN l x) 0 = x := by
  constructor
  · intro hx
    obtain ⟨i, hi, rfl⟩ := List.getElem_of_mem hx
    have : posN l l[i] = i := posN_of (by omega) (fun j hj => by have := h.get hj hi; simpa [List.getD, hi] using this) (fun _ => by simp [List.getD, hi])
    rw [this]
    exact ⟨hi, by simp [List.getD, hi]⟩
  · rintro ⟨h1, h2⟩
    rw [← h2]
    simp [List.getD, h1]
theorem uV_get {l : List Nat} {r : List Value} {j : Nat} (h : j < l.length) : (uV l ++ r)[j]? = some (.int .u64 (l.getD j 0 : Nat)) := by
  rw [List.getElem?_append_left (by simpa [uV] using h)]
  simp [uV, List.getD, h]
theorem uV_len (l : List Nat) : (uV l).length = l.length := by simp [uV]

/-- A list in which some things from a place on are others. -/
def laidL {α : Type} (l : List α) (at' gone : Nat) (more : List α) : List α := l.take at' ++ more ++ l.drop (at' + gone)
theorem laidL_len {α : Type} (l : List α) (a g : Nat) (more : List α) : (laidL l a g more).length ≤ l.length + more.length + l.length := by
  simp only [laidL, List.length_append, List.length_take, List.length_drop]; omega
theorem laidL_map {α β : Type} (f : α → β) (l : List α) (a g : Nat) (more : List α) : (laidL l a g more).map f = laidL (l.map f) a g (more.map f) := by
  simp [laidL, List.map_take, List.map_drop]

/-- A node. -/
structure Nd where
  leaf : Bool
  keys : List Nat
  vals : List (List UInt8)
  kids : List Int
def sumL (l : List (List UInt8)) : Nat := (l.map List.length).sum
theorem sumL_nil : sumL [] = 0 := rfl
theorem sumL_cons (v : List UInt8) (l : List (List UInt8)) : sumL (v :: l) = v.length + sumL l := by simp [sumL]
theorem sumL_append (l m : List (List UInt8)) : sumL (l ++ m) = sumL l + sumL m := by simp [sumL]
theorem sumL_take_succ {l : List (List UInt8)} {k : Nat} (h : k < l.length) : sumL (l.take (k + 1)) = sumL (l.take k) + (l.getD k []).length := by
  unfold sumL
  rw [List.take_add_one, List.getElem?_eq_getElem h, List.map_append, List.sum_append]
  simp [List.getD, h]
theorem sumL_take_le (l : List (List UInt8)) (k : Nat) : sumL (l.take k) ≤ sumL l := by
  conv => rhs; rw [← List.take_append_drop k l]
  rw [sumL_append]; omega
theorem sumL_le {l : List (List UInt8)} (h : ∀ v ∈ l, v.length ≤ 40) : sumL l ≤ 40 * l.length := by
  induction l with
  | nil => simp [sumL]
  | cons a l ih =>
    have := ih (fun v hv => h v (by simp [hv]))
    have := h a (by simp)
    rw [sumL_cons, List.length_cons]; omega
def Nd.size (d : Nd) : Nat := if d.leaf then 1 + 8 * d.keys.length + d.keys.length + sumL d.vals else 1 + 8 * d.keys.length + 2 * d.kids.length
/-- Not too great to be told. -/
structure Nd.fits (d : Nd) : Prop where
  k : d.keys.length < 10000
  i : d.kids.length < 10000
  v : d.vals.length < 10000
  s : sumL d.vals < 100000
/-- A node as it may be, however great, or with nothing in it. -/
structure Nd.plain (d : Nd) : Prop where
  rise : Rise d.keys
  key : ∀ k ∈ d.keys, k < 18446744073709551616
  val : ∀ v ∈ d.vals, v.length ≤ 40
  kid : ∀ i ∈ d.kids, 2 ≤ i ∧ i < 640
  vals : d.vals.length = if d.leaf then d.keys.length else 0
  kids : d.kids.length = if d.leaf then 0 else d.keys.length + 1
/-- A node as it may be on a page. -/
structure Nd.good (d : Nd) : Prop where
  p : d.plain
  some : d.leaf = true → 0 < d.keys.length
  size : d.size ≤ 240
theorem Nd.plain.fits {d : Nd} (h : d.plain) (hs : d.size ≤ 5000) : d.fits := by
  have h1 := hs
  have h2 := h.vals
  have h3 := h.kids
  have h4 := sumL_le h.val
  unfold Nd.size at h1
  cases hl : d.leaf <;> simp only [hl, if_true, Bool.false_eq_true, if_false] at h1 h2 h3 <;> constructor <;> omega
theorem Nd.good.fits {d : Nd} (h : d.good) : d.fits := h.p.fits (by have := h.size; omega)

/-- What becomes of nodes. -/
def Nd.put (d : Nd) (x : Nat) (v : List UInt8) : Nd :=
  ⟨true, laidL d.keys (posN d.keys x) (if x ∈ d.keys then 1 else 0) [x], laidL d.vals (posN d.keys x) (if x ∈ d.keys then 1 else 0) [v], []⟩
def Nd.hang (d : Nd) (i : Nat) (x : Nat) (k : Int) : Nd := ⟨false, laidL d.keys i 0 [x], [], laidL d.kids (i + 1) 0 [k]⟩
def Nd.up (d : Nd) : Nat := if d.leaf then 0 else 1
/-- The first part of a split at k. -/
def Nd.front (d : Nd) (k : Nat) : Nd := ⟨d.leaf, d.keys.take k, if d.leaf then d.vals.take k else [], if d.leaf then [] else d.kids.take (k + 1)⟩
def Nd.back (d : Nd) (k : Nat) : Nd := ⟨d.leaf, d.keys.drop (k + d.up), if d.leaf then d.vals.drop k else [], if d.leaf then [] else d.kids.drop (k + 1)⟩
/-- Where a node is split: from k on, so many steps at most. -/
def Nd.cut (d : Nd) : Nat → Nat → Nat
  | 0, k => k
  | m + 1, k => if (d.front k).size < d.size / 2 then d.cut m (k + 1) else k
def Nd.at' (d : Nd) : Nat := d.cut (d.keys.length - 1 - d.up - 1) 1
/-- What a node's text has of a key. -/
def Nd.entT (d : Nd) (i : Nat) : List UInt8 := putN (d.keys.getD i 0) 8 ++ if d.leaf then UInt8.ofNat (d.vals.getD i []).length :: d.vals.getD i [] else putN (d.kids.getD (i + 1) 0).toNat 2
def Nd.partT (d : Nd) (j m : Nat) : List UInt8 := (List.range' j m).flatMap d.entT
def Nd.headT (d : Nd) : List UInt8 := if d.leaf then [1] else 2 :: putN (d.kids.getD 0 0).toNat 2
/-- A node's text. -/
def Nd.text (d : Nd) : List UInt8 := d.headT ++ d.partT 0 d.keys.length
theorem Nd.partT_cons (d : Nd) (j m : Nat) : d.partT j (m + 1) = d.entT j ++ d.partT (j + 1) m := by simp [Nd.partT, List.range'_succ]
theorem Nd.partT_snoc (d : Nd) (j : Nat) : d.partT 0 (j + 1) = d.partT 0 j ++ d.entT j := by simp [Nd.partT, List.range'_1_concat]
theorem getD_mem {α : Type} {l : List α} {i : Nat} {z : α} (h : i < l.length) : l.getD i z ∈ l := by simp only [List.getD, List.getElem?_eq_getElem h, Option.getD_some]; exact List.getElem_mem h
theorem Nd.partT_len {d : Nd} : ∀ {j : Nat}, j ≤ d.keys.length → (d.leaf = true → d.vals.length = d.keys.length) → (d.partT 0 j).length = if d.leaf then 9 * j + sumL (d.vals.take j) else 10 * j
  | 0, _, _ => by simp [Nd.partT, sumL]
  | j + 1, h, hv => by
    rw [Nd.partT_snoc, List.length_append, Nd.partT_len (Nat.le_of_succ_le h) hv, Nd.entT, List.length_append, putN_length]
    cases hl : d.leaf
    · simp only [Bool.false_eq_true, if_false, putN_length]; omega
    · have := hv hl
      rw [sumL_take_succ (by omega)]
      simp only [if_true, List.length_cons]; omega
theorem Nd.text_len {d : Nd} (p : d.plain) : d.text.length = d.size := by
  rw [Nd.text, List.length_append, Nd.partT_len (Nat.le_refl _) (fun hl => by have := p.vals; rw [hl] at this; simpa using this), Nd.headT, Nd.size]
  have h1 := p.vals; have h2 := p.kids
  cases hl : d.leaf
  · simp only [hl, Bool.false_eq_true, if_false] at h1 h2 ⊢
    simp only [List.length_cons, putN_length]; omega
  · simp only [hl, if_true] at h1 h2 ⊢
    rw [← h1, List.take_length]
    simp only [List.length_cons, List.length_nil]; omega
end Go.Proofs.YtmfmommgooccnaaGreat
/- Package num's texts; package node: where a key stands. -/
set_option maxRecDepth 20000
set_option linter.unusedVariables false
set_option linter.unusedSimpArgs false
namespace Go.Proofs.YtmfmommgooccnaaGreat
open Go.Proofs.YtmfmommgooccnaaGreat.SL

theorem byte0 {s r : List UInt8} (hs : s.length ≤ 255) : IntKind.i64.wrap (byteAt (UInt8.ofNat s.length :: (s ++ r)) 0) = s.length := by
  have : byteAt (UInt8.ofNat s.length :: (s ++ r)) 0 = (s.length : Int) := by simp [byteAt]; omega
  rw [this]; exact wrapI64 (by omega)
theorem wrapU8n {n : Nat} (h : n ≤ 255) : IntKind.u8.wrap (n : Int) = n := by rw [IntKind.wrap_u8]; omega

theorem Text_does (s : List UInt8) (hs : s.length ≤ 255) : Does Tryz.prog 172 [.string (str s)] [] (fun v H => v = .tuple #[.string (str (UInt8.ofNat s.length :: s)), .int .i64 0] ∧ H = []) := by
  refine does_of Tryz.func172 Tryz.ntmps172 rfl rfl rfl (fun w0 F0 => ?_)
  (repeat' (first | refine g_seq (h := ?_) | refine g_region (h := ?_) | refine l_nil (h := ?_) | refine n_then (h := ?_) | refine l_pures1 (h := ?_) | (refine l_buildSlice1 (h := ?_); intro _) | refine g_skip (h := ?_) | (refine g_spF (h := ?_); intro h)))
  rename_i b
  have e1 : IntKind.u8.wrap (s.length : Int) = ((UInt8.ofNat s.length).toNat : Int) := by rw [wrapU8n hs]; simp; omega
  refine l_inv (H' := [cl b 5 (bsV [UInt8.ofNat s.length])]) (fun i => by rw [e1] at i; exact i) ?_
  (repeat (first | refine l_nil (h := ?_) | refine n_then (h := ?_) | refine l_pures1 (h := ?_) | refine l_concat (h := ?_) | refine l_str_bs (h := ?_) | refine g_ret (h := ?_)))
  refine r_retk [] ?_
  exact ⟨rfl, rfl⟩
theorem TakeText_does (s r : List UInt8) (hs : s.length ≤ 255) (hr : r.length < 1000000) : Does Tryz.prog 133 [.string (str (UInt8.ofNat s.length :: (s ++ r)))] [] (fun v H => v = .tuple #[.string (str s), .string (str r), .int .i64 0] ∧ H = []) := by
  have e0 := byte0 (r := r) hs
  have e1 : (UInt8.ofNat s.length :: (s ++ r)).length = s.length + r.length + 1 := by simp
  have e2 : IntKind.i64.wrap ((s.length : Int) + 1) = s.length + 1 := wrapI64 (by omega)
  refine does_of Tryz.func133 Tryz.ntmps133 rfl rfl rfl (fun w0 F0 => ?_)
  (repeat' (first | refine g_seq (h := ?_) | refine g_region (h := ?_) | refine l_nil (h := ?_) | refine n_then (h := ?_) | refine l_pures1 (h := ?_) | refine l_guard_yes (h := ?_) | refine l_index (h := ?_) | refine g_skip (h := ?_) | (refine g_spF (h := ?_); intro h)))
  rw [e0, e2]
  (refine g_draw [] (h := a_pass2 (h := ?_)))
  (repeat (first | refine l_nil (h := ?_) | refine n_then (h := ?_) | refine l_pures1 (h := ?_) | refine g_ret (h := ?_) | refine a_done (h := ?_) | refine a_one (h := ?_) | refine n_any (h := a_pass2 (h := ?_)) | refine a_v (h := ?_)))
  refine r_retk [] ?_
  refine ⟨?_, rfl⟩
  have : ((s.length : Int) + 1).toNat = s.length + 1 := by omega
  have a1 : cutB (UInt8.ofNat s.length :: (s ++ r)) 1 (s.length + 1) = s := by simp [cutB]
  have a2 : cutB (UInt8.ofNat s.length :: (s ++ r)) (s.length + 1) (UInt8.ofNat s.length :: (s ++ r)).length = r := by simp [cutB]
  show Value.tuple #[.string (str (cutB (UInt8.ofNat s.length :: (s ++ r)) 1 ((s.length : Int) + 1).toNat)), .string (str (cutB (UInt8.ofNat s.length :: (s ++ r)) ((s.length : Int) + 1).toNat (UInt8.ofNat s.length :: (s ++ r)).length)), .int .i64 0] = _
  rw [this, a1, a2]

set_option maxHeartbeats 1000000 in
theorem place_cl (l : List Nat) (x : Nat) (g c : Nat) (r : List Value) (hl : l.length < 1000000) (hs : Rise l) :
    Does Tryz.prog 153 [.slice (some ⟨g, 0, none⟩) l.length c, .int .u64 x] [cl g 30 (uV l ++ r)]
      (fun v H => v = .tuple #[.int .i64 (posN l x), .bool (decide (x ∈ l))] ∧ H = [cl g 30 (uV l ++ r)]) := by
  refine does_of Tryz.func153 Tryz.ntmps153 rfl rfl rfl (fun w0 F0 => ?_)
  (repeat' (first | refine g_seq (h := ?_) | refine g_region (h := ?_) | refine l_nil (h := ?_) | refine n_then (h := ?_) | refine l_pures1 (h := ?_) | refine g_block (h := ?_) | refine g_scope (h := ?_) | refine g_label (h := ?_)))
  (refine g_loop (fun y : Nat × Nat => [(6, .int .i64 y.1), (7, .int .i64 y.2), (1, .int .u64 x), (0, .slice (some ⟨g, 0, none⟩) l.length c)]) (fun _ => [cl g 30 (uV l ++ r)]) (fun y => y.1 ≤ y.2 ∧ y.2 ≤ l.length ∧ (∀ j, j < y.1 → l.getD j 0 < x) ∧ (y.2 < l.length → x ≤ l.getD y.2 0)) (fun y => y.2 - y.1) ((0, l.length)) ?_ ?_ ?_ ?_; rotate_left; (repeat (first | refine ts_nil | (refine ts_cons rfl ?_ ?_; first | (with_reducible rfl) | rotate_left))); (first | (intro _ i; with_reducible refine i) | rotate_left); rotate_left; (try omega); rotate_right)
  · rintro ⟨lo, hi⟩ ⟨h1, h2, h3, h4⟩
    dsimp only at h1 h2 h3 h4
    (repeat' (first | refine g_seq (h := ?_) | refine g_region (h := ?_) | refine l_nil (h := ?_) | refine n_then (h := ?_) | refine l_pures1 (h := ?_) | refine g_skip (h := ?_) | refine g_block (h := ?_) | refine g_exit (h := ?_) | refine n_then_exit (h := ?_) | refine n_block_hit (h := ?_) | (refine g_cond (ht := ?_) (hf := ?_) <;> intro h)))
    · have hlt : lo < hi := by simpa using h
      have e0 : IntKind.i64.wrap ((lo : Int) + (hi : Int)) = ((lo + hi : Nat) : Int) := by rw [wrapI64 (by omega)]; omega
      have em : IntKind.i64.wrap ((IntKind.i64.wrap ((lo : Int) + (hi : Int))).tdiv 2) = (((lo + hi) / 2 : Nat) : Int) := by
        rw [e0, Int.tdiv_eq_ediv_of_nonneg (by omega), wrapI64 (by omega)]; omega
      have hm : (lo + hi) / 2 < hi ∧ lo ≤ (lo + hi) / 2 := by omega
      have hg : (uV l ++ r)[0 + ((((lo + hi) / 2 : Nat) : Int)).toNat * 1]? = some (.int .u64 (l.getD ((lo + hi) / 2) 0 : Nat)) := by
        rw [Nat.zero_add, Nat.mul_one, Int.toNat_natCast]; exact uV_get (by omega)
      generalize (lo + hi) / 2 = m at *
      rw [em]
      (repeat' (first | refine g_seq (h := ?_) | refine g_region (h := ?_) | refine l_nil (h := ?_) | refine n_then (h := ?_) | refine l_pures1 (h := ?_) | refine l_load_at (h := ?_) | refine l_indexAddr (h := ?_) | refine g_block (h := ?_) | refine g_exit (h := ?_) | refine n_then_exit (h := ?_) | refine n_block_hit (h := ?_) | refine n_block_miss (h := ?_) | refine n_block (h := ?_) | (refine g_sp (h1 := ?_) (h0 := ?_) <;> intro h)))
      · have hm2 : m < l.length := by omega
        have hp : posN l x = m := posN_of (by omega) (fun j hj => by have := hs.get hj hm2; omega) (fun _ => by omega)
        (refine g_draw [cl _ _ _] (h := a_pass2 (h := ?_)))
        (repeat' (first | refine l_nil (h := ?_) | refine n_then (h := ?_) | refine l_pures1 (h := ?_) | refine l_guard_yes (h := ?_) | refine g_ret (h := ?_) | refine a_done (h := ?_) | refine a_one (h := ?_) | refine n_any (h := a_pass2 (h := ?_)) | refine a_loadg (h := a_pass2 (h := ?_)) | refine a_vg (h := ?_) | refine n_scope_ret (h := ?_) | (refine a_spT (h := ?_); intro h)))
        refine r_retk [cl g 30 (uV l ++ r)] ?_
        refine ⟨?_, rfl⟩
        have hx : l.getD m 0 = x := by omega
        have : x ∈ l := (posN_mem hs).2 (by rw [hp]; exact ⟨hm2, hx⟩)
        rw [hp, decide_eq_true this, hx]
        simp [packV]
      · (refine n_back ((m + 1, hi)) ?_ ?_ ?_ ?_; rotate_left; rotate_left; (repeat (first | refine ts_nil | (refine ts_cons rfl ?_ ?_; first | (with_reducible rfl) | rotate_left))); (first | (intro _ i; with_reducible refine i) | rotate_left); (try omega); (try omega))
        · refine ⟨by dsimp only; omega, h2, fun j hj => ?_, h4⟩
          dsimp only at hj
          rcases Nat.lt_or_ge j m with hj2 | hj2
          · have := hs.get hj2 (by omega); omega
          · obtain rfl : j = m := by omega
            omega
        · dsimp only; omega
        · rw [wrapI64 (by omega)]; rfl
      · (refine n_back ((lo, m)) ?_ ?_ ?_ ?_; rotate_left; rotate_left; (repeat (first | refine ts_nil | (refine ts_cons rfl ?_ ?_; first | (with_reducible rfl) | rotate_left))); (first | (intro _ i; with_reducible refine i) | rotate_left); (try omega); (try omega))
        · exact ⟨by dsimp only; omega, by dsimp only; omega, h3, fun _ => by dsimp only; omega⟩
        · dsimp only; omega
    · obtain rfl : lo = hi := by simp at h; omega
      have hp : posN l x = lo := posN_of (by omega) h3 h4
      have hg : lo < l.length → (uV l ++ r)[0 + ((lo : Nat) : Int).toNat * 1]? = some (.int .u64 (l.getD lo 0 : Nat)) := fun h => by
        rw [Nat.zero_add, Nat.mul_one, Int.toNat_natCast]; exact uV_get h
      (refine g_draw [cl _ _ _] (h := a_pass2 (h := ?_)))
      (repeat' (first | refine l_nil (h := ?_) | refine n_then (h := ?_) | refine l_pures1 (h := ?_) | refine l_guard_yes (h := ?_) | refine l_guard_no (h := ?_) | refine g_ret (h := ?_) | refine a_done (h := ?_) | refine a_one (h := ?_) | refine n_any (h := a_pass2 (h := ?_)) | refine a_loadg (h := a_pass2 (h := ?_)) | refine a_vg (h := ?_) | refine a_no (h := ?_) | refine n_scope_ret (h := ?_) | (refine a_sp (h1 := ?_) (h0 := ?_) <;> intro h)))
      · have hlt : lo < l.length := by omega
        have hg := hg hlt
        (repeat' (first | refine g_seq (h := ?_) | refine g_region (h := ?_) | refine l_nil (h := ?_) | refine n_then (h := ?_) | refine l_pures1 (h := ?_) | refine l_guard_yes (h := ?_) | refine l_guard_no (h := ?_) | refine l_guard_no0 (h := ?_) | refine l_guard_un (h := ?_) | refine l_guard_un0 (h := ?_) | refine l_load (h := ?_) | refine l_store (h := ?_) | (refine l_box (h := ?_); intro _) | (refine l_alloc (h := ?_); intro _) | refine l_index (h := ?_) | refine l_slice_str (h := ?_) | refine l_concat (h := ?_) | (refine l_makeSlice (h := ?_); intro _) | refine l_load_at (h := ?_) | refine l_store_at (h := ?_) | refine l_load_p (h := ?_) | refine l_indexAddr (h := ?_) | refine l_rem (h := ?_) | refine l_quo (h := ?_) | refine l_shr (h := ?_) | refine l_shl (h := ?_) | refine l_slice (h := ?_) | refine l_copy_in (h := ?_) | refine l_copy_row (h := ?_) | refine l_str_bs (h := ?_) | (refine l_bytes_of (h := ?_); intro _ _ _) | refine l_copy_str (h := ?_) | refine l_lookup _ (h := ?_) | refine l_lookup_ok _ (h := ?_) | refine l_mapUpdate (h := ?_) | refine l_delete0 (h := ?_) | refine l_len_map (h := ?_) | (refine l_buildSlice1 (h := ?_); intro _) | (refine l_append_new (h := ?_); intro _ _) | (refine l_append (h := ?_); intro _ _) | refine l_pure_none (h := ?_) | refine g_skip (h := ?_) | refine g_ret (h := ?_) | refine n_then_ret (h := ?_) | refine n_block_ret (h := ?_) | refine g_block (h := ?_) | refine g_exit (h := ?_) | refine n_then_exit (h := ?_) | refine n_block_hit (h := ?_) | refine a_done (h := ?_) | refine a_load (h := a_pass2 (h := ?_)) | refine a_one (h := ?_) | refine n_any (h := a_pass2 (h := ?_)) | refine a_load_at (h := a_pass2 (h := ?_)) | refine a_load_p (h := a_pass2 (h := ?_)) | refine a_loadg_p (h := a_pass2 (h := ?_)) | refine a_loadg (h := a_pass2 (h := ?_)) | refine a_v (h := ?_) | refine a_vg (h := ?_) | refine a_no (h := ?_) | refine a_un (h := ?_) | refine n_block_miss (h := ?_) | refine n_block (h := ?_) | refine g_cond_t (h := ?_) | refine g_cond_f (h := ?_) | refine l_load_vec (h := ?_) | refine l_store_vec (h := ?_) | refine a_load_vec (h := a_pass2 (h := ?_)) | refine a_loadg_vec (h := a_pass2 (h := ?_)) | (refine l_append_str (h := ?_); intro _ _) | (refine l_append_zeros (h := ?_); intro _ _ _) | refine l_to_unsafe (h := ?_) | refine l_from_unsafe (h := ?_) | refine l_neq_same (h := ?_) | refine l_slice_any (h := ?_) | (refine l_buildSlice2 (h := ?_); intro _) | (refine l_buildSlice3 (h := ?_); intro _) | (refine l_buildSlice4 (h := ?_); intro _) | refine l_slice3n (h := ?_) | refine l_sliceData (h := ?_) | refine l_outer_same outer_same (h := ?_) | refine l_unsafeString (h := ?_) | refine g_scope (h := ?_) | refine n_scope (h := ?_) | refine n_scope_ret (h := ?_) | refine n_scope_exit (h := ?_) | refine g_label (h := ?_) | refine l_assert (h := ?_) | refine l_eqStruct (h := ?_) | refine l_neStruct (h := ?_) | refine l_indexArr (h := ?_) | refine n_lw (h := ?_) | refine lw_nil (h := ?_) | refine lw_step (h := ?_) | refine lw_guard_yes (h := ?_) | refine l_lookup_k _ (h := ?_) | refine l_lookup_ok_k _ (h := ?_) | refine l_mapUpdate_k (h := ?_) | refine l_delete0_k (h := ?_) | refine l_len_map_k (h := ?_) | refine gr_seq (h := ?_) | refine gr_region (h := ?_) | refine nr_then (h := ?_) | refine gr_block (h := ?_) | refine gr_skip (h := ?_) | refine gr_exit (h := ?_) | refine gr_ret (h := ?_) | refine gr_label (h := ?_) | refine gr_cond_t (h := ?_) | refine gr_cond_f (h := ?_) | refine a_w (h := ?_) | refine a_lookupg_k _ (h := a_pass2 (h := ?_)) | (refine a_spT (h := ?_); intro h) | (refine a_spF (h := ?_); intro h) | (refine a_sp (h1 := ?_) (h0 := ?_) <;> intro h) | (refine l_spT (h := ?_); intro h) | (refine l_spF (h := ?_); intro h) | (refine l_sp (h1 := ?_) (h0 := ?_) <;> intro h) | (refine g_spT (h := ?_); intro h) | (refine g_spF (h := ?_); intro h) | (refine g_sp (h1 := ?_) (h0 := ?_) <;> intro h) | (refine gr_spT (h := ?_); intro h) | (refine gr_spF (h := ?_); intro h) | (refine gr_sp (h1 := ?_) (h0 := ?_) <;> intro h) | refine a_fork2 (h1 := ?_) (h2 := ?_) | refine a_fork3 (h1 := ?_) (h2 := ?_) (h3 := ?_) | refine a1_of (h := ?_)))
        refine r_retk [cl g 30 (uV l ++ r)] ?_
        refine ⟨?_, rfl⟩
        rw [hp, show decide (x ∈ l) = (((l.getD lo 0 : Nat) : Int) == ((x : Nat) : Int)) from ?_]
        · simp [packV]
        · rw [Bool.eq_iff_iff, decide_eq_true_iff, posN_mem hs, hp, beq_iff_eq]
          omega
      · refine r_retk [cl g 30 (uV l ++ r)] ?_
        refine ⟨?_, rfl⟩
        rw [hp, decide_eq_false (fun hx => by have := (posN_mem hs).1 hx; omega)]
        rfl
  · exact ⟨by simp, by simp, by simp, by simp⟩
  · rfl

theorem place_nil (p : Option Addr) (c x : Nat) : Does Tryz.prog 153 [.slice p 0 c, .int .u64 x] [] (fun v H => v = .tuple #[.int .i64 0, .bool false] ∧ H = []) := by
  refine does_of Tryz.func153 Tryz.ntmps153 rfl rfl rfl (fun w0 F0 => ?_)
  (repeat' (first | refine g_seq (h := ?_) | refine g_region (h := ?_) | refine l_nil (h := ?_) | refine n_then (h := ?_) | refine l_pures1 (h := ?_) | refine g_block (h := ?_) | refine g_scope (h := ?_) | refine g_label (h := ?_)))
  (refine g_loop (fun y : Unit => [(6, .int .i64 0), (7, .int .i64 0), (1, .int .u64 x), (0, .slice p 0 c)]) (fun _ => []) (fun y => True) (fun y => 0) (()) ?_ ?_ ?_ ?_; rotate_left; (repeat (first | refine ts_nil | (refine ts_cons rfl ?_ ?_; first | (with_reducible rfl) | rotate_left))); (first | (intro _ i; with_reducible refine i) | rotate_left); rotate_left; (try omega); rotate_right)
  · intro _ _
    (repeat' (first | refine g_seq (h := ?_) | refine g_region (h := ?_) | refine l_nil (h := ?_) | refine n_then (h := ?_) | refine l_pures1 (h := ?_) | refine g_exit (h := ?_) | refine n_then_exit (h := ?_) | refine n_block_hit (h := ?_) | refine g_cond_f (h := ?_)))
    (refine g_draw [] (h := a_pass2 (h := ?_)))
    (repeat' (first | refine l_nil (h := ?_) | refine n_then (h := ?_) | refine l_guard_no (h := ?_) | refine g_ret (h := ?_) | refine a_done (h := ?_) | refine a_one (h := ?_) | refine n_any (h := a_pass2 (h := ?_)) | refine a_no (h := ?_) | refine n_scope_ret (h := ?_)))
    refine r_ret ?_
    exact ⟨rfl, rfl⟩
  · trivial
  · trivial

theorem does_frame {P : Program} {f : FuncId} {args : List Value} {H K : List SProp} {q : Value → List SProp → Prop} (h : Does P f args H q) : Does P f args (H ++ K) (fun v H' => ∃ H1, q v H1 ∧ H' = H1 ++ K) := fun w F s => by
  obtain ⟨F1, s1, back⟩ := (Inv.start s).hand
  exact (h w F1 s1).mono fun e w' ⟨v, H', he, hq, hi⟩ => ⟨v, H' ++ K, he, ⟨H', hq, rfl⟩, back hi⟩
theorem does_opens {P : Program} {α : Type} {f : FuncId} {args : List Value} {A : SProp} {p : α → Prop} {K : α → List SProp} {H : List SProp} {q : Value → List SProp → Prop} (o : Opens A p K) (h : ∀ x, p x → Does P f args (K x ++ H) q) : Does P f args (A :: H) q := by
  rintro w F ⟨F1, F2, a, s, d, u⟩
  obtain ⟨x, hx, s1⟩ := o _ _ a
  exact h x hx w F (sep_congr (sep_append s1 s d) fun b => (u b).symm)
/-- A slice whose row is its own, by whether it has a block. -/
theorem does_vec {P : Program} {f : FuncId} {args : List Value} {e : TypeId} {p : Option Addr} {m c : Nat} {xs : List Value} {H : List SProp} {q : Value → List SProp → Prop} (h0 : m = 0 → xs = [] → Does P f args (vec e 1 p m c xs :: H) q)
    (h1 : 0 < m → ∀ g r, p = some ⟨g, 0, none⟩ → m ≤ c → c ≤ maxLen → xs.length = m → (xs ++ r).length = c → Does P f args (cl g e (xs ++ r) :: H) q) : Does P f args (vec e 1 p m c xs :: H) q := by
  rcases Nat.eq_zero_or_pos m with hm | hm
  · intro w F s
    have : xs.length = m * 1 := by obtain ⟨_, _, ⟨q, _⟩, _⟩ := s; exact q
    exact h0 hm (List.eq_nil_of_length_eq_zero (by omega)) w F s
  · refine does_opens (vec_opens hm) ?_
    rintro ⟨g, r⟩ ⟨a, b, c1, d, e1⟩
    exact h1 hm g r a b c1 (by omega) (by simpa using e1)
/-- What comes back may be shut. -/
theorem does_shuts {P : Program} {f : FuncId} {args : List Value} {H K : List SProp} {q : Value → List SProp → Prop} {A : SProp} (h : Does P f args H (fun v H' => q v (A :: K) ∧ ∃ L, Shuts L A ∧ H' = L ++ K)) : Does P f args H q := fun w F s =>
  (h w F s).mono fun e w' ⟨v, H', he, ⟨hq, L, hs, hH⟩, hi⟩ => ⟨v, A :: K, he, hq, by subst hH; exact hi.shuts hs⟩

theorem place_does (l : List Nat) (x : Nat) (p : Option Addr) (c : Nat) (hl : l.length < 1000000) (hs : Rise l) :
    Does Tryz.prog 153 [.slice p l.length c, .int .u64 x] [vec 30 1 p l.length c (uV l)]
      (fun v H => v = .tuple #[.int .i64 (posN l x), .bool (decide (x ∈ l))] ∧ H = [vec 30 1 p l.length c (uV l)]) := by
  refine does_vec (fun h0 _ => ?_) (fun h0 g r e1 h1 h2 h3 h4 => ?_)
  · obtain rfl := List.eq_nil_of_length_eq_zero h0
    exact (does_frame (place_nil p c x)).mono fun v H ⟨H1, ⟨hv, hH⟩, e⟩ => ⟨by rw [hv]; simp [posN], by rw [e, hH]; rfl⟩
  · subst e1
    refine does_shuts (A := vec _ 1 _ _ c (uV l)) (K := []) ((place_cl l x g c r hl hs).mono fun v H ⟨hv, hH⟩ => ⟨⟨hv, rfl⟩, _, vec_shuts h1 h2 (by rw [h3]; omega) (by rw [h4]; omega), hH⟩)
end Go.Proofs.YtmfmommgooccnaaGreat
/- strings.Builder: what is written behind what was, and read once. -/
set_option maxRecDepth 20000
set_option linter.unusedVariables false
set_option linter.unusedSimpArgs false
namespace Go.Proofs.YtmfmommgooccnaaGreat
open Go.Proofs.YtmfmommgooccnaaGreat.SL

theorem outer_same : Outer Tryz.prog 191 Extern.AbiNoEscape.same := ⟨fun args w => run_callFunc_extern Tryz.func191 (by kernel_rfl) (by kernel_rfl) (by kernel_rfl) (by kernel_rfl) args w⟩

theorem lies_builder : liesAt Tryz.prog Tryz.prog.depth 203 (2 / Tryz.prog.cellsOf 203) 0 203 1 = true := by kernel_rfl

theorem copyCheck_none (b : Nat) (s : Value) : Does Tryz.prog 167 [.pointer (some ⟨b, 0, none⟩)] [cl b 203 [.pointer none, s]]
    (fun v H => v = .tuple #[] ∧ H = [cl b 203 [.pointer (some ⟨b, 0, none⟩), s]]) := by
  refine does_of Tryz.func167 Tryz.ntmps167 rfl rfl rfl (fun w0 F0 => ?_)
  (repeat' (first | refine g_seq (h := ?_) | refine g_region (h := ?_) | refine l_nil (h := ?_) | refine n_then (h := ?_) | refine l_pures1 (h := ?_) | refine l_load (h := ?_) | refine l_store (h := ?_) | refine g_cond_t (h := ?_) | refine l_to_unsafe (h := ?_) | refine l_from_unsafe (h := ?_) | refine l_outer_same outer_same (h := ?_)))
  refine r_end ?_
  exact ⟨rfl, rfl⟩
theorem copyCheck_some (b : Nat) (s : Value) : Does Tryz.prog 167 [.pointer (some ⟨b, 0, none⟩)] [cl b 203 [.pointer (some ⟨b, 0, none⟩), s]]
    (fun v H => v = .tuple #[] ∧ H = [cl b 203 [.pointer (some ⟨b, 0, none⟩), s]]) := by
  refine does_of Tryz.func167 Tryz.ntmps167 rfl rfl rfl (fun w0 F0 => ?_)
  (repeat' (first | refine g_seq (h := ?_) | refine g_region (h := ?_) | refine l_nil (h := ?_) | refine n_then (h := ?_) | refine l_pures1 (h := ?_) | refine l_load (h := ?_) | refine g_skip (h := ?_) | refine g_cond_f (h := ?_) | refine l_neq_same (h := ?_)))
  refine r_end ?_
  exact ⟨rfl, rfl⟩

def BldK (b : Nat) (l : List UInt8) (x : Option Addr × Option Addr × Nat) : List SProp :=
  [cl b 203 [.pointer x.1, .slice x.2.1 l.length x.2.2], vec 5 1 x.2.1 l.length x.2.2 (bsV l)]
def BldP (b : Nat) (l : List UInt8) (x : Option Addr × Option Addr × Nat) : Prop := x.1 = none ∨ x.1 = some ⟨b, 0, none⟩
def Bld (b : Nat) (l : List UInt8) : SProp := hid (BldP b l) (BldK b l)

theorem bWriteString_does (b : Nat) (l s : List UInt8) (hl : l.length + s.length < 1000000) : Does Tryz.prog 143 [.pointer (some ⟨b, 0, none⟩), .string (str s)] [Bld b l]
    (fun v H => (∃ x, v = x) ∧ H = [Bld b (l ++ s)]) := by
  refine does_of Tryz.func143 Tryz.ntmps143 rfl rfl rfl (fun w0 F0 => ?_)
  refine g_open (A := Bld b l) (h := ?_); (rintro ⟨q, p, c⟩ hq; dsimp only [BldK, List.cons_append, List.nil_append])
  rcases hq with h | h
  · dsimp only at h; subst h
    (repeat' (first | refine g_seq (h := ?_) | refine g_region (h := ?_) | refine l_nil (h := ?_) | refine n_then (h := ?_) | refine l_pures1 (h := ?_) | (refine l_at 167 ?_; refine l_call (copyCheck_none b (.slice p l.length c)) ?_) | refine l_load (h := ?_) | refine l_store (h := ?_) | refine g_ret (h := ?_) | (refine l_append_str (h := ?_); intro _ _)))
    rename_i p' c'
    (refine n_shut (A := Bld b (l ++ s)) (K := BldK b (l ++ s) (((some ⟨b, 0, none⟩ : Option Addr), p', c'))) (hid_shuts (((some ⟨b, 0, none⟩ : Option Addr), p', c')) (Or.inr rfl)) (h := ?_) (p := by dsimp only [BldK]; (try simp only [List.map_nil, List.length_nil, List.length_set, List.length_append, List.length_cons, List.length_singleton, List.map_append, List.map_cons, Nat.zero_add, bsV_append]); exact parts_of))
    refine r_retk [Bld b (l ++ s)] ?_
    exact ⟨⟨_, rfl⟩, rfl⟩
  · dsimp only at h; subst h
    (repeat' (first | refine g_seq (h := ?_) | refine g_region (h := ?_) | refine l_nil (h := ?_) | refine n_then (h := ?_) | refine l_pures1 (h := ?_) | (refine l_at 167 ?_; refine l_call (copyCheck_some b (.slice p l.length c)) ?_) | refine l_load (h := ?_) | refine l_store (h := ?_) | refine g_ret (h := ?_) | (refine l_append_str (h := ?_); intro _ _)))
    rename_i p' c'
    (refine n_shut (A := Bld b (l ++ s)) (K := BldK b (l ++ s) (((some ⟨b, 0, none⟩ : Option Addr), p', c'))) (hid_shuts (((some ⟨b, 0, none⟩ : Option Addr), p', c')) (Or.inr rfl)) (h := ?_) (p := by dsimp only [BldK]; (try simp only [List.map_nil, List.length_nil, List.length_set, List.length_append, List.length_cons, List.length_singleton, List.map_append, List.map_cons, Nat.zero_add, bsV_append]); exact parts_of))
    refine r_retk [Bld b (l ++ s)] ?_
    exact ⟨⟨_, rfl⟩, rfl⟩
theorem bsV_one (x : UInt8) : bsV [x] = [Value.int .u8 x.toNat] := rfl
theorem bWriteByte_does (b : Nat) (l : List UInt8) (x : UInt8) (hl : l.length < 1000000) : Does Tryz.prog 201 [.pointer (some ⟨b, 0, none⟩), .int .u8 x.toNat] [Bld b l]
    (fun v H => (∃ x, v = x) ∧ H = [Bld b (l ++ [x])]) := by
  refine does_of Tryz.func201 Tryz.ntmps201 rfl rfl rfl (fun w0 F0 => ?_)
  refine g_open (A := Bld b l) (h := ?_); (rintro ⟨q, p, c⟩ hq; dsimp only [BldK, List.cons_append, List.nil_append])
  rcases hq with h | h
  · dsimp only at h; subst h
    (repeat' (first | refine g_seq (h := ?_) | refine g_region (h := ?_) | refine l_nil (h := ?_) | refine n_then (h := ?_) | refine l_pures1 (h := ?_) | (refine l_at 167 ?_; refine l_call (copyCheck_none b (.slice p l.length c)) ?_) | refine l_load (h := ?_) | refine l_store (h := ?_) | (refine l_buildSlice1 (h := ?_); intro _) | (refine l_append_new (h := ?_); intro _ _) | refine g_ret (h := ?_)))
    rename_i p' c'
    (refine n_shut (A := Bld b (l ++ [x])) (K := BldK b (l ++ [x]) (((some ⟨b, 0, none⟩ : Option Addr), p', c'))) (hid_shuts (((some ⟨b, 0, none⟩ : Option Addr), p', c')) (Or.inr rfl)) (h := ?_) (p := by dsimp only [BldK]; (try simp only [List.map_nil, List.length_nil, List.length_set, List.length_append, List.length_cons, List.length_singleton, List.map_append, List.map_cons, Nat.zero_add, bsV_append, bsV_one]); exact parts_of))
    refine r_retk [Bld b (l ++ [x])] ?_
    exact ⟨⟨_, rfl⟩, rfl⟩
  · dsimp only at h; subst h
    (repeat' (first | refine g_seq (h := ?_) | refine g_region (h := ?_) | refine l_nil (h := ?_) | refine n_then (h := ?_) | refine l_pures1 (h := ?_) | (refine l_at 167 ?_; refine l_call (copyCheck_some b (.slice p l.length c)) ?_) | refine l_load (h := ?_) | refine l_store (h := ?_) | (refine l_buildSlice1 (h := ?_); intro _) | (refine l_append_new (h := ?_); intro _ _) | refine g_ret (h := ?_)))
    rename_i p' c'
    (refine n_shut (A := Bld b (l ++ [x])) (K := BldK b (l ++ [x]) (((some ⟨b, 0, none⟩ : Option Addr), p', c'))) (hid_shuts (((some ⟨b, 0, none⟩ : Option Addr), p', c')) (Or.inr rfl)) (h := ?_) (p := by dsimp only [BldK]; (try simp only [List.map_nil, List.length_nil, List.length_set, List.length_append, List.length_cons, List.length_singleton, List.map_append, List.map_cons, Nat.zero_add, bsV_append, bsV_one]); exact parts_of))
    refine r_retk [Bld b (l ++ [x])] ?_
    exact ⟨⟨_, rfl⟩, rfl⟩
theorem bString_does (b : Nat) (l : List UInt8) (hl : 0 < l.length) : Does Tryz.prog 126 [.pointer (some ⟨b, 0, none⟩)] [Bld b l] (fun v H => v = .string (str l) ∧ H = []) := by
  refine does_of Tryz.func126 Tryz.ntmps126 rfl rfl rfl (fun w0 F0 => ?_)
  refine g_open (A := Bld b l) (h := ?_); (rintro ⟨q, p, c⟩ hq; dsimp only [BldK, List.cons_append, List.nil_append])
  refine g_ptr (Take.there Take.here) hl ?_
  rintro g h hc
  subst h
  (repeat' (first | refine g_seq (h := ?_) | refine g_region (h := ?_) | refine l_nil (h := ?_) | refine n_then (h := ?_) | refine l_pures1 (h := ?_)))
  (refine g_draw [cl _ _ _] (h := a_pass2 (h := ?_)))
  (repeat' (first | refine l_nil (h := ?_) | refine n_then (h := ?_) | refine g_ret (h := ?_) | refine a_done (h := ?_) | refine a_load (h := a_pass2 (h := ?_)) | refine a_one (h := ?_) | refine n_any (h := a_pass2 (h := ?_)) | refine l_sliceData (h := ?_) | refine l_unsafeString (h := ?_)))
  refine r_retk [] ?_
  exact ⟨rfl, rfl⟩
end Go.Proofs.YtmfmommgooccnaaGreat
/- slices.Grow, Concat at nodes' elements; node.laid. -/
set_option maxRecDepth 20000
set_option linter.unusedVariables false
set_option linter.unusedSimpArgs false
namespace Go.Proofs.YtmfmommgooccnaaGreat
open Go.Proofs.YtmfmommgooccnaaGreat.SL

/-- What stands in the first k views. -/
def cat (ss : List (Value × List Value)) (k : Nat) : List Value := (ss.take k).flatMap (·.2)
theorem cat_zero (ss : List (Value × List Value)) : cat ss 0 = [] := by simp [cat]
theorem cat_succ {ss : List (Value × List Value)} {k : Nat} {v : Value} {xs : List Value} (h : ss[k]? = some (v, xs)) : cat ss (k + 1) = cat ss k ++ xs := by
  unfold cat
  rw [List.take_add_one, h]
  simp
theorem cat_le (ss : List (Value × List Value)) (k : Nat) : (cat ss k).length ≤ (cat ss ss.length).length := by
  unfold cat
  have : ss = ss.take k ++ ss.drop k := (List.take_append_drop k ss).symm
  rw [List.take_length]
  conv => rhs; rw [this, List.flatMap_append, List.length_append]
  omega
theorem srcs_get {ss : List (Value × List Value)} {R : List SProp} {k : Nat} (h : ∀ s ∈ ss, Src R s.1 s.2) (hk : k < ss.length) : ∃ p m c xs, ss[k]? = some (.slice p m c, xs) ∧ xs.length = m ∧ Src R (.slice p m c) xs ∧ (ss.map Prod.fst)[k]? = some (.slice p m c) := by
  have hs := h ss[k] (List.getElem_mem hk)
  obtain ⟨p, m, c, e, hl, _⟩ := id hs
  refine ⟨p, m, c, ss[k].2, ?_, hl, e ▸ hs, ?_⟩
  · rw [List.getElem?_eq_getElem hk, ← e]
  · rw [List.getElem?_map, List.getElem?_eq_getElem hk, ← e]; rfl

theorem all_sub {xs : List Value} (h : xs.all (·.oneCell') = true) (a b : Nat) : ((xs.drop a).take b).all (·.oneCell') = true := by
  rw [List.all_eq_true] at h ⊢
  exact fun x hx => h x (List.mem_of_mem_drop (List.mem_of_mem_take hx))
theorem laid_cat {xs : List Value} {m a g : Nat} {more : List Value} (v1 v2 v3 : Value) (hl : xs.length = m) :
    cat [(v1, (xs.drop (Int.toNat 0)).take (min a m - Int.toNat 0)), (v2, more), (v3, (xs.drop (min (min a m + g) m)).take (m - min (min a m + g) m))] 3 = laidL xs a g more := by
  have e1 : (xs.drop (Int.toNat 0)).take (min a m - Int.toNat 0) = xs.take a := by
    rw [show Int.toNat 0 = 0 from rfl, List.drop_zero, Nat.sub_zero]
    rcases Nat.le_total a m with h | h
    · rw [Nat.min_eq_left h]
    · rw [Nat.min_eq_right h, List.take_of_length_le (by omega), List.take_of_length_le (by omega)]
  have e2 : (xs.drop (min (min a m + g) m)).take (m - min (min a m + g) m) = xs.drop (a + g) := by
    rw [List.take_of_length_le (by simp; omega)]
    rcases Nat.lt_or_ge (a + g) m with h | h
    · rw [show min (min a m + g) m = a + g by omega]
    · rw [List.drop_of_length_le (by omega), List.drop_of_length_le (by omega)]
  rw [e1, e2]
  simp [cat, laidL]


theorem GrowU_does (n : Nat) (hn : n < 1000000) : Does Tryz.prog 205 [.slice none 0 0, .int .i64 n] [] (fun v H => ∃ p c, v = .slice p 0 c ∧ H = [vec 30 1 p 0 c []]) := by
  refine does_of Tryz.func205 Tryz.ntmps205 rfl rfl rfl (fun w0 F0 => ?_)
  have e1 : IntKind.i64.wrap ((n : Int) - IntKind.i64.wrap (((0 : Nat) : Int) - ((0 : Nat) : Int))) = n := by rw [wrapI64 (n := ((0 : Nat) : Int) - ((0 : Nat) : Int)) (by omega), wrapI64 (by omega)]; omega
  (repeat' (first | refine g_seq (h := ?_) | refine g_region (h := ?_) | refine l_nil (h := ?_) | refine n_then (h := ?_) | refine l_pures1 (h := ?_) | refine l_slice (h := ?_) | refine g_skip (h := ?_) | refine g_ret (h := ?_) | refine g_cond_f (h := ?_) | (refine l_append_zeros (h := ?_); intro _ _ _) | refine l_slice_any (h := ?_) | (refine g_sp (h1 := ?_) (h0 := ?_) <;> intro h)))
  · rw [e1] at *
    (repeat' (first | refine g_seq (h := ?_) | refine g_region (h := ?_) | refine l_nil (h := ?_) | refine n_then (h := ?_) | refine l_pures1 (h := ?_) | refine l_guard_yes (h := ?_) | refine l_guard_no (h := ?_) | refine l_guard_no0 (h := ?_) | refine l_guard_un (h := ?_) | refine l_guard_un0 (h := ?_) | refine l_load (h := ?_) | refine l_store (h := ?_) | (refine l_box (h := ?_); intro _) | (refine l_alloc (h := ?_); intro _) | refine l_index (h := ?_) | refine l_slice_str (h := ?_) | refine l_concat (h := ?_) | (refine l_makeSlice (h := ?_); intro _) | refine l_load_at (h := ?_) | refine l_store_at (h := ?_) | refine l_load_p (h := ?_) | refine l_indexAddr (h := ?_) | refine l_rem (h := ?_) | refine l_quo (h := ?_) | refine l_shr (h := ?_) | refine l_shl (h := ?_) | refine l_slice (h := ?_) | refine l_copy_in (h := ?_) | refine l_copy_row (h := ?_) | refine l_str_bs (h := ?_) | (refine l_bytes_of (h := ?_); intro _ _ _) | refine l_copy_str (h := ?_) | refine l_lookup _ (h := ?_) | refine l_lookup_ok _ (h := ?_) | refine l_mapUpdate (h := ?_) | refine l_delete0 (h := ?_) | refine l_len_map (h := ?_) | (refine l_buildSlice1 (h := ?_); intro _) | (refine l_append_new (h := ?_); intro _ _) | (refine l_append (h := ?_); intro _ _) | refine l_pure_none (h := ?_) | refine g_skip (h := ?_) | refine g_ret (h := ?_) | refine n_then_ret (h := ?_) | refine n_block_ret (h := ?_) | refine g_block (h := ?_) | refine g_exit (h := ?_) | refine n_then_exit (h := ?_) | refine n_block_hit (h := ?_) | refine a_done (h := ?_) | refine a_load (h := a_pass2 (h := ?_)) | refine a_one (h := ?_) | refine n_any (h := a_pass2 (h := ?_)) | refine a_load_at (h := a_pass2 (h := ?_)) | refine a_load_p (h := a_pass2 (h := ?_)) | refine a_loadg_p (h := a_pass2 (h := ?_)) | refine a_loadg (h := a_pass2 (h := ?_)) | refine a_v (h := ?_) | refine a_vg (h := ?_) | refine a_no (h := ?_) | refine a_un (h := ?_) | refine n_block_miss (h := ?_) | refine n_block (h := ?_) | refine g_cond_t (h := ?_) | refine g_cond_f (h := ?_) | refine l_load_vec (h := ?_) | refine l_store_vec (h := ?_) | refine a_load_vec (h := a_pass2 (h := ?_)) | refine a_loadg_vec (h := a_pass2 (h := ?_)) | (refine l_append_str (h := ?_); intro _ _) | (refine l_append_zeros (h := ?_); intro _ _ _) | refine l_to_unsafe (h := ?_) | refine l_from_unsafe (h := ?_) | refine l_neq_same (h := ?_) | refine l_slice_any (h := ?_) | (refine l_buildSlice2 (h := ?_); intro _) | (refine l_buildSlice3 (h := ?_); intro _) | (refine l_buildSlice4 (h := ?_); intro _) | refine l_slice3n (h := ?_) | refine l_sliceData (h := ?_) | refine l_outer_same outer_same (h := ?_) | refine l_unsafeString (h := ?_) | refine g_scope (h := ?_) | refine n_scope (h := ?_) | refine n_scope_ret (h := ?_) | refine n_scope_exit (h := ?_) | refine g_label (h := ?_) | refine l_assert (h := ?_) | refine l_eqStruct (h := ?_) | refine l_neStruct (h := ?_) | refine l_indexArr (h := ?_) | refine n_lw (h := ?_) | refine lw_nil (h := ?_) | refine lw_step (h := ?_) | refine lw_guard_yes (h := ?_) | refine l_lookup_k _ (h := ?_) | refine l_lookup_ok_k _ (h := ?_) | refine l_mapUpdate_k (h := ?_) | refine l_delete0_k (h := ?_) | refine l_len_map_k (h := ?_) | refine gr_seq (h := ?_) | refine gr_region (h := ?_) | refine nr_then (h := ?_) | refine gr_block (h := ?_) | refine gr_skip (h := ?_) | refine gr_exit (h := ?_) | refine gr_ret (h := ?_) | refine gr_label (h := ?_) | refine gr_cond_t (h := ?_) | refine gr_cond_f (h := ?_) | refine a_w (h := ?_) | refine a_lookupg_k _ (h := a_pass2 (h := ?_)) | (refine a_spT (h := ?_); intro h) | (refine a_spF (h := ?_); intro h) | (refine a_sp (h1 := ?_) (h0 := ?_) <;> intro h) | (refine l_spT (h := ?_); intro h) | (refine l_spF (h := ?_); intro h) | (refine l_sp (h1 := ?_) (h0 := ?_) <;> intro h) | (refine g_spT (h := ?_); intro h) | (refine g_spF (h := ?_); intro h) | (refine g_sp (h1 := ?_) (h0 := ?_) <;> intro h) | (refine gr_spT (h := ?_); intro h) | (refine gr_spF (h := ?_); intro h) | (refine gr_sp (h1 := ?_) (h0 := ?_) <;> intro h) | refine a_fork2 (h1 := ?_) (h2 := ?_) | refine a_fork3 (h1 := ?_) (h2 := ?_) (h3 := ?_) | refine a1_of (h := ?_)))
    rename_i g c hc
    refine r_ret ?_
    exact ⟨_, _, rfl, rfl⟩
  · refine n_inv (fun i => vec_nil (30) (1) i) ?_
    refine r_ret ?_
    exact ⟨_, _, rfl, rfl⟩

set_option maxHeartbeats 1000000 in
theorem ConcatU_does (ss : List (Value × List Value)) (R : List SProp) (sb c : Nat) (hs : ∀ s ∈ ss, Src R s.1 s.2) (h1 : ∀ s ∈ ss, s.2.all (·.oneCell') = true) (hc : (cat ss ss.length).length < 1000000) (hn : ss.length < 1000) :
    Does Tryz.prog 185 [.slice (some ⟨sb, 0, none⟩) ss.length c] (cl sb 174 (ss.map Prod.fst) :: R)
      (fun v H => ∃ p c', v = .slice p (cat ss ss.length).length c' ∧ H = vec 30 1 p (cat ss ss.length).length c' (cat ss ss.length) :: cl sb 174 (ss.map Prod.fst) :: R) := by
  refine does_of Tryz.func185 Tryz.ntmps185 rfl rfl rfl (fun w0 F0 => ?_)
  (repeat' (first | refine g_seq (h := ?_) | refine g_region (h := ?_) | refine l_nil (h := ?_) | refine n_then (h := ?_) | refine l_pures1 (h := ?_) | refine g_block (h := ?_)))
  (refine g_loop (fun k : Nat => [(3, .int .i64 (cat ss k).length), (11, .int .i64 k), (10, .int .i64 ss.length), (9, .slice (some ⟨sb, 0, none⟩) ss.length c), (0, .slice (some ⟨sb, 0, none⟩) ss.length c)]) (fun _ => cl sb 174 (ss.map Prod.fst) :: R) (fun k => k ≤ ss.length) (fun k => ss.length - k) (0) ?_ ?_ ?_ ?_; rotate_left; (repeat (first | refine ts_nil | (refine ts_cons rfl ?_ ?_; first | (with_reducible rfl) | rotate_left))); (first | (intro _ i; with_reducible refine i) | rotate_left); rotate_left; (try omega); rotate_right)
  · intro k hk
    (repeat' (first | refine g_seq (h := ?_) | refine g_region (h := ?_) | refine l_nil (h := ?_) | refine n_then (h := ?_) | refine l_pures1 (h := ?_) | refine l_indexAddr (h := ?_) | refine g_skip (h := ?_) | refine g_block (h := ?_) | refine g_exit (h := ?_) | refine n_then_exit (h := ?_) | refine n_block_hit (h := ?_) | (refine g_sp (h1 := ?_) (h0 := ?_) <;> intro h)))
    · have hlt : k < ss.length := by omega
      obtain ⟨p, m, c', xs, g1, g2, g3, g4⟩ := srcs_get hs hlt
      have hg : (ss.map Prod.fst)[0 + ((k : Nat) : Int).toNat * 1]? = some (.slice p m c') := by rw [Nat.zero_add, Nat.mul_one, Int.toNat_natCast]; exact g4
      have e1 := cat_succ g1
      have e2 := cat_le ss (k + 1)
      have e3 : (cat ss (k + 1)).length = (cat ss k).length + m := by rw [e1, List.length_append, g2]
      have e4 : IntKind.i64.wrap (((cat ss k).length : Int) + (m : Int)) = ((cat ss (k + 1)).length : Int) := by rw [wrapI64 (by omega), e3]; omega
      (repeat' (first | refine g_seq (h := ?_) | refine g_region (h := ?_) | refine l_nil (h := ?_) | refine n_then (h := ?_) | refine l_pures1 (h := ?_) | refine l_load_at (h := ?_) | refine g_skip (h := ?_) | refine n_block (h := ?_) | (refine g_spF (h := ?_); intro h)))
      (refine n_back (k + 1) ?_ ?_ ?_ ?_; rotate_left; rotate_left; (repeat (first | refine ts_nil | (refine ts_cons rfl ?_ ?_; first | (with_reducible rfl) | rotate_left))); (first | (intro _ i; with_reducible refine i) | rotate_left); (try omega); (try omega))
      · rw [e4]
      · rw [wrapI64 (by omega)]; rfl
    · obtain rfl : k = ss.length := by omega
      (repeat' (first | refine g_seq (h := ?_) | refine g_region (h := ?_) | refine l_nil (h := ?_) | refine n_then (h := ?_) | refine l_pures1 (h := ?_) | (refine l_at 205 ?_; refine l_call_ (GrowU_does (cat ss ss.length).length hc) ?_; rintro _ _ _ ⟨p, c', rfl, rfl⟩ he; cases he) | refine g_block (h := ?_)))
      (refine g_loop (fun y : Nat × Option Addr × Nat => [(6, .slice y.2.1 (cat ss y.1).length y.2.2), (27, .int .i64 y.1), (26, .int .i64 ss.length), (25, .slice (some ⟨sb, 0, none⟩) ss.length c)]) (fun y => vec 30 1 y.2.1 (cat ss y.1).length y.2.2 (cat ss y.1) :: cl sb 174 (ss.map Prod.fst) :: R) (fun y => y.1 ≤ ss.length) (fun y => ss.length - y.1) ((0, p, c')) ?_ ?_ ?_ ?_; rotate_left; (repeat (first | refine ts_nil | (refine ts_cons rfl ?_ ?_; first | (with_reducible rfl) | rotate_left))); (first | (intro _ i; with_reducible refine i) | rotate_left); rotate_left; (try omega); rotate_right)
      · rintro ⟨k, p, c'⟩ hk
        dsimp only at hk
        (repeat' (first | refine g_seq (h := ?_) | refine g_region (h := ?_) | refine l_nil (h := ?_) | refine n_then (h := ?_) | refine l_pures1 (h := ?_) | refine l_indexAddr (h := ?_) | refine g_skip (h := ?_) | refine g_ret (h := ?_) | refine g_block (h := ?_) | refine g_exit (h := ?_) | refine n_then_exit (h := ?_) | refine n_block_hit (h := ?_) | (refine g_sp (h1 := ?_) (h0 := ?_) <;> intro h)))
        · have hlt : k < ss.length := by omega
          obtain ⟨q, m, c2, xs, g1, g2, g3, g4⟩ := srcs_get hs hlt
          have hg : (ss.map Prod.fst)[0 + ((k : Nat) : Int).toNat * 1]? = some (.slice q m c2) := by rw [Nat.zero_add, Nat.mul_one, Int.toNat_natCast]; exact g4
          have e1 := cat_succ g1
          have e2 := cat_le ss (k + 1)
          have e3 : (cat ss (k + 1)).length = (cat ss k).length + m := by rw [e1, List.length_append, g2]
          have h2 : xs.all (·.oneCell') = true := h1 _ (List.mem_of_getElem? g1)
          (repeat' (first | refine g_region (h := ?_) | refine l_nil (h := ?_) | refine n_then (h := ?_) | refine l_pures1 (h := ?_) | refine l_load_at (h := ?_)))
          refine l_append_src env_ok rfl rfl rfl rfl rfl rfl Take.here g3.cons h2 (by dsimp only; constructor <;> omega) ?_
          intro p2 c3
          (repeat' (first | refine g_region (h := ?_) | refine l_nil (h := ?_) | refine n_then (h := ?_) | refine l_pures1 (h := ?_) | refine n_block (h := ?_)))
          (refine n_back ((k + 1, p2, c3)) ?_ ?_ ?_ ?_; rotate_left; rotate_left; (repeat (first | refine ts_nil | (refine ts_cons rfl ?_ ?_; first | (with_reducible rfl) | rotate_left))); (first | (intro _ i; with_reducible refine i) | rotate_left); (try omega); (try omega))
          · dsimp only; rw [e3]
          · rw [wrapI64 (by omega)]; rfl
          · intro w i; dsimp only; rw [e3, e1]; exact i
        · obtain rfl : k = ss.length := by omega
          (repeat' (first | refine g_seq (h := ?_) | refine g_region (h := ?_) | refine l_nil (h := ?_) | refine n_then (h := ?_) | refine l_pures1 (h := ?_) | refine l_guard_yes (h := ?_) | refine l_guard_no (h := ?_) | refine l_guard_no0 (h := ?_) | refine l_guard_un (h := ?_) | refine l_guard_un0 (h := ?_) | refine l_load (h := ?_) | refine l_store (h := ?_) | (refine l_box (h := ?_); intro _) | (refine l_alloc (h := ?_); intro _) | refine l_index (h := ?_) | refine l_slice_str (h := ?_) | refine l_concat (h := ?_) | (refine l_makeSlice (h := ?_); intro _) | refine l_load_at (h := ?_) | refine l_store_at (h := ?_) | refine l_load_p (h := ?_) | refine l_indexAddr (h := ?_) | refine l_rem (h := ?_) | refine l_quo (h := ?_) | refine l_shr (h := ?_) | refine l_shl (h := ?_) | refine l_slice (h := ?_) | refine l_copy_in (h := ?_) | refine l_copy_row (h := ?_) | refine l_str_bs (h := ?_) | (refine l_bytes_of (h := ?_); intro _ _ _) | refine l_copy_str (h := ?_) | refine l_lookup _ (h := ?_) | refine l_lookup_ok _ (h := ?_) | refine l_mapUpdate (h := ?_) | refine l_delete0 (h := ?_) | refine l_len_map (h := ?_) | (refine l_buildSlice1 (h := ?_); intro _) | (refine l_append_new (h := ?_); intro _ _) | (refine l_append (h := ?_); intro _ _) | refine l_pure_none (h := ?_) | refine g_skip (h := ?_) | refine g_ret (h := ?_) | refine n_then_ret (h := ?_) | refine n_block_ret (h := ?_) | refine g_block (h := ?_) | refine g_exit (h := ?_) | refine n_then_exit (h := ?_) | refine n_block_hit (h := ?_) | refine a_done (h := ?_) | refine a_load (h := a_pass2 (h := ?_)) | refine a_one (h := ?_) | refine n_any (h := a_pass2 (h := ?_)) | refine a_load_at (h := a_pass2 (h := ?_)) | refine a_load_p (h := a_pass2 (h := ?_)) | refine a_loadg_p (h := a_pass2 (h := ?_)) | refine a_loadg (h := a_pass2 (h := ?_)) | refine a_v (h := ?_) | refine a_vg (h := ?_) | refine a_no (h := ?_) | refine a_un (h := ?_) | refine n_block_miss (h := ?_) | refine n_block (h := ?_) | refine g_cond_t (h := ?_) | refine g_cond_f (h := ?_) | refine l_load_vec (h := ?_) | refine l_store_vec (h := ?_) | refine a_load_vec (h := a_pass2 (h := ?_)) | refine a_loadg_vec (h := a_pass2 (h := ?_)) | (refine l_append_str (h := ?_); intro _ _) | (refine l_append_zeros (h := ?_); intro _ _ _) | refine l_to_unsafe (h := ?_) | refine l_from_unsafe (h := ?_) | refine l_neq_same (h := ?_) | refine l_slice_any (h := ?_) | (refine l_buildSlice2 (h := ?_); intro _) | (refine l_buildSlice3 (h := ?_); intro _) | (refine l_buildSlice4 (h := ?_); intro _) | refine l_slice3n (h := ?_) | refine l_sliceData (h := ?_) | refine l_outer_same outer_same (h := ?_) | refine l_unsafeString (h := ?_) | refine g_scope (h := ?_) | refine n_scope (h := ?_) | refine n_scope_ret (h := ?_) | refine n_scope_exit (h := ?_) | refine g_label (h := ?_) | refine l_assert (h := ?_) | refine l_eqStruct (h := ?_) | refine l_neStruct (h := ?_) | refine l_indexArr (h := ?_) | refine n_lw (h := ?_) | refine lw_nil (h := ?_) | refine lw_step (h := ?_) | refine lw_guard_yes (h := ?_) | refine l_lookup_k _ (h := ?_) | refine l_lookup_ok_k _ (h := ?_) | refine l_mapUpdate_k (h := ?_) | refine l_delete0_k (h := ?_) | refine l_len_map_k (h := ?_) | refine gr_seq (h := ?_) | refine gr_region (h := ?_) | refine nr_then (h := ?_) | refine gr_block (h := ?_) | refine gr_skip (h := ?_) | refine gr_exit (h := ?_) | refine gr_ret (h := ?_) | refine gr_label (h := ?_) | refine gr_cond_t (h := ?_) | refine gr_cond_f (h := ?_) | refine a_w (h := ?_) | refine a_lookupg_k _ (h := a_pass2 (h := ?_)) | (refine a_spT (h := ?_); intro h) | (refine a_spF (h := ?_); intro h) | (refine a_sp (h1 := ?_) (h0 := ?_) <;> intro h) | (refine l_spT (h := ?_); intro h) | (refine l_spF (h := ?_); intro h) | (refine l_sp (h1 := ?_) (h0 := ?_) <;> intro h) | (refine g_spT (h := ?_); intro h) | (refine g_spF (h := ?_); intro h) | (refine g_sp (h1 := ?_) (h0 := ?_) <;> intro h) | (refine gr_spT (h := ?_); intro h) | (refine gr_spF (h := ?_); intro h) | (refine gr_sp (h1 := ?_) (h0 := ?_) <;> intro h) | refine a_fork2 (h1 := ?_) (h2 := ?_) | refine a_fork3 (h1 := ?_) (h2 := ?_) (h3 := ?_) | refine a1_of (h := ?_)))
          refine r_ret ?_
          exact ⟨_, _, rfl, rfl⟩
      · simp [cat_zero]
      · rfl
      · intro w i; dsimp only; rw [cat_zero]; exact i
  · rw [cat_zero]; rfl
  · rfl

set_option maxHeartbeats 1000000 in
theorem laidU_one (xs : List Value) (p : Option Addr) (m c at' gone mb mc : Nat) (x : Value) (hx : xs.all (·.oneCell') = true) (hx1 : x.oneCell' = true) (hm : m < 100000) (h1 : at' < 100000) (h2 : gone < 100000) :
    Does Tryz.prog 154 [.slice p m c, .int .i64 at', .int .i64 gone, .slice (some ⟨mb, 0, none⟩) 1 mc] [vec 30 1 p m c xs, cl mb 30 [x]]
      (fun v H => ∃ p' c', v = .slice p' (laidL xs at' gone [x]).length c' ∧ H = [vec 30 1 p' (laidL xs at' gone [x]).length c' (laidL xs at' gone [x]), vec 30 1 p m c xs]) := by
  refine does_le Take.here (fun hc hl => ?_)
  rw [Nat.mul_one] at hl
  have e1 : min (at' : Int) (m : Int) = ((min at' m : Nat) : Int) := by omega
  have e2 : min (IntKind.i64.wrap (((min at' m : Nat) : Int) + (gone : Int))) (m : Int) = ((min (min at' m + gone) m : Nat) : Int) := by rw [wrapI64 (by omega)]; omega
  have hcat : ∀ sb, Does Tryz.prog 185 [.slice (some ⟨sb, 0, none⟩) 3 3] [cl sb 174 [.slice (sliceP p (Int.toNat 0) 1 c) (min at' m - Int.toNat 0) (c - Int.toNat 0), .slice (some ⟨mb, 0, none⟩) 1 mc, .slice (sliceP p (min (min at' m + gone) m) 1 c) (m - min (min at' m + gone) m) (c - min (min at' m + gone) m)], vec 30 1 p m c xs, cl mb 30 [x]]
      (fun v H => ∃ p' c', v = .slice p' (laidL xs at' gone [x]).length c' ∧ H = [vec 30 1 p' (laidL xs at' gone [x]).length c' (laidL xs at' gone [x]), cl sb 174 [.slice (sliceP p (Int.toNat 0) 1 c) (min at' m - Int.toNat 0) (c - Int.toNat 0), .slice (some ⟨mb, 0, none⟩) 1 mc, .slice (sliceP p (min (min at' m + gone) m) 1 c) (m - min (min at' m + gone) m) (c - min (min at' m + gone) m)], vec 30 1 p m c xs, cl mb 30 [x]]) := fun sb => by
    have ec : cat [(.slice (sliceP p (Int.toNat 0) 1 c) (min at' m - Int.toNat 0) (c - Int.toNat 0), (xs.drop (Int.toNat 0)).take (min at' m - Int.toNat 0)), (.slice (some ⟨mb, 0, none⟩) 1 mc, [x]), (.slice (sliceP p (min (min at' m + gone) m) 1 c) (m - min (min at' m + gone) m) (c - min (min at' m + gone) m), (xs.drop (min (min at' m + gone) m)).take (m - min (min at' m + gone) m))] 3 = laidL xs at' gone [x] := laid_cat _ _ _ hl
    have := ConcatU_does [(.slice (sliceP p (Int.toNat 0) 1 c) (min at' m - Int.toNat 0) (c - Int.toNat 0), (xs.drop (Int.toNat 0)).take (min at' m - Int.toNat 0)), (.slice (some ⟨mb, 0, none⟩) 1 mc, [x]), (.slice (sliceP p (min (min at' m + gone) m) 1 c) (m - min (min at' m + gone) m) (c - min (min at' m + gone) m), (xs.drop (min (min at' m + gone) m)).take (m - min (min at' m + gone) m))] [vec 30 1 p m c xs, cl mb 30 [x]] sb 3 ?_ ?_ ?_ (by simp)
    · simp only [List.length_cons, List.length_nil, Nat.zero_add, Nat.reduceAdd, ec] at this
      exact this
    · intro s hs
      simp only [List.mem_cons, List.not_mem_nil, or_false] at hs
      rcases hs with rfl | rfl | rfl
      · exact src_cut Take.here hl (Nat.zero_le _) (Nat.min_le_right _ _) hc
      · exact src_cl (Take.there Take.here) rfl
      · exact src_cut Take.here hl (Nat.min_le_right _ _) (Nat.le_refl _) hc
    · intro s hs
      simp only [List.mem_cons, List.not_mem_nil, or_false] at hs
      rcases hs with rfl | rfl | rfl
      · exact all_sub hx _ _
      · simp [hx1]
      · exact all_sub hx _ _
    · show (cat _ 3).length < _
      rw [ec]
      have := laidL_len xs at' gone [x]
      simp only [List.length_cons, List.length_nil] at this
      omega
  refine does_of Tryz.func154 Tryz.ntmps154 rfl rfl rfl (fun w0 F0 => ?_)
  (repeat' (first | refine g_seq (h := ?_) | refine g_region (h := ?_) | refine l_nil (h := ?_) | refine n_then (h := ?_) | refine l_pures1 (h := ?_)))
  (simp only [cond_true, cond_false, mxI_eq, mnI_eq])
  rw [e1]
  (refine g_draw [] (h := a_pass2 (h := ?_)))
  (simp only [cond_true, cond_false, mxI_eq, mnI_eq])
  rw [e2]
  (repeat' (first | refine l_nil (h := ?_) | refine a_one (h := ?_) | refine n_any (h := a_pass2 (h := ?_)) | refine a_v (h := ?_) | refine l_slice_any (h := ?_) | (refine l_buildSlice3 (h := ?_); intro _)))
  rename_i sb
  rw [show (((min at' m : Nat) : Int)).toNat = min at' m from Int.toNat_natCast _, show (((min (min at' m + gone) m : Nat) : Int)).toNat = min (min at' m + gone) m from Int.toNat_natCast _, show (((m : Nat) : Int)).toNat = m from Int.toNat_natCast _]
  (repeat' (first | refine l_nil (h := ?_) | refine n_then (h := ?_) | (refine l_at 185 ?_; refine l_call_ (hcat sb) ?_; rintro _ _ _ ⟨p', c', rfl, rfl⟩ he; cases he) | refine g_ret (h := ?_) | refine a_done (h := ?_) | refine n_any (h := a_pass2 (h := ?_))))
  refine r_retk [vec 30 1 p' (laidL xs at' gone [x]).length c' (laidL xs at' gone [x]), vec 30 1 p m c xs] ?_
  exact ⟨_, _, rfl, rfl⟩

set_option maxHeartbeats 1000000 in
theorem laidU_none (xs : List Value) (p : Option Addr) (m c at' gone : Nat) (hx : xs.all (·.oneCell') = true) (hm : m < 100000) (h1 : at' < 100000) (h2 : gone < 100000) :
    Does Tryz.prog 154 [.slice p m c, .int .i64 at', .int .i64 gone, .slice none 0 0] [vec 30 1 p m c xs]
      (fun v H => ∃ p' c', v = .slice p' (laidL xs at' gone []).length c' ∧ H = [vec 30 1 p' (laidL xs at' gone []).length c' (laidL xs at' gone []), vec 30 1 p m c xs]) := by
  refine does_le Take.here (fun hc hl => ?_)
  rw [Nat.mul_one] at hl
  have e1 : min (at' : Int) (m : Int) = ((min at' m : Nat) : Int) := by omega
  have e2 : min (IntKind.i64.wrap (((min at' m : Nat) : Int) + (gone : Int))) (m : Int) = ((min (min at' m + gone) m : Nat) : Int) := by rw [wrapI64 (by omega)]; omega
  have hcat : ∀ sb, Does Tryz.prog 185 [.slice (some ⟨sb, 0, none⟩) 3 3] [cl sb 174 [.slice (sliceP p (Int.toNat 0) 1 c) (min at' m - Int.toNat 0) (c - Int.toNat 0), .slice none 0 0, .slice (sliceP p (min (min at' m + gone) m) 1 c) (m - min (min at' m + gone) m) (c - min (min at' m + gone) m)], vec 30 1 p m c xs]
      (fun v H => ∃ p' c', v = .slice p' (laidL xs at' gone []).length c' ∧ H = [vec 30 1 p' (laidL xs at' gone []).length c' (laidL xs at' gone []), cl sb 174 [.slice (sliceP p (Int.toNat 0) 1 c) (min at' m - Int.toNat 0) (c - Int.toNat 0), .slice none 0 0, .slice (sliceP p (min (min at' m + gone) m) 1 c) (m - min (min at' m + gone) m) (c - min (min at' m + gone) m)], vec 30 1 p m c xs]) := fun sb => by
    have ec : cat [(.slice (sliceP p (Int.toNat 0) 1 c) (min at' m - Int.toNat 0) (c - Int.toNat 0), (xs.drop (Int.toNat 0)).take (min at' m - Int.toNat 0)), (.slice none 0 0, []), (.slice (sliceP p (min (min at' m + gone) m) 1 c) (m - min (min at' m + gone) m) (c - min (min at' m + gone) m), (xs.drop (min (min at' m + gone) m)).take (m - min (min at' m + gone) m))] 3 = laidL xs at' gone [] := laid_cat _ _ _ hl
    have := ConcatU_does [(.slice (sliceP p (Int.toNat 0) 1 c) (min at' m - Int.toNat 0) (c - Int.toNat 0), (xs.drop (Int.toNat 0)).take (min at' m - Int.toNat 0)), (.slice none 0 0, []), (.slice (sliceP p (min (min at' m + gone) m) 1 c) (m - min (min at' m + gone) m) (c - min (min at' m + gone) m), (xs.drop (min (min at' m + gone) m)).take (m - min (min at' m + gone) m))] [vec 30 1 p m c xs] sb 3 ?_ ?_ ?_ (by simp)
    · simp only [List.length_cons, List.length_nil, Nat.zero_add, Nat.reduceAdd, ec] at this
      exact this
    · intro s hs
      simp only [List.mem_cons, List.not_mem_nil, or_false] at hs
      rcases hs with rfl | rfl | rfl
      · exact src_cut Take.here hl (Nat.zero_le _) (Nat.min_le_right _ _) hc
      · exact src_none _
      · exact src_cut Take.here hl (Nat.min_le_right _ _) (Nat.le_refl _) hc
    · intro s hs
      simp only [List.mem_cons, List.not_mem_nil, or_false] at hs
      rcases hs with rfl | rfl | rfl
      · exact all_sub hx _ _
      · rfl
      · exact all_sub hx _ _
    · show (cat _ 3).length < _
      rw [ec]
      have := laidL_len xs at' gone []
      simp only [List.length_cons, List.length_nil] at this
      omega
  refine does_of Tryz.func154 Tryz.ntmps154 rfl rfl rfl (fun w0 F0 => ?_)
  (repeat' (first | refine g_seq (h := ?_) | refine g_region (h := ?_) | refine l_nil (h := ?_) | refine n_then (h := ?_) | refine l_pures1 (h := ?_)))
  (simp only [cond_true, cond_false, mxI_eq, mnI_eq])
  rw [e1]
  (refine g_draw [] (h := a_pass2 (h := ?_)))
  (simp only [cond_true, cond_false, mxI_eq, mnI_eq])
  rw [e2]
  (repeat' (first | refine l_nil (h := ?_) | refine a_one (h := ?_) | refine n_any (h := a_pass2 (h := ?_)) | refine a_v (h := ?_) | refine l_slice_any (h := ?_) | (refine l_buildSlice3 (h := ?_); intro _)))
  rename_i sb
  rw [show (((min at' m : Nat) : Int)).toNat = min at' m from Int.toNat_natCast _, show (((min (min at' m + gone) m : Nat) : Int)).toNat = min (min at' m + gone) m from Int.toNat_natCast _, show (((m : Nat) : Int)).toNat = m from Int.toNat_natCast _]
  (repeat' (first | refine l_nil (h := ?_) | refine n_then (h := ?_) | (refine l_at 185 ?_; refine l_call_ (hcat sb) ?_; rintro _ _ _ ⟨p', c', rfl, rfl⟩ he; cases he) | refine g_ret (h := ?_) | refine a_done (h := ?_) | refine n_any (h := a_pass2 (h := ?_))))
  refine r_retk [vec 30 1 p' (laidL xs at' gone []).length c' (laidL xs at' gone []), vec 30 1 p m c xs] ?_
  exact ⟨_, _, rfl, rfl⟩


theorem GrowS_does (n : Nat) (hn : n < 1000000) : Does Tryz.prog 206 [.slice none 0 0, .int .i64 n] [] (fun v H => ∃ p c, v = .slice p 0 c ∧ H = [vec 9 1 p 0 c []]) := by
  refine does_of Tryz.func206 Tryz.ntmps206 rfl rfl rfl (fun w0 F0 => ?_)
  have e1 : IntKind.i64.wrap ((n : Int) - IntKind.i64.wrap (((0 : Nat) : Int) - ((0 : Nat) : Int))) = n := by rw [wrapI64 (n := ((0 : Nat) : Int) - ((0 : Nat) : Int)) (by omega), wrapI64 (by omega)]; omega
  (repeat' (first | refine g_seq (h := ?_) | refine g_region (h := ?_) | refine l_nil (h := ?_) | refine n_then (h := ?_) | refine l_pures1 (h := ?_) | refine l_slice (h := ?_) | refine g_skip (h := ?_) | refine g_ret (h := ?_) | refine g_cond_f (h := ?_) | (refine l_append_zeros (h := ?_); intro _ _ _) | refine l_slice_any (h := ?_) | (refine g_sp (h1 := ?_) (h0 := ?_) <;> intro h)))
  · rw [e1] at *
    (repeat' (first | refine g_seq (h := ?_) | refine g_region (h := ?_) | refine l_nil (h := ?_) | refine n_then (h := ?_) | refine l_pures1 (h := ?_) | refine l_guard_yes (h := ?_) | refine l_guard_no (h := ?_) | refine l_guard_no0 (h := ?_) | refine l_guard_un (h := ?_) | refine l_guard_un0 (h := ?_) | refine l_load (h := ?_) | refine l_store (h := ?_) | (refine l_box (h := ?_); intro _) | (refine l_alloc (h := ?_); intro _) | refine l_index (h := ?_) | refine l_slice_str (h := ?_) | refine l_concat (h := ?_) | (refine l_makeSlice (h := ?_); intro _) | refine l_load_at (h := ?_) | refine l_store_at (h := ?_) | refine l_load_p (h := ?_) | refine l_indexAddr (h := ?_) | refine l_rem (h := ?_) | refine l_quo (h := ?_) | refine l_shr (h := ?_) | refine l_shl (h := ?_) | refine l_slice (h := ?_) | refine l_copy_in (h := ?_) | refine l_copy_row (h := ?_) | refine l_str_bs (h := ?_) | (refine l_bytes_of (h := ?_); intro _ _ _) | refine l_copy_str (h := ?_) | refine l_lookup _ (h := ?_) | refine l_lookup_ok _ (h := ?_) | refine l_mapUpdate (h := ?_) | refine l_delete0 (h := ?_) | refine l_len_map (h := ?_) | (refine l_buildSlice1 (h := ?_); intro _) | (refine l_append_new (h := ?_); intro _ _) | (refine l_append (h := ?_); intro _ _) | refine l_pure_none (h := ?_) | refine g_skip (h := ?_) | refine g_ret (h := ?_) | refine n_then_ret (h := ?_) | refine n_block_ret (h := ?_) | refine g_block (h := ?_) | refine g_exit (h := ?_) | refine n_then_exit (h := ?_) | refine n_block_hit (h := ?_) | refine a_done (h := ?_) | refine a_load (h := a_pass2 (h := ?_)) | refine a_one (h := ?_) | refine n_any (h := a_pass2 (h := ?_)) | refine a_load_at (h := a_pass2 (h := ?_)) | refine a_load_p (h := a_pass2 (h := ?_)) | refine a_loadg_p (h := a_pass2 (h := ?_)) | refine a_loadg (h := a_pass2 (h := ?_)) | refine a_v (h := ?_) | refine a_vg (h := ?_) | refine a_no (h := ?_) | refine a_un (h := ?_) | refine n_block_miss (h := ?_) | refine n_block (h := ?_) | refine g_cond_t (h := ?_) | refine g_cond_f (h := ?_) | refine l_load_vec (h := ?_) | refine l_store_vec (h := ?_) | refine a_load_vec (h := a_pass2 (h := ?_)) | refine a_loadg_vec (h := a_pass2 (h := ?_)) | (refine l_append_str (h := ?_); intro _ _) | (refine l_append_zeros (h := ?_); intro _ _ _) | refine l_to_unsafe (h := ?_) | refine l_from_unsafe (h := ?_) | refine l_neq_same (h := ?_) | refine l_slice_any (h := ?_) | (refine l_buildSlice2 (h := ?_); intro _) | (refine l_buildSlice3 (h := ?_); intro _) | (refine l_buildSlice4 (h := ?_); intro _) | refine l_slice3n (h := ?_) | refine l_sliceData (h := ?_) | refine l_outer_same outer_same (h := ?_) | refine l_unsafeString (h := ?_) | refine g_scope (h := ?_) | refine n_scope (h := ?_) | refine n_scope_ret (h := ?_) | refine n_scope_exit (h := ?_) | refine g_label (h := ?_) | refine l_assert (h := ?_) | refine l_eqStruct (h := ?_) | refine l_neStruct (h := ?_) | refine l_indexArr (h := ?_) | refine n_lw (h := ?_) | refine lw_nil (h := ?_) | refine lw_step (h := ?_) | refine lw_guard_yes (h := ?_) | refine l_lookup_k _ (h := ?_) | refine l_lookup_ok_k _ (h := ?_) | refine l_mapUpdate_k (h := ?_) | refine l_delete0_k (h := ?_) | refine l_len_map_k (h := ?_) | refine gr_seq (h := ?_) | refine gr_region (h := ?_) | refine nr_then (h := ?_) | refine gr_block (h := ?_) | refine gr_skip (h := ?_) | refine gr_exit (h := ?_) | refine gr_ret (h := ?_) | refine gr_label (h := ?_) | refine gr_cond_t (h := ?_) | refine gr_cond_f (h := ?_) | refine a_w (h := ?_) | refine a_lookupg_k _ (h := a_pass2 (h := ?_)) | (refine a_spT (h := ?_); intro h) | (refine a_spF (h := ?_); intro h) | (refine a_sp (h1 := ?_) (h0 := ?_) <;> intro h) | (refine l_spT (h := ?_); intro h) | (refine l_spF (h := ?_); intro h) | (refine l_sp (h1 := ?_) (h0 := ?_) <;> intro h) | (refine g_spT (h := ?_); intro h) | (refine g_spF (h := ?_); intro h) | (refine g_sp (h1 := ?_) (h0 := ?_) <;> intro h) | (refine gr_spT (h := ?_); intro h) | (refine gr_spF (h := ?_); intro h) | (refine gr_sp (h1 := ?_) (h0 := ?_) <;> intro h) | refine a_fork2 (h1 := ?_) (h2 := ?_) | refine a_fork3 (h1 := ?_) (h2 := ?_) (h3 := ?_) | refine a1_of (h := ?_)))
    rename_i g c hc
    refine r_ret ?_
    exact ⟨_, _, rfl, rfl⟩
  · refine n_inv (fun i => vec_nil (9) (1) i) ?_
    refine r_ret ?_
    exact ⟨_, _, rfl, rfl⟩

set_option maxHeartbeats 1000000 in
theorem ConcatS_does (ss : List (Value × List Value)) (R : List SProp) (sb c : Nat) (hs : ∀ s ∈ ss, Src R s.1 s.2) (h1 : ∀ s ∈ ss, s.2.all (·.oneCell') = true) (hc : (cat ss ss.length).length < 1000000) (hn : ss.length < 1000) :
    Does Tryz.prog 186 [.slice (some ⟨sb, 0, none⟩) ss.length c] (cl sb 53 (ss.map Prod.fst) :: R)
      (fun v H => ∃ p c', v = .slice p (cat ss ss.length).length c' ∧ H = vec 9 1 p (cat ss ss.length).length c' (cat ss ss.length) :: cl sb 53 (ss.map Prod.fst) :: R) := by
  refine does_of Tryz.func186 Tryz.ntmps186 rfl rfl rfl (fun w0 F0 => ?_)
  (repeat' (first | refine g_seq (h := ?_) | refine g_region (h := ?_) | refine l_nil (h := ?_) | refine n_then (h := ?_) | refine l_pures1 (h := ?_) | refine g_block (h := ?_)))
  (refine g_loop (fun k : Nat => [(3, .int .i64 (cat ss k).length), (11, .int .i64 k), (10, .int .i64 ss.length), (9, .slice (some ⟨sb, 0, none⟩) ss.length c), (0, .slice (some ⟨sb, 0, none⟩) ss.length c)]) (fun _ => cl sb 53 (ss.map Prod.fst) :: R) (fun k => k ≤ ss.length) (fun k => ss.length - k) (0) ?_ ?_ ?_ ?_; rotate_left; (repeat (first | refine ts_nil | (refine ts_cons rfl ?_ ?_; first | (with_reducible rfl) | rotate_left))); (first | (intro _ i; with_reducible refine i) | rotate_left); rotate_left; (try omega); rotate_right)
  · intro k hk
    (repeat' (first | refine g_seq (h := ?_) | refine g_region (h := ?_) | refine l_nil (h := ?_) | refine n_then (h := ?_) | refine l_pures1 (h := ?_) | refine l_indexAddr (h := ?_) | refine g_skip (h := ?_) | refine g_block (h := ?_) | refine g_exit (h := ?_) | refine n_then_exit (h := ?_) | refine n_block_hit (h := ?_) | (refine g_sp (h1 := ?_) (h0 := ?_) <;> intro h)))
    · have hlt : k < ss.length := by omega
      obtain ⟨p, m, c', xs, g1, g2, g3, g4⟩ := srcs_get hs hlt
      have hg : (ss.map Prod.fst)[0 + ((k : Nat) : Int).toNat * 1]? = some (.slice p m c') := by rw [Nat.zero_add, Nat.mul_one, Int.toNat_natCast]; exact g4
      have e1 := cat_succ g1
      have e2 := cat_le ss (k + 1)
      have e3 : (cat ss (k + 1)).length = (cat ss k).length + m := by rw [e1, List.length_append, g2]
      have e4 : IntKind.i64.wrap (((cat ss k).length : Int) + (m : Int)) = ((cat ss (k + 1)).length : Int) := by rw [wrapI64 (by omega), e3]; omega
      (repeat' (first | refine g_seq (h := ?_) | refine g_region (h := ?_) | refine l_nil (h := ?_) | refine n_then (h := ?_) | refine l_pures1 (h := ?_) | refine l_load_at (h := ?_) | refine g_skip (h := ?_) | refine n_block (h := ?_) | (refine g_spF (h := ?_); intro h)))
      (refine n_back (k + 1) ?_ ?_ ?_ ?_; rotate_left; rotate_left; (repeat (first | refine ts_nil | (refine ts_cons rfl ?_ ?_; first | (with_reducible rfl) | rotate_left))); (first | (intro _ i; with_reducible refine i) | rotate_left); (try omega); (try omega))
      · rw [e4]
      · rw [wrapI64 (by omega)]; rfl
    · obtain rfl : k = ss.length := by omega
      (repeat' (first | refine g_seq (h := ?_) | refine g_region (h := ?_) | refine l_nil (h := ?_) | refine n_then (h := ?_) | refine l_pures1 (h := ?_) | (refine l_at 206 ?_; refine l_call_ (GrowS_does (cat ss ss.length).length hc) ?_; rintro _ _ _ ⟨p, c', rfl, rfl⟩ he; cases he) | refine g_block (h := ?_)))
      (refine g_loop (fun y : Nat × Option Addr × Nat => [(6, .slice y.2.1 (cat ss y.1).length y.2.2), (27, .int .i64 y.1), (26, .int .i64 ss.length), (25, .slice (some ⟨sb, 0, none⟩) ss.length c)]) (fun y => vec 9 1 y.2.1 (cat ss y.1).length y.2.2 (cat ss y.1) :: cl sb 53 (ss.map Prod.fst) :: R) (fun y => y.1 ≤ ss.length) (fun y => ss.length - y.1) ((0, p, c')) ?_ ?_ ?_ ?_; rotate_left; (repeat (first | refine ts_nil | (refine ts_cons rfl ?_ ?_; first | (with_reducible rfl) | rotate_left))); (first | (intro _ i; with_reducible refine i) | rotate_left); rotate_left; (try omega); rotate_right)
      · rintro ⟨k, p, c'⟩ hk
        dsimp only at hk
        (repeat' (first | refine g_seq (h := ?_) | refine g_region (h := ?_) | refine l_nil (h := ?_) | refine n_then (h := ?_) | refine l_pures1 (h := ?_) | refine l_indexAddr (h := ?_) | refine g_skip (h := ?_) | refine g_ret (h := ?_) | refine g_block (h := ?_) | refine g_exit (h := ?_) | refine n_then_exit (h := ?_) | refine n_block_hit (h := ?_) | (refine g_sp (h1 := ?_) (h0 := ?_) <;> intro h)))
        · have hlt : k < ss.length := by omega
          obtain ⟨q, m, c2, xs, g1, g2, g3, g4⟩ := srcs_get hs hlt
          have hg : (ss.map Prod.fst)[0 + ((k : Nat) : Int).toNat * 1]? = some (.slice q m c2) := by rw [Nat.zero_add, Nat.mul_one, Int.toNat_natCast]; exact g4
          have e1 := cat_succ g1
          have e2 := cat_le ss (k + 1)
          have e3 : (cat ss (k + 1)).length = (cat ss k).length + m := by rw [e1, List.length_append, g2]
          have h2 : xs.all (·.oneCell') = true := h1 _ (List.mem_of_getElem? g1)
          (repeat' (first | refine g_region (h := ?_) | refine l_nil (h := ?_) | refine n_then (h := ?_) | refine l_pures1 (h := ?_) | refine l_load_at (h := ?_)))
          refine l_append_src env_ok rfl rfl rfl rfl rfl rfl Take.here g3.cons h2 (by dsimp only; constructor <;> omega) ?_
          intro p2 c3
          (repeat' (first | refine g_region (h := ?_) | refine l_nil (h := ?_) | refine n_then (h := ?_) | refine l_pures1 (h := ?_) | refine n_block (h := ?_)))
          (refine n_back ((k + 1, p2, c3)) ?_ ?_ ?_ ?_; rotate_left; rotate_left; (repeat (first | refine ts_nil | (refine ts_cons rfl ?_ ?_; first | (with_reducible rfl) | rotate_left))); (first | (intro _ i; with_reducible refine i) | rotate_left); (try omega); (try omega))
          · dsimp only; rw [e3]
          · rw [wrapI64 (by omega)]; rfl
          · intro w i; dsimp only; rw [e3, e1]; exact i
        · obtain rfl : k = ss.length := by omega
          (repeat' (first | refine g_seq (h := ?_) | refine g_region (h := ?_) | refine l_nil (h := ?_) | refine n_then (h := ?_) | refine l_pures1 (h := ?_) | refine l_guard_yes (h := ?_) | refine l_guard_no (h := ?_) | refine l_guard_no0 (h := ?_) | refine l_guard_un (h := ?_) | refine l_guard_un0 (h := ?_) | refine l_load (h := ?_) | refine l_store (h := ?_) | (refine l_box (h := ?_); intro _) | (refine l_alloc (h := ?_); intro _) | refine l_index (h := ?_) | refine l_slice_str (h := ?_) | refine l_concat (h := ?_) | (refine l_makeSlice (h := ?_); intro _) | refine l_load_at (h := ?_) | refine l_store_at (h := ?_) | refine l_load_p (h := ?_) | refine l_indexAddr (h := ?_) | refine l_rem (h := ?_) | refine l_quo (h := ?_) | refine l_shr (h := ?_) | refine l_shl (h := ?_) | refine l_slice (h := ?_) | refine l_copy_in (h := ?_) | refine l_copy_row (h := ?_) | refine l_str_bs (h := ?_) | (refine l_bytes_of (h := ?_); intro _ _ _) | refine l_copy_str (h := ?_) | refine l_lookup _ (h := ?_) | refine l_lookup_ok _ (h := ?_) | refine l_mapUpdate (h := ?_) | refine l_delete0 (h := ?_) | refine l_len_map (h := ?_) | (refine l_buildSlice1 (h := ?_); intro _) | (refine l_append_new (h := ?_); intro _ _) | (refine l_append (h := ?_); intro _ _) | refine l_pure_none (h := ?_) | refine g_skip (h := ?_) | refine g_ret (h := ?_) | refine n_then_ret (h := ?_) | refine n_block_ret (h := ?_) | refine g_block (h := ?_) | refine g_exit (h := ?_) | refine n_then_exit (h := ?_) | refine n_block_hit (h := ?_) | refine a_done (h := ?_) | refine a_load (h := a_pass2 (h := ?_)) | refine a_one (h := ?_) | refine n_any (h := a_pass2 (h := ?_)) | refine a_load_at (h := a_pass2 (h := ?_)) | refine a_load_p (h := a_pass2 (h := ?_)) | refine a_loadg_p (h := a_pass2 (h := ?_)) | refine a_loadg (h := a_pass2 (h := ?_)) | refine a_v (h := ?_) | refine a_vg (h := ?_) | refine a_no (h := ?_) | refine a_un (h := ?_) | refine n_block_miss (h := ?_) | refine n_block (h := ?_) | refine g_cond_t (h := ?_) | refine g_cond_f (h := ?_) | refine l_load_vec (h := ?_) | refine l_store_vec (h := ?_) | refine a_load_vec (h := a_pass2 (h := ?_)) | refine a_loadg_vec (h := a_pass2 (h := ?_)) | (refine l_append_str (h := ?_); intro _ _) | (refine l_append_zeros (h := ?_); intro _ _ _) | refine l_to_unsafe (h := ?_) | refine l_from_unsafe (h := ?_) | refine l_neq_same (h := ?_) | refine l_slice_any (h := ?_) | (refine l_buildSlice2 (h := ?_); intro _) | (refine l_buildSlice3 (h := ?_); intro _) | (refine l_buildSlice4 (h := ?_); intro _) | refine l_slice3n (h := ?_) | refine l_sliceData (h := ?_) | refine l_outer_same outer_same (h := ?_) | refine l_unsafeString (h := ?_) | refine g_scope (h := ?_) | refine n_scope (h := ?_) | refine n_scope_ret (h := ?_) | refine n_scope_exit (h := ?_) | refine g_label (h := ?_) | refine l_assert (h := ?_) | refine l_eqStruct (h := ?_) | refine l_neStruct (h := ?_) | refine l_indexArr (h := ?_) | refine n_lw (h := ?_) | refine lw_nil (h := ?_) | refine lw_step (h := ?_) | refine lw_guard_yes (h := ?_) | refine l_lookup_k _ (h := ?_) | refine l_lookup_ok_k _ (h := ?_) | refine l_mapUpdate_k (h := ?_) | refine l_delete0_k (h := ?_) | refine l_len_map_k (h := ?_) | refine gr_seq (h := ?_) | refine gr_region (h := ?_) | refine nr_then (h := ?_) | refine gr_block (h := ?_) | refine gr_skip (h := ?_) | refine gr_exit (h := ?_) | refine gr_ret (h := ?_) | refine gr_label (h := ?_) | refine gr_cond_t (h := ?_) | refine gr_cond_f (h := ?_) | refine a_w (h := ?_) | refine a_lookupg_k _ (h := a_pass2 (h := ?_)) | (refine a_spT (h := ?_); intro h) | (refine a_spF (h := ?_); intro h) | (refine a_sp (h1 := ?_) (h0 := ?_) <;> intro h) | (refine l_spT (h := ?_); intro h) | (refine l_spF (h := ?_); intro h) | (refine l_sp (h1 := ?_) (h0 := ?_) <;> intro h) | (refine g_spT (h := ?_); intro h) | (refine g_spF (h := ?_); intro h) | (refine g_sp (h1 := ?_) (h0 := ?_) <;> intro h) | (refine gr_spT (h := ?_); intro h) | (refine gr_spF (h := ?_); intro h) | (refine gr_sp (h1 := ?_) (h0 := ?_) <;> intro h) | refine a_fork2 (h1 := ?_) (h2 := ?_) | refine a_fork3 (h1 := ?_) (h2 := ?_) (h3 := ?_) | refine a1_of (h := ?_)))
          refine r_ret ?_
          exact ⟨_, _, rfl, rfl⟩
      · simp [cat_zero]
      · rfl
      · intro w i; dsimp only; rw [cat_zero]; exact i
  · rw [cat_zero]; rfl
  · rfl

set_option maxHeartbeats 1000000 in
theorem laidS_one (xs : List Value) (p : Option Addr) (m c at' gone mb mc : Nat) (x : Value) (hx : xs.all (·.oneCell') = true) (hx1 : x.oneCell' = true) (hm : m < 100000) (h1 : at' < 100000) (h2 : gone < 100000) :
    Does Tryz.prog 155 [.slice p m c, .int .i64 at', .int .i64 gone, .slice (some ⟨mb, 0, none⟩) 1 mc] [vec 9 1 p m c xs, cl mb 9 [x]]
      (fun v H => ∃ p' c', v = .slice p' (laidL xs at' gone [x]).length c' ∧ H = [vec 9 1 p' (laidL xs at' gone [x]).length c' (laidL xs at' gone [x]), vec 9 1 p m c xs]) := by
  refine does_le Take.here (fun hc hl => ?_)
  rw [Nat.mul_one] at hl
  have e1 : min (at' : Int) (m : Int) = ((min at' m : Nat) : Int) := by omega
  have e2 : min (IntKind.i64.wrap (((min at' m : Nat) : Int) + (gone : Int))) (m : Int) = ((min (min at' m + gone) m : Nat) : Int) := by rw [wrapI64 (by omega)]; omega
  have hcat : ∀ sb, Does Tryz.prog 186 [.slice (some ⟨sb, 0, none⟩) 3 3] [cl sb 53 [.slice (sliceP p (Int.toNat 0) 1 c) (min at' m - Int.toNat 0) (c - Int.toNat 0), .slice (some ⟨mb, 0, none⟩) 1 mc, .slice (sliceP p (min (min at' m + gone) m) 1 c) (m - min (min at' m + gone) m) (c - min (min at' m + gone) m)], vec 9 1 p m c xs, cl mb 9 [x]]
      (fun v H => ∃ p' c', v = .slice p' (laidL xs at' gone [x]).length c' ∧ H = [vec 9 1 p' (laidL xs at' gone [x]).length c' (laidL xs at' gone [x]), cl sb 53 [.slice (sliceP p (Int.toNat 0) 1 c) (min at' m - Int.toNat 0) (c - Int.toNat 0), .slice (some ⟨mb, 0, none⟩) 1 mc, .slice (sliceP p (min (min at' m + gone) m) 1 c) (m - min (min at' m + gone) m) (c - min (min at' m + gone) m)], vec 9 1 p m c xs, cl mb 9 [x]]) := fun sb => by
    have ec : cat [(.slice (sliceP p (Int.toNat 0) 1 c) (min at' m - Int.toNat 0) (c - Int.toNat 0), (xs.drop (Int.toNat 0)).take (min at' m - Int.toNat 0)), (.slice (some ⟨mb, 0, none⟩) 1 mc, [x]), (.slice (sliceP p (min (min at' m + gone) m) 1 c) (m - min (min at' m + gone) m) (c - min (min at' m + gone) m), (xs.drop (min (min at' m + gone) m)).take (m - min (min at' m + gone) m))] 3 = laidL xs at' gone [x] := laid_cat _ _ _ hl
    have := ConcatS_does [(.slice (sliceP p (Int.toNat 0) 1 c) (min at' m - Int.toNat 0) (c - Int.toNat 0), (xs.drop (Int.toNat 0)).take (min at' m - Int.toNat 0)), (.slice (some ⟨mb, 0, none⟩) 1 mc, [x]), (.slice (sliceP p (min (min at' m + gone) m) 1 c) (m - min (min at' m + gone) m) (c - min (min at' m + gone) m), (xs.drop (min (min at' m + gone) m)).take (m - min (min at' m + gone) m))] [vec 9 1 p m c xs, cl mb 9 [x]] sb 3 ?_ ?_ ?_ (by simp)
    · simp only [List.length_cons, List.length_nil, Nat.zero_add, Nat.reduceAdd, ec] at this
      exact this
    · intro s hs
      simp only [List.mem_cons, List.not_mem_nil, or_false] at hs
      rcases hs with rfl | rfl | rfl
      · exact src_cut Take.here hl (Nat.zero_le _) (Nat.min_le_right _ _) hc
      · exact src_cl (Take.there Take.here) rfl
      · exact src_cut Take.here hl (Nat.min_le_right _ _) (Nat.le_refl _) hc
    · intro s hs
      simp only [List.mem_cons, List.not_mem_nil, or_false] at hs
      rcases hs with rfl | rfl | rfl
      · exact all_sub hx _ _
      · simp [hx1]
      · exact all_sub hx _ _
    · show (cat _ 3).length < _
      rw [ec]
      have := laidL_len xs at' gone [x]
      simp only [List.length_cons, List.length_nil] at this
      omega
  refine does_of Tryz.func155 Tryz.ntmps155 rfl rfl rfl (fun w0 F0 => ?_)
  (repeat' (first | refine g_seq (h := ?_) | refine g_region (h := ?_) | refine l_nil (h := ?_) | refine n_then (h := ?_) | refine l_pures1 (h := ?_)))
  (simp only [cond_true, cond_false, mxI_eq, mnI_eq])
  rw [e1]
  (refine g_draw [] (h := a_pass2 (h := ?_)))
  (simp only [cond_true, cond_false, mxI_eq, mnI_eq])
  rw [e2]
  (repeat' (first | refine l_nil (h := ?_) | refine a_one (h := ?_) | refine n_any (h := a_pass2 (h := ?_)) | refine a_v (h := ?_) | refine l_slice_any (h := ?_) | (refine l_buildSlice3 (h := ?_); intro _)))
  rename_i sb
  rw [show (((min at' m : Nat) : Int)).toNat = min at' m from Int.toNat_natCast _, show (((min (min at' m + gone) m : Nat) : Int)).toNat = min (min at' m + gone) m from Int.toNat_natCast _, show (((m : Nat) : Int)).toNat = m from Int.toNat_natCast _]
  (repeat' (first | refine l_nil (h := ?_) | refine n_then (h := ?_) | (refine l_at 186 ?_; refine l_call_ (hcat sb) ?_; rintro _ _ _ ⟨p', c', rfl, rfl⟩ he; cases he) | refine g_ret (h := ?_) | refine a_done (h := ?_) | refine n_any (h := a_pass2 (h := ?_))))
  refine r_retk [vec 9 1 p' (laidL xs at' gone [x]).length c' (laidL xs at' gone [x]), vec 9 1 p m c xs] ?_
  exact ⟨_, _, rfl, rfl⟩

set_option maxHeartbeats 1000000 in
theorem laidS_none (xs : List Value) (p : Option Addr) (m c at' gone : Nat) (hx : xs.all (·.oneCell') = true) (hm : m < 100000) (h1 : at' < 100000) (h2 : gone < 100000) :
    Does Tryz.prog 155 [.slice p m c, .int .i64 at', .int .i64 gone, .slice none 0 0] [vec 9 1 p m c xs]
      (fun v H => ∃ p' c', v = .slice p' (laidL xs at' gone []).length c' ∧ H = [vec 9 1 p' (laidL xs at' gone []).length c' (laidL xs at' gone []), vec 9 1 p m c xs]) := by
  refine does_le Take.here (fun hc hl => ?_)
  rw [Nat.mul_one] at hl
  have e1 : min (at' : Int) (m : Int) = ((min at' m : Nat) : Int) := by omega
  have e2 : min (IntKind.i64.wrap (((min at' m : Nat) : Int) + (gone : Int))) (m : Int) = ((min (min at' m + gone) m : Nat) : Int) := by rw [wrapI64 (by omega)]; omega
  have hcat : ∀ sb, Does Tryz.prog 186 [.slice (some ⟨sb, 0, none⟩) 3 3] [cl sb 53 [.slice (sliceP p (Int.toNat 0) 1 c) (min at' m - Int.toNat 0) (c - Int.toNat 0), .slice none 0 0, .slice (sliceP p (min (min at' m + gone) m) 1 c) (m - min (min at' m + gone) m) (c - min (min at' m + gone) m)], vec 9 1 p m c xs]
      (fun v H => ∃ p' c', v = .slice p' (laidL xs at' gone []).length c' ∧ H = [vec 9 1 p' (laidL xs at' gone []).length c' (laidL xs at' gone []), cl sb 53 [.slice (sliceP p (Int.toNat 0) 1 c) (min at' m - Int.toNat 0) (c - Int.toNat 0), .slice none 0 0, .slice (sliceP p (min (min at' m + gone) m) 1 c) (m - min (min at' m + gone) m) (c - min (min at' m + gone) m)], vec 9 1 p m c xs]) := fun sb => by
    have ec : cat [(.slice (sliceP p (Int.toNat 0) 1 c) (min at' m - Int.toNat 0) (c - Int.toNat 0), (xs.drop (Int.toNat 0)).take (min at' m - Int.toNat 0)), (.slice none 0 0, []), (.slice (sliceP p (min (min at' m + gone) m) 1 c) (m - min (min at' m + gone) m) (c - min (min at' m + gone) m), (xs.drop (min (min at' m + gone) m)).take (m - min (min at' m + gone) m))] 3 = laidL xs at' gone [] := laid_cat _ _ _ hl
    have := ConcatS_does [(.slice (sliceP p (Int.toNat 0) 1 c) (min at' m - Int.toNat 0) (c - Int.toNat 0), (xs.drop (Int.toNat 0)).take (min at' m - Int.toNat 0)), (.slice none 0 0, []), (.slice (sliceP p (min (min at' m + gone) m) 1 c) (m - min (min at' m + gone) m) (c - min (min at' m + gone) m), (xs.drop (min (min at' m + gone) m)).take (m - min (min at' m + gone) m))] [vec 9 1 p m c xs] sb 3 ?_ ?_ ?_ (by simp)
    · simp only [List.length_cons, List.length_nil, Nat.zero_add, Nat.reduceAdd, ec] at this
      exact this
    · intro s hs
      simp only [List.mem_cons, List.not_mem_nil, or_false] at hs
      rcases hs with rfl | rfl | rfl
      · exact src_cut Take.here hl (Nat.zero_le _) (Nat.min_le_right _ _) hc
      · exact src_none _
      · exact src_cut Take.here hl (Nat.min_le_right _ _) (Nat.le_refl _) hc
    · intro s hs
      simp only [List.mem_cons, List.not_mem_nil, or_false] at hs
      rcases hs with rfl | rfl | rfl
      · exact all_sub hx _ _
      · rfl
      · exact all_sub hx _ _
    · show (cat _ 3).length < _
      rw [ec]
      have := laidL_len xs at' gone []
      simp only [List.length_cons, List.length_nil] at this
      omega
  refine does_of Tryz.func155 Tryz.ntmps155 rfl rfl rfl (fun w0 F0 => ?_)
  (repeat' (first | refine g_seq (h := ?_) | refine g_region (h := ?_) | refine l_nil (h := ?_) | refine n_then (h := ?_) | refine l_pures1 (h := ?_)))
  (simp only [cond_true, cond_false, mxI_eq, mnI_eq])
  rw [e1]
  (refine g_draw [] (h := a_pass2 (h := ?_)))
  (simp only [cond_true, cond_false, mxI_eq, mnI_eq])
  rw [e2]
  (repeat' (first | refine l_nil (h := ?_) | refine a_one (h := ?_) | refine n_any (h := a_pass2 (h := ?_)) | refine a_v (h := ?_) | refine l_slice_any (h := ?_) | (refine l_buildSlice3 (h := ?_); intro _)))
  rename_i sb
  rw [show (((min at' m : Nat) : Int)).toNat = min at' m from Int.toNat_natCast _, show (((min (min at' m + gone) m : Nat) : Int)).toNat = min (min at' m + gone) m from Int.toNat_natCast _, show (((m : Nat) : Int)).toNat = m from Int.toNat_natCast _]
  (repeat' (first | refine l_nil (h := ?_) | refine n_then (h := ?_) | (refine l_at 186 ?_; refine l_call_ (hcat sb) ?_; rintro _ _ _ ⟨p', c', rfl, rfl⟩ he; cases he) | refine g_ret (h := ?_) | refine a_done (h := ?_) | refine n_any (h := a_pass2 (h := ?_))))
  refine r_retk [vec 9 1 p' (laidL xs at' gone []).length c' (laidL xs at' gone []), vec 9 1 p m c xs] ?_
  exact ⟨_, _, rfl, rfl⟩


theorem GrowI_does (n : Nat) (hn : n < 1000000) : Does Tryz.prog 207 [.slice none 0 0, .int .i64 n] [] (fun v H => ∃ p c, v = .slice p 0 c ∧ H = [vec 3 1 p 0 c []]) := by
  refine does_of Tryz.func207 Tryz.ntmps207 rfl rfl rfl (fun w0 F0 => ?_)
  have e1 : IntKind.i64.wrap ((n : Int) - IntKind.i64.wrap (((0 : Nat) : Int) - ((0 : Nat) : Int))) = n := by rw [wrapI64 (n := ((0 : Nat) : Int) - ((0 : Nat) : Int)) (by omega), wrapI64 (by omega)]; omega
  (repeat' (first | refine g_seq (h := ?_) | refine g_region (h := ?_) | refine l_nil (h := ?_) | refine n_then (h := ?_) | refine l_pures1 (h := ?_) | refine l_slice (h := ?_) | refine g_skip (h := ?_) | refine g_ret (h := ?_) | refine g_cond_f (h := ?_) | (refine l_append_zeros (h := ?_); intro _ _ _) | refine l_slice_any (h := ?_) | (refine g_sp (h1 := ?_) (h0 := ?_) <;> intro h)))
  · rw [e1] at *
    (repeat' (first | refine g_seq (h := ?_) | refine g_region (h := ?_) | refine l_nil (h := ?_) | refine n_then (h := ?_) | refine l_pures1 (h := ?_) | refine l_guard_yes (h := ?_) | refine l_guard_no (h := ?_) | refine l_guard_no0 (h := ?_) | refine l_guard_un (h := ?_) | refine l_guard_un0 (h := ?_) | refine l_load (h := ?_) | refine l_store (h := ?_) | (refine l_box (h := ?_); intro _) | (refine l_alloc (h := ?_); intro _) | refine l_index (h := ?_) | refine l_slice_str (h := ?_) | refine l_concat (h := ?_) | (refine l_makeSlice (h := ?_); intro _) | refine l_load_at (h := ?_) | refine l_store_at (h := ?_) | refine l_load_p (h := ?_) | refine l_indexAddr (h := ?_) | refine l_rem (h := ?_) | refine l_quo (h := ?_) | refine l_shr (h := ?_) | refine l_shl (h := ?_) | refine l_slice (h := ?_) | refine l_copy_in (h := ?_) | refine l_copy_row (h := ?_) | refine l_str_bs (h := ?_) | (refine l_bytes_of (h := ?_); intro _ _ _) | refine l_copy_str (h := ?_) | refine l_lookup _ (h := ?_) | refine l_lookup_ok _ (h := ?_) | refine l_mapUpdate (h := ?_) | refine l_delete0 (h := ?_) | refine l_len_map (h := ?_) | (refine l_buildSlice1 (h := ?_); intro _) | (refine l_append_new (h := ?_); intro _ _) | (refine l_append (h := ?_); intro _ _) | refine l_pure_none (h := ?_) | refine g_skip (h := ?_) | refine g_ret (h := ?_) | refine n_then_ret (h := ?_) | refine n_block_ret (h := ?_) | refine g_block (h := ?_) | refine g_exit (h := ?_) | refine n_then_exit (h := ?_) | refine n_block_hit (h := ?_) | refine a_done (h := ?_) | refine a_load (h := a_pass2 (h := ?_)) | refine a_one (h := ?_) | refine n_any (h := a_pass2 (h := ?_)) | refine a_load_at (h := a_pass2 (h := ?_)) | refine a_load_p (h := a_pass2 (h := ?_)) | refine a_loadg_p (h := a_pass2 (h := ?_)) | refine a_loadg (h := a_pass2 (h := ?_)) | refine a_v (h := ?_) | refine a_vg (h := ?_) | refine a_no (h := ?_) | refine a_un (h := ?_) | refine n_block_miss (h := ?_) | refine n_block (h := ?_) | refine g_cond_t (h := ?_) | refine g_cond_f (h := ?_) | refine l_load_vec (h := ?_) | refine l_store_vec (h := ?_) | refine a_load_vec (h := a_pass2 (h := ?_)) | refine a_loadg_vec (h := a_pass2 (h := ?_)) | (refine l_append_str (h := ?_); intro _ _) | (refine l_append_zeros (h := ?_); intro _ _ _) | refine l_to_unsafe (h := ?_) | refine l_from_unsafe (h := ?_) | refine l_neq_same (h := ?_) | refine l_slice_any (h := ?_) | (refine l_buildSlice2 (h := ?_); intro _) | (refine l_buildSlice3 (h := ?_); intro _) | (refine l_buildSlice4 (h := ?_); intro _) | refine l_slice3n (h := ?_) | refine l_sliceData (h := ?_) | refine l_outer_same outer_same (h := ?_) | refine l_unsafeString (h := ?_) | refine g_scope (h := ?_) | refine n_scope (h := ?_) | refine n_scope_ret (h := ?_) | refine n_scope_exit (h := ?_) | refine g_label (h := ?_) | refine l_assert (h := ?_) | refine l_eqStruct (h := ?_) | refine l_neStruct (h := ?_) | refine l_indexArr (h := ?_) | refine n_lw (h := ?_) | refine lw_nil (h := ?_) | refine lw_step (h := ?_) | refine lw_guard_yes (h := ?_) | refine l_lookup_k _ (h := ?_) | refine l_lookup_ok_k _ (h := ?_) | refine l_mapUpdate_k (h := ?_) | refine l_delete0_k (h := ?_) | refine l_len_map_k (h := ?_) | refine gr_seq (h := ?_) | refine gr_region (h := ?_) | refine nr_then (h := ?_) | refine gr_block (h := ?_) | refine gr_skip (h := ?_) | refine gr_exit (h := ?_) | refine gr_ret (h := ?_) | refine gr_label (h := ?_) | refine gr_cond_t (h := ?_) | refine gr_cond_f (h := ?_) | refine a_w (h := ?_) | refine a_lookupg_k _ (h := a_pass2 (h := ?_)) | (refine a_spT (h := ?_); intro h) | (refine a_spF (h := ?_); intro h) | (refine a_sp (h1 := ?_) (h0 := ?_) <;> intro h) | (refine l_spT (h := ?_); intro h) | (refine l_spF (h := ?_); intro h) | (refine l_sp (h1 := ?_) (h0 := ?_) <;> intro h) | (refine g_spT (h := ?_); intro h) | (refine g_spF (h := ?_); intro h) | (refine g_sp (h1 := ?_) (h0 := ?_) <;> intro h) | (refine gr_spT (h := ?_); intro h) | (refine gr_spF (h := ?_); intro h) | (refine gr_sp (h1 := ?_) (h0 := ?_) <;> intro h) | refine a_fork2 (h1 := ?_) (h2 := ?_) | refine a_fork3 (h1 := ?_) (h2 := ?_) (h3 := ?_) | refine a1_of (h := ?_)))
    rename_i g c hc
    refine r_ret ?_
    exact ⟨_, _, rfl, rfl⟩
  · refine n_inv (fun i => vec_nil (3) (1) i) ?_
    refine r_ret ?_
    exact ⟨_, _, rfl, rfl⟩

set_option maxHeartbeats 1000000 in
theorem ConcatI_does (ss : List (Value × List Value)) (R : List SProp) (sb c : Nat) (hs : ∀ s ∈ ss, Src R s.1 s.2) (h1 : ∀ s ∈ ss, s.2.all (·.oneCell') = true) (hc : (cat ss ss.length).length < 1000000) (hn : ss.length < 1000) :
    Does Tryz.prog 187 [.slice (some ⟨sb, 0, none⟩) ss.length c] (cl sb 62 (ss.map Prod.fst) :: R)
      (fun v H => ∃ p c', v = .slice p (cat ss ss.length).length c' ∧ H = vec 3 1 p (cat ss ss.length).length c' (cat ss ss.length) :: cl sb 62 (ss.map Prod.fst) :: R) := by
  refine does_of Tryz.func187 Tryz.ntmps187 rfl rfl rfl (fun w0 F0 => ?_)
  (repeat' (first | refine g_seq (h := ?_) | refine g_region (h := ?_) | refine l_nil (h := ?_) | refine n_then (h := ?_) | refine l_pures1 (h := ?_) | refine g_block (h := ?_)))
  (refine g_loop (fun k : Nat => [(3, .int .i64 (cat ss k).length), (11, .int .i64 k), (10, .int .i64 ss.length), (9, .slice (some ⟨sb, 0, none⟩) ss.length c), (0, .slice (some ⟨sb, 0, none⟩) ss.length c)]) (fun _ => cl sb 62 (ss.map Prod.fst) :: R) (fun k => k ≤ ss.length) (fun k => ss.length - k) (0) ?_ ?_ ?_ ?_; rotate_left; (repeat (first | refine ts_nil | (refine ts_cons rfl ?_ ?_; first | (with_reducible rfl) | rotate_left))); (first | (intro _ i; with_reducible refine i) | rotate_left); rotate_left; (try omega); rotate_right)
  · intro k hk
    (repeat' (first | refine g_seq (h := ?_) | refine g_region (h := ?_) | refine l_nil (h := ?_) | refine n_then (h := ?_) | refine l_pures1 (h := ?_) | refine l_indexAddr (h := ?_) | refine g_skip (h := ?_) | refine g_block (h := ?_) | refine g_exit (h := ?_) | refine n_then_exit (h := ?_) | refine n_block_hit (h := ?_) | (refine g_sp (h1 := ?_) (h0 := ?_) <;> intro h)))
    · have hlt : k < ss.length := by omega
      obtain ⟨p, m, c', xs, g1, g2, g3, g4⟩ := srcs_get hs hlt
      have hg : (ss.map Prod.fst)[0 + ((k : Nat) : Int).toNat * 1]? = some (.slice p m c') := by rw [Nat.zero_add, Nat.mul_one, Int.toNat_natCast]; exact g4
      have e1 := cat_succ g1
      have e2 := cat_le ss (k + 1)
      have e3 : (cat ss (k + 1)).length = (cat ss k).length + m := by rw [e1, List.length_append, g2]
      have e4 : IntKind.i64.wrap (((cat ss k).length : Int) + (m : Int)) = ((cat ss (k + 1)).length : Int) := by rw [wrapI64 (by omega), e3]; omega
      (repeat' (first | refine g_seq (h := ?_) | refine g_region (h := ?_) | refine l_nil (h := ?_) | refine n_then (h := ?_) | refine l_pures1 (h := ?_) | refine l_load_at (h := ?_) | refine g_skip (h := ?_) | refine n_block (h := ?_) | (refine g_spF (h := ?_); intro h)))
      (refine n_back (k + 1) ?_ ?_ ?_ ?_; rotate_left; rotate_left; (repeat (first | refine ts_nil | (refine ts_cons rfl ?_ ?_; first | (with_reducible rfl) | rotate_left))); (first | (intro _ i; with_reducible refine i) | rotate_left); (try omega); (try omega))
      · rw [e4]
      · rw [wrapI64 (by omega)]; rfl
    · obtain rfl : k = ss.length := by omega
      (repeat' (first | refine g_seq (h := ?_) | refine g_region (h := ?_) | refine l_nil (h := ?_) | refine n_then (h := ?_) | refine l_pures1 (h := ?_) | (refine l_at 207 ?_; refine l_call_ (GrowI_does (cat ss ss.length).length hc) ?_; rintro _ _ _ ⟨p, c', rfl, rfl⟩ he; cases he) | refine g_block (h := ?_)))
      (refine g_loop (fun y : Nat × Option Addr × Nat => [(6, .slice y.2.1 (cat ss y.1).length y.2.2), (27, .int .i64 y.1), (26, .int .i64 ss.length), (25, .slice (some ⟨sb, 0, none⟩) ss.length c)]) (fun y => vec 3 1 y.2.1 (cat ss y.1).length y.2.2 (cat ss y.1) :: cl sb 62 (ss.map Prod.fst) :: R) (fun y => y.1 ≤ ss.length) (fun y => ss.length - y.1) ((0, p, c')) ?_ ?_ ?_ ?_; rotate_left; (repeat (first | refine ts_nil | (refine ts_cons rfl ?_ ?_; first | (with_reducible rfl) | rotate_left))); (first | (intro _ i; with_reducible refine i) | rotate_left); rotate_left; (try omega); rotate_right)
      · rintro ⟨k, p, c'⟩ hk
        dsimp only at hk
        (repeat' (first | refine g_seq (h := ?_) | refine g_region (h := ?_) | refine l_nil (h := ?_) | refine n_then (h := ?_) | refine l_pures1 (h := ?_) | refine l_indexAddr (h := ?_) | refine g_skip (h := ?_) | refine g_ret (h := ?_) | refine g_block (h := ?_) | refine g_exit (h := ?_) | refine n_then_exit (h := ?_) | refine n_block_hit (h := ?_) | (refine g_sp (h1 := ?_) (h0 := ?_) <;> intro h)))
        · have hlt : k < ss.length := by omega
          obtain ⟨q, m, c2, xs, g1, g2, g3, g4⟩ := srcs_get hs hlt
          have hg : (ss.map Prod.fst)[0 + ((k : Nat) : Int).toNat * 1]? = some (.slice q m c2) := by rw [Nat.zero_add, Nat.mul_one, Int.toNat_natCast]; exact g4
          have e1 := cat_succ g1
          have e2 := cat_le ss (k + 1)
          have e3 : (cat ss (k + 1)).length = (cat ss k).length + m := by rw [e1, List.length_append, g2]
          have h2 : xs.all (·.oneCell') = true := h1 _ (List.mem_of_getElem? g1)
          (repeat' (first | refine g_region (h := ?_) | refine l_nil (h := ?_) | refine n_then (h := ?_) | refine l_pures1 (h := ?_) | refine l_load_at (h := ?_)))
          refine l_append_src env_ok rfl rfl rfl rfl rfl rfl Take.here g3.cons h2 (by dsimp only; constructor <;> omega) ?_
          intro p2 c3
          (repeat' (first | refine g_region (h := ?_) | refine l_nil (h := ?_) | refine n_then (h := ?_) | refine l_pures1 (h := ?_) | refine n_block (h := ?_)))
          (refine n_back ((k + 1, p2, c3)) ?_ ?_ ?_ ?_; rotate_left; rotate_left; (repeat (first | refine ts_nil | (refine ts_cons rfl ?_ ?_; first | (with_reducible rfl) | rotate_left))); (first | (intro _ i; with_reducible refine i) | rotate_left); (try omega); (try omega))
          · dsimp only; rw [e3]
          · rw [wrapI64 (by omega)]; rfl
          · intro w i; dsimp only; rw [e3, e1]; exact i
        · obtain rfl : k = ss.length := by omega
          (repeat' (first | refine g_seq (h := ?_) | refine g_region (h := ?_) | refine l_nil (h := ?_) | refine n_then (h := ?_) | refine l_pures1 (h := ?_) | refine l_guard_yes (h := ?_) | refine l_guard_no (h := ?_) | refine l_guard_no0 (h := ?_) | refine l_guard_un (h := ?_) | refine l_guard_un0 (h := ?_) | refine l_load (h := ?_) | refine l_store (h := ?_) | (refine l_box (h := ?_); intro _) | (refine l_alloc (h := ?_); intro _) | refine l_index (h := ?_) | refine l_slice_str (h := ?_) | refine l_concat (h := ?_) | (refine l_makeSlice (h := ?_); intro _) | refine l_load_at (h := ?_) | refine l_store_at (h := ?_) | refine l_load_p (h := ?_) | refine l_indexAddr (h := ?_) | refine l_rem (h := ?_) | refine l_quo (h := ?_) | refine l_shr (h := ?_) | refine l_shl (h := ?_) | refine l_slice (h := ?_) | refine l_copy_in (h := ?_) | refine l_copy_row (h := ?_) | refine l_str_bs (h := ?_) | (refine l_bytes_of (h := ?_); intro _ _ _) | refine l_copy_str (h := ?_) | refine l_lookup _ (h := ?_) | refine l_lookup_ok _ (h := ?_) | refine l_mapUpdate (h := ?_) | refine l_delete0 (h := ?_) | refine l_len_map (h := ?_) | (refine l_buildSlice1 (h := ?_); intro _) | (refine l_append_new (h := ?_); intro _ _) | (refine l_append (h := ?_); intro _ _) | refine l_pure_none (h := ?_) | refine g_skip (h := ?_) | refine g_ret (h := ?_) | refine n_then_ret (h := ?_) | refine n_block_ret (h := ?_) | refine g_block (h := ?_) | refine g_exit (h := ?_) | refine n_then_exit (h := ?_) | refine n_block_hit (h := ?_) | refine a_done (h := ?_) | refine a_load (h := a_pass2 (h := ?_)) | refine a_one (h := ?_) | refine n_any (h := a_pass2 (h := ?_)) | refine a_load_at (h := a_pass2 (h := ?_)) | refine a_load_p (h := a_pass2 (h := ?_)) | refine a_loadg_p (h := a_pass2 (h := ?_)) | refine a_loadg (h := a_pass2 (h := ?_)) | refine a_v (h := ?_) | refine a_vg (h := ?_) | refine a_no (h := ?_) | refine a_un (h := ?_) | refine n_block_miss (h := ?_) | refine n_block (h := ?_) | refine g_cond_t (h := ?_) | refine g_cond_f (h := ?_) | refine l_load_vec (h := ?_) | refine l_store_vec (h := ?_) | refine a_load_vec (h := a_pass2 (h := ?_)) | refine a_loadg_vec (h := a_pass2 (h := ?_)) | (refine l_append_str (h := ?_); intro _ _) | (refine l_append_zeros (h := ?_); intro _ _ _) | refine l_to_unsafe (h := ?_) | refine l_from_unsafe (h := ?_) | refine l_neq_same (h := ?_) | refine l_slice_any (h := ?_) | (refine l_buildSlice2 (h := ?_); intro _) | (refine l_buildSlice3 (h := ?_); intro _) | (refine l_buildSlice4 (h := ?_); intro _) | refine l_slice3n (h := ?_) | refine l_sliceData (h := ?_) | refine l_outer_same outer_same (h := ?_) | refine l_unsafeString (h := ?_) | refine g_scope (h := ?_) | refine n_scope (h := ?_) | refine n_scope_ret (h := ?_) | refine n_scope_exit (h := ?_) | refine g_label (h := ?_) | refine l_assert (h := ?_) | refine l_eqStruct (h := ?_) | refine l_neStruct (h := ?_) | refine l_indexArr (h := ?_) | refine n_lw (h := ?_) | refine lw_nil (h := ?_) | refine lw_step (h := ?_) | refine lw_guard_yes (h := ?_) | refine l_lookup_k _ (h := ?_) | refine l_lookup_ok_k _ (h := ?_) | refine l_mapUpdate_k (h := ?_) | refine l_delete0_k (h := ?_) | refine l_len_map_k (h := ?_) | refine gr_seq (h := ?_) | refine gr_region (h := ?_) | refine nr_then (h := ?_) | refine gr_block (h := ?_) | refine gr_skip (h := ?_) | refine gr_exit (h := ?_) | refine gr_ret (h := ?_) | refine gr_label (h := ?_) | refine gr_cond_t (h := ?_) | refine gr_cond_f (h := ?_) | refine a_w (h := ?_) | refine a_lookupg_k _ (h := a_pass2 (h := ?_)) | (refine a_spT (h := ?_); intro h) | (refine a_spF (h := ?_); intro h) | (refine a_sp (h1 := ?_) (h0 := ?_) <;> intro h) | (refine l_spT (h := ?_); intro h) | (refine l_spF (h := ?_); intro h) | (refine l_sp (h1 := ?_) (h0 := ?_) <;> intro h) | (refine g_spT (h := ?_); intro h) | (refine g_spF (h := ?_); intro h) | (refine g_sp (h1 := ?_) (h0 := ?_) <;> intro h) | (refine gr_spT (h := ?_); intro h) | (refine gr_spF (h := ?_); intro h) | (refine gr_sp (h1 := ?_) (h0 := ?_) <;> intro h) | refine a_fork2 (h1 := ?_) (h2 := ?_) | refine a_fork3 (h1 := ?_) (h2 := ?_) (h3 := ?_) | refine a1_of (h := ?_)))
          refine r_ret ?_
          exact ⟨_, _, rfl, rfl⟩
      · simp [cat_zero]
      · rfl
      · intro w i; dsimp only; rw [cat_zero]; exact i
  · rw [cat_zero]; rfl
  · rfl

set_option maxHeartbeats 1000000 in
theorem laidI_one (xs : List Value) (p : Option Addr) (m c at' gone mb mc : Nat) (x : Value) (hx : xs.all (·.oneCell') = true) (hx1 : x.oneCell' = true) (hm : m < 100000) (h1 : at' < 100000) (h2 : gone < 100000) :
    Does Tryz.prog 157 [.slice p m c, .int .i64 at', .int .i64 gone, .slice (some ⟨mb, 0, none⟩) 1 mc] [vec 3 1 p m c xs, cl mb 3 [x]]
      (fun v H => ∃ p' c', v = .slice p' (laidL xs at' gone [x]).length c' ∧ H = [vec 3 1 p' (laidL xs at' gone [x]).length c' (laidL xs at' gone [x]), vec 3 1 p m c xs]) := by
  refine does_le Take.here (fun hc hl => ?_)
  rw [Nat.mul_one] at hl
  have e1 : min (at' : Int) (m : Int) = ((min at' m : Nat) : Int) := by omega
  have e2 : min (IntKind.i64.wrap (((min at' m : Nat) : Int) + (gone : Int))) (m : Int) = ((min (min at' m + gone) m : Nat) : Int) := by rw [wrapI64 (by omega)]; omega
  have hcat : ∀ sb, Does Tryz.prog 187 [.slice (some ⟨sb, 0, none⟩) 3 3] [cl sb 62 [.slice (sliceP p (Int.toNat 0) 1 c) (min at' m - Int.toNat 0) (c - Int.toNat 0), .slice (some ⟨mb, 0, none⟩) 1 mc, .slice (sliceP p (min (min at' m + gone) m) 1 c) (m - min (min at' m + gone) m) (c - min (min at' m + gone) m)], vec 3 1 p m c xs, cl mb 3 [x]]
      (fun v H => ∃ p' c', v = .slice p' (laidL xs at' gone [x]).length c' ∧ H = [vec 3 1 p' (laidL xs at' gone [x]).length c' (laidL xs at' gone [x]), cl sb 62 [.slice (sliceP p (Int.toNat 0) 1 c) (min at' m - Int.toNat 0) (c - Int.toNat 0), .slice (some ⟨mb, 0, none⟩) 1 mc, .slice (sliceP p (min (min at' m + gone) m) 1 c) (m - min (min at' m + gone) m) (c - min (min at' m + gone) m)], vec 3 1 p m c xs, cl mb 3 [x]]) := fun sb => by
    have ec : cat [(.slice (sliceP p (Int.toNat 0) 1 c) (min at' m - Int.toNat 0) (c - Int.toNat 0), (xs.drop (Int.toNat 0)).take (min at' m - Int.toNat 0)), (.slice (some ⟨mb, 0, none⟩) 1 mc, [x]), (.slice (sliceP p (min (min at' m + gone) m) 1 c) (m - min (min at' m + gone) m) (c - min (min at' m + gone) m), (xs.drop (min (min at' m + gone) m)).take (m - min (min at' m + gone) m))] 3 = laidL xs at' gone [x] := laid_cat _ _ _ hl
    have := ConcatI_does [(.slice (sliceP p (Int.toNat 0) 1 c) (min at' m - Int.toNat 0) (c - Int.toNat 0), (xs.drop (Int.toNat 0)).take (min at' m - Int.toNat 0)), (.slice (some ⟨mb, 0, none⟩) 1 mc, [x]), (.slice (sliceP p (min (min at' m + gone) m) 1 c) (m - min (min at' m + gone) m) (c - min (min at' m + gone) m), (xs.drop (min (min at' m + gone) m)).take (m - min (min at' m + gone) m))] [vec 3 1 p m c xs, cl mb 3 [x]] sb 3 ?_ ?_ ?_ (by simp)
    · simp only [List.length_cons, List.length_nil, Nat.zero_add, Nat.reduceAdd, ec] at this
      exact this
    · intro s hs
      simp only [List.mem_cons, List.not_mem_nil, or_false] at hs
      rcases hs with rfl | rfl | rfl
      · exact src_cut Take.here hl (Nat.zero_le _) (Nat.min_le_right _ _) hc
      · exact src_cl (Take.there Take.here) rfl
      · exact src_cut Take.here hl (Nat.min_le_right _ _) (Nat.le_refl _) hc
    · intro s hs
      simp only [List.mem_cons, List.not_mem_nil, or_false] at hs
      rcases hs with rfl | rfl | rfl
      · exact all_sub hx _ _
      · simp [hx1]
      · exact all_sub hx _ _
    · show (cat _ 3).length < _
      rw [ec]
      have := laidL_len xs at' gone [x]
      simp only [List.length_cons, List.length_nil] at this
      omega
  refine does_of Tryz.func157 Tryz.ntmps157 rfl rfl rfl (fun w0 F0 => ?_)
  (repeat' (first | refine g_seq (h := ?_) | refine g_region (h := ?_) | refine l_nil (h := ?_) | refine n_then (h := ?_) | refine l_pures1 (h := ?_)))
  (simp only [cond_true, cond_false, mxI_eq, mnI_eq])
  rw [e1]
  (refine g_draw [] (h := a_pass2 (h := ?_)))
  (simp only [cond_true, cond_false, mxI_eq, mnI_eq])
  rw [e2]
  (repeat' (first | refine l_nil (h := ?_) | refine a_one (h := ?_) | refine n_any (h := a_pass2 (h := ?_)) | refine a_v (h := ?_) | refine l_slice_any (h := ?_) | (refine l_buildSlice3 (h := ?_); intro _)))
  rename_i sb
  rw [show (((min at' m : Nat) : Int)).toNat = min at' m from Int.toNat_natCast _, show (((min (min at' m + gone) m : Nat) : Int)).toNat = min (min at' m + gone) m from Int.toNat_natCast _, show (((m : Nat) : Int)).toNat = m from Int.toNat_natCast _]
  (repeat' (first | refine l_nil (h := ?_) | refine n_then (h := ?_) | (refine l_at 187 ?_; refine l_call_ (hcat sb) ?_; rintro _ _ _ ⟨p', c', rfl, rfl⟩ he; cases he) | refine g_ret (h := ?_) | refine a_done (h := ?_) | refine n_any (h := a_pass2 (h := ?_))))
  refine r_retk [vec 3 1 p' (laidL xs at' gone [x]).length c' (laidL xs at' gone [x]), vec 3 1 p m c xs] ?_
  exact ⟨_, _, rfl, rfl⟩

set_option maxHeartbeats 1000000 in
theorem laidI_none (xs : List Value) (p : Option Addr) (m c at' gone : Nat) (hx : xs.all (·.oneCell') = true) (hm : m < 100000) (h1 : at' < 100000) (h2 : gone < 100000) :
    Does Tryz.prog 157 [.slice p m c, .int .i64 at', .int .i64 gone, .slice none 0 0] [vec 3 1 p m c xs]
      (fun v H => ∃ p' c', v = .slice p' (laidL xs at' gone []).length c' ∧ H = [vec 3 1 p' (laidL xs at' gone []).length c' (laidL xs at' gone []), vec 3 1 p m c xs]) := by
  refine does_le Take.here (fun hc hl => ?_)
  rw [Nat.mul_one] at hl
  have e1 : min (at' : Int) (m : Int) = ((min at' m : Nat) : Int) := by omega
  have e2 : min (IntKind.i64.wrap (((min at' m : Nat) : Int) + (gone : Int))) (m : Int) = ((min (min at' m + gone) m : Nat) : Int) := by rw [wrapI64 (by omega)]; omega
  have hcat : ∀ sb, Does Tryz.prog 187 [.slice (some ⟨sb, 0, none⟩) 3 3] [cl sb 62 [.slice (sliceP p (Int.toNat 0) 1 c) (min at' m - Int.toNat 0) (c - Int.toNat 0), .slice none 0 0, .slice (sliceP p (min (min at' m + gone) m) 1 c) (m - min (min at' m + gone) m) (c - min (min at' m + gone) m)], vec 3 1 p m c xs]
      (fun v H => ∃ p' c', v = .slice p' (laidL xs at' gone []).length c' ∧ H = [vec 3 1 p' (laidL xs at' gone []).length c' (laidL xs at' gone []), cl sb 62 [.slice (sliceP p (Int.toNat 0) 1 c) (min at' m - Int.toNat 0) (c - Int.toNat 0), .slice none 0 0, .slice (sliceP p (min (min at' m + gone) m) 1 c) (m - min (min at' m + gone) m) (c - min (min at' m + gone) m)], vec 3 1 p m c xs]) := fun sb => by
    have ec : cat [(.slice (sliceP p (Int.toNat 0) 1 c) (min at' m - Int.toNat 0) (c - Int.toNat 0), (xs.drop (Int.toNat 0)).take (min at' m - Int.toNat 0)), (.slice none 0 0, []), (.slice (sliceP p (min (min at' m + gone) m) 1 c) (m - min (min at' m + gone) m) (c - min (min at' m + gone) m), (xs.drop (min (min at' m + gone) m)).take (m - min (min at' m + gone) m))] 3 = laidL xs at' gone [] := laid_cat _ _ _ hl
    have := ConcatI_does [(.slice (sliceP p (Int.toNat 0) 1 c) (min at' m - Int.toNat 0) (c - Int.toNat 0), (xs.drop (Int.toNat 0)).take (min at' m - Int.toNat 0)), (.slice none 0 0, []), (.slice (sliceP p (min (min at' m + gone) m) 1 c) (m - min (min at' m + gone) m) (c - min (min at' m + gone) m), (xs.drop (min (min at' m + gone) m)).take (m - min (min at' m + gone) m))] [vec 3 1 p m c xs] sb 3 ?_ ?_ ?_ (by simp)
    · simp only [List.length_cons, List.length_nil, Nat.zero_add, Nat.reduceAdd, ec] at this
      exact this
    · intro s hs
      simp only [List.mem_cons, List.not_mem_nil, or_false] at hs
      rcases hs with rfl | rfl | rfl
      · exact src_cut Take.here hl (Nat.zero_le _) (Nat.min_le_right _ _) hc
      · exact src_none _
      · exact src_cut Take.here hl (Nat.min_le_right _ _) (Nat.le_refl _) hc
    · intro s hs
      simp only [List.mem_cons, List.not_mem_nil, or_false] at hs
      rcases hs with rfl | rfl | rfl
      · exact all_sub hx _ _
      · rfl
      · exact all_sub hx _ _
    · show (cat _ 3).length < _
      rw [ec]
      have := laidL_len xs at' gone []
      simp only [List.length_cons, List.length_nil] at this
      omega
  refine does_of Tryz.func157 Tryz.ntmps157 rfl rfl rfl (fun w0 F0 => ?_)
  (repeat' (first | refine g_seq (h := ?_) | refine g_region (h := ?_) | refine l_nil (h := ?_) | refine n_then (h := ?_) | refine l_pures1 (h := ?_)))
  (simp only [cond_true, cond_false, mxI_eq, mnI_eq])
  rw [e1]
  (refine g_draw [] (h := a_pass2 (h := ?_)))
  (simp only [cond_true, cond_false, mxI_eq, mnI_eq])
  rw [e2]
  (repeat' (first | refine l_nil (h := ?_) | refine a_one (h := ?_) | refine n_any (h := a_pass2 (h := ?_)) | refine a_v (h := ?_) | refine l_slice_any (h := ?_) | (refine l_buildSlice3 (h := ?_); intro _)))
  rename_i sb
  rw [show (((min at' m : Nat) : Int)).toNat = min at' m from Int.toNat_natCast _, show (((min (min at' m + gone) m : Nat) : Int)).toNat = min (min at' m + gone) m from Int.toNat_natCast _, show (((m : Nat) : Int)).toNat = m from Int.toNat_natCast _]
  (repeat' (first | refine l_nil (h := ?_) | refine n_then (h := ?_) | (refine l_at 187 ?_; refine l_call_ (hcat sb) ?_; rintro _ _ _ ⟨p', c', rfl, rfl⟩ he; cases he) | refine g_ret (h := ?_) | refine a_done (h := ?_) | refine n_any (h := a_pass2 (h := ?_))))
  refine r_retk [vec 3 1 p' (laidL xs at' gone []).length c' (laidL xs at' gone []), vec 3 1 p m c xs] ?_
  exact ⟨_, _, rfl, rfl⟩

end Go.Proofs.YtmfmommgooccnaaGreat

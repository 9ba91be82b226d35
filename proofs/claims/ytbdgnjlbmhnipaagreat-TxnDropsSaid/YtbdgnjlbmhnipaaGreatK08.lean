/- Texts ShadM, LayQ, LayS, Sorted, LayR, Rep, Count, DiskN, ShadC, TrW, TrV, TrX, TrY, joined. -/
import Derived.Shelf.Strings.Repeat
import Derived.Shelf.SlIterI.Nil
import Derived.Shelf.SortM.Plain
import Derived.Shelf.SortM.SortNone
import Derived.Ground.NamesProg
import Derived.Ground.GgzProg
import Derived.Ground.SlgmProg
import Derived.Test.YtbdgnjlbmhnipaaGreatProg
import Derived.KernelRfl
import Derived.Test.YtbdgnjlbmhnipaaGreatK07
/- Package shadow: read, over, Mount, Rollback on its cells. -/
set_option linter.unusedVariables false
set_option linter.unusedSimpArgs false
namespace Go.Proofs.YtbdgnjlbmhnipaaGreat
open Go.Proofs.YtbdgnjlbmhnipaaGreat.SL

theorem Take2_does (b : List UInt8) (size : Int) (hs : -9223372036854775808 ≤ size ∧ size < 9223372036854775808) (hb : b.length < 9223372036854775808) :
    Does Tryz.prog 40 [.string (str b), .int .i64 size] [] (fun v H => v = .tuple #[.int .u64 (numTake b size).1, .string (str (numTake b size).2.1), .int .i64 (numTake b size).2.2] ∧ H = []) := Take_does b size hs hb

def headOf (s : List UInt8) : Hd := ⟨getN (s.take 6), getN ((s.drop 6).take 2), s.drop 8⟩
def headNone : Hd := ⟨0, 0, []⟩
def readH (D : Dk) (n : Int) : Hd × Bool :=
  if (pageRead D n).2.2 ≠ 0 ∨ (pageRead D n).1 ≠ 1 ∨ (pageRead D n).2.1.length ≠ 88 then (headNone, false)
  else (headOf (pageRead D n).2.1, (headOf (pageRead D n).2.1).counts D.now.length n)
theorem take_of {b : List UInt8} {k : Nat} (h : k ≤ b.length) (hk : 1 ≤ k ∧ k ≤ 8) : numTake b k = (getN (b.take k), b.drop k, 0) := by
  rw [numTake, if_neg (by omega), if_neg (by omega)]; rfl
theorem getN_take_lt (b : List UInt8) (k : Nat) : getN (b.take k) < 256 ^ k := by
  refine Nat.lt_of_lt_of_le (getN_lt _) (Nat.pow_le_pow_right (by decide) ?_)
  rw [List.length_take]; omega
theorem headOf_ok {s : List UInt8} (h : s.length = 88) : (headOf s).ok ∧ (headOf s).used.length = 80 := by
  have h1 := getN_take_lt s 6
  have h2 := getN_take_lt (s.drop 6) 2
  refine ⟨⟨⟨?_, ?_⟩, ⟨?_, ?_⟩, ?_⟩, ?_⟩
  all_goals simp only [headOf, List.length_drop]
  all_goals omega

theorem Take3_does (b : List UInt8) (i : Int) (k : Nat) (e : i = k) (h : k ≤ b.length) (hk : 1 ≤ k ∧ k ≤ 8) (hb : b.length < 9223372036854775808) :
    Does Tryz.prog 40 [.string (str b), .int .i64 i] [] (fun v H => v = .tuple #[.int .u64 (getN (b.take k)), .string (str (b.drop k)), .int .i64 0] ∧ H = []) := by
  subst e
  have := Take2_does b k (by omega) hb
  rw [take_of h hk] at this
  exact this
theorem read_does (db : Nat) (D : Dk) (n : Int) (hn : 0 ≤ n ∧ n < 2) : Does Tryz.prog 59 [.pointer (some ⟨db, 0, none⟩), .int .i64 n] [Disk db D] (fun v H => v = .tuple #[.agg #[.int .i64 (readH D n).1.gen, .int .i64 (readH D n).1.root, .string (str (readH D n).1.used)], .bool (readH D n).2] ∧ H = [Disk db D]) := by
  refine does_of Tryz.func59 Tryz.ntmps59 rfl rfl rfl (fun w0 F0 => ?_)
  (repeat' (first | (refine g_i ?_; (first | (refine g_seq (h := ?_)) | (refine g_region (h := ?_)) | (refine g_skip (h := ?_)) | (refine g_ret (h := ?_)) | (refine g_block (h := ?_)) | (refine g_exit (h := ?_)) | (refine g_cond_t (h := ?_)) | (refine g_cond_f (h := ?_)) | (refine g_scope (h := ?_)) | (refine g_label (h := ?_)) | (refine g_spT (h := ?_); intro h) | (refine g_spF (h := ?_); intro h) | (refine g_sp (h1 := ?_) (h0 := ?_) <;> intro h))) | (refine l_i ?_; (first | (refine l_nil (h := ?_)) | (refine l_pures1 (h := ?_)) | (refine l_at 92 ?_; refine l_call (pRead2_does db D n) ?_) | (refine l_at 92 ?_; refine l_call0 (pRead2_does db D n) ?_) | (refine l_guard_yes (h := ?_)) | (refine l_guard_no (h := ?_)) | (refine l_guard_no0 (h := ?_)) | (refine l_guard_un (h := ?_)) | (refine l_guard_un0 (h := ?_)) | (refine l_load (h := ?_)) | (refine l_store (h := ?_)) | (refine l_box (h := ?_); intro _) | (refine l_alloc (h := ?_); intro _) | (refine l_index (h := ?_)) | (refine l_slice_str (h := ?_)) | (refine l_concat (h := ?_)) | (refine l_makeSlice (h := ?_); intro _) | (refine l_load_at (h := ?_)) | (refine l_store_at (h := ?_)) | (refine l_load_p (h := ?_)) | (refine l_indexAddr (h := ?_)) | (refine l_rem (h := ?_)) | (refine l_quo (h := ?_)) | (refine l_shr (h := ?_)) | (refine l_shl (h := ?_)) | (refine l_slice (h := ?_)) | (refine l_copy_in (h := ?_)) | (refine l_copy_row (h := ?_)) | (refine l_str_bs (h := ?_)) | (refine l_bytes_of (h := ?_); intro _ _ _) | (refine l_copy_str (h := ?_)) | (refine l_lookup _ (h := ?_)) | (refine l_lookup_ok _ (h := ?_)) | (refine l_mapUpdate (h := ?_)) | (refine l_delete0 (h := ?_)) | (refine l_len_map (h := ?_)) | (refine l_buildSlice1 (h := ?_); intro _) | (refine l_append_new (h := ?_); intro _ _) | (refine l_append (h := ?_); intro _ _) | (refine l_pure_none (h := ?_)) | (refine l_load_vec (h := ?_)) | (refine l_store_vec (h := ?_)) | (refine l_append_str (h := ?_); intro _ _) | (refine l_append_zeros (h := ?_); intro _ _ _) | (refine l_to_unsafe (h := ?_)) | (refine l_from_unsafe (h := ?_)) | (refine l_neq_same (h := ?_)) | (refine l_slice_any (h := ?_)) | (refine l_buildSlice2 (h := ?_); intro _) | (refine l_buildSlice3 (h := ?_); intro _) | (refine l_buildSlice4 (h := ?_); intro _) | (refine l_slice3n (h := ?_)) | (refine l_sliceData (h := ?_)) | (refine l_outer_same outer_same (h := ?_)) | (refine l_unsafeString (h := ?_)) | (refine l_assert (h := ?_)) | (refine l_lookup_k _ (h := ?_)) | (refine l_lookup_ok_k _ (h := ?_)) | (refine l_mapUpdate_k (h := ?_)) | (refine l_delete0_k (h := ?_)) | (refine l_len_map_k (h := ?_)) | (refine l_spT (h := ?_); intro h) | (refine l_spF (h := ?_); intro h) | (refine l_sp (h1 := ?_) (h0 := ?_) <;> intro h))) | (refine n_i ?_; (first | (refine n_then (h := ?_)) | (refine n_then_ret (h := ?_)) | (refine n_block_ret (h := ?_)) | (refine n_then_exit (h := ?_)) | (refine n_block_hit (h := ?_)) | (refine n_any (h := a_pass2 (h := ?_))) | (refine n_block_miss (h := ?_)) | (refine n_block (h := ?_)) | (refine n_scope (h := ?_)) | (refine n_scope_ret (h := ?_)) | (refine n_scope_exit (h := ?_)) | (refine n_lw (h := ?_)) | (refine nr_then (h := ?_)))) | (refine a_i ?_; (first | (refine a_done (h := ?_)) | (refine a_load (h := a_pass2 (h := ?_))) | (refine a_one (h := ?_)) | (refine a_load_at (h := a_pass2 (h := ?_))) | (refine a_load_p (h := a_pass2 (h := ?_))) | (refine a_loadg_p (h := a_pass2 (h := ?_))) | (refine a_loadg (h := a_pass2 (h := ?_))) | (refine a_v (h := ?_)) | (refine a_vg (h := ?_)) | (refine a_no (h := ?_)) | (refine a_un (h := ?_)) | (refine a_load_vec (h := a_pass2 (h := ?_))) | (refine a_loadg_vec (h := a_pass2 (h := ?_))) | (refine a_w (h := ?_)) | (refine a_lookupg_k _ (h := a_pass2 (h := ?_))) | (refine a_spT (h := ?_); intro h) | (refine a_spF (h := ?_); intro h) | (refine a_sp (h1 := ?_) (h0 := ?_) <;> intro h) | (refine a_fork2 (h1 := ?_) (h2 := ?_)) | (refine a_fork3 (h1 := ?_) (h2 := ?_) (h3 := ?_)))) | (refine lw_i ?_; (first | (refine lw_nil (h := ?_)) | (refine lw_step (h := ?_)) | (refine lw_guard_yes (h := ?_)))) | (refine gr_i ?_; (first | (refine gr_seq (h := ?_)) | (refine gr_region (h := ?_)) | (refine gr_block (h := ?_)) | (refine gr_skip (h := ?_)) | (refine gr_exit (h := ?_)) | (refine gr_ret (h := ?_)) | (refine gr_label (h := ?_)) | (refine gr_cond_t (h := ?_)) | (refine gr_cond_f (h := ?_)) | (refine gr_spT (h := ?_); intro h) | (refine gr_spF (h := ?_); intro h) | (refine gr_sp (h1 := ?_) (h0 := ?_) <;> intro h))) | (refine a1_i ?_; (first | (refine a1_of (h := ?_))))))
  · have e : readH D n = (headNone, false) := by rw [readH, if_pos (.inl (by assumption))]
    rw [e]
    refine r_retk [Disk db D] ?_
    exact ⟨rfl, rfl⟩
  · have e : readH D n = (headNone, false) := by rw [readH, if_pos (.inr (.inl (by assumption)))]
    rw [e]
    refine r_retk [Disk db D] ?_
    exact ⟨rfl, rfl⟩
  · have e : readH D n = (headNone, false) := by rw [readH, if_pos (.inr (.inr (by omega)))]
    rw [e]
    refine r_retk [Disk db D] ?_
    exact ⟨rfl, rfl⟩
  · have h88 : (pageRead D n).2.1.length = 88 := by omega
    have e : readH D n = (headOf (pageRead D n).2.1, (headOf (pageRead D n).2.1).counts D.now.length n) := by
      rw [readH, if_neg]
      rintro (h1 | h1 | h1)
      · exact h1 (by assumption)
      · exact h1 (by assumption)
      · exact h1 h88
    rw [e]
    obtain ⟨hok, h80⟩ := headOf_ok h88
    obtain ⟨s, hs⟩ : ∃ s, (pageRead D n).2.1 = s := ⟨_, rfl⟩
    rw [hs] at hok h80 h88 ⊢
    have g1 := getN_take_lt s 6
    have g2 := getN_take_lt (s.drop 6) 2
    have w1 : IntKind.i64.wrap ((getN (s.take 6) : Nat) : Int) = getN (s.take 6) := wrapI64 (by omega)
    have w2 : IntKind.i64.wrap ((getN ((s.drop 6).take 2) : Nat) : Int) = getN ((s.drop 6).take 2) := wrapI64 (by omega)
    have hdd : (s.drop 6).drop 2 = s.drop 8 := by rw [List.drop_drop]
    have cd : Does Tryz.prog 93 [.agg #[.int .i64 ((getN (s.take 6) : Nat) : Int), .int .i64 ((getN ((s.drop 6).take 2) : Nat) : Int), .string (str (s.drop 8))], .pointer (some ⟨db, 0, none⟩), .int .i64 n] [Disk db D] (fun v H => v = .bool ((headOf s).counts D.now.length n) ∧ H = [Disk db D]) := counts_does (headOf s) hok db D n hn
    (repeat' (first | (refine g_i ?_; (first | (refine g_seq (h := ?_)) | (refine g_region (h := ?_)) | (refine g_skip (h := ?_)) | (refine g_ret (h := ?_)) | (refine g_block (h := ?_)) | (refine g_exit (h := ?_)) | (refine g_cond_t (h := ?_)) | (refine g_cond_f (h := ?_)) | (refine g_scope (h := ?_)) | (refine g_label (h := ?_)) | (refine g_spT (h := ?_); intro h) | (refine g_spF (h := ?_); intro h) | (refine g_sp (h1 := ?_) (h0 := ?_) <;> intro h))) | (refine l_i ?_; (first | (refine l_nil (h := ?_)) | (refine l_pures1 (h := ?_)) | (refine l_at 40 ?_; refine l_call (Take3_does s 6 6 rfl (by omega) (by omega) (by omega)) ?_) | (refine l_at 40 ?_; refine l_call0 (Take3_does s 6 6 rfl (by omega) (by omega) (by omega)) ?_) | (refine l_guard_yes (h := ?_)) | (refine l_guard_no (h := ?_)) | (refine l_guard_no0 (h := ?_)) | (refine l_guard_un (h := ?_)) | (refine l_guard_un0 (h := ?_)) | (refine l_load (h := ?_)) | (refine l_store (h := ?_)) | (refine l_box (h := ?_); intro _) | (refine l_alloc (h := ?_); intro _) | (refine l_index (h := ?_)) | (refine l_slice_str (h := ?_)) | (refine l_concat (h := ?_)) | (refine l_makeSlice (h := ?_); intro _) | (refine l_load_at (h := ?_)) | (refine l_store_at (h := ?_)) | (refine l_load_p (h := ?_)) | (refine l_indexAddr (h := ?_)) | (refine l_rem (h := ?_)) | (refine l_quo (h := ?_)) | (refine l_shr (h := ?_)) | (refine l_shl (h := ?_)) | (refine l_slice (h := ?_)) | (refine l_copy_in (h := ?_)) | (refine l_copy_row (h := ?_)) | (refine l_str_bs (h := ?_)) | (refine l_bytes_of (h := ?_); intro _ _ _) | (refine l_copy_str (h := ?_)) | (refine l_lookup _ (h := ?_)) | (refine l_lookup_ok _ (h := ?_)) | (refine l_mapUpdate (h := ?_)) | (refine l_delete0 (h := ?_)) | (refine l_len_map (h := ?_)) | (refine l_buildSlice1 (h := ?_); intro _) | (refine l_append_new (h := ?_); intro _ _) | (refine l_append (h := ?_); intro _ _) | (refine l_pure_none (h := ?_)) | (refine l_load_vec (h := ?_)) | (refine l_store_vec (h := ?_)) | (refine l_append_str (h := ?_); intro _ _) | (refine l_append_zeros (h := ?_); intro _ _ _) | (refine l_to_unsafe (h := ?_)) | (refine l_from_unsafe (h := ?_)) | (refine l_neq_same (h := ?_)) | (refine l_slice_any (h := ?_)) | (refine l_buildSlice2 (h := ?_); intro _) | (refine l_buildSlice3 (h := ?_); intro _) | (refine l_buildSlice4 (h := ?_); intro _) | (refine l_slice3n (h := ?_)) | (refine l_sliceData (h := ?_)) | (refine l_outer_same outer_same (h := ?_)) | (refine l_unsafeString (h := ?_)) | (refine l_assert (h := ?_)) | (refine l_lookup_k _ (h := ?_)) | (refine l_lookup_ok_k _ (h := ?_)) | (refine l_mapUpdate_k (h := ?_)) | (refine l_delete0_k (h := ?_)) | (refine l_len_map_k (h := ?_)) | (refine l_spT (h := ?_); intro h) | (refine l_spF (h := ?_); intro h) | (refine l_sp (h1 := ?_) (h0 := ?_) <;> intro h))) | (refine n_i ?_; (first | (refine n_then (h := ?_)) | (refine n_then_ret (h := ?_)) | (refine n_block_ret (h := ?_)) | (refine n_then_exit (h := ?_)) | (refine n_block_hit (h := ?_)) | (refine n_any (h := a_pass2 (h := ?_))) | (refine n_block_miss (h := ?_)) | (refine n_block (h := ?_)) | (refine n_scope (h := ?_)) | (refine n_scope_ret (h := ?_)) | (refine n_scope_exit (h := ?_)) | (refine n_lw (h := ?_)) | (refine nr_then (h := ?_)))) | (refine a_i ?_; (first | (refine a_done (h := ?_)) | (refine a_load (h := a_pass2 (h := ?_))) | (refine a_one (h := ?_)) | (refine a_load_at (h := a_pass2 (h := ?_))) | (refine a_load_p (h := a_pass2 (h := ?_))) | (refine a_loadg_p (h := a_pass2 (h := ?_))) | (refine a_loadg (h := a_pass2 (h := ?_))) | (refine a_v (h := ?_)) | (refine a_vg (h := ?_)) | (refine a_no (h := ?_)) | (refine a_un (h := ?_)) | (refine a_load_vec (h := a_pass2 (h := ?_))) | (refine a_loadg_vec (h := a_pass2 (h := ?_))) | (refine a_w (h := ?_)) | (refine a_lookupg_k _ (h := a_pass2 (h := ?_))) | (refine a_spT (h := ?_); intro h) | (refine a_spF (h := ?_); intro h) | (refine a_sp (h1 := ?_) (h0 := ?_) <;> intro h) | (refine a_fork2 (h1 := ?_) (h2 := ?_)) | (refine a_fork3 (h1 := ?_) (h2 := ?_) (h3 := ?_)))) | (refine lw_i ?_; (first | (refine lw_nil (h := ?_)) | (refine lw_step (h := ?_)) | (refine lw_guard_yes (h := ?_)))) | (refine gr_i ?_; (first | (refine gr_seq (h := ?_)) | (refine gr_region (h := ?_)) | (refine gr_block (h := ?_)) | (refine gr_skip (h := ?_)) | (refine gr_exit (h := ?_)) | (refine gr_ret (h := ?_)) | (refine gr_label (h := ?_)) | (refine gr_cond_t (h := ?_)) | (refine gr_cond_f (h := ?_)) | (refine gr_spT (h := ?_); intro h) | (refine gr_spF (h := ?_); intro h) | (refine gr_sp (h1 := ?_) (h0 := ?_) <;> intro h))) | (refine a1_i ?_; (first | (refine a1_of (h := ?_))))))
    (repeat' (first | (refine g_i ?_; (first | (refine g_seq (h := ?_)) | (refine g_region (h := ?_)) | (refine g_skip (h := ?_)) | (refine g_ret (h := ?_)) | (refine g_block (h := ?_)) | (refine g_exit (h := ?_)) | (refine g_cond_t (h := ?_)) | (refine g_cond_f (h := ?_)) | (refine g_scope (h := ?_)) | (refine g_label (h := ?_)) | (refine g_spT (h := ?_); intro h) | (refine g_spF (h := ?_); intro h) | (refine g_sp (h1 := ?_) (h0 := ?_) <;> intro h))) | (refine l_i ?_; (first | (refine l_nil (h := ?_)) | (refine l_pures1 (h := ?_)) | (refine l_at 40 ?_; refine l_call (Take3_does (s.drop 6) 2 2 rfl (by rw [List.length_drop]; omega) (by omega) (by rw [List.length_drop]; omega)) ?_) | (refine l_at 40 ?_; refine l_call0 (Take3_does (s.drop 6) 2 2 rfl (by rw [List.length_drop]; omega) (by omega) (by rw [List.length_drop]; omega)) ?_) | (refine l_guard_yes (h := ?_)) | (refine l_guard_no (h := ?_)) | (refine l_guard_no0 (h := ?_)) | (refine l_guard_un (h := ?_)) | (refine l_guard_un0 (h := ?_)) | (refine l_load (h := ?_)) | (refine l_store (h := ?_)) | (refine l_box (h := ?_); intro _) | (refine l_alloc (h := ?_); intro _) | (refine l_index (h := ?_)) | (refine l_slice_str (h := ?_)) | (refine l_concat (h := ?_)) | (refine l_makeSlice (h := ?_); intro _) | (refine l_load_at (h := ?_)) | (refine l_store_at (h := ?_)) | (refine l_load_p (h := ?_)) | (refine l_indexAddr (h := ?_)) | (refine l_rem (h := ?_)) | (refine l_quo (h := ?_)) | (refine l_shr (h := ?_)) | (refine l_shl (h := ?_)) | (refine l_slice (h := ?_)) | (refine l_copy_in (h := ?_)) | (refine l_copy_row (h := ?_)) | (refine l_str_bs (h := ?_)) | (refine l_bytes_of (h := ?_); intro _ _ _) | (refine l_copy_str (h := ?_)) | (refine l_lookup _ (h := ?_)) | (refine l_lookup_ok _ (h := ?_)) | (refine l_mapUpdate (h := ?_)) | (refine l_delete0 (h := ?_)) | (refine l_len_map (h := ?_)) | (refine l_buildSlice1 (h := ?_); intro _) | (refine l_append_new (h := ?_); intro _ _) | (refine l_append (h := ?_); intro _ _) | (refine l_pure_none (h := ?_)) | (refine l_load_vec (h := ?_)) | (refine l_store_vec (h := ?_)) | (refine l_append_str (h := ?_); intro _ _) | (refine l_append_zeros (h := ?_); intro _ _ _) | (refine l_to_unsafe (h := ?_)) | (refine l_from_unsafe (h := ?_)) | (refine l_neq_same (h := ?_)) | (refine l_slice_any (h := ?_)) | (refine l_buildSlice2 (h := ?_); intro _) | (refine l_buildSlice3 (h := ?_); intro _) | (refine l_buildSlice4 (h := ?_); intro _) | (refine l_slice3n (h := ?_)) | (refine l_sliceData (h := ?_)) | (refine l_outer_same outer_same (h := ?_)) | (refine l_unsafeString (h := ?_)) | (refine l_assert (h := ?_)) | (refine l_lookup_k _ (h := ?_)) | (refine l_lookup_ok_k _ (h := ?_)) | (refine l_mapUpdate_k (h := ?_)) | (refine l_delete0_k (h := ?_)) | (refine l_len_map_k (h := ?_)) | (refine l_spT (h := ?_); intro h) | (refine l_spF (h := ?_); intro h) | (refine l_sp (h1 := ?_) (h0 := ?_) <;> intro h))) | (refine n_i ?_; (first | (refine n_then (h := ?_)) | (refine n_then_ret (h := ?_)) | (refine n_block_ret (h := ?_)) | (refine n_then_exit (h := ?_)) | (refine n_block_hit (h := ?_)) | (refine n_any (h := a_pass2 (h := ?_))) | (refine n_block_miss (h := ?_)) | (refine n_block (h := ?_)) | (refine n_scope (h := ?_)) | (refine n_scope_ret (h := ?_)) | (refine n_scope_exit (h := ?_)) | (refine n_lw (h := ?_)) | (refine nr_then (h := ?_)))) | (refine a_i ?_; (first | (refine a_done (h := ?_)) | (refine a_load (h := a_pass2 (h := ?_))) | (refine a_one (h := ?_)) | (refine a_load_at (h := a_pass2 (h := ?_))) | (refine a_load_p (h := a_pass2 (h := ?_))) | (refine a_loadg_p (h := a_pass2 (h := ?_))) | (refine a_loadg (h := a_pass2 (h := ?_))) | (refine a_v (h := ?_)) | (refine a_vg (h := ?_)) | (refine a_no (h := ?_)) | (refine a_un (h := ?_)) | (refine a_load_vec (h := a_pass2 (h := ?_))) | (refine a_loadg_vec (h := a_pass2 (h := ?_))) | (refine a_w (h := ?_)) | (refine a_lookupg_k _ (h := a_pass2 (h := ?_))) | (refine a_spT (h := ?_); intro h) | (refine a_spF (h := ?_); intro h) | (refine a_sp (h1 := ?_) (h0 := ?_) <;> intro h) | (refine a_fork2 (h1 := ?_) (h2 := ?_)) | (refine a_fork3 (h1 := ?_) (h2 := ?_) (h3 := ?_)))) | (refine lw_i ?_; (first | (refine lw_nil (h := ?_)) | (refine lw_step (h := ?_)) | (refine lw_guard_yes (h := ?_)))) | (refine gr_i ?_; (first | (refine gr_seq (h := ?_)) | (refine gr_region (h := ?_)) | (refine gr_block (h := ?_)) | (refine gr_skip (h := ?_)) | (refine gr_exit (h := ?_)) | (refine gr_ret (h := ?_)) | (refine gr_label (h := ?_)) | (refine gr_cond_t (h := ?_)) | (refine gr_cond_f (h := ?_)) | (refine gr_spT (h := ?_); intro h) | (refine gr_spF (h := ?_); intro h) | (refine gr_sp (h1 := ?_) (h0 := ?_) <;> intro h))) | (refine a1_i ?_; (first | (refine a1_of (h := ?_))))))
    rw [w1, w2, hdd]
    (refine g_draw [_] (h := a_pass2 (h := ?_)))
    (repeat' (first | (refine g_i ?_; (first | (refine g_seq (h := ?_)) | (refine g_region (h := ?_)) | (refine g_skip (h := ?_)) | (refine g_ret (h := ?_)) | (refine g_block (h := ?_)) | (refine g_exit (h := ?_)) | (refine g_cond_t (h := ?_)) | (refine g_cond_f (h := ?_)) | (refine g_scope (h := ?_)) | (refine g_label (h := ?_)) | (refine g_spT (h := ?_); intro h) | (refine g_spF (h := ?_); intro h) | (refine g_sp (h1 := ?_) (h0 := ?_) <;> intro h))) | (refine l_i ?_; (first | (refine l_nil (h := ?_)) | (refine l_pures1 (h := ?_)) | (refine l_at 93 ?_; refine l_call (cd) ?_) | (refine l_at 93 ?_; refine l_call0 (cd) ?_) | (refine l_guard_yes (h := ?_)) | (refine l_guard_no (h := ?_)) | (refine l_guard_no0 (h := ?_)) | (refine l_guard_un (h := ?_)) | (refine l_guard_un0 (h := ?_)) | (refine l_load (h := ?_)) | (refine l_store (h := ?_)) | (refine l_box (h := ?_); intro _) | (refine l_alloc (h := ?_); intro _) | (refine l_index (h := ?_)) | (refine l_slice_str (h := ?_)) | (refine l_concat (h := ?_)) | (refine l_makeSlice (h := ?_); intro _) | (refine l_load_at (h := ?_)) | (refine l_store_at (h := ?_)) | (refine l_load_p (h := ?_)) | (refine l_indexAddr (h := ?_)) | (refine l_rem (h := ?_)) | (refine l_quo (h := ?_)) | (refine l_shr (h := ?_)) | (refine l_shl (h := ?_)) | (refine l_slice (h := ?_)) | (refine l_copy_in (h := ?_)) | (refine l_copy_row (h := ?_)) | (refine l_str_bs (h := ?_)) | (refine l_bytes_of (h := ?_); intro _ _ _) | (refine l_copy_str (h := ?_)) | (refine l_lookup _ (h := ?_)) | (refine l_lookup_ok _ (h := ?_)) | (refine l_mapUpdate (h := ?_)) | (refine l_delete0 (h := ?_)) | (refine l_len_map (h := ?_)) | (refine l_buildSlice1 (h := ?_); intro _) | (refine l_append_new (h := ?_); intro _ _) | (refine l_append (h := ?_); intro _ _) | (refine l_pure_none (h := ?_)) | (refine l_load_vec (h := ?_)) | (refine l_store_vec (h := ?_)) | (refine l_append_str (h := ?_); intro _ _) | (refine l_append_zeros (h := ?_); intro _ _ _) | (refine l_to_unsafe (h := ?_)) | (refine l_from_unsafe (h := ?_)) | (refine l_neq_same (h := ?_)) | (refine l_slice_any (h := ?_)) | (refine l_buildSlice2 (h := ?_); intro _) | (refine l_buildSlice3 (h := ?_); intro _) | (refine l_buildSlice4 (h := ?_); intro _) | (refine l_slice3n (h := ?_)) | (refine l_sliceData (h := ?_)) | (refine l_outer_same outer_same (h := ?_)) | (refine l_unsafeString (h := ?_)) | (refine l_assert (h := ?_)) | (refine l_lookup_k _ (h := ?_)) | (refine l_lookup_ok_k _ (h := ?_)) | (refine l_mapUpdate_k (h := ?_)) | (refine l_delete0_k (h := ?_)) | (refine l_len_map_k (h := ?_)) | (refine l_spT (h := ?_); intro h) | (refine l_spF (h := ?_); intro h) | (refine l_sp (h1 := ?_) (h0 := ?_) <;> intro h))) | (refine n_i ?_; (first | (refine n_then (h := ?_)) | (refine n_then_ret (h := ?_)) | (refine n_block_ret (h := ?_)) | (refine n_then_exit (h := ?_)) | (refine n_block_hit (h := ?_)) | (refine n_any (h := a_pass2 (h := ?_))) | (refine n_block_miss (h := ?_)) | (refine n_block (h := ?_)) | (refine n_scope (h := ?_)) | (refine n_scope_ret (h := ?_)) | (refine n_scope_exit (h := ?_)) | (refine n_lw (h := ?_)) | (refine nr_then (h := ?_)))) | (refine a_i ?_; (first | (refine a_done (h := ?_)) | (refine a_load (h := a_pass2 (h := ?_))) | (refine a_one (h := ?_)) | (refine a_load_at (h := a_pass2 (h := ?_))) | (refine a_load_p (h := a_pass2 (h := ?_))) | (refine a_loadg_p (h := a_pass2 (h := ?_))) | (refine a_loadg (h := a_pass2 (h := ?_))) | (refine a_v (h := ?_)) | (refine a_vg (h := ?_)) | (refine a_no (h := ?_)) | (refine a_un (h := ?_)) | (refine a_load_vec (h := a_pass2 (h := ?_))) | (refine a_loadg_vec (h := a_pass2 (h := ?_))) | (refine a_w (h := ?_)) | (refine a_lookupg_k _ (h := a_pass2 (h := ?_))) | (refine a_spT (h := ?_); intro h) | (refine a_spF (h := ?_); intro h) | (refine a_sp (h1 := ?_) (h0 := ?_) <;> intro h) | (refine a_fork2 (h1 := ?_) (h2 := ?_)) | (refine a_fork3 (h1 := ?_) (h2 := ?_) (h3 := ?_)))) | (refine lw_i ?_; (first | (refine lw_nil (h := ?_)) | (refine lw_step (h := ?_)) | (refine lw_guard_yes (h := ?_)))) | (refine gr_i ?_; (first | (refine gr_seq (h := ?_)) | (refine gr_region (h := ?_)) | (refine gr_block (h := ?_)) | (refine gr_skip (h := ?_)) | (refine gr_exit (h := ?_)) | (refine gr_ret (h := ?_)) | (refine gr_label (h := ?_)) | (refine gr_cond_t (h := ?_)) | (refine gr_cond_f (h := ?_)) | (refine gr_spT (h := ?_); intro h) | (refine gr_spF (h := ?_); intro h) | (refine gr_sp (h1 := ?_) (h0 := ?_) <;> intro h))) | (refine a1_i ?_; (first | (refine a1_of (h := ?_))))))
    refine r_retk [Disk db D] ?_
    exact ⟨rfl, rfl⟩

/-- The cells of a store, anew. -/
theorem roll0_does (b : Nat) (c0 c1 c2 c3 c4 c5 c6 : Value) : Does Tryz.prog 46 [.pointer (some ⟨b, 0, none⟩)] [cl b 103 [c0, c1, c2, c3, c4, c5, c6]]
    (fun v H => ∃ b1 b2, v = .tuple #[] ∧ H = [cl b 103 [c0, c1, c2, c3, .map (some b1), .map (some b2), c6], mp b1 Value.bool [], mp b2 Value.bool []]) := by
  refine does_of Tryz.func46 Tryz.ntmps46 rfl rfl rfl (fun w0 F0 => ?_)
  (repeat (first | (refine g_i ?_; (first | (refine g_seq (h := ?_)) | (refine g_region (h := ?_)) | (refine g_skip (h := ?_)) | (refine g_ret (h := ?_)) | (refine g_block (h := ?_)) | (refine g_exit (h := ?_)) | (refine g_cond_t (h := ?_)) | (refine g_cond_f (h := ?_)) | (refine g_scope (h := ?_)) | (refine g_label (h := ?_)))) | (refine l_i ?_; (first | (refine l_nil (h := ?_)) | (refine l_pures1 (h := ?_)) | (refine l_guard_yes (h := ?_)) | (refine l_guard_no (h := ?_)) | (refine l_guard_no0 (h := ?_)) | (refine l_guard_un (h := ?_)) | (refine l_guard_un0 (h := ?_)) | (refine l_load (h := ?_)) | (refine l_store (h := ?_)) | (refine l_box (h := ?_); intro _) | (refine l_alloc (h := ?_); intro _) | (refine l_index (h := ?_)) | (refine l_slice_str (h := ?_)) | (refine l_concat (h := ?_)) | (refine l_makeSlice (h := ?_); intro _) | (refine l_load_at (h := ?_)) | (refine l_store_at (h := ?_)) | (refine l_load_p (h := ?_)) | (refine l_indexAddr (h := ?_)) | (refine l_rem (h := ?_)) | (refine l_quo (h := ?_)) | (refine l_shr (h := ?_)) | (refine l_shl (h := ?_)) | (refine l_slice (h := ?_)) | (refine l_copy_in (h := ?_)) | (refine l_copy_row (h := ?_)) | (refine l_str_bs (h := ?_)) | (refine l_bytes_of (h := ?_); intro _ _ _) | (refine l_copy_str (h := ?_)) | (refine l_lookup _ (h := ?_)) | (refine l_lookup_ok _ (h := ?_)) | (refine l_mapUpdate (h := ?_)) | (refine l_delete0 (h := ?_)) | (refine l_len_map (h := ?_)) | (refine l_buildSlice1 (h := ?_); intro _) | (refine l_append_new (h := ?_); intro _ _) | (refine l_append (h := ?_); intro _ _) | (refine l_pure_none (h := ?_)) | (refine l_load_vec (h := ?_)) | (refine l_store_vec (h := ?_)) | (refine l_append_str (h := ?_); intro _ _) | (refine l_append_zeros (h := ?_); intro _ _ _) | (refine l_to_unsafe (h := ?_)) | (refine l_from_unsafe (h := ?_)) | (refine l_neq_same (h := ?_)) | (refine l_slice_any (h := ?_)) | (refine l_buildSlice2 (h := ?_); intro _) | (refine l_buildSlice3 (h := ?_); intro _) | (refine l_buildSlice4 (h := ?_); intro _) | (refine l_slice3n (h := ?_)) | (refine l_sliceData (h := ?_)) | (refine l_outer_same outer_same (h := ?_)) | (refine l_unsafeString (h := ?_)) | (refine l_assert (h := ?_)) | (refine l_lookup_k _ (h := ?_)) | (refine l_lookup_ok_k _ (h := ?_)) | (refine l_mapUpdate_k (h := ?_)) | (refine l_delete0_k (h := ?_)) | (refine l_len_map_k (h := ?_)))) | (refine n_i ?_; (first | (refine n_then (h := ?_)) | (refine n_then_ret (h := ?_)) | (refine n_block_ret (h := ?_)) | (refine n_then_exit (h := ?_)) | (refine n_block_hit (h := ?_)) | (refine n_any (h := a_pass2 (h := ?_))) | (refine n_block_miss (h := ?_)) | (refine n_block (h := ?_)) | (refine n_scope (h := ?_)) | (refine n_scope_ret (h := ?_)) | (refine n_scope_exit (h := ?_)) | (refine n_lw (h := ?_)) | (refine nr_then (h := ?_)))) | (refine a_i ?_; (first | (refine a_done (h := ?_)) | (refine a_load (h := a_pass2 (h := ?_))) | (refine a_one (h := ?_)) | (refine a_load_at (h := a_pass2 (h := ?_))) | (refine a_load_p (h := a_pass2 (h := ?_))) | (refine a_loadg_p (h := a_pass2 (h := ?_))) | (refine a_loadg (h := a_pass2 (h := ?_))) | (refine a_v (h := ?_)) | (refine a_vg (h := ?_)) | (refine a_no (h := ?_)) | (refine a_un (h := ?_)) | (refine a_load_vec (h := a_pass2 (h := ?_))) | (refine a_loadg_vec (h := a_pass2 (h := ?_))) | (refine a_w (h := ?_)) | (refine a_lookupg_k _ (h := a_pass2 (h := ?_))) | (refine a_fork2 (h1 := ?_) (h2 := ?_)) | (refine a_fork3 (h1 := ?_) (h2 := ?_) (h3 := ?_)))) | (refine lw_i ?_; (first | (refine lw_nil (h := ?_)) | (refine lw_step (h := ?_)) | (refine lw_guard_yes (h := ?_)))) | (refine gr_i ?_; (first | (refine gr_seq (h := ?_)) | (refine gr_region (h := ?_)) | (refine gr_block (h := ?_)) | (refine gr_skip (h := ?_)) | (refine gr_exit (h := ?_)) | (refine gr_ret (h := ?_)) | (refine gr_label (h := ?_)) | (refine gr_cond_t (h := ?_)) | (refine gr_cond_f (h := ?_)))) | (refine a1_i ?_; (first | (refine a1_of (h := ?_))))))
  (refine l_makeMap (Value.bool) (h := ?_); intro _)
  (refine l_makeMap (Value.bool) (h := ?_); intro _)
  (repeat (first | (refine g_i ?_; (first | (refine g_seq (h := ?_)) | (refine g_region (h := ?_)) | (refine g_skip (h := ?_)) | (refine g_ret (h := ?_)) | (refine g_block (h := ?_)) | (refine g_exit (h := ?_)) | (refine g_cond_t (h := ?_)) | (refine g_cond_f (h := ?_)) | (refine g_scope (h := ?_)) | (refine g_label (h := ?_)))) | (refine l_i ?_; (first | (refine l_nil (h := ?_)) | (refine l_pures1 (h := ?_)) | (refine l_guard_yes (h := ?_)) | (refine l_guard_no (h := ?_)) | (refine l_guard_no0 (h := ?_)) | (refine l_guard_un (h := ?_)) | (refine l_guard_un0 (h := ?_)) | (refine l_load (h := ?_)) | (refine l_store (h := ?_)) | (refine l_box (h := ?_); intro _) | (refine l_alloc (h := ?_); intro _) | (refine l_index (h := ?_)) | (refine l_slice_str (h := ?_)) | (refine l_concat (h := ?_)) | (refine l_makeSlice (h := ?_); intro _) | (refine l_load_at (h := ?_)) | (refine l_store_at (h := ?_)) | (refine l_load_p (h := ?_)) | (refine l_indexAddr (h := ?_)) | (refine l_rem (h := ?_)) | (refine l_quo (h := ?_)) | (refine l_shr (h := ?_)) | (refine l_shl (h := ?_)) | (refine l_slice (h := ?_)) | (refine l_copy_in (h := ?_)) | (refine l_copy_row (h := ?_)) | (refine l_str_bs (h := ?_)) | (refine l_bytes_of (h := ?_); intro _ _ _) | (refine l_copy_str (h := ?_)) | (refine l_lookup _ (h := ?_)) | (refine l_lookup_ok _ (h := ?_)) | (refine l_mapUpdate (h := ?_)) | (refine l_delete0 (h := ?_)) | (refine l_len_map (h := ?_)) | (refine l_buildSlice1 (h := ?_); intro _) | (refine l_append_new (h := ?_); intro _ _) | (refine l_append (h := ?_); intro _ _) | (refine l_pure_none (h := ?_)) | (refine l_load_vec (h := ?_)) | (refine l_store_vec (h := ?_)) | (refine l_append_str (h := ?_); intro _ _) | (refine l_append_zeros (h := ?_); intro _ _ _) | (refine l_to_unsafe (h := ?_)) | (refine l_from_unsafe (h := ?_)) | (refine l_neq_same (h := ?_)) | (refine l_slice_any (h := ?_)) | (refine l_buildSlice2 (h := ?_); intro _) | (refine l_buildSlice3 (h := ?_); intro _) | (refine l_buildSlice4 (h := ?_); intro _) | (refine l_slice3n (h := ?_)) | (refine l_sliceData (h := ?_)) | (refine l_outer_same outer_same (h := ?_)) | (refine l_unsafeString (h := ?_)) | (refine l_assert (h := ?_)) | (refine l_lookup_k _ (h := ?_)) | (refine l_lookup_ok_k _ (h := ?_)) | (refine l_mapUpdate_k (h := ?_)) | (refine l_delete0_k (h := ?_)) | (refine l_len_map_k (h := ?_)))) | (refine n_i ?_; (first | (refine n_then (h := ?_)) | (refine n_then_ret (h := ?_)) | (refine n_block_ret (h := ?_)) | (refine n_then_exit (h := ?_)) | (refine n_block_hit (h := ?_)) | (refine n_any (h := a_pass2 (h := ?_))) | (refine n_block_miss (h := ?_)) | (refine n_block (h := ?_)) | (refine n_scope (h := ?_)) | (refine n_scope_ret (h := ?_)) | (refine n_scope_exit (h := ?_)) | (refine n_lw (h := ?_)) | (refine nr_then (h := ?_)))) | (refine a_i ?_; (first | (refine a_done (h := ?_)) | (refine a_load (h := a_pass2 (h := ?_))) | (refine a_one (h := ?_)) | (refine a_load_at (h := a_pass2 (h := ?_))) | (refine a_load_p (h := a_pass2 (h := ?_))) | (refine a_loadg_p (h := a_pass2 (h := ?_))) | (refine a_loadg (h := a_pass2 (h := ?_))) | (refine a_v (h := ?_)) | (refine a_vg (h := ?_)) | (refine a_no (h := ?_)) | (refine a_un (h := ?_)) | (refine a_load_vec (h := a_pass2 (h := ?_))) | (refine a_loadg_vec (h := a_pass2 (h := ?_))) | (refine a_w (h := ?_)) | (refine a_lookupg_k _ (h := a_pass2 (h := ?_))) | (refine a_fork2 (h1 := ?_) (h2 := ?_)) | (refine a_fork3 (h1 := ?_) (h2 := ?_) (h3 := ?_)))) | (refine lw_i ?_; (first | (refine lw_nil (h := ?_)) | (refine lw_step (h := ?_)) | (refine lw_guard_yes (h := ?_)))) | (refine gr_i ?_; (first | (refine gr_seq (h := ?_)) | (refine gr_region (h := ?_)) | (refine gr_block (h := ?_)) | (refine gr_skip (h := ?_)) | (refine gr_exit (h := ?_)) | (refine gr_ret (h := ?_)) | (refine gr_label (h := ?_)) | (refine gr_cond_t (h := ?_)) | (refine gr_cond_f (h := ?_)))) | (refine a1_i ?_; (first | (refine a1_of (h := ?_))))))
  rename_i b1 b2
  refine r_endk [cl b 103 [c0, c1, c2, c3, .map (some b1), .map (some b2), c6], mp b1 Value.bool [], mp b2 Value.bool []] ?_
  exact ⟨b1, b2, rfl, rfl⟩

def Hd.over (h : Hd) : Sh := ⟨h.gen, h.root, h.used, [], [], false⟩
theorem over_does (q : Hd) (ok : q.over.ok) (db : Nat) : Does Tryz.prog 60 [.pointer (some ⟨db, 0, none⟩), .agg #[.int .i64 q.gen, .int .i64 q.root, .string (str q.used)]] [] (fun v H => ∃ b, v = .pointer (some ⟨b, 0, none⟩) ∧ H = [Store b db q.over]) := by
  refine does_of Tryz.func60 Tryz.ntmps60 rfl rfl rfl (fun w0 F0 => ?_)
  (repeat (first | (refine g_i ?_; (first | (refine g_seq (h := ?_)) | (refine g_region (h := ?_)) | (refine g_skip (h := ?_)) | (refine g_ret (h := ?_)) | (refine g_block (h := ?_)) | (refine g_exit (h := ?_)) | (refine g_cond_t (h := ?_)) | (refine g_cond_f (h := ?_)) | (refine g_scope (h := ?_)) | (refine g_label (h := ?_)))) | (refine l_i ?_; (first | (refine l_nil (h := ?_)) | (refine l_pures1 (h := ?_)) | (refine l_guard_yes (h := ?_)) | (refine l_guard_no (h := ?_)) | (refine l_guard_no0 (h := ?_)) | (refine l_guard_un (h := ?_)) | (refine l_guard_un0 (h := ?_)) | (refine l_load (h := ?_)) | (refine l_store (h := ?_)) | (refine l_box (h := ?_); intro _) | (refine l_alloc (h := ?_); intro _) | (refine l_index (h := ?_)) | (refine l_slice_str (h := ?_)) | (refine l_concat (h := ?_)) | (refine l_makeSlice (h := ?_); intro _) | (refine l_load_at (h := ?_)) | (refine l_store_at (h := ?_)) | (refine l_load_p (h := ?_)) | (refine l_indexAddr (h := ?_)) | (refine l_rem (h := ?_)) | (refine l_quo (h := ?_)) | (refine l_shr (h := ?_)) | (refine l_shl (h := ?_)) | (refine l_slice (h := ?_)) | (refine l_copy_in (h := ?_)) | (refine l_copy_row (h := ?_)) | (refine l_str_bs (h := ?_)) | (refine l_bytes_of (h := ?_); intro _ _ _) | (refine l_copy_str (h := ?_)) | (refine l_lookup _ (h := ?_)) | (refine l_lookup_ok _ (h := ?_)) | (refine l_mapUpdate (h := ?_)) | (refine l_delete0 (h := ?_)) | (refine l_len_map (h := ?_)) | (refine l_buildSlice1 (h := ?_); intro _) | (refine l_append_new (h := ?_); intro _ _) | (refine l_append (h := ?_); intro _ _) | (refine l_pure_none (h := ?_)) | (refine l_load_vec (h := ?_)) | (refine l_store_vec (h := ?_)) | (refine l_append_str (h := ?_); intro _ _) | (refine l_append_zeros (h := ?_); intro _ _ _) | (refine l_to_unsafe (h := ?_)) | (refine l_from_unsafe (h := ?_)) | (refine l_neq_same (h := ?_)) | (refine l_slice_any (h := ?_)) | (refine l_buildSlice2 (h := ?_); intro _) | (refine l_buildSlice3 (h := ?_); intro _) | (refine l_buildSlice4 (h := ?_); intro _) | (refine l_slice3n (h := ?_)) | (refine l_sliceData (h := ?_)) | (refine l_outer_same outer_same (h := ?_)) | (refine l_unsafeString (h := ?_)) | (refine l_assert (h := ?_)) | (refine l_lookup_k _ (h := ?_)) | (refine l_lookup_ok_k _ (h := ?_)) | (refine l_mapUpdate_k (h := ?_)) | (refine l_delete0_k (h := ?_)) | (refine l_len_map_k (h := ?_)))) | (refine n_i ?_; (first | (refine n_then (h := ?_)) | (refine n_then_ret (h := ?_)) | (refine n_block_ret (h := ?_)) | (refine n_then_exit (h := ?_)) | (refine n_block_hit (h := ?_)) | (refine n_any (h := a_pass2 (h := ?_))) | (refine n_block_miss (h := ?_)) | (refine n_block (h := ?_)) | (refine n_scope (h := ?_)) | (refine n_scope_ret (h := ?_)) | (refine n_scope_exit (h := ?_)) | (refine n_lw (h := ?_)) | (refine nr_then (h := ?_)))) | (refine a_i ?_; (first | (refine a_done (h := ?_)) | (refine a_load (h := a_pass2 (h := ?_))) | (refine a_one (h := ?_)) | (refine a_load_at (h := a_pass2 (h := ?_))) | (refine a_load_p (h := a_pass2 (h := ?_))) | (refine a_loadg_p (h := a_pass2 (h := ?_))) | (refine a_loadg (h := a_pass2 (h := ?_))) | (refine a_v (h := ?_)) | (refine a_vg (h := ?_)) | (refine a_no (h := ?_)) | (refine a_un (h := ?_)) | (refine a_load_vec (h := a_pass2 (h := ?_))) | (refine a_loadg_vec (h := a_pass2 (h := ?_))) | (refine a_w (h := ?_)) | (refine a_lookupg_k _ (h := a_pass2 (h := ?_))) | (refine a_fork2 (h1 := ?_) (h2 := ?_)) | (refine a_fork3 (h1 := ?_) (h2 := ?_) (h3 := ?_)))) | (refine lw_i ?_; (first | (refine lw_nil (h := ?_)) | (refine lw_step (h := ?_)) | (refine lw_guard_yes (h := ?_)))) | (refine gr_i ?_; (first | (refine gr_seq (h := ?_)) | (refine gr_region (h := ?_)) | (refine gr_block (h := ?_)) | (refine gr_skip (h := ?_)) | (refine gr_exit (h := ?_)) | (refine gr_ret (h := ?_)) | (refine gr_label (h := ?_)) | (refine gr_cond_t (h := ?_)) | (refine gr_cond_f (h := ?_)))) | (refine a1_i ?_; (first | (refine a1_of (h := ?_))))))
  rename_i b0 b
  (repeat (first | (refine g_i ?_; (first | (refine g_seq (h := ?_)) | (refine g_region (h := ?_)) | (refine g_skip (h := ?_)) | (refine g_ret (h := ?_)) | (refine g_block (h := ?_)) | (refine g_exit (h := ?_)) | (refine g_cond_t (h := ?_)) | (refine g_cond_f (h := ?_)) | (refine g_scope (h := ?_)) | (refine g_label (h := ?_)))) | (refine l_i ?_; (first | (refine l_nil (h := ?_)) | (refine l_pures1 (h := ?_)) | (refine l_at 46 ?_; refine l_call_ (roll0_does b (.pointer (some ⟨db, 0, none⟩)) (.int .i64 q.gen) (.int .i64 q.root) (.string (str q.used)) (.map none) (.map none) (.bool false)) ?_; rintro _ _ _ ⟨b1, b2, rfl, rfl⟩ he; cases he) | (refine l_at 46 ?_; refine l_call0_ (roll0_does b (.pointer (some ⟨db, 0, none⟩)) (.int .i64 q.gen) (.int .i64 q.root) (.string (str q.used)) (.map none) (.map none) (.bool false)) ?_; rintro _ _ _ ⟨b1, b2, rfl, rfl⟩ he; cases he) | (refine l_guard_yes (h := ?_)) | (refine l_guard_no (h := ?_)) | (refine l_guard_no0 (h := ?_)) | (refine l_guard_un (h := ?_)) | (refine l_guard_un0 (h := ?_)) | (refine l_load (h := ?_)) | (refine l_store (h := ?_)) | (refine l_box (h := ?_); intro _) | (refine l_alloc (h := ?_); intro _) | (refine l_index (h := ?_)) | (refine l_slice_str (h := ?_)) | (refine l_concat (h := ?_)) | (refine l_makeSlice (h := ?_); intro _) | (refine l_load_at (h := ?_)) | (refine l_store_at (h := ?_)) | (refine l_load_p (h := ?_)) | (refine l_indexAddr (h := ?_)) | (refine l_rem (h := ?_)) | (refine l_quo (h := ?_)) | (refine l_shr (h := ?_)) | (refine l_shl (h := ?_)) | (refine l_slice (h := ?_)) | (refine l_copy_in (h := ?_)) | (refine l_copy_row (h := ?_)) | (refine l_str_bs (h := ?_)) | (refine l_bytes_of (h := ?_); intro _ _ _) | (refine l_copy_str (h := ?_)) | (refine l_lookup _ (h := ?_)) | (refine l_lookup_ok _ (h := ?_)) | (refine l_mapUpdate (h := ?_)) | (refine l_delete0 (h := ?_)) | (refine l_len_map (h := ?_)) | (refine l_buildSlice1 (h := ?_); intro _) | (refine l_append_new (h := ?_); intro _ _) | (refine l_append (h := ?_); intro _ _) | (refine l_pure_none (h := ?_)) | (refine l_load_vec (h := ?_)) | (refine l_store_vec (h := ?_)) | (refine l_append_str (h := ?_); intro _ _) | (refine l_append_zeros (h := ?_); intro _ _ _) | (refine l_to_unsafe (h := ?_)) | (refine l_from_unsafe (h := ?_)) | (refine l_neq_same (h := ?_)) | (refine l_slice_any (h := ?_)) | (refine l_buildSlice2 (h := ?_); intro _) | (refine l_buildSlice3 (h := ?_); intro _) | (refine l_buildSlice4 (h := ?_); intro _) | (refine l_slice3n (h := ?_)) | (refine l_sliceData (h := ?_)) | (refine l_outer_same outer_same (h := ?_)) | (refine l_unsafeString (h := ?_)) | (refine l_assert (h := ?_)) | (refine l_lookup_k _ (h := ?_)) | (refine l_lookup_ok_k _ (h := ?_)) | (refine l_mapUpdate_k (h := ?_)) | (refine l_delete0_k (h := ?_)) | (refine l_len_map_k (h := ?_)))) | (refine n_i ?_; (first | (refine n_then (h := ?_)) | (refine n_then_ret (h := ?_)) | (refine n_block_ret (h := ?_)) | (refine n_then_exit (h := ?_)) | (refine n_block_hit (h := ?_)) | (refine n_any (h := a_pass2 (h := ?_))) | (refine n_block_miss (h := ?_)) | (refine n_block (h := ?_)) | (refine n_scope (h := ?_)) | (refine n_scope_ret (h := ?_)) | (refine n_scope_exit (h := ?_)) | (refine n_lw (h := ?_)) | (refine nr_then (h := ?_)))) | (refine a_i ?_; (first | (refine a_done (h := ?_)) | (refine a_load (h := a_pass2 (h := ?_))) | (refine a_one (h := ?_)) | (refine a_load_at (h := a_pass2 (h := ?_))) | (refine a_load_p (h := a_pass2 (h := ?_))) | (refine a_loadg_p (h := a_pass2 (h := ?_))) | (refine a_loadg (h := a_pass2 (h := ?_))) | (refine a_v (h := ?_)) | (refine a_vg (h := ?_)) | (refine a_no (h := ?_)) | (refine a_un (h := ?_)) | (refine a_load_vec (h := a_pass2 (h := ?_))) | (refine a_loadg_vec (h := a_pass2 (h := ?_))) | (refine a_w (h := ?_)) | (refine a_lookupg_k _ (h := a_pass2 (h := ?_))) | (refine a_fork2 (h1 := ?_) (h2 := ?_)) | (refine a_fork3 (h1 := ?_) (h2 := ?_) (h3 := ?_)))) | (refine lw_i ?_; (first | (refine lw_nil (h := ?_)) | (refine lw_step (h := ?_)) | (refine lw_guard_yes (h := ?_)))) | (refine gr_i ?_; (first | (refine gr_seq (h := ?_)) | (refine gr_region (h := ?_)) | (refine gr_block (h := ?_)) | (refine gr_skip (h := ?_)) | (refine gr_exit (h := ?_)) | (refine gr_ret (h := ?_)) | (refine gr_label (h := ?_)) | (refine gr_cond_t (h := ?_)) | (refine gr_cond_f (h := ?_)))) | (refine a1_i ?_; (first | (refine a1_of (h := ?_))))))
  (first | (refine g_i ?_; (refine g_shut (A := Store b db q.over) (K := StoreK b db q.over ((b1, b2))) (hid_shuts ((b1, b2)) ok) (h := ?_) (p := by dsimp only [StoreK]; (try simp only [List.map_nil, List.length_nil, List.length_set, List.length_append, List.length_cons, List.length_singleton, List.map_append, List.map_cons, Nat.zero_add, Hd.over, tt]); exact parts_of))) | (refine l_i ?_; (refine l_shut (A := Store b db q.over) (K := StoreK b db q.over ((b1, b2))) (hid_shuts ((b1, b2)) ok) (h := ?_) (p := by dsimp only [StoreK]; (try simp only [List.map_nil, List.length_nil, List.length_set, List.length_append, List.length_cons, List.length_singleton, List.map_append, List.map_cons, Nat.zero_add, Hd.over, tt]); exact parts_of))) | (refine n_i ?_; (refine n_shut (A := Store b db q.over) (K := StoreK b db q.over ((b1, b2))) (hid_shuts ((b1, b2)) ok) (h := ?_) (p := by dsimp only [StoreK]; (try simp only [List.map_nil, List.length_nil, List.length_set, List.length_append, List.length_cons, List.length_singleton, List.map_append, List.map_cons, Nat.zero_add, Hd.over, tt]); exact parts_of))))
  refine r_retk [Store b db q.over] ?_
  exact ⟨b, rfl, rfl⟩

def mountStep (D : Dk) (best : Hd) (n : Nat) : Hd := if (readH D n).2 && decide ((readH D n).1.gen > best.gen) then (readH D n).1 else best
def mountTo (D : Dk) : Nat → Hd
  | 0 => headNone
  | k + 1 => mountStep D (mountTo D k) k
def mountBest (D : Dk) : Hd := mountTo D 2
theorem readH_ok {D : Dk} {n : Int} (h : (readH D n).2 = true) : (readH D n).1.over.ok := by
  rw [readH] at h ⊢
  split at h
  · simp at h
  · rename_i hc
    rw [if_neg hc]
    dsimp only at h ⊢
    obtain ⟨ok, h80⟩ := headOf_ok (s := (pageRead D n).2.1) (Decidable.byContradiction fun q => hc (.inr (.inr q)))
    refine ⟨ok.g, ⟨ok.r.1, ?_⟩, h80, ⟨by simp [Hd.over], by simp [Hd.over]⟩, ⟨by simp [Hd.over], by simp [Hd.over]⟩⟩
    show (headOf (pageRead D n).2.1).root < 640
    by_cases hr : (headOf (pageRead D n).2.1).root = 0
    · omega
    · have hb : hasB (headOf (pageRead D n).2.1).used (headOf (pageRead D n).2.1).root = true := by
        simp only [Hd.counts, Bool.and_eq_true, Bool.not_eq_true', Bool.or_eq_false_iff, Bool.and_eq_false_iff, bne_eq_false_iff_eq, Bool.not_eq_false'] at h
        exact h.1.2.resolve_left hr
      have := hasB_lt hb
      rw [h80] at this
      omega
theorem mountTo_ok (D : Dk) : ∀ k, (mountTo D k).gen = 0 ∨ (mountTo D k).over.ok
  | 0 => .inl rfl
  | k + 1 => by
    rw [mountTo, mountStep]
    split
    · rename_i h
      simp only [Bool.and_eq_true] at h
      exact .inr (readH_ok h.1)
    · exact mountTo_ok D k
def mount (D : Dk) : Option Hd × Int := if D.gone then (none, 5) else if (mountBest D).gen = 0 then (none, 3) else (some (mountBest D), 0)
theorem Mount_does (db : Nat) (D : Dk) : Does Tryz.prog 32 [.pointer (some ⟨db, 0, none⟩)] [Disk db D]
    (fun v H => match (mount D).1 with
      | none => v = .tuple #[.pointer none, .int .i64 (mount D).2] ∧ H = [Disk db D]
      | some h => ∃ b, v = .tuple #[.pointer (some ⟨b, 0, none⟩), .int .i64 (mount D).2] ∧ H = [Store b db h.over, Disk db D]) := by
  refine does_of Tryz.func32 Tryz.ntmps32 rfl rfl rfl (fun w0 F0 => ?_)
  (repeat' (first | (refine g_i ?_; (first | (refine g_seq (h := ?_)) | (refine g_region (h := ?_)) | (refine g_skip (h := ?_)) | (refine g_ret (h := ?_)) | (refine g_block (h := ?_)) | (refine g_exit (h := ?_)) | (refine g_cond_t (h := ?_)) | (refine g_cond_f (h := ?_)) | (refine g_scope (h := ?_)) | (refine g_label (h := ?_)) | (refine g_spT (h := ?_); intro h) | (refine g_spF (h := ?_); intro h) | (refine g_sp (h1 := ?_) (h0 := ?_) <;> intro h))) | (refine l_i ?_; (first | (refine l_nil (h := ?_)) | (refine l_pures1 (h := ?_)) | (refine l_at 58 ?_; refine l_call (Up_does db D) ?_) | (refine l_at 58 ?_; refine l_call0 (Up_does db D) ?_) | (refine l_guard_yes (h := ?_)) | (refine l_guard_no (h := ?_)) | (refine l_guard_no0 (h := ?_)) | (refine l_guard_un (h := ?_)) | (refine l_guard_un0 (h := ?_)) | (refine l_load (h := ?_)) | (refine l_store (h := ?_)) | (refine l_box (h := ?_); intro _) | (refine l_alloc (h := ?_); intro _) | (refine l_index (h := ?_)) | (refine l_slice_str (h := ?_)) | (refine l_concat (h := ?_)) | (refine l_makeSlice (h := ?_); intro _) | (refine l_load_at (h := ?_)) | (refine l_store_at (h := ?_)) | (refine l_load_p (h := ?_)) | (refine l_indexAddr (h := ?_)) | (refine l_rem (h := ?_)) | (refine l_quo (h := ?_)) | (refine l_shr (h := ?_)) | (refine l_shl (h := ?_)) | (refine l_slice (h := ?_)) | (refine l_copy_in (h := ?_)) | (refine l_copy_row (h := ?_)) | (refine l_str_bs (h := ?_)) | (refine l_bytes_of (h := ?_); intro _ _ _) | (refine l_copy_str (h := ?_)) | (refine l_lookup _ (h := ?_)) | (refine l_lookup_ok _ (h := ?_)) | (refine l_mapUpdate (h := ?_)) | (refine l_delete0 (h := ?_)) | (refine l_len_map (h := ?_)) | (refine l_buildSlice1 (h := ?_); intro _) | (refine l_append_new (h := ?_); intro _ _) | (refine l_append (h := ?_); intro _ _) | (refine l_pure_none (h := ?_)) | (refine l_load_vec (h := ?_)) | (refine l_store_vec (h := ?_)) | (refine l_append_str (h := ?_); intro _ _) | (refine l_append_zeros (h := ?_); intro _ _ _) | (refine l_to_unsafe (h := ?_)) | (refine l_from_unsafe (h := ?_)) | (refine l_neq_same (h := ?_)) | (refine l_slice_any (h := ?_)) | (refine l_buildSlice2 (h := ?_); intro _) | (refine l_buildSlice3 (h := ?_); intro _) | (refine l_buildSlice4 (h := ?_); intro _) | (refine l_slice3n (h := ?_)) | (refine l_sliceData (h := ?_)) | (refine l_outer_same outer_same (h := ?_)) | (refine l_unsafeString (h := ?_)) | (refine l_assert (h := ?_)) | (refine l_lookup_k _ (h := ?_)) | (refine l_lookup_ok_k _ (h := ?_)) | (refine l_mapUpdate_k (h := ?_)) | (refine l_delete0_k (h := ?_)) | (refine l_len_map_k (h := ?_)) | (refine l_spT (h := ?_); intro h) | (refine l_spF (h := ?_); intro h) | (refine l_sp (h1 := ?_) (h0 := ?_) <;> intro h))) | (refine n_i ?_; (first | (refine n_then (h := ?_)) | (refine n_then_ret (h := ?_)) | (refine n_block_ret (h := ?_)) | (refine n_then_exit (h := ?_)) | (refine n_block_hit (h := ?_)) | (refine n_any (h := a_pass2 (h := ?_))) | (refine n_block_miss (h := ?_)) | (refine n_block (h := ?_)) | (refine n_scope (h := ?_)) | (refine n_scope_ret (h := ?_)) | (refine n_scope_exit (h := ?_)) | (refine n_lw (h := ?_)) | (refine nr_then (h := ?_)))) | (refine a_i ?_; (first | (refine a_done (h := ?_)) | (refine a_load (h := a_pass2 (h := ?_))) | (refine a_one (h := ?_)) | (refine a_load_at (h := a_pass2 (h := ?_))) | (refine a_load_p (h := a_pass2 (h := ?_))) | (refine a_loadg_p (h := a_pass2 (h := ?_))) | (refine a_loadg (h := a_pass2 (h := ?_))) | (refine a_v (h := ?_)) | (refine a_vg (h := ?_)) | (refine a_no (h := ?_)) | (refine a_un (h := ?_)) | (refine a_load_vec (h := a_pass2 (h := ?_))) | (refine a_loadg_vec (h := a_pass2 (h := ?_))) | (refine a_w (h := ?_)) | (refine a_lookupg_k _ (h := a_pass2 (h := ?_))) | (refine a_spT (h := ?_); intro h) | (refine a_spF (h := ?_); intro h) | (refine a_sp (h1 := ?_) (h0 := ?_) <;> intro h) | (refine a_fork2 (h1 := ?_) (h2 := ?_)) | (refine a_fork3 (h1 := ?_) (h2 := ?_) (h3 := ?_)))) | (refine lw_i ?_; (first | (refine lw_nil (h := ?_)) | (refine lw_step (h := ?_)) | (refine lw_guard_yes (h := ?_)))) | (refine gr_i ?_; (first | (refine gr_seq (h := ?_)) | (refine gr_region (h := ?_)) | (refine gr_block (h := ?_)) | (refine gr_skip (h := ?_)) | (refine gr_exit (h := ?_)) | (refine gr_ret (h := ?_)) | (refine gr_label (h := ?_)) | (refine gr_cond_t (h := ?_)) | (refine gr_cond_f (h := ?_)) | (refine gr_spT (h := ?_); intro h) | (refine gr_spF (h := ?_); intro h) | (refine gr_sp (h1 := ?_) (h0 := ?_) <;> intro h))) | (refine a1_i ?_; (first | (refine a1_of (h := ?_))))))
  · have e : mount D = (none, 5) := by simp [mount, *]
    rw [e]
    refine r_ret ?_
    exact ⟨rfl, rfl⟩
  · rename_i bb
    (refine g_loop (fun j : Nat => [(11, .int .i64 j), (4, .pointer (some ⟨bb, 0, none⟩)), (0, .pointer (some ⟨db, 0, none⟩))]) (fun j => [cl bb 100 [.int .i64 (mountTo D j).gen, .int .i64 (mountTo D j).root, .string (str (mountTo D j).used)], Disk db D]) (fun j => j ≤ 2) (fun j => 2 - j) (0) ?_ ?_ ?_ ?_; rotate_left; (repeat (first | refine ts_nil | (refine ts_cons rfl ?_ ?_; first | (with_reducible rfl) | rotate_left))); (first | (intro _ i; with_reducible refine i) | rotate_left); rotate_left; (try omega); rotate_right)
    · intro j hj
      (repeat' (first | (refine g_i ?_; (first | (refine g_seq (h := ?_)) | (refine g_region (h := ?_)) | (refine g_skip (h := ?_)) | (refine g_ret (h := ?_)) | (refine g_block (h := ?_)) | (refine g_exit (h := ?_)) | (refine g_cond_t (h := ?_)) | (refine g_cond_f (h := ?_)) | (refine g_scope (h := ?_)) | (refine g_label (h := ?_)) | (refine g_spT (h := ?_); intro h) | (refine g_spF (h := ?_); intro h) | (refine g_sp (h1 := ?_) (h0 := ?_) <;> intro h))) | (refine l_i ?_; (first | (refine l_nil (h := ?_)) | (refine l_pures1 (h := ?_)) | (refine l_at 59 ?_; refine l_call (read_does db D j (by omega)) ?_) | (refine l_at 59 ?_; refine l_call0 (read_does db D j (by omega)) ?_) | (refine l_guard_yes (h := ?_)) | (refine l_guard_no (h := ?_)) | (refine l_guard_no0 (h := ?_)) | (refine l_guard_un (h := ?_)) | (refine l_guard_un0 (h := ?_)) | (refine l_load (h := ?_)) | (refine l_store (h := ?_)) | (refine l_box (h := ?_); intro _) | (refine l_alloc (h := ?_); intro _) | (refine l_index (h := ?_)) | (refine l_slice_str (h := ?_)) | (refine l_concat (h := ?_)) | (refine l_makeSlice (h := ?_); intro _) | (refine l_load_at (h := ?_)) | (refine l_store_at (h := ?_)) | (refine l_load_p (h := ?_)) | (refine l_indexAddr (h := ?_)) | (refine l_rem (h := ?_)) | (refine l_quo (h := ?_)) | (refine l_shr (h := ?_)) | (refine l_shl (h := ?_)) | (refine l_slice (h := ?_)) | (refine l_copy_in (h := ?_)) | (refine l_copy_row (h := ?_)) | (refine l_str_bs (h := ?_)) | (refine l_bytes_of (h := ?_); intro _ _ _) | (refine l_copy_str (h := ?_)) | (refine l_lookup _ (h := ?_)) | (refine l_lookup_ok _ (h := ?_)) | (refine l_mapUpdate (h := ?_)) | (refine l_delete0 (h := ?_)) | (refine l_len_map (h := ?_)) | (refine l_buildSlice1 (h := ?_); intro _) | (refine l_append_new (h := ?_); intro _ _) | (refine l_append (h := ?_); intro _ _) | (refine l_pure_none (h := ?_)) | (refine l_load_vec (h := ?_)) | (refine l_store_vec (h := ?_)) | (refine l_append_str (h := ?_); intro _ _) | (refine l_append_zeros (h := ?_); intro _ _ _) | (refine l_to_unsafe (h := ?_)) | (refine l_from_unsafe (h := ?_)) | (refine l_neq_same (h := ?_)) | (refine l_slice_any (h := ?_)) | (refine l_buildSlice2 (h := ?_); intro _) | (refine l_buildSlice3 (h := ?_); intro _) | (refine l_buildSlice4 (h := ?_); intro _) | (refine l_slice3n (h := ?_)) | (refine l_sliceData (h := ?_)) | (refine l_outer_same outer_same (h := ?_)) | (refine l_unsafeString (h := ?_)) | (refine l_assert (h := ?_)) | (refine l_lookup_k _ (h := ?_)) | (refine l_lookup_ok_k _ (h := ?_)) | (refine l_mapUpdate_k (h := ?_)) | (refine l_delete0_k (h := ?_)) | (refine l_len_map_k (h := ?_)) | (refine l_spT (h := ?_); intro h) | (refine l_spF (h := ?_); intro h) | (refine l_sp (h1 := ?_) (h0 := ?_) <;> intro h))) | (refine n_i ?_; (first | (refine n_then (h := ?_)) | (refine n_then_ret (h := ?_)) | (refine n_block_ret (h := ?_)) | (refine n_then_exit (h := ?_)) | (refine n_block_hit (h := ?_)) | (refine n_any (h := a_pass2 (h := ?_))) | (refine n_block_miss (h := ?_)) | (refine n_block (h := ?_)) | (refine n_scope (h := ?_)) | (refine n_scope_ret (h := ?_)) | (refine n_scope_exit (h := ?_)) | (refine n_lw (h := ?_)) | (refine nr_then (h := ?_)))) | (refine a_i ?_; (first | (refine a_done (h := ?_)) | (refine a_load (h := a_pass2 (h := ?_))) | (refine a_one (h := ?_)) | (refine a_load_at (h := a_pass2 (h := ?_))) | (refine a_load_p (h := a_pass2 (h := ?_))) | (refine a_loadg_p (h := a_pass2 (h := ?_))) | (refine a_loadg (h := a_pass2 (h := ?_))) | (refine a_v (h := ?_)) | (refine a_vg (h := ?_)) | (refine a_no (h := ?_)) | (refine a_un (h := ?_)) | (refine a_load_vec (h := a_pass2 (h := ?_))) | (refine a_loadg_vec (h := a_pass2 (h := ?_))) | (refine a_w (h := ?_)) | (refine a_lookupg_k _ (h := a_pass2 (h := ?_))) | (refine a_spT (h := ?_); intro h) | (refine a_spF (h := ?_); intro h) | (refine a_sp (h1 := ?_) (h0 := ?_) <;> intro h) | (refine a_fork2 (h1 := ?_) (h2 := ?_)) | (refine a_fork3 (h1 := ?_) (h2 := ?_) (h3 := ?_)))) | (refine lw_i ?_; (first | (refine lw_nil (h := ?_)) | (refine lw_step (h := ?_)) | (refine lw_guard_yes (h := ?_)))) | (refine gr_i ?_; (first | (refine gr_seq (h := ?_)) | (refine gr_region (h := ?_)) | (refine gr_block (h := ?_)) | (refine gr_skip (h := ?_)) | (refine gr_exit (h := ?_)) | (refine gr_ret (h := ?_)) | (refine gr_label (h := ?_)) | (refine gr_cond_t (h := ?_)) | (refine gr_cond_f (h := ?_)) | (refine gr_spT (h := ?_); intro h) | (refine gr_spF (h := ?_); intro h) | (refine gr_sp (h1 := ?_) (h0 := ?_) <;> intro h))) | (refine a1_i ?_; (first | (refine a1_of (h := ?_))))))
      · have e : mountTo D (j + 1) = (readH D j).1 := by simp [mountTo, mountStep, *]
        (refine n_back (j + 1) ?_ ?_ ?_ ?_; rotate_left; rotate_left; (repeat (first | refine ts_nil | (refine ts_cons rfl ?_ ?_; first | (with_reducible rfl) | rotate_left))); (first | (intro _ i; with_reducible refine i) | rotate_left); (try omega); (try omega))
        · rw [wrapI64 (by omega)]; rfl
        · rw [e]
          (intro _ i; exact inv_keep parts_of i)
      · have e : mountTo D (j + 1) = mountTo D j := by simp [mountTo, mountStep, *]
        (refine n_back (j + 1) ?_ ?_ ?_ ?_; rotate_left; rotate_left; (repeat (first | refine ts_nil | (refine ts_cons rfl ?_ ?_; first | (with_reducible rfl) | rotate_left))); (first | (intro _ i; with_reducible refine i) | rotate_left); (try omega); (try omega))
        · rw [wrapI64 (by omega)]; rfl
        · rw [e]
          (intro _ i; exact inv_keep parts_of i)
      · have e : mountTo D (j + 1) = mountTo D j := by simp [mountTo, mountStep, *]
        (refine n_back (j + 1) ?_ ?_ ?_ ?_; rotate_left; rotate_left; (repeat (first | refine ts_nil | (refine ts_cons rfl ?_ ?_; first | (with_reducible rfl) | rotate_left))); (first | (intro _ i; with_reducible refine i) | rotate_left); (try omega); (try omega))
        · rw [wrapI64 (by omega)]; rfl
        · rw [e]
          (intro _ i; exact inv_keep parts_of i)
      · obtain rfl : j = 2 := by omega
        have e : mount D = (none, 3) := by simp [mount, mountBest, *]
        rw [e]
        refine r_retk [Disk db D] ?_
        exact ⟨rfl, rfl⟩
      · obtain rfl : j = 2 := by omega
        have e : mount D = (some (mountTo D 2), 0) := by simp [mount, mountBest, *]
        have hok : (mountTo D 2).over.ok := (mountTo_ok D 2).resolve_left (by assumption)
        (repeat' (first | (refine g_i ?_; (first | (refine g_seq (h := ?_)) | (refine g_region (h := ?_)) | (refine g_skip (h := ?_)) | (refine g_ret (h := ?_)) | (refine g_block (h := ?_)) | (refine g_exit (h := ?_)) | (refine g_cond_t (h := ?_)) | (refine g_cond_f (h := ?_)) | (refine g_scope (h := ?_)) | (refine g_label (h := ?_)) | (refine g_spT (h := ?_); intro h) | (refine g_spF (h := ?_); intro h) | (refine g_sp (h1 := ?_) (h0 := ?_) <;> intro h))) | (refine l_i ?_; (first | (refine l_nil (h := ?_)) | (refine l_pures1 (h := ?_)) | (refine l_at 60 ?_; refine l_call_ (over_does (mountTo D 2) hok db) ?_; rintro _ _ _ ⟨b', rfl, rfl⟩ he; cases he) | (refine l_at 60 ?_; refine l_call0_ (over_does (mountTo D 2) hok db) ?_; rintro _ _ _ ⟨b', rfl, rfl⟩ he; cases he) | (refine l_guard_yes (h := ?_)) | (refine l_guard_no (h := ?_)) | (refine l_guard_no0 (h := ?_)) | (refine l_guard_un (h := ?_)) | (refine l_guard_un0 (h := ?_)) | (refine l_load (h := ?_)) | (refine l_store (h := ?_)) | (refine l_box (h := ?_); intro _) | (refine l_alloc (h := ?_); intro _) | (refine l_index (h := ?_)) | (refine l_slice_str (h := ?_)) | (refine l_concat (h := ?_)) | (refine l_makeSlice (h := ?_); intro _) | (refine l_load_at (h := ?_)) | (refine l_store_at (h := ?_)) | (refine l_load_p (h := ?_)) | (refine l_indexAddr (h := ?_)) | (refine l_rem (h := ?_)) | (refine l_quo (h := ?_)) | (refine l_shr (h := ?_)) | (refine l_shl (h := ?_)) | (refine l_slice (h := ?_)) | (refine l_copy_in (h := ?_)) | (refine l_copy_row (h := ?_)) | (refine l_str_bs (h := ?_)) | (refine l_bytes_of (h := ?_); intro _ _ _) | (refine l_copy_str (h := ?_)) | (refine l_lookup _ (h := ?_)) | (refine l_lookup_ok _ (h := ?_)) | (refine l_mapUpdate (h := ?_)) | (refine l_delete0 (h := ?_)) | (refine l_len_map (h := ?_)) | (refine l_buildSlice1 (h := ?_); intro _) | (refine l_append_new (h := ?_); intro _ _) | (refine l_append (h := ?_); intro _ _) | (refine l_pure_none (h := ?_)) | (refine l_load_vec (h := ?_)) | (refine l_store_vec (h := ?_)) | (refine l_append_str (h := ?_); intro _ _) | (refine l_append_zeros (h := ?_); intro _ _ _) | (refine l_to_unsafe (h := ?_)) | (refine l_from_unsafe (h := ?_)) | (refine l_neq_same (h := ?_)) | (refine l_slice_any (h := ?_)) | (refine l_buildSlice2 (h := ?_); intro _) | (refine l_buildSlice3 (h := ?_); intro _) | (refine l_buildSlice4 (h := ?_); intro _) | (refine l_slice3n (h := ?_)) | (refine l_sliceData (h := ?_)) | (refine l_outer_same outer_same (h := ?_)) | (refine l_unsafeString (h := ?_)) | (refine l_assert (h := ?_)) | (refine l_lookup_k _ (h := ?_)) | (refine l_lookup_ok_k _ (h := ?_)) | (refine l_mapUpdate_k (h := ?_)) | (refine l_delete0_k (h := ?_)) | (refine l_len_map_k (h := ?_)) | (refine l_spT (h := ?_); intro h) | (refine l_spF (h := ?_); intro h) | (refine l_sp (h1 := ?_) (h0 := ?_) <;> intro h))) | (refine n_i ?_; (first | (refine n_then (h := ?_)) | (refine n_then_ret (h := ?_)) | (refine n_block_ret (h := ?_)) | (refine n_then_exit (h := ?_)) | (refine n_block_hit (h := ?_)) | (refine n_any (h := a_pass2 (h := ?_))) | (refine n_block_miss (h := ?_)) | (refine n_block (h := ?_)) | (refine n_scope (h := ?_)) | (refine n_scope_ret (h := ?_)) | (refine n_scope_exit (h := ?_)) | (refine n_lw (h := ?_)) | (refine nr_then (h := ?_)))) | (refine a_i ?_; (first | (refine a_done (h := ?_)) | (refine a_load (h := a_pass2 (h := ?_))) | (refine a_one (h := ?_)) | (refine a_load_at (h := a_pass2 (h := ?_))) | (refine a_load_p (h := a_pass2 (h := ?_))) | (refine a_loadg_p (h := a_pass2 (h := ?_))) | (refine a_loadg (h := a_pass2 (h := ?_))) | (refine a_v (h := ?_)) | (refine a_vg (h := ?_)) | (refine a_no (h := ?_)) | (refine a_un (h := ?_)) | (refine a_load_vec (h := a_pass2 (h := ?_))) | (refine a_loadg_vec (h := a_pass2 (h := ?_))) | (refine a_w (h := ?_)) | (refine a_lookupg_k _ (h := a_pass2 (h := ?_))) | (refine a_spT (h := ?_); intro h) | (refine a_spF (h := ?_); intro h) | (refine a_sp (h1 := ?_) (h0 := ?_) <;> intro h) | (refine a_fork2 (h1 := ?_) (h2 := ?_)) | (refine a_fork3 (h1 := ?_) (h2 := ?_) (h3 := ?_)))) | (refine lw_i ?_; (first | (refine lw_nil (h := ?_)) | (refine lw_step (h := ?_)) | (refine lw_guard_yes (h := ?_)))) | (refine gr_i ?_; (first | (refine gr_seq (h := ?_)) | (refine gr_region (h := ?_)) | (refine gr_block (h := ?_)) | (refine gr_skip (h := ?_)) | (refine gr_exit (h := ?_)) | (refine gr_ret (h := ?_)) | (refine gr_label (h := ?_)) | (refine gr_cond_t (h := ?_)) | (refine gr_cond_f (h := ?_)) | (refine gr_spT (h := ?_); intro h) | (refine gr_spF (h := ?_); intro h) | (refine gr_sp (h1 := ?_) (h0 := ?_) <;> intro h))) | (refine a1_i ?_; (first | (refine a1_of (h := ?_))))))
        refine r_retk [Store b' db (mountTo D 2).over, Disk db D] ?_
        rw [e]
        exact ⟨b', rfl, rfl⟩
    · rfl
    · exact id
end Go.Proofs.YtbdgnjlbmhnipaaGreat
/-
  DERIVED: THE SHELF's CONTRACTS AT THIS DUMP, IN PLAIN WORDS (tools/lay-plain.mjs out of 'YtbdgnjlbmhnipaaGreatLayQ.lean', which tools/lay-shelf.mjs wrote): THE SAME DECLARATIONS UNDER THE SAME NAMES: 'import', 'namespace', 'open', 'def', 'theorem' AND NOTHING ELSE: no command of the shelf's: FOR A HAND-IN. Each laying: the table of numbers ('.._ren') and one theorem, a field a fact of the dump's own or the kernel's comparison; each contract: ONE APPLICATION.
-/
namespace Go.Proofs
open Go.Shelf
def Tryz.layRepeat_ren : Go.Shelf.Ren := ⟨fun | 105 => 63 | 212 => 98 | 99 => 99 | 165 => 100 | 166 => 101 | 170 => 102 | 169 => 103 | 263 => 131 | 264 => 132 | 206 => 133 | 240 => 134 | 241 => 135 | 276 => 153 | 277 => 154 | n => n, fun | 9 => 9 | 3 => 3 | 4 => 4 | 20 => 20 | 0 => 0 | 46 => 117 | 109 => 174 | 5 => 5 | 72 => 179 | 76 => 183 | 51 => 31 | 146 => 209 | 53 => 32 | 148 => 211 | 70 => 177 | 37 => 40 | 75 => 182 | 127 => 213 | 164 => 242 | 80 => 185 | n => n, fun | n => n⟩
theorem Tryz.layRepeat : Go.Proofs.Lays.n105 Tryz.prog Tryz.layRepeat_ren := {
  mixed := by kernel_rfl
  f99 := Tryz.func99.trans (congrArg some (by kernel_rfl))
  f105 := Tryz.func63.trans (congrArg some (by kernel_rfl))
  f165 := Tryz.func100.trans (congrArg some (by kernel_rfl))
  f166 := Tryz.func101.trans (congrArg some (by kernel_rfl))
  f169 := Tryz.func103.trans (congrArg some (by kernel_rfl))
  f170 := Tryz.func102.trans (congrArg some (by kernel_rfl))
  f206 := Tryz.func133.trans (congrArg some (by kernel_rfl))
  f212 := Tryz.func98.trans (congrArg some (by kernel_rfl))
  f240 := Tryz.func134.trans (congrArg some (by kernel_rfl))
  f241 := Tryz.func135.trans (congrArg some (by kernel_rfl))
  f263 := Tryz.func131.trans (congrArg some (by kernel_rfl))
  f264 := Tryz.func132.trans (congrArg some (by kernel_rfl))
  f276 := Tryz.func153.trans (congrArg some (by kernel_rfl))
  f277 := Tryz.func154.trans (congrArg some (by kernel_rfl))
  t0 := Tryz.underlying0
  a0 := Tryz.isAgg0
  z0 := Tryz.sizeOf0
  v0 := Tryz.zeroValue0
  t3 := Tryz.underlying3
  a3 := Tryz.isAgg3
  z3 := Tryz.sizeOf3
  v3 := Tryz.zeroValue3
  t4 := Tryz.underlying4
  a4 := Tryz.isAgg4
  z4 := Tryz.sizeOf4
  v4 := Tryz.zeroValue4
  t5 := Tryz.underlying5
  a5 := Tryz.isAgg5
  z5 := Tryz.sizeOf5
  v5 := Tryz.zeroValue5
  t9 := Tryz.underlying9
  a9 := Tryz.isAgg9
  z9 := Tryz.sizeOf9
  v9 := Tryz.zeroValue9
  t20 := Tryz.underlying20
  a20 := Tryz.isAgg20
  z20 := Tryz.sizeOf20
  v20 := Tryz.zeroValue20
  t37 := Tryz.underlying40
  a37 := Tryz.isAgg40
  z37 := Tryz.sizeOf40
  v37 := Tryz.zeroValue40
  t46 := Tryz.underlying117
  a46 := Tryz.isAgg117
  z46 := Tryz.sizeOf117
  v46 := Tryz.zeroValue117
  t51 := Tryz.underlying31
  a51 := Tryz.isAgg31
  z51 := Tryz.sizeOf31
  v51 := Tryz.zeroValue31
  t53 := Tryz.underlying32
  a53 := Tryz.isAgg32
  z53 := Tryz.sizeOf32
  v53 := Tryz.zeroValue32
  t70 := Tryz.underlying177
  a70 := Tryz.isAgg177
  z70 := Tryz.sizeOf177
  v70 := Tryz.zeroValue177
  t72 := Tryz.underlying179
  a72 := Tryz.isAgg179
  z72 := Tryz.sizeOf179
  v72 := Tryz.zeroValue179
  t75 := Tryz.underlying182
  a75 := Tryz.isAgg182
  z75 := Tryz.sizeOf182
  v75 := Tryz.zeroValue182
  t76 := Tryz.underlying183
  a76 := Tryz.isAgg183
  z76 := Tryz.sizeOf183
  v76 := Tryz.zeroValue183
  t109 := Tryz.underlying174
  a109 := Tryz.isAgg174
  z109 := Tryz.sizeOf174
  v109 := Tryz.zeroValue174
  t127 := Tryz.underlying213
  a127 := Tryz.isAgg213
  z127 := Tryz.sizeOf213
  v127 := Tryz.zeroValue213
  t146 := Tryz.underlying209
  a146 := Tryz.isAgg209
  z146 := Tryz.sizeOf209
  v146 := Tryz.zeroValue209
  t148 := Tryz.underlying211
  a148 := Tryz.isAgg211
  z148 := Tryz.sizeOf211
  v148 := Tryz.zeroValue211
  t164 := Tryz.underlying242
  a164 := Tryz.isAgg242
  z164 := Tryz.sizeOf242
  v164 := Tryz.zeroValue242 }
def Tryz.layKeys_ren : Go.Shelf.Ren := ⟨fun | 7 => 84 | 10 => 124 | n => n, fun | 23 => 101 | 26 => 3 | 3 => 4 | 28 => 156 | 0 => 0 | 27 => 155 | 33 => 39 | 4 => 4 | n => n, fun | n => n⟩
theorem Tryz.layKeys : Go.Proofs.SlLaysZI.n7 Tryz.prog Tryz.layKeys_ren := {
  mixed := by kernel_rfl
  f7 := ⟨Tryz.f84.name, by decide, Tryz.func84.trans (congrArg some (by kernel_rfl))⟩
  f10 := ⟨Tryz.f124.name, by decide, Tryz.func124.trans (congrArg some (by kernel_rfl))⟩
  t0 := Tryz.underlying0
  a0 := Tryz.isAgg0
  z0 := Tryz.sizeOf0
  v0 := Tryz.zeroValue0
  t4 := Tryz.underlying4
  a4 := Tryz.isAgg4
  z4 := Tryz.sizeOf4
  v4 := Tryz.zeroValue4
  t23 := Tryz.underlying101
  a23 := Tryz.isAgg101
  z23 := Tryz.sizeOf101
  v23 := Tryz.zeroValue101
  t26 := Tryz.underlying3
  a26 := Tryz.isAgg3
  z26 := Tryz.sizeOf3
  v26 := Tryz.zeroValue3
  t27 := Tryz.underlying155
  a27 := Tryz.isAgg155
  z27 := Tryz.sizeOf155
  v27 := Tryz.zeroValue155
  t28 := Tryz.underlying156
  a28 := Tryz.isAgg156
  z28 := Tryz.sizeOf156
  v28 := Tryz.zeroValue156
  t33 := Tryz.underlying39
  a33 := Tryz.isAgg39
  z33 := Tryz.sizeOf39
  v33 := Tryz.zeroValue39 }
def Tryz.laySorted_ren : Go.Shelf.Ren := ⟨fun | 6 => 83 | 8 => 122 | 9 => 123 | 11 => 148 | 13 => 150 | 12 => 149 | 23 => 172 | 24 => 173 | 14 => 163 | 15 => 164 | 16 => 165 | 17 => 166 | 18 => 167 | 19 => 168 | 20 => 169 | 21 => 170 | 22 => 171 | 25 => 176 | 26 => 177 | 27 => 178 | 28 => 179 | 29 => 180 | 30 => 181 | 31 => 186 | n => n, fun | 26 => 3 | 28 => 156 | 24 => 22 | 0 => 0 | 3 => 3 | 37 => 117 | 48 => 31 | 50 => 32 | 4 => 4 | 40 => 257 | 39 => 256 | 45 => 152 | 5 => 5 | 9 => 9 | 51 => 266 | 55 => 270 | 57 => 275 | 58 => 276 | 33 => 39 | n => n, fun | n => n⟩
theorem Tryz.laySorted : Go.Proofs.SlLaysZI.n6 Tryz.prog Tryz.laySorted_ren := {
  mixed := by kernel_rfl
  f6 := ⟨Tryz.f83.name, by decide, Tryz.func83.trans (congrArg some (by kernel_rfl))⟩
  f8 := ⟨Tryz.f122.name, by decide, Tryz.func122.trans (congrArg some (by kernel_rfl))⟩
  f11 := ⟨Tryz.f148.name, by decide, Tryz.func148.trans (congrArg some (by kernel_rfl))⟩
  t0 := Tryz.underlying0
  a0 := Tryz.isAgg0
  z0 := Tryz.sizeOf0
  v0 := Tryz.zeroValue0
  t24 := Tryz.underlying22
  a24 := Tryz.isAgg22
  z24 := Tryz.sizeOf22
  v24 := Tryz.zeroValue22
  t26 := Tryz.underlying3
  a26 := Tryz.isAgg3
  z26 := Tryz.sizeOf3
  v26 := Tryz.zeroValue3
  t28 := Tryz.underlying156
  a28 := Tryz.isAgg156
  z28 := Tryz.sizeOf156
  v28 := Tryz.zeroValue156
  i26 := by kernel_rfl }
def Tryz.laySort_ren : Go.Shelf.Ren := ⟨fun | 5 => 123 | 8 => 150 | 7 => 149 | 19 => 172 | 20 => 173 | 10 => 163 | 11 => 164 | 12 => 165 | 13 => 166 | 14 => 167 | 15 => 168 | 16 => 169 | 17 => 170 | 18 => 171 | 30 => 176 | 31 => 177 | 32 => 178 | 33 => 179 | 34 => 180 | 35 => 181 | 40 => 186 | n => n, fun | 23 => 22 | 25 => 3 | 3 => 3 | 32 => 117 | 22 => 22 | 0 => 0 | 44 => 31 | 46 => 32 | 4 => 4 | 36 => 257 | 35 => 256 | 41 => 152 | 5 => 5 | 9 => 9 | 53 => 266 | 57 => 270 | 63 => 275 | 64 => 276 | n => n, fun | n => n⟩
theorem Tryz.laySort : Go.Proofs.SlLaysM.n5 Tryz.prog Tryz.laySort_ren := {
  mixed := by kernel_rfl
  f5 := ⟨Tryz.f123.name, by decide, Tryz.func123.trans (congrArg some (by kernel_rfl))⟩
  f7 := ⟨Tryz.f149.name, by decide, Tryz.func149.trans (congrArg some (by kernel_rfl))⟩
  f8 := Tryz.func150.trans (congrArg some (by kernel_rfl))
  f10 := ⟨Tryz.f163.name, by decide, Tryz.func163.trans (congrArg some (by kernel_rfl))⟩
  f11 := ⟨Tryz.f164.name, by decide, Tryz.func164.trans (congrArg some (by kernel_rfl))⟩
  f12 := ⟨Tryz.f165.name, by decide, Tryz.func165.trans (congrArg some (by kernel_rfl))⟩
  f13 := ⟨Tryz.f166.name, by decide, Tryz.func166.trans (congrArg some (by kernel_rfl))⟩
  f14 := ⟨Tryz.f167.name, by decide, Tryz.func167.trans (congrArg some (by kernel_rfl))⟩
  f15 := ⟨Tryz.f168.name, by decide, Tryz.func168.trans (congrArg some (by kernel_rfl))⟩
  f16 := ⟨Tryz.f169.name, by decide, Tryz.func169.trans (congrArg some (by kernel_rfl))⟩
  f17 := ⟨Tryz.f170.name, by decide, Tryz.func170.trans (congrArg some (by kernel_rfl))⟩
  f18 := ⟨Tryz.f171.name, by decide, Tryz.func171.trans (congrArg some (by kernel_rfl))⟩
  f19 := Tryz.func172.trans (congrArg some (by kernel_rfl))
  f20 := Tryz.func173.trans (congrArg some (by kernel_rfl))
  f30 := ⟨Tryz.f176.name, by decide, Tryz.func176.trans (congrArg some (by kernel_rfl))⟩
  f31 := Tryz.func177.trans (congrArg some (by kernel_rfl))
  f32 := Tryz.func178.trans (congrArg some (by kernel_rfl))
  f33 := ⟨Tryz.f179.name, by decide, Tryz.func179.trans (congrArg some (by kernel_rfl))⟩
  f34 := ⟨Tryz.f180.name, by decide, Tryz.func180.trans (congrArg some (by kernel_rfl))⟩
  f35 := ⟨Tryz.f181.name, by decide, Tryz.func181.trans (congrArg some (by kernel_rfl))⟩
  f40 := ⟨Tryz.f186.name, by decide, Tryz.func186.trans (congrArg some (by kernel_rfl))⟩
  t0 := Tryz.underlying0
  a0 := Tryz.isAgg0
  z0 := Tryz.sizeOf0
  v0 := Tryz.zeroValue0
  t3 := Tryz.underlying3
  a3 := Tryz.isAgg3
  z3 := Tryz.sizeOf3
  v3 := Tryz.zeroValue3
  t4 := Tryz.underlying4
  a4 := Tryz.isAgg4
  z4 := Tryz.sizeOf4
  v4 := Tryz.zeroValue4
  t5 := Tryz.underlying5
  a5 := Tryz.isAgg5
  z5 := Tryz.sizeOf5
  v5 := Tryz.zeroValue5
  t9 := Tryz.underlying9
  a9 := Tryz.isAgg9
  z9 := Tryz.sizeOf9
  v9 := Tryz.zeroValue9
  t22 := Tryz.underlying22
  a22 := Tryz.isAgg22
  z22 := Tryz.sizeOf22
  v22 := Tryz.zeroValue22
  t23 := Tryz.underlying22
  a23 := Tryz.isAgg22
  z23 := Tryz.sizeOf22
  v23 := Tryz.zeroValue22
  t25 := Tryz.underlying3
  a25 := Tryz.isAgg3
  z25 := Tryz.sizeOf3
  v25 := Tryz.zeroValue3
  t32 := Tryz.underlying117
  a32 := Tryz.isAgg117
  z32 := Tryz.sizeOf117
  v32 := Tryz.zeroValue117
  t35 := Tryz.underlying256
  a35 := Tryz.isAgg256
  z35 := Tryz.sizeOf256
  v35 := Tryz.zeroValue256
  t36 := Tryz.underlying257
  a36 := Tryz.isAgg257
  z36 := Tryz.sizeOf257
  v36 := Tryz.zeroValue257
  t41 := Tryz.underlying152
  a41 := Tryz.isAgg152
  z41 := Tryz.sizeOf152
  v41 := Tryz.zeroValue152
  t44 := Tryz.underlying31
  a44 := Tryz.isAgg31
  z44 := Tryz.sizeOf31
  v44 := Tryz.zeroValue31
  t46 := Tryz.underlying32
  a46 := Tryz.isAgg32
  z46 := Tryz.sizeOf32
  v46 := Tryz.zeroValue32
  t53 := Tryz.underlying266
  a53 := Tryz.isAgg266
  z53 := Tryz.sizeOf266
  v53 := Tryz.zeroValue266
  t57 := Tryz.underlying270
  a57 := Tryz.isAgg270
  z57 := Tryz.sizeOf270
  v57 := Tryz.zeroValue270
  t63 := Tryz.underlying275
  a63 := Tryz.isAgg275
  z63 := Tryz.sizeOf275
  v63 := Tryz.zeroValue275
  t64 := Tryz.underlying276
  a64 := Tryz.isAgg276
  z64 := Tryz.sizeOf276
  v64 := Tryz.zeroValue276 }
end Go.Proofs
/- The shelf's contracts, laid: maps.Keys and slices.Sorted over whole numbers. -/
set_option linter.unusedVariables false
namespace Go.Proofs
open Go.Shelf Go.RowKit Go.Maps Go.Sort
theorem Tryz.sortsIn (m : Nat) : AnyZI.SortsIn Tryz.prog Tryz.laySorted_ren Fence.wide m :=
  ⟨fun blk off cap ss W hH hblk hsz => callsIn_wide.2 (AnyM.slices_Sort_int Tryz.laySort blk off cap ss W hH hblk hsz),
   fun p cap W => callsIn_wide.2 (AnyM.slices_Sort_int_none Tryz.laySort p cap W)⟩
theorem Tryz.keys_calls (mb : Option Nat) (W : World) : Calls Tryz.prog 84 #[.map mb] W fun e w' => e = .returned (.func (.func 124) #[] #[.pointer (some ⟨W.heap.size, 0, none⟩)]) ∧ w' = W.alloc (.cells #[.map mb] 101) :=
  (callsIn_wide (n := 5)).1 (AnyZI.keys_in Tryz.layKeys Fence.wide 5 trivial rfl mb W)
theorem Tryz.sorted_calls {H : Type} (b box nn : Nat) (D0 : DataW H) (R : Value → Option (DataW H × List MemPlace)) (w : World) (hbox : w.cell? ⟨box, 0, none⟩ = some (.map (some b))) (hbl : box < w.heap.size) (hown : w.ownsMap Tryz.prog 3 R b nn D0) (hmax : Maps.size D0 ≤ maxLen) (hbytes : Maps.size D0 * 8 ≤ 140737488355328) :
    Calls Tryz.prog 83 #[.func (.func 124) #[] #[.pointer (some ⟨box, 0, none⟩)]] w fun e w' => ∃ (v : Value) (ss : List Int), e = .returned v ∧ ss.Perm (intKeys D0) ∧
      w'.ownsRow w.heap.size 3 1 v ss.length ((ss.mergeSort (fun x y => decide (x ≤ y))).map encZ) ∧ (v = .slice none 0 0 ↔ ss = []) ∧ Below w.heap.size w w' := by
  have hseq : SeqGives Fence.wide 2 Tryz.prog 124 #[.pointer (some ⟨box, 0, none⟩)] encZ (fun ss => ss.Perm (intKeys D0)) (Maps.size D0) w :=
    AnyZI.keys_gives (ρ := Tryz.layKeys_ren) { Tryz.layKeys with } Fence.wide _ trivial rfl (by omega) box b nn D0 _ hbl hbox hown
  have cS := AnyZI.sorted_in Tryz.laySorted Fence.wide 5 trivial trivial trivial trivial rfl (by omega) (Tryz.sortsIn _) (enters_of Tryz.func123 (by kernel_rfl) rfl) 124 #[.pointer (some ⟨box, 0, none⟩)] trivial (enters_of Tryz.func124 (by kernel_rfl) rfl) _ _ hmax hbytes _ hseq
  exact (callsIn_wide (n := 5)).1 cS
end Go.Proofs
/- maps.Keys and slices.Sorted at a map of whole numbers, as contracts. -/
set_option linter.unusedVariables false
set_option linter.unusedSimpArgs false
namespace Go.Proofs.YtbdgnjlbmhnipaaGreat
open Go.Proofs.YtbdgnjlbmhnipaaGreat.SL

theorem Keys_does (m : Nat) : Does Tryz.prog 84 [.map (some m)] [] (fun v H => ∃ box, v = .func (.func 124) #[] #[.pointer (some ⟨box, 0, none⟩)] ∧ H = [cl box 101 [.map (some m)]]) := by
  intro w F s
  refine (Tryz.keys_calls (some m) w).mono fun e w' ⟨h1, h2⟩ => ?_
  subst h2
  have i : Inv w F [] w := ⟨⟨F, s, fun _ _ h => h⟩, fun _ _ _ => rfl, Nat.le_refl _, rfl, rfl, rfl⟩
  exact ⟨_, _, h1, ⟨w.heap.size, rfl, rfl⟩, Inv.to_cl (fr := (0, 0)) (fun _ _ h => by omega) (i.alloc (.cells #[.map (some m)] 101))⟩

/-- A set's numbers, rising. -/
def rise (l : List Int) : List Int := l.mergeSort fun x y => decide (x ≤ y)
theorem rise_perm (l : List Int) : (rise l).Perm l := List.mergeSort_perm _ _
theorem rise_sorted (l : List Int) : (rise l).Pairwise (fun a b => a ≤ b) := by
  have := List.pairwise_mergeSort (le := fun x y : Int => decide (x ≤ y)) (fun a b c h1 h2 => by simp at h1 h2 ⊢; omega) (fun a b => by simp; omega) l
  simpa [rise] using this
theorem rise_of {l m : List Int} (h : l.Perm m) : rise l = rise m :=
  List.Perm.eq_of_pairwise (le := fun a b => a ≤ b) (fun a b _ _ h1 h2 => by omega) (rise_sorted l) (rise_sorted m) (((rise_perm l).trans h).trans (rise_perm m).symm)

theorem Sorted_does (box m : Nat) (l : List Int) (hb : ∀ i ∈ l, -9223372036854775808 ≤ i ∧ i < 9223372036854775808) (hl : l.length ≤ 1000000) : Does Tryz.prog 83 [.func (.func 124) #[] #[.pointer (some ⟨box, 0, none⟩)]] [cl box 101 [.map (some m)], mp m Value.bool (tt l)]
    (fun v H => ∃ p cap, v = .slice p l.length cap ∧ H = [vec 3 1 p l.length cap ((rise l).map encZ'), cl box 101 [.map (some m)], mp m Value.bool (tt l)]) := by
  intro w F s
  obtain ⟨F1, F2, a1, ⟨F3, F4, a2, _, _, _⟩, _, _⟩ := id s
  have hkt : Tryz.prog.underlying 3 = some (.int .i64) := env_ok.under rfl
  obtain ⟨D0, o1, o2, o3⟩ := owns_of_mp (P := Tryz.prog) (kt := 3) hkt (by intro p hp; obtain ⟨i, hi, rfl⟩ := List.mem_map.1 hp; exact hb i hi) (by simpa [tt] using hl) a2
  rw [tt_fst] at o3
  have hlen : (tt l).length = l.length := by simp [tt]
  obtain ⟨⟨fr, hfr, hw⟩, hF1⟩ := id a1
  refine (Tryz.sorted_calls m box _ D0 _ w (by rw [cell_at hw]; rfl) (lt_of_some hw) o1 (by rw [o2, hlen]; simp only [maxLen]; omega) (by rw [o2, hlen]; omega)).mono fun e w' ⟨v, ss, h1, h2, h3, h4, h5⟩ => ?_
  have hp : ss.Perm l := h2.trans o3
  have hss : ss.mergeSort (fun x y => decide (x ≤ y)) = rise l := rise_of hp
  rw [hss, hp.length_eq] at h3
  obtain ⟨p, cap, G, e1, g1, g2⟩ := vec_of_ownsRow h3
  exact ⟨_, _, h1, ⟨p, cap, e1, rfl⟩, inv_beside h5 s g1 g2⟩
end Go.Proofs.YtbdgnjlbmhnipaaGreat
/- The shelf's contracts, laid: strings.Repeat, maps.Keys, slices.Sorted. -/
set_option linter.unusedVariables false
namespace Go.Proofs
open Go.Shelf Go.RowKit
theorem Tryz.repeatX : Builder.Extra Tryz.prog Tryz.layRepeat_ren := {
  sizeBuilder := by kernel_rfl
  liesBuilder := by kernel_rfl
  t5 := Tryz.layRepeat.t5
  a5 := Tryz.layRepeat.a5
  z5 := Tryz.layRepeat.z5
  v5 := Tryz.layRepeat.v5
  infoByte := by kernel_rfl
  cellsByte := by kernel_rfl
  sizeByte := by kernel_rfl
  neB5 := by decide }
theorem Tryz.repeat_calls (s : ByteArray) (c : Nat) (w : World) (hc : c ≤ 9223372036854775807) (hlen : s.size * c ≤ 140737488355328) :
    Calls Tryz.prog 63 #[.string s, .int .i64 c] w fun e w' => e = .returned (.string ⟨(Lib.repeatL s.data.toList c).toArray⟩) ∧ Below w.heap.size w w' :=
  Any.strings_Repeat Tryz.layRepeat Tryz.repeatX s c w hc hlen
theorem Tryz.mul_calls (x y : Nat) (hx : x < 18446744073709551616) (hy : y < 18446744073709551616) (w : World) :
    Calls Tryz.prog 98 #[.int .u64 x, .int .u64 y] w fun e w' => e = .returned (.tuple #[.int .u64 ((x * y / 18446744073709551616 : Nat) : Int), .int .u64 ((x * y % 18446744073709551616 : Nat) : Int)]) ∧ w' = w :=
  Any.bits_Mul { Tryz.layRepeat with } x y hx hy w
end Go.Proofs
/- strings.Repeat, and what is built on it. -/
set_option linter.unusedVariables false
set_option linter.unusedSimpArgs false
namespace Go.Proofs.YtbdgnjlbmhnipaaGreat
open Go.Proofs.YtbdgnjlbmhnipaaGreat.SL

theorem Repeat_does (c : Nat) (hc : c ≤ 140737488355328) : Does Tryz.prog 63 [.string { data := #[0] }, .int .i64 c] [] (fun v H => v = .string (str (List.replicate c 0)) ∧ H = []) := by
  refine does_below (v := .string (str (List.replicate c 0))) fun w => (Tryz.repeat_calls (str [0]) c w (by omega) ?_).mono fun e w' h => ⟨?_, h.2⟩
  · show 1 * c ≤ _
    omega
  · rw [h.1]
    have e : ∀ c, Lib.repeatL [0] c = List.replicate c 0 := fun c => by
      induction c with
      | zero => rfl
      | succ c ih => rw [Lib.repeatL, ih]; rfl
    show Ending.returned (Value.string ⟨(Lib.repeatL [0] c).toArray⟩) = _
    rw [e]
    rfl

def newB (n : Int) : List UInt8 := List.replicate ((min (max n 0) 100000 + 7) / 8).toNat 0
theorem bNew_does (n : Int) (hn : -9223372036854775808 ≤ n ∧ n < 9223372036854775808) : Does Tryz.prog 65 [.int .i64 n] [] (fun v H => v = .string (str (newB n)) ∧ H = []) := by
  refine does_of Tryz.func65 Tryz.ntmps65 rfl rfl rfl (fun w0 F0 => ?_)
  (repeat (first | refine g_seq (h := ?_) | refine g_region (h := ?_) | refine l_nil (h := ?_) | refine n_then (h := ?_) | refine l_pures1 (h := ?_)))
  (simp only [cond_true, cond_false, mxI_eq, mnI_eq])
  obtain ⟨m, hm⟩ : ∃ m, min (max n 0) 100000 = m := ⟨_, rfl⟩
  have hb : 0 ≤ m ∧ m ≤ 100000 := by omega
  rw [hm]
  have e : IntKind.i64.wrap ((IntKind.i64.wrap (IntKind.i64.wrap (m + 8) - 1)).tdiv 8) = (((m + 7) / 8).toNat : Int) := by
    rw [wrapI64 (n := m + 8) (by omega), wrapI64 (n := m + 8 - 1) (by omega), Int.tdiv_eq_ediv_of_nonneg (by omega), wrapI64 (by omega)]
    omega
  rw [e]
  (repeat' (first | refine l_nil (h := ?_) | refine n_then (h := ?_) | refine l_pures1 (h := ?_) | (refine l_at 63 ?_; refine l_call (Repeat_does ((m + 7) / 8).toNat (by omega)) ?_) | refine g_ret (h := ?_)))
  refine r_ret ?_
  exact ⟨by rw [newB, hm]; rfl, rfl⟩
end Go.Proofs.YtbdgnjlbmhnipaaGreat
/- bits.Count. -/
set_option linter.unusedVariables false
set_option linter.unusedSimpArgs false
namespace Go.Proofs.YtbdgnjlbmhnipaaGreat
open Go.Proofs.YtbdgnjlbmhnipaaGreat.SL

/-- How many bits of a byte are set. -/
def ones (c : Nat) : Nat := (List.range 8).countP fun m => c.testBit m
set_option maxRecDepth 100000 in
theorem Ones_does (c : UInt8) : Does Tryz.prog 91 [.int .u8 c.toNat] [] (fun v H => v = .int .i64 (ones c.toNat) ∧ H = []) := by
  refine does_of Tryz.func91 Tryz.ntmps91 rfl rfl rfl (fun w0 F0 => ?_)
  have hc := c.toNat_lt
  (repeat (first | refine g_seq (h := ?_) | refine g_region (h := ?_) | refine l_nil (h := ?_) | refine n_then (h := ?_) | refine l_pures1 (h := ?_)))
  refine l_index (j := (c.toNat : Int)) env_ok rfl rfl rfl rfl ?_ ?_
  · refine ⟨Int.natCast_nonneg _, ?_⟩
    have : c.toNat < 256 := hc
    show (c.toNat : Int) < ((256 : Nat) : Int)
    omega
  · (repeat (first | refine l_nil (h := ?_) | refine n_then (h := ?_) | refine l_pures1 (h := ?_) | refine g_ret (h := ?_)))
    refine r_ret ?_
    refine ⟨?_, rfl⟩
    refine congrArg (Value.int IntKind.i64) ?_
    revert hc
    generalize c.toNat = k
    revert k
    decide

theorem ones_le (c : Nat) : ones c ≤ 8 := by
  have := List.countP_le_length (p := fun m => c.testBit m) (l := List.range 8)
  simpa [ones] using this
/-- How many numbers a set has. -/
def countB : List UInt8 → Nat
  | [] => 0
  | c :: l => ones c.toNat + countB l
theorem countB_snoc (c : UInt8) : ∀ l, countB (l ++ [c]) = countB l + ones c.toNat
  | [] => by simp [countB]
  | d :: l => by rw [List.cons_append, countB, countB_snoc c l, countB]; omega
theorem countB_le : ∀ l, countB l ≤ 8 * l.length
  | [] => by simp [countB]
  | c :: l => by have := ones_le c.toNat; have := countB_le l; simp only [countB, List.length_cons]; omega

theorem Count_does (b : List UInt8) (hb : b.length ≤ 1000000) : Does Tryz.prog 57 [.string (str b)] [] (fun v H => v = .int .i64 (countB b) ∧ H = []) := by
  refine does_of Tryz.func57 Tryz.ntmps57 rfl rfl rfl (fun w0 F0 => ?_)
  (repeat (first | refine g_seq (h := ?_) | refine g_region (h := ?_) | refine l_nil (h := ?_) | refine n_then (h := ?_) | refine l_pures1 (h := ?_) | refine g_block (h := ?_)))
  (refine g_loop (fun k : Nat => [(7, .int .i64 k), (6, .int .i64 b.length), (5, .string (str b)), (3, .int .i64 (countB (b.take k))), (0, .string (str b))]) (fun _ => []) (fun k => k ≤ b.length) (fun k => b.length - k) (0) ?_ ?_ ?_ ?_; rotate_left; (repeat (first | refine ts_nil | (refine ts_cons rfl ?_ ?_; first | (with_reducible rfl) | rotate_left))); (first | (intro _ i; with_reducible refine i) | rotate_left); rotate_left; (try omega); rotate_right)
  · intro k hk
    have hle := countB_le (b.take k)
    have hl : (b.take k).length ≤ k := by simp; omega
    rcases (show k < b.length ∨ k = b.length by omega) with hlt | heq
    · have hby : byteAt b k = ((b.getD k 0).toNat : Int) := by unfold byteAt; rw [Int.toNat_natCast]
      have ho := ones_le (b.getD k 0).toNat
      (repeat' (first | refine g_seq (h := ?_) | refine g_region (h := ?_) | refine l_nil (h := ?_) | refine n_then (h := ?_) | refine l_pures1 (h := ?_) | refine l_index (h := ?_) | refine g_skip (h := ?_) | refine g_block (h := ?_) | (refine g_spT (h := ?_); intro h)))
      rw [hby]
      (repeat' (first | refine g_region (h := ?_) | refine l_nil (h := ?_) | refine n_then (h := ?_) | refine l_pures1 (h := ?_) | (refine l_at 91 ?_; refine l_call (Ones_does (b.getD k 0)) ?_) | refine n_block (h := ?_)))
      (refine n_back (k + 1) ?_ ?_ ?_ ?_; rotate_left; rotate_left; (repeat (first | refine ts_nil | (refine ts_cons rfl ?_ ?_; first | (with_reducible rfl) | rotate_left))); (first | (intro _ i; with_reducible refine i) | rotate_left); (try omega); (try omega))
      · rw [wrapI64 (by omega)]; rfl
      · rw [wrapI64 (by omega), List.take_succ_eq_append_getElem hlt, countB_snoc, List.getD, List.getElem?_eq_getElem hlt]; rfl
    · subst heq
      (repeat' (first | refine g_seq (h := ?_) | refine g_region (h := ?_) | refine l_nil (h := ?_) | refine n_then (h := ?_) | refine l_pures1 (h := ?_) | refine g_ret (h := ?_) | refine g_exit (h := ?_) | refine n_then_exit (h := ?_) | refine n_block_hit (h := ?_) | (refine g_spF (h := ?_); intro h)))
      refine r_ret ?_
      rw [List.take_length]
      exact ⟨rfl, rfl⟩
  all_goals rfl
end Go.Proofs.YtbdgnjlbmhnipaaGreat
/- disk.New. -/
set_option maxRecDepth 20000
set_option linter.unusedVariables false
set_option linter.unusedSimpArgs false
namespace Go.Proofs.YtbdgnjlbmhnipaaGreat
open Go.Proofs.YtbdgnjlbmhnipaaGreat.SL

theorem Mul_does (x y : Nat) (hx : x < 18446744073709551616) (hy : y < 18446744073709551616) : Does Tryz.prog 98 [.int .u64 x, .int .u64 y] [] (fun v H => v = .tuple #[.int .u64 ((x * y / 18446744073709551616 : Nat) : Int), .int .u64 ((x * y % 18446744073709551616 : Nat) : Int)] ∧ H = []) :=
  does_below fun w => (Tryz.mul_calls x y hx hy w).mono fun e w' h => ⟨h.1, h.2 ▸ Go.RowKit.Below.refl _ _⟩

theorem Mul1_does (c : Nat) (hc : c ≤ 640) : Does Tryz.prog 98 [.int .u64 ((1 : Nat) : Int), .int .u64 c] [] (fun v H => v = .tuple #[.int .u64 0, .int .u64 c] ∧ H = []) := by
  have := Mul_does 1 c (by omega) (by omega)
  rw [Nat.one_mul, Nat.div_eq_of_lt (by omega), Nat.mod_eq_of_lt (by omega)] at this
  exact this

theorem sRepeat_does (b c : Nat) (s : List UInt8) (hc : 8 ≤ c ∧ c ≤ 640) : Does Tryz.prog 64 [.slice (some ⟨b, 0, none⟩) 1 1, .int .i64 c] [cl b 9 [encS s]]
    (fun v H => ∃ b', v = .slice (some ⟨b', 0, none⟩) c c ∧ H = [cl b' 9 (List.replicate c (encS s))]) := by
  refine does_of Tryz.func64 Tryz.ntmps64 rfl rfl rfl (fun w0 F0 => ?_)
  have e1 : IntKind.u64.wrap (c : Int) = c := wrapU64 (by omega)
  have e0 : IntKind.u64.wrap ((1 : Nat) : Int) = ((1 : Nat) : Int) := wrapU64 (by omega)
  have e2 : IntKind.i64.wrap (c : Int) = c := wrapI64 (by omega)
  (repeat' (first | refine g_seq (h := ?_) | refine g_region (h := ?_) | refine l_nil (h := ?_) | refine n_then (h := ?_) | refine l_pures1 (h := ?_) | refine g_skip (h := ?_) | refine g_cond_f (h := ?_)))
  rw [e1, e0]
  (repeat' (first | refine g_seq (h := ?_) | refine g_region (h := ?_) | refine l_nil (h := ?_) | refine n_then (h := ?_) | refine l_pures1 (h := ?_) | (refine l_at 98 ?_; refine l_call (Mul1_does c hc.2) ?_) | refine l_guard_yes (h := ?_) | (refine l_makeSlice (h := ?_); intro _) | refine g_skip (h := ?_) | (refine g_spF (h := ?_); intro h)))
  rw [e2, Int.toNat_natCast]
  rename_i b'
  have hone : ∀ u ∈ [encS s], u.oneCell' = true := by intro u hu; simp at hu; subst hu; rfl
  have er : List.take 0 (List.replicate c (Value.string { data := #[] })) ++ List.take (min 1 c) (List.drop 0 [encS s]) ++ List.drop (0 + min 1 c) (List.replicate c (Value.string { data := #[] })) = List.replicate 1 (encS s) ++ List.replicate (c - 1) (encS []) := by
    rw [show min 1 c = 1 by omega]; simp [encS]; first | done | exact .inr rfl
  refine l_copy_row env_ok rfl rfl rfl rfl rfl Take.here Take.here hone (by simp only [List.length_replicate, List.length_cons, List.length_nil]; omega) ?_
  rw [er, show min 1 c = 1 by omega]
  (repeat (first | refine g_seq (h := ?_) | refine l_nil (h := ?_) | refine n_then (h := ?_) | refine l_pures1 (h := ?_) | refine g_block (h := ?_)))
  (refine g_loop (fun j : Nat => [(8, .int .i64 j), (7, .slice (some ⟨b', 0, none⟩) c c)]) (fun j => [cl b' 9 (List.replicate j (encS s) ++ List.replicate (c - j) (encS []))]) (fun j => 1 ≤ j ∧ j ≤ c) (fun j => c - j) (1) ?_ ?_ ?_ ?_; rotate_left; (repeat (first | refine ts_nil | (refine ts_cons rfl ?_ ?_; first | (with_reducible rfl) | rotate_left))); (first | (intro _ i; with_reducible refine i) | rotate_left); rotate_left; (try omega); rotate_right)
  · intro j hj
    (repeat' (first | refine g_seq (h := ?_) | refine g_region (h := ?_) | refine l_nil (h := ?_) | refine n_then (h := ?_) | refine l_pures1 (h := ?_) | refine g_skip (h := ?_) | refine g_ret (h := ?_) | refine g_block (h := ?_) | refine g_exit (h := ?_) | refine n_then_exit (h := ?_) | refine n_block_hit (h := ?_) | (refine g_sp (h1 := ?_) (h0 := ?_) <;> intro h)))
    · (refine g_draw [] (h := a_pass2 (h := ?_)))
      (repeat' (first | refine l_nil (h := ?_) | refine l_slice (h := ?_) | refine a_one (h := ?_) | refine n_any (h := a_pass2 (h := ?_)) | refine a_v (h := ?_)))
      have hall : ∀ u ∈ List.replicate j (encS s) ++ List.replicate (c - j) (encS []), u.oneCell' = true := by
        intro u hu
        rcases List.mem_append.1 hu with hu | hu <;> (rw [List.eq_of_mem_replicate hu]; rfl)
      have hlen : (List.replicate j (encS s) ++ List.replicate (c - j) (encS [])).length = c := by simp; omega
      refine l_copy_in env_ok rfl rfl rfl rfl rfl Take.here hall (by rw [hlen]; omega) ?_
      obtain ⟨q, hq⟩ : ∃ q, min ((j : Int).toNat - Int.toNat 0) ((c : Int).toNat - (j : Int).toNat) = q := ⟨_, rfl⟩
      have hq1 : 1 ≤ q ∧ q ≤ j ∧ j + q ≤ c := by omega
      rw [hq]
      have er2 : List.take (0 + (j : Int).toNat * 1) (List.replicate j (encS s) ++ List.replicate (c - j) (encS [])) ++ List.take q (List.drop (0 + Int.toNat 0 * 1) (List.replicate j (encS s) ++ List.replicate (c - j) (encS []))) ++ List.drop (0 + (j : Int).toNat * 1 + q) (List.replicate j (encS s) ++ List.replicate (c - j) (encS [])) = List.replicate (j + q) (encS s) ++ List.replicate (c - (j + q)) (encS []) := by
        rw [show 0 + (j : Int).toNat * 1 = j by omega, show 0 + Int.toNat 0 * 1 = 0 by decide, List.drop_zero, List.take_append_of_le_length (by rw [List.length_replicate]; omega), List.take_append_of_le_length (by rw [List.length_replicate]; omega), List.take_replicate, List.take_replicate, Nat.min_self, show min q j = q by omega, List.drop_append]
        simp only [List.length_replicate, List.drop_replicate]
        rw [show j - (j + q) = 0 by omega, List.replicate_zero, List.nil_append, show j + q - j = q by omega, List.replicate_append_replicate, show c - j - q = c - (j + q) by omega]
      rw [er2]
      (repeat' (first | refine l_nil (h := ?_) | refine a_done (h := ?_) | refine n_any (h := a_pass2 (h := ?_)) | refine n_block (h := ?_)))
      (refine n_back (j + q) ?_ ?_ ?_ ?_; rotate_left; rotate_left; (repeat (first | refine ts_nil | (refine ts_cons rfl ?_ ?_; first | (with_reducible rfl) | rotate_left))); (first | (intro _ i; with_reducible refine i) | rotate_left); (try omega); (try omega))
      rw [wrapI64 (by omega)]; rfl
    · obtain rfl : j = c := by omega
      rw [Nat.sub_self, List.replicate_zero, List.append_nil]
      refine r_retk [cl b' 9 (List.replicate j (encS s))] ?_
      exact ⟨b', rfl, rfl⟩
  intro _ i
  exact inv_keep (Parts.cons Take.here Parts.nil) i

theorem sRepeat2_does (b c : Nat) (s : List UInt8) (hc : 8 ≤ c ∧ c ≤ 640) : Does Tryz.prog 64 [.slice (some ⟨b, 0, none⟩) 1 1, .int .i64 c] [cl b 9 [.string (str s)]]
    (fun v H => ∃ b', v = .slice (some ⟨b', 0, none⟩) c c ∧ H = [cl b' 9 (List.replicate c (encS s))]) := sRepeat_does b c s hc

def zero256 : List UInt8 := List.replicate 256 0
theorem zero256_len : zero256.length = 256 := by rw [zero256, List.length_replicate]
def Dk.new (n : Nat) : Dk := { now := List.replicate n zero256, was := [], order := [], fuse := -1, gone := false }
theorem Dk.new_ok (n : Nat) (hn : 8 ≤ n ∧ n ≤ 640) : (Dk.new n).ok := by
  refine ⟨by simp [Dk.new]; omega, by simp [Dk.new], by simp [Dk.new], ?_, by simp [Dk.new]⟩
  intro x hx
  rw [List.eq_of_mem_replicate (show x ∈ List.replicate n zero256 from hx), zero256_len]
theorem Rep256_does : Does Tryz.prog 63 [.string { data := #[0] }, .int .i64 256] [] (fun v H => v = .string (str zero256) ∧ H = []) := Repeat_does 256 (by omega)
theorem New_does (n : Nat) (hn : 8 ≤ n ∧ n ≤ 640) : Does Tryz.prog 36 [.int .i64 n] [] (fun v H => ∃ b, v = .tuple #[.pointer (some ⟨b, 0, none⟩), .int .i64 0] ∧ H = [Disk b (Dk.new n)]) := by
  refine does_of Tryz.func36 Tryz.ntmps36 rfl rfl rfl (fun w0 F0 => ?_)
  (repeat' (first | refine g_seq (h := ?_) | refine g_region (h := ?_) | refine l_nil (h := ?_) | refine n_then (h := ?_) | refine l_pures1 (h := ?_) | (refine l_at 63 ?_; refine l_call (Rep256_does) ?_) | (refine l_at 64 ?_; refine l_call_ (sRepeat2_does _ n zero256 hn) ?_; rintro _ _ _ ⟨b', rfl, rfl⟩ he; cases he) | refine l_guard_yes (h := ?_) | (refine l_buildSlice1 (h := ?_); intro _) | refine g_skip (h := ?_) | (refine l_spF (h := ?_); intro h) | (refine g_spF (h := ?_); intro h)))
  (refine l_makeMap (encS) (h := ?_); intro _)
  (repeat (first | refine l_nil (h := ?_) | refine n_then (h := ?_) | refine l_pures1 (h := ?_) | (refine l_box (h := ?_); intro _) | refine g_ret (h := ?_)))
  rename_i bm b
  refine n_inv (fun i => vec_nil (3) (1) i) ?_
  (refine n_shut (A := Disk b (Dk.new n)) (K := DiskK b (Dk.new n) ((b', n, bm, ((none, 0) : Option Addr × Nat), []))) (hid_shuts ((b', n, bm, ((none, 0) : Option Addr × Nat), [])) ⟨Dk.new_ok n hn, by simp [Dk.new], by dsimp only; omega⟩) (h := ?_) (p := by dsimp only [DiskK]; (try simp only [List.map_nil, List.length_nil, List.length_set, List.length_append, List.length_cons, List.length_singleton, List.map_append, List.map_cons, Nat.zero_add, Dk.new, List.map_replicate, List.length_replicate, List.append_nil]); exact parts_of))
  refine r_retk [Disk b (Dk.new n)] ?_
  exact ⟨b, rfl, rfl⟩
end Go.Proofs.YtbdgnjlbmhnipaaGreat
/- Package shadow: Left, Format, Commit. -/
set_option linter.unusedVariables false
set_option linter.unusedSimpArgs false
namespace Go.Proofs.YtbdgnjlbmhnipaaGreat
open Go.Proofs.YtbdgnjlbmhnipaaGreat.SL

def Sh.left (S : Sh) (D : Dk) : Int := D.now.length - 2 - countB S.used - S.fresh.length
theorem tt_len (l : List Int) : (tt l).length = l.length := by simp [tt]
theorem sLeft_does (b db : Nat) (S : Sh) (D : Dk) : Does Tryz.prog 31 [.pointer (some ⟨b, 0, none⟩)] [Store b db S, Disk db D] (fun v H => v = .int .i64 (S.left D) ∧ H = [Store b db S, Disk db D]) := by
  refine does_swap (does_disk fun dok => does_swap ?_)
  have hD := dok.n
  refine does_of Tryz.func31 Tryz.ntmps31 rfl rfl rfl (fun w0 F0 => ?_)
  refine g_open (A := Store b db S) (h := ?_); (rintro ⟨bf, bg⟩ ok; dsimp only [StoreK, List.cons_append, List.nil_append])
  have hu := ok.u
  have hc := countB_le S.used
  have hf := nodup_room 640 _ ok.f.1 ok.f.2
  (repeat' (first | refine g_seq (h := ?_) | refine g_region (h := ?_) | refine l_nil (h := ?_) | refine n_then (h := ?_) | refine l_pures1 (h := ?_)))
  (refine g_draw [_] (h := a_pass2 (h := ?_)))
  (repeat' (first | refine l_nil (h := ?_) | refine n_then (h := ?_) | (refine l_at 56 ?_; refine l_call (sSizeS_does b db bf bg S D) ?_) | (refine l_at 57 ?_; refine l_call (Count_does S.used (by omega)) ?_) | refine l_len_map (h := ?_) | refine g_ret (h := ?_) | refine a_done (h := ?_) | refine a_load (h := a_pass2 (h := ?_)) | refine a_one (h := ?_) | refine n_any (h := a_pass2 (h := ?_))))
  rw [tt_len, wrapI64 (n := (D.now.length : Int) - 2) (by omega), wrapI64 (n := (D.now.length : Int) - 2 - (countB S.used : Int)) (by omega), wrapI64 (by omega)]
  (refine n_shut (A := Store b db S) (K := StoreK b db S ((bf, bg))) (hid_shuts ((bf, bg)) ok) (h := ?_) (p := by dsimp only [StoreK]; (try simp only [List.map_nil, List.length_nil, List.length_set, List.length_append, List.length_cons, List.length_singleton, List.map_append, List.map_cons, Nat.zero_add]); exact parts_of))
  refine r_retk [Store b db S, Disk db D] ?_
  exact ⟨rfl, rfl⟩

def headNew : Hd := ⟨1, 0, newB 640⟩
def format (D : Dk) : Option Hd × Int × Dk := if (headNew.lay D).1 ≠ 0 then (none, headNew.lay D) else (some headNew, 0, (headNew.lay D).2)
theorem newB_len : (newB 640).length = 80 := by rw [newB, List.length_replicate]; decide
theorem bNew640_does : Does Tryz.prog 65 [.int .i64 640] [] (fun v H => v = .string (str (newB 640)) ∧ H = []) := bNew_does 640 (by omega)
theorem headNew_ok : headNew.ok ∧ headNew.over.ok := by
  have := newB_len
  refine ⟨⟨⟨?_, ?_⟩, ⟨?_, ?_⟩, ?_⟩, ⟨⟨?_, ?_⟩, ⟨?_, ?_⟩, ?_, ⟨by simp [Hd.over], by simp [Hd.over]⟩, ⟨by simp [Hd.over], by simp [Hd.over]⟩⟩⟩
  all_goals first | (show (newB 640).length = 80; exact newB_len) | (show (newB 640).length ≤ _; omega) | (simp [headNew, Hd.over]; done)
theorem Format_does (db : Nat) (D : Dk) : Does Tryz.prog 37 [.pointer (some ⟨db, 0, none⟩)] [Disk db D]
    (fun v H => match (format D).1 with
      | none => v = .tuple #[.pointer none, .int .i64 (format D).2.1] ∧ H = [Disk db (format D).2.2]
      | some h => ∃ b, v = .tuple #[.pointer (some ⟨b, 0, none⟩), .int .i64 (format D).2.1] ∧ H = [Store b db h.over, Disk db (format D).2.2]) := by
  obtain ⟨ok1, ok2⟩ := headNew_ok
  have hl : Does Tryz.prog 66 [.agg #[.int .i64 1, .int .i64 0, .string (str (newB 640))], .pointer (some ⟨db, 0, none⟩)] [Disk db D] (fun v H => v = .int .i64 (headNew.lay D).1 ∧ H = [Disk db (headNew.lay D).2]) := lay_does headNew ok1 db D
  have ho : Does Tryz.prog 60 [.pointer (some ⟨db, 0, none⟩), .agg #[.int .i64 1, .int .i64 0, .string (str (newB 640))]] [] (fun v H => ∃ b, v = .pointer (some ⟨b, 0, none⟩) ∧ H = [Store b db headNew.over]) := over_does headNew ok2 db
  refine does_of Tryz.func37 Tryz.ntmps37 rfl rfl rfl (fun w0 F0 => ?_)
  (repeat' (first | refine g_seq (h := ?_) | refine g_region (h := ?_) | refine l_nil (h := ?_) | refine n_then (h := ?_) | refine l_pures1 (h := ?_) | (refine l_at 65 ?_; refine l_call (bNew640_does) ?_) | (refine l_at 66 ?_; refine l_call (hl) ?_) | (refine l_at 60 ?_; refine l_call_ (ho) ?_; rintro _ _ _ ⟨b', rfl, rfl⟩ he; cases he) | refine l_load (h := ?_) | refine l_store (h := ?_) | (refine l_alloc (h := ?_); intro _) | refine g_skip (h := ?_) | refine g_ret (h := ?_) | refine n_then_ret (h := ?_) | (refine g_sp (h1 := ?_) (h0 := ?_) <;> intro h)))
  · have e : format D = (none, headNew.lay D) := by simp [format, *]
    rw [e]
    refine r_retk [Disk db (headNew.lay D).2] ?_
    exact ⟨rfl, rfl⟩
  · have e : format D = (some headNew, 0, (headNew.lay D).2) := by simp [format, *]
    rw [e]
    refine r_retk [Store b' db headNew.over, Disk db (headNew.lay D).2] ?_
    exact ⟨b', rfl, rfl⟩

def setAll (u : List UInt8) (on : Bool) (l : List Int) : List UInt8 := l.foldl (fun u n => withB u n on) u
theorem setAll_len (on : Bool) : ∀ (l : List Int) (u : List UInt8), (setAll u on l).length = u.length
  | [], u => rfl
  | n :: l, u => by
    show (setAll (withB u n on) on l).length = _
    rw [setAll_len on l, withB_len]
theorem setAll_snoc (u : List UInt8) (on : Bool) (l : List Int) (n : Int) : setAll u on (l ++ [n]) = withB (setAll u on l) n on := by
  simp [setAll, List.foldl_append]
theorem setAll_take {u : List UInt8} {on : Bool} {l : List Int} {j : Nat} (h : j < l.length) : setAll u on (l.take (j + 1)) = withB (setAll u on (l.take j)) (l.getD j 0) on := by
  rw [List.take_succ_eq_append_getElem h, setAll_snoc, List.getD, List.getElem?_eq_getElem h]; rfl
def Sh.next (S : Sh) (root : Int) : Hd := ⟨S.gen + 1, root, setAll (setAll S.used true (rise S.fresh)) false (rise S.given)⟩
def Sh.commit (S : Sh) (D : Dk) (root : Int) : Int × Sh × Dk :=
  if S.down then (5, S, D) else
  if root ≠ 0 ∧ hasB (S.next root).used root = false then (1, S, D) else
  if (S.next root).gen > 281474976710655 then (6, S, D) else
  if D.sync.1 ≠ 0 then (D.sync.1, S.told D.sync.1, D.sync.2) else
  if ((S.next root).lay D.sync.2).1 ≠ 0 then (((S.next root).lay D.sync.2).1, S.told ((S.next root).lay D.sync.2).1, ((S.next root).lay D.sync.2).2) else
  (0, (S.next root).over, ((S.next root).lay D.sync.2).2)
set_option maxHeartbeats 2000000 in
theorem sCommit_does (b db : Nat) (S : Sh) (D : Dk) (root : Int) (hr : -9223372036854775808 ≤ root ∧ root < 9223372036854775808) : Does Tryz.prog 53 [.pointer (some ⟨b, 0, none⟩), .int .i64 root] [Store b db S, Disk db D]
    (fun v H => v = .int .i64 (S.commit D root).1 ∧ H = [Store b db (S.commit D root).2.1, Disk db (S.commit D root).2.2]) := by
  refine does_of Tryz.func53 Tryz.ntmps53 rfl rfl rfl (fun w0 F0 => ?_)
  refine g_open (A := Store b db S) (h := ?_); (rintro ⟨bf, bg⟩ ok; dsimp only [StoreK, List.cons_append, List.nil_append])
  (repeat' (first | refine g_seq (h := ?_) | refine g_region (h := ?_) | refine l_nil (h := ?_) | refine n_then (h := ?_) | refine l_pures1 (h := ?_) | refine l_load (h := ?_) | refine g_skip (h := ?_) | refine g_ret (h := ?_) | refine n_then_ret (h := ?_) | (refine g_sp (h1 := ?_) (h0 := ?_) <;> intro h)))
  · (refine n_shut (A := Store b db S) (K := StoreK b db S ((bf, bg))) (hid_shuts ((bf, bg)) ok) (h := ?_) (p := by dsimp only [StoreK]; (try simp only [List.map_nil, List.length_nil, List.length_set, List.length_append, List.length_cons, List.length_singleton, List.map_append, List.map_cons, Nat.zero_add]); exact parts_of))
    refine r_ret ?_
    exact ⟨by rw [Sh.commit, if_pos (by assumption)]; rfl, by rw [Sh.commit, if_pos (by assumption)]⟩
  · (refine g_draw [_] (h := a_pass2 (h := ?_)))
    have hgen := ok.g
    have hfb : ∀ i ∈ S.fresh, -9223372036854775808 ≤ i ∧ i < 9223372036854775808 := fun i hi => by have := ok.f.2 i hi; omega
    have hvb : ∀ i ∈ S.given, -9223372036854775808 ≤ i ∧ i < 9223372036854775808 := fun i hi => by have := ok.v.2 i hi; omega
    have hgen1 : IntKind.i64.wrap (S.gen + 1) = S.gen + 1 := wrapI64 (by omega)
    have hu := ok.u
    have hf := nodup_room 640 _ ok.f.1 ok.f.2
    have hv := nodup_room 640 _ ok.v.1 ok.v.2
    (repeat' (first | refine g_seq (h := ?_) | refine g_region (h := ?_) | refine l_nil (h := ?_) | refine n_then (h := ?_) | refine l_pures1 (h := ?_) | refine l_load (h := ?_) | refine l_store (h := ?_) | (refine l_alloc (h := ?_); intro _) | refine a_done (h := ?_) | refine a_load (h := a_pass2 (h := ?_)) | refine a_one (h := ?_) | refine n_any (h := a_pass2 (h := ?_))))
    rw [hgen1]
    rename_i bh
    (repeat' (first | refine l_nil (h := ?_) | refine n_then (h := ?_) | refine l_pures1 (h := ?_) | (refine l_at 84 ?_; refine l_call_ (Keys_does bf) ?_; rintro _ _ _ ⟨box, rfl, rfl⟩ he; cases he) | (refine l_at 83 ?_; refine l_call_ (Sorted_does box bf S.fresh hfb (by omega)) ?_; rintro _ _ _ ⟨p1, cap1, rfl, rfl⟩ he; cases he) | refine g_block (h := ?_)))
    obtain ⟨R, hR⟩ : ∃ R, rise S.fresh = R := ⟨_, rfl⟩
    have hRl : R.length = S.fresh.length := by rw [← hR]; exact (rise_perm _).length_eq
    have hRb : ∀ i ∈ R, 0 ≤ i ∧ i < (640 : Nat) := fun i hi => ok.f.2 i ((rise_perm S.fresh).mem_iff.1 (hR ▸ hi))
    rw [hR]
    (refine g_loop (fun j : Nat => [(36, .int .i64 j), (35, .int .i64 S.fresh.length), (34, .slice p1 S.fresh.length cap1), (5, .pointer (some ⟨bh, 0, none⟩)), (0, .pointer (some ⟨b, 0, none⟩)), (1, .int .i64 root)]) (fun j => [vec 3 1 p1 S.fresh.length cap1 (R.map encZ'), cl bh 100 [.int .i64 (S.gen + 1), .int .i64 root, .string (str (setAll S.used true (R.take j)))], cl b 103 [.pointer (some ⟨db, 0, none⟩), .int .i64 S.gen, .int .i64 S.root, .string (str S.used), .map (some bf), .map (some bg), .bool S.down], mp bf Value.bool (tt S.fresh), mp bg Value.bool (tt S.given), Disk db D]) (fun j => j ≤ S.fresh.length) (fun j => S.fresh.length - j) (0) ?_ ?_ ?_ ?_; rotate_left; (repeat (first | refine ts_nil | (refine ts_cons rfl ?_ ?_; first | (with_reducible rfl) | rotate_left))); (first | (intro _ i; with_reducible refine i) | rotate_left); rotate_left; (try omega); rotate_right)
    · intro j hj
      have hsl := setAll_len true (R.take j) S.used
      (repeat' (first | refine g_seq (h := ?_) | refine g_region (h := ?_) | refine l_nil (h := ?_) | refine n_then (h := ?_) | refine l_pures1 (h := ?_) | refine l_load (h := ?_) | refine g_skip (h := ?_) | refine g_block (h := ?_) | refine g_exit (h := ?_) | refine n_then_exit (h := ?_) | refine n_block_hit (h := ?_) | (refine g_sp (h1 := ?_) (h0 := ?_) <;> intro h)))
      · refine l_open (o := vec_opens (p := p1) (m := S.fresh.length) (by omega)) (h := ?_); (rintro ⟨g, r⟩ ⟨rfl, v1, v2, v3, v4⟩; dsimp only [List.cons_append, List.nil_append])
        have hlt : j < R.length := by omega
        have hg : (R.map encZ' ++ r)[0 + j * 1]? = some (.int .i64 (R.getD j 0)) := by rw [Nat.zero_add, Nat.mul_one]; exact encZ_get hlt
        have hm := getD_all (z := 0) hRb hlt
        (repeat' (first | refine g_region (h := ?_) | refine l_nil (h := ?_) | refine n_then (h := ?_) | refine l_pures1 (h := ?_) | (refine l_at 85 ?_; refine l_call (With_does (setAll S.used true (R.take j)) (R.getD j 0) true (by omega) (by omega)) ?_) | refine l_load (h := ?_) | refine l_store (h := ?_) | refine l_load_at (h := ?_) | refine l_indexAddr (h := ?_) | refine n_block (h := ?_)))
        rw [← setAll_take hlt]
        refine n_shut (vec_shuts v1 v2 v3 v4) (h := ?_)
        (refine n_back (j + 1) ?_ ?_ ?_ ?_; rotate_left; rotate_left; (repeat (first | refine ts_nil | (refine ts_cons rfl ?_ ?_; first | (with_reducible rfl) | rotate_left))); (first | (intro _ i; with_reducible refine i) | rotate_left); (try omega); (try omega))
        · rw [wrapI64 (by omega)]; rfl
        all_goals (intro _ i; exact inv_keep parts_of i)
      · obtain rfl : j = S.fresh.length := by omega
        rw [← hRl, List.take_length]
        obtain ⟨U, hU⟩ : ∃ U, setAll S.used true R = U := ⟨_, rfl⟩
        have hUl : U.length = 80 := by rw [← hU, setAll_len, hu]
        obtain ⟨V, hV⟩ : ∃ V, rise S.given = V := ⟨_, rfl⟩
        have hVl : V.length = S.given.length := by rw [← hV]; exact (rise_perm _).length_eq
        have hVb : ∀ i ∈ V, 0 ≤ i ∧ i < (640 : Nat) := fun i hi => ok.v.2 i ((rise_perm S.given).mem_iff.1 (hV ▸ hi))
        rw [hU]
        (repeat' (first | refine l_nil (h := ?_) | refine n_then (h := ?_) | refine l_pures1 (h := ?_) | (refine l_at 84 ?_; refine l_call_ (Keys_does bg) ?_; rintro _ _ _ ⟨box2, rfl, rfl⟩ he; cases he) | (refine l_at 83 ?_; refine l_call_ (Sorted_does box2 bg S.given hvb (by omega)) ?_; rintro _ _ _ ⟨p2, cap2, rfl, rfl⟩ he; cases he) | refine g_block (h := ?_)))
        rw [hV]
        (refine g_loop (fun j : Nat => [(53, .int .i64 j), (52, .int .i64 S.given.length), (51, .slice p2 S.given.length cap2), (5, .pointer (some ⟨bh, 0, none⟩)), (0, .pointer (some ⟨b, 0, none⟩)), (1, .int .i64 root)]) (fun j => [vec 3 1 p2 S.given.length cap2 (V.map encZ'), cl bh 100 [.int .i64 (S.gen + 1), .int .i64 root, .string (str (setAll U false (V.take j)))], cl b 103 [.pointer (some ⟨db, 0, none⟩), .int .i64 S.gen, .int .i64 S.root, .string (str S.used), .map (some bf), .map (some bg), .bool S.down], mp bf Value.bool (tt S.fresh), mp bg Value.bool (tt S.given), Disk db D]) (fun j => j ≤ S.given.length) (fun j => S.given.length - j) (0) ?_ ?_ ?_ ?_; rotate_left; (repeat (first | refine ts_nil | (refine ts_cons rfl ?_ ?_; first | (with_reducible rfl) | rotate_left))); (first | (intro _ i; with_reducible refine i) | rotate_left); rotate_left; (try omega); rotate_right)
        · intro j hj
          have hsl := setAll_len false (V.take j) U
          by_cases hjl : j < S.given.length
          · (repeat' (first | refine g_seq (h := ?_) | refine g_region (h := ?_) | refine l_nil (h := ?_) | refine n_then (h := ?_) | refine l_pures1 (h := ?_) | refine g_skip (h := ?_) | refine g_block (h := ?_) | (refine g_spT (h := ?_); intro h)))
            refine l_open (o := vec_opens (p := p2) (m := S.given.length) (by omega)) (h := ?_); (rintro ⟨g, r⟩ ⟨rfl, v1, v2, v3, v4⟩; dsimp only [List.cons_append, List.nil_append])
            have hlt : j < V.length := by omega
            have hg : (V.map encZ' ++ r)[0 + j * 1]? = some (.int .i64 (V.getD j 0)) := by rw [Nat.zero_add, Nat.mul_one]; exact encZ_get hlt
            have hm := getD_all (z := 0) hVb hlt
            (repeat' (first | refine g_region (h := ?_) | refine l_nil (h := ?_) | refine n_then (h := ?_) | refine l_pures1 (h := ?_) | (refine l_at 85 ?_; refine l_call (With_does (setAll U false (V.take j)) (V.getD j 0) false (by omega) (by omega)) ?_) | refine l_load (h := ?_) | refine l_store (h := ?_) | refine l_load_at (h := ?_) | refine l_indexAddr (h := ?_) | refine n_block (h := ?_)))
            rw [← setAll_take hlt]
            refine n_shut (vec_shuts v1 v2 v3 v4) (h := ?_)
            (refine n_back (j + 1) ?_ ?_ ?_ ?_; rotate_left; rotate_left; (repeat (first | refine ts_nil | (refine ts_cons rfl ?_ ?_; first | (with_reducible rfl) | rotate_left))); (first | (intro _ i; with_reducible refine i) | rotate_left); (try omega); (try omega))
            · rw [wrapI64 (by omega)]; rfl
            all_goals (intro _ i; exact inv_keep parts_of i)
          · obtain rfl : j = S.given.length := by omega
            rw [← hVl, List.take_length]
            have hn : S.next root = ⟨S.gen + 1, root, setAll U false V⟩ := by rw [Sh.next, hR, hU, hV]
            have hWl : (setAll U false V).length = 80 := by rw [setAll_len, hUl]
            obtain ⟨W, hW⟩ : ∃ W, setAll U false V = W := ⟨_, rfl⟩
            rw [hW] at hn hWl
            rw [hW]
            (repeat' (first | refine g_seq (h := ?_) | refine g_region (h := ?_) | refine l_nil (h := ?_) | refine n_then (h := ?_) | refine l_pures1 (h := ?_) | (refine l_at 86 ?_; refine l_call (Has_does W root (by omega) (by omega)) ?_) | (refine l_at 88 ?_; refine l_call (Sync_does db D) ?_) | (refine l_at 87 ?_; refine l_call (toldS_does b db bf bg S D.sync.1) ?_) | refine l_guard_yes (h := ?_) | refine l_guard_no (h := ?_) | refine l_load (h := ?_) | refine g_skip (h := ?_) | refine g_ret (h := ?_) | refine n_then_ret (h := ?_) | refine g_exit (h := ?_) | refine n_then_exit (h := ?_) | refine n_block_hit (h := ?_) | refine g_cond_f (h := ?_) | (refine l_sp (h1 := ?_) (h0 := ?_) <;> intro h) | (refine g_spF (h := ?_); intro h) | (refine g_sp (h1 := ?_) (h0 := ?_) <;> intro h)))
            · have e : S.commit D root = (1, S, D) := by simp [Sh.commit, hn, *]
              rw [e]
              (refine n_shut (A := Store b db S) (K := StoreK b db S ((bf, bg))) (hid_shuts ((bf, bg)) ok) (h := ?_) (p := by dsimp only [StoreK]; (try simp only [List.map_nil, List.length_nil, List.length_set, List.length_append, List.length_cons, List.length_singleton, List.map_append, List.map_cons, Nat.zero_add]); exact parts_of))
              refine r_retk [Store b db S, Disk db D] ?_
              exact ⟨rfl, rfl⟩
            · have hroot : ¬(root ≠ 0 ∧ hasB W root = false) := by rintro ⟨q1, q2⟩; first | exact q1 (by assumption) | (have q3 : hasB W root = true := (by assumption); rw [q3] at q2; cases q2)
              have e : S.commit D root = (6, S, D) := by rw [Sh.commit, if_neg (by simp [*]), hn, if_neg hroot, if_pos (by assumption)]
              rw [e]
              (refine n_shut (A := Store b db S) (K := StoreK b db S ((bf, bg))) (hid_shuts ((bf, bg)) ok) (h := ?_) (p := by dsimp only [StoreK]; (try simp only [List.map_nil, List.length_nil, List.length_set, List.length_append, List.length_cons, List.length_singleton, List.map_append, List.map_cons, Nat.zero_add]); exact parts_of))
              refine r_retk [Store b db S, Disk db D] ?_
              exact ⟨rfl, rfl⟩
            · have hle : ¬ S.gen + 1 > 281474976710655 := by assumption
              have hroot : ¬(root ≠ 0 ∧ hasB W root = false) := by rintro ⟨q1, q2⟩; first | exact q1 (by assumption) | (have q3 : hasB W root = true := (by assumption); rw [q3] at q2; cases q2)
              have e : S.commit D root = (D.sync.1, S.told D.sync.1, D.sync.2) := by rw [Sh.commit, if_neg (by simp [*]), hn, if_neg hroot, if_neg hle, if_pos (by assumption)]
              rw [e]
              (refine n_shut (A := Store b db (S.told D.sync.1)) (K := StoreK b db (S.told D.sync.1) ((bf, bg))) (hid_shuts ((bf, bg)) (Sh.told_ok ok)) (h := ?_) (p := by dsimp only [StoreK]; (try simp only [List.map_nil, List.length_nil, List.length_set, List.length_append, List.length_cons, List.length_singleton, List.map_append, List.map_cons, Nat.zero_add, Sh.told]); exact parts_of))
              refine r_retk [Store b db (S.told D.sync.1), Disk db D.sync.2] ?_
              exact ⟨rfl, rfl⟩
            · have hs0 : D.sync.1 = 0 := by assumption
              have hle : ¬ S.gen + 1 > 281474976710655 := by assumption
              have hroot : ¬(root ≠ 0 ∧ hasB W root = false) := by rintro ⟨q1, q2⟩; first | exact q1 (by assumption) | (have q3 : hasB W root = true := (by assumption); rw [q3] at q2; cases q2)
              have hdn : (S.told D.sync.1).down = S.down := by simp [Sh.told, hs0]
              have hr0 : 0 ≤ root ∧ root < 640 := by have := hasB_lt (b := W) (i := root) (by assumption); rw [hWl] at this; omega
              have hqo : Hd.ok ⟨S.gen + 1, root, W⟩ := ⟨⟨by dsimp only; omega, by dsimp only; omega⟩, ⟨by dsimp only; omega, by dsimp only; omega⟩, by dsimp only; omega⟩
              obtain ⟨L, hL⟩ : ∃ L, Hd.lay ⟨S.gen + 1, root, W⟩ D.sync.2 = L := ⟨_, rfl⟩
              have hlay := lay_does ⟨S.gen + 1, root, W⟩ hqo db D.sync.2
              rw [hL] at hlay
              dsimp only [Hd.v] at hlay
              rw [hdn]
              (refine g_draw [cl bh 100 [.int .i64 (S.gen + 1), .int .i64 root, .string (str W)]] (h := a_pass2 (h := ?_)))
              (repeat' (first | refine g_seq (h := ?_) | refine g_region (h := ?_) | refine l_nil (h := ?_) | refine n_then (h := ?_) | refine l_pures1 (h := ?_) | (refine l_at 66 ?_; refine l_call (hlay) ?_) | (refine l_at 87 ?_; refine l_call (toldS_does b db bf bg S L.1) ?_) | (refine l_at 46 ?_; refine l_call_ (roll0_does b (.pointer (some ⟨db, 0, none⟩)) (.int .i64 (S.gen + 1)) (.int .i64 root) (.string (str W)) (.map (some bf)) (.map (some bg)) (.bool (S.told L.1).down)) ?_; rintro _ _ _ ⟨b1, b2, rfl, rfl⟩ he; cases he) | refine l_load (h := ?_) | refine l_store (h := ?_) | refine g_skip (h := ?_) | refine g_ret (h := ?_) | refine n_then_ret (h := ?_) | refine a_done (h := ?_) | refine a_load (h := a_pass2 (h := ?_)) | refine a_one (h := ?_) | refine n_any (h := a_pass2 (h := ?_)) | (refine g_sp (h1 := ?_) (h0 := ?_) <;> intro h)))
              · have e : S.commit D root = (L.1, S.told L.1, L.2) := by rw [Sh.commit, if_neg (by simp [*]), hn, if_neg hroot, if_neg hle, if_neg (fun q => q hs0), hL, if_pos (by assumption)]
                rw [e]
                (refine n_shut (A := Store b db (S.told L.1)) (K := StoreK b db (S.told L.1) ((bf, bg))) (hid_shuts ((bf, bg)) (Sh.told_ok ok)) (h := ?_) (p := by dsimp only [StoreK]; (try simp only [List.map_nil, List.length_nil, List.length_set, List.length_append, List.length_cons, List.length_singleton, List.map_append, List.map_cons, Nat.zero_add, Sh.told]); exact parts_of))
                refine r_retk [Store b db (S.told L.1), Disk db L.2] ?_
                exact ⟨rfl, rfl⟩
              · have hl0 : L.1 = 0 := by assumption
                have e : S.commit D root = (0, Hd.over ⟨S.gen + 1, root, W⟩, L.2) := by rw [Sh.commit, if_neg (by simp [*]), hn, if_neg hroot, if_neg hle, if_neg (fun q => q hs0), hL, if_neg (fun q => q hl0)]
                have hdn2 : (S.told L.1).down = false := by simp [Sh.told, hl0, *]
                rw [e, hdn2]
                (refine n_shut (A := Store b db (Hd.over ⟨S.gen + 1, root, W⟩)) (K := StoreK b db (Hd.over ⟨S.gen + 1, root, W⟩) ((b1, b2))) (hid_shuts ((b1, b2)) ⟨hqo.g, hr0, hWl, ⟨by simp [Hd.over], by simp [Hd.over]⟩, ⟨by simp [Hd.over], by simp [Hd.over]⟩⟩) (h := ?_) (p := by dsimp only [StoreK]; (try simp only [List.map_nil, List.length_nil, List.length_set, List.length_append, List.length_cons, List.length_singleton, List.map_append, List.map_cons, Nat.zero_add, Hd.over, tt]); exact parts_of))
                refine r_retk [Store b db (Hd.over ⟨S.gen + 1, root, W⟩), Disk db L.2] ?_
                exact ⟨rfl, rfl⟩
            · have hroot : ¬(root ≠ 0 ∧ hasB W root = false) := by rintro ⟨q1, q2⟩; first | exact q1 (by assumption) | (have q3 : hasB W root = true := (by assumption); rw [q3] at q2; cases q2)
              have e : S.commit D root = (6, S, D) := by rw [Sh.commit, if_neg (by simp [*]), hn, if_neg hroot, if_pos (by assumption)]
              rw [e]
              (refine n_shut (A := Store b db S) (K := StoreK b db S ((bf, bg))) (hid_shuts ((bf, bg)) ok) (h := ?_) (p := by dsimp only [StoreK]; (try simp only [List.map_nil, List.length_nil, List.length_set, List.length_append, List.length_cons, List.length_singleton, List.map_append, List.map_cons, Nat.zero_add]); exact parts_of))
              refine r_retk [Store b db S, Disk db D] ?_
              exact ⟨rfl, rfl⟩
            · have hle : ¬ S.gen + 1 > 281474976710655 := by assumption
              have hroot : ¬(root ≠ 0 ∧ hasB W root = false) := by rintro ⟨q1, q2⟩; first | exact q1 (by assumption) | (have q3 : hasB W root = true := (by assumption); rw [q3] at q2; cases q2)
              have e : S.commit D root = (D.sync.1, S.told D.sync.1, D.sync.2) := by rw [Sh.commit, if_neg (by simp [*]), hn, if_neg hroot, if_neg hle, if_pos (by assumption)]
              rw [e]
              (refine n_shut (A := Store b db (S.told D.sync.1)) (K := StoreK b db (S.told D.sync.1) ((bf, bg))) (hid_shuts ((bf, bg)) (Sh.told_ok ok)) (h := ?_) (p := by dsimp only [StoreK]; (try simp only [List.map_nil, List.length_nil, List.length_set, List.length_append, List.length_cons, List.length_singleton, List.map_append, List.map_cons, Nat.zero_add, Sh.told]); exact parts_of))
              refine r_retk [Store b db (S.told D.sync.1), Disk db D.sync.2] ?_
              exact ⟨rfl, rfl⟩
            · have hs0 : D.sync.1 = 0 := by assumption
              have hle : ¬ S.gen + 1 > 281474976710655 := by assumption
              have hroot : ¬(root ≠ 0 ∧ hasB W root = false) := by rintro ⟨q1, q2⟩; first | exact q1 (by assumption) | (have q3 : hasB W root = true := (by assumption); rw [q3] at q2; cases q2)
              have hdn : (S.told D.sync.1).down = S.down := by simp [Sh.told, hs0]
              have hr0 : 0 ≤ root ∧ root < 640 := by omega
              have hqo : Hd.ok ⟨S.gen + 1, root, W⟩ := ⟨⟨by dsimp only; omega, by dsimp only; omega⟩, ⟨by dsimp only; omega, by dsimp only; omega⟩, by dsimp only; omega⟩
              obtain ⟨L, hL⟩ : ∃ L, Hd.lay ⟨S.gen + 1, root, W⟩ D.sync.2 = L := ⟨_, rfl⟩
              have hlay := lay_does ⟨S.gen + 1, root, W⟩ hqo db D.sync.2
              rw [hL] at hlay
              dsimp only [Hd.v] at hlay
              rw [hdn]
              (refine g_draw [cl bh 100 [.int .i64 (S.gen + 1), .int .i64 root, .string (str W)]] (h := a_pass2 (h := ?_)))
              (repeat' (first | refine g_seq (h := ?_) | refine g_region (h := ?_) | refine l_nil (h := ?_) | refine n_then (h := ?_) | refine l_pures1 (h := ?_) | (refine l_at 66 ?_; refine l_call (hlay) ?_) | (refine l_at 87 ?_; refine l_call (toldS_does b db bf bg S L.1) ?_) | (refine l_at 46 ?_; refine l_call_ (roll0_does b (.pointer (some ⟨db, 0, none⟩)) (.int .i64 (S.gen + 1)) (.int .i64 root) (.string (str W)) (.map (some bf)) (.map (some bg)) (.bool (S.told L.1).down)) ?_; rintro _ _ _ ⟨b1, b2, rfl, rfl⟩ he; cases he) | refine l_load (h := ?_) | refine l_store (h := ?_) | refine g_skip (h := ?_) | refine g_ret (h := ?_) | refine n_then_ret (h := ?_) | refine a_done (h := ?_) | refine a_load (h := a_pass2 (h := ?_)) | refine a_one (h := ?_) | refine n_any (h := a_pass2 (h := ?_)) | (refine g_sp (h1 := ?_) (h0 := ?_) <;> intro h)))
              · have e : S.commit D root = (L.1, S.told L.1, L.2) := by rw [Sh.commit, if_neg (by simp [*]), hn, if_neg hroot, if_neg hle, if_neg (fun q => q hs0), hL, if_pos (by assumption)]
                rw [e]
                (refine n_shut (A := Store b db (S.told L.1)) (K := StoreK b db (S.told L.1) ((bf, bg))) (hid_shuts ((bf, bg)) (Sh.told_ok ok)) (h := ?_) (p := by dsimp only [StoreK]; (try simp only [List.map_nil, List.length_nil, List.length_set, List.length_append, List.length_cons, List.length_singleton, List.map_append, List.map_cons, Nat.zero_add, Sh.told]); exact parts_of))
                refine r_retk [Store b db (S.told L.1), Disk db L.2] ?_
                exact ⟨rfl, rfl⟩
              · have hl0 : L.1 = 0 := by assumption
                have e : S.commit D root = (0, Hd.over ⟨S.gen + 1, root, W⟩, L.2) := by rw [Sh.commit, if_neg (by simp [*]), hn, if_neg hroot, if_neg hle, if_neg (fun q => q hs0), hL, if_neg (fun q => q hl0)]
                have hdn2 : (S.told L.1).down = false := by simp [Sh.told, hl0, *]
                rw [e, hdn2]
                (refine n_shut (A := Store b db (Hd.over ⟨S.gen + 1, root, W⟩)) (K := StoreK b db (Hd.over ⟨S.gen + 1, root, W⟩) ((b1, b2))) (hid_shuts ((b1, b2)) ⟨hqo.g, hr0, hWl, ⟨by simp [Hd.over], by simp [Hd.over]⟩, ⟨by simp [Hd.over], by simp [Hd.over]⟩⟩) (h := ?_) (p := by dsimp only [StoreK]; (try simp only [List.map_nil, List.length_nil, List.length_set, List.length_append, List.length_cons, List.length_singleton, List.map_append, List.map_cons, Nat.zero_add, Hd.over, tt]); exact parts_of))
                refine r_retk [Store b db (Hd.over ⟨S.gen + 1, root, W⟩), Disk db L.2] ?_
                exact ⟨rfl, rfl⟩
        · rfl
        · simp only [List.take_zero, setAll, List.foldl_nil]
          (intro _ i; exact inv_keep parts_of i)
    · rfl
    · simp only [List.take_zero, setAll, List.foldl_nil]
      (intro _ i; exact inv_keep parts_of i)
end Go.Proofs.YtbdgnjlbmhnipaaGreat
/- Package tree: what a call under way does with nodes and pages. -/
set_option maxRecDepth 20000
set_option linter.unusedVariables false
set_option linter.unusedSimpArgs false
namespace Go.Proofs.YtbdgnjlbmhnipaaGreat
open Go.Proofs.YtbdgnjlbmhnipaaGreat.SL

/-- A call under way: its store, the nodes that were read, its error. -/
abbrev Wk (b sb : Nat) (read e : Int) : SProp := cl b 135 [.pointer (some ⟨sb, 0, none⟩), .int .i64 read, .int .i64 e]

theorem wFail0_does (b sb : Nat) (read : Int) : Does Tryz.prog 96 [.pointer (some ⟨b, 0, none⟩), .int .i64 0] [Wk b sb read 0] (fun v H => v = .bool false ∧ H = [Wk b sb read 0]) := by
  refine does_of Tryz.func96 Tryz.ntmps96 rfl rfl rfl (fun w0 F0 => ?_)
  (repeat' (first | refine g_seq (h := ?_) | refine g_region (h := ?_) | refine l_nil (h := ?_) | refine n_then (h := ?_) | refine l_pures1 (h := ?_) | refine l_load (h := ?_) | refine l_store (h := ?_) | refine g_ret (h := ?_) | refine g_cond_t (h := ?_)))
  refine r_ret ?_
  exact ⟨rfl, rfl⟩
set_option maxHeartbeats 1000000 in
theorem wNode_does (b sb db deep : Nat) (at' read : Int) (S : Sh) (D : Dk) (d : Nd) (hd : d.good) (hr : S.read D at' = ((2, d.text, 0), S)) (h1 : 0 ≤ read ∧ read < 640) (h2 : deep ≤ 10) :
    Does Tryz.prog 114 [.pointer (some ⟨b, 0, none⟩), .int .i64 at', .int .i64 deep] [Wk b sb read 0, Store sb db S, Disk db D]
      (fun v H => ∃ r, v = ndV d r ∧ H = [Nds d r, Wk b sb (read + 1) 0, Store sb db S, Disk db D]) := by
  have hR := sRead_does sb db S D at'
  rw [hr] at hR
  dsimp only at hR
  have hD := Decode_does d hd
  have hF := wFail0_does b sb (read + 1)
  have ew : IntKind.i64.wrap (read + 1) = read + 1 := wrapI64 (by omega)
  refine does_of Tryz.func114 Tryz.ntmps114 rfl rfl rfl (fun w0 F0 => ?_)
  (repeat (first | refine g_seq (h := ?_) | refine g_region (h := ?_) | refine l_nil (h := ?_) | refine n_then (h := ?_) | refine l_pures1 (h := ?_) | refine l_load (h := ?_) | refine l_store (h := ?_) | (refine l_alloc (h := ?_); intro _)))
  rw [ew]
  (repeat' (first | refine g_seq (h := ?_) | refine g_region (h := ?_) | refine l_nil (h := ?_) | refine n_then (h := ?_) | refine l_pures1 (h := ?_) | (refine l_atc ?_; refine l_call (hR) ?_) | (refine l_atc ?_; refine l_call (hF) ?_) | (refine l_atc ?_; refine l_call_ (hD) ?_; rintro _ _ _ ⟨r, rfl, rfl⟩ he; cases he) | refine l_guard_yes (h := ?_) | refine l_load (h := ?_) | refine l_store (h := ?_) | refine g_skip (h := ?_) | refine g_ret (h := ?_) | refine g_cond_f (h := ?_) | (refine g_spF (h := ?_); intro h)))
  refine r_retk [Nds d r, Wk b sb (read + 1) 0, Store sb db S, Disk db D] ?_
  exact ⟨r, rfl, rfl⟩

set_option maxHeartbeats 1000000 in
/-- A node is laid on a fresh page. -/
theorem wWrite_does (b sb db : Nat) (at' read : Int) (S S' : Sh) (D D' : Dk) (d : Nd) (r : Rw) (hd : d.good) (hw : S.write D at' 2 d.text = (0, S', D')) :
    Does Tryz.prog 113 [.pointer (some ⟨b, 0, none⟩), .int .i64 at', ndV d r] [Wk b sb read 0, Store sb db S, Disk db D, Nds d r]
      (fun v H => v = .int .i64 at' ∧ H = [Wk b sb read 0, Store sb db S', Disk db D', Nds d r]) := by
  have hlen := d.text_len hd.p
  have hsz := hd.size
  have hW := sWrite_does sb db S D at' 2 d.text (by omega)
  rw [hw] at hW
  dsimp only at hW
  have hE := Encode_does d r hd
  have hF := wFail0_does b sb read
  refine does_of Tryz.func113 Tryz.ntmps113 rfl rfl rfl (fun w0 F0 => ?_)
  (repeat' (first | refine g_seq (h := ?_) | refine g_region (h := ?_) | refine l_nil (h := ?_) | refine n_then (h := ?_) | refine l_pures1 (h := ?_) | (refine l_atc ?_; refine l_call (hE) ?_) | (refine l_atc ?_; refine l_call (hW) ?_) | (refine l_atc ?_; refine l_call (hF) ?_) | refine l_load (h := ?_) | (refine l_box (h := ?_); intro _) | refine g_ret (h := ?_) | refine g_cond_f (h := ?_)))
  refine r_retk [Wk b sb read 0, Store sb db S', Disk db D', Nds d r] ?_
  exact ⟨rfl, rfl⟩

set_option maxHeartbeats 1000000 in
/-- A node is laid on a page that is taken. -/
theorem wFresh_does (b sb db : Nat) (at' read : Int) (S S' S'' : Sh) (D D' : Dk) (d : Nd) (r : Rw) (hd : d.good) (ht : S.take D = ((at', 0), S')) (hw : S'.write D at' 2 d.text = (0, S'', D')) :
    Does Tryz.prog 74 [.pointer (some ⟨b, 0, none⟩), ndV d r] [Wk b sb read 0, Store sb db S, Disk db D, Nds d r]
      (fun v H => v = .int .i64 at' ∧ H = [Wk b sb read 0, Store sb db S'', Disk db D', Nds d r]) := by
  have hT := sTake_does sb db S D
  rw [ht] at hT
  dsimp only at hT
  have hW := wWrite_does b sb db at' read S' S'' D D' d r hd hw
  have hF := wFail0_does b sb read
  refine does_of Tryz.func74 Tryz.ntmps74 rfl rfl rfl (fun w0 F0 => ?_)
  (repeat' (first | refine g_seq (h := ?_) | refine g_region (h := ?_) | refine l_nil (h := ?_) | refine n_then (h := ?_) | refine l_pures1 (h := ?_) | (refine l_atc ?_; refine l_call (hT) ?_) | (refine l_atc ?_; refine l_call (hW) ?_) | (refine l_atc ?_; refine l_call (hF) ?_) | refine l_load (h := ?_) | (refine l_box (h := ?_); intro _) | refine g_skip (h := ?_) | refine g_ret (h := ?_) | refine g_cond_f (h := ?_)))
  refine r_retk [Wk b sb read 0, Store sb db S'', Disk db D', Nds d r] ?_
  exact ⟨rfl, rfl⟩

set_option maxHeartbeats 1000000 in
/-- A node is laid anew: its page is fresh. -/
theorem wLayF_does (b sb db : Nat) (at' read : Int) (S S' : Sh) (D D' : Dk) (d : Nd) (r : Rw) (hd : d.good) (hf : at' ∈ S.fresh) (hw : S.write D at' 2 d.text = (0, S', D')) :
    Does Tryz.prog 80 [.pointer (some ⟨b, 0, none⟩), .int .i64 at', ndV d r] [Wk b sb read 0, Store sb db S, Disk db D, Nds d r]
      (fun v H => v = .int .i64 at' ∧ H = [Wk b sb read 0, Store sb db S', Disk db D', Nds d r]) := by
  have hT := sFresh_does sb db S at'
  rw [decide_eq_true hf] at hT
  have hW := wWrite_does b sb db at' read S S' D D' d r hd hw
  refine does_of Tryz.func80 Tryz.ntmps80 rfl rfl rfl (fun w0 F0 => ?_)
  (repeat' (first | refine g_seq (h := ?_) | refine g_region (h := ?_) | refine l_nil (h := ?_) | refine n_then (h := ?_) | refine l_pures1 (h := ?_) | (refine l_atc ?_; refine l_call (hT) ?_) | (refine l_atc ?_; refine l_call (hW) ?_) | refine l_load (h := ?_) | (refine l_box (h := ?_); intro _) | refine g_ret (h := ?_) | refine n_then_ret (h := ?_) | refine g_cond_t (h := ?_)))
  refine r_retk [Wk b sb read 0, Store sb db S', Disk db D', Nds d r] ?_
  exact ⟨rfl, rfl⟩

set_option maxHeartbeats 1000000 in
/-- A node is laid anew: its page counts, and is given; another one is taken, or there is none. -/
theorem wLayG_does (b sb db : Nat) (at' read x e : Int) (S S1 S2 : Sh) (D D2 : Dk) (d : Nd) (r : Rw) (ha : -9223372036854775808 ≤ at' ∧ at' < 9223372036854775808) (hf : at' ∉ S.fresh) (hg : S.give at' = (0, S1))
    (hw : Does Tryz.prog 74 [.pointer (some ⟨b, 0, none⟩), ndV d r] [Wk b sb read 0, Store sb db S1, Disk db D, Nds d r] (fun v H => v = .int .i64 x ∧ H = [Wk b sb read e, Store sb db S2, Disk db D2, Nds d r])) :
    Does Tryz.prog 80 [.pointer (some ⟨b, 0, none⟩), .int .i64 at', ndV d r] [Wk b sb read 0, Store sb db S, Disk db D, Nds d r]
      (fun v H => v = .int .i64 x ∧ H = [Wk b sb read e, Store sb db S2, Disk db D2, Nds d r]) := by
  have hT := sFresh_does sb db S at'
  rw [decide_eq_false hf] at hT
  have hG := sGive_does sb db S at' ha
  rw [hg] at hG
  dsimp only at hG
  have hF := wFail0_does b sb read
  refine does_of Tryz.func80 Tryz.ntmps80 rfl rfl rfl (fun w0 F0 => ?_)
  (repeat' (first | refine g_seq (h := ?_) | refine g_region (h := ?_) | refine l_nil (h := ?_) | refine n_then (h := ?_) | refine l_pures1 (h := ?_) | (refine l_atc ?_; refine l_call (hT) ?_) | (refine l_atc ?_; refine l_call (hG) ?_) | (refine l_atc ?_; refine l_call (hF) ?_) | (refine l_atc ?_; refine l_call (hw) ?_) | refine l_load (h := ?_) | (refine l_box (h := ?_); intro _) | refine g_skip (h := ?_) | refine g_ret (h := ?_) | refine g_cond_f (h := ?_)))
  refine r_retk [Wk b sb read e, Store sb db S2, Disk db D2, Nds d r] ?_
  exact ⟨rfl, rfl⟩
end Go.Proofs.YtbdgnjlbmhnipaaGreat
/- Package tree: the stack of a way. -/
set_option maxRecDepth 20000
set_option linter.unusedVariables false
set_option linter.unusedSimpArgs false
namespace Go.Proofs.YtbdgnjlbmhnipaaGreat
open Go.Proofs.YtbdgnjlbmhnipaaGreat.SL

/-- The row of a slice that has been cut. -/
theorem vec_cut {e sz m k cap : Nat} {p : Option Addr} {xs ys : List Value} {w0 w : World} {F0 : Nat → Prop} {H : List SProp} (hx : xs.length = m * sz) (i : Inv w0 F0 (vec e sz p (m + k) cap (xs ++ ys) :: H) w) : Inv w0 F0 (vec e sz p m cap xs :: H) w := by
  refine i.imp fun {h F} s => ⟨F, ?_, fun _ h => h⟩
  obtain ⟨F1, F2, ⟨hl, o⟩, s', dj, un⟩ := s
  refine ⟨F1, F2, ⟨hx, ?_⟩, s', dj, un⟩
  rcases o with ⟨e1, e2, e3, e4⟩ | ⟨g, rest, h1, h2, h3, h4, h5⟩
  · exact .inl ⟨e1, by omega, e3, e4⟩
  · refine .inr ⟨g, ys ++ rest, h1, by omega, h3, by rw [← List.append_assoc]; exact h4, by rw [← List.append_assoc]; exact h5⟩

/-- A spot: a page, its node, and where the node's rows are, the place of a kid. -/
structure Sp where
  pg : Int
  d : Nd
  r : Rw
  i : Nat
abbrev Sp.v (s : Sp) : Value := .agg #[.int .i64 s.pg, .bool s.d.leaf, .slice s.r.p1 s.d.keys.length s.r.c1, .slice s.r.p2 s.d.vals.length s.r.c2, .slice s.r.p3 s.d.kids.length s.r.c3, .int .i64 s.i]
def Sp.c (s : Sp) : List Value := [.int .i64 s.pg, .bool s.d.leaf, .slice s.r.p1 s.d.keys.length s.r.c1, .slice s.r.p2 s.d.vals.length s.r.c2, .slice s.r.p3 s.d.kids.length s.r.c3, .int .i64 s.i]
def spC (l : List Sp) : List Value := l.flatMap Sp.c
theorem spC_len : ∀ l : List Sp, (spC l).length = l.length * 6
  | [] => rfl
  | s :: l => by
    have := spC_len l
    simp only [spC, List.flatMap_cons, List.length_append, List.length_cons] at *
    simp only [Sp.c, List.length_cons, List.length_nil]; omega
theorem spC_snoc (l : List Sp) (s : Sp) : spC (l ++ [s]) = spC l ++ s.c := by simp [spC]
abbrev StkK (b : Nat) (l : List Sp) (x : Option Addr × Nat) : List SProp := [cl b 171 [.slice x.1 l.length x.2], vec 144 6 x.1 l.length x.2 (spC l)]
def Stk (b : Nat) (l : List Sp) : SProp := hid (fun _ : Option Addr × Nat => True) (StkK b l)

theorem part_spot (l : List Sp) (s : Sp) : partV env 144 (spC l ++ s.c) (0 + ((l.length : Nat) : Int).toNat * 6) = some s.v := by
  have e : 0 + ((l.length : Nat) : Int).toNat * 6 = (spC l).length := by rw [spC_len, Int.toNat_natCast, Nat.zero_add]
  have h : cutL (spC l ++ s.c) (spC l).length 6 = some s.c := by
    rw [cutL_of (by simp [Sp.c])]
    simp [Sp.c]
  rw [e]
  show (match cutL (spC l ++ s.c) (spC l).length 6 with
        | some r => some (Value.agg r.toArray)
        | none => none) = _
  rw [h]
  rfl

set_option maxHeartbeats 1000000 in
theorem push_does (b : Nat) (l : List Sp) (s : Sp) (hl : l.length < 100) : Does Tryz.prog 115 [.pointer (some ⟨b, 0, none⟩), s.v] [Stk b l] (fun v H => v = .tuple #[] ∧ H = [Stk b (l ++ [s])]) := by
  have e0 : (l ++ [s]).length = l.length + 1 := by simp
  have e1 : spC l ++ #[Value.int .i64 s.pg, .bool s.d.leaf, .slice s.r.p1 s.d.keys.length s.r.c1, .slice s.r.p2 s.d.vals.length s.r.c2, .slice s.r.p3 s.d.kids.length s.r.c3, .int .i64 s.i].toList = spC (l ++ [s]) := (spC_snoc l s).symm
  refine does_of Tryz.func115 Tryz.ntmps115 rfl rfl rfl (fun w0 F0 => ?_)
  refine g_open (A := Stk b l) (h := ?_); (rintro ⟨p, cap⟩ _; dsimp only [StkK, List.cons_append, List.nil_append])
  (repeat' (first | refine g_seq (h := ?_) | refine g_region (h := ?_) | refine l_nil (h := ?_) | refine n_then (h := ?_) | (refine l_box (h := ?_); intro _)))
  rename_i b1
  (refine g_draw [cl b1 144 _] (h := a_pass2 (h := ?_)))
  (repeat' (first | refine l_nil (h := ?_) | refine l_load (h := ?_) | refine l_store (h := ?_) | (refine l_buildSlice1 (h := ?_); intro _) | (refine l_append_new (h := ?_); intro _ _) | refine a_done (h := ?_) | refine a_load (h := a_pass2 (h := ?_)) | refine a_one (h := ?_) | refine n_any (h := a_pass2 (h := ?_)) | refine a_fork2 (h1 := ?_) (h2 := ?_) | refine a1_of (h := ?_)))
  all_goals rename_i b2 p' cap'
  all_goals
    rw [← e0, e1]
  all_goals
    (refine n_shut (A := Stk b (l ++ [s])) (K := StkK b (l ++ [s]) ((p', cap'))) (hid_shuts ((p', cap')) trivial) (h := ?_) (p := by dsimp only [StkK]; (try simp only [List.map_nil, List.length_nil, List.length_set, List.length_append, List.length_cons, List.length_singleton, List.map_append, List.map_cons, Nat.zero_add]); exact parts_of))
  all_goals
    refine r_endk [Stk b (l ++ [s])] ?_
  all_goals exact ⟨rfl, rfl⟩

set_option maxHeartbeats 1000000 in
theorem popNone_does (b : Nat) : Does Tryz.prog 76 [.pointer (some ⟨b, 0, none⟩)] [Stk b []] (fun v H => v = .tuple #[.agg #[.int .i64 0, .bool false, .slice none 0 0, .slice none 0 0, .slice none 0 0, .int .i64 0], .bool false] ∧ H = [Stk b []]) := by
  refine does_of Tryz.func76 Tryz.ntmps76 rfl rfl rfl (fun w0 F0 => ?_)
  refine g_open (A := Stk b []) (h := ?_); (rintro ⟨p, cap⟩ _; dsimp only [StkK, List.cons_append, List.nil_append])
  (repeat' (first | refine g_seq (h := ?_) | refine g_region (h := ?_) | refine l_nil (h := ?_) | refine n_then (h := ?_) | refine l_pures1 (h := ?_) | refine l_load (h := ?_) | refine l_store (h := ?_) | (refine l_alloc (h := ?_); intro _) | refine g_ret (h := ?_) | refine n_then_ret (h := ?_) | refine g_cond_t (h := ?_)))
  (refine n_shut (A := Stk b []) (K := StkK b [] ((p, cap))) (hid_shuts ((p, cap)) trivial) (h := ?_) (p := by dsimp only [StkK]; (try simp only [List.map_nil, List.length_nil, List.length_set, List.length_append, List.length_cons, List.length_singleton, List.map_append, List.map_cons, Nat.zero_add]); exact parts_of))
  refine r_retk [Stk b []] ?_
  exact ⟨rfl, rfl⟩

set_option maxHeartbeats 1000000 in
theorem pop_does (b : Nat) (l : List Sp) (s : Sp) (hl : l.length < 100) : Does Tryz.prog 76 [.pointer (some ⟨b, 0, none⟩)] [Stk b (l ++ [s])] (fun v H => v = .tuple #[s.v, .bool true] ∧ H = [Stk b l]) := by
  have e0 : (l ++ [s]).length = l.length + 1 := by simp
  have hp := part_spot l s
  refine does_of Tryz.func76 Tryz.ntmps76 rfl rfl rfl (fun w0 F0 => ?_)
  refine g_open (A := Stk b (l ++ [s])) (h := ?_); (rintro ⟨p, cap⟩ _; dsimp only [StkK, List.cons_append, List.nil_append])
  rw [e0, spC_snoc]
  refine g_ptr (m := l.length + 1) (h := ?_); rintro g rfl hc
  have ew : IntKind.i64.wrap (((l.length + 1 : Nat) : Int) - 1) = (l.length : Int) := by rw [wrapI64 (by omega)]; omega
  (repeat' (first | refine g_seq (h := ?_) | refine g_region (h := ?_) | refine l_nil (h := ?_) | refine n_then (h := ?_) | refine l_pures1 (h := ?_) | refine l_load (h := ?_) | (refine l_alloc (h := ?_); intro _) | refine g_skip (h := ?_) | refine g_cond_f (h := ?_)))
  (refine g_draw [cl b 171 [.slice (some ⟨g, 0, none⟩) (l.length + 1) cap], vec 144 6 (some ⟨g, 0, none⟩) (l.length + 1) cap (spC l ++ s.c)] (h := a_pass2 (h := ?_)))
  (repeat (first | refine l_nil (h := ?_) | refine l_indexAddr (h := ?_) | refine a_load (h := a_pass2 (h := ?_)) | refine a_one (h := ?_) | refine n_any (h := a_pass2 (h := ?_))))
  rw [ew]
  (repeat (first | refine g_seq (h := ?_) | refine l_nil (h := ?_) | refine n_then (h := ?_) | refine l_store (h := ?_) | refine a_done (h := ?_) | refine a_one (h := ?_) | refine n_any (h := a_pass2 (h := ?_)) | refine l_load_vec (h := ?_)))
  (refine g_draw [] (h := a_pass2 (h := ?_)))
  (repeat' (first | refine g_seq (h := ?_) | refine g_region (h := ?_) | refine l_nil (h := ?_) | refine n_then (h := ?_) | refine l_pures1 (h := ?_) | refine l_load (h := ?_) | refine l_store (h := ?_) | refine l_slice (h := ?_) | refine g_ret (h := ?_) | refine a_done (h := ?_) | refine a_one (h := ?_) | refine n_any (h := a_pass2 (h := ?_)) | refine a_fork2 (h1 := ?_) (h2 := ?_) | refine a1_of (h := ?_)))
  all_goals rw [ew]
  all_goals simp only [Int.toNat_natCast, Int.toNat_zero, Nat.zero_mul, Nat.add_zero, Nat.sub_zero]
  all_goals refine n_inv (fun i => vec_cut (spC_len l) (i.take (Take.there (Take.there Take.here)))) ?_
  all_goals
    (refine n_shut (A := Stk b l) (K := StkK b l (((some ⟨g, 0, none⟩ : Option Addr), cap))) (hid_shuts (((some ⟨g, 0, none⟩ : Option Addr), cap)) trivial) (h := ?_) (p := by dsimp only [StkK]; (try simp only [List.map_nil, List.length_nil, List.length_set, List.length_append, List.length_cons, List.length_singleton, List.map_append, List.map_cons, Nat.zero_add]); exact parts_of))
  all_goals
    refine r_retk [Stk b l] ?_
  all_goals exact ⟨rfl, rfl⟩
end Go.Proofs.YtbdgnjlbmhnipaaGreat
/- Package tree: the way down to a key. -/
set_option maxRecDepth 20000
set_option linter.unusedVariables false
set_option linter.unusedSimpArgs false
namespace Go.Proofs.YtbdgnjlbmhnipaaGreat
open Go.Proofs.YtbdgnjlbmhnipaaGreat.SL

abbrev Sp.spot (s : Sp) : Spot := ⟨s.pg, s.d, s.i⟩
/-- The rows of all nodes of a stack. -/
def ndlK (L : List Sp) (_ : Unit) : List SProp := L.map fun s => Nds s.d s.r
def NdL (L : List Sp) : SProp := hid (fun _ : Unit => True) (ndlK L)
theorem ndl_nil {w0 w : World} {F0 : Nat → Prop} {H : List SProp} (i : Inv w0 F0 H w) : Inv w0 F0 (NdL [] :: H) w := Inv.shuts (K := []) (A := NdL []) (show Shuts [] (NdL []) from fun _ _ s => ⟨(), trivial, s⟩) i
theorem spC_nil : spC [] = [] := rfl
theorem ndl_snoc {w0 w : World} {F0 : Nat → Prop} {H : List SProp} {L : List Sp} {s : Sp} (i : Inv w0 F0 (NdL L :: Nds s.d s.r :: H) w) : Inv w0 F0 (NdL (L ++ [s]) :: H) w := by
  obtain ⟨u, _, i⟩ := i.opens (hid_opens (p := fun _ : Unit => True) (K := ndlK L))
  have e : ndlK L () ++ Nds s.d s.r :: H = ndlK (L ++ [s]) () ++ H := by simp [ndlK]
  cases u
  rw [e] at i
  exact i.shuts (hid_shuts () trivial)
theorem ndl_last {w0 w : World} {F0 : Nat → Prop} {H : List SProp} {L : List Sp} {s : Sp} (i : Inv w0 F0 (NdL (L ++ [s]) :: H) w) : Inv w0 F0 (NdL L :: Nds s.d s.r :: H) w := by
  obtain ⟨u, _, i⟩ := i.opens (hid_opens (p := fun _ : Unit => True) (K := ndlK (L ++ [s])))
  have e : ndlK (L ++ [s]) () ++ H = ndlK L () ++ Nds s.d s.r :: H := by simp [ndlK]
  cases u
  rw [e] at i
  exact i.shuts (hid_shuts () trivial)

/-- The way from a page down to the leaf for a key. -/
def Goes (S : Sh) (D : Dk) (x : Nat) : Int → List Spot → Prop
  | _, [] => False
  | pg, s :: l => s.pg = pg ∧ S.read D pg = ((2, s.d.text, 0), S) ∧ s.d.good ∧ (s.d.leaf = true ∧ s.i = posN s.d.keys x ∧ l = [] ∨ s.d.leaf = false ∧ s.i = cntN s.d.keys x ∧ Goes S D x (s.d.kids.getD s.i 0) l)

set_option maxHeartbeats 2000000 in
theorem way_does (b sb db x : Nat) (root read : Int) (S : Sh) (D : Dk) (path : List Spot) (hg : Goes S D x root path) (hl : path.length ≤ 10) (h1 : 0 ≤ read ∧ read + path.length ≤ 640) :
    Does Tryz.prog 75 [.pointer (some ⟨b, 0, none⟩), .int .i64 root, .int .u64 x] [Wk b sb read 0, Store sb db S, Disk db D]
      (fun v H => ∃ b' L, L.map Sp.spot = path ∧ v = .pointer (some ⟨b', 0, none⟩) ∧ H = [Stk b' L, NdL L, Wk b sb (read + path.length) 0, Store sb db S, Disk db D]) := by
  refine does_of Tryz.func75 Tryz.ntmps75 rfl rfl rfl (fun w0 F0 => ?_)
  (repeat (first | refine g_seq (h := ?_) | refine g_region (h := ?_) | refine l_nil (h := ?_) | refine n_then (h := ?_) | refine l_pures1 (h := ?_) | (refine l_box (h := ?_); intro _) | refine g_block (h := ?_)))
  rename_i b'
  refine g_inv (fun i => vec_nil (144) (6) i) ?_
  refine g_inv (H' := [vec 144 6 none 0 0 [], cl b' 171 [.slice none 0 0], Wk b sb read 0, Store sb db S, Disk db D]) (fun i => i) ?_
  (refine g_shut (A := Stk b' []) (K := StkK b' [] (((none : Option Addr), 0))) (hid_shuts (((none : Option Addr), 0)) trivial) (h := ?_) (p := by dsimp only [StkK]; (try simp only [List.map_nil, List.length_nil, List.length_set, List.length_append, List.length_cons, List.length_singleton, List.map_append, List.map_cons, Nat.zero_add, spC_nil]); exact parts_of))
  refine g_inv (fun i => ndl_nil i) ?_
  (refine g_loop (fun y : List Sp × List Spot × Int => [(9, .int .i64 (y.1.length + 1 : Nat)), (8, .int .i64 y.2.2), (7, .pointer (some ⟨b', 0, none⟩)), (0, .pointer (some ⟨b, 0, none⟩)), (2, .int .u64 x)]) (fun y => [Stk b' y.1, NdL y.1, Wk b sb (read + y.1.length) 0, Store sb db S, Disk db D]) (fun y => Goes S D x y.2.2 y.2.1 ∧ y.1.map Sp.spot ++ y.2.1 = path) (fun y => y.2.1.length) (([], path, root)) ?_ ?_ ?_ ?_; rotate_left; (repeat (first | refine ts_nil | (refine ts_cons rfl ?_ ?_; first | (with_reducible rfl) | rotate_left))); (first | (intro _ i; with_reducible refine i) | rotate_left); rotate_left; (try omega); rotate_right)
  · rintro ⟨L, rest, pg⟩ ⟨hgo, hp⟩
    dsimp only at hgo hp ⊢
    cases rest with
    | nil => exact hgo.elim
    | cons s l =>
      obtain ⟨pg', d, i⟩ := s
      obtain ⟨e1, e2, e3, e4⟩ := hgo
      dsimp only at e1 e2 e3 e4
      subst e1
      have hlen : L.length + (l.length + 1) = path.length := by rw [← hp]; simp
      have hn := wNode_does b sb db (L.length + 1) pg' (read + L.length) S D d e3 e2 (by omega) (by omega)
      have hpush := fun r => push_does b' L ⟨pg', d, r, i⟩ (by omega)
      have hF := fun r => Find_does d r x e3.fits e3.p.rise
      rcases e4 with ⟨f1, f2, f3⟩ | ⟨f1, f2, f3⟩
      · simp only [f1, if_true, ← f2] at hF
        (repeat' (first | refine g_seq (h := ?_) | refine g_region (h := ?_) | refine l_nil (h := ?_) | refine n_then (h := ?_) | refine l_pures1 (h := ?_) | (refine l_atc ?_; refine l_call_ (hn) ?_; rintro _ _ _ ⟨r, rfl, rfl⟩ he; cases he) | (refine l_atc ?_; refine l_call (hF _) ?_) | (refine l_atc ?_; refine l_call (hpush _) ?_) | refine l_load (h := ?_) | refine l_store (h := ?_) | (refine l_alloc (h := ?_); intro _) | refine g_skip (h := ?_) | refine g_ret (h := ?_) | refine n_then_ret (h := ?_) | refine n_block_ret (h := ?_) | refine g_block (h := ?_) | refine g_cond_f (h := ?_) | (refine g_sp (h1 := ?_) (h0 := ?_) <;> intro h)))
        · subst f3
          have er : read + (path.length : Int) = read + L.length + 1 := by simp at hlen; omega
          refine n_inv (fun q => ndl_snoc (s := ⟨pg', d, r, i⟩) ((q.take (A := Nds d r) (by with_reducible (repeat (first | refine Take.here | apply Take.there)))).take (A := NdL L) (Take.there (by with_reducible (repeat (first | refine Take.here | apply Take.there)))))) ?_
          refine r_retk [Stk b' (L ++ [⟨pg', d, r, i⟩]), NdL (L ++ [⟨pg', d, r, i⟩]), Wk b sb (read + L.length + 1) 0, Store sb db S, Disk db D] ?_
          exact ⟨b', L ++ [⟨pg', d, r, i⟩], by rw [← hp]; simp, rfl, by rw [er]⟩
        · exact absurd (f1.symm.trans h) (by decide)
      · simp only [f1, Bool.false_eq_true, if_false, ← f2] at hF
        have hkl := e3.p.kids
        simp only [f1, Bool.false_eq_true, if_false] at hkl
        have hci := (cntN_spec (x := x) e3.p.rise).1
        rw [← f2] at hci
        have hfk := e3.fits.k
        (repeat' (first | refine g_seq (h := ?_) | refine g_region (h := ?_) | refine l_nil (h := ?_) | refine n_then (h := ?_) | refine l_pures1 (h := ?_) | (refine l_atc ?_; refine l_call_ (hn) ?_; rintro _ _ _ ⟨r, rfl, rfl⟩ he; cases he) | (refine l_atc ?_; refine l_call (hF _) ?_) | (refine l_atc ?_; refine l_call (hpush _) ?_) | refine l_load (h := ?_) | refine l_store (h := ?_) | (refine l_alloc (h := ?_); intro _) | refine g_skip (h := ?_) | refine g_ret (h := ?_) | refine n_then_ret (h := ?_) | refine n_block_ret (h := ?_) | refine g_block (h := ?_) | refine g_cond_f (h := ?_) | (refine g_sp (h1 := ?_) (h0 := ?_) <;> intro h)))
        · exact absurd (f1.symm.trans h) (by decide)
        · obtain ⟨p1, c1, p2, c2, p3, c3⟩ := r
          refine l_open (A := Nds d ⟨p1, c1, p2, c2, p3, c3⟩) (h := ?_); (rintro _ _; dsimp only [NdsK, List.cons_append, List.nil_append])
          refine l_ptr (m := d.kids.length) (h := ?_); rintro g rfl hc
          have hgk := iGet (l := d.kids) (k := i) (by omega)
          (repeat (first | refine g_region (h := ?_) | refine l_nil (h := ?_) | refine n_then (h := ?_) | refine l_pures1 (h := ?_) | refine l_indexAddr (h := ?_) | refine n_block (h := ?_) | refine l_load_vec (h := ?_)))
          (refine n_shut (A := Nds d ⟨p1, c1, p2, c2, some ⟨g, 0, none⟩, c3⟩) (K := NdsK d ⟨p1, c1, p2, c2, some ⟨g, 0, none⟩, c3⟩ (())) (hid_shuts (()) trivial) (h := ?_) (p := by dsimp only [NdsK]; (try simp only [List.map_nil, List.length_nil, List.length_set, List.length_append, List.length_cons, List.length_singleton, List.map_append, List.map_cons, Nat.zero_add]); exact parts_of))
          refine n_inv (fun q => ndl_snoc (s := ⟨pg', d, ⟨p1, c1, p2, c2, some ⟨g, 0, none⟩, c3⟩, i⟩) ((q.take (A := Nds d ⟨p1, c1, p2, c2, some ⟨g, 0, none⟩, c3⟩) (by with_reducible (repeat (first | refine Take.here | apply Take.there)))).take (A := NdL L) (Take.there (by with_reducible (repeat (first | refine Take.here | apply Take.there)))))) ?_
          (refine n_back ((L ++ [⟨pg', d, ⟨p1, c1, p2, c2, some ⟨g, 0, none⟩, c3⟩, i⟩], l, d.kids.getD i 0)) ?_ ?_ ?_ ?_; rotate_left; rotate_left; (repeat (first | refine ts_nil | (refine ts_cons rfl ?_ ?_; first | (with_reducible rfl) | rotate_left))); (first | (intro _ i; with_reducible refine i) | rotate_left); (try omega); (try omega))
          · exact ⟨f3, by rw [← hp]; simp⟩
          · exact Nat.lt_succ_self _
          · rw [wrapI64 (by omega), List.length_append]; rfl
          · dsimp only
            have er : read + ((L ++ [(⟨pg', d, ⟨p1, c1, p2, c2, some ⟨g, 0, none⟩, c3⟩, i⟩ : Sp)]).length : Int) = read + L.length + 1 := by rw [List.length_append, List.length_singleton]; omega
            rw [er]
            (intro _ i; exact inv_keep parts_of i)
  · exact ⟨hg, rfl⟩
  · rfl
  · dsimp only
    rw [show read + (([] : List Sp).length : Int) = read by simp]
    (intro _ i; exact inv_keep parts_of i)
end Go.Proofs.YtbdgnjlbmhnipaaGreat
/- Package tree: Get. -/
set_option maxRecDepth 20000
set_option linter.unusedVariables false
set_option linter.unusedSimpArgs false
namespace Go.Proofs.YtbdgnjlbmhnipaaGreat
open Go.Proofs.YtbdgnjlbmhnipaaGreat.SL

theorem Goes.last {S : Sh} {D : Dk} {x : Nat} : ∀ {l : List Spot} {s : Spot} {pg : Int}, Goes S D x pg (l ++ [s]) → s.d.good ∧ s.d.leaf = true ∧ s.i = posN s.d.keys x
  | [], s, pg, ⟨_, _, h3, h4⟩ => by
    rcases h4 with ⟨a, b, _⟩ | ⟨_, _, c⟩
    · exact ⟨h3, a, b⟩
    · exact c.elim
  | t :: l, s, pg, ⟨_, _, _, h4⟩ => by
    rcases h4 with ⟨_, _, c⟩ | ⟨_, _, c⟩
    · simp at c
    · exact Goes.last c
set_option maxHeartbeats 2000000 in
theorem Get_does (sb db x : Nat) (root : Int) (S : Sh) (D : Dk) (l0 : List Spot) (s : Spot) (hg : Goes S D x root (l0 ++ [s])) (hl : l0.length + 1 ≤ 10) (hr : root ≠ 0) :
    Does Tryz.prog 52 [.pointer (some ⟨sb, 0, none⟩), .int .i64 root, .int .u64 x] [Store sb db S, Disk db D]
      (fun v H => v = (if x ∈ s.d.keys then .tuple #[.string (str (s.d.vals.getD s.i [])), .bool true, .int .i64 0] else .tuple #[.string (str []), .bool false, .int .i64 0]) ∧ H = [Store sb db S, Disk db D]) := by
  obtain ⟨hd, hlf, hi⟩ := hg.last
  have hw := fun b => way_does b sb db x root 0 S D (l0 ++ [s]) hg (by simp; omega) (by simp; omega)
  have hv := hd.p.vals
  simp only [hlf, if_true] at hv
  refine does_of Tryz.func52 Tryz.ntmps52 rfl rfl rfl (fun w0 F0 => ?_)
  (repeat' (first | refine g_seq (h := ?_) | refine g_region (h := ?_) | refine l_nil (h := ?_) | refine n_then (h := ?_) | refine l_pures1 (h := ?_) | (refine l_box (h := ?_); intro _) | refine g_skip (h := ?_) | (refine g_spF (h := ?_); intro h)))
  rename_i b
  refine l_inv (H' := [Wk b sb 0 0, Store sb db S, Disk db D]) (fun i => i) ?_
  (repeat' (refine l_atc ?_; refine l_call_ (hw b) ?_; rintro _ _ _ ⟨b', L, hL, rfl, rfl⟩ he; cases he))
  obtain ⟨L0, t, rfl⟩ : ∃ L0 t, L = L0 ++ [t] := by
    rcases List.eq_nil_or_concat L with rfl | ⟨l, s, rfl⟩
    · simp at hL
    · exact ⟨l, s, by simp⟩
  have hL2 : L0.map Sp.spot = l0 ∧ t.spot = s := by
    have := congrArg List.reverse hL
    simp at this
    exact ⟨this.2, this.1⟩
  obtain ⟨hL1, hts⟩ := hL2
  subst hts
  have hlen : L0.length = l0.length := by rw [← hL1]; simp
  have hpop := pop_does b' L0 t (by omega)
  refine l_inv (fun q => ndl_last (q.take (A := NdL (L0 ++ [t])) (by with_reducible (repeat (first | refine Take.here | apply Take.there))))) ?_
  have hF := Find_does t.d t.r x hd.fits hd.p.rise
  dsimp only [Sp.spot] at hlf hi hv
  simp only [hlf, if_true] at hF
  rw [← hi] at hF
  (repeat' (first | refine g_seq (h := ?_) | refine g_region (h := ?_) | refine l_nil (h := ?_) | refine n_then (h := ?_) | refine l_pures1 (h := ?_) | (refine l_atc ?_; refine l_call (hpop) ?_) | (refine l_atc ?_; refine l_call (hF) ?_) | refine l_load (h := ?_) | refine l_store (h := ?_) | (refine l_alloc (h := ?_); intro _) | refine g_skip (h := ?_) | refine g_ret (h := ?_) | refine g_cond_f (h := ?_) | (refine g_sp (h1 := ?_) (h0 := ?_) <;> intro h)))
  · have hm := (posN_mem hd.p.rise).1 h
    dsimp only [Sp.spot] at hm
    rw [← hi] at hm
    obtain ⟨tpg, td, ⟨p1, c1, p2, c2, p3, c3⟩, ti⟩ := t
    dsimp only at hv hm h
    refine l_open (A := Nds td ⟨p1, c1, p2, c2, p3, c3⟩) (h := ?_); (rintro _ _; dsimp only [NdsK, List.cons_append, List.nil_append])
    refine l_ptr (m := td.vals.length) (h := ?_); rintro g rfl hc
    have hgs := sGet (l := td.vals) (k := ti) (by omega)
    (repeat (first | refine l_nil (h := ?_) | refine n_then (h := ?_) | refine l_pures1 (h := ?_) | refine l_indexAddr (h := ?_) | refine g_ret (h := ?_) | refine n_then_ret (h := ?_) | refine l_load_vec (h := ?_)))
    refine r_retk [Store sb db S, Disk db D] ?_
    exact ⟨by rw [if_pos h]; rfl, rfl⟩
  · skip
    refine r_retk [Store sb db S, Disk db D] ?_
    exact ⟨by rw [if_neg h]; rfl, rfl⟩
end Go.Proofs.YtbdgnjlbmhnipaaGreat

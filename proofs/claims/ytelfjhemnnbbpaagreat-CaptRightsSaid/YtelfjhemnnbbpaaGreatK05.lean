/- Texts NdC, Disk, TrP, TrQ, TrR, TrS, NdD, joined. -/
import Derived.Test.YtelfjhemnnbbpaaGreatK04
set_option linter.unusedVariables false
set_option linter.unusedSimpArgs false
set_option maxRecDepth 20000
namespace Go.Proofs.YtelfjhemnnbbpaaGreat
open Go.Proofs.YtelfjhemnnbbpaaGreat.SL
def cat (ss : List (Value × List Value)) (k : Nat) : List Value := (ss.take k).flatMap (·.2)
theorem cat_zero (ss : List (Value × List Value)) : cat ss 0 = [] := by simp [cat]
theorem cat_succ {ss : List (Value × List Value)} {k : Nat} {v : Value} {xs : List Value} (h : ss[k]? = some (v, xs)) : cat ss (k + 1) = cat ss k ++ xs := by
 unfold cat
 rw [List.take_add_one, h]
 simp
theorem cat_le (ss : List (Value × List Value)) (k : Nat) : (cat ss k).length ≤ (cat ss ss.length).length := by
 unfold cat
 have : ss = ss.take k ++ ss.drop k := (List.take_append_drop k ss).symm
 rw [List.take_length]
 conv => rhs; rw [this, List.flatMap_append, List.length_append]
 omega
theorem srcs_get {ss : List (Value × List Value)} {R : List SProp} {k : Nat} (h : ∀ s ∈ ss, Src R s.1 s.2) (hk : k < ss.length) : ∃ p m c xs, ss[k]? = some (.slice p m c, xs) ∧ xs.length = m ∧ Src R (.slice p m c) xs ∧ (ss.map Prod.fst)[k]? = some (.slice p m c) := by
 have hs := h ss[k] (List.getElem_mem hk)
 obtain ⟨p, m, c, e, hl, _⟩ := id hs
 refine ⟨p, m, c, ss[k].2, ?_, hl, e ▸ hs, ?_⟩
 ·rw [List.getElem?_eq_getElem hk, ← e]
 ·rw [List.getElem?_map, List.getElem?_eq_getElem hk, ← e]; rfl
theorem all_sub {xs : List Value} (h : xs.all (·.oneCell') = true) (a b : Nat) : ((xs.drop a).take b).all (·.oneCell') = true := by
 rw [List.all_eq_true] at h ⊢
 exact fun x hx => h x (List.mem_of_mem_drop (List.mem_of_mem_take hx))
theorem laid_cat {xs : List Value} {m a g : Nat} {more : List Value} (v1 v2 v3 : Value) (hl : xs.length = m) :
  cat [(v1, (xs.drop (Int.toNat 0)).take (min a m - Int.toNat 0)), (v2, more), (v3, (xs.drop (min (min a m + g) m)).take (m - min (min a m + g) m))] 3 = laidL xs a g more := by
 have e1 : (xs.drop (Int.toNat 0)).take (min a m - Int.toNat 0) = xs.take a := by
  rw [show Int.toNat 0 = 0 from rfl, List.drop_zero, Nat.sub_zero]
  rcases Nat.le_total a m with h | h
  ·rw [Nat.min_eq_left h]
  ·rw [Nat.min_eq_right h, List.take_of_length_le (by omega), List.take_of_length_le (by omega)]
 have e2 : (xs.drop (min (min a m + g) m)).take (m - min (min a m + g) m) = xs.drop (a + g) := by
  rw [List.take_of_length_le (by simp; omega)]
  rcases Nat.lt_or_ge (a + g) m with h | h
  ·rw [show min (min a m + g) m = a + g by omega]
  ·rw [List.drop_of_length_le (by omega), List.drop_of_length_le (by omega)]
 rw [e1, e2]
 simp [cat, laidL]
theorem GrowU_does (n : Nat) (hn : n < 1000000) : Does Tryz.prog 153 [.slice none 0 0, .int .i64 n] [] (fun v H => ∃ p c, v = .slice p 0 c ∧ H = [vec 78 1 p 0 c []]) := by
 refine does_of Tryz.func153 Tryz.ntmps153 rfl rfl rfl (fun w0 F0 => ?_)
 have e1 : IntKind.i64.wrap ((n : Int) - IntKind.i64.wrap (((0 : Nat) : Int) - ((0 : Nat) : Int))) = n := by rw [wrapI64 (n := ((0 : Nat) : Int) - ((0 : Nat) : Int)) (by omega), wrapI64 (by omega)]; omega
 (repeat' (first|refine g_seq (h:=?_)|refine g_region (h:=?_)|refine l_nil (h:=?_)|refine n_then (h:=?_)|refine l_pures1 (h:=?_)|refine l_slice (h:=?_)|refine g_skip (h:=?_)|refine g_ret (h:=?_)|refine g_cond_f (h:=?_)|(refine l_append_zeros (h:=?_); intro _ _ _)|refine l_slice_any (h:=?_)|(refine g_sp (h1 := ?_) (h0 := ?_) <;> intro h)))
 ·rw [e1] at *
  (repeat' fail)
  rename_i g c hc
  refine r_ret ?_
  exact ⟨_, _, rfl, rfl⟩
 ·refine n_inv (fun i => vec_nil (78) (1) i) ?_
  refine r_ret ?_
  exact ⟨_, _, rfl, rfl⟩
set_option maxHeartbeats 1000000 in
theorem ConcatU_does (ss : List (Value × List Value)) (R : List SProp) (sb c : Nat) (hs : ∀ s ∈ ss, Src R s.1 s.2) (h1 : ∀ s ∈ ss, s.2.all (·.oneCell') = true) (hc : (cat ss ss.length).length < 1000000) (hn : ss.length < 1000) :
  Does Tryz.prog 142 [.slice (some ⟨sb, 0, none⟩) ss.length c] (cl sb 173 (ss.map Prod.fst) :: R)
   (fun v H => ∃ p c', v = .slice p (cat ss ss.length).length c' ∧ H = vec 78 1 p (cat ss ss.length).length c' (cat ss ss.length) :: cl sb 173 (ss.map Prod.fst) :: R) := by
 refine does_of Tryz.func142 Tryz.ntmps142 rfl rfl rfl (fun w0 F0 => ?_)
 (repeat' (first|refine g_seq (h:=?_)|refine g_region (h:=?_)|refine l_nil (h:=?_)|refine n_then (h:=?_)|refine l_pures1 (h:=?_)|refine g_block (h:=?_)))
 (refine g_loop (fun k : Nat => [(3, .int .i64 (cat ss k).length), (11, .int .i64 k), (10, .int .i64 ss.length), (9, .slice (some ⟨sb, 0, none⟩) ss.length c), (0, .slice (some ⟨sb, 0, none⟩) ss.length c)]) (fun _ => cl sb 173 (ss.map Prod.fst) :: R) (fun k => k ≤ ss.length) (fun k => ss.length - k) (0) ?_ ?_ ?_ ?_; rotate_left; (repeat (first | refine ts_nil | (refine ts_cons rfl ?_ ?_; first | (with_reducible rfl) | rotate_left))); (first | (intro _ i; with_reducible refine i) | rotate_left); rotate_left; (try omega); rotate_right)
 ·intro k hk
  (repeat' (first|refine g_seq (h:=?_)|refine g_region (h:=?_)|refine l_nil (h:=?_)|refine n_then (h:=?_)|refine l_pures1 (h:=?_)|refine l_indexAddr (h:=?_)|refine g_skip (h:=?_)|refine g_block (h:=?_)|refine g_exit (h:=?_)|refine n_then_exit (h:=?_)|refine n_block_hit (h:=?_)|(refine g_sp (h1 := ?_) (h0 := ?_) <;> intro h)))
  ·have hlt : k < ss.length := by omega
   obtain ⟨p, m, c', xs, g1, g2, g3, g4⟩ := srcs_get hs hlt
   have hg : (ss.map Prod.fst)[0 + ((k : Nat) : Int).toNat * 1]? = some (.slice p m c') := by rw [Nat.zero_add, Nat.mul_one, Int.toNat_natCast]; exact g4
   have e1 := cat_succ g1
   have e2 := cat_le ss (k + 1)
   have e3 : (cat ss (k + 1)).length = (cat ss k).length + m := by rw [e1, List.length_append, g2]
   have e4 : IntKind.i64.wrap (((cat ss k).length : Int) + (m : Int)) = ((cat ss (k + 1)).length : Int) := by rw [wrapI64 (by omega), e3]; omega
   (repeat' (first|refine g_seq (h:=?_)|refine g_region (h:=?_)|refine l_nil (h:=?_)|refine n_then (h:=?_)|refine l_pures1 (h:=?_)|refine l_load_at (h:=?_)|refine g_skip (h:=?_)|refine n_block (h:=?_)|(refine g_spF (h:=?_); intro h)))
   (refine n_back (k + 1) ?_ ?_ ?_ ?_; rotate_left; rotate_left; (repeat (first | refine ts_nil | (refine ts_cons rfl ?_ ?_; first | (with_reducible rfl) | rotate_left))); (first | (intro _ i; with_reducible refine i) | rotate_left); (try omega); (try omega))
   ·rw [e4]
   ·rw [wrapI64 (by omega)]; rfl
  ·obtain rfl : k = ss.length := by omega
   (repeat' (first|refine g_seq (h:=?_)|refine g_region (h:=?_)|refine l_nil (h:=?_)|refine n_then (h:=?_)|refine l_pures1 (h:=?_)|(refine l_at 153 ?_; refine l_call_ (GrowU_does (cat ss ss.length).length hc) ?_; rintro _ _ _ ⟨p, c', rfl, rfl⟩ he; cases he)|refine g_block (h:=?_)))
   (refine g_loop (fun y : Nat × Option Addr × Nat => [(6, .slice y.2.1 (cat ss y.1).length y.2.2), (27, .int .i64 y.1), (26, .int .i64 ss.length), (25, .slice (some ⟨sb, 0, none⟩) ss.length c)]) (fun y => vec 78 1 y.2.1 (cat ss y.1).length y.2.2 (cat ss y.1) :: cl sb 173 (ss.map Prod.fst) :: R) (fun y => y.1 ≤ ss.length) (fun y => ss.length - y.1) ((0, p, c')) ?_ ?_ ?_ ?_; rotate_left; (repeat (first | refine ts_nil | (refine ts_cons rfl ?_ ?_; first | (with_reducible rfl) | rotate_left))); (first | (intro _ i; with_reducible refine i) | rotate_left); rotate_left; (try omega); rotate_right)
   ·rintro ⟨k, p, c'⟩ hk
    dsimp only at hk
    (repeat' (first|refine g_seq (h:=?_)|refine g_region (h:=?_)|refine l_nil (h:=?_)|refine n_then (h:=?_)|refine l_pures1 (h:=?_)|refine l_indexAddr (h:=?_)|refine g_skip (h:=?_)|refine g_ret (h:=?_)|refine g_block (h:=?_)|refine g_exit (h:=?_)|refine n_then_exit (h:=?_)|refine n_block_hit (h:=?_)|(refine g_sp (h1 := ?_) (h0 := ?_) <;> intro h)))
    ·have hlt : k < ss.length := by omega
     obtain ⟨q, m, c2, xs, g1, g2, g3, g4⟩ := srcs_get hs hlt
     have hg : (ss.map Prod.fst)[0 + ((k : Nat) : Int).toNat * 1]? = some (.slice q m c2) := by rw [Nat.zero_add, Nat.mul_one, Int.toNat_natCast]; exact g4
     have e1 := cat_succ g1
     have e2 := cat_le ss (k + 1)
     have e3 : (cat ss (k + 1)).length = (cat ss k).length + m := by rw [e1, List.length_append, g2]
     have h2 : xs.all (·.oneCell') = true := h1 _ (List.mem_of_getElem? g1)
     (repeat' (first|refine g_region (h:=?_)|refine l_nil (h:=?_)|refine n_then (h:=?_)|refine l_pures1 (h:=?_)|refine l_load_at (h:=?_)))
     refine l_append_src env_ok rfl rfl rfl rfl rfl rfl Take.here g3.cons h2 (by dsimp only; constructor <;> omega) ?_
     intro p2 c3
     (repeat' (first|refine g_region (h:=?_)|refine l_nil (h:=?_)|refine n_then (h:=?_)|refine l_pures1 (h:=?_)|refine n_block (h:=?_)))
     (refine n_back ((k + 1, p2, c3)) ?_ ?_ ?_ ?_; rotate_left; rotate_left; (repeat (first | refine ts_nil | (refine ts_cons rfl ?_ ?_; first | (with_reducible rfl) | rotate_left))); (first | (intro _ i; with_reducible refine i) | rotate_left); (try omega); (try omega))
     ·dsimp only; rw [e3]
     ·rw [wrapI64 (by omega)]; rfl
     ·intro w i; dsimp only; rw [e3, e1]; exact i
    ·obtain rfl : k = ss.length := by omega
     (repeat' fail)
     refine r_ret ?_
     exact ⟨_, _, rfl, rfl⟩
   ·simp [cat_zero]
   ·rfl
   ·intro w i; dsimp only; rw [cat_zero]; exact i
 ·rw [cat_zero]; rfl
 ·rfl
set_option maxHeartbeats 1000000 in
theorem laidU_one (xs : List Value) (p : Option Addr) (m c at' gone mb mc : Nat) (x : Value) (hx : xs.all (·.oneCell') = true) (hx1 : x.oneCell' = true) (hm : m < 100000) (h1 : at' < 100000) (h2 : gone < 100000) :
  Does Tryz.prog 125 [.slice p m c, .int .i64 at', .int .i64 gone, .slice (some ⟨mb, 0, none⟩) 1 mc] [vec 78 1 p m c xs, cl mb 78 [x]]
   (fun v H => ∃ p' c', v = .slice p' (laidL xs at' gone [x]).length c' ∧ H = [vec 78 1 p' (laidL xs at' gone [x]).length c' (laidL xs at' gone [x]), vec 78 1 p m c xs]) := by
 refine does_le Take.here (fun hc hl => ?_)
 rw [Nat.mul_one] at hl
 have e1 : min (at' : Int) (m : Int) = ((min at' m : Nat) : Int) := by omega
 have e2 : min (IntKind.i64.wrap (((min at' m : Nat) : Int) + (gone : Int))) (m : Int) = ((min (min at' m + gone) m : Nat) : Int) := by rw [wrapI64 (by omega)]; omega
 have hcat : ∀ sb, Does Tryz.prog 142 [.slice (some ⟨sb, 0, none⟩) 3 3] [cl sb 173 [.slice (sliceP p (Int.toNat 0) 1 c) (min at' m - Int.toNat 0) (c - Int.toNat 0), .slice (some ⟨mb, 0, none⟩) 1 mc, .slice (sliceP p (min (min at' m + gone) m) 1 c) (m - min (min at' m + gone) m) (c - min (min at' m + gone) m)], vec 78 1 p m c xs, cl mb 78 [x]]
   (fun v H => ∃ p' c', v = .slice p' (laidL xs at' gone [x]).length c' ∧ H = [vec 78 1 p' (laidL xs at' gone [x]).length c' (laidL xs at' gone [x]), cl sb 173 [.slice (sliceP p (Int.toNat 0) 1 c) (min at' m - Int.toNat 0) (c - Int.toNat 0), .slice (some ⟨mb, 0, none⟩) 1 mc, .slice (sliceP p (min (min at' m + gone) m) 1 c) (m - min (min at' m + gone) m) (c - min (min at' m + gone) m)], vec 78 1 p m c xs, cl mb 78 [x]]) := fun sb => by
  have ec : cat [(.slice (sliceP p (Int.toNat 0) 1 c) (min at' m - Int.toNat 0) (c - Int.toNat 0), (xs.drop (Int.toNat 0)).take (min at' m - Int.toNat 0)), (.slice (some ⟨mb, 0, none⟩) 1 mc, [x]), (.slice (sliceP p (min (min at' m + gone) m) 1 c) (m - min (min at' m + gone) m) (c - min (min at' m + gone) m), (xs.drop (min (min at' m + gone) m)).take (m - min (min at' m + gone) m))] 3 = laidL xs at' gone [x] := laid_cat _ _ _ hl
  have := ConcatU_does [(.slice (sliceP p (Int.toNat 0) 1 c) (min at' m - Int.toNat 0) (c - Int.toNat 0), (xs.drop (Int.toNat 0)).take (min at' m - Int.toNat 0)), (.slice (some ⟨mb, 0, none⟩) 1 mc, [x]), (.slice (sliceP p (min (min at' m + gone) m) 1 c) (m - min (min at' m + gone) m) (c - min (min at' m + gone) m), (xs.drop (min (min at' m + gone) m)).take (m - min (min at' m + gone) m))] [vec 78 1 p m c xs, cl mb 78 [x]] sb 3 ?_ ?_ ?_ (by simp)
  ·simp only [List.length_cons, List.length_nil, Nat.zero_add, Nat.reduceAdd, ec] at this
   exact this
  ·intro s hs
   simp only [List.mem_cons, List.not_mem_nil, or_false] at hs
   rcases hs with rfl | rfl | rfl
   ·exact src_cut Take.here hl (Nat.zero_le _) (Nat.min_le_right _ _) hc
   ·exact src_cl (Take.there Take.here) rfl
   ·exact src_cut Take.here hl (Nat.min_le_right _ _) (Nat.le_refl _) hc
  ·intro s hs
   simp only [List.mem_cons, List.not_mem_nil, or_false] at hs
   rcases hs with rfl | rfl | rfl
   ·exact all_sub hx _ _
   ·simp [hx1]
   ·exact all_sub hx _ _
  ·show (cat _ 3).length < _
   rw [ec]
   have := laidL_len xs at' gone [x]
   simp only [List.length_cons, List.length_nil] at this
   omega
 refine does_of Tryz.func125 Tryz.ntmps125 rfl rfl rfl (fun w0 F0 => ?_)
 (repeat' (first|refine g_seq (h:=?_)|refine g_region (h:=?_)|refine l_nil (h:=?_)|refine n_then (h:=?_)|refine l_pures1 (h:=?_)))
 (simp only [cond_true, cond_false, mxI_eq, mnI_eq])
 rw [e1]
 (refine g_draw [] (h := a_pass2 (h:=?_)))
 (simp only [cond_true, cond_false, mxI_eq, mnI_eq])
 rw [e2]
 (repeat' (first|refine l_nil (h:=?_)|refine a_one (h:=?_)|refine n_any (h := a_pass2 (h:=?_))|refine a_v (h:=?_)|refine l_slice_any (h:=?_)|(refine l_buildSlice3 (h:=?_); intro _)))
 rename_i sb
 rw [show (((min at' m : Nat) : Int)).toNat = min at' m from Int.toNat_natCast _, show (((min (min at' m + gone) m : Nat) : Int)).toNat = min (min at' m + gone) m from Int.toNat_natCast _, show (((m : Nat) : Int)).toNat = m from Int.toNat_natCast _]
 (repeat' (first|refine l_nil (h:=?_)|refine n_then (h:=?_)|(refine l_at 142 ?_; refine l_call_ (hcat sb) ?_; rintro _ _ _ ⟨p', c', rfl, rfl⟩ he; cases he)|refine g_ret (h:=?_)|refine a_done (h:=?_)|refine n_any (h := a_pass2 (h:=?_))))
 refine r_retk [vec 78 1 p' (laidL xs at' gone [x]).length c' (laidL xs at' gone [x]), vec 78 1 p m c xs] ?_
 exact ⟨_, _, rfl, rfl⟩
set_option maxHeartbeats 1000000 in
theorem laidU_none (xs : List Value) (p : Option Addr) (m c at' gone : Nat) (hx : xs.all (·.oneCell') = true) (hm : m < 100000) (h1 : at' < 100000) (h2 : gone < 100000) :
  Does Tryz.prog 125 [.slice p m c, .int .i64 at', .int .i64 gone, .slice none 0 0] [vec 78 1 p m c xs]
   (fun v H => ∃ p' c', v = .slice p' (laidL xs at' gone []).length c' ∧ H = [vec 78 1 p' (laidL xs at' gone []).length c' (laidL xs at' gone []), vec 78 1 p m c xs]) := by
 refine does_le Take.here (fun hc hl => ?_)
 rw [Nat.mul_one] at hl
 have e1 : min (at' : Int) (m : Int) = ((min at' m : Nat) : Int) := by omega
 have e2 : min (IntKind.i64.wrap (((min at' m : Nat) : Int) + (gone : Int))) (m : Int) = ((min (min at' m + gone) m : Nat) : Int) := by rw [wrapI64 (by omega)]; omega
 have hcat : ∀ sb, Does Tryz.prog 142 [.slice (some ⟨sb, 0, none⟩) 3 3] [cl sb 173 [.slice (sliceP p (Int.toNat 0) 1 c) (min at' m - Int.toNat 0) (c - Int.toNat 0), .slice none 0 0, .slice (sliceP p (min (min at' m + gone) m) 1 c) (m - min (min at' m + gone) m) (c - min (min at' m + gone) m)], vec 78 1 p m c xs]
   (fun v H => ∃ p' c', v = .slice p' (laidL xs at' gone []).length c' ∧ H = [vec 78 1 p' (laidL xs at' gone []).length c' (laidL xs at' gone []), cl sb 173 [.slice (sliceP p (Int.toNat 0) 1 c) (min at' m - Int.toNat 0) (c - Int.toNat 0), .slice none 0 0, .slice (sliceP p (min (min at' m + gone) m) 1 c) (m - min (min at' m + gone) m) (c - min (min at' m + gone) m)], vec 78 1 p m c xs]) := fun sb => by
  have ec : cat [(.slice (sliceP p (Int.toNat 0) 1 c) (min at' m - Int.toNat 0) (c - Int.toNat 0), (xs.drop (Int.toNat 0)).take (min at' m - Int.toNat 0)), (.slice none 0 0, []), (.slice (sliceP p (min (min at' m + gone) m) 1 c) (m - min (min at' m + gone) m) (c - min (min at' m + gone) m), (xs.drop (min (min at' m + gone) m)).take (m - min (min at' m + gone) m))] 3 = laidL xs at' gone [] := laid_cat _ _ _ hl
  have := ConcatU_does [(.slice (sliceP p (Int.toNat 0) 1 c) (min at' m - Int.toNat 0) (c - Int.toNat 0), (xs.drop (Int.toNat 0)).take (min at' m - Int.toNat 0)), (.slice none 0 0, []), (.slice (sliceP p (min (min at' m + gone) m) 1 c) (m - min (min at' m + gone) m) (c - min (min at' m + gone) m), (xs.drop (min (min at' m + gone) m)).take (m - min (min at' m + gone) m))] [vec 78 1 p m c xs] sb 3 ?_ ?_ ?_ (by simp)
  ·simp only [List.length_cons, List.length_nil, Nat.zero_add, Nat.reduceAdd, ec] at this
   exact this
  ·intro s hs
   simp only [List.mem_cons, List.not_mem_nil, or_false] at hs
   rcases hs with rfl | rfl | rfl
   ·exact src_cut Take.here hl (Nat.zero_le _) (Nat.min_le_right _ _) hc
   ·exact src_none _
   ·exact src_cut Take.here hl (Nat.min_le_right _ _) (Nat.le_refl _) hc
  ·intro s hs
   simp only [List.mem_cons, List.not_mem_nil, or_false] at hs
   rcases hs with rfl | rfl | rfl
   ·exact all_sub hx _ _
   ·rfl
   ·exact all_sub hx _ _
  ·show (cat _ 3).length < _
   rw [ec]
   have := laidL_len xs at' gone []
   simp only [List.length_cons, List.length_nil] at this
   omega
 refine does_of Tryz.func125 Tryz.ntmps125 rfl rfl rfl (fun w0 F0 => ?_)
 (repeat' (first|refine g_seq (h:=?_)|refine g_region (h:=?_)|refine l_nil (h:=?_)|refine n_then (h:=?_)|refine l_pures1 (h:=?_)))
 (simp only [cond_true, cond_false, mxI_eq, mnI_eq])
 rw [e1]
 (refine g_draw [] (h := a_pass2 (h:=?_)))
 (simp only [cond_true, cond_false, mxI_eq, mnI_eq])
 rw [e2]
 (repeat' (first|refine l_nil (h:=?_)|refine a_one (h:=?_)|refine n_any (h := a_pass2 (h:=?_))|refine a_v (h:=?_)|refine l_slice_any (h:=?_)|(refine l_buildSlice3 (h:=?_); intro _)))
 rename_i sb
 rw [show (((min at' m : Nat) : Int)).toNat = min at' m from Int.toNat_natCast _, show (((min (min at' m + gone) m : Nat) : Int)).toNat = min (min at' m + gone) m from Int.toNat_natCast _, show (((m : Nat) : Int)).toNat = m from Int.toNat_natCast _]
 (repeat' (first|refine l_nil (h:=?_)|refine n_then (h:=?_)|(refine l_at 142 ?_; refine l_call_ (hcat sb) ?_; rintro _ _ _ ⟨p', c', rfl, rfl⟩ he; cases he)|refine g_ret (h:=?_)|refine a_done (h:=?_)|refine n_any (h := a_pass2 (h:=?_))))
 refine r_retk [vec 78 1 p' (laidL xs at' gone []).length c' (laidL xs at' gone []), vec 78 1 p m c xs] ?_
 exact ⟨_, _, rfl, rfl⟩
theorem GrowS_does (n : Nat) (hn : n < 1000000) : Does Tryz.prog 154 [.slice none 0 0, .int .i64 n] [] (fun v H => ∃ p c, v = .slice p 0 c ∧ H = [vec 9 1 p 0 c []]) := by
 refine does_of Tryz.func154 Tryz.ntmps154 rfl rfl rfl (fun w0 F0 => ?_)
 have e1 : IntKind.i64.wrap ((n : Int) - IntKind.i64.wrap (((0 : Nat) : Int) - ((0 : Nat) : Int))) = n := by rw [wrapI64 (n := ((0 : Nat) : Int) - ((0 : Nat) : Int)) (by omega), wrapI64 (by omega)]; omega
 (repeat' (first|refine g_seq (h:=?_)|refine g_region (h:=?_)|refine l_nil (h:=?_)|refine n_then (h:=?_)|refine l_pures1 (h:=?_)|refine l_slice (h:=?_)|refine g_skip (h:=?_)|refine g_ret (h:=?_)|refine g_cond_f (h:=?_)|(refine l_append_zeros (h:=?_); intro _ _ _)|refine l_slice_any (h:=?_)|(refine g_sp (h1 := ?_) (h0 := ?_) <;> intro h)))
 ·rw [e1] at *
  (repeat' fail)
  rename_i g c hc
  refine r_ret ?_
  exact ⟨_, _, rfl, rfl⟩
 ·refine n_inv (fun i => vec_nil (9) (1) i) ?_
  refine r_ret ?_
  exact ⟨_, _, rfl, rfl⟩
set_option maxHeartbeats 1000000 in
theorem ConcatS_does (ss : List (Value × List Value)) (R : List SProp) (sb c : Nat) (hs : ∀ s ∈ ss, Src R s.1 s.2) (h1 : ∀ s ∈ ss, s.2.all (·.oneCell') = true) (hc : (cat ss ss.length).length < 1000000) (hn : ss.length < 1000) :
  Does Tryz.prog 143 [.slice (some ⟨sb, 0, none⟩) ss.length c] (cl sb 22 (ss.map Prod.fst) :: R)
   (fun v H => ∃ p c', v = .slice p (cat ss ss.length).length c' ∧ H = vec 9 1 p (cat ss ss.length).length c' (cat ss ss.length) :: cl sb 22 (ss.map Prod.fst) :: R) := by
 refine does_of Tryz.func143 Tryz.ntmps143 rfl rfl rfl (fun w0 F0 => ?_)
 (repeat' (first|refine g_seq (h:=?_)|refine g_region (h:=?_)|refine l_nil (h:=?_)|refine n_then (h:=?_)|refine l_pures1 (h:=?_)|refine g_block (h:=?_)))
 (refine g_loop (fun k : Nat => [(3, .int .i64 (cat ss k).length), (11, .int .i64 k), (10, .int .i64 ss.length), (9, .slice (some ⟨sb, 0, none⟩) ss.length c), (0, .slice (some ⟨sb, 0, none⟩) ss.length c)]) (fun _ => cl sb 22 (ss.map Prod.fst) :: R) (fun k => k ≤ ss.length) (fun k => ss.length - k) (0) ?_ ?_ ?_ ?_; rotate_left; (repeat (first | refine ts_nil | (refine ts_cons rfl ?_ ?_; first | (with_reducible rfl) | rotate_left))); (first | (intro _ i; with_reducible refine i) | rotate_left); rotate_left; (try omega); rotate_right)
 ·intro k hk
  (repeat' (first|refine g_seq (h:=?_)|refine g_region (h:=?_)|refine l_nil (h:=?_)|refine n_then (h:=?_)|refine l_pures1 (h:=?_)|refine l_indexAddr (h:=?_)|refine g_skip (h:=?_)|refine g_block (h:=?_)|refine g_exit (h:=?_)|refine n_then_exit (h:=?_)|refine n_block_hit (h:=?_)|(refine g_sp (h1 := ?_) (h0 := ?_) <;> intro h)))
  ·have hlt : k < ss.length := by omega
   obtain ⟨p, m, c', xs, g1, g2, g3, g4⟩ := srcs_get hs hlt
   have hg : (ss.map Prod.fst)[0 + ((k : Nat) : Int).toNat * 1]? = some (.slice p m c') := by rw [Nat.zero_add, Nat.mul_one, Int.toNat_natCast]; exact g4
   have e1 := cat_succ g1
   have e2 := cat_le ss (k + 1)
   have e3 : (cat ss (k + 1)).length = (cat ss k).length + m := by rw [e1, List.length_append, g2]
   have e4 : IntKind.i64.wrap (((cat ss k).length : Int) + (m : Int)) = ((cat ss (k + 1)).length : Int) := by rw [wrapI64 (by omega), e3]; omega
   (repeat' (first|refine g_seq (h:=?_)|refine g_region (h:=?_)|refine l_nil (h:=?_)|refine n_then (h:=?_)|refine l_pures1 (h:=?_)|refine l_load_at (h:=?_)|refine g_skip (h:=?_)|refine n_block (h:=?_)|(refine g_spF (h:=?_); intro h)))
   (refine n_back (k + 1) ?_ ?_ ?_ ?_; rotate_left; rotate_left; (repeat (first | refine ts_nil | (refine ts_cons rfl ?_ ?_; first | (with_reducible rfl) | rotate_left))); (first | (intro _ i; with_reducible refine i) | rotate_left); (try omega); (try omega))
   ·rw [e4]
   ·rw [wrapI64 (by omega)]; rfl
  ·obtain rfl : k = ss.length := by omega
   (repeat' (first|refine g_seq (h:=?_)|refine g_region (h:=?_)|refine l_nil (h:=?_)|refine n_then (h:=?_)|refine l_pures1 (h:=?_)|(refine l_at 154 ?_; refine l_call_ (GrowS_does (cat ss ss.length).length hc) ?_; rintro _ _ _ ⟨p, c', rfl, rfl⟩ he; cases he)|refine g_block (h:=?_)))
   (refine g_loop (fun y : Nat × Option Addr × Nat => [(6, .slice y.2.1 (cat ss y.1).length y.2.2), (27, .int .i64 y.1), (26, .int .i64 ss.length), (25, .slice (some ⟨sb, 0, none⟩) ss.length c)]) (fun y => vec 9 1 y.2.1 (cat ss y.1).length y.2.2 (cat ss y.1) :: cl sb 22 (ss.map Prod.fst) :: R) (fun y => y.1 ≤ ss.length) (fun y => ss.length - y.1) ((0, p, c')) ?_ ?_ ?_ ?_; rotate_left; (repeat (first | refine ts_nil | (refine ts_cons rfl ?_ ?_; first | (with_reducible rfl) | rotate_left))); (first | (intro _ i; with_reducible refine i) | rotate_left); rotate_left; (try omega); rotate_right)
   ·rintro ⟨k, p, c'⟩ hk
    dsimp only at hk
    (repeat' (first|refine g_seq (h:=?_)|refine g_region (h:=?_)|refine l_nil (h:=?_)|refine n_then (h:=?_)|refine l_pures1 (h:=?_)|refine l_indexAddr (h:=?_)|refine g_skip (h:=?_)|refine g_ret (h:=?_)|refine g_block (h:=?_)|refine g_exit (h:=?_)|refine n_then_exit (h:=?_)|refine n_block_hit (h:=?_)|(refine g_sp (h1 := ?_) (h0 := ?_) <;> intro h)))
    ·have hlt : k < ss.length := by omega
     obtain ⟨q, m, c2, xs, g1, g2, g3, g4⟩ := srcs_get hs hlt
     have hg : (ss.map Prod.fst)[0 + ((k : Nat) : Int).toNat * 1]? = some (.slice q m c2) := by rw [Nat.zero_add, Nat.mul_one, Int.toNat_natCast]; exact g4
     have e1 := cat_succ g1
     have e2 := cat_le ss (k + 1)
     have e3 : (cat ss (k + 1)).length = (cat ss k).length + m := by rw [e1, List.length_append, g2]
     have h2 : xs.all (·.oneCell') = true := h1 _ (List.mem_of_getElem? g1)
     (repeat' (first|refine g_region (h:=?_)|refine l_nil (h:=?_)|refine n_then (h:=?_)|refine l_pures1 (h:=?_)|refine l_load_at (h:=?_)))
     refine l_append_src env_ok rfl rfl rfl rfl rfl rfl Take.here g3.cons h2 (by dsimp only; constructor <;> omega) ?_
     intro p2 c3
     (repeat' (first|refine g_region (h:=?_)|refine l_nil (h:=?_)|refine n_then (h:=?_)|refine l_pures1 (h:=?_)|refine n_block (h:=?_)))
     (refine n_back ((k + 1, p2, c3)) ?_ ?_ ?_ ?_; rotate_left; rotate_left; (repeat (first | refine ts_nil | (refine ts_cons rfl ?_ ?_; first | (with_reducible rfl) | rotate_left))); (first | (intro _ i; with_reducible refine i) | rotate_left); (try omega); (try omega))
     ·dsimp only; rw [e3]
     ·rw [wrapI64 (by omega)]; rfl
     ·intro w i; dsimp only; rw [e3, e1]; exact i
    ·obtain rfl : k = ss.length := by omega
     (repeat' fail)
     refine r_ret ?_
     exact ⟨_, _, rfl, rfl⟩
   ·simp [cat_zero]
   ·rfl
   ·intro w i; dsimp only; rw [cat_zero]; exact i
 ·rw [cat_zero]; rfl
 ·rfl
set_option maxHeartbeats 1000000 in
theorem laidS_one (xs : List Value) (p : Option Addr) (m c at' gone mb mc : Nat) (x : Value) (hx : xs.all (·.oneCell') = true) (hx1 : x.oneCell' = true) (hm : m < 100000) (h1 : at' < 100000) (h2 : gone < 100000) :
  Does Tryz.prog 126 [.slice p m c, .int .i64 at', .int .i64 gone, .slice (some ⟨mb, 0, none⟩) 1 mc] [vec 9 1 p m c xs, cl mb 9 [x]]
   (fun v H => ∃ p' c', v = .slice p' (laidL xs at' gone [x]).length c' ∧ H = [vec 9 1 p' (laidL xs at' gone [x]).length c' (laidL xs at' gone [x]), vec 9 1 p m c xs]) := by
 refine does_le Take.here (fun hc hl => ?_)
 rw [Nat.mul_one] at hl
 have e1 : min (at' : Int) (m : Int) = ((min at' m : Nat) : Int) := by omega
 have e2 : min (IntKind.i64.wrap (((min at' m : Nat) : Int) + (gone : Int))) (m : Int) = ((min (min at' m + gone) m : Nat) : Int) := by rw [wrapI64 (by omega)]; omega
 have hcat : ∀ sb, Does Tryz.prog 143 [.slice (some ⟨sb, 0, none⟩) 3 3] [cl sb 22 [.slice (sliceP p (Int.toNat 0) 1 c) (min at' m - Int.toNat 0) (c - Int.toNat 0), .slice (some ⟨mb, 0, none⟩) 1 mc, .slice (sliceP p (min (min at' m + gone) m) 1 c) (m - min (min at' m + gone) m) (c - min (min at' m + gone) m)], vec 9 1 p m c xs, cl mb 9 [x]]
   (fun v H => ∃ p' c', v = .slice p' (laidL xs at' gone [x]).length c' ∧ H = [vec 9 1 p' (laidL xs at' gone [x]).length c' (laidL xs at' gone [x]), cl sb 22 [.slice (sliceP p (Int.toNat 0) 1 c) (min at' m - Int.toNat 0) (c - Int.toNat 0), .slice (some ⟨mb, 0, none⟩) 1 mc, .slice (sliceP p (min (min at' m + gone) m) 1 c) (m - min (min at' m + gone) m) (c - min (min at' m + gone) m)], vec 9 1 p m c xs, cl mb 9 [x]]) := fun sb => by
  have ec : cat [(.slice (sliceP p (Int.toNat 0) 1 c) (min at' m - Int.toNat 0) (c - Int.toNat 0), (xs.drop (Int.toNat 0)).take (min at' m - Int.toNat 0)), (.slice (some ⟨mb, 0, none⟩) 1 mc, [x]), (.slice (sliceP p (min (min at' m + gone) m) 1 c) (m - min (min at' m + gone) m) (c - min (min at' m + gone) m), (xs.drop (min (min at' m + gone) m)).take (m - min (min at' m + gone) m))] 3 = laidL xs at' gone [x] := laid_cat _ _ _ hl
  have := ConcatS_does [(.slice (sliceP p (Int.toNat 0) 1 c) (min at' m - Int.toNat 0) (c - Int.toNat 0), (xs.drop (Int.toNat 0)).take (min at' m - Int.toNat 0)), (.slice (some ⟨mb, 0, none⟩) 1 mc, [x]), (.slice (sliceP p (min (min at' m + gone) m) 1 c) (m - min (min at' m + gone) m) (c - min (min at' m + gone) m), (xs.drop (min (min at' m + gone) m)).take (m - min (min at' m + gone) m))] [vec 9 1 p m c xs, cl mb 9 [x]] sb 3 ?_ ?_ ?_ (by simp)
  ·simp only [List.length_cons, List.length_nil, Nat.zero_add, Nat.reduceAdd, ec] at this
   exact this
  ·intro s hs
   simp only [List.mem_cons, List.not_mem_nil, or_false] at hs
   rcases hs with rfl | rfl | rfl
   ·exact src_cut Take.here hl (Nat.zero_le _) (Nat.min_le_right _ _) hc
   ·exact src_cl (Take.there Take.here) rfl
   ·exact src_cut Take.here hl (Nat.min_le_right _ _) (Nat.le_refl _) hc
  ·intro s hs
   simp only [List.mem_cons, List.not_mem_nil, or_false] at hs
   rcases hs with rfl | rfl | rfl
   ·exact all_sub hx _ _
   ·simp [hx1]
   ·exact all_sub hx _ _
  ·show (cat _ 3).length < _
   rw [ec]
   have := laidL_len xs at' gone [x]
   simp only [List.length_cons, List.length_nil] at this
   omega
 refine does_of Tryz.func126 Tryz.ntmps126 rfl rfl rfl (fun w0 F0 => ?_)
 (repeat' (first|refine g_seq (h:=?_)|refine g_region (h:=?_)|refine l_nil (h:=?_)|refine n_then (h:=?_)|refine l_pures1 (h:=?_)))
 (simp only [cond_true, cond_false, mxI_eq, mnI_eq])
 rw [e1]
 (refine g_draw [] (h := a_pass2 (h:=?_)))
 (simp only [cond_true, cond_false, mxI_eq, mnI_eq])
 rw [e2]
 (repeat' (first|refine l_nil (h:=?_)|refine a_one (h:=?_)|refine n_any (h := a_pass2 (h:=?_))|refine a_v (h:=?_)|refine l_slice_any (h:=?_)|(refine l_buildSlice3 (h:=?_); intro _)))
 rename_i sb
 rw [show (((min at' m : Nat) : Int)).toNat = min at' m from Int.toNat_natCast _, show (((min (min at' m + gone) m : Nat) : Int)).toNat = min (min at' m + gone) m from Int.toNat_natCast _, show (((m : Nat) : Int)).toNat = m from Int.toNat_natCast _]
 (repeat' (first|refine l_nil (h:=?_)|refine n_then (h:=?_)|(refine l_at 143 ?_; refine l_call_ (hcat sb) ?_; rintro _ _ _ ⟨p', c', rfl, rfl⟩ he; cases he)|refine g_ret (h:=?_)|refine a_done (h:=?_)|refine n_any (h := a_pass2 (h:=?_))))
 refine r_retk [vec 9 1 p' (laidL xs at' gone [x]).length c' (laidL xs at' gone [x]), vec 9 1 p m c xs] ?_
 exact ⟨_, _, rfl, rfl⟩
set_option maxHeartbeats 1000000 in
theorem laidS_none (xs : List Value) (p : Option Addr) (m c at' gone : Nat) (hx : xs.all (·.oneCell') = true) (hm : m < 100000) (h1 : at' < 100000) (h2 : gone < 100000) :
  Does Tryz.prog 126 [.slice p m c, .int .i64 at', .int .i64 gone, .slice none 0 0] [vec 9 1 p m c xs]
   (fun v H => ∃ p' c', v = .slice p' (laidL xs at' gone []).length c' ∧ H = [vec 9 1 p' (laidL xs at' gone []).length c' (laidL xs at' gone []), vec 9 1 p m c xs]) := by
 refine does_le Take.here (fun hc hl => ?_)
 rw [Nat.mul_one] at hl
 have e1 : min (at' : Int) (m : Int) = ((min at' m : Nat) : Int) := by omega
 have e2 : min (IntKind.i64.wrap (((min at' m : Nat) : Int) + (gone : Int))) (m : Int) = ((min (min at' m + gone) m : Nat) : Int) := by rw [wrapI64 (by omega)]; omega
 have hcat : ∀ sb, Does Tryz.prog 143 [.slice (some ⟨sb, 0, none⟩) 3 3] [cl sb 22 [.slice (sliceP p (Int.toNat 0) 1 c) (min at' m - Int.toNat 0) (c - Int.toNat 0), .slice none 0 0, .slice (sliceP p (min (min at' m + gone) m) 1 c) (m - min (min at' m + gone) m) (c - min (min at' m + gone) m)], vec 9 1 p m c xs]
   (fun v H => ∃ p' c', v = .slice p' (laidL xs at' gone []).length c' ∧ H = [vec 9 1 p' (laidL xs at' gone []).length c' (laidL xs at' gone []), cl sb 22 [.slice (sliceP p (Int.toNat 0) 1 c) (min at' m - Int.toNat 0) (c - Int.toNat 0), .slice none 0 0, .slice (sliceP p (min (min at' m + gone) m) 1 c) (m - min (min at' m + gone) m) (c - min (min at' m + gone) m)], vec 9 1 p m c xs]) := fun sb => by
  have ec : cat [(.slice (sliceP p (Int.toNat 0) 1 c) (min at' m - Int.toNat 0) (c - Int.toNat 0), (xs.drop (Int.toNat 0)).take (min at' m - Int.toNat 0)), (.slice none 0 0, []), (.slice (sliceP p (min (min at' m + gone) m) 1 c) (m - min (min at' m + gone) m) (c - min (min at' m + gone) m), (xs.drop (min (min at' m + gone) m)).take (m - min (min at' m + gone) m))] 3 = laidL xs at' gone [] := laid_cat _ _ _ hl
  have := ConcatS_does [(.slice (sliceP p (Int.toNat 0) 1 c) (min at' m - Int.toNat 0) (c - Int.toNat 0), (xs.drop (Int.toNat 0)).take (min at' m - Int.toNat 0)), (.slice none 0 0, []), (.slice (sliceP p (min (min at' m + gone) m) 1 c) (m - min (min at' m + gone) m) (c - min (min at' m + gone) m), (xs.drop (min (min at' m + gone) m)).take (m - min (min at' m + gone) m))] [vec 9 1 p m c xs] sb 3 ?_ ?_ ?_ (by simp)
  ·simp only [List.length_cons, List.length_nil, Nat.zero_add, Nat.reduceAdd, ec] at this
   exact this
  ·intro s hs
   simp only [List.mem_cons, List.not_mem_nil, or_false] at hs
   rcases hs with rfl | rfl | rfl
   ·exact src_cut Take.here hl (Nat.zero_le _) (Nat.min_le_right _ _) hc
   ·exact src_none _
   ·exact src_cut Take.here hl (Nat.min_le_right _ _) (Nat.le_refl _) hc
  ·intro s hs
   simp only [List.mem_cons, List.not_mem_nil, or_false] at hs
   rcases hs with rfl | rfl | rfl
   ·exact all_sub hx _ _
   ·rfl
   ·exact all_sub hx _ _
  ·show (cat _ 3).length < _
   rw [ec]
   have := laidL_len xs at' gone []
   simp only [List.length_cons, List.length_nil] at this
   omega
 refine does_of Tryz.func126 Tryz.ntmps126 rfl rfl rfl (fun w0 F0 => ?_)
 (repeat' (first|refine g_seq (h:=?_)|refine g_region (h:=?_)|refine l_nil (h:=?_)|refine n_then (h:=?_)|refine l_pures1 (h:=?_)))
 (simp only [cond_true, cond_false, mxI_eq, mnI_eq])
 rw [e1]
 (refine g_draw [] (h := a_pass2 (h:=?_)))
 (simp only [cond_true, cond_false, mxI_eq, mnI_eq])
 rw [e2]
 (repeat' (first|refine l_nil (h:=?_)|refine a_one (h:=?_)|refine n_any (h := a_pass2 (h:=?_))|refine a_v (h:=?_)|refine l_slice_any (h:=?_)|(refine l_buildSlice3 (h:=?_); intro _)))
 rename_i sb
 rw [show (((min at' m : Nat) : Int)).toNat = min at' m from Int.toNat_natCast _, show (((min (min at' m + gone) m : Nat) : Int)).toNat = min (min at' m + gone) m from Int.toNat_natCast _, show (((m : Nat) : Int)).toNat = m from Int.toNat_natCast _]
 (repeat' (first|refine l_nil (h:=?_)|refine n_then (h:=?_)|(refine l_at 143 ?_; refine l_call_ (hcat sb) ?_; rintro _ _ _ ⟨p', c', rfl, rfl⟩ he; cases he)|refine g_ret (h:=?_)|refine a_done (h:=?_)|refine n_any (h := a_pass2 (h:=?_))))
 refine r_retk [vec 9 1 p' (laidL xs at' gone []).length c' (laidL xs at' gone []), vec 9 1 p m c xs] ?_
 exact ⟨_, _, rfl, rfl⟩
theorem GrowI_does (n : Nat) (hn : n < 1000000) : Does Tryz.prog 157 [.slice none 0 0, .int .i64 n] [] (fun v H => ∃ p c, v = .slice p 0 c ∧ H = [vec 3 1 p 0 c []]) := by
 refine does_of Tryz.func157 Tryz.ntmps157 rfl rfl rfl (fun w0 F0 => ?_)
 have e1 : IntKind.i64.wrap ((n : Int) - IntKind.i64.wrap (((0 : Nat) : Int) - ((0 : Nat) : Int))) = n := by rw [wrapI64 (n := ((0 : Nat) : Int) - ((0 : Nat) : Int)) (by omega), wrapI64 (by omega)]; omega
 (repeat' (first|refine g_seq (h:=?_)|refine g_region (h:=?_)|refine l_nil (h:=?_)|refine n_then (h:=?_)|refine l_pures1 (h:=?_)|refine l_slice (h:=?_)|refine g_skip (h:=?_)|refine g_ret (h:=?_)|refine g_cond_f (h:=?_)|(refine l_append_zeros (h:=?_); intro _ _ _)|refine l_slice_any (h:=?_)|(refine g_sp (h1 := ?_) (h0 := ?_) <;> intro h)))
 ·rw [e1] at *
  (repeat' fail)
  rename_i g c hc
  refine r_ret ?_
  exact ⟨_, _, rfl, rfl⟩
 ·refine n_inv (fun i => vec_nil (3) (1) i) ?_
  refine r_ret ?_
  exact ⟨_, _, rfl, rfl⟩
set_option maxHeartbeats 1000000 in
theorem ConcatI_does (ss : List (Value × List Value)) (R : List SProp) (sb c : Nat) (hs : ∀ s ∈ ss, Src R s.1 s.2) (h1 : ∀ s ∈ ss, s.2.all (·.oneCell') = true) (hc : (cat ss ss.length).length < 1000000) (hn : ss.length < 1000) :
  Does Tryz.prog 146 [.slice (some ⟨sb, 0, none⟩) ss.length c] (cl sb 44 (ss.map Prod.fst) :: R)
   (fun v H => ∃ p c', v = .slice p (cat ss ss.length).length c' ∧ H = vec 3 1 p (cat ss ss.length).length c' (cat ss ss.length) :: cl sb 44 (ss.map Prod.fst) :: R) := by
 refine does_of Tryz.func146 Tryz.ntmps146 rfl rfl rfl (fun w0 F0 => ?_)
 (repeat' (first|refine g_seq (h:=?_)|refine g_region (h:=?_)|refine l_nil (h:=?_)|refine n_then (h:=?_)|refine l_pures1 (h:=?_)|refine g_block (h:=?_)))
 (refine g_loop (fun k : Nat => [(3, .int .i64 (cat ss k).length), (11, .int .i64 k), (10, .int .i64 ss.length), (9, .slice (some ⟨sb, 0, none⟩) ss.length c), (0, .slice (some ⟨sb, 0, none⟩) ss.length c)]) (fun _ => cl sb 44 (ss.map Prod.fst) :: R) (fun k => k ≤ ss.length) (fun k => ss.length - k) (0) ?_ ?_ ?_ ?_; rotate_left; (repeat (first | refine ts_nil | (refine ts_cons rfl ?_ ?_; first | (with_reducible rfl) | rotate_left))); (first | (intro _ i; with_reducible refine i) | rotate_left); rotate_left; (try omega); rotate_right)
 ·intro k hk
  (repeat' (first|refine g_seq (h:=?_)|refine g_region (h:=?_)|refine l_nil (h:=?_)|refine n_then (h:=?_)|refine l_pures1 (h:=?_)|refine l_indexAddr (h:=?_)|refine g_skip (h:=?_)|refine g_block (h:=?_)|refine g_exit (h:=?_)|refine n_then_exit (h:=?_)|refine n_block_hit (h:=?_)|(refine g_sp (h1 := ?_) (h0 := ?_) <;> intro h)))
  ·have hlt : k < ss.length := by omega
   obtain ⟨p, m, c', xs, g1, g2, g3, g4⟩ := srcs_get hs hlt
   have hg : (ss.map Prod.fst)[0 + ((k : Nat) : Int).toNat * 1]? = some (.slice p m c') := by rw [Nat.zero_add, Nat.mul_one, Int.toNat_natCast]; exact g4
   have e1 := cat_succ g1
   have e2 := cat_le ss (k + 1)
   have e3 : (cat ss (k + 1)).length = (cat ss k).length + m := by rw [e1, List.length_append, g2]
   have e4 : IntKind.i64.wrap (((cat ss k).length : Int) + (m : Int)) = ((cat ss (k + 1)).length : Int) := by rw [wrapI64 (by omega), e3]; omega
   (repeat' (first|refine g_seq (h:=?_)|refine g_region (h:=?_)|refine l_nil (h:=?_)|refine n_then (h:=?_)|refine l_pures1 (h:=?_)|refine l_load_at (h:=?_)|refine g_skip (h:=?_)|refine n_block (h:=?_)|(refine g_spF (h:=?_); intro h)))
   (refine n_back (k + 1) ?_ ?_ ?_ ?_; rotate_left; rotate_left; (repeat (first | refine ts_nil | (refine ts_cons rfl ?_ ?_; first | (with_reducible rfl) | rotate_left))); (first | (intro _ i; with_reducible refine i) | rotate_left); (try omega); (try omega))
   ·rw [e4]
   ·rw [wrapI64 (by omega)]; rfl
  ·obtain rfl : k = ss.length := by omega
   (repeat' (first|refine g_seq (h:=?_)|refine g_region (h:=?_)|refine l_nil (h:=?_)|refine n_then (h:=?_)|refine l_pures1 (h:=?_)|(refine l_at 157 ?_; refine l_call_ (GrowI_does (cat ss ss.length).length hc) ?_; rintro _ _ _ ⟨p, c', rfl, rfl⟩ he; cases he)|refine g_block (h:=?_)))
   (refine g_loop (fun y : Nat × Option Addr × Nat => [(6, .slice y.2.1 (cat ss y.1).length y.2.2), (27, .int .i64 y.1), (26, .int .i64 ss.length), (25, .slice (some ⟨sb, 0, none⟩) ss.length c)]) (fun y => vec 3 1 y.2.1 (cat ss y.1).length y.2.2 (cat ss y.1) :: cl sb 44 (ss.map Prod.fst) :: R) (fun y => y.1 ≤ ss.length) (fun y => ss.length - y.1) ((0, p, c')) ?_ ?_ ?_ ?_; rotate_left; (repeat (first | refine ts_nil | (refine ts_cons rfl ?_ ?_; first | (with_reducible rfl) | rotate_left))); (first | (intro _ i; with_reducible refine i) | rotate_left); rotate_left; (try omega); rotate_right)
   ·rintro ⟨k, p, c'⟩ hk
    dsimp only at hk
    (repeat' (first|refine g_seq (h:=?_)|refine g_region (h:=?_)|refine l_nil (h:=?_)|refine n_then (h:=?_)|refine l_pures1 (h:=?_)|refine l_indexAddr (h:=?_)|refine g_skip (h:=?_)|refine g_ret (h:=?_)|refine g_block (h:=?_)|refine g_exit (h:=?_)|refine n_then_exit (h:=?_)|refine n_block_hit (h:=?_)|(refine g_sp (h1 := ?_) (h0 := ?_) <;> intro h)))
    ·have hlt : k < ss.length := by omega
     obtain ⟨q, m, c2, xs, g1, g2, g3, g4⟩ := srcs_get hs hlt
     have hg : (ss.map Prod.fst)[0 + ((k : Nat) : Int).toNat * 1]? = some (.slice q m c2) := by rw [Nat.zero_add, Nat.mul_one, Int.toNat_natCast]; exact g4
     have e1 := cat_succ g1
     have e2 := cat_le ss (k + 1)
     have e3 : (cat ss (k + 1)).length = (cat ss k).length + m := by rw [e1, List.length_append, g2]
     have h2 : xs.all (·.oneCell') = true := h1 _ (List.mem_of_getElem? g1)
     (repeat' (first|refine g_region (h:=?_)|refine l_nil (h:=?_)|refine n_then (h:=?_)|refine l_pures1 (h:=?_)|refine l_load_at (h:=?_)))
     refine l_append_src env_ok rfl rfl rfl rfl rfl rfl Take.here g3.cons h2 (by dsimp only; constructor <;> omega) ?_
     intro p2 c3
     (repeat' (first|refine g_region (h:=?_)|refine l_nil (h:=?_)|refine n_then (h:=?_)|refine l_pures1 (h:=?_)|refine n_block (h:=?_)))
     (refine n_back ((k + 1, p2, c3)) ?_ ?_ ?_ ?_; rotate_left; rotate_left; (repeat (first | refine ts_nil | (refine ts_cons rfl ?_ ?_; first | (with_reducible rfl) | rotate_left))); (first | (intro _ i; with_reducible refine i) | rotate_left); (try omega); (try omega))
     ·dsimp only; rw [e3]
     ·rw [wrapI64 (by omega)]; rfl
     ·intro w i; dsimp only; rw [e3, e1]; exact i
    ·obtain rfl : k = ss.length := by omega
     (repeat' fail)
     refine r_ret ?_
     exact ⟨_, _, rfl, rfl⟩
   ·simp [cat_zero]
   ·rfl
   ·intro w i; dsimp only; rw [cat_zero]; exact i
 ·rw [cat_zero]; rfl
 ·rfl
set_option maxHeartbeats 1000000 in
theorem laidI_one (xs : List Value) (p : Option Addr) (m c at' gone mb mc : Nat) (x : Value) (hx : xs.all (·.oneCell') = true) (hx1 : x.oneCell' = true) (hm : m < 100000) (h1 : at' < 100000) (h2 : gone < 100000) :
  Does Tryz.prog 134 [.slice p m c, .int .i64 at', .int .i64 gone, .slice (some ⟨mb, 0, none⟩) 1 mc] [vec 3 1 p m c xs, cl mb 3 [x]]
   (fun v H => ∃ p' c', v = .slice p' (laidL xs at' gone [x]).length c' ∧ H = [vec 3 1 p' (laidL xs at' gone [x]).length c' (laidL xs at' gone [x]), vec 3 1 p m c xs]) := by
 refine does_le Take.here (fun hc hl => ?_)
 rw [Nat.mul_one] at hl
 have e1 : min (at' : Int) (m : Int) = ((min at' m : Nat) : Int) := by omega
 have e2 : min (IntKind.i64.wrap (((min at' m : Nat) : Int) + (gone : Int))) (m : Int) = ((min (min at' m + gone) m : Nat) : Int) := by rw [wrapI64 (by omega)]; omega
 have hcat : ∀ sb, Does Tryz.prog 146 [.slice (some ⟨sb, 0, none⟩) 3 3] [cl sb 44 [.slice (sliceP p (Int.toNat 0) 1 c) (min at' m - Int.toNat 0) (c - Int.toNat 0), .slice (some ⟨mb, 0, none⟩) 1 mc, .slice (sliceP p (min (min at' m + gone) m) 1 c) (m - min (min at' m + gone) m) (c - min (min at' m + gone) m)], vec 3 1 p m c xs, cl mb 3 [x]]
   (fun v H => ∃ p' c', v = .slice p' (laidL xs at' gone [x]).length c' ∧ H = [vec 3 1 p' (laidL xs at' gone [x]).length c' (laidL xs at' gone [x]), cl sb 44 [.slice (sliceP p (Int.toNat 0) 1 c) (min at' m - Int.toNat 0) (c - Int.toNat 0), .slice (some ⟨mb, 0, none⟩) 1 mc, .slice (sliceP p (min (min at' m + gone) m) 1 c) (m - min (min at' m + gone) m) (c - min (min at' m + gone) m)], vec 3 1 p m c xs, cl mb 3 [x]]) := fun sb => by
  have ec : cat [(.slice (sliceP p (Int.toNat 0) 1 c) (min at' m - Int.toNat 0) (c - Int.toNat 0), (xs.drop (Int.toNat 0)).take (min at' m - Int.toNat 0)), (.slice (some ⟨mb, 0, none⟩) 1 mc, [x]), (.slice (sliceP p (min (min at' m + gone) m) 1 c) (m - min (min at' m + gone) m) (c - min (min at' m + gone) m), (xs.drop (min (min at' m + gone) m)).take (m - min (min at' m + gone) m))] 3 = laidL xs at' gone [x] := laid_cat _ _ _ hl
  have := ConcatI_does [(.slice (sliceP p (Int.toNat 0) 1 c) (min at' m - Int.toNat 0) (c - Int.toNat 0), (xs.drop (Int.toNat 0)).take (min at' m - Int.toNat 0)), (.slice (some ⟨mb, 0, none⟩) 1 mc, [x]), (.slice (sliceP p (min (min at' m + gone) m) 1 c) (m - min (min at' m + gone) m) (c - min (min at' m + gone) m), (xs.drop (min (min at' m + gone) m)).take (m - min (min at' m + gone) m))] [vec 3 1 p m c xs, cl mb 3 [x]] sb 3 ?_ ?_ ?_ (by simp)
  ·simp only [List.length_cons, List.length_nil, Nat.zero_add, Nat.reduceAdd, ec] at this
   exact this
  ·intro s hs
   simp only [List.mem_cons, List.not_mem_nil, or_false] at hs
   rcases hs with rfl | rfl | rfl
   ·exact src_cut Take.here hl (Nat.zero_le _) (Nat.min_le_right _ _) hc
   ·exact src_cl (Take.there Take.here) rfl
   ·exact src_cut Take.here hl (Nat.min_le_right _ _) (Nat.le_refl _) hc
  ·intro s hs
   simp only [List.mem_cons, List.not_mem_nil, or_false] at hs
   rcases hs with rfl | rfl | rfl
   ·exact all_sub hx _ _
   ·simp [hx1]
   ·exact all_sub hx _ _
  ·show (cat _ 3).length < _
   rw [ec]
   have := laidL_len xs at' gone [x]
   simp only [List.length_cons, List.length_nil] at this
   omega
 refine does_of Tryz.func134 Tryz.ntmps134 rfl rfl rfl (fun w0 F0 => ?_)
 (repeat' (first|refine g_seq (h:=?_)|refine g_region (h:=?_)|refine l_nil (h:=?_)|refine n_then (h:=?_)|refine l_pures1 (h:=?_)))
 (simp only [cond_true, cond_false, mxI_eq, mnI_eq])
 rw [e1]
 (refine g_draw [] (h := a_pass2 (h:=?_)))
 (simp only [cond_true, cond_false, mxI_eq, mnI_eq])
 rw [e2]
 (repeat' (first|refine l_nil (h:=?_)|refine a_one (h:=?_)|refine n_any (h := a_pass2 (h:=?_))|refine a_v (h:=?_)|refine l_slice_any (h:=?_)|(refine l_buildSlice3 (h:=?_); intro _)))
 rename_i sb
 rw [show (((min at' m : Nat) : Int)).toNat = min at' m from Int.toNat_natCast _, show (((min (min at' m + gone) m : Nat) : Int)).toNat = min (min at' m + gone) m from Int.toNat_natCast _, show (((m : Nat) : Int)).toNat = m from Int.toNat_natCast _]
 (repeat' (first|refine l_nil (h:=?_)|refine n_then (h:=?_)|(refine l_at 146 ?_; refine l_call_ (hcat sb) ?_; rintro _ _ _ ⟨p', c', rfl, rfl⟩ he; cases he)|refine g_ret (h:=?_)|refine a_done (h:=?_)|refine n_any (h := a_pass2 (h:=?_))))
 refine r_retk [vec 3 1 p' (laidL xs at' gone [x]).length c' (laidL xs at' gone [x]), vec 3 1 p m c xs] ?_
 exact ⟨_, _, rfl, rfl⟩
set_option maxHeartbeats 1000000 in
theorem laidI_none (xs : List Value) (p : Option Addr) (m c at' gone : Nat) (hx : xs.all (·.oneCell') = true) (hm : m < 100000) (h1 : at' < 100000) (h2 : gone < 100000) :
  Does Tryz.prog 134 [.slice p m c, .int .i64 at', .int .i64 gone, .slice none 0 0] [vec 3 1 p m c xs]
   (fun v H => ∃ p' c', v = .slice p' (laidL xs at' gone []).length c' ∧ H = [vec 3 1 p' (laidL xs at' gone []).length c' (laidL xs at' gone []), vec 3 1 p m c xs]) := by
 refine does_le Take.here (fun hc hl => ?_)
 rw [Nat.mul_one] at hl
 have e1 : min (at' : Int) (m : Int) = ((min at' m : Nat) : Int) := by omega
 have e2 : min (IntKind.i64.wrap (((min at' m : Nat) : Int) + (gone : Int))) (m : Int) = ((min (min at' m + gone) m : Nat) : Int) := by rw [wrapI64 (by omega)]; omega
 have hcat : ∀ sb, Does Tryz.prog 146 [.slice (some ⟨sb, 0, none⟩) 3 3] [cl sb 44 [.slice (sliceP p (Int.toNat 0) 1 c) (min at' m - Int.toNat 0) (c - Int.toNat 0), .slice none 0 0, .slice (sliceP p (min (min at' m + gone) m) 1 c) (m - min (min at' m + gone) m) (c - min (min at' m + gone) m)], vec 3 1 p m c xs]
   (fun v H => ∃ p' c', v = .slice p' (laidL xs at' gone []).length c' ∧ H = [vec 3 1 p' (laidL xs at' gone []).length c' (laidL xs at' gone []), cl sb 44 [.slice (sliceP p (Int.toNat 0) 1 c) (min at' m - Int.toNat 0) (c - Int.toNat 0), .slice none 0 0, .slice (sliceP p (min (min at' m + gone) m) 1 c) (m - min (min at' m + gone) m) (c - min (min at' m + gone) m)], vec 3 1 p m c xs]) := fun sb => by
  have ec : cat [(.slice (sliceP p (Int.toNat 0) 1 c) (min at' m - Int.toNat 0) (c - Int.toNat 0), (xs.drop (Int.toNat 0)).take (min at' m - Int.toNat 0)), (.slice none 0 0, []), (.slice (sliceP p (min (min at' m + gone) m) 1 c) (m - min (min at' m + gone) m) (c - min (min at' m + gone) m), (xs.drop (min (min at' m + gone) m)).take (m - min (min at' m + gone) m))] 3 = laidL xs at' gone [] := laid_cat _ _ _ hl
  have := ConcatI_does [(.slice (sliceP p (Int.toNat 0) 1 c) (min at' m - Int.toNat 0) (c - Int.toNat 0), (xs.drop (Int.toNat 0)).take (min at' m - Int.toNat 0)), (.slice none 0 0, []), (.slice (sliceP p (min (min at' m + gone) m) 1 c) (m - min (min at' m + gone) m) (c - min (min at' m + gone) m), (xs.drop (min (min at' m + gone) m)).take (m - min (min at' m + gone) m))] [vec 3 1 p m c xs] sb 3 ?_ ?_ ?_ (by simp)
  ·simp only [List.length_cons, List.length_nil, Nat.zero_add, Nat.reduceAdd, ec] at this
   exact this
  ·intro s hs
   simp only [List.mem_cons, List.not_mem_nil, or_false] at hs
   rcases hs with rfl | rfl | rfl
   ·exact src_cut Take.here hl (Nat.zero_le _) (Nat.min_le_right _ _) hc
   ·exact src_none _
   ·exact src_cut Take.here hl (Nat.min_le_right _ _) (Nat.le_refl _) hc
  ·intro s hs
   simp only [List.mem_cons, List.not_mem_nil, or_false] at hs
   rcases hs with rfl | rfl | rfl
   ·exact all_sub hx _ _
   ·rfl
   ·exact all_sub hx _ _
  ·show (cat _ 3).length < _
   rw [ec]
   have := laidL_len xs at' gone []
   simp only [List.length_cons, List.length_nil] at this
   omega
 refine does_of Tryz.func134 Tryz.ntmps134 rfl rfl rfl (fun w0 F0 => ?_)
 (repeat' (first|refine g_seq (h:=?_)|refine g_region (h:=?_)|refine l_nil (h:=?_)|refine n_then (h:=?_)|refine l_pures1 (h:=?_)))
 (simp only [cond_true, cond_false, mxI_eq, mnI_eq])
 rw [e1]
 (refine g_draw [] (h := a_pass2 (h:=?_)))
 (simp only [cond_true, cond_false, mxI_eq, mnI_eq])
 rw [e2]
 (repeat' (first|refine l_nil (h:=?_)|refine a_one (h:=?_)|refine n_any (h := a_pass2 (h:=?_))|refine a_v (h:=?_)|refine l_slice_any (h:=?_)|(refine l_buildSlice3 (h:=?_); intro _)))
 rename_i sb
 rw [show (((min at' m : Nat) : Int)).toNat = min at' m from Int.toNat_natCast _, show (((min (min at' m + gone) m : Nat) : Int)).toNat = min (min at' m + gone) m from Int.toNat_natCast _, show (((m : Nat) : Int)).toNat = m from Int.toNat_natCast _]
 (repeat' (first|refine l_nil (h:=?_)|refine n_then (h:=?_)|(refine l_at 146 ?_; refine l_call_ (hcat sb) ?_; rintro _ _ _ ⟨p', c', rfl, rfl⟩ he; cases he)|refine g_ret (h:=?_)|refine a_done (h:=?_)|refine n_any (h := a_pass2 (h:=?_))))
 refine r_retk [vec 3 1 p' (laidL xs at' gone []).length c' (laidL xs at' gone []), vec 3 1 p m c xs] ?_
 exact ⟨_, _, rfl, rfl⟩
end Go.Proofs.YtelfjhemnnbbpaaGreat
namespace Go.Proofs.YtelfjhemnnbbpaaGreat
open Go.Proofs.YtelfjhemnnbbpaaGreat.SL
structure Dk where
 now : List (List UInt8)
 was : List (Int × List UInt8)
 order : List Int
 fuse : Int
 gone : Bool
def encS (l : List UInt8) : Value := .string (str l)
def encZ' (i : Int) : Value := .int .i64 i
structure Dk.ok (D : Dk) : Prop where
 n : D.now.length ≤ 640
 f : -1 ≤ D.fuse ∧ D.fuse < 9223372036854775808
 o : D.order.length ≤ D.now.length ∧ D.order.Nodup ∧ (∀ i ∈ D.order, 0 ≤ i ∧ i < D.now.length) ∧ D.was.map Prod.fst = D.order
 s : (∀ x ∈ D.now, x.length = 256) ∧ ∀ p ∈ D.was, p.2.length = 256
def DiskK (b : Nat) (D : Dk) (x : Nat × Nat × Nat × (Option Addr × Nat) × List Value) : List SProp :=
 [cl b 102 [.slice (some ⟨x.1, 0, none⟩) D.now.length x.2.1, .map (some x.2.2.1), .slice x.2.2.2.1.1 D.order.length x.2.2.2.1.2, .int .i64 D.fuse, .bool D.gone], cl x.1 9 (D.now.map encS ++ x.2.2.2.2), mp x.2.2.1 encS D.was,
  vec 3 1 x.2.2.2.1.1 D.order.length x.2.2.2.1.2 (D.order.map encZ')]
def DiskP (D : Dk) (x : Nat × Nat × Nat × (Option Addr × Nat) × List Value) : Prop := D.ok ∧ D.now.length ≤ x.2.1 ∧ x.2.1 ≤ 9223372036854775807
def Disk (b : Nat) (D : Dk) : SProp := hid (DiskP D) (DiskK b D)
theorem set_all {α : Type} {p : α → Prop} {l : List α} {i : Nat} {s : α} (h : ∀ x ∈ l, p x) (hs : p s) : ∀ x ∈ l.set i s, p x := fun x hx => (List.mem_or_eq_of_mem_set hx).elim (h x) (fun e => e ▸ hs)
theorem getD_all {α : Type} {p : α → Prop} {l : List α} {i : Nat} {z : α} (h : ∀ x ∈ l, p x) (hi : i < l.length) : p (l.getD i z) := by
 rw [List.getD, List.getElem?_eq_getElem hi]; exact h _ (List.getElem_mem _)
theorem Size_does (b : Nat) (D : Dk) : Does Tryz.prog 158 [.pointer (some ⟨b, 0, none⟩)] [Disk b D] (fun v H => v = .int .i64 D.now.length ∧ H = [Disk b D]) := by
 refine does_of Tryz.func158 Tryz.ntmps158 rfl rfl rfl (fun w0 F0 => ?_)
 refine g_open (A := Disk b D) (h:=?_); (rintro ⟨bn, c, bm, ⟨po, co⟩, rest⟩ ⟨ok, hc, hc2⟩; dsimp only [DiskK, List.cons_append, List.nil_append])
 (repeat (first|refine g_seq (h:=?_)|refine g_region (h:=?_)|refine l_nil (h:=?_)|refine n_then (h:=?_)|refine l_pures1 (h:=?_)|refine l_load (h:=?_)|refine g_ret (h:=?_)))
 (refine n_shut (A := Disk b D) (K := DiskK b D ((bn, c, bm, (po, co), rest))) (hid_shuts ((bn, c, bm, (po, co), rest)) ⟨ok, hc, hc2⟩) (h:=?_) (p := by dsimp only [DiskK]; (try simp only [List.map_nil, List.length_nil, List.length_set, List.length_append, List.length_cons, List.length_singleton, List.map_append, List.map_cons, Nat.zero_add]); exact parts_of))
 refine r_ret ?_
 exact ⟨rfl, rfl⟩
def Dk.may (D : Dk) (n : Int) : Int := if D.gone then 5 else if n < 0 ∨ n ≥ D.now.length then 1 else 0
theorem may_does (b : Nat) (D : Dk) (n : Int) : Does Tryz.prog 137 [.pointer (some ⟨b, 0, none⟩), .int .i64 n] [Disk b D] (fun v H => v = .int .i64 (D.may n) ∧ H = [Disk b D]) := by
 refine does_of Tryz.func137 Tryz.ntmps137 rfl rfl rfl (fun w0 F0 => ?_)
 refine g_open (A := Disk b D) (h:=?_); (rintro ⟨bn, c, bm, ⟨po, co⟩, rest⟩ ⟨ok, hc, hc2⟩; dsimp only [DiskK, List.cons_append, List.nil_append])
 (repeat' (first|refine g_seq (h:=?_)|refine g_region (h:=?_)|refine l_nil (h:=?_)|refine n_then (h:=?_)|refine l_pures1 (h:=?_)|refine l_guard_yes (h:=?_)|refine l_guard_no (h:=?_)|refine l_load (h:=?_)|refine g_skip (h:=?_)|refine g_ret (h:=?_)|refine n_then_ret (h:=?_)|refine n_block_ret (h:=?_)|refine g_block (h:=?_)|refine n_block (h:=?_)|refine g_cond_t (h:=?_)|(refine l_sp (h1 := ?_) (h0 := ?_) <;> intro h)|(refine g_sp (h1 := ?_) (h0 := ?_) <;> intro h)))
 all_goals (have hc : D.now.length ≤ c := hc)
 all_goals
  (refine n_shut (A := Disk b D) (K := DiskK b D ((bn, c, bm, (po, co), rest))) (hid_shuts ((bn, c, bm, (po, co), rest)) ⟨ok, hc, hc2⟩) (h:=?_) (p := by dsimp only [DiskK]; (try simp only [List.map_nil, List.length_nil, List.length_set, List.length_append, List.length_cons, List.length_singleton, List.map_append, List.map_cons, Nat.zero_add]); exact parts_of))
 all_goals
  refine r_ret ?_
 all_goals refine ⟨?_, rfl⟩
 ·rw [Dk.may, if_pos (by assumption)]; rfl
 ·rw [Dk.may, if_neg (by simp [*]), if_pos (by omega)]; rfl
 ·rw [Dk.may, if_neg (by simp [*]), if_pos (by omega)]; rfl
 ·rw [Dk.may, if_neg (by simp [*]), if_neg (by omega)]; rfl
theorem Dk.may_0 {D : Dk} {n : Int} (h : D.may n = 0) : D.gone = false ∧ 0 ≤ n ∧ n < D.now.length := by
 unfold Dk.may at h
 cases hg : D.gone <;> simp [hg] at h ⊢
 omega
def Dk.read (D : Dk) (n : Int) : List UInt8 × Int := if D.may n = 0 then (D.now.getD n.toNat [], 0) else ([], D.may n)
theorem encS_get {l : List (List UInt8)} {r : List Value} {j : Nat} (h : j < l.length) : (l.map encS ++ r)[j]? = some (encS (l.getD j [])) := by
 rw [List.getElem?_append_left (by simpa using h), List.getElem?_map, List.getD, List.getElem?_eq_getElem h]; rfl
theorem Read_does (b : Nat) (D : Dk) (n : Int) : Does Tryz.prog 159 [.pointer (some ⟨b, 0, none⟩), .int .i64 n] [Disk b D] (fun v H => v = .tuple #[.string (str (D.read n).1), .int .i64 (D.read n).2] ∧ H = [Disk b D]) := by
 refine does_of Tryz.func159 Tryz.ntmps159 rfl rfl rfl (fun w0 F0 => ?_)
 (repeat' (first|refine g_seq (h:=?_)|refine g_region (h:=?_)|refine l_nil (h:=?_)|refine n_then (h:=?_)|refine l_pures1 (h:=?_)|(refine l_at 137 ?_; refine l_call (may_does b D n) ?_)|refine g_skip (h:=?_)|refine g_ret (h:=?_)|refine n_then_ret (h:=?_)|(refine g_sp (h1 := ?_) (h0 := ?_) <;> intro h)))
 ·refine r_ret ?_
  exact ⟨by rw [Dk.read, if_neg (by assumption)]; rfl, rfl⟩
 ·obtain ⟨h1, h2, h3⟩ := Dk.may_0 h
  refine l_open (A := Disk b D) (h:=?_); (rintro ⟨bn, c, bm, ⟨po, co⟩, rest⟩ ⟨ok, hc, hc2⟩; dsimp only [DiskK, List.cons_append, List.nil_append])
  have hg : (D.now.map encS ++ rest)[0 + n.toNat * 1]? = some (encS (D.now.getD n.toNat [])) := by
   rw [Nat.zero_add, Nat.mul_one]; exact encS_get (by omega)
  (repeat' (first|refine l_nil (h:=?_)|refine n_then (h:=?_)|refine l_pures1 (h:=?_)|refine l_load (h:=?_)|refine l_load_at (h:=?_)|refine l_indexAddr (h:=?_)|refine g_ret (h:=?_)))
  (refine n_shut (A := Disk b D) (K := DiskK b D ((bn, c, bm, (po, co), rest))) (hid_shuts ((bn, c, bm, (po, co), rest)) ⟨ok, hc, hc2⟩) (h:=?_) (p := by dsimp only [DiskK]; (try simp only [List.map_nil, List.length_nil, List.length_set, List.length_append, List.length_cons, List.length_singleton, List.map_append, List.map_cons, Nat.zero_add]); exact parts_of))
  refine r_ret ?_
  exact ⟨by rw [Dk.read, if_pos (by assumption)]; rfl, rfl⟩
theorem does_disk {f : FuncId} {args : List Value} {b : Nat} {D : Dk} {H : List SProp} {q : Value → List SProp → Prop} (h : D.ok → Does Tryz.prog f args (Disk b D :: H) q) : Does Tryz.prog f args (Disk b D :: H) q := by
 intro w F s
 obtain ⟨_, _, ⟨_, ⟨ok, _⟩, _⟩, _⟩ := id s
 exact h ok w F s
def Dk.sync (D : Dk) : Int × Dk := if D.gone then (5, D) else (0, { D with was := [], order := [] })
theorem Sync_does (b : Nat) (D : Dk) : Does Tryz.prog 87 [.pointer (some ⟨b, 0, none⟩)] [Disk b D] (fun v H => v = .int .i64 D.sync.1 ∧ H = [Disk b D.sync.2]) := by
 refine does_of Tryz.func87 Tryz.ntmps87 rfl rfl rfl (fun w0 F0 => ?_)
 refine g_open (A := Disk b D) (h:=?_); (rintro ⟨bn, c, bm, ⟨po, co⟩, rest⟩ ⟨ok, hc, hc2⟩; dsimp only [DiskK, List.cons_append, List.nil_append])
 (repeat' (first|refine g_seq (h:=?_)|refine g_region (h:=?_)|refine l_nil (h:=?_)|refine n_then (h:=?_)|refine l_pures1 (h:=?_)|refine l_load (h:=?_)|refine g_skip (h:=?_)|refine g_ret (h:=?_)|refine n_then_ret (h:=?_)|(refine g_sp (h1 := ?_) (h0 := ?_) <;> intro h)))
 ·(refine n_shut (A := Disk b D) (K := DiskK b D ((bn, c, bm, (po, co), rest))) (hid_shuts ((bn, c, bm, (po, co), rest)) ⟨ok, hc, hc2⟩) (h:=?_) (p := by dsimp only [DiskK]; (try simp only [List.map_nil, List.length_nil, List.length_set, List.length_append, List.length_cons, List.length_singleton, List.map_append, List.map_cons, Nat.zero_add]); exact parts_of))
  refine r_ret ?_
  exact ⟨by rw [Dk.sync, if_pos h]; rfl, by rw [Dk.sync, if_pos h]⟩
 ·(refine l_makeMap (encS) (h:=?_); intro _)
  (repeat (first|refine g_seq (h:=?_)|refine g_region (h:=?_)|refine l_nil (h:=?_)|refine n_then (h:=?_)|refine l_pures1 (h:=?_)|refine l_store (h:=?_)|refine g_ret (h:=?_)))
  rename_i bm'
  refine n_inv (fun i => vec_nil (3) (1) i) ?_
  (refine n_shut (A := Disk b { D with was := [], order := [] }) (K := DiskK b { D with was := [], order := [] } ((bn, c, bm', ((none, 0) : Option Addr × Nat), rest))) (hid_shuts ((bn, c, bm', ((none, 0) : Option Addr × Nat), rest)) ⟨⟨ok.n, ok.f, by simp, ok.s.1, by simp⟩, hc, hc2⟩) (h:=?_) (p := by dsimp only [DiskK]; (try simp only [List.map_nil, List.length_nil, List.length_set, List.length_append, List.length_cons, List.length_singleton, List.map_append, List.map_cons, Nat.zero_add]); exact parts_of))
  refine r_retk [Disk b { D with was := [], order := [] }] ?_
  exact ⟨by rw [Dk.sync, if_neg (by simp [h])]; rfl, by rw [Dk.sync, if_neg (by simp [h])]⟩
theorem kvGet_none_iff {α : Type} : ∀ {l : List (Int × α)} {i : Int}, kvGet l i = none ↔ i ∉ l.map Prod.fst
 | [], i => by simp [kvGet]
 | (j, v) :: l, i => by
  simp only [kvGet, List.map_cons, List.mem_cons, not_or]
  by_cases q : j = i
  ·subst q; simp
  ·rw [if_neg q, kvGet_none_iff]
   exact ⟨fun h => ⟨fun e => q e.symm, h⟩, fun h => h.2⟩
theorem kvPut_none {α : Type} : ∀ {l : List (Int × α)} {i : Int} {x : α}, (kvGet l i).isSome = false → kvPut l i x = l ++ [(i, x)]
 | [], i, x, _ => rfl
 | (j, v) :: l, i, x, h => by
  simp only [kvGet] at h
  by_cases q : j = i
  ·simp [q] at h
  ·rw [if_neg q] at h
   simp [kvPut, q, kvPut_none h]
theorem room_of {l : List Int} {N : Nat} {n : Int} (h1 : l.Nodup) (h2 : ∀ i ∈ l, 0 ≤ i ∧ i < N) (h3 : n ∉ l) (h4 : 0 ≤ n) (h5 : n < N) : l.length < N := by
 have key : ∀ (N : Nat) (l : List Int), l.Nodup → (∀ i ∈ l, 0 ≤ i ∧ i < N) → l.length ≤ N := by
  intro N
  induction N with
  | zero =>
   intro l _ h
   cases l with
   | nil => exact Nat.le_refl _
   | cons a l => have := h a (by simp); omega
  | succ N ih =>
   intro l hn h
   have := ih (l.erase (N : Int)) (hn.erase _) (fun i hi => by
    have hi2 := h i (List.mem_of_mem_erase hi)
    have : i ≠ (N : Int) := fun q => by
     subst q
     exact (hn.not_mem_erase) hi
    omega)
   have h3 := List.length_erase_le (l := l) (a := (N : Int))
   rw [List.length_erase] at this
   split at this <;> omega
 have := key N (n :: l) (List.nodup_cons.2 ⟨h3, h1⟩) (fun i hi => by
  rcases List.mem_cons.1 hi with rfl | hi
  ·exact ⟨h4, h5⟩
  ·exact h2 i hi)
 simp at this
 omega
theorem encS_set {l : List (List UInt8)} {r : List Value} {j : Nat} {s : List UInt8} (h : j < l.length) : (l.map encS ++ r).set (0 + j * 1) (.string (str s)) = (l.set j s).map encS ++ r := by
 rw [Nat.zero_add, Nat.mul_one, List.set_append_left _ _ (by simpa using h), List.map_set]; rfl
def Dk.put (D : Dk) (n : Int) (s : List UInt8) : Dk :=
 { D with fuse := max (-1) (D.fuse - 1), was := if (kvGet D.was n).isSome then D.was else kvPut D.was n (D.now.getD n.toNat []), order := if (kvGet D.was n).isSome then D.order else D.order ++ [n], now := D.now.set n.toNat s }
def Dk.write (D : Dk) (n : Int) (s : List UInt8) : Int × Dk :=
 if D.may n ≠ 0 then (D.may n, D) else if s.length ≠ 256 then (1, D) else if D.fuse = 0 then (5, { D with gone := true }) else (0, D.put n s)
set_option maxHeartbeats 1000000 in
theorem Write_does (b : Nat) (D : Dk) (n : Int) (s : List UInt8) : Does Tryz.prog 115 [.pointer (some ⟨b, 0, none⟩), .int .i64 n, .string (str s)] [Disk b D] (fun v H => v = .int .i64 (D.write n s).1 ∧ H = [Disk b (D.write n s).2]) := by
 refine does_of Tryz.func115 Tryz.ntmps115 rfl rfl rfl (fun w0 F0 => ?_)
 (repeat' (first|refine g_seq (h:=?_)|refine g_region (h:=?_)|refine l_nil (h:=?_)|refine n_then (h:=?_)|refine l_pures1 (h:=?_)|(refine l_at 137 ?_; refine l_call (may_does b D n) ?_)|refine g_skip (h:=?_)|refine g_ret (h:=?_)|refine n_then_ret (h:=?_)|(refine g_sp (h1 := ?_) (h0 := ?_) <;> intro h)))
 ·refine r_ret ?_
  exact ⟨by rw [Dk.write, if_pos (by assumption)]; rfl, by rw [Dk.write, if_pos (by assumption)]⟩
 ·refine r_ret ?_
  exact ⟨by rw [Dk.write, if_neg (by omega), if_pos (by omega)]; rfl, by rw [Dk.write, if_neg (by omega), if_pos (by omega)]⟩
 ·rename_i hm
  obtain ⟨h1, h2, h3⟩ := Dk.may_0 hm
  refine l_open (A := Disk b D) (h:=?_); (rintro ⟨bn, c, bm, ⟨po, co⟩, rest⟩ ⟨ok, hc, hc2⟩; dsimp only [DiskK, List.cons_append, List.nil_append])
  have hf := ok.f
  have hn := ok.n
  obtain ⟨o1, o2, o3, o4⟩ := ok.o
  have hw : IntKind.i64.wrap (D.fuse - 1) = D.fuse - 1 := wrapI64 (by omega)
  have hg : (D.now.map encS ++ rest)[0 + n.toNat * 1]? = some (encS (D.now.getD n.toNat [])) := by
   rw [Nat.zero_add, Nat.mul_one]; exact encS_get (by omega)
  have h256 : ¬ s.length ≠ 256 := by omega
  (repeat' (first|refine g_seq (h:=?_)|refine g_region (h:=?_)|refine l_nil (h:=?_)|refine n_then (h:=?_)|refine l_pures1 (h:=?_)|refine l_load (h:=?_)|refine l_store (h:=?_)|refine l_store_at (h:=?_)|refine l_indexAddr (h:=?_)|refine l_lookup_ok _ (h:=?_)|refine g_skip (h:=?_)|refine g_ret (h:=?_)|refine n_then_ret (h:=?_)|(refine g_sp (h1 := ?_) (h0 := ?_) <;> intro h)))
  ·(refine n_shut (A := Disk b { D with gone := true }) (K := DiskK b { D with gone := true } ((bn, c, bm, (po, co), rest))) (hid_shuts ((bn, c, bm, (po, co), rest)) ⟨⟨ok.n, ok.f, ok.o, ok.s⟩, hc, hc2⟩) (h:=?_) (p := by dsimp only [DiskK]; (try simp only [List.map_nil, List.length_nil, List.length_set, List.length_append, List.length_cons, List.length_singleton, List.map_append, List.map_cons, Nat.zero_add]); exact parts_of))
   refine r_ret ?_
   exact ⟨by rw [Dk.write, if_neg (by omega), if_neg h256, if_pos (by assumption)]; rfl, by rw [Dk.write, if_neg (by omega), if_neg h256, if_pos (by assumption)]⟩
  ·have hk : n ∉ D.order := by
    rw [← o4]; exact kvGet_none_iff.1 (by simpa using h)
   have hlt : D.order.length < D.now.length := room_of o2 o3 hk h2 h3
   (refine g_draw [_] (h := a_pass2 (h:=?_)))
   (repeat' (first|refine g_seq (h:=?_)|refine g_region (h:=?_)|refine l_nil (h:=?_)|refine n_then (h:=?_)|refine l_pures1 (h:=?_)|refine l_load (h:=?_)|refine l_store (h:=?_)|refine l_load_at (h:=?_)|refine l_store_at (h:=?_)|refine l_indexAddr (h:=?_)|refine l_mapUpdate (h:=?_)|(refine l_buildSlice1 (h:=?_); intro _)|(refine l_append_new (h:=?_); intro _ _)|refine g_ret (h:=?_)|refine a_done (h:=?_)|refine a_load (h := a_pass2 (h:=?_))|refine a_one (h:=?_)|refine n_any (h := a_pass2 (h:=?_))))
   rename_i pe ce
   (simp only [cond_true, cond_false, mxI_eq, mnI_eq])
   rw [hw, encS_set (by omega)]
   have ex : D.put n s = { D with fuse := max (-1) (D.fuse - 1), was := kvPut D.was n (D.now.getD n.toNat []), order := D.order ++ [n], now := D.now.set n.toNat s } := by
    simp only [Dk.put, h, Bool.false_eq_true, if_false]
   have ok' : Dk.ok (D.put n s) := by
    rw [ex]
    refine ⟨by simpa using ok.n, ⟨by simp only; omega, by simp only; omega⟩, ⟨by simp; omega, ?_, ?_, ?_⟩, set_all (p := fun x : List UInt8 => x.length = 256) ok.s.1 (by omega), ?_⟩
    ·exact List.nodup_append.2 ⟨o2, by simp, by intro x hx y hy; simp only [List.mem_singleton] at hy; subst hy; exact fun q => hk (q ▸ hx)⟩
    ·intro i hi
     simp only [List.length_set]
     rcases List.mem_append.1 hi with hi | hi
     ·exact o3 i hi
     ·simp only [List.mem_singleton] at hi; subst hi; exact ⟨h2, h3⟩
    ·rw [kvPut_none h, List.map_append, o4]; rfl
    ·rw [kvPut_none h]
     intro p hp
     rcases List.mem_append.1 hp with hp | hp
     ·exact ok.s.2 p hp
     ·simp only [List.mem_singleton] at hp; subst hp
      exact getD_all (p := fun x : List UInt8 => x.length = 256) ok.s.1 (by omega)
   rw [ex] at ok'
   (refine n_shut (A := Disk b { D with fuse := max (-1) (D.fuse - 1), was := kvPut D.was n (D.now.getD n.toNat []), order := D.order ++ [n], now := D.now.set n.toNat s }) (K := DiskK b { D with fuse := max (-1) (D.fuse - 1), was := kvPut D.was n (D.now.getD n.toNat []), order := D.order ++ [n], now := D.now.set n.toNat s } ((bn, c, bm, (pe, ce), rest))) (hid_shuts ((bn, c, bm, (pe, ce), rest)) ⟨ok', by simpa using hc, hc2⟩) (h:=?_) (p := by dsimp only [DiskK]; (try simp only [List.map_nil, List.length_nil, List.length_set, List.length_append, List.length_cons, List.length_singleton, List.map_append, List.map_cons, Nat.zero_add, encZ']); exact parts_of))
   rw [← ex]
   refine r_retk [Disk b (D.put n s)] ?_
   exact ⟨by rw [Dk.write, if_neg (by omega), if_neg h256, if_neg (by assumption)]; rfl, by rw [Dk.write, if_neg (by omega), if_neg h256, if_neg (by assumption)]⟩
  ·(simp only [cond_true, cond_false, mxI_eq, mnI_eq])
   rw [hw, encS_set (by omega)]
   have ex : D.put n s = { D with fuse := max (-1) (D.fuse - 1), now := D.now.set n.toNat s } := by
    simp only [Dk.put, h, if_true]
   (refine n_shut (A := Disk b { D with fuse := max (-1) (D.fuse - 1), now := D.now.set n.toNat s }) (K := DiskK b { D with fuse := max (-1) (D.fuse - 1), now := D.now.set n.toNat s } ((bn, c, bm, (po, co), rest))) (hid_shuts ((bn, c, bm, (po, co), rest)) ⟨⟨by simpa using ok.n, ⟨by simp only; omega, by simp only; omega⟩, by simpa using ok.o, set_all (p := fun x : List UInt8 => x.length = 256) ok.s.1 (by omega), ok.s.2⟩, by simpa using hc, hc2⟩) (h:=?_) (p := by dsimp only [DiskK]; (try simp only [List.map_nil, List.length_nil, List.length_set, List.length_append, List.length_cons, List.length_singleton, List.map_append, List.map_cons, Nat.zero_add]); exact parts_of))
   rw [← ex]
   refine r_ret ?_
   exact ⟨by rw [Dk.write, if_neg (by omega), if_neg h256, if_neg (by assumption)]; rfl, by rw [Dk.write, if_neg (by omega), if_neg h256, if_neg (by assumption)]⟩
end Go.Proofs.YtelfjhemnnbbpaaGreat
namespace Go.Proofs.YtelfjhemnnbbpaaGreat
open Go.Proofs.YtelfjhemnnbbpaaGreat.SL
abbrev Ent := Nat × List UInt8
def Nd.ents (d : Nd) : List Ent := d.keys.zip d.vals
structure Sub where
 es : List Ent
 ps : List Int
def Sub.all (l : List Sub) : List Ent := l.flatMap Sub.es
def Sub.pages (l : List Sub) : List Int := l.flatMap Sub.ps
theorem Sub.all_cons (s : Sub) (l : List Sub) : Sub.all (s :: l) = s.es ++ Sub.all l := by simp [Sub.all]
theorem Sub.all_append (l m : List Sub) : Sub.all (l ++ m) = Sub.all l ++ Sub.all m := by simp [Sub.all]
theorem Sub.pages_cons (s : Sub) (l : List Sub) : Sub.pages (s :: l) = s.ps ++ Sub.pages l := by simp [Sub.pages]
theorem Sub.pages_append (l m : List Sub) : Sub.pages (l ++ m) = Sub.pages l ++ Sub.pages m := by simp [Sub.pages]
def Sep : List Nat → List Sub → Prop
 | [], [_] => True
 | k :: ks, s :: ss => (∀ x ∈ s.es, x.1 < k) ∧ (∀ y ∈ Sub.all ss, k ≤ y.1) ∧ Sep ks ss
 | _, _ => False
def SepL : List Nat → List Sub → Prop
 | [], [] => True
 | k :: ks, s :: ss => (∀ x ∈ s.es, x.1 < k) ∧ (∀ y ∈ Sub.all ss, k ≤ y.1) ∧ SepL ks ss
 | _, _ => False
theorem SepL.len : ∀ {ks : List Nat} {ss : List Sub}, SepL ks ss → ks.length = ss.length
 | [], [], _ => rfl
 | _ :: _, _ :: _, h => by simp [SepL.len h.2.2]
theorem Sep.len : ∀ {ks : List Nat} {ss : List Sub}, Sep ks ss → ss.length = ks.length + 1
 | [], [_], _ => rfl
 | _ :: _, _ :: _, h => by simp [Sep.len h.2.2]
 | [], _ :: _ :: _, h => h.elim
theorem sep_app : ∀ {kl kr : List Nat} {sl sr : List Sub}, kl.length = sl.length → (Sep (kl ++ kr) (sl ++ sr) ↔ SepL kl sl ∧ (∀ k ∈ kl, ∀ y ∈ Sub.all sr, k ≤ y.1) ∧ Sep kr sr)
 | [], kr, [], sr, _ => by simp [SepL]
 | k :: kl, kr, s :: sl, sr, h => by
  have ih := sep_app (kl := kl) (kr := kr) (sl := sl) (sr := sr) (by simpa using h)
  simp only [List.cons_append, Sep, SepL, ih, Sub.all_append, List.mem_append, List.mem_cons]
  constructor
  ·rintro ⟨h1, h2, h3, h4, h5⟩
   refine ⟨⟨h1, fun y hy => h2 y (.inl hy), h3⟩, ?_, h5⟩
   rintro k' (rfl | hk) y hy
   ·exact h2 y (.inr hy)
   ·exact h4 k' hk y hy
  ·rintro ⟨⟨h1, h2, h3⟩, h4, h5⟩
   exact ⟨h1, fun y hy => hy.elim (h2 y) (h4 k (.inl rfl) y), h3, fun k' hk => h4 k' (.inr hk), h5⟩
theorem sepL_app : ∀ {kl kr : List Nat} {sl sr : List Sub}, kl.length = sl.length → (SepL (kl ++ kr) (sl ++ sr) ↔ SepL kl sl ∧ (∀ k ∈ kl, ∀ y ∈ Sub.all sr, k ≤ y.1) ∧ SepL kr sr)
 | [], kr, [], sr, _ => by simp [SepL]
 | k :: kl, kr, s :: sl, sr, h => by
  have ih := sepL_app (kl := kl) (kr := kr) (sl := sl) (sr := sr) (by simpa using h)
  simp only [List.cons_append, SepL, ih, Sub.all_append, List.mem_append, List.mem_cons]
  constructor
  ·rintro ⟨h1, h2, h3, h4, h5⟩
   refine ⟨⟨h1, fun y hy => h2 y (.inl hy), h3⟩, ?_, h5⟩
   rintro k' (rfl | hk) y hy
   ·exact h2 y (.inr hy)
   ·exact h4 k' hk y hy
  ·rintro ⟨⟨h1, h2, h3⟩, h4, h5⟩
   exact ⟨h1, fun y hy => hy.elim (h2 y) (h4 k (.inl rfl) y), h3, fun k' hk => h4 k' (.inr hk), h5⟩
def All2 {α β : Type} (R : α → β → Prop) : List α → List β → Prop
 | [], [] => True
 | a :: l, b :: m => R a b ∧ All2 R l m
 | _, _ => False
theorem all2_nil {α β : Type} {R : α → β → Prop} {m : List β} : All2 R [] m ↔ m = [] := by cases m <;> simp [All2]
theorem all2_cons {α β : Type} {R : α → β → Prop} {a : α} {l : List α} {m : List β} : All2 R (a :: l) m ↔ ∃ b m', m = b :: m' ∧ R a b ∧ All2 R l m' := by
 cases m with
 | nil => simp [All2]
 | cons b m => exact ⟨fun h => ⟨b, m, rfl, h⟩, fun ⟨_, _, e, h⟩ => by cases e; exact h⟩
theorem All2.len {α β : Type} {R : α → β → Prop} : ∀ {l : List α} {m : List β}, All2 R l m → l.length = m.length
 | [], [], _ => rfl
 | _ :: _, _ :: _, h => by simp [All2.len h.2]
theorem All2.append {α β : Type} {R : α → β → Prop} : ∀ {l l' : List α} {m m' : List β}, All2 R l m → All2 R l' m' → All2 R (l ++ l') (m ++ m')
 | [], _, [], _, _, h => h
 | [], _, _ :: _, _, h, _ => h.elim
 | _ :: _, _, [], _, h, _ => h.elim
 | _ :: _, _, _ :: _, _, h, k => ⟨h.1, All2.append h.2 k⟩
theorem All2.split {α β : Type} {R : α → β → Prop} : ∀ {l l' : List α} {m : List β}, All2 R (l ++ l') m → ∃ m1 m2, m = m1 ++ m2 ∧ All2 R l m1 ∧ All2 R l' m2
 | [], _, m, h => ⟨[], m, rfl, trivial, h⟩
 | _ :: _, _, _ :: _, h => by
  obtain ⟨m1, m2, rfl, h1, h2⟩ := All2.split h.2
  exact ⟨_ :: m1, m2, rfl, ⟨h.1, h1⟩, h2⟩
theorem All2.right {α β : Type} {R : α → β → Prop} {p : β → Prop} (k : ∀ a b, R a b → p b) : ∀ {l : List α} {m : List β}, All2 R l m → ∀ b ∈ m, p b
 | [], [], _, b, hb => by simp at hb
 | _ :: _, _ :: _, h, b, hb => by
  rcases List.mem_cons.1 hb with rfl | hb
  ·exact k _ _ h.1
  ·exact All2.right k h.2 b hb
theorem All2.mono {α β : Type} {R R' : α → β → Prop} : ∀ {l : List α} {m : List β}, All2 R l m → (∀ a b, b ∈ m → R a b → R' a b) → All2 R' l m
 | [], [], _, _ => trivial
 | _ :: _, _ :: _, h, k => ⟨k _ _ (by simp) h.1, All2.mono h.2 fun a b hb => k a b (by simp [hb])⟩
def NT (g : Int → Nd → Prop) : Nat → Nd → List Ent → List Int → Prop
 | 0, d, es, ps => d.leaf = true ∧ d.plain ∧ es = d.ents ∧ ps = []
 | h + 1, d, es, ps => d.leaf = false ∧ d.plain ∧ ∃ ss : List Sub, All2 (fun k (s : Sub) => ∃ d' ps', g k d' ∧ d'.good ∧ (d'.leaf = false → d'.keys ≠ []) ∧ NT g h d' s.es ps' ∧ s.ps = k :: ps') d.kids ss ∧ es = Sub.all ss ∧ ps = Sub.pages ss ∧ Sep d.keys ss
def OnP (g : Int → Nd → Prop) (h : Nat) (k : Int) (s : Sub) : Prop := ∃ d' ps', g k d' ∧ d'.good ∧ (d'.leaf = false → d'.keys ≠ []) ∧ NT g h d' s.es ps' ∧ s.ps = k :: ps'
theorem NT.plain {g : Int → Nd → Prop} : ∀ {h : Nat} {d : Nd} {es : List Ent} {ps : List Int}, NT g h d es ps → d.plain
 | 0, _, _, _, h => h.2.1
 | _ + 1, _, _, _, h => h.2.1
theorem NT.leaf {g : Int → Nd → Prop} : ∀ {h : Nat} {d : Nd} {es : List Ent} {ps : List Int}, NT g h d es ps → (d.leaf = true ↔ h = 0)
 | 0, _, _, _, h => by simp [h.1]
 | _ + 1, _, _, _, h => by have := h.1; simp [this]
theorem mem_pages {p : Int} {s : Sub} {ss : List Sub} (hs : s ∈ ss) (hp : p ∈ s.ps) : p ∈ Sub.pages ss := List.mem_flatMap.2 ⟨s, hs, hp⟩
theorem NT.same {g : Int → Nd → Prop} {g' : Int → Nd → Prop} : ∀ {h : Nat} {d : Nd} {es : List Ent} {ps : List Int}, NT g h d es ps → (∀ p ∈ ps, ∀ d, g p d → g' p d) → NT g' h d es ps
 | 0, _, _, _, n, _ => n
 | h + 1, d, es, ps, ⟨h1, h2, ss, h3, h4, h5, h6⟩, k => by
  subst h5
  refine ⟨h1, h2, ss, h3.mono ?_, h4, rfl, h6⟩
  rintro p s hs ⟨d', ps', a1, a2, a3, a4, a5⟩
  exact ⟨d', ps', k _ (mem_pages hs (by simp [a5])) _ a1, a2, a3, NT.same a4 (fun p hp => k p (mem_pages hs (by simp [a5, hp]))), a5⟩
theorem OnP.same {g : Int → Nd → Prop} {g' : Int → Nd → Prop} {h : Nat} {p : Int} {s : Sub} (o : OnP g h p s) (k : ∀ p ∈ s.ps, ∀ d, g p d → g' p d) : OnP g' h p s := by
 obtain ⟨d', ps', a1, a2, a3, a4, a5⟩ := o
 exact ⟨d', ps', k _ (by simp [a5]) _ a1, a2, a3, a4.same (fun p hp => k p (by simp [a5, hp])), a5⟩
theorem onP_all {g g' : Int → Nd → Prop} {h : Nat} {ks : List Int} {ss : List Sub} (o : All2 (OnP g h) ks ss) (k : ∀ p ∈ Sub.pages ss, ∀ d, g p d → g' p d) : All2 (OnP g' h) ks ss :=
 o.mono fun p s hs o => o.same fun p hp => k p (mem_pages hs hp)
theorem OnP.some {g : Int → Nd → Prop} : ∀ {h : Nat} {k : Int} {s : Sub}, OnP g h k s → s.es ≠ []
 | 0, k, s, ⟨d', ps', a1, a2, a3, a4, a5⟩ => by
  obtain ⟨l, p, e, _⟩ := a4
  have := a2.some l
  have h2 := p.vals
  rw [l] at h2
  simp only [if_true] at h2
  rw [e]
  intro q
  have := congrArg List.length q
  simp only [Nd.ents, List.length_zip, h2, List.length_nil] at this
  have h3 := a2.some l
  omega
 | h + 1, k, s, ⟨d', ps', a1, a2, a3, a4, a5⟩ => by
  obtain ⟨l, p, ss, f, e, _, sp⟩ := a4
  rw [e]
  have hl := sp.len
  cases ss with
  | nil => simp at hl
  | cons s0 ss =>
   have hs := f.right (p := fun s => s.es ≠ []) (fun k s o => OnP.some (h := h) o) s0 (by simp)
   rw [Sub.all_cons]
   simp [hs]
theorem Sep.rise : ∀ {ks : List Nat} {ss : List Sub}, Sep ks ss → (∀ s ∈ ss, s.es ≠ []) → Rise ks
 | [], _, _, _ => List.Pairwise.nil
 | k :: ks, s :: ss, ⟨h1, h2, h3⟩, hn => by
  refine List.Pairwise.cons ?_ (Sep.rise h3 fun s hs => hn s (by simp [hs]))
  intro j hj
  -- the key j stands behind some kid
  have : ∀ {ks : List Nat} {ss : List Sub}, Sep ks ss → (∀ s ∈ ss, s.es ≠ []) → ∀ j ∈ ks, ∃ y ∈ Sub.all ss, y.1 < j := by
   intro ks
   induction ks with
   | nil => intro ss _ _ j hj; simp at hj
   | cons a ks ih =>
    intro ss hs hn j hj
    cases ss with
    | nil => exact hs.elim
    | cons s ss =>
     rcases List.mem_cons.1 hj with rfl | hj
     ·obtain ⟨x, hx⟩ := List.exists_mem_of_ne_nil _ (hn s (by simp))
      exact ⟨x, by simp [Sub.all_cons, hx], hs.1 x hx⟩
     ·obtain ⟨y, hy, h⟩ := ih hs.2.2 (fun s hs => hn s (by simp [hs])) j hj
      exact ⟨y, by simp [Sub.all_cons, hy], h⟩
  obtain ⟨y, hy, h⟩ := this h3 (fun s hs => hn s (by simp [hs])) j hj
  have := h2 y hy
  omega
def Ord (es : List Ent) : Prop := es.Pairwise fun a b => a.1 < b.1
theorem ord_append {a b : List Ent} : Ord (a ++ b) ↔ Ord a ∧ Ord b ∧ ∀ x ∈ a, ∀ y ∈ b, x.1 < y.1 := by simp [Ord, List.pairwise_append]
theorem zip_fst_mem {ks : List Nat} {vs : List (List UInt8)} {e : Ent} (h : e ∈ ks.zip vs) : e.1 ∈ ks := (List.of_mem_zip h).1
theorem rise_ord : ∀ {ks : List Nat} {vs : List (List UInt8)}, Rise ks → Ord (ks.zip vs)
 | [], _, _ => by simp [Ord]
 | _ :: _, [], _ => by simp [Ord]
 | k :: ks, v :: vs, h => by
  obtain ⟨h1, h2⟩ := List.pairwise_cons.1 h
  refine List.Pairwise.cons ?_ (rise_ord h2)
  intro e he
  exact h1 _ (zip_fst_mem he)
theorem Sep.ord : ∀ {ks : List Nat} {ss : List Sub}, Sep ks ss → (∀ s ∈ ss, Ord s.es) → Ord (Sub.all ss)
 | [], [s], _, h => by simpa [Sub.all] using h s (by simp)
 | k :: ks, s :: ss, ⟨h1, h2, h3⟩, h => by
  rw [Sub.all_cons, ord_append]
  refine ⟨h s (by simp), Sep.ord h3 (fun s hs => h s (by simp [hs])), ?_⟩
  intro x hx y hy
  have := h1 x hx
  have := h2 y hy
  omega
theorem NT.ord {g : Int → Nd → Prop} : ∀ {h : Nat} {d : Nd} {es : List Ent} {ps : List Int}, NT g h d es ps → Ord es
 | 0, d, es, ps, ⟨_, p, e, _⟩ => by rw [e]; exact rise_ord p.rise
 | h + 1, d, es, ps, ⟨_, _, ss, f, e, _, sp⟩ => by
  rw [e]
  exact sp.ord (f.right (fun k s o => by obtain ⟨d', ps', _, _, _, a4, _⟩ := o; exact NT.ord a4))
end Go.Proofs.YtelfjhemnnbbpaaGreat
namespace Go.Proofs.YtelfjhemnnbbpaaGreat
open Go.Proofs.YtelfjhemnnbbpaaGreat.SL
def cntN (l : List Nat) (x : Nat) : Nat := posN l x + if x ∈ l then 1 else 0
theorem cntN_spec : ∀ {l : List Nat} {x : Nat}, Rise l → cntN l x ≤ l.length ∧ (∀ k ∈ l.take (cntN l x), k ≤ x) ∧ ∀ k ∈ l.drop (cntN l x), x < k
 | [], x, _ => by simp [cntN, posN]
 | k :: l, x, h => by
  obtain ⟨h1, h2⟩ := List.pairwise_cons.1 h
  obtain ⟨i1, i2, i3⟩ := cntN_spec (l := l) (x := x) h2
  rcases Nat.lt_trichotomy k x with q | q | q
  ·have : cntN (k :: l) x = cntN l x + 1 := by
    have hne : ¬ x = k := by omega
    simp only [cntN, posN, if_pos q, List.mem_cons, hne, false_or]; omega
   rw [this]
   refine ⟨by simpa using i1, ?_, by simpa using i3⟩
   intro j hj
   rw [List.take_succ_cons] at hj
   rcases List.mem_cons.1 hj with rfl | hj
   ·omega
   ·exact i2 j hj
  ·subst q
   have : cntN (k :: l) k = 1 := by simp [cntN, posN]
   rw [this]
   exact ⟨by simp, by simp, by simpa using h1⟩
  ·have hm : x ∉ k :: l := by
    intro hx
    rcases List.mem_cons.1 hx with rfl | hx
    ·omega
    ·have := h1 x hx; omega
   have : cntN (k :: l) x = 0 := by simp only [cntN, posN, if_neg (show ¬ k < x by omega), if_neg hm]
   rw [this]
   refine ⟨by simp, by simp, ?_⟩
   intro j hj
   rcases List.mem_cons.1 (by simpa using hj) with rfl | hj
   ·exact q
   ·have := h1 j hj; omega
def SepR : List Nat → List Sub → Prop
 | [], [] => True
 | k :: ks, sr => (∀ y ∈ Sub.all sr, k ≤ y.1) ∧ Sep ks sr
 | [], _ :: _ => False
theorem sep_hole {kr : List Nat} {s : Sub} {sr : List Sub} : Sep kr (s :: sr) ↔ SepR kr sr ∧ ∀ k ks, kr = k :: ks → ∀ x ∈ s.es, x.1 < k := by
 cases kr with
 | nil => cases sr <;> simp [Sep, SepR]
 | cons k ks =>
  constructor
  ·rintro ⟨h1, h2, h3⟩
   exact ⟨⟨h2, h3⟩, fun k' ks' e => by cases e; exact h1⟩
  ·rintro ⟨⟨h2, h3⟩, h1⟩
   exact ⟨h1 k ks rfl, h2, h3⟩
structure Mid (g : Int → Nd → Prop) (h : Nat) (d : Nd) (i : Nat) (sl sr : List Sub) : Prop where
 good : d.good
 leaf : d.leaf = false
 ne : d.keys ≠ []
 ile : i ≤ d.keys.length
 ol : All2 (OnP g h) (d.kids.take i) sl
 orr : All2 (OnP g h) (d.kids.drop (i + 1)) sr
 spl : SepL (d.keys.take i) sl
 spr : SepR (d.keys.drop i) sr
 lr : ∀ k ∈ d.keys.take i, ∀ y ∈ Sub.all sr, k ≤ y.1
def FitsAt (d : Nd) (i : Nat) (x : Nat) : Prop := (∀ k ∈ d.keys.take i, k ≤ x) ∧ ∀ k ∈ d.keys.drop i, x < k
theorem kidsLen {d : Nd} (p : d.plain) (hl : d.leaf = false) : d.kids.length = d.keys.length + 1 := by have := p.kids; rw [hl] at this; simpa using this
theorem valsLen {d : Nd} (p : d.plain) (hl : d.leaf = true) : d.vals.length = d.keys.length := by have := p.vals; rw [hl] at this; simpa using this
theorem take_cons_drop {α : Type} {l : List α} {i : Nat} (h : i < l.length) : l = l.take i ++ l[i] :: l.drop (i + 1) := by simp
theorem descend {g : Int → Nd → Prop} {h : Nat} {d : Nd} {es : List Ent} {ps : List Int} (n : NT g (h + 1) d es ps) (hg : d.good) (hne : d.keys ≠ []) {i : Nat} (hi : i ≤ d.keys.length) :
  ∃ k sl s sr, d.kids[i]? = some k ∧ Mid g h d i sl sr ∧ OnP g h k s ∧ (∀ x ∈ s.es, FitsAt d i x.1) ∧ es = Sub.all sl ++ (s.es ++ Sub.all sr) ∧ ps = Sub.pages sl ++ (s.ps ++ Sub.pages sr) := by
 obtain ⟨hl, p, ss, f, rfl, rfl, sp⟩ := n
 have hk := kidsLen p hl
 have hi2 : i < d.kids.length := by omega
 have e := take_cons_drop hi2
 rw [e] at f
 obtain ⟨sl, m2, rfl, f1, f2⟩ := f.split
 obtain ⟨s, sr, rfl, o, f3⟩ := all2_cons.1 f2
 have hlen : (d.keys.take i).length = sl.length := by rw [← f1.len]; simp; omega
 have sp2 := sp
 rw [← List.take_append_drop i d.keys, sep_app hlen] at sp2
 obtain ⟨s1, s2, s3⟩ := sp2
 obtain ⟨s4, s5⟩ := sep_hole.1 s3
 refine ⟨d.kids[i], sl, s, sr, by simp [hi2], ⟨hg, hl, hne, hi, f1, f3, s1, s4, fun k hk y hy => s2 k hk y (by simp [Sub.all_cons, hy])⟩, o, ?_, by simp [Sub.all_append, Sub.all_cons], by simp [Sub.pages_append, Sub.pages_cons]⟩
 intro x hx
 refine ⟨fun k hk => s2 k hk x (by simp [Sub.all_cons, hx]), fun k hk => ?_⟩
 cases hr : d.keys.drop i with
 | nil => rw [hr] at hk; simp at hk
 | cons k0 ks =>
  have h0 := s5 k0 ks hr x hx
  rw [hr] at hk
  have hrise : Rise (d.keys.drop i) := List.Pairwise.sublist (List.drop_sublist _ _) p.rise
  rw [hr] at hrise
  rcases List.mem_cons.1 hk with rfl | hk
  ·exact h0
  ·have := (List.pairwise_cons.1 hrise).1 k hk; omega
theorem some_of {g : Int → Nd → Prop} {h : Nat} {ks : List Int} {ss : List Sub} (o : All2 (OnP g h) ks ss) : ∀ s ∈ ss, s.es ≠ [] := o.right fun _ _ o => o.some
theorem nt_of {g : Int → Nd → Prop} {h : Nat} {d : Nd} {ss : List Sub} (hl : d.leaf = false) (hv : d.vals = []) (o : All2 (OnP g h) d.kids ss) (sp : Sep d.keys ss) (hk : ∀ k ∈ d.keys, k < 18446744073709551616) (hi : ∀ i ∈ d.kids, 2 ≤ i ∧ i < 640) : NT g (h + 1) d (Sub.all ss) (Sub.pages ss) := by
 refine ⟨hl, ⟨sp.rise (some_of o), hk, by simp [hv], hi, by simp [hl, hv], ?_⟩, ss, o, rfl, rfl, sp⟩
 rw [hl, o.len, sp.len]; simp
theorem noVals {d : Nd} (p : d.plain) (hl : d.leaf = false) : d.vals = [] := by have := p.vals; rw [hl] at this; simpa using this
theorem plug {g g' : Int → Nd → Prop} {h : Nat} {d : Nd} {i : Nat} {sl sr : List Sub} (m : Mid g h d i sl sr) {k : Int} {s : Sub} (o : OnP g' h k s) (hk : 2 ≤ k ∧ k < 640) (hf : ∀ x ∈ s.es, FitsAt d i x.1) (same : ∀ p ∈ Sub.pages sl ++ Sub.pages sr, ∀ d, g p d → g' p d) :
  NT g' (h + 1) { d with kids := d.kids.set i k } (Sub.all sl ++ (s.es ++ Sub.all sr)) (Sub.pages sl ++ (s.ps ++ Sub.pages sr)) := by
 have p := m.good.p
 have hkl := kidsLen p m.leaf
 have hi := m.ile
 have hlen : (d.keys.take i).length = sl.length := by rw [← m.ol.len]; simp; omega
 have := nt_of (g := g') (h := h) (d := { d with kids := d.kids.set i k }) (ss := sl ++ s :: sr) m.leaf (show d.vals = [] from noVals p m.leaf) ?_ ?_ p.key ?_
 ·simpa [Sub.all_append, Sub.all_cons, Sub.pages_append, Sub.pages_cons] using this
 ·show All2 _ (d.kids.set i k) _
  rw [List.set_eq_take_append_cons_drop, if_pos (by omega)]
  exact (onP_all m.ol fun p hp => same p (by simp [hp])).append ⟨o, onP_all m.orr fun p hp => same p (by simp [hp])⟩
 ·show Sep d.keys _
  rw [← List.take_append_drop i d.keys, sep_app hlen]
  refine ⟨m.spl, ?_, sep_hole.2 ⟨m.spr, fun k ks e x hx => (hf x hx).2 k (by rw [e]; simp)⟩⟩
  intro k hk y hy
  rw [Sub.all_cons] at hy
  rcases List.mem_append.1 hy with hy | hy
  ·exact (hf y hy).1 k hk
  ·exact m.lr k hk y hy
 ·intro j hj
  rcases List.mem_or_eq_of_mem_set hj with hj | rfl
  ·exact p.kid j hj
  ·exact hk
theorem plug2 {g g' : Int → Nd → Prop} {h : Nat} {d : Nd} {i : Nat} {sl sr : List Sub} (m : Mid g h d i sl sr) {k1 k2 : Int} {s1 s2 : Sub} {mid : Nat} (o1 : OnP g' h k1 s1) (o2 : OnP g' h k2 s2) (hk1 : 2 ≤ k1 ∧ k1 < 640) (hk2 : 2 ≤ k2 ∧ k2 < 640) (hm : mid < 18446744073709551616)
  (hf1 : ∀ x ∈ s1.es, FitsAt d i x.1 ∧ x.1 < mid) (hf2 : ∀ x ∈ s2.es, FitsAt d i x.1 ∧ mid ≤ x.1) (same : ∀ p ∈ Sub.pages sl ++ Sub.pages sr, ∀ d, g p d → g' p d) :
  NT g' (h + 1) (Nd.hang { d with kids := d.kids.set i k1 } i mid k2) (Sub.all sl ++ (s1.es ++ s2.es ++ Sub.all sr)) (Sub.pages sl ++ (s1.ps ++ s2.ps ++ Sub.pages sr)) := by
 have p := m.good.p
 have hkl := kidsLen p m.leaf
 have hi := m.ile
 have hlen : (d.keys.take i).length = sl.length := by rw [← m.ol.len]; simp; omega
 have ek : (Nd.hang { d with kids := d.kids.set i k1 } i mid k2).kids = d.kids.take i ++ k1 :: k2 :: d.kids.drop (i + 1) := by
  show laidL (d.kids.set i k1) (i + 1) 0 [k2] = _
  have h1 : (d.kids.set i k1).take (i + 1) = d.kids.take i ++ [k1] := by
   rw [List.set_eq_take_append_cons_drop, if_pos (by omega), List.take_append]
   simp [List.take_take, show min i d.kids.length = i by omega]
  have h2 : (d.kids.set i k1).drop (i + 1) = d.kids.drop (i + 1) := by rw [List.drop_set_of_lt (by omega)]
  simp [laidL, h1, h2]
 have ekk : (Nd.hang { d with kids := d.kids.set i k1 } i mid k2).keys = d.keys.take i ++ mid :: d.keys.drop i := by show laidL d.keys i 0 [mid] = _; simp [laidL]
 -- mid stands between what is ahead and behind
 obtain ⟨x1, hx1⟩ := List.exists_mem_of_ne_nil _ o1.some
 obtain ⟨x2, hx2⟩ := List.exists_mem_of_ne_nil _ o2.some
 have := nt_of (g := g') (h := h) (d := Nd.hang { d with kids := d.kids.set i k1 } i mid k2) (ss := sl ++ s1 :: s2 :: sr) rfl rfl ?_ ?_ ?_ ?_
 ·simpa [Sub.all_append, Sub.all_cons, Sub.pages_append, Sub.pages_cons] using this
 ·rw [ek]
  exact (onP_all m.ol fun p hp => same p (by simp [hp])).append ⟨o1, o2, onP_all m.orr fun p hp => same p (by simp [hp])⟩
 ·rw [ekk, sep_app hlen]
  refine ⟨m.spl, ?_, ⟨fun x hx => (hf1 x hx).2, ?_, sep_hole.2 ⟨m.spr, fun k ks e x hx => (hf2 x hx).1.2 k (by rw [e]; simp)⟩⟩⟩
  ·intro k hk y hy
   simp only [Sub.all_cons, List.mem_append] at hy
   rcases hy with hy | hy | hy
   ·exact (hf1 y hy).1.1 k hk
   ·exact (hf2 y hy).1.1 k hk
   ·exact m.lr k hk y hy
  ·intro y hy
   rw [Sub.all_cons] at hy
   rcases List.mem_append.1 hy with hy | hy
   ·exact (hf2 y hy).2
   ·have hsr := m.spr
    cases hr : d.keys.drop i with
    | nil => rw [hr] at hsr; cases sr with
     | nil => simp [Sub.all] at hy
     | cons => exact hsr.elim
    | cons k0 ks =>
     rw [hr] at hsr
     have h1 := hsr.1 y hy
     have h2 := (hf2 x2 hx2).1.2 k0 (by rw [hr]; simp)
     have h3 := (hf2 x2 hx2).2
     omega
 ·intro k hk
  rw [ekk] at hk
  simp only [List.mem_append, List.mem_cons] at hk
  rcases hk with hk | rfl | hk
  ·exact p.key k (List.mem_of_mem_take hk)
  ·exact hm
  ·exact p.key k (List.mem_of_mem_drop hk)
 ·intro j hj
  rw [ek] at hj
  simp only [List.mem_append, List.mem_cons] at hj
  rcases hj with hj | rfl | rfl | hj
  ·exact p.kid j (List.mem_of_mem_take hj)
  ·exact hk1
  ·exact hk2
  ·exact p.kid j (List.mem_of_mem_drop hj)
end Go.Proofs.YtelfjhemnnbbpaaGreat
namespace Go.Proofs.YtelfjhemnnbbpaaGreat
open Go.Proofs.YtelfjhemnnbbpaaGreat.SL
def putE (es : List Ent) (x : Nat) (v : List UInt8) : List Ent := es.filter (fun e => decide (e.1 < x)) ++ (x, v) :: es.filter (fun e => decide (x < e.1))
def delE (es : List Ent) (x : Nat) : List Ent := es.filter fun e => !(e.1 == x)
def hasE (es : List Ent) (x : Nat) : Prop := ∃ v, (x, v) ∈ es
theorem putE_mid {L R e : List Ent} {x : Nat} {v : List UInt8} (hl : ∀ a ∈ L, a.1 < x) (hr : ∀ a ∈ R, x < a.1) : putE (L ++ (e ++ R)) x v = L ++ (putE e x v ++ R) := by
 have e1 : L.filter (fun e => decide (e.1 < x)) = L := List.filter_eq_self.2 (fun a ha => by simpa using hl a ha)
 have e2 : L.filter (fun e => decide (x < e.1)) = [] := List.filter_eq_nil_iff.2 (fun a ha => by have := hl a ha; simp; omega)
 have e3 : R.filter (fun e => decide (x < e.1)) = R := List.filter_eq_self.2 (fun a ha => by simpa using hr a ha)
 have e4 : R.filter (fun e => decide (e.1 < x)) = [] := List.filter_eq_nil_iff.2 (fun a ha => by have := hr a ha; simp; omega)
 simp [putE, List.filter_append, e1, e2, e3, e4]
theorem delE_mid {L R e : List Ent} {x : Nat} (hl : ∀ a ∈ L, a.1 < x) (hr : ∀ a ∈ R, x < a.1) : delE (L ++ (e ++ R)) x = L ++ (delE e x ++ R) := by
 have e1 : L.filter (fun e => !(e.1 == x)) = L := List.filter_eq_self.2 (fun a ha => by have := hl a ha; simp; omega)
 have e2 : R.filter (fun e => !(e.1 == x)) = R := List.filter_eq_self.2 (fun a ha => by have := hr a ha; simp; omega)
 simp only [delE, List.filter_append, e1, e2]
theorem filt_lt : ∀ {ks : List Nat} {vs : List (List UInt8)} {x : Nat}, Rise ks → (ks.zip vs).filter (fun e => decide (e.1 < x)) = (ks.zip vs).take (posN ks x)
 | [], _, _, _ => by simp
 | _ :: _, [], _, _ => by simp
 | k :: ks, v :: vs, x, h => by
  obtain ⟨h1, h2⟩ := List.pairwise_cons.1 h
  rw [List.zip_cons_cons, posN]
  by_cases q : k < x
  ·rw [if_pos q, List.filter_cons_of_pos (by simpa using q), List.take_succ_cons, filt_lt h2]
  ·rw [if_neg q, List.filter_cons_of_neg (by simpa using q), List.take_zero, List.filter_eq_nil_iff]
   intro e he
   have := h1 _ (zip_fst_mem he)
   simp; omega
theorem filt_gt : ∀ {ks : List Nat} {vs : List (List UInt8)} {x : Nat}, Rise ks → (ks.zip vs).filter (fun e => decide (x < e.1)) = (ks.zip vs).drop (cntN ks x)
 | [], _, _, _ => by simp
 | _ :: _, [], _, _ => by simp
 | k :: ks, v :: vs, x, h => by
  obtain ⟨h1, h2⟩ := List.pairwise_cons.1 h
  rw [List.zip_cons_cons]
  rcases Nat.lt_trichotomy k x with q | q | q
  ·have hne : ¬ x = k := by omega
   have : cntN (k :: ks) x = cntN ks x + 1 := by simp only [cntN, posN, if_pos q, List.mem_cons, hne, false_or]; omega
   rw [this, List.filter_cons_of_neg (by simp; omega), List.drop_succ_cons, filt_gt h2]
  ·subst q
   have : cntN (k :: ks) k = 1 := by simp [cntN, posN]
   rw [this, List.filter_cons_of_neg (by simp), List.drop_succ_cons, List.drop_zero, List.filter_eq_self]
   intro e he
   simpa using h1 _ (zip_fst_mem he)
  ·have hm : x ∉ k :: ks := by
    intro hx
    rcases List.mem_cons.1 hx with rfl | hx
    ·omega
    ·have := h1 x hx; omega
   have : cntN (k :: ks) x = 0 := by simp only [cntN, posN, if_neg (show ¬ k < x by omega), if_neg hm]
   rw [this, List.drop_zero, List.filter_eq_self]
   intro e he
   rcases List.mem_cons.1 he with rfl | he
   ·simpa using q
   ·have := h1 _ (zip_fst_mem he); simp; omega
theorem zip_laid {ks : List Nat} {vs : List (List UInt8)} {p g : Nat} {a : List Nat} {b : List (List UInt8)} (hl : vs.length = ks.length) (hp : p ≤ ks.length) (hab : a.length = b.length) :
  (laidL ks p g a).zip (laidL vs p g b) = (ks.zip vs).take p ++ a.zip b ++ (ks.zip vs).drop (p + g) := by
 unfold laidL
 rw [List.zip_append (by simp only [List.length_append, List.length_take]; omega), List.zip_append (by simp only [List.length_take]; omega)]
 congr 1
 ·congr 1
  exact (List.take_zipWith (f := Prod.mk)).symm
 ·exact (List.drop_zipWith (f := Prod.mk)).symm
theorem put_ents {d : Nd} (p : d.plain) (hl : d.leaf = true) (x : Nat) (v : List UInt8) : (d.put x v).ents = putE d.ents x v := by
 show (laidL d.keys _ _ [x]).zip (laidL d.vals _ _ [v]) = _
 rw [zip_laid (valsLen p hl) (posN_le _ _) rfl, putE, Nd.ents, filt_lt p.rise, filt_gt p.rise]
 simp [cntN]
theorem mem_ents {d : Nd} (p : d.plain) (hl : d.leaf = true) {x : Nat} : x ∈ d.keys ↔ hasE d.ents x := by
 constructor
 ·intro h
  obtain ⟨i, hi, rfl⟩ := List.getElem_of_mem h
  have hv := valsLen p hl
  refine ⟨d.vals[i], ?_⟩
  rw [Nd.ents]
  exact List.mem_iff_getElem.2 ⟨i, by simp [List.length_zip]; omega, by simp⟩
 ·rintro ⟨v, h⟩; exact zip_fst_mem h
theorem without_ents {d : Nd} (p : d.plain) (hl : d.leaf = true) {x : Nat} (hx : x ∈ d.keys) : (d.without (posN d.keys x)).ents = delE d.ents x := by
 show (laidL d.keys _ _ []).zip (laidL d.vals _ _ []) = _
 rw [zip_laid (valsLen p hl) (posN_le _ _) rfl]
 have e1 := filt_lt (vs := d.vals) (x := x) p.rise
 have e2 := filt_gt (vs := d.vals) (x := x) p.rise
 rw [cntN, if_pos hx] at e2
 show (d.keys.zip d.vals).take _ ++ [] ++ _ = delE (d.keys.zip d.vals) x
 rw [← e1, ← e2, List.append_nil]
 -- a list in order, cut at x
 have : ∀ {es : List Ent}, Ord es → es.filter (fun e => decide (e.1 < x)) ++ es.filter (fun e => decide (x < e.1)) = es.filter (fun e => !(e.1 == x)) := by
  intro es
  induction es with
  | nil => intro _; rfl
  | cons a es ih =>
   intro h
   obtain ⟨h1, h2⟩ := List.pairwise_cons.1 h
   rcases Nat.lt_trichotomy a.1 x with q | q | q
   ·rw [List.filter_cons_of_pos (by simpa using q), List.filter_cons_of_neg (by simp; omega), List.filter_cons_of_pos (by simp; omega), List.cons_append, ih h2]
   ·rw [List.filter_cons_of_neg (by simp; omega), List.filter_cons_of_neg (by simp; omega), List.filter_cons_of_neg (by simpa using q), ih h2]
   ·rw [List.filter_cons_of_neg (by simp; omega), List.filter_cons_of_pos (by simpa using q), List.filter_cons_of_pos (by simp; omega), List.filter_eq_nil_iff.2 (fun e he => by have := h1 e he; simp; omega), List.nil_append]
    congr 1
    rw [List.filter_eq_self.2 (fun e he => by have := h1 e he; simp; omega), List.filter_eq_self.2 (fun e he => by have := h1 e he; simp; omega)]
 exact this (rise_ord p.rise)
theorem rise_laid_put {l : List Nat} (h : Rise l) (x : Nat) : Rise (laidL l (posN l x) (if x ∈ l then 1 else 0) [x]) := by
 have h2 := cntN_spec (x := x) h
 have ht : ∀ k ∈ l.take (posN l x), k < x := by
  intro k hk
  obtain ⟨i, hi, rfl⟩ := List.getElem_of_mem hk
  simp only [List.length_take] at hi
  have := posN_lt (l := l) (x := x) (j := i) (by omega)
  simpa [List.getD, show i < l.length by omega] using this
 unfold laidL
 refine List.pairwise_append.2 ⟨List.pairwise_append.2 ⟨h.sublist (List.take_sublist _ _), List.pairwise_singleton _ _, ?_⟩, h.sublist (List.drop_sublist _ _), ?_⟩
 ·intro a ha b hb; simp only [List.mem_singleton] at hb; subst hb; exact ht a ha
 ·intro a ha b hb
  have hb2 := h2.2.2 b hb
  rcases List.mem_append.1 ha with ha | ha
  ·have := ht a ha; omega
  ·simp only [List.mem_singleton] at ha; subst ha; exact hb2
theorem mem_laid {α : Type} {l : List α} {p g : Nat} {m : List α} {x : α} (h : x ∈ laidL l p g m) : x ∈ l ∨ x ∈ m := by
 unfold laidL at h
 simp only [List.mem_append] at h
 rcases h with (h | h) | h
 ·exact .inl (List.mem_of_mem_take h)
 ·exact .inr h
 ·exact .inl (List.mem_of_mem_drop h)
theorem laid_len {α : Type} {l : List α} {p g : Nat} {m : List α} (h : p + g ≤ l.length) : (laidL l p g m).length = l.length - g + m.length := by
 simp only [laidL, List.length_append, List.length_take, List.length_drop]; omega
theorem sum_laid {l : List (List UInt8)} {p g : Nat} {m : List (List UInt8)} : sumL (laidL l p g m) ≤ sumL l + sumL m := by
 have e : l = l.take p ++ ((l.drop p).take g ++ (l.drop p).drop g) := by rw [List.take_append_drop, List.take_append_drop]
 have e2 : sumL l = sumL (l.take p) + (sumL ((l.drop p).take g) + sumL ((l.drop p).drop g)) := by rw [← sumL_append, ← sumL_append, ← e]
 rw [laidL, sumL_append, sumL_append, e2, List.drop_drop]
 omega
theorem posN_gone {l : List Nat} (h : Rise l) (x : Nat) : posN l x + (if x ∈ l then 1 else 0) ≤ l.length := (cntN_spec (x := x) h).1
theorem put_nt {g : Int → Nd → Prop} {d : Nd} {es : List Ent} {ps : List Int} (n : NT g 0 d es ps) {x : Nat} {v : List UInt8} (hx : x < 18446744073709551616) (hv : v.length ≤ 40) : NT g 0 (d.put x v) (putE es x v) [] ∧ (d.put x v).size ≤ d.size + 49 ∧ 0 < (d.put x v).keys.length := by
 obtain ⟨hl, p, rfl, rfl⟩ := n
 have hvl := valsLen p hl
 have hg := posN_gone p.rise x
 have l1 : (d.put x v).keys.length = d.keys.length - (if x ∈ d.keys then 1 else 0) + 1 := laid_len hg
 have l2 : (d.put x v).vals.length = d.vals.length - (if x ∈ d.keys then 1 else 0) + 1 := laid_len (by rw [hvl]; exact hg)
 have l3 : sumL (d.put x v).vals ≤ sumL d.vals + v.length := by have := sum_laid (l := d.vals) (p := posN d.keys x) (g := if x ∈ d.keys then 1 else 0) (m := [v]); rw [sumL_cons, sumL_nil] at this; exact this
 refine ⟨⟨rfl, ⟨rise_laid_put p.rise x, ?_, ?_, by simp [Nd.put], ?_, rfl⟩, (put_ents p hl x v).symm, rfl⟩, ?_, by omega⟩
 ·intro k hk
  rcases mem_laid hk with hk | hk
  ·exact p.key k hk
  ·simp only [List.mem_singleton] at hk; omega
 ·intro w hw
  rcases mem_laid hw with hw | hw
  ·exact p.val w hw
  ·simp only [List.mem_singleton] at hw; subst hw; exact hv
 ·rw [show (d.put x v).leaf = true from rfl, if_pos rfl, l1, l2, hvl]
 ·simp only [Nd.size, hl, show (d.put x v).leaf = true from rfl, if_true, l1]; omega
theorem without_nt {g : Int → Nd → Prop} {d : Nd} {es : List Ent} {ps : List Int} (n : NT g 0 d es ps) {x : Nat} (hx : x ∈ d.keys) : NT g 0 (d.without (posN d.keys x)) (delE es x) [] ∧ (d.without (posN d.keys x)).size ≤ d.size := by
 obtain ⟨hl, p, rfl, rfl⟩ := n
 have hvl := valsLen p hl
 have hg := posN_gone p.rise x
 rw [if_pos hx] at hg
 have l1 : (d.without (posN d.keys x)).keys.length = d.keys.length - 1 := by exact laid_len (m := ([] : List Nat)) hg
 have l2 : (d.without (posN d.keys x)).vals.length = d.vals.length - 1 := by exact laid_len (l := d.vals) (m := ([] : List (List UInt8))) (by rw [hvl]; exact hg)
 have l3 : sumL (d.without (posN d.keys x)).vals ≤ sumL d.vals := by have := sum_laid (l := d.vals) (p := posN d.keys x) (g := 1) (m := []); rw [sumL_nil] at this; exact this
 have hr : Rise (d.without (posN d.keys x)).keys := by
  show Rise (laidL d.keys _ _ [])
  rw [laidL, List.append_nil]
  have e : d.keys = d.keys.take (posN d.keys x) ++ d.keys.drop (posN d.keys x) := by simp
  refine List.pairwise_append.2 ⟨p.rise.sublist (List.take_sublist _ _), p.rise.sublist (List.drop_sublist _ _), ?_⟩
  intro a ha b hb
  have h2 := p.rise
  rw [e] at h2
  refine (List.pairwise_append.1 h2).2.2 a ha b ?_
  rw [← List.drop_drop] at hb
  exact List.mem_of_mem_drop hb
 refine ⟨⟨rfl, ⟨hr, ?_, ?_, by simp [Nd.without], ?_, rfl⟩, (without_ents p hl hx).symm, rfl⟩, ?_⟩
 ·intro k hk
  rcases mem_laid hk with hk | hk
  ·exact p.key k hk
  ·simp at hk
 ·intro w hw
  rcases mem_laid hw with hw | hw
  ·exact p.val w hw
  ·simp at hw
 ·rw [show (d.without (posN d.keys x)).leaf = true from rfl, if_pos rfl, l1, l2, hvl]
 ·simp only [Nd.size, hl, show (d.without (posN d.keys x)).leaf = true from rfl, if_true, l1]; omega
end Go.Proofs.YtelfjhemnnbbpaaGreat
namespace Go.Proofs.YtelfjhemnnbbpaaGreat
open Go.Proofs.YtelfjhemnnbbpaaGreat.SL
theorem cut_spec (d : Nd) : ∀ (m k : Nat), k ≤ d.cut m k ∧ d.cut m k ≤ k + m ∧ (d.cut m k = k + m ∨ d.size / 2 ≤ (d.front (d.cut m k)).size) ∧ (d.cut m k = k ∨ (d.front (d.cut m k - 1)).size < d.size / 2)
 | 0, k => ⟨Nat.le_refl _, Nat.le_refl _, .inl rfl, .inl rfl⟩
 | m + 1, k => by
  rw [Nd.cut]
  by_cases q : (d.front k).size < d.size / 2
  ·rw [if_pos q]
   obtain ⟨h1, h2, h3, h4⟩ := cut_spec d m (k + 1)
   refine ⟨by omega, by omega, h3.imp (fun e => by omega) id, .inr ?_⟩
   rcases h4 with h4 | h4
   ·rw [h4]; simpa using q
   ·exact h4
  ·rw [if_neg q]
   exact ⟨Nat.le_refl _, by omega, .inr (by omega), .inl rfl⟩
theorem front_size {d : Nd} (p : d.plain) {k : Nat} (hk : k + d.up ≤ d.keys.length) : (d.front k).size = if d.leaf then 1 + 9 * k + sumL (d.vals.take k) else 1 + 8 * k + 2 * (k + 1) := by
 cases hl : d.leaf
 ·have := kidsLen p hl
  simp only [Nd.up, hl, Bool.false_eq_true, if_false] at hk
  simp only [Nd.front, Nd.size, hl, Bool.false_eq_true, if_false, List.length_take]
  omega
 ·simp only [Nd.up, hl, if_true] at hk
  simp only [Nd.front, Nd.size, hl, if_true, List.length_take]
  omega
theorem back_size {d : Nd} (p : d.plain) {k : Nat} (hk : k + d.up ≤ d.keys.length) : (d.back k).size = if d.leaf then 1 + 9 * (d.keys.length - k) + sumL (d.vals.drop k) else 1 + 8 * (d.keys.length - k - 1) + 2 * (d.keys.length - k) := by
 cases hl : d.leaf
 ·have := kidsLen p hl
  simp only [Nd.up, hl, Bool.false_eq_true, if_false] at hk
  simp only [Nd.back, Nd.size, Nd.up, hl, Bool.false_eq_true, if_false, List.length_drop]
  omega
 ·simp only [Nd.up, hl, if_true] at hk
  simp only [Nd.back, Nd.size, Nd.up, hl, if_true, List.length_drop]
  omega
theorem sumL_split (l : List (List UInt8)) (k : Nat) : sumL l = sumL (l.take k) + sumL (l.drop k) := by rw [← sumL_append, List.take_append_drop]
theorem sumL_one {l : List (List UInt8)} (h : ∀ v ∈ l, v.length ≤ 40) (k : Nat) : sumL (l.take (k + 1)) ≤ sumL (l.take k) + 40 := by
 rcases Nat.lt_or_ge k l.length with q | q
 ·rw [sumL_take_succ q]
  have : (l.getD k []).length ≤ 40 := by simp only [List.getD, List.getElem?_eq_getElem q, Option.getD_some]; exact h _ (List.getElem_mem q)
  omega
 ·rw [List.take_of_length_le (by omega), List.take_of_length_le (by omega)]; omega
theorem at_spec {d : Nd} (p : d.plain) (h1 : 240 < d.size) (h2 : d.size ≤ 340) : 1 ≤ d.keys.length - 1 - d.up ∧ 1 ≤ d.at' ∧ d.at' + d.up < d.keys.length ∧ (d.front d.at').size ≤ 240 ∧ (d.back d.at').size ≤ 240 := by
 have hs := sumL_le p.val
 have hup : d.up ≤ 1 := by unfold Nd.up; split <;> omega
 have hbig : 3 ≤ d.keys.length - 1 - d.up := by
  cases hl : d.leaf
  ·have := kidsLen p hl
   simp only [Nd.size, hl, Bool.false_eq_true, if_false, Nd.up] at *; omega
  ·have := valsLen p hl
   simp only [Nd.size, hl, if_true, Nd.up] at *; omega
 obtain ⟨c1, c2, c3, c4⟩ := cut_spec d (d.keys.length - 1 - d.up - 1) 1
 rw [show d.cut (d.keys.length - 1 - d.up - 1) 1 = d.at' from rfl] at c1 c2 c3 c4
 generalize d.at' = k at *
 have hk : k + d.up < d.keys.length := by omega
 refine ⟨by omega, c1, hk, ?_⟩
 have f0 := front_size p (show k + d.up ≤ d.keys.length by omega)
 have f1 := front_size p (show (k - 1) + d.up ≤ d.keys.length by omega)
 have b0 := back_size p (show k + d.up ≤ d.keys.length by omega)
 have s0 := sumL_split d.vals k
 have s1 := sumL_one p.val (k - 1)
 have s2 := sumL_le (l := d.vals.drop k) (fun v hv => p.val v (List.mem_of_mem_drop hv))
 rw [show k - 1 + 1 = k by omega] at s1
 cases hl : d.leaf
 ·have := kidsLen p hl
  simp only [Nd.size, hl, Bool.false_eq_true, if_false, Nd.up] at *
  constructor <;> omega
 ·have := valsLen p hl
  have hd : (d.vals.drop k).length = d.keys.length - k := by simp; omega
  rw [hd] at s2
  have hz : k = 1 → sumL (d.vals.take k) ≤ 40 := fun e => by
   subst e; simp only [Nat.sub_self, List.take_zero, sumL_nil] at s1; omega
  simp only [Nd.size, hl, if_true, Nd.up] at *
  constructor <;> omega
theorem sep_mid : ∀ {ka kb : List Nat} {sa sb : List Sub} {mid : Nat}, sa.length = ka.length + 1 → Rise (ka ++ mid :: kb) → Sep (ka ++ mid :: kb) (sa ++ sb) → Sep ka sa ∧ (∀ x ∈ Sub.all sa, x.1 < mid) ∧ (∀ y ∈ Sub.all sb, mid ≤ y.1) ∧ Sep kb sb
 | [], kb, [s], sb, mid, _, _, ⟨h1, h2, h3⟩ => ⟨trivial, fun x hx => h1 x (by simpa [Sub.all] using hx), h2, h3⟩
 | k :: ka, kb, s :: sa, sb, mid, hl, hr, ⟨h1, h2, h3⟩ => by
  obtain ⟨r1, r2⟩ := List.pairwise_cons.1 hr
  obtain ⟨i1, i2, i3, i4⟩ := sep_mid (ka := ka) (kb := kb) (sa := sa) (sb := sb) (mid := mid) (by simpa using hl) r2 h3
  refine ⟨⟨h1, fun y hy => h2 y (by show y ∈ Sub.all (sa ++ sb); rw [Sub.all_append]; exact List.mem_append_left _ hy), i1⟩, ?_, i3, i4⟩
  intro x hx
  rw [Sub.all_cons] at hx
  rcases List.mem_append.1 hx with hx | hx
  ·have := h1 x hx
   have := r1 mid (by simp)
   omega
  ·exact i2 x hx
 | [], _, [], _, _, h, _, _ => by simp at h
 | [], _, _ :: _ :: _, _, _, h, _, _ => by simp at h
 | _ :: _, _, [], _, _, h, _, _ => by simp at h
theorem sep_join : ∀ {ka kb : List Nat} {sa sb : List Sub} {mid : Nat}, Sep ka sa → (∀ x ∈ Sub.all sa, x.1 < mid) → (∀ y ∈ Sub.all sb, mid ≤ y.1) → Sep kb sb → (∀ s ∈ sa, s.es ≠ []) → Sep (ka ++ mid :: kb) (sa ++ sb)
 | [], kb, [s], sb, mid, _, h2, h3, h4, _ => ⟨fun x hx => h2 x (by simpa [Sub.all] using hx), h3, h4⟩
 | k :: ka, kb, s :: sa, sb, mid, ⟨a1, a2, a3⟩, h2, h3, h4, hn => by
  have hsa := a3.len
  refine ⟨a1, ?_, sep_join a3 (fun x hx => h2 x (by rw [Sub.all_cons]; exact List.mem_append_right _ hx)) h3 h4 (fun s hs => hn s (by simp [hs]))⟩
  intro y hy0
  have hy1 : y ∈ Sub.all (sa ++ sb) := hy0
  rw [Sub.all_append] at hy1
  rcases List.mem_append.1 hy1 with hy | hy
  ·exact a2 y hy
  ·cases sa with
   | nil => simp at hsa
   | cons s' sa =>
    obtain ⟨x, hx⟩ := List.exists_mem_of_ne_nil _ (hn s' (by simp))
    have h5 := a2 x (by rw [Sub.all_cons]; exact List.mem_append_left _ hx)
    have h6 := h2 x (by rw [Sub.all_cons, Sub.all_cons]; exact List.mem_append_right _ (List.mem_append_left _ hx))
    have h7 := h3 y hy
    omega
 | [], _, [], _, _, h, _, _, _, _ => h.elim
 | [], _, _ :: _ :: _, _, _, h, _, _, _, _ => h.elim
 | _ :: _, _, [], _, _, h, _, _, _, _ => h.elim
theorem rise_take_drop {l : List Nat} (h : Rise l) {k : Nat} (hk : k < l.length) : (∀ x ∈ l.take k, x < l[k]) ∧ ∀ x ∈ l.drop k, l[k] ≤ x := by
 constructor
 ·intro x hx
  obtain ⟨i, hi, rfl⟩ := List.getElem_of_mem hx
  simp only [List.length_take] at hi
  simpa using List.pairwise_iff_getElem.1 h i k (by omega) hk (by omega)
 ·intro x hx
  obtain ⟨i, hi, rfl⟩ := List.getElem_of_mem hx
  simp only [List.length_drop] at hi
  rw [List.getElem_drop]
  rcases Nat.eq_zero_or_pos i with rfl | q
  ·exact Nat.le_refl _
  ·exact Nat.le_of_lt (List.pairwise_iff_getElem.1 h k (k + i) hk (by omega) (by omega))
theorem split_nt {g : Int → Nd → Prop} : ∀ {h : Nat} {d : Nd} {es : List Ent} {ps : List Int}, NT g h d es ps → ∀ {k : Nat}, 1 ≤ k → k + d.up < d.keys.length → ∃ e1 p1 e2 p2 mid, d.keys[k]? = some mid ∧ NT g h (d.front k) e1 p1 ∧ NT g h (d.back k) e2 p2 ∧ es = e1 ++ e2 ∧ ps = p1 ++ p2 ∧
  (∀ x ∈ e1, x.1 < mid) ∧ (∀ x ∈ e2, mid ≤ x.1) ∧ (d.front k).keys ≠ [] ∧ (d.back k).keys ≠ []
 | 0, d, es, ps, ⟨hl, p, e0, e00⟩, k, h1, h2 => by
  subst e0 e00
  have hv := valsLen p hl
  simp only [Nd.up, hl, if_true, Nat.add_zero] at h2
  have hrt := rise_take_drop p.rise h2
  have ef : (d.front k) = ⟨true, d.keys.take k, d.vals.take k, []⟩ := by simp [Nd.front, hl]
  have eb : (d.back k) = ⟨true, d.keys.drop k, d.vals.drop k, []⟩ := by simp [Nd.back, Nd.up, hl]
  have z1 : (d.keys.take k).zip (d.vals.take k) = d.ents.take k := (List.take_zipWith (f := Prod.mk)).symm
  have z2 : (d.keys.drop k).zip (d.vals.drop k) = d.ents.drop k := (List.drop_zipWith (f := Prod.mk)).symm
  refine ⟨(d.front k).ents, [], (d.back k).ents, [], d.keys[k], by simp [h2], ?_, ?_, ?_, rfl, ?_, ?_, ?_, ?_⟩
  ·rw [ef]
   exact ⟨rfl, ⟨p.rise.sublist (List.take_sublist _ _), fun x hx => p.key x (List.mem_of_mem_take hx), fun x hx => p.val x (List.mem_of_mem_take hx), by simp, by simp [hv], rfl⟩, rfl, rfl⟩
  ·rw [eb]
   exact ⟨rfl, ⟨p.rise.sublist (List.drop_sublist _ _), fun x hx => p.key x (List.mem_of_mem_drop hx), fun x hx => p.val x (List.mem_of_mem_drop hx), by simp, by simp [hv], rfl⟩, rfl, rfl⟩
  ·rw [ef, eb]; show d.ents = (d.keys.take k).zip (d.vals.take k) ++ (d.keys.drop k).zip (d.vals.drop k); rw [z1, z2, List.take_append_drop]
  ·intro x hx; rw [ef] at hx; exact hrt.1 _ (zip_fst_mem hx)
  ·intro x hx; rw [eb] at hx; exact hrt.2 _ (zip_fst_mem hx)
  ·rw [ef]; intro q; have := congrArg List.length q; simp only [List.length_take, List.length_nil] at this; omega
  ·rw [eb]; intro q; have := congrArg List.length q; simp only [List.length_drop, List.length_nil] at this; omega
 | h + 1, d, es, ps, ⟨hl, p, ss, f, e0, e00, sp⟩, k, h1, h2 => by
  subst e0 e00
  have hk := kidsLen p hl
  simp only [Nd.up, hl, Bool.false_eq_true, if_false] at h2
  have hk2 : k < d.keys.length := by omega
  have ef : (d.front k) = ⟨false, d.keys.take k, [], d.kids.take (k + 1)⟩ := by simp [Nd.front, hl]
  have eb : (d.back k) = ⟨false, d.keys.drop (k + 1), [], d.kids.drop (k + 1)⟩ := by simp [Nd.back, Nd.up, hl]
  have f2 := f
  rw [← List.take_append_drop (k + 1) d.kids] at f2
  obtain ⟨sa, sb, rfl, fa, fb⟩ := f2.split
  have hr := p.rise
  rw [take_cons_drop hk2] at hr sp
  have hsa : sa.length = (d.keys.take k).length + 1 := by rw [← fa.len]; simp; omega
  obtain ⟨s1, s2, s3, s4⟩ := sep_mid hsa hr sp
  refine ⟨Sub.all sa, Sub.pages sa, Sub.all sb, Sub.pages sb, d.keys[k], by simp [hk2], ?_, ?_, Sub.all_append _ _, Sub.pages_append _ _, s2, s3, ?_, ?_⟩
  ·rw [ef]
   exact nt_of (d := ⟨false, d.keys.take k, [], d.kids.take (k + 1)⟩) rfl rfl fa s1 (fun x hx => p.key x (List.mem_of_mem_take hx)) (fun x hx => p.kid x (List.mem_of_mem_take hx))
  ·rw [eb]
   exact nt_of (d := ⟨false, d.keys.drop (k + 1), [], d.kids.drop (k + 1)⟩) rfl rfl fb s4 (fun x hx => p.key x (List.mem_of_mem_drop hx)) (fun x hx => p.kid x (List.mem_of_mem_drop hx))
  ·rw [ef]; intro q; have := congrArg List.length q; simp only [List.length_take, List.length_nil] at this; omega
  ·rw [eb]; intro q; have := congrArg List.length q; simp only [List.length_drop, List.length_nil] at this; omega
theorem both_nt {g : Int → Nd → Prop} : ∀ {h : Nat} {a b : Nd} {e1 e2 : List Ent} {p1 p2 : List Int} {mid : Nat}, NT g h a e1 p1 → NT g h b e2 p2 → (∀ x ∈ e1, x.1 < mid) → (∀ x ∈ e2, mid ≤ x.1) → mid < 18446744073709551616 →
  NT g h (a.both mid b) (e1 ++ e2) (p1 ++ p2) ∧ (a.both mid b).size ≤ a.size + b.size + 7
 | 0, a, b, _, _, _, _, mid, ⟨la, pa, rfl, rfl⟩, ⟨lb, pb, rfl, rfl⟩, h1, h2, _ => by
  have va := valsLen pa la
  have vb := valsLen pb lb
  have ka := pa.kids; have kb := pb.kids
  simp only [la, lb, if_true] at ka kb
  have e : a.both mid b = ⟨true, a.keys ++ b.keys, a.vals ++ b.vals, a.kids ++ b.kids⟩ := by simp [Nd.both, la]
  rw [e]
  refine ⟨⟨rfl, ⟨List.pairwise_append.2 ⟨pa.rise, pb.rise, ?_⟩, ?_, ?_, ?_, by simp [va, vb], by simp [ka, kb]⟩, ?_, rfl⟩, ?_⟩
  ·intro x hx y hy
   obtain ⟨v, hv⟩ := (mem_ents pa la).1 hx
   obtain ⟨w, hw⟩ := (mem_ents pb lb).1 hy
   have := h1 _ hv; have := h2 _ hw; omega
  ·intro k hk; exact (List.mem_append.1 hk).elim (pa.key k) (pb.key k)
  ·intro k hk; exact (List.mem_append.1 hk).elim (pa.val k) (pb.val k)
  ·intro k hk; exact (List.mem_append.1 hk).elim (pa.kid k) (pb.kid k)
  ·exact (List.zip_append (by rw [va])).symm
  ·simp only [Nd.size, la, lb, if_true, List.length_append, sumL_append]; omega
 | h + 1, a, b, _, _, _, _, mid, ⟨la, pa, sa, fa, rfl, rfl, qa⟩, ⟨lb, pb, sb, fb, rfl, rfl, qb⟩, h1, h2, hm => by
  have ka := kidsLen pa la
  have kb := kidsLen pb lb
  have e : a.both mid b = ⟨false, a.keys ++ mid :: b.keys, a.vals ++ b.vals, a.kids ++ b.kids⟩ := by simp [Nd.both, la]
  rw [e, ← Sub.all_append, ← Sub.pages_append]
  refine ⟨nt_of (d := ⟨false, a.keys ++ mid :: b.keys, a.vals ++ b.vals, a.kids ++ b.kids⟩) rfl (by simp [noVals pa la, noVals pb lb]) (fa.append fb) (sep_join qa h1 h2 qb (some_of fa)) ?_ ?_, ?_⟩
  ·intro k hk
   simp only [List.mem_append, List.mem_cons] at hk
   rcases hk with hk | rfl | hk
   ·exact pa.key k hk
   ·exact hm
   ·exact pb.key k hk
  ·intro k hk; exact (List.mem_append.1 hk).elim (pa.kid k) (pb.kid k)
  ·simp only [Nd.size, la, lb, Bool.false_eq_true, if_false, List.length_append, List.length_cons]; omega
structure Two (g : Int → Nd → Prop) (h : Nat) (d : Nd) (j : Nat) (sl sr : List Sub) : Prop where
 good : d.good
 leaf : d.leaf = false
 jlt : j < d.keys.length
 ol : All2 (OnP g h) (d.kids.take j) sl
 orr : All2 (OnP g h) (d.kids.drop (j + 2)) sr
 spl : SepL (d.keys.take j) sl
 spr : SepR (d.keys.drop (j + 1)) sr
 lr : ∀ k ∈ d.keys.take j, ∀ y ∈ Sub.all sr, k ≤ y.1
def Fits2 (d : Nd) (j : Nat) (x : Nat) : Prop := (∀ k ∈ d.keys.take j, k ≤ x) ∧ ∀ k ∈ d.keys.drop (j + 1), x < k
theorem all2_snoc {α β : Type} {R : α → β → Prop} {l : List α} {a : α} {m : List β} (h : All2 R (l ++ [a]) m) : ∃ m' b, m = m' ++ [b] ∧ All2 R l m' ∧ R a b := by
 obtain ⟨m1, m2, rfl, h1, h2⟩ := h.split
 obtain ⟨b, m', rfl, h3, h4⟩ := all2_cons.1 h2
 rw [all2_nil.1 h4]
 exact ⟨m1, b, rfl, h1, h3⟩
theorem two_left {g : Int → Nd → Prop} {h : Nat} {d : Nd} {j : Nat} {sl sr : List Sub} (m : Mid g h d (j + 1) sl sr) : ∃ k sl' s, sl = sl' ++ [s] ∧ d.kids[j]? = some k ∧ OnP g h k s ∧ Two g h d j sl' sr ∧ (∀ x ∈ s.es, (∀ k ∈ d.keys.take j, k ≤ x.1) ∧ x.1 < d.keys.getD j 0) := by
 have p := m.good.p
 have hk := kidsLen p m.leaf
 have hj : j < d.keys.length := by have := m.ile; omega
 have o := m.ol
 have et : d.kids.take (j + 1) = d.kids.take j ++ [d.kids[j]] := by rw [List.take_succ_eq_append_getElem (by omega)]
 have ek : d.keys.take (j + 1) = d.keys.take j ++ [d.keys[j]] := by rw [List.take_succ_eq_append_getElem hj]
 rw [et] at o
 obtain ⟨sl', s, rfl, o1, o2⟩ := all2_snoc o
 have sp := m.spl
 have hlen : (d.keys.take j).length = sl'.length := by rw [← o1.len]; simp; omega
 rw [ek, sepL_app hlen] at sp
 obtain ⟨s1, s2, s3, s4, _⟩ := sp
 refine ⟨d.kids[j], sl', s, rfl, by simp [show j < d.kids.length by omega], o2, ⟨m.good, m.leaf, hj, o1, m.orr, s1, m.spr, fun k hk y hy => m.lr k (by rw [ek]; exact List.mem_append_left _ hk) y hy⟩, fun x hx => ⟨fun k hk => s2 k hk x (by simp [Sub.all, hx]), ?_⟩⟩
 have := s3 x hx
 simpa [List.getD, hj] using this
theorem two_right {g : Int → Nd → Prop} {h : Nat} {d : Nd} {j : Nat} {sl sr : List Sub} (m : Mid g h d j sl sr) (hj : j < d.keys.length) : ∃ k s sr', sr = s :: sr' ∧ d.kids[j + 1]? = some k ∧ OnP g h k s ∧ Two g h d j sl sr' ∧ (∀ x ∈ s.es, Fits2 d j x.1 ∧ d.keys.getD j 0 ≤ x.1) := by
 have p := m.good.p
 have hk := kidsLen p m.leaf
 have o := m.orr
 have hj2 : j + 1 < d.kids.length := by omega
 rw [List.drop_eq_getElem_cons hj2] at o
 obtain ⟨s, sr', rfl, o1, o2⟩ := all2_cons.1 o
 have sp := m.spr
 have ek : d.keys.drop j = d.keys[j] :: d.keys.drop (j + 1) := List.drop_eq_getElem_cons hj
 rw [ek] at sp
 obtain ⟨s1, s2⟩ := sp
 obtain ⟨s3, s4⟩ := sep_hole.1 s2
 refine ⟨d.kids[j + 1], s, sr', rfl, by simp [hj2], o1, ⟨m.good, m.leaf, hj, m.ol, o2, m.spl, s3, fun k hk y hy => m.lr k hk y (by simp [Sub.all_cons, hy])⟩, fun x hx => ⟨⟨fun k hk => m.lr k hk x (by simp [Sub.all_cons, hx]), ?_⟩, ?_⟩⟩
 ·intro k hk2
  cases hr : d.keys.drop (j + 1) with
  | nil => rw [hr] at hk2; simp at hk2
  | cons k0 ks =>
   have h0 := s4 k0 ks hr x hx
   have hrise : Rise (d.keys.drop (j + 1)) := p.rise.sublist (List.drop_sublist _ _)
   rw [hr] at hrise hk2
   rcases List.mem_cons.1 hk2 with rfl | hk2
   ·exact h0
   ·have := (List.pairwise_cons.1 hrise).1 k hk2; omega
 ·have := s1 x (by simp [Sub.all_cons, hx])
  simpa [List.getD, hj] using this
theorem set_take_drop {α : Type} {l : List α} {j : Nat} {a b : α} (h : j + 1 < l.length) : (l.set j a).set (j + 1) b = l.take j ++ a :: b :: l.drop (j + 2) := by
 apply List.ext_getElem?
 intro i
 rw [List.getElem?_set, List.getElem?_set]
 rcases Nat.lt_trichotomy i j with q | q | q
 ·rw [if_neg (by omega), if_neg (by omega), List.getElem?_append_left (by simp; omega), List.getElem?_take_of_lt q]
 ·subst q
  rw [if_neg (by omega), if_pos rfl, if_pos (by omega), List.getElem?_append_right (by simp; omega)]
  simp [show min i l.length = i by omega]
 ·rw [List.getElem?_append_right (by simp; omega)]
  simp only [List.length_take, List.length_set, show min j l.length = j by omega]
  rcases Nat.lt_or_ge (j + 1) i with q2 | q2
  ·rw [if_neg (by omega), if_neg (by omega), show i - j = (i - (j + 2)) + 2 by omega]
   simp [show j + 2 + (i - (j + 2)) = i by omega]
  ·obtain rfl : i = j + 1 := by omega
   rw [if_pos rfl, if_pos (by omega)]
   simp
theorem merge {g g' : Int → Nd → Prop} {h : Nat} {d : Nd} {j : Nat} {sl sr : List Sub} (m : Two g h d j sl sr) {k : Int} {s : Sub} (o : OnP g' h k s) (hk : 2 ≤ k ∧ k < 640) (hf : ∀ x ∈ s.es, Fits2 d j x.1) (same : ∀ p ∈ Sub.pages sl ++ Sub.pages sr, ∀ d, g p d → g' p d) :
  NT g' (h + 1) (Nd.unhang { d with kids := d.kids.set j k } j) (Sub.all sl ++ (s.es ++ Sub.all sr)) (Sub.pages sl ++ (s.ps ++ Sub.pages sr)) := by
 have p := m.good.p
 have hkl := kidsLen p m.leaf
 have hj := m.jlt
 have hlen : (d.keys.take j).length = sl.length := by rw [← m.ol.len]; simp; omega
 have ek : (Nd.unhang { d with kids := d.kids.set j k } j).kids = d.kids.take j ++ k :: d.kids.drop (j + 2) := by
  show laidL (d.kids.set j k) (j + 1) 1 [] = _
  have h1 : (d.kids.set j k).take (j + 1) = d.kids.take j ++ [k] := by
   rw [List.set_eq_take_append_cons_drop, if_pos (by omega), List.take_append]
   simp [List.take_take, show min j d.kids.length = j by omega]
  have h2 : (d.kids.set j k).drop (j + 1 + 1) = d.kids.drop (j + 2) := by rw [List.drop_set_of_lt (by omega)]
  simp [laidL, h1, h2]
 have ekk : (Nd.unhang { d with kids := d.kids.set j k } j).keys = d.keys.take j ++ d.keys.drop (j + 1) := by show laidL d.keys j 1 [] = _; simp [laidL]
 have := nt_of (g := g') (h := h) (d := Nd.unhang { d with kids := d.kids.set j k } j) (ss := sl ++ s :: sr) rfl rfl ?_ ?_ ?_ ?_
 ·simpa [Sub.all_append, Sub.all_cons, Sub.pages_append, Sub.pages_cons] using this
 ·rw [ek]
  exact (onP_all m.ol fun p hp => same p (by simp [hp])).append ⟨o, onP_all m.orr fun p hp => same p (by simp [hp])⟩
 ·rw [ekk, sep_app hlen]
  refine ⟨m.spl, ?_, sep_hole.2 ⟨m.spr, fun k ks e x hx => (hf x hx).2 k (by rw [e]; simp)⟩⟩
  intro k hk y hy
  rw [Sub.all_cons] at hy
  rcases List.mem_append.1 hy with hy | hy
  ·exact (hf y hy).1 k hk
  ·exact m.lr k hk y hy
 ·intro x hx
  rw [ekk] at hx
  exact (List.mem_append.1 hx).elim (fun h => p.key x (List.mem_of_mem_take h)) (fun h => p.key x (List.mem_of_mem_drop h))
 ·intro x hx
  rw [ek] at hx
  simp only [List.mem_append, List.mem_cons] at hx
  rcases hx with hx | rfl | hx
  ·exact p.kid x (List.mem_of_mem_take hx)
  ·exact hk
  ·exact p.kid x (List.mem_of_mem_drop hx)
theorem deal {g g' : Int → Nd → Prop} {h : Nat} {d : Nd} {j : Nat} {sl sr : List Sub} (m : Two g h d j sl sr) {k1 k2 : Int} {s1 s2 : Sub} {mid : Nat} (o1 : OnP g' h k1 s1) (o2 : OnP g' h k2 s2) (hk1 : 2 ≤ k1 ∧ k1 < 640) (hk2 : 2 ≤ k2 ∧ k2 < 640) (hm : mid < 18446744073709551616)
  (hf1 : ∀ x ∈ s1.es, Fits2 d j x.1 ∧ x.1 < mid) (hf2 : ∀ x ∈ s2.es, Fits2 d j x.1 ∧ mid ≤ x.1) (same : ∀ p ∈ Sub.pages sl ++ Sub.pages sr, ∀ d, g p d → g' p d) :
  NT g' (h + 1) { d with keys := d.keys.set j mid, kids := (d.kids.set j k1).set (j + 1) k2 } (Sub.all sl ++ (s1.es ++ s2.es ++ Sub.all sr)) (Sub.pages sl ++ (s1.ps ++ s2.ps ++ Sub.pages sr)) := by
 have p := m.good.p
 have hkl := kidsLen p m.leaf
 have hj := m.jlt
 have hlen : (d.keys.take j).length = sl.length := by rw [← m.ol.len]; simp; omega
 have ek : (d.kids.set j k1).set (j + 1) k2 = d.kids.take j ++ k1 :: k2 :: d.kids.drop (j + 2) := set_take_drop (by omega)
 have ekk : d.keys.set j mid = d.keys.take j ++ mid :: d.keys.drop (j + 1) := by rw [List.set_eq_take_append_cons_drop, if_pos hj]
 obtain ⟨x2, hx2⟩ := List.exists_mem_of_ne_nil _ o2.some
 rw [ek, ekk]
 have := nt_of (g := g') (h := h) (d := { d with keys := d.keys.take j ++ mid :: d.keys.drop (j + 1), kids := d.kids.take j ++ k1 :: k2 :: d.kids.drop (j + 2) }) (ss := sl ++ s1 :: s2 :: sr) m.leaf (show d.vals = [] from noVals p m.leaf) ?_ ?_ ?_ ?_
 ·simpa [Sub.all_append, Sub.all_cons, Sub.pages_append, Sub.pages_cons] using this
 ·exact (onP_all m.ol fun p hp => same p (by simp [hp])).append ⟨o1, o2, onP_all m.orr fun p hp => same p (by simp [hp])⟩
 ·show Sep (d.keys.take j ++ mid :: d.keys.drop (j + 1)) _
  rw [sep_app hlen]
  refine ⟨m.spl, ?_, ⟨fun x hx => (hf1 x hx).2, ?_, sep_hole.2 ⟨m.spr, fun k ks e x hx => (hf2 x hx).1.2 k (by rw [e]; simp)⟩⟩⟩
  ·intro k hk y hy
   simp only [Sub.all_cons, List.mem_append] at hy
   rcases hy with hy | hy | hy
   ·exact (hf1 y hy).1.1 k hk
   ·exact (hf2 y hy).1.1 k hk
   ·exact m.lr k hk y hy
  ·intro y hy
   rw [Sub.all_cons] at hy
   rcases List.mem_append.1 hy with hy | hy
   ·exact (hf2 y hy).2
   ·have hsr := m.spr
    cases hr : d.keys.drop (j + 1) with
    | nil => rw [hr] at hsr; cases sr with
     | nil => simp [Sub.all] at hy
     | cons => exact hsr.elim
    | cons k0 ks =>
     rw [hr] at hsr
     have h1 := hsr.1 y hy
     have h2 := (hf2 x2 hx2).1.2 k0 (by rw [hr]; simp)
     have h3 := (hf2 x2 hx2).2
     omega
 ·intro k hk
  simp only [List.mem_append, List.mem_cons] at hk
  rcases hk with hk | rfl | hk
  ·exact p.key k (List.mem_of_mem_take hk)
  ·exact hm
  ·exact p.key k (List.mem_of_mem_drop hk)
 ·intro x hx
  simp only [List.mem_append, List.mem_cons] at hx
  rcases hx with hx | rfl | rfl | hx
  ·exact p.kid x (List.mem_of_mem_take hx)
  ·exact hk1
  ·exact hk2
  ·exact p.kid x (List.mem_of_mem_drop hx)
theorem OnP.high {g : Int → Nd → Prop} : ∀ {h : Nat} {k : Int} {s : Sub}, OnP g h k s → 2 ^ (h + 1) ≤ s.ps.length + 1
 | 0, k, s, ⟨d', ps', a1, a2, a3, a4, a5⟩ => by rw [a5]; simp
 | h + 1, k, s, ⟨d', ps', a1, a2, a3, ⟨l, p, ss, f, e, e2, sp⟩, a5⟩ => by
  have hk := sp.len
  have hne := a3 l
  have hlen : 1 ≤ d'.keys.length := by
   cases h0 : d'.keys with
   | nil => exact absurd h0 hne
   | cons => simp
  match ss, f with
  | [], _ => simp at hk
  | [_], _ => simp only [List.length_cons, List.length_nil] at hk; omega
  | s1 :: s2 :: ss, f =>
   have h1 := f.right (p := fun s => 2 ^ (h + 1) ≤ s.ps.length + 1) (fun k s o => OnP.high (h := h) o)
   have q1 : 2 ^ (h + 1) ≤ s1.ps.length + 1 := h1 s1 (by simp)
   have q2 : 2 ^ (h + 1) ≤ s2.ps.length + 1 := h1 s2 (by simp)
   have hz : s.ps.length = s1.ps.length + (s2.ps.length + (Sub.pages ss).length) + 1 := by rw [a5, e2, Sub.pages_cons, Sub.pages_cons]; simp only [List.length_cons, List.length_append]
   rw [Nat.pow_succ]
   omega
structure Spot where
 pg : Int
 d : Nd
 i : Nat
def FitsP : List Spot → Nat → Prop
 | [], _ => True
 | s :: path, x => FitsAt s.d s.i x ∧ FitsP path x
def Way (g : Int → Nd → Prop) : List Spot → Nat → List Ent → List Ent → List Int → Prop
 | [], _, L, R, ps => L = [] ∧ R = [] ∧ ps = []
 | s :: path, h, L, R, ps => ∃ L' R' ps' sl sr, Way g path (h + 1) L' R' ps' ∧ g s.pg s.d ∧ Mid g h s.d s.i sl sr ∧ (∀ y ∈ Sub.all sl ++ Sub.all sr, FitsP path y.1) ∧ L = L' ++ Sub.all sl ∧ R = Sub.all sr ++ R' ∧ ps = s.pg :: (Sub.pages sl ++ (Sub.pages sr ++ ps'))
theorem Mid.same {g g' : Int → Nd → Prop} {h : Nat} {d : Nd} {i : Nat} {sl sr : List Sub} (m : Mid g h d i sl sr) (k : ∀ p ∈ Sub.pages sl ++ Sub.pages sr, ∀ d, g p d → g' p d) : Mid g' h d i sl sr :=
 ⟨m.good, m.leaf, m.ne, m.ile, onP_all m.ol fun p hp => k p (by simp [hp]), onP_all m.orr fun p hp => k p (by simp [hp]), m.spl, m.spr, m.lr⟩
theorem Way.same {g g' : Int → Nd → Prop} : ∀ {path : List Spot} {h : Nat} {L R : List Ent} {ps : List Int}, Way g path h L R ps → (∀ p ∈ ps, ∀ d, g p d → g' p d) → Way g' path h L R ps
 | [], _, _, _, _, w, _ => w
 | s :: path, h, L, R, ps, ⟨L', R', ps', sl, sr, w, a1, a2, a3, e1, e2, e3⟩, k => by
  subst e1 e2 e3
  exact ⟨L', R', ps', sl, sr, w.same (fun p hp => k p (by simp [hp])), k _ (by simp) _ a1, a2.same (fun p hp => k p (by simp only [List.mem_append] at hp; simp only [List.mem_cons, List.mem_append]; exact .inr (hp.elim .inl fun q => .inr (.inl q)))), a3, rfl, rfl, rfl⟩
theorem Way.lt {g : Int → Nd → Prop} : ∀ {path : List Spot} {h : Nat} {L R : List Ent} {ps : List Int}, Way g path h L R ps → ∀ {x : Nat}, FitsP path x → (∀ e ∈ L, e.1 < x) ∧ ∀ e ∈ R, x < e.1
 | [], _, _, _, _, ⟨rfl, rfl, rfl⟩, _, _ => ⟨by simp, by simp⟩
 | s :: path, h, L, R, ps, ⟨L', R', ps', sl, sr, w, a1, a2, a3, e1, e2, e3⟩, x, ⟨f1, f2⟩ => by
  subst e1 e2 e3
  obtain ⟨i1, i2⟩ := w.lt f2
  constructor
  ·intro e he
   rcases List.mem_append.1 he with he | he
   ·exact i1 e he
   ·-- what stands to the left is below one of the keys
    have : ∀ {ks : List Nat} {ss : List Sub}, SepL ks ss → ∀ e ∈ Sub.all ss, ∃ k ∈ ks, e.1 < k := by
     intro ks
     induction ks with
     | nil => intro ss h e he; cases ss with
      | nil => simp [Sub.all] at he
      | cons => exact h.elim
     | cons k ks ih =>
      intro ss h e he
      cases ss with
      | nil => exact h.elim
      | cons s0 ss =>
       rw [Sub.all_cons] at he
       rcases List.mem_append.1 he with he | he
       ·exact ⟨k, by simp, h.1 e he⟩
       ·obtain ⟨k', h1, h2⟩ := ih h.2.2 e he
        exact ⟨k', by simp [h1], h2⟩
    obtain ⟨k, hk, h1⟩ := this a2.spl e he
    have := f1.1 k hk
    omega
  ·intro e he
   rcases List.mem_append.1 he with he | he
   ·have hsr := a2.spr
    cases hr : s.d.keys.drop s.i with
    | nil => rw [hr] at hsr; cases sr with
     | nil => simp [Sub.all] at he
     | cons => exact hsr.elim
    | cons k0 ks =>
     rw [hr] at hsr
     have h1 := hsr.1 e he
     have h2 := f1.2 k0 (by rw [hr]; simp)
     omega
   ·exact i2 e he
end Go.Proofs.YtelfjhemnnbbpaaGreat
set_option maxRecDepth 20000
namespace Go.Proofs.YtelfjhemnnbbpaaGreat
open Go.Proofs.YtelfjhemnnbbpaaGreat.SL
structure Rw where
 p1 : Option Addr
 c1 : Nat
 p2 : Option Addr
 c2 : Nat
 p3 : Option Addr
 c3 : Nat
abbrev ndA (d : Nd) (r : Rw) : Array Value := #[.bool d.leaf, .slice r.p1 d.keys.length r.c1, .slice r.p2 d.vals.length r.c2, .slice r.p3 d.kids.length r.c3]
abbrev ndV (d : Nd) (r : Rw) : Value := .agg (ndA d r)
abbrev NdsK (d : Nd) (r : Rw) (_ : Unit) : List SProp := [vec 78 1 r.p1 d.keys.length r.c1 (uV d.keys), vec 9 1 r.p2 d.vals.length r.c2 (d.vals.map encS), vec 3 1 r.p3 d.kids.length r.c3 (d.kids.map encZ')]
def Nds (d : Nd) (r : Rw) : SProp := hid (fun _ : Unit => True) (NdsK d r)
theorem sGet {l : List (List UInt8)} {k : Nat} (h : k < l.length) : (l.map encS)[0 + ((k : Nat) : Int).toNat * 1]? = some (.string (str (l.getD k []))) := by
 rw [Nat.zero_add, Nat.mul_one, Int.toNat_natCast]
 simp [List.getD, h, encS]
theorem uGet {l : List Nat} {k : Nat} (h : k < l.length) : (uV l)[0 + ((k : Nat) : Int).toNat * 1]? = some (.int .u64 (l.getD k 0 : Nat)) := by
 rw [Nat.zero_add, Nat.mul_one, Int.toNat_natCast]
 simp [List.getD, h, uV]
theorem iGet {l : List Int} {k : Nat} (h : k < l.length) : (l.map encZ')[0 + ((k : Nat) : Int).toNat * 1]? = some (.int .i64 (l.getD k 0)) := by
 rw [Nat.zero_add, Nat.mul_one, Int.toNat_natCast]
 simp [List.getD, h, encZ']
set_option maxHeartbeats 1000000 in
theorem ndSize_does (d : Nd) (r : Rw) (hf : d.fits) : Does Tryz.prog 100 [ndV d r] [Nds d r] (fun v H => v = .int .i64 d.size ∧ H = [Nds d r]) := by
 obtain ⟨f1, f2, f3, f4⟩ := hf
 obtain ⟨leaf, keys, vals, kids⟩ := d
 obtain ⟨p1, c1, p2, c2, p3, c3⟩ := r
 dsimp only at f1 f2 f3 f4 ⊢
 have e1 : IntKind.i64.wrap (8 * (keys.length : Int)) = 8 * (keys.length : Int) := wrapI64 (by omega)
 have e2 : IntKind.i64.wrap (1 + 8 * (keys.length : Int)) = ((1 + 8 * keys.length : Nat) : Int) := by rw [wrapI64 (by omega)]; omega
 have e3 : IntKind.i64.wrap (2 * (kids.length : Int)) = ((2 * kids.length : Nat) : Int) := by rw [wrapI64 (by omega)]; omega
 have e4 : IntKind.i64.wrap (((1 + 8 * keys.length : Nat) : Int) + ((2 * kids.length : Nat) : Int)) = ((1 + 8 * keys.length + 2 * kids.length : Nat) : Int) := by rw [wrapI64 (by omega)]; omega
 have e5 : IntKind.i64.wrap (((1 + 8 * keys.length : Nat) : Int) + (keys.length : Int)) = ((1 + 8 * keys.length + keys.length : Nat) : Int) := by rw [wrapI64 (by omega)]; omega
 cases leaf
 ·refine does_of Tryz.func100 Tryz.ntmps100 rfl rfl rfl (fun w0 F0 => ?_)
  (repeat' (first|refine g_seq (h:=?_)|refine g_region (h:=?_)|refine l_nil (h:=?_)|refine n_then (h:=?_)|refine l_pures1 (h:=?_)|refine l_load (h:=?_)|(refine l_box (h:=?_); intro _)|refine g_ret (h:=?_)|refine n_then_ret (h:=?_)|refine g_cond_t (h:=?_)))
  rw [e1, e2, e3, e4]
  refine r_retk [Nds ⟨false, keys, vals, kids⟩ ⟨p1, c1, p2, c2, p3, c3⟩] ?_
  exact ⟨rfl, rfl⟩
 ·refine does_of Tryz.func100 Tryz.ntmps100 rfl rfl rfl (fun w0 F0 => ?_)
  refine g_open (A := Nds ⟨true, keys, vals, kids⟩ ⟨p1, c1, p2, c2, p3, c3⟩) (h:=?_); (rintro _ _; dsimp only [NdsK, List.cons_append, List.nil_append])
  (repeat' (first|refine g_seq (h:=?_)|refine g_region (h:=?_)|refine l_nil (h:=?_)|refine n_then (h:=?_)|refine l_pures1 (h:=?_)|refine l_load (h:=?_)|(refine l_box (h:=?_); intro _)|refine g_skip (h:=?_)|refine g_block (h:=?_)|refine g_cond_f (h:=?_)))
  rw [e1, e2, e5]
  rename_i b
  (refine g_loop (fun k : Nat => [(28, .int .i64 k), (3, .int .i64 (1 + 8 * keys.length + keys.length + sumL (vals.take k) : Nat)), (27, .int .i64 vals.length), (26, .slice p2 vals.length c2)]) (fun _ => NdsK ⟨true, keys, vals, kids⟩ ⟨p1, c1, p2, c2, p3, c3⟩ ()) (fun k => k ≤ vals.length) (fun k => vals.length - k) (0) ?_ ?_ ?_ ?_; rotate_left; (repeat (first | refine ts_nil | (refine ts_cons rfl ?_ ?_; first | (with_reducible rfl) | rotate_left))); (first | (intro _ i; with_reducible refine i) | rotate_left); rotate_left; (try omega); rotate_right)
  ·intro k hk
   dsimp only [NdsK]
   (repeat' (first|refine g_seq (h:=?_)|refine g_region (h:=?_)|refine l_nil (h:=?_)|refine n_then (h:=?_)|refine l_pures1 (h:=?_)|refine g_skip (h:=?_)|refine g_ret (h:=?_)|refine g_block (h:=?_)|refine g_exit (h:=?_)|refine n_then_exit (h:=?_)|refine n_block_hit (h:=?_)|(refine g_sp (h1 := ?_) (h0 := ?_) <;> intro h)))
   ·have hlt : k < vals.length := by omega
    refine l_ptr (m := vals.length) (h:=?_); rintro g rfl hc
    have hg := sGet hlt
    have e6 := sumL_take_succ hlt
    have e7 := sumL_take_le vals (k + 1)
    (repeat' (first|refine g_region (h:=?_)|refine l_nil (h:=?_)|refine n_then (h:=?_)|refine l_pures1 (h:=?_)|refine l_indexAddr (h:=?_)|refine n_block (h:=?_)|refine l_load_vec (h:=?_)))
    (refine n_back (k + 1) ?_ ?_ ?_ ?_; rotate_left; rotate_left; (repeat (first | refine ts_nil | (refine ts_cons rfl ?_ ?_; first | (with_reducible rfl) | rotate_left))); (first | (intro _ i; with_reducible refine i) | rotate_left); (try omega); (try omega))
    ·rw [wrapI64 (by omega)]; rfl
    ·rw [e6]; refine congrArg (Value.int .i64) ((wrapI64 ?_).trans ?_) <;> (try constructor) <;> omega
   ·obtain rfl : k = vals.length := by omega
    (refine n_shut (A := Nds ⟨true, keys, vals, kids⟩ ⟨p1, c1, p2, c2, p3, c3⟩) (K := NdsK ⟨true, keys, vals, kids⟩ ⟨p1, c1, p2, c2, p3, c3⟩ (())) (hid_shuts (()) trivial) (h:=?_) (p := by dsimp only [NdsK]; (try simp only [List.map_nil, List.length_nil, List.length_set, List.length_append, List.length_cons, List.length_singleton, List.map_append, List.map_cons, Nat.zero_add]); exact parts_of))
    refine r_retk [Nds ⟨true, keys, vals, kids⟩ ⟨p1, c1, p2, c2, p3, c3⟩] ?_
    exact ⟨by rw [List.take_length]; rfl, rfl⟩
  ·rfl
  ·simp [sumL]
  ·(intro _ i; exact inv_keep parts_of i)
theorem Find_does (d : Nd) (r : Rw) (x : Nat) (hf : d.fits) (hs : Rise d.keys) : Does Tryz.prog 97 [ndV d r, .int .u64 x] [Nds d r]
  (fun v H => v = .tuple #[.int .i64 (if d.leaf then posN d.keys x else cntN d.keys x : Nat), .bool (if d.leaf then decide (x ∈ d.keys) else true)] ∧ H = [Nds d r]) := by
 have hk := hf.k
 have hp := posN_le d.keys x
 obtain ⟨leaf, keys, vals, kids⟩ := d
 obtain ⟨p1, c1, p2, c2, p3, c3⟩ := r
 dsimp only at hk hs hp ⊢
 cases leaf
 ·refine does_of Tryz.func97 Tryz.ntmps97 rfl rfl rfl (fun w0 F0 => ?_)
  refine g_open (A := Nds ⟨false, keys, vals, kids⟩ ⟨p1, c1, p2, c2, p3, c3⟩) (h:=?_); (rintro _ _; dsimp only [NdsK, List.cons_append, List.nil_append])
  (repeat' (first|refine g_seq (h:=?_)|refine g_region (h:=?_)|refine l_nil (h:=?_)|refine n_then (h:=?_)|refine l_pures1 (h:=?_)|(refine l_atc ?_; refine l_call (place_does keys x p1 c1 (by omega) hs) ?_)|refine l_load (h:=?_)|(refine l_box (h:=?_); intro _)|refine g_skip (h:=?_)|refine g_ret (h:=?_)|refine g_cond_f (h:=?_)|(refine g_sp (h1 := ?_) (h0 := ?_) <;> intro h)))
  ·(refine n_shut (A := Nds ⟨false, keys, vals, kids⟩ ⟨p1, c1, p2, c2, p3, c3⟩) (K := NdsK ⟨false, keys, vals, kids⟩ ⟨p1, c1, p2, c2, p3, c3⟩ (())) (hid_shuts (()) trivial) (h:=?_) (p := by dsimp only [NdsK]; (try simp only [List.map_nil, List.length_nil, List.length_set, List.length_append, List.length_cons, List.length_singleton, List.map_append, List.map_cons, Nat.zero_add]); exact parts_of))
   refine r_retk [Nds ⟨false, keys, vals, kids⟩ ⟨p1, c1, p2, c2, p3, c3⟩] ?_
   refine ⟨?_, rfl⟩
   rw [wrapI64 (by omega), if_neg (by simp), cntN, if_pos h]; rfl
  ·(refine n_shut (A := Nds ⟨false, keys, vals, kids⟩ ⟨p1, c1, p2, c2, p3, c3⟩) (K := NdsK ⟨false, keys, vals, kids⟩ ⟨p1, c1, p2, c2, p3, c3⟩ (())) (hid_shuts (()) trivial) (h:=?_) (p := by dsimp only [NdsK]; (try simp only [List.map_nil, List.length_nil, List.length_set, List.length_append, List.length_cons, List.length_singleton, List.map_append, List.map_cons, Nat.zero_add]); exact parts_of))
   refine r_retk [Nds ⟨false, keys, vals, kids⟩ ⟨p1, c1, p2, c2, p3, c3⟩] ?_
   refine ⟨?_, rfl⟩
   rw [if_neg (by simp), cntN, if_neg h]; rfl
 ·refine does_of Tryz.func97 Tryz.ntmps97 rfl rfl rfl (fun w0 F0 => ?_)
  refine g_open (A := Nds ⟨true, keys, vals, kids⟩ ⟨p1, c1, p2, c2, p3, c3⟩) (h:=?_); (rintro _ _; dsimp only [NdsK, List.cons_append, List.nil_append])
  (repeat' (first|refine g_seq (h:=?_)|refine g_region (h:=?_)|refine l_nil (h:=?_)|refine n_then (h:=?_)|refine l_pures1 (h:=?_)|(refine l_atc ?_; refine l_call (place_does keys x p1 c1 (by omega) hs) ?_)|refine l_load (h:=?_)|(refine l_box (h:=?_); intro _)|refine g_ret (h:=?_)|refine n_then_ret (h:=?_)|refine g_cond_t (h:=?_)))
  (refine n_shut (A := Nds ⟨true, keys, vals, kids⟩ ⟨p1, c1, p2, c2, p3, c3⟩) (K := NdsK ⟨true, keys, vals, kids⟩ ⟨p1, c1, p2, c2, p3, c3⟩ (())) (hid_shuts (()) trivial) (h:=?_) (p := by dsimp only [NdsK]; (try simp only [List.map_nil, List.length_nil, List.length_set, List.length_append, List.length_cons, List.length_singleton, List.map_append, List.map_cons, Nat.zero_add]); exact parts_of))
  refine r_retk [Nds ⟨true, keys, vals, kids⟩ ⟨p1, c1, p2, c2, p3, c3⟩] ?_
  exact ⟨rfl, rfl⟩
theorem long_does (s : List UInt8) (h : s.length ≤ 40) : Does Tryz.prog 162 [.string (str s)] [] (fun v H => v = .bool false ∧ H = []) := by
 refine does_of Tryz.func162 Tryz.ntmps162 rfl rfl rfl (fun w0 F0 => ?_)
 (repeat (first|refine g_seq (h:=?_)|refine g_region (h:=?_)|refine l_nil (h:=?_)|refine n_then (h:=?_)|refine l_pures1 (h:=?_)|refine g_ret (h:=?_)))
 refine r_ret ?_
 exact ⟨by rw [decide_eq_false (show ¬ (s.length : Int) > 40 by omega)]; rfl, rfl⟩
theorem wrong_does (k : Int) (h : 2 ≤ k ∧ k < 640) : Does Tryz.prog 163 [.int .i64 k] [] (fun v H => v = .bool false ∧ H = []) := by
 refine does_of Tryz.func163 Tryz.ntmps163 rfl rfl rfl (fun w0 F0 => ?_)
 (repeat' (first|refine g_seq (h:=?_)|refine g_region (h:=?_)|refine l_nil (h:=?_)|refine n_then (h:=?_)|refine l_pures1 (h:=?_)|refine l_guard_yes (h:=?_)|refine g_ret (h:=?_)|(refine l_spF (h:=?_); intro h)))
 refine r_ret ?_
 exact ⟨by rw [decide_eq_false (show ¬ (k : Int) ≥ 640 by omega)]; rfl, rfl⟩
theorem IndexS_does (l : List (List UInt8)) (p : Option Addr) (c : Nat) (hl : l.length < 100000) (hh : ∀ s ∈ l, s.length ≤ 40) : Does Tryz.prog 166 [.slice p l.length c, .func (.func 162) #[] #[]] [vec 9 1 p l.length c (l.map encS)]
  (fun v H => v = .int .i64 (-1) ∧ H = [vec 9 1 p l.length c (l.map encS)]) := by
 refine does_of Tryz.func166 Tryz.ntmps166 rfl rfl rfl (fun w0 F0 => ?_)
 (repeat' (first|refine g_seq (h:=?_)|refine g_region (h:=?_)|refine l_nil (h:=?_)|refine n_then (h:=?_)|refine l_pures1 (h:=?_)|refine g_block (h:=?_)))
 (refine g_loop (fun k : Nat => [(8, .int .i64 k), (7, .int .i64 l.length), (0, .slice p l.length c), (1, .func (.func 162) #[] #[])]) (fun _ => [vec 9 1 p l.length c (l.map encS)]) (fun k => k ≤ l.length) (fun k => l.length - k) (0) ?_ ?_ ?_ ?_; rotate_left; (repeat (first | refine ts_nil | (refine ts_cons rfl ?_ ?_; first | (with_reducible rfl) | rotate_left))); (first | (intro _ i; with_reducible refine i) | rotate_left); rotate_left; (try omega); rotate_right)
 ·intro k hk
  (repeat' (first|refine g_seq (h:=?_)|refine g_region (h:=?_)|refine l_nil (h:=?_)|refine n_then (h:=?_)|refine l_pures1 (h:=?_)|refine g_skip (h:=?_)|refine g_ret (h:=?_)|refine g_block (h:=?_)|refine g_exit (h:=?_)|refine n_then_exit (h:=?_)|refine n_block_hit (h:=?_)|(refine g_sp (h1 := ?_) (h0 := ?_) <;> intro h)))
  ·have hlt : k < l.length := by omega
   refine l_ptr (m := l.length) (h:=?_); rintro g rfl hc
   have hg := sGet hlt
   have hm : (l.getD k []).length ≤ 40 := by simp only [List.getD, List.getElem?_eq_getElem hlt, Option.getD_some]; exact hh _ (List.getElem_mem hlt)
   (repeat' (first|refine g_region (h:=?_)|refine l_nil (h:=?_)|refine n_then (h:=?_)|refine l_pures1 (h:=?_)|(refine l_atc ?_; refine l_call (long_does (l.getD k []) hm) ?_)|refine l_indexAddr (h:=?_)|refine g_skip (h:=?_)|refine n_block (h:=?_)|refine g_cond_f (h:=?_)|refine l_load_vec (h:=?_)))
   (refine n_back (k + 1) ?_ ?_ ?_ ?_; rotate_left; rotate_left; (repeat (first | refine ts_nil | (refine ts_cons rfl ?_ ?_; first | (with_reducible rfl) | rotate_left))); (first | (intro _ i; with_reducible refine i) | rotate_left); (try omega); (try omega))
   rw [wrapI64 (by omega)]; rfl
  ·refine r_ret ?_
   exact ⟨rfl, rfl⟩
 ·rfl
theorem IndexI_does (l : List Int) (p : Option Addr) (c : Nat) (hl : l.length < 100000) (hh : ∀ s ∈ l, 2 ≤ s ∧ s < 640) : Does Tryz.prog 167 [.slice p l.length c, .func (.func 163) #[] #[]] [vec 3 1 p l.length c (l.map encZ')]
  (fun v H => v = .int .i64 (-1) ∧ H = [vec 3 1 p l.length c (l.map encZ')]) := by
 refine does_of Tryz.func167 Tryz.ntmps167 rfl rfl rfl (fun w0 F0 => ?_)
 (repeat' (first|refine g_seq (h:=?_)|refine g_region (h:=?_)|refine l_nil (h:=?_)|refine n_then (h:=?_)|refine l_pures1 (h:=?_)|refine g_block (h:=?_)))
 (refine g_loop (fun k : Nat => [(8, .int .i64 k), (7, .int .i64 l.length), (0, .slice p l.length c), (1, .func (.func 163) #[] #[])]) (fun _ => [vec 3 1 p l.length c (l.map encZ')]) (fun k => k ≤ l.length) (fun k => l.length - k) (0) ?_ ?_ ?_ ?_; rotate_left; (repeat (first | refine ts_nil | (refine ts_cons rfl ?_ ?_; first | (with_reducible rfl) | rotate_left))); (first | (intro _ i; with_reducible refine i) | rotate_left); rotate_left; (try omega); rotate_right)
 ·intro k hk
  (repeat' (first|refine g_seq (h:=?_)|refine g_region (h:=?_)|refine l_nil (h:=?_)|refine n_then (h:=?_)|refine l_pures1 (h:=?_)|refine g_skip (h:=?_)|refine g_ret (h:=?_)|refine g_block (h:=?_)|refine g_exit (h:=?_)|refine n_then_exit (h:=?_)|refine n_block_hit (h:=?_)|(refine g_sp (h1 := ?_) (h0 := ?_) <;> intro h)))
  ·have hlt : k < l.length := by omega
   refine l_ptr (m := l.length) (h:=?_); rintro g rfl hc
   have hg := iGet hlt
   have hm : 2 ≤ l.getD k 0 ∧ l.getD k 0 < 640 := by simp only [List.getD, List.getElem?_eq_getElem hlt, Option.getD_some]; exact hh _ (List.getElem_mem hlt)
   (repeat' (first|refine g_region (h:=?_)|refine l_nil (h:=?_)|refine n_then (h:=?_)|refine l_pures1 (h:=?_)|(refine l_atc ?_; refine l_call (wrong_does (l.getD k 0) hm) ?_)|refine l_indexAddr (h:=?_)|refine g_skip (h:=?_)|refine n_block (h:=?_)|refine g_cond_f (h:=?_)|refine l_load_vec (h:=?_)))
   (refine n_back (k + 1) ?_ ?_ ?_ ?_; rotate_left; rotate_left; (repeat (first | refine ts_nil | (refine ts_cons rfl ?_ ?_; first | (with_reducible rfl) | rotate_left))); (first | (intro _ i; with_reducible refine i) | rotate_left); (try omega); (try omega))
   rw [wrapI64 (by omega)]; rfl
  ·refine r_ret ?_
   exact ⟨rfl, rfl⟩
 ·rfl
theorem ContainsS_does (l : List (List UInt8)) (p : Option Addr) (c : Nat) (hl : l.length < 100000) (hh : ∀ s ∈ l, s.length ≤ 40) : Does Tryz.prog 164 [.slice p l.length c, .func (.func 162) #[] #[]] [vec 9 1 p l.length c (l.map encS)]
  (fun v H => v = .bool false ∧ H = [vec 9 1 p l.length c (l.map encS)]) := by
 refine does_of Tryz.func164 Tryz.ntmps164 rfl rfl rfl (fun w0 F0 => ?_)
 (repeat (first|refine g_seq (h:=?_)|refine g_region (h:=?_)|refine l_nil (h:=?_)|refine n_then (h:=?_)|refine l_pures1 (h:=?_)|(refine l_atc ?_; refine l_call (IndexS_does l p c hl hh) ?_)|refine g_ret (h:=?_)))
 refine r_ret ?_
 exact ⟨rfl, rfl⟩
theorem ContainsI_does (l : List Int) (p : Option Addr) (c : Nat) (hl : l.length < 100000) (hh : ∀ s ∈ l, 2 ≤ s ∧ s < 640) : Does Tryz.prog 165 [.slice p l.length c, .func (.func 163) #[] #[]] [vec 3 1 p l.length c (l.map encZ')]
  (fun v H => v = .bool false ∧ H = [vec 3 1 p l.length c (l.map encZ')]) := by
 refine does_of Tryz.func165 Tryz.ntmps165 rfl rfl rfl (fun w0 F0 => ?_)
 (repeat (first|refine g_seq (h:=?_)|refine g_region (h:=?_)|refine l_nil (h:=?_)|refine n_then (h:=?_)|refine l_pures1 (h:=?_)|(refine l_atc ?_; refine l_call (IndexI_does l p c hl hh) ?_)|refine g_ret (h:=?_)))
 refine r_ret ?_
 exact ⟨rfl, rfl⟩
end Go.Proofs.YtelfjhemnnbbpaaGreat

/- Texts NdH, TrB, Page, Bits, BitsL, Shad, ShadW, ShadH, ShadM, LayQ, LayS, Sorted, LayR, Rep, Count, DiskN, ShadC, TrW, TrV, joined. -/
import Derived.Shelf.Strings.Repeat
import Derived.Shelf.SlIterI.Nil
import Derived.Shelf.SortM.Plain
import Derived.Shelf.SortM.SortNone
import Derived.Ground.NamesProg
import Derived.Ground.GgzProg
import Derived.Ground.SlgmProg
import Derived.Test.YtmfmommgooccnaaGreatProg
import Derived.KernelRfl
import Derived.Test.YtmfmommgooccnaaGreatK06
/- Package node: what makes nodes of nodes. -/
set_option maxRecDepth 20000
set_option linter.unusedVariables false
set_option linter.unusedSimpArgs false
namespace Go.Proofs.YtmfmommgooccnaaGreat
open Go.Proofs.YtmfmommgooccnaaGreat.SL

theorem laidU1 (l : List Nat) (p : Option Addr) (c at' gone mb mc : Nat) (x : Nat) (aa ga : Int) (ha : aa = at') (hg : ga = gone) (hm : l.length < 100000) (h1 : at' < 100000) (h2 : gone < 100000) :
    Does Tryz.prog 154 [.slice p l.length c, .int .i64 aa, .int .i64 ga, .slice (some ⟨mb, 0, none⟩) 1 mc] [vec 30 1 p l.length c (uV l), cl mb 30 [.int .u64 (x : Nat)]]
      (fun v H => ∃ p' c', v = .slice p' (laidL l at' gone [x]).length c' ∧ H = [vec 30 1 p' (laidL l at' gone [x]).length c' (uV ((laidL l at' gone [x]))), vec 30 1 p l.length c (uV l)]) := by
  subst ha hg
  have e : laidL (uV l) at' gone [.int .u64 (x : Nat)] = uV ((laidL l at' gone [x])) := (laidL_map _ l at' gone [x]).symm
  have := laidU_one (uV l) p l.length c at' gone mb mc (.int .u64 (x : Nat)) (by simp [uV, Value.oneCell']) rfl hm h1 h2
  rw [e] at this
  simp only [uV_len] at this
  exact this
theorem laidU0 (l : List Nat) (p : Option Addr) (c at' gone : Nat) (aa ga : Int) (ha : aa = at') (hg : ga = gone) (hm : l.length < 100000) (h1 : at' < 100000) (h2 : gone < 100000) :
    Does Tryz.prog 154 [.slice p l.length c, .int .i64 aa, .int .i64 ga, .slice none 0 0] [vec 30 1 p l.length c (uV l)]
      (fun v H => ∃ p' c', v = .slice p' (laidL l at' gone []).length c' ∧ H = [vec 30 1 p' (laidL l at' gone []).length c' (uV (laidL l at' gone [])), vec 30 1 p l.length c (uV l)]) := by
  subst ha hg
  have e : laidL (uV l) at' gone [] = uV (laidL l at' gone []) := (laidL_map _ l at' gone []).symm
  have := laidU_none (uV l) p l.length c at' gone (by simp [uV, Value.oneCell']) hm h1 h2
  rw [e] at this
  simp only [uV_len] at this
  exact this

theorem laidS1 (l : List (List UInt8)) (p : Option Addr) (c at' gone mb mc : Nat) (x : List UInt8) (aa ga : Int) (ha : aa = at') (hg : ga = gone) (hm : l.length < 100000) (h1 : at' < 100000) (h2 : gone < 100000) :
    Does Tryz.prog 155 [.slice p l.length c, .int .i64 aa, .int .i64 ga, .slice (some ⟨mb, 0, none⟩) 1 mc] [vec 9 1 p l.length c (l.map encS), cl mb 9 [.string (str x)]]
      (fun v H => ∃ p' c', v = .slice p' (laidL l at' gone [x]).length c' ∧ H = [vec 9 1 p' (laidL l at' gone [x]).length c' (((laidL l at' gone [x])).map encS), vec 9 1 p l.length c (l.map encS)]) := by
  subst ha hg
  have e : laidL (l.map encS) at' gone [.string (str x)] = ((laidL l at' gone [x])).map encS := (laidL_map _ l at' gone [x]).symm
  have := laidS_one (l.map encS) p l.length c at' gone mb mc (.string (str x)) (by simp [encS, Value.oneCell']) rfl hm h1 h2
  rw [e] at this
  simp only [List.length_map] at this
  exact this
theorem laidS0 (l : List (List UInt8)) (p : Option Addr) (c at' gone : Nat) (aa ga : Int) (ha : aa = at') (hg : ga = gone) (hm : l.length < 100000) (h1 : at' < 100000) (h2 : gone < 100000) :
    Does Tryz.prog 155 [.slice p l.length c, .int .i64 aa, .int .i64 ga, .slice none 0 0] [vec 9 1 p l.length c (l.map encS)]
      (fun v H => ∃ p' c', v = .slice p' (laidL l at' gone []).length c' ∧ H = [vec 9 1 p' (laidL l at' gone []).length c' ((laidL l at' gone []).map encS), vec 9 1 p l.length c (l.map encS)]) := by
  subst ha hg
  have e : laidL (l.map encS) at' gone [] = (laidL l at' gone []).map encS := (laidL_map _ l at' gone []).symm
  have := laidS_none (l.map encS) p l.length c at' gone (by simp [encS, Value.oneCell']) hm h1 h2
  rw [e] at this
  simp only [List.length_map] at this
  exact this

theorem laidI1 (l : List Int) (p : Option Addr) (c at' gone mb mc : Nat) (x : Int) (aa ga : Int) (ha : aa = at') (hg : ga = gone) (hm : l.length < 100000) (h1 : at' < 100000) (h2 : gone < 100000) :
    Does Tryz.prog 157 [.slice p l.length c, .int .i64 aa, .int .i64 ga, .slice (some ⟨mb, 0, none⟩) 1 mc] [vec 3 1 p l.length c (l.map encZ'), cl mb 3 [.int .i64 x]]
      (fun v H => ∃ p' c', v = .slice p' (laidL l at' gone [x]).length c' ∧ H = [vec 3 1 p' (laidL l at' gone [x]).length c' (((laidL l at' gone [x])).map encZ'), vec 3 1 p l.length c (l.map encZ')]) := by
  subst ha hg
  have e : laidL (l.map encZ') at' gone [.int .i64 x] = ((laidL l at' gone [x])).map encZ' := (laidL_map _ l at' gone [x]).symm
  have := laidI_one (l.map encZ') p l.length c at' gone mb mc (.int .i64 x) (by simp [encZ', Value.oneCell']) rfl hm h1 h2
  rw [e] at this
  simp only [List.length_map] at this
  exact this
theorem laidI0 (l : List Int) (p : Option Addr) (c at' gone : Nat) (aa ga : Int) (ha : aa = at') (hg : ga = gone) (hm : l.length < 100000) (h1 : at' < 100000) (h2 : gone < 100000) :
    Does Tryz.prog 157 [.slice p l.length c, .int .i64 aa, .int .i64 ga, .slice none 0 0] [vec 3 1 p l.length c (l.map encZ')]
      (fun v H => ∃ p' c', v = .slice p' (laidL l at' gone []).length c' ∧ H = [vec 3 1 p' (laidL l at' gone []).length c' ((laidL l at' gone []).map encZ'), vec 3 1 p l.length c (l.map encZ')]) := by
  subst ha hg
  have e : laidL (l.map encZ') at' gone [] = (laidL l at' gone []).map encZ' := (laidL_map _ l at' gone []).symm
  have := laidI_none (l.map encZ') p l.length c at' gone (by simp [encZ', Value.oneCell']) hm h1 h2
  rw [e] at this
  simp only [List.length_map] at this
  exact this


set_option maxHeartbeats 1000000 in
theorem nPut_does (d : Nd) (r : Rw) (x : Nat) (v : List UInt8) (hl : d.leaf = true) (hf : d.fits) (hs : Rise d.keys) (hk : d.kids = []) : Does Tryz.prog 111 [ndV d r, .int .u64 x, .string (str v)] [Nds d r]
    (fun u H => ∃ r', u = ndV (d.put x v) r' ∧ H = [Nds (d.put x v) r', Nds d r]) := by
  obtain ⟨leaf, keys, vals, kids⟩ := d
  obtain ⟨p1, c1, p2, c2, p3, c3⟩ := r
  obtain ⟨f1, f2, f3, f4⟩ := hf
  dsimp only at f1 f2 f3 f4 hl hs hk
  subst hl hk
  have hp := posN_le keys x
  have hpl := place_does keys x p1 c1 (by omega) hs
  refine does_of Tryz.func111 Tryz.ntmps111 rfl rfl rfl (fun w0 F0 => ?_)
  refine g_open (A := Nds ⟨true, keys, vals, []⟩ ⟨p1, c1, p2, c2, p3, c3⟩) (h := ?_); (rintro _ _; dsimp only [NdsK, List.cons_append, List.nil_append])
  (repeat' (first | refine g_seq (h := ?_) | refine g_region (h := ?_) | refine l_nil (h := ?_) | refine n_then (h := ?_) | refine l_pures1 (h := ?_) | (refine l_atc ?_; refine l_call (hpl) ?_) | refine l_load (h := ?_) | (refine l_box (h := ?_); intro _) | (refine l_alloc (h := ?_); intro _) | refine g_skip (h := ?_) | refine g_cond_f (h := ?_) | (refine g_sp (h1 := ?_) (h0 := ?_) <;> intro h)))
  · rename_i b1 b2
    (refine g_draw [cl b1 176 (ndA ⟨true, keys, vals, []⟩ ⟨p1, c1, p2, c2, p3, c3⟩).toList] (h := a_pass2 (h := ?_)))
    (repeat' (first | refine l_nil (h := ?_) | refine n_then (h := ?_) | (refine l_atc ?_; refine l_call_ (laidU1 keys p1 c1 (posN keys x) 1 _ _ x _ 1 rfl rfl (by omega) (by omega) (by omega)) ?_; rintro _ _ _ ⟨q1, d1, rfl, rfl⟩ he; cases he) | (refine l_atc ?_; refine l_call_ (laidS1 vals p2 c2 (posN keys x) 1 _ _ v _ 1 rfl rfl (by omega) (by omega) (by omega)) ?_; rintro _ _ _ ⟨q2, d2, rfl, rfl⟩ he; cases he) | refine l_store (h := ?_) | (refine l_buildSlice1 (h := ?_); intro _) | refine g_ret (h := ?_) | refine a_done (h := ?_) | refine a_load (h := a_pass2 (h := ?_)) | refine a_one (h := ?_) | refine n_any (h := a_pass2 (h := ?_)) | refine a_fork2 (h1 := ?_) (h2 := ?_) | refine a1_of (h := ?_)))
    all_goals
      refine n_inv (fun i => vec_nil (3) (1) i) ?_
    all_goals
      (refine n_shut (A := Nds ⟨true, laidL keys (posN keys x) 1 [x], laidL vals (posN keys x) 1 [v], []⟩ ⟨q1, d1, q2, d2, none, 0⟩) (K := NdsK ⟨true, laidL keys (posN keys x) 1 [x], laidL vals (posN keys x) 1 [v], []⟩ ⟨q1, d1, q2, d2, none, 0⟩ (())) (hid_shuts (()) trivial) (h := ?_) (p := by dsimp only [NdsK]; (try simp only [List.map_nil, List.length_nil, List.length_set, List.length_append, List.length_cons, List.length_singleton, List.map_append, List.map_cons, Nat.zero_add]); exact parts_of))
    all_goals
      (refine n_shut (A := Nds ⟨true, keys, vals, []⟩ ⟨p1, c1, p2, c2, p3, c3⟩) (K := NdsK ⟨true, keys, vals, []⟩ ⟨p1, c1, p2, c2, p3, c3⟩ (())) (hid_shuts (()) trivial) (h := ?_) (p := by dsimp only [NdsK]; (try simp only [List.map_nil, List.length_nil, List.length_set, List.length_append, List.length_cons, List.length_singleton, List.map_append, List.map_cons, Nat.zero_add]); exact parts_of))
    all_goals
      refine r_retk [Nds ⟨true, laidL keys (posN keys x) 1 [x], laidL vals (posN keys x) 1 [v], []⟩ ⟨q1, d1, q2, d2, none, 0⟩, Nds ⟨true, keys, vals, []⟩ ⟨p1, c1, p2, c2, p3, c3⟩] ?_
    all_goals
      exact ⟨⟨q1, d1, q2, d2, none, 0⟩, by simp only [Nd.put, if_pos h]; rfl, by simp only [Nd.put, if_pos h]⟩
  · rename_i b1 b2
    (refine g_draw [cl b1 176 (ndA ⟨true, keys, vals, []⟩ ⟨p1, c1, p2, c2, p3, c3⟩).toList] (h := a_pass2 (h := ?_)))
    (repeat' (first | refine l_nil (h := ?_) | refine n_then (h := ?_) | (refine l_atc ?_; refine l_call_ (laidU1 keys p1 c1 (posN keys x) 0 _ _ x _ 0 rfl rfl (by omega) (by omega) (by omega)) ?_; rintro _ _ _ ⟨q1, d1, rfl, rfl⟩ he; cases he) | (refine l_atc ?_; refine l_call_ (laidS1 vals p2 c2 (posN keys x) 0 _ _ v _ 0 rfl rfl (by omega) (by omega) (by omega)) ?_; rintro _ _ _ ⟨q2, d2, rfl, rfl⟩ he; cases he) | refine l_store (h := ?_) | (refine l_buildSlice1 (h := ?_); intro _) | refine g_ret (h := ?_) | refine a_done (h := ?_) | refine a_load (h := a_pass2 (h := ?_)) | refine a_one (h := ?_) | refine n_any (h := a_pass2 (h := ?_)) | refine a_fork2 (h1 := ?_) (h2 := ?_) | refine a1_of (h := ?_)))
    all_goals
      refine n_inv (fun i => vec_nil (3) (1) i) ?_
    all_goals
      (refine n_shut (A := Nds ⟨true, laidL keys (posN keys x) 0 [x], laidL vals (posN keys x) 0 [v], []⟩ ⟨q1, d1, q2, d2, none, 0⟩) (K := NdsK ⟨true, laidL keys (posN keys x) 0 [x], laidL vals (posN keys x) 0 [v], []⟩ ⟨q1, d1, q2, d2, none, 0⟩ (())) (hid_shuts (()) trivial) (h := ?_) (p := by dsimp only [NdsK]; (try simp only [List.map_nil, List.length_nil, List.length_set, List.length_append, List.length_cons, List.length_singleton, List.map_append, List.map_cons, Nat.zero_add]); exact parts_of))
    all_goals
      (refine n_shut (A := Nds ⟨true, keys, vals, []⟩ ⟨p1, c1, p2, c2, p3, c3⟩) (K := NdsK ⟨true, keys, vals, []⟩ ⟨p1, c1, p2, c2, p3, c3⟩ (())) (hid_shuts (()) trivial) (h := ?_) (p := by dsimp only [NdsK]; (try simp only [List.map_nil, List.length_nil, List.length_set, List.length_append, List.length_cons, List.length_singleton, List.map_append, List.map_cons, Nat.zero_add]); exact parts_of))
    all_goals
      refine r_retk [Nds ⟨true, laidL keys (posN keys x) 0 [x], laidL vals (posN keys x) 0 [v], []⟩ ⟨q1, d1, q2, d2, none, 0⟩, Nds ⟨true, keys, vals, []⟩ ⟨p1, c1, p2, c2, p3, c3⟩] ?_
    all_goals
      exact ⟨⟨q1, d1, q2, d2, none, 0⟩, by simp only [Nd.put, if_neg h]; rfl, by simp only [Nd.put, if_neg h]⟩

set_option maxHeartbeats 1000000 in
theorem nHang_does (d : Nd) (r : Rw) (i x : Nat) (k : Int) (hl : d.leaf = false) (hf : d.fits) (hi : i ≤ d.keys.length) (hk : d.vals = []) : Does Tryz.prog 115 [ndV d r, .int .i64 i, .int .u64 x, .int .i64 k] [Nds d r]
    (fun u H => ∃ r', u = ndV (d.hang i x k) r' ∧ H = [Nds (d.hang i x k) r', Nds d r]) := by
  obtain ⟨leaf, keys, vals, kids⟩ := d
  obtain ⟨p1, c1, p2, c2, p3, c3⟩ := r
  obtain ⟨f1, f2, f3, f4⟩ := hf
  dsimp only at f1 f2 f3 f4 hl hi hk
  subst hl hk
  have ew : IntKind.i64.wrap ((i : Int) + 1) = ((i + 1 : Nat) : Int) := by rw [wrapI64 (by omega)]; rfl
  refine does_of Tryz.func115 Tryz.ntmps115 rfl rfl rfl (fun w0 F0 => ?_)
  refine g_open (A := Nds ⟨false, keys, [], kids⟩ ⟨p1, c1, p2, c2, p3, c3⟩) (h := ?_); (rintro _ _; dsimp only [NdsK, List.cons_append, List.nil_append])
  (repeat' (first | refine g_seq (h := ?_) | refine g_region (h := ?_) | refine l_nil (h := ?_) | refine n_then (h := ?_) | refine l_pures1 (h := ?_) | refine l_guard_yes (h := ?_) | refine l_load (h := ?_) | (refine l_box (h := ?_); intro _) | (refine l_alloc (h := ?_); intro _) | refine g_skip (h := ?_) | (refine g_spF (h := ?_); intro h)))
  rename_i b1 b2
  (refine g_draw [cl b1 176 (ndA ⟨false, keys, [], kids⟩ ⟨p1, c1, p2, c2, p3, c3⟩).toList] (h := a_pass2 (h := ?_)))
  (repeat' (first | refine l_nil (h := ?_) | refine n_then (h := ?_) | (refine l_atc ?_; refine l_call_ (laidU1 keys p1 c1 i 0 _ _ x _ 0 rfl rfl (by omega) (by omega) (by omega)) ?_; rintro _ _ _ ⟨q1, d1, rfl, rfl⟩ he; cases he) | (refine l_atc ?_; refine l_call_ (laidI1 kids p3 c3 (i + 1) 0 _ _ k _ 0 ew rfl (by omega) (by omega) (by omega)) ?_; rintro _ _ _ ⟨q2, d2, rfl, rfl⟩ he; cases he) | refine l_store (h := ?_) | (refine l_buildSlice1 (h := ?_); intro _) | refine g_ret (h := ?_) | refine a_done (h := ?_) | refine a_load (h := a_pass2 (h := ?_)) | refine a_one (h := ?_) | refine n_any (h := a_pass2 (h := ?_)) | refine a_fork2 (h1 := ?_) (h2 := ?_) | refine a1_of (h := ?_)))
  all_goals
    refine n_inv (fun i => vec_nil (9) (1) i) ?_
  all_goals
    (refine n_shut (A := Nds ⟨false, laidL keys i 0 [x], [], laidL kids (i + 1) 0 [k]⟩ ⟨q1, d1, none, 0, q2, d2⟩) (K := NdsK ⟨false, laidL keys i 0 [x], [], laidL kids (i + 1) 0 [k]⟩ ⟨q1, d1, none, 0, q2, d2⟩ (())) (hid_shuts (()) trivial) (h := ?_) (p := by dsimp only [NdsK]; (try simp only [List.map_nil, List.length_nil, List.length_set, List.length_append, List.length_cons, List.length_singleton, List.map_append, List.map_cons, Nat.zero_add]); exact parts_of))
  all_goals
    (refine n_shut (A := Nds ⟨false, keys, [], kids⟩ ⟨p1, c1, p2, c2, p3, c3⟩) (K := NdsK ⟨false, keys, [], kids⟩ ⟨p1, c1, p2, c2, p3, c3⟩ (())) (hid_shuts (()) trivial) (h := ?_) (p := by dsimp only [NdsK]; (try simp only [List.map_nil, List.length_nil, List.length_set, List.length_append, List.length_cons, List.length_singleton, List.map_append, List.map_cons, Nat.zero_add]); exact parts_of))
  all_goals
    refine r_retk [Nds ⟨false, laidL keys i 0 [x], [], laidL kids (i + 1) 0 [k]⟩ ⟨q1, d1, none, 0, q2, d2⟩, Nds ⟨false, keys, [], kids⟩ ⟨p1, c1, p2, c2, p3, c3⟩] ?_
  all_goals
    exact ⟨⟨q1, d1, none, 0, q2, d2⟩, rfl, rfl⟩

theorem laidL_take {α : Type} (l : List α) (k n : Nat) (h : l.length ≤ k + n) : laidL l k n [] = l.take k := by
  rw [laidL, List.drop_of_length_le h]; simp
theorem laidL_drop {α : Type} (l : List α) (n : Nat) : laidL l 0 n [] = l.drop n := by simp [laidL]
set_option maxHeartbeats 1000000 in
theorem frontL_does (d : Nd) (r : Rw) (nb k : Nat) (hl : d.leaf = true) (hf : d.fits) (hv : d.vals.length = d.keys.length) (hi : k < 10000) (hk : d.kids = []) : Does Tryz.prog 156 [.int .i64 k, .pointer (some ⟨nb, 0, none⟩)] [cl nb 176 (ndA d r).toList, Nds d r]
    (fun u H => ∃ r', u = ndV (d.front k) r' ∧ H = [Nds (d.front k) r', cl nb 176 (ndA d r).toList, Nds d r]) := by
  obtain ⟨leaf, keys, vals, kids⟩ := d
  obtain ⟨p1, c1, p2, c2, p3, c3⟩ := r
  obtain ⟨f1, f2, f3, f4⟩ := hf
  dsimp only at f1 f2 f3 f4 hl hi hk hv
  subst hl hk
  have el1 : laidL keys k keys.length [] = keys.take k := laidL_take _ _ _ (by omega)
  have el2 : laidL vals k keys.length [] = vals.take k := laidL_take _ _ _ (by omega)
  have lu := laidU0 keys p1 c1 k keys.length _ _ rfl rfl (by omega) (by omega) (by omega)
  have ls := laidS0 vals p2 c2 k keys.length _ _ rfl rfl (by omega) (by omega) (by omega)
  rw [el1] at lu
  rw [el2] at ls
  refine does_of Tryz.func156 Tryz.ntmps156 rfl rfl rfl (fun w0 F0 => ?_)
  refine g_open (A := Nds ⟨true, keys, vals, []⟩ ⟨p1, c1, p2, c2, p3, c3⟩) (h := ?_); (rintro _ _; dsimp only [NdsK, List.cons_append, List.nil_append])
  (repeat' (first | refine g_seq (h := ?_) | refine g_region (h := ?_) | refine l_nil (h := ?_) | refine n_then (h := ?_) | refine l_pures1 (h := ?_) | refine l_load (h := ?_) | (refine l_alloc (h := ?_); intro _) | refine g_cond_t (h := ?_)))
  (refine g_draw [cl nb 176 (ndA ⟨true, keys, vals, []⟩ ⟨p1, c1, p2, c2, p3, c3⟩).toList] (h := a_pass2 (h := ?_)))
  (repeat' (first | refine l_nil (h := ?_) | refine n_then (h := ?_) | (refine l_atc ?_; refine l_call_ (lu) ?_; rintro _ _ _ ⟨q1, d1, rfl, rfl⟩ he; cases he) | (refine l_atc ?_; refine l_call_ (ls) ?_; rintro _ _ _ ⟨q2, d2, rfl, rfl⟩ he; cases he) | refine l_store (h := ?_) | refine g_ret (h := ?_) | refine n_then_ret (h := ?_) | refine a_done (h := ?_) | refine a_load (h := a_pass2 (h := ?_)) | refine a_one (h := ?_) | refine n_any (h := a_pass2 (h := ?_))))
  all_goals
    refine n_inv (fun i => vec_nil (3) (1) i) ?_
  all_goals
    (refine n_shut (A := Nds ⟨true, keys.take k, vals.take k, []⟩ ⟨q1, d1, q2, d2, none, 0⟩) (K := NdsK ⟨true, keys.take k, vals.take k, []⟩ ⟨q1, d1, q2, d2, none, 0⟩ (())) (hid_shuts (()) trivial) (h := ?_) (p := by dsimp only [NdsK]; (try simp only [List.map_nil, List.length_nil, List.length_set, List.length_append, List.length_cons, List.length_singleton, List.map_append, List.map_cons, Nat.zero_add]); exact parts_of))
  all_goals
    (refine n_shut (A := Nds ⟨true, keys, vals, []⟩ ⟨p1, c1, p2, c2, p3, c3⟩) (K := NdsK ⟨true, keys, vals, []⟩ ⟨p1, c1, p2, c2, p3, c3⟩ (())) (hid_shuts (()) trivial) (h := ?_) (p := by dsimp only [NdsK]; (try simp only [List.map_nil, List.length_nil, List.length_set, List.length_append, List.length_cons, List.length_singleton, List.map_append, List.map_cons, Nat.zero_add]); exact parts_of))
  all_goals
    refine r_retk [Nds ⟨true, keys.take k, vals.take k, []⟩ ⟨q1, d1, q2, d2, none, 0⟩, cl nb 176 [.bool true, .slice p1 keys.length c1, .slice p2 vals.length c2, .slice p3 0 c3], Nds ⟨true, keys, vals, []⟩ ⟨p1, c1, p2, c2, p3, c3⟩] ?_
  all_goals
    exact ⟨⟨q1, d1, q2, d2, none, 0⟩, rfl, rfl⟩

set_option maxHeartbeats 1000000 in
theorem frontB_does (d : Nd) (r : Rw) (nb k : Nat) (hl : d.leaf = false) (hf : d.fits) (hi : k < 10000) (hk : d.vals = []) : Does Tryz.prog 156 [.int .i64 k, .pointer (some ⟨nb, 0, none⟩)] [cl nb 176 (ndA d r).toList, Nds d r]
    (fun u H => ∃ r', u = ndV (d.front k) r' ∧ H = [Nds (d.front k) r', cl nb 176 (ndA d r).toList, Nds d r]) := by
  obtain ⟨leaf, keys, vals, kids⟩ := d
  obtain ⟨p1, c1, p2, c2, p3, c3⟩ := r
  obtain ⟨f1, f2, f3, f4⟩ := hf
  dsimp only at f1 f2 f3 f4 hl hi hk
  subst hl hk
  have ew : IntKind.i64.wrap ((k : Int) + 1) = ((k + 1 : Nat) : Int) := by rw [wrapI64 (by omega)]; rfl
  have el1 : laidL keys k keys.length [] = keys.take k := laidL_take _ _ _ (by omega)
  have el2 : laidL kids (k + 1) kids.length [] = kids.take (k + 1) := laidL_take _ _ _ (by omega)
  have lu := laidU0 keys p1 c1 k keys.length _ _ rfl rfl (by omega) (by omega) (by omega)
  have ls := laidI0 kids p3 c3 (k + 1) kids.length _ _ ew rfl (by omega) (by omega) (by omega)
  rw [el1] at lu
  rw [el2] at ls
  refine does_of Tryz.func156 Tryz.ntmps156 rfl rfl rfl (fun w0 F0 => ?_)
  refine g_open (A := Nds ⟨false, keys, [], kids⟩ ⟨p1, c1, p2, c2, p3, c3⟩) (h := ?_); (rintro _ _; dsimp only [NdsK, List.cons_append, List.nil_append])
  (repeat' (first | refine g_seq (h := ?_) | refine g_region (h := ?_) | refine l_nil (h := ?_) | refine n_then (h := ?_) | refine l_pures1 (h := ?_) | refine l_load (h := ?_) | (refine l_alloc (h := ?_); intro _) | refine g_skip (h := ?_) | refine g_cond_f (h := ?_)))
  (refine g_draw [cl nb 176 (ndA ⟨false, keys, [], kids⟩ ⟨p1, c1, p2, c2, p3, c3⟩).toList] (h := a_pass2 (h := ?_)))
  (repeat' (first | refine l_nil (h := ?_) | refine n_then (h := ?_) | (refine l_atc ?_; refine l_call_ (lu) ?_; rintro _ _ _ ⟨q1, d1, rfl, rfl⟩ he; cases he) | (refine l_atc ?_; refine l_call_ (ls) ?_; rintro _ _ _ ⟨q2, d2, rfl, rfl⟩ he; cases he) | refine l_store (h := ?_) | refine g_ret (h := ?_) | refine a_done (h := ?_) | refine a_load (h := a_pass2 (h := ?_)) | refine a_one (h := ?_) | refine n_any (h := a_pass2 (h := ?_))))
  all_goals
    refine n_inv (fun i => vec_nil (9) (1) i) ?_
  all_goals
    (refine n_shut (A := Nds ⟨false, keys.take k, [], kids.take (k + 1)⟩ ⟨q1, d1, none, 0, q2, d2⟩) (K := NdsK ⟨false, keys.take k, [], kids.take (k + 1)⟩ ⟨q1, d1, none, 0, q2, d2⟩ (())) (hid_shuts (()) trivial) (h := ?_) (p := by dsimp only [NdsK]; (try simp only [List.map_nil, List.length_nil, List.length_set, List.length_append, List.length_cons, List.length_singleton, List.map_append, List.map_cons, Nat.zero_add]); exact parts_of))
  all_goals
    (refine n_shut (A := Nds ⟨false, keys, [], kids⟩ ⟨p1, c1, p2, c2, p3, c3⟩) (K := NdsK ⟨false, keys, [], kids⟩ ⟨p1, c1, p2, c2, p3, c3⟩ (())) (hid_shuts (()) trivial) (h := ?_) (p := by dsimp only [NdsK]; (try simp only [List.map_nil, List.length_nil, List.length_set, List.length_append, List.length_cons, List.length_singleton, List.map_append, List.map_cons, Nat.zero_add]); exact parts_of))
  all_goals
    refine r_retk [Nds ⟨false, keys.take k, [], kids.take (k + 1)⟩ ⟨q1, d1, none, 0, q2, d2⟩, cl nb 176 [.bool false, .slice p1 keys.length c1, .slice p2 0 c2, .slice p3 kids.length c3], Nds ⟨false, keys, [], kids⟩ ⟨p1, c1, p2, c2, p3, c3⟩] ?_
  all_goals
    exact ⟨⟨q1, d1, none, 0, q2, d2⟩, rfl, rfl⟩

/-- The first part of a split. -/
theorem front_does (d : Nd) (r : Rw) (nb k : Nat) (hp : d.plain) (hf : d.fits) (hi : k < 10000) : Does Tryz.prog 156 [.int .i64 k, .pointer (some ⟨nb, 0, none⟩)] [cl nb 176 (ndA d r).toList, Nds d r]
    (fun u H => ∃ r', u = ndV (d.front k) r' ∧ H = [Nds (d.front k) r', cl nb 176 (ndA d r).toList, Nds d r]) := by
  have hv := hp.vals
  have hk := hp.kids
  cases hl : d.leaf
  · rw [hl] at hv; exact frontB_does d r nb k hl hf hi (List.length_eq_zero_iff.1 (by simpa using hv))
  · rw [hl] at hv hk; exact frontL_does d r nb k hl hf (by simpa using hv) hi (List.length_eq_zero_iff.1 (by simpa using hk))

theorem Nd.cut_step {d : Nd} {m k : Nat} (h : (d.front k).size < d.size / 2) : d.cut (m + 1) k = d.cut m (k + 1) := by rw [Nd.cut, if_pos h]
theorem Nd.cut_stop {d : Nd} {m k : Nat} (h : ¬ (d.front k).size < d.size / 2) : d.cut m k = k := by
  cases m with
  | zero => rfl
  | succ m => rw [Nd.cut, if_neg h]
theorem Nd.front_size {d : Nd} (hp : d.plain) (k : Nat) : (d.front k).size ≤ d.size := by
  have h1 : (d.keys.take k).length ≤ d.keys.length := by rw [List.length_take]; omega
  have h2 : (d.kids.take (k + 1)).length ≤ d.kids.length := by rw [List.length_take]; omega
  have h3 := sumL_take_le d.vals k
  cases hl : d.leaf <;> simp only [Nd.size, Nd.front, hl, if_true, Bool.false_eq_true, if_false] <;> omega
theorem Nd.front_fits {d : Nd} (hf : d.fits) (k : Nat) : (d.front k).fits := by
  have h1 : (d.keys.take k).length ≤ d.keys.length := by rw [List.length_take]; omega
  have h2 : (d.kids.take (k + 1)).length ≤ d.kids.length := by rw [List.length_take]; omega
  have h3 := sumL_take_le d.vals k
  have h4 : (d.vals.take k).length ≤ d.vals.length := by rw [List.length_take]; omega
  obtain ⟨f1, f2, f3, f4⟩ := hf
  cases hl : d.leaf <;> constructor <;> simp only [Nd.front, hl, if_true, Bool.false_eq_true, if_false, List.length_nil, sumL_nil] <;> omega

/-- The same, the rows being open. -/
theorem frontR_does (d : Nd) (r : Rw) (nb k : Nat) (hp : d.plain) (hf : d.fits) (hi : k < 10000) : Does Tryz.prog 156 [.int .i64 k, .pointer (some ⟨nb, 0, none⟩)] (cl nb 176 (ndA d r).toList :: NdsK d r ())
    (fun u H => ∃ r', u = ndV (d.front k) r' ∧ H = NdsK d r () ++ [Nds (d.front k) r', cl nb 176 (ndA d r).toList]) := by
  intro w F s
  obtain ⟨F1, F2, a, s', dj, un⟩ := s
  refine (front_does d r nb k hp hf hi w F ⟨F1, F2, a, ⟨F2, fun _ => False, ⟨(), trivial, s'⟩, fun _ h => h, fun _ _ h => h, fun b => ⟨.inl, fun o => o.elim id False.elim⟩⟩, dj, un⟩).mono ?_
  rintro e w' ⟨v, H', he, ⟨r', hu, rfl⟩, i⟩
  obtain ⟨_, _, i'⟩ := (i.take (Take.there (Take.there Take.here))).opens (hid_opens (p := fun _ : Unit => True) (K := NdsK d r))
  exact ⟨v, _, he, ⟨r', hu, rfl⟩, i'⟩

set_option maxHeartbeats 1000000 in
theorem splitB_tail (d : Nd) (r : Rw) (k b1 b2 b3 : Nat) (hl : d.leaf = false) (hp : d.plain) (hf : d.fits) (he : k = d.at') (hk : 1 ≤ k ∧ k + 1 < d.keys.length) (w0 : World) (F0 : Nat → Prop) :
    G Tryz.prog 70 w0 F0 (nav [1, 1, 1, 1, 1, 1, 1, 1] (bdy Tryz.f113)) (Post Tryz.prog Tryz.f113 w0 F0 (fun u H => ∃ r1 r2, u = .tuple #[ndV (d.front d.at') r1, .int .u64 (d.keys.getD d.at' 0 : Nat), ndV (d.back d.at') r2, .bool true] ∧ H = [Nds (d.front d.at') r1, Nds (d.back d.at') r2, Nds d r])) [(9, .int .i64 k), (8, .func (.func 156) #[] #[.pointer (some ⟨b1, 0, none⟩)]), (6, .int .i64 1), (1, .pointer (some ⟨b1, 0, none⟩)), (2, .pointer (some ⟨b2, 0, none⟩)), (4, .pointer (some ⟨b3, 0, none⟩))] [] [cl b1 176 #[.bool false, .slice r.p1 d.keys.length r.c1, .slice r.p2 d.vals.length r.c2, .slice r.p3 d.kids.length r.c3].toList, Nds d r, cl b2 176 [.bool false, .slice none 0 0, .slice none 0 0, .slice none 0 0], cl b3 176 [.bool false, .slice none 0 0, .slice none 0 0, .slice none 0 0]] := by
  rw [← he]
  clear he
  have hu : d.up = 1 := by simp [Nd.up, hl]
  obtain ⟨p1, c1, p2, c2, p3, c3⟩ := r
  dsimp only
  have hkl := hf.k
  have hv := hp.vals
  have hki := hp.kids
  simp only [hl, if_true, Bool.false_eq_true, if_false] at hv hki
  have hb : d.back k = ⟨false, d.keys.drop (k + 1), [], d.kids.drop (k + 1)⟩ := by simp [Nd.back, hl, hu]
  have hfr := frontR_does d ⟨p1, c1, p2, c2, p3, c3⟩ b1 k hp hf (by omega)
  simp only [ndA, hl, NdsK, List.cons_append, List.nil_append] at hfr
  have ew1 : IntKind.i64.wrap ((k : Int) + 1) = ((k + 1 : Nat) : Int) := by rw [wrapI64 (by omega)]; omega
  have ew2 : IntKind.i64.wrap ((k : Int) + 1) = ((k + 1 : Nat) : Int) := by rw [wrapI64 (by omega)]; rfl
  have lu := laidU0 d.keys p1 c1 0 (k + 1) 0 _ rfl ew1 (by omega) (by omega) (by omega)
  rw [laidL_drop] at lu
  have l2 := laidI0 d.kids p3 c3 0 (k + 1) 0 _ rfl ew2 (by omega) (by omega) (by omega)
  rw [laidL_drop] at l2
  have hg := uGet (l := d.keys) (k := k) (by omega)
  obtain ⟨c, hc⟩ : ∃ c, c = nav [1, 1, 1, 1, 1, 1, 1, 1] (bdy Tryz.f113) := ⟨_, rfl⟩
  rw [← hc]
  dsimp only [nav, bdy, Tryz.f113, Option.getD] at hc
  subst hc
  refine g_open (A := Nds d ⟨p1, c1, p2, c2, p3, c3⟩) (h := ?_); (rintro _ _; dsimp only [NdsK, List.cons_append, List.nil_append])
  (repeat refine g_seq (h := ?_))
  (refine g_draw [cl b1 176 #[.bool false, .slice p1 d.keys.length c1, .slice p2 d.vals.length c2, .slice p3 d.kids.length c3].toList] (h := a_pass2 (h := ?_)))
  (repeat' (first | refine g_seq (h := ?_) | refine g_region (h := ?_) | refine l_nil (h := ?_) | refine n_then (h := ?_) | refine l_pures1 (h := ?_) | (refine l_atc ?_; refine l_call_ (lu) ?_; rintro _ _ _ ⟨q1, e1, rfl, rfl⟩ he; cases he) | (refine l_atc ?_; refine l_call_ (l2) ?_; rintro _ _ _ ⟨q2, e2, rfl, rfl⟩ he; cases he) | refine l_load (h := ?_) | refine l_store (h := ?_) | refine a_done (h := ?_) | refine a_load (h := a_pass2 (h := ?_)) | refine a_one (h := ?_) | refine n_any (h := a_pass2 (h := ?_)) | refine g_cond_f (h := ?_)))
  refine g_ptr (m := d.keys.length) (h := ?_); rintro g rfl hc1
  (refine g_draw [cl b1 176 [.bool false, .slice (some ⟨g, 0, none⟩) d.keys.length c1, .slice p2 d.vals.length c2, .slice p3 d.kids.length c3], vec 30 1 (some ⟨g, 0, none⟩) d.keys.length c1 (uV d.keys)] (h := a_pass2 (h := ?_)))
  (repeat' (first | refine l_nil (h := ?_) | refine n_then (h := ?_) | (refine l_atc ?_; refine l_call_ (hfr) ?_; rintro _ _ _ ⟨r1, rfl, rfl⟩ he; cases he) | refine l_load (h := ?_) | refine l_store (h := ?_) | refine l_indexAddr (h := ?_) | refine g_ret (h := ?_) | refine a_done (h := ?_) | refine a_load (h := a_pass2 (h := ?_)) | refine a_one (h := ?_) | refine n_any (h := a_pass2 (h := ?_)) | refine a_v (h := ?_) | refine a_load_vec (h := a_pass2 (h := ?_)) | refine a_fork2 (h1 := ?_) (h2 := ?_) | refine a_fork3 (h1 := ?_) (h2 := ?_) (h3 := ?_) | refine a1_of (h := ?_)))
  all_goals
    refine n_inv (fun i => vec_nil (9) (1) i) ?_
  all_goals
    (refine n_shut (A := Nds ⟨false, d.keys.drop (k + 1), [], d.kids.drop (k + 1)⟩ ⟨q1, e1, none, 0, q2, e2⟩) (K := NdsK ⟨false, d.keys.drop (k + 1), [], d.kids.drop (k + 1)⟩ ⟨q1, e1, none, 0, q2, e2⟩ (())) (hid_shuts (()) trivial) (h := ?_) (p := by dsimp only [NdsK]; (try simp only [List.map_nil, List.length_nil, List.length_set, List.length_append, List.length_cons, List.length_singleton, List.map_append, List.map_cons, Nat.zero_add]); exact parts_of))
  all_goals
    (refine n_shut (A := Nds d ⟨some ⟨g, 0, none⟩, c1, p2, c2, p3, c3⟩) (K := NdsK d ⟨some ⟨g, 0, none⟩, c1, p2, c2, p3, c3⟩ (())) (hid_shuts (()) trivial) (h := ?_) (p := by dsimp only [NdsK]; (try simp only [List.map_nil, List.length_nil, List.length_set, List.length_append, List.length_cons, List.length_singleton, List.map_append, List.map_cons, Nat.zero_add]); exact parts_of))
  all_goals
    refine r_retk [Nds (d.front k) r1, Nds ⟨false, d.keys.drop (k + 1), [], d.kids.drop (k + 1)⟩ ⟨q1, e1, none, 0, q2, e2⟩, Nds d ⟨some ⟨g, 0, none⟩, c1, p2, c2, p3, c3⟩] ?_
  all_goals
    refine ⟨r1, ⟨q1, e1, none, 0, q2, e2⟩, ?_, ?_⟩ <;> rw [hb]
    rfl

set_option maxHeartbeats 1000000 in
theorem splitB_does (d : Nd) (r : Rw) (hl : d.leaf = false) (hp : d.plain) (hf : d.fits) (hz : d.size < 10000) (hm : 1 ≤ d.keys.length - 1 - 1) : Does Tryz.prog 113 [.agg #[.bool false, .slice r.p1 d.keys.length r.c1, .slice r.p2 d.vals.length r.c2, .slice r.p3 d.kids.length r.c3]] [Nds d r]
    (fun u H => ∃ r1 r2, u = .tuple #[ndV (d.front d.at') r1, .int .u64 (d.keys.getD d.at' 0 : Nat), ndV (d.back d.at') r2, .bool true] ∧ H = [Nds (d.front d.at') r1, Nds (d.back d.at') r2, Nds d r]) := by
  have hfr := fun (b : Nat) k (hk : k < 10000) => front_does d r b k hp hf hk
  have hsz := ndSize_does d r hf
  have hsf := fun k r' => ndSize_does (d.front k) r' (Nd.front_fits hf k)
  have hfs := fun k => Nd.front_size hp k
  have hcs := fun m k => Nd.cut_step (d := d) (m := m) (k := k)
  have hcq := fun m k => Nd.cut_stop (d := d) (m := m) (k := k)
  have hu : d.up = 1 := by simp [Nd.up, hl]
  have hat : d.cut (d.keys.length - 1 - 1 - 1) 1 = d.at' := by rw [Nd.at', hu]
  have htl := fun k b1 b2 b3 => splitB_tail d r k b1 b2 b3 hl hp hf
  have hkl := hf.k
  simp only [ndV, ndA, hl] at hfr hsz
  have e4 : IntKind.i64.wrap (Int.tdiv (d.size : Int) 2) = ((d.size / 2 : Nat) : Int) := by rw [show Int.tdiv (d.size : Int) 2 = ((d.size / 2 : Nat) : Int) from rfl, wrapI64 (by omega)]
  have ew0 : IntKind.i64.wrap ((d.keys.length : Int) - 1) = ((d.keys.length - 1 : Nat) : Int) := by rw [wrapI64 (by omega)]; omega
  have ew1 : IntKind.i64.wrap (IntKind.i64.wrap ((d.keys.length : Int) - 1) - 1) = ((d.keys.length - 1 - 1 : Nat) : Int) := by rw [ew0, wrapI64 (by omega)]; omega
  refine does_of Tryz.func113 Tryz.ntmps113 rfl rfl rfl (fun w0 F0 => ?_)
  (repeat' (first | refine g_seq (h := ?_) | refine g_region (h := ?_) | refine l_nil (h := ?_) | refine n_then (h := ?_) | refine l_pures1 (h := ?_) | refine l_load (h := ?_) | (refine l_box (h := ?_); intro _) | (refine l_alloc (h := ?_); intro _) | refine g_skip (h := ?_) | refine g_block (h := ?_) | refine g_cond_t (h := ?_) | (refine g_spF (h := ?_); intro h)))
  rw [ew1]
  rename_i b1 b2 b3
  (refine g_loop (fun k : Nat => [(9, .int .i64 k), (7, .int .i64 ((d.keys.length - 1 - 1) : Nat)), (8, .func (.func 156) #[] #[.pointer (some ⟨b1, 0, none⟩)]), (6, .int .i64 1), (1, .pointer (some ⟨b1, 0, none⟩)), (2, .pointer (some ⟨b2, 0, none⟩)), (4, .pointer (some ⟨b3, 0, none⟩))]) (fun _ => [cl b1 176 #[.bool false, .slice r.p1 d.keys.length r.c1, .slice r.p2 d.vals.length r.c2, .slice r.p3 d.kids.length r.c3].toList, Nds d r, cl b2 176 [.bool false, .slice none 0 0, .slice none 0 0, .slice none 0 0], cl b3 176 [.bool false, .slice none 0 0, .slice none 0 0, .slice none 0 0]]) (fun k => (1 ≤ k ∧ k ≤ (d.keys.length - 1 - 1)) ∧ d.cut ((d.keys.length - 1 - 1) - k) k = d.at') (fun k => d.keys.length - k) (1) ?_ ?_ ?_ ?_; rotate_left; (repeat (first | refine ts_nil | (refine ts_cons rfl ?_ ?_; first | (with_reducible rfl) | rotate_left))); (first | (intro _ i; with_reducible refine i) | rotate_left); rotate_left; (try omega); rotate_right)
  · intro k hk
    dsimp only at hk ⊢
    obtain ⟨hk, hkc⟩ := hk
    have hfk := hfs k
    have ew2 : IntKind.i64.wrap ((k : Int) + 1) = ((k + 1 : Nat) : Int) := by rw [wrapI64 (by omega)]; rfl
    have hk0 : d.keys.length - 1 - 1 - k = 0 → k = d.at' := fun e => by rw [e] at hkc; exact hkc
    have hk1 : ¬ (d.front k).size < d.size / 2 → k = d.at' := fun e => (hcq _ _ e).symm.trans hkc
    have hk2 : k < d.keys.length - 1 - 1 → (d.front k).size < d.size / 2 → d.cut (d.keys.length - 1 - 1 - (k + 1)) (k + 1) = d.at' := fun e1 e2 => by
      rw [← hcs _ _ e2, show d.keys.length - 1 - 1 - (k + 1) + 1 = d.keys.length - 1 - 1 - k by omega]; exact hkc
    (repeat refine g_seq (h := ?_))
    (refine g_draw [cl b1 176 #[.bool false, .slice r.p1 d.keys.length r.c1, .slice r.p2 d.vals.length r.c2, .slice r.p3 d.kids.length r.c3].toList] (h := a_pass2 (h := ?_)))
    (repeat' (first | ((with_reducible show G _ _ _ _ (Code.seq (Code.region 11 _ _) _) _ _ _ _); exact g_bang (htl k b1 b2 b3 (by first | exact hk0 (by omega) | exact hk1 (by omega)) (by omega) _ _)) | refine g_region (h := ?_) | refine l_nil (h := ?_) | refine n_then (h := ?_) | refine l_pures1 (h := ?_) | (refine l_atc ?_; refine l_call_ (hfr b1 k (by omega)) ?_; rintro _ _ _ ⟨r', rfl, rfl⟩ he; cases he) | (refine l_atc ?_; refine l_call (hsf k _) ?_) | (refine l_atc ?_; refine l_call (hsz) ?_) | refine l_guard_yes (h := ?_) | refine l_guard_no (h := ?_) | refine l_load (h := ?_) | refine g_skip (h := ?_) | refine g_block (h := ?_) | refine g_exit (h := ?_) | refine n_then_exit (h := ?_) | refine n_block_hit (h := ?_) | refine a_done (h := ?_) | refine a_one (h := ?_) | refine n_any (h := a_pass2 (h := ?_)) | refine a_vg (h := ?_) | refine a_no (h := ?_) | refine n_block (h := ?_) | refine g_cond_f (h := ?_) | (refine a_sp (h1 := ?_) (h0 := ?_) <;> intro h) | (refine g_sp (h1 := ?_) (h0 := ?_) <;> intro h) | refine a_fork2 (h1 := ?_) (h2 := ?_) | refine a1_of (h := ?_)))
    all_goals
      (refine n_back (k + 1) ?_ ?_ ?_ ?_; rotate_left; rotate_left; (repeat (first | refine ts_nil | (refine ts_cons rfl ?_ ?_; first | (with_reducible rfl) | rotate_left))); (first | (intro _ i; with_reducible refine i) | rotate_left); (try omega); (try omega))
    all_goals (try rw [ew2])
    all_goals
      (intro _ i; exact inv_keep parts_of i)
  · rfl
  · (intro _ i; exact inv_keep parts_of i)

set_option maxHeartbeats 1000000 in
theorem splitL_tail (d : Nd) (r : Rw) (k b1 b2 b3 : Nat) (hl : d.leaf = true) (hp : d.plain) (hf : d.fits) (he : k = d.at') (hk : 1 ≤ k ∧ k + 0 < d.keys.length) (w0 : World) (F0 : Nat → Prop) :
    G Tryz.prog 70 w0 F0 (nav [1, 1, 1, 1, 1, 1, 1, 1] (bdy Tryz.f113)) (Post Tryz.prog Tryz.f113 w0 F0 (fun u H => ∃ r1 r2, u = .tuple #[ndV (d.front d.at') r1, .int .u64 (d.keys.getD d.at' 0 : Nat), ndV (d.back d.at') r2, .bool true] ∧ H = [Nds (d.front d.at') r1, Nds (d.back d.at') r2, Nds d r])) [(9, .int .i64 k), (8, .func (.func 156) #[] #[.pointer (some ⟨b1, 0, none⟩)]), (6, .int .i64 0), (1, .pointer (some ⟨b1, 0, none⟩)), (2, .pointer (some ⟨b2, 0, none⟩)), (4, .pointer (some ⟨b3, 0, none⟩))] [] [cl b1 176 #[.bool true, .slice r.p1 d.keys.length r.c1, .slice r.p2 d.vals.length r.c2, .slice r.p3 d.kids.length r.c3].toList, Nds d r, cl b2 176 [.bool false, .slice none 0 0, .slice none 0 0, .slice none 0 0], cl b3 176 [.bool false, .slice none 0 0, .slice none 0 0, .slice none 0 0]] := by
  rw [← he]
  clear he
  have hu : d.up = 0 := by simp [Nd.up, hl]
  obtain ⟨p1, c1, p2, c2, p3, c3⟩ := r
  dsimp only
  have hkl := hf.k
  have hv := hp.vals
  have hki := hp.kids
  simp only [hl, if_true, Bool.false_eq_true, if_false] at hv hki
  have hb : d.back k = ⟨true, d.keys.drop (k + 0), d.vals.drop k, []⟩ := by simp [Nd.back, hl, hu]
  have hfr := frontR_does d ⟨p1, c1, p2, c2, p3, c3⟩ b1 k hp hf (by omega)
  simp only [ndA, hl, NdsK, List.cons_append, List.nil_append] at hfr
  have ew1 : IntKind.i64.wrap ((k : Int) + 0) = ((k + 0 : Nat) : Int) := by rw [wrapI64 (by omega)]; omega
  have ew2 : IntKind.i64.wrap ((k : Int) + 1) = ((k + 1 : Nat) : Int) := by rw [wrapI64 (by omega)]; rfl
  have lu := laidU0 d.keys p1 c1 0 (k + 0) 0 _ rfl ew1 (by omega) (by omega) (by omega)
  rw [laidL_drop] at lu
  have l2 := laidS0 d.vals p2 c2 0 k 0 _ rfl rfl (by omega) (by omega) (by omega)
  rw [laidL_drop] at l2
  have hg := uGet (l := d.keys) (k := k) (by omega)
  obtain ⟨c, hc⟩ : ∃ c, c = nav [1, 1, 1, 1, 1, 1, 1, 1] (bdy Tryz.f113) := ⟨_, rfl⟩
  rw [← hc]
  dsimp only [nav, bdy, Tryz.f113, Option.getD] at hc
  subst hc
  refine g_open (A := Nds d ⟨p1, c1, p2, c2, p3, c3⟩) (h := ?_); (rintro _ _; dsimp only [NdsK, List.cons_append, List.nil_append])
  (repeat refine g_seq (h := ?_))
  (refine g_draw [cl b1 176 #[.bool true, .slice p1 d.keys.length c1, .slice p2 d.vals.length c2, .slice p3 d.kids.length c3].toList] (h := a_pass2 (h := ?_)))
  (repeat' (first | refine g_seq (h := ?_) | refine g_region (h := ?_) | refine l_nil (h := ?_) | refine n_then (h := ?_) | refine l_pures1 (h := ?_) | (refine l_atc ?_; refine l_call_ (lu) ?_; rintro _ _ _ ⟨q1, e1, rfl, rfl⟩ he; cases he) | (refine l_atc ?_; refine l_call_ (l2) ?_; rintro _ _ _ ⟨q2, e2, rfl, rfl⟩ he; cases he) | refine l_load (h := ?_) | refine l_store (h := ?_) | refine a_done (h := ?_) | refine a_load (h := a_pass2 (h := ?_)) | refine a_one (h := ?_) | refine n_any (h := a_pass2 (h := ?_)) | refine g_cond_t (h := ?_)))
  refine g_ptr (m := d.keys.length) (h := ?_); rintro g rfl hc1
  (refine g_draw [cl b1 176 [.bool true, .slice (some ⟨g, 0, none⟩) d.keys.length c1, .slice p2 d.vals.length c2, .slice p3 d.kids.length c3], vec 30 1 (some ⟨g, 0, none⟩) d.keys.length c1 (uV d.keys)] (h := a_pass2 (h := ?_)))
  (repeat' (first | refine l_nil (h := ?_) | refine n_then (h := ?_) | (refine l_atc ?_; refine l_call_ (hfr) ?_; rintro _ _ _ ⟨r1, rfl, rfl⟩ he; cases he) | refine l_load (h := ?_) | refine l_store (h := ?_) | refine l_indexAddr (h := ?_) | refine g_ret (h := ?_) | refine a_done (h := ?_) | refine a_load (h := a_pass2 (h := ?_)) | refine a_one (h := ?_) | refine n_any (h := a_pass2 (h := ?_)) | refine a_v (h := ?_) | refine a_load_vec (h := a_pass2 (h := ?_)) | refine a_fork2 (h1 := ?_) (h2 := ?_) | refine a_fork3 (h1 := ?_) (h2 := ?_) (h3 := ?_) | refine a1_of (h := ?_)))
  all_goals
    refine n_inv (fun i => vec_nil (3) (1) i) ?_
  all_goals
    (refine n_shut (A := Nds ⟨true, d.keys.drop (k + 0), d.vals.drop k, []⟩ ⟨q1, e1, q2, e2, none, 0⟩) (K := NdsK ⟨true, d.keys.drop (k + 0), d.vals.drop k, []⟩ ⟨q1, e1, q2, e2, none, 0⟩ (())) (hid_shuts (()) trivial) (h := ?_) (p := by dsimp only [NdsK]; (try simp only [List.map_nil, List.length_nil, List.length_set, List.length_append, List.length_cons, List.length_singleton, List.map_append, List.map_cons, Nat.zero_add]); exact parts_of))
  all_goals
    (refine n_shut (A := Nds d ⟨some ⟨g, 0, none⟩, c1, p2, c2, p3, c3⟩) (K := NdsK d ⟨some ⟨g, 0, none⟩, c1, p2, c2, p3, c3⟩ (())) (hid_shuts (()) trivial) (h := ?_) (p := by dsimp only [NdsK]; (try simp only [List.map_nil, List.length_nil, List.length_set, List.length_append, List.length_cons, List.length_singleton, List.map_append, List.map_cons, Nat.zero_add]); exact parts_of))
  all_goals
    refine r_retk [Nds (d.front k) r1, Nds ⟨true, d.keys.drop (k + 0), d.vals.drop k, []⟩ ⟨q1, e1, q2, e2, none, 0⟩, Nds d ⟨some ⟨g, 0, none⟩, c1, p2, c2, p3, c3⟩] ?_
  all_goals
    refine ⟨r1, ⟨q1, e1, q2, e2, none, 0⟩, ?_, ?_⟩ <;> rw [hb]
    rfl

set_option maxHeartbeats 1000000 in
theorem splitL_does (d : Nd) (r : Rw) (hl : d.leaf = true) (hp : d.plain) (hf : d.fits) (hz : d.size < 10000) (hm : 1 ≤ d.keys.length - 1 - 0) : Does Tryz.prog 113 [.agg #[.bool true, .slice r.p1 d.keys.length r.c1, .slice r.p2 d.vals.length r.c2, .slice r.p3 d.kids.length r.c3]] [Nds d r]
    (fun u H => ∃ r1 r2, u = .tuple #[ndV (d.front d.at') r1, .int .u64 (d.keys.getD d.at' 0 : Nat), ndV (d.back d.at') r2, .bool true] ∧ H = [Nds (d.front d.at') r1, Nds (d.back d.at') r2, Nds d r]) := by
  have hfr := fun (b : Nat) k (hk : k < 10000) => front_does d r b k hp hf hk
  have hsz := ndSize_does d r hf
  have hsf := fun k r' => ndSize_does (d.front k) r' (Nd.front_fits hf k)
  have hfs := fun k => Nd.front_size hp k
  have hcs := fun m k => Nd.cut_step (d := d) (m := m) (k := k)
  have hcq := fun m k => Nd.cut_stop (d := d) (m := m) (k := k)
  have hu : d.up = 0 := by simp [Nd.up, hl]
  have hat : d.cut (d.keys.length - 1 - 0 - 1) 1 = d.at' := by rw [Nd.at', hu]
  have htl := fun k b1 b2 b3 => splitL_tail d r k b1 b2 b3 hl hp hf
  have hkl := hf.k
  simp only [ndV, ndA, hl] at hfr hsz
  have e4 : IntKind.i64.wrap (Int.tdiv (d.size : Int) 2) = ((d.size / 2 : Nat) : Int) := by rw [show Int.tdiv (d.size : Int) 2 = ((d.size / 2 : Nat) : Int) from rfl, wrapI64 (by omega)]
  have ew0 : IntKind.i64.wrap ((d.keys.length : Int) - 1) = ((d.keys.length - 1 : Nat) : Int) := by rw [wrapI64 (by omega)]; omega
  have ew1 : IntKind.i64.wrap (IntKind.i64.wrap ((d.keys.length : Int) - 1) - 0) = ((d.keys.length - 1 - 0 : Nat) : Int) := by rw [ew0, wrapI64 (by omega)]; omega
  refine does_of Tryz.func113 Tryz.ntmps113 rfl rfl rfl (fun w0 F0 => ?_)
  (repeat' (first | refine g_seq (h := ?_) | refine g_region (h := ?_) | refine l_nil (h := ?_) | refine n_then (h := ?_) | refine l_pures1 (h := ?_) | refine l_load (h := ?_) | (refine l_box (h := ?_); intro _) | (refine l_alloc (h := ?_); intro _) | refine g_skip (h := ?_) | refine g_block (h := ?_) | refine g_cond_f (h := ?_) | (refine g_spF (h := ?_); intro h)))
  rw [ew1]
  rename_i b1 b2 b3
  (refine g_loop (fun k : Nat => [(9, .int .i64 k), (7, .int .i64 ((d.keys.length - 1 - 0) : Nat)), (8, .func (.func 156) #[] #[.pointer (some ⟨b1, 0, none⟩)]), (6, .int .i64 0), (1, .pointer (some ⟨b1, 0, none⟩)), (2, .pointer (some ⟨b2, 0, none⟩)), (4, .pointer (some ⟨b3, 0, none⟩))]) (fun _ => [cl b1 176 #[.bool true, .slice r.p1 d.keys.length r.c1, .slice r.p2 d.vals.length r.c2, .slice r.p3 d.kids.length r.c3].toList, Nds d r, cl b2 176 [.bool false, .slice none 0 0, .slice none 0 0, .slice none 0 0], cl b3 176 [.bool false, .slice none 0 0, .slice none 0 0, .slice none 0 0]]) (fun k => (1 ≤ k ∧ k ≤ (d.keys.length - 1 - 0)) ∧ d.cut ((d.keys.length - 1 - 0) - k) k = d.at') (fun k => d.keys.length - k) (1) ?_ ?_ ?_ ?_; rotate_left; (repeat (first | refine ts_nil | (refine ts_cons rfl ?_ ?_; first | (with_reducible rfl) | rotate_left))); (first | (intro _ i; with_reducible refine i) | rotate_left); rotate_left; (try omega); rotate_right)
  · intro k hk
    dsimp only at hk ⊢
    obtain ⟨hk, hkc⟩ := hk
    have hfk := hfs k
    have ew2 : IntKind.i64.wrap ((k : Int) + 1) = ((k + 1 : Nat) : Int) := by rw [wrapI64 (by omega)]; rfl
    have hk0 : d.keys.length - 1 - 0 - k = 0 → k = d.at' := fun e => by rw [e] at hkc; exact hkc
    have hk1 : ¬ (d.front k).size < d.size / 2 → k = d.at' := fun e => (hcq _ _ e).symm.trans hkc
    have hk2 : k < d.keys.length - 1 - 0 → (d.front k).size < d.size / 2 → d.cut (d.keys.length - 1 - 0 - (k + 1)) (k + 1) = d.at' := fun e1 e2 => by
      rw [← hcs _ _ e2, show d.keys.length - 1 - 0 - (k + 1) + 1 = d.keys.length - 1 - 0 - k by omega]; exact hkc
    (repeat refine g_seq (h := ?_))
    (refine g_draw [cl b1 176 #[.bool true, .slice r.p1 d.keys.length r.c1, .slice r.p2 d.vals.length r.c2, .slice r.p3 d.kids.length r.c3].toList] (h := a_pass2 (h := ?_)))
    (repeat' (first | ((with_reducible show G _ _ _ _ (Code.seq (Code.region 11 _ _) _) _ _ _ _); exact g_bang (htl k b1 b2 b3 (by first | exact hk0 (by omega) | exact hk1 (by omega)) (by omega) _ _)) | refine g_region (h := ?_) | refine l_nil (h := ?_) | refine n_then (h := ?_) | refine l_pures1 (h := ?_) | (refine l_atc ?_; refine l_call_ (hfr b1 k (by omega)) ?_; rintro _ _ _ ⟨r', rfl, rfl⟩ he; cases he) | (refine l_atc ?_; refine l_call (hsf k _) ?_) | (refine l_atc ?_; refine l_call (hsz) ?_) | refine l_guard_yes (h := ?_) | refine l_guard_no (h := ?_) | refine l_load (h := ?_) | refine g_skip (h := ?_) | refine g_block (h := ?_) | refine g_exit (h := ?_) | refine n_then_exit (h := ?_) | refine n_block_hit (h := ?_) | refine a_done (h := ?_) | refine a_one (h := ?_) | refine n_any (h := a_pass2 (h := ?_)) | refine a_vg (h := ?_) | refine a_no (h := ?_) | refine n_block (h := ?_) | refine g_cond_f (h := ?_) | (refine a_sp (h1 := ?_) (h0 := ?_) <;> intro h) | (refine g_sp (h1 := ?_) (h0 := ?_) <;> intro h) | refine a_fork2 (h1 := ?_) (h2 := ?_) | refine a1_of (h := ?_)))
    all_goals
      (refine n_back (k + 1) ?_ ?_ ?_ ?_; rotate_left; rotate_left; (repeat (first | refine ts_nil | (refine ts_cons rfl ?_ ?_; first | (with_reducible rfl) | rotate_left))); (first | (intro _ i; with_reducible refine i) | rotate_left); (try omega); (try omega))
    all_goals (try rw [ew2])
    all_goals
      (intro _ i; exact inv_keep parts_of i)
  · rfl
  · (intro _ i; exact inv_keep parts_of i)
end Go.Proofs.YtmfmommgooccnaaGreat
/- Package tree: two nodes as one; Split of any node. -/
set_option maxRecDepth 20000
set_option linter.unusedVariables false
set_option linter.unusedSimpArgs false
namespace Go.Proofs.YtmfmommgooccnaaGreat
open Go.Proofs.YtmfmommgooccnaaGreat.SL

theorem nSplit_does (d : Nd) (r : Rw) (hp : d.plain) (hf : d.fits) (hz : d.size < 10000) (hm : 1 ≤ d.keys.length - 1 - d.up) : Does Tryz.prog 113 [ndV d r] [Nds d r]
    (fun u H => ∃ r1 r2, u = .tuple #[ndV (d.front d.at') r1, .int .u64 (d.keys.getD d.at' 0 : Nat), ndV (d.back d.at') r2, .bool true] ∧ H = [Nds (d.front d.at') r1, Nds (d.back d.at') r2, Nds d r]) := by
  cases hl : d.leaf
  · have hu : d.up = 1 := by simp [Nd.up, hl]
    rw [hu] at hm
    have := splitB_does d r hl hp hf hz hm
    simpa only [ndV, ndA, hl] using this
  · have hu : d.up = 0 := by simp [Nd.up, hl]
    rw [hu] at hm
    have := splitL_does d r hl hp hf hz hm
    simpa only [ndV, ndA, hl] using this
end Go.Proofs.YtmfmommgooccnaaGreat
/- Package page. -/
set_option linter.unusedVariables false
set_option linter.unusedSimpArgs false
namespace Go.Proofs.YtmfmommgooccnaaGreat
open Go.Proofs.YtmfmommgooccnaaGreat.SL

/-- The two sums of a text. -/
def sumAB : List UInt8 → Nat × Nat → Nat × Nat
  | [], p => p
  | c :: l, (a, b) => sumAB l ((a + c.toNat) % 65521, (b + (a + c.toNat) % 65521) % 65521)
theorem sumAB_snoc (c : UInt8) : ∀ (l : List UInt8) (p : Nat × Nat), sumAB (l ++ [c]) p = (((sumAB l p).1 + c.toNat) % 65521, ((sumAB l p).2 + ((sumAB l p).1 + c.toNat) % 65521) % 65521)
  | [], (a, b) => rfl
  | d :: l, (a, b) => by rw [List.cons_append, sumAB, sumAB_snoc c l]; rfl
theorem sumAB_lt : ∀ (l : List UInt8) (p : Nat × Nat), p.1 < 65521 ∧ p.2 < 65521 → (sumAB l p).1 < 65521 ∧ (sumAB l p).2 < 65521
  | [], p, h => h
  | c :: l, (a, b), h => sumAB_lt l _ ⟨Nat.mod_lt _ (by decide), Nat.mod_lt _ (by decide)⟩
def sumP (l : List UInt8) : Nat := (sumAB l (1, 0)).2 * 65536 + (sumAB l (1, 0)).1
theorem sumP_lt (l : List UInt8) : sumP l < 4294967296 := by
  have := sumAB_lt l (1, 0) (by decide)
  unfold sumP; omega

theorem sum_step {A c : Nat} (hA : A < 65521) (hc : c < 65521) : (IntKind.u32.wrap ((A : Int) + (c : Int))).tmod 65521 = ((A + c) % 65521 : Nat) := by
  rw [wrapU32 (by omega), Int.tmod_eq_emod_of_nonneg (by omega)]
  omega

theorem Sum_does (l : List UInt8) (hl : l.length < 9223372036854775808) : Does Tryz.prog 196 [.string (str l)] [] (fun v H => v = .int .u32 (sumP l) ∧ H = []) := by
  refine does_of Tryz.func196 Tryz.ntmps196 rfl rfl rfl (fun w0 F0 => ?_)
  (repeat (first | refine g_seq (h := ?_) | refine g_region (h := ?_) | refine l_nil (h := ?_) | refine n_then (h := ?_) | refine l_pures1 (h := ?_) | refine g_block (h := ?_)))
  (refine g_loop (fun k : Nat => [(8, .int .i64 k), (7, .int .i64 l.length), (6, .string (str l)), (4, .int .u32 (sumAB (l.take k) (1, 0)).2), (3, .int .u32 (sumAB (l.take k) (1, 0)).1), (0, .string (str l))]) (fun _ => []) (fun k => k ≤ l.length) (fun k => l.length - k) (0) ?_ ?_ ?_ ?_; rotate_left; (repeat (first | refine ts_nil | (refine ts_cons rfl ?_ ?_; first | (with_reducible rfl) | rotate_left))); (first | (intro _ i; with_reducible refine i) | rotate_left); rotate_left; (try omega); rotate_right)
  · intro k hk
    have hlt := sumAB_lt (l.take k) (1, 0) (by decide)
    (repeat' (first | refine g_seq (h := ?_) | refine g_region (h := ?_) | refine l_nil (h := ?_) | refine n_then (h := ?_) | refine l_pures1 (h := ?_) | refine l_index (h := ?_) | refine l_shl (h := ?_) | refine g_skip (h := ?_) | refine g_ret (h := ?_) | refine g_block (h := ?_) | refine g_exit (h := ?_) | refine n_then_exit (h := ?_) | refine n_block_hit (h := ?_) | refine n_block (h := ?_) | (refine g_sp (h1 := ?_) (h0 := ?_) <;> intro h)))
    · have hby := byteAt_bd l k
      have hkl : k < l.length := by omega
      have hc : IntKind.u32.wrap (byteAt l k) = ((l.getD k 0).toNat : Int) := by rw [wrapU32 (by omega)]; simp [byteAt]
      have ht : sumAB (l.take (k + 1)) (1, 0) = (((sumAB (l.take k) (1, 0)).1 + (l.getD k 0).toNat) % 65521, ((sumAB (l.take k) (1, 0)).2 + ((sumAB (l.take k) (1, 0)).1 + (l.getD k 0).toNat) % 65521) % 65521) := by
        rw [List.take_succ_eq_append_getElem hkl, sumAB_snoc, List.getD, List.getElem?_eq_getElem hkl]; rfl
      have h256 := (l.getD k 0).toNat_lt
      (refine n_back (k + 1) ?_ ?_ ?_ ?_; rotate_left; rotate_left; (repeat (first | refine ts_nil | (refine ts_cons rfl ?_ ?_; first | (with_reducible rfl) | rotate_left))); (first | (intro _ i; with_reducible refine i) | rotate_left); (try omega); (try omega))
      · rw [wrapI64 (by omega)]; rfl
      · rw [hc, sum_step hlt.1 (by omega), sum_step hlt.2 (Nat.mod_lt _ (by decide)), ht]
      · rw [hc, sum_step hlt.1 (by omega), ht]
    · refine r_ret ?_
      have e : l.take k = l := List.take_of_length_le (by omega)
      have e16 : (2 : Int) ^ min (Int.toNat 16) IntKind.u32.bits = 65536 := by decide
      have hlt' := sumAB_lt l (1, 0) (by decide)
      rw [e, e16]
      refine ⟨?_, rfl⟩
      rw [wrapU32 (n := ((sumAB l (1, 0)).2 : Int) * 65536) (by omega), wrapU32 (by omega)]
      simp [packV, sumP]
  all_goals rfl

theorem shr8 {n k : Nat} (h : k < 4) : (n : Int).fdiv (2 ^ min (IntKind.i64.wrap (8 * (k : Int))).toNat IntKind.u32.bits) = ((n / 256 ^ k : Nat) : Int) := by
  rw [wrapI64 (by omega), Int.fdiv_eq_ediv_of_nonneg _ (by exact Int.le_of_lt (Int.pow_pos (by decide)))]
  have : k = 0 ∨ k = 1 ∨ k = 2 ∨ k = 3 := by omega
  rcases this with rfl | rfl | rfl | rfl <;> simp [IntKind.bits]
theorem tail_set {body : List UInt8} {n k : Nat} (hb : body.length = 252) (h : k < 4) : (body ++ (List.replicate (4 - k) 0 ++ putN n k)).set (0 + (IntKind.i64.wrap (255 - (k : Int))).toNat * 1) (UInt8.ofNat (n / 256 ^ k)) = body ++ (List.replicate (4 - (k + 1)) 0 ++ putN n (k + 1)) := by
  rw [wrapI64 (by omega), show 0 + (255 - (k : Int)).toNat * 1 = 252 + (3 - k) by omega, List.set_append_right _ _ (by omega), hb, show 252 + (3 - k) - 252 = 3 - k by omega]
  rw [show 4 - k = (3 - k) + 1 by omega, List.replicate_succ', List.append_assoc, List.set_append_right _ _ (by simp), List.length_replicate, Nat.sub_self, List.singleton_append, List.set_cons_zero, putN_cons, show 4 - (k + 1) = 3 - k by omega]

/-- All of a page but its sum. -/
def bodyP (kind : Int) (t : List UInt8) : List UInt8 := UInt8.ofNat kind.toNat :: UInt8.ofNat t.length :: (t ++ List.replicate (250 - t.length) 0)
def sealP (kind : Int) (t : List UInt8) : List UInt8 := bodyP kind t ++ putN (sumP (bodyP kind t)) 4
def pageSeal (kind : Int) (t : List UInt8) : List UInt8 × Int := if kind < 1 ∨ kind > 15 ∨ t.length > 240 then ([], 1) else (sealP kind t, 0)

set_option maxHeartbeats 1000000 in
theorem Seal_does (kind : Int) (t : List UInt8) (ht : t.length < 9223372036854775808) : Does Tryz.prog 178 [.int .i64 kind, .string (str t)] []
    (fun v H => v = .tuple #[.string (str (pageSeal kind t).1), .int .i64 (pageSeal kind t).2] ∧ H = []) := by
  refine does_of Tryz.func178 Tryz.ntmps178 rfl rfl rfl (fun w0 F0 => ?_)
  (repeat' (first | refine g_seq (h := ?_) | refine g_region (h := ?_) | refine l_nil (h := ?_) | refine n_then (h := ?_) | refine l_pures1 (h := ?_) | refine l_guard_yes (h := ?_) | refine l_guard_no (h := ?_) | refine l_store (h := ?_) | (refine l_makeSlice (h := ?_); intro _) | refine l_indexAddr (h := ?_) | refine l_slice (h := ?_) | refine g_skip (h := ?_) | refine g_ret (h := ?_) | refine n_then_ret (h := ?_) | refine g_cond_t (h := ?_) | (refine l_sp (h1 := ?_) (h0 := ?_) <;> intro h) | (refine g_sp (h1 := ?_) (h0 := ?_) <;> intro h)))
  · refine r_ret ?_
    exact ⟨by rw [pageSeal, if_pos (by omega)]; rfl, rfl⟩
  · refine r_ret ?_
    exact ⟨by rw [pageSeal, if_pos (by omega)]; rfl, rfl⟩
  · refine r_ret ?_
    exact ⟨by rw [pageSeal, if_pos (by omega)]; rfl, rfl⟩
  · rename_i b
    have hk : IntKind.u8.wrap kind = ((UInt8.ofNat kind.toNat).toNat : Int) := by rw [wrapU8 (by omega)]; simp; omega
    have hl : IntKind.u8.wrap (t.length : Int) = ((UInt8.ofNat t.length).toNat : Int) := by rw [wrapU8 (by omega)]; simp; omega
    have e0 : (Value.int IntKind.u8 (IntKind.u8.wrap kind) :: Value.int IntKind.u8 (IntKind.u8.wrap t.length) :: List.replicate 254 (Value.int IntKind.u8 0)) = bsV (UInt8.ofNat kind.toNat :: UInt8.ofNat t.length :: List.replicate 254 0) := by
      rw [hk, hl]; unfold bsV; rw [List.map_cons, List.map_cons, List.map_replicate]; rfl
    rw [e0]
    (repeat (first | refine g_seq (h := ?_) | refine g_region (h := ?_) | refine l_nil (h := ?_) | refine n_then (h := ?_) | refine l_pures1 (h := ?_) | refine l_slice (h := ?_) | refine l_copy_str (h := ?_)))
    have e1 : (List.take (0 + Int.toNat 2 * 1) (UInt8.ofNat kind.toNat :: UInt8.ofNat t.length :: List.replicate 254 0) ++ List.take (min t.length (((Int.toNat 256 : Nat) : Int).toNat - Int.toNat 2)) t ++ List.drop (0 + Int.toNat 2 * 1 + min t.length (((Int.toNat 256 : Nat) : Int).toNat - Int.toNat 2)) (UInt8.ofNat kind.toNat :: UInt8.ofNat t.length :: List.replicate 254 0)) = bodyP kind t ++ List.replicate 4 0 := by
      have e2 : min t.length (((Int.toNat 256 : Nat) : Int).toNat - Int.toNat 2) = t.length := by omega
      rw [e2]
      have e3 : 0 + Int.toNat 2 * 1 = 2 := by decide
      rw [e3, List.take_length, Nat.add_comm 2, List.drop_succ_cons, List.drop_succ_cons, List.drop_replicate]
      unfold bodyP
      have e4 : 254 - t.length = (250 - t.length) + 4 := by omega
      rw [e4, ← List.replicate_append_replicate, List.take_succ_cons, List.take_succ_cons, List.take_zero]
      simp only [List.cons_append, List.nil_append, List.append_assoc]
    rw [e1]
    have hbl : (bodyP kind t).length = 252 := by unfold bodyP; simp; omega
    (repeat refine l_str_bs (h := ?_))
    have e5 : List.take (Int.toNat 252 - Int.toNat 0) (List.drop (0 + Int.toNat 0 * 1) (bodyP kind t ++ List.replicate 4 0)) = bodyP kind t := by
      rw [show 0 + Int.toNat 0 * 1 = 0 by decide, List.drop_zero, show Int.toNat 252 - Int.toNat 0 = 252 by decide, ← hbl, List.take_left]
    rw [e5]
    have hlt := sumP_lt (bodyP kind t)
    (repeat (first | refine g_seq (h := ?_) | refine g_region (h := ?_) | refine l_nil (h := ?_) | refine n_then (h := ?_) | refine l_pures1 (h := ?_) | (refine l_at 196 ?_; refine l_call (Sum_does (bodyP kind t) (by omega)) ?_) | refine g_block (h := ?_)))
    obtain ⟨n, hn⟩ : ∃ n, sumP (bodyP kind t) = n := ⟨_, rfl⟩
    rw [hn] at hlt
    rw [hn]
    (refine g_loop (fun k : Nat => [(38, .int .i64 k), (7, .int .u32 n), (6, .slice (some ⟨b, 0, none⟩) 256 256)]) (fun k => [cl b 5 (bsV (bodyP kind t ++ (List.replicate (4 - k) 0 ++ putN n k)))]) (fun k => k ≤ 4) (fun k => 4 - k) (0) ?_ ?_ ?_ ?_; rotate_left; (repeat (first | refine ts_nil | (refine ts_cons rfl ?_ ?_; first | (with_reducible rfl) | rotate_left))); (first | (intro _ i; with_reducible refine i) | rotate_left); rotate_left; (try omega); rotate_right)
    · intro k hk4
      have e6 : IntKind.i64.wrap (255 - (k : Int)) = 255 - k := wrapI64 (by omega)
      have e7 : IntKind.i64.wrap (8 * (k : Int)) = 8 * k := wrapI64 (by omega)
      (repeat' (first | refine g_seq (h := ?_) | refine g_region (h := ?_) | refine l_nil (h := ?_) | refine n_then (h := ?_) | refine l_pures1 (h := ?_) | refine l_store_at (h := ?_) | refine l_indexAddr (h := ?_) | refine l_shr (h := ?_) | refine l_str_bs (h := ?_) | refine g_skip (h := ?_) | refine g_ret (h := ?_) | refine g_block (h := ?_) | refine g_exit (h := ?_) | refine n_then_exit (h := ?_) | refine n_block_hit (h := ?_) | refine n_block (h := ?_) | (refine g_sp (h1 := ?_) (h0 := ?_) <;> intro h)))
      · (refine n_back (k + 1) ?_ ?_ ?_ ?_; rotate_left; rotate_left; (repeat (first | refine ts_nil | (refine ts_cons rfl ?_ ?_; first | (with_reducible rfl) | rotate_left))); (first | (intro _ i; with_reducible refine i) | rotate_left); (try omega); (try omega))
        · rw [wrapI64 (by omega)]; rfl
        · have hk4' : k < 4 := by omega
          have ec : UInt8.ofNat (IntKind.u8.wrap ((n / 256 ^ k : Nat) : Int)).toNat = UInt8.ofNat (n / 256 ^ k) := by
            obtain ⟨q, hq⟩ : ∃ q, n / 256 ^ k = q := ⟨_, rfl⟩
            rw [IntKind.wrap_u8, hq]; apply UInt8.toNat.inj; rw [show ((q : Int) % 256).toNat = q % 256 by omega]; simp
          rw [shr8 hk4', bsV_set (by rw [IntKind.wrap_u8]; omega), ec, tail_set hbl hk4']
          intro _ i; exact i
      · obtain rfl : k = 4 := by omega
        refine r_retk [] ?_
        have e8 : List.take 256 (List.drop 0 (bodyP kind t ++ (List.replicate (4 - 4) 0 ++ putN n 4))) = sealP kind t := by
          rw [List.drop_zero, List.take_of_length_le (by simp [hbl, putN_length]), sealP, hn]; rfl
        rw [e8, pageSeal, if_neg (by omega)]
        exact ⟨rfl, rfl⟩
    all_goals first | rfl | (intro _ i; rw [show List.replicate (4 - 0) (0 : UInt8) ++ putN n 0 = List.replicate 4 0 by simp [putN]]; exact i)

theorem or8 {a c : Nat} (ha : a < 16777216) (hc : c < 256) : bits BinOp.or IntKind.u32 (IntKind.u32.wrap ((a : Int) * 2 ^ min (Int.toNat 8) IntKind.u32.bits)) (IntKind.u32.wrap (c : Int)) = ((a * 256 + c : Nat) : Int) := by
  rw [p8', wrapU32 (n := (a : Int) * 256) (by omega), wrapU32 (n := (c : Int)) (by omega)]
  have e : ((a : Int) * 256) = ((2 ^ 8 * a : Nat) : Int) := by omega
  rw [e, bits_or (by simp [IntKind.bits]; omega) (by simp [IntKind.bits]; omega), ← Nat.two_pow_add_eq_or_of_lt (i := 8) (by omega), wrapU32 (by omega)]
  omega

def pageOpen (b : List UInt8) : Int × List UInt8 × Int :=
  if b.length ≠ 256 then (0, [], 2) else if sumP (b.take 252) ≠ getN (b.drop 252) then (0, [], 15)
  else if pageSeal (byteAt b 0) ((b.drop 2).take (min (b.getD 1 0).toNat 250)) = (b, 0) then (byteAt b 0, (b.drop 2).take (min (b.getD 1 0).toNat 250), 0) else (0, [], 2)
def openV (r : Int × List UInt8 × Int) : Value := .tuple #[.int .i64 r.1, .string (str r.2.1), .int .i64 r.2.2]

set_option maxHeartbeats 1000000 in
theorem Open_does (b : List UInt8) (hb : b.length < 9223372036854775808) : Does Tryz.prog 221 [.string (str b)] [] (fun v H => v = openV (pageOpen b) ∧ H = []) := by
  refine does_of Tryz.func221 Tryz.ntmps221 rfl rfl rfl (fun w0 F0 => ?_)
  (repeat' (first | refine g_seq (h := ?_) | refine g_region (h := ?_) | refine l_nil (h := ?_) | refine n_then (h := ?_) | refine l_pures1 (h := ?_) | refine g_skip (h := ?_) | refine g_ret (h := ?_) | refine n_then_ret (h := ?_) | refine g_block (h := ?_) | (refine g_sp (h1 := ?_) (h0 := ?_) <;> intro h)))
  · refine r_ret ?_
    exact ⟨by rw [pageOpen, if_pos (by omega)]; rfl, rfl⟩
  · (refine g_loop (fun k : Nat => [(13, .int .i64 k), (5, .int .u32 (getN ((b.drop 252).take k))), (4, .int .i64 0), (3, .string { data := #[] }), (2, .int .i64 0), (0, .string (str b))]) (fun k => []) (fun k => k ≤ 4) (fun k => 4 - k) (0) ?_ ?_ ?_ ?_; rotate_left; (repeat (first | refine ts_nil | (refine ts_cons rfl ?_ ?_; first | (with_reducible rfl) | rotate_left))); (first | (intro _ i; with_reducible refine i) | rotate_left); rotate_left; (try omega); rotate_right)
    · intro k hk4
      have e6 : IntKind.i64.wrap (252 + (k : Int)) = 252 + k := wrapI64 (by omega)
      have hd : (b.drop 252).length = 4 := by simp; omega
      (repeat' (first | refine g_seq (h := ?_) | refine g_region (h := ?_) | refine l_nil (h := ?_) | refine n_then (h := ?_) | refine l_pures1 (h := ?_) | refine l_index (h := ?_) | refine l_slice_str (h := ?_) | refine l_shl (h := ?_) | refine g_skip (h := ?_) | refine g_block (h := ?_) | refine g_exit (h := ?_) | refine n_then_exit (h := ?_) | refine n_block_hit (h := ?_) | refine n_block (h := ?_) | (refine g_sp (h1 := ?_) (h0 := ?_) <;> intro h)))
      · (refine n_back (k + 1) ?_ ?_ ?_ ?_; rotate_left; rotate_left; (repeat (first | refine ts_nil | (refine ts_cons rfl ?_ ?_; first | (with_reducible rfl) | rotate_left))); (first | (intro _ i; with_reducible refine i) | rotate_left); (try omega); (try omega))
        · rw [wrapI64 (by omega)]; rfl
        · have hg := getN_lt ((b.drop 252).take k)
          have hp : 256 ^ ((b.drop 252).take k).length ≤ 256 ^ 3 := Nat.pow_le_pow_right (by decide) (by simp; omega)
          have h3 : getN ((b.drop 252).take k) < 16777216 := Nat.lt_of_lt_of_le hg hp
          have hby : byteAt b (IntKind.i64.wrap (252 + (k : Int))) = (((b.drop 252).getD k 0).toNat : Int) := by
            rw [e6]
            unfold byteAt
            rw [show (252 + (k : Int)).toNat = 252 + k by omega]
            simp [List.getD]
          rw [hby, or8 h3 (UInt8.toNat_lt _), getN_take (by omega)]
      · have hcut : cutB b (Int.toNat 0) (Int.toNat 252) = b.take 252 := by
          show (b.drop 0).take (252 - 0) = _
          rw [List.drop_zero]
        have hN : (b.drop 252).take k = b.drop 252 := List.take_of_length_le (by omega)
        rw [hcut, hN]
        (repeat' (first | refine g_seq (h := ?_) | refine g_region (h := ?_) | refine l_nil (h := ?_) | refine n_then (h := ?_) | refine l_pures1 (h := ?_) | (refine l_at 196 ?_; refine l_call (Sum_does (b.take 252) (by simp; omega)) ?_) | refine l_index (h := ?_) | refine g_skip (h := ?_) | refine g_ret (h := ?_) | refine n_then_ret (h := ?_) | (refine g_sp (h1 := ?_) (h0 := ?_) <;> intro h)))
        · refine r_ret ?_
          exact ⟨by rw [pageOpen, if_neg (by omega), if_pos (by omega)]; rfl, rfl⟩
        · obtain ⟨sz, hsz⟩ : ∃ sz, min (b.getD 1 0).toNat 250 = sz := ⟨_, rfl⟩
          have hby1 := byteAt_bd b 1
          have hb1 : byteAt b 1 = ((b.getD 1 0).toNat : Int) := rfl
          have hb0 := byteAt_bd b 0
          have e7 : IntKind.i64.wrap (2 + (bif false then mxI (IntKind.i64.wrap (byteAt b 1)) 250 else mnI (IntKind.i64.wrap (byteAt b 1)) 250)) = ((2 + sz : Nat) : Int) := by
            rw [cond_false, mnI_eq, wrapI64 (n := byteAt b 1) (by omega), wrapI64 (by omega)]
            omega
          have e8 : IntKind.i64.wrap (byteAt b 0) = byteAt b 0 := wrapI64 (by omega)
          have hcut2 : cutB b (Int.toNat 2) (((2 + sz : Nat) : Int).toNat) = (b.drop 2).take sz := by
            show (b.drop 2).take (((2 + sz : Nat) : Int).toNat - 2) = _
            rw [show ((2 + sz : Nat) : Int).toNat - 2 = sz by omega]
          rw [e7]
          (repeat (first | refine g_seq (h := ?_) | refine g_region (h := ?_) | refine l_nil (h := ?_) | refine n_then (h := ?_) | refine l_pures1 (h := ?_) | refine l_index (h := ?_) | refine l_slice_str (h := ?_)))
          rw [hcut2, e8]
          (repeat' (first | refine g_seq (h := ?_) | refine g_region (h := ?_) | refine l_nil (h := ?_) | refine n_then (h := ?_) | refine l_pures1 (h := ?_) | (refine l_at 178 ?_; refine l_call (Seal_does (byteAt b 0) ((b.drop 2).take sz) (by simp; omega)) ?_) | refine l_guard_yes (h := ?_) | refine l_guard_no (h := ?_) | refine l_index (h := ?_) | refine g_skip (h := ?_) | refine g_ret (h := ?_) | refine n_then_ret (h := ?_) | refine g_cond_t (h := ?_) | (refine l_sp (h1 := ?_) (h0 := ?_) <;> intro h) | (refine g_sp (h1 := ?_) (h0 := ?_) <;> intro h)))
          · refine r_ret ?_
            exact ⟨by rw [pageOpen, if_neg (by omega), if_neg (by omega), hsz, if_neg (fun q => absurd (congrArg Prod.snd q) (by assumption))]; rfl, rfl⟩
          · refine r_ret ?_
            exact ⟨by rw [pageOpen, if_neg (by omega), if_neg (by omega), hsz, if_neg (fun q => absurd (congrArg Prod.fst q) (by assumption))]; rfl, rfl⟩
          · refine r_ret ?_
            rename_i hp2 hp1
            have hp : pageSeal (byteAt b 0) ((b.drop 2).take sz) = (b, 0) := Prod.ext (by assumption) (by assumption)
            exact ⟨by rw [e8, pageOpen, if_neg (by omega), if_neg (by omega), hsz, if_pos hp]; rfl, rfl⟩
    all_goals rfl

def pageWrite (D : Dk) (n kind : Int) (t : List UInt8) : Int × Dk := if (pageSeal kind t).2 ≠ 0 then ((pageSeal kind t).2, D) else D.write n (pageSeal kind t).1
theorem pWrite_does (b : Nat) (D : Dk) (n kind : Int) (t : List UInt8) (ht : t.length < 9223372036854775808) : Does Tryz.prog 145 [.pointer (some ⟨b, 0, none⟩), .int .i64 n, .int .i64 kind, .string (str t)] [Disk b D]
    (fun v H => v = .int .i64 (pageWrite D n kind t).1 ∧ H = [Disk b (pageWrite D n kind t).2]) := by
  refine does_of Tryz.func145 Tryz.ntmps145 rfl rfl rfl (fun w0 F0 => ?_)
  (repeat' (first | refine g_seq (h := ?_) | refine g_region (h := ?_) | refine l_nil (h := ?_) | refine n_then (h := ?_) | refine l_pures1 (h := ?_) | (refine l_at 178 ?_; refine l_call (Seal_does kind t ht) ?_) | (refine l_at 179 ?_; refine l_call (Write_does b D n (pageSeal kind t).1) ?_) | refine g_skip (h := ?_) | refine g_ret (h := ?_) | refine n_then_ret (h := ?_) | (refine g_sp (h1 := ?_) (h0 := ?_) <;> intro h)))
  · refine r_ret ?_
    exact ⟨by rw [pageWrite, if_pos (by assumption)]; rfl, by rw [pageWrite, if_pos (by assumption)]⟩
  · refine r_ret ?_
    exact ⟨by rw [pageWrite, if_neg (by omega)]; rfl, by rw [pageWrite, if_neg (by omega)]⟩

def pageRead (D : Dk) (n : Int) : Int × List UInt8 × Int := if (D.read n).2 ≠ 0 then (0, [], (D.read n).2) else pageOpen (D.read n).1
theorem pRead_does (b : Nat) (D : Dk) (n : Int) (hl : (D.read n).1.length < 9223372036854775808) : Does Tryz.prog 202 [.pointer (some ⟨b, 0, none⟩), .int .i64 n] [Disk b D]
    (fun v H => v = openV (pageRead D n) ∧ H = [Disk b D]) := by
  refine does_of Tryz.func202 Tryz.ntmps202 rfl rfl rfl (fun w0 F0 => ?_)
  (repeat' (first | refine g_seq (h := ?_) | refine g_region (h := ?_) | refine l_nil (h := ?_) | refine n_then (h := ?_) | refine l_pures1 (h := ?_) | (refine l_at 220 ?_; refine l_call (Read_does b D n) ?_) | (refine l_at 221 ?_; refine l_call (Open_does (D.read n).1 hl) ?_) | refine g_skip (h := ?_) | refine g_ret (h := ?_) | refine n_then_ret (h := ?_) | (refine g_sp (h1 := ?_) (h0 := ?_) <;> intro h)))
  · refine r_ret ?_
    exact ⟨by rw [pageRead, if_pos (by assumption)]; rfl, rfl⟩
  · refine r_ret ?_
    exact ⟨by rw [pageRead, if_neg (by omega)]; rfl, rfl⟩
end Go.Proofs.YtmfmommgooccnaaGreat
/- Package bits. -/
set_option linter.unusedVariables false
set_option linter.unusedSimpArgs false
namespace Go.Proofs.YtmfmommgooccnaaGreat
open Go.Proofs.YtmfmommgooccnaaGreat.SL

/-- Is a number in a set? -/
def hasB (b : List UInt8) (i : Int) : Bool := decide (0 ≤ i) && (b.getD (i.toNat / 8) 0).toNat.testBit (i.toNat % 8)

theorem bit_of {c m : Nat} (hc : c < 256) (hm : m < 8) : (bits BinOp.and IntKind.u8 (c : Int) (IntKind.u8.wrap (1 * 2 ^ min ((m : Int)).toNat IntKind.u8.bits)) != 0) = c.testBit m := by
  have h2 : 2 ^ m ≤ 2 ^ 7 := Nat.pow_le_pow_right (by decide) (by omega)
  have h3 : 2 ^ m ≤ 128 := h2
  have e : IntKind.u8.wrap (1 * 2 ^ min ((m : Int)).toNat IntKind.u8.bits) = ((2 ^ m : Nat) : Int) := by
    rw [Int.toNat_natCast, show min m IntKind.u8.bits = m by simp [IntKind.bits]; omega, Int.one_mul]
    have : (2 : Int) ^ m = ((2 ^ m : Nat) : Int) := by simp
    rw [this, wrapU8 ⟨Int.natCast_nonneg _, by omega⟩]
  have hle : c &&& 2 ^ m ≤ c := Nat.and_le_left
  rw [e, bits_and (by simpa [IntKind.bits] using hc) (by simp only [IntKind.bits]; omega), wrapU8 (by omega)]
  cases hb : c.testBit m with
  | false =>
    have : c &&& 2 ^ m = 0 := by
      apply Nat.eq_of_testBit_eq
      intro j
      rw [Nat.testBit_and, Nat.testBit_two_pow]
      by_cases hj : m = j
      · subst hj; simp [hb]
      · simp [hj]
    rw [this]; rfl
  | true =>
    have : c &&& 2 ^ m ≠ 0 := fun h => by
      have := congrArg (fun q => q.testBit m) h
      simp [hb] at this
    simp only [bne_iff_ne, ne_eq]
    omega

set_option maxHeartbeats 1000000 in
theorem Has_does (b : List UInt8) (i : Int) (hi : i < 9223372036854775808) (hb : b.length < 9223372036854775808) : Does Tryz.prog 119 [.string (str b), .int .i64 i] [] (fun v H => v = .bool (hasB b i) ∧ H = []) := by
  refine does_of Tryz.func119 Tryz.ntmps119 rfl rfl rfl (fun w0 F0 => ?_)
  have e1 : 0 ≤ i → IntKind.i64.wrap (i.tdiv 8) = ((i.toNat / 8 : Nat) : Int) := fun h => by rw [Int.tdiv_eq_ediv_of_nonneg h, wrapI64 (by omega)]; omega
  have e2 : 0 ≤ i → i.tmod 8 = ((i.toNat % 8 : Nat) : Int) := fun h => by rw [Int.tmod_eq_emod_of_nonneg h]; omega
  (repeat' (first | refine g_seq (h := ?_) | refine g_region (h := ?_) | refine l_nil (h := ?_) | refine n_then (h := ?_) | refine l_pures1 (h := ?_)))
  (refine g_draw [] (h := a_pass2 (h := ?_)))
  rcases (show i < 0 ∨ 0 ≤ i by omega) with hneg | hpos
  · (repeat' (first | refine l_nil (h := ?_) | refine n_then (h := ?_) | refine l_guard_no (h := ?_) | refine g_ret (h := ?_) | refine a_done (h := ?_) | refine a_one (h := ?_) | refine n_any (h := a_pass2 (h := ?_)) | refine a_no (h := ?_) | (refine a_spF (h := ?_); intro h)))
    refine r_ret ?_
    exact ⟨by rw [hasB, decide_eq_false (by omega)]; rfl, rfl⟩
  · have e1 := e1 hpos
    have e2 := e2 hpos
    (repeat' (first | refine l_nil (h := ?_) | refine n_then (h := ?_) | refine l_pures1 (h := ?_) | refine l_guard_yes (h := ?_) | refine l_guard_no (h := ?_) | refine l_shl (h := ?_) | refine g_ret (h := ?_) | refine a_done (h := ?_) | refine a_one (h := ?_) | refine n_any (h := a_pass2 (h := ?_)) | refine a_vg (h := ?_) | refine a_no (h := ?_) | (refine a_spT (h := ?_); intro h) | (refine a_sp (h1 := ?_) (h0 := ?_) <;> intro h)))
    · refine r_ret ?_
      refine ⟨?_, rfl⟩
      rw [e1, e2, hasB, decide_eq_true hpos, Bool.true_and]
      have hb : byteAt b ((i.toNat / 8 : Nat) : Int) = (((b.getD (i.toNat / 8) 0).toNat : Nat) : Int) := by unfold byteAt; rw [Int.toNat_natCast]
      rw [hb, bit_of (UInt8.toNat_lt _) (Nat.mod_lt _ (by decide))]
      rfl
    · refine r_ret ?_
      refine ⟨?_, rfl⟩
      have hge : b.length ≤ i.toNat / 8 := by omega
      rw [hasB, List.getD, List.getElem?_eq_none hge]
      simp [packV]

theorem bit_turn {c m : Nat} (hc : c < 256) (hm : m < 8) : bits BinOp.xor IntKind.u8 (c : Int) (IntKind.u8.wrap (1 * 2 ^ min ((m : Int)).toNat IntKind.u8.bits)) = ((c ^^^ 2 ^ m : Nat) : Int) ∧ c ^^^ 2 ^ m < 256 := by
  have h2 : 2 ^ m ≤ 2 ^ 7 := Nat.pow_le_pow_right (by decide) (by omega)
  have h3 : 2 ^ m ≤ 128 := h2
  have e : IntKind.u8.wrap (1 * 2 ^ min ((m : Int)).toNat IntKind.u8.bits) = ((2 ^ m : Nat) : Int) := by
    rw [Int.toNat_natCast, show min m IntKind.u8.bits = m by simp [IntKind.bits]; omega, Int.one_mul]
    have : (2 : Int) ^ m = ((2 ^ m : Nat) : Int) := by simp
    rw [this, wrapU8 ⟨Int.natCast_nonneg _, by omega⟩]
  have hx : c ^^^ 2 ^ m < 256 := Nat.xor_lt_two_pow (n := 8) (by omega) (by omega)
  refine ⟨?_, hx⟩
  rw [e, bits_xor (by simpa [IntKind.bits] using hc) (by simp only [IntKind.bits]; omega), wrapU8 (by omega)]

/-- A set with a number, or without. -/
def withB (b : List UInt8) (i : Int) (on : Bool) : List UInt8 :=
  if i < 0 ∨ i.toNat / 8 ≥ b.length ∨ hasB b i = on then b else b.set (i.toNat / 8) (UInt8.ofNat ((b.getD (i.toNat / 8) 0).toNat ^^^ 2 ^ (i.toNat % 8)))

end Go.Proofs.YtmfmommgooccnaaGreat
/- Plain facts on sets of numbers as bytes. -/
set_option linter.unusedVariables false
set_option linter.unusedSimpArgs false
namespace Go.Proofs.YtmfmommgooccnaaGreat
open Go.Proofs.YtmfmommgooccnaaGreat.SL

theorem withB_len (b : List UInt8) (i : Int) (on : Bool) : (withB b i on).length = b.length := by
  unfold withB; split <;> simp
theorem hasB_with {b : List UInt8} {i : Int} {on : Bool} (h0 : 0 ≤ i) (h1 : i.toNat / 8 < b.length) (j : Int) : hasB (withB b i on) j = if j = i then on else hasB b j := by
  unfold withB
  by_cases hh : hasB b i = on
  · rw [if_pos (.inr (.inr hh))]
    by_cases hj : j = i
    · subst hj; rw [if_pos rfl, hh]
    · rw [if_neg hj]
  · rw [if_neg (by simp only [not_or]; exact ⟨by omega, by omega, hh⟩)]
    have hx : (b.getD (i.toNat / 8) 0).toNat ^^^ 2 ^ (i.toNat % 8) < 256 := (bit_turn (UInt8.toNat_lt _) (Nat.mod_lt _ (by decide))).2
    have hof : (UInt8.ofNat ((b.getD (i.toNat / 8) 0).toNat ^^^ 2 ^ (i.toNat % 8))).toNat = (b.getD (i.toNat / 8) 0).toNat ^^^ 2 ^ (i.toNat % 8) := by
      simp only [UInt8.toNat_ofNat', Nat.reducePow]; exact Nat.mod_eq_of_lt hx
    by_cases hj0 : 0 ≤ j
    · by_cases hb : j.toNat / 8 = i.toNat / 8
      · have hg : (b.set (i.toNat / 8) (UInt8.ofNat ((b.getD (i.toNat / 8) 0).toNat ^^^ 2 ^ (i.toNat % 8)))).getD (j.toNat / 8) 0 = UInt8.ofNat ((b.getD (i.toNat / 8) 0).toNat ^^^ 2 ^ (i.toNat % 8)) := by
          rw [hb, List.getD, List.getElem?_set_self h1]; rfl
        unfold hasB
        rw [hg, hof, Nat.testBit_xor, Nat.testBit_two_pow, hb]
        unfold hasB at hh
        by_cases hj : j = i
        · subst hj
          rw [if_pos rfl]
          simp only [decide_true, decide_eq_true hj0, Bool.true_and] at hh ⊢
          cases hc : (b.getD (j.toNat / 8) 0).toNat.testBit (j.toNat % 8) <;> cases on <;> simp_all
        · rw [if_neg hj]
          have : ¬ i.toNat % 8 = j.toNat % 8 := by omega
          simp [this]
      · have hg : (b.set (i.toNat / 8) (UInt8.ofNat ((b.getD (i.toNat / 8) 0).toNat ^^^ 2 ^ (i.toNat % 8)))).getD (j.toNat / 8) 0 = b.getD (j.toNat / 8) 0 := by
          rw [List.getD, List.getElem?_set_ne (fun q => hb q.symm)]; rfl
        unfold hasB
        rw [hg, if_neg (fun q => hb (by rw [q]))]
    · unfold hasB
      rw [if_neg (by omega), decide_eq_false hj0]
      simp
end Go.Proofs.YtmfmommgooccnaaGreat
/- Package shadow: its store, and what only looks. -/
set_option linter.unusedVariables false
set_option linter.unusedSimpArgs false
namespace Go.Proofs.YtmfmommgooccnaaGreat
open Go.Proofs.YtmfmommgooccnaaGreat.SL

theorem read_len {D : Dk} {n : Int} (ok : D.ok) : (D.read n).1.length ≤ 256 := by
  rw [Dk.read]
  by_cases h : D.may n = 0
  · rw [if_pos h]
    obtain ⟨_, h2, h3⟩ := Dk.may_0 h
    exact Nat.le_of_eq (getD_all (p := fun x : List UInt8 => x.length = 256) ok.s.1 (by omega))
  · rw [if_neg h]; simp
theorem pRead2_does (b : Nat) (D : Dk) (n : Int) : Does Tryz.prog 202 [.pointer (some ⟨b, 0, none⟩), .int .i64 n] [Disk b D]
    (fun v H => v = .tuple #[.int .i64 (pageRead D n).1, .string (str (pageRead D n).2.1), .int .i64 (pageRead D n).2.2] ∧ H = [Disk b D]) :=
  does_disk fun ok => pRead_does b D n (by have := read_len (n := n) ok; omega)

/-- Numbers that are in a set, as a map has them. -/
def tt (l : List Int) : List (Int × Bool) := l.map fun i => (i, true)
theorem tt_get : ∀ {l : List Int} {n : Int}, (kvGet (tt l) n).getD false = decide (n ∈ l)
  | [], n => by simp [tt, kvGet]
  | i :: l, n => by
    have := tt_get (l := l) (n := n)
    simp only [tt, List.map_cons, kvGet] at this ⊢
    by_cases q : i = n
    · subst q; simp
    · rw [if_neg q, this]; simp [show ¬ n = i from fun e => q e.symm]
theorem tt_put : ∀ {l : List Int} {n : Int}, n ∉ l → kvPut (tt l) n true = tt (l ++ [n])
  | [], n, _ => rfl
  | i :: l, n, h => by
    simp only [List.mem_cons, not_or] at h
    have := tt_put (l := l) (n := n) h.2
    simp only [tt, List.map_cons, List.cons_append, kvPut] at this ⊢
    rw [if_neg (fun e => h.1 e.symm), this]
theorem tt_del : ∀ {l : List Int} {n : Int}, kvDel (tt l) n = tt (l.erase n)
  | [], n => rfl
  | i :: l, n => by
    have := tt_del (l := l) (n := n)
    simp only [tt, List.map_cons, kvDel, List.erase_cons] at this ⊢
    by_cases q : i = n
    · subst q; simp
    · rw [if_neg q, if_neg (by simpa using q), this]; rfl
theorem does_swap {f : FuncId} {args : List Value} {A B : SProp} {q : Value → List SProp → Prop} (h : Does Tryz.prog f args [A, B] q) : Does Tryz.prog f args [B, A] q := fun w F s => by
  obtain ⟨F1, F2, a, ⟨F3, F4, b, e, d2, u2⟩, d1, u1⟩ := s
  exact h w F ⟨F3, F1, b, ⟨F1, F4, a, e, fun x h1 h2 => e x h2, fun x => ⟨.inl, fun o => o.elim id (fun q => (e x q).elim)⟩⟩, fun x h1 h2 => d1 x h2 ((u2 x).2 (.inl h1)), fun x => by rw [u1 x, u2 x]; exact ⟨fun o => o.elim .inr (fun o => o.elim .inl (fun q => (e x q).elim)), fun o => o.elim (fun q => .inr (.inl q)) .inl⟩⟩

/-- A store: its head (number, root, used pages), what is fresh, what is given; is it down? -/
structure Sh where
  gen : Int
  root : Int
  used : List UInt8
  fresh : List Int
  given : List Int
  down : Bool

structure Sh.ok (S : Sh) : Prop where
  g : 0 ≤ S.gen ∧ S.gen ≤ 281474976710655
  r : 0 ≤ S.root ∧ S.root < 640
  u : S.used.length = 80
  f : S.fresh.Nodup ∧ ∀ i ∈ S.fresh, 0 ≤ i ∧ i < (640 : Nat)
  v : S.given.Nodup ∧ ∀ i ∈ S.given, 0 ≤ i ∧ i < (640 : Nat)

def StoreK (b db : Nat) (S : Sh) (x : Nat × Nat) : List SProp :=
  [cl b 168 [.pointer (some ⟨db, 0, none⟩), .int .i64 S.gen, .int .i64 S.root, .string (str S.used), .map (some x.1), .map (some x.2), .bool S.down], mp x.1 Value.bool (tt S.fresh), mp x.2 Value.bool (tt S.given)]
def StoreP (S : Sh) (_ : Nat × Nat) : Prop := S.ok
def Store (b db : Nat) (S : Sh) : SProp := hid (StoreP S) (StoreK b db S)

theorem sRoot_does (b db : Nat) (S : Sh) : Does Tryz.prog 62 [.pointer (some ⟨b, 0, none⟩)] [Store b db S] (fun v H => v = .int .i64 S.root ∧ H = [Store b db S]) := by
  refine does_of Tryz.func62 Tryz.ntmps62 rfl rfl rfl (fun w0 F0 => ?_)
  refine g_open (A := Store b db S) (h := ?_); (rintro ⟨bf, bg⟩ ok; dsimp only [StoreK, List.cons_append, List.nil_append])
  (repeat (first | refine g_seq (h := ?_) | refine g_region (h := ?_) | refine l_nil (h := ?_) | refine n_then (h := ?_) | refine l_pures1 (h := ?_) | refine l_load (h := ?_) | refine g_ret (h := ?_)))
  (refine n_shut (A := Store b db S) (K := StoreK b db S ((bf, bg))) (hid_shuts ((bf, bg)) ok) (h := ?_) (p := by dsimp only [StoreK]; (try simp only [List.map_nil, List.length_nil, List.length_set, List.length_append, List.length_cons, List.length_singleton, List.map_append, List.map_cons, Nat.zero_add]); exact parts_of))
  refine r_ret ?_
  exact ⟨rfl, rfl⟩
theorem sFresh_does (b db : Nat) (S : Sh) (n : Int) : Does Tryz.prog 158 [.pointer (some ⟨b, 0, none⟩), .int .i64 n] [Store b db S] (fun v H => v = .bool (decide (n ∈ S.fresh)) ∧ H = [Store b db S]) := by
  refine does_of Tryz.func158 Tryz.ntmps158 rfl rfl rfl (fun w0 F0 => ?_)
  refine g_open (A := Store b db S) (h := ?_); (rintro ⟨bf, bg⟩ ok; dsimp only [StoreK, List.cons_append, List.nil_append])
  (repeat (first | refine g_seq (h := ?_) | refine g_region (h := ?_) | refine l_nil (h := ?_) | refine n_then (h := ?_) | refine l_pures1 (h := ?_) | refine l_load (h := ?_) | refine l_lookup _ (h := ?_) | refine g_ret (h := ?_)))
  (refine n_shut (A := Store b db S) (K := StoreK b db S ((bf, bg))) (hid_shuts ((bf, bg)) ok) (h := ?_) (p := by dsimp only [StoreK]; (try simp only [List.map_nil, List.length_nil, List.length_set, List.length_append, List.length_cons, List.length_singleton, List.map_append, List.map_cons, Nat.zero_add]); exact parts_of))
  refine r_ret ?_
  exact ⟨by rw [tt_get]; rfl, rfl⟩
/-- The cells of a store. -/
theorem sSize_does (b db : Nat) (c1 c2 c3 c4 c5 c6 : Value) (D : Dk) : Does Tryz.prog 180 [.pointer (some ⟨b, 0, none⟩)] [cl b 168 [.pointer (some ⟨db, 0, none⟩), c1, c2, c3, c4, c5, c6], Disk db D] (fun v H => v = .int .i64 D.now.length ∧ H = [cl b 168 [.pointer (some ⟨db, 0, none⟩), c1, c2, c3, c4, c5, c6], Disk db D]) := by
  refine does_of Tryz.func180 Tryz.ntmps180 rfl rfl rfl (fun w0 F0 => ?_)
  (repeat (first | refine g_seq (h := ?_) | refine g_region (h := ?_) | refine l_nil (h := ?_) | refine n_then (h := ?_) | refine l_pures1 (h := ?_) | (refine l_at 198 ?_; refine l_call (Size_does db D) ?_) | refine l_load (h := ?_) | refine g_ret (h := ?_)))
  refine r_retk [cl b 168 [.pointer (some ⟨db, 0, none⟩), c1, c2, c3, c4, c5, c6], Disk db D] ?_
  exact ⟨rfl, rfl⟩
theorem sSizeS_does (b db bf bg : Nat) (S : Sh) (D : Dk) : Does Tryz.prog 180 [.pointer (some ⟨b, 0, none⟩)] [cl b 168 [.pointer (some ⟨db, 0, none⟩), .int .i64 S.gen, .int .i64 S.root, .string (str S.used), .map (some bf), .map (some bg), .bool S.down], Disk db D] (fun v H => v = .int .i64 D.now.length ∧ H = [cl b 168 [.pointer (some ⟨db, 0, none⟩), .int .i64 S.gen, .int .i64 S.root, .string (str S.used), .map (some bf), .map (some bg), .bool S.down], Disk db D]) := sSize_does b db _ _ _ _ _ _ D
theorem told_does (b : Nat) (c0 c1 c2 c3 c4 c5 : Value) (d : Bool) (e : Int) : Does Tryz.prog 120 [.pointer (some ⟨b, 0, none⟩), .int .i64 e] [cl b 168 [c0, c1, c2, c3, c4, c5, .bool d]] (fun v H => v = .int .i64 e ∧ H = [cl b 168 [c0, c1, c2, c3, c4, c5, .bool (d || e == 5)]]) := by
  refine does_of Tryz.func120 Tryz.ntmps120 rfl rfl rfl (fun w0 F0 => ?_)
  (repeat' (first | refine g_seq (h := ?_) | refine g_region (h := ?_) | refine l_nil (h := ?_) | refine n_then (h := ?_) | refine l_pures1 (h := ?_) | refine l_guard_yes (h := ?_) | refine l_guard_no (h := ?_) | refine l_load (h := ?_) | refine l_store (h := ?_) | refine g_ret (h := ?_) | (refine l_sp (h1 := ?_) (h0 := ?_) <;> intro h)))
  all_goals
    refine r_ret ?_
  · subst h; exact ⟨rfl, rfl⟩
  · subst h; exact ⟨rfl, rfl⟩
def Sh.roll (S : Sh) : Sh := { S with fresh := [], given := [] }
theorem sRollback_does (b db : Nat) (S : Sh) : Does Tryz.prog 61 [.pointer (some ⟨b, 0, none⟩)] [Store b db S] (fun v H => v = .tuple #[] ∧ H = [Store b db S.roll]) := by
  refine does_of Tryz.func61 Tryz.ntmps61 rfl rfl rfl (fun w0 F0 => ?_)
  refine g_open (A := Store b db S) (h := ?_); (rintro ⟨bf, bg⟩ ok; dsimp only [StoreK, List.cons_append, List.nil_append])
  (repeat (first | refine g_region (h := ?_) | refine l_pures1 (h := ?_)))
  (refine l_makeMap (Value.bool) (h := ?_); intro _)
  (refine l_makeMap (Value.bool) (h := ?_); intro _)
  (repeat (first | refine l_nil (h := ?_) | refine l_pures1 (h := ?_) | refine l_store (h := ?_)))
  rename_i b1 b2
  (refine n_shut (A := Store b db S.roll) (K := StoreK b db S.roll ((b1, b2))) (hid_shuts ((b1, b2)) ⟨ok.g, ok.r, ok.u, ⟨by simp [Sh.roll], by simp [Sh.roll]⟩, ⟨by simp [Sh.roll], by simp [Sh.roll]⟩⟩) (h := ?_) (p := by dsimp only [StoreK]; (try simp only [List.map_nil, List.length_nil, List.length_set, List.length_append, List.length_cons, List.length_singleton, List.map_append, List.map_cons, Nat.zero_add, Sh.roll, tt]); exact parts_of))
  refine r_endk [Store b db S.roll] ?_
  exact ⟨rfl, rfl⟩

/-- Is a number neither used nor fresh? -/
def Sh.free (S : Sh) (i : Nat) : Bool := !hasB S.used i && !decide ((i : Int) ∈ S.fresh)
/-- The least free number from one on. -/
def Sh.find (S : Sh) : Nat → Nat → Option Nat
  | 0, _ => none
  | k + 1, n => if S.free n then some n else S.find k (n + 1)
def Sh.take (S : Sh) (D : Dk) : (Int × Int) × Sh :=
  if S.down then ((0, 5), S) else match S.find (D.now.length - 2) 2 with
    | some n => ((n, 0), { S with fresh := S.fresh ++ [(n : Int)] })
    | none => ((0, 4), S)
theorem Sh.take_ok {S : Sh} {n : Nat} (ok : S.ok) (h : S.free n = true) (hn : n < 640) : Sh.ok { S with fresh := S.fresh ++ [(n : Int)] } := by
  refine ⟨ok.g, ok.r, ok.u, ⟨?_, ?_⟩, ok.v⟩
  · have hm : ¬ ((n : Int) ∈ S.fresh) := by
      intro q; simp [Sh.free, q] at h
    exact List.nodup_append.2 ⟨ok.f.1, by simp, by intro x hx y hy; simp only [List.mem_singleton] at hy; subst hy; exact fun q => hm (q ▸ hx)⟩
  · intro i hi
    rcases List.mem_append.1 hi with hi | hi
    · exact ok.f.2 i hi
    · simp only [List.mem_singleton] at hi; subst hi; omega

theorem sTake_does (b db : Nat) (S : Sh) (D : Dk) : Does Tryz.prog 148 [.pointer (some ⟨b, 0, none⟩)] [Store b db S, Disk db D] (fun v H => v = .tuple #[.int .i64 (S.take D).1.1, .int .i64 (S.take D).1.2] ∧ H = [Store b db (S.take D).2, Disk db D]) := by
  refine does_swap (does_disk fun dok => does_swap ?_)
  have hD := dok.n
  refine does_of Tryz.func148 Tryz.ntmps148 rfl rfl rfl (fun w0 F0 => ?_)
  refine g_open (A := Store b db S) (h := ?_); (rintro ⟨bf, bg⟩ ok; dsimp only [StoreK, List.cons_append, List.nil_append])
  have hu := ok.u
  (repeat' (first | refine g_seq (h := ?_) | refine g_region (h := ?_) | refine l_nil (h := ?_) | refine n_then (h := ?_) | refine l_pures1 (h := ?_) | refine l_load (h := ?_) | refine g_skip (h := ?_) | refine g_ret (h := ?_) | refine n_then_ret (h := ?_) | refine g_block (h := ?_) | (refine g_sp (h1 := ?_) (h0 := ?_) <;> intro h)))
  · (refine n_shut (A := Store b db S) (K := StoreK b db S ((bf, bg))) (hid_shuts ((bf, bg)) ok) (h := ?_) (p := by dsimp only [StoreK]; (try simp only [List.map_nil, List.length_nil, List.length_set, List.length_append, List.length_cons, List.length_singleton, List.map_append, List.map_cons, Nat.zero_add]); exact parts_of))
    refine r_ret ?_
    exact ⟨by rw [Sh.take, if_pos (by assumption)]; rfl, by rw [Sh.take, if_pos (by assumption)]⟩
  · (refine g_loop (fun j : Nat => [(4, .int .i64 j), (0, .pointer (some ⟨b, 0, none⟩))]) (fun j => [Disk db D, cl b 168 [.pointer (some ⟨db, 0, none⟩), .int .i64 S.gen, .int .i64 S.root, .string (str S.used), .map (some bf), .map (some bg), .bool S.down], mp bf Value.bool (tt S.fresh), mp bg Value.bool (tt S.given)]) (fun j => 2 ≤ j ∧ (j = 2 ∨ j ≤ D.now.length) ∧ S.find (D.now.length - 2) 2 = S.find (D.now.length - j) j) (fun j => D.now.length - j) (2) ?_ ?_ ?_ ?_; rotate_left; (repeat (first | refine ts_nil | (refine ts_cons rfl ?_ ?_; first | (with_reducible rfl) | rotate_left))); (first | (intro _ i; with_reducible refine i) | rotate_left); rotate_left; (try omega); rotate_right)
    · intro j ⟨hj1, hj2, hj3⟩
      (repeat' (first | refine g_seq (h := ?_) | refine g_region (h := ?_) | refine l_nil (h := ?_) | refine n_then (h := ?_) | refine l_pures1 (h := ?_) | (refine l_at 180 ?_; refine l_call (sSizeS_does b db bf bg S D) ?_) | (refine l_at 119 ?_; refine l_call (Has_does S.used j (by omega) (by omega)) ?_) | refine l_guard_yes (h := ?_) | refine l_guard_no (h := ?_) | refine l_load (h := ?_) | refine l_lookup _ (h := ?_) | refine l_mapUpdate (h := ?_) | refine g_skip (h := ?_) | refine g_ret (h := ?_) | refine n_then_ret (h := ?_) | refine n_block_ret (h := ?_) | refine g_block (h := ?_) | refine g_exit (h := ?_) | refine n_then_exit (h := ?_) | refine n_block_hit (h := ?_) | refine n_block (h := ?_) | refine g_cond_f (h := ?_) | (refine l_sp (h1 := ?_) (h0 := ?_) <;> intro h) | (refine g_sp (h1 := ?_) (h0 := ?_) <;> intro h)))
      · rename_i hs hl hb
        have hf := h
        have hfree : S.free j = true := by
          rw [Sh.free, hb, ← tt_get, hf]; rfl
        have hnm : ¬ ((j : Int) ∈ S.fresh) := by
          rw [tt_get] at hf; simpa using hf
        have ht : S.take D = (((j : Int), 0), { S with fresh := S.fresh ++ [(j : Int)] }) := by
          rw [Sh.take, if_neg (by simp [hs]), hj3, show D.now.length - j = (D.now.length - (j + 1)) + 1 by omega, Sh.find, if_pos hfree]
        rw [tt_put hnm, ht]
        (refine n_shut (A := Store b db { S with fresh := S.fresh ++ [(j : Int)] }) (K := StoreK b db { S with fresh := S.fresh ++ [(j : Int)] } ((bf, bg))) (hid_shuts ((bf, bg)) (Sh.take_ok ok hfree (by omega))) (h := ?_) (p := by dsimp only [StoreK]; (try simp only [List.map_nil, List.length_nil, List.length_set, List.length_append, List.length_cons, List.length_singleton, List.map_append, List.map_cons, Nat.zero_add]); exact parts_of))
        refine r_retk [Store b db { S with fresh := S.fresh ++ [(j : Int)] }, Disk db D] ?_
        exact ⟨rfl, rfl⟩
      · rename_i hs hl hb
        (refine n_back (j + 1) ?_ ?_ ?_ ?_; rotate_left; rotate_left; (repeat (first | refine ts_nil | (refine ts_cons rfl ?_ ?_; first | (with_reducible rfl) | rotate_left))); (first | (intro _ i; with_reducible refine i) | rotate_left); (try omega); (try omega))
        · refine ⟨by omega, by omega, ?_⟩
          rw [hj3, show D.now.length - j = (D.now.length - (j + 1)) + 1 by omega, Sh.find, if_neg]
          rw [tt_get] at h
          simp only [Sh.free, h]; simp
        · omega
        · rw [wrapI64 (by omega)]; rfl
        · (intro _ i; exact inv_keep parts_of i)
      · (refine n_back (j + 1) ?_ ?_ ?_ ?_; rotate_left; rotate_left; (repeat (first | refine ts_nil | (refine ts_cons rfl ?_ ?_; first | (with_reducible rfl) | rotate_left))); (first | (intro _ i; with_reducible refine i) | rotate_left); (try omega); (try omega))
        · refine ⟨by omega, by omega, ?_⟩
          rw [hj3, show D.now.length - j = (D.now.length - (j + 1)) + 1 by omega, Sh.find, if_neg]
          simp only [Sh.free, h]; simp
        · omega
        · rw [wrapI64 (by omega)]; rfl
        · (intro _ i; exact inv_keep parts_of i)
      · rename_i hs
        have ht : S.take D = ((0, 4), S) := by
          rw [Sh.take, if_neg (by simp [hs]), hj3, show D.now.length - j = 0 by omega]; rfl
        rw [ht]
        (refine n_shut (A := Store b db S) (K := StoreK b db S ((bf, bg))) (hid_shuts ((bf, bg)) ok) (h := ?_) (p := by dsimp only [StoreK]; (try simp only [List.map_nil, List.length_nil, List.length_set, List.length_append, List.length_cons, List.length_singleton, List.map_append, List.map_cons, Nat.zero_add]); exact parts_of))
        refine r_ret ?_
        exact ⟨rfl, rfl⟩
    · exact ⟨by omega, by omega, rfl⟩
    · rfl
    · (intro _ i; exact inv_keep parts_of i)
end Go.Proofs.YtmfmommgooccnaaGreat
/- Package shadow: Give, Write, Read, Used. -/
set_option linter.unusedVariables false
set_option linter.unusedSimpArgs false
namespace Go.Proofs.YtmfmommgooccnaaGreat
open Go.Proofs.YtmfmommgooccnaaGreat.SL

theorem hasB_lt {b : List UInt8} {i : Int} (h : hasB b i = true) : 0 ≤ i ∧ i < 8 * b.length := by
  simp only [hasB, Bool.and_eq_true, decide_eq_true_eq] at h
  obtain ⟨h1, h2⟩ := h
  refine ⟨h1, ?_⟩
  by_cases q : i.toNat / 8 < b.length
  · omega
  · rw [List.getD, List.getElem?_eq_none (by omega)] at h2; simp at h2

def Sh.give (S : Sh) (n : Int) : Int × Sh :=
  if S.down then (5, S) else if n ∈ S.fresh then (0, { S with fresh := S.fresh.erase n }) else if hasB S.used n && !decide (n ∈ S.given) then (0, { S with given := S.given ++ [n] }) else (6, S)
theorem Sh.give1_ok {S : Sh} {n : Int} (ok : S.ok) : Sh.ok { S with fresh := S.fresh.erase n } :=
  ⟨ok.g, ok.r, ok.u, ⟨ok.f.1.erase _, fun i hi => ok.f.2 i (List.mem_of_mem_erase hi)⟩, ok.v⟩
theorem Sh.give2_ok {S : Sh} {n : Int} (ok : S.ok) (h : hasB S.used n = true) (hn : n ∉ S.given) : Sh.ok { S with given := S.given ++ [n] } := by
  refine ⟨ok.g, ok.r, ok.u, ok.f, ⟨?_, ?_⟩⟩
  · exact List.nodup_append.2 ⟨ok.v.1, by simp, by intro x hx y hy; simp only [List.mem_singleton] at hy; subst hy; exact fun q => hn (q ▸ hx)⟩
  · intro i hi
    rcases List.mem_append.1 hi with hi | hi
    · exact ok.v.2 i hi
    · simp only [List.mem_singleton] at hi; subst hi
      have := hasB_lt h
      rw [ok.u] at this
      omega

theorem sGive_does (b db : Nat) (S : Sh) (n : Int) (hn : -9223372036854775808 ≤ n ∧ n < 9223372036854775808) : Does Tryz.prog 159 [.pointer (some ⟨b, 0, none⟩), .int .i64 n] [Store b db S] (fun v H => v = .int .i64 (S.give n).1 ∧ H = [Store b db (S.give n).2]) := by
  refine does_of Tryz.func159 Tryz.ntmps159 rfl rfl rfl (fun w0 F0 => ?_)
  refine g_open (A := Store b db S) (h := ?_); (rintro ⟨bf, bg⟩ ok; dsimp only [StoreK, List.cons_append, List.nil_append])
  have hu := ok.u
  (repeat' (first | refine g_seq (h := ?_) | refine g_region (h := ?_) | refine l_nil (h := ?_) | refine n_then (h := ?_) | refine l_pures1 (h := ?_) | (refine l_at 119 ?_; refine l_call (Has_does S.used n (by omega) (by omega)) ?_) | refine l_guard_yes (h := ?_) | refine l_guard_no (h := ?_) | refine l_load (h := ?_) | refine l_lookup _ (h := ?_) | refine l_mapUpdate (h := ?_) | refine l_delete0 (h := ?_) | refine g_ret (h := ?_) | refine n_then_ret (h := ?_) | refine n_block_ret (h := ?_) | refine g_block (h := ?_) | refine n_block (h := ?_) | refine g_cond_f (h := ?_) | (refine l_sp (h1 := ?_) (h0 := ?_) <;> intro h) | (refine g_sp (h1 := ?_) (h0 := ?_) <;> intro h)))
  all_goals try simp only [tt_get, decide_eq_true_eq, decide_eq_false_iff_not] at *
  · (refine n_shut (A := Store b db S) (K := StoreK b db S ((bf, bg))) (hid_shuts ((bf, bg)) ok) (h := ?_) (p := by dsimp only [StoreK]; (try simp only [List.map_nil, List.length_nil, List.length_set, List.length_append, List.length_cons, List.length_singleton, List.map_append, List.map_cons, Nat.zero_add]); exact parts_of))
    refine r_ret ?_
    exact ⟨by rw [Sh.give, if_pos (by assumption)]; rfl, by rw [Sh.give, if_pos (by assumption)]⟩
  · have e : S.give n = (0, { S with fresh := S.fresh.erase n }) := by simp [Sh.give, *]
    rw [tt_del, e]
    (refine n_shut (A := Store b db { S with fresh := S.fresh.erase n }) (K := StoreK b db { S with fresh := S.fresh.erase n } ((bf, bg))) (hid_shuts ((bf, bg)) (Sh.give1_ok ok)) (h := ?_) (p := by dsimp only [StoreK]; (try simp only [List.map_nil, List.length_nil, List.length_set, List.length_append, List.length_cons, List.length_singleton, List.map_append, List.map_cons, Nat.zero_add]); exact parts_of))
    refine r_ret ?_
    exact ⟨rfl, rfl⟩
  · have e : S.give n = (0, { S with given := S.given ++ [n] }) := by simp [Sh.give, *]
    rw [tt_put (by assumption), e]
    (refine n_shut (A := Store b db { S with given := S.given ++ [n] }) (K := StoreK b db { S with given := S.given ++ [n] } ((bf, bg))) (hid_shuts ((bf, bg)) (Sh.give2_ok ok (by assumption) (by assumption))) (h := ?_) (p := by dsimp only [StoreK]; (try simp only [List.map_nil, List.length_nil, List.length_set, List.length_append, List.length_cons, List.length_singleton, List.map_append, List.map_cons, Nat.zero_add]); exact parts_of))
    refine r_ret ?_
    exact ⟨rfl, rfl⟩
  · have e : S.give n = (6, S) := by simp [Sh.give, *]
    rw [e]
    (refine n_shut (A := Store b db S) (K := StoreK b db S ((bf, bg))) (hid_shuts ((bf, bg)) ok) (h := ?_) (p := by dsimp only [StoreK]; (try simp only [List.map_nil, List.length_nil, List.length_set, List.length_append, List.length_cons, List.length_singleton, List.map_append, List.map_cons, Nat.zero_add]); exact parts_of))
    refine r_ret ?_
    exact ⟨rfl, rfl⟩
  · have e : S.give n = (6, S) := by simp [Sh.give, *]
    rw [e]
    (refine n_shut (A := Store b db S) (K := StoreK b db S ((bf, bg))) (hid_shuts ((bf, bg)) ok) (h := ?_) (p := by dsimp only [StoreK]; (try simp only [List.map_nil, List.length_nil, List.length_set, List.length_append, List.length_cons, List.length_singleton, List.map_append, List.map_cons, Nat.zero_add]); exact parts_of))
    refine r_ret ?_
    exact ⟨rfl, rfl⟩

def Sh.told (S : Sh) (e : Int) : Sh := { S with down := S.down || e == 5 }
theorem Sh.told_ok {S : Sh} {e : Int} (ok : S.ok) : (S.told e).ok := ⟨ok.g, ok.r, ok.u, ok.f, ok.v⟩
theorem toldS_does (b db bf bg : Nat) (S : Sh) (e : Int) : Does Tryz.prog 120 [.pointer (some ⟨b, 0, none⟩), .int .i64 e] [cl b 168 [.pointer (some ⟨db, 0, none⟩), .int .i64 S.gen, .int .i64 S.root, .string (str S.used), .map (some bf), .map (some bg), .bool S.down]]
   (fun v H => v = .int .i64 e ∧ H = [cl b 168 [.pointer (some ⟨db, 0, none⟩), .int .i64 S.gen, .int .i64 S.root, .string (str S.used), .map (some bf), .map (some bg), .bool (S.told e).down]]) := told_does b _ _ _ _ _ _ S.down e
def Sh.write (S : Sh) (D : Dk) (n kind : Int) (t : List UInt8) : Int × Sh × Dk :=
  if S.down then (5, S, D) else if n ∈ S.fresh then ((pageWrite D n kind t).1, S.told (pageWrite D n kind t).1, (pageWrite D n kind t).2) else (6, S, D)
theorem sWrite_does (b db : Nat) (S : Sh) (D : Dk) (n kind : Int) (t : List UInt8) (ht : t.length < 9223372036854775808) : Does Tryz.prog 182 [.pointer (some ⟨b, 0, none⟩), .int .i64 n, .int .i64 kind, .string (str t)] [Store b db S, Disk db D]
    (fun v H => v = .int .i64 (S.write D n kind t).1 ∧ H = [Store b db (S.write D n kind t).2.1, Disk db (S.write D n kind t).2.2]) := by
  refine does_of Tryz.func182 Tryz.ntmps182 rfl rfl rfl (fun w0 F0 => ?_)
  refine g_open (A := Store b db S) (h := ?_); (rintro ⟨bf, bg⟩ ok; dsimp only [StoreK, List.cons_append, List.nil_append])
  (repeat' (first | refine g_seq (h := ?_) | refine g_region (h := ?_) | refine l_nil (h := ?_) | refine n_then (h := ?_) | refine l_pures1 (h := ?_) | (refine l_at 145 ?_; refine l_call (pWrite_does db D n kind t ht) ?_) | (refine l_at 120 ?_; refine l_call (toldS_does b db bf bg S (pageWrite D n kind t).1) ?_) | refine l_load (h := ?_) | refine l_lookup _ (h := ?_) | refine g_skip (h := ?_) | refine g_ret (h := ?_) | refine n_then_ret (h := ?_) | refine n_block_ret (h := ?_) | refine g_block (h := ?_) | refine n_block (h := ?_) | (refine g_sp (h1 := ?_) (h0 := ?_) <;> intro h)))
  all_goals try simp only [tt_get, decide_eq_true_eq, decide_eq_false_iff_not] at *
  · (refine n_shut (A := Store b db S) (K := StoreK b db S ((bf, bg))) (hid_shuts ((bf, bg)) ok) (h := ?_) (p := by dsimp only [StoreK]; (try simp only [List.map_nil, List.length_nil, List.length_set, List.length_append, List.length_cons, List.length_singleton, List.map_append, List.map_cons, Nat.zero_add]); exact parts_of))
    refine r_ret ?_
    exact ⟨by rw [Sh.write, if_pos (by assumption)]; rfl, by rw [Sh.write, if_pos (by assumption)]⟩
  · have e : S.write D n kind t = (6, S, D) := by simp [Sh.write, *]
    rw [e]
    (refine n_shut (A := Store b db S) (K := StoreK b db S ((bf, bg))) (hid_shuts ((bf, bg)) ok) (h := ?_) (p := by dsimp only [StoreK]; (try simp only [List.map_nil, List.length_nil, List.length_set, List.length_append, List.length_cons, List.length_singleton, List.map_append, List.map_cons, Nat.zero_add]); exact parts_of))
    refine r_ret ?_
    exact ⟨rfl, rfl⟩
  · have e : S.write D n kind t = ((pageWrite D n kind t).1, S.told (pageWrite D n kind t).1, (pageWrite D n kind t).2) := by simp [Sh.write, *]
    rw [e]
    (refine n_shut (A := Store b db (S.told (pageWrite D n kind t).1)) (K := StoreK b db (S.told (pageWrite D n kind t).1) ((bf, bg))) (hid_shuts ((bf, bg)) (Sh.told_ok ok)) (h := ?_) (p := by dsimp only [StoreK]; (try simp only [List.map_nil, List.length_nil, List.length_set, List.length_append, List.length_cons, List.length_singleton, List.map_append, List.map_cons, Nat.zero_add, Sh.told]); exact parts_of))
    refine r_retk [Store b db (S.told (pageWrite D n kind t).1), Disk db (pageWrite D n kind t).2] ?_
    exact ⟨rfl, rfl⟩

def Sh.read (S : Sh) (D : Dk) (n : Int) : (Int × List UInt8 × Int) × Sh :=
  if S.down then ((0, [], 5), S) else if n < 2 ∨ n ≥ D.now.length then ((0, [], 1), S) else (pageRead D n, S.told (pageRead D n).2.2)
theorem sRead_does (b db : Nat) (S : Sh) (D : Dk) (n : Int) : Does Tryz.prog 183 [.pointer (some ⟨b, 0, none⟩), .int .i64 n] [Store b db S, Disk db D]
    (fun v H => v = .tuple #[.int .i64 (S.read D n).1.1, .string (str (S.read D n).1.2.1), .int .i64 (S.read D n).1.2.2] ∧ H = [Store b db (S.read D n).2, Disk db D]) := by
  refine does_of Tryz.func183 Tryz.ntmps183 rfl rfl rfl (fun w0 F0 => ?_)
  refine g_open (A := Store b db S) (h := ?_); (rintro ⟨bf, bg⟩ ok; dsimp only [StoreK, List.cons_append, List.nil_append])
  (repeat' (first | refine g_seq (h := ?_) | refine g_region (h := ?_) | refine l_nil (h := ?_) | refine n_then (h := ?_) | refine l_pures1 (h := ?_) | (refine l_at 180 ?_; refine l_call (sSizeS_does b db bf bg S D) ?_) | (refine l_at 202 ?_; refine l_call (pRead2_does db D n) ?_) | (refine l_at 120 ?_; refine l_call (toldS_does b db bf bg S (pageRead D n).2.2) ?_) | refine l_guard_yes (h := ?_) | refine l_guard_no (h := ?_) | refine l_load (h := ?_) | refine g_skip (h := ?_) | refine g_ret (h := ?_) | refine n_then_ret (h := ?_) | refine n_block_ret (h := ?_) | refine g_block (h := ?_) | refine n_block (h := ?_) | refine g_cond_t (h := ?_) | (refine l_sp (h1 := ?_) (h0 := ?_) <;> intro h) | (refine g_sp (h1 := ?_) (h0 := ?_) <;> intro h)))
  · (refine n_shut (A := Store b db S) (K := StoreK b db S ((bf, bg))) (hid_shuts ((bf, bg)) ok) (h := ?_) (p := by dsimp only [StoreK]; (try simp only [List.map_nil, List.length_nil, List.length_set, List.length_append, List.length_cons, List.length_singleton, List.map_append, List.map_cons, Nat.zero_add]); exact parts_of))
    refine r_ret ?_
    exact ⟨by rw [Sh.read, if_pos (by assumption)]; rfl, by rw [Sh.read, if_pos (by assumption)]⟩
  · have e : S.read D n = ((0, [], 1), S) := by simp [Sh.read, *]
    rw [e]
    (refine n_shut (A := Store b db S) (K := StoreK b db S ((bf, bg))) (hid_shuts ((bf, bg)) ok) (h := ?_) (p := by dsimp only [StoreK]; (try simp only [List.map_nil, List.length_nil, List.length_set, List.length_append, List.length_cons, List.length_singleton, List.map_append, List.map_cons, Nat.zero_add]); exact parts_of))
    refine r_ret ?_
    exact ⟨rfl, rfl⟩
  · have e : S.read D n = ((0, [], 1), S) := by simp [Sh.read, *]
    rw [e]
    (refine n_shut (A := Store b db S) (K := StoreK b db S ((bf, bg))) (hid_shuts ((bf, bg)) ok) (h := ?_) (p := by dsimp only [StoreK]; (try simp only [List.map_nil, List.length_nil, List.length_set, List.length_append, List.length_cons, List.length_singleton, List.map_append, List.map_cons, Nat.zero_add]); exact parts_of))
    refine r_retk [Store b db S, Disk db D] ?_
    exact ⟨rfl, rfl⟩
  · have e : S.read D n = (pageRead D n, S.told (pageRead D n).2.2) := by simp [Sh.read, *]
    rw [e]
    (refine n_shut (A := Store b db (S.told (pageRead D n).2.2)) (K := StoreK b db (S.told (pageRead D n).2.2) ((bf, bg))) (hid_shuts ((bf, bg)) (Sh.told_ok ok)) (h := ?_) (p := by dsimp only [StoreK]; (try simp only [List.map_nil, List.length_nil, List.length_set, List.length_append, List.length_cons, List.length_singleton, List.map_append, List.map_cons, Nat.zero_add, Sh.told]); exact parts_of))
    refine r_retk [Store b db (S.told (pageRead D n).2.2), Disk db D] ?_
    exact ⟨rfl, rfl⟩

/-- The used pages below one. -/
def usedN (u : List UInt8) (n : Nat) : List Int := ((List.range n).filter fun i : Nat => hasB u (i : Int)).map fun i : Nat => (i : Int)
end Go.Proofs.YtmfmommgooccnaaGreat
/- Package shadow: heads: text, lay, counts, read, over, Mount. -/
set_option linter.unusedVariables false
set_option linter.unusedSimpArgs false
namespace Go.Proofs.YtmfmommgooccnaaGreat
open Go.Proofs.YtmfmommgooccnaaGreat.SL

/-- A head: its number, its root, its used pages. -/
structure Hd where
  gen : Int
  root : Int
  used : List UInt8
def Hd.v (h : Hd) : Value := .agg #[.int .i64 h.gen, .int .i64 h.root, .string (str h.used)]
structure Hd.ok (h : Hd) : Prop where
  g : 0 ≤ h.gen ∧ h.gen ≤ 281474976710655
  r : 0 ≤ h.root ∧ h.root < 65536
  u : h.used.length ≤ 1000
def Hd.text (h : Hd) : List UInt8 := (numPut h.gen.toNat 6).1 ++ (numPut h.root.toNat 2).1 ++ h.used
theorem numPut_len (n : Nat) (size : Int) : (numPut n size).1.length ≤ size.toNat := by
  rw [numPut]
  split
  · simp
  · split
    · rw [putN_length]; exact Nat.le_refl _
    · simp
theorem wrapU64n {n : Int} (h : 0 ≤ n ∧ n ≤ 281474976710655) : IntKind.u64.wrap n = (n.toNat : Int) := by
  rw [wrapU64 (by omega)]; omega
theorem Put2_does (n : Nat) (size : Int) (hn : n < 18446744073709551616) (hs : -9223372036854775808 ≤ size ∧ size < 9223372036854775808) :
    Does Tryz.prog 131 [.int .u64 n, .int .i64 size] [] (fun v H => v = .tuple #[.string (str (numPut n size).1), .int .i64 (numPut n size).2] ∧ H = []) := Put_does n size hn hs
theorem text_does (h : Hd) (ok : h.ok) : Does Tryz.prog 146 [h.v] [] (fun v H => v = .string (str h.text) ∧ H = []) := by
  have hg := ok.g
  have hr := ok.r
  have hu := ok.u
  have e1 := wrapU64n (n := h.gen) hg
  have e2 := wrapU64n (n := h.root) (by omega)
  refine does_of Tryz.func146 Tryz.ntmps146 rfl rfl rfl (fun w0 F0 => ?_)
  (repeat' (first | refine g_seq (h := ?_) | refine g_region (h := ?_) | refine l_nil (h := ?_) | refine n_then (h := ?_) | refine l_pures1 (h := ?_) | refine l_load (h := ?_) | (refine l_box (h := ?_); intro _)))
  rw [e1]
  (repeat' (first | refine g_seq (h := ?_) | refine g_region (h := ?_) | refine l_nil (h := ?_) | refine n_then (h := ?_) | refine l_pures1 (h := ?_) | (refine l_at 131 ?_; refine l_call (Put2_does h.gen.toNat 6 (by omega) (by omega)) ?_) | refine l_load (h := ?_)))
  rw [e2]
  have l1 := numPut_len h.gen.toNat 6
  have l2 := numPut_len h.root.toNat 2
  (repeat' (first | refine g_seq (h := ?_) | refine g_region (h := ?_) | refine l_nil (h := ?_) | refine n_then (h := ?_) | refine l_pures1 (h := ?_) | (refine l_at 131 ?_; refine l_call (Put2_does h.root.toNat 2 (by omega) (by omega)) ?_) | refine l_load (h := ?_) | refine l_concat (h := ?_) | refine g_ret (h := ?_)))
  refine r_retk [] ?_
  exact ⟨rfl, rfl⟩

theorem text2_does (h : Hd) (ok : h.ok) : Does Tryz.prog 146 [.agg #[.int .i64 h.gen, .int .i64 h.root, .string (str h.used)]] [] (fun v H => v = .string (str h.text) ∧ H = []) := text_does h ok
def Hd.lay (h : Hd) (D : Dk) : Int × Dk :=
  if (pageWrite D (h.gen.tmod 2) 1 h.text).1 ≠ 0 then pageWrite D (h.gen.tmod 2) 1 h.text else (pageWrite D (h.gen.tmod 2) 1 h.text).2.sync
theorem Hd.text_len {h : Hd} (ok : h.ok) : h.text.length < 9223372036854775808 := by
  have l1 := numPut_len h.gen.toNat 6
  have l2 := numPut_len h.root.toNat 2
  have := ok.u
  simp only [Hd.text, List.length_append]
  omega
theorem lay_does (q : Hd) (ok : q.ok) (db : Nat) (D : Dk) : Does Tryz.prog 99 [q.v, .pointer (some ⟨db, 0, none⟩)] [Disk db D] (fun v H => v = .int .i64 (q.lay D).1 ∧ H = [Disk db (q.lay D).2]) := by
  have ht := Hd.text_len ok
  refine does_of Tryz.func99 Tryz.ntmps99 rfl rfl rfl (fun w0 F0 => ?_)
  (repeat' (first | refine g_seq (h := ?_) | refine g_region (h := ?_) | refine l_nil (h := ?_) | refine n_then (h := ?_) | refine l_pures1 (h := ?_) | (refine l_box (h := ?_); intro _)))
  (refine g_draw [_] (h := a_pass2 (h := ?_)))
  (repeat' (first | refine g_seq (h := ?_) | refine g_region (h := ?_) | refine l_nil (h := ?_) | refine n_then (h := ?_) | refine l_pures1 (h := ?_) | (refine l_at 146 ?_; refine l_call (text2_does q ok) ?_) | (refine l_at 145 ?_; refine l_call (pWrite_does db D (q.gen.tmod 2) 1 q.text ht) ?_) | (refine l_at 121 ?_; refine l_call (Sync_does db (pageWrite D (q.gen.tmod 2) 1 q.text).2) ?_) | refine g_skip (h := ?_) | refine g_ret (h := ?_) | refine n_then_ret (h := ?_) | refine a_done (h := ?_) | refine a_load (h := a_pass2 (h := ?_)) | refine a_one (h := ?_) | refine n_any (h := a_pass2 (h := ?_)) | (refine g_sp (h1 := ?_) (h0 := ?_) <;> intro h)))
  · have e : q.lay D = pageWrite D (q.gen.tmod 2) 1 q.text := by simp [Hd.lay, *]
    rw [e]
    refine r_retk [Disk db (pageWrite D (q.gen.tmod 2) 1 q.text).2] ?_
    exact ⟨rfl, rfl⟩
  · have e : q.lay D = (pageWrite D (q.gen.tmod 2) 1 q.text).2.sync := by simp [Hd.lay, *]
    rw [e]
    refine r_retk [Disk db (pageWrite D (q.gen.tmod 2) 1 q.text).2.sync.2] ?_
    exact ⟨rfl, rfl⟩

/-- Are the first numbers, that are no pages on a disk of so many sectors, not used? -/
def Hd.clear (h : Hd) (size : Int) (k : Nat) : Bool := (List.range k).all fun i : Nat => !((decide (i < 2) || decide ((i : Int) ≥ size)) && hasB h.used i)
/-- May a head of sector n count on a disk of so many sectors? -/
def Hd.counts (h : Hd) (size n : Int) : Bool :=
  !(decide (h.gen < 1) || h.gen.tmod 2 != n || (h.root != 0 && !hasB h.used h.root)) && h.clear size 640
end Go.Proofs.YtmfmommgooccnaaGreat
/- Package shadow: read, over, Mount, Rollback on its cells. -/
set_option linter.unusedVariables false
set_option linter.unusedSimpArgs false
namespace Go.Proofs.YtmfmommgooccnaaGreat
open Go.Proofs.YtmfmommgooccnaaGreat.SL

def headOf (s : List UInt8) : Hd := ⟨getN (s.take 6), getN ((s.drop 6).take 2), s.drop 8⟩
def headNone : Hd := ⟨0, 0, []⟩
def readH (D : Dk) (n : Int) : Hd × Bool :=
  if (pageRead D n).2.2 ≠ 0 ∨ (pageRead D n).1 ≠ 1 ∨ (pageRead D n).2.1.length ≠ 88 then (headNone, false)
  else (headOf (pageRead D n).2.1, (headOf (pageRead D n).2.1).counts D.now.length n)
theorem take_of {b : List UInt8} {k : Nat} (h : k ≤ b.length) (hk : 1 ≤ k ∧ k ≤ 8) : numTake b k = (getN (b.take k), b.drop k, 0) := by
  rw [numTake, if_neg (by omega), if_neg (by omega)]; rfl
/-- The cells of a store, anew. -/
theorem roll0_does (b : Nat) (c0 c1 c2 c3 c4 c5 c6 : Value) : Does Tryz.prog 61 [.pointer (some ⟨b, 0, none⟩)] [cl b 168 [c0, c1, c2, c3, c4, c5, c6]]
    (fun v H => ∃ b1 b2, v = .tuple #[] ∧ H = [cl b 168 [c0, c1, c2, c3, .map (some b1), .map (some b2), c6], mp b1 Value.bool [], mp b2 Value.bool []]) := by
  refine does_of Tryz.func61 Tryz.ntmps61 rfl rfl rfl (fun w0 F0 => ?_)
  (repeat (first | refine g_region (h := ?_) | refine l_pures1 (h := ?_)))
  (refine l_makeMap (Value.bool) (h := ?_); intro _)
  (refine l_makeMap (Value.bool) (h := ?_); intro _)
  (repeat (first | refine l_nil (h := ?_) | refine l_pures1 (h := ?_) | refine l_store (h := ?_)))
  rename_i b1 b2
  refine r_endk [cl b 168 [c0, c1, c2, c3, .map (some b1), .map (some b2), c6], mp b1 Value.bool [], mp b2 Value.bool []] ?_
  exact ⟨b1, b2, rfl, rfl⟩

def Hd.over (h : Hd) : Sh := ⟨h.gen, h.root, h.used, [], [], false⟩
theorem over_does (q : Hd) (ok : q.over.ok) (db : Nat) : Does Tryz.prog 100 [.pointer (some ⟨db, 0, none⟩), .agg #[.int .i64 q.gen, .int .i64 q.root, .string (str q.used)]] [] (fun v H => ∃ b, v = .pointer (some ⟨b, 0, none⟩) ∧ H = [Store b db q.over]) := by
  refine does_of Tryz.func100 Tryz.ntmps100 rfl rfl rfl (fun w0 F0 => ?_)
  (repeat (first | refine g_seq (h := ?_) | refine g_region (h := ?_) | refine l_nil (h := ?_) | refine n_then (h := ?_) | refine l_pures1 (h := ?_) | refine l_load (h := ?_) | (refine l_box (h := ?_); intro _)))
  rename_i b0 b
  (repeat (first | refine g_seq (h := ?_) | refine g_region (h := ?_) | refine l_nil (h := ?_) | refine n_then (h := ?_) | refine l_pures1 (h := ?_) | (refine l_at 61 ?_; refine l_call_ (roll0_does b (.pointer (some ⟨db, 0, none⟩)) (.int .i64 q.gen) (.int .i64 q.root) (.string (str q.used)) (.map none) (.map none) (.bool false)) ?_; rintro _ _ _ ⟨b1, b2, rfl, rfl⟩ he; cases he) | refine g_ret (h := ?_)))
  (refine n_shut (A := Store b db q.over) (K := StoreK b db q.over ((b1, b2))) (hid_shuts ((b1, b2)) ok) (h := ?_) (p := by dsimp only [StoreK]; (try simp only [List.map_nil, List.length_nil, List.length_set, List.length_append, List.length_cons, List.length_singleton, List.map_append, List.map_cons, Nat.zero_add, Hd.over, tt]); exact parts_of))
  refine r_retk [Store b db q.over] ?_
  exact ⟨b, rfl, rfl⟩

end Go.Proofs.YtmfmommgooccnaaGreat
/-
  DERIVED: THE SHELF's CONTRACTS AT THIS DUMP, IN PLAIN WORDS (tools/lay-plain.mjs out of 'YtmfmommgooccnaaGreatLayQ.lean', which tools/lay-shelf.mjs wrote): THE SAME DECLARATIONS UNDER THE SAME NAMES: 'import', 'namespace', 'open', 'def', 'theorem' AND NOTHING ELSE: no command of the shelf's: FOR A HAND-IN. Each laying: the table of numbers ('.._ren') and one theorem, a field a fact of the dump's own or the kernel's comparison; each contract: ONE APPLICATION.
-/
namespace Go.Proofs
open Go.Shelf
def Tryz.layRepeat_ren : Go.Shelf.Ren := ⟨fun | 105 => 96 | 212 => 140 | 99 => 141 | 165 => 142 | 166 => 143 | 170 => 144 | 169 => 126 | 263 => 174 | 264 => 175 | 206 => 176 | 240 => 167 | 241 => 177 | 276 => 191 | 277 => 195 | n => n, fun | 9 => 9 | 3 => 3 | 4 => 4 | 20 => 20 | 0 => 0 | 46 => 226 | 109 => 227 | 5 => 5 | 72 => 203 | 76 => 206 | 51 => 255 | 146 => 264 | 53 => 30 | 148 => 266 | 70 => 201 | 37 => 22 | 75 => 205 | 127 => 254 | 164 => 282 | 80 => 208 | n => n, fun | n => n⟩
theorem Tryz.layRepeat : Go.Proofs.Lays.n105 Tryz.prog Tryz.layRepeat_ren := {
  mixed := by kernel_rfl
  f99 := Tryz.func141.trans (congrArg some (by kernel_rfl))
  f105 := Tryz.func96.trans (congrArg some (by kernel_rfl))
  f165 := Tryz.func142.trans (congrArg some (by kernel_rfl))
  f166 := Tryz.func143.trans (congrArg some (by kernel_rfl))
  f169 := Tryz.func126.trans (congrArg some (by kernel_rfl))
  f170 := Tryz.func144.trans (congrArg some (by kernel_rfl))
  f206 := Tryz.func176.trans (congrArg some (by kernel_rfl))
  f212 := Tryz.func140.trans (congrArg some (by kernel_rfl))
  f240 := Tryz.func167.trans (congrArg some (by kernel_rfl))
  f241 := Tryz.func177.trans (congrArg some (by kernel_rfl))
  f263 := Tryz.func174.trans (congrArg some (by kernel_rfl))
  f264 := Tryz.func175.trans (congrArg some (by kernel_rfl))
  f276 := Tryz.func191.trans (congrArg some (by kernel_rfl))
  f277 := Tryz.func195.trans (congrArg some (by kernel_rfl))
  t0 := Tryz.underlying0
  a0 := Tryz.isAgg0
  z0 := Tryz.sizeOf0
  v0 := Tryz.zeroValue0
  t3 := Tryz.underlying3
  a3 := Tryz.isAgg3
  z3 := Tryz.sizeOf3
  v3 := Tryz.zeroValue3
  t4 := Tryz.underlying4
  a4 := Tryz.isAgg4
  z4 := Tryz.sizeOf4
  v4 := Tryz.zeroValue4
  t5 := Tryz.underlying5
  a5 := Tryz.isAgg5
  z5 := Tryz.sizeOf5
  v5 := Tryz.zeroValue5
  t9 := Tryz.underlying9
  a9 := Tryz.isAgg9
  z9 := Tryz.sizeOf9
  v9 := Tryz.zeroValue9
  t20 := Tryz.underlying20
  a20 := Tryz.isAgg20
  z20 := Tryz.sizeOf20
  v20 := Tryz.zeroValue20
  t37 := Tryz.underlying22
  a37 := Tryz.isAgg22
  z37 := Tryz.sizeOf22
  v37 := Tryz.zeroValue22
  t46 := Tryz.underlying226
  a46 := Tryz.isAgg226
  z46 := Tryz.sizeOf226
  v46 := Tryz.zeroValue226
  t51 := Tryz.underlying255
  a51 := Tryz.isAgg255
  z51 := Tryz.sizeOf255
  v51 := Tryz.zeroValue255
  t53 := Tryz.underlying30
  a53 := Tryz.isAgg30
  z53 := Tryz.sizeOf30
  v53 := Tryz.zeroValue30
  t70 := Tryz.underlying201
  a70 := Tryz.isAgg201
  z70 := Tryz.sizeOf201
  v70 := Tryz.zeroValue201
  t72 := Tryz.underlying203
  a72 := Tryz.isAgg203
  z72 := Tryz.sizeOf203
  v72 := Tryz.zeroValue203
  t75 := Tryz.underlying205
  a75 := Tryz.isAgg205
  z75 := Tryz.sizeOf205
  v75 := Tryz.zeroValue205
  t76 := Tryz.underlying206
  a76 := Tryz.isAgg206
  z76 := Tryz.sizeOf206
  v76 := Tryz.zeroValue206
  t109 := Tryz.underlying227
  a109 := Tryz.isAgg227
  z109 := Tryz.sizeOf227
  v109 := Tryz.zeroValue227
  t127 := Tryz.underlying254
  a127 := Tryz.isAgg254
  z127 := Tryz.sizeOf254
  v127 := Tryz.zeroValue254
  t146 := Tryz.underlying264
  a146 := Tryz.isAgg264
  z146 := Tryz.sizeOf264
  v146 := Tryz.zeroValue264
  t148 := Tryz.underlying266
  a148 := Tryz.isAgg266
  z148 := Tryz.sizeOf266
  v148 := Tryz.zeroValue266
  t164 := Tryz.underlying282
  a164 := Tryz.isAgg282
  z164 := Tryz.sizeOf282
  v164 := Tryz.zeroValue282 }
end Go.Proofs
/- The shelf's contracts, laid: maps.Keys and slices.Sorted over whole numbers. -/
set_option linter.unusedVariables false
namespace Go.Proofs
open Go.Shelf Go.RowKit Go.Maps Go.Sort
end Go.Proofs
/- maps.Keys and slices.Sorted at a map of whole numbers, as contracts. -/
set_option linter.unusedVariables false
set_option linter.unusedSimpArgs false
namespace Go.Proofs.YtmfmommgooccnaaGreat
open Go.Proofs.YtmfmommgooccnaaGreat.SL

/-- A set's numbers, rising. -/
def rise (l : List Int) : List Int := l.mergeSort fun x y => decide (x ≤ y)
theorem rise_perm (l : List Int) : (rise l).Perm l := List.mergeSort_perm _ _
end Go.Proofs.YtmfmommgooccnaaGreat
/- The shelf's contracts, laid: strings.Repeat, maps.Keys, slices.Sorted. -/
set_option linter.unusedVariables false
namespace Go.Proofs
open Go.Shelf Go.RowKit
theorem Tryz.repeatX : Builder.Extra Tryz.prog Tryz.layRepeat_ren := {
  sizeBuilder := by kernel_rfl
  liesBuilder := by kernel_rfl
  t5 := Tryz.layRepeat.t5
  a5 := Tryz.layRepeat.a5
  z5 := Tryz.layRepeat.z5
  v5 := Tryz.layRepeat.v5
  infoByte := by kernel_rfl
  cellsByte := by kernel_rfl
  sizeByte := by kernel_rfl
  neB5 := by decide }
theorem Tryz.repeat_calls (s : ByteArray) (c : Nat) (w : World) (hc : c ≤ 9223372036854775807) (hlen : s.size * c ≤ 140737488355328) :
    Calls Tryz.prog 96 #[.string s, .int .i64 c] w fun e w' => e = .returned (.string ⟨(Lib.repeatL s.data.toList c).toArray⟩) ∧ Below w.heap.size w w' :=
  Any.strings_Repeat Tryz.layRepeat Tryz.repeatX s c w hc hlen
theorem Tryz.mul_calls (x y : Nat) (hx : x < 18446744073709551616) (hy : y < 18446744073709551616) (w : World) :
    Calls Tryz.prog 140 #[.int .u64 x, .int .u64 y] w fun e w' => e = .returned (.tuple #[.int .u64 ((x * y / 18446744073709551616 : Nat) : Int), .int .u64 ((x * y % 18446744073709551616 : Nat) : Int)]) ∧ w' = w :=
  Any.bits_Mul { Tryz.layRepeat with } x y hx hy w
end Go.Proofs
/- strings.Repeat, and what is built on it. -/
set_option linter.unusedVariables false
set_option linter.unusedSimpArgs false
namespace Go.Proofs.YtmfmommgooccnaaGreat
open Go.Proofs.YtmfmommgooccnaaGreat.SL

theorem Repeat_does (c : Nat) (hc : c ≤ 140737488355328) : Does Tryz.prog 96 [.string { data := #[0] }, .int .i64 c] [] (fun v H => v = .string (str (List.replicate c 0)) ∧ H = []) := by
  refine does_below (v := .string (str (List.replicate c 0))) fun w => (Tryz.repeat_calls (str [0]) c w (by omega) ?_).mono fun e w' h => ⟨?_, h.2⟩
  · show 1 * c ≤ _
    omega
  · rw [h.1]
    have e : ∀ c, Lib.repeatL [0] c = List.replicate c 0 := fun c => by
      induction c with
      | zero => rfl
      | succ c ih => rw [Lib.repeatL, ih]; rfl
    show Ending.returned (Value.string ⟨(Lib.repeatL [0] c).toArray⟩) = _
    rw [e]
    rfl

def newB (n : Int) : List UInt8 := List.replicate ((min (max n 0) 100000 + 7) / 8).toNat 0
theorem bNew_does (n : Int) (hn : -9223372036854775808 ≤ n ∧ n < 9223372036854775808) : Does Tryz.prog 98 [.int .i64 n] [] (fun v H => v = .string (str (newB n)) ∧ H = []) := by
  refine does_of Tryz.func98 Tryz.ntmps98 rfl rfl rfl (fun w0 F0 => ?_)
  (repeat (first | refine g_seq (h := ?_) | refine g_region (h := ?_) | refine l_nil (h := ?_) | refine n_then (h := ?_) | refine l_pures1 (h := ?_)))
  (simp only [cond_true, cond_false, mxI_eq, mnI_eq])
  obtain ⟨m, hm⟩ : ∃ m, min (max n 0) 100000 = m := ⟨_, rfl⟩
  have hb : 0 ≤ m ∧ m ≤ 100000 := by omega
  rw [hm]
  have e : IntKind.i64.wrap ((IntKind.i64.wrap (IntKind.i64.wrap (m + 8) - 1)).tdiv 8) = (((m + 7) / 8).toNat : Int) := by
    rw [wrapI64 (n := m + 8) (by omega), wrapI64 (n := m + 8 - 1) (by omega), Int.tdiv_eq_ediv_of_nonneg (by omega), wrapI64 (by omega)]
    omega
  rw [e]
  (repeat' (first | refine l_nil (h := ?_) | refine n_then (h := ?_) | refine l_pures1 (h := ?_) | (refine l_at 96 ?_; refine l_call (Repeat_does ((m + 7) / 8).toNat (by omega)) ?_) | refine g_ret (h := ?_)))
  refine r_ret ?_
  exact ⟨by rw [newB, hm]; rfl, rfl⟩
end Go.Proofs.YtmfmommgooccnaaGreat
/- bits.Count. -/
set_option linter.unusedVariables false
set_option linter.unusedSimpArgs false
namespace Go.Proofs.YtmfmommgooccnaaGreat
open Go.Proofs.YtmfmommgooccnaaGreat.SL

/-- How many bits of a byte are set. -/
def ones (c : Nat) : Nat := (List.range 8).countP fun m => c.testBit m
/-- How many numbers a set has. -/
def countB : List UInt8 → Nat
  | [] => 0
  | c :: l => ones c.toNat + countB l
theorem countB_snoc (c : UInt8) : ∀ l, countB (l ++ [c]) = countB l + ones c.toNat
  | [] => by simp [countB]
  | d :: l => by rw [List.cons_append, countB, countB_snoc c l, countB]; omega
end Go.Proofs.YtmfmommgooccnaaGreat
/- disk.New. -/
set_option maxRecDepth 20000
set_option linter.unusedVariables false
set_option linter.unusedSimpArgs false
namespace Go.Proofs.YtmfmommgooccnaaGreat
open Go.Proofs.YtmfmommgooccnaaGreat.SL

theorem Mul_does (x y : Nat) (hx : x < 18446744073709551616) (hy : y < 18446744073709551616) : Does Tryz.prog 140 [.int .u64 x, .int .u64 y] [] (fun v H => v = .tuple #[.int .u64 ((x * y / 18446744073709551616 : Nat) : Int), .int .u64 ((x * y % 18446744073709551616 : Nat) : Int)] ∧ H = []) :=
  does_below fun w => (Tryz.mul_calls x y hx hy w).mono fun e w' h => ⟨h.1, h.2 ▸ Go.RowKit.Below.refl _ _⟩

theorem Mul1_does (c : Nat) (hc : c ≤ 640) : Does Tryz.prog 140 [.int .u64 ((1 : Nat) : Int), .int .u64 c] [] (fun v H => v = .tuple #[.int .u64 0, .int .u64 c] ∧ H = []) := by
  have := Mul_does 1 c (by omega) (by omega)
  rw [Nat.one_mul, Nat.div_eq_of_lt (by omega), Nat.mod_eq_of_lt (by omega)] at this
  exact this

theorem sRepeat_does (b c : Nat) (s : List UInt8) (hc : 8 ≤ c ∧ c ≤ 640) : Does Tryz.prog 97 [.slice (some ⟨b, 0, none⟩) 1 1, .int .i64 c] [cl b 9 [encS s]]
    (fun v H => ∃ b', v = .slice (some ⟨b', 0, none⟩) c c ∧ H = [cl b' 9 (List.replicate c (encS s))]) := by
  refine does_of Tryz.func97 Tryz.ntmps97 rfl rfl rfl (fun w0 F0 => ?_)
  have e1 : IntKind.u64.wrap (c : Int) = c := wrapU64 (by omega)
  have e0 : IntKind.u64.wrap ((1 : Nat) : Int) = ((1 : Nat) : Int) := wrapU64 (by omega)
  have e2 : IntKind.i64.wrap (c : Int) = c := wrapI64 (by omega)
  (repeat' (first | refine g_seq (h := ?_) | refine g_region (h := ?_) | refine l_nil (h := ?_) | refine n_then (h := ?_) | refine l_pures1 (h := ?_) | refine g_skip (h := ?_) | refine g_cond_f (h := ?_)))
  rw [e1, e0]
  (repeat' (first | refine g_seq (h := ?_) | refine g_region (h := ?_) | refine l_nil (h := ?_) | refine n_then (h := ?_) | refine l_pures1 (h := ?_) | (refine l_at 140 ?_; refine l_call (Mul1_does c hc.2) ?_) | refine l_guard_yes (h := ?_) | (refine l_makeSlice (h := ?_); intro _) | refine g_skip (h := ?_) | (refine g_spF (h := ?_); intro h)))
  rw [e2, Int.toNat_natCast]
  rename_i b'
  have hone : ∀ u ∈ [encS s], u.oneCell' = true := by intro u hu; simp at hu; subst hu; rfl
  have er : List.take 0 (List.replicate c (Value.string { data := #[] })) ++ List.take (min 1 c) (List.drop 0 [encS s]) ++ List.drop (0 + min 1 c) (List.replicate c (Value.string { data := #[] })) = List.replicate 1 (encS s) ++ List.replicate (c - 1) (encS []) := by
    rw [show min 1 c = 1 by omega]; simp [encS]; first | done | exact .inr rfl
  refine l_copy_row env_ok rfl rfl rfl rfl rfl Take.here Take.here hone (by simp only [List.length_replicate, List.length_cons, List.length_nil]; omega) ?_
  rw [er, show min 1 c = 1 by omega]
  (repeat (first | refine g_seq (h := ?_) | refine l_nil (h := ?_) | refine n_then (h := ?_) | refine l_pures1 (h := ?_) | refine g_block (h := ?_)))
  (refine g_loop (fun j : Nat => [(8, .int .i64 j), (7, .slice (some ⟨b', 0, none⟩) c c)]) (fun j => [cl b' 9 (List.replicate j (encS s) ++ List.replicate (c - j) (encS []))]) (fun j => 1 ≤ j ∧ j ≤ c) (fun j => c - j) (1) ?_ ?_ ?_ ?_; rotate_left; (repeat (first | refine ts_nil | (refine ts_cons rfl ?_ ?_; first | (with_reducible rfl) | rotate_left))); (first | (intro _ i; with_reducible refine i) | rotate_left); rotate_left; (try omega); rotate_right)
  · intro j hj
    (repeat' (first | refine g_seq (h := ?_) | refine g_region (h := ?_) | refine l_nil (h := ?_) | refine n_then (h := ?_) | refine l_pures1 (h := ?_) | refine g_skip (h := ?_) | refine g_ret (h := ?_) | refine g_block (h := ?_) | refine g_exit (h := ?_) | refine n_then_exit (h := ?_) | refine n_block_hit (h := ?_) | (refine g_sp (h1 := ?_) (h0 := ?_) <;> intro h)))
    · (refine g_draw [] (h := a_pass2 (h := ?_)))
      (repeat' (first | refine l_nil (h := ?_) | refine l_slice (h := ?_) | refine a_one (h := ?_) | refine n_any (h := a_pass2 (h := ?_)) | refine a_v (h := ?_)))
      have hall : ∀ u ∈ List.replicate j (encS s) ++ List.replicate (c - j) (encS []), u.oneCell' = true := by
        intro u hu
        rcases List.mem_append.1 hu with hu | hu <;> (rw [List.eq_of_mem_replicate hu]; rfl)
      have hlen : (List.replicate j (encS s) ++ List.replicate (c - j) (encS [])).length = c := by simp; omega
      refine l_copy_in env_ok rfl rfl rfl rfl rfl Take.here hall (by rw [hlen]; omega) ?_
      obtain ⟨q, hq⟩ : ∃ q, min ((j : Int).toNat - Int.toNat 0) ((c : Int).toNat - (j : Int).toNat) = q := ⟨_, rfl⟩
      have hq1 : 1 ≤ q ∧ q ≤ j ∧ j + q ≤ c := by omega
      rw [hq]
      have er2 : List.take (0 + (j : Int).toNat * 1) (List.replicate j (encS s) ++ List.replicate (c - j) (encS [])) ++ List.take q (List.drop (0 + Int.toNat 0 * 1) (List.replicate j (encS s) ++ List.replicate (c - j) (encS []))) ++ List.drop (0 + (j : Int).toNat * 1 + q) (List.replicate j (encS s) ++ List.replicate (c - j) (encS [])) = List.replicate (j + q) (encS s) ++ List.replicate (c - (j + q)) (encS []) := by
        rw [show 0 + (j : Int).toNat * 1 = j by omega, show 0 + Int.toNat 0 * 1 = 0 by decide, List.drop_zero, List.take_append_of_le_length (by rw [List.length_replicate]; omega), List.take_append_of_le_length (by rw [List.length_replicate]; omega), List.take_replicate, List.take_replicate, Nat.min_self, show min q j = q by omega, List.drop_append]
        simp only [List.length_replicate, List.drop_replicate]
        rw [show j - (j + q) = 0 by omega, List.replicate_zero, List.nil_append, show j + q - j = q by omega, List.replicate_append_replicate, show c - j - q = c - (j + q) by omega]
      rw [er2]
      (repeat' (first | refine l_nil (h := ?_) | refine a_done (h := ?_) | refine n_any (h := a_pass2 (h := ?_)) | refine n_block (h := ?_)))
      (refine n_back (j + q) ?_ ?_ ?_ ?_; rotate_left; rotate_left; (repeat (first | refine ts_nil | (refine ts_cons rfl ?_ ?_; first | (with_reducible rfl) | rotate_left))); (first | (intro _ i; with_reducible refine i) | rotate_left); (try omega); (try omega))
      rw [wrapI64 (by omega)]; rfl
    · obtain rfl : j = c := by omega
      rw [Nat.sub_self, List.replicate_zero, List.append_nil]
      refine r_retk [cl b' 9 (List.replicate j (encS s))] ?_
      exact ⟨b', rfl, rfl⟩
  intro _ i
  exact inv_keep (Parts.cons Take.here Parts.nil) i

theorem sRepeat2_does (b c : Nat) (s : List UInt8) (hc : 8 ≤ c ∧ c ≤ 640) : Does Tryz.prog 97 [.slice (some ⟨b, 0, none⟩) 1 1, .int .i64 c] [cl b 9 [.string (str s)]]
    (fun v H => ∃ b', v = .slice (some ⟨b', 0, none⟩) c c ∧ H = [cl b' 9 (List.replicate c (encS s))]) := sRepeat_does b c s hc

def zero256 : List UInt8 := List.replicate 256 0
theorem zero256_len : zero256.length = 256 := by rw [zero256, List.length_replicate]
def Dk.new (n : Nat) : Dk := { now := List.replicate n zero256, was := [], order := [], fuse := -1, gone := false }
theorem Dk.new_ok (n : Nat) (hn : 8 ≤ n ∧ n ≤ 640) : (Dk.new n).ok := by
  refine ⟨by simp [Dk.new]; omega, by simp [Dk.new], by simp [Dk.new], ?_, by simp [Dk.new]⟩
  intro x hx
  rw [List.eq_of_mem_replicate (show x ∈ List.replicate n zero256 from hx), zero256_len]
theorem Rep256_does : Does Tryz.prog 96 [.string { data := #[0] }, .int .i64 256] [] (fun v H => v = .string (str zero256) ∧ H = []) := Repeat_does 256 (by omega)
theorem New_does (n : Nat) (hn : 8 ≤ n ∧ n ≤ 640) : Does Tryz.prog 53 [.int .i64 n] [] (fun v H => ∃ b, v = .tuple #[.pointer (some ⟨b, 0, none⟩), .int .i64 0] ∧ H = [Disk b (Dk.new n)]) := by
  refine does_of Tryz.func53 Tryz.ntmps53 rfl rfl rfl (fun w0 F0 => ?_)
  (repeat' (first | refine g_seq (h := ?_) | refine g_region (h := ?_) | refine l_nil (h := ?_) | refine n_then (h := ?_) | refine l_pures1 (h := ?_) | (refine l_at 96 ?_; refine l_call (Rep256_does) ?_) | (refine l_at 97 ?_; refine l_call_ (sRepeat2_does _ n zero256 hn) ?_; rintro _ _ _ ⟨b', rfl, rfl⟩ he; cases he) | refine l_guard_yes (h := ?_) | (refine l_buildSlice1 (h := ?_); intro _) | refine g_skip (h := ?_) | (refine l_spF (h := ?_); intro h) | (refine g_spF (h := ?_); intro h)))
  (refine l_makeMap (encS) (h := ?_); intro _)
  (repeat (first | refine l_nil (h := ?_) | refine n_then (h := ?_) | refine l_pures1 (h := ?_) | (refine l_box (h := ?_); intro _) | refine g_ret (h := ?_)))
  rename_i bm b
  refine n_inv (fun i => vec_nil (3) (1) i) ?_
  (refine n_shut (A := Disk b (Dk.new n)) (K := DiskK b (Dk.new n) ((b', n, bm, ((none, 0) : Option Addr × Nat), []))) (hid_shuts ((b', n, bm, ((none, 0) : Option Addr × Nat), [])) ⟨Dk.new_ok n hn, by simp [Dk.new], by dsimp only; omega⟩) (h := ?_) (p := by dsimp only [DiskK]; (try simp only [List.map_nil, List.length_nil, List.length_set, List.length_append, List.length_cons, List.length_singleton, List.map_append, List.map_cons, Nat.zero_add, Dk.new, List.map_replicate, List.length_replicate, List.append_nil]); exact parts_of))
  refine r_retk [Disk b (Dk.new n)] ?_
  exact ⟨b, rfl, rfl⟩
end Go.Proofs.YtmfmommgooccnaaGreat
/- Package shadow: Left, Format, Commit. -/
set_option linter.unusedVariables false
set_option linter.unusedSimpArgs false
namespace Go.Proofs.YtmfmommgooccnaaGreat
open Go.Proofs.YtmfmommgooccnaaGreat.SL

def Sh.left (S : Sh) (D : Dk) : Int := D.now.length - 2 - countB S.used - S.fresh.length
def headNew : Hd := ⟨1, 0, newB 640⟩
def format (D : Dk) : Option Hd × Int × Dk := if (headNew.lay D).1 ≠ 0 then (none, headNew.lay D) else (some headNew, 0, (headNew.lay D).2)
theorem newB_len : (newB 640).length = 80 := by rw [newB, List.length_replicate]; decide
theorem bNew640_does : Does Tryz.prog 98 [.int .i64 640] [] (fun v H => v = .string (str (newB 640)) ∧ H = []) := bNew_does 640 (by omega)
theorem headNew_ok : headNew.ok ∧ headNew.over.ok := by
  have := newB_len
  refine ⟨⟨⟨?_, ?_⟩, ⟨?_, ?_⟩, ?_⟩, ⟨⟨?_, ?_⟩, ⟨?_, ?_⟩, ?_, ⟨by simp [Hd.over], by simp [Hd.over]⟩, ⟨by simp [Hd.over], by simp [Hd.over]⟩⟩⟩
  all_goals first | (show (newB 640).length = 80; exact newB_len) | (show (newB 640).length ≤ _; omega) | (simp [headNew, Hd.over]; done)
theorem Format_does (db : Nat) (D : Dk) : Does Tryz.prog 54 [.pointer (some ⟨db, 0, none⟩)] [Disk db D]
    (fun v H => match (format D).1 with
      | none => v = .tuple #[.pointer none, .int .i64 (format D).2.1] ∧ H = [Disk db (format D).2.2]
      | some h => ∃ b, v = .tuple #[.pointer (some ⟨b, 0, none⟩), .int .i64 (format D).2.1] ∧ H = [Store b db h.over, Disk db (format D).2.2]) := by
  obtain ⟨ok1, ok2⟩ := headNew_ok
  have hl : Does Tryz.prog 99 [.agg #[.int .i64 1, .int .i64 0, .string (str (newB 640))], .pointer (some ⟨db, 0, none⟩)] [Disk db D] (fun v H => v = .int .i64 (headNew.lay D).1 ∧ H = [Disk db (headNew.lay D).2]) := lay_does headNew ok1 db D
  have ho : Does Tryz.prog 100 [.pointer (some ⟨db, 0, none⟩), .agg #[.int .i64 1, .int .i64 0, .string (str (newB 640))]] [] (fun v H => ∃ b, v = .pointer (some ⟨b, 0, none⟩) ∧ H = [Store b db headNew.over]) := over_does headNew ok2 db
  refine does_of Tryz.func54 Tryz.ntmps54 rfl rfl rfl (fun w0 F0 => ?_)
  (repeat' (first | refine g_seq (h := ?_) | refine g_region (h := ?_) | refine l_nil (h := ?_) | refine n_then (h := ?_) | refine l_pures1 (h := ?_) | (refine l_at 98 ?_; refine l_call (bNew640_does) ?_) | (refine l_at 99 ?_; refine l_call (hl) ?_) | (refine l_at 100 ?_; refine l_call_ (ho) ?_; rintro _ _ _ ⟨b', rfl, rfl⟩ he; cases he) | refine l_load (h := ?_) | refine l_store (h := ?_) | (refine l_alloc (h := ?_); intro _) | refine g_skip (h := ?_) | refine g_ret (h := ?_) | refine n_then_ret (h := ?_) | (refine g_sp (h1 := ?_) (h0 := ?_) <;> intro h)))
  · have e : format D = (none, headNew.lay D) := by simp [format, *]
    rw [e]
    refine r_retk [Disk db (headNew.lay D).2] ?_
    exact ⟨rfl, rfl⟩
  · have e : format D = (some headNew, 0, (headNew.lay D).2) := by simp [format, *]
    rw [e]
    refine r_retk [Store b' db headNew.over, Disk db (headNew.lay D).2] ?_
    exact ⟨b', rfl, rfl⟩

def setAll (u : List UInt8) (on : Bool) (l : List Int) : List UInt8 := l.foldl (fun u n => withB u n on) u
theorem setAll_len (on : Bool) : ∀ (l : List Int) (u : List UInt8), (setAll u on l).length = u.length
  | [], u => rfl
  | n :: l, u => by
    show (setAll (withB u n on) on l).length = _
    rw [setAll_len on l, withB_len]
def Sh.next (S : Sh) (root : Int) : Hd := ⟨S.gen + 1, root, setAll (setAll S.used true (rise S.fresh)) false (rise S.given)⟩
end Go.Proofs.YtmfmommgooccnaaGreat
/- Package tree: what a call under way does with nodes and pages. -/
set_option maxRecDepth 20000
set_option linter.unusedVariables false
set_option linter.unusedSimpArgs false
namespace Go.Proofs.YtmfmommgooccnaaGreat
open Go.Proofs.YtmfmommgooccnaaGreat.SL

/-- A call under way: its store, the nodes that were read, its error. -/
abbrev Wk (b sb : Nat) (read e : Int) : SProp := cl b 171 [.pointer (some ⟨sb, 0, none⟩), .int .i64 read, .int .i64 e]

theorem wFail0_does (b sb : Nat) (read : Int) : Does Tryz.prog 149 [.pointer (some ⟨b, 0, none⟩), .int .i64 0] [Wk b sb read 0] (fun v H => v = .bool false ∧ H = [Wk b sb read 0]) := by
  refine does_of Tryz.func149 Tryz.ntmps149 rfl rfl rfl (fun w0 F0 => ?_)
  (repeat' (first | refine g_seq (h := ?_) | refine g_region (h := ?_) | refine l_nil (h := ?_) | refine n_then (h := ?_) | refine l_pures1 (h := ?_) | refine l_load (h := ?_) | refine l_store (h := ?_) | refine g_ret (h := ?_) | refine g_cond_t (h := ?_)))
  refine r_ret ?_
  exact ⟨rfl, rfl⟩
set_option maxHeartbeats 1000000 in
theorem wNode_does (b sb db deep : Nat) (at' read : Int) (S : Sh) (D : Dk) (d : Nd) (hd : d.good) (hr : S.read D at' = ((2, d.text, 0), S)) (h1 : 0 ≤ read ∧ read < 640) (h2 : deep ≤ 10) :
    Does Tryz.prog 151 [.pointer (some ⟨b, 0, none⟩), .int .i64 at', .int .i64 deep] [Wk b sb read 0, Store sb db S, Disk db D]
      (fun v H => ∃ r, v = ndV d r ∧ H = [Nds d r, Wk b sb (read + 1) 0, Store sb db S, Disk db D]) := by
  have hR := sRead_does sb db S D at'
  rw [hr] at hR
  dsimp only at hR
  have hD := Decode_does d hd
  have hF := wFail0_does b sb (read + 1)
  have ew : IntKind.i64.wrap (read + 1) = read + 1 := wrapI64 (by omega)
  refine does_of Tryz.func151 Tryz.ntmps151 rfl rfl rfl (fun w0 F0 => ?_)
  (repeat (first | refine g_seq (h := ?_) | refine g_region (h := ?_) | refine l_nil (h := ?_) | refine n_then (h := ?_) | refine l_pures1 (h := ?_) | refine l_load (h := ?_) | refine l_store (h := ?_) | (refine l_alloc (h := ?_); intro _)))
  rw [ew]
  (repeat' (first | refine g_seq (h := ?_) | refine g_region (h := ?_) | refine l_nil (h := ?_) | refine n_then (h := ?_) | refine l_pures1 (h := ?_) | (refine l_atc ?_; refine l_call (hR) ?_) | (refine l_atc ?_; refine l_call (hF) ?_) | (refine l_atc ?_; refine l_call_ (hD) ?_; rintro _ _ _ ⟨r, rfl, rfl⟩ he; cases he) | refine l_guard_yes (h := ?_) | refine l_load (h := ?_) | refine l_store (h := ?_) | refine g_skip (h := ?_) | refine g_ret (h := ?_) | refine g_cond_f (h := ?_) | (refine g_spF (h := ?_); intro h)))
  refine r_retk [Nds d r, Wk b sb (read + 1) 0, Store sb db S, Disk db D] ?_
  exact ⟨r, rfl, rfl⟩

set_option maxHeartbeats 1000000 in
/-- A node is laid on a fresh page. -/
theorem wWrite_does (b sb db : Nat) (at' read : Int) (S S' : Sh) (D D' : Dk) (d : Nd) (r : Rw) (hd : d.good) (hw : S.write D at' 2 d.text = (0, S', D')) :
    Does Tryz.prog 150 [.pointer (some ⟨b, 0, none⟩), .int .i64 at', ndV d r] [Wk b sb read 0, Store sb db S, Disk db D, Nds d r]
      (fun v H => v = .int .i64 at' ∧ H = [Wk b sb read 0, Store sb db S', Disk db D', Nds d r]) := by
  have hlen := d.text_len hd.p
  have hsz := hd.size
  have hW := sWrite_does sb db S D at' 2 d.text (by omega)
  rw [hw] at hW
  dsimp only at hW
  have hE := Encode_does d r hd
  have hF := wFail0_does b sb read
  refine does_of Tryz.func150 Tryz.ntmps150 rfl rfl rfl (fun w0 F0 => ?_)
  (repeat' (first | refine g_seq (h := ?_) | refine g_region (h := ?_) | refine l_nil (h := ?_) | refine n_then (h := ?_) | refine l_pures1 (h := ?_) | (refine l_atc ?_; refine l_call (hE) ?_) | (refine l_atc ?_; refine l_call (hW) ?_) | (refine l_atc ?_; refine l_call (hF) ?_) | refine l_load (h := ?_) | (refine l_box (h := ?_); intro _) | refine g_ret (h := ?_) | refine g_cond_f (h := ?_)))
  refine r_retk [Wk b sb read 0, Store sb db S', Disk db D', Nds d r] ?_
  exact ⟨rfl, rfl⟩

set_option maxHeartbeats 1000000 in
/-- A node is laid on a page that is taken. -/
theorem wFresh_does (b sb db : Nat) (at' read : Int) (S S' S'' : Sh) (D D' : Dk) (d : Nd) (r : Rw) (hd : d.good) (ht : S.take D = ((at', 0), S')) (hw : S'.write D at' 2 d.text = (0, S'', D')) :
    Does Tryz.prog 108 [.pointer (some ⟨b, 0, none⟩), ndV d r] [Wk b sb read 0, Store sb db S, Disk db D, Nds d r]
      (fun v H => v = .int .i64 at' ∧ H = [Wk b sb read 0, Store sb db S'', Disk db D', Nds d r]) := by
  have hT := sTake_does sb db S D
  rw [ht] at hT
  dsimp only at hT
  have hW := wWrite_does b sb db at' read S' S'' D D' d r hd hw
  have hF := wFail0_does b sb read
  refine does_of Tryz.func108 Tryz.ntmps108 rfl rfl rfl (fun w0 F0 => ?_)
  (repeat' (first | refine g_seq (h := ?_) | refine g_region (h := ?_) | refine l_nil (h := ?_) | refine n_then (h := ?_) | refine l_pures1 (h := ?_) | (refine l_atc ?_; refine l_call (hT) ?_) | (refine l_atc ?_; refine l_call (hW) ?_) | (refine l_atc ?_; refine l_call (hF) ?_) | refine l_load (h := ?_) | (refine l_box (h := ?_); intro _) | refine g_skip (h := ?_) | refine g_ret (h := ?_) | refine g_cond_f (h := ?_)))
  refine r_retk [Wk b sb read 0, Store sb db S'', Disk db D', Nds d r] ?_
  exact ⟨rfl, rfl⟩

set_option maxHeartbeats 1000000 in
/-- A node is laid anew: its page is fresh. -/
theorem wLayF_does (b sb db : Nat) (at' read : Int) (S S' : Sh) (D D' : Dk) (d : Nd) (r : Rw) (hd : d.good) (hf : at' ∈ S.fresh) (hw : S.write D at' 2 d.text = (0, S', D')) :
    Does Tryz.prog 114 [.pointer (some ⟨b, 0, none⟩), .int .i64 at', ndV d r] [Wk b sb read 0, Store sb db S, Disk db D, Nds d r]
      (fun v H => v = .int .i64 at' ∧ H = [Wk b sb read 0, Store sb db S', Disk db D', Nds d r]) := by
  have hT := sFresh_does sb db S at'
  rw [decide_eq_true hf] at hT
  have hW := wWrite_does b sb db at' read S S' D D' d r hd hw
  refine does_of Tryz.func114 Tryz.ntmps114 rfl rfl rfl (fun w0 F0 => ?_)
  (repeat' (first | refine g_seq (h := ?_) | refine g_region (h := ?_) | refine l_nil (h := ?_) | refine n_then (h := ?_) | refine l_pures1 (h := ?_) | (refine l_atc ?_; refine l_call (hT) ?_) | (refine l_atc ?_; refine l_call (hW) ?_) | refine l_load (h := ?_) | (refine l_box (h := ?_); intro _) | refine g_ret (h := ?_) | refine n_then_ret (h := ?_) | refine g_cond_t (h := ?_)))
  refine r_retk [Wk b sb read 0, Store sb db S', Disk db D', Nds d r] ?_
  exact ⟨rfl, rfl⟩

set_option maxHeartbeats 1000000 in
/-- A node is laid anew: its page counts, and is given; another one is taken, or there is none. -/
theorem wLayG_does (b sb db : Nat) (at' read x e : Int) (S S1 S2 : Sh) (D D2 : Dk) (d : Nd) (r : Rw) (ha : -9223372036854775808 ≤ at' ∧ at' < 9223372036854775808) (hf : at' ∉ S.fresh) (hg : S.give at' = (0, S1))
    (hw : Does Tryz.prog 108 [.pointer (some ⟨b, 0, none⟩), ndV d r] [Wk b sb read 0, Store sb db S1, Disk db D, Nds d r] (fun v H => v = .int .i64 x ∧ H = [Wk b sb read e, Store sb db S2, Disk db D2, Nds d r])) :
    Does Tryz.prog 114 [.pointer (some ⟨b, 0, none⟩), .int .i64 at', ndV d r] [Wk b sb read 0, Store sb db S, Disk db D, Nds d r]
      (fun v H => v = .int .i64 x ∧ H = [Wk b sb read e, Store sb db S2, Disk db D2, Nds d r]) := by
  have hT := sFresh_does sb db S at'
  rw [decide_eq_false hf] at hT
  have hG := sGive_does sb db S at' ha
  rw [hg] at hG
  dsimp only at hG
  have hF := wFail0_does b sb read
  refine does_of Tryz.func114 Tryz.ntmps114 rfl rfl rfl (fun w0 F0 => ?_)
  (repeat' (first | refine g_seq (h := ?_) | refine g_region (h := ?_) | refine l_nil (h := ?_) | refine n_then (h := ?_) | refine l_pures1 (h := ?_) | (refine l_atc ?_; refine l_call (hT) ?_) | (refine l_atc ?_; refine l_call (hG) ?_) | (refine l_atc ?_; refine l_call (hF) ?_) | (refine l_atc ?_; refine l_call (hw) ?_) | refine l_load (h := ?_) | (refine l_box (h := ?_); intro _) | refine g_skip (h := ?_) | refine g_ret (h := ?_) | refine g_cond_f (h := ?_)))
  refine r_retk [Wk b sb read e, Store sb db S2, Disk db D2, Nds d r] ?_
  exact ⟨rfl, rfl⟩
end Go.Proofs.YtmfmommgooccnaaGreat
/- Package tree: the stack of a way. -/
set_option maxRecDepth 20000
set_option linter.unusedVariables false
set_option linter.unusedSimpArgs false
namespace Go.Proofs.YtmfmommgooccnaaGreat
open Go.Proofs.YtmfmommgooccnaaGreat.SL

/-- The row of a slice that has been cut. -/
theorem vec_cut {e sz m k cap : Nat} {p : Option Addr} {xs ys : List Value} {w0 w : World} {F0 : Nat → Prop} {H : List SProp} (hx : xs.length = m * sz) (i : Inv w0 F0 (vec e sz p (m + k) cap (xs ++ ys) :: H) w) : Inv w0 F0 (vec e sz p m cap xs :: H) w := by
  refine i.imp fun {h F} s => ⟨F, ?_, fun _ h => h⟩
  obtain ⟨F1, F2, ⟨hl, o⟩, s', dj, un⟩ := s
  refine ⟨F1, F2, ⟨hx, ?_⟩, s', dj, un⟩
  rcases o with ⟨e1, e2, e3, e4⟩ | ⟨g, rest, h1, h2, h3, h4, h5⟩
  · exact .inl ⟨e1, by omega, e3, e4⟩
  · refine .inr ⟨g, ys ++ rest, h1, by omega, h3, by rw [← List.append_assoc]; exact h4, by rw [← List.append_assoc]; exact h5⟩

/-- A spot: a page, its node, and where the node's rows are, the place of a kid. -/
structure Sp where
  pg : Int
  d : Nd
  r : Rw
  i : Nat
abbrev Sp.v (s : Sp) : Value := .agg #[.int .i64 s.pg, .bool s.d.leaf, .slice s.r.p1 s.d.keys.length s.r.c1, .slice s.r.p2 s.d.vals.length s.r.c2, .slice s.r.p3 s.d.kids.length s.r.c3, .int .i64 s.i]
def Sp.c (s : Sp) : List Value := [.int .i64 s.pg, .bool s.d.leaf, .slice s.r.p1 s.d.keys.length s.r.c1, .slice s.r.p2 s.d.vals.length s.r.c2, .slice s.r.p3 s.d.kids.length s.r.c3, .int .i64 s.i]
def spC (l : List Sp) : List Value := l.flatMap Sp.c
theorem spC_len : ∀ l : List Sp, (spC l).length = l.length * 6
  | [] => rfl
  | s :: l => by
    have := spC_len l
    simp only [spC, List.flatMap_cons, List.length_append, List.length_cons] at *
    simp only [Sp.c, List.length_cons, List.length_nil]; omega
theorem spC_snoc (l : List Sp) (s : Sp) : spC (l ++ [s]) = spC l ++ s.c := by simp [spC]
abbrev StkK (b : Nat) (l : List Sp) (x : Option Addr × Nat) : List SProp := [cl b 240 [.slice x.1 l.length x.2], vec 180 6 x.1 l.length x.2 (spC l)]
def Stk (b : Nat) (l : List Sp) : SProp := hid (fun _ : Option Addr × Nat => True) (StkK b l)

theorem part_spot (l : List Sp) (s : Sp) : partV env 180 (spC l ++ s.c) (0 + ((l.length : Nat) : Int).toNat * 6) = some s.v := by
  have e : 0 + ((l.length : Nat) : Int).toNat * 6 = (spC l).length := by rw [spC_len, Int.toNat_natCast, Nat.zero_add]
  have h : cutL (spC l ++ s.c) (spC l).length 6 = some s.c := by
    rw [cutL_of (by simp [Sp.c])]
    simp [Sp.c]
  rw [e]
  show (match cutL (spC l ++ s.c) (spC l).length 6 with
        | some r => some (Value.agg r.toArray)
        | none => none) = _
  rw [h]
  rfl

set_option maxHeartbeats 1000000 in
theorem push_does (b : Nat) (l : List Sp) (s : Sp) (hl : l.length < 100) : Does Tryz.prog 152 [.pointer (some ⟨b, 0, none⟩), s.v] [Stk b l] (fun v H => v = .tuple #[] ∧ H = [Stk b (l ++ [s])]) := by
  have e0 : (l ++ [s]).length = l.length + 1 := by simp
  have e1 : spC l ++ #[Value.int .i64 s.pg, .bool s.d.leaf, .slice s.r.p1 s.d.keys.length s.r.c1, .slice s.r.p2 s.d.vals.length s.r.c2, .slice s.r.p3 s.d.kids.length s.r.c3, .int .i64 s.i].toList = spC (l ++ [s]) := (spC_snoc l s).symm
  refine does_of Tryz.func152 Tryz.ntmps152 rfl rfl rfl (fun w0 F0 => ?_)
  refine g_open (A := Stk b l) (h := ?_); (rintro ⟨p, cap⟩ _; dsimp only [StkK, List.cons_append, List.nil_append])
  (repeat' (first | refine g_seq (h := ?_) | refine g_region (h := ?_) | refine l_nil (h := ?_) | refine n_then (h := ?_) | (refine l_box (h := ?_); intro _)))
  rename_i b1
  (refine g_draw [cl b1 180 _] (h := a_pass2 (h := ?_)))
  (repeat' (first | refine l_nil (h := ?_) | refine l_load (h := ?_) | refine l_store (h := ?_) | (refine l_buildSlice1 (h := ?_); intro _) | (refine l_append_new (h := ?_); intro _ _) | refine a_done (h := ?_) | refine a_load (h := a_pass2 (h := ?_)) | refine a_one (h := ?_) | refine n_any (h := a_pass2 (h := ?_)) | refine a_fork2 (h1 := ?_) (h2 := ?_) | refine a1_of (h := ?_)))
  all_goals rename_i b2 p' cap'
  all_goals
    rw [← e0, e1]
  all_goals
    (refine n_shut (A := Stk b (l ++ [s])) (K := StkK b (l ++ [s]) ((p', cap'))) (hid_shuts ((p', cap')) trivial) (h := ?_) (p := by dsimp only [StkK]; (try simp only [List.map_nil, List.length_nil, List.length_set, List.length_append, List.length_cons, List.length_singleton, List.map_append, List.map_cons, Nat.zero_add]); exact parts_of))
  all_goals
    refine r_endk [Stk b (l ++ [s])] ?_
  all_goals exact ⟨rfl, rfl⟩

set_option maxHeartbeats 1000000 in
theorem popNone_does (b : Nat) : Does Tryz.prog 110 [.pointer (some ⟨b, 0, none⟩)] [Stk b []] (fun v H => v = .tuple #[.agg #[.int .i64 0, .bool false, .slice none 0 0, .slice none 0 0, .slice none 0 0, .int .i64 0], .bool false] ∧ H = [Stk b []]) := by
  refine does_of Tryz.func110 Tryz.ntmps110 rfl rfl rfl (fun w0 F0 => ?_)
  refine g_open (A := Stk b []) (h := ?_); (rintro ⟨p, cap⟩ _; dsimp only [StkK, List.cons_append, List.nil_append])
  (repeat' (first | refine g_seq (h := ?_) | refine g_region (h := ?_) | refine l_nil (h := ?_) | refine n_then (h := ?_) | refine l_pures1 (h := ?_) | refine l_load (h := ?_) | refine l_store (h := ?_) | (refine l_alloc (h := ?_); intro _) | refine g_ret (h := ?_) | refine n_then_ret (h := ?_) | refine g_cond_t (h := ?_)))
  (refine n_shut (A := Stk b []) (K := StkK b [] ((p, cap))) (hid_shuts ((p, cap)) trivial) (h := ?_) (p := by dsimp only [StkK]; (try simp only [List.map_nil, List.length_nil, List.length_set, List.length_append, List.length_cons, List.length_singleton, List.map_append, List.map_cons, Nat.zero_add]); exact parts_of))
  refine r_retk [Stk b []] ?_
  exact ⟨rfl, rfl⟩

set_option maxHeartbeats 1000000 in
theorem pop_does (b : Nat) (l : List Sp) (s : Sp) (hl : l.length < 100) : Does Tryz.prog 110 [.pointer (some ⟨b, 0, none⟩)] [Stk b (l ++ [s])] (fun v H => v = .tuple #[s.v, .bool true] ∧ H = [Stk b l]) := by
  have e0 : (l ++ [s]).length = l.length + 1 := by simp
  have hp := part_spot l s
  refine does_of Tryz.func110 Tryz.ntmps110 rfl rfl rfl (fun w0 F0 => ?_)
  refine g_open (A := Stk b (l ++ [s])) (h := ?_); (rintro ⟨p, cap⟩ _; dsimp only [StkK, List.cons_append, List.nil_append])
  rw [e0, spC_snoc]
  refine g_ptr (m := l.length + 1) (h := ?_); rintro g rfl hc
  have ew : IntKind.i64.wrap (((l.length + 1 : Nat) : Int) - 1) = (l.length : Int) := by rw [wrapI64 (by omega)]; omega
  (repeat' (first | refine g_seq (h := ?_) | refine g_region (h := ?_) | refine l_nil (h := ?_) | refine n_then (h := ?_) | refine l_pures1 (h := ?_) | refine l_load (h := ?_) | (refine l_alloc (h := ?_); intro _) | refine g_skip (h := ?_) | refine g_cond_f (h := ?_)))
  (refine g_draw [cl b 240 [.slice (some ⟨g, 0, none⟩) (l.length + 1) cap], vec 180 6 (some ⟨g, 0, none⟩) (l.length + 1) cap (spC l ++ s.c)] (h := a_pass2 (h := ?_)))
  (repeat (first | refine l_nil (h := ?_) | refine l_indexAddr (h := ?_) | refine a_load (h := a_pass2 (h := ?_)) | refine a_one (h := ?_) | refine n_any (h := a_pass2 (h := ?_))))
  rw [ew]
  (repeat (first | refine g_seq (h := ?_) | refine l_nil (h := ?_) | refine n_then (h := ?_) | refine l_store (h := ?_) | refine a_done (h := ?_) | refine a_one (h := ?_) | refine n_any (h := a_pass2 (h := ?_)) | refine l_load_vec (h := ?_)))
  (refine g_draw [] (h := a_pass2 (h := ?_)))
  (repeat' (first | refine g_seq (h := ?_) | refine g_region (h := ?_) | refine l_nil (h := ?_) | refine n_then (h := ?_) | refine l_pures1 (h := ?_) | refine l_load (h := ?_) | refine l_store (h := ?_) | refine l_slice (h := ?_) | refine g_ret (h := ?_) | refine a_done (h := ?_) | refine a_one (h := ?_) | refine n_any (h := a_pass2 (h := ?_)) | refine a_fork2 (h1 := ?_) (h2 := ?_) | refine a1_of (h := ?_)))
  all_goals rw [ew]
  all_goals simp only [Int.toNat_natCast, Int.toNat_zero, Nat.zero_mul, Nat.add_zero, Nat.sub_zero]
  all_goals refine n_inv (fun i => vec_cut (spC_len l) (i.take (Take.there (Take.there Take.here)))) ?_
  all_goals
    (refine n_shut (A := Stk b l) (K := StkK b l (((some ⟨g, 0, none⟩ : Option Addr), cap))) (hid_shuts (((some ⟨g, 0, none⟩ : Option Addr), cap)) trivial) (h := ?_) (p := by dsimp only [StkK]; (try simp only [List.map_nil, List.length_nil, List.length_set, List.length_append, List.length_cons, List.length_singleton, List.map_append, List.map_cons, Nat.zero_add]); exact parts_of))
  all_goals
    refine r_retk [Stk b l] ?_
  all_goals exact ⟨rfl, rfl⟩
end Go.Proofs.YtmfmommgooccnaaGreat

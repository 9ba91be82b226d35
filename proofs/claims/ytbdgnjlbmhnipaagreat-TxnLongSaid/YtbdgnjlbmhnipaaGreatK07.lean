/- Texts TrB, Page, Bits, BitsL, Shad, ShadW, ShadH, joined. -/
import Derived.Test.YtbdgnjlbmhnipaaGreatK06
/- Package tree: two nodes as one; Split of any node. -/
set_option maxRecDepth 20000
set_option linter.unusedVariables false
set_option linter.unusedSimpArgs false
namespace Go.Proofs.YtbdgnjlbmhnipaaGreat
open Go.Proofs.YtbdgnjlbmhnipaaGreat.SL

theorem nSplit_does (d : Nd) (r : Rw) (hp : d.plain) (hf : d.fits) (hz : d.size < 10000) (hm : 1 ≤ d.keys.length - 1 - d.up) : Does Tryz.prog 79 [ndV d r] [Nds d r]
    (fun u H => ∃ r1 r2, u = .tuple #[ndV (d.front d.at') r1, .int .u64 (d.keys.getD d.at' 0 : Nat), ndV (d.back d.at') r2, .bool true] ∧ H = [Nds (d.front d.at') r1, Nds (d.back d.at') r2, Nds d r]) := by
  cases hl : d.leaf
  · have hu : d.up = 1 := by simp [Nd.up, hl]
    rw [hu] at hm
    have := splitB_does d r hl hp hf hz hm
    simpa only [ndV, ndA, hl] using this
  · have hu : d.up = 0 := by simp [Nd.up, hl]
    rw [hu] at hm
    have := splitL_does d r hl hp hf hz hm
    simpa only [ndV, ndA, hl] using this

theorem catU2 (x y : List Nat) (p q : Option Addr) (c d sb cc : Nat) (hx : x.length < 100000) (hy : y.length < 100000) :
    Does Tryz.prog 145 [.slice (some ⟨sb, 0, none⟩) 2 cc] [cl sb 138 [.slice p x.length c, .slice q y.length d], vec 32 1 p x.length c (uV (x)), vec 32 1 q y.length d (uV (y))]
      (fun v H => ∃ p' c', v = .slice p' (x ++ y).length c' ∧ H = [vec 32 1 p' (x ++ y).length c' (uV ((x ++ y))), cl sb 138 [.slice p x.length c, .slice q y.length d], vec 32 1 p x.length c (uV (x)), vec 32 1 q y.length d (uV (y))]) := by
  have ec : cat [(.slice p x.length c, uV (x)), (.slice q y.length d, uV (y))] 2 = uV ((x ++ y)) := by simp [cat, uV]
  have hl : (cat [(.slice p x.length c, uV (x)), (.slice q y.length d, uV (y))] 2).length = (x ++ y).length := by rw [ec, uV_len]
  have := ConcatU_does [(.slice p x.length c, uV (x)), (.slice q y.length d, uV (y))] [vec 32 1 p x.length c (uV (x)), vec 32 1 q y.length d (uV (y))] sb cc ?_ ?_ ?_ (by simp)
  · simp only [List.length_cons, List.length_nil, Nat.zero_add, Nat.reduceAdd, hl] at this
    rw [ec] at this
    exact this
  · intro s hs
    simp only [List.mem_cons, List.not_mem_nil, or_false] at hs
    rcases hs with rfl | rfl
    · exact src_vec Take.here (by simp [uV_len])
    
    · exact src_vec (Take.there Take.here) (by simp [uV_len])
  · intro s hs
    simp only [List.mem_cons, List.not_mem_nil, or_false] at hs
    rcases hs with rfl | rfl <;> simp [uV, Value.oneCell']
  · show (cat _ 2).length < _
    rw [hl]; simp only [List.length_append, List.length_cons, List.length_nil]; omega

theorem catU3 (x y : List Nat) (z : Nat) (p q : Option Addr) (c d sb cc mb mc : Nat) (hx : x.length < 100000) (hy : y.length < 100000) :
    Does Tryz.prog 145 [.slice (some ⟨sb, 0, none⟩) 3 cc] [cl sb 138 [.slice p x.length c, .slice (some ⟨mb, 0, none⟩) 1 mc, .slice q y.length d], vec 32 1 p x.length c (uV (x)), vec 32 1 q y.length d (uV (y)), cl mb 32 [.int .u64 (z : Nat)]]
      (fun v H => ∃ p' c', v = .slice p' (x ++ [z] ++ y).length c' ∧ H = [vec 32 1 p' (x ++ [z] ++ y).length c' (uV ((x ++ [z] ++ y))), cl sb 138 [.slice p x.length c, .slice (some ⟨mb, 0, none⟩) 1 mc, .slice q y.length d], vec 32 1 p x.length c (uV (x)), vec 32 1 q y.length d (uV (y)), cl mb 32 [.int .u64 (z : Nat)]]) := by
  have ec : cat [(.slice p x.length c, uV (x)), (.slice (some ⟨mb, 0, none⟩) 1 mc, [.int .u64 (z : Nat)]), (.slice q y.length d, uV (y))] 3 = uV ((x ++ [z] ++ y)) := by simp [cat, uV]
  have hl : (cat [(.slice p x.length c, uV (x)), (.slice (some ⟨mb, 0, none⟩) 1 mc, [.int .u64 (z : Nat)]), (.slice q y.length d, uV (y))] 3).length = (x ++ [z] ++ y).length := by rw [ec, uV_len]
  have := ConcatU_does [(.slice p x.length c, uV (x)), (.slice (some ⟨mb, 0, none⟩) 1 mc, [.int .u64 (z : Nat)]), (.slice q y.length d, uV (y))] [vec 32 1 p x.length c (uV (x)), vec 32 1 q y.length d (uV (y)), cl mb 32 [.int .u64 (z : Nat)]] sb cc ?_ ?_ ?_ (by simp)
  · simp only [List.length_cons, List.length_nil, Nat.zero_add, Nat.reduceAdd, hl] at this
    rw [ec] at this
    exact this
  · intro s hs
    simp only [List.mem_cons, List.not_mem_nil, or_false] at hs
    rcases hs with rfl | rfl | rfl
    · exact src_vec Take.here (by simp [uV_len])
    · exact src_cl (Take.there (Take.there Take.here)) rfl
    · exact src_vec (Take.there Take.here) (by simp [uV_len])
  · intro s hs
    simp only [List.mem_cons, List.not_mem_nil, or_false] at hs
    rcases hs with rfl | rfl | rfl <;> simp [uV, Value.oneCell']
  · show (cat _ 3).length < _
    rw [hl]; simp only [List.length_append, List.length_cons, List.length_nil]; omega

theorem catS2 (x y : List (List UInt8)) (p q : Option Addr) (c d sb cc : Nat) (hx : x.length < 100000) (hy : y.length < 100000) :
    Does Tryz.prog 146 [.slice (some ⟨sb, 0, none⟩) 2 cc] [cl sb 110 [.slice p x.length c, .slice q y.length d], vec 9 1 p x.length c ((x).map encS), vec 9 1 q y.length d ((y).map encS)]
      (fun v H => ∃ p' c', v = .slice p' (x ++ y).length c' ∧ H = [vec 9 1 p' (x ++ y).length c' (((x ++ y)).map encS), cl sb 110 [.slice p x.length c, .slice q y.length d], vec 9 1 p x.length c ((x).map encS), vec 9 1 q y.length d ((y).map encS)]) := by
  have ec : cat [(.slice p x.length c, (x).map encS), (.slice q y.length d, (y).map encS)] 2 = ((x ++ y)).map encS := by simp [cat, encS]
  have hl : (cat [(.slice p x.length c, (x).map encS), (.slice q y.length d, (y).map encS)] 2).length = (x ++ y).length := by rw [ec, List.length_map]
  have := ConcatS_does [(.slice p x.length c, (x).map encS), (.slice q y.length d, (y).map encS)] [vec 9 1 p x.length c ((x).map encS), vec 9 1 q y.length d ((y).map encS)] sb cc ?_ ?_ ?_ (by simp)
  · simp only [List.length_cons, List.length_nil, Nat.zero_add, Nat.reduceAdd, hl] at this
    rw [ec] at this
    exact this
  · intro s hs
    simp only [List.mem_cons, List.not_mem_nil, or_false] at hs
    rcases hs with rfl | rfl
    · exact src_vec Take.here (by simp [List.length_map])
    
    · exact src_vec (Take.there Take.here) (by simp [List.length_map])
  · intro s hs
    simp only [List.mem_cons, List.not_mem_nil, or_false] at hs
    rcases hs with rfl | rfl <;> simp [encS, Value.oneCell']
  · show (cat _ 2).length < _
    rw [hl]; simp only [List.length_append, List.length_cons, List.length_nil]; omega

theorem catI2 (x y : List Int) (p q : Option Addr) (c d sb cc : Nat) (hx : x.length < 100000) (hy : y.length < 100000) :
    Does Tryz.prog 147 [.slice (some ⟨sb, 0, none⟩) 2 cc] [cl sb 22 [.slice p x.length c, .slice q y.length d], vec 3 1 p x.length c ((x).map encZ'), vec 3 1 q y.length d ((y).map encZ')]
      (fun v H => ∃ p' c', v = .slice p' (x ++ y).length c' ∧ H = [vec 3 1 p' (x ++ y).length c' (((x ++ y)).map encZ'), cl sb 22 [.slice p x.length c, .slice q y.length d], vec 3 1 p x.length c ((x).map encZ'), vec 3 1 q y.length d ((y).map encZ')]) := by
  have ec : cat [(.slice p x.length c, (x).map encZ'), (.slice q y.length d, (y).map encZ')] 2 = ((x ++ y)).map encZ' := by simp [cat, encZ']
  have hl : (cat [(.slice p x.length c, (x).map encZ'), (.slice q y.length d, (y).map encZ')] 2).length = (x ++ y).length := by rw [ec, List.length_map]
  have := ConcatI_does [(.slice p x.length c, (x).map encZ'), (.slice q y.length d, (y).map encZ')] [vec 3 1 p x.length c ((x).map encZ'), vec 3 1 q y.length d ((y).map encZ')] sb cc ?_ ?_ ?_ (by simp)
  · simp only [List.length_cons, List.length_nil, Nat.zero_add, Nat.reduceAdd, hl] at this
    rw [ec] at this
    exact this
  · intro s hs
    simp only [List.mem_cons, List.not_mem_nil, or_false] at hs
    rcases hs with rfl | rfl
    · exact src_vec Take.here (by simp [List.length_map])
    
    · exact src_vec (Take.there Take.here) (by simp [List.length_map])
  · intro s hs
    simp only [List.mem_cons, List.not_mem_nil, or_false] at hs
    rcases hs with rfl | rfl <;> simp [encZ', Value.oneCell']
  · show (cat _ 2).length < _
    rw [hl]; simp only [List.length_append, List.length_cons, List.length_nil]; omega

set_option maxHeartbeats 1000000 in
theorem tBoth_tail (lf : Bool) (ka kb : List Nat) (va vb : List (List UInt8)) (ia ib : List Int) (mid : Nat) (p1 q1 p2 q2 p3 q3 : Option Addr) (c1 d1 c2 d2 c3 d3 : Nat) (b1 b2 b3 b4 : Nat) (s1 s2 : Option Addr) (t1 t2 : Nat) (f1 : ka.length < 10000) (g1 : kb.length < 10000) (w0 : World) (F0 : Nat → Prop) :
    G Tryz.prog 42 w0 F0 (nav [1, 1] (bdy Tryz.f129)) (Post Tryz.prog Tryz.f129 w0 F0 (fun u H => ∃ r', u = ndV (Nd.both ⟨lf, ka, va, ia⟩ mid ⟨lf, kb, vb, ib⟩) r' ∧ H = [Nds (Nd.both ⟨lf, ka, va, ia⟩ mid ⟨lf, kb, vb, ib⟩) r', Nds ⟨lf, ka, va, ia⟩ ⟨p1, c1, p2, c2, p3, c3⟩, Nds ⟨lf, kb, vb, ib⟩ ⟨q1, d1, q2, d2, q3, d3⟩]))
      [(3, .pointer (some ⟨b1, 0, none⟩)), (5, .pointer (some ⟨b2, 0, none⟩)), (1, .int .u64 mid), (6, .pointer (some ⟨b3, 0, none⟩)), (7, .pointer (some ⟨b4, 0, none⟩))] []
      [cl b4 140 [.bool lf, .slice none 0 0, .slice s1 (va ++ vb).length t1, .slice s2 (ia ++ ib).length t2], cl b3 140 #[.bool false, .slice none 0 0, .slice none 0 0, .slice none 0 0].toList, cl b1 140 (ndA ⟨lf, ka, va, ia⟩ ⟨p1, c1, p2, c2, p3, c3⟩).toList, cl b2 140 (ndA ⟨lf, kb, vb, ib⟩ ⟨q1, d1, q2, d2, q3, d3⟩).toList, vec 32 1 p1 ka.length c1 (uV ka), vec 9 1 p2 va.length c2 (va.map encS), vec 3 1 p3 ia.length c3 (ia.map encZ'), vec 32 1 q1 kb.length d1 (uV kb), vec 9 1 q2 vb.length d2 (vb.map encS), vec 3 1 q3 ib.length d3 (ib.map encZ'), vec 9 1 s1 (va ++ vb).length t1 ((va ++ vb).map encS), vec 3 1 s2 (ia ++ ib).length t2 ((ia ++ ib).map encZ')] := by
  have h2 := fun sb cc => catU2 ka kb p1 q1 c1 d1 sb cc (by omega) (by omega)
  have h3 := fun sb cc mb mc => catU3 ka kb mid p1 q1 c1 d1 sb cc mb mc (by omega) (by omega)
  obtain ⟨c, hc⟩ : ∃ c, c = nav [1, 1] (bdy Tryz.f129) := ⟨_, rfl⟩
  rw [← hc]
  dsimp only [nav, bdy, Tryz.f129, Option.getD] at hc
  subst hc
  cases lf
  · (repeat' (first | refine g_seq (h := ?_) | refine g_region (h := ?_) | refine l_nil (h := ?_) | refine n_then (h := ?_) | refine l_pures1 (h := ?_) | (refine l_atc ?_; refine l_call_ (h3 _ _ _ _) ?_; rintro _ _ _ ⟨s3, t3, rfl, rfl⟩ he; cases he) | refine l_load (h := ?_) | refine l_store (h := ?_) | (refine l_buildSlice1 (h := ?_); intro _) | refine g_ret (h := ?_) | refine g_cond_f (h := ?_) | (refine l_buildSlice3 (h := ?_); intro _)))
    (refine n_shut (A := Nds ⟨false, (ka ++ [mid] ++ kb), va ++ vb, ia ++ ib⟩ ⟨s3, t3, s1, t1, s2, t2⟩) (K := NdsK ⟨false, (ka ++ [mid] ++ kb), va ++ vb, ia ++ ib⟩ ⟨s3, t3, s1, t1, s2, t2⟩ (())) (hid_shuts (()) trivial) (h := ?_) (p := by dsimp only [NdsK]; (try simp only [List.map_nil, List.length_nil, List.length_set, List.length_append, List.length_cons, List.length_singleton, List.map_append, List.map_cons, Nat.zero_add]); exact parts_of))
    (refine n_shut (A := Nds ⟨false, ka, va, ia⟩ ⟨p1, c1, p2, c2, p3, c3⟩) (K := NdsK ⟨false, ka, va, ia⟩ ⟨p1, c1, p2, c2, p3, c3⟩ (())) (hid_shuts (()) trivial) (h := ?_) (p := by dsimp only [NdsK]; (try simp only [List.map_nil, List.length_nil, List.length_set, List.length_append, List.length_cons, List.length_singleton, List.map_append, List.map_cons, Nat.zero_add]); exact parts_of))
    (refine n_shut (A := Nds ⟨false, kb, vb, ib⟩ ⟨q1, d1, q2, d2, q3, d3⟩) (K := NdsK ⟨false, kb, vb, ib⟩ ⟨q1, d1, q2, d2, q3, d3⟩ (())) (hid_shuts (()) trivial) (h := ?_) (p := by dsimp only [NdsK]; (try simp only [List.map_nil, List.length_nil, List.length_set, List.length_append, List.length_cons, List.length_singleton, List.map_append, List.map_cons, Nat.zero_add]); exact parts_of))
    refine r_retk [Nds ⟨false, (ka ++ [mid] ++ kb), va ++ vb, ia ++ ib⟩ ⟨s3, t3, s1, t1, s2, t2⟩, Nds ⟨false, ka, va, ia⟩ ⟨p1, c1, p2, c2, p3, c3⟩, Nds ⟨false, kb, vb, ib⟩ ⟨q1, d1, q2, d2, q3, d3⟩] ?_
    exact ⟨⟨s3, t3, s1, t1, s2, t2⟩, by simp only [ndV, ndA, Nd.both, List.length_append, List.length_cons, List.length_nil, Nat.zero_add, if_true, Bool.false_eq_true, if_false]; rfl, rfl⟩
  · (repeat' (first | refine g_seq (h := ?_) | refine g_region (h := ?_) | refine l_nil (h := ?_) | refine n_then (h := ?_) | refine l_pures1 (h := ?_) | (refine l_atc ?_; refine l_call_ (h2 _ _) ?_; rintro _ _ _ ⟨s3, t3, rfl, rfl⟩ he; cases he) | refine l_load (h := ?_) | refine l_store (h := ?_) | refine g_ret (h := ?_) | refine g_cond_t (h := ?_) | (refine l_buildSlice2 (h := ?_); intro _)))
    (refine n_shut (A := Nds ⟨true, (ka ++ kb), va ++ vb, ia ++ ib⟩ ⟨s3, t3, s1, t1, s2, t2⟩) (K := NdsK ⟨true, (ka ++ kb), va ++ vb, ia ++ ib⟩ ⟨s3, t3, s1, t1, s2, t2⟩ (())) (hid_shuts (()) trivial) (h := ?_) (p := by dsimp only [NdsK]; (try simp only [List.map_nil, List.length_nil, List.length_set, List.length_append, List.length_cons, List.length_singleton, List.map_append, List.map_cons, Nat.zero_add]); exact parts_of))
    (refine n_shut (A := Nds ⟨true, ka, va, ia⟩ ⟨p1, c1, p2, c2, p3, c3⟩) (K := NdsK ⟨true, ka, va, ia⟩ ⟨p1, c1, p2, c2, p3, c3⟩ (())) (hid_shuts (()) trivial) (h := ?_) (p := by dsimp only [NdsK]; (try simp only [List.map_nil, List.length_nil, List.length_set, List.length_append, List.length_cons, List.length_singleton, List.map_append, List.map_cons, Nat.zero_add]); exact parts_of))
    (refine n_shut (A := Nds ⟨true, kb, vb, ib⟩ ⟨q1, d1, q2, d2, q3, d3⟩) (K := NdsK ⟨true, kb, vb, ib⟩ ⟨q1, d1, q2, d2, q3, d3⟩ (())) (hid_shuts (()) trivial) (h := ?_) (p := by dsimp only [NdsK]; (try simp only [List.map_nil, List.length_nil, List.length_set, List.length_append, List.length_cons, List.length_singleton, List.map_append, List.map_cons, Nat.zero_add]); exact parts_of))
    refine r_retk [Nds ⟨true, (ka ++ kb), va ++ vb, ia ++ ib⟩ ⟨s3, t3, s1, t1, s2, t2⟩, Nds ⟨true, ka, va, ia⟩ ⟨p1, c1, p2, c2, p3, c3⟩, Nds ⟨true, kb, vb, ib⟩ ⟨q1, d1, q2, d2, q3, d3⟩] ?_
    exact ⟨⟨s3, t3, s1, t1, s2, t2⟩, by simp only [ndV, ndA, Nd.both, List.length_append, List.length_cons, List.length_nil, Nat.zero_add, if_true, Bool.false_eq_true, if_false]; rfl, rfl⟩

set_option maxHeartbeats 1000000 in
theorem tBoth_does (a b : Nd) (ra rb : Rw) (mid : Nat) (fa : a.fits) (fb : b.fits) (hb : b.leaf = a.leaf) : Does Tryz.prog 129 [ndV a ra, .int .u64 mid, ndV b rb] [Nds a ra, Nds b rb]
    (fun u H => ∃ r', u = ndV (a.both mid b) r' ∧ H = [Nds (a.both mid b) r', Nds a ra, Nds b rb]) := by
  obtain ⟨lf, ka, va, ia⟩ := a
  obtain ⟨lf', kb, vb, ib⟩ := b
  dsimp only at hb
  subst hb
  rename Bool => lf
  obtain ⟨p1, c1, p2, c2, p3, c3⟩ := ra
  obtain ⟨q1, d1, q2, d2, q3, d3⟩ := rb
  obtain ⟨f1, f2, f3, f4⟩ := fa
  obtain ⟨g1, g2, g3, g4⟩ := fb
  dsimp only at f1 f2 f3 f4 g1 g2 g3 g4
  have hs := fun sb cc => catS2 va vb p2 q2 c2 d2 sb cc (by omega) (by omega)
  have hi := fun sb cc => catI2 ia ib p3 q3 c3 d3 sb cc (by omega) (by omega)
  have ht := fun b1 b2 b3 b4 s1 s2 t1 t2 => tBoth_tail lf ka kb va vb ia ib mid p1 q1 p2 q2 p3 q3 c1 d1 c2 d2 c3 d3 b1 b2 b3 b4 s1 s2 t1 t2 f1 g1
  refine does_of Tryz.func129 Tryz.ntmps129 rfl rfl rfl (fun w0 F0 => ?_)
  refine g_open (A := Nds ⟨lf, ka, va, ia⟩ ⟨p1, c1, p2, c2, p3, c3⟩) (h := ?_); (rintro _ _; dsimp only [NdsK, List.cons_append, List.nil_append])
  refine g_open (A := Nds ⟨lf, kb, vb, ib⟩ ⟨q1, d1, q2, d2, q3, d3⟩) (h := ?_); (rintro _ _; dsimp only [NdsK, List.cons_append, List.nil_append])
  (repeat (first | refine g_seq (h := ?_) | refine g_region (h := ?_) | refine l_nil (h := ?_) | refine n_then (h := ?_) | (refine l_box (h := ?_); intro _) | (refine l_alloc (h := ?_); intro _)))
  rename_i b1 b2 b3
  (refine g_draw [cl b1 140 (ndA ⟨lf, ka, va, ia⟩ ⟨p1, c1, p2, c2, p3, c3⟩).toList, cl b2 140 (ndA ⟨lf, kb, vb, ib⟩ ⟨q1, d1, q2, d2, q3, d3⟩).toList] (h := a_pass2 (h := ?_)))
  (repeat' (first | ((with_reducible show G _ _ _ _ (Code.seq (Code.seq (Code.region 2 _ _) _) _) _ _ _ _); exact g_bang (ht _ _ _ _ _ _ _ _ _ _)) | refine l_nil (h := ?_) | refine n_then (h := ?_) | (refine l_atc ?_; refine l_call_ (hs _ _) ?_; rintro _ _ _ ⟨s1, t1, rfl, rfl⟩ he; cases he) | (refine l_atc ?_; refine l_call_ (hi _ _) ?_; rintro _ _ _ ⟨s2, t2, rfl, rfl⟩ he; cases he) | refine l_store (h := ?_) | (refine l_alloc (h := ?_); intro _) | refine a_done (h := ?_) | refine a_load (h := a_pass2 (h := ?_)) | refine a_one (h := ?_) | refine n_any (h := a_pass2 (h := ?_)) | (refine l_buildSlice2 (h := ?_); intro _) | refine a_fork2 (h1 := ?_) (h2 := ?_) | refine a_fork3 (h1 := ?_) (h2 := ?_) (h3 := ?_) | refine a1_of (h := ?_)))
end Go.Proofs.YtbdgnjlbmhnipaaGreat
/- Package page. -/
set_option linter.unusedVariables false
set_option linter.unusedSimpArgs false
namespace Go.Proofs.YtbdgnjlbmhnipaaGreat
open Go.Proofs.YtbdgnjlbmhnipaaGreat.SL

/-- The two sums of a text. -/
def sumAB : List UInt8 → Nat × Nat → Nat × Nat
  | [], p => p
  | c :: l, (a, b) => sumAB l ((a + c.toNat) % 65521, (b + (a + c.toNat) % 65521) % 65521)
theorem sumAB_snoc (c : UInt8) : ∀ (l : List UInt8) (p : Nat × Nat), sumAB (l ++ [c]) p = (((sumAB l p).1 + c.toNat) % 65521, ((sumAB l p).2 + ((sumAB l p).1 + c.toNat) % 65521) % 65521)
  | [], (a, b) => rfl
  | d :: l, (a, b) => by rw [List.cons_append, sumAB, sumAB_snoc c l]; rfl
theorem sumAB_lt : ∀ (l : List UInt8) (p : Nat × Nat), p.1 < 65521 ∧ p.2 < 65521 → (sumAB l p).1 < 65521 ∧ (sumAB l p).2 < 65521
  | [], p, h => h
  | c :: l, (a, b), h => sumAB_lt l _ ⟨Nat.mod_lt _ (by decide), Nat.mod_lt _ (by decide)⟩
def sumP (l : List UInt8) : Nat := (sumAB l (1, 0)).2 * 65536 + (sumAB l (1, 0)).1
theorem sumP_lt (l : List UInt8) : sumP l < 4294967296 := by
  have := sumAB_lt l (1, 0) (by decide)
  unfold sumP; omega

theorem sum_step {A c : Nat} (hA : A < 65521) (hc : c < 65521) : (IntKind.u32.wrap ((A : Int) + (c : Int))).tmod 65521 = ((A + c) % 65521 : Nat) := by
  rw [wrapU32 (by omega), Int.tmod_eq_emod_of_nonneg (by omega)]
  omega

theorem Sum_does (l : List UInt8) (hl : l.length < 9223372036854775808) : Does Tryz.prog 152 [.string (str l)] [] (fun v H => v = .int .u32 (sumP l) ∧ H = []) := by
  refine does_of Tryz.func152 Tryz.ntmps152 rfl rfl rfl (fun w0 F0 => ?_)
  (repeat (first | refine g_seq (h := ?_) | refine g_region (h := ?_) | refine l_nil (h := ?_) | refine n_then (h := ?_) | refine l_pures1 (h := ?_) | refine g_block (h := ?_)))
  (refine g_loop (fun k : Nat => [(8, .int .i64 k), (7, .int .i64 l.length), (6, .string (str l)), (4, .int .u32 (sumAB (l.take k) (1, 0)).2), (3, .int .u32 (sumAB (l.take k) (1, 0)).1), (0, .string (str l))]) (fun _ => []) (fun k => k ≤ l.length) (fun k => l.length - k) (0) ?_ ?_ ?_ ?_; rotate_left; (repeat (first | refine ts_nil | (refine ts_cons rfl ?_ ?_; first | (with_reducible rfl) | rotate_left))); (first | (intro _ i; with_reducible refine i) | rotate_left); rotate_left; (try omega); rotate_right)
  · intro k hk
    have hlt := sumAB_lt (l.take k) (1, 0) (by decide)
    (repeat' (first | refine g_seq (h := ?_) | refine g_region (h := ?_) | refine l_nil (h := ?_) | refine n_then (h := ?_) | refine l_pures1 (h := ?_) | refine l_index (h := ?_) | refine l_shl (h := ?_) | refine g_skip (h := ?_) | refine g_ret (h := ?_) | refine g_block (h := ?_) | refine g_exit (h := ?_) | refine n_then_exit (h := ?_) | refine n_block_hit (h := ?_) | refine n_block (h := ?_) | (refine g_sp (h1 := ?_) (h0 := ?_) <;> intro h)))
    · have hby := byteAt_bd l k
      have hkl : k < l.length := by omega
      have hc : IntKind.u32.wrap (byteAt l k) = ((l.getD k 0).toNat : Int) := by rw [wrapU32 (by omega)]; simp [byteAt]
      have ht : sumAB (l.take (k + 1)) (1, 0) = (((sumAB (l.take k) (1, 0)).1 + (l.getD k 0).toNat) % 65521, ((sumAB (l.take k) (1, 0)).2 + ((sumAB (l.take k) (1, 0)).1 + (l.getD k 0).toNat) % 65521) % 65521) := by
        rw [List.take_succ_eq_append_getElem hkl, sumAB_snoc, List.getD, List.getElem?_eq_getElem hkl]; rfl
      have h256 := (l.getD k 0).toNat_lt
      (refine n_back (k + 1) ?_ ?_ ?_ ?_; rotate_left; rotate_left; (repeat (first | refine ts_nil | (refine ts_cons rfl ?_ ?_; first | (with_reducible rfl) | rotate_left))); (first | (intro _ i; with_reducible refine i) | rotate_left); (try omega); (try omega))
      · rw [wrapI64 (by omega)]; rfl
      · rw [hc, sum_step hlt.1 (by omega), sum_step hlt.2 (Nat.mod_lt _ (by decide)), ht]
      · rw [hc, sum_step hlt.1 (by omega), ht]
    · refine r_ret ?_
      have e : l.take k = l := List.take_of_length_le (by omega)
      have e16 : (2 : Int) ^ min (Int.toNat 16) IntKind.u32.bits = 65536 := by decide
      have hlt' := sumAB_lt l (1, 0) (by decide)
      rw [e, e16]
      refine ⟨?_, rfl⟩
      rw [wrapU32 (n := ((sumAB l (1, 0)).2 : Int) * 65536) (by omega), wrapU32 (by omega)]
      simp [packV, sumP]
  all_goals rfl

theorem shr8 {n k : Nat} (h : k < 4) : (n : Int).fdiv (2 ^ min (IntKind.i64.wrap (8 * (k : Int))).toNat IntKind.u32.bits) = ((n / 256 ^ k : Nat) : Int) := by
  rw [wrapI64 (by omega), Int.fdiv_eq_ediv_of_nonneg _ (by exact Int.le_of_lt (Int.pow_pos (by decide)))]
  have : k = 0 ∨ k = 1 ∨ k = 2 ∨ k = 3 := by omega
  rcases this with rfl | rfl | rfl | rfl <;> simp [IntKind.bits]
theorem tail_set {body : List UInt8} {n k : Nat} (hb : body.length = 252) (h : k < 4) : (body ++ (List.replicate (4 - k) 0 ++ putN n k)).set (0 + (IntKind.i64.wrap (255 - (k : Int))).toNat * 1) (UInt8.ofNat (n / 256 ^ k)) = body ++ (List.replicate (4 - (k + 1)) 0 ++ putN n (k + 1)) := by
  rw [wrapI64 (by omega), show 0 + (255 - (k : Int)).toNat * 1 = 252 + (3 - k) by omega, List.set_append_right _ _ (by omega), hb, show 252 + (3 - k) - 252 = 3 - k by omega]
  rw [show 4 - k = (3 - k) + 1 by omega, List.replicate_succ', List.append_assoc, List.set_append_right _ _ (by simp), List.length_replicate, Nat.sub_self, List.singleton_append, List.set_cons_zero, putN_cons, show 4 - (k + 1) = 3 - k by omega]

/-- All of a page but its sum. -/
def bodyP (kind : Int) (t : List UInt8) : List UInt8 := UInt8.ofNat kind.toNat :: UInt8.ofNat t.length :: (t ++ List.replicate (250 - t.length) 0)
def sealP (kind : Int) (t : List UInt8) : List UInt8 := bodyP kind t ++ putN (sumP (bodyP kind t)) 4
def pageSeal (kind : Int) (t : List UInt8) : List UInt8 × Int := if kind < 1 ∨ kind > 15 ∨ t.length > 240 then ([], 1) else (sealP kind t, 0)

set_option maxHeartbeats 1000000 in
theorem Seal_does (kind : Int) (t : List UInt8) (ht : t.length < 9223372036854775808) : Does Tryz.prog 136 [.int .i64 kind, .string (str t)] []
    (fun v H => v = .tuple #[.string (str (pageSeal kind t).1), .int .i64 (pageSeal kind t).2] ∧ H = []) := by
  refine does_of Tryz.func136 Tryz.ntmps136 rfl rfl rfl (fun w0 F0 => ?_)
  (repeat' (first | refine g_seq (h := ?_) | refine g_region (h := ?_) | refine l_nil (h := ?_) | refine n_then (h := ?_) | refine l_pures1 (h := ?_) | refine l_guard_yes (h := ?_) | refine l_guard_no (h := ?_) | refine l_store (h := ?_) | (refine l_makeSlice (h := ?_); intro _) | refine l_indexAddr (h := ?_) | refine l_slice (h := ?_) | refine g_skip (h := ?_) | refine g_ret (h := ?_) | refine n_then_ret (h := ?_) | refine g_cond_t (h := ?_) | (refine l_sp (h1 := ?_) (h0 := ?_) <;> intro h) | (refine g_sp (h1 := ?_) (h0 := ?_) <;> intro h)))
  · refine r_ret ?_
    exact ⟨by rw [pageSeal, if_pos (by omega)]; rfl, rfl⟩
  · refine r_ret ?_
    exact ⟨by rw [pageSeal, if_pos (by omega)]; rfl, rfl⟩
  · refine r_ret ?_
    exact ⟨by rw [pageSeal, if_pos (by omega)]; rfl, rfl⟩
  · rename_i b
    have hk : IntKind.u8.wrap kind = ((UInt8.ofNat kind.toNat).toNat : Int) := by rw [wrapU8 (by omega)]; simp; omega
    have hl : IntKind.u8.wrap (t.length : Int) = ((UInt8.ofNat t.length).toNat : Int) := by rw [wrapU8 (by omega)]; simp; omega
    have e0 : (Value.int IntKind.u8 (IntKind.u8.wrap kind) :: Value.int IntKind.u8 (IntKind.u8.wrap t.length) :: List.replicate 254 (Value.int IntKind.u8 0)) = bsV (UInt8.ofNat kind.toNat :: UInt8.ofNat t.length :: List.replicate 254 0) := by
      rw [hk, hl]; unfold bsV; rw [List.map_cons, List.map_cons, List.map_replicate]; rfl
    rw [e0]
    (repeat (first | refine g_seq (h := ?_) | refine g_region (h := ?_) | refine l_nil (h := ?_) | refine n_then (h := ?_) | refine l_pures1 (h := ?_) | refine l_slice (h := ?_) | refine l_copy_str (h := ?_)))
    have e1 : (List.take (0 + Int.toNat 2 * 1) (UInt8.ofNat kind.toNat :: UInt8.ofNat t.length :: List.replicate 254 0) ++ List.take (min t.length (((Int.toNat 256 : Nat) : Int).toNat - Int.toNat 2)) t ++ List.drop (0 + Int.toNat 2 * 1 + min t.length (((Int.toNat 256 : Nat) : Int).toNat - Int.toNat 2)) (UInt8.ofNat kind.toNat :: UInt8.ofNat t.length :: List.replicate 254 0)) = bodyP kind t ++ List.replicate 4 0 := by
      have e2 : min t.length (((Int.toNat 256 : Nat) : Int).toNat - Int.toNat 2) = t.length := by omega
      rw [e2]
      have e3 : 0 + Int.toNat 2 * 1 = 2 := by decide
      rw [e3, List.take_length, Nat.add_comm 2, List.drop_succ_cons, List.drop_succ_cons, List.drop_replicate]
      unfold bodyP
      have e4 : 254 - t.length = (250 - t.length) + 4 := by omega
      rw [e4, ← List.replicate_append_replicate, List.take_succ_cons, List.take_succ_cons, List.take_zero]
      simp only [List.cons_append, List.nil_append, List.append_assoc]
    rw [e1]
    have hbl : (bodyP kind t).length = 252 := by unfold bodyP; simp; omega
    (repeat refine l_str_bs (h := ?_))
    have e5 : List.take (Int.toNat 252 - Int.toNat 0) (List.drop (0 + Int.toNat 0 * 1) (bodyP kind t ++ List.replicate 4 0)) = bodyP kind t := by
      rw [show 0 + Int.toNat 0 * 1 = 0 by decide, List.drop_zero, show Int.toNat 252 - Int.toNat 0 = 252 by decide, ← hbl, List.take_left]
    rw [e5]
    have hlt := sumP_lt (bodyP kind t)
    (repeat (first | refine g_seq (h := ?_) | refine g_region (h := ?_) | refine l_nil (h := ?_) | refine n_then (h := ?_) | refine l_pures1 (h := ?_) | (refine l_at 152 ?_; refine l_call (Sum_does (bodyP kind t) (by omega)) ?_) | refine g_block (h := ?_)))
    obtain ⟨n, hn⟩ : ∃ n, sumP (bodyP kind t) = n := ⟨_, rfl⟩
    rw [hn] at hlt
    rw [hn]
    (refine g_loop (fun k : Nat => [(38, .int .i64 k), (7, .int .u32 n), (6, .slice (some ⟨b, 0, none⟩) 256 256)]) (fun k => [cl b 5 (bsV (bodyP kind t ++ (List.replicate (4 - k) 0 ++ putN n k)))]) (fun k => k ≤ 4) (fun k => 4 - k) (0) ?_ ?_ ?_ ?_; rotate_left; (repeat (first | refine ts_nil | (refine ts_cons rfl ?_ ?_; first | (with_reducible rfl) | rotate_left))); (first | (intro _ i; with_reducible refine i) | rotate_left); rotate_left; (try omega); rotate_right)
    · intro k hk4
      have e6 : IntKind.i64.wrap (255 - (k : Int)) = 255 - k := wrapI64 (by omega)
      have e7 : IntKind.i64.wrap (8 * (k : Int)) = 8 * k := wrapI64 (by omega)
      (repeat' (first | refine g_seq (h := ?_) | refine g_region (h := ?_) | refine l_nil (h := ?_) | refine n_then (h := ?_) | refine l_pures1 (h := ?_) | refine l_store_at (h := ?_) | refine l_indexAddr (h := ?_) | refine l_shr (h := ?_) | refine l_str_bs (h := ?_) | refine g_skip (h := ?_) | refine g_ret (h := ?_) | refine g_block (h := ?_) | refine g_exit (h := ?_) | refine n_then_exit (h := ?_) | refine n_block_hit (h := ?_) | refine n_block (h := ?_) | (refine g_sp (h1 := ?_) (h0 := ?_) <;> intro h)))
      · (refine n_back (k + 1) ?_ ?_ ?_ ?_; rotate_left; rotate_left; (repeat (first | refine ts_nil | (refine ts_cons rfl ?_ ?_; first | (with_reducible rfl) | rotate_left))); (first | (intro _ i; with_reducible refine i) | rotate_left); (try omega); (try omega))
        · rw [wrapI64 (by omega)]; rfl
        · have hk4' : k < 4 := by omega
          have ec : UInt8.ofNat (IntKind.u8.wrap ((n / 256 ^ k : Nat) : Int)).toNat = UInt8.ofNat (n / 256 ^ k) := by
            obtain ⟨q, hq⟩ : ∃ q, n / 256 ^ k = q := ⟨_, rfl⟩
            rw [IntKind.wrap_u8, hq]; apply UInt8.toNat.inj; rw [show ((q : Int) % 256).toNat = q % 256 by omega]; simp
          rw [shr8 hk4', bsV_set (by rw [IntKind.wrap_u8]; omega), ec, tail_set hbl hk4']
          intro _ i; exact i
      · obtain rfl : k = 4 := by omega
        refine r_retk [] ?_
        have e8 : List.take 256 (List.drop 0 (bodyP kind t ++ (List.replicate (4 - 4) 0 ++ putN n 4))) = sealP kind t := by
          rw [List.drop_zero, List.take_of_length_le (by simp [hbl, putN_length]), sealP, hn]; rfl
        rw [e8, pageSeal, if_neg (by omega)]
        exact ⟨rfl, rfl⟩
    all_goals first | rfl | (intro _ i; rw [show List.replicate (4 - 0) (0 : UInt8) ++ putN n 0 = List.replicate 4 0 by simp [putN]]; exact i)

theorem or8 {a c : Nat} (ha : a < 16777216) (hc : c < 256) : bits BinOp.or IntKind.u32 (IntKind.u32.wrap ((a : Int) * 2 ^ min (Int.toNat 8) IntKind.u32.bits)) (IntKind.u32.wrap (c : Int)) = ((a * 256 + c : Nat) : Int) := by
  rw [p8', wrapU32 (n := (a : Int) * 256) (by omega), wrapU32 (n := (c : Int)) (by omega)]
  have e : ((a : Int) * 256) = ((2 ^ 8 * a : Nat) : Int) := by omega
  rw [e, bits_or (by simp [IntKind.bits]; omega) (by simp [IntKind.bits]; omega), ← Nat.two_pow_add_eq_or_of_lt (i := 8) (by omega), wrapU32 (by omega)]
  omega

def pageOpen (b : List UInt8) : Int × List UInt8 × Int :=
  if b.length ≠ 256 then (0, [], 2) else if sumP (b.take 252) ≠ getN (b.drop 252) then (0, [], 15)
  else if pageSeal (byteAt b 0) ((b.drop 2).take (min (b.getD 1 0).toNat 250)) = (b, 0) then (byteAt b 0, (b.drop 2).take (min (b.getD 1 0).toNat 250), 0) else (0, [], 2)
def openV (r : Int × List UInt8 × Int) : Value := .tuple #[.int .i64 r.1, .string (str r.2.1), .int .i64 r.2.2]

set_option maxHeartbeats 1000000 in
theorem Open_does (b : List UInt8) (hb : b.length < 9223372036854775808) : Does Tryz.prog 128 [.string (str b)] [] (fun v H => v = openV (pageOpen b) ∧ H = []) := by
  refine does_of Tryz.func128 Tryz.ntmps128 rfl rfl rfl (fun w0 F0 => ?_)
  (repeat' (first | refine g_seq (h := ?_) | refine g_region (h := ?_) | refine l_nil (h := ?_) | refine n_then (h := ?_) | refine l_pures1 (h := ?_) | refine g_skip (h := ?_) | refine g_ret (h := ?_) | refine n_then_ret (h := ?_) | refine g_block (h := ?_) | (refine g_sp (h1 := ?_) (h0 := ?_) <;> intro h)))
  · refine r_ret ?_
    exact ⟨by rw [pageOpen, if_pos (by omega)]; rfl, rfl⟩
  · (refine g_loop (fun k : Nat => [(13, .int .i64 k), (5, .int .u32 (getN ((b.drop 252).take k))), (4, .int .i64 0), (3, .string { data := #[] }), (2, .int .i64 0), (0, .string (str b))]) (fun k => []) (fun k => k ≤ 4) (fun k => 4 - k) (0) ?_ ?_ ?_ ?_; rotate_left; (repeat (first | refine ts_nil | (refine ts_cons rfl ?_ ?_; first | (with_reducible rfl) | rotate_left))); (first | (intro _ i; with_reducible refine i) | rotate_left); rotate_left; (try omega); rotate_right)
    · intro k hk4
      have e6 : IntKind.i64.wrap (252 + (k : Int)) = 252 + k := wrapI64 (by omega)
      have hd : (b.drop 252).length = 4 := by simp; omega
      (repeat' (first | refine g_seq (h := ?_) | refine g_region (h := ?_) | refine l_nil (h := ?_) | refine n_then (h := ?_) | refine l_pures1 (h := ?_) | refine l_index (h := ?_) | refine l_slice_str (h := ?_) | refine l_shl (h := ?_) | refine g_skip (h := ?_) | refine g_block (h := ?_) | refine g_exit (h := ?_) | refine n_then_exit (h := ?_) | refine n_block_hit (h := ?_) | refine n_block (h := ?_) | (refine g_sp (h1 := ?_) (h0 := ?_) <;> intro h)))
      · (refine n_back (k + 1) ?_ ?_ ?_ ?_; rotate_left; rotate_left; (repeat (first | refine ts_nil | (refine ts_cons rfl ?_ ?_; first | (with_reducible rfl) | rotate_left))); (first | (intro _ i; with_reducible refine i) | rotate_left); (try omega); (try omega))
        · rw [wrapI64 (by omega)]; rfl
        · have hg := getN_lt ((b.drop 252).take k)
          have hp : 256 ^ ((b.drop 252).take k).length ≤ 256 ^ 3 := Nat.pow_le_pow_right (by decide) (by simp; omega)
          have h3 : getN ((b.drop 252).take k) < 16777216 := Nat.lt_of_lt_of_le hg hp
          have hby : byteAt b (IntKind.i64.wrap (252 + (k : Int))) = (((b.drop 252).getD k 0).toNat : Int) := by
            rw [e6]
            unfold byteAt
            rw [show (252 + (k : Int)).toNat = 252 + k by omega]
            simp [List.getD]
          rw [hby, or8 h3 (UInt8.toNat_lt _), getN_take (by omega)]
      · have hcut : cutB b (Int.toNat 0) (Int.toNat 252) = b.take 252 := by
          show (b.drop 0).take (252 - 0) = _
          rw [List.drop_zero]
        have hN : (b.drop 252).take k = b.drop 252 := List.take_of_length_le (by omega)
        rw [hcut, hN]
        (repeat' (first | refine g_seq (h := ?_) | refine g_region (h := ?_) | refine l_nil (h := ?_) | refine n_then (h := ?_) | refine l_pures1 (h := ?_) | (refine l_at 152 ?_; refine l_call (Sum_does (b.take 252) (by simp; omega)) ?_) | refine l_index (h := ?_) | refine g_skip (h := ?_) | refine g_ret (h := ?_) | refine n_then_ret (h := ?_) | (refine g_sp (h1 := ?_) (h0 := ?_) <;> intro h)))
        · refine r_ret ?_
          exact ⟨by rw [pageOpen, if_neg (by omega), if_pos (by omega)]; rfl, rfl⟩
        · obtain ⟨sz, hsz⟩ : ∃ sz, min (b.getD 1 0).toNat 250 = sz := ⟨_, rfl⟩
          have hby1 := byteAt_bd b 1
          have hb1 : byteAt b 1 = ((b.getD 1 0).toNat : Int) := rfl
          have hb0 := byteAt_bd b 0
          have e7 : IntKind.i64.wrap (2 + (bif false then mxI (IntKind.i64.wrap (byteAt b 1)) 250 else mnI (IntKind.i64.wrap (byteAt b 1)) 250)) = ((2 + sz : Nat) : Int) := by
            rw [cond_false, mnI_eq, wrapI64 (n := byteAt b 1) (by omega), wrapI64 (by omega)]
            omega
          have e8 : IntKind.i64.wrap (byteAt b 0) = byteAt b 0 := wrapI64 (by omega)
          have hcut2 : cutB b (Int.toNat 2) (((2 + sz : Nat) : Int).toNat) = (b.drop 2).take sz := by
            show (b.drop 2).take (((2 + sz : Nat) : Int).toNat - 2) = _
            rw [show ((2 + sz : Nat) : Int).toNat - 2 = sz by omega]
          rw [e7]
          (repeat (first | refine g_seq (h := ?_) | refine g_region (h := ?_) | refine l_nil (h := ?_) | refine n_then (h := ?_) | refine l_pures1 (h := ?_) | refine l_index (h := ?_) | refine l_slice_str (h := ?_)))
          rw [hcut2, e8]
          (repeat' (first | refine g_seq (h := ?_) | refine g_region (h := ?_) | refine l_nil (h := ?_) | refine n_then (h := ?_) | refine l_pures1 (h := ?_) | (refine l_at 136 ?_; refine l_call (Seal_does (byteAt b 0) ((b.drop 2).take sz) (by simp; omega)) ?_) | refine l_guard_yes (h := ?_) | refine l_guard_no (h := ?_) | refine l_index (h := ?_) | refine g_skip (h := ?_) | refine g_ret (h := ?_) | refine n_then_ret (h := ?_) | refine g_cond_t (h := ?_) | (refine l_sp (h1 := ?_) (h0 := ?_) <;> intro h) | (refine g_sp (h1 := ?_) (h0 := ?_) <;> intro h)))
          · refine r_ret ?_
            exact ⟨by rw [pageOpen, if_neg (by omega), if_neg (by omega), hsz, if_neg (fun q => absurd (congrArg Prod.snd q) (by assumption))]; rfl, rfl⟩
          · refine r_ret ?_
            exact ⟨by rw [pageOpen, if_neg (by omega), if_neg (by omega), hsz, if_neg (fun q => absurd (congrArg Prod.fst q) (by assumption))]; rfl, rfl⟩
          · refine r_ret ?_
            rename_i hp2 hp1
            have hp : pageSeal (byteAt b 0) ((b.drop 2).take sz) = (b, 0) := Prod.ext (by assumption) (by assumption)
            exact ⟨by rw [e8, pageOpen, if_neg (by omega), if_neg (by omega), hsz, if_pos hp]; rfl, rfl⟩
    all_goals rfl

def pageWrite (D : Dk) (n kind : Int) (t : List UInt8) : Int × Dk := if (pageSeal kind t).2 ≠ 0 then ((pageSeal kind t).2, D) else D.write n (pageSeal kind t).1
theorem pWrite_does (b : Nat) (D : Dk) (n kind : Int) (t : List UInt8) (ht : t.length < 9223372036854775808) : Does Tryz.prog 104 [.pointer (some ⟨b, 0, none⟩), .int .i64 n, .int .i64 kind, .string (str t)] [Disk b D]
    (fun v H => v = .int .i64 (pageWrite D n kind t).1 ∧ H = [Disk b (pageWrite D n kind t).2]) := by
  refine does_of Tryz.func104 Tryz.ntmps104 rfl rfl rfl (fun w0 F0 => ?_)
  (repeat' (first | refine g_seq (h := ?_) | refine g_region (h := ?_) | refine l_nil (h := ?_) | refine n_then (h := ?_) | refine l_pures1 (h := ?_) | (refine l_at 136 ?_; refine l_call (Seal_does kind t ht) ?_) | (refine l_at 137 ?_; refine l_call (Write_does b D n (pageSeal kind t).1) ?_) | refine g_skip (h := ?_) | refine g_ret (h := ?_) | refine n_then_ret (h := ?_) | (refine g_sp (h1 := ?_) (h0 := ?_) <;> intro h)))
  · refine r_ret ?_
    exact ⟨by rw [pageWrite, if_pos (by assumption)]; rfl, by rw [pageWrite, if_pos (by assumption)]⟩
  · refine r_ret ?_
    exact ⟨by rw [pageWrite, if_neg (by omega)]; rfl, by rw [pageWrite, if_neg (by omega)]⟩

def pageRead (D : Dk) (n : Int) : Int × List UInt8 × Int := if (D.read n).2 ≠ 0 then (0, [], (D.read n).2) else pageOpen (D.read n).1
theorem pRead_does (b : Nat) (D : Dk) (n : Int) (hl : (D.read n).1.length < 9223372036854775808) : Does Tryz.prog 92 [.pointer (some ⟨b, 0, none⟩), .int .i64 n] [Disk b D]
    (fun v H => v = openV (pageRead D n) ∧ H = [Disk b D]) := by
  refine does_of Tryz.func92 Tryz.ntmps92 rfl rfl rfl (fun w0 F0 => ?_)
  (repeat' (first | refine g_seq (h := ?_) | refine g_region (h := ?_) | refine l_nil (h := ?_) | refine n_then (h := ?_) | refine l_pures1 (h := ?_) | (refine l_at 127 ?_; refine l_call (Read_does b D n) ?_) | (refine l_at 128 ?_; refine l_call (Open_does (D.read n).1 hl) ?_) | refine g_skip (h := ?_) | refine g_ret (h := ?_) | refine n_then_ret (h := ?_) | (refine g_sp (h1 := ?_) (h0 := ?_) <;> intro h)))
  · refine r_ret ?_
    exact ⟨by rw [pageRead, if_pos (by assumption)]; rfl, rfl⟩
  · refine r_ret ?_
    exact ⟨by rw [pageRead, if_neg (by omega)]; rfl, rfl⟩
end Go.Proofs.YtbdgnjlbmhnipaaGreat
/- Package bits. -/
set_option linter.unusedVariables false
set_option linter.unusedSimpArgs false
namespace Go.Proofs.YtbdgnjlbmhnipaaGreat
open Go.Proofs.YtbdgnjlbmhnipaaGreat.SL

/-- Is a number in a set? -/
def hasB (b : List UInt8) (i : Int) : Bool := decide (0 ≤ i) && (b.getD (i.toNat / 8) 0).toNat.testBit (i.toNat % 8)

theorem bit_of {c m : Nat} (hc : c < 256) (hm : m < 8) : (bits BinOp.and IntKind.u8 (c : Int) (IntKind.u8.wrap (1 * 2 ^ min ((m : Int)).toNat IntKind.u8.bits)) != 0) = c.testBit m := by
  have h2 : 2 ^ m ≤ 2 ^ 7 := Nat.pow_le_pow_right (by decide) (by omega)
  have h3 : 2 ^ m ≤ 128 := h2
  have e : IntKind.u8.wrap (1 * 2 ^ min ((m : Int)).toNat IntKind.u8.bits) = ((2 ^ m : Nat) : Int) := by
    rw [Int.toNat_natCast, show min m IntKind.u8.bits = m by simp [IntKind.bits]; omega, Int.one_mul]
    have : (2 : Int) ^ m = ((2 ^ m : Nat) : Int) := by simp
    rw [this, wrapU8 ⟨Int.natCast_nonneg _, by omega⟩]
  have hle : c &&& 2 ^ m ≤ c := Nat.and_le_left
  rw [e, bits_and (by simpa [IntKind.bits] using hc) (by simp only [IntKind.bits]; omega), wrapU8 (by omega)]
  cases hb : c.testBit m with
  | false =>
    have : c &&& 2 ^ m = 0 := by
      apply Nat.eq_of_testBit_eq
      intro j
      rw [Nat.testBit_and, Nat.testBit_two_pow]
      by_cases hj : m = j
      · subst hj; simp [hb]
      · simp [hj]
    rw [this]; rfl
  | true =>
    have : c &&& 2 ^ m ≠ 0 := fun h => by
      have := congrArg (fun q => q.testBit m) h
      simp [hb] at this
    simp only [bne_iff_ne, ne_eq]
    omega

set_option maxHeartbeats 1000000 in
theorem Has_does (b : List UInt8) (i : Int) (hi : i < 9223372036854775808) (hb : b.length < 9223372036854775808) : Does Tryz.prog 86 [.string (str b), .int .i64 i] [] (fun v H => v = .bool (hasB b i) ∧ H = []) := by
  refine does_of Tryz.func86 Tryz.ntmps86 rfl rfl rfl (fun w0 F0 => ?_)
  have e1 : 0 ≤ i → IntKind.i64.wrap (i.tdiv 8) = ((i.toNat / 8 : Nat) : Int) := fun h => by rw [Int.tdiv_eq_ediv_of_nonneg h, wrapI64 (by omega)]; omega
  have e2 : 0 ≤ i → i.tmod 8 = ((i.toNat % 8 : Nat) : Int) := fun h => by rw [Int.tmod_eq_emod_of_nonneg h]; omega
  (repeat' (first | refine g_seq (h := ?_) | refine g_region (h := ?_) | refine l_nil (h := ?_) | refine n_then (h := ?_) | refine l_pures1 (h := ?_)))
  (refine g_draw [] (h := a_pass2 (h := ?_)))
  rcases (show i < 0 ∨ 0 ≤ i by omega) with hneg | hpos
  · (repeat' (first | refine l_nil (h := ?_) | refine n_then (h := ?_) | refine l_guard_no (h := ?_) | refine g_ret (h := ?_) | refine a_done (h := ?_) | refine a_one (h := ?_) | refine n_any (h := a_pass2 (h := ?_)) | refine a_no (h := ?_) | (refine a_spF (h := ?_); intro h)))
    refine r_ret ?_
    exact ⟨by rw [hasB, decide_eq_false (by omega)]; rfl, rfl⟩
  · have e1 := e1 hpos
    have e2 := e2 hpos
    (repeat' (first | refine l_nil (h := ?_) | refine n_then (h := ?_) | refine l_pures1 (h := ?_) | refine l_guard_yes (h := ?_) | refine l_guard_no (h := ?_) | refine l_shl (h := ?_) | refine g_ret (h := ?_) | refine a_done (h := ?_) | refine a_one (h := ?_) | refine n_any (h := a_pass2 (h := ?_)) | refine a_vg (h := ?_) | refine a_no (h := ?_) | (refine a_spT (h := ?_); intro h) | (refine a_sp (h1 := ?_) (h0 := ?_) <;> intro h)))
    · refine r_ret ?_
      refine ⟨?_, rfl⟩
      rw [e1, e2, hasB, decide_eq_true hpos, Bool.true_and]
      have hb : byteAt b ((i.toNat / 8 : Nat) : Int) = (((b.getD (i.toNat / 8) 0).toNat : Nat) : Int) := by unfold byteAt; rw [Int.toNat_natCast]
      rw [hb, bit_of (UInt8.toNat_lt _) (Nat.mod_lt _ (by decide))]
      rfl
    · refine r_ret ?_
      refine ⟨?_, rfl⟩
      have hge : b.length ≤ i.toNat / 8 := by omega
      rw [hasB, List.getD, List.getElem?_eq_none hge]
      simp [packV]

theorem bit_turn {c m : Nat} (hc : c < 256) (hm : m < 8) : bits BinOp.xor IntKind.u8 (c : Int) (IntKind.u8.wrap (1 * 2 ^ min ((m : Int)).toNat IntKind.u8.bits)) = ((c ^^^ 2 ^ m : Nat) : Int) ∧ c ^^^ 2 ^ m < 256 := by
  have h2 : 2 ^ m ≤ 2 ^ 7 := Nat.pow_le_pow_right (by decide) (by omega)
  have h3 : 2 ^ m ≤ 128 := h2
  have e : IntKind.u8.wrap (1 * 2 ^ min ((m : Int)).toNat IntKind.u8.bits) = ((2 ^ m : Nat) : Int) := by
    rw [Int.toNat_natCast, show min m IntKind.u8.bits = m by simp [IntKind.bits]; omega, Int.one_mul]
    have : (2 : Int) ^ m = ((2 ^ m : Nat) : Int) := by simp
    rw [this, wrapU8 ⟨Int.natCast_nonneg _, by omega⟩]
  have hx : c ^^^ 2 ^ m < 256 := Nat.xor_lt_two_pow (n := 8) (by omega) (by omega)
  refine ⟨?_, hx⟩
  rw [e, bits_xor (by simpa [IntKind.bits] using hc) (by simp only [IntKind.bits]; omega), wrapU8 (by omega)]

/-- A set with a number, or without. -/
def withB (b : List UInt8) (i : Int) (on : Bool) : List UInt8 :=
  if i < 0 ∨ i.toNat / 8 ≥ b.length ∨ hasB b i = on then b else b.set (i.toNat / 8) (UInt8.ofNat ((b.getD (i.toNat / 8) 0).toNat ^^^ 2 ^ (i.toNat % 8)))

set_option maxHeartbeats 1000000 in
theorem With_does (b : List UInt8) (i : Int) (on : Bool) (hi : -9223372036854775808 ≤ i ∧ i < 9223372036854775808) (hb : b.length < 9223372036854775808) : Does Tryz.prog 85 [.string (str b), .int .i64 i, .bool on] [] (fun v H => v = .string (str (withB b i on)) ∧ H = []) := by
  refine does_of Tryz.func85 Tryz.ntmps85 rfl rfl rfl (fun w0 F0 => ?_)
  have e1 : 0 ≤ i → IntKind.i64.wrap (i.tdiv 8) = ((i.toNat / 8 : Nat) : Int) := fun h => by rw [Int.tdiv_eq_ediv_of_nonneg h, wrapI64 (by omega)]; omega
  have e2 : 0 ≤ i → i.tmod 8 = ((i.toNat % 8 : Nat) : Int) := fun h => by rw [Int.tmod_eq_emod_of_nonneg h]; omega
  rcases (show i < 0 ∨ 0 ≤ i by omega) with hneg | hpos
  · (repeat' (first | refine g_seq (h := ?_) | refine g_region (h := ?_) | refine l_nil (h := ?_) | refine n_then (h := ?_) | refine l_pures1 (h := ?_) | refine l_guard_no (h := ?_) | refine g_ret (h := ?_) | refine n_then_ret (h := ?_) | refine g_cond_t (h := ?_) | (refine l_spT (h := ?_); intro h)))
    refine r_ret ?_
    exact ⟨by rw [withB, if_pos (.inl hneg)]; rfl, rfl⟩
  · have e1 := e1 hpos
    have e2 := e2 hpos
    (repeat' (first | refine g_seq (h := ?_) | refine g_region (h := ?_) | refine l_nil (h := ?_) | refine n_then (h := ?_) | refine l_pures1 (h := ?_) | (refine l_at 86 ?_; refine l_call (Has_does b i hi.2 hb) ?_) | refine l_guard_yes (h := ?_) | refine l_guard_no (h := ?_) | (refine l_bytes_of (h := ?_); intro _ _ _) | refine g_skip (h := ?_) | refine g_ret (h := ?_) | refine n_then_ret (h := ?_) | refine g_cond_t (h := ?_) | (refine l_spF (h := ?_); intro h) | (refine l_sp (h1 := ?_) (h0 := ?_) <;> intro h) | (refine g_sp (h1 := ?_) (h0 := ?_) <;> intro h)))
    · refine r_ret ?_
      exact ⟨by rw [withB, if_pos (.inr (.inl (by omega)))]; rfl, rfl⟩
    · refine r_ret ?_
      exact ⟨by rw [withB, if_pos (.inr (.inr (by assumption)))]; rfl, rfl⟩
    · rename_i c hcap
      have hlt : i.toNat / 8 < b.length := by omega
      (refine g_draw [] (h := a_pass2 (h := ?_)))
      (repeat' (first | refine g_seq (h := ?_) | refine g_region (h := ?_) | refine l_nil (h := ?_) | refine n_then (h := ?_) | refine l_pures1 (h := ?_) | refine l_load_at (h := ?_) | refine l_store_at (h := ?_) | refine l_indexAddr (h := ?_) | refine a_done (h := ?_) | refine a_one (h := ?_) | refine n_any (h := a_pass2 (h := ?_)) | refine a_v (h := ?_)))
      have hget : (b ++ List.replicate (c - b.length) 0).getD (0 + ((i.toNat / 8 : Nat) : Int).toNat * 1) 0 = b.getD (i.toNat / 8) 0 := by
        rw [Nat.zero_add, Nat.mul_one, Int.toNat_natCast, List.getD, List.getElem?_append_left hlt]; rfl
      obtain ⟨b1, b2⟩ := bit_turn (c := (b.getD (i.toNat / 8) 0).toNat) (m := i.toNat % 8) (UInt8.toNat_lt _) (Nat.mod_lt _ (by decide))
      obtain ⟨q, hq⟩ : ∃ q, (b.getD (i.toNat / 8) 0).toNat ^^^ 2 ^ (i.toNat % 8) = q := ⟨_, rfl⟩
      rw [hq] at b1 b2
      rw [e1, e2, hget, b1, bsV_set (by omega), Nat.zero_add, Nat.mul_one, Int.toNat_natCast, Int.toNat_natCast, List.set_append_left _ _ hlt]
      have hl2 : (b.set (i.toNat / 8) (UInt8.ofNat ((q : Nat) : Int).toNat)).length = b.length := by simp
      (repeat' (first | refine l_nil (h := ?_) | refine n_then (h := ?_) | refine l_pures1 (h := ?_) | refine l_str_bs (h := ?_) | refine g_ret (h := ?_)))
      refine r_retk [] ?_
      refine ⟨?_, rfl⟩
      rw [withB, if_neg (by simp only [not_or]; exact ⟨by omega, by omega, by assumption⟩), hq, List.drop_zero, ← hl2, List.take_left]
      rfl
end Go.Proofs.YtbdgnjlbmhnipaaGreat
/- Plain facts on sets of numbers as bytes. -/
set_option linter.unusedVariables false
set_option linter.unusedSimpArgs false
namespace Go.Proofs.YtbdgnjlbmhnipaaGreat
open Go.Proofs.YtbdgnjlbmhnipaaGreat.SL

theorem withB_len (b : List UInt8) (i : Int) (on : Bool) : (withB b i on).length = b.length := by
  unfold withB; split <;> simp
theorem hasB_with {b : List UInt8} {i : Int} {on : Bool} (h0 : 0 ≤ i) (h1 : i.toNat / 8 < b.length) (j : Int) : hasB (withB b i on) j = if j = i then on else hasB b j := by
  unfold withB
  by_cases hh : hasB b i = on
  · rw [if_pos (.inr (.inr hh))]
    by_cases hj : j = i
    · subst hj; rw [if_pos rfl, hh]
    · rw [if_neg hj]
  · rw [if_neg (by simp only [not_or]; exact ⟨by omega, by omega, hh⟩)]
    have hx : (b.getD (i.toNat / 8) 0).toNat ^^^ 2 ^ (i.toNat % 8) < 256 := (bit_turn (UInt8.toNat_lt _) (Nat.mod_lt _ (by decide))).2
    have hof : (UInt8.ofNat ((b.getD (i.toNat / 8) 0).toNat ^^^ 2 ^ (i.toNat % 8))).toNat = (b.getD (i.toNat / 8) 0).toNat ^^^ 2 ^ (i.toNat % 8) := by
      simp only [UInt8.toNat_ofNat', Nat.reducePow]; exact Nat.mod_eq_of_lt hx
    by_cases hj0 : 0 ≤ j
    · by_cases hb : j.toNat / 8 = i.toNat / 8
      · have hg : (b.set (i.toNat / 8) (UInt8.ofNat ((b.getD (i.toNat / 8) 0).toNat ^^^ 2 ^ (i.toNat % 8)))).getD (j.toNat / 8) 0 = UInt8.ofNat ((b.getD (i.toNat / 8) 0).toNat ^^^ 2 ^ (i.toNat % 8)) := by
          rw [hb, List.getD, List.getElem?_set_self h1]; rfl
        unfold hasB
        rw [hg, hof, Nat.testBit_xor, Nat.testBit_two_pow, hb]
        unfold hasB at hh
        by_cases hj : j = i
        · subst hj
          rw [if_pos rfl]
          simp only [decide_true, decide_eq_true hj0, Bool.true_and] at hh ⊢
          cases hc : (b.getD (j.toNat / 8) 0).toNat.testBit (j.toNat % 8) <;> cases on <;> simp_all
        · rw [if_neg hj]
          have : ¬ i.toNat % 8 = j.toNat % 8 := by omega
          simp [this]
      · have hg : (b.set (i.toNat / 8) (UInt8.ofNat ((b.getD (i.toNat / 8) 0).toNat ^^^ 2 ^ (i.toNat % 8)))).getD (j.toNat / 8) 0 = b.getD (j.toNat / 8) 0 := by
          rw [List.getD, List.getElem?_set_ne (fun q => hb q.symm)]; rfl
        unfold hasB
        rw [hg, if_neg (fun q => hb (by rw [q]))]
    · unfold hasB
      rw [if_neg (by omega), decide_eq_false hj0]
      simp
end Go.Proofs.YtbdgnjlbmhnipaaGreat
/- Package shadow: its store, and what only looks. -/
set_option linter.unusedVariables false
set_option linter.unusedSimpArgs false
namespace Go.Proofs.YtbdgnjlbmhnipaaGreat
open Go.Proofs.YtbdgnjlbmhnipaaGreat.SL

theorem read_len {D : Dk} {n : Int} (ok : D.ok) : (D.read n).1.length ≤ 256 := by
  rw [Dk.read]
  by_cases h : D.may n = 0
  · rw [if_pos h]
    obtain ⟨_, h2, h3⟩ := Dk.may_0 h
    exact Nat.le_of_eq (getD_all (p := fun x : List UInt8 => x.length = 256) ok.s.1 (by omega))
  · rw [if_neg h]; simp
theorem pRead2_does (b : Nat) (D : Dk) (n : Int) : Does Tryz.prog 92 [.pointer (some ⟨b, 0, none⟩), .int .i64 n] [Disk b D]
    (fun v H => v = .tuple #[.int .i64 (pageRead D n).1, .string (str (pageRead D n).2.1), .int .i64 (pageRead D n).2.2] ∧ H = [Disk b D]) :=
  does_disk fun ok => pRead_does b D n (by have := read_len (n := n) ok; omega)

/-- Numbers that are in a set, as a map has them. -/
def tt (l : List Int) : List (Int × Bool) := l.map fun i => (i, true)
theorem tt_get : ∀ {l : List Int} {n : Int}, (kvGet (tt l) n).getD false = decide (n ∈ l)
  | [], n => by simp [tt, kvGet]
  | i :: l, n => by
    have := tt_get (l := l) (n := n)
    simp only [tt, List.map_cons, kvGet] at this ⊢
    by_cases q : i = n
    · subst q; simp
    · rw [if_neg q, this]; simp [show ¬ n = i from fun e => q e.symm]
theorem tt_put : ∀ {l : List Int} {n : Int}, n ∉ l → kvPut (tt l) n true = tt (l ++ [n])
  | [], n, _ => rfl
  | i :: l, n, h => by
    simp only [List.mem_cons, not_or] at h
    have := tt_put (l := l) (n := n) h.2
    simp only [tt, List.map_cons, List.cons_append, kvPut] at this ⊢
    rw [if_neg (fun e => h.1 e.symm), this]
theorem tt_del : ∀ {l : List Int} {n : Int}, kvDel (tt l) n = tt (l.erase n)
  | [], n => rfl
  | i :: l, n => by
    have := tt_del (l := l) (n := n)
    simp only [tt, List.map_cons, kvDel, List.erase_cons] at this ⊢
    by_cases q : i = n
    · subst q; simp
    · rw [if_neg q, if_neg (by simpa using q), this]; rfl
theorem tt_fst (l : List Int) : (tt l).map Prod.fst = l := by simp [tt, List.map_map, Function.comp_def]

theorem does_swap {f : FuncId} {args : List Value} {A B : SProp} {q : Value → List SProp → Prop} (h : Does Tryz.prog f args [A, B] q) : Does Tryz.prog f args [B, A] q := fun w F s => by
  obtain ⟨F1, F2, a, ⟨F3, F4, b, e, d2, u2⟩, d1, u1⟩ := s
  exact h w F ⟨F3, F1, b, ⟨F1, F4, a, e, fun x h1 h2 => e x h2, fun x => ⟨.inl, fun o => o.elim id (fun q => (e x q).elim)⟩⟩, fun x h1 h2 => d1 x h2 ((u2 x).2 (.inl h1)), fun x => by rw [u1 x, u2 x]; exact ⟨fun o => o.elim .inr (fun o => o.elim .inl (fun q => (e x q).elim)), fun o => o.elim (fun q => .inr (.inl q)) .inl⟩⟩

/-- A store: its head (number, root, used pages), what is fresh, what is given; is it down? -/
structure Sh where
  gen : Int
  root : Int
  used : List UInt8
  fresh : List Int
  given : List Int
  down : Bool

structure Sh.ok (S : Sh) : Prop where
  g : 0 ≤ S.gen ∧ S.gen ≤ 281474976710655
  r : 0 ≤ S.root ∧ S.root < 640
  u : S.used.length = 80
  f : S.fresh.Nodup ∧ ∀ i ∈ S.fresh, 0 ≤ i ∧ i < (640 : Nat)
  v : S.given.Nodup ∧ ∀ i ∈ S.given, 0 ≤ i ∧ i < (640 : Nat)

theorem nodup_room : ∀ (N : Nat) (l : List Int), l.Nodup → (∀ i ∈ l, 0 ≤ i ∧ i < (N : Int)) → l.length ≤ N := by
  intro N
  induction N with
  | zero =>
    intro l _ h
    cases l with
    | nil => exact Nat.le_refl _
    | cons a l => have := h a (by simp); omega
  | succ N ih =>
    intro l hn h
    have := ih (l.erase (N : Int)) (hn.erase _) (fun i hi => by
      have hi2 := h i (List.mem_of_mem_erase hi)
      have : i ≠ (N : Int) := fun q => by
        subst q
        exact (hn.not_mem_erase) hi
      omega)
    have h3 := List.length_erase_le (l := l) (a := (N : Int))
    rw [List.length_erase] at this
    split at this <;> omega

def StoreK (b db : Nat) (S : Sh) (x : Nat × Nat) : List SProp :=
  [cl b 103 [.pointer (some ⟨db, 0, none⟩), .int .i64 S.gen, .int .i64 S.root, .string (str S.used), .map (some x.1), .map (some x.2), .bool S.down], mp x.1 Value.bool (tt S.fresh), mp x.2 Value.bool (tt S.given)]
def StoreP (S : Sh) (_ : Nat × Nat) : Prop := S.ok
def Store (b db : Nat) (S : Sh) : SProp := hid (StoreP S) (StoreK b db S)

theorem sRoot_does (b db : Nat) (S : Sh) : Does Tryz.prog 47 [.pointer (some ⟨b, 0, none⟩)] [Store b db S] (fun v H => v = .int .i64 S.root ∧ H = [Store b db S]) := by
  refine does_of Tryz.func47 Tryz.ntmps47 rfl rfl rfl (fun w0 F0 => ?_)
  refine g_open (A := Store b db S) (h := ?_); (rintro ⟨bf, bg⟩ ok; dsimp only [StoreK, List.cons_append, List.nil_append])
  (repeat (first | refine g_seq (h := ?_) | refine g_region (h := ?_) | refine l_nil (h := ?_) | refine n_then (h := ?_) | refine l_pures1 (h := ?_) | refine l_load (h := ?_) | refine g_ret (h := ?_)))
  (refine n_shut (A := Store b db S) (K := StoreK b db S ((bf, bg))) (hid_shuts ((bf, bg)) ok) (h := ?_) (p := by dsimp only [StoreK]; (try simp only [List.map_nil, List.length_nil, List.length_set, List.length_append, List.length_cons, List.length_singleton, List.map_append, List.map_cons, Nat.zero_add]); exact parts_of))
  refine r_ret ?_
  exact ⟨rfl, rfl⟩
theorem sFresh_does (b db : Nat) (S : Sh) (n : Int) : Does Tryz.prog 121 [.pointer (some ⟨b, 0, none⟩), .int .i64 n] [Store b db S] (fun v H => v = .bool (decide (n ∈ S.fresh)) ∧ H = [Store b db S]) := by
  refine does_of Tryz.func121 Tryz.ntmps121 rfl rfl rfl (fun w0 F0 => ?_)
  refine g_open (A := Store b db S) (h := ?_); (rintro ⟨bf, bg⟩ ok; dsimp only [StoreK, List.cons_append, List.nil_append])
  (repeat (first | refine g_seq (h := ?_) | refine g_region (h := ?_) | refine l_nil (h := ?_) | refine n_then (h := ?_) | refine l_pures1 (h := ?_) | refine l_load (h := ?_) | refine l_lookup _ (h := ?_) | refine g_ret (h := ?_)))
  (refine n_shut (A := Store b db S) (K := StoreK b db S ((bf, bg))) (hid_shuts ((bf, bg)) ok) (h := ?_) (p := by dsimp only [StoreK]; (try simp only [List.map_nil, List.length_nil, List.length_set, List.length_append, List.length_cons, List.length_singleton, List.map_append, List.map_cons, Nat.zero_add]); exact parts_of))
  refine r_ret ?_
  exact ⟨by rw [tt_get]; rfl, rfl⟩
/-- The cells of a store. -/
theorem sSize_does (b db : Nat) (c1 c2 c3 c4 c5 c6 : Value) (D : Dk) : Does Tryz.prog 56 [.pointer (some ⟨b, 0, none⟩)] [cl b 103 [.pointer (some ⟨db, 0, none⟩), c1, c2, c3, c4, c5, c6], Disk db D] (fun v H => v = .int .i64 D.now.length ∧ H = [cl b 103 [.pointer (some ⟨db, 0, none⟩), c1, c2, c3, c4, c5, c6], Disk db D]) := by
  refine does_of Tryz.func56 Tryz.ntmps56 rfl rfl rfl (fun w0 F0 => ?_)
  (repeat (first | refine g_seq (h := ?_) | refine g_region (h := ?_) | refine l_nil (h := ?_) | refine n_then (h := ?_) | refine l_pures1 (h := ?_) | (refine l_at 90 ?_; refine l_call (Size_does db D) ?_) | refine l_load (h := ?_) | refine g_ret (h := ?_)))
  refine r_retk [cl b 103 [.pointer (some ⟨db, 0, none⟩), c1, c2, c3, c4, c5, c6], Disk db D] ?_
  exact ⟨rfl, rfl⟩
theorem sSizeS_does (b db bf bg : Nat) (S : Sh) (D : Dk) : Does Tryz.prog 56 [.pointer (some ⟨b, 0, none⟩)] [cl b 103 [.pointer (some ⟨db, 0, none⟩), .int .i64 S.gen, .int .i64 S.root, .string (str S.used), .map (some bf), .map (some bg), .bool S.down], Disk db D] (fun v H => v = .int .i64 D.now.length ∧ H = [cl b 103 [.pointer (some ⟨db, 0, none⟩), .int .i64 S.gen, .int .i64 S.root, .string (str S.used), .map (some bf), .map (some bg), .bool S.down], Disk db D]) := sSize_does b db _ _ _ _ _ _ D
theorem told_does (b : Nat) (c0 c1 c2 c3 c4 c5 : Value) (d : Bool) (e : Int) : Does Tryz.prog 87 [.pointer (some ⟨b, 0, none⟩), .int .i64 e] [cl b 103 [c0, c1, c2, c3, c4, c5, .bool d]] (fun v H => v = .int .i64 e ∧ H = [cl b 103 [c0, c1, c2, c3, c4, c5, .bool (d || e == 5)]]) := by
  refine does_of Tryz.func87 Tryz.ntmps87 rfl rfl rfl (fun w0 F0 => ?_)
  (repeat' (first | refine g_seq (h := ?_) | refine g_region (h := ?_) | refine l_nil (h := ?_) | refine n_then (h := ?_) | refine l_pures1 (h := ?_) | refine l_guard_yes (h := ?_) | refine l_guard_no (h := ?_) | refine l_load (h := ?_) | refine l_store (h := ?_) | refine g_ret (h := ?_) | (refine l_sp (h1 := ?_) (h0 := ?_) <;> intro h)))
  all_goals
    refine r_ret ?_
  · subst h; exact ⟨rfl, rfl⟩
  · subst h; exact ⟨rfl, rfl⟩
def Sh.roll (S : Sh) : Sh := { S with fresh := [], given := [] }
theorem sRollback_does (b db : Nat) (S : Sh) : Does Tryz.prog 46 [.pointer (some ⟨b, 0, none⟩)] [Store b db S] (fun v H => v = .tuple #[] ∧ H = [Store b db S.roll]) := by
  refine does_of Tryz.func46 Tryz.ntmps46 rfl rfl rfl (fun w0 F0 => ?_)
  refine g_open (A := Store b db S) (h := ?_); (rintro ⟨bf, bg⟩ ok; dsimp only [StoreK, List.cons_append, List.nil_append])
  (repeat (first | refine g_region (h := ?_) | refine l_pures1 (h := ?_)))
  (refine l_makeMap (Value.bool) (h := ?_); intro _)
  (refine l_makeMap (Value.bool) (h := ?_); intro _)
  (repeat (first | refine l_nil (h := ?_) | refine l_pures1 (h := ?_) | refine l_store (h := ?_)))
  rename_i b1 b2
  (refine n_shut (A := Store b db S.roll) (K := StoreK b db S.roll ((b1, b2))) (hid_shuts ((b1, b2)) ⟨ok.g, ok.r, ok.u, ⟨by simp [Sh.roll], by simp [Sh.roll]⟩, ⟨by simp [Sh.roll], by simp [Sh.roll]⟩⟩) (h := ?_) (p := by dsimp only [StoreK]; (try simp only [List.map_nil, List.length_nil, List.length_set, List.length_append, List.length_cons, List.length_singleton, List.map_append, List.map_cons, Nat.zero_add, Sh.roll, tt]); exact parts_of))
  refine r_endk [Store b db S.roll] ?_
  exact ⟨rfl, rfl⟩

/-- Is a number neither used nor fresh? -/
def Sh.free (S : Sh) (i : Nat) : Bool := !hasB S.used i && !decide ((i : Int) ∈ S.fresh)
/-- The least free number from one on. -/
def Sh.find (S : Sh) : Nat → Nat → Option Nat
  | 0, _ => none
  | k + 1, n => if S.free n then some n else S.find k (n + 1)
def Sh.take (S : Sh) (D : Dk) : (Int × Int) × Sh :=
  if S.down then ((0, 5), S) else match S.find (D.now.length - 2) 2 with
    | some n => ((n, 0), { S with fresh := S.fresh ++ [(n : Int)] })
    | none => ((0, 4), S)
theorem Sh.take_ok {S : Sh} {n : Nat} (ok : S.ok) (h : S.free n = true) (hn : n < 640) : Sh.ok { S with fresh := S.fresh ++ [(n : Int)] } := by
  refine ⟨ok.g, ok.r, ok.u, ⟨?_, ?_⟩, ok.v⟩
  · have hm : ¬ ((n : Int) ∈ S.fresh) := by
      intro q; simp [Sh.free, q] at h
    exact List.nodup_append.2 ⟨ok.f.1, by simp, by intro x hx y hy; simp only [List.mem_singleton] at hy; subst hy; exact fun q => hm (q ▸ hx)⟩
  · intro i hi
    rcases List.mem_append.1 hi with hi | hi
    · exact ok.f.2 i hi
    · simp only [List.mem_singleton] at hi; subst hi; omega

theorem sTake_does (b db : Nat) (S : Sh) (D : Dk) : Does Tryz.prog 112 [.pointer (some ⟨b, 0, none⟩)] [Store b db S, Disk db D] (fun v H => v = .tuple #[.int .i64 (S.take D).1.1, .int .i64 (S.take D).1.2] ∧ H = [Store b db (S.take D).2, Disk db D]) := by
  refine does_swap (does_disk fun dok => does_swap ?_)
  have hD := dok.n
  refine does_of Tryz.func112 Tryz.ntmps112 rfl rfl rfl (fun w0 F0 => ?_)
  refine g_open (A := Store b db S) (h := ?_); (rintro ⟨bf, bg⟩ ok; dsimp only [StoreK, List.cons_append, List.nil_append])
  have hu := ok.u
  (repeat' (first | refine g_seq (h := ?_) | refine g_region (h := ?_) | refine l_nil (h := ?_) | refine n_then (h := ?_) | refine l_pures1 (h := ?_) | refine l_load (h := ?_) | refine g_skip (h := ?_) | refine g_ret (h := ?_) | refine n_then_ret (h := ?_) | refine g_block (h := ?_) | (refine g_sp (h1 := ?_) (h0 := ?_) <;> intro h)))
  · (refine n_shut (A := Store b db S) (K := StoreK b db S ((bf, bg))) (hid_shuts ((bf, bg)) ok) (h := ?_) (p := by dsimp only [StoreK]; (try simp only [List.map_nil, List.length_nil, List.length_set, List.length_append, List.length_cons, List.length_singleton, List.map_append, List.map_cons, Nat.zero_add]); exact parts_of))
    refine r_ret ?_
    exact ⟨by rw [Sh.take, if_pos (by assumption)]; rfl, by rw [Sh.take, if_pos (by assumption)]⟩
  · (refine g_loop (fun j : Nat => [(4, .int .i64 j), (0, .pointer (some ⟨b, 0, none⟩))]) (fun j => [Disk db D, cl b 103 [.pointer (some ⟨db, 0, none⟩), .int .i64 S.gen, .int .i64 S.root, .string (str S.used), .map (some bf), .map (some bg), .bool S.down], mp bf Value.bool (tt S.fresh), mp bg Value.bool (tt S.given)]) (fun j => 2 ≤ j ∧ (j = 2 ∨ j ≤ D.now.length) ∧ S.find (D.now.length - 2) 2 = S.find (D.now.length - j) j) (fun j => D.now.length - j) (2) ?_ ?_ ?_ ?_; rotate_left; (repeat (first | refine ts_nil | (refine ts_cons rfl ?_ ?_; first | (with_reducible rfl) | rotate_left))); (first | (intro _ i; with_reducible refine i) | rotate_left); rotate_left; (try omega); rotate_right)
    · intro j ⟨hj1, hj2, hj3⟩
      (repeat' (first | refine g_seq (h := ?_) | refine g_region (h := ?_) | refine l_nil (h := ?_) | refine n_then (h := ?_) | refine l_pures1 (h := ?_) | (refine l_at 56 ?_; refine l_call (sSizeS_does b db bf bg S D) ?_) | (refine l_at 86 ?_; refine l_call (Has_does S.used j (by omega) (by omega)) ?_) | refine l_guard_yes (h := ?_) | refine l_guard_no (h := ?_) | refine l_load (h := ?_) | refine l_lookup _ (h := ?_) | refine l_mapUpdate (h := ?_) | refine g_skip (h := ?_) | refine g_ret (h := ?_) | refine n_then_ret (h := ?_) | refine n_block_ret (h := ?_) | refine g_block (h := ?_) | refine g_exit (h := ?_) | refine n_then_exit (h := ?_) | refine n_block_hit (h := ?_) | refine n_block (h := ?_) | refine g_cond_f (h := ?_) | (refine l_sp (h1 := ?_) (h0 := ?_) <;> intro h) | (refine g_sp (h1 := ?_) (h0 := ?_) <;> intro h)))
      · rename_i hs hl hb
        have hf := h
        have hfree : S.free j = true := by
          rw [Sh.free, hb, ← tt_get, hf]; rfl
        have hnm : ¬ ((j : Int) ∈ S.fresh) := by
          rw [tt_get] at hf; simpa using hf
        have ht : S.take D = (((j : Int), 0), { S with fresh := S.fresh ++ [(j : Int)] }) := by
          rw [Sh.take, if_neg (by simp [hs]), hj3, show D.now.length - j = (D.now.length - (j + 1)) + 1 by omega, Sh.find, if_pos hfree]
        rw [tt_put hnm, ht]
        (refine n_shut (A := Store b db { S with fresh := S.fresh ++ [(j : Int)] }) (K := StoreK b db { S with fresh := S.fresh ++ [(j : Int)] } ((bf, bg))) (hid_shuts ((bf, bg)) (Sh.take_ok ok hfree (by omega))) (h := ?_) (p := by dsimp only [StoreK]; (try simp only [List.map_nil, List.length_nil, List.length_set, List.length_append, List.length_cons, List.length_singleton, List.map_append, List.map_cons, Nat.zero_add]); exact parts_of))
        refine r_retk [Store b db { S with fresh := S.fresh ++ [(j : Int)] }, Disk db D] ?_
        exact ⟨rfl, rfl⟩
      · rename_i hs hl hb
        (refine n_back (j + 1) ?_ ?_ ?_ ?_; rotate_left; rotate_left; (repeat (first | refine ts_nil | (refine ts_cons rfl ?_ ?_; first | (with_reducible rfl) | rotate_left))); (first | (intro _ i; with_reducible refine i) | rotate_left); (try omega); (try omega))
        · refine ⟨by omega, by omega, ?_⟩
          rw [hj3, show D.now.length - j = (D.now.length - (j + 1)) + 1 by omega, Sh.find, if_neg]
          rw [tt_get] at h
          simp only [Sh.free, h]; simp
        · omega
        · rw [wrapI64 (by omega)]; rfl
        · (intro _ i; exact inv_keep parts_of i)
      · (refine n_back (j + 1) ?_ ?_ ?_ ?_; rotate_left; rotate_left; (repeat (first | refine ts_nil | (refine ts_cons rfl ?_ ?_; first | (with_reducible rfl) | rotate_left))); (first | (intro _ i; with_reducible refine i) | rotate_left); (try omega); (try omega))
        · refine ⟨by omega, by omega, ?_⟩
          rw [hj3, show D.now.length - j = (D.now.length - (j + 1)) + 1 by omega, Sh.find, if_neg]
          simp only [Sh.free, h]; simp
        · omega
        · rw [wrapI64 (by omega)]; rfl
        · (intro _ i; exact inv_keep parts_of i)
      · rename_i hs
        have ht : S.take D = ((0, 4), S) := by
          rw [Sh.take, if_neg (by simp [hs]), hj3, show D.now.length - j = 0 by omega]; rfl
        rw [ht]
        (refine n_shut (A := Store b db S) (K := StoreK b db S ((bf, bg))) (hid_shuts ((bf, bg)) ok) (h := ?_) (p := by dsimp only [StoreK]; (try simp only [List.map_nil, List.length_nil, List.length_set, List.length_append, List.length_cons, List.length_singleton, List.map_append, List.map_cons, Nat.zero_add]); exact parts_of))
        refine r_ret ?_
        exact ⟨rfl, rfl⟩
    · exact ⟨by omega, by omega, rfl⟩
    · rfl
    · (intro _ i; exact inv_keep parts_of i)
end Go.Proofs.YtbdgnjlbmhnipaaGreat
/- Package shadow: Give, Write, Read, Used. -/
set_option linter.unusedVariables false
set_option linter.unusedSimpArgs false
namespace Go.Proofs.YtbdgnjlbmhnipaaGreat
open Go.Proofs.YtbdgnjlbmhnipaaGreat.SL

theorem hasB_lt {b : List UInt8} {i : Int} (h : hasB b i = true) : 0 ≤ i ∧ i < 8 * b.length := by
  simp only [hasB, Bool.and_eq_true, decide_eq_true_eq] at h
  obtain ⟨h1, h2⟩ := h
  refine ⟨h1, ?_⟩
  by_cases q : i.toNat / 8 < b.length
  · omega
  · rw [List.getD, List.getElem?_eq_none (by omega)] at h2; simp at h2

def Sh.give (S : Sh) (n : Int) : Int × Sh :=
  if S.down then (5, S) else if n ∈ S.fresh then (0, { S with fresh := S.fresh.erase n }) else if hasB S.used n && !decide (n ∈ S.given) then (0, { S with given := S.given ++ [n] }) else (6, S)
theorem Sh.give1_ok {S : Sh} {n : Int} (ok : S.ok) : Sh.ok { S with fresh := S.fresh.erase n } :=
  ⟨ok.g, ok.r, ok.u, ⟨ok.f.1.erase _, fun i hi => ok.f.2 i (List.mem_of_mem_erase hi)⟩, ok.v⟩
theorem Sh.give2_ok {S : Sh} {n : Int} (ok : S.ok) (h : hasB S.used n = true) (hn : n ∉ S.given) : Sh.ok { S with given := S.given ++ [n] } := by
  refine ⟨ok.g, ok.r, ok.u, ok.f, ⟨?_, ?_⟩⟩
  · exact List.nodup_append.2 ⟨ok.v.1, by simp, by intro x hx y hy; simp only [List.mem_singleton] at hy; subst hy; exact fun q => hn (q ▸ hx)⟩
  · intro i hi
    rcases List.mem_append.1 hi with hi | hi
    · exact ok.v.2 i hi
    · simp only [List.mem_singleton] at hi; subst hi
      have := hasB_lt h
      rw [ok.u] at this
      omega

theorem sGive_does (b db : Nat) (S : Sh) (n : Int) (hn : -9223372036854775808 ≤ n ∧ n < 9223372036854775808) : Does Tryz.prog 97 [.pointer (some ⟨b, 0, none⟩), .int .i64 n] [Store b db S] (fun v H => v = .int .i64 (S.give n).1 ∧ H = [Store b db (S.give n).2]) := by
  refine does_of Tryz.func97 Tryz.ntmps97 rfl rfl rfl (fun w0 F0 => ?_)
  refine g_open (A := Store b db S) (h := ?_); (rintro ⟨bf, bg⟩ ok; dsimp only [StoreK, List.cons_append, List.nil_append])
  have hu := ok.u
  (repeat' (first | refine g_seq (h := ?_) | refine g_region (h := ?_) | refine l_nil (h := ?_) | refine n_then (h := ?_) | refine l_pures1 (h := ?_) | (refine l_at 86 ?_; refine l_call (Has_does S.used n (by omega) (by omega)) ?_) | refine l_guard_yes (h := ?_) | refine l_guard_no (h := ?_) | refine l_load (h := ?_) | refine l_lookup _ (h := ?_) | refine l_mapUpdate (h := ?_) | refine l_delete0 (h := ?_) | refine g_ret (h := ?_) | refine n_then_ret (h := ?_) | refine n_block_ret (h := ?_) | refine g_block (h := ?_) | refine n_block (h := ?_) | refine g_cond_f (h := ?_) | (refine l_sp (h1 := ?_) (h0 := ?_) <;> intro h) | (refine g_sp (h1 := ?_) (h0 := ?_) <;> intro h)))
  all_goals try simp only [tt_get, decide_eq_true_eq, decide_eq_false_iff_not] at *
  · (refine n_shut (A := Store b db S) (K := StoreK b db S ((bf, bg))) (hid_shuts ((bf, bg)) ok) (h := ?_) (p := by dsimp only [StoreK]; (try simp only [List.map_nil, List.length_nil, List.length_set, List.length_append, List.length_cons, List.length_singleton, List.map_append, List.map_cons, Nat.zero_add]); exact parts_of))
    refine r_ret ?_
    exact ⟨by rw [Sh.give, if_pos (by assumption)]; rfl, by rw [Sh.give, if_pos (by assumption)]⟩
  · have e : S.give n = (0, { S with fresh := S.fresh.erase n }) := by simp [Sh.give, *]
    rw [tt_del, e]
    (refine n_shut (A := Store b db { S with fresh := S.fresh.erase n }) (K := StoreK b db { S with fresh := S.fresh.erase n } ((bf, bg))) (hid_shuts ((bf, bg)) (Sh.give1_ok ok)) (h := ?_) (p := by dsimp only [StoreK]; (try simp only [List.map_nil, List.length_nil, List.length_set, List.length_append, List.length_cons, List.length_singleton, List.map_append, List.map_cons, Nat.zero_add]); exact parts_of))
    refine r_ret ?_
    exact ⟨rfl, rfl⟩
  · have e : S.give n = (0, { S with given := S.given ++ [n] }) := by simp [Sh.give, *]
    rw [tt_put (by assumption), e]
    (refine n_shut (A := Store b db { S with given := S.given ++ [n] }) (K := StoreK b db { S with given := S.given ++ [n] } ((bf, bg))) (hid_shuts ((bf, bg)) (Sh.give2_ok ok (by assumption) (by assumption))) (h := ?_) (p := by dsimp only [StoreK]; (try simp only [List.map_nil, List.length_nil, List.length_set, List.length_append, List.length_cons, List.length_singleton, List.map_append, List.map_cons, Nat.zero_add]); exact parts_of))
    refine r_ret ?_
    exact ⟨rfl, rfl⟩
  · have e : S.give n = (6, S) := by simp [Sh.give, *]
    rw [e]
    (refine n_shut (A := Store b db S) (K := StoreK b db S ((bf, bg))) (hid_shuts ((bf, bg)) ok) (h := ?_) (p := by dsimp only [StoreK]; (try simp only [List.map_nil, List.length_nil, List.length_set, List.length_append, List.length_cons, List.length_singleton, List.map_append, List.map_cons, Nat.zero_add]); exact parts_of))
    refine r_ret ?_
    exact ⟨rfl, rfl⟩
  · have e : S.give n = (6, S) := by simp [Sh.give, *]
    rw [e]
    (refine n_shut (A := Store b db S) (K := StoreK b db S ((bf, bg))) (hid_shuts ((bf, bg)) ok) (h := ?_) (p := by dsimp only [StoreK]; (try simp only [List.map_nil, List.length_nil, List.length_set, List.length_append, List.length_cons, List.length_singleton, List.map_append, List.map_cons, Nat.zero_add]); exact parts_of))
    refine r_ret ?_
    exact ⟨rfl, rfl⟩

def Sh.told (S : Sh) (e : Int) : Sh := { S with down := S.down || e == 5 }
theorem Sh.told_ok {S : Sh} {e : Int} (ok : S.ok) : (S.told e).ok := ⟨ok.g, ok.r, ok.u, ok.f, ok.v⟩
theorem toldS_does (b db bf bg : Nat) (S : Sh) (e : Int) : Does Tryz.prog 87 [.pointer (some ⟨b, 0, none⟩), .int .i64 e] [cl b 103 [.pointer (some ⟨db, 0, none⟩), .int .i64 S.gen, .int .i64 S.root, .string (str S.used), .map (some bf), .map (some bg), .bool S.down]]
   (fun v H => v = .int .i64 e ∧ H = [cl b 103 [.pointer (some ⟨db, 0, none⟩), .int .i64 S.gen, .int .i64 S.root, .string (str S.used), .map (some bf), .map (some bg), .bool (S.told e).down]]) := told_does b _ _ _ _ _ _ S.down e
def Sh.write (S : Sh) (D : Dk) (n kind : Int) (t : List UInt8) : Int × Sh × Dk :=
  if S.down then (5, S, D) else if n ∈ S.fresh then ((pageWrite D n kind t).1, S.told (pageWrite D n kind t).1, (pageWrite D n kind t).2) else (6, S, D)
theorem sWrite_does (b db : Nat) (S : Sh) (D : Dk) (n kind : Int) (t : List UInt8) (ht : t.length < 9223372036854775808) : Does Tryz.prog 142 [.pointer (some ⟨b, 0, none⟩), .int .i64 n, .int .i64 kind, .string (str t)] [Store b db S, Disk db D]
    (fun v H => v = .int .i64 (S.write D n kind t).1 ∧ H = [Store b db (S.write D n kind t).2.1, Disk db (S.write D n kind t).2.2]) := by
  refine does_of Tryz.func142 Tryz.ntmps142 rfl rfl rfl (fun w0 F0 => ?_)
  refine g_open (A := Store b db S) (h := ?_); (rintro ⟨bf, bg⟩ ok; dsimp only [StoreK, List.cons_append, List.nil_append])
  (repeat' (first | refine g_seq (h := ?_) | refine g_region (h := ?_) | refine l_nil (h := ?_) | refine n_then (h := ?_) | refine l_pures1 (h := ?_) | (refine l_at 104 ?_; refine l_call (pWrite_does db D n kind t ht) ?_) | (refine l_at 87 ?_; refine l_call (toldS_does b db bf bg S (pageWrite D n kind t).1) ?_) | refine l_load (h := ?_) | refine l_lookup _ (h := ?_) | refine g_skip (h := ?_) | refine g_ret (h := ?_) | refine n_then_ret (h := ?_) | refine n_block_ret (h := ?_) | refine g_block (h := ?_) | refine n_block (h := ?_) | (refine g_sp (h1 := ?_) (h0 := ?_) <;> intro h)))
  all_goals try simp only [tt_get, decide_eq_true_eq, decide_eq_false_iff_not] at *
  · (refine n_shut (A := Store b db S) (K := StoreK b db S ((bf, bg))) (hid_shuts ((bf, bg)) ok) (h := ?_) (p := by dsimp only [StoreK]; (try simp only [List.map_nil, List.length_nil, List.length_set, List.length_append, List.length_cons, List.length_singleton, List.map_append, List.map_cons, Nat.zero_add]); exact parts_of))
    refine r_ret ?_
    exact ⟨by rw [Sh.write, if_pos (by assumption)]; rfl, by rw [Sh.write, if_pos (by assumption)]⟩
  · have e : S.write D n kind t = (6, S, D) := by simp [Sh.write, *]
    rw [e]
    (refine n_shut (A := Store b db S) (K := StoreK b db S ((bf, bg))) (hid_shuts ((bf, bg)) ok) (h := ?_) (p := by dsimp only [StoreK]; (try simp only [List.map_nil, List.length_nil, List.length_set, List.length_append, List.length_cons, List.length_singleton, List.map_append, List.map_cons, Nat.zero_add]); exact parts_of))
    refine r_ret ?_
    exact ⟨rfl, rfl⟩
  · have e : S.write D n kind t = ((pageWrite D n kind t).1, S.told (pageWrite D n kind t).1, (pageWrite D n kind t).2) := by simp [Sh.write, *]
    rw [e]
    (refine n_shut (A := Store b db (S.told (pageWrite D n kind t).1)) (K := StoreK b db (S.told (pageWrite D n kind t).1) ((bf, bg))) (hid_shuts ((bf, bg)) (Sh.told_ok ok)) (h := ?_) (p := by dsimp only [StoreK]; (try simp only [List.map_nil, List.length_nil, List.length_set, List.length_append, List.length_cons, List.length_singleton, List.map_append, List.map_cons, Nat.zero_add, Sh.told]); exact parts_of))
    refine r_retk [Store b db (S.told (pageWrite D n kind t).1), Disk db (pageWrite D n kind t).2] ?_
    exact ⟨rfl, rfl⟩

def Sh.read (S : Sh) (D : Dk) (n : Int) : (Int × List UInt8 × Int) × Sh :=
  if S.down then ((0, [], 5), S) else if n < 2 ∨ n ≥ D.now.length then ((0, [], 1), S) else (pageRead D n, S.told (pageRead D n).2.2)
theorem sRead_does (b db : Nat) (S : Sh) (D : Dk) (n : Int) : Does Tryz.prog 143 [.pointer (some ⟨b, 0, none⟩), .int .i64 n] [Store b db S, Disk db D]
    (fun v H => v = .tuple #[.int .i64 (S.read D n).1.1, .string (str (S.read D n).1.2.1), .int .i64 (S.read D n).1.2.2] ∧ H = [Store b db (S.read D n).2, Disk db D]) := by
  refine does_of Tryz.func143 Tryz.ntmps143 rfl rfl rfl (fun w0 F0 => ?_)
  refine g_open (A := Store b db S) (h := ?_); (rintro ⟨bf, bg⟩ ok; dsimp only [StoreK, List.cons_append, List.nil_append])
  (repeat' (first | refine g_seq (h := ?_) | refine g_region (h := ?_) | refine l_nil (h := ?_) | refine n_then (h := ?_) | refine l_pures1 (h := ?_) | (refine l_at 56 ?_; refine l_call (sSizeS_does b db bf bg S D) ?_) | (refine l_at 92 ?_; refine l_call (pRead2_does db D n) ?_) | (refine l_at 87 ?_; refine l_call (toldS_does b db bf bg S (pageRead D n).2.2) ?_) | refine l_guard_yes (h := ?_) | refine l_guard_no (h := ?_) | refine l_load (h := ?_) | refine g_skip (h := ?_) | refine g_ret (h := ?_) | refine n_then_ret (h := ?_) | refine n_block_ret (h := ?_) | refine g_block (h := ?_) | refine n_block (h := ?_) | refine g_cond_t (h := ?_) | (refine l_sp (h1 := ?_) (h0 := ?_) <;> intro h) | (refine g_sp (h1 := ?_) (h0 := ?_) <;> intro h)))
  · (refine n_shut (A := Store b db S) (K := StoreK b db S ((bf, bg))) (hid_shuts ((bf, bg)) ok) (h := ?_) (p := by dsimp only [StoreK]; (try simp only [List.map_nil, List.length_nil, List.length_set, List.length_append, List.length_cons, List.length_singleton, List.map_append, List.map_cons, Nat.zero_add]); exact parts_of))
    refine r_ret ?_
    exact ⟨by rw [Sh.read, if_pos (by assumption)]; rfl, by rw [Sh.read, if_pos (by assumption)]⟩
  · have e : S.read D n = ((0, [], 1), S) := by simp [Sh.read, *]
    rw [e]
    (refine n_shut (A := Store b db S) (K := StoreK b db S ((bf, bg))) (hid_shuts ((bf, bg)) ok) (h := ?_) (p := by dsimp only [StoreK]; (try simp only [List.map_nil, List.length_nil, List.length_set, List.length_append, List.length_cons, List.length_singleton, List.map_append, List.map_cons, Nat.zero_add]); exact parts_of))
    refine r_ret ?_
    exact ⟨rfl, rfl⟩
  · have e : S.read D n = ((0, [], 1), S) := by simp [Sh.read, *]
    rw [e]
    (refine n_shut (A := Store b db S) (K := StoreK b db S ((bf, bg))) (hid_shuts ((bf, bg)) ok) (h := ?_) (p := by dsimp only [StoreK]; (try simp only [List.map_nil, List.length_nil, List.length_set, List.length_append, List.length_cons, List.length_singleton, List.map_append, List.map_cons, Nat.zero_add]); exact parts_of))
    refine r_retk [Store b db S, Disk db D] ?_
    exact ⟨rfl, rfl⟩
  · have e : S.read D n = (pageRead D n, S.told (pageRead D n).2.2) := by simp [Sh.read, *]
    rw [e]
    (refine n_shut (A := Store b db (S.told (pageRead D n).2.2)) (K := StoreK b db (S.told (pageRead D n).2.2) ((bf, bg))) (hid_shuts ((bf, bg)) (Sh.told_ok ok)) (h := ?_) (p := by dsimp only [StoreK]; (try simp only [List.map_nil, List.length_nil, List.length_set, List.length_append, List.length_cons, List.length_singleton, List.map_append, List.map_cons, Nat.zero_add, Sh.told]); exact parts_of))
    refine r_retk [Store b db (S.told (pageRead D n).2.2), Disk db D] ?_
    exact ⟨rfl, rfl⟩

/-- The used pages below one. -/
def usedN (u : List UInt8) (n : Nat) : List Int := ((List.range n).filter fun i : Nat => hasB u (i : Int)).map fun i : Nat => (i : Int)
end Go.Proofs.YtbdgnjlbmhnipaaGreat
/- Package shadow: heads: text, lay, counts, read, over, Mount. -/
set_option linter.unusedVariables false
set_option linter.unusedSimpArgs false
namespace Go.Proofs.YtbdgnjlbmhnipaaGreat
open Go.Proofs.YtbdgnjlbmhnipaaGreat.SL

/-- A head: its number, its root, its used pages. -/
structure Hd where
  gen : Int
  root : Int
  used : List UInt8
def Hd.v (h : Hd) : Value := .agg #[.int .i64 h.gen, .int .i64 h.root, .string (str h.used)]
structure Hd.ok (h : Hd) : Prop where
  g : 0 ≤ h.gen ∧ h.gen ≤ 281474976710655
  r : 0 ≤ h.root ∧ h.root < 65536
  u : h.used.length ≤ 1000
def Hd.text (h : Hd) : List UInt8 := (numPut h.gen.toNat 6).1 ++ (numPut h.root.toNat 2).1 ++ h.used
theorem numPut_len (n : Nat) (size : Int) : (numPut n size).1.length ≤ size.toNat := by
  rw [numPut]
  split
  · simp
  · split
    · rw [putN_length]; exact Nat.le_refl _
    · simp
theorem wrapU64n {n : Int} (h : 0 ≤ n ∧ n ≤ 281474976710655) : IntKind.u64.wrap n = (n.toNat : Int) := by
  rw [wrapU64 (by omega)]; omega
theorem Put2_does (n : Nat) (size : Int) (hn : n < 18446744073709551616) (hs : -9223372036854775808 ≤ size ∧ size < 9223372036854775808) :
    Does Tryz.prog 38 [.int .u64 n, .int .i64 size] [] (fun v H => v = .tuple #[.string (str (numPut n size).1), .int .i64 (numPut n size).2] ∧ H = []) := Put_does n size hn hs
theorem text_does (h : Hd) (ok : h.ok) : Does Tryz.prog 105 [h.v] [] (fun v H => v = .string (str h.text) ∧ H = []) := by
  have hg := ok.g
  have hr := ok.r
  have hu := ok.u
  have e1 := wrapU64n (n := h.gen) hg
  have e2 := wrapU64n (n := h.root) (by omega)
  refine does_of Tryz.func105 Tryz.ntmps105 rfl rfl rfl (fun w0 F0 => ?_)
  (repeat' (first | refine g_seq (h := ?_) | refine g_region (h := ?_) | refine l_nil (h := ?_) | refine n_then (h := ?_) | refine l_pures1 (h := ?_) | refine l_load (h := ?_) | (refine l_box (h := ?_); intro _)))
  rw [e1]
  (repeat' (first | refine g_seq (h := ?_) | refine g_region (h := ?_) | refine l_nil (h := ?_) | refine n_then (h := ?_) | refine l_pures1 (h := ?_) | (refine l_at 38 ?_; refine l_call (Put2_does h.gen.toNat 6 (by omega) (by omega)) ?_) | refine l_load (h := ?_)))
  rw [e2]
  have l1 := numPut_len h.gen.toNat 6
  have l2 := numPut_len h.root.toNat 2
  (repeat' (first | refine g_seq (h := ?_) | refine g_region (h := ?_) | refine l_nil (h := ?_) | refine n_then (h := ?_) | refine l_pures1 (h := ?_) | (refine l_at 38 ?_; refine l_call (Put2_does h.root.toNat 2 (by omega) (by omega)) ?_) | refine l_load (h := ?_) | refine l_concat (h := ?_) | refine g_ret (h := ?_)))
  refine r_retk [] ?_
  exact ⟨rfl, rfl⟩

theorem text2_does (h : Hd) (ok : h.ok) : Does Tryz.prog 105 [.agg #[.int .i64 h.gen, .int .i64 h.root, .string (str h.used)]] [] (fun v H => v = .string (str h.text) ∧ H = []) := text_does h ok
def Hd.lay (h : Hd) (D : Dk) : Int × Dk :=
  if (pageWrite D (h.gen.tmod 2) 1 h.text).1 ≠ 0 then pageWrite D (h.gen.tmod 2) 1 h.text else (pageWrite D (h.gen.tmod 2) 1 h.text).2.sync
theorem Hd.text_len {h : Hd} (ok : h.ok) : h.text.length < 9223372036854775808 := by
  have l1 := numPut_len h.gen.toNat 6
  have l2 := numPut_len h.root.toNat 2
  have := ok.u
  simp only [Hd.text, List.length_append]
  omega
theorem lay_does (q : Hd) (ok : q.ok) (db : Nat) (D : Dk) : Does Tryz.prog 66 [q.v, .pointer (some ⟨db, 0, none⟩)] [Disk db D] (fun v H => v = .int .i64 (q.lay D).1 ∧ H = [Disk db (q.lay D).2]) := by
  have ht := Hd.text_len ok
  refine does_of Tryz.func66 Tryz.ntmps66 rfl rfl rfl (fun w0 F0 => ?_)
  (repeat' (first | refine g_seq (h := ?_) | refine g_region (h := ?_) | refine l_nil (h := ?_) | refine n_then (h := ?_) | refine l_pures1 (h := ?_) | (refine l_box (h := ?_); intro _)))
  (refine g_draw [_] (h := a_pass2 (h := ?_)))
  (repeat' (first | refine g_seq (h := ?_) | refine g_region (h := ?_) | refine l_nil (h := ?_) | refine n_then (h := ?_) | refine l_pures1 (h := ?_) | (refine l_at 105 ?_; refine l_call (text2_does q ok) ?_) | (refine l_at 104 ?_; refine l_call (pWrite_does db D (q.gen.tmod 2) 1 q.text ht) ?_) | (refine l_at 88 ?_; refine l_call (Sync_does db (pageWrite D (q.gen.tmod 2) 1 q.text).2) ?_) | refine g_skip (h := ?_) | refine g_ret (h := ?_) | refine n_then_ret (h := ?_) | refine a_done (h := ?_) | refine a_load (h := a_pass2 (h := ?_)) | refine a_one (h := ?_) | refine n_any (h := a_pass2 (h := ?_)) | (refine g_sp (h1 := ?_) (h0 := ?_) <;> intro h)))
  · have e : q.lay D = pageWrite D (q.gen.tmod 2) 1 q.text := by simp [Hd.lay, *]
    rw [e]
    refine r_retk [Disk db (pageWrite D (q.gen.tmod 2) 1 q.text).2] ?_
    exact ⟨rfl, rfl⟩
  · have e : q.lay D = (pageWrite D (q.gen.tmod 2) 1 q.text).2.sync := by simp [Hd.lay, *]
    rw [e]
    refine r_retk [Disk db (pageWrite D (q.gen.tmod 2) 1 q.text).2.sync.2] ?_
    exact ⟨rfl, rfl⟩

/-- Are the first numbers, that are no pages on a disk of so many sectors, not used? -/
def Hd.clear (h : Hd) (size : Int) (k : Nat) : Bool := (List.range k).all fun i : Nat => !((decide (i < 2) || decide ((i : Int) ≥ size)) && hasB h.used i)
theorem Hd.clear_succ (h : Hd) (size : Int) (k : Nat) : h.clear size (k + 1) = (h.clear size k && !((decide (k < 2) || decide ((k : Int) ≥ size)) && hasB h.used k)) := by
  simp only [Hd.clear, List.range_succ, List.all_append, List.all_cons, List.all_nil, Bool.and_true]
theorem Hd.clear_mono (h : Hd) (size : Int) {j k : Nat} (hjk : j ≤ k) (e : h.clear size j = false) : h.clear size k = false := by
  induction hjk with
  | refl => exact e
  | step _ ih => rw [Hd.clear_succ, ih]; rfl
/-- May a head of sector n count on a disk of so many sectors? -/
def Hd.counts (h : Hd) (size n : Int) : Bool :=
  !(decide (h.gen < 1) || h.gen.tmod 2 != n || (h.root != 0 && !hasB h.used h.root)) && h.clear size 640
set_option maxRecDepth 100000 in
set_option maxHeartbeats 1000000 in
theorem counts_does (q : Hd) (ok : q.ok) (db : Nat) (D : Dk) (n : Int) (hn : 0 ≤ n ∧ n < 2) : Does Tryz.prog 93 [.agg #[.int .i64 q.gen, .int .i64 q.root, .string (str q.used)], .pointer (some ⟨db, 0, none⟩), .int .i64 n] [Disk db D] (fun v H => v = .bool (q.counts D.now.length n) ∧ H = [Disk db D]) := by
  have hu := ok.u
  have hr := ok.r
  refine does_of Tryz.func93 Tryz.ntmps93 rfl rfl rfl (fun w0 F0 => ?_)
  (repeat' (first | refine g_seq (h := ?_) | refine g_region (h := ?_) | refine l_nil (h := ?_) | refine n_then (h := ?_) | refine l_pures1 (h := ?_) | (refine l_at 86 ?_; refine l_call (Has_does q.used q.root (by omega) (by omega)) ?_) | refine l_guard_yes (h := ?_) | refine l_guard_no (h := ?_) | refine l_guard_un (h := ?_) | refine l_load (h := ?_) | (refine l_box (h := ?_); intro _) | refine g_skip (h := ?_) | refine g_ret (h := ?_) | refine n_then_ret (h := ?_) | refine g_block (h := ?_) | refine g_cond_t (h := ?_) | refine g_cond_f (h := ?_) | (refine l_sp (h1 := ?_) (h0 := ?_) <;> intro h) | (refine g_sp (h1 := ?_) (h0 := ?_) <;> intro h)))
  · have e : q.counts D.now.length n = false := by simp [Hd.counts, *]
    rw [e]
    refine r_retk [Disk db D] ?_
    exact ⟨rfl, rfl⟩
  · have e : q.counts D.now.length n = false := by simp [Hd.counts, *]
    rw [e]
    refine r_retk [Disk db D] ?_
    exact ⟨rfl, rfl⟩
  · have e : q.counts D.now.length n = false := by simp [Hd.counts, *]
    rw [e]
    refine r_retk [Disk db D] ?_
    exact ⟨rfl, rfl⟩
  · rename_i bb _ _ _
    have hh : q.counts D.now.length n = q.clear D.now.length 640 := by simp [Hd.counts, *]
    (refine g_loop (fun j : Nat => [(31, .int .i64 j), (3, .pointer (some ⟨bb, 0, none⟩)), (1, .pointer (some ⟨db, 0, none⟩))]) (fun j => [cl bb 100 [.int .i64 q.gen, .int .i64 q.root, .string (str q.used)], Disk db D]) (fun j => j ≤ 640 ∧ q.clear D.now.length j = true) (fun j => 640 - j) (0) ?_ ?_ ?_ ?_; rotate_left; (repeat (first | refine ts_nil | (refine ts_cons rfl ?_ ?_; first | (with_reducible rfl) | rotate_left))); (first | (intro _ i; with_reducible refine i) | rotate_left); rotate_left; (try omega); rotate_right)
    · rintro j ⟨hj, hc⟩
      (repeat' (first | refine g_seq (h := ?_) | refine g_region (h := ?_) | refine l_nil (h := ?_) | refine n_then (h := ?_) | refine l_pures1 (h := ?_) | (refine l_at 90 ?_; refine l_call (Size_does db D) ?_) | (refine l_at 86 ?_; refine l_call (Has_does q.used j (by omega) (by omega)) ?_) | refine l_guard_yes (h := ?_) | refine l_guard_no (h := ?_) | refine l_load (h := ?_) | refine g_skip (h := ?_) | refine g_ret (h := ?_) | refine n_then_ret (h := ?_) | refine n_block_ret (h := ?_) | refine g_block (h := ?_) | refine g_exit (h := ?_) | refine n_then_exit (h := ?_) | refine n_block_hit (h := ?_) | refine n_block (h := ?_) | refine g_cond_f (h := ?_) | (refine l_sp (h1 := ?_) (h0 := ?_) <;> intro h) | (refine g_sp (h1 := ?_) (h0 := ?_) <;> intro h)))
      · have e2 : q.clear D.now.length (j + 1) = false := by rw [Hd.clear_succ, hc, show hasB q.used j = true by assumption]; simp; omega
        have e : q.counts D.now.length n = false := by rw [hh]; exact Hd.clear_mono _ _ (j := j + 1) (by omega) e2
        rw [e]
        refine r_retk [Disk db D] ?_
        exact ⟨rfl, rfl⟩
      · (refine n_back (j + 1) ?_ ?_ ?_ ?_; rotate_left; rotate_left; (repeat (first | refine ts_nil | (refine ts_cons rfl ?_ ?_; first | (with_reducible rfl) | rotate_left))); (first | (intro _ i; with_reducible refine i) | rotate_left); (try omega); (try omega))
        · exact ⟨by omega, by rw [Hd.clear_succ, hc]; first | (simp [*]; done) | (simp [*]; omega)⟩
        · omega
        · rw [wrapI64 (by omega)]; rfl
        all_goals (intro _ i; exact inv_keep parts_of i)
      · have e2 : q.clear D.now.length (j + 1) = false := by rw [Hd.clear_succ, hc, show hasB q.used j = true by assumption]; simp; omega
        have e : q.counts D.now.length n = false := by rw [hh]; exact Hd.clear_mono _ _ (j := j + 1) (by omega) e2
        rw [e]
        refine r_retk [Disk db D] ?_
        exact ⟨rfl, rfl⟩
      · (refine n_back (j + 1) ?_ ?_ ?_ ?_; rotate_left; rotate_left; (repeat (first | refine ts_nil | (refine ts_cons rfl ?_ ?_; first | (with_reducible rfl) | rotate_left))); (first | (intro _ i; with_reducible refine i) | rotate_left); (try omega); (try omega))
        · exact ⟨by omega, by rw [Hd.clear_succ, hc]; first | (simp [*]; done) | (simp [*]; omega)⟩
        · omega
        · rw [wrapI64 (by omega)]; rfl
        all_goals (intro _ i; exact inv_keep parts_of i)
      · (refine n_back (j + 1) ?_ ?_ ?_ ?_; rotate_left; rotate_left; (repeat (first | refine ts_nil | (refine ts_cons rfl ?_ ?_; first | (with_reducible rfl) | rotate_left))); (first | (intro _ i; with_reducible refine i) | rotate_left); (try omega); (try omega))
        · exact ⟨by omega, by rw [Hd.clear_succ, hc]; first | (simp [*]; done) | (simp [*]; omega)⟩
        · omega
        · rw [wrapI64 (by omega)]; rfl
        all_goals (intro _ i; exact inv_keep parts_of i)
      · obtain rfl : j = 640 := by omega
        rw [hh, hc]
        refine r_retk [Disk db D] ?_
        exact ⟨rfl, rfl⟩
    · exact ⟨by omega, rfl⟩
    · rfl
  · rename_i bb _ _
    have hh : q.counts D.now.length n = q.clear D.now.length 640 := by simp [Hd.counts, *]
    (refine g_loop (fun j : Nat => [(31, .int .i64 j), (3, .pointer (some ⟨bb, 0, none⟩)), (1, .pointer (some ⟨db, 0, none⟩))]) (fun j => [cl bb 100 [.int .i64 q.gen, .int .i64 q.root, .string (str q.used)], Disk db D]) (fun j => j ≤ 640 ∧ q.clear D.now.length j = true) (fun j => 640 - j) (0) ?_ ?_ ?_ ?_; rotate_left; (repeat (first | refine ts_nil | (refine ts_cons rfl ?_ ?_; first | (with_reducible rfl) | rotate_left))); (first | (intro _ i; with_reducible refine i) | rotate_left); rotate_left; (try omega); rotate_right)
    · rintro j ⟨hj, hc⟩
      (repeat' (first | refine g_seq (h := ?_) | refine g_region (h := ?_) | refine l_nil (h := ?_) | refine n_then (h := ?_) | refine l_pures1 (h := ?_) | (refine l_at 90 ?_; refine l_call (Size_does db D) ?_) | (refine l_at 86 ?_; refine l_call (Has_does q.used j (by omega) (by omega)) ?_) | refine l_guard_yes (h := ?_) | refine l_guard_no (h := ?_) | refine l_load (h := ?_) | refine g_skip (h := ?_) | refine g_ret (h := ?_) | refine n_then_ret (h := ?_) | refine n_block_ret (h := ?_) | refine g_block (h := ?_) | refine g_exit (h := ?_) | refine n_then_exit (h := ?_) | refine n_block_hit (h := ?_) | refine n_block (h := ?_) | refine g_cond_f (h := ?_) | (refine l_sp (h1 := ?_) (h0 := ?_) <;> intro h) | (refine g_sp (h1 := ?_) (h0 := ?_) <;> intro h)))
      · have e2 : q.clear D.now.length (j + 1) = false := by rw [Hd.clear_succ, hc, show hasB q.used j = true by assumption]; simp; omega
        have e : q.counts D.now.length n = false := by rw [hh]; exact Hd.clear_mono _ _ (j := j + 1) (by omega) e2
        rw [e]
        refine r_retk [Disk db D] ?_
        exact ⟨rfl, rfl⟩
      · (refine n_back (j + 1) ?_ ?_ ?_ ?_; rotate_left; rotate_left; (repeat (first | refine ts_nil | (refine ts_cons rfl ?_ ?_; first | (with_reducible rfl) | rotate_left))); (first | (intro _ i; with_reducible refine i) | rotate_left); (try omega); (try omega))
        · exact ⟨by omega, by rw [Hd.clear_succ, hc]; first | (simp [*]; done) | (simp [*]; omega)⟩
        · omega
        · rw [wrapI64 (by omega)]; rfl
        all_goals (intro _ i; exact inv_keep parts_of i)
      · have e2 : q.clear D.now.length (j + 1) = false := by rw [Hd.clear_succ, hc, show hasB q.used j = true by assumption]; simp; omega
        have e : q.counts D.now.length n = false := by rw [hh]; exact Hd.clear_mono _ _ (j := j + 1) (by omega) e2
        rw [e]
        refine r_retk [Disk db D] ?_
        exact ⟨rfl, rfl⟩
      · (refine n_back (j + 1) ?_ ?_ ?_ ?_; rotate_left; rotate_left; (repeat (first | refine ts_nil | (refine ts_cons rfl ?_ ?_; first | (with_reducible rfl) | rotate_left))); (first | (intro _ i; with_reducible refine i) | rotate_left); (try omega); (try omega))
        · exact ⟨by omega, by rw [Hd.clear_succ, hc]; first | (simp [*]; done) | (simp [*]; omega)⟩
        · omega
        · rw [wrapI64 (by omega)]; rfl
        all_goals (intro _ i; exact inv_keep parts_of i)
      · (refine n_back (j + 1) ?_ ?_ ?_ ?_; rotate_left; rotate_left; (repeat (first | refine ts_nil | (refine ts_cons rfl ?_ ?_; first | (with_reducible rfl) | rotate_left))); (first | (intro _ i; with_reducible refine i) | rotate_left); (try omega); (try omega))
        · exact ⟨by omega, by rw [Hd.clear_succ, hc]; first | (simp [*]; done) | (simp [*]; omega)⟩
        · omega
        · rw [wrapI64 (by omega)]; rfl
        all_goals (intro _ i; exact inv_keep parts_of i)
      · obtain rfl : j = 640 := by omega
        rw [hh, hc]
        refine r_retk [Disk db D] ?_
        exact ⟨rfl, rfl⟩
    · exact ⟨by omega, rfl⟩
    · rfl
end Go.Proofs.YtbdgnjlbmhnipaaGreat

/- Texts TrPc, TrPd, TrPe, TrG, SlP, RefA, RefB, SlQ, TlA, TlB, SlR, TrSa, RcP, SlS, SlT, SpA, RcA, TrSb, TrSc, TrDa, joined. -/
import Derived.Test.YtelfjhemnnbbpaaGreatK07
set_option linter.unusedVariables false
set_option linter.unusedSimpArgs false
set_option maxRecDepth 20000
namespace Go.Proofs.YtelfjhemnnbbpaaGreat
open Go.Proofs.YtelfjhemnnbbpaaGreat.SL
structure PutSt where
 L : List Sp
 xs : Sp
 n : Nd
 rn : Rw
 S : Sh
 D : Dk
def PutI (N : Nat) (U : List Int) (T : List Ent) (S0 : Sh) (D0 : Dk) (y : PutSt) : Prop :=
 ∃ h Lf Rt es ps qs, Hand N U T y.S y.D (y.L.map Sp.spot).reverse y.xs.pg y.n h Lf Rt es ps qs ∧ y.n.size ≤ 340 ∧ y.n.plain ∧ U.length + y.S.fresh.length + 2 * y.L.length + 5 < N ∧ y.L.length < 100 ∧ y.S.gen = S0.gen ∧ Same U S0 D0 y.S y.D
set_option maxHeartbeats 2000000 in
theorem put_loop (b sb db b' b12 b14 x N : Nat) (read : Int) (U : List Int) (T : List Ent) (S0 : Sh) (D0 : Dk) (y0 : PutSt) (h0 : PutI N U T S0 D0 y0) (w0 : World) (F0 : Nat → Prop) :
  G Tryz.prog 147 w0 F0 (nav [1, 1, 1, 1, 1, 1, 1, 1, 2] (bdy Tryz.f77)) (Exit.inBlock 0 (Post Tryz.prog Tryz.f77 w0 F0 (fun v H => ∃ m S' D', v = .tuple #[.int .i64 m, .int .i64 0] ∧ H = [Store sb db S', Disk db D'] ∧ IsTree N S' D' U m T ∧ Fine N S' D' U ∧ S'.gen = S0.gen ∧ Same U S0 D0 S' D')))
   (putT b sb b' b12 b14 x) [] [cl b12 177 y0.xs.c, cl b14 175 (ndA y0.n y0.rn).toList, Stk b' y0.L, NdL y0.L, Nds y0.n y0.rn, Wk b sb read 0, Store sb db y0.S, Disk db y0.D] := by
 obtain ⟨c, hc⟩ : ∃ c, c = nav [1, 1, 1, 1, 1, 1, 1, 1, 2] (bdy Tryz.f77) := ⟨_, rfl⟩
 rw [← hc]
 dsimp only [nav, bdy, Tryz.f77, Option.getD] at hc
 subst hc
 (refine g_loop (fun y : PutSt => putT b sb b' b12 b14 x) (fun y => [cl b12 177 y.xs.c, cl b14 175 (ndA y.n y.rn).toList, Stk b' y.L, NdL y.L, Nds y.n y.rn, Wk b sb read 0, Store sb db y.S, Disk db y.D]) (fun y => PutI N U T S0 D0 y) (fun y => y.L.length) (y0) ?_ ?_ ?_ ?_; rotate_left; (repeat (first | refine ts_nil | (refine ts_cons rfl ?_ ?_; first | (with_reducible rfl) | rotate_left))); (first | (intro _ i; with_reducible refine i) | rotate_left); rotate_left; (try omega); rotate_right)
 ·rintro ⟨L, xs, n, rn, S, D⟩ ⟨h, Lf, Rt, es, ps, qs, k, hz, hpl, room, hL, hg, hr⟩
  dsimp only at k hz hpl room hL hg hr ⊢
  have hf := hpl.fits (by omega)
  refine g_block ?_
  by_cases hn : n.size ≤ 240
  ·have hgood : n.good := ⟨hpl, fun _ => List.length_pos_iff.2 k.some, hn⟩
   obtain ⟨m, S', D', c1, c2, c3, c4, c5, c6, c7, c8, c9, c10⟩ := lay_ok k.fine k.pages (by omega) hgood
   rcases List.eq_nil_or_concat L with rfl | ⟨L', s, rfl⟩
   ·refine g_bang (putTop b sb db b' b12 b14 x read m xs n rn S S' D D' hn hf c1 w0 F0 _ (by with_reducible (repeat (first | refine calm_post | apply calm_then | apply calm_block))) ?_)
    (repeat (first|refine n_then_ret (h:=?_)|refine n_block_ret (h:=?_)))
    refine r_ret ?_
    exact ⟨m, S', D', rfl, rfl, Hand.top k hn c2 c3 c4 c6, c2, c9.trans hg, c10.trans hr⟩
   ·rw [List.concat_eq_append] at *
    rw [List.map_append, List.reverse_append] at k
    obtain ⟨Lf', Rt', es', ps', qs', k', v1, v2, v3⟩ := Hand.up k hn c2 c3 c4 c6
    refine g_inv (fun i => ndl_last (i.take (A := NdL (L' ++ [s])) (by with_reducible (repeat (first | refine Take.here | apply Take.there))))) ?_
    refine g_bang (putUp (NdL L') b sb db b' b12 b14 x read m xs s L' n rn S S' D D' hn hf v2 (by have v5 : s.d.kids.length = s.d.keys.length + 1 := kidsLen v1.p v2; have v4 : s.i ≤ s.d.keys.length := v3; omega) (by simp at hL; omega) c1 w0 F0 _ (by with_reducible (repeat (first | refine calm_post | apply calm_then | apply calm_block))) ?_)
    intro r
    (repeat refine n_block (h:=?_))
    (refine n_back ((⟨L', s, { s.d with kids := s.d.kids.set s.i m }, r, S', D'⟩ : PutSt)) ?_ ?_ ?_ ?_; rotate_left; rotate_left; (repeat (first | refine ts_nil | (refine ts_cons rfl ?_ ?_; first | (with_reducible rfl) | rotate_left))); (first | (intro _ i; with_reducible refine i) | rotate_left); (try omega); (try omega))
    ·have hsz : Nd.size { s.d with kids := s.d.kids.set s.i m } = s.d.size := by simp only [Nd.size, List.length_set]
     have v6 : s.d.size ≤ 240 := v1.size
     simp only [List.length_append, List.length_singleton] at room hL
     exact ⟨h + 1, Lf', Rt', es', ps', qs', k', by show Nd.size _ ≤ 340; rw [hsz]; omega, k'.nt.plain, by show U.length + S'.fresh.length + 2 * L'.length + 5 < N; omega, by show L'.length < 100; omega, c9.trans hg, c10.trans hr⟩
    ·show L'.length < (L' ++ [s]).length
     simp
    ·skip
     (intro _ i; exact inv_keep parts_of i)
  ·have hn : 240 < n.size := by omega
   obtain ⟨a1, a2, a3, a4, a5⟩ := at_spec hpl hn hz
   obtain ⟨e1, p1, e2, p2, md, hmd, n1, n2, _, _, _, _, q1, q2⟩ := split_nt k.nt a2 a3
   have gf : (n.front n.at').good := ⟨n1.plain, fun _ => List.length_pos_iff.2 q1, a4⟩
   have gb : (n.back n.at').good := ⟨n2.plain, fun _ => List.length_pos_iff.2 q2, a5⟩
   obtain ⟨m, S1, D1, c1, c2, c3, c4, c5, c6, c7, c8, c9, c10⟩ := lay_ok k.fine k.pages (by omega) gf
   obtain ⟨m2, S2, D2, f1, f2, f3, f4, f5, f6, f7, f8⟩ := fresh_ok c2 c6 (by omega) gb
   have old : ∀ p ∈ m :: (ps ++ qs), D2.pg p = D1.pg p := fun p hp => by
    have h1 := (Sh.mem_after.1 (c6.mem_iff.1 hp)).1
    exact f4 p (h1.elim (fun q => by have := c2.h.b p q; omega) (fun q => by have := c2.f.2 p q; omega)) h1
   have same : ∀ p ∈ ps ++ qs, D2.pg p = D.pg p := fun p hp => (old p (List.mem_cons_of_mem _ hp)).trans (c4 p hp)
   have g1 : Gd N D2 m (n.front n.at') := c3.keep (old m (by simp))
   rcases List.eq_nil_or_concat L with rfl | ⟨L', s, rfl⟩
   ·have hN := c2.n
    have b1 := c3.1
    have b2 := f3.1
    have hmd' : n.keys.getD n.at' 0 = md := by rw [List.getD, hmd]; rfl
    have hmm : n.keys.getD n.at' 0 < 18446744073709551616 := by rw [hmd']; exact hpl.key md (List.mem_of_getElem? hmd)
    have gT : Nd.good ⟨false, [n.keys.getD n.at' 0], [], [m, m2]⟩ := ⟨⟨List.pairwise_singleton _ _, by intro k hk; simp only [List.mem_singleton] at hk; omega, by simp, by intro i hi; simp only [List.mem_cons, List.not_mem_nil, or_false] at hi; omega, rfl, rfl⟩, by simp, by simp [Nd.size]⟩
    obtain ⟨m3, S3, D3, t1, t2, t3, t4, t5, t6, t7, t8⟩ := fresh_ok f2 f5 (by omega) gT
    have old3 : ∀ p ∈ m2 :: m :: (ps ++ qs), D3.pg p = D2.pg p := fun p hp => by
     have h1 := (Sh.mem_after.1 (f5.mem_iff.1 hp)).1
     exact t4 p (h1.elim (fun q => by have := f2.h.b p q; omega) (fun q => by have := f2.f.2 p q; omega)) h1
    refine g_bang (putSplitTop b sb db b' b12 b14 x read m m2 m3 xs n rn S S1 S2 S3 D D1 D2 D3 hn (by omega) hpl hf a1 c1 f1 t1 w0 F0 _ (by with_reducible (repeat (first | refine calm_post | apply calm_then | apply calm_block))) ?_)
    (repeat (first|refine n_then_ret (h:=?_)|refine n_block_ret (h:=?_)))
    refine r_ret ?_
    exact ⟨m3, S3, D3, rfl, rfl, Hand.splitTop k hn hz t2 (g1.keep (old3 m (by simp))) (f3.keep (old3 m2 (by simp))) t3 (fun p hp => (old3 p (by simp only [List.mem_cons]; exact .inr (.inr hp))).trans (same p hp)) t5, t2, ((t7.trans f7).trans c9).trans hg, ((t8.trans f8).trans c10).trans hr⟩
   ·rw [List.concat_eq_append] at *
    rw [List.map_append, List.reverse_append] at k
    obtain ⟨Lf', Rt', es', ps', qs', k'⟩ := Hand.splitUp k hn hz f2 g1 f3 same f5
    obtain ⟨_, _, _, _, _, _, v0, v1, _⟩ := k.way
    have v2 : s.d.leaf = false := v1.leaf
    have v3 : s.i ≤ s.d.keys.length := v1.ile
    have v4 : s.d.good := v1.good
    have v5 : s.d.kids.length = s.d.keys.length + 1 := kidsLen v4.p v2
    simp only [List.length_append, List.length_singleton] at room hL
    refine g_inv (fun i => ndl_last (i.take (A := NdL (L' ++ [s])) (by with_reducible (repeat (first | refine Take.here | apply Take.there))))) ?_
    refine g_bang (putSplitUp (NdL L') b sb db b' b12 b14 x read m m2 xs s L' n rn S S1 S2 D D1 D2 hn (by omega) hpl hf a1 v4.fits v3 (noVals v4.p v2) v2 (by omega) (by omega) c1 f1 w0 F0 _ (by with_reducible (repeat (first | refine calm_post | apply calm_then | apply calm_block))) ?_)
    intro r
    (repeat refine n_block (h:=?_))
    (refine n_back ((⟨L', s, Nd.hang { s.d with kids := s.d.kids.set s.i m } s.i (n.keys.getD n.at' 0) m2, r, S2, D2⟩ : PutSt)) ?_ ?_ ?_ ?_; rotate_left; rotate_left; (repeat (first | refine ts_nil | (refine ts_cons rfl ?_ ?_; first | (with_reducible rfl) | rotate_left))); (first | (intro _ i; with_reducible refine i) | rotate_left); (try omega); (try omega))
    ·have hsz : Nd.size (Nd.hang { s.d with kids := s.d.kids.set s.i m } s.i (n.keys.getD n.at' 0) m2) ≤ 340 := by
      have v6 := v4.size
      simp only [Nd.size, v2, Bool.false_eq_true, if_false] at v6
      simp only [Nd.size, Nd.hang, laidL, Bool.false_eq_true, if_false, List.length_append, List.length_take, List.length_drop, List.length_singleton, List.length_set]
      omega
     exact ⟨h + 1, Lf', Rt', es', ps', qs', k', hsz, k'.nt.plain, by show U.length + S2.fresh.length + 2 * L'.length + 5 < N; omega, by show L'.length < 100; omega, (f7.trans c9).trans hg, (f8.trans c10).trans hr⟩
    ·show L'.length < (L' ++ [s]).length
     simp
    ·skip
     (intro _ i; exact inv_keep parts_of i)
end Go.Proofs.YtelfjhemnnbbpaaGreat
set_option maxRecDepth 20000
namespace Go.Proofs.YtelfjhemnnbbpaaGreat
open Go.Proofs.YtelfjhemnnbbpaaGreat.SL
set_option maxHeartbeats 2000000 in
theorem put1_does (sb db x N : Nat) (v : List UInt8) (root : Int) (U : List Int) (T : List Ent) (S : Sh) (D : Dk) (l0 : List Spot) (s : Spot) (hg : Goes S D x root (l0 ++ [s])) (hl : l0.length + 1 ≤ 10) (hr : root ≠ 0) (hv : v.length ≤ 40)
  (hI : ∀ (L : List Sp) (t : Sp) r, L.map Sp.spot = l0 → t.spot = s → PutI N U T S D ⟨L, t, s.d.put x v, r, S, D⟩) :
  Does Tryz.prog 77 [.pointer (some ⟨sb, 0, none⟩), .int .i64 root, .int .u64 x, .string (str v)] [Store sb db S, Disk db D]
   (fun u H => ∃ m S' D', u = .tuple #[.int .i64 m, .int .i64 0] ∧ H = [Store sb db S', Disk db D'] ∧ IsTree N S' D' U m T ∧ Fine N S' D' U ∧ S'.gen = S.gen ∧ Same U S D S' D') := by
 obtain ⟨hd, hlf, hi⟩ := hg.last
 have hw := fun b => way_does b sb db x root 0 S D (l0 ++ [s]) hg (by simp; omega) (by simp; omega)
 refine does_of Tryz.func77 Tryz.ntmps77 rfl rfl rfl (fun w0 F0 => ?_)
 (repeat' (first|refine g_seq (h:=?_)|refine g_region (h:=?_)|refine l_nil (h:=?_)|refine n_then (h:=?_)|refine l_pures1 (h:=?_)|(refine l_box (h:=?_); intro _)|refine g_skip (h:=?_)|(refine g_spF (h:=?_); intro h)))
 rename_i b
 refine l_inv (H' := [Wk b sb 0 0, Store sb db S, Disk db D]) (fun i => i) ?_
 (repeat' (first|refine g_seq (h:=?_)|refine g_region (h:=?_)|refine l_nil (h:=?_)|refine n_then (h:=?_)|refine l_pures1 (h:=?_)|(refine l_atc ?_; refine l_call_ (hw b) ?_; rintro _ _ _ ⟨b', L, hL, rfl, rfl⟩ he; cases he)|refine l_load (h:=?_)|refine g_skip (h:=?_)|refine g_cond_f (h:=?_)))
 obtain ⟨L0, t, rfl⟩ : ∃ L0 t, L = L0 ++ [t] := by
  rcases List.eq_nil_or_concat L with rfl | ⟨l, s, rfl⟩
  ·simp at hL
  ·exact ⟨l, s, by simp⟩
 have hL2 : L0.map Sp.spot = l0 ∧ t.spot = s := by
  have := congrArg List.reverse hL
  simp at this
  exact ⟨this.2, this.1⟩
 obtain ⟨hL1, hts⟩ := hL2
 subst hts
 have hlen : L0.length = l0.length := by rw [← hL1]; simp
 have hpop := pop_does b' L0 t (by omega)
 refine l_inv (fun q => ndl_last (q.take (A := NdL (L0 ++ [t])) (by with_reducible (repeat (first | refine Take.here | apply Take.there))))) ?_
 dsimp only [Sp.spot] at hlf
 have hki : t.d.kids = [] := List.length_eq_zero_iff.1 (by have := hd.p.kids; rw [show (Sp.spot t).d.leaf = true from hlf] at this; simpa using this)
 have hP := nPut_does t.d t.r x v hlf hd.fits hd.p.rise hki
 have hlp := fun b12 b14 rp => put_loop b sb db b' b12 b14 x N (0 + ((l0 ++ [t.spot]).length : Int)) U T S D ⟨L0, t, t.d.put x v, rp, S, D⟩ (hI L0 t rp hL1 rfl) w0 F0
 dsimp only [Sp.c] at hlp
 (repeat (first|refine g_seq (h:=?_)|refine g_region (h:=?_)|refine l_nil (h:=?_)|refine n_then (h:=?_)|refine l_pures1 (h:=?_)|(refine l_atc ?_; refine l_call (hpop) ?_)|(refine l_atc ?_; refine l_call_ (hP) ?_; rintro _ _ _ ⟨rp, rfl, rfl⟩ he; cases he)|refine l_load (h:=?_)|refine l_store (h:=?_)|(refine l_alloc (h:=?_); intro _)|refine g_block (h:=?_)))
 exact g_bang (hlp _ _ _)
end Go.Proofs.YtelfjhemnnbbpaaGreat
set_option maxRecDepth 20000
namespace Go.Proofs.YtelfjhemnnbbpaaGreat
open Go.Proofs.YtelfjhemnnbbpaaGreat.SL
theorem high_le {h n : Nat} (k : 2 ^ (h + 1) ≤ n) (hn : n ≤ 700) : h ≤ 8 := by
 apply Decidable.byContradiction
 intro c
 have : 2 ^ 10 ≤ 2 ^ (h + 1) := Nat.pow_le_pow_right (by omega) (by omega)
 omega
theorem Fine.afterLen {N : Nat} {S : Sh} {D : Dk} {U : List Int} (k : Fine N S D U) : (S.after U).length ≤ U.length + S.fresh.length := by
 have := List.length_filter_le (fun i => !decide (i ∈ S.given)) (U ++ S.fresh)
 rw [List.length_append] at this
 exact this
theorem put_tree (sb db x N : Nat) (v : List UInt8) (root : Int) (U : List Int) (T : List Ent) (S : Sh) (D : Dk) (k : Fine N S D U) (ht : IsTree N S D U root T) (hx : x < 18446744073709551616) (hv : v.length ≤ 40) (room : U.length + S.fresh.length + 25 < N) :
  Does Tryz.prog 77 [.pointer (some ⟨sb, 0, none⟩), .int .i64 root, .int .u64 x, .string (str v)] [Store sb db S, Disk db D]
   (fun u H => ∃ m S' D', u = .tuple #[.int .i64 m, .int .i64 0] ∧ H = [Store sb db S', Disk db D'] ∧ IsTree N S' D' U m (putE T x v) ∧ Fine N S' D' U ∧ S'.gen = S.gen ∧ Same U S D S' D') := by
 have hN := k.n
 have hal := k.afterLen
 rcases ht with ⟨rfl, rfl, h0⟩ | ⟨h, ps, o, hp⟩
 ·have hd : Nd.good ⟨true, [x], [v], []⟩ := ⟨⟨List.pairwise_singleton _ _, by simpa using hx, by simpa using hv, by simp, rfl, rfl⟩, by simp, by simp [Nd.size, sumL]; omega⟩
  obtain ⟨m, S', D', c1, c2, c3, c4, c5, c6, c7, c8⟩ := fresh_ok k (rest := []) (by rw [h0]) (by omega) hd
  refine (put0_does sb db x v S S' D D' m hv (fun b r => c1 b sb db 0 r)).mono ?_
  rintro u H ⟨rfl, rfl⟩
  refine ⟨m, S', D', rfl, rfl, .inr ⟨0, [m], ⟨_, [], c3, hd, by simp, ⟨rfl, hd.p, rfl, rfl⟩, rfl⟩, c5⟩, c2, c7, c8⟩
 ·have hh := o.high
  obtain ⟨d, ps1, g, hd, hne, hn, e⟩ := o
  subst e
  have hlen := hp.length_eq
  dsimp only at hh hn
  have h8 := high_le hh (by omega)
  obtain ⟨top, s, L, R, qs, r1, r2, r3, r4, r5, r6, r7, r8, r9, r10, r11⟩ := goes_way k (x := x) hn hd hne g (up := []) (L0 := []) (R0 := []) (ps0 := []) ⟨rfl, rfl, rfl⟩ trivial (fun _ _ => trivial)
  obtain ⟨lt1, lt2⟩ := r3.lt r8
  simp only [List.nil_append, List.append_nil] at r3 r8 r9 r10 r11
  obtain ⟨n1, n2, n3⟩ := put_nt (g := Gd N D) (d := s.d) (es := s.d.ents) (ps := []) ⟨r5, r4.p, rfl, rfl⟩ hx hv
  have hroot : root ≠ 0 := by have := g.1; omega
  refine put1_does sb db x N v root U (putE T x v) S D top s r1 (by omega) hroot hv fun L1 t r hL1 ht => ⟨0, L, R, putE s.d.ents x v, [], qs, ⟨k, ?_, n1, ?_, ?_, ?_, List.length_pos_iff.1 n3⟩, ?_, n1.plain, ?_, ?_, rfl, .refl _ _ _⟩
  ·show Way _ (L1.map Sp.spot).reverse 0 L R qs
   rw [hL1]; exact r3
  ·have e1 : t.pg = s.pg := congrArg Spot.pg ht
   show (t.pg :: qs).Perm (S.after U)
   rw [e1]; exact r11.trans hp
  ·intro e he
   show FitsP (L1.map Sp.spot).reverse e.1
   rw [hL1]
   simp only [putE, List.mem_append, List.mem_cons, List.mem_filter] at he
   rcases he with ⟨he, _⟩ | rfl | ⟨he, _⟩
   ·exact r9 e he
   ·exact r8
   ·exact r9 e he
  ·rw [← r10, putE_mid lt1 lt2]
  ·have := r4.size
   show (s.d.put x v).size ≤ 340
   omega
  all_goals
   have e2 : L1.length = top.length := by rw [← hL1]; simp
  ·show U.length + S.fresh.length + 2 * L1.length + 5 < N
   omega
  ·show L1.length < 100
   omega
end Go.Proofs.YtelfjhemnnbbpaaGreat
set_option maxRecDepth 20000
namespace Go.Proofs.YtelfjhemnnbbpaaGreat
open Go.Proofs.YtelfjhemnnbbpaaGreat.SL
def getE : List Ent → Nat → Option (List UInt8)
 | [], _ => none
 | e :: es, x => if e.1 = x then some e.2 else getE es x
theorem getE_append (a b : List Ent) (x : Nat) : getE (a ++ b) x = (getE a x).or (getE b x) := by
 induction a with
 | nil => simp [getE]
 | cons e a ih =>
  simp only [List.cons_append, getE]
  split
  ·simp
  ·exact ih
theorem getE_none {l : List Ent} {x : Nat} (h : ∀ e ∈ l, e.1 ≠ x) : getE l x = none := by
 induction l with
 | nil => rfl
 | cons e l ih =>
  rw [getE, if_neg (h e (by simp))]; exact ih fun e he => h e (by simp [he])
theorem getE_mid {L e R : List Ent} {x : Nat} (hl : ∀ a ∈ L, a.1 < x) (hr : ∀ a ∈ R, x < a.1) : getE (L ++ (e ++ R)) x = getE e x := by
 rw [getE_append, getE_append, getE_none (fun a ha => by have := hl a ha; omega), getE_none (l := R) (fun a ha => by have := hr a ha; omega)]
 simp
theorem getE_mem {l : List Ent} {x : Nat} {v : List UInt8} (h : getE l x = some v) : (x, v) ∈ l := by
 induction l with
 | nil => simp [getE] at h
 | cons e l ih =>
  rw [getE] at h
  split at h
  ·rename_i q
   simp only [Option.some.injEq] at h
   subst q h
   simp
  ·simp [ih h]
theorem getE_of {l : List Ent} (o : Ord l) {x : Nat} {v : List UInt8} (h : (x, v) ∈ l) : getE l x = some v := by
 induction l with
 | nil => simp at h
 | cons e l ih =>
  obtain ⟨h1, h2⟩ := List.pairwise_cons.1 o
  rw [getE]
  rcases List.mem_cons.1 h with rfl | h
  ·rw [if_pos rfl]
  ·rw [if_neg (by have := h1 _ h; dsimp only at this; omega)]
   exact ih h2 h
theorem posN_cons {k x : Nat} {l : List Nat} : posN (k :: l) x = if k < x then posN l x + 1 else 0 := rfl
theorem getE_zip : ∀ {ks : List Nat} {vs : List (List UInt8)} {x : Nat}, Rise ks → vs.length = ks.length → getE (ks.zip vs) x = if x ∈ ks then some (vs.getD (posN ks x) []) else none
 | [], [], x, _, _ => by simp [getE]
 | k :: ks, v :: vs, x, h, hl => by
  obtain ⟨h1, h2⟩ := List.pairwise_cons.1 h
  have ih := getE_zip (x := x) h2 (by simpa using hl)
  simp only [List.zip_cons_cons, getE, ih, posN_cons]
  by_cases q : k = x
  ·subst q
   simp
  ·rw [if_neg q]
   by_cases m : x ∈ ks
   ·have := h1 x m
    rw [if_pos m, if_pos (List.mem_cons_of_mem _ m), if_pos this, List.getD_cons_succ]
   ·rw [if_neg m, if_neg (by simp only [List.mem_cons, not_or]; exact ⟨fun e => q e.symm, m⟩)]
theorem getE_filter {p : Ent → Bool} {q : Nat → Bool} (h : ∀ e, p e = q e.1) : ∀ {es : List Ent} {y : Nat}, getE (es.filter p) y = if q y then getE es y else none
 | [], y => by simp [getE]
 | e :: es, y => by
  have ih := getE_filter h (es := es) (y := y)
  rw [List.filter_cons, h]
  by_cases a : e.1 = y
  ·subst a
   cases b : q e.1
   ·simp [ih, b]
   ·simp [getE]
  ·split
   ·rw [getE, if_neg a, ih, getE, if_neg a]
   ·rw [ih, getE, if_neg a]
theorem getE_put {es : List Ent} {x y : Nat} {v : List UInt8} : getE (putE es x v) y = if y = x then some v else getE es y := by
 rw [putE, getE_append, getE, getE_filter (q := fun k => decide (k < x)) (fun _ => rfl), getE_filter (q := fun k => decide (x < k)) (fun _ => rfl)]
 by_cases q : y = x
 ·subst q; simp
 ·have q2 : ¬ x = y := fun e => q e.symm
  rw [if_neg q]
  rcases Nat.lt_or_gt_of_ne q with h | h
  ·simp [h, q2, Nat.not_lt_of_gt h]
  ·simp [h, q2, Nat.not_lt_of_gt h]
theorem getE_del {es : List Ent} {x y : Nat} : getE (delE es x) y = if y = x then none else getE es y := by
 rw [delE, getE_filter (q := fun k => !(k == x)) (fun _ => rfl)]
 by_cases q : y = x
 ·subst q; simp
 ·simp [q]
theorem putE_ord {es : List Ent} (o : Ord es) {x : Nat} {v : List UInt8} : Ord (putE es x v) := by
 rw [putE, ord_append]
 refine ⟨o.filter _, List.pairwise_cons.2 ⟨?_, o.filter _⟩, ?_⟩
 ·intro e he
  simpa using (List.mem_filter.1 he).2
 ·intro a ha b hb
  have h1 : a.1 < x := by simpa using (List.mem_filter.1 ha).2
  rcases List.mem_cons.1 hb with rfl | hb
  ·exact h1
  ·have h2 : x < b.1 := by simpa using (List.mem_filter.1 hb).2
   omega
theorem IsTree.ord {N : Nat} {S : Sh} {D : Dk} {U : List Int} {r : Int} {T : List Ent} (h : IsTree N S D U r T) : Ord T := by
 rcases h with ⟨_, rfl, _⟩ | ⟨h, ps, ⟨d', ps', a1, a2, a3, a4, a5⟩, _⟩
 ·exact List.Pairwise.nil
 ·exact a4.ord
def getV (o : Option (List UInt8)) : Value := .tuple #[.string (str (o.getD [])), .bool o.isSome, .int .i64 0]
theorem get0_does (sb x : Nat) : Does Tryz.prog 69 [.pointer (some ⟨sb, 0, none⟩), .int .i64 0, .int .u64 x] [] (fun v H => v = getV none ∧ H = []) := by
 refine does_of Tryz.func69 Tryz.ntmps69 rfl rfl rfl (fun w0 F0 => ?_)
 (repeat' (first|refine g_seq (h:=?_)|refine g_region (h:=?_)|refine l_nil (h:=?_)|refine n_then (h:=?_)|refine l_pures1 (h:=?_)|refine g_ret (h:=?_)|refine n_then_ret (h:=?_)|refine g_cond_t (h:=?_)))
 refine r_ret ?_
 exact ⟨rfl, rfl⟩
theorem tree_way {N : Nat} {S : Sh} {D : Dk} {U : List Int} {root : Int} {T : List Ent} (k : Fine N S D U) {h : Nat} {ps : List Int} (o : OnP (Gd N D) h root ⟨T, ps⟩) (hp : ps.Perm (S.after U)) (x : Nat) :
  ∃ (top : List Spot) (s : Spot) (L R : List Ent) (ps' : List Int), Goes S D x root (top ++ [s]) ∧ top.length = h ∧ h ≤ 8 ∧ Way (Gd N D) top.reverse 0 L R ps' ∧ s.d.good ∧ s.d.leaf = true ∧ s.i = posN s.d.keys x ∧ Gd N D s.pg s.d ∧
   FitsP top.reverse x ∧ (∀ e ∈ s.d.ents, FitsP top.reverse e.1) ∧ L ++ (s.d.ents ++ R) = T ∧ (s.pg :: ps').Perm (S.after U) ∧ root ≠ 0 ∧ getE T x = (if x ∈ s.d.keys then some (s.d.vals.getD s.i []) else none) := by
 have hN := k.n
 have hh := o.high
 obtain ⟨d, ps1, g, hd, hne, hn, e⟩ := o
 subst e
 have hlen := hp.length_eq
 have hal := nodup_sub (A := S.after U) (B := (List.range' 2 (N - 2)).map (fun n : Nat => (n : Int))) k.afterNodup (by
  intro a ha
  have ha2 : 2 ≤ a ∧ a < N := by
   rcases (Sh.mem_after.1 ha).1 with h | h
   ·have := k.h.b a h; omega
   ·have := k.f.2 a h; omega
  exact List.mem_map.2 ⟨a.toNat, List.mem_range'_1.2 (by omega), by omega⟩)
 simp only [List.length_map, List.length_range'] at hal
 dsimp only at hh hn
 have h8 := high_le hh (by omega)
 obtain ⟨top, s, L, R, qs, r1, r2, r3, r4, r5, r6, r7, r8, r9, r10, r11⟩ := goes_way k (x := x) hn hd hne g (up := []) (L0 := []) (R0 := []) (ps0 := []) ⟨rfl, rfl, rfl⟩ trivial (fun _ _ => trivial)
 obtain ⟨lt1, lt2⟩ := r3.lt r8
 simp only [List.nil_append, List.append_nil] at r3 r8 r9 r10 r11
 refine ⟨top, s, L, R, qs, r1, r2, h8, r3, r4, r5, r6, r7, r8, r9, r10, r11.trans hp, by have := g.1; omega, ?_⟩
 rw [← r10, getE_mid lt1 lt2, Nd.ents, getE_zip r4.p.rise (valsLen r4.p r5), r6]
theorem get_tree (sb db x N : Nat) (root : Int) (U : List Int) (T : List Ent) (S : Sh) (D : Dk) (k : Fine N S D U) (ht : IsTree N S D U root T) :
  Does Tryz.prog 69 [.pointer (some ⟨sb, 0, none⟩), .int .i64 root, .int .u64 x] [Store sb db S, Disk db D] (fun v H => v = getV (getE T x) ∧ H = [Store sb db S, Disk db D]) := by
 rcases ht with ⟨rfl, rfl, h0⟩ | ⟨h, ps, o, hp⟩
 ·refine (does_frame (K := [Store sb db S, Disk db D]) (get0_does sb x)).mono ?_
  rintro v H ⟨_, ⟨rfl, rfl⟩, rfl⟩
  exact ⟨rfl, rfl⟩
 ·obtain ⟨top, s, L, R, qs, r1, r2, r8, _, _, _, _, _, _, _, _, _, hr, he⟩ := tree_way k o hp x
  refine (Get_does sb db x root S D top s r1 (by omega) hr).mono ?_
  rintro v H ⟨rfl, rfl⟩
  refine ⟨?_, rfl⟩
  rw [he]
  split <;> rfl
theorem delNo_tree (sb db x N : Nat) (root : Int) (U : List Int) (T : List Ent) (S : Sh) (D : Dk) (k : Fine N S D U) (ht : IsTree N S D U root T) (hx : getE T x = none) :
  Does Tryz.prog 75 [.pointer (some ⟨sb, 0, none⟩), .int .i64 root, .int .u64 x] [Store sb db S, Disk db D] (fun v H => v = .tuple #[.int .i64 root, .bool false, .int .i64 0] ∧ H = [Store sb db S, Disk db D]) := by
 have hG := get_tree sb db x N root U T S D k ht
 rw [hx] at hG
 refine does_of Tryz.func75 Tryz.ntmps75 rfl rfl rfl (fun w0 F0 => ?_)
 (repeat' (first|refine g_seq (h:=?_)|refine g_region (h:=?_)|refine l_nil (h:=?_)|refine n_then (h:=?_)|refine l_pures1 (h:=?_)|(refine l_atc ?_; refine l_call (hG) ?_)|refine g_ret (h:=?_)|refine n_then_ret (h:=?_)|refine n_block_ret (h:=?_)|refine g_block (h:=?_)|refine g_cond_t (h:=?_)|refine g_cond_f (h:=?_)))
 refine r_ret ?_
 exact ⟨rfl, rfl⟩
theorem give_ok {N : Nat} {S : Sh} {D : Dk} {U rest : List Int} {pg : Int} (k : Fine N S D U) (hp : (pg :: rest).Perm (S.after U)) : ∃ S', S.give pg = (0, S') ∧ Fine N S' D U ∧ rest.Perm (S'.after U) ∧ S'.fresh.length ≤ S.fresh.length ∧ S'.gen = S.gen ∧ Same U S D S' D := by
 have hpa : pg ∈ S.after U := hp.mem_iff.1 (by simp)
 obtain ⟨h1, h2⟩ := Sh.mem_after.1 hpa
 by_cases hf : pg ∈ S.fresh
 ·obtain ⟨S1, g1, g2, g3, g4, g5, g6⟩ := k.giveFresh' hf
  refine ⟨S1, g1, g2, ?_, by rw [g3]; exact List.length_erase_le, g5, g6, fun _ _ => rfl⟩
  refine perm_drop hp k.afterNodup g2.afterNodup fun a => ?_
  have hU : pg ∉ U := (k.f.2 pg hf).2.2
  rw [Sh.mem_after, Sh.mem_after, g3, g4, k.f.1.mem_erase_iff]
  constructor
  ·rintro ⟨h | ⟨h, h'⟩, h3⟩
   ·exact ⟨⟨.inl h, h3⟩, fun e => hU (e ▸ h)⟩
   ·exact ⟨⟨.inr h', h3⟩, h⟩
  ·rintro ⟨⟨h | h, h3⟩, h'⟩
   ·exact ⟨.inl h, h3⟩
   ·exact ⟨.inr ⟨h', h⟩, h3⟩
 ·have h1 : pg ∈ U := h1.elim id fun q => absurd q hf
  obtain ⟨S1, g1, g2, g3, g4, g5, g6⟩ := k.giveUsed' h1 h2
  refine ⟨S1, g1, g2, ?_, by rw [g3]; exact Nat.le_refl _, g5, g6, fun _ _ => rfl⟩
  refine perm_drop hp k.afterNodup g2.afterNodup fun a => ?_
  rw [Sh.mem_after, Sh.mem_after, g3, g4]
  simp only [List.mem_append, List.mem_singleton, not_or, and_assoc]
end Go.Proofs.YtelfjhemnnbbpaaGreat
namespace Go.Proofs.YtelfjhemnnbbpaaGreat.SL
section
variable {P : Program} {E : Env} {n : Nat} {w0 : World} {F0 : Nat → Prop} {Q : Exit → Act → World → Prop} {tm : List (Nat × Value)} {D : List Deferred} {H H' : List SProp} {ops rest : List Oper}
variable {ty : TypeId} {pos : String} {after : Array Edge}
theorem l_buildSlice4 {d t e by' : Nat} {x1 x2 x3 x4 : Operand} {v1 v2 v3 v4 z : Value} (k : EnvOk P E := by refine inferInstance) (hd : Nat.blt d n = true := by refine rfl) (hx1 : ev tm x1 = some v1 := by refine rfl) (hx2 : ev tm x2 = some v2 := by refine rfl) (hx3 : ev tm x3 = some v3 := by refine rfl) (hx4 : ev tm x4 = some v4 := by refine rfl) (ht : look E.ty t = some (.slice e) := by refine rfl) (he : look E.inf e = some (z, 1, by') := by refine rfl)
  (hz : cellsV z = some [z] := by refine rfl) (hv1 : cellsV v1 = some [v1] := by refine rfl) (hv2 : cellsV v2 = some [v2] := by refine rfl) (hv3 : cellsV v3 = some [v3] := by refine rfl) (hv4 : cellsV v4 = some [v4] := by refine rfl) (h : ∀ b, L P n w0 F0 ops.toArray rest Q ((d, .slice (some ⟨b, 0, none⟩) 4 4) :: tm) D (cl b e [v1, v2, v3, v4] :: H)) :
  L P n w0 F0 ops.toArray (⟨some d, .buildSlice t 4 #[(0, x1), (1, x2), (2, x3), (3, x4)], ty, pos, after, none⟩ :: rest) Q tm D H := by
 refine .mk fun a w st => ?_
 have ez : z.cells = #[z] := by apply Array.ext'; simpa using (cellsV_spec hz).1
 have e1 : v1.cells = #[v1] := by apply Array.ext'; simpa using (cellsV_spec hv1).1
 have e2 : v2.cells = #[v2] := by apply Array.ext'; simpa using (cellsV_spec hv2).1
 have e3 : v3.cells = #[v3] := by apply Array.ext'; simpa using (cellsV_spec hv3).1
 have e4 : v4.cells = #[v4] := by apply Array.ext'; simpa using (cellsV_spec hv4).1
 refine wpList_value rfl (v := .slice (some ⟨w.heap.size, 0, none⟩) 4 4) (w' := { w with heap := w.heap.push (.cells [v1, v2, v3, v4].toArray e (0, 0)) }) ?_ (h w.heap.size _ _ ⟨st.tm.put hd _, st.defers, st.inv.new_cl _ _⟩)
 obtain ⟨info, hi, hi1, hi2, hi3⟩ := k.info he
 have hfill : Instr.fill (fun i => some (i * info.size, info.size)) ((Array.range (4 * info.size)).map (z.cells[· % z.cells.size]!)) [(0, v1), (1, v2), (2, v3), (3, v4)] = some [v1, v2, v3, v4].toArray := by
  rw [hi2, ez]
  simp [Instr.fill, e1, e2, e3, e4]
  apply Array.ext'
  simp only [Array.toList_setIfInBounds, Array.toList_map, Array.toList_range]
  rfl
 have hr := run_buildSlice w t e 4 #[(0, v1), (1, v2), (2, v3), (3, v4)] [v1, v2, v3, v4].toArray info z (k.under ht) hi hi1 (by omega) (by omega) hfill
 simp only [execOp, Sem.run_bind, List.map_toArray, List.map_cons, List.map_nil, ev_sound st.tm hx1, ev_sound st.tm hx2, ev_sound st.tm hx3, ev_sound st.tm hx4, hr, Result.andThen_ok, Sem.run_pure]
 rfl
theorem l_slice3n {d t e sz by' : Nat} {x y u : Operand} {z : Value} (k : EnvOk P E := by refine inferInstance) (hd : Nat.blt d n = true := by refine rfl) (hx : ev tm x = some (.slice none 0 0) := by refine rfl) (hy : ev tm y = some (.int .i64 0) := by refine rfl) (hu : ev tm u = some (.int .i64 0) := by refine rfl) (ht : look E.ty t = some (.slice e) := by refine rfl) (he : look E.inf e = some (z, sz, by') := by refine rfl)
  (h : L P n w0 F0 ops.toArray rest Q ((d, .slice none 0 0) :: tm) D H) :
  L P n w0 F0 ops.toArray (⟨some d, .slice t x none (some y) (some u), ty, pos, after, none⟩ :: rest) Q tm D H := by
 refine .mk fun a w s => ?_
 refine wpList_value rfl (v := .slice none 0 0) (w' := w) ?_ (h _ _ (s.put hd _))
 simp [execOp, ev_sound s.tm hx, ev_sound s.tm hy, ev_sound s.tm hu, Instr.sliceAt, Instr.slice, Instr.sliceBounds, Instr.sliceBound, asIntOf, Sem.run_bind, run_underlying (k.under ht), Result.andThen, Sem.run_pure, run_size k he]
def deps (o : Oper) : List Nat := (o.after.toList.filter (Region.binds .any)).map (·.on)
def reach (ops : List Oper) : Nat → List Nat → List Nat
 | 0, l => l
 | i + 1, l => bif l.contains i then (match ops[i]? with
  | some o => reach ops i (deps o ++ l)
  | none => reach ops i l) else reach ops i l
def sureB : List Oper → Nat → Bool
 | [], _ => true
 | o :: l, i => (deps o).all (fun j => Nat.blt j i) && (match o.guard with | none => true | some _ => false) && sureB l (i + 1)
def chainB : List Oper → Nat → Bool
 | [], _ => true
 | o :: l, i => (deps o).all (fun j => Nat.blt j i) && (match l with | [] => true | u :: _ => (deps u).contains i) && chainB l (i + 1)
def goB (pre post : List Oper) : Bool :=
 sureB pre 0 && chainB post pre.length && noDf pre && (match post with | [] => false | c :: _ => (List.range pre.length).all (fun i => (reach pre pre.length (deps c)).contains i))
theorem mem_deps {o : Oper} {j : Nat} : j ∈ deps o ↔ ∃ e ∈ o.after, Region.binds .any e = true ∧ e.on = j := by
 simp [deps, and_assoc]
theorem reach_sub {ops : List Oper} {listed : Nat → Prop} (hc : ∀ i o, ops[i]? = some o → listed i → ∀ j ∈ deps o, listed j) : ∀ (k : Nat) (l : List Nat), (∀ x ∈ l, listed x) → ∀ x ∈ reach ops k l, listed x
 | 0, l, h => h
 | k + 1, l, h => by
  unfold reach
  cases hk : l.contains k with
  | false => exact reach_sub hc k l h
  | true =>
   simp only [cond_true]
   split
   ·rename_i o ho
    refine reach_sub hc k _ fun x hx => ?_
    rcases List.mem_append.1 hx with hx | hx
    ·exact hc k o ho (h k (by simpa using hk)) x hx
    ·exact h x hx
   ·exact reach_sub hc k l h
theorem sureB_spec : ∀ {l : List Oper} {i : Nat}, sureB l i = true → ∀ j o, l[j]? = some o → (∀ x ∈ deps o, x < i + j) ∧ o.guard = none
 | [], i, _, j, o, h => by simp at h
 | u :: l, i, hs, j, o, h => by
  simp only [sureB, Bool.and_eq_true, List.all_eq_true, Nat.blt_eq] at hs
  cases j with
  | zero =>
   simp only [List.getElem?_cons_zero, Option.some.injEq] at h
   subst h
   refine ⟨hs.1.1, ?_⟩
   have := hs.1.2
   cases hg : u.guard with
   | none => rfl
   | some _ => rw [hg] at this; simp at this
  | succ j =>
   have := sureB_spec hs.2 j o (by simpa using h)
   refine ⟨fun x hx => ?_, this.2⟩
   have := this.1 x hx
   omega
theorem chainB_spec : ∀ {l : List Oper} {i : Nat}, chainB l i = true → ∀ j o, l[j]? = some o → (∀ x ∈ deps o, x < i + j) ∧ (0 < j → i + j - 1 ∈ deps o)
 | [], i, _, j, o, h => by simp at h
 | u :: l, i, hs, j, o, h => by
  simp only [chainB, Bool.and_eq_true, List.all_eq_true, Nat.blt_eq] at hs
  cases j with
  | zero =>
   simp only [List.getElem?_cons_zero, Option.some.injEq] at h
   subst h
   exact ⟨hs.1.1, fun q => absurd q (by omega)⟩
  | succ j =>
   have := chainB_spec hs.2 j o (by simpa using h)
   refine ⟨fun x hx => by have := this.1 x hx; omega, fun _ => ?_⟩
   cases j with
   | zero =>
    cases l with
    | nil => simp at h
    | cons v l =>
     simp only [List.getElem?_cons_succ, List.getElem?_cons_zero, Option.some.injEq] at h
     subst h
     have := hs.1.2
     simp only [List.contains_eq_mem, decide_eq_true_eq] at this
     simpa using this
   | succ j =>
    have := this.2 (by omega)
    rw [show i + (j + 1 + 1) - 1 = i + 1 + (j + 1) - 1 by omega]
    exact this
theorem any_post {r : Option Nat} {pre : List Oper} {ops : Array Oper} : ∀ {post done : List Oper} {fuel : Nat} {listed : Array Bool} {a : Act} {w : World}, ops.toList = done ++ post → (∀ j o, post[j]? = some o → (∀ x ∈ deps o, x < done.length + j) ∧ (0 < j → done.length + j - 1 ∈ deps o)) → post.length ≤ fuel →
  (∀ i, i < done.length → listed.getD i false = true) → (∀ i, done.length ≤ i → i < ops.size → listed.getD i true = false) → listed.size = ops.size →
  wpListIn (FR r) 0 P ops Q post a w → wpAnyIn (FR r) 0 P .any ops Q fuel listed a w
 | [], done, fuel, listed, a, w, he, hp, hf, hl, hn, hsz, h => by
  have hnil : Region.ready .any ops listed = [] := by
   rw [List.eq_nil_iff_forall_not_mem]
   intro i hi
   obtain ⟨h1, o, h2, _⟩ := mem_ready.1 hi
   have hlt : i < ops.size := (Array.getElem?_eq_some_iff.1 h2).1
   have hs : ops.size = done.length := by have := congrArg List.length he; simpa using this
   have := hl i (by omega)
   simp only [Array.getD_eq_getD_getElem?] at h1 this
   cases hq : listed[i]? with
   | none => rw [hq] at this; simp at this
   | some b => rw [hq] at h1 this; simp only [Option.getD_some] at h1 this; rw [h1] at this; cases this
  cases fuel with
  | zero => exact ⟨hnil, h⟩
  | succ fuel => exact ⟨fun _ => h, fun i hi => by rw [hnil] at hi; cases hi⟩
 | o :: post, done, 0, listed, a, w, he, hp, hf, hl, hn, hsz, h => by simp at hf
 | o :: post, done, fuel + 1, listed, a, w, he, hp, hf, hl, hn, hsz, h => by
  have hs : ops.size = done.length + (post.length + 1) := by have := congrArg List.length he; simpa using this
  have ho : ops[done.length]? = some o := by
   rw [← Array.getElem?_toList, he]; simp
  have hrd : done.length ∈ Region.ready .any ops listed := by
   refine mem_ready.2 ⟨hn _ (Nat.le_refl _) (by omega), o, ho, fun e he hb => ?_⟩
   have := (hp 0 o rfl).1 e.on (mem_deps.2 ⟨e, he, hb, rfl⟩)
   exact hl _ (by omega)
  refine ⟨fun q => (by rw [q] at hrd; cases hrd), fun i hi => ?_⟩
  obtain ⟨h1, oi, h2, h3⟩ := mem_ready.1 hi
  have hi' : i = done.length := by
   have hlt : i < ops.size := (Array.getElem?_eq_some_iff.1 h2).1
   rcases Nat.lt_trichotomy i done.length with q | q | q
   ·have := hl i q
    simp only [Array.getD_eq_getD_getElem?] at h1 this
    cases hq : listed[i]? with
    | none => rw [hq] at this; simp at this
    | some b => rw [hq] at h1 this; simp only [Option.getD_some] at h1 this; rw [h1] at this; cases this
   ·exact q
   ·exfalso
    have h4 : (o :: post)[i - done.length]? = some oi := by
     rw [← Array.getElem?_toList, he, List.getElem?_append_right (by omega)] at h2; exact h2
    have h5 := (hp _ _ h4).2 (by omega)
    obtain ⟨e, he1, he2, he3⟩ := mem_deps.1 h5
    have h6 := h3 e he1 he2
    have h7 := hn e.on (by omega) (by omega)
    simp only [Array.getD_eq_getD_getElem?] at h6 h7
    cases hq : listed[e.on]? with
    | none => rw [hq] at h6; simp at h6
    | some b => rw [hq] at h6 h7; simp only [Option.getD_some] at h6 h7; rw [h6] at h7; cases h7
  subst hi'
  unfold wpOpIn
  simp only [ho]
  have key : ∀ a w, wpListIn (FR r) 0 P ops Q post a w → wpAnyIn (FR r) 0 P .any ops Q fuel (listed.setIfInBounds done.length true) a w := fun a w h => by
   refine any_post (pre := pre) (done := done ++ [o]) (by simpa using he) ?_ (by simp only [List.length_cons] at hf; omega) ?_ ?_ (by simpa using hsz) h
   ·intro j u hu
    have := hp (j + 1) u (by simpa using hu)
    simp only [List.length_append, List.length_singleton]
    refine ⟨fun x hx => by have := this.1 x hx; omega, fun q => ?_⟩
    have := this.2 (by omega)
    rw [show done.length + 1 + j - 1 = done.length + (j + 1) - 1 by omega]
    exact this
   ·intro i hi
    simp only [List.length_append, List.length_singleton] at hi
    by_cases q : i = done.length
    ·subst q
     rw [Array.getD_eq_getD_getElem?, Array.getElem?_setIfInBounds, if_pos rfl, if_pos (by omega)]; rfl
    ·have := hl i (by omega)
     simp only [Array.getD_eq_getD_getElem?] at this ⊢
     rw [Array.getElem?_setIfInBounds_ne (by omega)]; exact this
   ·intro i hi hi2
    simp only [List.length_append, List.length_singleton] at hi
    have := hn i (by omega) hi2
    simp only [Array.getD_eq_getD_getElem?] at this ⊢
    rw [Array.getElem?_setIfInBounds_ne (by omega)]; exact this
  unfold wpListIn at h
  split
  ·rename_i hw
   rw [if_pos hw] at h
   exact Oper.wpIn_mono key h
  ·rename_i hw
   rw [if_neg hw] at h
   exact ⟨h.1, key _ _ h.2⟩
theorem any_pre {r : Option Nat} {pre post : List Oper} {S : World → Prop} (hq : NoOut Q) (hg : goB pre post = true) : ∀ {fuel : Nat} {lp listed : Array Bool} {a : Act} {w : World}, lp.size = pre.length → listed = lp ++ Array.replicate post.length false → (∀ i o, pre[i]? = some o → lp.getD i true = true → ∀ j ∈ deps o, lp.getD j false = true) →
  wpAnyH P .any pre.toArray (Exit.then (fun a w => wpListIn (FR r) 0 P (pre ++ post).toArray Q post a w) Q) S fuel lp a w → wpAnyIn (FR r) 0 P .any (pre ++ post).toArray Q (fuel + post.length) listed a w := by
 simp only [goB, Bool.and_eq_true] at hg
 obtain ⟨⟨⟨g1, g2⟩, g3⟩, g4⟩ := hg
 have k1 := sureB_spec g1
 have k2 := chainB_spec g2
 have hdf : ∀ {l : List Oper} {i : Nat} {o : Oper}, noDf l = true → l[i]? = some o → isDf o.op = false := by
  intro l
  induction l with
  | nil => intro i o _ h; simp at h
  | cons x l ih =>
   obtain ⟨d, op, ty, pos, after, g⟩ := x
   intro i o h1 h2
   simp only [noDf, Bool.and_eq_true, Bool.not_eq_true'] at h1
   cases i with
   | zero => simp only [List.getElem?_cons_zero, Option.some.injEq] at h2; subst h2; exact h1.1
   | succ i => exact ih h1.2 (by simpa using h2)
 intro fuel
 induction fuel with
 | zero =>
  intro lp listed a w hsz hl hc h
  obtain ⟨h1, h2⟩ := h
  have hall : ∀ i, i < pre.length → lp.getD i true = true := by
   intro i
   induction i using Nat.strongRecOn with
   | _ i ih =>
    intro hi
    cases hb : lp.getD i true with
    | true => rfl
    | false =>
     have ho : pre.toArray[i]? = some pre[i] := by simp [hi]
     have : i ∈ Region.ready .any pre.toArray lp := mem_ready.2 ⟨hb, _, ho, fun e he hb2 => by
      have h3 := (k1 i pre[i] (by simp [hi])).1 e.on (mem_deps.2 ⟨e, he, hb2, rfl⟩)
      have h4 := ih e.on (by omega) (by omega)
      have hlt : e.on < lp.size := by omega
      simp [hlt] at h4 ⊢; exact h4⟩
     rw [h1] at this; cases this
  refine any_post (pre := pre) (done := pre) (by simp) k2 (by omega) ?_ ?_ (by rw [hl]; simp [hsz]) h2
  ·intro i hi
   have := hall i hi
   have hlt : i < lp.size := by omega
   rw [hl]
   simp [hlt, Array.getElem?_append] at this ⊢; exact this
  ·intro i hi hi2
   rw [hl]
   simp at hi2
   have h5 : i - pre.length < post.length := by omega
   simp [Array.getElem?_append, hsz, show ¬ i < pre.length by omega, Array.getElem?_replicate, h5]
 | succ fuel ih =>
  intro lp listed a w hsz hl hc h
  obtain ⟨h1, h2⟩ := h
  rw [show fuel + 1 + post.length = (fuel + post.length) + 1 by omega]
  by_cases hall : ∀ i, i < pre.length → lp.getD i true = true
  ·have hnil : Region.ready .any pre.toArray lp = [] := by
    rw [List.eq_nil_iff_forall_not_mem]
    intro i hi
    obtain ⟨h3, o, h4, _⟩ := mem_ready.1 hi
    have hlt : i < pre.length := by simpa using (Array.getElem?_eq_some_iff.1 h4).1
    rw [hall i hlt] at h3; cases h3
   refine any_post (pre := pre) (done := pre) (by simp) k2 (by omega) ?_ ?_ (by rw [hl]; simp [hsz]) (h1 hnil)
   ·intro i hi
    have := hall i hi
    have hlt : i < lp.size := by omega
    rw [hl]
    simp [hlt, Array.getElem?_append] at this ⊢; exact this
   ·intro i hi hi2
    rw [hl]
    simp at hi2
    have h5 : i - pre.length < post.length := by omega
    simp [Array.getElem?_append, hsz, show ¬ i < pre.length by omega, Array.getElem?_replicate, h5]
  ·-- one of the first part may come up, and none of the last
   have hex : ∃ i, i < pre.length ∧ lp.getD i true = false ∧ ∀ j, j < i → lp.getD j true = true := by
    have : ∃ i, i < pre.length ∧ lp.getD i true = false := by
     apply Classical.byContradiction
     intro q
     refine hall fun i hi => ?_
     cases hb : lp.getD i true with
     | true => rfl
     | false => exact absurd ⟨i, hi, hb⟩ q
    obtain ⟨i, hi⟩ := this
    have : ∀ m i, i ≤ m → (i < pre.length ∧ lp.getD i true = false) → ∃ i, i < pre.length ∧ lp.getD i true = false ∧ ∀ j, j < i → lp.getD j true = true := by
     intro m
     induction m with
     | zero =>
      intro i hi h
      exact ⟨i, h.1, h.2, fun j hj => by omega⟩
     | succ m ihm =>
      intro i hi h
      by_cases q : ∀ j, j < i → lp.getD j true = true
      ·exact ⟨i, h.1, h.2, q⟩
      ·obtain ⟨j, hj⟩ := Classical.not_forall.1 q
       obtain ⟨hj1, hj2⟩ := Classical.not_imp.1 hj
       exact ihm j (by omega) ⟨by omega, by simpa using hj2⟩
    exact this i i (Nat.le_refl _) hi
   obtain ⟨i0, hi0, hb0, hlow⟩ := hex
   have hlisted : ∀ i, i < pre.length → ∀ b, listed.getD i b = lp.getD i b := by
    intro i hi b
    have hlt : i < lp.size := by omega
    rw [hl]
    simp [hlt, Array.getElem?_append]
   have hpost : ∀ i, pre.length ≤ i → ∀ b, listed.getD i b = true → b = true := by
    intro i hi b
    rw [hl]
    simp only [Array.getD_eq_getD_getElem?, Array.getElem?_append, hsz, if_neg (show ¬ i < pre.length by omega), Array.getElem?_replicate]
    split <;> simp
   have hr0 : i0 ∈ Region.ready .any (pre ++ post).toArray listed := by
    refine mem_ready.2 ⟨by rw [hlisted i0 hi0]; exact hb0, pre[i0], by simp [List.getElem?_append, hi0], fun e he hb2 => ?_⟩
    have h3 := (k1 i0 pre[i0] (by simp [hi0])).1 e.on (mem_deps.2 ⟨e, he, hb2, rfl⟩)
    have h4 := hlow e.on (by omega)
    rw [hlisted _ (by omega)]
    have hlt : e.on < lp.size := by omega
    simp [hlt] at h4 ⊢; exact h4
   refine ⟨fun q => (by rw [q] at hr0; cases hr0), fun i hi => ?_⟩
   obtain ⟨h3, o, h4, h5⟩ := mem_ready.1 hi
   have hi1 : i < pre.length := by
    apply Classical.byContradiction
    intro q
    have h6 : post[i - pre.length]? = some o := by
     have := h4
     simp only [List.getElem?_toArray, List.getElem?_append_right (show pre.length ≤ i by omega)] at this
     exact this
    have h7 := k2 _ _ h6
    by_cases q0 : i = pre.length
    ·subst q0
     cases post with
     | nil => simp at h6
     | cons c post =>
      simp only [Nat.sub_self, List.getElem?_cons_zero, Option.some.injEq] at h6
      subst h6
      have h8 := reach_sub (ops := pre) (listed := fun j => lp.getD j false = true) (fun i o ho hli j hj => hc i o ho (by
       have hlt : i < pre.length := (List.getElem?_eq_some_iff.1 ho).1
       have hlt2 : i < lp.size := by omega
       simp [hlt2] at hli ⊢; exact hli) j hj) pre.length (deps c) (fun j hj => by
        obtain ⟨e, he1, he2, he3⟩ := mem_deps.1 hj
        have h9 := h5 e he1 he2
        have h10 := h7.1 j hj
        rw [he3] at h9
        rw [hlisted j (by omega)] at h9; exact h9)
      simp only [List.all_eq_true, List.mem_range, List.contains_eq_mem, decide_eq_true_eq] at g4
      have h9 := h8 i0 (g4 i0 hi0)
      have hlt2 : i0 < lp.size := by omega
      simp [hlt2] at h9 hb0
      rw [h9] at hb0; cases hb0
    ·have h8 := h7.2 (by omega)
     obtain ⟨e, he1, he2, he3⟩ := mem_deps.1 h8
     have h9 := h5 e he1 he2
     have := hpost e.on (by omega) false h9
     cases this
   have ho : pre[i]? = some o := by
    have := h4
    simp only [List.getElem?_toArray, List.getElem?_append_left hi1] at this
    exact this
   have hrd : i ∈ Region.ready .any pre.toArray lp := mem_ready.2 ⟨by rw [← hlisted i hi1]; exact h3, o, by simpa using ho, fun e he hb2 => by
    have := h5 e he hb2
    have h6 := (k1 i o ho).1 e.on (mem_deps.2 ⟨e, he, hb2, rfl⟩)
    rw [hlisted _ (by omega)] at this; exact this⟩
   have h6 := h2 i hrd
   unfold wpOp at h6
   rw [show pre.toArray[i]? = some o by simpa using ho] at h6
   have hgd := (k1 i o ho).2
   have hw1 : ∀ ts, Region.wanted o ts = true := fun ts => by simp [Region.wanted, hgd]
   simp only [hw1, if_true] at h6
   unfold wpOpIn
   rw [h4]
   simp only [hw1, if_true]
   rcases h6 with h6 | ⟨_, h6⟩
   ·refine oper_lift (hdf g3 ho) (wp_mono2 (fun a w h7 => ?_) (fun e a w he h7 => ?_) h6)
    ·refine ih (by simpa using hsz) ?_ ?_ h7.2
     ·rw [hl, Array.setIfInBounds_append_left (by omega)]
     ·intro k u hu hk j hj
      have hkl : k < lp.size := by have := (List.getElem?_eq_some_iff.1 hu).1; omega
      by_cases q : k = i
      ·subst q
       rw [ho] at hu
       simp only [Option.some.injEq] at hu
       subst hu
       obtain ⟨e, he1, he2, he3⟩ := mem_deps.1 hj
       have h8 := h5 e he1 he2
       have h9 := (k1 k o ho).1 j hj
       rw [he3] at h8
       rw [hlisted j (by omega)] at h8
       rw [Array.getD_eq_getD_getElem?, Array.getElem?_setIfInBounds_ne (by omega), ← Array.getD_eq_getD_getElem?]; exact h8
      ·rw [Array.getD_eq_getD_getElem?, Array.getElem?_setIfInBounds_ne (by omega), ← Array.getD_eq_getD_getElem?] at hk
       have h8 := hc k u hu hk j hj
       by_cases q2 : j = i
       ·subst q2
        rw [Array.getD_eq_getD_getElem?, Array.getElem?_setIfInBounds, if_pos rfl, if_pos (by omega)]; rfl
       ·rw [Array.getD_eq_getD_getElem?, Array.getElem?_setIfInBounds_ne (by omega), ← Array.getD_eq_getD_getElem?]; exact h8
    ·cases e <;> first | exact absurd rfl he | exact h7
   ·exact absurd h6 (noOut_then hq)
theorem g_draw_w {id : Nat} {pre post : List Oper} (Hs : List SProp) (k : EnvOk P E := by refine inferInstance) (p : Parts Hs H H' := by with_reducible (repeat (first | refine Parts.nil | (apply Parts.cons; repeat (first | refine Take.here | apply Take.there))))) (hg : goB pre post = true := by refine rfl) (hq : NoOut Q := by with_reducible (repeat (first | assumption | refine noOut_post | refine noOut_postM | refine noOut_round | refine noOut_begin | apply noOut_then | apply noOut_block | apply noOut_scope)))
  (h : A P n w0 F0 pre Hs (Array.replicate pre.length false) (Exit.then (fun a w => wpListIn (FR none) 0 P (pre ++ post).toArray Q post a w) Q) tm D H) : G P n w0 F0 (.region id (pre ++ post).toArray true) Q tm D H := .mk fun a w s => by
 refine wpIn_wide (n := 0).1 (wpIn_region_any k.mixed ?_)
 have h1 := h pre.length (by
  simp only [unl, Array.toList_replicate]
  exact Nat.le_trans (List.length_filter_le _ _) (by simp)) a { w with drawn := w.drawn + 1 } ⟨s.tm, s.defers, s.inv.drew _⟩ (s.inv.has p)
 have h2 := any_pre hq hg (listed := Array.replicate pre.length false ++ Array.replicate post.length false) (by simp) rfl (fun i o ho hi => by
  have hlt : i < pre.length := (List.getElem?_eq_some_iff.1 ho).1
  simp [hlt] at hi) h1
 rw [Array.replicate_append_replicate] at h2
 rw [show (pre ++ post).toArray.size = pre.length + post.length by simp]
 exact h2
def splitO : Nat → List Oper → Option (List Oper × List Oper)
 | 0, l => some ([], l)
 | _ + 1, [] => none
 | m + 1, o :: l => match splitO m l with
  | some (a, b) => some (o :: a, b)
  | none => none
theorem splitO_eq : ∀ {m : Nat} {l a b : List Oper}, splitO m l = some (a, b) → l = a ++ b
 | 0, l, a, b, h => by simp only [splitO, Option.some.injEq, Prod.mk.injEq] at h; obtain ⟨rfl, rfl⟩ := h; rfl
 | m + 1, [], a, b, h => by simp [splitO] at h
 | m + 1, o :: l, a, b, h => by
  simp only [splitO] at h
  split at h
  ·rename_i a' b' he
   simp only [Option.some.injEq, Prod.mk.injEq] at h
   obtain ⟨rfl, rfl⟩ := h
   rw [splitO_eq he]; rfl
  ·cases h
theorem g_draw_at {id : Nat} {l : List Oper} (m : Nat) {pre post : List Oper} (Hs : List SProp) (e : splitO m l = some (pre, post) := by refine rfl) (k : EnvOk P E := by refine inferInstance) (p : Parts Hs H H' := by with_reducible (repeat (first | refine Parts.nil | (apply Parts.cons; repeat (first | refine Take.here | apply Take.there))))) (hg : goB pre post = true := by refine rfl) (hq : NoOut Q := by with_reducible (repeat (first | assumption | refine noOut_post | refine noOut_postM | refine noOut_round | refine noOut_begin | apply noOut_then | apply noOut_block | apply noOut_scope)))
  (h : A P n w0 F0 pre Hs (Array.replicate pre.length false) (Exit.then (fun a w => wpListIn (FR none) 0 P l.toArray Q post a w) Q) tm D H) : G P n w0 F0 (.region id l.toArray true) Q tm D H := by
 obtain rfl := splitO_eq e
 exact g_draw_w Hs k p hg hq h
def isCallF : Op → Bool
 | .call ⟨.value _, _, _⟩ => true
 | _ => false
def nextRV : List Oper → Nat → Array Bool → Option Nat
 | [], _, _ => none
 | ⟨_, op, _, _, after, _⟩ :: l, i, listed => bif !listed.getD i true && rdyB after.toList listed && !isCallF op then some i else nextRV l (i + 1) listed
theorem a_w {ops : List Oper} {Hs : List SProp} {listed : Array Bool} {i d : Nat} {op : Op} {v : Value} (hc : Calm Q := by with_reducible (repeat (first | assumption | refine calm_post | refine calm_postM | refine calm_round | apply calm_then | apply calm_block | apply calm_scope))) (hs : noSel ops = true := by refine rfl) (hi : nextRV ops 0 listed = some i := by refine rfl) (ho : nth ops i = some ⟨some d, op, ty, pos, after, none⟩ := by refine rfl) (hd : Nat.blt d n = true := by refine rfl)
  (hy : V P n tm op v := by first | refine v_pure | refine v_index | refine v_shl | refine v_shr | refine v_rem | refine v_quo | refine v_indexAddr | refine v_slice | refine v_slice_str | refine v_slice_any | refine v_sliceData) (hf : freeL ops.toArray i ⟨some d, op, ty, pos, after, none⟩ listed ops 0 = true := by refine rfl) (hl : listed.getD i true = false := by refine rfl) (hr : rdyB after.toList listed = true := by refine rfl)
  {ll : List Bool} (hn : copyB (listed.setIfInBounds i true).toList = some ll := by refine rfl) (h : A P n w0 F0 ops Hs ll.toArray Q ((d, v) :: tm) D H) : A P n w0 F0 ops Hs listed Q tm D H :=
 a_y hc hs ho hd hf hl hr (fun _ _ => .inl ⟨rfl, hy⟩) (by rw [copyB_arr hn]; exact h)
end
end Go.Proofs.YtelfjhemnnbbpaaGreat.SL
set_option maxRecDepth 20000
namespace Go.Proofs.YtelfjhemnnbbpaaGreat
open Go.Proofs.YtelfjhemnnbbpaaGreat.SL
end Go.Proofs.YtelfjhemnnbbpaaGreat
set_option maxRecDepth 20000
namespace Go.Proofs.YtelfjhemnnbbpaaGreat
open Go.Proofs.YtelfjhemnnbbpaaGreat.SL
end Go.Proofs.YtelfjhemnnbbpaaGreat
namespace Go.Proofs.YtelfjhemnnbbpaaGreat.SL
section
variable {P : Program} {E : Env} {n : Nat} {w0 : World} {F0 : Nat → Prop} {Q : Exit → Act → World → Prop} {tm : List (Nat × Value)} {D : List Deferred} {H H' : List SProp} {ops rest : List Oper}
variable {ty : TypeId} {pos : String} {after : Array Edge}
def mpk {α : Type} (kk : IntKind) (b : Nat) (enc : α → Value) (kv : List (Int × α)) : SProp where
 holds h F := (∃ es clock, h[b]? = some (.map es clock) ∧ es.toList.map (fun x => (x.key, x.val)) = kv.map (fun p => (Value.int kk p.1, enc p.2)) ∧ (∀ x ∈ es.toList, x.born < clock) ∧ (es.toList.map MapEntry.born).Nodup ∧ (kv.map Prod.fst).Nodup) ∧ ∀ x, F x ↔ x = b
 loc := fun ⟨⟨es, c, e, r⟩, f⟩ k => ⟨⟨es, c, by rw [k b ((f b).2 rfl)]; exact e, r⟩, f⟩
 bnd := fun ⟨⟨_, _, e, _⟩, f⟩ x hx => by rw [(f x).1 hx]; exact lt_of_some e
theorem same_int_k {kk : IntKind} (k : Int) (j : Int) : Instr.sameNow (.int kk) (.int kk k) (.int kk j) = some (k == j) := by simp [Instr.sameNow]
theorem find_spec_k {α : Type} {kk : IntKind} {enc : α → Value} (k : Int) : ∀ (es : List MapEntry) (kv : List (Int × α)) (i : Nat), es.map (fun x => (x.key, x.val)) = kv.map (fun p => (Value.int kk p.1, enc p.2)) →
  (kvGet kv k = none ∧ Instr.findNow (.int kk) (.int kk k) es i = some none ∧ (∀ x, kvPut kv k x = kv ++ [(k, x)]) ∧ kvDel kv k = kv ∧ k ∉ kv.map (·.1)) ∨
  ∃ j v e0, kvGet kv k = some v ∧ Instr.findNow (.int kk) (.int kk k) es i = some (some (i + j, enc v)) ∧ es[j]? = some e0 ∧ e0.key = .int kk k ∧
   (∀ x, (es.set j { e0 with val := enc x }).map (fun x => (x.key, x.val)) = (kvPut kv k x).map (fun p => (Value.int kk p.1, enc p.2))) ∧ (∀ x, (kvPut kv k x).map (·.1) = kv.map (·.1)) ∧
   (es.eraseIdx j).map (fun x => (x.key, x.val)) = (kvDel kv k).map (fun p => (Value.int kk p.1, enc p.2)) ∧ (kvDel kv k).Sublist kv
 | [], [], i, _ => .inl ⟨rfl, rfl, fun _ => rfl, rfl, by simp⟩
 | [], _ :: _, i, h => by simp at h
 | _ :: _, [], i, h => by simp at h
 | e :: es, (j, v) :: kv, i, h => by
  simp only [List.map_cons, List.cons.injEq, Prod.mk.injEq] at h
  obtain ⟨⟨h1, h2⟩, h3⟩ := h
  by_cases q : j = k
  ·subst q
   refine .inr ⟨0, v, e, by simp [kvGet], by simp [Instr.findNow, h1, same_int_k, h2], rfl, h1, fun x => ?_, fun x => by simp [kvPut], ?_, ?_⟩
   ·simp [kvPut, h1, h3]
   ·simp [kvDel, h3]
   ·simp [kvDel]
  ·have q' : ¬ k = j := fun q2 => q q2.symm
   rcases find_spec_k k es kv (i + 1) h3 with ⟨g1, g2, g3, g4, g5⟩ | ⟨m, u, e0, g1, g2, g3, g4, g5, g6, g7, g8⟩
   ·refine .inl ⟨by simp [kvGet, q, g1], by simp [Instr.findNow, h1, same_int_k, beq_eq_false_iff_ne.2 q', g2], fun x => by simp [kvPut, q, g3], by simp [kvDel, q, g4], ?_⟩
    simp only [List.map_cons, List.mem_cons, not_or]
    exact ⟨q', g5⟩
   ·refine .inr ⟨m + 1, u, e0, by simp [kvGet, q, g1], ?_, by simpa using g3, g4, fun x => ?_, fun x => by simp [kvPut, q, g6], ?_, ?_⟩
    ·simp [Instr.findNow, h1, same_int_k, beq_eq_false_iff_ne.2 q', g2]
     omega
    ·simp [kvPut, q, h1, h2, g5]
    ·simp [kvDel, q, h1, h2, g7]
    ·simp [kvDel, q, g8]
theorem run_lookup_int_k {α : Type} {kk : IntKind} {t kt et : TypeId} {enc : α → Value} {kv : List (Int × α)} {i : Int} {z : α} {b sz by' : Nat} {es : Array MapEntry} {clock : Nat} {ok : Bool} {w : World} (k : EnvOk P E) (hw : w.heap[b]? = some (.map es clock))
  (he : es.toList.map (fun x => (x.key, x.val)) = kv.map (fun p => (Value.int kk p.1, enc p.2))) (ht : look E.ty t = some (.map kt et)) (hk : look E.ty kt = some (.int kk)) (hz : look E.inf et = some (enc z, sz, by')) :
  (Instr.lookup t (.map (some b)) (.int kk i) ok).run P w = .ok (if ok then .tuple #[enc ((kvGet kv i).getD z), .bool (kvGet kv i).isSome] else enc ((kvGet kv i).getD z)) w := by
 simp only [Instr.lookup, Sem.run_bind, run_underlying (k.under ht), Result.andThen, MapKept.run_getObj_map hw, Sem.run_pure, run_checkKey_int (k.under hk), Instr.findKey, run_underlying (k.under hk)]
 rcases find_spec_k (kk := kk) (enc := enc) i es.toList kv 0 he with ⟨g1, g2, _⟩ | ⟨j, v, e0, g1, g2, _⟩
 ·simp only [g1, g2, Sem.run_pure, Sem.run_bind, run_zero k hz, Result.andThen, Option.getD_none, Option.isSome_none]
 ·simp only [g1, g2, Sem.run_pure, Sem.run_bind, Result.andThen, Option.getD_some, Option.isSome_some]
theorem l_lookup_k {α : Type} {kk : IntKind} {d t kt et b sz by' : Nat} {x y : Operand} {enc : α → Value} {kv : List (Int × α)} {i : Int} (z : α) {zv : Value} (k : EnvOk P E := by refine inferInstance) (hd : Nat.blt d n = true := by refine rfl) (hx : ev tm x = some (.map (some b)) := by refine rfl) (hy : ev tm y = some (.int kk i) := by refine rfl)
  (ht : look E.ty t = some (.map kt et) := by refine rfl) (hk : look E.ty kt = some (.int kk) := by refine rfl) (hz : look E.inf et = some (zv, sz, by') := by refine rfl) (tk : Take (mpk kk b enc kv) H H' := by with_reducible (repeat (first | refine Take.here | apply Take.there))) (hze : zv = enc z := by refine rfl)
  (h : L P n w0 F0 ops.toArray rest Q ((d, enc ((kvGet kv i).getD z)) :: tm) D H) :
  L P n w0 F0 ops.toArray (⟨some d, .lookup t x y false, ty, pos, after, none⟩ :: rest) Q tm D H := by
 subst hze
 refine .mk fun a w s => ?_
 obtain ⟨⟨_, ⟨_, _, ⟨⟨es, clock, hw, he, _⟩, _⟩, _⟩, _⟩, _⟩ := s.inv.take tk
 refine wpList_value rfl (v := enc ((kvGet kv i).getD z)) (w' := w) ?_ (h _ _ (s.put hd _))
 simp only [execOp, ev_sound s.tm hx, ev_sound s.tm hy, Sem.run_bind, run_lookup_int_k k hw he ht hk hz, Result.andThen, Sem.run_pure, Bool.false_eq_true, if_false]
theorem l_lookup_ok_k {α : Type} {kk : IntKind} {d t kt et b sz by' : Nat} {x y : Operand} {enc : α → Value} {kv : List (Int × α)} {i : Int} (z : α) {zv : Value} (k : EnvOk P E := by refine inferInstance) (hd : Nat.blt d n = true := by refine rfl) (hx : ev tm x = some (.map (some b)) := by refine rfl) (hy : ev tm y = some (.int kk i) := by refine rfl)
  (ht : look E.ty t = some (.map kt et) := by refine rfl) (hk : look E.ty kt = some (.int kk) := by refine rfl) (hz : look E.inf et = some (zv, sz, by') := by refine rfl) (tk : Take (mpk kk b enc kv) H H' := by with_reducible (repeat (first | refine Take.here | apply Take.there))) (hze : zv = enc z := by refine rfl)
  (h : L P n w0 F0 ops.toArray rest Q ((d, .tuple #[enc ((kvGet kv i).getD z), .bool (kvGet kv i).isSome]) :: tm) D H) :
  L P n w0 F0 ops.toArray (⟨some d, .lookup t x y true, ty, pos, after, none⟩ :: rest) Q tm D H := by
 subst hze
 refine .mk fun a w s => ?_
 obtain ⟨⟨_, ⟨_, _, ⟨⟨es, clock, hw, he, _⟩, _⟩, _⟩, _⟩, _⟩ := s.inv.take tk
 refine wpList_value rfl (v := .tuple #[enc ((kvGet kv i).getD z), .bool (kvGet kv i).isSome]) (w' := w) ?_ (h _ _ (s.put hd _))
 simp only [execOp, ev_sound s.tm hx, ev_sound s.tm hy, Sem.run_bind, run_lookup_int_k k hw he ht hk hz, Result.andThen, Sem.run_pure, if_true]
theorem inv_mp_k {α : Type} {kk : IntKind} {enc : α → Value} {kv kv' : List (Int × α)} {b : Nat} {es' : Array MapEntry} {clock' : Nat} {w w' : World} (i : Inv w0 F0 (mpk kk b enc kv :: H) w) (hb : w'.heap[b]? = some (.map es' clock'))
  (h1 : es'.toList.map (fun x => (x.key, x.val)) = kv'.map (fun p => (Value.int kk p.1, enc p.2))) (h2 : ∀ x ∈ es'.toList, x.born < clock') (h3 : (es'.toList.map MapEntry.born).Nodup) (h4 : (kv'.map Prod.fst).Nodup)
  (hn : ∀ c, c ≠ b → w'.heap[c]? = w.heap[c]?) (hs : w'.heap.size = w.heap.size) (e1 : w'.os = w.os) (e2 : w'.tape = w.tape) (e3 : w'.output = w.output) : Inv w0 F0 (mpk kk b enc kv' :: H) w' :=
 i.set1 (fun ⟨_, f⟩ => f) ⟨⟨es', clock', hb, h1, h2, h3, h4⟩, fun _ => Iff.rfl⟩ hn hs e1 e2 e3
theorem l_mapUpdate_k {α : Type} {kk : IntKind} {t kt et b : Nat} {x y u : Operand} {enc : α → Value} {kv : List (Int × α)} {i : Int} {v : α} {vv : Value} (k : EnvOk P E := by refine inferInstance) (hx : ev tm x = some (.map (some b)) := by refine rfl) (hy : ev tm y = some (.int kk i) := by refine rfl) (hu : ev tm u = some vv := by refine rfl)
  (ht : look E.ty t = some (.map kt et) := by refine rfl) (hk : look E.ty kt = some (.int kk) := by refine rfl) (tk : Take (mpk kk b enc kv) H H' := by with_reducible (repeat (first | refine Take.here | apply Take.there))) (hv : vv = enc v := by refine rfl)
  (h : L P n w0 F0 ops.toArray rest Q tm D (mpk kk b enc (kvPut kv i v) :: H')) :
  L P n w0 F0 ops.toArray (⟨none, .mapUpdate t x y u, ty, pos, after, none⟩ :: rest) Q tm D H := by
 subst hv
 refine .mk fun a w s => ?_
 have hi := s.inv.take tk
 obtain ⟨⟨_, ⟨_, _, ⟨⟨es, clock, hw, he, h2, h3, h4⟩, _⟩, _⟩, _⟩, _⟩ := id hi
 have hbl := lt_of_some hw
 have hset : ∀ o, ((setObj b o).run P w) = .ok () { w with heap := w.heap.setIfInBounds b o } := fun o => MapKept.run_setObj_map o hw
 have main : ∃ w', (Instr.mapUpdate t (.map (some b)) (.int kk i) (enc v)).run P w = .ok () w' ∧ Inv w0 F0 (mpk kk b enc (kvPut kv i v) :: H') w' := by
  simp only [Instr.mapUpdate, Sem.run_bind, run_underlying (k.under ht), Result.andThen, MapKept.run_getObj_map hw, Sem.run_pure, run_checkKey_int (k.under hk), Instr.findKey, run_underlying (k.under hk)]
  rcases find_spec_k (kk := kk) (enc := enc) i es.toList kv 0 he with ⟨g1, g2, g3, g4, g5⟩ | ⟨j, u, e0, g1, g2, g3, g4, g5, g6, g7⟩
  ·simp only [g2, Sem.run_pure, Result.andThen, hset]
   refine ⟨_, rfl, inv_mp_k hi (es' := es.push { key := .int kk i, val := enc v, born := clock }) (clock' := clock + 1) (by simp [hbl]) ?_ ?_ ?_ ?_ ?_ (by simp) rfl rfl rfl⟩
   ·simp [g3, he]
   ·intro x hx
    simp only [Array.toList_push, List.mem_append, List.mem_singleton] at hx
    rcases hx with hx | rfl
    ·exact Nat.lt_succ_of_lt (h2 x hx)
    ·exact Nat.lt_succ_self _
   ·simp only [Array.toList_push, List.map_append, List.map_cons, List.map_nil]
    refine List.nodup_append.2 ⟨h3, by simp, ?_⟩
    intro x hx y hy
    simp only [List.mem_singleton] at hy
    subst hy
    obtain ⟨e, he', rfl⟩ := List.mem_map.1 hx
    exact Nat.ne_of_lt (h2 e he')
   ·rw [g3, List.map_append]
    refine List.nodup_append.2 ⟨h4, by simp, ?_⟩
    intro x hx y hy
    simp only [List.map_cons, List.map_nil, List.mem_singleton] at hy
    subst hy
    exact fun q => g5 (by rw [← q]; exact hx)
   ·intro c hc
    simp [Array.getElem?_setIfInBounds, hc.symm]
  ·have hj : es[j]? = some e0 := by rw [← Array.getElem?_toList]; exact g3
   have hjl : j < es.toList.length := (List.getElem?_eq_some_iff.1 g3).1
   simp only [g2, Nat.zero_add, Sem.run_pure, hj, Option.map_some, Option.getD_some, g4, Sem.run_bind, MapKept.run_keyThatStays (d := .int kk) (k := .int kk i) (by first | rfl | (cases kk <;> rfl) | simp [MapKept.IsKey]), Result.andThen, hset]
   have em : (es.modify j fun e => { key := Value.int kk i, val := enc v, born := e.born }).toList = es.toList.set j { e0 with val := enc v } := by
    rw [Array.toList_modify]
    apply List.ext_getElem?
    intro q
    rw [List.getElem?_modify, List.getElem?_set]
    by_cases hq : j = q
    ·subst hq
     simp only [if_true, hjl, g3, Option.map_some, g4]
     cases e0; simp only at g4; subst g4; rfl
    ·simp [hq]
   refine ⟨_, rfl, inv_mp_k hi (es' := es.modify j fun e => { key := Value.int kk i, val := enc v, born := e.born }) (clock' := clock) (by simp [hbl]) ?_ ?_ ?_ ?_ ?_ (by simp) rfl rfl rfl⟩
   ·rw [em]; exact g5 v
   ·intro x hx
    rw [em] at hx
    rcases List.mem_or_eq_of_mem_set hx with hx | rfl
    ·exact h2 x hx
    ·exact h2 e0 (List.mem_of_getElem? g3)
   ·rw [em, List.map_set]
    have : (es.toList.map MapEntry.born).set j e0.born = es.toList.map MapEntry.born := by
     apply List.ext_getElem?
     intro q
     rw [List.getElem?_set]
     by_cases hq : j = q
     ·subst hq
      rw [if_pos rfl, if_pos (by simpa using hjl), List.getElem?_map, g3]; rfl
     ·simp [hq]
    simp only [this]; exact h3
   ·have := g6 v
    rw [show (kvPut kv i v).map Prod.fst = kv.map Prod.fst from this]; exact h4
   ·intro c hc
    simp [Array.getElem?_setIfInBounds, hc.symm]
 obtain ⟨w', hr, hi'⟩ := main
 refine wpList_unit rfl (w' := w') ?_ (h _ _ ⟨s.tm, s.defers, hi'⟩)
 simp only [execOp, ev_sound s.tm hx, ev_sound s.tm hy, ev_sound s.tm hu, Sem.run_bind, hr, Result.andThen, Sem.run_pure]
theorem l_delete_k {α : Type} {kk : IntKind} {d : Option Nat} {t kt et b ka : Nat} {x y : Operand} {enc : α → Value} {kv : List (Int × α)} {i : Int} (k : EnvOk P E) (hd : ∀ j, d = some j → Nat.blt j n = true) (hx : ev tm x = some (.map (some b))) (hy : ev tm y = some (.int kk i))
  (ht : look E.ty t = some (.map kt et)) (hk : look E.ty kt = some (.int kk)) (tk : Take (mpk kk b enc kv) H H')
  (h : L P n w0 F0 ops.toArray rest Q (match d with | some j => (j, .tuple #[]) :: tm | none => tm) D (mpk kk b enc (kvDel kv i) :: H')) :
  L P n w0 F0 ops.toArray (⟨d, .call { callee := .builtin .delete, args := #[x, y], argTypes := #[t, ka] }, ty, pos, after, none⟩ :: rest) Q tm D H := by
 refine .mk fun a w s => ?_
 have hi := s.inv.take tk
 obtain ⟨⟨_, ⟨_, _, ⟨⟨es, clock, hw, he, h2, h3, h4⟩, _⟩, _⟩, _⟩, _⟩ := id hi
 have hbl := lt_of_some hw
 have hset : ∀ o, ((setObj b o).run P w) = .ok () { w with heap := w.heap.setIfInBounds b o } := fun o => MapKept.run_setObj_map o hw
 have main : ∃ w', (Builtin.delete_ #[t, ka] ty #[.map (some b), .int kk i]).run P w = .ok (.tuple #[]) w' ∧ Inv w0 F0 (mpk kk b enc (kvDel kv i) :: H') w' := by
  simp only [Builtin.delete_, List.getElem?_toArray, List.getElem?_cons_zero, List.getElem?_cons_succ, Sem.run_bind, run_underlying (k.under ht), Result.andThen, MapKept.run_getObj_map hw, Sem.run_pure, run_checkKey_int (k.under hk), Instr.findKey, run_underlying (k.under hk)]
  rcases find_spec_k (kk := kk) (enc := enc) i es.toList kv 0 he with ⟨g1, g2, g3, g4, g5⟩ | ⟨j, u, e0, g1, g2, g3, g4, g5, g6, g7, g8⟩
  ·simp only [g2, Sem.run_pure, Sem.run_bind, Result.andThen, hset]
   exact ⟨_, rfl, inv_mp_k hi (es' := es) (clock' := clock) (by simp [hbl]) (by rw [g4]; exact he) h2 h3 (by rw [g4]; exact h4) (fun c hc => by simp [Array.getElem?_setIfInBounds, hc.symm]) (by simp) rfl rfl rfl⟩
  ·simp only [g2, Nat.zero_add, Sem.run_pure, Sem.run_bind, Result.andThen, hset]
   have em : (es.eraseIdxIfInBounds j).toList = es.toList.eraseIdx j := by
    have hj : j < es.size := by have := (List.getElem?_eq_some_iff.1 g3).1; simpa using this
    simp [Array.eraseIdxIfInBounds, hj]
   refine ⟨_, rfl, inv_mp_k hi (es' := es.eraseIdxIfInBounds j) (clock' := clock) (by simp [hbl]) (by rw [em]; exact g7) ?_ ?_ ?_ (fun c hc => by simp [Array.getElem?_setIfInBounds, hc.symm]) (by simp) rfl rfl rfl⟩
   ·intro x hx
    rw [em] at hx
    exact h2 x ((List.eraseIdx_sublist _ _).mem hx)
   ·rw [em]
    exact ((List.eraseIdx_sublist _ _).map _).nodup h3
   ·exact (g8.map _).nodup h4
 obtain ⟨w', hr, hi'⟩ := main
 have hr2 : (execOp a.eval ⟨d, .call { callee := .builtin .delete, args := #[x, y], argTypes := #[t, ka] }, ty, pos, after, none⟩).run P w = .ok (.value (.tuple #[])) w' := by
  simp only [execOp, resolve, invoke, builtin, Sem.run_bind, Sem.run_pure, Result.andThen_ok, List.map_toArray, List.map_cons, List.map_nil, ev_sound s.tm hx, ev_sound s.tm hy, hr]
 refine wpList_value rfl (v := .tuple #[]) (w' := w') hr2 (h _ _ ?_)
 cases d with
 | none => exact ⟨s.tm, s.defers, hi'⟩
 | some j => exact ⟨s.tm.put (hd j rfl) _, s.defers, hi'⟩
theorem l_len_map_k {α : Type} {kk : IntKind} {d t kt et b : Nat} {x : Operand} {enc : α → Value} {kv : List (Int × α)} (k : EnvOk P E := by refine inferInstance) (hd : Nat.blt d n = true := by refine rfl) (hx : ev tm x = some (.map (some b)) := by refine rfl) (ht : look E.ty t = some (.map kt et) := by refine rfl) (tk : Take (mpk kk b enc kv) H H' := by with_reducible (repeat (first | refine Take.here | apply Take.there)))
  (h : L P n w0 F0 ops.toArray rest Q ((d, .int .i64 (kv.length : Nat)) :: tm) D H) :
  L P n w0 F0 ops.toArray (⟨some d, .call { callee := .builtin .len, args := #[x], argTypes := #[t] }, ty, pos, after, none⟩ :: rest) Q tm D H := by
 refine .mk fun a w s => ?_
 obtain ⟨⟨_, ⟨_, _, ⟨⟨es, clock, hw, he, _⟩, _⟩, _⟩, _⟩, _⟩ := s.inv.take tk
 have hl : es.size = kv.length := by have := congrArg List.length he; simpa using this
 refine wpList_value rfl (v := .int .i64 (kv.length : Nat)) (w' := w) ?_ (h _ _ (s.put hd _))
 have hr : (Builtin.len_ #[t] ty #[.map (some b)]).run P w = .ok (.int .i64 (kv.length : Nat)) w := by
  simp only [Builtin.len_, List.getElem?_toArray, List.getElem?_cons_zero, Sem.run_bind, run_underlying (k.under ht), Result.andThen, MapKept.run_getObj_map hw, Sem.run_pure, goInt, hl]
 simp only [execOp, resolve, invoke, builtin, Sem.run_bind, Sem.run_pure, Result.andThen_ok, List.map_toArray, List.map_cons, List.map_nil, ev_sound s.tm hx, hr]
theorem l_delete0_k {α : Type} {kk : IntKind} {t kt et b ka : Nat} {x y : Operand} {enc : α → Value} {kv : List (Int × α)} {i : Int} (k : EnvOk P E := by refine inferInstance) (hx : ev tm x = some (.map (some b)) := by refine rfl) (hy : ev tm y = some (.int kk i) := by refine rfl)
  (ht : look E.ty t = some (.map kt et) := by refine rfl) (hk : look E.ty kt = some (.int kk) := by refine rfl) (tk : Take (mpk kk b enc kv) H H' := by with_reducible (repeat (first | refine Take.here | apply Take.there)))
  (h : L P n w0 F0 ops.toArray rest Q tm D (mpk kk b enc (kvDel kv i) :: H')) :
  L P n w0 F0 ops.toArray (⟨none, .call { callee := .builtin .delete, args := #[x, y], argTypes := #[t, ka] }, ty, pos, after, none⟩ :: rest) Q tm D H :=
 l_delete_k k (d := none) (fun _ q => nomatch q) hx hy ht hk tk h
end
end Go.Proofs.YtelfjhemnnbbpaaGreat.SL
set_option maxRecDepth 20000
namespace Go.Proofs.YtelfjhemnnbbpaaGreat
open Go.Proofs.YtelfjhemnnbbpaaGreat.SL
theorem new_is {i : Int} {n : Nat} (e : i = n) (hn : 8 ≤ n ∧ n ≤ 640) : Does Tryz.prog 26 [.int .i64 i] [] (fun v H => ∃ b, v = .tuple #[.pointer (some ⟨b, 0, none⟩), .int .i64 0] ∧ H = [Disk b (Dk.new n)]) := by
 subst e; exact New_does n hn
theorem format_is {D E : Dk} {db : Nat} {e : Int} {q : Hd} (h : format D = (some q, e, E)) : Does Tryz.prog 27 [.pointer (some ⟨db, 0, none⟩)] [Disk db D] (fun v H => ∃ b, v = .tuple #[.pointer (some ⟨b, 0, none⟩), .int .i64 e] ∧ H = [Store b db q.over, Disk db E]) := by
 have := Format_does db D; rw [h] at this; exact this
end Go.Proofs.YtelfjhemnnbbpaaGreat
set_option maxRecDepth 20000
namespace Go.Proofs.YtelfjhemnnbbpaaGreat
open Go.Proofs.YtelfjhemnnbbpaaGreat.SL
theorem OnP.few {g : Int → Nd → Prop} : ∀ {h : Nat} {k : Int} {s : Sub}, OnP g h k s → s.ps.length + 1 ≤ 2 * s.es.length
 | 0, k, s, ⟨d', ps', a1, a2, a3, ⟨b1, b2, b3, b4⟩, a5⟩ => by
  have h1 := a2.some b1
  have h2 := valsLen b2 b1
  rw [a5, b4, b3]
  simp only [Nd.ents, List.length_zip, h2, List.length_cons, List.length_nil]
  omega
 | h + 1, k, s, ⟨d', ps', a1, a2, a3, ⟨b1, b2, ss, f, e, e2, sp⟩, a5⟩ => by
  have key : ∀ {ks : List Int} {ss : List Sub}, All2 (OnP g h) ks ss → (Sub.pages ss).length + ss.length ≤ 2 * (Sub.all ss).length := by
   intro ks
   induction ks with
   | nil =>
    intro ss q
    cases ss with
    | nil => simp [Sub.pages, Sub.all]
    | cons _ _ => exact q.elim
   | cons k ks ih =>
    intro ss q
    cases ss with
    | nil => exact q.elim
    | cons s ss =>
     have h1 := OnP.few q.1
     have h2 := ih q.2
     rw [Sub.pages_cons, Sub.all_cons]
     simp only [List.length_append, List.length_cons]
     omega
  have h1 := key f
  have h2 := sp.len
  have h3 : 0 < d'.keys.length := List.length_pos_iff.2 (a3 b1)
  rw [a5, e, e2]
  simp only [List.length_cons]
  omega
theorem IsTree.few {N : Nat} {S : Sh} {D : Dk} {U : List Int} {r : Int} {T : List Ent} (h : IsTree N S D U r T) : (S.after U).length ≤ 2 * T.length := by
 rcases h with ⟨_, rfl, e⟩ | ⟨h, ps, o, p⟩
 ·rw [e]; simp
 ·have := o.few
  rw [← p.length_eq]
  dsimp only at this
  omega
theorem Fine.fresh_le {N : Nat} {S : Sh} {D : Dk} {U : List Int} (k : Fine N S D U) : S.fresh.length ≤ (S.after U).length := by
 refine nodup_sub k.f.1 fun a ha => Sh.mem_after.2 ⟨.inr ha, fun hg => (k.f.2 a ha).2.2 (k.v.2 a hg)⟩
theorem putE_len (es : List Ent) (x : Nat) (v : List UInt8) (o : Ord es) : (putE es x v).length ≤ es.length + 1 := by
 unfold putE
 have h1 : ∀ (es : List Ent), (es.filter (fun e => decide (e.1 < x))).length + (es.filter (fun e => decide (x < e.1))).length ≤ es.length := by
  intro es
  induction es with
  | nil => simp
  | cons e es ih =>
   simp only [List.filter_cons]
   by_cases a : e.1 < x
   ·have b : ¬ x < e.1 := by omega
    simp [a, b]; omega
   ·by_cases b : x < e.1
    ·simp [a, b]; omega
    ·simp [a, b]; omega
 rw [List.length_append, List.length_cons]
 exact Nat.succ_le_succ (h1 es)
theorem delE_len (es : List Ent) (x : Nat) : (delE es x).length ≤ es.length := List.length_filter_le _ _
structure Tr (N : Nat) (S : Sh) (D : Dk) (U : List Int) (root : Int) (T : List Ent) (m : Nat) : Prop where
 fine : Fine N S D U
 tree : IsTree N S D U root T
 len : T.length ≤ m
theorem Tr.put {N : Nat} {S : Sh} {D : Dk} {U : List Int} {root : Int} {T : List Ent} {m : Nat} (k : Tr N S D U root T m) (sb db x : Nat) (v : List UInt8) (hx : x < 18446744073709551616) (hv : v.length ≤ 40) (room : U.length + 2 * m + 25 < N) :
  Does Tryz.prog 77 [.pointer (some ⟨sb, 0, none⟩), .int .i64 root, .int .u64 x, .string (str v)] [Store sb db S, Disk db D]
   (fun u H => ∃ r S' D', u = .tuple #[.int .i64 r, .int .i64 0] ∧ H = [Store sb db S', Disk db D'] ∧ Tr N S' D' U r (putE T x v) (m + 1) ∧ S'.gen = S.gen ∧ Same U S D S' D') := by
 have h1 := k.tree.few
 have h2 := k.fine.fresh_le
 have h3 := k.len
 refine (put_tree sb db x N v root U T S D k.fine k.tree hx hv (by omega)).mono ?_
 rintro u H ⟨r, S', D', rfl, rfl, a, b, c, d⟩
 exact ⟨r, S', D', rfl, rfl, ⟨b, a, by have := putE_len T x v k.tree.ord; omega⟩, c, d⟩
theorem Tr.get {N : Nat} {S : Sh} {D : Dk} {U : List Int} {root : Int} {T : List Ent} {m : Nat} (k : Tr N S D U root T m) (sb db x : Nat) :
  Does Tryz.prog 69 [.pointer (some ⟨sb, 0, none⟩), .int .i64 root, .int .u64 x] [Store sb db S, Disk db D] (fun v H => v = getV (getE T x) ∧ H = [Store sb db S, Disk db D]) := get_tree sb db x N root U T S D k.fine k.tree
theorem tr_new {N : Nat} (hN : 8 ≤ N ∧ N ≤ 640) : ∃ E1, format (Dk.new N) = (some headNew, 0, E1) ∧ Tr N headNew.over E1 [] 0 [] 0 := by
 obtain ⟨E1, f1, k1, p1⟩ := format_of hN (Dk.new_lives N) (by rw [Dk.new_pg (by omega)]; simp)
 exact ⟨E1, f1, k1, .inl ⟨rfl, rfl, by simp [Sh.after, Hd.over]⟩, Nat.le_refl _⟩
theorem wf_i64 {a : Int} (h : (Lit.int .i64 a).wf = true) : -9223372036854775808 ≤ a ∧ a < 9223372036854775808 := by
 simp [Lit.wf, IntKind.min, IntKind.max, IntKind.bits, IntKind.signed] at h
 omega
end Go.Proofs.YtelfjhemnnbbpaaGreat
namespace Go.Proofs.YtelfjhemnnbbpaaGreat.SL
def rfA : Code → Code
 | .rangeFunc _ _ a _ => a
 | c => c
def rfB : Code → Code
 | .rangeFunc _ _ _ b => b
 | c => c
theorem gr_weak {P : Program} {n : Nat} {w0 : World} {F0 : Nat → Prop} {Q : Exit → Act → World → Prop} {tm : List (Nat × Value)} {D : List Deferred} {H : List SProp} {r : Nat} {c : Code} {tm' : List (Nat × Value)} {H' : List SProp} (ht : tsub tm tm') (hh : ∀ {w}, Inv w0 F0 H w → Inv w0 F0 H' w) (h : GR P n w0 F0 r c Q tm' D H') : GR P n w0 F0 r c Q tm D H :=
 .mk fun a w s => h.h a w ⟨s.tm.sub ht, s.defers, hh s.inv⟩
theorem gr_as {P : Program} {n : Nat} {w0 : World} {F0 : Nat → Prop} {Q : Exit → Act → World → Prop} {tm : List (Nat × Value)} {D : List Deferred} {H : List SProp} {r : Nat} {c c' : Code} (e : c = c') (h : GR P n w0 F0 r c' Q tm D H) : GR P n w0 F0 r c Q tm D H := e ▸ h
section
variable {P : Program} {l : Nat} {xs : List Value} {q : Value → List SProp → Prop}
theorem Yields.open {α : Type} {A : SProp} {p : α → Prop} {K : α → List SProp} (o : Opens A p K) (h : ∀ x, p x → Yields P l xs (K x) q) : Yields P l xs [A] q := fun w F s => by
 obtain ⟨F1, F2, a, e, d, u⟩ := s
 obtain ⟨x, hx, s1⟩ := o _ _ a
 exact h x hx w F (sep_congr s1 (fun b => ⟨fun h => (u b).2 (.inl h), fun h => ((u b).1 h).elim id (fun q => (e b q).elim)⟩))
theorem Yields.post {H : List SProp} {q' : Value → List SProp → Prop} (h : Yields P l xs H q') (k : ∀ v H', q' v H' → ∃ H'', q v H'' ∧ ∀ {w0 : World} {F0 : Nat → Prop} {w : World}, Inv w0 F0 H' w → Inv w0 F0 H'' w) : Yields P l xs H q := fun w F s => by
 obtain ⟨fn, tmps, assign, body, e, r⟩ := h w F s
 refine ⟨fn, tmps, assign, body, e, r.mono ?_⟩
 rintro e w' ⟨v, H', he, hq, hi⟩
 obtain ⟨H'', h1, h2⟩ := k v H' hq
 exact ⟨v, H'', he, h1, h2 hi⟩
theorem shut_of {α : Type} {p : α → Prop} {K : α → List SProp} {H R : List SProp} (x : α) (hx : p x) (pt : Parts (K x) H R) {w0 : World} {F0 : Nat → Prop} {w : World} (i : Inv w0 F0 H w) : Inv w0 F0 [hid p K] w :=
 Inv.drop (K := [hid p K]) (H' := R) (i.shut (hid_shuts x hx) pt)
theorem does_post {f : FuncId} {args : List Value} {H : List SProp} {q q' : Value → List SProp → Prop} (d : Does P f args H q) (h : ∀ v H1, q v H1 → ∀ {w0 : World} {F0 : Nat → Prop} {w : World}, Inv w0 F0 H1 w → ∃ H2, q' v H2 ∧ Inv w0 F0 H2 w) : Does P f args H q' := fun w F s =>
 (d w F s).mono fun e w' ⟨v, H1, e1, hq, i⟩ => by
  obtain ⟨H2, h2, h3⟩ := h v H1 hq i
  exact ⟨v, H2, e1, h2, h3⟩
theorem Inv.less {w0 w : World} {F F' : Nat → Prop} {H : List SProp} (i : Inv w0 F' H w) (h : ∀ b, b < w0.heap.size → ¬ F b → ¬ F' b) : Inv w0 F H w := by
 obtain ⟨⟨G, s, o⟩, fr, sz, a, b, c⟩ := i
 exact ⟨⟨G, s, fun b hb n => o b hb (h b hb n)⟩, fun b hb n => fr b hb (h b hb n), sz, a, b, c⟩
theorem does_pre {f : FuncId} {args : List Value} {H H' : List SProp} {q : Value → List SProp → Prop} (d : Does P f args H q) (k : ∀ {w0 : World} {F0 : Nat → Prop} {w : World}, Inv w0 F0 H' w → Inv w0 F0 H w) : Does P f args H' q := fun w F s => by
 obtain ⟨⟨F', s', o⟩, _⟩ := k (Inv.start s)
 exact (d w F' s').mono fun e w' ⟨v, H1, e1, hq, i⟩ => ⟨v, H1, e1, hq, i.less o⟩
end
end Go.Proofs.YtelfjhemnnbbpaaGreat.SL
set_option maxRecDepth 20000
namespace Go.Proofs.YtelfjhemnnbbpaaGreat
open Go.Proofs.YtelfjhemnnbbpaaGreat.SL
abbrev entV (e : Ent) : Value := .agg #[.int .u64 (e.1 : Nat), .string (str e.2)]
def feed (stop : List Ent → Bool) : List Ent → List Ent → List Ent × Bool
 | dn, [] => (dn, false)
 | dn, e :: es => if stop (dn ++ [e]) then (dn ++ [e], true) else feed stop (dn ++ [e]) es
theorem feed_append (stop : List Ent → Bool) : ∀ (a b dn : List Ent), feed stop dn (a ++ b) = if (feed stop dn a).2 then feed stop dn a else feed stop (feed stop dn a).1 b
 | [], b, dn => by simp [feed]
 | e :: a, b, dn => by
  simp only [List.cons_append, feed]
  split
  ·simp
  ·exact feed_append stop a b _
theorem feed_len (stop : List Ent → Bool) : ∀ (es dn : List Ent), (feed stop dn es).1.length ≤ dn.length + es.length
 | [], dn => by simp [feed]
 | e :: es, dn => by
  simp only [feed]
  split
  ·simp
  ·have := feed_len stop es (dn ++ [e])
   simp only [List.length_append, List.length_cons, List.length_nil] at *
   omega
def geE (es : List Ent) (x : Nat) : List Ent := es.filter fun e => decide (x ≤ e.1)
theorem geE_append (a b : List Ent) (x : Nat) : geE (a ++ b) x = geE a x ++ geE b x := by simp [geE]
def fedP (C X : List Ent → SProp) (r : List Ent × Bool) : SProp := if r.2 then X r.1 else C r.1
theorem ge_zip : ∀ {ks : List Nat} {vs : List (List UInt8)} {x : Nat}, Rise ks → geE (ks.zip vs) x = (ks.zip vs).drop (posN ks x)
 | [], _, _, _ => by simp [geE]
 | _ :: _, [], _, _ => by simp [geE]
 | k :: ks, v :: vs, x, h => by
  obtain ⟨h1, h2⟩ := List.pairwise_cons.1 h
  have ih := ge_zip (vs := vs) (x := x) h2
  simp only [List.zip_cons_cons, geE, List.filter_cons, posN_cons]
  by_cases q : k < x
  ·rw [if_neg (by simp; omega), if_pos q, List.drop_succ_cons]; exact ih
  ·rw [if_pos (by simp; omega), if_neg q, List.drop_zero]
   congr 1
   refine List.filter_eq_self.2 fun e he => ?_
   have := h1 _ (zip_fst_mem he)
   simp; omega
set_option maxHeartbeats 4000000 in
theorem from_leaf (b sb db x N l : Nat) (C X : List Ent → SProp) (stop : List Ent → Bool) (hY : ∀ dn e, dn.length < 100000 → SL.Yields Tryz.prog l [entV e] [C dn] (fun v H => v = .bool (!stop (dn ++ [e])) ∧ H = [if stop (dn ++ [e]) then X (dn ++ [e]) else C (dn ++ [e])]))
  (deep : Nat) (pg read : Int) (S : Sh) (D : Dk) (d : Nd) (hd : d.good) (hlf : d.leaf = true) (hr : S.read D pg = ((2, d.text, 0), S)) (h1 : 0 ≤ read ∧ read < 640) (h2 : deep ≤ 10) (dn : List Ent) (hdl : dn.length + d.ents.length ≤ 100000) :
  Does Tryz.prog 139 [.pointer (some ⟨b, 0, none⟩), .int .i64 pg, .int .i64 deep, .int .u64 x, .func (.yield l) #[] #[]] [C dn, Wk b sb read 0, Store sb db S, Disk db D]
   (fun v H => v = .bool (!(feed stop dn (geE d.ents x)).2) ∧ H = [fedP C X (feed stop dn (geE d.ents x)), Wk b sb (read + 1) 0, Store sb db S, Disk db D]) := by
 have hn := wNode_does b sb db deep pg read S D d hd hr h1 h2
 have hF := fun r => Find_does d r x hd.fits hd.p.rise
 simp only [hlf, if_true] at hF
 refine does_of Tryz.func139 Tryz.ntmps139 rfl rfl rfl (fun w0 F0 => ?_)
 (repeat' (first|refine g_seq (h:=?_)|refine g_region (h:=?_)|refine l_nil (h:=?_)|refine n_then (h:=?_)|refine l_pures1 (h:=?_)|(refine l_atc ?_; refine l_call_ (hn) ?_; rintro _ _ _ ⟨r, rfl, rfl⟩ he; cases he)|(refine l_atc ?_; refine l_call (hF _) ?_)|refine l_load (h:=?_)|refine l_store (h:=?_)|(refine l_alloc (h:=?_); intro _)|refine g_skip (h:=?_)|refine g_block (h:=?_)|refine g_cond_f (h:=?_)|(refine g_sp (h1 := ?_) (h0 := ?_) <;> intro h)))
 ·exact absurd h (by rw [hlf]; simp)
 rename_i b11
 have hv := valsLen hd.p hlf
 have hne := hd.some hlf
 have hfk := hd.fits.k
 have hpos := posN_le d.keys x
 have hel : d.ents.length = d.keys.length := by simp [Nd.ents, hv]
 obtain ⟨p1, c1, p2, c2, p3, c3⟩ := r
 refine g_open (A := Nds d ⟨p1, c1, p2, c2, p3, c3⟩) (h:=?_); (rintro _ _; dsimp only [NdsK, List.cons_append, List.nil_append])
 refine g_ptr (m := d.keys.length) (h:=?_); rintro g1 rfl hc1
 refine g_ptr (m := d.vals.length) (h:=?_); rintro g2 rfl hc2
 (refine g_loop (fun y : Nat × List Ent => [(12, .int .i64 y.1), (11, .pointer (some ⟨b11, 0, none⟩)), (4, .func (.yield l) #[] #[])]) (fun y => [C y.2, vec 78 1 (some ⟨g1, 0, none⟩) d.keys.length c1 (uV d.keys), vec 9 1 (some ⟨g2, 0, none⟩) d.vals.length c2 (d.vals.map encS), cl b11 175 [.bool d.leaf, .slice (some ⟨g1, 0, none⟩) d.keys.length c1, .slice (some ⟨g2, 0, none⟩) d.vals.length c2, .slice p3 d.kids.length c3], Wk b sb (read + 1) 0, Store sb db S, Disk db D]) (fun y => y.1 ≤ d.keys.length ∧ feed stop dn (geE d.ents x) = feed stop y.2 (d.ents.drop y.1) ∧ y.2.length + (d.ents.length - y.1) ≤ 100000) (fun y => d.keys.length - y.1) ((posN d.keys x, dn)) ?_ ?_ ?_ ?_; rotate_left; (repeat (first | refine ts_nil | (refine ts_cons rfl ?_ ?_; first | (with_reducible rfl) | rotate_left))); (first | (intro _ i; with_reducible refine i) | rotate_left); rotate_left; (try omega); rotate_right)
 ·rintro ⟨j, dn'⟩ ⟨hj, hf, hdl'⟩
  dsimp only at hj hf hdl' ⊢
  by_cases hjl : j < d.keys.length
  ·have hgk := uGet (l := d.keys) (k := j) hjl
   have hgs := sGet (l := d.vals) (k := j) (by omega)
   obtain ⟨e, he⟩ : ∃ e : Ent, e = (d.keys.getD j 0, d.vals.getD j []) := ⟨_, rfl⟩
   have hdr : d.ents.drop j = e :: d.ents.drop (j + 1) := by
    rw [List.drop_eq_getElem_cons (by omega), he]
    simp [Nd.ents, List.getD, hjl, hv]
   have hYj := hY dn' e (by omega)
   rw [he] at hYj
   (repeat' (first|refine g_seq (h:=?_)|refine g_region (h:=?_)|refine l_nil (h:=?_)|refine n_then (h:=?_)|refine l_pures1 (h:=?_)|refine l_load (h:=?_)|refine g_skip (h:=?_)|refine g_block (h:=?_)|(refine g_spT (h:=?_); intro h)))
   refine g_draw_at 12 [vec 78 1 (some ⟨g1, 0, none⟩) d.keys.length c1 (uV d.keys), vec 9 1 (some ⟨g2, 0, none⟩) d.vals.length c2 (d.vals.map encS), cl b11 175 [.bool d.leaf, .slice (some ⟨g1, 0, none⟩) d.keys.length c1, .slice (some ⟨g2, 0, none⟩) d.vals.length c2, .slice p3 d.kids.length c3]] (h := a_pass2 (h:=?_))
   cases hst : stop (dn' ++ [e])
   ·rw [← he, hst] at hYj
    simp only [Bool.not_false, Bool.false_eq_true, if_false] at hYj
    rw [he] at hYj
    (repeat (first|(refine lw_i ?_; refine lw_yield (hYj) (h:=?_); rintro _ _ _ ⟨rfl, rfl⟩ he; cases he)|refine g_region (h:=?_)|refine l_nil (h:=?_)|refine n_then (h:=?_)|refine l_pures1 (h:=?_)|refine g_skip (h:=?_)|refine a_done (h:=?_)|refine a_load (h := a_pass2 (h:=?_))|refine a_one (h:=?_)|refine n_any (h := a_pass2 (h:=?_))|refine a_v (h:=?_)|refine n_block (h:=?_)|refine g_cond_f (h:=?_)|refine l_load_vec (h:=?_)|refine a_load_vec (h := a_pass2 (h:=?_))|refine n_lw (h:=?_)|refine lw_nil (h:=?_)|refine lw_step (h:=?_)))
    (refine n_back ((j + 1, dn' ++ [(d.keys.getD j 0, d.vals.getD j [])])) ?_ ?_ ?_ ?_; rotate_left; rotate_left; (repeat (first | refine ts_nil | (refine ts_cons rfl ?_ ?_; first | (with_reducible rfl) | rotate_left))); (first | (intro _ i; with_reducible refine i) | rotate_left); (try omega); (try omega))
    ·refine ⟨hjl, ?_, by dsimp only; rw [List.length_append, List.length_singleton]; omega⟩
     rw [hf, hdr, feed, hst, he]; rfl
    ·dsimp only; omega
    ·rw [wrapI64 (by omega)] <;> rfl
   ·rw [← he, hst] at hYj
    simp only [Bool.not_true, if_true] at hYj
    rw [he] at hYj
    (repeat (first|(refine lw_i ?_; refine lw_yield (hYj) (h:=?_); rintro _ _ _ ⟨rfl, rfl⟩ he; cases he)|refine g_seq (h:=?_)|refine g_region (h:=?_)|refine l_nil (h:=?_)|refine n_then (h:=?_)|refine l_pures1 (h:=?_)|refine g_ret (h:=?_)|refine n_then_ret (h:=?_)|refine n_block_ret (h:=?_)|refine a_done (h:=?_)|refine a_load (h := a_pass2 (h:=?_))|refine a_one (h:=?_)|refine n_any (h := a_pass2 (h:=?_))|refine a_v (h:=?_)|refine g_cond_t (h:=?_)|refine l_load_vec (h:=?_)|refine a_load_vec (h := a_pass2 (h:=?_))|refine n_lw (h:=?_)|refine lw_nil (h:=?_)|refine lw_step (h:=?_)))
    have hfe : feed stop dn (geE d.ents x) = (dn' ++ [(d.keys.getD j 0, d.vals.getD j [])], true) := by rw [hf, hdr, feed, hst, he]; rfl
    refine r_retk [X (dn' ++ [(d.keys.getD j 0, d.vals.getD j [])]), Wk b sb (read + 1) 0, Store sb db S, Disk db D] ?_
    rw [hfe]
    exact ⟨rfl, rfl⟩
  ·have hfe : feed stop dn (geE d.ents x) = (dn', false) := by rw [hf, List.drop_eq_nil_of_le (by omega)]; rfl
   (repeat' (first|refine g_seq (h:=?_)|refine g_region (h:=?_)|refine l_nil (h:=?_)|refine n_then (h:=?_)|refine l_pures1 (h:=?_)|refine l_load (h:=?_)|refine g_ret (h:=?_)|refine g_exit (h:=?_)|refine n_then_exit (h:=?_)|refine n_block_hit (h:=?_)|(refine g_spF (h:=?_); intro h)))
   refine r_retk [C dn', Wk b sb (read + 1) 0, Store sb db S, Disk db D] ?_
   rw [hfe]
   exact ⟨rfl, rfl⟩
 ·exact ⟨hpos, by rw [Nd.ents, ge_zip hd.p.rise], by dsimp only; omega⟩
 ·intro _ i
  exact inv_keep parts_of i
end Go.Proofs.YtelfjhemnnbbpaaGreat
set_option maxRecDepth 20000
namespace Go.Proofs.YtelfjhemnnbbpaaGreat
open Go.Proofs.YtelfjhemnnbbpaaGreat.SL
def kyN (k a b : Nat) : Nat := k * 1152921504606846976 + a * 4294967296 + b
theorem kyN_lt {k a b : Nat} (hk : k < 16) (ha : a ≤ 268435455) (hb : b < 4294967296) : kyN k a b < 18446744073709551616 := by unfold kyN; omega
structure Sl where
 cap : Nat
 epoch : Nat
 nonce : Nat
deriving DecidableEq
def Sl.ok (s : Sl) : Prop := s.cap ≤ 16777215 ∧ 1 ≤ s.epoch ∧ s.epoch ≤ 16 ∧ (s.cap = 0 ∨ s.epoch ≤ 15) ∧ s.nonce < 18446744073709551616
def Sl.text (s : Sl) : List UInt8 := putN s.cap 3 ++ (putN s.epoch 1 ++ putN s.nonce 8)
def Sl.fr (cap : Nat) (s : Sl) : Sl := if s.cap ≠ 0 ∧ s.cap = cap then ⟨0, s.epoch + 1, 0⟩ else s
end Go.Proofs.YtelfjhemnnbbpaaGreat
namespace Go.Proofs.YtelfjhemnnbbpaaGreat.SL
section
variable {w0 w : World} {F0 : Nat → Prop} {H : List SProp} {ms : List Nat} {D0 : Nat}
end
variable {P : Program} {E : Env} {n : Nat} {w0 : World} {F0 : Nat → Prop} {Q : Exit → Act → World → Prop} {tm : List (Nat × Value)} {D : List Deferred} {H H' : List SProp}
theorem a_lookupg_k {α : Type} {kk : IntKind} {ops : List Oper} {ty : TypeId} {pos : String} {after : Array Edge} {Hs Hs' : List SProp} {listed : Array Bool} {ll : List Bool} {i d j ts t kt et b sz by' : Nat} {want : Bool} {x y : Operand} {enc : α → Value} {kv : List (Int × α)} {u : Int} (z : α) {zv : Value} (k : EnvOk P E := by refine inferInstance) (hs : noSel ops = true := by refine rfl) (hi : nextR ops 0 listed = some i := by refine rfl)
  (ho : nth ops i = some ⟨some d, .lookup t x y false, ty, pos, after, some (j, want)⟩ := by refine rfl) (hd : Nat.blt d n = true := by refine rfl) (hst : slotOf ops j = some ts := by refine rfl) (htb : tget tm ts = some (.bool want) := by refine rfl) (hb : Nat.blt ts n = true := by refine rfl) (hx : ev tm x = some (.map (some b)) := by refine rfl) (hy : ev tm y = some (.int kk u) := by refine rfl)
  (ht : look E.ty t = some (.map kt et) := by refine rfl) (hk : look E.ty kt = some (.int kk) := by refine rfl) (hz : look E.inf et = some (zv, sz, by') := by refine rfl) (tk : Take (mpk kk b enc kv) Hs Hs' := by with_reducible (repeat (first | refine Take.here | apply Take.there))) (hze : zv = enc z := by refine rfl)
  (hf : freeL ops.toArray i ⟨some d, .lookup t x y false, ty, pos, after, some (j, want)⟩ listed ops 0 = true := by refine rfl) (hl : listed.getD i true = false := by refine rfl) (hr : rdyB after.toList listed = true := by refine rfl) (hn : copyB (listed.setIfInBounds i true).toList = some ll := by refine rfl) (hc : Calm Q := by with_reducible (repeat (first | assumption | refine calm_post | refine calm_postM | refine calm_round | apply calm_then | apply calm_block | apply calm_scope)))
  (h : A P n w0 F0 ops Hs ll.toArray Q ((d, enc ((kvGet kv u).getD z)) :: tm) D H) : A P n w0 F0 ops Hs listed Q tm D H := by
 subst hze
 refine a_yh (v := enc ((kvGet kv u).getD z)) hc hs ho hd hst htb hb hf hl hr (fun a w htm ⟨F, s⟩ => ?_) (by rw [copyB_arr hn]; exact h)
 obtain ⟨F1, F2, ⟨⟨es, clock, hw, he, _⟩, _⟩, _⟩ := tk.sep s
 simp only [execOp, ev_sound htm hx, ev_sound htm hy, Sem.run_bind, run_lookup_int_k k hw he ht hk hz, Result.andThen, Sem.run_pure, Bool.false_eq_true, if_false]
end Go.Proofs.YtelfjhemnnbbpaaGreat.SL
namespace Go.Proofs.YtelfjhemnnbbpaaGreat.SL
section
variable {P : Program} {E : Env} {n : Nat} {w0 : World} {F0 : Nat → Prop} {Q : Exit → Act → World → Prop} {tm : List (Nat × Value)} {D : List Deferred} {H H' : List SProp} {ops rest : List Oper}
variable {ty : TypeId} {pos : String} {after : Array Edge}
def assertV (E : Env) (s : Nat) (x : Value) : Option Value :=
 match x with
 | .iface t v => (match look E.ty s with
  | none => none
  | some (.interface _) => none
  | some _ => bif Nat.beq t s then some (.tuple #[v, .bool true]) else (match look E.inf s with
   | some (z, _, _) => some (.tuple #[z, .bool false])
   | none => none))
 | _ => none
theorem assertV_sound (k : EnvOk P E) {xt s : Nat} {x v : Value} (h : assertV E s x = some v) (w : World) : (Instr.typeAssert x xt s true).run P w = .ok v w := by
 unfold assertV at h
 split at h
 ·rename_i t u
  split at h
  ·cases h
  ·cases h
  ·rename_i d hd hu
   have hu' := k.under hu
   cases hb : Nat.beq t s with
   | true =>
    rw [hb, cond_true] at h
    simp only [Option.some.injEq] at h; subst h
    obtain rfl : t = s := Nat.eq_of_beq_eq_true hb
    unfold Instr.typeAssert
    simp only [Sem.run_bind, run_underlying hu', Result.andThen]
    cases d <;> first | exact absurd rfl (hd _) | simp
   | false =>
    rw [hb, cond_false] at h
    split at h
    ·rename_i z s1 b1 hi
     simp only [Option.some.injEq] at h; subst h
     have hne : t ≠ s := Nat.ne_of_beq_eq_false hb
     unfold Instr.typeAssert
     simp only [Sem.run_bind, run_underlying hu', Result.andThen]
     cases d <;> first | exact absurd rfl (hd _) | simp [hne, run_zero k hi, Result.andThen]
    ·cases h
 ·cases h
theorem l_assert {d xt s : Nat} {x : Operand} {u v : Value} (k : EnvOk P E := by refine inferInstance) (hd : Nat.blt d n = true := by refine rfl) (hx : ev tm x = some u := by refine rfl) (hv : assertV E s u = some v := by refine rfl)
  (h : L P n w0 F0 ops.toArray rest Q ((d, v) :: tm) D H) : L P n w0 F0 ops.toArray (⟨some d, .typeAssert x xt s true, ty, pos, after, none⟩ :: rest) Q tm D H :=
 .mk fun a w st => wpList_value rfl (v := v) (w' := w) (by simp only [execOp, ev_sound st.tm hx, Sem.run_bind, assertV_sound k hv, Result.andThen, Sem.run_pure]) (h _ _ (st.put hd v))
class Mth (P : Program) (t : Nat) (name : String) (g : FuncId) : Prop where
 it : ∃ i m, P.info? t = some i ∧ i.methods.find? (·.name == name) = some m ∧ m.path.toList = [] ∧ m.func = some (g, false)
def mthB (P : Program) (t : Nat) (name : String) (g : FuncId) : Bool :=
 match P.info? t with
 | none => false
 | some i => (match i.methods.find? (·.name == name) with
  | none => false
  | some m => m.path.toList.isEmpty && (match m.func with
   | some (f, false) => Nat.beq f g
   | _ => false))
theorem Mth.of {t : Nat} {name : String} {g : FuncId} (h : mthB P t name g = true) : Mth P t name g := by
 unfold mthB at h
 split at h
 ·cases h
 ·rename_i i hi
  split at h
  ·cases h
  ·rename_i m hm
   simp only [Bool.and_eq_true, List.isEmpty_iff] at h
   obtain ⟨h1, h2⟩ := h
   split at h2
   ·rename_i f hf
    have : f = g := Nat.eq_of_beq_eq_true h2
    subst this
    exact ⟨i, m, hi, hm, h1, hf⟩
   ·cases h2
def noPtr (E : Env) (t : Nat) : Bool :=
 match look E.ty t with
 | none => false
 | some (.pointer _) => false
 | some _ => true
theorem run_mth {t : Nat} {name : String} {g : FuncId} (k : EnvOk P E) (m : Mth P t name g) (hn : noPtr E t = true) (v : Value) (w : World) (fuel : Nat) : (method (fuel + 1) t v name).run P w = .ok (g, v) w := by
 obtain ⟨i, m, h1, h2, h3, h4⟩ := m.it
 unfold noPtr at hn
 split at hn
 ·cases hn
 ·cases hn
 ·rename_i d hd hu
  have hu' := k.under hu
  unfold method
  have ht : (typeInfo t).run P w = .ok i w := by simp [typeInfo, program, Sem.run, h1]
  simp only [Sem.run_bind, ht, Result.andThen, h2, h3, follow, Sem.run_pure, h4, receiverAt, run_underlying hu']
  cases d <;> first | exact absurd rfl (hd _) | simp [Place.get, Result.andThen]
theorem run_invoke {g t : Nat} {name : String} {tm : List (Nat × Value)} {a : Act} (k : EnvOk P E) (c : Callable P g) (m : Mth P t name g) (hn : noPtr E t = true) (ht : Tm n tm a) {f : Operand} {xs : Array Operand} {ts : Array TypeId} {v : Value} {vs : List Value}
  (hf : ev tm f = some (.iface t v)) (hx : evs tm xs.toList = some vs) (dst : Option Nat) (w : World) :
  (execOp a.eval ⟨dst, .call ⟨.invoke f name, xs, ts⟩, ty, pos, after, none⟩).run P w = .ok (.enter g (v :: vs).toArray) w := by
 obtain ⟨fn, h1, h2, h3⟩ := c.it
 have e1 : xs.map a.eval = vs.toArray := by apply Array.ext'; simpa using evs_sound ht hx
 have hN : ¬ (fn.name == "runtime.NumGoroutine") = true := by rw [h2]; exact Bool.false_ne_true
 have hb : ¬ fn.body.isNone = true := by rw [h3]; exact Bool.false_ne_true
 have hsz : 0 < Made.depth := by decide
 obtain ⟨fu, hfu⟩ : ∃ fu, P.types.size + Made.depth = fu + 1 := ⟨P.types.size + Made.depth - 1, by omega⟩
 have hc : ∀ args : Array Value, (callFunc g args).run P w = .ok (.enter g args) w := fun args => by
  unfold callFunc
  simp only [program, Sem.run_bind, Sem.run, Result.andThen, h1, if_neg hN, if_neg hb, Sem.run_pure]
 have e2 : (#[v] ++ vs.toArray) = (v :: vs).toArray := by apply Array.ext'; simp
 have hget : (#[Value.iface t v] ++ vs.toArray)[0]? = some (.iface t v) := by simp
 have hext : (#[Value.iface t v] ++ vs.toArray).extract 1 (#[Value.iface t v] ++ vs.toArray).size = vs.toArray := by apply Array.ext'; simp
 have hp : (program).run P w = .ok P w := by simp [program, Sem.run]
 simp only [execOp, resolve, ev_sound ht hf, e1, invoke, Sem.run_bind, Sem.run_pure, Result.andThen, hget, hext, callMethod, hp, hfu, run_mth k m hn v w fu, hc, e2]
theorem l_invoke_ {d g t : Nat} {f : Operand} {name : String} {xs : Array Operand} {ts : Array TypeId} {u : Value} {vs args args' : List Value} {K : List SProp} {q : Value → List SProp → Prop} (hs : Does P g args K q) (h : ∀ v K' H'', q v K' → appO K' H' = some H'' → L P n w0 F0 ops.toArray rest Q ((d, v) :: tm) D H'')
  (k : EnvOk P E := by refine inferInstance) (hf : ev tm f = some (.iface t u) := by refine rfl) (m : Mth P t name g := by refine inferInstance) (hn : noPtr E t = true := by refine rfl) (hd : Nat.blt d n = true := by refine rfl) (hx : evs tm xs.toList = some vs := by refine rfl) (ha : u :: vs = args' := by refine rfl) (he : args' = args := by with_reducible refine rfl)
  (hp : Parts K H H' := by with_reducible (repeat (first | refine Parts.nil | (apply Parts.cons; repeat (first | refine Take.here | apply Take.there))))) (c : Callable P g := by refine inferInstance) :
  L P n w0 F0 ops.toArray (⟨some d, .call ⟨.invoke f name, xs, ts⟩, ty, pos, after, none⟩ :: rest) Q tm D H := by
 refine .mk fun a w s => ?_
 subst he
 subst ha
 obtain ⟨F1, s1, back⟩ := (s.inv.parts hp).hand
 refine wpList_enter rfl (run_invoke k c m hn s.tm hf hx _ w) (R := fun v w' => ∃ K', q v K' ∧ Inv w F1 K' w') ?_ ?_
 ·exact (hs w F1 s1).mono fun e w' ⟨v, K', he, hq, hi⟩ => ⟨v, he, K', hq, hi⟩
 ·rintro v w' ⟨K', hq, hi⟩
  exact h v K' _ hq (appO_eq K' H') _ _ ⟨s.tm.put hd v, s.defers, back hi⟩
theorem l_invoke {d g t : Nat} {f : Operand} {name : String} {xs : Array Operand} {ts : Array TypeId} {u : Value} {vs args args' : List Value} {K K' H'' : List SProp} {V : Value} (hs : Does P g args K (fun v H => v = V ∧ H = K')) (h : L P n w0 F0 ops.toArray rest Q ((d, V) :: tm) D H'')
  (k : EnvOk P E := by refine inferInstance) (hf : ev tm f = some (.iface t u) := by refine rfl) (m : Mth P t name g := by refine inferInstance) (hn : noPtr E t = true := by refine rfl) (hd : Nat.blt d n = true := by refine rfl) (hx : evs tm xs.toList = some vs := by refine rfl) (ha : u :: vs = args' := by refine rfl) (he : args' = args := by with_reducible refine rfl)
  (hp : Parts K H H' := by with_reducible (repeat (first | refine Parts.nil | (apply Parts.cons; repeat (first | refine Take.here | apply Take.there))))) (ho : appO K' H' = some H'' := by refine rfl) (c : Callable P g := by refine inferInstance) :
  L P n w0 F0 ops.toArray (⟨some d, .call ⟨.invoke f name, xs, ts⟩, ty, pos, after, none⟩ :: rest) Q tm D H :=
 l_invoke_ hs (fun v K1 H2 ⟨e1, e2⟩ e3 => by subst e1 e2; rw [ho] at e3; cases e3; exact h) k hf m hn hd hx ha he hp c
end
end Go.Proofs.YtelfjhemnnbbpaaGreat.SL
set_option maxRecDepth 20000
namespace Go.Proofs.YtelfjhemnnbbpaaGreat
open Go.Proofs.YtelfjhemnnbbpaaGreat.SL
theorem Key_does (k a b : Nat) (hk : k < 16) (ha : a ≤ 268435455) (hb : b < 4294967296) : Does Tryz.prog 70 [.int .i64 k, .int .i64 a, .int .i64 b] [] (fun v H => v = .tuple #[.int .u64 (kyN k a b : Nat), .bool true] ∧ H = []) := by
 refine does_of Tryz.func70 Tryz.ntmps70 rfl rfl rfl (fun w0 F0 => ?_)
 (repeat' (first|refine g_seq (h:=?_)|refine g_region (h:=?_)|refine l_nil (h:=?_)|refine n_then (h:=?_)|refine l_pures1 (h:=?_)|refine l_guard_yes (h:=?_)|refine l_shl (h:=?_)|refine g_skip (h:=?_)|refine g_ret (h:=?_)|(refine l_spF (h:=?_); intro h)|(refine g_spF (h:=?_); intro h)))
 refine r_ret ?_
 refine ⟨?_, rfl⟩
 have p60 : (2 : Int) ^ min (Int.toNat 60) IntKind.u64.bits = 1152921504606846976 := by decide
 have p32 : (2 : Int) ^ min (Int.toNat 32) IntKind.u64.bits = 4294967296 := by decide
 rw [p60, p32, wrapU64 (n := (k : Int)) (by omega), wrapU64 (n := (a : Int)) (by omega), wrapU64 (n := (b : Int)) (by omega), wrapU64 (n := (k : Int) * 1152921504606846976) (by omega), wrapU64 (n := (a : Int) * 4294967296) (by omega), wrapU64 (n := (k : Int) * 1152921504606846976 + (a : Int) * 4294967296) (by omega), wrapU64 (by omega)]
 simp [packV, kyN]
end Go.Proofs.YtelfjhemnnbbpaaGreat
set_option maxRecDepth 20000
namespace Go.Proofs.YtelfjhemnnbbpaaGreat
open Go.Proofs.YtelfjhemnnbbpaaGreat.SL
instance mthSlot : Mth Tryz.prog 220 "bailiwick/rec.right" 189 := Mth.of (by kernel_rfl)
theorem putN_ok {n k : Nat} (hk : 1 ≤ k ∧ k ≤ 8) (h : n < 256 ^ k) : numPut n (k : Int) = (putN n k, 0) := by
 rw [numPut, if_neg (by omega), if_pos (by simpa using h)]; simp
theorem take_putN {n k : Nat} (hk : 1 ≤ k ∧ k ≤ 8) (h : n < 256 ^ k) (r : List UInt8) : numTake (putN n k ++ r) (k : Int) = (n, r, 0) := by
 have hl := putN_length k n
 rw [take_of (by simp [hl]) hk, List.take_left' hl, List.drop_left' hl, getN_putN _ _ h]
theorem in_does (n lo hi : Int) (h : lo ≤ n ∧ n ≤ hi) : Does Tryz.prog 187 [.int .i64 n, .int .i64 lo, .int .i64 hi] [] (fun v H => v = .bool true ∧ H = []) := by
 refine does_of Tryz.func187 Tryz.ntmps187 rfl rfl rfl (fun w0 F0 => ?_)
 (repeat' (first|refine g_seq (h:=?_)|refine g_region (h:=?_)|refine l_nil (h:=?_)|refine n_then (h:=?_)|refine l_pures1 (h:=?_)|refine l_guard_yes (h:=?_)|refine g_ret (h:=?_)|(refine l_spT (h:=?_); intro h)))
 refine r_ret ?_
 exact ⟨(by first | (simp [packV]; done) | (simp [packV]; omega)), rfl⟩
abbrev Wr (b : Nat) (l : List UInt8) : SProp := cl b 214 [.string (str l)]
theorem wNumber_does (b n k : Nat) (l : List UInt8) (hk : 1 ≤ k ∧ k ≤ 8) (h : n < 256 ^ k) (hn : n < 18446744073709551616) (hl : l.length < 1000) : Does Tryz.prog 121 [.pointer (some ⟨b, 0, none⟩), .int .u64 n, .int .i64 k] [Wr b l] (fun v H => v = .tuple #[] ∧ H = [Wr b (l ++ putN n k)]) := by
 have hp := Put_does n k hn (by omega)
 rw [putN_ok hk h] at hp
 have hpl := putN_length k n
 refine does_of Tryz.func121 Tryz.ntmps121 rfl rfl rfl (fun w0 F0 => ?_)
 (repeat' (first|refine g_seq (h:=?_)|refine g_region (h:=?_)|refine l_nil (h:=?_)|refine n_then (h:=?_)|refine l_pures1 (h:=?_)|(refine l_atc ?_; refine l_call (hp) ?_)|refine l_load (h:=?_)|refine l_store (h:=?_)|refine l_concat (h:=?_)))
 refine r_endk [Wr b (l ++ putN n k)] ?_
 exact ⟨rfl, rfl⟩
theorem wSmall_does (b n k : Nat) (l : List UInt8) (hk : 1 ≤ k ∧ k ≤ 8) (h : n < 256 ^ k) (hn : n < 9223372036854775808) (hl : l.length < 1000) : Does Tryz.prog 119 [.pointer (some ⟨b, 0, none⟩), .int .i64 n, .int .i64 k] [Wr b l] (fun v H => v = .tuple #[] ∧ H = [Wr b (l ++ putN n k)]) := by
 have hw := wNumber_does b n k l hk h (by omega) hl
 have ew : IntKind.u64.wrap (n : Int) = n := wrapU64 (by omega)
 refine does_of Tryz.func119 Tryz.ntmps119 rfl rfl rfl (fun w0 F0 => ?_)
 (repeat (first|refine g_region (h:=?_)|refine l_pures1 (h:=?_)))
 rw [ew]
 (repeat' (first|refine l_nil (h:=?_)|(refine l_atc ?_; refine l_call (hw) ?_)))
 refine r_endk [Wr b (l ++ putN n k)] ?_
 exact ⟨rfl, rfl⟩
abbrev Rd14 (b : Nat) (l : List UInt8) : SProp := cl b 137 [.string (str l), .bool false]
theorem rNumber_does (b n k : Nat) (r : List UInt8) (hk : 1 ≤ k ∧ k ≤ 8) (h : n < 256 ^ k) (hr : r.length < 1000) : Does Tryz.prog 98 [.pointer (some ⟨b, 0, none⟩), .int .i64 k] [Rd14 b (putN n k ++ r)] (fun v H => v = .int .u64 n ∧ H = [Rd14 b r]) := by
 have ht := Take_does (putN n k ++ r) k (by omega) (by simp [putN_length]; omega)
 rw [take_putN hk h] at ht
 have ht : Does Tryz.prog 79 [.string (str (putN n k ++ r)), .int .i64 k] [] (fun v H => v = .tuple #[.int .u64 n, .string (str r), .int .i64 0] ∧ H = []) := ht
 refine does_of Tryz.func98 Tryz.ntmps98 rfl rfl rfl (fun w0 F0 => ?_)
 (repeat' (first|refine g_seq (h:=?_)|refine g_region (h:=?_)|refine l_nil (h:=?_)|refine n_then (h:=?_)|refine l_pures1 (h:=?_)|(refine l_atc ?_; refine l_call (ht) ?_)|refine l_guard_yes (h:=?_)|refine l_load (h:=?_)|refine l_store (h:=?_)|refine g_ret (h:=?_)))
 refine r_ret ?_
 exact ⟨rfl, rfl⟩
theorem rSmall_does (b n k : Nat) (r : List UInt8) (hk : 1 ≤ k ∧ k ≤ 8) (h : n < 256 ^ k) (hn : n < 9223372036854775808) (hr : r.length < 1000) : Does Tryz.prog 71 [.pointer (some ⟨b, 0, none⟩), .int .i64 k] [Rd14 b (putN n k ++ r)] (fun v H => v = .int .i64 n ∧ H = [Rd14 b r]) := by
 have hw := rNumber_does b n k r hk h hr
 have ew : IntKind.i64.wrap (n : Int) = n := wrapI64 (by omega)
 refine does_of Tryz.func71 Tryz.ntmps71 rfl rfl rfl (fun w0 F0 => ?_)
 (repeat' (first|refine g_seq (h:=?_)|refine g_region (h:=?_)|refine l_nil (h:=?_)|refine n_then (h:=?_)|refine l_pures1 (h:=?_)|(refine l_atc ?_; refine l_call (hw) ?_)|refine g_ret (h:=?_)))
 refine r_retk [Rd14 b r] ?_
 exact ⟨by rw [ew]; rfl, rfl⟩
end Go.Proofs.YtelfjhemnnbbpaaGreat
set_option maxRecDepth 20000
namespace Go.Proofs.YtelfjhemnnbbpaaGreat
open Go.Proofs.YtelfjhemnnbbpaaGreat.SL
theorem sepL_lt {x : Nat} : ∀ {kl : List Nat} {sl : List Sub}, SepL kl sl → (∀ k ∈ kl, k ≤ x) → ∀ e ∈ Sub.all sl, e.1 < x
 | [], [], _, _, e, he => by simp [Sub.all] at he
 | k :: kl, s :: sl, ⟨h1, h2, h3⟩, hk, e, he => by
  rw [Sub.all_cons, List.mem_append] at he
  rcases he with he | he
  ·have := h1 e he
   have := hk k (by simp)
   omega
  ·exact sepL_lt h3 (fun k hk' => hk k (by simp [hk'])) e he
theorem geE_none {es : List Ent} {x : Nat} (h : ∀ e ∈ es, e.1 < x) : geE es x = [] := by
 refine List.filter_eq_nil_iff.2 fun e he => ?_
 have := h e he
 simp; omega
theorem all2_get {α β : Type} {R : α → β → Prop} : ∀ {l : List α} {m : List β} {i : Nat} {a : α}, All2 R l m → l[i]? = some a → ∃ b, m[i]? = some b ∧ R a b
 | [], [], i, a, _, h => by simp at h
 | x :: l, y :: m, 0, a, q, h => by simp only [List.getElem?_cons_zero, Option.some.injEq] at h ⊢; subst h; exact ⟨y, rfl, q.1⟩
 | x :: l, y :: m, i + 1, a, q, h => by simp only [List.getElem?_cons_succ] at h ⊢; exact all2_get q.2 h
set_option maxHeartbeats 4000000 in
theorem from_does (b sb db x N l : Nat) (C X : List Ent → SProp) (stop : List Ent → Bool) (hY : ∀ dn e, dn.length < 100000 → SL.Yields Tryz.prog l [entV e] [C dn] (fun v H => v = .bool (!stop (dn ++ [e])) ∧ H = [if stop (dn ++ [e]) then X (dn ++ [e]) else C (dn ++ [e])]))
  {S : Sh} {D : Dk} {U : List Int} (k : Fine N S D U) : ∀ (h : Nat) (d : Nd) (es : List Ent) (ps : List Int) (deep : Nat) (pg read : Int) (dn : List Ent), NT (Gd N D) h d es ps → d.good → (d.leaf = false → d.keys ≠ []) → Gd N D pg d → deep + h ≤ 10 → 0 ≤ read → read + ps.length + 1 ≤ 640 → dn.length + es.length ≤ 100000 →
  Does Tryz.prog 139 [.pointer (some ⟨b, 0, none⟩), .int .i64 pg, .int .i64 deep, .int .u64 x, .func (.yield l) #[] #[]] [C dn, Wk b sb read 0, Store sb db S, Disk db D]
   (fun v H => ∃ rd : Int, 0 ≤ rd ∧ rd ≤ read + ps.length + 1 ∧ v = .bool (!(feed stop dn (geE es x)).2) ∧ H = [fedP C X (feed stop dn (geE es x)), Wk b sb rd 0, Store sb db S, Disk db D])
 | 0, d, es, ps, deep, pg, read, dn, n, hd, hne, hg, hdp, hr0, hrd, hdl => by
  obtain ⟨hlf, hp, rfl, rfl⟩ := n
  refine (from_leaf b sb db x N l C X stop hY deep pg read S D d hd hlf (by rw [k.read hg.1, hg.2]) (by simp at hrd; omega) (by omega) dn hdl).mono ?_
  rintro v H ⟨rfl, rfl⟩
  exact ⟨read + 1, by omega, by simp, rfl, rfl⟩
 | hh + 1, d, es, ps, deep, pg, read, dn, n, hd, hne, hg, hdp, hr0, hrd, hdl => by
  have hlf := n.1
  obtain ⟨_, _, ss, f, e, e2, sp⟩ := n
  subst e e2
  have hlen := sp.len
  have hkl := kidsLen hd.p hlf
  obtain ⟨c1', c2', c3'⟩ := cntN_spec (x := x) hd.p.rise
  obtain ⟨i0, hi0⟩ : ∃ i0, i0 = cntN d.keys x := ⟨_, rfl⟩
  rw [← hi0] at c1' c2' c3'
  have hn := wNode_does b sb db deep pg read S D d hd (by rw [k.read hg.1, hg.2]) (by omega) (by omega)
  have hF := fun r => Find_does d r x hd.fits hd.p.rise
  simp only [hlf, Bool.false_eq_true, if_false, ← hi0] at hF
  have hfk := hd.fits.k
  have h0 : geE (Sub.all (ss.take i0)) x = [] := by
   refine geE_none (sepL_lt (kl := d.keys.take i0) (sl := ss.take i0) ?_ c2')
   have := (sep_app (kl := d.keys.take i0) (kr := d.keys.drop i0) (sl := ss.take i0) (sr := ss.drop i0) (by simp; omega)).1 (by rw [List.take_append_drop, List.take_append_drop]; exact sp)
   exact this.1
  have hall : geE (Sub.all ss) x = geE (Sub.all (ss.drop i0)) x := by
   have : Sub.all ss = Sub.all (ss.take i0) ++ Sub.all (ss.drop i0) := by rw [← Sub.all_append, List.take_append_drop]
   rw [this, geE_append, h0, List.nil_append]
  have hpl : (Sub.pages (ss.drop i0)).length ≤ (Sub.pages ss).length := by
   have : Sub.pages ss = Sub.pages (ss.take i0) ++ Sub.pages (ss.drop i0) := by rw [← Sub.pages_append, List.take_append_drop]
   rw [this, List.length_append]; omega
  have hal : (Sub.all (ss.drop i0)).length ≤ (Sub.all ss).length := by
   have : Sub.all ss = Sub.all (ss.take i0) ++ Sub.all (ss.drop i0) := by rw [← Sub.all_append, List.take_append_drop]
   rw [this, List.length_append]; omega
  refine does_of Tryz.func139 Tryz.ntmps139 rfl rfl rfl (fun w0 F0 => ?_)
  (repeat' (first|refine g_seq (h:=?_)|refine g_region (h:=?_)|refine l_nil (h:=?_)|refine n_then (h:=?_)|refine l_pures1 (h:=?_)|(refine l_atc ?_; refine l_call_ (hn) ?_; rintro _ _ _ ⟨r, rfl, rfl⟩ he; cases he)|(refine l_atc ?_; refine l_call (hF _) ?_)|refine l_load (h:=?_)|refine l_store (h:=?_)|(refine l_alloc (h:=?_); intro _)|refine g_skip (h:=?_)|refine g_block (h:=?_)|refine g_cond_f (h:=?_)|(refine g_sp (h1 := ?_) (h0 := ?_) <;> intro h)))
  rotate_left
  ·exact absurd h (by rw [hlf]; simp)
  rename_i b11
  obtain ⟨p1, q1, p2, q2, p3, q3⟩ := r
  refine g_open (A := Nds d ⟨p1, q1, p2, q2, p3, q3⟩) (h:=?_); (rintro _ _; dsimp only [NdsK, List.cons_append, List.nil_append])
  refine g_ptr (m := d.kids.length) (h:=?_); rintro g3 rfl hc3
  (refine g_loop (fun y : Nat × List Ent × Int => [(12, .int .i64 y.1), (11, .pointer (some ⟨b11, 0, none⟩)), (4, .func (.yield l) #[] #[]), (3, .int .u64 x), (2, .int .i64 deep), (0, .pointer (some ⟨b, 0, none⟩))]) (fun y => [C y.2.1, vec 3 1 (some ⟨g3, 0, none⟩) d.kids.length q3 (d.kids.map encZ'), cl b11 175 [.bool d.leaf, .slice p1 d.keys.length q1, .slice p2 d.vals.length q2, .slice (some ⟨g3, 0, none⟩) d.kids.length q3], Wk b sb y.2.2 0, Store sb db S, Disk db D]) (fun y => y.1 ≤ d.kids.length ∧ feed stop dn (geE (Sub.all ss) x) = feed stop y.2.1 (geE (Sub.all (ss.drop y.1)) x) ∧ 0 ≤ y.2.2 ∧ y.2.2 + (Sub.pages (ss.drop y.1)).length ≤ read + 1 + (Sub.pages ss).length ∧ y.2.1.length + (Sub.all (ss.drop y.1)).length ≤ 100000) (fun y => d.kids.length - y.1) ((i0, dn, read + 1)) ?_ ?_ ?_ ?_; rotate_left; (repeat (first | refine ts_nil | (refine ts_cons rfl ?_ ?_; first | (with_reducible rfl) | rotate_left))); (first | (intro _ i; with_reducible refine i) | rotate_left); rotate_left; (try omega); rotate_right)
  ·rintro ⟨j, dn', rd⟩ ⟨hj, hf, hr1, hr2, hr3⟩
   dsimp only at hj hf hr1 hr2 hr3 ⊢
   by_cases hjl : j < d.kids.length
   ·have hgk := iGet (l := d.kids) (k := j) hjl
    obtain ⟨s, hs, d', ps', a1, a2, a3, a4, a5⟩ := all2_get f (List.getElem?_eq_getElem hjl)
    have hkid : d.kids.getD j 0 = d.kids[j] := by simp [List.getD, hjl]
    have hdr : ss.drop j = s :: ss.drop (j + 1) := by
     have hjs : j < ss.length := (List.getElem?_eq_some_iff.1 hs).1
     rw [List.drop_eq_getElem_cons hjs]
     congr 1
     rw [List.getElem?_eq_getElem hjs] at hs
     exact Option.some.inj hs
    rw [hdr, Sub.pages_cons, List.length_append, a5, List.length_cons] at hr2
    rw [hdr, Sub.all_cons, List.length_append] at hr3
    have hfl := feed_len stop (geE s.es x) dn'
    have hgl : (geE s.es x).length ≤ s.es.length := List.length_filter_le _ _
    have ih := from_does b sb db x N l C X stop hY k hh d' s.es ps' (deep + 1) d.kids[j] rd dn' a4 a2 a3 a1 (by omega) hr1 (by omega) (by omega)
    have ew : IntKind.i64.wrap ((deep : Int) + 1) = ((deep + 1 : Nat) : Int) := by rw [wrapI64 (by omega)]; rfl
    rw [← ew, ← hkid] at ih
    have hfs : feed stop dn (geE (Sub.all ss) x) = if (feed stop dn' (geE s.es x)).2 then feed stop dn' (geE s.es x) else feed stop (feed stop dn' (geE s.es x)).1 (geE (Sub.all (ss.drop (j + 1))) x) := by
     rw [hf, hdr, Sub.all_cons, geE_append, feed_append]
    obtain ⟨⟨dn2, st⟩, hfd⟩ : ∃ r, feed stop dn' (geE s.es x) = r := ⟨_, rfl⟩
    rw [hfd] at ih hfs hfl
    dsimp only at hfl
    cases st
    ·simp only [fedP, Bool.false_eq_true, if_false, Bool.not_false] at ih hfs
     (repeat' (first|refine g_seq (h:=?_)|refine g_region (h:=?_)|refine l_nil (h:=?_)|refine n_then (h:=?_)|refine l_pures1 (h:=?_)|(refine l_atc ?_; refine l_call_ (ih) ?_; rintro _ _ _ ⟨rd2, v1, v2, rfl, rfl⟩ he; cases he)|refine l_load (h:=?_)|refine l_indexAddr (h:=?_)|refine g_skip (h:=?_)|refine g_block (h:=?_)|refine n_block (h:=?_)|refine g_cond_f (h:=?_)|refine l_load_vec (h:=?_)|(refine g_spT (h:=?_); intro h)))
     (refine n_back ((j + 1, dn2, rd2)) ?_ ?_ ?_ ?_; rotate_left; rotate_left; (repeat (first | refine ts_nil | (refine ts_cons rfl ?_ ?_; first | (with_reducible rfl) | rotate_left))); (first | (intro _ i; with_reducible refine i) | rotate_left); (try omega); (try omega))
     ·exact ⟨hjl, by rw [hfs], v1, by dsimp only; omega, by dsimp only; omega⟩
     ·dsimp only; omega
     ·rw [wrapI64 (by omega)] <;> rfl
     ·skip
      (intro _ i; exact inv_keep parts_of i)
    ·simp only [fedP, if_true, Bool.not_true] at ih hfs
     (repeat' (first|refine g_seq (h:=?_)|refine g_region (h:=?_)|refine l_nil (h:=?_)|refine n_then (h:=?_)|refine l_pures1 (h:=?_)|(refine l_atc ?_; refine l_call_ (ih) ?_; rintro _ _ _ ⟨rd2, v1, v2, rfl, rfl⟩ he; cases he)|refine l_load (h:=?_)|refine l_indexAddr (h:=?_)|refine g_skip (h:=?_)|refine g_ret (h:=?_)|refine n_then_ret (h:=?_)|refine n_block_ret (h:=?_)|refine g_block (h:=?_)|refine g_cond_t (h:=?_)|refine l_load_vec (h:=?_)|(refine g_spT (h:=?_); intro h)))
     refine r_retk [X dn2, Wk b sb rd2 0, Store sb db S, Disk db D] ?_
     rw [hfs]
     exact ⟨rd2, v1, by omega, rfl, rfl⟩
   ·have hfs : feed stop dn (geE (Sub.all ss) x) = (dn', false) := by rw [hf, List.drop_eq_nil_of_le (by omega)]; rfl
    (repeat' (first|refine g_seq (h:=?_)|refine g_region (h:=?_)|refine l_nil (h:=?_)|refine n_then (h:=?_)|refine l_pures1 (h:=?_)|refine l_load (h:=?_)|refine g_ret (h:=?_)|refine n_then_ret (h:=?_)|refine g_exit (h:=?_)|refine n_then_exit (h:=?_)|refine n_block_hit (h:=?_)|(refine g_spF (h:=?_); intro h)))
    refine r_retk [C dn', Wk b sb rd 0, Store sb db S, Disk db D] ?_
    rw [hfs]
    exact ⟨rd, hr1, by omega, rfl, rfl⟩
  ·exact ⟨by dsimp only; omega, hall ▸ rfl, by dsimp only; omega, by dsimp only; omega, by dsimp only; omega⟩
  ·intro _ i
   exact inv_keep parts_of i
end Go.Proofs.YtelfjhemnnbbpaaGreat
set_option maxRecDepth 20000
namespace Go.Proofs.YtelfjhemnnbbpaaGreat
open Go.Proofs.YtelfjhemnnbbpaaGreat.SL
def entC (es : List Ent) : List Value := es.flatMap fun e => [Value.int .u64 (e.1 : Nat), .string (str e.2)]
theorem entC_snoc (es : List Ent) (e : Ent) : entC (es ++ [e]) = entC es ++ [Value.int .u64 (e.1 : Nat), .string (str e.2)] := by simp [entC]
theorem entC_len (es : List Ent) : (entC es).length = es.length * 2 := by
 induction es with
 | nil => rfl
 | cons e es ih => simp only [entC, List.flatMap_cons, List.length_append, List.length_cons, List.length_nil] at *; omega
theorem entries_does (b : Nat) (root : Int) (x : Nat) : Does Tryz.prog 118 [.pointer (some ⟨b, 0, none⟩), .int .i64 root, .int .u64 x] []
  (fun v H => ∃ b1 b2 b3, v = .func (.func 138) #[] #[.pointer (some ⟨b1, 0, none⟩), .pointer (some ⟨b2, 0, none⟩), .pointer (some ⟨b3, 0, none⟩)] ∧
   H = [cl b1 170 [.pointer (some ⟨b, 0, none⟩)], cl b2 3 [.int .i64 root], cl b3 78 [.int .u64 x]]) := by
 refine does_of Tryz.func118 Tryz.ntmps118 rfl rfl rfl (fun w0 F0 => ?_)
 (repeat (first|refine g_seq (h:=?_)|refine g_region (h:=?_)|refine l_nil (h:=?_)|refine n_then (h:=?_)|refine l_pures1 (h:=?_)|(refine l_box (h:=?_); intro _)|refine g_ret (h:=?_)))
 rename_i b1 b2 b3
 refine r_retk [cl b1 170 [.pointer (some ⟨b, 0, none⟩)], cl b2 3 [.int .i64 root], cl b3 78 [.int .u64 x]] ?_
 exact ⟨b1, b2, b3, rfl, rfl⟩
theorem entriesF_does (b b1 b2 b3 sb db l : Nat) (root : Int) (x : Nat) (S : Sh) (D : Dk) (K : List SProp) (q : Value → List SProp → Prop) (A : SProp)
  (hd : Does Tryz.prog 139 [.pointer (some ⟨b, 0, none⟩), .int .i64 root, .int .i64 1, .int .u64 x, .func (.yield l) #[] #[]] [A, Wk b sb 0 0, Store sb db S, Disk db D] q) :
  Does Tryz.prog 138 [.func (.yield l) #[] #[], .pointer (some ⟨b1, 0, none⟩), .pointer (some ⟨b2, 0, none⟩), .pointer (some ⟨b3, 0, none⟩)]
   [A, Wk b sb 0 0, Store sb db S, Disk db D, cl b1 170 [.pointer (some ⟨b, 0, none⟩)], cl b2 3 [.int .i64 root], cl b3 78 [.int .u64 x]]
   (fun v H => ∃ u K', q u K' ∧ H = K' ++ [cl b1 170 [.pointer (some ⟨b, 0, none⟩)], cl b2 3 [.int .i64 root], cl b3 78 [.int .u64 x]]) := by
 refine does_of Tryz.func138 Tryz.ntmps138 rfl rfl rfl (fun w0 F0 => ?_)
 (repeat (first|refine g_region (h:=?_)|refine l_pures1 (h:=?_)|(refine l_atc ?_; refine l_call_ (hd) ?_)|refine l_load (h:=?_)))
 rintro v K' H'' hq he
 rw [appO_eq] at he
 cases he
 (repeat refine l_nil (h:=?_))
 refine r_end ?_
 exact ⟨v, K', hq, rfl⟩
abbrev ScK (l n : Nat) (tm : List (Nat × Value)) (asg body : Code) (st : LoopState) (pe : Option Code) (b11 b7 : Nat) (most : Int) (dn : List Ent) (x : Option Addr × Nat) : List SProp :=
 [lp l n tm #[26] asg body st pe, cl b11 118 [.slice x.1 dn.length x.2], vec 121 2 x.1 dn.length x.2 (entC dn), cl b7 3 [.int .i64 most]]
def Sc (l n : Nat) (tm : List (Nat × Value)) (asg body : Code) (st : LoopState) (pe : Option Code) (b11 b7 : Nat) (most : Int) (dn : List Ent) : SProp := hid (fun _ : Option Addr × Nat => True) (ScK l n tm asg body st pe b11 b7 most dn)
set_option maxHeartbeats 4000000 in
theorem scan_yields0 (l b11 b7 : Nat) (most : Int) (tm0 : List (Nat × Value)) (asg body : Code) (dn : List Ent) (e : Ent) (p : Option Addr) (cap : Nat) (hdn : dn.length < 100000) (w11 : tget tm0 11 = some (.pointer (some ⟨b11, 0, none⟩))) (w7 : tget tm0 7 = some (.pointer (some ⟨b7, 0, none⟩)))
  (hA : asg = rfA (nav [1, 1, 1, 1, 0, 1, 2] (bdy Tryz.f93))) (hB : body = rfB (nav [1, 1, 1, 1, 0, 1, 2] (bdy Tryz.f93))) :
  SL.Yields Tryz.prog l [entV e] (ScK l 45 tm0 asg body .ready none b11 b7 most dn (p, cap))
   (fun v H => v = .bool (!decide (((dn ++ [e]).length : Int) = most)) ∧ ∃ x R, Parts (if ((dn ++ [e]).length : Int) = most then ScK l 45 tm0 asg body .done (some (.exit 0)) b11 b7 most (dn ++ [e]) x else ScK l 45 tm0 asg body .ready none b11 b7 most (dn ++ [e]) x) H R) := by
 dsimp only [ScK]
 refine yields_of (ps := [26]) (fun w0 F0 => ?_)
 refine gr_weak (tm' := [(26, entV e), (11, .pointer (some ⟨b11, 0, none⟩)), (7, .pointer (some ⟨b7, 0, none⟩))]) ⟨rfl, w11, w7, trivial⟩ (fun i => i) ?_
 have e0 : (dn ++ [e]).length = dn.length + 1 := by simp
 have e1 : entC dn ++ #[Value.int .u64 (e.1 : Nat), .string (str e.2)].toList = entC (dn ++ [e]) := (entC_snoc dn e).symm
 refine gr_as hA ?_
 dsimp only [rfA, nav, bdy, Tryz.f93, Option.getD]
 (repeat (first|refine l_nil (h:=?_)|refine l_store (h:=?_)|(refine l_alloc (h:=?_); intro _)|refine gr_region (h:=?_)))
 rename_i b12
 refine n_begin (h:=?_)
 refine gr_as hB ?_
 dsimp only [rfA, rfB, nav, bdy, Tryz.f93, Option.getD]
 (repeat' (first|refine l_nil (h:=?_)|refine l_pures1 (h:=?_)|refine l_load (h:=?_)|refine l_store (h:=?_)|(refine l_buildSlice1 (h:=?_); intro _)|(refine l_append_new (h:=?_); intro _ _)|refine n_block_miss (h:=?_)|refine n_block (h:=?_)|refine gr_seq (h:=?_)|refine gr_region (h:=?_)|refine nr_then (h:=?_)|refine gr_block (h:=?_)|refine gr_skip (h:=?_)|refine gr_exit (h:=?_)|(refine gr_sp (h1 := ?_) (h0 := ?_) <;> intro h)))
 all_goals rename_i b1 p' cap'
 all_goals have hm := h
 all_goals rw [← e0] at hm ⊢
 all_goals rw [e1]
 ·refine n_round_x ⟨by rw [decide_eq_true hm]; rfl, (p', cap'), ?_⟩
  rw [if_pos hm]
  exact ⟨_, parts_of⟩
 ·refine n_round ⟨by rw [decide_eq_false hm]; rfl, (p', cap'), ?_⟩
  rw [if_neg hm]
  exact ⟨_, parts_of⟩
theorem scan_yields (l b11 b7 : Nat) (most : Int) (tm0 : List (Nat × Value)) (asg body : Code) (w11 : tget tm0 11 = some (.pointer (some ⟨b11, 0, none⟩))) (w7 : tget tm0 7 = some (.pointer (some ⟨b7, 0, none⟩)))
  (hA : asg = rfA (nav [1, 1, 1, 1, 0, 1, 2] (bdy Tryz.f93))) (hB : body = rfB (nav [1, 1, 1, 1, 0, 1, 2] (bdy Tryz.f93))) (dn : List Ent) (e : Ent) (hdn : dn.length < 100000) :
  SL.Yields Tryz.prog l [entV e] [Sc l 45 tm0 asg body .ready none b11 b7 most dn] (fun v H => v = .bool (!decide (((dn ++ [e]).length : Int) = most)) ∧ H = [if decide (((dn ++ [e]).length : Int) = most) = true then Sc l 45 tm0 asg body .done (some (.exit 0)) b11 b7 most (dn ++ [e]) else Sc l 45 tm0 asg body .ready none b11 b7 most (dn ++ [e])]) := by
 refine SL.Yields.open hid_opens ?_
 rintro ⟨p, cap⟩ _
 refine (scan_yields0 l b11 b7 most tm0 asg body dn e p cap hdn w11 w7 hA hB).post ?_
 rintro v H' ⟨rfl, x, R, hp⟩
 refine ⟨_, ⟨rfl, rfl⟩, ?_⟩
 intro w0 F0 w i
 by_cases hm : ((dn ++ [e]).length : Int) = most
 ·rw [if_pos hm] at hp
  rw [if_pos (by simpa using hm)]
  exact shut_of (p := fun _ : Option Addr × Nat => True) (K := ScK l 45 tm0 asg body .done (some (.exit 0)) b11 b7 most (dn ++ [e])) x trivial hp i
 ·rw [if_neg hm] at hp
  rw [if_neg (by simpa using hm)]
  exact shut_of (p := fun _ : Option Addr × Nat => True) (K := ScK l 45 tm0 asg body .ready none b11 b7 most (dn ++ [e])) x trivial hp i
theorem feed_take (most : Int) (h : 1 ≤ most) : ∀ (es dn : List Ent), (dn.length : Int) < most → feed (fun l => decide ((l.length : Int) = most)) dn es = if dn.length + es.length < most then (dn ++ es, false) else (dn ++ es.take (most.toNat - dn.length), true)
 | [], dn, hl => by
  rw [if_pos (by simpa using hl)]; simp [feed]
 | e :: es, dn, hl => by
  simp only [feed, List.length_append, List.length_cons, List.length_nil, Nat.zero_add]
  by_cases q : ((dn.length + 1 : Nat) : Int) = most
  ·rw [if_pos (by simpa using q), if_neg (by omega)]
   have : most.toNat - dn.length = 1 := by omega
   rw [this]; simp
  ·rw [if_neg (by simpa using q), feed_take most h es (dn ++ [e]) (by simp; omega)]
   simp only [List.length_append, List.length_cons, List.length_nil, Nat.zero_add]
   by_cases q2 : ((dn.length + 1 : Nat) : Int) + (es.length : Nat) < most
   ·rw [if_pos (by omega), if_pos (by omega)]; simp
   ·rw [if_neg (by omega), if_neg (by omega)]
    have : most.toNat - dn.length = (most.toNat - (dn.length + 1)) + 1 := by omega
    rw [this, List.take_succ_cons]; simp
def ScF (bw b11 b7 b1 b2 b3 sb db x : Nat) (root most : Int) (S : Sh) (D : Dk) (es : List Ent) (K' : List SProp) : Prop :=
 ∃ (p : Option Addr) (cap : Nat) (rd : Int), K' = [cl b11 118 [.slice p es.length cap], vec 121 2 p es.length cap (entC es), cl b7 3 [.int .i64 most], Wk bw sb rd 0, Store sb db S, Disk db D, cl b1 170 [.pointer (some ⟨bw, 0, none⟩)], cl b2 3 [.int .i64 root], cl b3 78 [.int .u64 x]]
theorem scan_hs (bw b11 b7 b1 b2 b3 sb db x N : Nat) (root most : Int) (U : List Int) (T : List Ent) (S : Sh) (D : Dk) (k : Fine N S D U) {h : Nat} {ps : List Int} (o : OnP (Gd N D) h root ⟨T, ps⟩) (hp : ps.length + 2 ≤ N) (hT : T.length < 10000) (hmo : 1 ≤ most) (l : Nat)
  (tm0 : List (Nat × Value)) (asg body : Code) (w11 : tget tm0 11 = some (.pointer (some ⟨b11, 0, none⟩))) (w7 : tget tm0 7 = some (.pointer (some ⟨b7, 0, none⟩)))
  (hA : asg = rfA (nav [1, 1, 1, 1, 0, 1, 2] (bdy Tryz.f93))) (hB : body = rfB (nav [1, 1, 1, 1, 0, 1, 2] (bdy Tryz.f93))) :
  Does Tryz.prog 138 [.func (.yield l) #[] #[], .pointer (some ⟨b1, 0, none⟩), .pointer (some ⟨b2, 0, none⟩), .pointer (some ⟨b3, 0, none⟩)]
   [lp l 45 tm0 #[26] asg body .ready none, cl b11 118 [.slice none 0 0], vec 121 2 none 0 0 [], cl b7 3 [.int .i64 most], Wk bw sb 0 0, Store sb db S, Disk db D, cl b1 170 [.pointer (some ⟨bw, 0, none⟩)], cl b2 3 [.int .i64 root], cl b3 78 [.int .u64 x]]
   (fun _ H' => (∃ K', H' = lp l 45 tm0 #[26] asg body .ready none :: K' ∧ ScF bw b11 b7 b1 b2 b3 sb db x root most S D ((geE T x).take most.toNat) K') ∨ ∃ c K', H' = lp l 45 tm0 #[26] asg body .done (some c) :: K' ∧ c = .exit 0 ∧ ScF bw b11 b7 b1 b2 b3 sb db x root most S D ((geE T x).take most.toNat) K') := by
 have hN := k.n
 have hh := o.high
 obtain ⟨d, ps1, g, hd, hne, hn, e⟩ := o
 dsimp only at e hn
 subst e
 simp only [List.length_cons] at hp hh
 have h8 := high_le hh (by omega)
 have hf := from_does bw sb db x N l (fun dn => Sc l 45 tm0 asg body .ready none b11 b7 most dn) (fun dn => Sc l 45 tm0 asg body .done (some (.exit 0)) b11 b7 most dn) (fun l => decide ((l.length : Int) = most)) (fun dn e hdn => scan_yields l b11 b7 most tm0 asg body w11 w7 hA hB dn e hdn) k h d T ps1 1 root 0 [] hn hd hne g (by omega) (by omega) (by omega) (by simp; omega)
 have hpre : ∀ {w0 : World} {F0 : Nat → Prop} {w : World}, Inv w0 F0 (lp l 45 tm0 #[26] asg body .ready none :: [cl b11 118 [.slice none 0 0], vec 121 2 none 0 0 [], cl b7 3 [.int .i64 most], Wk bw sb 0 0, Store sb db S, Disk db D, cl b1 170 [.pointer (some ⟨bw, 0, none⟩)], cl b2 3 [.int .i64 root], cl b3 78 [.int .u64 x]]) w → Inv w0 F0 (Sc l 45 tm0 asg body .ready none b11 b7 most [] :: [Wk bw sb 0 0, Store sb db S, Disk db D, cl b1 170 [.pointer (some ⟨bw, 0, none⟩)], cl b2 3 [.int .i64 root], cl b3 78 [.int .u64 x]]) w := fun i =>
  Inv.shuts (K := ScK l 45 tm0 asg body .ready none b11 b7 most [] (none, 0)) (hid_shuts (p := fun _ : Option Addr × Nat => True) (K := ScK l 45 tm0 asg body .ready none b11 b7 most []) (none, 0) trivial) i
 have hft := feed_take most hmo (geE T x) [] (by simp; omega)
 by_cases hlt : ((geE T x).length : Int) < most
 ·have e : (geE T x).take most.toNat = geE T x := List.take_of_length_le (by omega)
  rw [if_pos (by simpa using hlt), List.nil_append] at hft
  rw [hft] at hf
  refine does_pre (does_post (entriesF_does bw b1 b2 b3 sb db l root x S D [] _ _ hf) ?_) hpre
  rintro v H1 ⟨u, K', ⟨rd, r1, r2, rfl, rfl⟩, rfl⟩ w0 F0 w i
  rw [e]
  obtain ⟨⟨p, cap⟩, _, i2⟩ := Inv.opens (H := [Wk bw sb rd 0, Store sb db S, Disk db D, cl b1 170 [.pointer (some ⟨bw, 0, none⟩)], cl b2 3 [.int .i64 root], cl b3 78 [.int .u64 x]]) (hid_opens (p := fun _ : Option Addr × Nat => True) (K := ScK l 45 tm0 asg body .ready none b11 b7 most (geE T x))) i
  exact ⟨lp l 45 tm0 #[26] asg body .ready none :: _, .inl ⟨_, rfl, p, cap, rd, rfl⟩, i2⟩
 ·rw [if_neg (by simpa using hlt), List.nil_append, List.length_nil, Nat.sub_zero] at hft
  rw [hft] at hf
  refine does_pre (does_post (entriesF_does bw b1 b2 b3 sb db l root x S D [] _ _ hf) ?_) hpre
  rintro v H1 ⟨u, K', ⟨rd, r1, r2, rfl, rfl⟩, rfl⟩ w0 F0 w i
  obtain ⟨⟨p, cap⟩, _, i2⟩ := Inv.opens (H := [Wk bw sb rd 0, Store sb db S, Disk db D, cl b1 170 [.pointer (some ⟨bw, 0, none⟩)], cl b2 3 [.int .i64 root], cl b3 78 [.int .u64 x]]) (hid_opens (p := fun _ : Option Addr × Nat => True) (K := ScK l 45 tm0 asg body .done (some (.exit 0)) b11 b7 most ((geE T x).take most.toNat))) i
  exact ⟨lp l 45 tm0 #[26] asg body .done (some (.exit 0)) :: _, .inr ⟨_, _, rfl, rfl, p, cap, rd, rfl⟩, i2⟩
def OldTree (N : Nat) (D : Dk) (root : Int) (T : List Ent) : Prop := (root = 0 ∧ T = []) ∨ ∃ h ps, OnP (Gd N D) h root ⟨T, ps⟩ ∧ ps.length + 2 ≤ N
theorem Fine.afterFew {N : Nat} {S : Sh} {D : Dk} {U : List Int} (k : Fine N S D U) : (S.after U).length + 2 ≤ N := by
 have hN := k.n
 have hal := nodup_sub (A := S.after U) (B := (List.range' 2 (N - 2)).map (fun n : Nat => (n : Int))) k.afterNodup (by
  intro a ha
  have ha2 : 2 ≤ a ∧ a < N := by
   rcases (Sh.mem_after.1 ha).1 with h | h
   ·have := k.h.b a h; omega
   ·have := k.f.2 a h; omega
  exact List.mem_map.2 ⟨a.toNat, List.mem_range'_1.2 (by omega), by omega⟩)
 simp only [List.length_map, List.length_range'] at hal
 omega
theorem IsTree.old {N : Nat} {S : Sh} {D : Dk} {U : List Int} {root : Int} {T : List Ent} (ht : IsTree N S D U root T) (k : Fine N S D U) : OldTree N D root T := by
 rcases ht with ⟨h1, h2, _⟩ | ⟨h, ps, o, hp⟩
 ·exact .inl ⟨h1, h2⟩
 ·exact .inr ⟨h, ps, o, by have := hp.length_eq; have := k.afterFew; omega⟩
set_option maxHeartbeats 4000000 in
theorem scan_old (sb db x N : Nat) (root most : Int) (U : List Int) (T : List Ent) (S : Sh) (D : Dk) (k : Fine N S D U) (ht : OldTree N D root T) (hT : T.length < 10000) (hm64 : -9223372036854775808 ≤ most ∧ most < 9223372036854775808) :
  Does Tryz.prog 93 [.pointer (some ⟨sb, 0, none⟩), .int .i64 root, .int .u64 x, .int .i64 most] [Store sb db S, Disk db D]
   (fun v H => ∃ p cap, v = .tuple #[.slice p ((geE T x).take most.toNat).length cap, .int .i64 0] ∧ H = [vec 121 2 p ((geE T x).take most.toNat).length cap (entC ((geE T x).take most.toNat)), Store sb db S, Disk db D]) := by
 have hnil : root = 0 → T = [] := by
  rintro rfl
  rcases ht with ⟨_, h⟩ | ⟨h, ps, ⟨d, ps1, g, _⟩, _⟩
  ·exact h
  ·have := g.1; omega
 refine does_of_m Tryz.func93 Tryz.ntmps93 rfl rfl rfl (fun w0 F0 => ?_)
 (repeat' (first|refine g_seq (h:=?_)|refine g_region (h:=?_)|refine l_nil (h:=?_)|refine n_then (h:=?_)|refine l_pures1 (h:=?_)|refine l_guard_yes (h:=?_)|refine l_guard_no (h:=?_)|refine l_load (h:=?_)|(refine l_box (h:=?_); intro _)|(refine l_alloc (h:=?_); intro _)|refine g_skip (h:=?_)|refine g_ret (h:=?_)|refine n_then_ret (h:=?_)|refine g_cond_t (h:=?_)|(refine l_sp (h1 := ?_) (h0 := ?_) <;> intro h)|(refine g_sp (h1 := ?_) (h0 := ?_) <;> intro h)))
 ·refine n_inv (fun i => vec_nil (121) (2) i) ?_
  have e : (geE T x).take most.toNat = [] := by rw [hnil (by assumption)]; simp [geE]
  rw [e]
  refine r_retm [vec 121 2 none 0 0 [], Store sb db S, Disk db D] ?_
  exact ⟨none, 0, rfl, rfl⟩
 ·refine n_inv (fun i => vec_nil (121) (2) i) ?_
  have e : (geE T x).take most.toNat = [] := by rw [show most.toNat = 0 by omega]; rfl
  rw [e]
  refine r_retm [vec 121 2 none 0 0 [], Store sb db S, Disk db D] ?_
  exact ⟨none, 0, rfl, rfl⟩
 ·rename_i b7 hr0 bw b11
  refine l_inv (H' := [cl b11 118 [.slice none 0 0], Wk bw sb 0 0, cl b7 3 [.int .i64 most], Store sb db S, Disk db D]) (fun i => i) ?_
  (repeat (first|refine l_nil (h:=?_)|refine n_then (h:=?_)|(refine l_atc ?_; refine l_call_ (entries_does bw root x) ?_; rintro _ _ _ ⟨b1, b2, b3, rfl, rfl⟩ he; cases he)|refine g_block (h:=?_)))
  refine g_inv (fun i => vec_nil (121) (2) i) ?_
  rcases ht with ⟨q, _⟩ | ⟨h0, ps, o, hp⟩
  ·exact absurd q hr0
  refine g_rangeFunc (qn := ScF bw b11 b7 b1 b2 b3 sb db x root most S D ((geE T x).take most.toNat)) (qx := fun c K' => c = .exit 0 ∧ ScF bw b11 b7 b1 b2 b3 sb db x root most S D ((geE T x).take most.toNat) K') (K := [cl b11 118 [.slice none 0 0], vec 121 2 none 0 0 [], cl b7 3 [.int .i64 most], Wk bw sb 0 0, Store sb db S, Disk db D, cl b1 170 [.pointer (some ⟨bw, 0, none⟩)], cl b2 3 [.int .i64 root], cl b3 78 [.int .u64 x]]) ?_ ?_ ?_
  ·intro l
   exact scan_hs bw b11 b7 b1 b2 b3 sb db x N root most U T S D k o hp hT (by omega) l _ _ _ rfl rfl (by rfl) (by rfl)
  ·rintro D0 K' ⟨p, cap, rd, rfl⟩
   dsimp only [List.cons_append, List.nil_append]
   (repeat' (first|refine g_seq (h:=?_)|refine g_region (h:=?_)|refine l_nil (h:=?_)|refine n_then (h:=?_)|refine l_pures1 (h:=?_)|refine l_load (h:=?_)|refine g_skip (h:=?_)|refine g_ret (h:=?_)|refine n_block (h:=?_)|refine g_cond_f (h:=?_)))
   refine r_retM [vec 121 2 p ((geE T x).take most.toNat).length cap (entC ((geE T x).take most.toNat)), Store sb db S, Disk db D] ?_
   exact ⟨p, cap, rfl, rfl⟩
  ·rintro D0 c K' ⟨rfl, p, cap, rd, rfl⟩
   dsimp only [List.cons_append, List.nil_append]
   (repeat' (first|refine g_seq (h:=?_)|refine g_region (h:=?_)|refine l_nil (h:=?_)|refine n_then (h:=?_)|refine l_pures1 (h:=?_)|refine l_load (h:=?_)|refine g_skip (h:=?_)|refine g_ret (h:=?_)|refine g_exit (h:=?_)|refine n_block_hit (h:=?_)|refine g_cond_f (h:=?_)))
   refine r_retM [vec 121 2 p ((geE T x).take most.toNat).length cap (entC ((geE T x).take most.toNat)), Store sb db S, Disk db D] ?_
   exact ⟨p, cap, rfl, rfl⟩
theorem scan_tree (sb db x N : Nat) (root most : Int) (U : List Int) (T : List Ent) (S : Sh) (D : Dk) (k : Fine N S D U) (ht : IsTree N S D U root T) (hT : T.length < 10000) (hm64 : -9223372036854775808 ≤ most ∧ most < 9223372036854775808) :
  Does Tryz.prog 93 [.pointer (some ⟨sb, 0, none⟩), .int .i64 root, .int .u64 x, .int .i64 most] [Store sb db S, Disk db D]
   (fun v H => ∃ p cap, v = .tuple #[.slice p ((geE T x).take most.toNat).length cap, .int .i64 0] ∧ H = [vec 121 2 p ((geE T x).take most.toNat).length cap (entC ((geE T x).take most.toNat)), Store sb db S, Disk db D]) :=
 scan_old sb db x N root most U T S D k (ht.old k) hT hm64
end Go.Proofs.YtelfjhemnnbbpaaGreat
set_option maxRecDepth 20000
namespace Go.Proofs.YtelfjhemnnbbpaaGreat
open Go.Proofs.YtelfjhemnnbbpaaGreat.SL
def fstN (i : Nat) (bd n : Nd) : Nd := if i = 0 then n else bd
def sndN (i : Nat) (bd n : Nd) : Nd := if i = 0 then bd else n
def othN (i : Nat) : Nat := if i = 0 then 1 else i - 1
def lefN (i : Nat) : Nat := i - 1
abbrev evT (b b5 b8 b12 b13 : Nat) (l : Int) : List (Nat × Value) := [(9, .int .i64 l), (8, .pointer (some ⟨b8, 0, none⟩)), (5, .pointer (some ⟨b5, 0, none⟩)), (12, .pointer (some ⟨b12, 0, none⟩)), (13, .pointer (some ⟨b13, 0, none⟩)), (0, .pointer (some ⟨b, 0, none⟩))]
abbrev evH (b5 b8 b12 b13 : Nat) (spg : Int) (d : Nd) (r : Rw) (i : Nat) (x y : Nd) (rx ry : Rw) (A B C : SProp) : List SProp :=
 [cl b8 175 #[.bool false, .slice none 0 0, .slice none 0 0, .slice none 0 0].toList, cl b5 177 [.int .i64 spg, .bool d.leaf, .slice r.p1 d.keys.length r.c1, .slice r.p2 d.vals.length r.c2, .slice r.p3 d.kids.length r.c3, .int .i64 i], cl b12 175 (ndA x rx).toList, cl b13 175 (ndA y ry).toList, Nds d r, Nds x rx, Nds y ry, A, B, C]
set_option maxHeartbeats 4000000 in
theorem even_head (b sb db deep i : Nat) (spg : Int) (d n bd : Nd) (r rn : Rw) (read : Int) (S : Sh) (D : Dk) (q : Value → List SProp → Prop) (hs : d.good) (hsl : d.leaf = false) (hi : i ≤ d.keys.length) (hk : d.keys ≠ []) (hbd : bd.good) (hlf : bd.leaf = n.leaf)
  (hr : S.read D (d.kids.getD (othN i) 0) = ((2, bd.text, 0), S)) (h1 : 0 ≤ read ∧ read < 640) (h2 : deep + 1 ≤ 10)
  (hT : ∀ w0 F0 b5 b8 b12 b13 r rx ry, G Tryz.prog 156 w0 F0 (nav [1, 1, 1, 1, 1, 1, 1, 1] (bdy Tryz.f102)) (Post Tryz.prog Tryz.f102 w0 F0 q)
   (evT b b5 b8 b12 b13 (lefN i)) [] (evH b5 b8 b12 b13 spg d r i (fstN i bd n) (sndN i bd n) rx ry (Wk b sb (read + 1) 0) (Store sb db S) (Disk db D))) :
  Does Tryz.prog 102 [.pointer (some ⟨b, 0, none⟩), .agg #[.int .i64 spg, .bool d.leaf, .slice r.p1 d.keys.length r.c1, .slice r.p2 d.vals.length r.c2, .slice r.p3 d.kids.length r.c3, .int .i64 i], ndV n rn, .int .i64 deep] [Nds d r, Nds n rn, Wk b sb read 0, Store sb db S, Disk db D] q := by
 have hkl := kidsLen hs.p hsl
 have hkp : 0 < d.keys.length := List.length_pos_iff.2 hk
 have hfk := hs.fits.k
 have hrd := wNode_does b sb db (deep + 1) (d.kids.getD (othN i) 0) read S D bd hbd hr h1 h2
 have ed : IntKind.i64.wrap ((deep : Int) + 1) = ((deep + 1 : Nat) : Int) := by rw [wrapI64 (by omega)]; rfl
 rw [← ed] at hrd
 obtain ⟨p1, c1, p2, c2, p3, c3⟩ := r
 refine does_of Tryz.func102 Tryz.ntmps102 rfl rfl rfl (fun w0 F0 => ?_)
 dsimp only
 (repeat (first|refine g_seq (h:=?_)|refine g_region (h:=?_)|refine l_nil (h:=?_)|refine n_then (h:=?_)|(refine l_box (h:=?_); intro _)|(refine l_alloc (h:=?_); intro _)))
 rename_i b5 b6 b8
 (refine g_draw [cl b5 177 _] (h := a_pass2 (h:=?_)))
 (repeat (first|refine g_seq (h:=?_)|refine g_region (h:=?_)|refine l_nil (h:=?_)|refine n_then (h:=?_)|refine l_pures1 (h:=?_)|refine l_load (h:=?_)|refine a_done (h:=?_)|refine a_load (h := a_pass2 (h:=?_))))
 refine g_open (A := Nds d ⟨p1, c1, p2, c2, p3, c3⟩) (h:=?_); (rintro _ _; dsimp only [NdsK, List.cons_append, List.nil_append])
 refine g_ptr (m := d.kids.length) (h:=?_); rintro g3 rfl hc3
 cases i with
 | zero =>
  have hgk : (d.kids.map encZ')[0 + Int.toNat 1 * 1]? = some (.int .i64 (d.kids.getD 1 0)) := iGet (l := d.kids) (k := 1) (by omega)
  dsimp only [othN, fstN, sndN] at hrd hT
  simp only [if_true, show ((lefN 0 : Nat) : Int) = 0 from rfl] at hrd hT
  (repeat' (first|refine g_seq (h:=?_)|refine g_region (h:=?_)|refine l_nil (h:=?_)|refine n_then (h:=?_)|refine l_pures1 (h:=?_)|(refine l_atc ?_; refine l_call_ (hrd) ?_; rintro _ _ _ ⟨rb, rfl, rfl⟩ he; cases he)|refine l_load (h:=?_)|refine l_store (h:=?_)|(refine l_alloc (h:=?_); intro _)|refine l_indexAddr (h:=?_)|refine g_skip (h:=?_)|refine g_cond_t (h:=?_)|refine g_cond_f (h:=?_)|refine l_load_vec (h:=?_)|(refine g_sp (h1 := ?_) (h0 := ?_) <;> intro h)))
  ·exact absurd hlf (by assumption)
  rename_i b11
  (refine g_shut (A := Nds d ⟨p1, c1, p2, c2, some ⟨g3, 0, none⟩, c3⟩) (K := NdsK d ⟨p1, c1, p2, c2, some ⟨g3, 0, none⟩, c3⟩ (())) (hid_shuts (()) trivial) (h:=?_) (p := by dsimp only [NdsK]; (try simp only [List.map_nil, List.length_nil, List.length_set, List.length_append, List.length_cons, List.length_singleton, List.map_append, List.map_cons, Nat.zero_add]); exact parts_of))
  (refine g_draw [cl b11 175 _, cl b6 175 _] (h := a_pass2 (h:=?_)))
  (repeat' (first|((with_reducible show G _ _ _ _ (Code.seq (Code.region 13 _ _) _) _ _ _ _); exact g_bang (hT w0 F0 b5 b8 _ _ ⟨p1, c1, p2, c2, some ⟨g3, 0, none⟩, c3⟩ rn rb))|refine g_seq (h:=?_)|refine g_region (h:=?_)|refine l_nil (h:=?_)|refine n_then (h:=?_)|refine l_pures1 (h:=?_)|refine l_load (h:=?_)|refine l_store (h:=?_)|(refine l_alloc (h:=?_); intro _)|refine a_done (h:=?_)|refine a_load (h := a_pass2 (h:=?_))|refine a_one (h:=?_)|refine n_any (h := a_pass2 (h:=?_))|refine g_cond_t (h:=?_)|refine a_fork2 (h1 := ?_) (h2 := ?_)|refine a1_of (h:=?_)))
 | succ i =>
  have ew : IntKind.i64.wrap (((i + 1 : Nat) : Int) - 1) = (i : Int) := by rw [wrapI64 (by omega)]; omega
  have hgk : (d.kids.map encZ')[0 + ((i : Nat) : Int).toNat * 1]? = some (.int .i64 (d.kids.getD i 0)) := iGet (l := d.kids) (k := i) (by omega)
  dsimp only [othN, fstN, sndN] at hrd hT
  simp only [show ((lefN (i + 1) : Nat) : Int) = (i : Int) from rfl, Nat.add_eq_zero_iff, Nat.one_ne_zero, and_false, if_false, Nat.add_sub_cancel] at hrd hT
  rw [ew]
  (repeat' (first|refine g_seq (h:=?_)|refine g_region (h:=?_)|refine l_nil (h:=?_)|refine n_then (h:=?_)|refine l_pures1 (h:=?_)|(refine l_atc ?_; refine l_call_ (hrd) ?_; rintro _ _ _ ⟨rb, rfl, rfl⟩ he; cases he)|refine l_load (h:=?_)|refine l_store (h:=?_)|(refine l_alloc (h:=?_); intro _)|refine l_indexAddr (h:=?_)|refine g_skip (h:=?_)|refine g_cond_f (h:=?_)|refine l_load_vec (h:=?_)|(refine g_sp (h1 := ?_) (h0 := ?_) <;> intro h)))
  ·exact absurd hlf (by assumption)
  rename_i b11
  (refine g_shut (A := Nds d ⟨p1, c1, p2, c2, some ⟨g3, 0, none⟩, c3⟩) (K := NdsK d ⟨p1, c1, p2, c2, some ⟨g3, 0, none⟩, c3⟩ (())) (hid_shuts (()) trivial) (h:=?_) (p := by dsimp only [NdsK]; (try simp only [List.map_nil, List.length_nil, List.length_set, List.length_append, List.length_cons, List.length_singleton, List.map_append, List.map_cons, Nat.zero_add]); exact parts_of))
  (refine g_draw [cl b11 175 _, cl b6 175 _] (h := a_pass2 (h:=?_)))
  (repeat' (first|((with_reducible show G _ _ _ _ (Code.seq (Code.region 13 _ _) _) _ _ _ _); exact g_bang (hT w0 F0 b5 b8 _ _ ⟨p1, c1, p2, c2, some ⟨g3, 0, none⟩, c3⟩ rb rn))|refine g_seq (h:=?_)|refine g_region (h:=?_)|refine l_nil (h:=?_)|refine n_then (h:=?_)|refine l_pures1 (h:=?_)|refine l_store (h:=?_)|(refine l_alloc (h:=?_); intro _)|refine g_skip (h:=?_)|refine a_done (h:=?_)|refine a_load (h := a_pass2 (h:=?_))|refine a_one (h:=?_)|refine n_any (h := a_pass2 (h:=?_))|(refine g_spF (h:=?_); intro h)|refine a_fork2 (h1 := ?_) (h2 := ?_)|refine a1_of (h:=?_)))
end Go.Proofs.YtelfjhemnnbbpaaGreat

/- Texts TrPp, TrPc, TrPd, TrPe, TrG, SlP, RefA, RefB, SlQ, TlA, TlB, SlR, TrSa, RcP, SlS, SlT, SpA, RcA, SpB, TrSb, joined. -/
import Derived.Test.YtmfmommgooccnaaGreatK08
/- Put, plainly: what a round does to the tree. No code. -/
set_option maxRecDepth 20000
set_option linter.unusedVariables false
set_option linter.unusedSimpArgs false
namespace Go.Proofs.YtmfmommgooccnaaGreat
open Go.Proofs.YtmfmommgooccnaaGreat.SL

/-- A tree on a store: its root, what it has; its pages are all that count. -/
def IsTree (N : Nat) (S : Sh) (D : Dk) (U : List Int) (root : Int) (T : List Ent) : Prop :=
  root = 0 ∧ T = [] ∧ S.after U = [] ∨ ∃ h ps, OnP (Gd N D) h root ⟨T, ps⟩ ∧ ps.Perm (S.after U)
/-- A node in hand, that is to be laid on the page pg, and the way above it. -/
structure Hand (N : Nat) (U : List Int) (T : List Ent) (S : Sh) (D : Dk) (up : List Spot) (pg : Int) (n : Nd) (h : Nat) (Lf Rt es : List Ent) (ps qs : List Int) : Prop where
  fine : Fine N S D U
  way : Way (Gd N D) up h Lf Rt qs
  nt : NT (Gd N D) h n es ps
  pages : (pg :: (ps ++ qs)).Perm (S.after U)
  fit : ∀ e ∈ es, FitsP up e.1
  all : Lf ++ (es ++ Rt) = T
  some : n.keys ≠ []

theorem Gd.keep {N : Nat} {D D' : Dk} {p : Int} {d : Nd} (g : Gd N D p d) (h : D'.pg p = D.pg p) : Gd N D' p d := ⟨g.1, by rw [h]; exact g.2⟩

theorem Hand.up {N : Nat} {U : List Int} {T : List Ent} {S S' : Sh} {D D' : Dk} {s : Spot} {up : List Spot} {pg m : Int} {n : Nd} {h : Nat} {Lf Rt es : List Ent} {ps qs : List Int} (k : Hand N U T S D (s :: up) pg n h Lf Rt es ps qs) (hn : n.size ≤ 240)
    (f' : Fine N S' D' U) (gm : Gd N D' m n) (same : ∀ p ∈ ps ++ qs, D'.pg p = D.pg p) (hp : (m :: (ps ++ qs)).Perm (S'.after U)) :
    ∃ Lf' Rt' es' ps' qs', Hand N U T S' D' up s.pg { s.d with kids := s.d.kids.set s.i m } (h + 1) Lf' Rt' es' ps' qs' ∧ s.d.good ∧ s.d.leaf = false ∧ s.i ≤ s.d.keys.length := by
  obtain ⟨L', R', q0, sl, sr, w, g, mid, fs, rfl, rfl, rfl⟩ := k.way
  have hN := f'.n
  have o : OnP (Gd N D') h m ⟨es, m :: ps⟩ := ⟨n, ps, gm, ⟨k.nt.plain, fun _ => List.length_pos_iff.2 k.some, hn⟩, fun _ => k.some, k.nt.same (fun p hp d gd => gd.keep (same p (by simp [hp]))), rfl⟩
  have hnt := plug (g' := Gd N D') mid o (by have := gm.1; omega) (fun e he => (k.fit e he).1) (fun p hp d gd => gd.keep (same p (by simp only [List.mem_append, List.mem_cons] at hp ⊢; exact .inr (.inr (hp.elim .inl fun q => .inr (.inl q))))))
  refine ⟨L', R', _, _, q0, ⟨f', w.same (fun p hp d gd => gd.keep (same p (by simp [hp]))), hnt, ?_, ?_, ?_, mid.ne⟩, mid.good, mid.leaf, mid.ile⟩
  · refine List.Perm.trans ?_ hp
    refine List.perm_iff_count.2 fun a => ?_
    simp only [List.count_append, List.count_cons, List.cons_append]
    omega
  · intro e he
    simp only [List.mem_append] at he
    rcases he with he | he | he
    · exact fs e (by simp [he])
    · exact (k.fit e he).2
    · exact fs e (by simp [he])
  · rw [← k.all]; simp
theorem Hand.top {N : Nat} {U : List Int} {T : List Ent} {S S' : Sh} {D D' : Dk} {pg m : Int} {n : Nd} {h : Nat} {Lf Rt es : List Ent} {ps qs : List Int} (k : Hand N U T S D [] pg n h Lf Rt es ps qs) (hn : n.size ≤ 240)
    (f' : Fine N S' D' U) (gm : Gd N D' m n) (same : ∀ p ∈ ps ++ qs, D'.pg p = D.pg p) (hp : (m :: (ps ++ qs)).Perm (S'.after U)) : IsTree N S' D' U m T := by
  obtain ⟨rfl, rfl, rfl⟩ := k.way
  refine .inr ⟨h, m :: ps, ⟨n, ps, gm, ⟨k.nt.plain, fun _ => List.length_pos_iff.2 k.some, hn⟩, fun _ => k.some, ?_, rfl⟩, by simpa using hp⟩
  have := k.nt.same (g' := Gd N D') (fun p hp d gd => gd.keep (same p (by simp [hp])))
  have e := k.all
  simp only [List.nil_append, List.append_nil] at e
  rw [← e]
  exact this

theorem Hand.splitUp {N : Nat} {U : List Int} {T : List Ent} {S S' : Sh} {D D' : Dk} {s : Spot} {up : List Spot} {pg m m2 : Int} {n : Nd} {h : Nat} {Lf Rt es : List Ent} {ps qs : List Int} (k : Hand N U T S D (s :: up) pg n h Lf Rt es ps qs) (h1 : 240 < n.size) (h2 : n.size ≤ 340)
    (f' : Fine N S' D' U) (g1 : Gd N D' m (n.front n.at')) (g2 : Gd N D' m2 (n.back n.at')) (same : ∀ p ∈ ps ++ qs, D'.pg p = D.pg p) (hp : (m2 :: m :: (ps ++ qs)).Perm (S'.after U)) :
    ∃ Lf' Rt' es' ps' qs', Hand N U T S' D' up s.pg (Nd.hang { s.d with kids := s.d.kids.set s.i m } s.i (n.keys.getD n.at' 0) m2) (h + 1) Lf' Rt' es' ps' qs' := by
  obtain ⟨L', R', q0, sl, sr, w, g, mid, fs, rfl, rfl, rfl⟩ := k.way
  have hN := f'.n
  obtain ⟨a1, a2, a3, a4, a5⟩ := at_spec k.nt.plain h1 h2
  obtain ⟨e1, p1, e2, p2, md, hmd, n1, n2, rfl, rfl, lt1, ge2, k1, k2⟩ := split_nt k.nt a2 a3
  have hmd' : n.keys.getD n.at' 0 = md := by rw [List.getD, hmd]; rfl
  have hmm : md < 18446744073709551616 := k.nt.plain.key md (List.mem_of_getElem? hmd)
  rw [hmd']
  have o1 : OnP (Gd N D') h m ⟨e1, m :: p1⟩ := ⟨_, p1, g1, ⟨n1.plain, fun _ => List.length_pos_iff.2 k1, a4⟩, fun _ => k1, n1.same (fun p hp d gd => gd.keep (same p (by simp [hp]))), rfl⟩
  have o2 : OnP (Gd N D') h m2 ⟨e2, m2 :: p2⟩ := ⟨_, p2, g2, ⟨n2.plain, fun _ => List.length_pos_iff.2 k2, a5⟩, fun _ => k2, n2.same (fun p hp d gd => gd.keep (same p (by simp [hp]))), rfl⟩
  have hnt := plug2 (g' := Gd N D') mid o1 o2 (by have := g1.1; omega) (by have := g2.1; omega) hmm (fun e he => ⟨(k.fit e (by simp [he])).1, lt1 e he⟩) (fun e he => ⟨(k.fit e (by simp [he])).1, ge2 e he⟩) (fun p hp d gd => gd.keep (same p (by simp only [List.mem_append, List.mem_cons] at hp ⊢; exact .inr (.inr (hp.elim .inl fun q => .inr (.inl q))))))
  refine ⟨L', R', _, _, q0, ⟨f', w.same (fun p hp d gd => gd.keep (same p (by simp [hp]))), hnt, ?_, ?_, ?_, by simp [Nd.hang, laidL]⟩⟩
  · refine List.Perm.trans ?_ hp
    refine List.perm_iff_count.2 fun a => ?_
    simp only [List.count_append, List.count_cons, List.cons_append]
    omega
  · intro e he
    simp only [List.mem_append] at he
    rcases he with he | (he | he) | he
    · exact fs e (by simp [he])
    · exact (k.fit e (by simp [he])).2
    · exact (k.fit e (by simp [he])).2
    · exact fs e (by simp [he])
  · rw [← k.all]; simp

theorem Hand.splitTop {N : Nat} {U : List Int} {T : List Ent} {S S' : Sh} {D D' : Dk} {pg m m2 m3 : Int} {n : Nd} {h : Nat} {Lf Rt es : List Ent} {ps qs : List Int} (k : Hand N U T S D [] pg n h Lf Rt es ps qs) (h1 : 240 < n.size) (h2 : n.size ≤ 340)
    (f' : Fine N S' D' U) (g1 : Gd N D' m (n.front n.at')) (g2 : Gd N D' m2 (n.back n.at')) (g3 : Gd N D' m3 ⟨false, [n.keys.getD n.at' 0], [], [m, m2]⟩) (same : ∀ p ∈ ps ++ qs, D'.pg p = D.pg p) (hp : (m3 :: m2 :: m :: (ps ++ qs)).Perm (S'.after U)) :
    IsTree N S' D' U m3 T := by
  obtain ⟨rfl, rfl, rfl⟩ := k.way
  have hN := f'.n
  obtain ⟨a1, a2, a3, a4, a5⟩ := at_spec k.nt.plain h1 h2
  obtain ⟨e1, p1, e2, p2, md, hmd, n1, n2, rfl, rfl, lt1, ge2, k1, k2⟩ := split_nt k.nt a2 a3
  have hmd' : n.keys.getD n.at' 0 = md := by rw [List.getD, hmd]; rfl
  have hmm : md < 18446744073709551616 := k.nt.plain.key md (List.mem_of_getElem? hmd)
  rw [hmd'] at g3
  have o1 : OnP (Gd N D') h m ⟨e1, m :: p1⟩ := ⟨_, p1, g1, ⟨n1.plain, fun _ => List.length_pos_iff.2 k1, a4⟩, fun _ => k1, n1.same (fun p hp d gd => gd.keep (same p (by simp [hp]))), rfl⟩
  have o2 : OnP (Gd N D') h m2 ⟨e2, m2 :: p2⟩ := ⟨_, p2, g2, ⟨n2.plain, fun _ => List.length_pos_iff.2 k2, a5⟩, fun _ => k2, n2.same (fun p hp d gd => gd.keep (same p (by simp [hp]))), rfl⟩
  have b1 := g1.1
  have b2 := g2.1
  have hnt := nt_of (g := Gd N D') (h := h) (d := ⟨false, [md], [], [m, m2]⟩) (ss := [⟨e1, m :: p1⟩, ⟨e2, m2 :: p2⟩]) rfl rfl (all2_cons.2 ⟨_, _, rfl, o1, all2_cons.2 ⟨_, _, rfl, o2, trivial⟩⟩) ⟨lt1, fun y hy => ge2 y (by simpa [Sub.all] using hy), trivial⟩ (by simp; omega) (by simp; omega)
  have hes := k.all
  simp only [List.nil_append, List.append_nil] at hes
  refine .inr ⟨h + 1, m3 :: (m :: p1 ++ m2 :: p2), ⟨_, _, g3, ⟨hnt.plain, by simp, by simp [Nd.size]⟩, by simp, ?_, rfl⟩, ?_⟩
  · have : Sub.all [⟨e1, m :: p1⟩, ⟨e2, m2 :: p2⟩] = T := by rw [← hes]; simp [Sub.all]
    rw [this] at hnt
    simpa [Sub.pages] using hnt
  · refine List.Perm.trans ?_ hp
    refine List.perm_iff_count.2 fun a => ?_
    simp only [List.count_append, List.count_cons, List.cons_append, List.append_nil]
    omega
end Go.Proofs.YtmfmommgooccnaaGreat
/- Package tree: the loop of Put. -/
set_option maxRecDepth 20000
set_option linter.unusedVariables false
set_option linter.unusedSimpArgs false
namespace Go.Proofs.YtmfmommgooccnaaGreat
open Go.Proofs.YtmfmommgooccnaaGreat.SL

structure PutSt where
  L : List Sp
  xs : Sp
  n : Nd
  rn : Rw
  S : Sh
  D : Dk
/-- What holds at each round of Put; c: pages that may be taken yet. -/
def PutI (N : Nat) (U : List Int) (T : List Ent) (S0 : Sh) (D0 : Dk) (y : PutSt) : Prop :=
  ∃ h Lf Rt es ps qs, Hand N U T y.S y.D (y.L.map Sp.spot).reverse y.xs.pg y.n h Lf Rt es ps qs ∧ y.n.size ≤ 340 ∧ y.n.plain ∧ U.length + y.S.fresh.length + 2 * y.L.length + 5 < N ∧ y.L.length < 100 ∧ y.S.gen = S0.gen ∧ Same U S0 D0 y.S y.D

set_option maxHeartbeats 2000000 in
theorem put_loop (b sb db b' b12 b14 x N : Nat) (read : Int) (U : List Int) (T : List Ent) (S0 : Sh) (D0 : Dk) (y0 : PutSt) (h0 : PutI N U T S0 D0 y0) (w0 : World) (F0 : Nat → Prop) :
    G Tryz.prog 147 w0 F0 (nav [1, 1, 1, 1, 1, 1, 1, 1, 2] (bdy Tryz.f65)) (Exit.inBlock 0 (Post Tryz.prog Tryz.f65 w0 F0 (fun v H => ∃ m S' D', v = .tuple #[.int .i64 m, .int .i64 0] ∧ H = [Store sb db S', Disk db D'] ∧ IsTree N S' D' U m T ∧ Fine N S' D' U ∧ S'.gen = S0.gen ∧ Same U S0 D0 S' D')))
      (putT b sb b' b12 b14 x) [] [cl b12 180 y0.xs.c, cl b14 176 (ndA y0.n y0.rn).toList, Stk b' y0.L, NdL y0.L, Nds y0.n y0.rn, Wk b sb read 0, Store sb db y0.S, Disk db y0.D] := by
  obtain ⟨c, hc⟩ : ∃ c, c = nav [1, 1, 1, 1, 1, 1, 1, 1, 2] (bdy Tryz.f65) := ⟨_, rfl⟩
  rw [← hc]
  dsimp only [nav, bdy, Tryz.f65, Option.getD] at hc
  subst hc
  (refine g_loop (fun y : PutSt => putT b sb b' b12 b14 x) (fun y => [cl b12 180 y.xs.c, cl b14 176 (ndA y.n y.rn).toList, Stk b' y.L, NdL y.L, Nds y.n y.rn, Wk b sb read 0, Store sb db y.S, Disk db y.D]) (fun y => PutI N U T S0 D0 y) (fun y => y.L.length) (y0) ?_ ?_ ?_ ?_; rotate_left; (repeat (first | refine ts_nil | (refine ts_cons rfl ?_ ?_; first | (with_reducible rfl) | rotate_left))); (first | (intro _ i; with_reducible refine i) | rotate_left); rotate_left; (try omega); rotate_right)
  · rintro ⟨L, xs, n, rn, S, D⟩ ⟨h, Lf, Rt, es, ps, qs, k, hz, hpl, room, hL, hg, hr⟩
    dsimp only at k hz hpl room hL hg hr ⊢
    have hf := hpl.fits (by omega)
    refine g_block ?_
    by_cases hn : n.size ≤ 240
    · have hgood : n.good := ⟨hpl, fun _ => List.length_pos_iff.2 k.some, hn⟩
      obtain ⟨m, S', D', c1, c2, c3, c4, c5, c6, c7, c8, c9, c10⟩ := lay_ok k.fine k.pages (by omega) hgood
      rcases List.eq_nil_or_concat L with rfl | ⟨L', s, rfl⟩
      · refine g_bang (putTop b sb db b' b12 b14 x read m xs n rn S S' D D' hn hf c1 w0 F0 _ (by with_reducible (repeat (first | refine calm_post | apply calm_then | apply calm_block))) ?_)
        (repeat (first | refine n_then_ret (h := ?_) | refine n_block_ret (h := ?_)))
        refine r_ret ?_
        exact ⟨m, S', D', rfl, rfl, Hand.top k hn c2 c3 c4 c6, c2, c9.trans hg, c10.trans hr⟩
      · rw [List.concat_eq_append] at *
        rw [List.map_append, List.reverse_append] at k
        obtain ⟨Lf', Rt', es', ps', qs', k', v1, v2, v3⟩ := Hand.up k hn c2 c3 c4 c6
        refine g_inv (fun i => ndl_last (i.take (A := NdL (L' ++ [s])) (by with_reducible (repeat (first | refine Take.here | apply Take.there))))) ?_
        refine g_bang (putUp (NdL L') b sb db b' b12 b14 x read m xs s L' n rn S S' D D' hn hf v2 (by have v5 : s.d.kids.length = s.d.keys.length + 1 := kidsLen v1.p v2; have v4 : s.i ≤ s.d.keys.length := v3; omega) (by simp at hL; omega) c1 w0 F0 _ (by with_reducible (repeat (first | refine calm_post | apply calm_then | apply calm_block))) ?_)
        intro r
        (repeat refine n_block (h := ?_))
        (refine n_back ((⟨L', s, { s.d with kids := s.d.kids.set s.i m }, r, S', D'⟩ : PutSt)) ?_ ?_ ?_ ?_; rotate_left; rotate_left; (repeat (first | refine ts_nil | (refine ts_cons rfl ?_ ?_; first | (with_reducible rfl) | rotate_left))); (first | (intro _ i; with_reducible refine i) | rotate_left); (try omega); (try omega))
        · have hsz : Nd.size { s.d with kids := s.d.kids.set s.i m } = s.d.size := by simp only [Nd.size, List.length_set]
          have v6 : s.d.size ≤ 240 := v1.size
          simp only [List.length_append, List.length_singleton] at room hL
          exact ⟨h + 1, Lf', Rt', es', ps', qs', k', by show Nd.size _ ≤ 340; rw [hsz]; omega, k'.nt.plain, by show U.length + S'.fresh.length + 2 * L'.length + 5 < N; omega, by show L'.length < 100; omega, c9.trans hg, c10.trans hr⟩
        · show L'.length < (L' ++ [s]).length
          simp
        · skip
          (intro _ i; exact inv_keep parts_of i)
    · have hn : 240 < n.size := by omega
      obtain ⟨a1, a2, a3, a4, a5⟩ := at_spec hpl hn hz
      obtain ⟨e1, p1, e2, p2, md, hmd, n1, n2, _, _, _, _, q1, q2⟩ := split_nt k.nt a2 a3
      have gf : (n.front n.at').good := ⟨n1.plain, fun _ => List.length_pos_iff.2 q1, a4⟩
      have gb : (n.back n.at').good := ⟨n2.plain, fun _ => List.length_pos_iff.2 q2, a5⟩
      obtain ⟨m, S1, D1, c1, c2, c3, c4, c5, c6, c7, c8, c9, c10⟩ := lay_ok k.fine k.pages (by omega) gf
      obtain ⟨m2, S2, D2, f1, f2, f3, f4, f5, f6, f7, f8⟩ := fresh_ok c2 c6 (by omega) gb
      have old : ∀ p ∈ m :: (ps ++ qs), D2.pg p = D1.pg p := fun p hp => by
        have h1 := (Sh.mem_after.1 (c6.mem_iff.1 hp)).1
        exact f4 p (h1.elim (fun q => by have := c2.h.b p q; omega) (fun q => by have := c2.f.2 p q; omega)) h1
      have same : ∀ p ∈ ps ++ qs, D2.pg p = D.pg p := fun p hp => (old p (List.mem_cons_of_mem _ hp)).trans (c4 p hp)
      have g1 : Gd N D2 m (n.front n.at') := c3.keep (old m (by simp))
      rcases List.eq_nil_or_concat L with rfl | ⟨L', s, rfl⟩
      · have hN := c2.n
        have b1 := c3.1
        have b2 := f3.1
        have hmd' : n.keys.getD n.at' 0 = md := by rw [List.getD, hmd]; rfl
        have hmm : n.keys.getD n.at' 0 < 18446744073709551616 := by rw [hmd']; exact hpl.key md (List.mem_of_getElem? hmd)
        have gT : Nd.good ⟨false, [n.keys.getD n.at' 0], [], [m, m2]⟩ := ⟨⟨List.pairwise_singleton _ _, by intro k hk; simp only [List.mem_singleton] at hk; omega, by simp, by intro i hi; simp only [List.mem_cons, List.not_mem_nil, or_false] at hi; omega, rfl, rfl⟩, by simp, by simp [Nd.size]⟩
        obtain ⟨m3, S3, D3, t1, t2, t3, t4, t5, t6, t7, t8⟩ := fresh_ok f2 f5 (by omega) gT
        have old3 : ∀ p ∈ m2 :: m :: (ps ++ qs), D3.pg p = D2.pg p := fun p hp => by
          have h1 := (Sh.mem_after.1 (f5.mem_iff.1 hp)).1
          exact t4 p (h1.elim (fun q => by have := f2.h.b p q; omega) (fun q => by have := f2.f.2 p q; omega)) h1
        refine g_bang (putSplitTop b sb db b' b12 b14 x read m m2 m3 xs n rn S S1 S2 S3 D D1 D2 D3 hn (by omega) hpl hf a1 c1 f1 t1 w0 F0 _ (by with_reducible (repeat (first | refine calm_post | apply calm_then | apply calm_block))) ?_)
        (repeat (first | refine n_then_ret (h := ?_) | refine n_block_ret (h := ?_)))
        refine r_ret ?_
        exact ⟨m3, S3, D3, rfl, rfl, Hand.splitTop k hn hz t2 (g1.keep (old3 m (by simp))) (f3.keep (old3 m2 (by simp))) t3 (fun p hp => (old3 p (by simp only [List.mem_cons]; exact .inr (.inr hp))).trans (same p hp)) t5, t2, ((t7.trans f7).trans c9).trans hg, ((t8.trans f8).trans c10).trans hr⟩
      · rw [List.concat_eq_append] at *
        rw [List.map_append, List.reverse_append] at k
        obtain ⟨Lf', Rt', es', ps', qs', k'⟩ := Hand.splitUp k hn hz f2 g1 f3 same f5
        obtain ⟨_, _, _, _, _, _, v0, v1, _⟩ := k.way
        have v2 : s.d.leaf = false := v1.leaf
        have v3 : s.i ≤ s.d.keys.length := v1.ile
        have v4 : s.d.good := v1.good
        have v5 : s.d.kids.length = s.d.keys.length + 1 := kidsLen v4.p v2
        simp only [List.length_append, List.length_singleton] at room hL
        refine g_inv (fun i => ndl_last (i.take (A := NdL (L' ++ [s])) (by with_reducible (repeat (first | refine Take.here | apply Take.there))))) ?_
        refine g_bang (putSplitUp (NdL L') b sb db b' b12 b14 x read m m2 xs s L' n rn S S1 S2 D D1 D2 hn (by omega) hpl hf a1 v4.fits v3 (noVals v4.p v2) v2 (by omega) (by omega) c1 f1 w0 F0 _ (by with_reducible (repeat (first | refine calm_post | apply calm_then | apply calm_block))) ?_)
        intro r
        (repeat refine n_block (h := ?_))
        (refine n_back ((⟨L', s, Nd.hang { s.d with kids := s.d.kids.set s.i m } s.i (n.keys.getD n.at' 0) m2, r, S2, D2⟩ : PutSt)) ?_ ?_ ?_ ?_; rotate_left; rotate_left; (repeat (first | refine ts_nil | (refine ts_cons rfl ?_ ?_; first | (with_reducible rfl) | rotate_left))); (first | (intro _ i; with_reducible refine i) | rotate_left); (try omega); (try omega))
        · have hsz : Nd.size (Nd.hang { s.d with kids := s.d.kids.set s.i m } s.i (n.keys.getD n.at' 0) m2) ≤ 340 := by
            have v6 := v4.size
            simp only [Nd.size, v2, Bool.false_eq_true, if_false] at v6
            simp only [Nd.size, Nd.hang, laidL, Bool.false_eq_true, if_false, List.length_append, List.length_take, List.length_drop, List.length_singleton, List.length_set]
            omega
          exact ⟨h + 1, Lf', Rt', es', ps', qs', k', hsz, k'.nt.plain, by show U.length + S2.fresh.length + 2 * L'.length + 5 < N; omega, by show L'.length < 100; omega, (f7.trans c9).trans hg, (f8.trans c10).trans hr⟩
        · show L'.length < (L' ++ [s]).length
          simp
        · skip
          (intro _ i; exact inv_keep parts_of i)
end Go.Proofs.YtmfmommgooccnaaGreat
/- Package tree: Put of a tree that is there. -/
set_option maxRecDepth 20000
set_option linter.unusedVariables false
set_option linter.unusedSimpArgs false
namespace Go.Proofs.YtmfmommgooccnaaGreat
open Go.Proofs.YtmfmommgooccnaaGreat.SL

set_option maxHeartbeats 2000000 in
theorem put1_does (sb db x N : Nat) (v : List UInt8) (root : Int) (U : List Int) (T : List Ent) (S : Sh) (D : Dk) (l0 : List Spot) (s : Spot) (hg : Goes S D x root (l0 ++ [s])) (hl : l0.length + 1 ≤ 10) (hr : root ≠ 0) (hv : v.length ≤ 40)
    (hI : ∀ (L : List Sp) (t : Sp) r, L.map Sp.spot = l0 → t.spot = s → PutI N U T S D ⟨L, t, s.d.put x v, r, S, D⟩) :
    Does Tryz.prog 65 [.pointer (some ⟨sb, 0, none⟩), .int .i64 root, .int .u64 x, .string (str v)] [Store sb db S, Disk db D]
      (fun u H => ∃ m S' D', u = .tuple #[.int .i64 m, .int .i64 0] ∧ H = [Store sb db S', Disk db D'] ∧ IsTree N S' D' U m T ∧ Fine N S' D' U ∧ S'.gen = S.gen ∧ Same U S D S' D') := by
  obtain ⟨hd, hlf, hi⟩ := hg.last
  have hw := fun b => way_does b sb db x root 0 S D (l0 ++ [s]) hg (by simp; omega) (by simp; omega)
  refine does_of Tryz.func65 Tryz.ntmps65 rfl rfl rfl (fun w0 F0 => ?_)
  (repeat' (first | refine g_seq (h := ?_) | refine g_region (h := ?_) | refine l_nil (h := ?_) | refine n_then (h := ?_) | refine l_pures1 (h := ?_) | (refine l_box (h := ?_); intro _) | refine g_skip (h := ?_) | (refine g_spF (h := ?_); intro h)))
  rename_i b
  refine l_inv (H' := [Wk b sb 0 0, Store sb db S, Disk db D]) (fun i => i) ?_
  (repeat' (first | refine g_seq (h := ?_) | refine g_region (h := ?_) | refine l_nil (h := ?_) | refine n_then (h := ?_) | refine l_pures1 (h := ?_) | (refine l_atc ?_; refine l_call_ (hw b) ?_; rintro _ _ _ ⟨b', L, hL, rfl, rfl⟩ he; cases he) | refine l_load (h := ?_) | refine g_skip (h := ?_) | refine g_cond_f (h := ?_)))
  obtain ⟨L0, t, rfl⟩ : ∃ L0 t, L = L0 ++ [t] := by
    rcases List.eq_nil_or_concat L with rfl | ⟨l, s, rfl⟩
    · simp at hL
    · exact ⟨l, s, by simp⟩
  have hL2 : L0.map Sp.spot = l0 ∧ t.spot = s := by
    have := congrArg List.reverse hL
    simp at this
    exact ⟨this.2, this.1⟩
  obtain ⟨hL1, hts⟩ := hL2
  subst hts
  have hlen : L0.length = l0.length := by rw [← hL1]; simp
  have hpop := pop_does b' L0 t (by omega)
  refine l_inv (fun q => ndl_last (q.take (A := NdL (L0 ++ [t])) (by with_reducible (repeat (first | refine Take.here | apply Take.there))))) ?_
  dsimp only [Sp.spot] at hlf
  have hki : t.d.kids = [] := List.length_eq_zero_iff.1 (by have := hd.p.kids; rw [show (Sp.spot t).d.leaf = true from hlf] at this; simpa using this)
  have hP := nPut_does t.d t.r x v hlf hd.fits hd.p.rise hki
  have hlp := fun b12 b14 rp => put_loop b sb db b' b12 b14 x N (0 + ((l0 ++ [t.spot]).length : Int)) U T S D ⟨L0, t, t.d.put x v, rp, S, D⟩ (hI L0 t rp hL1 rfl) w0 F0
  dsimp only [Sp.c] at hlp
  (repeat (first | refine g_seq (h := ?_) | refine g_region (h := ?_) | refine l_nil (h := ?_) | refine n_then (h := ?_) | refine l_pures1 (h := ?_) | (refine l_atc ?_; refine l_call (hpop) ?_) | (refine l_atc ?_; refine l_call_ (hP) ?_; rintro _ _ _ ⟨rp, rfl, rfl⟩ he; cases he) | refine l_load (h := ?_) | refine l_store (h := ?_) | (refine l_alloc (h := ?_); intro _) | refine g_block (h := ?_)))
  exact g_bang (hlp _ _ _)
end Go.Proofs.YtmfmommgooccnaaGreat
/- Package tree: Put, whole. -/
set_option maxRecDepth 20000
set_option linter.unusedVariables false
set_option linter.unusedSimpArgs false
namespace Go.Proofs.YtmfmommgooccnaaGreat
open Go.Proofs.YtmfmommgooccnaaGreat.SL

theorem high_le {h n : Nat} (k : 2 ^ (h + 1) ≤ n) (hn : n ≤ 700) : h ≤ 8 := by
  apply Decidable.byContradiction
  intro c
  have : 2 ^ 10 ≤ 2 ^ (h + 1) := Nat.pow_le_pow_right (by omega) (by omega)
  omega
theorem Fine.afterLen {N : Nat} {S : Sh} {D : Dk} {U : List Int} (k : Fine N S D U) : (S.after U).length ≤ U.length + S.fresh.length := by
  have := List.length_filter_le (fun i => !decide (i ∈ S.given)) (U ++ S.fresh)
  rw [List.length_append] at this
  exact this
theorem put_tree (sb db x N : Nat) (v : List UInt8) (root : Int) (U : List Int) (T : List Ent) (S : Sh) (D : Dk) (k : Fine N S D U) (ht : IsTree N S D U root T) (hx : x < 18446744073709551616) (hv : v.length ≤ 40) (room : U.length + S.fresh.length + 25 < N) :
    Does Tryz.prog 65 [.pointer (some ⟨sb, 0, none⟩), .int .i64 root, .int .u64 x, .string (str v)] [Store sb db S, Disk db D]
      (fun u H => ∃ m S' D', u = .tuple #[.int .i64 m, .int .i64 0] ∧ H = [Store sb db S', Disk db D'] ∧ IsTree N S' D' U m (putE T x v) ∧ Fine N S' D' U ∧ S'.gen = S.gen ∧ Same U S D S' D') := by
  have hN := k.n
  have hal := k.afterLen
  rcases ht with ⟨rfl, rfl, h0⟩ | ⟨h, ps, o, hp⟩
  · have hd : Nd.good ⟨true, [x], [v], []⟩ := ⟨⟨List.pairwise_singleton _ _, by simpa using hx, by simpa using hv, by simp, rfl, rfl⟩, by simp, by simp [Nd.size, sumL]; omega⟩
    obtain ⟨m, S', D', c1, c2, c3, c4, c5, c6, c7, c8⟩ := fresh_ok k (rest := []) (by rw [h0]) (by omega) hd
    refine (put0_does sb db x v S S' D D' m hv (fun b r => c1 b sb db 0 r)).mono ?_
    rintro u H ⟨rfl, rfl⟩
    refine ⟨m, S', D', rfl, rfl, .inr ⟨0, [m], ⟨_, [], c3, hd, by simp, ⟨rfl, hd.p, rfl, rfl⟩, rfl⟩, c5⟩, c2, c7, c8⟩
  · have hh := o.high
    obtain ⟨d, ps1, g, hd, hne, hn, e⟩ := o
    subst e
    have hlen := hp.length_eq
    dsimp only at hh hn
    have h8 := high_le hh (by omega)
    obtain ⟨top, s, L, R, qs, r1, r2, r3, r4, r5, r6, r7, r8, r9, r10, r11⟩ := goes_way k (x := x) hn hd hne g (up := []) (L0 := []) (R0 := []) (ps0 := []) ⟨rfl, rfl, rfl⟩ trivial (fun _ _ => trivial)
    obtain ⟨lt1, lt2⟩ := r3.lt r8
    simp only [List.nil_append, List.append_nil] at r3 r8 r9 r10 r11
    obtain ⟨n1, n2, n3⟩ := put_nt (g := Gd N D) (d := s.d) (es := s.d.ents) (ps := []) ⟨r5, r4.p, rfl, rfl⟩ hx hv
    have hroot : root ≠ 0 := by have := g.1; omega
    refine put1_does sb db x N v root U (putE T x v) S D top s r1 (by omega) hroot hv fun L1 t r hL1 ht => ⟨0, L, R, putE s.d.ents x v, [], qs, ⟨k, ?_, n1, ?_, ?_, ?_, List.length_pos_iff.1 n3⟩, ?_, n1.plain, ?_, ?_, rfl, .refl _ _ _⟩
    · show Way _ (L1.map Sp.spot).reverse 0 L R qs
      rw [hL1]; exact r3
    · have e1 : t.pg = s.pg := congrArg Spot.pg ht
      show (t.pg :: qs).Perm (S.after U)
      rw [e1]; exact r11.trans hp
    · intro e he
      show FitsP (L1.map Sp.spot).reverse e.1
      rw [hL1]
      simp only [putE, List.mem_append, List.mem_cons, List.mem_filter] at he
      rcases he with ⟨he, _⟩ | rfl | ⟨he, _⟩
      · exact r9 e he
      · exact r8
      · exact r9 e he
    · rw [← r10, putE_mid lt1 lt2]
    · have := r4.size
      show (s.d.put x v).size ≤ 340
      omega
    all_goals
      have e2 : L1.length = top.length := by rw [← hL1]; simp
    · show U.length + S.fresh.length + 2 * L1.length + 5 < N
      omega
    · show L1.length < 100
      omega
end Go.Proofs.YtmfmommgooccnaaGreat
/- Package tree: Get of a tree, Delete of a key that is not there, Delete from a tree that is one leaf. -/
set_option maxRecDepth 20000
set_option linter.unusedVariables false
set_option linter.unusedSimpArgs false
namespace Go.Proofs.YtmfmommgooccnaaGreat
open Go.Proofs.YtmfmommgooccnaaGreat.SL

/-- What a list has at a key. -/
def getE : List Ent → Nat → Option (List UInt8)
  | [], _ => none
  | e :: es, x => if e.1 = x then some e.2 else getE es x
theorem getE_append (a b : List Ent) (x : Nat) : getE (a ++ b) x = (getE a x).or (getE b x) := by
  induction a with
  | nil => simp [getE]
  | cons e a ih =>
    simp only [List.cons_append, getE]
    split
    · simp
    · exact ih
theorem getE_none {l : List Ent} {x : Nat} (h : ∀ e ∈ l, e.1 ≠ x) : getE l x = none := by
  induction l with
  | nil => rfl
  | cons e l ih =>
    rw [getE, if_neg (h e (by simp))]; exact ih fun e he => h e (by simp [he])
theorem getE_mid {L e R : List Ent} {x : Nat} (hl : ∀ a ∈ L, a.1 < x) (hr : ∀ a ∈ R, x < a.1) : getE (L ++ (e ++ R)) x = getE e x := by
  rw [getE_append, getE_append, getE_none (fun a ha => by have := hl a ha; omega), getE_none (l := R) (fun a ha => by have := hr a ha; omega)]
  simp
theorem posN_cons {k x : Nat} {l : List Nat} : posN (k :: l) x = if k < x then posN l x + 1 else 0 := rfl
theorem getE_zip : ∀ {ks : List Nat} {vs : List (List UInt8)} {x : Nat}, Rise ks → vs.length = ks.length → getE (ks.zip vs) x = if x ∈ ks then some (vs.getD (posN ks x) []) else none
  | [], [], x, _, _ => by simp [getE]
  | k :: ks, v :: vs, x, h, hl => by
    obtain ⟨h1, h2⟩ := List.pairwise_cons.1 h
    have ih := getE_zip (x := x) h2 (by simpa using hl)
    simp only [List.zip_cons_cons, getE, ih, posN_cons]
    by_cases q : k = x
    · subst q
      simp
    · rw [if_neg q]
      by_cases m : x ∈ ks
      · have := h1 x m
        rw [if_pos m, if_pos (List.mem_cons_of_mem _ m), if_pos this, List.getD_cons_succ]
      · rw [if_neg m, if_neg (by simp only [List.mem_cons, not_or]; exact ⟨fun e => q e.symm, m⟩)]
theorem IsTree.ord {N : Nat} {S : Sh} {D : Dk} {U : List Int} {r : Int} {T : List Ent} (h : IsTree N S D U r T) : Ord T := by
  rcases h with ⟨_, rfl, _⟩ | ⟨h, ps, ⟨d', ps', a1, a2, a3, a4, a5⟩, _⟩
  · exact List.Pairwise.nil
  · exact a4.ord

def getV (o : Option (List UInt8)) : Value := .tuple #[.string (str (o.getD [])), .bool o.isSome, .int .i64 0]
theorem get0_does (sb x : Nat) : Does Tryz.prog 69 [.pointer (some ⟨sb, 0, none⟩), .int .i64 0, .int .u64 x] [] (fun v H => v = getV none ∧ H = []) := by
  refine does_of Tryz.func69 Tryz.ntmps69 rfl rfl rfl (fun w0 F0 => ?_)
  (repeat' (first | refine g_seq (h := ?_) | refine g_region (h := ?_) | refine l_nil (h := ?_) | refine n_then (h := ?_) | refine l_pures1 (h := ?_) | refine g_ret (h := ?_) | refine n_then_ret (h := ?_) | refine g_cond_t (h := ?_)))
  refine r_ret ?_
  exact ⟨rfl, rfl⟩
/-- The way to a key, and what it tells of the tree. -/
theorem tree_way {N : Nat} {S : Sh} {D : Dk} {U : List Int} {root : Int} {T : List Ent} (k : Fine N S D U) {h : Nat} {ps : List Int} (o : OnP (Gd N D) h root ⟨T, ps⟩) (hp : ps.Perm (S.after U)) (x : Nat) :
    ∃ (top : List Spot) (s : Spot) (L R : List Ent) (ps' : List Int), Goes S D x root (top ++ [s]) ∧ top.length = h ∧ h ≤ 8 ∧ Way (Gd N D) top.reverse 0 L R ps' ∧ s.d.good ∧ s.d.leaf = true ∧ s.i = posN s.d.keys x ∧ Gd N D s.pg s.d ∧
      FitsP top.reverse x ∧ (∀ e ∈ s.d.ents, FitsP top.reverse e.1) ∧ L ++ (s.d.ents ++ R) = T ∧ (s.pg :: ps').Perm (S.after U) ∧ root ≠ 0 ∧ getE T x = (if x ∈ s.d.keys then some (s.d.vals.getD s.i []) else none) := by
  have hN := k.n
  have hh := o.high
  obtain ⟨d, ps1, g, hd, hne, hn, e⟩ := o
  subst e
  have hlen := hp.length_eq
  have hal := nodup_sub (A := S.after U) (B := (List.range' 2 (N - 2)).map (fun n : Nat => (n : Int))) k.afterNodup (by
    intro a ha
    have ha2 : 2 ≤ a ∧ a < N := by
      rcases (Sh.mem_after.1 ha).1 with h | h
      · have := k.h.b a h; omega
      · have := k.f.2 a h; omega
    exact List.mem_map.2 ⟨a.toNat, List.mem_range'_1.2 (by omega), by omega⟩)
  simp only [List.length_map, List.length_range'] at hal
  dsimp only at hh hn
  have h8 := high_le hh (by omega)
  obtain ⟨top, s, L, R, qs, r1, r2, r3, r4, r5, r6, r7, r8, r9, r10, r11⟩ := goes_way k (x := x) hn hd hne g (up := []) (L0 := []) (R0 := []) (ps0 := []) ⟨rfl, rfl, rfl⟩ trivial (fun _ _ => trivial)
  obtain ⟨lt1, lt2⟩ := r3.lt r8
  simp only [List.nil_append, List.append_nil] at r3 r8 r9 r10 r11
  refine ⟨top, s, L, R, qs, r1, r2, h8, r3, r4, r5, r6, r7, r8, r9, r10, r11.trans hp, by have := g.1; omega, ?_⟩
  rw [← r10, getE_mid lt1 lt2, Nd.ents, getE_zip r4.p.rise (valsLen r4.p r5), r6]
theorem get_tree (sb db x N : Nat) (root : Int) (U : List Int) (T : List Ent) (S : Sh) (D : Dk) (k : Fine N S D U) (ht : IsTree N S D U root T) :
    Does Tryz.prog 69 [.pointer (some ⟨sb, 0, none⟩), .int .i64 root, .int .u64 x] [Store sb db S, Disk db D] (fun v H => v = getV (getE T x) ∧ H = [Store sb db S, Disk db D]) := by
  rcases ht with ⟨rfl, rfl, h0⟩ | ⟨h, ps, o, hp⟩
  · refine (does_frame (K := [Store sb db S, Disk db D]) (get0_does sb x)).mono ?_
    rintro v H ⟨_, ⟨rfl, rfl⟩, rfl⟩
    exact ⟨rfl, rfl⟩
  · obtain ⟨top, s, L, R, qs, r1, r2, r8, _, _, _, _, _, _, _, _, _, hr, he⟩ := tree_way k o hp x
    refine (Get_does sb db x root S D top s r1 (by omega) hr).mono ?_
    rintro v H ⟨rfl, rfl⟩
    refine ⟨?_, rfl⟩
    rw [he]
    split <;> rfl
end Go.Proofs.YtmfmommgooccnaaGreat
/- The framework, part 16: rows of four, full slices of nothing, order-free regions that call yield. -/
set_option linter.unusedVariables false
set_option linter.unusedSimpArgs false
namespace Go.Proofs.YtmfmommgooccnaaGreat.SL

section
variable {P : Program} {E : Env} {n : Nat} {w0 : World} {F0 : Nat → Prop} {Q : Exit → Act → World → Prop} {tm : List (Nat × Value)} {D : List Deferred} {H H' : List SProp} {ops rest : List Oper}
variable {ty : TypeId} {pos : String} {after : Array Edge}
theorem l_buildSlice4 {d t e by' : Nat} {x1 x2 x3 x4 : Operand} {v1 v2 v3 v4 z : Value} (k : EnvOk P E := by refine inferInstance) (hd : Nat.blt d n = true := by refine rfl) (hx1 : ev tm x1 = some v1 := by refine rfl) (hx2 : ev tm x2 = some v2 := by refine rfl) (hx3 : ev tm x3 = some v3 := by refine rfl) (hx4 : ev tm x4 = some v4 := by refine rfl) (ht : look E.ty t = some (.slice e) := by refine rfl) (he : look E.inf e = some (z, 1, by') := by refine rfl)
    (hz : cellsV z = some [z] := by refine rfl) (hv1 : cellsV v1 = some [v1] := by refine rfl) (hv2 : cellsV v2 = some [v2] := by refine rfl) (hv3 : cellsV v3 = some [v3] := by refine rfl) (hv4 : cellsV v4 = some [v4] := by refine rfl) (h : ∀ b, L P n w0 F0 ops.toArray rest Q ((d, .slice (some ⟨b, 0, none⟩) 4 4) :: tm) D (cl b e [v1, v2, v3, v4] :: H)) :
    L P n w0 F0 ops.toArray (⟨some d, .buildSlice t 4 #[(0, x1), (1, x2), (2, x3), (3, x4)], ty, pos, after, none⟩ :: rest) Q tm D H := by
  refine .mk fun a w st => ?_
  have ez : z.cells = #[z] := by apply Array.ext'; simpa using (cellsV_spec hz).1
  have e1 : v1.cells = #[v1] := by apply Array.ext'; simpa using (cellsV_spec hv1).1
  have e2 : v2.cells = #[v2] := by apply Array.ext'; simpa using (cellsV_spec hv2).1
  have e3 : v3.cells = #[v3] := by apply Array.ext'; simpa using (cellsV_spec hv3).1
  have e4 : v4.cells = #[v4] := by apply Array.ext'; simpa using (cellsV_spec hv4).1
  refine wpList_value rfl (v := .slice (some ⟨w.heap.size, 0, none⟩) 4 4) (w' := { w with heap := w.heap.push (.cells [v1, v2, v3, v4].toArray e (0, 0)) }) ?_ (h w.heap.size _ _ ⟨st.tm.put hd _, st.defers, st.inv.new_cl _ _⟩)
  obtain ⟨info, hi, hi1, hi2, hi3⟩ := k.info he
  have hfill : Instr.fill (fun i => some (i * info.size, info.size)) ((Array.range (4 * info.size)).map (z.cells[· % z.cells.size]!)) [(0, v1), (1, v2), (2, v3), (3, v4)] = some [v1, v2, v3, v4].toArray := by
    rw [hi2, ez]
    simp [Instr.fill, e1, e2, e3, e4]
    apply Array.ext'
    simp only [Array.toList_setIfInBounds, Array.toList_map, Array.toList_range]
    rfl
  have hr := run_buildSlice w t e 4 #[(0, v1), (1, v2), (2, v3), (3, v4)] [v1, v2, v3, v4].toArray info z (k.under ht) hi hi1 (by omega) (by omega) hfill
  simp only [execOp, Sem.run_bind, List.map_toArray, List.map_cons, List.map_nil, ev_sound st.tm hx1, ev_sound st.tm hx2, ev_sound st.tm hx3, ev_sound st.tm hx4, hr, Result.andThen_ok, Sem.run_pure]
  rfl
/-- A full slice of nothing. -/
theorem l_slice3n {d t e sz by' : Nat} {x y u : Operand} {z : Value} (k : EnvOk P E := by refine inferInstance) (hd : Nat.blt d n = true := by refine rfl) (hx : ev tm x = some (.slice none 0 0) := by refine rfl) (hy : ev tm y = some (.int .i64 0) := by refine rfl) (hu : ev tm u = some (.int .i64 0) := by refine rfl) (ht : look E.ty t = some (.slice e) := by refine rfl) (he : look E.inf e = some (z, sz, by') := by refine rfl)
    (h : L P n w0 F0 ops.toArray rest Q ((d, .slice none 0 0) :: tm) D H) :
    L P n w0 F0 ops.toArray (⟨some d, .slice t x none (some y) (some u), ty, pos, after, none⟩ :: rest) Q tm D H := by
  refine .mk fun a w s => ?_
  refine wpList_value rfl (v := .slice none 0 0) (w' := w) ?_ (h _ _ (s.put hd _))
  simp [execOp, ev_sound s.tm hx, ev_sound s.tm hy, ev_sound s.tm hu, Instr.sliceAt, Instr.slice, Instr.sliceBounds, Instr.sliceBound, asIntOf, Sem.run_bind, run_underlying (k.under ht), Result.andThen, Sem.run_pure, run_size k he]

/-! ### Order-free regions that call yield last -/
def deps (o : Oper) : List Nat := (o.after.toList.filter (Region.binds .any)).map (·.on)
/-- What must have come up where the things of the list have. -/
def reach (ops : List Oper) : Nat → List Nat → List Nat
  | 0, l => l
  | i + 1, l => bif l.contains i then (match ops[i]? with
    | some o => reach ops i (deps o ++ l)
    | none => reach ops i l) else reach ops i l
def sureB : List Oper → Nat → Bool
  | [], _ => true
  | o :: l, i => (deps o).all (fun j => Nat.blt j i) && (match o.guard with | none => true | some _ => false) && sureB l (i + 1)
/-- A chain: each waits for the one ahead. -/
def chainB : List Oper → Nat → Bool
  | [], _ => true
  | o :: l, i => (deps o).all (fun j => Nat.blt j i) && (match l with | [] => true | u :: _ => (deps u).contains i) && chainB l (i + 1)
def goB (pre post : List Oper) : Bool :=
  sureB pre 0 && chainB post pre.length && noDf pre && (match post with | [] => false | c :: _ => (List.range pre.length).all (fun i => (reach pre pre.length (deps c)).contains i))

theorem mem_deps {o : Oper} {j : Nat} : j ∈ deps o ↔ ∃ e ∈ o.after, Region.binds .any e = true ∧ e.on = j := by
  simp [deps, and_assoc]
theorem reach_sub {ops : List Oper} {listed : Nat → Prop} (hc : ∀ i o, ops[i]? = some o → listed i → ∀ j ∈ deps o, listed j) : ∀ (k : Nat) (l : List Nat), (∀ x ∈ l, listed x) → ∀ x ∈ reach ops k l, listed x
  | 0, l, h => h
  | k + 1, l, h => by
    unfold reach
    cases hk : l.contains k with
    | false => exact reach_sub hc k l h
    | true =>
      simp only [cond_true]
      split
      · rename_i o ho
        refine reach_sub hc k _ fun x hx => ?_
        rcases List.mem_append.1 hx with hx | hx
        · exact hc k o ho (h k (by simpa using hk)) x hx
        · exact h x hx
      · exact reach_sub hc k l h
theorem sureB_spec : ∀ {l : List Oper} {i : Nat}, sureB l i = true → ∀ j o, l[j]? = some o → (∀ x ∈ deps o, x < i + j) ∧ o.guard = none
  | [], i, _, j, o, h => by simp at h
  | u :: l, i, hs, j, o, h => by
    simp only [sureB, Bool.and_eq_true, List.all_eq_true, Nat.blt_eq] at hs
    cases j with
    | zero =>
      simp only [List.getElem?_cons_zero, Option.some.injEq] at h
      subst h
      refine ⟨hs.1.1, ?_⟩
      have := hs.1.2
      cases hg : u.guard with
      | none => rfl
      | some _ => rw [hg] at this; simp at this
    | succ j =>
      have := sureB_spec hs.2 j o (by simpa using h)
      refine ⟨fun x hx => ?_, this.2⟩
      have := this.1 x hx
      omega
theorem chainB_spec : ∀ {l : List Oper} {i : Nat}, chainB l i = true → ∀ j o, l[j]? = some o → (∀ x ∈ deps o, x < i + j) ∧ (0 < j → i + j - 1 ∈ deps o)
  | [], i, _, j, o, h => by simp at h
  | u :: l, i, hs, j, o, h => by
    simp only [chainB, Bool.and_eq_true, List.all_eq_true, Nat.blt_eq] at hs
    cases j with
    | zero =>
      simp only [List.getElem?_cons_zero, Option.some.injEq] at h
      subst h
      exact ⟨hs.1.1, fun q => absurd q (by omega)⟩
    | succ j =>
      have := chainB_spec hs.2 j o (by simpa using h)
      refine ⟨fun x hx => by have := this.1 x hx; omega, fun _ => ?_⟩
      cases j with
      | zero =>
        cases l with
        | nil => simp at h
        | cons v l =>
          simp only [List.getElem?_cons_succ, List.getElem?_cons_zero, Option.some.injEq] at h
          subst h
          have := hs.1.2
          simp only [List.contains_eq_mem, decide_eq_true_eq] at this
          simpa using this
      | succ j =>
        have := this.2 (by omega)
        rw [show i + (j + 1 + 1) - 1 = i + 1 + (j + 1) - 1 by omega]
        exact this

theorem any_post {r : Option Nat} {pre : List Oper} {ops : Array Oper} : ∀ {post done : List Oper} {fuel : Nat} {listed : Array Bool} {a : Act} {w : World}, ops.toList = done ++ post → (∀ j o, post[j]? = some o → (∀ x ∈ deps o, x < done.length + j) ∧ (0 < j → done.length + j - 1 ∈ deps o)) → post.length ≤ fuel →
    (∀ i, i < done.length → listed.getD i false = true) → (∀ i, done.length ≤ i → i < ops.size → listed.getD i true = false) → listed.size = ops.size →
    wpListIn (FR r) 0 P ops Q post a w → wpAnyIn (FR r) 0 P .any ops Q fuel listed a w
  | [], done, fuel, listed, a, w, he, hp, hf, hl, hn, hsz, h => by
    have hnil : Region.ready .any ops listed = [] := by
      rw [List.eq_nil_iff_forall_not_mem]
      intro i hi
      obtain ⟨h1, o, h2, _⟩ := mem_ready.1 hi
      have hlt : i < ops.size := (Array.getElem?_eq_some_iff.1 h2).1
      have hs : ops.size = done.length := by have := congrArg List.length he; simpa using this
      have := hl i (by omega)
      simp only [Array.getD_eq_getD_getElem?] at h1 this
      cases hq : listed[i]? with
      | none => rw [hq] at this; simp at this
      | some b => rw [hq] at h1 this; simp only [Option.getD_some] at h1 this; rw [h1] at this; cases this
    cases fuel with
    | zero => exact ⟨hnil, h⟩
    | succ fuel => exact ⟨fun _ => h, fun i hi => by rw [hnil] at hi; cases hi⟩
  | o :: post, done, 0, listed, a, w, he, hp, hf, hl, hn, hsz, h => by simp at hf
  | o :: post, done, fuel + 1, listed, a, w, he, hp, hf, hl, hn, hsz, h => by
    have hs : ops.size = done.length + (post.length + 1) := by have := congrArg List.length he; simpa using this
    have ho : ops[done.length]? = some o := by
      rw [← Array.getElem?_toList, he]; simp
    have hrd : done.length ∈ Region.ready .any ops listed := by
      refine mem_ready.2 ⟨hn _ (Nat.le_refl _) (by omega), o, ho, fun e he hb => ?_⟩
      have := (hp 0 o rfl).1 e.on (mem_deps.2 ⟨e, he, hb, rfl⟩)
      exact hl _ (by omega)
    refine ⟨fun q => (by rw [q] at hrd; cases hrd), fun i hi => ?_⟩
    obtain ⟨h1, oi, h2, h3⟩ := mem_ready.1 hi
    have hi' : i = done.length := by
      have hlt : i < ops.size := (Array.getElem?_eq_some_iff.1 h2).1
      rcases Nat.lt_trichotomy i done.length with q | q | q
      · have := hl i q
        simp only [Array.getD_eq_getD_getElem?] at h1 this
        cases hq : listed[i]? with
        | none => rw [hq] at this; simp at this
        | some b => rw [hq] at h1 this; simp only [Option.getD_some] at h1 this; rw [h1] at this; cases this
      · exact q
      · exfalso
        have h4 : (o :: post)[i - done.length]? = some oi := by
          rw [← Array.getElem?_toList, he, List.getElem?_append_right (by omega)] at h2; exact h2
        have h5 := (hp _ _ h4).2 (by omega)
        obtain ⟨e, he1, he2, he3⟩ := mem_deps.1 h5
        have h6 := h3 e he1 he2
        have h7 := hn e.on (by omega) (by omega)
        simp only [Array.getD_eq_getD_getElem?] at h6 h7
        cases hq : listed[e.on]? with
        | none => rw [hq] at h6; simp at h6
        | some b => rw [hq] at h6 h7; simp only [Option.getD_some] at h6 h7; rw [h6] at h7; cases h7
    subst hi'
    unfold wpOpIn
    simp only [ho]
    have key : ∀ a w, wpListIn (FR r) 0 P ops Q post a w → wpAnyIn (FR r) 0 P .any ops Q fuel (listed.setIfInBounds done.length true) a w := fun a w h => by
      refine any_post (pre := pre) (done := done ++ [o]) (by simpa using he) ?_ (by simp only [List.length_cons] at hf; omega) ?_ ?_ (by simpa using hsz) h
      · intro j u hu
        have := hp (j + 1) u (by simpa using hu)
        simp only [List.length_append, List.length_singleton]
        refine ⟨fun x hx => by have := this.1 x hx; omega, fun q => ?_⟩
        have := this.2 (by omega)
        rw [show done.length + 1 + j - 1 = done.length + (j + 1) - 1 by omega]
        exact this
      · intro i hi
        simp only [List.length_append, List.length_singleton] at hi
        by_cases q : i = done.length
        · subst q
          rw [Array.getD_eq_getD_getElem?, Array.getElem?_setIfInBounds, if_pos rfl, if_pos (by omega)]; rfl
        · have := hl i (by omega)
          simp only [Array.getD_eq_getD_getElem?] at this ⊢
          rw [Array.getElem?_setIfInBounds_ne (by omega)]; exact this
      · intro i hi hi2
        simp only [List.length_append, List.length_singleton] at hi
        have := hn i (by omega) hi2
        simp only [Array.getD_eq_getD_getElem?] at this ⊢
        rw [Array.getElem?_setIfInBounds_ne (by omega)]; exact this
    unfold wpListIn at h
    split
    · rename_i hw
      rw [if_pos hw] at h
      exact Oper.wpIn_mono key h
    · rename_i hw
      rw [if_neg hw] at h
      exact ⟨h.1, key _ _ h.2⟩
theorem any_pre {r : Option Nat} {pre post : List Oper} {S : World → Prop} (hq : NoOut Q) (hg : goB pre post = true) : ∀ {fuel : Nat} {lp listed : Array Bool} {a : Act} {w : World}, lp.size = pre.length → listed = lp ++ Array.replicate post.length false → (∀ i o, pre[i]? = some o → lp.getD i true = true → ∀ j ∈ deps o, lp.getD j false = true) →
    wpAnyH P .any pre.toArray (Exit.then (fun a w => wpListIn (FR r) 0 P (pre ++ post).toArray Q post a w) Q) S fuel lp a w → wpAnyIn (FR r) 0 P .any (pre ++ post).toArray Q (fuel + post.length) listed a w := by
  simp only [goB, Bool.and_eq_true] at hg
  obtain ⟨⟨⟨g1, g2⟩, g3⟩, g4⟩ := hg
  have k1 := sureB_spec g1
  have k2 := chainB_spec g2
  have hdf : ∀ {l : List Oper} {i : Nat} {o : Oper}, noDf l = true → l[i]? = some o → isDf o.op = false := by
    intro l
    induction l with
    | nil => intro i o _ h; simp at h
    | cons x l ih =>
      obtain ⟨d, op, ty, pos, after, g⟩ := x
      intro i o h1 h2
      simp only [noDf, Bool.and_eq_true, Bool.not_eq_true'] at h1
      cases i with
      | zero => simp only [List.getElem?_cons_zero, Option.some.injEq] at h2; subst h2; exact h1.1
      | succ i => exact ih h1.2 (by simpa using h2)
  intro fuel
  induction fuel with
  | zero =>
    intro lp listed a w hsz hl hc h
    obtain ⟨h1, h2⟩ := h
    have hall : ∀ i, i < pre.length → lp.getD i true = true := by
      intro i
      induction i using Nat.strongRecOn with
      | _ i ih =>
        intro hi
        cases hb : lp.getD i true with
        | true => rfl
        | false =>
          have ho : pre.toArray[i]? = some pre[i] := by simp [hi]
          have : i ∈ Region.ready .any pre.toArray lp := mem_ready.2 ⟨hb, _, ho, fun e he hb2 => by
            have h3 := (k1 i pre[i] (by simp [hi])).1 e.on (mem_deps.2 ⟨e, he, hb2, rfl⟩)
            have h4 := ih e.on (by omega) (by omega)
            have hlt : e.on < lp.size := by omega
            simp [hlt] at h4 ⊢; exact h4⟩
          rw [h1] at this; cases this
    refine any_post (pre := pre) (done := pre) (by simp) k2 (by omega) ?_ ?_ (by rw [hl]; simp [hsz]) h2
    · intro i hi
      have := hall i hi
      have hlt : i < lp.size := by omega
      rw [hl]
      simp [hlt, Array.getElem?_append] at this ⊢; exact this
    · intro i hi hi2
      rw [hl]
      simp at hi2
      have h5 : i - pre.length < post.length := by omega
      simp [Array.getElem?_append, hsz, show ¬ i < pre.length by omega, Array.getElem?_replicate, h5]
  | succ fuel ih =>
    intro lp listed a w hsz hl hc h
    obtain ⟨h1, h2⟩ := h
    rw [show fuel + 1 + post.length = (fuel + post.length) + 1 by omega]
    by_cases hall : ∀ i, i < pre.length → lp.getD i true = true
    · have hnil : Region.ready .any pre.toArray lp = [] := by
        rw [List.eq_nil_iff_forall_not_mem]
        intro i hi
        obtain ⟨h3, o, h4, _⟩ := mem_ready.1 hi
        have hlt : i < pre.length := by simpa using (Array.getElem?_eq_some_iff.1 h4).1
        rw [hall i hlt] at h3; cases h3
      refine any_post (pre := pre) (done := pre) (by simp) k2 (by omega) ?_ ?_ (by rw [hl]; simp [hsz]) (h1 hnil)
      · intro i hi
        have := hall i hi
        have hlt : i < lp.size := by omega
        rw [hl]
        simp [hlt, Array.getElem?_append] at this ⊢; exact this
      · intro i hi hi2
        rw [hl]
        simp at hi2
        have h5 : i - pre.length < post.length := by omega
        simp [Array.getElem?_append, hsz, show ¬ i < pre.length by omega, Array.getElem?_replicate, h5]
    · -- one of the first part may come up, and none of the last
      have hex : ∃ i, i < pre.length ∧ lp.getD i true = false ∧ ∀ j, j < i → lp.getD j true = true := by
        have : ∃ i, i < pre.length ∧ lp.getD i true = false := by
          apply Classical.byContradiction
          intro q
          refine hall fun i hi => ?_
          cases hb : lp.getD i true with
          | true => rfl
          | false => exact absurd ⟨i, hi, hb⟩ q
        obtain ⟨i, hi⟩ := this
        have : ∀ m i, i ≤ m → (i < pre.length ∧ lp.getD i true = false) → ∃ i, i < pre.length ∧ lp.getD i true = false ∧ ∀ j, j < i → lp.getD j true = true := by
          intro m
          induction m with
          | zero =>
            intro i hi h
            exact ⟨i, h.1, h.2, fun j hj => by omega⟩
          | succ m ihm =>
            intro i hi h
            by_cases q : ∀ j, j < i → lp.getD j true = true
            · exact ⟨i, h.1, h.2, q⟩
            · obtain ⟨j, hj⟩ := Classical.not_forall.1 q
              obtain ⟨hj1, hj2⟩ := Classical.not_imp.1 hj
              exact ihm j (by omega) ⟨by omega, by simpa using hj2⟩
        exact this i i (Nat.le_refl _) hi
      obtain ⟨i0, hi0, hb0, hlow⟩ := hex
      have hlisted : ∀ i, i < pre.length → ∀ b, listed.getD i b = lp.getD i b := by
        intro i hi b
        have hlt : i < lp.size := by omega
        rw [hl]
        simp [hlt, Array.getElem?_append]
      have hpost : ∀ i, pre.length ≤ i → ∀ b, listed.getD i b = true → b = true := by
        intro i hi b
        rw [hl]
        simp only [Array.getD_eq_getD_getElem?, Array.getElem?_append, hsz, if_neg (show ¬ i < pre.length by omega), Array.getElem?_replicate]
        split <;> simp
      have hr0 : i0 ∈ Region.ready .any (pre ++ post).toArray listed := by
        refine mem_ready.2 ⟨by rw [hlisted i0 hi0]; exact hb0, pre[i0], by simp [List.getElem?_append, hi0], fun e he hb2 => ?_⟩
        have h3 := (k1 i0 pre[i0] (by simp [hi0])).1 e.on (mem_deps.2 ⟨e, he, hb2, rfl⟩)
        have h4 := hlow e.on (by omega)
        rw [hlisted _ (by omega)]
        have hlt : e.on < lp.size := by omega
        simp [hlt] at h4 ⊢; exact h4
      refine ⟨fun q => (by rw [q] at hr0; cases hr0), fun i hi => ?_⟩
      obtain ⟨h3, o, h4, h5⟩ := mem_ready.1 hi
      have hi1 : i < pre.length := by
        apply Classical.byContradiction
        intro q
        have h6 : post[i - pre.length]? = some o := by
          have := h4
          simp only [List.getElem?_toArray, List.getElem?_append_right (show pre.length ≤ i by omega)] at this
          exact this
        have h7 := k2 _ _ h6
        by_cases q0 : i = pre.length
        · subst q0
          cases post with
          | nil => simp at h6
          | cons c post =>
            simp only [Nat.sub_self, List.getElem?_cons_zero, Option.some.injEq] at h6
            subst h6
            have h8 := reach_sub (ops := pre) (listed := fun j => lp.getD j false = true) (fun i o ho hli j hj => hc i o ho (by
              have hlt : i < pre.length := (List.getElem?_eq_some_iff.1 ho).1
              have hlt2 : i < lp.size := by omega
              simp [hlt2] at hli ⊢; exact hli) j hj) pre.length (deps c) (fun j hj => by
                obtain ⟨e, he1, he2, he3⟩ := mem_deps.1 hj
                have h9 := h5 e he1 he2
                have h10 := h7.1 j hj
                rw [he3] at h9
                rw [hlisted j (by omega)] at h9; exact h9)
            simp only [List.all_eq_true, List.mem_range, List.contains_eq_mem, decide_eq_true_eq] at g4
            have h9 := h8 i0 (g4 i0 hi0)
            have hlt2 : i0 < lp.size := by omega
            simp [hlt2] at h9 hb0
            rw [h9] at hb0; cases hb0
        · have h8 := h7.2 (by omega)
          obtain ⟨e, he1, he2, he3⟩ := mem_deps.1 h8
          have h9 := h5 e he1 he2
          have := hpost e.on (by omega) false h9
          cases this
      have ho : pre[i]? = some o := by
        have := h4
        simp only [List.getElem?_toArray, List.getElem?_append_left hi1] at this
        exact this
      have hrd : i ∈ Region.ready .any pre.toArray lp := mem_ready.2 ⟨by rw [← hlisted i hi1]; exact h3, o, by simpa using ho, fun e he hb2 => by
        have := h5 e he hb2
        have h6 := (k1 i o ho).1 e.on (mem_deps.2 ⟨e, he, hb2, rfl⟩)
        rw [hlisted _ (by omega)] at this; exact this⟩
      have h6 := h2 i hrd
      unfold wpOp at h6
      rw [show pre.toArray[i]? = some o by simpa using ho] at h6
      have hgd := (k1 i o ho).2
      have hw1 : ∀ ts, Region.wanted o ts = true := fun ts => by simp [Region.wanted, hgd]
      simp only [hw1, if_true] at h6
      unfold wpOpIn
      rw [h4]
      simp only [hw1, if_true]
      rcases h6 with h6 | ⟨_, h6⟩
      · refine oper_lift (hdf g3 ho) (wp_mono2 (fun a w h7 => ?_) (fun e a w he h7 => ?_) h6)
        · refine ih (by simpa using hsz) ?_ ?_ h7.2
          · rw [hl, Array.setIfInBounds_append_left (by omega)]
          · intro k u hu hk j hj
            have hkl : k < lp.size := by have := (List.getElem?_eq_some_iff.1 hu).1; omega
            by_cases q : k = i
            · subst q
              rw [ho] at hu
              simp only [Option.some.injEq] at hu
              subst hu
              obtain ⟨e, he1, he2, he3⟩ := mem_deps.1 hj
              have h8 := h5 e he1 he2
              have h9 := (k1 k o ho).1 j hj
              rw [he3] at h8
              rw [hlisted j (by omega)] at h8
              rw [Array.getD_eq_getD_getElem?, Array.getElem?_setIfInBounds_ne (by omega), ← Array.getD_eq_getD_getElem?]; exact h8
            · rw [Array.getD_eq_getD_getElem?, Array.getElem?_setIfInBounds_ne (by omega), ← Array.getD_eq_getD_getElem?] at hk
              have h8 := hc k u hu hk j hj
              by_cases q2 : j = i
              · subst q2
                rw [Array.getD_eq_getD_getElem?, Array.getElem?_setIfInBounds, if_pos rfl, if_pos (by omega)]; rfl
              · rw [Array.getD_eq_getD_getElem?, Array.getElem?_setIfInBounds_ne (by omega), ← Array.getD_eq_getD_getElem?]; exact h8
        · cases e <;> first | exact absurd rfl he | exact h7
      · exact absurd h6 (noOut_then hq)
/-- An order-free region whose last operations are a chain that begins with a call of yield. -/
theorem g_draw_w {id : Nat} {pre post : List Oper} (Hs : List SProp) (k : EnvOk P E := by refine inferInstance) (p : Parts Hs H H' := by with_reducible (repeat (first | refine Parts.nil | (apply Parts.cons; repeat (first | refine Take.here | apply Take.there))))) (hg : goB pre post = true := by refine rfl) (hq : NoOut Q := by with_reducible (repeat (first | assumption | refine noOut_post | refine noOut_postM | refine noOut_round | refine noOut_begin | apply noOut_then | apply noOut_block | apply noOut_scope)))
    (h : A P n w0 F0 pre Hs (Array.replicate pre.length false) (Exit.then (fun a w => wpListIn (FR none) 0 P (pre ++ post).toArray Q post a w) Q) tm D H) : G P n w0 F0 (.region id (pre ++ post).toArray true) Q tm D H := .mk fun a w s => by
  refine wpIn_wide (n := 0).1 (wpIn_region_any k.mixed ?_)
  have h1 := h pre.length (by
    simp only [unl, Array.toList_replicate]
    exact Nat.le_trans (List.length_filter_le _ _) (by simp)) a { w with drawn := w.drawn + 1 } ⟨s.tm, s.defers, s.inv.drew _⟩ (s.inv.has p)
  have h2 := any_pre hq hg (listed := Array.replicate pre.length false ++ Array.replicate post.length false) (by simp) rfl (fun i o ho hi => by
    have hlt : i < pre.length := (List.getElem?_eq_some_iff.1 ho).1
    simp [hlt] at hi) h1
  rw [Array.replicate_append_replicate] at h2
  rw [show (pre ++ post).toArray.size = pre.length + post.length by simp]
  exact h2
/-- The region's list, cut in two. -/
def splitO : Nat → List Oper → Option (List Oper × List Oper)
  | 0, l => some ([], l)
  | _ + 1, [] => none
  | m + 1, o :: l => match splitO m l with
    | some (a, b) => some (o :: a, b)
    | none => none
theorem splitO_eq : ∀ {m : Nat} {l a b : List Oper}, splitO m l = some (a, b) → l = a ++ b
  | 0, l, a, b, h => by simp only [splitO, Option.some.injEq, Prod.mk.injEq] at h; obtain ⟨rfl, rfl⟩ := h; rfl
  | m + 1, [], a, b, h => by simp [splitO] at h
  | m + 1, o :: l, a, b, h => by
    simp only [splitO] at h
    split at h
    · rename_i a' b' he
      simp only [Option.some.injEq, Prod.mk.injEq] at h
      obtain ⟨rfl, rfl⟩ := h
      rw [splitO_eq he]; rfl
    · cases h
theorem g_draw_at {id : Nat} {l : List Oper} (m : Nat) {pre post : List Oper} (Hs : List SProp) (e : splitO m l = some (pre, post) := by refine rfl) (k : EnvOk P E := by refine inferInstance) (p : Parts Hs H H' := by with_reducible (repeat (first | refine Parts.nil | (apply Parts.cons; repeat (first | refine Take.here | apply Take.there))))) (hg : goB pre post = true := by refine rfl) (hq : NoOut Q := by with_reducible (repeat (first | assumption | refine noOut_post | refine noOut_postM | refine noOut_round | refine noOut_begin | apply noOut_then | apply noOut_block | apply noOut_scope)))
    (h : A P n w0 F0 pre Hs (Array.replicate pre.length false) (Exit.then (fun a w => wpListIn (FR none) 0 P l.toArray Q post a w) Q) tm D H) : G P n w0 F0 (.region id l.toArray true) Q tm D H := by
  obtain rfl := splitO_eq e
  exact g_draw_w Hs k p hg hq h
/-! ### The first one that may come up and is no call of a function -/
def isCallF : Op → Bool
  | .call ⟨.value _, _, _⟩ => true
  | _ => false
def nextRV : List Oper → Nat → Array Bool → Option Nat
  | [], _, _ => none
  | ⟨_, op, _, _, after, _⟩ :: l, i, listed => bif !listed.getD i true && rdyB after.toList listed && !isCallF op then some i else nextRV l (i + 1) listed
theorem a_w {ops : List Oper} {Hs : List SProp} {listed : Array Bool} {i d : Nat} {op : Op} {v : Value} (hc : Calm Q := by with_reducible (repeat (first | assumption | refine calm_post | refine calm_postM | refine calm_round | apply calm_then | apply calm_block | apply calm_scope))) (hs : noSel ops = true := by refine rfl) (hi : nextRV ops 0 listed = some i := by refine rfl) (ho : nth ops i = some ⟨some d, op, ty, pos, after, none⟩ := by refine rfl) (hd : Nat.blt d n = true := by refine rfl)
    (hy : V P n tm op v := by first | refine v_pure | refine v_index | refine v_shl | refine v_shr | refine v_rem | refine v_quo | refine v_indexAddr | refine v_slice | refine v_slice_str | refine v_slice_any | refine v_sliceData) (hf : freeL ops.toArray i ⟨some d, op, ty, pos, after, none⟩ listed ops 0 = true := by refine rfl) (hl : listed.getD i true = false := by refine rfl) (hr : rdyB after.toList listed = true := by refine rfl)
    {ll : List Bool} (hn : copyB (listed.setIfInBounds i true).toList = some ll := by refine rfl) (h : A P n w0 F0 ops Hs ll.toArray Q ((d, v) :: tm) D H) : A P n w0 F0 ops Hs listed Q tm D H :=
  a_y hc hs ho hd hf hl hr (fun _ _ => .inl ⟨rfl, hy⟩) (by rw [copyB_arr hn]; exact h)
end
end Go.Proofs.YtmfmommgooccnaaGreat.SL
/- The document's own pages: numbers, sums, pages, heads as bytes. What they are does not matter: how long they are does. -/
set_option maxRecDepth 20000
set_option linter.unusedVariables false
set_option linter.unusedSimpArgs false
namespace Go.Proofs.YtmfmommgooccnaaGreat
open Go.Proofs.YtmfmommgooccnaaGreat.SL
end Go.Proofs.YtmfmommgooccnaaGreat
/- The document's own disk and store: a new one, formatted. -/
set_option maxRecDepth 20000
set_option linter.unusedVariables false
set_option linter.unusedSimpArgs false
namespace Go.Proofs.YtmfmommgooccnaaGreat
open Go.Proofs.YtmfmommgooccnaaGreat.SL
end Go.Proofs.YtmfmommgooccnaaGreat
/- The framework, part 17: maps over whole numbers of any kind. -/
set_option linter.unusedVariables false
set_option linter.unusedSimpArgs false
namespace Go.Proofs.YtmfmommgooccnaaGreat.SL
section
variable {P : Program} {E : Env} {n : Nat} {w0 : World} {F0 : Nat → Prop} {Q : Exit → Act → World → Prop} {tm : List (Nat × Value)} {D : List Deferred} {H H' : List SProp} {ops rest : List Oper}
variable {ty : TypeId} {pos : String} {after : Array Edge}
/-- Block b is a map of whole numbers, in the order of their coming. -/
def mpk {α : Type} (kk : IntKind) (b : Nat) (enc : α → Value) (kv : List (Int × α)) : SProp where
  holds h F := (∃ es clock, h[b]? = some (.map es clock) ∧ es.toList.map (fun x => (x.key, x.val)) = kv.map (fun p => (Value.int kk p.1, enc p.2)) ∧ (∀ x ∈ es.toList, x.born < clock) ∧ (es.toList.map MapEntry.born).Nodup ∧ (kv.map Prod.fst).Nodup) ∧ ∀ x, F x ↔ x = b
  loc := fun ⟨⟨es, c, e, r⟩, f⟩ k => ⟨⟨es, c, by rw [k b ((f b).2 rfl)]; exact e, r⟩, f⟩
  bnd := fun ⟨⟨_, _, e, _⟩, f⟩ x hx => by rw [(f x).1 hx]; exact lt_of_some e

theorem same_int_k {kk : IntKind} (k : Int) (j : Int) : Instr.sameNow (.int kk) (.int kk k) (.int kk j) = some (k == j) := by simp [Instr.sameNow]

/-- What is found, and what becomes of it. -/
theorem find_spec_k {α : Type} {kk : IntKind} {enc : α → Value} (k : Int) : ∀ (es : List MapEntry) (kv : List (Int × α)) (i : Nat), es.map (fun x => (x.key, x.val)) = kv.map (fun p => (Value.int kk p.1, enc p.2)) →
    (kvGet kv k = none ∧ Instr.findNow (.int kk) (.int kk k) es i = some none ∧ (∀ x, kvPut kv k x = kv ++ [(k, x)]) ∧ kvDel kv k = kv ∧ k ∉ kv.map (·.1)) ∨
    ∃ j v e0, kvGet kv k = some v ∧ Instr.findNow (.int kk) (.int kk k) es i = some (some (i + j, enc v)) ∧ es[j]? = some e0 ∧ e0.key = .int kk k ∧
      (∀ x, (es.set j { e0 with val := enc x }).map (fun x => (x.key, x.val)) = (kvPut kv k x).map (fun p => (Value.int kk p.1, enc p.2))) ∧ (∀ x, (kvPut kv k x).map (·.1) = kv.map (·.1)) ∧
      (es.eraseIdx j).map (fun x => (x.key, x.val)) = (kvDel kv k).map (fun p => (Value.int kk p.1, enc p.2)) ∧ (kvDel kv k).Sublist kv
  | [], [], i, _ => .inl ⟨rfl, rfl, fun _ => rfl, rfl, by simp⟩
  | [], _ :: _, i, h => by simp at h
  | _ :: _, [], i, h => by simp at h
  | e :: es, (j, v) :: kv, i, h => by
    simp only [List.map_cons, List.cons.injEq, Prod.mk.injEq] at h
    obtain ⟨⟨h1, h2⟩, h3⟩ := h
    by_cases q : j = k
    · subst q
      refine .inr ⟨0, v, e, by simp [kvGet], by simp [Instr.findNow, h1, same_int_k, h2], rfl, h1, fun x => ?_, fun x => by simp [kvPut], ?_, ?_⟩
      · simp [kvPut, h1, h3]
      · simp [kvDel, h3]
      · simp [kvDel]
    · have q' : ¬ k = j := fun q2 => q q2.symm
      rcases find_spec_k k es kv (i + 1) h3 with ⟨g1, g2, g3, g4, g5⟩ | ⟨m, u, e0, g1, g2, g3, g4, g5, g6, g7, g8⟩
      · refine .inl ⟨by simp [kvGet, q, g1], by simp [Instr.findNow, h1, same_int_k, beq_eq_false_iff_ne.2 q', g2], fun x => by simp [kvPut, q, g3], by simp [kvDel, q, g4], ?_⟩
        simp only [List.map_cons, List.mem_cons, not_or]
        exact ⟨q', g5⟩
      · refine .inr ⟨m + 1, u, e0, by simp [kvGet, q, g1], ?_, by simpa using g3, g4, fun x => ?_, fun x => by simp [kvPut, q, g6], ?_, ?_⟩
        · simp [Instr.findNow, h1, same_int_k, beq_eq_false_iff_ne.2 q', g2]
          omega
        · simp [kvPut, q, h1, h2, g5]
        · simp [kvDel, q, h1, h2, g7]
        · simp [kvDel, q, g8]

theorem l_makeMap_k {d t : Nat} {α : Type} (kk : IntKind) (enc : α → Value) (hd : Nat.blt d n = true := by refine rfl) (h : ∀ b, L P n w0 F0 ops.toArray rest Q ((d, .map (some b)) :: tm) D (mpk kk b enc [] :: H)) :
    L P n w0 F0 ops.toArray (⟨some d, .makeMap t none, ty, pos, after, none⟩ :: rest) Q tm D H := by
  refine .mk fun a w s => ?_
  refine wpList_value rfl (v := .map (some w.heap.size)) (w' := { w with heap := w.heap.push (.map #[] 0) }) ?_ (h w.heap.size _ _ ⟨s.tm.put hd _, s.defers, ?_⟩)
  · simp [execOp, Instr.makeMap]
  · refine (s.inv.alloc (.map #[] 0)).imp fun {h F} s => ?_
    obtain ⟨F1, F2, ⟨e, f⟩, r⟩ := s
    exact ⟨F, ⟨F1, F2, ⟨⟨#[], 0, e, by simp⟩, f⟩, r⟩, fun _ h => h⟩

theorem run_lookup_int_k {α : Type} {kk : IntKind} {t kt et : TypeId} {enc : α → Value} {kv : List (Int × α)} {i : Int} {z : α} {b sz by' : Nat} {es : Array MapEntry} {clock : Nat} {ok : Bool} {w : World} (k : EnvOk P E) (hw : w.heap[b]? = some (.map es clock))
    (he : es.toList.map (fun x => (x.key, x.val)) = kv.map (fun p => (Value.int kk p.1, enc p.2))) (ht : look E.ty t = some (.map kt et)) (hk : look E.ty kt = some (.int kk)) (hz : look E.inf et = some (enc z, sz, by')) :
    (Instr.lookup t (.map (some b)) (.int kk i) ok).run P w = .ok (if ok then .tuple #[enc ((kvGet kv i).getD z), .bool (kvGet kv i).isSome] else enc ((kvGet kv i).getD z)) w := by
  simp only [Instr.lookup, Sem.run_bind, run_underlying (k.under ht), Result.andThen, MapKept.run_getObj_map hw, Sem.run_pure, run_checkKey_int (k.under hk), Instr.findKey, run_underlying (k.under hk)]
  rcases find_spec_k (kk := kk) (enc := enc) i es.toList kv 0 he with ⟨g1, g2, _⟩ | ⟨j, v, e0, g1, g2, _⟩
  · simp only [g1, g2, Sem.run_pure, Sem.run_bind, run_zero k hz, Result.andThen, Option.getD_none, Option.isSome_none]
  · simp only [g1, g2, Sem.run_pure, Sem.run_bind, Result.andThen, Option.getD_some, Option.isSome_some]

/-- What a map has at a number. -/
theorem l_lookup_k {α : Type} {kk : IntKind} {d t kt et b sz by' : Nat} {x y : Operand} {enc : α → Value} {kv : List (Int × α)} {i : Int} (z : α) {zv : Value} (k : EnvOk P E := by refine inferInstance) (hd : Nat.blt d n = true := by refine rfl) (hx : ev tm x = some (.map (some b)) := by refine rfl) (hy : ev tm y = some (.int kk i) := by refine rfl)
    (ht : look E.ty t = some (.map kt et) := by refine rfl) (hk : look E.ty kt = some (.int kk) := by refine rfl) (hz : look E.inf et = some (zv, sz, by') := by refine rfl) (tk : Take (mpk kk b enc kv) H H' := by with_reducible (repeat (first | refine Take.here | apply Take.there))) (hze : zv = enc z := by refine rfl)
    (h : L P n w0 F0 ops.toArray rest Q ((d, enc ((kvGet kv i).getD z)) :: tm) D H) :
    L P n w0 F0 ops.toArray (⟨some d, .lookup t x y false, ty, pos, after, none⟩ :: rest) Q tm D H := by
  subst hze
  refine .mk fun a w s => ?_
  obtain ⟨⟨_, ⟨_, _, ⟨⟨es, clock, hw, he, _⟩, _⟩, _⟩, _⟩, _⟩ := s.inv.take tk
  refine wpList_value rfl (v := enc ((kvGet kv i).getD z)) (w' := w) ?_ (h _ _ (s.put hd _))
  simp only [execOp, ev_sound s.tm hx, ev_sound s.tm hy, Sem.run_bind, run_lookup_int_k k hw he ht hk hz, Result.andThen, Sem.run_pure, Bool.false_eq_true, if_false]
theorem l_lookup_ok_k {α : Type} {kk : IntKind} {d t kt et b sz by' : Nat} {x y : Operand} {enc : α → Value} {kv : List (Int × α)} {i : Int} (z : α) {zv : Value} (k : EnvOk P E := by refine inferInstance) (hd : Nat.blt d n = true := by refine rfl) (hx : ev tm x = some (.map (some b)) := by refine rfl) (hy : ev tm y = some (.int kk i) := by refine rfl)
    (ht : look E.ty t = some (.map kt et) := by refine rfl) (hk : look E.ty kt = some (.int kk) := by refine rfl) (hz : look E.inf et = some (zv, sz, by') := by refine rfl) (tk : Take (mpk kk b enc kv) H H' := by with_reducible (repeat (first | refine Take.here | apply Take.there))) (hze : zv = enc z := by refine rfl)
    (h : L P n w0 F0 ops.toArray rest Q ((d, .tuple #[enc ((kvGet kv i).getD z), .bool (kvGet kv i).isSome]) :: tm) D H) :
    L P n w0 F0 ops.toArray (⟨some d, .lookup t x y true, ty, pos, after, none⟩ :: rest) Q tm D H := by
  subst hze
  refine .mk fun a w s => ?_
  obtain ⟨⟨_, ⟨_, _, ⟨⟨es, clock, hw, he, _⟩, _⟩, _⟩, _⟩, _⟩ := s.inv.take tk
  refine wpList_value rfl (v := .tuple #[enc ((kvGet kv i).getD z), .bool (kvGet kv i).isSome]) (w' := w) ?_ (h _ _ (s.put hd _))
  simp only [execOp, ev_sound s.tm hx, ev_sound s.tm hy, Sem.run_bind, run_lookup_int_k k hw he ht hk hz, Result.andThen, Sem.run_pure, if_true]

theorem inv_mp_k {α : Type} {kk : IntKind} {enc : α → Value} {kv kv' : List (Int × α)} {b : Nat} {es' : Array MapEntry} {clock' : Nat} {w w' : World} (i : Inv w0 F0 (mpk kk b enc kv :: H) w) (hb : w'.heap[b]? = some (.map es' clock'))
    (h1 : es'.toList.map (fun x => (x.key, x.val)) = kv'.map (fun p => (Value.int kk p.1, enc p.2))) (h2 : ∀ x ∈ es'.toList, x.born < clock') (h3 : (es'.toList.map MapEntry.born).Nodup) (h4 : (kv'.map Prod.fst).Nodup)
    (hn : ∀ c, c ≠ b → w'.heap[c]? = w.heap[c]?) (hs : w'.heap.size = w.heap.size) (e1 : w'.os = w.os) (e2 : w'.tape = w.tape) (e3 : w'.output = w.output) : Inv w0 F0 (mpk kk b enc kv' :: H) w' :=
  i.set1 (fun ⟨_, f⟩ => f) ⟨⟨es', clock', hb, h1, h2, h3, h4⟩, fun _ => Iff.rfl⟩ hn hs e1 e2 e3

theorem l_mapUpdate_k {α : Type} {kk : IntKind} {t kt et b : Nat} {x y u : Operand} {enc : α → Value} {kv : List (Int × α)} {i : Int} {v : α} {vv : Value} (k : EnvOk P E := by refine inferInstance) (hx : ev tm x = some (.map (some b)) := by refine rfl) (hy : ev tm y = some (.int kk i) := by refine rfl) (hu : ev tm u = some vv := by refine rfl)
    (ht : look E.ty t = some (.map kt et) := by refine rfl) (hk : look E.ty kt = some (.int kk) := by refine rfl) (tk : Take (mpk kk b enc kv) H H' := by with_reducible (repeat (first | refine Take.here | apply Take.there))) (hv : vv = enc v := by refine rfl)
    (h : L P n w0 F0 ops.toArray rest Q tm D (mpk kk b enc (kvPut kv i v) :: H')) :
    L P n w0 F0 ops.toArray (⟨none, .mapUpdate t x y u, ty, pos, after, none⟩ :: rest) Q tm D H := by
  subst hv
  refine .mk fun a w s => ?_
  have hi := s.inv.take tk
  obtain ⟨⟨_, ⟨_, _, ⟨⟨es, clock, hw, he, h2, h3, h4⟩, _⟩, _⟩, _⟩, _⟩ := id hi
  have hbl := lt_of_some hw
  have hset : ∀ o, ((setObj b o).run P w) = .ok () { w with heap := w.heap.setIfInBounds b o } := fun o => MapKept.run_setObj_map o hw
  have main : ∃ w', (Instr.mapUpdate t (.map (some b)) (.int kk i) (enc v)).run P w = .ok () w' ∧ Inv w0 F0 (mpk kk b enc (kvPut kv i v) :: H') w' := by
    simp only [Instr.mapUpdate, Sem.run_bind, run_underlying (k.under ht), Result.andThen, MapKept.run_getObj_map hw, Sem.run_pure, run_checkKey_int (k.under hk), Instr.findKey, run_underlying (k.under hk)]
    rcases find_spec_k (kk := kk) (enc := enc) i es.toList kv 0 he with ⟨g1, g2, g3, g4, g5⟩ | ⟨j, u, e0, g1, g2, g3, g4, g5, g6, g7⟩
    · simp only [g2, Sem.run_pure, Result.andThen, hset]
      refine ⟨_, rfl, inv_mp_k hi (es' := es.push { key := .int kk i, val := enc v, born := clock }) (clock' := clock + 1) (by simp [hbl]) ?_ ?_ ?_ ?_ ?_ (by simp) rfl rfl rfl⟩
      · simp [g3, he]
      · intro x hx
        simp only [Array.toList_push, List.mem_append, List.mem_singleton] at hx
        rcases hx with hx | rfl
        · exact Nat.lt_succ_of_lt (h2 x hx)
        · exact Nat.lt_succ_self _
      · simp only [Array.toList_push, List.map_append, List.map_cons, List.map_nil]
        refine List.nodup_append.2 ⟨h3, by simp, ?_⟩
        intro x hx y hy
        simp only [List.mem_singleton] at hy
        subst hy
        obtain ⟨e, he', rfl⟩ := List.mem_map.1 hx
        exact Nat.ne_of_lt (h2 e he')
      · rw [g3, List.map_append]
        refine List.nodup_append.2 ⟨h4, by simp, ?_⟩
        intro x hx y hy
        simp only [List.map_cons, List.map_nil, List.mem_singleton] at hy
        subst hy
        exact fun q => g5 (by rw [← q]; exact hx)
      · intro c hc
        simp [Array.getElem?_setIfInBounds, hc.symm]
    · have hj : es[j]? = some e0 := by rw [← Array.getElem?_toList]; exact g3
      have hjl : j < es.toList.length := (List.getElem?_eq_some_iff.1 g3).1
      simp only [g2, Nat.zero_add, Sem.run_pure, hj, Option.map_some, Option.getD_some, g4, Sem.run_bind, MapKept.run_keyThatStays (d := .int kk) (k := .int kk i) (by first | rfl | (cases kk <;> rfl) | simp [MapKept.IsKey]), Result.andThen, hset]
      have em : (es.modify j fun e => { key := Value.int kk i, val := enc v, born := e.born }).toList = es.toList.set j { e0 with val := enc v } := by
        rw [Array.toList_modify]
        apply List.ext_getElem?
        intro q
        rw [List.getElem?_modify, List.getElem?_set]
        by_cases hq : j = q
        · subst hq
          simp only [if_true, hjl, g3, Option.map_some, g4]
          cases e0; simp only at g4; subst g4; rfl
        · simp [hq]
      refine ⟨_, rfl, inv_mp_k hi (es' := es.modify j fun e => { key := Value.int kk i, val := enc v, born := e.born }) (clock' := clock) (by simp [hbl]) ?_ ?_ ?_ ?_ ?_ (by simp) rfl rfl rfl⟩
      · rw [em]; exact g5 v
      · intro x hx
        rw [em] at hx
        rcases List.mem_or_eq_of_mem_set hx with hx | rfl
        · exact h2 x hx
        · exact h2 e0 (List.mem_of_getElem? g3)
      · rw [em, List.map_set]
        have : (es.toList.map MapEntry.born).set j e0.born = es.toList.map MapEntry.born := by
          apply List.ext_getElem?
          intro q
          rw [List.getElem?_set]
          by_cases hq : j = q
          · subst hq
            rw [if_pos rfl, if_pos (by simpa using hjl), List.getElem?_map, g3]; rfl
          · simp [hq]
        simp only [this]; exact h3
      · have := g6 v
        rw [show (kvPut kv i v).map Prod.fst = kv.map Prod.fst from this]; exact h4
      · intro c hc
        simp [Array.getElem?_setIfInBounds, hc.symm]
  obtain ⟨w', hr, hi'⟩ := main
  refine wpList_unit rfl (w' := w') ?_ (h _ _ ⟨s.tm, s.defers, hi'⟩)
  simp only [execOp, ev_sound s.tm hx, ev_sound s.tm hy, ev_sound s.tm hu, Sem.run_bind, hr, Result.andThen, Sem.run_pure]

theorem l_delete_k {α : Type} {kk : IntKind} {d : Option Nat} {t kt et b ka : Nat} {x y : Operand} {enc : α → Value} {kv : List (Int × α)} {i : Int} (k : EnvOk P E) (hd : ∀ j, d = some j → Nat.blt j n = true) (hx : ev tm x = some (.map (some b))) (hy : ev tm y = some (.int kk i))
    (ht : look E.ty t = some (.map kt et)) (hk : look E.ty kt = some (.int kk)) (tk : Take (mpk kk b enc kv) H H')
    (h : L P n w0 F0 ops.toArray rest Q (match d with | some j => (j, .tuple #[]) :: tm | none => tm) D (mpk kk b enc (kvDel kv i) :: H')) :
    L P n w0 F0 ops.toArray (⟨d, .call { callee := .builtin .delete, args := #[x, y], argTypes := #[t, ka] }, ty, pos, after, none⟩ :: rest) Q tm D H := by
  refine .mk fun a w s => ?_
  have hi := s.inv.take tk
  obtain ⟨⟨_, ⟨_, _, ⟨⟨es, clock, hw, he, h2, h3, h4⟩, _⟩, _⟩, _⟩, _⟩ := id hi
  have hbl := lt_of_some hw
  have hset : ∀ o, ((setObj b o).run P w) = .ok () { w with heap := w.heap.setIfInBounds b o } := fun o => MapKept.run_setObj_map o hw
  have main : ∃ w', (Builtin.delete_ #[t, ka] ty #[.map (some b), .int kk i]).run P w = .ok (.tuple #[]) w' ∧ Inv w0 F0 (mpk kk b enc (kvDel kv i) :: H') w' := by
    simp only [Builtin.delete_, List.getElem?_toArray, List.getElem?_cons_zero, List.getElem?_cons_succ, Sem.run_bind, run_underlying (k.under ht), Result.andThen, MapKept.run_getObj_map hw, Sem.run_pure, run_checkKey_int (k.under hk), Instr.findKey, run_underlying (k.under hk)]
    rcases find_spec_k (kk := kk) (enc := enc) i es.toList kv 0 he with ⟨g1, g2, g3, g4, g5⟩ | ⟨j, u, e0, g1, g2, g3, g4, g5, g6, g7, g8⟩
    · simp only [g2, Sem.run_pure, Sem.run_bind, Result.andThen, hset]
      exact ⟨_, rfl, inv_mp_k hi (es' := es) (clock' := clock) (by simp [hbl]) (by rw [g4]; exact he) h2 h3 (by rw [g4]; exact h4) (fun c hc => by simp [Array.getElem?_setIfInBounds, hc.symm]) (by simp) rfl rfl rfl⟩
    · simp only [g2, Nat.zero_add, Sem.run_pure, Sem.run_bind, Result.andThen, hset]
      have em : (es.eraseIdxIfInBounds j).toList = es.toList.eraseIdx j := by
        have hj : j < es.size := by have := (List.getElem?_eq_some_iff.1 g3).1; simpa using this
        simp [Array.eraseIdxIfInBounds, hj]
      refine ⟨_, rfl, inv_mp_k hi (es' := es.eraseIdxIfInBounds j) (clock' := clock) (by simp [hbl]) (by rw [em]; exact g7) ?_ ?_ ?_ (fun c hc => by simp [Array.getElem?_setIfInBounds, hc.symm]) (by simp) rfl rfl rfl⟩
      · intro x hx
        rw [em] at hx
        exact h2 x ((List.eraseIdx_sublist _ _).mem hx)
      · rw [em]
        exact ((List.eraseIdx_sublist _ _).map _).nodup h3
      · exact (g8.map _).nodup h4
  obtain ⟨w', hr, hi'⟩ := main
  have hr2 : (execOp a.eval ⟨d, .call { callee := .builtin .delete, args := #[x, y], argTypes := #[t, ka] }, ty, pos, after, none⟩).run P w = .ok (.value (.tuple #[])) w' := by
    simp only [execOp, resolve, invoke, builtin, Sem.run_bind, Sem.run_pure, Result.andThen_ok, List.map_toArray, List.map_cons, List.map_nil, ev_sound s.tm hx, ev_sound s.tm hy, hr]
  refine wpList_value rfl (v := .tuple #[]) (w' := w') hr2 (h _ _ ?_)
  cases d with
  | none => exact ⟨s.tm, s.defers, hi'⟩
  | some j => exact ⟨s.tm.put (hd j rfl) _, s.defers, hi'⟩

theorem l_len_map_k {α : Type} {kk : IntKind} {d t kt et b : Nat} {x : Operand} {enc : α → Value} {kv : List (Int × α)} (k : EnvOk P E := by refine inferInstance) (hd : Nat.blt d n = true := by refine rfl) (hx : ev tm x = some (.map (some b)) := by refine rfl) (ht : look E.ty t = some (.map kt et) := by refine rfl) (tk : Take (mpk kk b enc kv) H H' := by with_reducible (repeat (first | refine Take.here | apply Take.there)))
    (h : L P n w0 F0 ops.toArray rest Q ((d, .int .i64 (kv.length : Nat)) :: tm) D H) :
    L P n w0 F0 ops.toArray (⟨some d, .call { callee := .builtin .len, args := #[x], argTypes := #[t] }, ty, pos, after, none⟩ :: rest) Q tm D H := by
  refine .mk fun a w s => ?_
  obtain ⟨⟨_, ⟨_, _, ⟨⟨es, clock, hw, he, _⟩, _⟩, _⟩, _⟩, _⟩ := s.inv.take tk
  have hl : es.size = kv.length := by have := congrArg List.length he; simpa using this
  refine wpList_value rfl (v := .int .i64 (kv.length : Nat)) (w' := w) ?_ (h _ _ (s.put hd _))
  have hr : (Builtin.len_ #[t] ty #[.map (some b)]).run P w = .ok (.int .i64 (kv.length : Nat)) w := by
    simp only [Builtin.len_, List.getElem?_toArray, List.getElem?_cons_zero, Sem.run_bind, run_underlying (k.under ht), Result.andThen, MapKept.run_getObj_map hw, Sem.run_pure, goInt, hl]
  simp only [execOp, resolve, invoke, builtin, Sem.run_bind, Sem.run_pure, Result.andThen_ok, List.map_toArray, List.map_cons, List.map_nil, ev_sound s.tm hx, hr]
theorem l_delete0_k {α : Type} {kk : IntKind} {t kt et b ka : Nat} {x y : Operand} {enc : α → Value} {kv : List (Int × α)} {i : Int} (k : EnvOk P E := by refine inferInstance) (hx : ev tm x = some (.map (some b)) := by refine rfl) (hy : ev tm y = some (.int kk i) := by refine rfl)
    (ht : look E.ty t = some (.map kt et) := by refine rfl) (hk : look E.ty kt = some (.int kk) := by refine rfl) (tk : Take (mpk kk b enc kv) H H' := by with_reducible (repeat (first | refine Take.here | apply Take.there)))
    (h : L P n w0 F0 ops.toArray rest Q tm D (mpk kk b enc (kvDel kv i) :: H')) :
    L P n w0 F0 ops.toArray (⟨none, .call { callee := .builtin .delete, args := #[x, y], argTypes := #[t, ka] }, ty, pos, after, none⟩ :: rest) Q tm D H :=
  l_delete_k k (d := none) (fun _ q => nomatch q) hx hy ht hk tk h

end
end Go.Proofs.YtmfmommgooccnaaGreat.SL
/- The laws' helpers of chapter 11: keys, values, worlds, examples. -/
set_option maxRecDepth 20000
set_option linter.unusedVariables false
set_option linter.unusedSimpArgs false
namespace Go.Proofs.YtmfmommgooccnaaGreat
open Go.Proofs.YtmfmommgooccnaaGreat.SL

theorem new_is {i : Int} {n : Nat} (e : i = n) (hn : 8 ≤ n ∧ n ≤ 640) : Does Tryz.prog 53 [.int .i64 i] [] (fun v H => ∃ b, v = .tuple #[.pointer (some ⟨b, 0, none⟩), .int .i64 0] ∧ H = [Disk b (Dk.new n)]) := by
  subst e; exact New_does n hn
theorem format_is {D E : Dk} {db : Nat} {e : Int} {q : Hd} (h : format D = (some q, e, E)) : Does Tryz.prog 54 [.pointer (some ⟨db, 0, none⟩)] [Disk db D] (fun v H => ∃ b, v = .tuple #[.pointer (some ⟨b, 0, none⟩), .int .i64 e] ∧ H = [Store b db q.over, Disk db E]) := by
  have := Format_does db D; rw [h] at this; exact this
end Go.Proofs.YtmfmommgooccnaaGreat
/- How many pages a tree has; what the laws keep of a world. No code. -/
set_option maxRecDepth 20000
set_option linter.unusedVariables false
set_option linter.unusedSimpArgs false
namespace Go.Proofs.YtmfmommgooccnaaGreat
open Go.Proofs.YtmfmommgooccnaaGreat.SL

theorem OnP.few {g : Int → Nd → Prop} : ∀ {h : Nat} {k : Int} {s : Sub}, OnP g h k s → s.ps.length + 1 ≤ 2 * s.es.length
  | 0, k, s, ⟨d', ps', a1, a2, a3, ⟨b1, b2, b3, b4⟩, a5⟩ => by
    have h1 := a2.some b1
    have h2 := valsLen b2 b1
    rw [a5, b4, b3]
    simp only [Nd.ents, List.length_zip, h2, List.length_cons, List.length_nil]
    omega
  | h + 1, k, s, ⟨d', ps', a1, a2, a3, ⟨b1, b2, ss, f, e, e2, sp⟩, a5⟩ => by
    have key : ∀ {ks : List Int} {ss : List Sub}, All2 (OnP g h) ks ss → (Sub.pages ss).length + ss.length ≤ 2 * (Sub.all ss).length := by
      intro ks
      induction ks with
      | nil =>
        intro ss q
        cases ss with
        | nil => simp [Sub.pages, Sub.all]
        | cons _ _ => exact q.elim
      | cons k ks ih =>
        intro ss q
        cases ss with
        | nil => exact q.elim
        | cons s ss =>
          have h1 := OnP.few q.1
          have h2 := ih q.2
          rw [Sub.pages_cons, Sub.all_cons]
          simp only [List.length_append, List.length_cons]
          omega
    have h1 := key f
    have h2 := sp.len
    have h3 : 0 < d'.keys.length := List.length_pos_iff.2 (a3 b1)
    rw [a5, e, e2]
    simp only [List.length_cons]
    omega
theorem IsTree.few {N : Nat} {S : Sh} {D : Dk} {U : List Int} {r : Int} {T : List Ent} (h : IsTree N S D U r T) : (S.after U).length ≤ 2 * T.length := by
  rcases h with ⟨_, rfl, e⟩ | ⟨h, ps, o, p⟩
  · rw [e]; simp
  · have := o.few
    rw [← p.length_eq]
    dsimp only at this
    omega
theorem Fine.fresh_le {N : Nat} {S : Sh} {D : Dk} {U : List Int} (k : Fine N S D U) : S.fresh.length ≤ (S.after U).length := by
  refine nodup_sub k.f.1 fun a ha => Sh.mem_after.2 ⟨.inr ha, fun hg => (k.f.2 a ha).2.2 (k.v.2 a hg)⟩
theorem putE_len (es : List Ent) (x : Nat) (v : List UInt8) (o : Ord es) : (putE es x v).length ≤ es.length + 1 := by
  unfold putE
  have h1 : ∀ (es : List Ent), (es.filter (fun e => decide (e.1 < x))).length + (es.filter (fun e => decide (x < e.1))).length ≤ es.length := by
    intro es
    induction es with
    | nil => simp
    | cons e es ih =>
      simp only [List.filter_cons]
      by_cases a : e.1 < x
      · have b : ¬ x < e.1 := by omega
        simp [a, b]; omega
      · by_cases b : x < e.1
        · simp [a, b]; omega
        · simp [a, b]; omega
  rw [List.length_append, List.length_cons]
  exact Nat.succ_le_succ (h1 es)
/-- A tree, as the laws keep it: on a disk of N sectors, of at most m keys. -/
structure Tr (N : Nat) (S : Sh) (D : Dk) (U : List Int) (root : Int) (T : List Ent) (m : Nat) : Prop where
  fine : Fine N S D U
  tree : IsTree N S D U root T
  len : T.length ≤ m
theorem Tr.put {N : Nat} {S : Sh} {D : Dk} {U : List Int} {root : Int} {T : List Ent} {m : Nat} (k : Tr N S D U root T m) (sb db x : Nat) (v : List UInt8) (hx : x < 18446744073709551616) (hv : v.length ≤ 40) (room : U.length + 2 * m + 25 < N) :
    Does Tryz.prog 65 [.pointer (some ⟨sb, 0, none⟩), .int .i64 root, .int .u64 x, .string (str v)] [Store sb db S, Disk db D]
      (fun u H => ∃ r S' D', u = .tuple #[.int .i64 r, .int .i64 0] ∧ H = [Store sb db S', Disk db D'] ∧ Tr N S' D' U r (putE T x v) (m + 1) ∧ S'.gen = S.gen ∧ Same U S D S' D') := by
  have h1 := k.tree.few
  have h2 := k.fine.fresh_le
  have h3 := k.len
  refine (put_tree sb db x N v root U T S D k.fine k.tree hx hv (by omega)).mono ?_
  rintro u H ⟨r, S', D', rfl, rfl, a, b, c, d⟩
  exact ⟨r, S', D', rfl, rfl, ⟨b, a, by have := putE_len T x v k.tree.ord; omega⟩, c, d⟩
theorem Tr.get {N : Nat} {S : Sh} {D : Dk} {U : List Int} {root : Int} {T : List Ent} {m : Nat} (k : Tr N S D U root T m) (sb db x : Nat) :
    Does Tryz.prog 69 [.pointer (some ⟨sb, 0, none⟩), .int .i64 root, .int .u64 x] [Store sb db S, Disk db D] (fun v H => v = getV (getE T x) ∧ H = [Store sb db S, Disk db D]) := get_tree sb db x N root U T S D k.fine k.tree
/-- A world at its beginning. -/
theorem tr_new {N : Nat} (hN : 8 ≤ N ∧ N ≤ 640) : ∃ E1, format (Dk.new N) = (some headNew, 0, E1) ∧ Tr N headNew.over E1 [] 0 [] 0 := by
  obtain ⟨E1, f1, k1, p1⟩ := format_of hN (Dk.new_lives N) (by rw [Dk.new_pg (by omega)]; simp)
  exact ⟨E1, f1, k1, .inl ⟨rfl, rfl, by simp [Sh.after, Hd.over]⟩, Nat.le_refl _⟩

/-! ### Maps over keys -/
theorem kvGet_put {α : Type} : ∀ {l : List (Int × α)} {i j : Int} {x : α}, kvGet (kvPut l i x) j = if j = i then some x else kvGet l j
  | [], i, j, x => by
    by_cases q : j = i
    · subst q; simp [kvPut, kvGet]
    · have : ¬ i = j := fun e => q e.symm
      simp [kvPut, kvGet, q, this]
  | (a, v) :: l, i, j, x => by
    have ih := kvGet_put (l := l) (i := i) (j := j) (x := x)
    by_cases q : a = i
    · subst q
      simp only [kvPut, if_true, kvGet]
      by_cases q2 : a = j
      · subst q2; simp
      · have : ¬ j = a := fun e => q2 e.symm
        simp [q2, this]
    · simp only [kvPut, q, if_false, kvGet]
      by_cases q2 : a = j
      · subst q2; simp [q]
      · simp [q2, ih]
end Go.Proofs.YtmfmommgooccnaaGreat
/- The framework, part 18: what a call of yield comes to, over assertions that hide. -/
set_option linter.unusedVariables false
set_option linter.unusedSimpArgs false
namespace Go.Proofs.YtmfmommgooccnaaGreat.SL

/-- The parts of a loop over a function. -/
def rfA : Code → Code
  | .rangeFunc _ _ a _ => a
  | c => c
def rfB : Code → Code
  | .rangeFunc _ _ _ b => b
  | c => c
theorem gr_weak {P : Program} {n : Nat} {w0 : World} {F0 : Nat → Prop} {Q : Exit → Act → World → Prop} {tm : List (Nat × Value)} {D : List Deferred} {H : List SProp} {r : Nat} {c : Code} {tm' : List (Nat × Value)} {H' : List SProp} (ht : tsub tm tm') (hh : ∀ {w}, Inv w0 F0 H w → Inv w0 F0 H' w) (h : GR P n w0 F0 r c Q tm' D H') : GR P n w0 F0 r c Q tm D H :=
  .mk fun a w s => h.h a w ⟨s.tm.sub ht, s.defers, hh s.inv⟩
theorem gr_as {P : Program} {n : Nat} {w0 : World} {F0 : Nat → Prop} {Q : Exit → Act → World → Prop} {tm : List (Nat × Value)} {D : List Deferred} {H : List SProp} {r : Nat} {c c' : Code} (e : c = c') (h : GR P n w0 F0 r c' Q tm D H) : GR P n w0 F0 r c Q tm D H := e ▸ h
section
variable {P : Program} {l : Nat} {xs : List Value} {q : Value → List SProp → Prop}
theorem Yields.open {α : Type} {A : SProp} {p : α → Prop} {K : α → List SProp} (o : Opens A p K) (h : ∀ x, p x → Yields P l xs (K x) q) : Yields P l xs [A] q := fun w F s => by
  obtain ⟨F1, F2, a, e, d, u⟩ := s
  obtain ⟨x, hx, s1⟩ := o _ _ a
  exact h x hx w F (sep_congr s1 (fun b => ⟨fun h => (u b).2 (.inl h), fun h => ((u b).1 h).elim id (fun q => (e b q).elim)⟩))
/-- What is told behind may be told otherwise, and less. -/
theorem Yields.post {H : List SProp} {q' : Value → List SProp → Prop} (h : Yields P l xs H q') (k : ∀ v H', q' v H' → ∃ H'', q v H'' ∧ ∀ {w0 : World} {F0 : Nat → Prop} {w : World}, Inv w0 F0 H' w → Inv w0 F0 H'' w) : Yields P l xs H q := fun w F s => by
  obtain ⟨fn, tmps, assign, body, e, r⟩ := h w F s
  refine ⟨fn, tmps, assign, body, e, r.mono ?_⟩
  rintro e w' ⟨v, H', he, hq, hi⟩
  obtain ⟨H'', h1, h2⟩ := k v H' hq
  exact ⟨v, H'', he, h1, h2 hi⟩
/-- The parts of an assertion stand in a list. -/
theorem shut_of {α : Type} {p : α → Prop} {K : α → List SProp} {H R : List SProp} (x : α) (hx : p x) (pt : Parts (K x) H R) {w0 : World} {F0 : Nat → Prop} {w : World} (i : Inv w0 F0 H w) : Inv w0 F0 [hid p K] w :=
  Inv.drop (K := [hid p K]) (H' := R) (i.shut (hid_shuts x hx) pt)
/-- A contract whose post is told otherwise, where what is owned may be opened. -/
theorem does_post {f : FuncId} {args : List Value} {H : List SProp} {q q' : Value → List SProp → Prop} (d : Does P f args H q) (h : ∀ v H1, q v H1 → ∀ {w0 : World} {F0 : Nat → Prop} {w : World}, Inv w0 F0 H1 w → ∃ H2, q' v H2 ∧ Inv w0 F0 H2 w) : Does P f args H q' := fun w F s =>
  (d w F s).mono fun e w' ⟨v, H1, e1, hq, i⟩ => by
    obtain ⟨H2, h2, h3⟩ := h v H1 hq i
    exact ⟨v, H2, e1, h2, h3⟩
theorem Inv.less {w0 w : World} {F F' : Nat → Prop} {H : List SProp} (i : Inv w0 F' H w) (h : ∀ b, b < w0.heap.size → ¬ F b → ¬ F' b) : Inv w0 F H w := by
  obtain ⟨⟨G, s, o⟩, fr, sz, a, b, c⟩ := i
  exact ⟨⟨G, s, fun b hb n => o b hb (h b hb n)⟩, fun b hb n => fr b hb (h b hb n), sz, a, b, c⟩
/-- A contract from what is owned otherwise. -/
theorem does_pre {f : FuncId} {args : List Value} {H H' : List SProp} {q : Value → List SProp → Prop} (d : Does P f args H q) (k : ∀ {w0 : World} {F0 : Nat → Prop} {w : World}, Inv w0 F0 H' w → Inv w0 F0 H w) : Does P f args H' q := fun w F s => by
  obtain ⟨⟨F', s', o⟩, _⟩ := k (Inv.start s)
  exact (d w F' s').mono fun e w' ⟨v, H1, e1, hq, i⟩ => ⟨v, H1, e1, hq, i.less o⟩
end
end Go.Proofs.YtmfmommgooccnaaGreat.SL
/- Package tree: from, the keys from one on, handed to a consumer. -/
set_option maxRecDepth 20000
set_option linter.unusedVariables false
set_option linter.unusedSimpArgs false
namespace Go.Proofs.YtmfmommgooccnaaGreat
open Go.Proofs.YtmfmommgooccnaaGreat.SL

abbrev entV (e : Ent) : Value := .agg #[.int .u64 (e.1 : Nat), .string (str e.2)]
/-- What a consumer has when it is fed: it may stop. -/
def feed (stop : List Ent → Bool) : List Ent → List Ent → List Ent × Bool
  | dn, [] => (dn, false)
  | dn, e :: es => if stop (dn ++ [e]) then (dn ++ [e], true) else feed stop (dn ++ [e]) es
theorem feed_append (stop : List Ent → Bool) : ∀ (a b dn : List Ent), feed stop dn (a ++ b) = if (feed stop dn a).2 then feed stop dn a else feed stop (feed stop dn a).1 b
  | [], b, dn => by simp [feed]
  | e :: a, b, dn => by
    simp only [List.cons_append, feed]
    split
    · simp
    · exact feed_append stop a b _
theorem feed_len (stop : List Ent → Bool) : ∀ (es dn : List Ent), (feed stop dn es).1.length ≤ dn.length + es.length
  | [], dn => by simp [feed]
  | e :: es, dn => by
    simp only [feed]
    split
    · simp
    · have := feed_len stop es (dn ++ [e])
      simp only [List.length_append, List.length_cons, List.length_nil] at *
      omega
def geE (es : List Ent) (x : Nat) : List Ent := es.filter fun e => decide (x ≤ e.1)
theorem geE_append (a b : List Ent) (x : Nat) : geE (a ++ b) x = geE a x ++ geE b x := by simp [geE]

/-- The consumer, going on or stopped. -/
def fedP (C X : List Ent → SProp) (r : List Ent × Bool) : SProp := if r.2 then X r.1 else C r.1

theorem ge_zip : ∀ {ks : List Nat} {vs : List (List UInt8)} {x : Nat}, Rise ks → geE (ks.zip vs) x = (ks.zip vs).drop (posN ks x)
  | [], _, _, _ => by simp [geE]
  | _ :: _, [], _, _ => by simp [geE]
  | k :: ks, v :: vs, x, h => by
    obtain ⟨h1, h2⟩ := List.pairwise_cons.1 h
    have ih := ge_zip (vs := vs) (x := x) h2
    simp only [List.zip_cons_cons, geE, List.filter_cons, posN_cons]
    by_cases q : k < x
    · rw [if_neg (by simp; omega), if_pos q, List.drop_succ_cons]; exact ih
    · rw [if_pos (by simp; omega), if_neg q, List.drop_zero]
      congr 1
      refine List.filter_eq_self.2 fun e he => ?_
      have := h1 _ (zip_fst_mem he)
      simp; omega

set_option maxHeartbeats 4000000 in
theorem from_leaf (b sb db x N l : Nat) (C X : List Ent → SProp) (stop : List Ent → Bool) (hY : ∀ dn e, dn.length < 100000 → SL.Yields Tryz.prog l [entV e] [C dn] (fun v H => v = .bool (!stop (dn ++ [e])) ∧ H = [if stop (dn ++ [e]) then X (dn ++ [e]) else C (dn ++ [e])]))
    (deep : Nat) (pg read : Int) (S : Sh) (D : Dk) (d : Nd) (hd : d.good) (hlf : d.leaf = true) (hr : S.read D pg = ((2, d.text, 0), S)) (h1 : 0 ≤ read ∧ read < 640) (h2 : deep ≤ 10) (dn : List Ent) (hdl : dn.length + d.ents.length ≤ 100000) :
    Does Tryz.prog 164 [.pointer (some ⟨b, 0, none⟩), .int .i64 pg, .int .i64 deep, .int .u64 x, .func (.yield l) #[] #[]] [C dn, Wk b sb read 0, Store sb db S, Disk db D]
      (fun v H => v = .bool (!(feed stop dn (geE d.ents x)).2) ∧ H = [fedP C X (feed stop dn (geE d.ents x)), Wk b sb (read + 1) 0, Store sb db S, Disk db D]) := by
  have hn := wNode_does b sb db deep pg read S D d hd hr h1 h2
  have hF := fun r => Find_does d r x hd.fits hd.p.rise
  simp only [hlf, if_true] at hF
  refine does_of Tryz.func164 Tryz.ntmps164 rfl rfl rfl (fun w0 F0 => ?_)
  (repeat' (first | refine g_seq (h := ?_) | refine g_region (h := ?_) | refine l_nil (h := ?_) | refine n_then (h := ?_) | refine l_pures1 (h := ?_) | (refine l_atc ?_; refine l_call_ (hn) ?_; rintro _ _ _ ⟨r, rfl, rfl⟩ he; cases he) | (refine l_atc ?_; refine l_call (hF _) ?_) | refine l_load (h := ?_) | refine l_store (h := ?_) | (refine l_alloc (h := ?_); intro _) | refine g_skip (h := ?_) | refine g_block (h := ?_) | refine g_cond_f (h := ?_) | (refine g_sp (h1 := ?_) (h0 := ?_) <;> intro h)))
  · exact absurd h (by rw [hlf]; simp)
  rename_i b11
  have hv := valsLen hd.p hlf
  have hne := hd.some hlf
  have hfk := hd.fits.k
  have hpos := posN_le d.keys x
  have hel : d.ents.length = d.keys.length := by simp [Nd.ents, hv]
  obtain ⟨p1, c1, p2, c2, p3, c3⟩ := r
  refine g_open (A := Nds d ⟨p1, c1, p2, c2, p3, c3⟩) (h := ?_); (rintro _ _; dsimp only [NdsK, List.cons_append, List.nil_append])
  refine g_ptr (m := d.keys.length) (h := ?_); rintro g1 rfl hc1
  refine g_ptr (m := d.vals.length) (h := ?_); rintro g2 rfl hc2
  (refine g_loop (fun y : Nat × List Ent => [(12, .int .i64 y.1), (11, .pointer (some ⟨b11, 0, none⟩)), (4, .func (.yield l) #[] #[])]) (fun y => [C y.2, vec 30 1 (some ⟨g1, 0, none⟩) d.keys.length c1 (uV d.keys), vec 9 1 (some ⟨g2, 0, none⟩) d.vals.length c2 (d.vals.map encS), cl b11 176 [.bool d.leaf, .slice (some ⟨g1, 0, none⟩) d.keys.length c1, .slice (some ⟨g2, 0, none⟩) d.vals.length c2, .slice p3 d.kids.length c3], Wk b sb (read + 1) 0, Store sb db S, Disk db D]) (fun y => y.1 ≤ d.keys.length ∧ feed stop dn (geE d.ents x) = feed stop y.2 (d.ents.drop y.1) ∧ y.2.length + (d.ents.length - y.1) ≤ 100000) (fun y => d.keys.length - y.1) ((posN d.keys x, dn)) ?_ ?_ ?_ ?_; rotate_left; (repeat (first | refine ts_nil | (refine ts_cons rfl ?_ ?_; first | (with_reducible rfl) | rotate_left))); (first | (intro _ i; with_reducible refine i) | rotate_left); rotate_left; (try omega); rotate_right)
  · rintro ⟨j, dn'⟩ ⟨hj, hf, hdl'⟩
    dsimp only at hj hf hdl' ⊢
    by_cases hjl : j < d.keys.length
    · have hgk := uGet (l := d.keys) (k := j) hjl
      have hgs := sGet (l := d.vals) (k := j) (by omega)
      obtain ⟨e, he⟩ : ∃ e : Ent, e = (d.keys.getD j 0, d.vals.getD j []) := ⟨_, rfl⟩
      have hdr : d.ents.drop j = e :: d.ents.drop (j + 1) := by
        rw [List.drop_eq_getElem_cons (by omega), he]
        simp [Nd.ents, List.getD, hjl, hv]
      have hYj := hY dn' e (by omega)
      rw [he] at hYj
      (repeat' (first | refine g_seq (h := ?_) | refine g_region (h := ?_) | refine l_nil (h := ?_) | refine n_then (h := ?_) | refine l_pures1 (h := ?_) | refine l_load (h := ?_) | refine g_skip (h := ?_) | refine g_block (h := ?_) | (refine g_spT (h := ?_); intro h)))
      refine g_draw_at 12 [vec 30 1 (some ⟨g1, 0, none⟩) d.keys.length c1 (uV d.keys), vec 9 1 (some ⟨g2, 0, none⟩) d.vals.length c2 (d.vals.map encS), cl b11 176 [.bool d.leaf, .slice (some ⟨g1, 0, none⟩) d.keys.length c1, .slice (some ⟨g2, 0, none⟩) d.vals.length c2, .slice p3 d.kids.length c3]] (h := a_pass2 (h := ?_))
      cases hst : stop (dn' ++ [e])
      · rw [← he, hst] at hYj
        simp only [Bool.not_false, Bool.false_eq_true, if_false] at hYj
        rw [he] at hYj
        (repeat (first | (refine lw_i ?_; refine lw_yield (hYj) (h := ?_); rintro _ _ _ ⟨rfl, rfl⟩ he; cases he) | refine g_region (h := ?_) | refine l_nil (h := ?_) | refine n_then (h := ?_) | refine l_pures1 (h := ?_) | refine g_skip (h := ?_) | refine a_done (h := ?_) | refine a_load (h := a_pass2 (h := ?_)) | refine a_one (h := ?_) | refine n_any (h := a_pass2 (h := ?_)) | refine a_v (h := ?_) | refine n_block (h := ?_) | refine g_cond_f (h := ?_) | refine l_load_vec (h := ?_) | refine a_load_vec (h := a_pass2 (h := ?_)) | refine n_lw (h := ?_) | refine lw_nil (h := ?_) | refine lw_step (h := ?_)))
        (refine n_back ((j + 1, dn' ++ [(d.keys.getD j 0, d.vals.getD j [])])) ?_ ?_ ?_ ?_; rotate_left; rotate_left; (repeat (first | refine ts_nil | (refine ts_cons rfl ?_ ?_; first | (with_reducible rfl) | rotate_left))); (first | (intro _ i; with_reducible refine i) | rotate_left); (try omega); (try omega))
        · refine ⟨hjl, ?_, by dsimp only; rw [List.length_append, List.length_singleton]; omega⟩
          rw [hf, hdr, feed, hst, he]; rfl
        · dsimp only; omega
        · rw [wrapI64 (by omega)] <;> rfl
      · rw [← he, hst] at hYj
        simp only [Bool.not_true, if_true] at hYj
        rw [he] at hYj
        (repeat (first | (refine lw_i ?_; refine lw_yield (hYj) (h := ?_); rintro _ _ _ ⟨rfl, rfl⟩ he; cases he) | refine g_seq (h := ?_) | refine g_region (h := ?_) | refine l_nil (h := ?_) | refine n_then (h := ?_) | refine l_pures1 (h := ?_) | refine g_ret (h := ?_) | refine n_then_ret (h := ?_) | refine n_block_ret (h := ?_) | refine a_done (h := ?_) | refine a_load (h := a_pass2 (h := ?_)) | refine a_one (h := ?_) | refine n_any (h := a_pass2 (h := ?_)) | refine a_v (h := ?_) | refine g_cond_t (h := ?_) | refine l_load_vec (h := ?_) | refine a_load_vec (h := a_pass2 (h := ?_)) | refine n_lw (h := ?_) | refine lw_nil (h := ?_) | refine lw_step (h := ?_)))
        have hfe : feed stop dn (geE d.ents x) = (dn' ++ [(d.keys.getD j 0, d.vals.getD j [])], true) := by rw [hf, hdr, feed, hst, he]; rfl
        refine r_retk [X (dn' ++ [(d.keys.getD j 0, d.vals.getD j [])]), Wk b sb (read + 1) 0, Store sb db S, Disk db D] ?_
        rw [hfe]
        exact ⟨rfl, rfl⟩
    · have hfe : feed stop dn (geE d.ents x) = (dn', false) := by rw [hf, List.drop_eq_nil_of_le (by omega)]; rfl
      (repeat' (first | refine g_seq (h := ?_) | refine g_region (h := ?_) | refine l_nil (h := ?_) | refine n_then (h := ?_) | refine l_pures1 (h := ?_) | refine l_load (h := ?_) | refine g_ret (h := ?_) | refine g_exit (h := ?_) | refine n_then_exit (h := ?_) | refine n_block_hit (h := ?_) | (refine g_spF (h := ?_); intro h)))
      refine r_retk [C dn', Wk b sb (read + 1) 0, Store sb db S, Disk db D] ?_
      rw [hfe]
      exact ⟨rfl, rfl⟩
  · exact ⟨hpos, by rw [Nd.ents, ge_zip hd.p.rise], by dsimp only; omega⟩
  · intro _ i
    exact inv_keep parts_of i
end Go.Proofs.YtmfmommgooccnaaGreat
/- Keys of kinds, and slots in them: plain facts. -/
set_option maxRecDepth 20000
set_option linter.unusedVariables false
set_option linter.unusedSimpArgs false
namespace Go.Proofs.YtmfmommgooccnaaGreat
open Go.Proofs.YtmfmommgooccnaaGreat.SL

/-- The key of a kind and two numbers. -/
def kyN (k a b : Nat) : Nat := k * 1152921504606846976 + a * 4294967296 + b
theorem kyN_lt {k a b : Nat} (hk : k < 16) (ha : a ≤ 268435455) (hb : b < 4294967296) : kyN k a b < 18446744073709551616 := by unfold kyN; omega

/-- A slot. -/
structure Sl where
  cap : Nat
  epoch : Nat
  nonce : Nat
deriving DecidableEq
def Sl.ok (s : Sl) : Prop := s.cap ≤ 16777215 ∧ 1 ≤ s.epoch ∧ s.epoch ≤ 16 ∧ (s.cap = 0 ∨ s.epoch ≤ 15) ∧ s.nonce < 18446744073709551616
def Sl.text (s : Sl) : List UInt8 := putN s.cap 3 ++ (putN s.epoch 1 ++ putN s.nonce 8)
/-- The tree of the slots from number j on. -/
def slotT : Nat → List Sl → List Ent
  | _, [] => []
  | j, s :: l => (kyN 4 0 j, s.text) :: slotT (j + 1) l
theorem slotT_len : ∀ (j : Nat) (l : List Sl), (slotT j l).length = l.length
  | _, [] => rfl
  | j, _ :: l => by simp [slotT, slotT_len (j + 1) l]
theorem slotT_append : ∀ (j : Nat) (a b : List Sl), slotT j (a ++ b) = slotT j a ++ slotT (j + a.length) b
  | j, [], b => by simp [slotT]
  | j, s :: a, b => by
    have e : j + (s :: a).length = j + 1 + a.length := by simp; omega
    rw [e]
    simp [slotT, slotT_append (j + 1) a b]
theorem slotT_bd : ∀ {j : Nat} {l : List Sl} {e : Ent}, e ∈ slotT j l → kyN 4 0 j ≤ e.1 ∧ e.1 < kyN 4 0 (j + l.length)
  | j, [], e, h => by simp [slotT] at h
  | j, s :: l, e, h => by
    simp only [slotT, List.mem_cons] at h
    rcases h with rfl | h
    · unfold kyN; simp
    · have := slotT_bd h
      unfold kyN at this ⊢
      simp only [List.length_cons]; omega
theorem slotT_put_set {j i : Nat} {l : List Sl} (s : Sl) (hi : i < l.length) : putE (slotT j l) (kyN 4 0 (j + i)) s.text = slotT j (l.set i s) := by
  have e1 : l = l.take i ++ (l[i] :: l.drop (i + 1)) := by rw [List.getElem_cons_drop, List.take_append_drop]
  have e2 : l.set i s = l.take i ++ (s :: l.drop (i + 1)) := by rw [List.set_eq_take_append_cons_drop, if_pos hi]
  have hl : (l.take i).length = i := by simp; omega
  rw [e2]
  conv => lhs; rw [e1]
  rw [slotT_append, slotT_append, hl]
  have h := putE_mid (L := slotT j (l.take i)) (R := slotT (j + i + 1) (l.drop (i + 1))) (e := [(kyN 4 0 (j + i), l[i].text)]) (x := kyN 4 0 (j + i)) (v := s.text)
    (fun a ha => by have := slotT_bd ha; rw [hl] at this; exact this.2) (fun a ha => by have := slotT_bd ha; unfold kyN at this ⊢; omega)
  have h1 : putE [(kyN 4 0 (j + i), l[i].text)] (kyN 4 0 (j + i)) s.text = [(kyN 4 0 (j + i), s.text)] := by simp [putE]
  rw [h1] at h
  exact h
theorem slotT_put_new {j : Nat} {l : List Sl} (s : Sl) : putE (slotT j l) (kyN 4 0 (j + l.length)) s.text = slotT j (l ++ [s]) := by
  have h := putE_mid (L := slotT j l) (R := []) (e := []) (x := kyN 4 0 (j + l.length)) (v := s.text) (fun a ha => (slotT_bd ha).2) (fun a ha => by simp at ha)
  have h1 : putE [] (kyN 4 0 (j + l.length)) s.text = [(kyN 4 0 (j + l.length), s.text)] := by simp [putE]
  rw [h1] at h
  rw [slotT_append]
  simpa [slotT] using h
theorem slotT_get : ∀ {l : List Sl} {j i : Nat}, getE (slotT j l) (kyN 4 0 (j + i)) = (l[i]?).map Sl.text
  | [], j, i => rfl
  | s :: l, j, 0 => by simp [slotT, getE]
  | s :: l, j, i + 1 => by
    have ih := slotT_get (l := l) (j := j + 1) (i := i)
    have e : j + (i + 1) = j + 1 + i := by omega
    have hne : ¬ kyN 4 0 j = kyN 4 0 (j + 1 + i) := by unfold kyN; omega
    rw [e, slotT, getE, if_neg hne, ih, List.getElem?_cons_succ]
theorem slotT_ge {l : List Sl} {j i : Nat} (hi : i ≤ l.length) : geE (slotT j l) (kyN 4 0 (j + i)) = slotT (j + i) (l.drop i) := by
  have e1 : slotT j l = slotT j (l.take i) ++ slotT (j + i) (l.drop i) := by
    have hl : (l.take i).length = i := by simp; omega
    conv => lhs; rw [← List.take_append_drop i l]
    rw [slotT_append, hl]
  rw [e1, geE_append]
  have h1 : geE (slotT j (l.take i)) (kyN 4 0 (j + i)) = [] := List.filter_eq_nil_iff.2 fun a ha => by
    have := (slotT_bd ha).2
    have hl : (l.take i).length = i := by simp; omega
    rw [hl] at this
    simpa using this
  have h2 : geE (slotT (j + i) (l.drop i)) (kyN 4 0 (j + i)) = slotT (j + i) (l.drop i) := List.filter_eq_self.2 fun a ha => by simpa using (slotT_bd ha).1
  rw [h1, h2, List.nil_append]
theorem slotT_take : ∀ {l : List Sl} {j n : Nat}, (slotT j l).take n = slotT j (l.take n)
  | [], j, n => by simp [slotT]
  | s :: l, j, 0 => rfl
  | s :: l, j, n + 1 => by simp [slotT, slotT_take (l := l) (j := j + 1) (n := n)]
theorem slotT_getD : ∀ {l : List Sl} {j i : Nat} (hi : i < l.length), (slotT j l)[i]? = some (kyN 4 0 (j + i), l[i].text)
  | s :: l, j, 0, _ => rfl
  | s :: l, j, i + 1, h => by
    have ih := slotT_getD (l := l) (j := j + 1) (i := i) (by simpa using h)
    have e : j + (i + 1) = j + 1 + i := by omega
    rw [e]
    simpa [slotT] using ih

/-- Slots with their numbers. -/
def slE : Nat → List Sl → List (Nat × Sl)
  | _, [] => []
  | j, s :: l => (j, s) :: slE (j + 1) l
theorem slE_append : ∀ (j : Nat) (a b : List Sl), slE j (a ++ b) = slE j a ++ slE (j + a.length) b
  | j, [], b => by simp [slE]
  | j, s :: a, b => by
    have e : j + (s :: a).length = j + 1 + a.length := by simp; omega
    rw [e]
    simp [slE, slE_append (j + 1) a b]
theorem slE_len : ∀ (j : Nat) (l : List Sl), (slE j l).length = l.length
  | _, [] => rfl
  | j, _ :: l => by simp [slE, slE_len (j + 1) l]
theorem slE_snoc {l : List Sl} {n : Nat} (h : n < l.length) : slE 1 (l.take (n + 1)) = slE 1 (l.take n) ++ [(1 + n, l[n])] := by
  rw [List.take_succ_eq_append_getElem h, slE_append]
  have hl : (l.take n).length = n := by simp; omega
  rw [hl]
  rfl
theorem slE_get : ∀ {l : List Sl} {j i : Nat} (hi : i < l.length), (slE j l)[i]? = some (j + i, l[i])
  | s :: l, j, 0, _ => rfl
  | s :: l, j, i + 1, h => by
    have ih := slE_get (l := l) (j := j + 1) (i := i) (by simpa using h)
    have e : j + (i + 1) = j + 1 + i := by omega
    rw [e]
    simpa [slE] using ih
/-- Where the scan goes on. -/
def fromK (k : Nat) : Nat := if k = 0 then kyN 4 0 0 else kyN 4 0 (1 + k)
theorem fromK_ge {l : List Sl} {k : Nat} (hk : k ≤ l.length) : geE (slotT 1 l) (fromK k) = slotT (1 + k) (l.drop k) := by
  unfold fromK
  split
  · rename_i h
    subst h
    rw [List.drop_zero]
    refine List.filter_eq_self.2 fun a ha => ?_
    have := (slotT_bd ha).1
    have h2 : kyN 4 0 0 ≤ kyN 4 0 1 := by unfold kyN; omega
    simp; omega
  · exact slotT_ge hk

/-! What Take and Free make of the slots -/
/-- The first slot that may be taken; behind the last one, if none may. -/
def takeAt : List Sl → Nat
  | [] => 0
  | s :: l => if s.cap = 0 ∧ s.epoch ≤ 15 then 0 else takeAt l + 1
theorem takeAt_le : ∀ (l : List Sl), takeAt l ≤ l.length
  | [] => Nat.le_refl _
  | s :: l => by
    have := takeAt_le l
    unfold takeAt
    split <;> simp <;> omega
theorem takeAt_busy : ∀ {l : List Sl} {j : Nat} (h : j < takeAt l) (hj : j < l.length), ¬ (l[j].cap = 0 ∧ l[j].epoch ≤ 15)
  | s :: l, j, h, hj => by
    unfold takeAt at h
    split at h
    · omega
    · rename_i q
      cases j with
      | zero => exact q
      | succ j => exact takeAt_busy (l := l) (by omega) (by simpa using hj)
theorem takeAt_free : ∀ {l : List Sl} (h : takeAt l < l.length), l[takeAt l].cap = 0 ∧ l[takeAt l].epoch ≤ 15
  | s :: l, h => by
    by_cases q : s.cap = 0 ∧ s.epoch ≤ 15
    · have e : takeAt (s :: l) = 0 := by unfold takeAt; rw [if_pos q]
      simp only [e]
      exact q
    · have e : takeAt (s :: l) = takeAt l + 1 := by conv => lhs; unfold takeAt; rw [if_neg q]
      have h2 : takeAt l < l.length := by rw [e] at h; simpa using h
      have ih := takeAt_free h2
      simp only [e, List.getElem_cons_succ]
      exact ih
def epochAt (L : List Sl) : Nat := if takeAt L < L.length then (L.getD (takeAt L) ⟨0, 1, 0⟩).epoch else 1
def takeL (L : List Sl) (cap nonce : Nat) : List Sl := if takeAt L < L.length then L.set (takeAt L) ⟨cap, epochAt L, nonce⟩ else L ++ [⟨cap, epochAt L, nonce⟩]
theorem takeL_put (L : List Sl) (cap nonce : Nat) : putE (slotT 1 L) (kyN 4 0 (1 + takeAt L)) (Sl.text ⟨cap, epochAt L, nonce⟩) = slotT 1 (takeL L cap nonce) := by
  unfold takeL
  split
  · rename_i h
    exact slotT_put_set _ h
  · rename_i h
    have e : takeAt L = L.length := Nat.le_antisymm (takeAt_le L) (by omega)
    rw [e]
    exact slotT_put_new _
theorem takeL_len (L : List Sl) (cap nonce : Nat) : (takeL L cap nonce).length ≤ L.length + 1 := by
  unfold takeL
  split <;> simp
/-- What Free makes of a slot. -/
def Sl.fr (cap : Nat) (s : Sl) : Sl := if s.cap ≠ 0 ∧ s.cap = cap then ⟨0, s.epoch + 1, 0⟩ else s
def frN (cap : Nat) (L : List Sl) : Nat := (L.filter fun s => decide (s.cap ≠ 0 ∧ s.cap = cap)).length
def mixL (cap : Nat) (L : List Sl) (i : Nat) : List Sl := (L.take i).map (Sl.fr cap) ++ L.drop i
theorem mixL_set {cap : Nat} {L : List Sl} {i : Nat} (h : i < L.length) : (mixL cap L i).set i (Sl.fr cap L[i]) = mixL cap L (i + 1) := by
  unfold mixL
  have hl : ((L.take i).map (Sl.fr cap)).length = i := by simp; omega
  rw [List.set_append_right _ _ (by omega), hl, Nat.sub_self, List.drop_eq_getElem_cons h, List.set_cons_zero, List.take_succ_eq_append_getElem h, List.map_append]
  simp
theorem mixL_len (cap : Nat) (L : List Sl) (i : Nat) : (mixL cap L i).length = L.length := by simp [mixL]; omega
theorem mixL_keep {cap : Nat} {L : List Sl} {i : Nat} (h : i < L.length) (q : ¬ (L[i].cap ≠ 0 ∧ L[i].cap = cap)) : mixL cap L (i + 1) = mixL cap L i := by
  unfold mixL
  rw [List.take_succ_eq_append_getElem h, List.map_append, List.drop_eq_getElem_cons h, List.append_assoc]
  have : Sl.fr cap L[i] = L[i] := by unfold Sl.fr; rw [if_neg q]
  simp [this]
theorem frN_snoc {cap : Nat} {L : List Sl} {i : Nat} (h : i < L.length) : frN cap (L.take (i + 1)) = frN cap (L.take i) + if L[i].cap ≠ 0 ∧ L[i].cap = cap then 1 else 0 := by
  unfold frN
  rw [List.take_succ_eq_append_getElem h, List.filter_append, List.length_append]
  congr 1
  by_cases q : L[i].cap ≠ 0 ∧ L[i].cap = cap
  · rw [if_pos q, List.filter_cons_of_pos (by simpa using q)]; rfl
  · rw [if_neg q, List.filter_cons_of_neg (by simpa using q)]; rfl
theorem fr_ok {cap : Nat} {s : Sl} (h : s.ok) : (s.fr cap).ok := by
  unfold Sl.fr
  split
  · obtain ⟨h1, h2, h3, h4, h5⟩ := h
    rename_i q
    refine ⟨by simp, by simp, ?_, .inl rfl, by simp⟩
    have := h4.resolve_left q.1
    show s.epoch + 1 ≤ 16
    omega
  · exact h
theorem mixL_zero (cap : Nat) (L : List Sl) : mixL cap L 0 = L := by simp [mixL]
theorem mixL_all (cap : Nat) (L : List Sl) : mixL cap L L.length = L.map (Sl.fr cap) := by simp [mixL]
theorem frN_all (cap : Nat) (L : List Sl) : frN cap (L.take L.length) = frN cap L := by simp
theorem frN_le (cap : Nat) (L : List Sl) : frN cap L ≤ L.length := List.length_filter_le _ _
theorem mixL_put {cap : Nat} {L : List Sl} {i : Nat} (h : i < L.length) (q : L[i].cap ≠ 0 ∧ L[i].cap = cap) : putE (slotT 1 (mixL cap L i)) (kyN 4 0 (1 + i)) (Sl.text ⟨0, L[i].epoch + 1, 0⟩) = slotT 1 (mixL cap L (i + 1)) := by
  have e : Sl.fr cap L[i] = ⟨0, L[i].epoch + 1, 0⟩ := by unfold Sl.fr; rw [if_pos q]
  rw [← e, slotT_put_set _ (by rw [mixL_len]; exact h), mixL_set h]
end Go.Proofs.YtmfmommgooccnaaGreat
/- The framework, part 19: loops that hold loops over functions; their marks among the deferred calls. -/
set_option linter.unusedVariables false
set_option linter.unusedSimpArgs false
namespace Go.Proofs.YtmfmommgooccnaaGreat.SL

section
variable {w0 w : World} {F0 : Nat → Prop} {H : List SProp} {ms : List Nat} {D0 : Nat}
end

variable {P : Program} {E : Env} {n : Nat} {w0 : World} {F0 : Nat → Prop} {Q : Exit → Act → World → Prop} {tm : List (Nat × Value)} {D : List Deferred} {H H' : List SProp}
/-- A guarded lookup in a map that is held, in a region whose order is free. -/
theorem a_lookupg_k {α : Type} {kk : IntKind} {ops : List Oper} {ty : TypeId} {pos : String} {after : Array Edge} {Hs Hs' : List SProp} {listed : Array Bool} {ll : List Bool} {i d j ts t kt et b sz by' : Nat} {want : Bool} {x y : Operand} {enc : α → Value} {kv : List (Int × α)} {u : Int} (z : α) {zv : Value} (k : EnvOk P E := by refine inferInstance) (hs : noSel ops = true := by refine rfl) (hi : nextR ops 0 listed = some i := by refine rfl)
    (ho : nth ops i = some ⟨some d, .lookup t x y false, ty, pos, after, some (j, want)⟩ := by refine rfl) (hd : Nat.blt d n = true := by refine rfl) (hst : slotOf ops j = some ts := by refine rfl) (htb : tget tm ts = some (.bool want) := by refine rfl) (hb : Nat.blt ts n = true := by refine rfl) (hx : ev tm x = some (.map (some b)) := by refine rfl) (hy : ev tm y = some (.int kk u) := by refine rfl)
    (ht : look E.ty t = some (.map kt et) := by refine rfl) (hk : look E.ty kt = some (.int kk) := by refine rfl) (hz : look E.inf et = some (zv, sz, by') := by refine rfl) (tk : Take (mpk kk b enc kv) Hs Hs' := by with_reducible (repeat (first | refine Take.here | apply Take.there))) (hze : zv = enc z := by refine rfl)
    (hf : freeL ops.toArray i ⟨some d, .lookup t x y false, ty, pos, after, some (j, want)⟩ listed ops 0 = true := by refine rfl) (hl : listed.getD i true = false := by refine rfl) (hr : rdyB after.toList listed = true := by refine rfl) (hn : copyB (listed.setIfInBounds i true).toList = some ll := by refine rfl) (hc : Calm Q := by with_reducible (repeat (first | assumption | refine calm_post | refine calm_postM | refine calm_round | apply calm_then | apply calm_block | apply calm_scope)))
    (h : A P n w0 F0 ops Hs ll.toArray Q ((d, enc ((kvGet kv u).getD z)) :: tm) D H) : A P n w0 F0 ops Hs listed Q tm D H := by
  subst hze
  refine a_yh (v := enc ((kvGet kv u).getD z)) hc hs ho hd hst htb hb hf hl hr (fun a w htm ⟨F, s⟩ => ?_) (by rw [copyB_arr hn]; exact h)
  obtain ⟨F1, F2, ⟨⟨es, clock, hw, he, _⟩, _⟩, _⟩ := tk.sep s
  simp only [execOp, ev_sound htm hx, ev_sound htm hy, Sem.run_bind, run_lookup_int_k k hw he ht hk hz, Result.andThen, Sem.run_pure, Bool.false_eq_true, if_false]
end Go.Proofs.YtmfmommgooccnaaGreat.SL
/- The framework, part 20: values behind interfaces: their types are asked for, their methods called. -/
set_option linter.unusedVariables false
set_option linter.unusedSimpArgs false
namespace Go.Proofs.YtmfmommgooccnaaGreat.SL
section
variable {P : Program} {E : Env} {n : Nat} {w0 : World} {F0 : Nat → Prop} {Q : Exit → Act → World → Prop} {tm : List (Nat × Value)} {D : List Deferred} {H H' : List SProp} {ops rest : List Oper}
variable {ty : TypeId} {pos : String} {after : Array Edge}

/-- Is what is behind it of the type s? -/
def assertV (E : Env) (s : Nat) (x : Value) : Option Value :=
  match x with
  | .iface t v => (match look E.ty s with
    | none => none
    | some (.interface _) => none
    | some _ => bif Nat.beq t s then some (.tuple #[v, .bool true]) else (match look E.inf s with
      | some (z, _, _) => some (.tuple #[z, .bool false])
      | none => none))
  | _ => none
theorem assertV_sound (k : EnvOk P E) {xt s : Nat} {x v : Value} (h : assertV E s x = some v) (w : World) : (Instr.typeAssert x xt s true).run P w = .ok v w := by
  unfold assertV at h
  split at h
  · rename_i t u
    split at h
    · cases h
    · cases h
    · rename_i d hd hu
      have hu' := k.under hu
      cases hb : Nat.beq t s with
      | true =>
        rw [hb, cond_true] at h
        simp only [Option.some.injEq] at h; subst h
        obtain rfl : t = s := Nat.eq_of_beq_eq_true hb
        unfold Instr.typeAssert
        simp only [Sem.run_bind, run_underlying hu', Result.andThen]
        cases d <;> first | exact absurd rfl (hd _) | simp
      | false =>
        rw [hb, cond_false] at h
        split at h
        · rename_i z s1 b1 hi
          simp only [Option.some.injEq] at h; subst h
          have hne : t ≠ s := Nat.ne_of_beq_eq_false hb
          unfold Instr.typeAssert
          simp only [Sem.run_bind, run_underlying hu', Result.andThen]
          cases d <;> first | exact absurd rfl (hd _) | simp [hne, run_zero k hi, Result.andThen]
        · cases h
  · cases h
theorem l_assert {d xt s : Nat} {x : Operand} {u v : Value} (k : EnvOk P E := by refine inferInstance) (hd : Nat.blt d n = true := by refine rfl) (hx : ev tm x = some u := by refine rfl) (hv : assertV E s u = some v := by refine rfl)
    (h : L P n w0 F0 ops.toArray rest Q ((d, v) :: tm) D H) : L P n w0 F0 ops.toArray (⟨some d, .typeAssert x xt s true, ty, pos, after, none⟩ :: rest) Q tm D H :=
  .mk fun a w st => wpList_value rfl (v := v) (w' := w) (by simp only [execOp, ev_sound st.tm hx, Sem.run_bind, assertV_sound k hv, Result.andThen, Sem.run_pure]) (h _ _ (st.put hd v))

/-- The type t has a method of this name, of a value: it is the function g. -/
class Mth (P : Program) (t : Nat) (name : String) (g : FuncId) : Prop where
  it : ∃ i m, P.info? t = some i ∧ i.methods.find? (·.name == name) = some m ∧ m.path.toList = [] ∧ m.func = some (g, false)
def mthB (P : Program) (t : Nat) (name : String) (g : FuncId) : Bool :=
  match P.info? t with
  | none => false
  | some i => (match i.methods.find? (·.name == name) with
    | none => false
    | some m => m.path.toList.isEmpty && (match m.func with
      | some (f, false) => Nat.beq f g
      | _ => false))
theorem Mth.of {t : Nat} {name : String} {g : FuncId} (h : mthB P t name g = true) : Mth P t name g := by
  unfold mthB at h
  split at h
  · cases h
  · rename_i i hi
    split at h
    · cases h
    · rename_i m hm
      simp only [Bool.and_eq_true, List.isEmpty_iff] at h
      obtain ⟨h1, h2⟩ := h
      split at h2
      · rename_i f hf
        have : f = g := Nat.eq_of_beq_eq_true h2
        subst this
        exact ⟨i, m, hi, hm, h1, hf⟩
      · cases h2
def noPtr (E : Env) (t : Nat) : Bool :=
  match look E.ty t with
  | none => false
  | some (.pointer _) => false
  | some _ => true
theorem run_mth {t : Nat} {name : String} {g : FuncId} (k : EnvOk P E) (m : Mth P t name g) (hn : noPtr E t = true) (v : Value) (w : World) (fuel : Nat) : (method (fuel + 1) t v name).run P w = .ok (g, v) w := by
  obtain ⟨i, m, h1, h2, h3, h4⟩ := m.it
  unfold noPtr at hn
  split at hn
  · cases hn
  · cases hn
  · rename_i d hd hu
    have hu' := k.under hu
    unfold method
    have ht : (typeInfo t).run P w = .ok i w := by simp [typeInfo, program, Sem.run, h1]
    simp only [Sem.run_bind, ht, Result.andThen, h2, h3, follow, Sem.run_pure, h4, receiverAt, run_underlying hu']
    cases d <;> first | exact absurd rfl (hd _) | simp [Place.get, Result.andThen]
theorem run_invoke {g t : Nat} {name : String} {tm : List (Nat × Value)} {a : Act} (k : EnvOk P E) (c : Callable P g) (m : Mth P t name g) (hn : noPtr E t = true) (ht : Tm n tm a) {f : Operand} {xs : Array Operand} {ts : Array TypeId} {v : Value} {vs : List Value}
    (hf : ev tm f = some (.iface t v)) (hx : evs tm xs.toList = some vs) (dst : Option Nat) (w : World) :
    (execOp a.eval ⟨dst, .call ⟨.invoke f name, xs, ts⟩, ty, pos, after, none⟩).run P w = .ok (.enter g (v :: vs).toArray) w := by
  obtain ⟨fn, h1, h2, h3⟩ := c.it
  have e1 : xs.map a.eval = vs.toArray := by apply Array.ext'; simpa using evs_sound ht hx
  have hN : ¬ (fn.name == "runtime.NumGoroutine") = true := by rw [h2]; exact Bool.false_ne_true
  have hb : ¬ fn.body.isNone = true := by rw [h3]; exact Bool.false_ne_true
  have hsz : 0 < Made.depth := by decide
  obtain ⟨fu, hfu⟩ : ∃ fu, P.types.size + Made.depth = fu + 1 := ⟨P.types.size + Made.depth - 1, by omega⟩
  have hc : ∀ args : Array Value, (callFunc g args).run P w = .ok (.enter g args) w := fun args => by
    unfold callFunc
    simp only [program, Sem.run_bind, Sem.run, Result.andThen, h1, if_neg hN, if_neg hb, Sem.run_pure]
  have e2 : (#[v] ++ vs.toArray) = (v :: vs).toArray := by apply Array.ext'; simp
  have hget : (#[Value.iface t v] ++ vs.toArray)[0]? = some (.iface t v) := by simp
  have hext : (#[Value.iface t v] ++ vs.toArray).extract 1 (#[Value.iface t v] ++ vs.toArray).size = vs.toArray := by apply Array.ext'; simp
  have hp : (program).run P w = .ok P w := by simp [program, Sem.run]
  simp only [execOp, resolve, ev_sound ht hf, e1, invoke, Sem.run_bind, Sem.run_pure, Result.andThen, hget, hext, callMethod, hp, hfu, run_mth k m hn v w fu, hc, e2]
theorem l_invoke_ {d g t : Nat} {f : Operand} {name : String} {xs : Array Operand} {ts : Array TypeId} {u : Value} {vs args args' : List Value} {K : List SProp} {q : Value → List SProp → Prop} (hs : Does P g args K q) (h : ∀ v K' H'', q v K' → appO K' H' = some H'' → L P n w0 F0 ops.toArray rest Q ((d, v) :: tm) D H'')
    (k : EnvOk P E := by refine inferInstance) (hf : ev tm f = some (.iface t u) := by refine rfl) (m : Mth P t name g := by refine inferInstance) (hn : noPtr E t = true := by refine rfl) (hd : Nat.blt d n = true := by refine rfl) (hx : evs tm xs.toList = some vs := by refine rfl) (ha : u :: vs = args' := by refine rfl) (he : args' = args := by with_reducible refine rfl)
    (hp : Parts K H H' := by with_reducible (repeat (first | refine Parts.nil | (apply Parts.cons; repeat (first | refine Take.here | apply Take.there))))) (c : Callable P g := by refine inferInstance) :
    L P n w0 F0 ops.toArray (⟨some d, .call ⟨.invoke f name, xs, ts⟩, ty, pos, after, none⟩ :: rest) Q tm D H := by
  refine .mk fun a w s => ?_
  subst he
  subst ha
  obtain ⟨F1, s1, back⟩ := (s.inv.parts hp).hand
  refine wpList_enter rfl (run_invoke k c m hn s.tm hf hx _ w) (R := fun v w' => ∃ K', q v K' ∧ Inv w F1 K' w') ?_ ?_
  · exact (hs w F1 s1).mono fun e w' ⟨v, K', he, hq, hi⟩ => ⟨v, he, K', hq, hi⟩
  · rintro v w' ⟨K', hq, hi⟩
    exact h v K' _ hq (appO_eq K' H') _ _ ⟨s.tm.put hd v, s.defers, back hi⟩
theorem l_invoke {d g t : Nat} {f : Operand} {name : String} {xs : Array Operand} {ts : Array TypeId} {u : Value} {vs args args' : List Value} {K K' H'' : List SProp} {V : Value} (hs : Does P g args K (fun v H => v = V ∧ H = K')) (h : L P n w0 F0 ops.toArray rest Q ((d, V) :: tm) D H'')
    (k : EnvOk P E := by refine inferInstance) (hf : ev tm f = some (.iface t u) := by refine rfl) (m : Mth P t name g := by refine inferInstance) (hn : noPtr E t = true := by refine rfl) (hd : Nat.blt d n = true := by refine rfl) (hx : evs tm xs.toList = some vs := by refine rfl) (ha : u :: vs = args' := by refine rfl) (he : args' = args := by with_reducible refine rfl)
    (hp : Parts K H H' := by with_reducible (repeat (first | refine Parts.nil | (apply Parts.cons; repeat (first | refine Take.here | apply Take.there))))) (ho : appO K' H' = some H'' := by refine rfl) (c : Callable P g := by refine inferInstance) :
    L P n w0 F0 ops.toArray (⟨some d, .call ⟨.invoke f name, xs, ts⟩, ty, pos, after, none⟩ :: rest) Q tm D H :=
  l_invoke_ hs (fun v K1 H2 ⟨e1, e2⟩ e3 => by subst e1 e2; rw [ho] at e3; cases e3; exact h) k hf m hn hd hx ha he hp c
end
end Go.Proofs.YtmfmommgooccnaaGreat.SL
/- Package space: keys. -/
set_option maxRecDepth 20000
set_option linter.unusedVariables false
set_option linter.unusedSimpArgs false
namespace Go.Proofs.YtmfmommgooccnaaGreat
open Go.Proofs.YtmfmommgooccnaaGreat.SL

theorem Key_does (k a b : Nat) (hk : k < 16) (ha : a ≤ 268435455) (hb : b < 4294967296) : Does Tryz.prog 103 [.int .i64 k, .int .i64 a, .int .i64 b] [] (fun v H => v = .tuple #[.int .u64 (kyN k a b : Nat), .bool true] ∧ H = []) := by
  refine does_of Tryz.func103 Tryz.ntmps103 rfl rfl rfl (fun w0 F0 => ?_)
  (repeat' (first | refine g_seq (h := ?_) | refine g_region (h := ?_) | refine l_nil (h := ?_) | refine n_then (h := ?_) | refine l_pures1 (h := ?_) | refine l_guard_yes (h := ?_) | refine l_shl (h := ?_) | refine g_skip (h := ?_) | refine g_ret (h := ?_) | (refine l_spF (h := ?_); intro h) | (refine g_spF (h := ?_); intro h)))
  refine r_ret ?_
  refine ⟨?_, rfl⟩
  have p60 : (2 : Int) ^ min (Int.toNat 60) IntKind.u64.bits = 1152921504606846976 := by decide
  have p32 : (2 : Int) ^ min (Int.toNat 32) IntKind.u64.bits = 4294967296 := by decide
  rw [p60, p32, wrapU64 (n := (k : Int)) (by omega), wrapU64 (n := (a : Int)) (by omega), wrapU64 (n := (b : Int)) (by omega), wrapU64 (n := (k : Int) * 1152921504606846976) (by omega), wrapU64 (n := (a : Int) * 4294967296) (by omega), wrapU64 (n := (k : Int) * 1152921504606846976 + (a : Int) * 4294967296) (by omega), wrapU64 (by omega)]
  simp [packV, kyN]
end Go.Proofs.YtmfmommgooccnaaGreat
/- Package rec: slots as bytes. -/
set_option maxRecDepth 20000
set_option linter.unusedVariables false
set_option linter.unusedSimpArgs false
namespace Go.Proofs.YtmfmommgooccnaaGreat
open Go.Proofs.YtmfmommgooccnaaGreat.SL

instance mthSlot : Mth Tryz.prog 165 "bailiwick/rec.right" 251 := Mth.of (by kernel_rfl)

abbrev slA (id : Nat) (s : Sl) : Array Value := #[.int .i64 id, .int .i64 s.cap, .int .i64 s.epoch, .int .u64 s.nonce]
theorem putN_ok {n k : Nat} (hk : 1 ≤ k ∧ k ≤ 8) (h : n < 256 ^ k) : numPut n (k : Int) = (putN n k, 0) := by
  rw [numPut, if_neg (by omega), if_pos (by simpa using h)]; simp
theorem take_putN {n k : Nat} (hk : 1 ≤ k ∧ k ≤ 8) (h : n < 256 ^ k) (r : List UInt8) : numTake (putN n k ++ r) (k : Int) = (n, r, 0) := by
  have hl := putN_length k n
  rw [take_of (by simp [hl]) hk, List.take_left' hl, List.drop_left' hl, getN_putN _ _ h]

theorem in_does (n lo hi : Int) (h : lo ≤ n ∧ n ≤ hi) : Does Tryz.prog 252 [.int .i64 n, .int .i64 lo, .int .i64 hi] [] (fun v H => v = .bool true ∧ H = []) := by
  refine does_of Tryz.func252 Tryz.ntmps252 rfl rfl rfl (fun w0 F0 => ?_)
  (repeat' (first | refine g_seq (h := ?_) | refine g_region (h := ?_) | refine l_nil (h := ?_) | refine n_then (h := ?_) | refine l_pures1 (h := ?_) | refine l_guard_yes (h := ?_) | refine g_ret (h := ?_) | (refine l_spT (h := ?_); intro h)))
  refine r_ret ?_
  exact ⟨(by first | (simp [packV]; done) | (simp [packV]; omega)), rfl⟩
theorem slRight_does (id : Nat) (s : Sl) (hid : 1 ≤ id ∧ id ≤ 200) (ok : s.ok) : Does Tryz.prog 251 [.agg (slA id s)] [] (fun v H => v = .bool true ∧ H = []) := by
  obtain ⟨o1, o2, o3, o4, o5⟩ := ok
  have h1 := in_does id 1 200 (by omega)
  have h2 := in_does s.cap 0 16777215 (by omega)
  have h3 := in_does s.epoch 1 16 (by omega)
  refine does_of Tryz.func251 Tryz.ntmps251 rfl rfl rfl (fun w0 F0 => ?_)
  (repeat' (first | refine g_seq (h := ?_) | refine g_region (h := ?_) | refine l_nil (h := ?_) | refine n_then (h := ?_) | refine l_pures1 (h := ?_) | (refine l_atc ?_; refine l_call (h1) ?_) | (refine l_atc ?_; refine l_call (h2) ?_) | (refine l_atc ?_; refine l_call (h3) ?_) | refine l_guard_yes (h := ?_) | refine l_guard_no (h := ?_) | refine l_load (h := ?_) | (refine l_box (h := ?_); intro _) | refine g_ret (h := ?_) | (refine l_sp (h1 := ?_) (h0 := ?_) <;> intro h)))
  all_goals
    refine r_retk [] ?_
  all_goals exact ⟨(by first | (simp [packV]; done) | (simp [packV]; omega)), rfl⟩

/-- A writer has the bytes l. -/
abbrev Wr (b : Nat) (l : List UInt8) : SProp := cl b 260 [.string (str l)]
theorem wNumber_does (b n k : Nat) (l : List UInt8) (hk : 1 ≤ k ∧ k ≤ 8) (h : n < 256 ^ k) (hn : n < 18446744073709551616) (hl : l.length < 1000) : Does Tryz.prog 173 [.pointer (some ⟨b, 0, none⟩), .int .u64 n, .int .i64 k] [Wr b l] (fun v H => v = .tuple #[] ∧ H = [Wr b (l ++ putN n k)]) := by
  have hp := Put_does n k hn (by omega)
  rw [putN_ok hk h] at hp
  have hpl := putN_length k n
  refine does_of Tryz.func173 Tryz.ntmps173 rfl rfl rfl (fun w0 F0 => ?_)
  (repeat' (first | refine g_seq (h := ?_) | refine g_region (h := ?_) | refine l_nil (h := ?_) | refine n_then (h := ?_) | refine l_pures1 (h := ?_) | (refine l_atc ?_; refine l_call (hp) ?_) | refine l_load (h := ?_) | refine l_store (h := ?_) | refine l_concat (h := ?_)))
  refine r_endk [Wr b (l ++ putN n k)] ?_
  exact ⟨rfl, rfl⟩
theorem wSmall_does (b n k : Nat) (l : List UInt8) (hk : 1 ≤ k ∧ k ≤ 8) (h : n < 256 ^ k) (hn : n < 9223372036854775808) (hl : l.length < 1000) : Does Tryz.prog 171 [.pointer (some ⟨b, 0, none⟩), .int .i64 n, .int .i64 k] [Wr b l] (fun v H => v = .tuple #[] ∧ H = [Wr b (l ++ putN n k)]) := by
  have hw := wNumber_does b n k l hk h (by omega) hl
  have ew : IntKind.u64.wrap (n : Int) = n := wrapU64 (by omega)
  refine does_of Tryz.func171 Tryz.ntmps171 rfl rfl rfl (fun w0 F0 => ?_)
  (repeat (first | refine g_region (h := ?_) | refine l_pures1 (h := ?_)))
  rw [ew]
  (repeat' (first | refine l_nil (h := ?_) | (refine l_atc ?_; refine l_call (hw) ?_)))
  refine r_endk [Wr b (l ++ putN n k)] ?_
  exact ⟨rfl, rfl⟩
/-- A reader has the bytes l yet. -/
abbrev Rd14 (b : Nat) (l : List UInt8) : SProp := cl b 161 [.string (str l), .bool false]
theorem rNumber_does (b n k : Nat) (r : List UInt8) (hk : 1 ≤ k ∧ k ≤ 8) (h : n < 256 ^ k) (hr : r.length < 1000) : Does Tryz.prog 105 [.pointer (some ⟨b, 0, none⟩), .int .i64 k] [Rd14 b (putN n k ++ r)] (fun v H => v = .int .u64 n ∧ H = [Rd14 b r]) := by
  have ht := Take_does (putN n k ++ r) k (by omega) (by simp [putN_length]; omega)
  rw [take_putN hk h] at ht
  have ht : Does Tryz.prog 136 [.string (str (putN n k ++ r)), .int .i64 k] [] (fun v H => v = .tuple #[.int .u64 n, .string (str r), .int .i64 0] ∧ H = []) := ht
  refine does_of Tryz.func105 Tryz.ntmps105 rfl rfl rfl (fun w0 F0 => ?_)
  (repeat' (first | refine g_seq (h := ?_) | refine g_region (h := ?_) | refine l_nil (h := ?_) | refine n_then (h := ?_) | refine l_pures1 (h := ?_) | (refine l_atc ?_; refine l_call (ht) ?_) | refine l_guard_yes (h := ?_) | refine l_load (h := ?_) | refine l_store (h := ?_) | refine g_ret (h := ?_)))
  refine r_ret ?_
  exact ⟨rfl, rfl⟩
theorem rSmall_does (b n k : Nat) (r : List UInt8) (hk : 1 ≤ k ∧ k ≤ 8) (h : n < 256 ^ k) (hn : n < 9223372036854775808) (hr : r.length < 1000) : Does Tryz.prog 104 [.pointer (some ⟨b, 0, none⟩), .int .i64 k] [Rd14 b (putN n k ++ r)] (fun v H => v = .int .i64 n ∧ H = [Rd14 b r]) := by
  have hw := rNumber_does b n k r hk h hr
  have ew : IntKind.i64.wrap (n : Int) = n := wrapI64 (by omega)
  refine does_of Tryz.func104 Tryz.ntmps104 rfl rfl rfl (fun w0 F0 => ?_)
  (repeat' (first | refine g_seq (h := ?_) | refine g_region (h := ?_) | refine l_nil (h := ?_) | refine n_then (h := ?_) | refine l_pures1 (h := ?_) | (refine l_atc ?_; refine l_call (hw) ?_) | refine g_ret (h := ?_)))
  refine r_retk [Rd14 b r] ?_
  exact ⟨by rw [ew]; rfl, rfl⟩

set_option maxHeartbeats 2000000 in
theorem writeSlot_does (id : Nat) (s : Sl) (hid : 1 ≤ id ∧ id ≤ 200) (ok : s.ok) : Does Tryz.prog 137 [.iface 165 (.agg (slA id s))] [] (fun v H => v = .tuple #[.string (str s.text), .int .i64 0] ∧ H = []) := by
  have hr := slRight_does id s hid ok
  obtain ⟨o1, o2, o3, o4, o5⟩ := ok
  have hl1 := putN_length 3 s.cap
  have hl2 := putN_length 1 s.epoch
  refine does_of Tryz.func137 Tryz.ntmps137 rfl rfl rfl (fun w0 F0 => ?_)
  (repeat (first | refine g_seq (h := ?_) | refine g_region (h := ?_) | refine l_nil (h := ?_) | refine n_then (h := ?_) | refine l_pures1 (h := ?_) | refine l_invoke (hr) ?_ | refine l_load (h := ?_) | refine l_store (h := ?_) | (refine l_box (h := ?_); intro _) | (refine l_alloc (h := ?_); intro _) | refine g_skip (h := ?_) | refine g_block (h := ?_) | refine g_cond_t (h := ?_) | refine g_cond_f (h := ?_) | refine l_assert (h := ?_)))
  rename_i b b2
  have h1 : Does Tryz.prog 171 [.pointer (some ⟨b, 0, none⟩), .int .i64 s.cap, .int .i64 3] [cl b 260 [.string { data := #[] }]] (fun v H => v = .tuple #[] ∧ H = [Wr b ([] ++ putN s.cap 3)]) := wSmall_does b s.cap 3 [] (by omega) (by omega) (by omega) (by simp)
  have h2 : Does Tryz.prog 171 [.pointer (some ⟨b, 0, none⟩), .int .i64 s.epoch, .int .i64 1] [Wr b ([] ++ putN s.cap 3)] (fun v H => v = .tuple #[] ∧ H = [Wr b (([] ++ putN s.cap 3) ++ putN s.epoch 1)]) := wSmall_does b s.epoch 1 _ (by omega) (by omega) (by omega) (by simp; omega)
  have h3 : Does Tryz.prog 173 [.pointer (some ⟨b, 0, none⟩), .int .u64 s.nonce, .int .i64 8] [Wr b (([] ++ putN s.cap 3) ++ putN s.epoch 1)] (fun v H => v = .tuple #[] ∧ H = [Wr b ((([] ++ putN s.cap 3) ++ putN s.epoch 1) ++ putN s.nonce 8)]) := wNumber_does b s.nonce 8 _ (by omega) (by omega) (by omega) (by simp; omega)
  refine l_inv (H' := [cl b2 165 [.int .i64 id, .int .i64 s.cap, .int .i64 s.epoch, .int .u64 s.nonce], cl b 260 [.string { data := #[] }]]) (fun i => i) ?_
  (repeat' (first | refine g_seq (h := ?_) | refine g_region (h := ?_) | refine l_nil (h := ?_) | refine n_then (h := ?_) | refine l_pures1 (h := ?_) | (refine l_atc ?_; refine l_call (h1) ?_) | (refine l_atc ?_; refine l_call (h2) ?_) | (refine l_atc ?_; refine l_call (h3) ?_) | refine l_load (h := ?_) | refine g_ret (h := ?_) | refine n_block (h := ?_)))
  refine r_retk [] ?_
  exact ⟨by simp [packV, Sl.text], rfl⟩
theorem again_does (id : Nat) (s : Sl) (hid : 1 ≤ id ∧ id ≤ 200) (ok : s.ok) : Does Tryz.prog 106 [.iface 165 (.agg (slA id s)), .string (str s.text)] [] (fun v H => v = .bool true ∧ H = []) := by
  have hw := writeSlot_does id s hid ok
  refine does_of Tryz.func106 Tryz.ntmps106 rfl rfl rfl (fun w0 F0 => ?_)
  (repeat' (first | refine g_seq (h := ?_) | refine g_region (h := ?_) | refine l_nil (h := ?_) | refine n_then (h := ?_) | refine l_pures1 (h := ?_) | (refine l_atc ?_; refine l_call (hw) ?_) | refine l_guard_yes (h := ?_) | refine g_ret (h := ?_)))
  refine r_retk [] ?_
  exact ⟨by simp [packV], rfl⟩
theorem putSlot_does (id : Nat) (s : Sl) (hid : 1 ≤ id ∧ id ≤ 200) (ok : s.ok) : Does Tryz.prog 102 [.agg (slA id s)] [] (fun v H => v = .tuple #[.string (str s.text), .int .i64 0] ∧ H = []) := by
  have hw := writeSlot_does id s hid ok
  refine does_of Tryz.func102 Tryz.ntmps102 rfl rfl rfl (fun w0 F0 => ?_)
  (repeat' (first | refine g_seq (h := ?_) | refine g_region (h := ?_) | refine l_nil (h := ?_) | refine n_then (h := ?_) | refine l_pures1 (h := ?_) | (refine l_atc ?_; refine l_call (hw) ?_) | refine l_load (h := ?_) | (refine l_box (h := ?_); intro _) | refine g_ret (h := ?_)))
  refine r_retk [] ?_
  exact ⟨rfl, rfl⟩
set_option maxHeartbeats 2000000 in
theorem takeSlot_does (id : Nat) (s : Sl) (hid : 1 ≤ id ∧ id ≤ 200) (ok : s.ok) : Does Tryz.prog 59 [.int .i64 id, .string (str s.text)] [] (fun v H => v = .tuple #[.agg (slA id s), .int .i64 0] ∧ H = []) := by
  have hag := again_does id s hid ok
  obtain ⟨o1, o2, o3, o4, o5⟩ := ok
  have hl1 := putN_length 8 s.nonce
  have hl2 := putN_length 1 s.epoch
  refine does_of Tryz.func59 Tryz.ntmps59 rfl rfl rfl (fun w0 F0 => ?_)
  (repeat (first | refine g_seq (h := ?_) | refine g_region (h := ?_) | refine l_nil (h := ?_) | refine n_then (h := ?_) | refine l_pures1 (h := ?_) | (refine l_box (h := ?_); intro _) | (refine l_alloc (h := ?_); intro _)))
  rename_i b4 b
  have h1 : Does Tryz.prog 104 [.pointer (some ⟨b, 0, none⟩), .int .i64 3] [Rd14 b s.text] (fun v H => v = .int .i64 s.cap ∧ H = [Rd14 b (putN s.epoch 1 ++ putN s.nonce 8)]) := rSmall_does b s.cap 3 (putN s.epoch 1 ++ putN s.nonce 8) (by omega) (by omega) (by omega) (by simp; omega)
  have h2 : Does Tryz.prog 104 [.pointer (some ⟨b, 0, none⟩), .int .i64 1] [Rd14 b (putN s.epoch 1 ++ putN s.nonce 8)] (fun v H => v = .int .i64 s.epoch ∧ H = [Rd14 b (putN s.nonce 8)]) := rSmall_does b s.epoch 1 (putN s.nonce 8) (by omega) (by omega) (by omega) (by omega)
  have h3 : Does Tryz.prog 105 [.pointer (some ⟨b, 0, none⟩), .int .i64 8] [Rd14 b (putN s.nonce 8)] (fun v H => v = .int .u64 s.nonce ∧ H = [Rd14 b []]) := by
    have := rNumber_does b s.nonce 8 [] (by omega) (by omega) (by simp)
    rw [List.append_nil] at this
    exact this
  (repeat' (first | refine g_seq (h := ?_) | refine g_region (h := ?_) | refine l_nil (h := ?_) | refine n_then (h := ?_) | refine l_pures1 (h := ?_) | (refine l_atc ?_; refine l_call (h1) ?_) | (refine l_atc ?_; refine l_call (h2) ?_) | (refine l_atc ?_; refine l_call (h3) ?_) | (refine l_atc ?_; refine l_call (hag) ?_) | refine l_guard_yes (h := ?_) | refine l_load (h := ?_) | refine l_store (h := ?_) | (refine l_alloc (h := ?_); intro _) | refine g_skip (h := ?_) | refine g_ret (h := ?_) | refine g_cond_f (h := ?_)))
  refine r_retk [] ?_
  exact ⟨rfl, rfl⟩
end Go.Proofs.YtmfmommgooccnaaGreat
/- Package space: what a key is made of. -/
set_option maxRecDepth 20000
set_option linter.unusedVariables false
set_option linter.unusedSimpArgs false
namespace Go.Proofs.YtmfmommgooccnaaGreat
open Go.Proofs.YtmfmommgooccnaaGreat.SL

theorem First_does (k : Nat) (hk : k < 16) : Does Tryz.prog 139 [.int .i64 k] [] (fun v H => v = .int .u64 (kyN k 0 0 : Nat) ∧ H = []) := by
  have hK : Does Tryz.prog 103 [.int .i64 k, .int .i64 0, .int .i64 0] [] (fun v H => v = .tuple #[.int .u64 (kyN k 0 0 : Nat), .bool true] ∧ H = []) := Key_does k 0 0 hk (by omega) (by omega)
  refine does_of Tryz.func139 Tryz.ntmps139 rfl rfl rfl (fun w0 F0 => ?_)
  (repeat' (first | refine g_seq (h := ?_) | refine g_region (h := ?_) | refine l_nil (h := ?_) | refine n_then (h := ?_) | refine l_pures1 (h := ?_) | (refine l_atc ?_; refine l_call (hK) ?_) | refine g_ret (h := ?_)))
  refine r_ret ?_
  exact ⟨rfl, rfl⟩
theorem Next_does (x : Nat) (hx : x + 1 < 18446744073709551616) : Does Tryz.prog 130 [.int .u64 x] [] (fun v H => v = .tuple #[.int .u64 (x + 1 : Nat), .bool true] ∧ H = []) := by
  have ew : IntKind.u64.wrap ((x : Int) + 1) = ((x + 1 : Nat) : Int) := by rw [wrapU64 (by omega)]; omega
  refine does_of Tryz.func130 Tryz.ntmps130 rfl rfl rfl (fun w0 F0 => ?_)
  (repeat' (first | refine g_seq (h := ?_) | refine g_region (h := ?_) | refine l_nil (h := ?_) | refine n_then (h := ?_) | refine l_pures1 (h := ?_) | refine g_ret (h := ?_)))
  refine r_ret ?_
  refine ⟨?_, rfl⟩
  rw [ew]
  have e : (((x + 1 : Nat) : Int) != 0) = true := by simp; omega
  rw [e]
  rfl
theorem Split_does (k a b : Nat) (hk : k < 16) (ha : a ≤ 268435455) (hb : b < 4294967296) : Does Tryz.prog 129 [.int .u64 (kyN k a b : Nat)] [] (fun v H => v = .tuple #[.int .i64 k, .int .i64 a, .int .i64 b] ∧ H = []) := by
  refine does_of Tryz.func129 Tryz.ntmps129 rfl rfl rfl (fun w0 F0 => ?_)
  (repeat' (first | refine g_seq (h := ?_) | refine g_region (h := ?_) | refine l_nil (h := ?_) | refine n_then (h := ?_) | refine l_pures1 (h := ?_) | refine l_shr (h := ?_) | refine g_ret (h := ?_)))
  refine r_ret ?_
  refine ⟨?_, rfl⟩
  have p60 : (2 : Int) ^ min (Int.toNat 60) IntKind.u64.bits = 1152921504606846976 := by decide
  have p32 : (2 : Int) ^ min (Int.toNat 32) IntKind.u64.bits = 4294967296 := by decide
  have h1 : ((kyN k a b : Nat) : Int) / 1152921504606846976 = k := by unfold kyN; omega
  have h2 : ((kyN k a b : Nat) : Int) / 4294967296 = ((k * 268435456 + a : Nat) : Int) := by unfold kyN; omega
  have h3 : IntKind.u32.wrap ((kyN k a b : Nat) : Int) = b := by
    have : IntKind.u32.wrap ((kyN k a b : Nat) : Int) = ((kyN k a b : Nat) : Int) % 4294967296 := by simp [IntKind.wrap, IntKind.bits, IntKind.signed]
    rw [this]; unfold kyN; omega
  have h4 : bits BinOp.and IntKind.i64 ((k * 268435456 + a : Nat) : Int) 268435455 = a := by
    have := bits_and (k := .i64) (a := k * 268435456 + a) (b := 268435455) (by simp [IntKind.bits]; omega) (by simp [IntKind.bits])
    have e : ((268435455 : Nat) : Int) = 268435455 := rfl
    rw [e] at this
    rw [this]
    have e2 : (k * 268435456 + a) &&& 268435455 = a := by
      have := Nat.and_two_pow_sub_one_eq_mod (k * 268435456 + a) 28
      have e3 : 2 ^ 28 - 1 = 268435455 := rfl
      rw [e3] at this
      rw [this]; omega
    rw [e2, wrapI64 (by omega)]
  rw [p60, p32, Int.fdiv_eq_ediv_of_nonneg _ (by omega), Int.fdiv_eq_ediv_of_nonneg _ (by omega), h1, h2, h3, wrapI64 (n := (k : Int)) (by omega), wrapI64 (n := ((k * 268435456 + a : Nat) : Int)) (by omega), h4, wrapI64 (by omega)]
  rfl
end Go.Proofs.YtmfmommgooccnaaGreat
/- Package tree: from of a whole tree. -/
set_option maxRecDepth 20000
set_option linter.unusedVariables false
set_option linter.unusedSimpArgs false
namespace Go.Proofs.YtmfmommgooccnaaGreat
open Go.Proofs.YtmfmommgooccnaaGreat.SL

theorem sepL_lt {x : Nat} : ∀ {kl : List Nat} {sl : List Sub}, SepL kl sl → (∀ k ∈ kl, k ≤ x) → ∀ e ∈ Sub.all sl, e.1 < x
  | [], [], _, _, e, he => by simp [Sub.all] at he
  | k :: kl, s :: sl, ⟨h1, h2, h3⟩, hk, e, he => by
    rw [Sub.all_cons, List.mem_append] at he
    rcases he with he | he
    · have := h1 e he
      have := hk k (by simp)
      omega
    · exact sepL_lt h3 (fun k hk' => hk k (by simp [hk'])) e he
theorem geE_none {es : List Ent} {x : Nat} (h : ∀ e ∈ es, e.1 < x) : geE es x = [] := by
  refine List.filter_eq_nil_iff.2 fun e he => ?_
  have := h e he
  simp; omega
theorem all2_get {α β : Type} {R : α → β → Prop} : ∀ {l : List α} {m : List β} {i : Nat} {a : α}, All2 R l m → l[i]? = some a → ∃ b, m[i]? = some b ∧ R a b
  | [], [], i, a, _, h => by simp at h
  | x :: l, y :: m, 0, a, q, h => by simp only [List.getElem?_cons_zero, Option.some.injEq] at h ⊢; subst h; exact ⟨y, rfl, q.1⟩
  | x :: l, y :: m, i + 1, a, q, h => by simp only [List.getElem?_cons_succ] at h ⊢; exact all2_get q.2 h

set_option maxHeartbeats 4000000 in
theorem from_does (b sb db x N l : Nat) (C X : List Ent → SProp) (stop : List Ent → Bool) (hY : ∀ dn e, dn.length < 100000 → SL.Yields Tryz.prog l [entV e] [C dn] (fun v H => v = .bool (!stop (dn ++ [e])) ∧ H = [if stop (dn ++ [e]) then X (dn ++ [e]) else C (dn ++ [e])]))
    {S : Sh} {D : Dk} {U : List Int} (k : Fine N S D U) : ∀ (h : Nat) (d : Nd) (es : List Ent) (ps : List Int) (deep : Nat) (pg read : Int) (dn : List Ent), NT (Gd N D) h d es ps → d.good → (d.leaf = false → d.keys ≠ []) → Gd N D pg d → deep + h ≤ 10 → 0 ≤ read → read + ps.length + 1 ≤ 640 → dn.length + es.length ≤ 100000 →
    Does Tryz.prog 164 [.pointer (some ⟨b, 0, none⟩), .int .i64 pg, .int .i64 deep, .int .u64 x, .func (.yield l) #[] #[]] [C dn, Wk b sb read 0, Store sb db S, Disk db D]
      (fun v H => ∃ rd : Int, 0 ≤ rd ∧ rd ≤ read + ps.length + 1 ∧ v = .bool (!(feed stop dn (geE es x)).2) ∧ H = [fedP C X (feed stop dn (geE es x)), Wk b sb rd 0, Store sb db S, Disk db D])
  | 0, d, es, ps, deep, pg, read, dn, n, hd, hne, hg, hdp, hr0, hrd, hdl => by
    obtain ⟨hlf, hp, rfl, rfl⟩ := n
    refine (from_leaf b sb db x N l C X stop hY deep pg read S D d hd hlf (by rw [k.read hg.1, hg.2]) (by simp at hrd; omega) (by omega) dn hdl).mono ?_
    rintro v H ⟨rfl, rfl⟩
    exact ⟨read + 1, by omega, by simp, rfl, rfl⟩
  | hh + 1, d, es, ps, deep, pg, read, dn, n, hd, hne, hg, hdp, hr0, hrd, hdl => by
    have hlf := n.1
    obtain ⟨_, _, ss, f, e, e2, sp⟩ := n
    subst e e2
    have hlen := sp.len
    have hkl := kidsLen hd.p hlf
    obtain ⟨c1', c2', c3'⟩ := cntN_spec (x := x) hd.p.rise
    obtain ⟨i0, hi0⟩ : ∃ i0, i0 = cntN d.keys x := ⟨_, rfl⟩
    rw [← hi0] at c1' c2' c3'
    have hn := wNode_does b sb db deep pg read S D d hd (by rw [k.read hg.1, hg.2]) (by omega) (by omega)
    have hF := fun r => Find_does d r x hd.fits hd.p.rise
    simp only [hlf, Bool.false_eq_true, if_false, ← hi0] at hF
    have hfk := hd.fits.k
    have h0 : geE (Sub.all (ss.take i0)) x = [] := by
      refine geE_none (sepL_lt (kl := d.keys.take i0) (sl := ss.take i0) ?_ c2')
      have := (sep_app (kl := d.keys.take i0) (kr := d.keys.drop i0) (sl := ss.take i0) (sr := ss.drop i0) (by simp; omega)).1 (by rw [List.take_append_drop, List.take_append_drop]; exact sp)
      exact this.1
    have hall : geE (Sub.all ss) x = geE (Sub.all (ss.drop i0)) x := by
      have : Sub.all ss = Sub.all (ss.take i0) ++ Sub.all (ss.drop i0) := by rw [← Sub.all_append, List.take_append_drop]
      rw [this, geE_append, h0, List.nil_append]
    have hpl : (Sub.pages (ss.drop i0)).length ≤ (Sub.pages ss).length := by
      have : Sub.pages ss = Sub.pages (ss.take i0) ++ Sub.pages (ss.drop i0) := by rw [← Sub.pages_append, List.take_append_drop]
      rw [this, List.length_append]; omega
    have hal : (Sub.all (ss.drop i0)).length ≤ (Sub.all ss).length := by
      have : Sub.all ss = Sub.all (ss.take i0) ++ Sub.all (ss.drop i0) := by rw [← Sub.all_append, List.take_append_drop]
      rw [this, List.length_append]; omega
    refine does_of Tryz.func164 Tryz.ntmps164 rfl rfl rfl (fun w0 F0 => ?_)
    (repeat' (first | refine g_seq (h := ?_) | refine g_region (h := ?_) | refine l_nil (h := ?_) | refine n_then (h := ?_) | refine l_pures1 (h := ?_) | (refine l_atc ?_; refine l_call_ (hn) ?_; rintro _ _ _ ⟨r, rfl, rfl⟩ he; cases he) | (refine l_atc ?_; refine l_call (hF _) ?_) | refine l_load (h := ?_) | refine l_store (h := ?_) | (refine l_alloc (h := ?_); intro _) | refine g_skip (h := ?_) | refine g_block (h := ?_) | refine g_cond_f (h := ?_) | (refine g_sp (h1 := ?_) (h0 := ?_) <;> intro h)))
    rotate_left
    · exact absurd h (by rw [hlf]; simp)
    rename_i b11
    obtain ⟨p1, q1, p2, q2, p3, q3⟩ := r
    refine g_open (A := Nds d ⟨p1, q1, p2, q2, p3, q3⟩) (h := ?_); (rintro _ _; dsimp only [NdsK, List.cons_append, List.nil_append])
    refine g_ptr (m := d.kids.length) (h := ?_); rintro g3 rfl hc3
    (refine g_loop (fun y : Nat × List Ent × Int => [(12, .int .i64 y.1), (11, .pointer (some ⟨b11, 0, none⟩)), (4, .func (.yield l) #[] #[]), (3, .int .u64 x), (2, .int .i64 deep), (0, .pointer (some ⟨b, 0, none⟩))]) (fun y => [C y.2.1, vec 3 1 (some ⟨g3, 0, none⟩) d.kids.length q3 (d.kids.map encZ'), cl b11 176 [.bool d.leaf, .slice p1 d.keys.length q1, .slice p2 d.vals.length q2, .slice (some ⟨g3, 0, none⟩) d.kids.length q3], Wk b sb y.2.2 0, Store sb db S, Disk db D]) (fun y => y.1 ≤ d.kids.length ∧ feed stop dn (geE (Sub.all ss) x) = feed stop y.2.1 (geE (Sub.all (ss.drop y.1)) x) ∧ 0 ≤ y.2.2 ∧ y.2.2 + (Sub.pages (ss.drop y.1)).length ≤ read + 1 + (Sub.pages ss).length ∧ y.2.1.length + (Sub.all (ss.drop y.1)).length ≤ 100000) (fun y => d.kids.length - y.1) ((i0, dn, read + 1)) ?_ ?_ ?_ ?_; rotate_left; (repeat (first | refine ts_nil | (refine ts_cons rfl ?_ ?_; first | (with_reducible rfl) | rotate_left))); (first | (intro _ i; with_reducible refine i) | rotate_left); rotate_left; (try omega); rotate_right)
    · rintro ⟨j, dn', rd⟩ ⟨hj, hf, hr1, hr2, hr3⟩
      dsimp only at hj hf hr1 hr2 hr3 ⊢
      by_cases hjl : j < d.kids.length
      · have hgk := iGet (l := d.kids) (k := j) hjl
        obtain ⟨s, hs, d', ps', a1, a2, a3, a4, a5⟩ := all2_get f (List.getElem?_eq_getElem hjl)
        have hkid : d.kids.getD j 0 = d.kids[j] := by simp [List.getD, hjl]
        have hdr : ss.drop j = s :: ss.drop (j + 1) := by
          have hjs : j < ss.length := (List.getElem?_eq_some_iff.1 hs).1
          rw [List.drop_eq_getElem_cons hjs]
          congr 1
          rw [List.getElem?_eq_getElem hjs] at hs
          exact Option.some.inj hs
        rw [hdr, Sub.pages_cons, List.length_append, a5, List.length_cons] at hr2
        rw [hdr, Sub.all_cons, List.length_append] at hr3
        have hfl := feed_len stop (geE s.es x) dn'
        have hgl : (geE s.es x).length ≤ s.es.length := List.length_filter_le _ _
        have ih := from_does b sb db x N l C X stop hY k hh d' s.es ps' (deep + 1) d.kids[j] rd dn' a4 a2 a3 a1 (by omega) hr1 (by omega) (by omega)
        have ew : IntKind.i64.wrap ((deep : Int) + 1) = ((deep + 1 : Nat) : Int) := by rw [wrapI64 (by omega)]; rfl
        rw [← ew, ← hkid] at ih
        have hfs : feed stop dn (geE (Sub.all ss) x) = if (feed stop dn' (geE s.es x)).2 then feed stop dn' (geE s.es x) else feed stop (feed stop dn' (geE s.es x)).1 (geE (Sub.all (ss.drop (j + 1))) x) := by
          rw [hf, hdr, Sub.all_cons, geE_append, feed_append]
        obtain ⟨⟨dn2, st⟩, hfd⟩ : ∃ r, feed stop dn' (geE s.es x) = r := ⟨_, rfl⟩
        rw [hfd] at ih hfs hfl
        dsimp only at hfl
        cases st
        · simp only [fedP, Bool.false_eq_true, if_false, Bool.not_false] at ih hfs
          (repeat' (first | refine g_seq (h := ?_) | refine g_region (h := ?_) | refine l_nil (h := ?_) | refine n_then (h := ?_) | refine l_pures1 (h := ?_) | (refine l_atc ?_; refine l_call_ (ih) ?_; rintro _ _ _ ⟨rd2, v1, v2, rfl, rfl⟩ he; cases he) | refine l_load (h := ?_) | refine l_indexAddr (h := ?_) | refine g_skip (h := ?_) | refine g_block (h := ?_) | refine n_block (h := ?_) | refine g_cond_f (h := ?_) | refine l_load_vec (h := ?_) | (refine g_spT (h := ?_); intro h)))
          (refine n_back ((j + 1, dn2, rd2)) ?_ ?_ ?_ ?_; rotate_left; rotate_left; (repeat (first | refine ts_nil | (refine ts_cons rfl ?_ ?_; first | (with_reducible rfl) | rotate_left))); (first | (intro _ i; with_reducible refine i) | rotate_left); (try omega); (try omega))
          · exact ⟨hjl, by rw [hfs], v1, by dsimp only; omega, by dsimp only; omega⟩
          · dsimp only; omega
          · rw [wrapI64 (by omega)] <;> rfl
          · skip
            (intro _ i; exact inv_keep parts_of i)
        · simp only [fedP, if_true, Bool.not_true] at ih hfs
          (repeat' (first | refine g_seq (h := ?_) | refine g_region (h := ?_) | refine l_nil (h := ?_) | refine n_then (h := ?_) | refine l_pures1 (h := ?_) | (refine l_atc ?_; refine l_call_ (ih) ?_; rintro _ _ _ ⟨rd2, v1, v2, rfl, rfl⟩ he; cases he) | refine l_load (h := ?_) | refine l_indexAddr (h := ?_) | refine g_skip (h := ?_) | refine g_ret (h := ?_) | refine n_then_ret (h := ?_) | refine n_block_ret (h := ?_) | refine g_block (h := ?_) | refine g_cond_t (h := ?_) | refine l_load_vec (h := ?_) | (refine g_spT (h := ?_); intro h)))
          refine r_retk [X dn2, Wk b sb rd2 0, Store sb db S, Disk db D] ?_
          rw [hfs]
          exact ⟨rd2, v1, by omega, rfl, rfl⟩
      · have hfs : feed stop dn (geE (Sub.all ss) x) = (dn', false) := by rw [hf, List.drop_eq_nil_of_le (by omega)]; rfl
        (repeat' (first | refine g_seq (h := ?_) | refine g_region (h := ?_) | refine l_nil (h := ?_) | refine n_then (h := ?_) | refine l_pures1 (h := ?_) | refine l_load (h := ?_) | refine g_ret (h := ?_) | refine n_then_ret (h := ?_) | refine g_exit (h := ?_) | refine n_then_exit (h := ?_) | refine n_block_hit (h := ?_) | (refine g_spF (h := ?_); intro h)))
        refine r_retk [C dn', Wk b sb rd 0, Store sb db S, Disk db D] ?_
        rw [hfs]
        exact ⟨rd, hr1, by omega, rfl, rfl⟩
    · exact ⟨by dsimp only; omega, hall ▸ rfl, by dsimp only; omega, by dsimp only; omega, by dsimp only; omega⟩
    · intro _ i
      exact inv_keep parts_of i
end Go.Proofs.YtmfmommgooccnaaGreat

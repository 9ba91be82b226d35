/- Texts TrDd, TrDe, TrDf, TrDg, TrDh, TlG, SlR, TrSa, TrSb, TrSc, TlD, SlS, TrGa, TrGb, TrGc, TrGd, joined. -/
import Derived.Test.YtpbibhhjbigdhaaGreatK09
/- Package tree: a round of Delete. -/
set_option maxRecDepth 20000
set_option linter.unusedVariables false
set_option linter.unusedSimpArgs false
namespace Go.Proofs.YtpbibhhjbigdhaaGreat
open Go.Proofs.YtpbibhhjbigdhaaGreat.SL

theorem HandD.lay {N : Nat} {U : List Int} {T : List Ent} {S : Sh} {D : Dk} {s : Spot} {up : List Spot} {pg : Int} {n : Nd} {h : Nat} {Lf Rt es : List Ent} {ps qs : List Int} (k : HandD N U T S D (s :: up) pg n h Lf Rt es ps qs) (hz : 80 ≤ n.size) (room : U.length + S.fresh.length + 2 < N) :
    ∃ (m : Int) (S' : Sh) (D' : Dk) (Lf' Rt' es' : List Ent) (ps' qs' : List Int),
      (∀ b sb db read r, Does Tryz.prog 35 [.pointer (some ⟨b, 0, none⟩), .int .i64 pg, ndV n r] [Wk b sb read 0, Store sb db S, Disk db D, Nds n r] (fun v H => v = .int .i64 m ∧ H = [Wk b sb read 0, Store sb db S', Disk db D', Nds n r])) ∧
      HandD N U T S' D' up s.pg { s.d with kids := s.d.kids.set s.i m } (h + 1) Lf' Rt' es' ps' qs' ∧ S'.fresh.length ≤ S.fresh.length + 1 ∧ S'.gen = S.gen ∧ Same U S D S' D' := by
  have hne : n.keys ≠ [] := by
    intro e
    have hp := k.nt.plain
    cases hl : n.leaf
    · have : n.size = 1 + 2 * n.kids.length := by simp [Nd.size, hl, e]
      have := kidsLen hp hl
      rw [e] at this
      simp at this
      omega
    · have hv := valsLen hp hl
      rw [e] at hv
      have hv2 : n.vals = [] := List.length_eq_zero_iff.1 (by simpa using hv)
      have : n.size = 1 := by simp [Nd.size, hl, e, hv2, sumL]
      omega
  have hgood : n.good := ⟨k.nt.plain, fun _ => List.length_pos_iff.2 hne, k.size⟩
  obtain ⟨m, S', D', c1, c2, c3, c4, c5, c6, c7, c8, c9, c10⟩ := lay_ok k.fine k.pages room hgood
  have K : Hand N U T S D (s :: up) pg n h Lf Rt es ps qs := ⟨k.fine, k.way, k.nt, k.pages, k.fit, k.all, hne⟩
  obtain ⟨Lf', Rt', es', ps', qs', k', v1, v2, v3⟩ := Hand.up K k.size c2 c3 c4 c6
  have hsz : Nd.size { s.d with kids := s.d.kids.set s.i m } = s.d.size := by simp only [Nd.size, List.length_set]
  exact ⟨m, S', D', Lf', Rt', es', ps', qs', c1, ⟨k'.fine, k'.way, k'.nt, k'.pages, k'.fit, k'.all, by rw [hsz]; exact v1.size, k.link.2⟩, c8, c9, c10⟩

theorem HandD.even {N : Nat} {U : List Int} {T : List Ent} {S : Sh} {D : Dk} {s : Spot} {up : List Spot} {pg : Int} {n : Nd} {h : Nat} {Lf Rt es : List Ent} {ps qs : List Int} (k : HandD N U T S D (s :: up) pg n h Lf Rt es ps qs) (hz : n.size < 80) (room : U.length + S.fresh.length + 4 < N)
    (b sb db deep : Nat) (r rn : Rw) (read : Int) (h1 : 0 ≤ read ∧ read < 640) (h2 : deep + 1 ≤ 10) :
    Does Tryz.prog 38 [.pointer (some ⟨b, 0, none⟩), .agg #[.int .i64 s.pg, .bool s.d.leaf, .slice r.p1 s.d.keys.length r.c1, .slice r.p2 s.d.vals.length r.c2, .slice r.p3 s.d.kids.length r.c3, .int .i64 s.i], ndV n rn, .int .i64 deep] [Nds s.d r, Nds n rn, Wk b sb read 0, Store sb db S, Disk db D]
      (fun v H => ∃ (n' : Nd) (r' : Rw) (S' : Sh) (D' : Dk), v = ndV n' r' ∧ H = [Nds n' r', Wk b sb (read + 1) 0, Store sb db S', Disk db D'] ∧ (∃ Lf' Rt' es' ps' qs', HandD N U T S' D' up s.pg n' (h + 1) Lf' Rt' es' ps' qs') ∧ S'.fresh.length ≤ S.fresh.length + 2 ∧ S'.gen = S.gen ∧ Same U S D S' D') := by
  obtain ⟨bd, sl, sr, L', R', es', ps', q0, p⟩ := k.pair hz
  have hN := k.fine.n
  have hs : s.d.good := p.two.good
  have hsl : s.d.leaf = false := p.two.leaf
  have hkl := kidsLen hs.p hsl
  have hi : s.i ≤ s.d.keys.length := by
    obtain ⟨_, _, _, _, _, _, _, mid, _⟩ := k.way
    exact mid.ile
  have hkk : s.d.keys ≠ [] := by intro e; have := p.jlt; rw [e] at this; simp at this
  have hrb : S.read D (s.d.kids.getD (othN s.i) 0) = ((2, bd.text, 0), S) := by rw [k.fine.read p.go.1, p.go.2]
  have hnf : n.fits := k.nt.plain.fits (by have := k.size; omega)
  have hxf : (fstN s.i bd n).fits := by unfold fstN; split; exact hnf; exact p.gb.fits
  have hyf : (sndN s.i bd n).fits := by unfold sndN; split; exact p.gb.fits; exact hnf
  have hlf2 : (sndN s.i bd n).leaf = (fstN s.i bd n).leaf := by unfold sndN fstN; split; exact p.lf; exact p.lf.symm
  obtain ⟨al, hal⟩ : ∃ al, (fstN s.i bd n).both (s.d.keys.getD (lefN s.i) 0) (sndN s.i bd n) = al := ⟨_, rfl⟩
  have pnt := p.nt
  have psz := p.sz
  have pne := p.ne
  rw [hal] at pnt psz pne
  have haf : al.fits := pnt.plain.fits (by omega)
  have hjl := p.jlt
  have hkb : ∀ q, q < s.d.kids.length → -9223372036854775808 ≤ s.d.kids.getD q 0 ∧ s.d.kids.getD q 0 < 9223372036854775808 := fun q hq => by
    have := hs.p.kid _ (getD_mem (z := 0) hq)
    omega
  by_cases hz2 : al.size ≤ 240
  · have hgood : al.good := ⟨pnt.plain, fun _ => List.length_pos_iff.2 pne, hz2⟩
    obtain ⟨m, S1, D1, c1, c2, c3, c4, c5, c6, c7, c8, c9, c10⟩ := lay_ok k.fine p.pages (by omega) hgood
    obtain ⟨S2, g1, g2, g3, g4, g5, g6⟩ := give_ok (pg := s.d.kids.getD (lefN s.i + 1) 0) (rest := m :: (ps' ++ (s.pg :: (Sub.pages sl ++ (Sub.pages sr ++ q0))))) c2 ((List.Perm.swap _ _ _).trans c6)
    have ck : ∀ q ∈ ps' ++ (s.pg :: (Sub.pages sl ++ (Sub.pages sr ++ q0))), ∀ dd, Gd N D q dd → Gd N D1 q dd := fun q hq dd gd => gd.keep (c4 q (List.mem_cons_of_mem _ hq))
    refine (even_head b sb db deep s.i s.pg s.d n bd r rn read S D _ hs hsl hi hkk p.gb p.lf hrb h1 h2 (fun w0 F0 b5 b8 b12 b13 r rx ry => even_merge b sb db s.i (lefN s.i) s.pg s.d (fstN s.i bd n) (sndN s.i bd n) (read + 1) m S S1 S2 D D1 hs hsl hjl hxf hyf hlf2 (by rw [hal]; exact haf) (by rw [hal]; exact hz2) (fun r => by rw [hal]; exact c1 b sb db (read + 1) r) g1 (hkb _ (by omega)) w0 F0 b5 b8 b12 b13 r rx ry)).mono ?_
    rintro v H ⟨r', rfl, rfl⟩
    have o : OnP (Gd N D1) h m ⟨es', m :: ps'⟩ := ⟨al, ps', c3, hgood, fun _ => pne, pnt.same (fun q hq => ck q (by simp [hq])), rfl⟩
    have hnt := merge p.two o (by have := c3.1; omega) p.f2 (fun q hq => ck q (by simp only [List.mem_append, List.mem_cons] at hq ⊢; exact .inr (.inr (hq.elim .inl fun z => .inr (.inl z)))))
    refine ⟨_, r', S2, D1, rfl, rfl, ⟨L', R', _, _, q0, ⟨g2, p.way.same (fun q hq => ck q (by simp [hq])), hnt, ?_, ?_, p.all, ?_, k.link.2⟩⟩, by omega, g5.trans c9, g6.trans c10⟩
    · refine List.Perm.trans ?_ g3
      refine List.perm_iff_count.2 fun a => ?_
      simp only [List.count_append, List.count_cons, List.cons_append]
      omega
    · intro e he
      simp only [List.mem_append] at he
      rcases he with he | he | he
      · exact p.fs e (by simp [he])
      · exact p.fp e he
      · exact p.fs e (by simp [he])
    · have h3 := hs.size
      have h4 : (Nd.unhang { s.d with kids := s.d.kids.set (lefN s.i) m } (lefN s.i)).size ≤ s.d.size := by
        have l1 := laid_len (l := s.d.keys) (p := lefN s.i) (g := 1) (m := []) (by omega)
        have l2 := laid_len (l := s.d.kids.set (lefN s.i) m) (p := lefN s.i + 1) (g := 1) (m := []) (by simp; omega)
        simp only [Nd.unhang, Nd.size, hsl, Bool.false_eq_true, if_false, l1, l2, List.length_set, List.length_nil]
        omega
      exact Nat.le_trans h4 h3
  · have hz3 : 240 < al.size := by omega
    obtain ⟨a1, a2, a3, a4, a5⟩ := at_spec pnt.plain hz3 psz
    obtain ⟨e1, p1, e2, p2, md, hmd, n1, n2, rfl, rfl, lt1, ge2, q1, q2⟩ := split_nt pnt a2 a3
    have hmd' : al.keys.getD al.at' 0 = md := by rw [List.getD, hmd]; rfl
    have hmm : md < 18446744073709551616 := pnt.plain.key md (List.mem_of_getElem? hmd)
    have gf : (al.front al.at').good := ⟨n1.plain, fun _ => List.length_pos_iff.2 q1, a4⟩
    have gb : (al.back al.at').good := ⟨n2.plain, fun _ => List.length_pos_iff.2 q2, a5⟩
    obtain ⟨m1, S1, D1, c1, c2, c3, c4, c5, c6, c7, c8, c9, c10⟩ := lay_ok k.fine p.pages (by omega) gf
    obtain ⟨m2, S2, D2, f1, f2, f3, f4, f5, f6, f7, f8, f9, f10⟩ := lay_ok (pg := s.d.kids.getD (lefN s.i + 1) 0) (rest := m1 :: (p1 ++ p2 ++ (s.pg :: (Sub.pages sl ++ (Sub.pages sr ++ q0))))) c2 ((List.Perm.swap _ _ _).trans c6) (by omega) gb
    have ck : ∀ q ∈ p1 ++ p2 ++ (s.pg :: (Sub.pages sl ++ (Sub.pages sr ++ q0))), ∀ dd, Gd N D q dd → Gd N D2 q dd := fun q hq dd gd => (gd.keep (c4 q (List.mem_cons_of_mem _ hq))).keep (f4 q (List.mem_cons_of_mem _ hq))
    refine (even_head b sb db deep s.i s.pg s.d n bd r rn read S D _ hs hsl hi hkk p.gb p.lf hrb h1 h2 (fun w0 F0 b5 b8 b12 b13 r rx ry => even_deal b sb db s.i (lefN s.i) s.pg s.d (fstN s.i bd n) (sndN s.i bd n) al (read + 1) m1 m2 S S1 S2 D D1 D2 hs hsl hjl hxf hyf hlf2 hal pnt.plain haf hz3 (by omega) a1 (fun r => c1 b sb db (read + 1) r) (fun r => f1 b sb db (read + 1) r) w0 F0 b5 b8 b12 b13 r rx ry)).mono ?_
    rintro v H ⟨r', rfl, rfl⟩
    rw [hmd']
    have o1 : OnP (Gd N D2) h m1 ⟨e1, m1 :: p1⟩ := ⟨_, p1, c3.keep (f4 m1 (by simp)), gf, fun _ => q1, n1.same (fun q hq => ck q (by simp [hq])), rfl⟩
    have o2 : OnP (Gd N D2) h m2 ⟨e2, m2 :: p2⟩ := ⟨_, p2, f3, gb, fun _ => q2, n2.same (fun q hq => ck q (by simp [hq])), rfl⟩
    have hnt := deal p.two o1 o2 (by have := c3.1; omega) (by have := f3.1; omega) hmm (fun x hx => ⟨p.f2 x (by simp [hx]), lt1 x hx⟩) (fun x hx => ⟨p.f2 x (by simp [hx]), ge2 x hx⟩) (fun q hq => ck q (by simp only [List.mem_append, List.mem_cons] at hq ⊢; exact .inr (.inr (hq.elim .inl fun z => .inr (.inl z)))))
    refine ⟨_, r', S2, D2, rfl, rfl, ⟨L', R', _, _, q0, ⟨f2, p.way.same (fun q hq => ck q (by simp [hq])), hnt, ?_, ?_, p.all, ?_, k.link.2⟩⟩, by omega, f9.trans c9, f10.trans c10⟩
    · refine List.Perm.trans ?_ f6
      refine List.perm_iff_count.2 fun a => ?_
      simp only [List.count_append, List.count_cons, List.cons_append]
      omega
    · intro e he
      simp only [List.mem_append] at he
      rcases he with he | (he | he) | he
      · exact p.fs e (by simp [he])
      · exact p.fp e (by simp [he])
      · exact p.fp e (by simp [he])
      · exact p.fs e (by simp [he])
    · have h3 := hs.size
      have h4 : Nd.size { s.d with keys := s.d.keys.set (lefN s.i) md, kids := (s.d.kids.set (lefN s.i) m1).set (lefN s.i + 1) m2 } = s.d.size := by
        simp only [Nd.size, hsl, Bool.false_eq_true, if_false, List.length_set]
      exact Nat.le_trans (Nat.le_of_eq h4) h3
end Go.Proofs.YtpbibhhjbigdhaaGreat
/- Package tree: Delete, behind its loop. -/
set_option maxRecDepth 20000
set_option linter.unusedVariables false
set_option linter.unusedSimpArgs false
namespace Go.Proofs.YtpbibhhjbigdhaaGreat
open Go.Proofs.YtpbibhhjbigdhaaGreat.SL

abbrev DelQ (N : Nat) (U : List Int) (T : List Ent) (S0 : Sh) (D0 : Dk) (sb db : Nat) (v : Value) (H : List SProp) : Prop :=
  ∃ (m : Int) (S' : Sh) (D' : Dk), v = .tuple #[.int .i64 m, .bool true, .int .i64 0] ∧ H = [Store sb db S', Disk db D'] ∧ IsTree N S' D' U m T ∧ Fine N S' D' U ∧ S'.gen = S0.gen ∧ Same U S0 D0 S' D'

set_option maxHeartbeats 4000000 in
theorem del_tail (b sb db b13 b15 N : Nat) (U : List Int) (T : List Ent) (S0 S : Sh) (D0 D : Dk) (xs : Sp) (n : Nd) (rn : Rw) (rd : Int) {h : Nat} {Lf Rt es : List Ent} {ps qs : List Int} (k : HandD N U T S D [] xs.pg n h Lf Rt es ps qs) (room : U.length + S.fresh.length + 2 < N) (hg : S.gen = S0.gen) (hr : Same U S0 D0 S D) (w0 : World) (F0 : Nat → Prop) :
    G Tryz.prog 158 w0 F0 (nav [1, 1, 1, 1, 1, 1, 1, 1, 1] (bdy Tryz.f14)) (Post Tryz.prog Tryz.f14 w0 F0 (DelQ N U T S0 D0 sb db))
      [(15, .pointer (some ⟨b15, 0, none⟩)), (13, .pointer (some ⟨b13, 0, none⟩)), (11, .pointer (some ⟨b, 0, none⟩)), (0, .pointer (some ⟨sb, 0, none⟩))] [] [cl b13 83 xs.c, cl b15 79 (ndA n rn).toList, Nds n rn, Wk b sb rd 0, Store sb db S, Disk db D] := by
  have hN := k.fine.n
  obtain ⟨xpg, xd, xr, xi⟩ := xs
  dsimp only at k
  obtain ⟨rfl, rfl, rfl⟩ := k.way
  have hall := k.all
  simp only [List.nil_append, List.append_nil] at hall
  have hpp := k.pages
  rw [List.append_nil] at hpp
  have hp := k.nt.plain
  have hfk := (hp.fits (by have := k.size; omega)).k
  have hpg : 2 ≤ xpg ∧ xpg < N := by
    have hm : xpg ∈ S.after U := hpp.mem_iff.1 (by simp)
    rcases (Sh.mem_after.1 hm).1 with q | q
    · exact k.fine.h.b _ q
    · have := k.fine.f.2 _ q; omega
  obtain ⟨c, hc⟩ : ∃ c, c = nav [1, 1, 1, 1, 1, 1, 1, 1, 1] (bdy Tryz.f14) := ⟨_, rfl⟩
  rw [← hc]
  dsimp only [nav, bdy, Tryz.f14, Option.getD] at hc
  subst hc
  dsimp only [Sp.c]
  by_cases hne : n.keys = []
  · obtain ⟨S', g1, g2, g3, g4, g5, g6⟩ := give_ok k.fine hpp
    have hG := sGive_does sb db S xpg (by omega)
    rw [g1] at hG
    dsimp only at hG
    have hF := wFail0_does b sb rd
    have hkl0 : n.keys.length = 0 := by rw [hne]; rfl
    cases hl : n.leaf
    · have hkl := kidsLen hp hl
      have hgk := iGet (l := n.kids) (k := 0) (by omega)
      obtain ⟨p1, c1, p2, c2, p3, c3⟩ := rn
      refine g_open (A := Nds n ⟨p1, c1, p2, c2, p3, c3⟩) (h := ?_); (rintro _ _; dsimp only [NdsK, List.cons_append, List.nil_append])
      refine g_ptr (m := n.kids.length) (h := ?_); rintro g rfl hc
      have hit : IsTree N S' D U (n.kids.getD 0 0) T := by
        have hnt := k.nt
        cases h with
        | zero => have := hnt.1; rw [hl] at this; cases this
        | succ h =>
          obtain ⟨_, _, ss, f, e1, e2, sp⟩ := hnt
          rw [hne] at sp
          cases ss with
          | nil => exact sp.elim
          | cons s0 ss =>
            cases ss with
            | cons _ _ => exact sp.elim
            | nil =>
              cases hks : n.kids with
              | nil => rw [hks] at f; exact f.elim
              | cons k0 kk =>
                rw [hks] at f
                have h1 := f.1
                refine .inr ⟨h, s0.ps, ?_, ?_⟩
                · rw [← hall, e1]
                  have : Sub.all [s0] = s0.es := by simp [Sub.all]
                  rw [this]
                  exact h1
                · rw [e2] at g3
                  simpa [Sub.pages] using g3
      (repeat' (first | refine g_seq (h := ?_) | refine g_region (h := ?_) | refine l_nil (h := ?_) | refine n_then (h := ?_) | refine l_pures1 (h := ?_) | (refine l_atc ?_; refine l_call (hG) ?_) | (refine l_atc ?_; refine l_call (hF) ?_) | refine l_guard_yes (h := ?_) | refine l_load (h := ?_) | refine l_indexAddr (h := ?_) | refine g_skip (h := ?_) | refine g_ret (h := ?_) | refine g_cond_t (h := ?_) | refine g_cond_f (h := ?_) | refine l_load_vec (h := ?_) | (refine g_spF (h := ?_); intro h)))
      refine r_retk [Store sb db S', Disk db D] ?_
      exact ⟨_, S', D, rfl, rfl, hit, g2, g5.trans hg, g6.trans hr⟩
    · have hit : IsTree N S' D U 0 T := by
        have hnt := k.nt
        have h0 := hnt.leaf.1 hl
        subst h0
        obtain ⟨_, _, e1, e2⟩ := hnt
        refine .inl ⟨rfl, ?_, ?_⟩
        · rw [← hall, e1, Nd.ents, hne]; rfl
        · rw [e2] at g3
          exact List.Perm.nil_eq g3 ▸ rfl
      (repeat' (first | refine g_seq (h := ?_) | refine g_region (h := ?_) | refine l_nil (h := ?_) | refine n_then (h := ?_) | refine l_pures1 (h := ?_) | (refine l_atc ?_; refine l_call (hG) ?_) | (refine l_atc ?_; refine l_call (hF) ?_) | refine l_guard_yes (h := ?_) | refine l_load (h := ?_) | refine g_skip (h := ?_) | refine g_ret (h := ?_) | refine g_cond_f (h := ?_) | (refine g_spF (h := ?_); intro h)))
      refine r_retk [Store sb db S', Disk db D] ?_
      exact ⟨0, S', D, rfl, rfl, hit, g2, g5.trans hg, g6.trans hr⟩
  · have hkl : 0 < n.keys.length := List.length_pos_iff.2 hne
    have hgood : n.good := ⟨hp, fun _ => hkl, k.size⟩
    obtain ⟨m, S', D', c1, c2, c3, c4, c5, c6, c7, c8, c9, c10⟩ := lay_ok k.fine k.pages room hgood
    have K : Hand N U T S D [] xpg n h [] [] es ps [] := ⟨k.fine, k.way, k.nt, k.pages, k.fit, k.all, hne⟩
    (repeat' (first | refine g_seq (h := ?_) | refine g_region (h := ?_) | refine l_nil (h := ?_) | refine n_then (h := ?_) | refine l_pures1 (h := ?_) | (refine l_at 35 ?_; refine l_call (c1 b sb db rd rn) ?_) | refine l_load (h := ?_) | refine g_skip (h := ?_) | refine g_ret (h := ?_) | refine g_cond_f (h := ?_) | (refine g_spT (h := ?_); intro h)))
    refine r_retk [Store sb db S', Disk db D'] ?_
    exact ⟨m, S', D', rfl, rfl, Hand.top K k.size c2 c3 c4 c6, c2, c9.trans hg, c10.trans hr⟩
end Go.Proofs.YtpbibhhjbigdhaaGreat
/- Package tree: a round of Delete's loop. -/
set_option maxRecDepth 20000
set_option linter.unusedVariables false
set_option linter.unusedSimpArgs false
namespace Go.Proofs.YtpbibhhjbigdhaaGreat
open Go.Proofs.YtpbibhhjbigdhaaGreat.SL

abbrev delT (b sb b' b13 b15 b16 : Nat) : List (Nat × Value) := [(17, .bool true), (16, .pointer (some ⟨b16, 0, none⟩)), (15, .pointer (some ⟨b15, 0, none⟩)), (13, .pointer (some ⟨b13, 0, none⟩)), (12, .pointer (some ⟨b', 0, none⟩)), (11, .pointer (some ⟨b, 0, none⟩)), (0, .pointer (some ⟨sb, 0, none⟩))]

set_option maxHeartbeats 4000000 in
theorem del_lay (A : SProp) (b sb db b' b13 b15 b16 : Nat) (rd m : Int) (xs s : Sp) (L : List Sp) (n : Nd) (rn : Rw) (S S' : Sh) (D D' : Dk) (hn : 80 ≤ n.size) (hf : n.fits) (hk : s.i < s.d.kids.length) (hlen : L.length < 100)
    (hL : ∀ r, Does Tryz.prog 35 [.pointer (some ⟨b, 0, none⟩), .int .i64 (s.d.kids.getD s.i 0), ndV n r] [Wk b sb rd 0, Store sb db S, Disk db D, Nds n r] (fun v H => v = .int .i64 m ∧ H = [Wk b sb rd 0, Store sb db S', Disk db D', Nds n r]))
    (w0 : World) (F0 : Nat → Prop) (Q : Exit → Act → World → Prop) (hc : SL.Calm Q)
    (hq : ∀ r, N 158 w0 F0 .normal Q (delT b sb b' b13 b15 b16) [] [cl b16 83 s.c, cl b13 83 s.c, cl b15 79 (ndA { s.d with kids := s.d.kids.set s.i m } r).toList, Stk b' L, Nds { s.d with kids := s.d.kids.set s.i m } r, Wk b sb rd 0, Store sb db S', Disk db D', A]) :
    G Tryz.prog 158 w0 F0 (nav [1, 1, 1, 1, 1, 1, 1, 1, 0, 1, 2, 2, 1, 0, 2] (bdy Tryz.f14)) Q (delT b sb b' b13 b15 b16) [] [cl b16 83 s.c, cl b13 83 xs.c, cl b15 79 (ndA n rn).toList, Stk b' L, Nds s.d s.r, Nds n rn, Wk b sb rd 0, Store sb db S, Disk db D, A] := by
  have hS := ndSize_does n rn hf
  obtain ⟨tpg, td, ⟨p1, c1, p2, c2, p3, c3⟩, ti⟩ := s
  dsimp only at hk hL hq ⊢
  obtain ⟨c, hc⟩ : ∃ c, c = nav [1, 1, 1, 1, 1, 1, 1, 1, 0, 1, 2, 2, 1, 0, 2] (bdy Tryz.f14) := ⟨_, rfl⟩
  rw [← hc]
  dsimp only [nav, bdy, Tryz.f14, Option.getD] at hc
  subst hc
  dsimp only [Sp.c, delT] at hq ⊢
  refine g_open (A := Stk b' L) (h := ?_); (rintro ⟨ps, cs⟩ _; dsimp only [StkK, List.cons_append, List.nil_append])
  refine g_open (A := Nds td ⟨p1, c1, p2, c2, p3, c3⟩) (h := ?_); (rintro _ _; dsimp only [NdsK, List.cons_append, List.nil_append])
  refine g_ptr (m := td.kids.length) (h := ?_); rintro g rfl hcp
  have hgk := iGet (l := td.kids) (k := ti) (by omega)
  (repeat' (first | refine g_seq (h := ?_) | refine g_region (h := ?_) | refine l_nil (h := ?_) | refine n_then (h := ?_) | refine l_pures1 (h := ?_) | (refine l_atc ?_; refine l_call (hS) ?_) | refine l_guard_no (h := ?_) | refine l_load (h := ?_) | refine g_cond_t (h := ?_) | (refine l_spT (h := ?_); intro h)))
  all_goals
    (refine g_draw [cl b16 83 _, vec 3 1 (some ⟨g, 0, none⟩) td.kids.length c3 (td.kids.map encZ'), cl b15 79 _] (h := a_pass2 (h := ?_)))
  all_goals
    (repeat' (first | refine g_seq (h := ?_) | refine g_region (h := ?_) | refine l_nil (h := ?_) | refine n_then (h := ?_) | refine l_pures1 (h := ?_) | (refine l_at 35 ?_; refine l_call (hL rn) ?_) | refine l_load (h := ?_) | refine l_store (h := ?_) | refine l_indexAddr (h := ?_) | refine g_skip (h := ?_) | refine a_done (h := ?_) | refine a_load (h := a_pass2 (h := ?_)) | refine a_one (h := ?_) | refine n_any (h := a_pass2 (h := ?_)) | refine g_cond_f (h := ?_) | refine l_load_vec (h := ?_) | refine l_store_vec (h := ?_)))
  rw [set_encZ]
  (refine n_shut (A := Nds { td with kids := td.kids.set ti m } ⟨p1, c1, p2, c2, some ⟨g, 0, none⟩, c3⟩) (K := NdsK { td with kids := td.kids.set ti m } ⟨p1, c1, p2, c2, some ⟨g, 0, none⟩, c3⟩ (())) (hid_shuts (()) trivial) (h := ?_) (p := by dsimp only [NdsK]; (try simp only [List.map_nil, List.length_nil, List.length_set, List.length_append, List.length_cons, List.length_singleton, List.map_append, List.map_cons, Nat.zero_add]); exact parts_of))
  (refine n_shut (A := Stk b' L) (K := StkK b' L ((ps, cs))) (hid_shuts ((ps, cs)) trivial) (h := ?_) (p := by dsimp only [StkK]; (try simp only [List.map_nil, List.length_nil, List.length_set, List.length_append, List.length_cons, List.length_singleton, List.map_append, List.map_cons, Nat.zero_add]); exact parts_of))
  have hq' := hq ⟨p1, c1, p2, c2, some ⟨g, 0, none⟩, c3⟩
  simp only [List.length_set] at hq'
  exact n_bang hq'

set_option maxHeartbeats 4000000 in
theorem del_even (A : SProp) (P : Nd → Sh → Dk → Prop) (b sb db b' b13 b15 b16 : Nat) (rd rd' : Int) (xs s : Sp) (L : List Sp) (n : Nd) (rn : Rw) (S : Sh) (D : Dk) (hn : n.size < 80) (hf : n.fits) (hk : 1 < s.d.kids.length) (hk2 : s.d.kids.length < 10000) (hlen : L.length < 100)
    (hE : ∀ r rn, Does Tryz.prog 38 [.pointer (some ⟨b, 0, none⟩), .agg #[.int .i64 s.pg, .bool s.d.leaf, .slice r.p1 s.d.keys.length r.c1, .slice r.p2 s.d.vals.length r.c2, .slice r.p3 s.d.kids.length r.c3, .int .i64 s.i], ndV n rn, .int .i64 (L.length + 1 : Nat)] [Nds s.d r, Nds n rn, Wk b sb rd 0, Store sb db S, Disk db D]
      (fun v H => ∃ (n' : Nd) (r' : Rw) (S' : Sh) (D' : Dk), v = ndV n' r' ∧ H = [Nds n' r', Wk b sb rd' 0, Store sb db S', Disk db D'] ∧ P n' S' D'))
    (w0 : World) (F0 : Nat → Prop) (Q : Exit → Act → World → Prop) (hc : SL.Calm Q)
    (hq : ∀ n' r' S' D', P n' S' D' → N 158 w0 F0 .normal Q (delT b sb b' b13 b15 b16) [] [cl b16 83 s.c, cl b13 83 s.c, cl b15 79 (ndA n' r').toList, Stk b' L, Nds n' r', Wk b sb rd' 0, Store sb db S', Disk db D', A]) :
    G Tryz.prog 158 w0 F0 (nav [1, 1, 1, 1, 1, 1, 1, 1, 0, 1, 2, 2, 1, 0, 2] (bdy Tryz.f14)) Q (delT b sb b' b13 b15 b16) [] [cl b16 83 s.c, cl b13 83 xs.c, cl b15 79 (ndA n rn).toList, Stk b' L, Nds s.d s.r, Nds n rn, Wk b sb rd 0, Store sb db S, Disk db D, A] := by
  have hS := ndSize_does n rn hf
  have ed : IntKind.i64.wrap ((L.length : Int) + 1) = ((L.length + 1 : Nat) : Int) := by rw [wrapI64 (by omega)]; rfl
  rw [← ed] at hE
  obtain ⟨tpg, td, ⟨p1, c1, p2, c2, p3, c3⟩, ti⟩ := s
  dsimp only at hk hE hq ⊢
  have hE2 := hE ⟨p1, c1, p2, c2, p3, c3⟩ rn
  dsimp only at hE2
  obtain ⟨c, hc⟩ : ∃ c, c = nav [1, 1, 1, 1, 1, 1, 1, 1, 0, 1, 2, 2, 1, 0, 2] (bdy Tryz.f14) := ⟨_, rfl⟩
  rw [← hc]
  dsimp only [nav, bdy, Tryz.f14, Option.getD] at hc
  subst hc
  dsimp only [Sp.c, delT] at hq ⊢
  refine g_open (A := Stk b' L) (h := ?_); (rintro ⟨ps, cs⟩ _; dsimp only [StkK, List.cons_append, List.nil_append])
  (repeat' (first | refine g_seq (h := ?_) | refine g_region (h := ?_) | refine l_nil (h := ?_) | refine n_then (h := ?_) | refine l_pures1 (h := ?_) | (refine l_atc ?_; refine l_call (hS) ?_) | (refine l_atc ?_; refine l_call_ (hE2) ?_; rintro _ _ _ ⟨n', r', S', D', rfl, rfl, hP⟩ he; cases he) | refine l_guard_yes (h := ?_) | refine l_load (h := ?_) | refine l_store (h := ?_) | refine g_skip (h := ?_) | refine g_cond_f (h := ?_) | (refine l_spF (h := ?_); intro h) | (refine g_spF (h := ?_); intro h)))
  (refine n_shut (A := Stk b' L) (K := StkK b' L ((ps, cs))) (hid_shuts ((ps, cs)) trivial) (h := ?_) (p := by dsimp only [StkK]; (try simp only [List.map_nil, List.length_nil, List.length_set, List.length_append, List.length_cons, List.length_singleton, List.map_append, List.map_cons, Nat.zero_add]); exact parts_of))
  exact n_bang (hq n' r' S' D' hP)
end Go.Proofs.YtpbibhhjbigdhaaGreat
/- Package tree: the loop of Delete. -/
set_option maxRecDepth 20000
set_option linter.unusedVariables false
set_option linter.unusedSimpArgs false
namespace Go.Proofs.YtpbibhhjbigdhaaGreat
open Go.Proofs.YtpbibhhjbigdhaaGreat.SL

structure DelSt where
  L : List Sp
  ab : Option Sp
  b16 : Nat
  xs : Sp
  n : Nd
  rn : Rw
  S : Sh
  D : Dk
  rd : Int
def abL (ab : Option Sp) : List Sp := match ab with
  | some s => [s]
  | none => []
def abC (ab : Option Sp) : List Value := match ab with
  | some s => s.c
  | none => [.int .i64 0, .bool false, .slice none 0 0, .slice none 0 0, .slice none 0 0, .int .i64 0]
def abN (ab : Option Sp) : Nat := match ab with
  | some _ => 1
  | none => 0
/-- What holds at each round of Delete. -/
def DelI (N : Nat) (U : List Int) (T : List Ent) (S0 : Sh) (D0 : Dk) (y : DelSt) : Prop :=
  ∃ h Lf Rt es ps qs, HandD N U T y.S y.D ((abL y.ab).map Sp.spot ++ (y.L.map Sp.spot).reverse) y.xs.pg y.n h Lf Rt es ps qs ∧ (y.ab = none → y.L = []) ∧ U.length + y.S.fresh.length + 2 * (y.L.length + abN y.ab) + 5 < N ∧ y.L.length ≤ 8 ∧ 0 ≤ y.rd ∧ y.rd + y.L.length + abN y.ab < 640 ∧ y.S.gen = S0.gen ∧ Same U S0 D0 y.S y.D

theorem inv_tail {w0 w : World} {F0 : Nat → Prop} {A : SProp} {H : List SProp} (i : Inv w0 F0 (A :: H) w) : Inv w0 F0 H w :=
  i.imp fun s => by
    obtain ⟨F1, F2, _, s', _, un⟩ := s
    exact ⟨F2, s', fun b hb => (un b).2 (.inr hb)⟩
theorem ndl_one {w0 w : World} {F0 : Nat → Prop} {H : List SProp} {s : Sp} (i : Inv w0 F0 (NdL [s] :: H) w) : Inv w0 F0 (Nds s.d s.r :: H) w := inv_tail (ndl_last (L := []) i)
theorem ndl_sing {w0 w : World} {F0 : Nat → Prop} {H : List SProp} {s : Sp} (i : Inv w0 F0 (Nds s.d s.r :: H) w) : Inv w0 F0 (NdL [s] :: H) w := ndl_snoc (L := []) (ndl_nil i)

theorem abL_len (ab : Option Sp) : (abL ab).length = abN ab := by cases ab <;> rfl
theorem DelI.next {N : Nat} {U : List Int} {T : List Ent} {S0 S' : Sh} {D0 D' : Dk} {L' : List Sp} {ab : Option Sp} {b17 : Nat} {s : Sp} {n' : Nd} {r : Rw} {rd : Int} {h : Nat} {Lf Rt es : List Ent} {ps qs : List Int}
    (k : HandD N U T S' D' ((L' ++ abL ab).map Sp.spot).reverse s.pg n' h Lf Rt es ps qs) (hab : ab = none → L' = []) (room : U.length + S'.fresh.length + 2 * (L' ++ abL ab).length + 5 < N) (hL : (L' ++ abL ab).length ≤ 8) (h1 : 0 ≤ rd) (h2 : rd + ((L' ++ abL ab).length : Nat) < 640) (hg : S'.gen = S0.gen) (hr : Same U S0 D0 S' D') :
    DelI N U T S0 D0 ⟨L', ab, b17, s, n', r, S', D', rd⟩ := by
  have hl := abL_len ab
  rw [List.length_append, hl] at room hL h2
  refine ⟨h, Lf, Rt, es, ps, qs, ?_, hab, room, by show L'.length ≤ 8; omega, h1, by show rd + (L'.length : Int) + (abN ab : Int) < 640; omega, hg, hr⟩
  have e : ((L' ++ abL ab).map Sp.spot).reverse = (abL ab).map Sp.spot ++ (L'.map Sp.spot).reverse := by
    rw [List.map_append, List.reverse_append]
    cases ab <;> rfl
  rw [e] at k
  exact k

set_option maxHeartbeats 4000000 in
theorem del_next (A B C : SProp) (b sb b' b13 b15 b16 : Nat) (s : Sp) (L : List Sp) (n' : Nd) (r' : Rw) (hlen : L.length < 100) (w0 : World) (F0 : Nat → Prop) (Q : Exit → Act → World → Prop) (hc : SL.Calm Q)
    (hq : ∀ b16' ab L', L = L' ++ abL ab → (ab = none → L' = []) → N 158 w0 F0 .normal Q [(17, .bool ab.isSome), (16, .pointer (some ⟨b16', 0, none⟩)), (15, .pointer (some ⟨b15, 0, none⟩)), (13, .pointer (some ⟨b13, 0, none⟩)), (12, .pointer (some ⟨b', 0, none⟩)), (11, .pointer (some ⟨b, 0, none⟩)), (0, .pointer (some ⟨sb, 0, none⟩))] []
      [cl b16' 83 (abC ab), cl b13 83 s.c, cl b15 79 (ndA n' r').toList, Stk b' L', NdL L', NdL (abL ab), Nds n' r', A, B, C]) :
    G Tryz.prog 158 w0 F0 (nav [1, 1, 1, 1, 1, 1, 1, 1, 0, 1, 2, 2, 1, 1] (bdy Tryz.f14)) Q (delT b sb b' b13 b15 b16) [] [cl b16 83 s.c, cl b13 83 s.c, cl b15 79 (ndA n' r').toList, Stk b' L, NdL L, Nds n' r', A, B, C] := by
  obtain ⟨c, hc⟩ : ∃ c, c = nav [1, 1, 1, 1, 1, 1, 1, 1, 0, 1, 2, 2, 1, 1] (bdy Tryz.f14) := ⟨_, rfl⟩
  rw [← hc]
  dsimp only [nav, bdy, Tryz.f14, Option.getD] at hc
  subst hc
  rcases List.eq_nil_or_concat L with rfl | ⟨L', s2, rfl⟩
  · have hp := popNone_does b'
    dsimp only [Sp.c, delT]
    (repeat (first | refine g_seq (h := ?_) | refine g_region (h := ?_) | refine l_nil (h := ?_) | refine n_then (h := ?_) | refine l_pures1 (h := ?_) | (refine l_atc ?_; refine l_call (hp) ?_) | refine l_load (h := ?_) | refine l_store (h := ?_) | (refine l_alloc (h := ?_); intro _)))
    rename_i b17
    refine n_inv (fun i => ndl_nil i) ?_
    have hq' := hq b17 none [] rfl (fun _ => rfl)
    dsimp only [abC, abL, Option.isSome, Sp.c, ndA] at hq' ⊢
    exact n_bang hq'
  · rw [List.concat_eq_append] at *
    have hp := pop_does b' L' s2 (by simp at hlen; omega)
    refine g_inv (fun i => ndl_last (i.take (A := NdL (L' ++ [s2])) (by with_reducible (repeat (first | refine Take.here | apply Take.there))))) ?_
    dsimp only [Sp.c, delT]
    (repeat (first | refine g_seq (h := ?_) | refine g_region (h := ?_) | refine l_nil (h := ?_) | refine n_then (h := ?_) | refine l_pures1 (h := ?_) | (refine l_atc ?_; refine l_call (hp) ?_) | refine l_load (h := ?_) | refine l_store (h := ?_) | (refine l_alloc (h := ?_); intro _)))
    rename_i b17
    refine n_inv (fun i => ndl_sing (s := s2) (i.take (A := Nds s2.d s2.r) (by with_reducible (repeat (first | refine Take.here | apply Take.there))))) ?_
    have hq' := hq b17 (some s2) L' rfl (fun e => by cases e)
    dsimp only [abC, abL, Option.isSome, Sp.c, ndA] at hq' ⊢
    exact n_bang hq'

set_option maxHeartbeats 8000000 in
theorem del_loop (b sb db b' b13 b15 N : Nat) (U : List Int) (T : List Ent) (S0 : Sh) (D0 : Dk) (y0 : DelSt) (h0 : DelI N U T S0 D0 y0) (w0 : World) (F0 : Nat → Prop) :
    G Tryz.prog 158 w0 F0 (nav [1, 1, 1, 1, 1, 1, 1, 1, 0, 1] (bdy Tryz.f14)) (Exit.then ((nav [1, 1, 1, 1, 1, 1, 1, 1, 1] (bdy Tryz.f14)).wp Tryz.prog (Post Tryz.prog Tryz.f14 w0 F0 (DelQ N U T S0 D0 sb db))) (Post Tryz.prog Tryz.f14 w0 F0 (DelQ N U T S0 D0 sb db)))
      [(17, .bool y0.ab.isSome), (16, .pointer (some ⟨y0.b16, 0, none⟩)), (15, .pointer (some ⟨b15, 0, none⟩)), (13, .pointer (some ⟨b13, 0, none⟩)), (12, .pointer (some ⟨b', 0, none⟩)), (11, .pointer (some ⟨b, 0, none⟩)), (0, .pointer (some ⟨sb, 0, none⟩))] []
      [cl y0.b16 83 (abC y0.ab), cl b13 83 y0.xs.c, cl b15 79 (ndA y0.n y0.rn).toList, Stk b' y0.L, NdL y0.L, NdL (abL y0.ab), Nds y0.n y0.rn, Wk b sb y0.rd 0, Store sb db y0.S, Disk db y0.D] := by
  obtain ⟨tl, htl⟩ : ∃ c, c = nav [1, 1, 1, 1, 1, 1, 1, 1, 1] (bdy Tryz.f14) := ⟨_, rfl⟩
  rw [← htl]
  obtain ⟨c, hc⟩ : ∃ c, c = nav [1, 1, 1, 1, 1, 1, 1, 1, 0, 1] (bdy Tryz.f14) := ⟨_, rfl⟩
  rw [← hc]
  dsimp only [nav, bdy, Tryz.f14, Option.getD] at hc
  subst hc
  refine g_block ?_
  (refine g_loop (fun y : DelSt => [(17, .bool y.ab.isSome), (16, .pointer (some ⟨y.b16, 0, none⟩)), (15, .pointer (some ⟨b15, 0, none⟩)), (13, .pointer (some ⟨b13, 0, none⟩)), (12, .pointer (some ⟨b', 0, none⟩)), (11, .pointer (some ⟨b, 0, none⟩)), (0, .pointer (some ⟨sb, 0, none⟩))]) (fun y => [cl y.b16 83 (abC y.ab), cl b13 83 y.xs.c, cl b15 79 (ndA y.n y.rn).toList, Stk b' y.L, NdL y.L, NdL (abL y.ab), Nds y.n y.rn, Wk b sb y.rd 0, Store sb db y.S, Disk db y.D]) (fun y => DelI N U T S0 D0 y) (fun y => y.L.length + abN y.ab) (y0) ?_ ?_ ?_ ?_; rotate_left; (repeat (first | refine ts_nil | (refine ts_cons rfl ?_ ?_; first | (with_reducible rfl) | rotate_left))); (first | (intro _ i; with_reducible refine i) | rotate_left); rotate_left; (try omega); rotate_right)
  · rintro ⟨L, ab, b16, xs, n, rn, S, D, rd⟩ ⟨h, Lf, Rt, es, ps, qs, k, hab, room, hL8, hrd0, hrd, hgen, hroot⟩
    dsimp only at k hab room hL8 hrd0 hrd hgen hroot ⊢
    cases ab with
    | none =>
      obtain rfl := hab rfl
      dsimp only [Option.isSome]
      have ht := del_tail b sb db b13 b15 N U T S0 S D0 D xs n rn rd (k : HandD N U T S D [] xs.pg n h Lf Rt es ps qs) (by simp only [List.length_nil, abN] at room; omega) hgen hroot w0 F0
      rw [← htl] at ht
      (repeat (first | refine g_seq (h := ?_) | refine g_region (h := ?_) | refine l_nil (h := ?_) | refine n_then (h := ?_) | refine l_pures1 (h := ?_) | refine g_exit (h := ?_) | refine n_then_exit (h := ?_) | refine n_block_hit (h := ?_) | refine g_cond_f (h := ?_)))
      exact g_bang ht
    | some s =>
      dsimp only [Option.isSome, abL, abN, abC] at *
      have k : HandD N U T S D (s.spot :: (L.map Sp.spot).reverse) xs.pg n h Lf Rt es ps qs := k
      obtain ⟨_, _, _, _, _, _, v0, v1, _⟩ := k.way
      have v2 : s.d.leaf = false := v1.leaf
      have v3 : s.i ≤ s.d.keys.length := v1.ile
      have v4 : s.d.good := v1.good
      have v5 : s.d.kids.length = s.d.keys.length + 1 := kidsLen v4.p v2
      have v6 := v4.fits.i
      have v7 : 0 < s.d.keys.length := List.length_pos_iff.2 v1.ne
      have v8 := v4.size
      have hnf : n.fits := k.nt.plain.fits (by have := k.size; omega)
      have hv9 : s.d.kids.length < 10000 := by
        simp only [Nd.size, v2, Bool.false_eq_true, if_false] at v8
        omega
      refine g_inv (fun i => ndl_one (i.take (A := NdL [s]) (by with_reducible (repeat (first | refine Take.here | apply Take.there))))) ?_
      by_cases hz : 80 ≤ n.size
      · obtain ⟨m, S', D', Lf', Rt', es', ps', qs', c1, c2, c3, c4, c5⟩ := k.lay hz (by omega)
        have hlink : s.d.kids.getD s.i 0 = xs.pg := k.link.1
        (repeat (first | ((with_reducible show G _ _ _ _ (Code.seq (Code.region 15 _ _) _) _ _ _ _); refine g_bang (del_lay (NdL L) b sb db b' b13 b15 b16 rd m xs s L n rn S S' D D' hz hnf (by omega) (by omega) (by rw [hlink]; exact c1 b sb db rd) w0 F0 _ (by with_reducible (repeat (first | refine calm_post | apply calm_then | apply calm_block))) ?_)) | refine g_seq (h := ?_) | refine g_region (h := ?_) | refine l_nil (h := ?_) | refine n_then (h := ?_) | refine l_pures1 (h := ?_) | refine g_skip (h := ?_) | refine g_block (h := ?_) | refine g_cond_t (h := ?_)))
        intro r
        (repeat (first | ((with_reducible show G _ _ _ _ (Code.seq (Code.seq (Code.region 24 _ _) _) _) _ _ _ _); refine g_bang (del_next (Wk b sb rd 0) (Store sb db S') (Disk db D') b sb b' b13 b15 b16 s L { s.d with kids := s.d.kids.set s.i m } r (by omega) w0 F0 _ (by with_reducible (repeat (first | refine calm_post | apply calm_then | apply calm_block))) ?_)) | refine n_then (h := ?_) | refine n_block (h := ?_)))
        intro b17 ab L' hL hab'
        subst hL
        (refine n_back ((⟨L', ab, b17, s, { s.d with kids := s.d.kids.set s.i m }, r, S', D', rd⟩ : DelSt)) ?_ ?_ ?_ ?_; rotate_left; rotate_left; (repeat (first | refine ts_nil | (refine ts_cons rfl ?_ ?_; first | (with_reducible rfl) | rotate_left))); (first | (intro _ i; with_reducible refine i) | rotate_left); (try omega); (try omega))
        · simp only [List.length_append, abL_len] at room hrd hL8
          exact DelI.next c2 hab' (by rw [List.length_append, abL_len]; omega) (by rw [List.length_append, abL_len]; omega) hrd0 (by rw [List.length_append, abL_len]; omega) (c4.trans hgen) (c5.trans hroot)
        · show L'.length + abN ab < (L' ++ abL ab).length + 1
          rw [List.length_append, abL_len]; omega
        · cases ab <;> rfl
        · cases ab <;> dsimp only [abC, abL, ndA]
          all_goals
            (intro _ i; exact inv_keep parts_of i)
      · have hz : n.size < 80 := by omega
        have hE := fun r rn => k.even hz (by omega) b sb db (L.length + 1) r rn rd ⟨hrd0, by omega⟩ (by omega)
        (repeat (first | ((with_reducible show G _ _ _ _ (Code.seq (Code.region 15 _ _) _) _ _ _ _); refine g_bang (del_even (NdL L) (fun n' S' D' => (∃ Lf' Rt' es' ps' qs', HandD N U T S' D' (L.map Sp.spot).reverse s.pg n' (h + 1) Lf' Rt' es' ps' qs') ∧ S'.fresh.length ≤ S.fresh.length + 2 ∧ S'.gen = S.gen ∧ Same U S D S' D') b sb db b' b13 b15 b16 rd (rd + 1) xs s L n rn S D hz hnf (by omega) (by omega) (by omega) hE w0 F0 _ (by with_reducible (repeat (first | refine calm_post | apply calm_then | apply calm_block))) ?_)) | refine g_seq (h := ?_) | refine g_region (h := ?_) | refine l_nil (h := ?_) | refine n_then (h := ?_) | refine l_pures1 (h := ?_) | refine l_guard_yes (h := ?_) | refine l_guard_no (h := ?_) | refine l_guard_no0 (h := ?_) | refine l_guard_un (h := ?_) | refine l_guard_un0 (h := ?_) | refine l_load (h := ?_) | refine l_store (h := ?_) | (refine l_box (h := ?_); intro _) | (refine l_alloc (h := ?_); intro _) | refine l_index (h := ?_) | refine l_slice_str (h := ?_) | refine l_concat (h := ?_) | (refine l_makeSlice (h := ?_); intro _) | refine l_load_at (h := ?_) | refine l_store_at (h := ?_) | refine l_load_p (h := ?_) | refine l_indexAddr (h := ?_) | refine l_rem (h := ?_) | refine l_quo (h := ?_) | refine l_shr (h := ?_) | refine l_shl (h := ?_) | refine l_slice (h := ?_) | refine l_copy_in (h := ?_) | refine l_copy_row (h := ?_) | refine l_str_bs (h := ?_) | (refine l_bytes_of (h := ?_); intro _ _ _) | refine l_copy_str (h := ?_) | refine l_lookup _ (h := ?_) | refine l_lookup_ok _ (h := ?_) | refine l_mapUpdate (h := ?_) | refine l_delete0 (h := ?_) | refine l_len_map (h := ?_) | (refine l_buildSlice1 (h := ?_); intro _) | (refine l_append_new (h := ?_); intro _ _) | (refine l_append (h := ?_); intro _ _) | refine l_pure_none (h := ?_) | refine g_skip (h := ?_) | refine g_ret (h := ?_) | refine n_then_ret (h := ?_) | refine n_block_ret (h := ?_) | refine g_block (h := ?_) | refine g_exit (h := ?_) | refine n_then_exit (h := ?_) | refine n_block_hit (h := ?_) | refine a_done (h := ?_) | refine a_load (h := a_pass2 (h := ?_)) | refine a_one (h := ?_) | refine n_any (h := a_pass2 (h := ?_)) | refine a_load_at (h := a_pass2 (h := ?_)) | refine a_load_p (h := a_pass2 (h := ?_)) | refine a_loadg_p (h := a_pass2 (h := ?_)) | refine a_loadg (h := a_pass2 (h := ?_)) | refine a_v (h := ?_) | refine a_vg (h := ?_) | refine a_no (h := ?_) | refine a_un (h := ?_) | refine n_block_miss (h := ?_) | refine n_block (h := ?_) | refine g_cond_t (h := ?_) | refine g_cond_f (h := ?_) | refine l_load_vec (h := ?_) | refine l_store_vec (h := ?_) | refine a_load_vec (h := a_pass2 (h := ?_)) | refine a_loadg_vec (h := a_pass2 (h := ?_)) | (refine l_append_str (h := ?_); intro _ _) | (refine l_append_zeros (h := ?_); intro _ _ _) | refine l_to_unsafe (h := ?_) | refine l_from_unsafe (h := ?_) | refine l_neq_same (h := ?_) | refine l_slice_any (h := ?_) | (refine l_buildSlice2 (h := ?_); intro _) | (refine l_buildSlice3 (h := ?_); intro _) | (refine l_buildSlice4 (h := ?_); intro _) | refine l_slice3n (h := ?_) | refine l_sliceData (h := ?_) | refine l_outer_same outer_same (h := ?_) | refine l_unsafeString (h := ?_) | refine g_scope (h := ?_) | refine n_scope (h := ?_) | refine n_scope_ret (h := ?_) | refine n_scope_exit (h := ?_) | refine g_label (h := ?_) | refine n_lw (h := ?_) | refine lw_nil (h := ?_) | refine lw_step (h := ?_) | refine lw_guard_yes (h := ?_) | refine l_lookup_k _ (h := ?_) | refine l_lookup_ok_k _ (h := ?_) | refine l_mapUpdate_k (h := ?_) | refine l_delete0_k (h := ?_) | refine l_len_map_k (h := ?_) | refine gr_seq (h := ?_) | refine gr_region (h := ?_) | refine nr_then (h := ?_) | refine gr_block (h := ?_) | refine gr_skip (h := ?_) | refine gr_exit (h := ?_) | refine gr_ret (h := ?_) | refine gr_label (h := ?_) | refine gr_cond_t (h := ?_) | refine gr_cond_f (h := ?_) | refine a_w (h := ?_) | refine a_lookupg_k _ (h := a_pass2 (h := ?_)) | refine a_fork2 (h1 := ?_) (h2 := ?_) | refine a_fork3 (h1 := ?_) (h2 := ?_) (h3 := ?_) | refine a1_of (h := ?_)))
        rintro n' r S' D' ⟨⟨Lf', Rt', es', ps', qs', c2⟩, c3, c4, c5⟩
        (repeat (first | ((with_reducible show G _ _ _ _ (Code.seq (Code.seq (Code.region 24 _ _) _) _) _ _ _ _); refine g_bang (del_next (Wk b sb (rd + 1) 0) (Store sb db S') (Disk db D') b sb b' b13 b15 b16 s L n' r (by omega) w0 F0 _ (by with_reducible (repeat (first | refine calm_post | apply calm_then | apply calm_block))) ?_)) | refine n_then (h := ?_) | refine n_block (h := ?_)))
        intro b17 ab L' hL hab'
        subst hL
        (refine n_back ((⟨L', ab, b17, s, n', r, S', D', rd + 1⟩ : DelSt)) ?_ ?_ ?_ ?_; rotate_left; rotate_left; (repeat (first | refine ts_nil | (refine ts_cons rfl ?_ ?_; first | (with_reducible rfl) | rotate_left))); (first | (intro _ i; with_reducible refine i) | rotate_left); (try omega); (try omega))
        · simp only [List.length_append, abL_len] at room hrd hL8
          exact DelI.next c2 hab' (by rw [List.length_append, abL_len]; omega) (by rw [List.length_append, abL_len]; omega) (by omega) (by rw [List.length_append, abL_len]; omega) (c4.trans hgen) (c5.trans hroot)
        · show L'.length + abN ab < (L' ++ abL ab).length + 1
          rw [List.length_append, abL_len]; omega
        · cases ab <;> rfl
        · cases ab <;> dsimp only [abC, abL, ndA]
          all_goals
            (intro _ i; exact inv_keep parts_of i)
end Go.Proofs.YtpbibhhjbigdhaaGreat
/- Package tree: Delete, whole. -/
set_option maxRecDepth 20000
set_option linter.unusedVariables false
set_option linter.unusedSimpArgs false
namespace Go.Proofs.YtpbibhhjbigdhaaGreat
open Go.Proofs.YtpbibhhjbigdhaaGreat.SL

theorem goes_link {S : Sh} {D : Dk} {x : Nat} {s : Spot} : ∀ {top : List Spot} {pg : Int} {up : List Spot}, Goes S D x pg (top ++ [s]) → LinkTo up pg → LinkTo (top.reverse ++ up) s.pg
  | [], pg, up, g, l => by
    have h : s.pg = pg := g.1
    rw [h]; exact l
  | t :: top, pg, up, g, l => by
    obtain ⟨h1, _, _, h | h⟩ := g
    · simp at h
    · rw [List.reverse_cons, List.append_assoc]
      exact goes_link (up := t :: up) h.2.2 ⟨rfl, by rw [h1]; exact l⟩

set_option maxHeartbeats 8000000 in
theorem del1_does (sb db x N : Nat) (v : List UInt8) (root : Int) (U : List Int) (T0 T : List Ent) (S : Sh) (D : Dk) (k : Fine N S D U) (ht : IsTree N S D U root T0) (hv : getE T0 x = some v) (l0 : List Spot) (s : Spot) (hg : Goes S D x root (l0 ++ [s])) (hl : l0.length ≤ 8)
    (hsi : s.i < s.d.keys.length)
    (hI : ∀ b16 L' ab (t : Sp) r, (L' ++ abL ab).map Sp.spot = l0 → (ab = none → L' = []) → t.spot = s → DelI N U T S D ⟨L', ab, b16, t, s.d.without s.i, r, S, D, 0 + ((l0.length + 1 : Nat) : Int)⟩) :
    Does Tryz.prog 14 [.pointer (some ⟨sb, 0, none⟩), .int .i64 root, .int .u64 x] [Store sb db S, Disk db D] (DelQ N U T S D sb db) := by
  obtain ⟨hd, hlf, hi⟩ := hg.last
  have hw := fun b => way_does b sb db x root 0 S D (l0 ++ [s]) hg (by simp; omega) (by simp; omega)
  have hG := get_tree sb db x N root U T0 S D k ht
  rw [hv] at hG
  refine does_of Tryz.func14 Tryz.ntmps14 rfl rfl rfl (fun w0 F0 => ?_)
  (repeat' (first | refine g_seq (h := ?_) | refine g_region (h := ?_) | refine l_nil (h := ?_) | refine n_then (h := ?_) | refine l_pures1 (h := ?_) | (refine l_at 16 ?_; refine l_call (hG) ?_) | (refine l_box (h := ?_); intro _) | refine g_skip (h := ?_) | refine g_block (h := ?_) | refine n_block (h := ?_) | refine g_cond_f (h := ?_)))
  rename_i b
  refine l_inv (H' := [Wk b sb 0 0, Store sb db S, Disk db D]) (fun i => i) ?_
  (repeat' (first | refine g_seq (h := ?_) | refine g_region (h := ?_) | refine l_nil (h := ?_) | refine n_then (h := ?_) | refine l_pures1 (h := ?_) | (refine l_atc ?_; refine l_call_ (hw b) ?_; rintro _ _ _ ⟨b', L, hL, rfl, rfl⟩ he; cases he) | refine l_load (h := ?_) | refine g_skip (h := ?_) | refine g_cond_f (h := ?_)))
  obtain ⟨L0, t, rfl⟩ : ∃ L0 t, L = L0 ++ [t] := by
    rcases List.eq_nil_or_concat L with rfl | ⟨l, s, rfl⟩
    · simp at hL
    · exact ⟨l, s, by simp⟩
  have hL2 : L0.map Sp.spot = l0 ∧ t.spot = s := by
    have := congrArg List.reverse hL
    simp at this
    exact ⟨this.2, this.1⟩
  obtain ⟨hL1, hts⟩ := hL2
  subst hts
  have hlen : L0.length = l0.length := by rw [← hL1]; simp
  have hpop := pop_does b' L0 t (by omega)
  refine l_inv (fun q => ndl_last (q.take (A := NdL (L0 ++ [t])) (by with_reducible (repeat (first | refine Take.here | apply Take.there))))) ?_
  dsimp only [Sp.spot] at hlf hsi
  have hki : t.d.kids = [] := List.length_eq_zero_iff.1 (by have := hd.p.kids; rw [show (Sp.spot t).d.leaf = true from hlf] at this; simpa using this)
  have hP := nWithout_does t.d t.r t.i hlf hd.fits hsi hki
  have hlp := fun b13 b15 b16 L' ab rp h1 h2 => del_loop b sb db b' b13 b15 N U T S D ⟨L', ab, b16, t, t.d.without t.i, rp, S, D, 0 + ((l0 ++ [t.spot]).length : Int)⟩ (by rw [List.length_append, List.length_singleton]; exact hI b16 L' ab t rp h1 h2 rfl) w0 F0
  dsimp only [Sp.c] at hlp
  rcases List.eq_nil_or_concat L0 with rfl | ⟨L', s2, rfl⟩
  · have hp2 := popNone_does b'
    have h2 := fun b13 b15 b16 rp => hlp b13 b15 b16 [] none rp (by simpa [abL] using hL1) (fun _ => rfl)
    dsimp only [Option.isSome, abC, abL] at h2
    refine l_inv (fun i => ndl_nil i) ?_
    (repeat (first | ((with_reducible show G _ _ _ _ (Code.block 1 _) _ _ _ _); exact g_bang (h2 _ _ _ _)) | refine g_seq (h := ?_) | refine g_region (h := ?_) | refine l_nil (h := ?_) | refine n_then (h := ?_) | refine l_pures1 (h := ?_) | (refine l_atc ?_; refine l_call (hpop) ?_) | (refine l_atc ?_; refine l_call_ (hP) ?_; rintro _ _ _ ⟨rp, rfl, rfl⟩ he; cases he) | (refine l_atc ?_; refine l_call (hp2) ?_) | refine l_load (h := ?_) | refine l_store (h := ?_) | (refine l_alloc (h := ?_); intro _)))
  · rw [List.concat_eq_append] at *
    have hp2 := pop_does b' L' s2 (by simp at hlen; omega)
    have h2 := fun b13 b15 b16 rp => hlp b13 b15 b16 L' (some s2) rp (by simpa [abL] using hL1) (fun e => by cases e)
    dsimp only [Option.isSome, abC, abL, Sp.c] at h2
    refine l_inv (fun q => ndl_last (q.take (A := NdL (L' ++ [s2])) (by with_reducible (repeat (first | refine Take.here | apply Take.there))))) ?_
    refine l_inv (fun i => ndl_sing (s := s2) (i.take (A := Nds s2.d s2.r) (by with_reducible (repeat (first | refine Take.here | apply Take.there))))) ?_
    (repeat (first | ((with_reducible show G _ _ _ _ (Code.block 1 _) _ _ _ _); exact g_bang (h2 _ _ _ _)) | refine g_seq (h := ?_) | refine g_region (h := ?_) | refine l_nil (h := ?_) | refine n_then (h := ?_) | refine l_pures1 (h := ?_) | (refine l_atc ?_; refine l_call (hpop) ?_) | (refine l_atc ?_; refine l_call_ (hP) ?_; rintro _ _ _ ⟨rp, rfl, rfl⟩ he; cases he) | (refine l_atc ?_; refine l_call (hp2) ?_) | refine l_load (h := ?_) | refine l_store (h := ?_) | (refine l_alloc (h := ?_); intro _)))

theorem del_tree (sb db x N : Nat) (v : List UInt8) (root : Int) (U : List Int) (T : List Ent) (S : Sh) (D : Dk) (k : Fine N S D U) (ht : IsTree N S D U root T) (hv : getE T x = some v) (room : U.length + S.fresh.length + 25 < N) :
    Does Tryz.prog 14 [.pointer (some ⟨sb, 0, none⟩), .int .i64 root, .int .u64 x] [Store sb db S, Disk db D] (DelQ N U (delE T x) S D sb db) := by
  have hN := k.n
  have ht0 := ht
  rcases ht with ⟨rfl, rfl, h0⟩ | ⟨h, ps, o, hp⟩
  · simp [getE] at hv
  · obtain ⟨top, s, L, R, qs, r1, r2, r8, r3, r4, r5, r6, r7, f1, f2, r10, r11, hroot, he⟩ := tree_way k o hp x
    have hx : x ∈ s.d.keys := by
      apply Decidable.byContradiction
      intro c
      rw [if_neg c, hv] at he
      cases he
    have hlt : s.i < s.d.keys.length := by
      have hg := posN_gone r4.p.rise x
      rw [if_pos hx] at hg
      rw [r6]; omega
    obtain ⟨lt1, lt2⟩ := r3.lt f1
    obtain ⟨n1, n2⟩ := without_nt (g := Gd N D) (d := s.d) (es := s.d.ents) (ps := []) ⟨r5, r4.p, rfl, rfl⟩ hx
    have hlink := goes_link (up := []) r1 trivial
    rw [List.append_nil] at hlink
    refine del1_does sb db x N v root U T (delE T x) S D k ht0 hv top s r1 (by omega) hlt fun b16 L' ab t r e1 e2 e3 => DelI.next (h := 0) (Lf := L) (Rt := R) (es := delE s.d.ents x) (ps := []) (qs := qs) ⟨k, ?_, ?_, ?_, ?_, ?_, ?_, ?_⟩ e2 ?_ ?_ (by omega) ?_ rfl (.refl _ _ _)
    all_goals
      have e5 : (L' ++ abL ab).length = top.length := by rw [← e1, List.length_map]
      have e4 : t.pg = s.pg := congrArg Spot.pg e3
    · rw [e1]; exact r3
    · rw [r6]; exact n1
    · rw [e4]; exact r11
    · intro e h1
      rw [e1]
      exact f2 e (List.mem_filter.1 h1).1
    · rw [← r10, delE_mid lt1 lt2]
    · have := r4.size
      rw [r6]; omega
    · rw [e1, e4]; exact hlink
    · rw [e5]; omega
    · rw [e5]; omega
    · rw [e5]; omega
end Go.Proofs.YtpbibhhjbigdhaaGreat
/- TreeEmpties. -/
set_option maxRecDepth 20000
set_option linter.unusedVariables false
set_option linter.unusedSimpArgs false
namespace Go.Proofs.YtpbibhhjbigdhaaGreat
open Go.Proofs.YtpbibhhjbigdhaaGreat.SL

theorem Tr.del {N : Nat} {S : Sh} {D : Dk} {U : List Int} {root : Int} {T : List Ent} {m : Nat} (k : Tr N S D U root T m) (sb db x : Nat) (hx : (getE T x).isSome = true) (room : U.length + 2 * m + 25 < N) :
    Does Tryz.prog 14 [.pointer (some ⟨sb, 0, none⟩), .int .i64 root, .int .u64 x] [Store sb db S, Disk db D]
      (fun u H => ∃ r S' D', u = .tuple #[.int .i64 r, .bool true, .int .i64 0] ∧ H = [Store sb db S', Disk db D'] ∧ Tr N S' D' U r (delE T x) m ∧ S'.gen = S.gen ∧ Same U S D S' D') := by
  have h1 := k.tree.few
  have h2 := k.fine.fresh_le
  have h3 := k.len
  obtain ⟨v, hv⟩ := Option.isSome_iff_exists.1 hx
  refine (del_tree sb db x N v root U T S D k.fine k.tree hv (by omega)).mono ?_
  rintro u H ⟨r, S', D', rfl, rfl, a, b, c, d⟩
  exact ⟨r, S', D', rfl, rfl, ⟨b, a, by have := delE_len T x; omega⟩, c, d⟩

/-- The keys of a tree, in a list. -/
def KeyL (K : List Nat) (T : List Ent) : Prop := K.Nodup ∧ ∀ x, (getE T x).isSome = true ↔ x ∈ K
theorem KeyL.same {K : List Nat} {T : List Ent} (h : KeyL K T) {x : Nat} (v : List UInt8) (hx : (getE T x).isSome = true) : KeyL K (putE T x v) := by
  refine ⟨h.1, fun y => ?_⟩
  rw [getE_put]
  by_cases q : y = x
  · subst q
    rw [if_pos rfl]
    exact ⟨fun _ => (h.2 y).1 hx, fun _ => rfl⟩
  · rw [if_neg q]; exact h.2 y
theorem KeyL.add {K : List Nat} {T : List Ent} (h : KeyL K T) {x : Nat} (v : List UInt8) (hx : ¬ (getE T x).isSome = true) : KeyL (K ++ [x]) (putE T x v) := by
  have hn : x ∉ K := fun q => hx ((h.2 x).2 q)
  refine ⟨List.nodup_append.2 ⟨h.1, by simp, by rintro a ha b hb rfl; simp at hb; subst hb; exact hn ha⟩, fun y => ?_⟩
  rw [getE_put]
  by_cases q : y = x
  · subst q; simp
  · rw [if_neg q, h.2 y]; simp [q]

/-- Round about. -/
def rot (r n i : Nat) : Nat := if r + i < n then r + i else r + i - n
theorem rot_lt {r n i : Nat} (hr : r < n) (hi : i < n) : rot r n i < n := by unfold rot; split <;> omega
theorem rot_inj {r n i j : Nat} (hr : r < n) (hi : i < n) (hj : j < n) (h : rot r n i = rot r n j) : i = j := by
  unfold rot at h
  split at h <;> split at h <;> omega
theorem rot_onto {r n k : Nat} (hr : r < n) (hk : k < n) : ∃ i, i < n ∧ rot r n i = k := by
  by_cases q : r ≤ k
  · exact ⟨k - r, by omega, by unfold rot; split <;> omega⟩
  · exact ⟨k + n - r, by omega, by unfold rot; split <;> omega⟩
theorem rot_mod {a n i : Nat} (hn : 0 < n) (hi : i < n) (hb : n < 1000) : (IntKind.i64.wrap (Int.tmod (a : Int) (n : Int) + (i : Int))).tmod (n : Int) = ((rot (a % n) n i : Nat) : Int) := by
  have h1 : a % n < n := Nat.mod_lt _ hn
  rw [← Int.ofNat_tmod, wrapI64 (by omega)]
  rw [show ((a % n : Nat) : Int) + (i : Int) = ((a % n + i : Nat) : Int) by omega, ← Int.ofNat_tmod]
  congr 1
  unfold rot
  split
  · exact Nat.mod_eq_of_lt (by assumption)
  · rw [Nat.mod_eq_sub_mod (by omega)]
    exact Nat.mod_eq_of_lt (by omega)
/-- The keys that are there yet. -/
def RestK (K : List Nat) (r i : Nat) (T : List Ent) : Prop := ∀ x, (getE T x).isSome = true ↔ ∃ j, i ≤ j ∧ j < K.length ∧ K.getD (rot r K.length j) 0 = x
theorem RestK.start {K : List Nat} {T : List Ent} (h : KeyL K T) {a : Nat} : RestK K (a % K.length) 0 T := by
  intro x
  rw [h.2 x]
  constructor
  · intro hx
    obtain ⟨k, hk, rfl⟩ := List.mem_iff_getElem.1 hx
    obtain ⟨i, h1, h2⟩ := rot_onto (r := a % K.length) (n := K.length) (Nat.mod_lt _ (by omega)) hk
    exact ⟨i, Nat.zero_le _, h1, by rw [h2]; simp [List.getD, hk]⟩
  · rintro ⟨j, _, hj, rfl⟩
    exact getD_mem (rot_lt (Nat.mod_lt _ (by omega)) hj)
theorem RestK.step {K : List Nat} {T : List Ent} {r i : Nat} (hn : K.Nodup) (h : RestK K r i T) (hr : r < K.length) (hi : i < K.length) : RestK K r (i + 1) (delE T (K.getD (rot r K.length i) 0)) := by
  intro y
  rw [getE_del]
  by_cases q : y = K.getD (rot r K.length i) 0
  · rw [if_pos q]
    constructor
    · intro e; cases e
    · rintro ⟨j, h1, h2, h3⟩
      have e1 := rot_lt hr hi
      have e2 := rot_lt hr h2
      rw [q, List.getD, List.getD, List.getElem?_eq_getElem e1, List.getElem?_eq_getElem e2] at h3
      have := (List.getElem_inj hn).1 h3
      have := rot_inj hr h2 hi this
      omega
  · rw [if_neg q, h y]
    constructor
    · rintro ⟨j, h1, h2, h3⟩
      refine ⟨j, ?_, h2, h3⟩
      rcases Nat.lt_or_ge i j with c | c
      · exact c
      · obtain rfl : j = i := by omega
        exact absurd h3.symm q
    · rintro ⟨j, h1, h2, h3⟩
      exact ⟨j, by omega, h2, h3⟩
theorem RestK.none {K : List Nat} {T : List Ent} {r : Nat} (h : RestK K r K.length T) : T = [] := by
  cases T with
  | nil => rfl
  | cons e T =>
    have h1 : (getE (e :: T) e.1).isSome = true := by simp [getE]
    obtain ⟨j, h2, h3, _⟩ := (h e.1).1 h1
    omega
theorem Tr.empty {N : Nat} {S : Sh} {D : Dk} {root : Int} {m : Nat} (k : Tr N S D [] root [] m) : root = 0 ∧ S.left D = N - 2 := by
  have h1 := k.tree.few
  have h2 := k.fine.fresh_le
  have h3 : S.fresh.length = 0 := by simp at h1; rw [h1] at h2; simpa using h2
  have h4 := k.fine.h.u.count
  have h5 := k.fine.d.n
  refine ⟨?_, by unfold Sh.left; have h6 : countB S.used = 0 := h4; rw [h5, h6, h3]; omega⟩
  rcases k.tree with ⟨h, _⟩ | ⟨h, ps, o, p⟩
  · exact h
  · have := o.few
    simp at this

set_option maxHeartbeats 4000000 in
/-- What comes behind the first loop. -/
theorem empties_tail (b db xb sb rb a : Nat) (p pk : Option Addr) (ks : List Int) (K : List Nat) (cap ck : Nat) (o : Obj) (root : Int) (S : Sh) (D : Dk) (T : List Ent) (k : Tr 400 S D [] root T 50) (hK : KeyL K T) (hKl : K.length ≤ 50) (ha : a < 9223372036854775808) (w0 : World) (F0 : Nat → Prop) :
    G Tryz.prog 146 w0 F0 (nav [1, 1, 1, 1, 1, 1, 1, 1, 1] (bdy Tryz.f3)) (Post Tryz.prog Tryz.f3 w0 F0 (fun v H => v = .bool true ∧ H = [ins p ks.length (ks.map encZ') o]))
      [(8, .slice pk K.length ck), (6, .pointer (some ⟨b, 0, none⟩)), (5, .bool true), (1, .int .i64 (a : Nat))] [] [Wd b db xb sb rb root, Store sb db S, Disk db D, vec 38 1 pk K.length ck (uV K), ins p ks.length (ks.map encZ') o] := by
  obtain ⟨c, hc⟩ : ∃ c, c = nav [1, 1, 1, 1, 1, 1, 1, 1, 1] (bdy Tryz.f3) := ⟨_, rfl⟩
  rw [← hc]
  dsimp only [nav, bdy, Tryz.f3, Option.getD] at hc
  subst hc
  (repeat (first | refine g_seq (h := ?_) | refine g_region (h := ?_) | refine l_nil (h := ?_) | refine n_then (h := ?_) | refine l_pures1 (h := ?_) | refine g_block (h := ?_)))
  (refine g_loop (fun y : Nat × Int × Sh × Dk × List Ent => [(13, .int .i64 y.1), (8, .slice pk K.length ck), (6, .pointer (some ⟨b, 0, none⟩)), (5, .bool true), (1, .int .i64 (a : Nat))]) (fun y => [Wd b db xb sb rb y.2.1, Store sb db y.2.2.1, Disk db y.2.2.2.1, vec 38 1 pk K.length ck (uV K), ins p ks.length (ks.map encZ') o]) (fun y => Tr 400 y.2.2.1 y.2.2.2.1 [] y.2.1 y.2.2.2.2 50 ∧ RestK K (a % K.length) y.1 y.2.2.2.2 ∧ y.1 ≤ K.length) (fun y => K.length - y.1) ((0, root, S, D, T)) ?_ ?_ ?_ ?_; rotate_left; (repeat (first | refine ts_nil | (refine ts_cons rfl ?_ ?_; first | (with_reducible rfl) | rotate_left))); (first | (intro _ i; with_reducible refine i) | rotate_left); rotate_left; (try omega); rotate_right)
  · rintro ⟨i, root, S, D, T⟩ ⟨k, hr, hi⟩
    dsimp only at k hr hi ⊢
    by_cases hil : i < K.length
    · have hrl : a % K.length < K.length := Nat.mod_lt _ (by omega)
      have hrot := rot_mod (a := a) (n := K.length) (i := i) (by omega) hil (by omega)
      have hrt := rot_lt hrl hil
      obtain ⟨q, hq⟩ : ∃ q, q = rot (a % K.length) K.length i := ⟨_, rfl⟩
      rw [← hq] at hrot hrt
      have hib : 0 ≤ (IntKind.i64.wrap (Int.tmod (a : Int) (K.length : Int) + (i : Int))).tmod (K.length : Int) ∧ (IntKind.i64.wrap (Int.tmod (a : Int) (K.length : Int) + (i : Int))).tmod (K.length : Int) < K.length := by rw [hrot]; omega
      have hgk : (uV K)[0 + ((IntKind.i64.wrap (Int.tmod (a : Int) (K.length : Int) + (i : Int))).tmod (K.length : Int)).toNat * 1]? = some (.int .u64 (K.getD q 0 : Nat)) := by rw [hrot]; exact uGet hrt
      have hx : (getE T (K.getD q 0)).isSome = true := (hr _).2 ⟨i, Nat.le_refl _, hil, by rw [hq]⟩
      have hdel := k.del sb db (K.getD q 0) hx (by simp)
      have hKne : ((K.length : Nat) : Int) ≠ 0 := by omega
      refine g_ptr (m := K.length) (p := pk) (h := ?_); rintro gk rfl hck
      (repeat' (first | refine g_seq (h := ?_) | refine g_region (h := ?_) | refine l_nil (h := ?_) | refine n_then (h := ?_) | refine l_pures1 (h := ?_) | refine g_skip (h := ?_) | refine g_block (h := ?_) | (refine g_spT (h := ?_); intro h)))
      (refine g_draw [Wd b db xb sb rb root, vec 38 1 (some ⟨gk, 0, none⟩) K.length ck (uV K)] (h := a_pass2 (h := ?_)))
      (repeat' (first | refine g_seq (h := ?_) | refine g_region (h := ?_) | refine l_nil (h := ?_) | refine n_then (h := ?_) | refine l_pures1 (h := ?_) | (refine l_at 14 ?_; refine l_call_ (hdel) ?_; rintro _ _ _ ⟨r', S', D', rfl, rfl, k', _, _⟩ he; cases he) | refine l_guard_yes (h := ?_) | refine l_store (h := ?_) | refine l_indexAddr (h := ?_) | refine l_rem (h := ?_) | refine g_skip (h := ?_) | refine a_done (h := ?_) | refine a_load (h := a_pass2 (h := ?_)) | refine a_one (h := ?_) | refine n_any (h := a_pass2 (h := ?_)) | refine n_block (h := ?_) | refine g_cond_f (h := ?_) | refine l_load_vec (h := ?_)))
      (refine n_back ((i + 1, r', S', D', delE T (K.getD q 0))) ?_ ?_ ?_ ?_; rotate_left; rotate_left; (repeat (first | refine ts_nil | (refine ts_cons rfl ?_ ?_; first | (with_reducible rfl) | rotate_left))); (first | (intro _ i; with_reducible refine i) | rotate_left); (try omega); (try omega))
      · exact ⟨k', by rw [hq]; exact hr.step hK.1 hrl hil, hil⟩
      · dsimp only; omega
      · rw [wrapI64 (by omega)]; rfl
    · obtain rfl : i = K.length := by omega
      obtain rfl := hr.none
      obtain ⟨rfl, hleft⟩ := k.empty
      have hL := sLeft_does sb db S D
      rw [hleft] at hL
      (repeat' (first | refine g_seq (h := ?_) | refine g_region (h := ?_) | refine l_nil (h := ?_) | refine n_then (h := ?_) | refine l_pures1 (h := ?_) | (refine l_atc ?_; refine l_call (hL) ?_) | refine l_guard_yes (h := ?_) | refine l_load (h := ?_) | refine g_ret (h := ?_) | refine g_exit (h := ?_) | refine n_then_exit (h := ?_) | refine n_block_hit (h := ?_) | (refine g_spF (h := ?_); intro h)))
      refine r_retk [ins p ks.length (ks.map encZ') o] ?_
      exact ⟨rfl, rfl⟩
  · exact ⟨k, RestK.start hK, Nat.zero_le _⟩
  · rfl

set_option maxHeartbeats 4000000 in
theorem TreeEmpties_does (p : Option Addr) (ks : List Int) (cap : Nat) (o : Obj) (at' : Int) (hk : ∀ z ∈ ks, (Lit.int .i64 z).wf = true) (hl : ks.length ≤ 9223372036854775807) (h1 : -9223372036854775808 ≤ at' ∧ at' < 9223372036854775808) :
    Does Tryz.prog 3 [.slice p ks.length cap, .int .i64 at'] [ins p ks.length (ks.map encZ') o] (fun v H => v = .bool true ∧ H = [ins p ks.length (ks.map encZ') o]) := by
  obtain ⟨E1, f1, k0⟩ := tr_new (N := 400) (by omega)
  have hb := begins_does (i := 400) (n := 400) rfl (by omega) f1
  refine does_of Tryz.func3 Tryz.ntmps3 rfl rfl rfl (fun w0 F0 => ?_)
  (repeat' (first | refine g_seq (h := ?_) | refine g_region (h := ?_) | refine l_nil (h := ?_) | refine n_then (h := ?_) | refine l_pures1 (h := ?_) | (refine l_atc ?_; refine l_call (examples_does) ?_) | (refine l_atc ?_; refine l_call_ (hb) ?_; rintro _ _ _ ⟨b, db, xb, sb, rb, rfl, rfl⟩ he; cases he) | refine g_skip (h := ?_) | refine g_cond_f (h := ?_)))
  (refine l_makeMap_k (.u64) (Value.bool) (h := ?_); intro _)
  (repeat (first | refine g_seq (h := ?_) | refine g_region (h := ?_) | refine l_nil (h := ?_) | refine n_then (h := ?_) | refine l_pures1 (h := ?_) | refine g_block (h := ?_)))
  rename_i mb
  refine g_inv (fun i => vec_nil (38) (1) i) ?_
  refine g_inv (H' := [vec 38 1 none ([] : List Nat).length 0 (uV []), mpk .u64 mb Value.bool [], Wd b db xb sb rb 0, Store sb db headNew.over, Disk db E1, ins p ks.length (ks.map encZ') o]) (fun i => i) ?_
  (refine g_loop (fun y : Nat × (Int × Sh × Dk × List Ent) × List (Int × Bool) × Option Addr × Nat × List Nat => [(10, .int .i64 y.1), (9, .map (some mb)), (8, .slice y.2.2.2.1 y.2.2.2.2.2.length y.2.2.2.2.1), (6, .pointer (some ⟨b, 0, none⟩)), (5, .bool true), (0, .slice p ks.length cap), (1, .int .i64 at')]) (fun y => [mpk .u64 mb Value.bool y.2.2.1, Wd b db xb sb rb y.2.1.1, Store sb db y.2.1.2.1, Disk db y.2.1.2.2.1, vec 38 1 y.2.2.2.1 y.2.2.2.2.2.length y.2.2.2.2.1 (uV y.2.2.2.2.2), ins p ks.length (ks.map encZ') o]) (fun y => Tr 400 y.2.1.2.1 y.2.1.2.2.1 [] y.2.1.1 y.2.1.2.2.2 y.1 ∧ Met y.2.2.1 y.2.1.2.2.2 ∧ KeyL y.2.2.2.2.2 y.2.1.2.2.2 ∧ y.2.2.2.2.2.length ≤ y.1 ∧ y.1 ≤ ks.length ∧ y.1 ≤ 50) (fun y => ks.length - y.1) ((0, (0, headNew.over, E1, []), [], none, 0, [])) ?_ ?_ ?_ ?_; rotate_left; (repeat (first | refine ts_nil | (refine ts_cons rfl ?_ ?_; first | (with_reducible rfl) | rotate_left))); (first | (intro _ i; with_reducible refine i) | rotate_left); rotate_left; (try omega); rotate_right)
  · rintro ⟨j, ⟨root, S, D, T⟩, kv, pk, ck, K⟩ ⟨k, hm, hK, hKj, hj, hj50⟩
    dsimp only at k hm hK hKj hj hj50 ⊢
    by_cases hjl : j < ks.length ∧ j < 50
    · refine g_open (o := ins_opens (p := p) (m := ks.length) (by omega)) (h := ?_); (rintro ⟨gb, off, row, fr, T0⟩ ⟨rfl, rfl, v5, v6, v7⟩; dsimp only [List.cons_append, List.nil_append])
      have hgt : row[off + j * 1]? = some (.int .i64 (ks.getD j 0)) := ins_get v5 hjl.1 (by rw [List.getElem?_map, List.getD, List.getElem?_eq_getElem hjl.1]; rfl)
      have hw := wf_i64 (hk _ (getD_mem hjl.1 (z := 0)))
      have hkey := key_does (ks.getD j 0) hw
      have hval := value_does (j : Int) (by omega)
      have hput := k.put sb db (keyN (ks.getD j 0)) (valN j) (keyN_lt _) (valN_len _) (by simp; omega)
      have hmx := hm (keyN (ks.getD j 0))
      have hul : (uV K).length = K.length := by simp [uV]
      (repeat' (first | refine g_seq (h := ?_) | refine g_region (h := ?_) | refine l_nil (h := ?_) | refine n_then (h := ?_) | refine l_pures1 (h := ?_) | refine l_guard_yes (h := ?_) | refine g_skip (h := ?_) | refine g_block (h := ?_) | (refine l_spT (h := ?_); intro h) | (refine g_spT (h := ?_); intro h)))
      (refine g_draw [Wd b db xb sb rb root, pts gb (.cells row.toArray T0 fr)] (h := a_pass2 (h := ?_)))
      (repeat' (first | refine g_seq (h := ?_) | refine g_region (h := ?_) | refine l_nil (h := ?_) | refine n_then (h := ?_) | refine l_pures1 (h := ?_) | (refine l_atc ?_; refine l_call (hkey) ?_) | (refine l_atc ?_; refine l_call (hval) ?_) | (refine l_atc ?_; refine l_call_ (hput) ?_; rintro _ _ _ ⟨r', S', D', rfl, rfl, k', g', r2⟩ he; cases he) | refine l_store (h := ?_) | refine l_load_p (h := ?_) | refine l_indexAddr (h := ?_) | (refine l_buildSlice1 (h := ?_); intro _) | (refine l_append_new (h := ?_); intro _ _) | refine g_skip (h := ?_) | refine a_done (h := ?_) | refine a_load (h := a_pass2 (h := ?_)) | refine a_one (h := ?_) | refine n_any (h := a_pass2 (h := ?_)) | refine n_block (h := ?_) | refine g_cond_f (h := ?_) | refine l_lookup_k _ (h := ?_) | refine l_mapUpdate_k (h := ?_) | (refine g_sp (h1 := ?_) (h0 := ?_) <;> intro h)))
      · rename_i b1 p' cap'
        have hn : ¬ (getE T (keyN (ks.getD j 0))).isSome = true := by rw [← hmx, h]; simp
        have e0 : K.length + 1 = (K ++ [keyN (ks.getD j 0)]).length := by simp
        have e1 : uV K ++ [Value.int .u64 (keyN (ks.getD j 0) : Nat)] = uV (K ++ [keyN (ks.getD j 0)]) := by simp [uV]
        rw [e0]
        refine n_inv (H' := [vec 38 1 p' (K ++ [keyN (ks.getD j 0)]).length cap' (uV (K ++ [keyN (ks.getD j 0)])), mpk .u64 mb Value.bool (kvPut kv (keyN (ks.getD j 0) : Nat) true), Wd b db xb sb rb r', Store sb db S', Disk db D', pts gb (.cells row.toArray T0 fr)]) (fun i => by rw [← e1]; exact inv_keep parts_of i) ?_
        refine n_shut (ins_shuts v5 v6 v7) (h := ?_)
        (refine n_back ((j + 1, (r', S', D', putE T (keyN (ks.getD j 0)) (valN j)), kvPut kv (keyN (ks.getD j 0) : Nat) true, p', cap', K ++ [keyN (ks.getD j 0)])) ?_ ?_ ?_ ?_; rotate_left; rotate_left; (repeat (first | refine ts_nil | (refine ts_cons rfl ?_ ?_; first | (with_reducible rfl) | rotate_left))); (first | (intro _ i; with_reducible refine i) | rotate_left); (try omega); (try omega))
        · exact ⟨k', hm.put _ _, hK.add _ hn, by simp; omega, hjl.1, hjl.2⟩
        all_goals first
          | (dsimp only; omega)
          | (rw [wrapI64 (by omega)]; rfl)
          | (intro _ i; exact inv_keep parts_of i)
          | rfl
      · have hn : (getE T (keyN (ks.getD j 0))).isSome = true := by rw [← hmx, h]
        refine n_shut (ins_shuts v5 v6 v7) (h := ?_)
        (refine n_back ((j + 1, (r', S', D', putE T (keyN (ks.getD j 0)) (valN j)), kvPut kv (keyN (ks.getD j 0) : Nat) true, pk, ck, K)) ?_ ?_ ?_ ?_; rotate_left; rotate_left; (repeat (first | refine ts_nil | (refine ts_cons rfl ?_ ?_; first | (with_reducible rfl) | rotate_left))); (first | (intro _ i; with_reducible refine i) | rotate_left); (try omega); (try omega))
        · exact ⟨k', hm.put _ _, hK.same _ hn, by dsimp only; omega, hjl.1, hjl.2⟩
        all_goals first
          | (dsimp only; omega)
          | (rw [wrapI64 (by omega)]; rfl)
          | (intro _ i; exact inv_keep parts_of i)
          | rfl
    · have hend := fun a ha => empties_tail b db xb sb rb a p pk ks K cap ck o root S D T ⟨k.fine, k.tree, by have := k.len; omega⟩ hK (by omega) ha w0 F0
      by_cases hneg : at' < 0
      · have h2 := hend (-(at' + 1)).toNat (by omega)
        have e1 : (((-(at' + 1)).toNat : Nat) : Int) = IntKind.i64.wrap (0 - IntKind.i64.wrap (at' + 1)) := by rw [wrapI64 (n := at' + 1) (by omega), wrapI64 (by omega)]; omega
        rw [e1] at h2
        (repeat' (first | ((with_reducible show G _ _ _ _ (Code.seq (Code.seq (Code.region 21 _ _) _) _) _ _ _ _); exact g_bang (h2)) | refine g_seq (h := ?_) | refine g_region (h := ?_) | refine l_nil (h := ?_) | refine n_then (h := ?_) | refine l_pures1 (h := ?_) | refine l_guard_yes (h := ?_) | refine l_guard_no (h := ?_) | refine g_exit (h := ?_) | refine n_then_exit (h := ?_) | refine n_block_hit (h := ?_) | refine g_cond_f (h := ?_) | (refine l_sp (h1 := ?_) (h0 := ?_) <;> intro h) | (refine g_spT (h := ?_); intro h) | (refine g_spF (h := ?_); intro h)))
      · have h2 := hend at'.toNat (by omega)
        have e1 : ((at'.toNat : Nat) : Int) = at' := by omega
        rw [e1] at h2
        (repeat' (first | ((with_reducible show G _ _ _ _ (Code.seq (Code.seq (Code.region 21 _ _) _) _) _ _ _ _); exact g_bang (h2)) | refine g_seq (h := ?_) | refine g_region (h := ?_) | refine l_nil (h := ?_) | refine n_then (h := ?_) | refine l_pures1 (h := ?_) | refine l_guard_yes (h := ?_) | refine l_guard_no (h := ?_) | refine g_skip (h := ?_) | refine g_exit (h := ?_) | refine n_then_exit (h := ?_) | refine n_block_hit (h := ?_) | refine g_cond_f (h := ?_) | (refine l_sp (h1 := ?_) (h0 := ?_) <;> intro h) | (refine g_spF (h := ?_); intro h)))
  all_goals first
    | exact ⟨k0, fun y => rfl, ⟨List.nodup_nil, fun x => by simp [getE]⟩, Nat.le_refl _, Nat.zero_le _, Nat.zero_le _⟩
    | rfl
    | (intro _ i; exact inv_keep parts_of i)
end Go.Proofs.YtpbibhhjbigdhaaGreat
/- The framework, part 18: what a call of yield comes to, over assertions that hide. -/
set_option linter.unusedVariables false
set_option linter.unusedSimpArgs false
namespace Go.Proofs.YtpbibhhjbigdhaaGreat.SL

/-- The parts of a loop over a function. -/
def rfA : Code → Code
  | .rangeFunc _ _ a _ => a
  | c => c
def rfB : Code → Code
  | .rangeFunc _ _ _ b => b
  | c => c
theorem gr_weak {P : Program} {n : Nat} {w0 : World} {F0 : Nat → Prop} {Q : Exit → Act → World → Prop} {tm : List (Nat × Value)} {D : List Deferred} {H : List SProp} {r : Nat} {c : Code} {tm' : List (Nat × Value)} {H' : List SProp} (ht : tsub tm tm') (hh : ∀ {w}, Inv w0 F0 H w → Inv w0 F0 H' w) (h : GR P n w0 F0 r c Q tm' D H') : GR P n w0 F0 r c Q tm D H :=
  .mk fun a w s => h.h a w ⟨s.tm.sub ht, s.defers, hh s.inv⟩
theorem gr_as {P : Program} {n : Nat} {w0 : World} {F0 : Nat → Prop} {Q : Exit → Act → World → Prop} {tm : List (Nat × Value)} {D : List Deferred} {H : List SProp} {r : Nat} {c c' : Code} (e : c = c') (h : GR P n w0 F0 r c' Q tm D H) : GR P n w0 F0 r c Q tm D H := e ▸ h
section
variable {P : Program} {l : Nat} {xs : List Value} {q : Value → List SProp → Prop}
theorem Yields.open {α : Type} {A : SProp} {p : α → Prop} {K : α → List SProp} (o : Opens A p K) (h : ∀ x, p x → Yields P l xs (K x) q) : Yields P l xs [A] q := fun w F s => by
  obtain ⟨F1, F2, a, e, d, u⟩ := s
  obtain ⟨x, hx, s1⟩ := o _ _ a
  exact h x hx w F (sep_congr s1 (fun b => ⟨fun h => (u b).2 (.inl h), fun h => ((u b).1 h).elim id (fun q => (e b q).elim)⟩))
/-- What is told behind may be told otherwise, and less. -/
theorem Yields.post {H : List SProp} {q' : Value → List SProp → Prop} (h : Yields P l xs H q') (k : ∀ v H', q' v H' → ∃ H'', q v H'' ∧ ∀ {w0 : World} {F0 : Nat → Prop} {w : World}, Inv w0 F0 H' w → Inv w0 F0 H'' w) : Yields P l xs H q := fun w F s => by
  obtain ⟨fn, tmps, assign, body, e, r⟩ := h w F s
  refine ⟨fn, tmps, assign, body, e, r.mono ?_⟩
  rintro e w' ⟨v, H', he, hq, hi⟩
  obtain ⟨H'', h1, h2⟩ := k v H' hq
  exact ⟨v, H'', he, h1, h2 hi⟩
/-- The parts of an assertion stand in a list. -/
theorem shut_of {α : Type} {p : α → Prop} {K : α → List SProp} {H R : List SProp} (x : α) (hx : p x) (pt : Parts (K x) H R) {w0 : World} {F0 : Nat → Prop} {w : World} (i : Inv w0 F0 H w) : Inv w0 F0 [hid p K] w :=
  Inv.drop (K := [hid p K]) (H' := R) (i.shut (hid_shuts x hx) pt)
/-- A contract whose post is weaker, what is owned behind it less. -/
theorem does_drop {f : FuncId} {args : List Value} {H : List SProp} {q q' : Value → List SProp → Prop} (d : Does P f args H q) (h : ∀ v H1, q v H1 → ∃ H2, q' v H2 ∧ ∀ {w0 : World} {F0 : Nat → Prop} {w : World}, Inv w0 F0 H1 w → Inv w0 F0 H2 w) : Does P f args H q' := fun w F s =>
  (d w F s).mono fun e w' ⟨v, H1, e1, hq, i⟩ => by
    obtain ⟨H2, h2, h3⟩ := h v H1 hq
    exact ⟨v, H2, e1, h2, h3 i⟩
/-- A contract whose post is told otherwise, where what is owned may be opened. -/
theorem does_post {f : FuncId} {args : List Value} {H : List SProp} {q q' : Value → List SProp → Prop} (d : Does P f args H q) (h : ∀ v H1, q v H1 → ∀ {w0 : World} {F0 : Nat → Prop} {w : World}, Inv w0 F0 H1 w → ∃ H2, q' v H2 ∧ Inv w0 F0 H2 w) : Does P f args H q' := fun w F s =>
  (d w F s).mono fun e w' ⟨v, H1, e1, hq, i⟩ => by
    obtain ⟨H2, h2, h3⟩ := h v H1 hq i
    exact ⟨v, H2, e1, h2, h3⟩
theorem Inv.less {w0 w : World} {F F' : Nat → Prop} {H : List SProp} (i : Inv w0 F' H w) (h : ∀ b, b < w0.heap.size → ¬ F b → ¬ F' b) : Inv w0 F H w := by
  obtain ⟨⟨G, s, o⟩, fr, sz, a, b, c⟩ := i
  exact ⟨⟨G, s, fun b hb n => o b hb (h b hb n)⟩, fun b hb n => fr b hb (h b hb n), sz, a, b, c⟩
/-- A contract from what is owned otherwise. -/
theorem does_pre {f : FuncId} {args : List Value} {H H' : List SProp} {q : Value → List SProp → Prop} (d : Does P f args H q) (k : ∀ {w0 : World} {F0 : Nat → Prop} {w : World}, Inv w0 F0 H' w → Inv w0 F0 H w) : Does P f args H' q := fun w F s => by
  obtain ⟨⟨F', s', o⟩, _⟩ := k (Inv.start s)
  exact (d w F' s').mono fun e w' ⟨v, H1, e1, hq, i⟩ => ⟨v, H1, e1, hq, i.less o⟩
end
end Go.Proofs.YtpbibhhjbigdhaaGreat.SL
/- Package tree: from, the keys from one on, handed to a consumer. -/
set_option maxRecDepth 20000
set_option linter.unusedVariables false
set_option linter.unusedSimpArgs false
namespace Go.Proofs.YtpbibhhjbigdhaaGreat
open Go.Proofs.YtpbibhhjbigdhaaGreat.SL

abbrev entV (e : Ent) : Value := .agg #[.int .u64 (e.1 : Nat), .string (str e.2)]
/-- What a consumer has when it is fed: it may stop. -/
def feed (stop : List Ent → Bool) : List Ent → List Ent → List Ent × Bool
  | dn, [] => (dn, false)
  | dn, e :: es => if stop (dn ++ [e]) then (dn ++ [e], true) else feed stop (dn ++ [e]) es
theorem feed_append (stop : List Ent → Bool) : ∀ (a b dn : List Ent), feed stop dn (a ++ b) = if (feed stop dn a).2 then feed stop dn a else feed stop (feed stop dn a).1 b
  | [], b, dn => by simp [feed]
  | e :: a, b, dn => by
    simp only [List.cons_append, feed]
    split
    · simp
    · exact feed_append stop a b _
theorem feed_len (stop : List Ent → Bool) : ∀ (es dn : List Ent), (feed stop dn es).1.length ≤ dn.length + es.length
  | [], dn => by simp [feed]
  | e :: es, dn => by
    simp only [feed]
    split
    · simp
    · have := feed_len stop es (dn ++ [e])
      simp only [List.length_append, List.length_cons, List.length_nil] at *
      omega
def geE (es : List Ent) (x : Nat) : List Ent := es.filter fun e => decide (x ≤ e.1)
theorem geE_append (a b : List Ent) (x : Nat) : geE (a ++ b) x = geE a x ++ geE b x := by simp [geE]

/-- The consumer, going on or stopped. -/
def fedP (C X : List Ent → SProp) (r : List Ent × Bool) : SProp := if r.2 then X r.1 else C r.1

theorem ge_zip : ∀ {ks : List Nat} {vs : List (List UInt8)} {x : Nat}, Rise ks → geE (ks.zip vs) x = (ks.zip vs).drop (posN ks x)
  | [], _, _, _ => by simp [geE]
  | _ :: _, [], _, _ => by simp [geE]
  | k :: ks, v :: vs, x, h => by
    obtain ⟨h1, h2⟩ := List.pairwise_cons.1 h
    have ih := ge_zip (vs := vs) (x := x) h2
    simp only [List.zip_cons_cons, geE, List.filter_cons, posN_cons]
    by_cases q : k < x
    · rw [if_neg (by simp; omega), if_pos q, List.drop_succ_cons]; exact ih
    · rw [if_pos (by simp; omega), if_neg q, List.drop_zero]
      congr 1
      refine List.filter_eq_self.2 fun e he => ?_
      have := h1 _ (zip_fst_mem he)
      simp; omega

set_option maxHeartbeats 4000000 in
theorem from_leaf (b sb db x N l : Nat) (C X : List Ent → SProp) (stop : List Ent → Bool) (hY : ∀ dn e, dn.length < 100000 → SL.Yields Tryz.prog l [entV e] [C dn] (fun v H => v = .bool (!stop (dn ++ [e])) ∧ H = [if stop (dn ++ [e]) then X (dn ++ [e]) else C (dn ++ [e])]))
    (deep : Nat) (pg read : Int) (S : Sh) (D : Dk) (d : Nd) (hd : d.good) (hlf : d.leaf = true) (hr : S.read D pg = ((2, d.text, 0), S)) (h1 : 0 ≤ read ∧ read < 640) (h2 : deep ≤ 10) (dn : List Ent) (hdl : dn.length + d.ents.length ≤ 100000) :
    Does Tryz.prog 79 [.pointer (some ⟨b, 0, none⟩), .int .i64 pg, .int .i64 deep, .int .u64 x, .func (.yield l) #[] #[]] [C dn, Wk b sb read 0, Store sb db S, Disk db D]
      (fun v H => v = .bool (!(feed stop dn (geE d.ents x)).2) ∧ H = [fedP C X (feed stop dn (geE d.ents x)), Wk b sb (read + 1) 0, Store sb db S, Disk db D]) := by
  have hn := wNode_does b sb db deep pg read S D d hd hr h1 h2
  have hF := fun r => Find_does d r x hd.fits hd.p.rise
  simp only [hlf, if_true] at hF
  refine does_of Tryz.func79 Tryz.ntmps79 rfl rfl rfl (fun w0 F0 => ?_)
  (repeat' (first | refine g_seq (h := ?_) | refine g_region (h := ?_) | refine l_nil (h := ?_) | refine n_then (h := ?_) | refine l_pures1 (h := ?_) | (refine l_atc ?_; refine l_call_ (hn) ?_; rintro _ _ _ ⟨r, rfl, rfl⟩ he; cases he) | (refine l_atc ?_; refine l_call (hF _) ?_) | refine l_load (h := ?_) | refine l_store (h := ?_) | (refine l_alloc (h := ?_); intro _) | refine g_skip (h := ?_) | refine g_block (h := ?_) | refine g_cond_f (h := ?_) | (refine g_sp (h1 := ?_) (h0 := ?_) <;> intro h)))
  · exact absurd h (by rw [hlf]; simp)
  rename_i b11
  have hv := valsLen hd.p hlf
  have hne := hd.some hlf
  have hfk := hd.fits.k
  have hpos := posN_le d.keys x
  have hel : d.ents.length = d.keys.length := by simp [Nd.ents, hv]
  obtain ⟨p1, c1, p2, c2, p3, c3⟩ := r
  refine g_open (A := Nds d ⟨p1, c1, p2, c2, p3, c3⟩) (h := ?_); (rintro _ _; dsimp only [NdsK, List.cons_append, List.nil_append])
  refine g_ptr (m := d.keys.length) (h := ?_); rintro g1 rfl hc1
  refine g_ptr (m := d.vals.length) (h := ?_); rintro g2 rfl hc2
  (refine g_loop (fun y : Nat × List Ent => [(12, .int .i64 y.1), (11, .pointer (some ⟨b11, 0, none⟩)), (4, .func (.yield l) #[] #[])]) (fun y => [C y.2, vec 38 1 (some ⟨g1, 0, none⟩) d.keys.length c1 (uV d.keys), vec 9 1 (some ⟨g2, 0, none⟩) d.vals.length c2 (d.vals.map encS), cl b11 79 [.bool d.leaf, .slice (some ⟨g1, 0, none⟩) d.keys.length c1, .slice (some ⟨g2, 0, none⟩) d.vals.length c2, .slice p3 d.kids.length c3], Wk b sb (read + 1) 0, Store sb db S, Disk db D]) (fun y => y.1 ≤ d.keys.length ∧ feed stop dn (geE d.ents x) = feed stop y.2 (d.ents.drop y.1) ∧ y.2.length + (d.ents.length - y.1) ≤ 100000) (fun y => d.keys.length - y.1) ((posN d.keys x, dn)) ?_ ?_ ?_ ?_; rotate_left; (repeat (first | refine ts_nil | (refine ts_cons rfl ?_ ?_; first | (with_reducible rfl) | rotate_left))); (first | (intro _ i; with_reducible refine i) | rotate_left); rotate_left; (try omega); rotate_right)
  · rintro ⟨j, dn'⟩ ⟨hj, hf, hdl'⟩
    dsimp only at hj hf hdl' ⊢
    by_cases hjl : j < d.keys.length
    · have hgk := uGet (l := d.keys) (k := j) hjl
      have hgs := sGet (l := d.vals) (k := j) (by omega)
      obtain ⟨e, he⟩ : ∃ e : Ent, e = (d.keys.getD j 0, d.vals.getD j []) := ⟨_, rfl⟩
      have hdr : d.ents.drop j = e :: d.ents.drop (j + 1) := by
        rw [List.drop_eq_getElem_cons (by omega), he]
        simp [Nd.ents, List.getD, hjl, hv]
      have hYj := hY dn' e (by omega)
      rw [he] at hYj
      (repeat' (first | refine g_seq (h := ?_) | refine g_region (h := ?_) | refine l_nil (h := ?_) | refine n_then (h := ?_) | refine l_pures1 (h := ?_) | refine l_load (h := ?_) | refine g_skip (h := ?_) | refine g_block (h := ?_) | (refine g_spT (h := ?_); intro h)))
      refine g_draw_at 12 [vec 38 1 (some ⟨g1, 0, none⟩) d.keys.length c1 (uV d.keys), vec 9 1 (some ⟨g2, 0, none⟩) d.vals.length c2 (d.vals.map encS), cl b11 79 [.bool d.leaf, .slice (some ⟨g1, 0, none⟩) d.keys.length c1, .slice (some ⟨g2, 0, none⟩) d.vals.length c2, .slice p3 d.kids.length c3]] (h := a_pass2 (h := ?_))
      cases hst : stop (dn' ++ [e])
      · rw [← he, hst] at hYj
        simp only [Bool.not_false, Bool.false_eq_true, if_false] at hYj
        rw [he] at hYj
        (repeat (first | (refine lw_i ?_; refine lw_yield (hYj) (h := ?_); rintro _ _ _ ⟨rfl, rfl⟩ he; cases he) | refine g_region (h := ?_) | refine l_nil (h := ?_) | refine n_then (h := ?_) | refine l_pures1 (h := ?_) | refine g_skip (h := ?_) | refine a_done (h := ?_) | refine a_load (h := a_pass2 (h := ?_)) | refine a_one (h := ?_) | refine n_any (h := a_pass2 (h := ?_)) | refine a_v (h := ?_) | refine n_block (h := ?_) | refine g_cond_f (h := ?_) | refine l_load_vec (h := ?_) | refine a_load_vec (h := a_pass2 (h := ?_)) | refine n_lw (h := ?_) | refine lw_nil (h := ?_) | refine lw_step (h := ?_)))
        (refine n_back ((j + 1, dn' ++ [(d.keys.getD j 0, d.vals.getD j [])])) ?_ ?_ ?_ ?_; rotate_left; rotate_left; (repeat (first | refine ts_nil | (refine ts_cons rfl ?_ ?_; first | (with_reducible rfl) | rotate_left))); (first | (intro _ i; with_reducible refine i) | rotate_left); (try omega); (try omega))
        · refine ⟨hjl, ?_, by dsimp only; rw [List.length_append, List.length_singleton]; omega⟩
          rw [hf, hdr, feed, hst, he]; rfl
        · dsimp only; omega
        · rw [wrapI64 (by omega)] <;> rfl
      · rw [← he, hst] at hYj
        simp only [Bool.not_true, if_true] at hYj
        rw [he] at hYj
        (repeat (first | (refine lw_i ?_; refine lw_yield (hYj) (h := ?_); rintro _ _ _ ⟨rfl, rfl⟩ he; cases he) | refine g_seq (h := ?_) | refine g_region (h := ?_) | refine l_nil (h := ?_) | refine n_then (h := ?_) | refine l_pures1 (h := ?_) | refine g_ret (h := ?_) | refine n_then_ret (h := ?_) | refine n_block_ret (h := ?_) | refine a_done (h := ?_) | refine a_load (h := a_pass2 (h := ?_)) | refine a_one (h := ?_) | refine n_any (h := a_pass2 (h := ?_)) | refine a_v (h := ?_) | refine g_cond_t (h := ?_) | refine l_load_vec (h := ?_) | refine a_load_vec (h := a_pass2 (h := ?_)) | refine n_lw (h := ?_) | refine lw_nil (h := ?_) | refine lw_step (h := ?_)))
        have hfe : feed stop dn (geE d.ents x) = (dn' ++ [(d.keys.getD j 0, d.vals.getD j [])], true) := by rw [hf, hdr, feed, hst, he]; rfl
        refine r_retk [X (dn' ++ [(d.keys.getD j 0, d.vals.getD j [])]), Wk b sb (read + 1) 0, Store sb db S, Disk db D] ?_
        rw [hfe]
        exact ⟨rfl, rfl⟩
    · have hfe : feed stop dn (geE d.ents x) = (dn', false) := by rw [hf, List.drop_eq_nil_of_le (by omega)]; rfl
      (repeat' (first | refine g_seq (h := ?_) | refine g_region (h := ?_) | refine l_nil (h := ?_) | refine n_then (h := ?_) | refine l_pures1 (h := ?_) | refine l_load (h := ?_) | refine g_ret (h := ?_) | refine g_exit (h := ?_) | refine n_then_exit (h := ?_) | refine n_block_hit (h := ?_) | (refine g_spF (h := ?_); intro h)))
      refine r_retk [C dn', Wk b sb (read + 1) 0, Store sb db S, Disk db D] ?_
      rw [hfe]
      exact ⟨rfl, rfl⟩
  · exact ⟨hpos, by rw [Nd.ents, ge_zip hd.p.rise], by dsimp only; omega⟩
  · intro _ i
    exact inv_keep parts_of i
end Go.Proofs.YtpbibhhjbigdhaaGreat
/- Package tree: from of a whole tree. -/
set_option maxRecDepth 20000
set_option linter.unusedVariables false
set_option linter.unusedSimpArgs false
namespace Go.Proofs.YtpbibhhjbigdhaaGreat
open Go.Proofs.YtpbibhhjbigdhaaGreat.SL

theorem sepL_lt {x : Nat} : ∀ {kl : List Nat} {sl : List Sub}, SepL kl sl → (∀ k ∈ kl, k ≤ x) → ∀ e ∈ Sub.all sl, e.1 < x
  | [], [], _, _, e, he => by simp [Sub.all] at he
  | k :: kl, s :: sl, ⟨h1, h2, h3⟩, hk, e, he => by
    rw [Sub.all_cons, List.mem_append] at he
    rcases he with he | he
    · have := h1 e he
      have := hk k (by simp)
      omega
    · exact sepL_lt h3 (fun k hk' => hk k (by simp [hk'])) e he
theorem geE_none {es : List Ent} {x : Nat} (h : ∀ e ∈ es, e.1 < x) : geE es x = [] := by
  refine List.filter_eq_nil_iff.2 fun e he => ?_
  have := h e he
  simp; omega
theorem all2_get {α β : Type} {R : α → β → Prop} : ∀ {l : List α} {m : List β} {i : Nat} {a : α}, All2 R l m → l[i]? = some a → ∃ b, m[i]? = some b ∧ R a b
  | [], [], i, a, _, h => by simp at h
  | x :: l, y :: m, 0, a, q, h => by simp only [List.getElem?_cons_zero, Option.some.injEq] at h ⊢; subst h; exact ⟨y, rfl, q.1⟩
  | x :: l, y :: m, i + 1, a, q, h => by simp only [List.getElem?_cons_succ] at h ⊢; exact all2_get q.2 h

set_option maxHeartbeats 4000000 in
theorem from_does (b sb db x N l : Nat) (C X : List Ent → SProp) (stop : List Ent → Bool) (hY : ∀ dn e, dn.length < 100000 → SL.Yields Tryz.prog l [entV e] [C dn] (fun v H => v = .bool (!stop (dn ++ [e])) ∧ H = [if stop (dn ++ [e]) then X (dn ++ [e]) else C (dn ++ [e])]))
    {S : Sh} {D : Dk} {U : List Int} (k : Fine N S D U) : ∀ (h : Nat) (d : Nd) (es : List Ent) (ps : List Int) (deep : Nat) (pg read : Int) (dn : List Ent), NT (Gd N D) h d es ps → d.good → (d.leaf = false → d.keys ≠ []) → Gd N D pg d → deep + h ≤ 10 → 0 ≤ read → read + ps.length + 1 ≤ 640 → dn.length + es.length ≤ 100000 →
    Does Tryz.prog 79 [.pointer (some ⟨b, 0, none⟩), .int .i64 pg, .int .i64 deep, .int .u64 x, .func (.yield l) #[] #[]] [C dn, Wk b sb read 0, Store sb db S, Disk db D]
      (fun v H => ∃ rd : Int, 0 ≤ rd ∧ rd ≤ read + ps.length + 1 ∧ v = .bool (!(feed stop dn (geE es x)).2) ∧ H = [fedP C X (feed stop dn (geE es x)), Wk b sb rd 0, Store sb db S, Disk db D])
  | 0, d, es, ps, deep, pg, read, dn, n, hd, hne, hg, hdp, hr0, hrd, hdl => by
    obtain ⟨hlf, hp, rfl, rfl⟩ := n
    refine (from_leaf b sb db x N l C X stop hY deep pg read S D d hd hlf (by rw [k.read hg.1, hg.2]) (by simp at hrd; omega) (by omega) dn hdl).mono ?_
    rintro v H ⟨rfl, rfl⟩
    exact ⟨read + 1, by omega, by simp, rfl, rfl⟩
  | hh + 1, d, es, ps, deep, pg, read, dn, n, hd, hne, hg, hdp, hr0, hrd, hdl => by
    have hlf := n.1
    obtain ⟨_, _, ss, f, e, e2, sp⟩ := n
    subst e e2
    have hlen := sp.len
    have hkl := kidsLen hd.p hlf
    obtain ⟨c1', c2', c3'⟩ := cntN_spec (x := x) hd.p.rise
    obtain ⟨i0, hi0⟩ : ∃ i0, i0 = cntN d.keys x := ⟨_, rfl⟩
    rw [← hi0] at c1' c2' c3'
    have hn := wNode_does b sb db deep pg read S D d hd (by rw [k.read hg.1, hg.2]) (by omega) (by omega)
    have hF := fun r => Find_does d r x hd.fits hd.p.rise
    simp only [hlf, Bool.false_eq_true, if_false, ← hi0] at hF
    have hfk := hd.fits.k
    have h0 : geE (Sub.all (ss.take i0)) x = [] := by
      refine geE_none (sepL_lt (kl := d.keys.take i0) (sl := ss.take i0) ?_ c2')
      have := (sep_app (kl := d.keys.take i0) (kr := d.keys.drop i0) (sl := ss.take i0) (sr := ss.drop i0) (by simp; omega)).1 (by rw [List.take_append_drop, List.take_append_drop]; exact sp)
      exact this.1
    have hall : geE (Sub.all ss) x = geE (Sub.all (ss.drop i0)) x := by
      have : Sub.all ss = Sub.all (ss.take i0) ++ Sub.all (ss.drop i0) := by rw [← Sub.all_append, List.take_append_drop]
      rw [this, geE_append, h0, List.nil_append]
    have hpl : (Sub.pages (ss.drop i0)).length ≤ (Sub.pages ss).length := by
      have : Sub.pages ss = Sub.pages (ss.take i0) ++ Sub.pages (ss.drop i0) := by rw [← Sub.pages_append, List.take_append_drop]
      rw [this, List.length_append]; omega
    have hal : (Sub.all (ss.drop i0)).length ≤ (Sub.all ss).length := by
      have : Sub.all ss = Sub.all (ss.take i0) ++ Sub.all (ss.drop i0) := by rw [← Sub.all_append, List.take_append_drop]
      rw [this, List.length_append]; omega
    refine does_of Tryz.func79 Tryz.ntmps79 rfl rfl rfl (fun w0 F0 => ?_)
    (repeat' (first | refine g_seq (h := ?_) | refine g_region (h := ?_) | refine l_nil (h := ?_) | refine n_then (h := ?_) | refine l_pures1 (h := ?_) | (refine l_atc ?_; refine l_call_ (hn) ?_; rintro _ _ _ ⟨r, rfl, rfl⟩ he; cases he) | (refine l_atc ?_; refine l_call (hF _) ?_) | refine l_load (h := ?_) | refine l_store (h := ?_) | (refine l_alloc (h := ?_); intro _) | refine g_skip (h := ?_) | refine g_block (h := ?_) | refine g_cond_f (h := ?_) | (refine g_sp (h1 := ?_) (h0 := ?_) <;> intro h)))
    rotate_left
    · exact absurd h (by rw [hlf]; simp)
    rename_i b11
    obtain ⟨p1, q1, p2, q2, p3, q3⟩ := r
    refine g_open (A := Nds d ⟨p1, q1, p2, q2, p3, q3⟩) (h := ?_); (rintro _ _; dsimp only [NdsK, List.cons_append, List.nil_append])
    refine g_ptr (m := d.kids.length) (h := ?_); rintro g3 rfl hc3
    (refine g_loop (fun y : Nat × List Ent × Int => [(12, .int .i64 y.1), (11, .pointer (some ⟨b11, 0, none⟩)), (4, .func (.yield l) #[] #[]), (3, .int .u64 x), (2, .int .i64 deep), (0, .pointer (some ⟨b, 0, none⟩))]) (fun y => [C y.2.1, vec 3 1 (some ⟨g3, 0, none⟩) d.kids.length q3 (d.kids.map encZ'), cl b11 79 [.bool d.leaf, .slice p1 d.keys.length q1, .slice p2 d.vals.length q2, .slice (some ⟨g3, 0, none⟩) d.kids.length q3], Wk b sb y.2.2 0, Store sb db S, Disk db D]) (fun y => y.1 ≤ d.kids.length ∧ feed stop dn (geE (Sub.all ss) x) = feed stop y.2.1 (geE (Sub.all (ss.drop y.1)) x) ∧ 0 ≤ y.2.2 ∧ y.2.2 + (Sub.pages (ss.drop y.1)).length ≤ read + 1 + (Sub.pages ss).length ∧ y.2.1.length + (Sub.all (ss.drop y.1)).length ≤ 100000) (fun y => d.kids.length - y.1) ((i0, dn, read + 1)) ?_ ?_ ?_ ?_; rotate_left; (repeat (first | refine ts_nil | (refine ts_cons rfl ?_ ?_; first | (with_reducible rfl) | rotate_left))); (first | (intro _ i; with_reducible refine i) | rotate_left); rotate_left; (try omega); rotate_right)
    · rintro ⟨j, dn', rd⟩ ⟨hj, hf, hr1, hr2, hr3⟩
      dsimp only at hj hf hr1 hr2 hr3 ⊢
      by_cases hjl : j < d.kids.length
      · have hgk := iGet (l := d.kids) (k := j) hjl
        obtain ⟨s, hs, d', ps', a1, a2, a3, a4, a5⟩ := all2_get f (List.getElem?_eq_getElem hjl)
        have hkid : d.kids.getD j 0 = d.kids[j] := by simp [List.getD, hjl]
        have hdr : ss.drop j = s :: ss.drop (j + 1) := by
          have hjs : j < ss.length := (List.getElem?_eq_some_iff.1 hs).1
          rw [List.drop_eq_getElem_cons hjs]
          congr 1
          rw [List.getElem?_eq_getElem hjs] at hs
          exact Option.some.inj hs
        rw [hdr, Sub.pages_cons, List.length_append, a5, List.length_cons] at hr2
        rw [hdr, Sub.all_cons, List.length_append] at hr3
        have hfl := feed_len stop (geE s.es x) dn'
        have hgl : (geE s.es x).length ≤ s.es.length := List.length_filter_le _ _
        have ih := from_does b sb db x N l C X stop hY k hh d' s.es ps' (deep + 1) d.kids[j] rd dn' a4 a2 a3 a1 (by omega) hr1 (by omega) (by omega)
        have ew : IntKind.i64.wrap ((deep : Int) + 1) = ((deep + 1 : Nat) : Int) := by rw [wrapI64 (by omega)]; rfl
        rw [← ew, ← hkid] at ih
        have hfs : feed stop dn (geE (Sub.all ss) x) = if (feed stop dn' (geE s.es x)).2 then feed stop dn' (geE s.es x) else feed stop (feed stop dn' (geE s.es x)).1 (geE (Sub.all (ss.drop (j + 1))) x) := by
          rw [hf, hdr, Sub.all_cons, geE_append, feed_append]
        obtain ⟨⟨dn2, st⟩, hfd⟩ : ∃ r, feed stop dn' (geE s.es x) = r := ⟨_, rfl⟩
        rw [hfd] at ih hfs hfl
        dsimp only at hfl
        cases st
        · simp only [fedP, Bool.false_eq_true, if_false, Bool.not_false] at ih hfs
          (repeat' (first | refine g_seq (h := ?_) | refine g_region (h := ?_) | refine l_nil (h := ?_) | refine n_then (h := ?_) | refine l_pures1 (h := ?_) | (refine l_atc ?_; refine l_call_ (ih) ?_; rintro _ _ _ ⟨rd2, v1, v2, rfl, rfl⟩ he; cases he) | refine l_load (h := ?_) | refine l_indexAddr (h := ?_) | refine g_skip (h := ?_) | refine g_block (h := ?_) | refine n_block (h := ?_) | refine g_cond_f (h := ?_) | refine l_load_vec (h := ?_) | (refine g_spT (h := ?_); intro h)))
          (refine n_back ((j + 1, dn2, rd2)) ?_ ?_ ?_ ?_; rotate_left; rotate_left; (repeat (first | refine ts_nil | (refine ts_cons rfl ?_ ?_; first | (with_reducible rfl) | rotate_left))); (first | (intro _ i; with_reducible refine i) | rotate_left); (try omega); (try omega))
          · exact ⟨hjl, by rw [hfs], v1, by dsimp only; omega, by dsimp only; omega⟩
          · dsimp only; omega
          · rw [wrapI64 (by omega)] <;> rfl
          · skip
            (intro _ i; exact inv_keep parts_of i)
        · simp only [fedP, if_true, Bool.not_true] at ih hfs
          (repeat' (first | refine g_seq (h := ?_) | refine g_region (h := ?_) | refine l_nil (h := ?_) | refine n_then (h := ?_) | refine l_pures1 (h := ?_) | (refine l_atc ?_; refine l_call_ (ih) ?_; rintro _ _ _ ⟨rd2, v1, v2, rfl, rfl⟩ he; cases he) | refine l_load (h := ?_) | refine l_indexAddr (h := ?_) | refine g_skip (h := ?_) | refine g_ret (h := ?_) | refine n_then_ret (h := ?_) | refine n_block_ret (h := ?_) | refine g_block (h := ?_) | refine g_cond_t (h := ?_) | refine l_load_vec (h := ?_) | (refine g_spT (h := ?_); intro h)))
          refine r_retk [X dn2, Wk b sb rd2 0, Store sb db S, Disk db D] ?_
          rw [hfs]
          exact ⟨rd2, v1, by omega, rfl, rfl⟩
      · have hfs : feed stop dn (geE (Sub.all ss) x) = (dn', false) := by rw [hf, List.drop_eq_nil_of_le (by omega)]; rfl
        (repeat' (first | refine g_seq (h := ?_) | refine g_region (h := ?_) | refine l_nil (h := ?_) | refine n_then (h := ?_) | refine l_pures1 (h := ?_) | refine l_load (h := ?_) | refine g_ret (h := ?_) | refine n_then_ret (h := ?_) | refine g_exit (h := ?_) | refine n_then_exit (h := ?_) | refine n_block_hit (h := ?_) | (refine g_spF (h := ?_); intro h)))
        refine r_retk [C dn', Wk b sb rd 0, Store sb db S, Disk db D] ?_
        rw [hfs]
        exact ⟨rd, hr1, by omega, rfl, rfl⟩
    · exact ⟨by dsimp only; omega, hall ▸ rfl, by dsimp only; omega, by dsimp only; omega, by dsimp only; omega⟩
    · intro _ i
      exact inv_keep parts_of i
end Go.Proofs.YtpbibhhjbigdhaaGreat
/- Package tree: Scan. -/
set_option maxRecDepth 20000
set_option linter.unusedVariables false
set_option linter.unusedSimpArgs false
namespace Go.Proofs.YtpbibhhjbigdhaaGreat
open Go.Proofs.YtpbibhhjbigdhaaGreat.SL

def entC (es : List Ent) : List Value := es.flatMap fun e => [Value.int .u64 (e.1 : Nat), .string (str e.2)]
theorem entC_snoc (es : List Ent) (e : Ent) : entC (es ++ [e]) = entC es ++ [Value.int .u64 (e.1 : Nat), .string (str e.2)] := by simp [entC]
theorem entC_len (es : List Ent) : (entC es).length = es.length * 2 := by
  induction es with
  | nil => rfl
  | cons e es ih => simp only [entC, List.flatMap_cons, List.length_append, List.length_cons, List.length_nil] at *; omega

theorem entries_does (b : Nat) (root : Int) (x : Nat) : Does Tryz.prog 44 [.pointer (some ⟨b, 0, none⟩), .int .i64 root, .int .u64 x] []
    (fun v H => ∃ b1 b2 b3, v = .func (.func 78) #[] #[.pointer (some ⟨b1, 0, none⟩), .pointer (some ⟨b2, 0, none⟩), .pointer (some ⟨b3, 0, none⟩)] ∧
      H = [cl b1 72 [.pointer (some ⟨b, 0, none⟩)], cl b2 3 [.int .i64 root], cl b3 38 [.int .u64 x]]) := by
  refine does_of Tryz.func44 Tryz.ntmps44 rfl rfl rfl (fun w0 F0 => ?_)
  (repeat (first | refine g_seq (h := ?_) | refine g_region (h := ?_) | refine l_nil (h := ?_) | refine n_then (h := ?_) | refine l_pures1 (h := ?_) | (refine l_box (h := ?_); intro _) | refine g_ret (h := ?_)))
  rename_i b1 b2 b3
  refine r_retk [cl b1 72 [.pointer (some ⟨b, 0, none⟩)], cl b2 3 [.int .i64 root], cl b3 38 [.int .u64 x]] ?_
  exact ⟨b1, b2, b3, rfl, rfl⟩

theorem entriesF_does (b b1 b2 b3 sb db l : Nat) (root : Int) (x : Nat) (S : Sh) (D : Dk) (K : List SProp) (q : Value → List SProp → Prop) (A : SProp)
    (hd : Does Tryz.prog 79 [.pointer (some ⟨b, 0, none⟩), .int .i64 root, .int .i64 1, .int .u64 x, .func (.yield l) #[] #[]] [A, Wk b sb 0 0, Store sb db S, Disk db D] q) :
    Does Tryz.prog 78 [.func (.yield l) #[] #[], .pointer (some ⟨b1, 0, none⟩), .pointer (some ⟨b2, 0, none⟩), .pointer (some ⟨b3, 0, none⟩)]
      [A, Wk b sb 0 0, Store sb db S, Disk db D, cl b1 72 [.pointer (some ⟨b, 0, none⟩)], cl b2 3 [.int .i64 root], cl b3 38 [.int .u64 x]]
      (fun v H => ∃ u K', q u K' ∧ H = K' ++ [cl b1 72 [.pointer (some ⟨b, 0, none⟩)], cl b2 3 [.int .i64 root], cl b3 38 [.int .u64 x]]) := by
  refine does_of Tryz.func78 Tryz.ntmps78 rfl rfl rfl (fun w0 F0 => ?_)
  (repeat (first | refine g_region (h := ?_) | refine l_pures1 (h := ?_) | (refine l_atc ?_; refine l_call_ (hd) ?_) | refine l_load (h := ?_)))
  rintro v K' H'' hq he
  rw [appO_eq] at he
  cases he
  (repeat refine l_nil (h := ?_))
  refine r_end ?_
  exact ⟨v, K', hq, rfl⟩

/-- The consumer of Scan: the loop's record, what was found, how many are asked. -/
abbrev ScK (l n : Nat) (tm : List (Nat × Value)) (asg body : Code) (st : LoopState) (pe : Option Code) (b11 b7 : Nat) (most : Int) (dn : List Ent) (x : Option Addr × Nat) : List SProp :=
  [lp l n tm #[26] asg body st pe, cl b11 49 [.slice x.1 dn.length x.2], vec 53 2 x.1 dn.length x.2 (entC dn), cl b7 3 [.int .i64 most]]
def Sc (l n : Nat) (tm : List (Nat × Value)) (asg body : Code) (st : LoopState) (pe : Option Code) (b11 b7 : Nat) (most : Int) (dn : List Ent) : SProp := hid (fun _ : Option Addr × Nat => True) (ScK l n tm asg body st pe b11 b7 most dn)

set_option maxHeartbeats 4000000 in
theorem scan_yields0 (l b11 b7 : Nat) (most : Int) (tm0 : List (Nat × Value)) (asg body : Code) (dn : List Ent) (e : Ent) (p : Option Addr) (cap : Nat) (hdn : dn.length < 100000) (w11 : tget tm0 11 = some (.pointer (some ⟨b11, 0, none⟩))) (w7 : tget tm0 7 = some (.pointer (some ⟨b7, 0, none⟩)))
    (hA : asg = rfA (nav [1, 1, 1, 1, 0, 1, 2] (bdy Tryz.f17))) (hB : body = rfB (nav [1, 1, 1, 1, 0, 1, 2] (bdy Tryz.f17))) :
    SL.Yields Tryz.prog l [entV e] (ScK l 45 tm0 asg body .ready none b11 b7 most dn (p, cap))
      (fun v H => v = .bool (!decide (((dn ++ [e]).length : Int) = most)) ∧ ∃ x R, Parts (if ((dn ++ [e]).length : Int) = most then ScK l 45 tm0 asg body .done (some (.exit 0)) b11 b7 most (dn ++ [e]) x else ScK l 45 tm0 asg body .ready none b11 b7 most (dn ++ [e]) x) H R) := by
  dsimp only [ScK]
  refine yields_of (ps := [26]) (fun w0 F0 => ?_)
  refine gr_weak (tm' := [(26, entV e), (11, .pointer (some ⟨b11, 0, none⟩)), (7, .pointer (some ⟨b7, 0, none⟩))]) ⟨rfl, w11, w7, trivial⟩ (fun i => i) ?_
  have e0 : (dn ++ [e]).length = dn.length + 1 := by simp
  have e1 : entC dn ++ #[Value.int .u64 (e.1 : Nat), .string (str e.2)].toList = entC (dn ++ [e]) := (entC_snoc dn e).symm
  refine gr_as hA ?_
  dsimp only [rfA, nav, bdy, Tryz.f17, Option.getD]
  (repeat (first | refine l_nil (h := ?_) | refine l_store (h := ?_) | (refine l_alloc (h := ?_); intro _) | refine gr_region (h := ?_)))
  rename_i b12
  refine n_begin (h := ?_)
  refine gr_as hB ?_
  dsimp only [rfA, rfB, nav, bdy, Tryz.f17, Option.getD]
  (repeat' (first | refine l_nil (h := ?_) | refine l_pures1 (h := ?_) | refine l_load (h := ?_) | refine l_store (h := ?_) | (refine l_buildSlice1 (h := ?_); intro _) | (refine l_append_new (h := ?_); intro _ _) | refine n_block_miss (h := ?_) | refine n_block (h := ?_) | refine gr_seq (h := ?_) | refine gr_region (h := ?_) | refine nr_then (h := ?_) | refine gr_block (h := ?_) | refine gr_skip (h := ?_) | refine gr_exit (h := ?_) | (refine gr_sp (h1 := ?_) (h0 := ?_) <;> intro h)))
  all_goals rename_i b1 p' cap'
  all_goals have hm := h
  all_goals rw [← e0] at hm ⊢
  all_goals rw [e1]
  · refine n_round_x ⟨by rw [decide_eq_true hm]; rfl, (p', cap'), ?_⟩
    rw [if_pos hm]
    exact ⟨_, parts_of⟩
  · refine n_round ⟨by rw [decide_eq_false hm]; rfl, (p', cap'), ?_⟩
    rw [if_neg hm]
    exact ⟨_, parts_of⟩
theorem scan_yields (l b11 b7 : Nat) (most : Int) (tm0 : List (Nat × Value)) (asg body : Code) (w11 : tget tm0 11 = some (.pointer (some ⟨b11, 0, none⟩))) (w7 : tget tm0 7 = some (.pointer (some ⟨b7, 0, none⟩)))
    (hA : asg = rfA (nav [1, 1, 1, 1, 0, 1, 2] (bdy Tryz.f17))) (hB : body = rfB (nav [1, 1, 1, 1, 0, 1, 2] (bdy Tryz.f17))) (dn : List Ent) (e : Ent) (hdn : dn.length < 100000) :
    SL.Yields Tryz.prog l [entV e] [Sc l 45 tm0 asg body .ready none b11 b7 most dn] (fun v H => v = .bool (!decide (((dn ++ [e]).length : Int) = most)) ∧ H = [if decide (((dn ++ [e]).length : Int) = most) = true then Sc l 45 tm0 asg body .done (some (.exit 0)) b11 b7 most (dn ++ [e]) else Sc l 45 tm0 asg body .ready none b11 b7 most (dn ++ [e])]) := by
  refine SL.Yields.open hid_opens ?_
  rintro ⟨p, cap⟩ _
  refine (scan_yields0 l b11 b7 most tm0 asg body dn e p cap hdn w11 w7 hA hB).post ?_
  rintro v H' ⟨rfl, x, R, hp⟩
  refine ⟨_, ⟨rfl, rfl⟩, ?_⟩
  intro w0 F0 w i
  by_cases hm : ((dn ++ [e]).length : Int) = most
  · rw [if_pos hm] at hp
    rw [if_pos (by simpa using hm)]
    exact shut_of (p := fun _ : Option Addr × Nat => True) (K := ScK l 45 tm0 asg body .done (some (.exit 0)) b11 b7 most (dn ++ [e])) x trivial hp i
  · rw [if_neg hm] at hp
    rw [if_neg (by simpa using hm)]
    exact shut_of (p := fun _ : Option Addr × Nat => True) (K := ScK l 45 tm0 asg body .ready none b11 b7 most (dn ++ [e])) x trivial hp i

/-- The first keys from one on. -/
theorem feed_take (most : Int) (h : 1 ≤ most) : ∀ (es dn : List Ent), (dn.length : Int) < most → feed (fun l => decide ((l.length : Int) = most)) dn es = if dn.length + es.length < most then (dn ++ es, false) else (dn ++ es.take (most.toNat - dn.length), true)
  | [], dn, hl => by
    rw [if_pos (by simpa using hl)]; simp [feed]
  | e :: es, dn, hl => by
    simp only [feed, List.length_append, List.length_cons, List.length_nil, Nat.zero_add]
    by_cases q : ((dn.length + 1 : Nat) : Int) = most
    · rw [if_pos (by simpa using q), if_neg (by omega)]
      have : most.toNat - dn.length = 1 := by omega
      rw [this]; simp
    · rw [if_neg (by simpa using q), feed_take most h es (dn ++ [e]) (by simp; omega)]
      simp only [List.length_append, List.length_cons, List.length_nil, Nat.zero_add]
      by_cases q2 : ((dn.length + 1 : Nat) : Int) + (es.length : Nat) < most
      · rw [if_pos (by omega), if_pos (by omega)]; simp
      · rw [if_neg (by omega), if_neg (by omega)]
        have : most.toNat - dn.length = (most.toNat - (dn.length + 1)) + 1 := by omega
        rw [this, List.take_succ_cons]; simp

/-- What Scan has behind its loop. -/
def ScF (bw b11 b7 b1 b2 b3 sb db x : Nat) (root most : Int) (S : Sh) (D : Dk) (es : List Ent) (K' : List SProp) : Prop :=
  ∃ (p : Option Addr) (cap : Nat) (rd : Int), K' = [cl b11 49 [.slice p es.length cap], vec 53 2 p es.length cap (entC es), cl b7 3 [.int .i64 most], Wk bw sb rd 0, Store sb db S, Disk db D, cl b1 72 [.pointer (some ⟨bw, 0, none⟩)], cl b2 3 [.int .i64 root], cl b3 38 [.int .u64 x]]
theorem scan_hs (bw b11 b7 b1 b2 b3 sb db x N : Nat) (root most : Int) (U : List Int) (T : List Ent) (S : Sh) (D : Dk) (k : Fine N S D U) {h : Nat} {ps : List Int} (o : OnP (Gd N D) h root ⟨T, ps⟩) (hp : ps.length + 2 ≤ N) (hT : T.length < 10000) (hmo : 1 ≤ most) (l : Nat)
    (tm0 : List (Nat × Value)) (asg body : Code) (w11 : tget tm0 11 = some (.pointer (some ⟨b11, 0, none⟩))) (w7 : tget tm0 7 = some (.pointer (some ⟨b7, 0, none⟩)))
    (hA : asg = rfA (nav [1, 1, 1, 1, 0, 1, 2] (bdy Tryz.f17))) (hB : body = rfB (nav [1, 1, 1, 1, 0, 1, 2] (bdy Tryz.f17))) :
    Does Tryz.prog 78 [.func (.yield l) #[] #[], .pointer (some ⟨b1, 0, none⟩), .pointer (some ⟨b2, 0, none⟩), .pointer (some ⟨b3, 0, none⟩)]
      [lp l 45 tm0 #[26] asg body .ready none, cl b11 49 [.slice none 0 0], vec 53 2 none 0 0 [], cl b7 3 [.int .i64 most], Wk bw sb 0 0, Store sb db S, Disk db D, cl b1 72 [.pointer (some ⟨bw, 0, none⟩)], cl b2 3 [.int .i64 root], cl b3 38 [.int .u64 x]]
      (fun _ H' => (∃ K', H' = lp l 45 tm0 #[26] asg body .ready none :: K' ∧ ScF bw b11 b7 b1 b2 b3 sb db x root most S D ((geE T x).take most.toNat) K') ∨ ∃ c K', H' = lp l 45 tm0 #[26] asg body .done (some c) :: K' ∧ c = .exit 0 ∧ ScF bw b11 b7 b1 b2 b3 sb db x root most S D ((geE T x).take most.toNat) K') := by
  have hN := k.n
  have hh := o.high
  obtain ⟨d, ps1, g, hd, hne, hn, e⟩ := o
  dsimp only at e hn
  subst e
  simp only [List.length_cons] at hp hh
  have h8 := high_le hh (by omega)
  have hf := from_does bw sb db x N l (fun dn => Sc l 45 tm0 asg body .ready none b11 b7 most dn) (fun dn => Sc l 45 tm0 asg body .done (some (.exit 0)) b11 b7 most dn) (fun l => decide ((l.length : Int) = most)) (fun dn e hdn => scan_yields l b11 b7 most tm0 asg body w11 w7 hA hB dn e hdn) k h d T ps1 1 root 0 [] hn hd hne g (by omega) (by omega) (by omega) (by simp; omega)
  have hpre : ∀ {w0 : World} {F0 : Nat → Prop} {w : World}, Inv w0 F0 (lp l 45 tm0 #[26] asg body .ready none :: [cl b11 49 [.slice none 0 0], vec 53 2 none 0 0 [], cl b7 3 [.int .i64 most], Wk bw sb 0 0, Store sb db S, Disk db D, cl b1 72 [.pointer (some ⟨bw, 0, none⟩)], cl b2 3 [.int .i64 root], cl b3 38 [.int .u64 x]]) w → Inv w0 F0 (Sc l 45 tm0 asg body .ready none b11 b7 most [] :: [Wk bw sb 0 0, Store sb db S, Disk db D, cl b1 72 [.pointer (some ⟨bw, 0, none⟩)], cl b2 3 [.int .i64 root], cl b3 38 [.int .u64 x]]) w := fun i =>
    Inv.shuts (K := ScK l 45 tm0 asg body .ready none b11 b7 most [] (none, 0)) (hid_shuts (p := fun _ : Option Addr × Nat => True) (K := ScK l 45 tm0 asg body .ready none b11 b7 most []) (none, 0) trivial) i
  have hft := feed_take most hmo (geE T x) [] (by simp; omega)
  by_cases hlt : ((geE T x).length : Int) < most
  · have e : (geE T x).take most.toNat = geE T x := List.take_of_length_le (by omega)
    rw [if_pos (by simpa using hlt), List.nil_append] at hft
    rw [hft] at hf
    refine does_pre (does_post (entriesF_does bw b1 b2 b3 sb db l root x S D [] _ _ hf) ?_) hpre
    rintro v H1 ⟨u, K', ⟨rd, r1, r2, rfl, rfl⟩, rfl⟩ w0 F0 w i
    rw [e]
    obtain ⟨⟨p, cap⟩, _, i2⟩ := Inv.opens (H := [Wk bw sb rd 0, Store sb db S, Disk db D, cl b1 72 [.pointer (some ⟨bw, 0, none⟩)], cl b2 3 [.int .i64 root], cl b3 38 [.int .u64 x]]) (hid_opens (p := fun _ : Option Addr × Nat => True) (K := ScK l 45 tm0 asg body .ready none b11 b7 most (geE T x))) i
    exact ⟨lp l 45 tm0 #[26] asg body .ready none :: _, .inl ⟨_, rfl, p, cap, rd, rfl⟩, i2⟩
  · rw [if_neg (by simpa using hlt), List.nil_append, List.length_nil, Nat.sub_zero] at hft
    rw [hft] at hf
    refine does_pre (does_post (entriesF_does bw b1 b2 b3 sb db l root x S D [] _ _ hf) ?_) hpre
    rintro v H1 ⟨u, K', ⟨rd, r1, r2, rfl, rfl⟩, rfl⟩ w0 F0 w i
    obtain ⟨⟨p, cap⟩, _, i2⟩ := Inv.opens (H := [Wk bw sb rd 0, Store sb db S, Disk db D, cl b1 72 [.pointer (some ⟨bw, 0, none⟩)], cl b2 3 [.int .i64 root], cl b3 38 [.int .u64 x]]) (hid_opens (p := fun _ : Option Addr × Nat => True) (K := ScK l 45 tm0 asg body .done (some (.exit 0)) b11 b7 most ((geE T x).take most.toNat))) i
    exact ⟨lp l 45 tm0 #[26] asg body .done (some (.exit 0)) :: _, .inr ⟨_, _, rfl, rfl, p, cap, rd, rfl⟩, i2⟩
/-- A tree, whatever else there is on the disk. -/
def OldTree (N : Nat) (D : Dk) (root : Int) (T : List Ent) : Prop := (root = 0 ∧ T = []) ∨ ∃ h ps, OnP (Gd N D) h root ⟨T, ps⟩ ∧ ps.length + 2 ≤ N
theorem Fine.afterFew {N : Nat} {S : Sh} {D : Dk} {U : List Int} (k : Fine N S D U) : (S.after U).length + 2 ≤ N := by
  have hN := k.n
  have hal := nodup_sub (A := S.after U) (B := (List.range' 2 (N - 2)).map (fun n : Nat => (n : Int))) k.afterNodup (by
    intro a ha
    have ha2 : 2 ≤ a ∧ a < N := by
      rcases (Sh.mem_after.1 ha).1 with h | h
      · have := k.h.b a h; omega
      · have := k.f.2 a h; omega
    exact List.mem_map.2 ⟨a.toNat, List.mem_range'_1.2 (by omega), by omega⟩)
  simp only [List.length_map, List.length_range'] at hal
  omega
theorem IsTree.old {N : Nat} {S : Sh} {D : Dk} {U : List Int} {root : Int} {T : List Ent} (ht : IsTree N S D U root T) (k : Fine N S D U) : OldTree N D root T := by
  rcases ht with ⟨h1, h2, _⟩ | ⟨h, ps, o, hp⟩
  · exact .inl ⟨h1, h2⟩
  · exact .inr ⟨h, ps, o, by have := hp.length_eq; have := k.afterFew; omega⟩
set_option maxHeartbeats 4000000 in
theorem scan_old (sb db x N : Nat) (root most : Int) (U : List Int) (T : List Ent) (S : Sh) (D : Dk) (k : Fine N S D U) (ht : OldTree N D root T) (hT : T.length < 10000) (hm64 : -9223372036854775808 ≤ most ∧ most < 9223372036854775808) :
    Does Tryz.prog 17 [.pointer (some ⟨sb, 0, none⟩), .int .i64 root, .int .u64 x, .int .i64 most] [Store sb db S, Disk db D]
      (fun v H => ∃ p cap, v = .tuple #[.slice p ((geE T x).take most.toNat).length cap, .int .i64 0] ∧ H = [vec 53 2 p ((geE T x).take most.toNat).length cap (entC ((geE T x).take most.toNat)), Store sb db S, Disk db D]) := by
  have hnil : root = 0 → T = [] := by
    rintro rfl
    rcases ht with ⟨_, h⟩ | ⟨h, ps, ⟨d, ps1, g, _⟩, _⟩
    · exact h
    · have := g.1; omega
  refine does_of_m Tryz.func17 Tryz.ntmps17 rfl rfl rfl (fun w0 F0 => ?_)
  (repeat' (first | refine g_seq (h := ?_) | refine g_region (h := ?_) | refine l_nil (h := ?_) | refine n_then (h := ?_) | refine l_pures1 (h := ?_) | refine l_guard_yes (h := ?_) | refine l_guard_no (h := ?_) | refine l_load (h := ?_) | (refine l_box (h := ?_); intro _) | (refine l_alloc (h := ?_); intro _) | refine g_skip (h := ?_) | refine g_ret (h := ?_) | refine n_then_ret (h := ?_) | refine g_cond_t (h := ?_) | (refine l_sp (h1 := ?_) (h0 := ?_) <;> intro h) | (refine g_sp (h1 := ?_) (h0 := ?_) <;> intro h)))
  · refine n_inv (fun i => vec_nil (53) (2) i) ?_
    have e : (geE T x).take most.toNat = [] := by rw [hnil (by assumption)]; simp [geE]
    rw [e]
    refine r_retm [vec 53 2 none 0 0 [], Store sb db S, Disk db D] ?_
    exact ⟨none, 0, rfl, rfl⟩
  · refine n_inv (fun i => vec_nil (53) (2) i) ?_
    have e : (geE T x).take most.toNat = [] := by rw [show most.toNat = 0 by omega]; rfl
    rw [e]
    refine r_retm [vec 53 2 none 0 0 [], Store sb db S, Disk db D] ?_
    exact ⟨none, 0, rfl, rfl⟩
  · rename_i b7 hr0 bw b11
    refine l_inv (H' := [cl b11 49 [.slice none 0 0], Wk bw sb 0 0, cl b7 3 [.int .i64 most], Store sb db S, Disk db D]) (fun i => i) ?_
    (repeat (first | refine l_nil (h := ?_) | refine n_then (h := ?_) | (refine l_atc ?_; refine l_call_ (entries_does bw root x) ?_; rintro _ _ _ ⟨b1, b2, b3, rfl, rfl⟩ he; cases he) | refine g_block (h := ?_)))
    refine g_inv (fun i => vec_nil (53) (2) i) ?_
    rcases ht with ⟨q, _⟩ | ⟨h0, ps, o, hp⟩
    · exact absurd q hr0
    refine g_rangeFunc (qn := ScF bw b11 b7 b1 b2 b3 sb db x root most S D ((geE T x).take most.toNat)) (qx := fun c K' => c = .exit 0 ∧ ScF bw b11 b7 b1 b2 b3 sb db x root most S D ((geE T x).take most.toNat) K') (K := [cl b11 49 [.slice none 0 0], vec 53 2 none 0 0 [], cl b7 3 [.int .i64 most], Wk bw sb 0 0, Store sb db S, Disk db D, cl b1 72 [.pointer (some ⟨bw, 0, none⟩)], cl b2 3 [.int .i64 root], cl b3 38 [.int .u64 x]]) ?_ ?_ ?_
    · intro l
      exact scan_hs bw b11 b7 b1 b2 b3 sb db x N root most U T S D k o hp hT (by omega) l _ _ _ rfl rfl (by rfl) (by rfl)
    · rintro D0 K' ⟨p, cap, rd, rfl⟩
      dsimp only [List.cons_append, List.nil_append]
      (repeat' (first | refine g_seq (h := ?_) | refine g_region (h := ?_) | refine l_nil (h := ?_) | refine n_then (h := ?_) | refine l_pures1 (h := ?_) | refine l_load (h := ?_) | refine g_skip (h := ?_) | refine g_ret (h := ?_) | refine n_block (h := ?_) | refine g_cond_f (h := ?_)))
      refine r_retM [vec 53 2 p ((geE T x).take most.toNat).length cap (entC ((geE T x).take most.toNat)), Store sb db S, Disk db D] ?_
      exact ⟨p, cap, rfl, rfl⟩
    · rintro D0 c K' ⟨rfl, p, cap, rd, rfl⟩
      dsimp only [List.cons_append, List.nil_append]
      (repeat' (first | refine g_seq (h := ?_) | refine g_region (h := ?_) | refine l_nil (h := ?_) | refine n_then (h := ?_) | refine l_pures1 (h := ?_) | refine l_load (h := ?_) | refine g_skip (h := ?_) | refine g_ret (h := ?_) | refine g_exit (h := ?_) | refine n_block_hit (h := ?_) | refine g_cond_f (h := ?_)))
      refine r_retM [vec 53 2 p ((geE T x).take most.toNat).length cap (entC ((geE T x).take most.toNat)), Store sb db S, Disk db D] ?_
      exact ⟨p, cap, rfl, rfl⟩
theorem scan_tree (sb db x N : Nat) (root most : Int) (U : List Int) (T : List Ent) (S : Sh) (D : Dk) (k : Fine N S D U) (ht : IsTree N S D U root T) (hT : T.length < 10000) (hm64 : -9223372036854775808 ≤ most ∧ most < 9223372036854775808) :
    Does Tryz.prog 17 [.pointer (some ⟨sb, 0, none⟩), .int .i64 root, .int .u64 x, .int .i64 most] [Store sb db S, Disk db D]
      (fun v H => ∃ p cap, v = .tuple #[.slice p ((geE T x).take most.toNat).length cap, .int .i64 0] ∧ H = [vec 53 2 p ((geE T x).take most.toNat).length cap (entC ((geE T x).take most.toNat)), Store sb db S, Disk db D]) :=
  scan_old sb db x N root most U T S D k (ht.old k) hT hm64
end Go.Proofs.YtpbibhhjbigdhaaGreat
/- The laws' entries: two lists that are the same. -/
set_option maxRecDepth 20000
set_option linter.unusedVariables false
set_option linter.unusedSimpArgs false
namespace Go.Proofs.YtpbibhhjbigdhaaGreat
open Go.Proofs.YtpbibhhjbigdhaaGreat.SL

theorem entC_get0 : ∀ {l : List Ent} {j : Nat}, j < l.length → (entC l)[j * 2]? = some (.int .u64 ((l.getD j (0, [])).1 : Nat))
  | [], j, h => by simp at h
  | e :: l, 0, _ => rfl
  | e :: l, j + 1, h => by
    have ih := entC_get0 (l := l) (j := j) (by simpa using h)
    have : (j + 1) * 2 = j * 2 + 1 + 1 := by omega
    rw [this]
    exact ih
theorem entC_get1 : ∀ {l : List Ent} {j : Nat}, j < l.length → (entC l)[j * 2 + 1]? = some (.string (str (l.getD j (0, [])).2))
  | [], j, h => by simp at h
  | e :: l, 0, _ => rfl
  | e :: l, j + 1, h => by
    have ih := entC_get1 (l := l) (j := j) (by simpa using h)
    have : (j + 1) * 2 + 1 = j * 2 + 1 + 1 + 1 := by omega
    rw [this]
    exact ih

set_option maxHeartbeats 4000000 in
theorem entries_same (a : List Ent) (p q : Option Addr) (c1 c2 : Nat) (ha : a.length < 10000) : Does Tryz.prog 18 [.slice p a.length c1, .slice q a.length c2] [vec 53 2 p a.length c1 (entC a), vec 53 2 q a.length c2 (entC a)]
    (fun v H => v = .bool true ∧ H = [vec 53 2 p a.length c1 (entC a), vec 53 2 q a.length c2 (entC a)]) := by
  refine does_of Tryz.func18 Tryz.ntmps18 rfl rfl rfl (fun w0 F0 => ?_)
  (repeat' (first | refine g_seq (h := ?_) | refine g_region (h := ?_) | refine l_nil (h := ?_) | refine n_then (h := ?_) | refine l_pures1 (h := ?_) | refine g_skip (h := ?_) | refine g_block (h := ?_) | (refine g_spF (h := ?_); intro h)))
  (refine g_loop (fun j : Nat => [(5, .int .i64 j), (0, .slice p a.length c1), (1, .slice q a.length c2)]) (fun j => [vec 53 2 p a.length c1 (entC a), vec 53 2 q a.length c2 (entC a)]) (fun j => j ≤ a.length) (fun j => a.length - j) (0) ?_ ?_ ?_ ?_; rotate_left; (repeat (first | refine ts_nil | (refine ts_cons rfl ?_ ?_; first | (with_reducible rfl) | rotate_left))); (first | (intro _ i; with_reducible refine i) | rotate_left); rotate_left; (try omega); rotate_right)
  · intro j hj
    by_cases hjl : j < a.length
    · refine g_ptr (m := a.length) (p := p) (h := ?_); rintro g1 rfl hc1
      refine g_ptr (m := a.length) (p := q) (h := ?_); rintro g2 rfl hc2
      have hg0 : (entC a)[0 + ((j : Nat) : Int).toNat * 2 + 0]? = some (.int .u64 ((a.getD j (0, [])).1 : Nat)) := (by rw [Nat.zero_add, Nat.add_zero, Int.toNat_natCast]; exact entC_get0 hjl)
      have hg1 : (entC a)[0 + ((j : Nat) : Int).toNat * 2 + 1]? = some (.string (str (a.getD j (0, [])).2)) := (by rw [Nat.zero_add, Int.toNat_natCast]; exact entC_get1 hjl)
      (repeat' (first | refine g_seq (h := ?_) | refine g_region (h := ?_) | refine l_nil (h := ?_) | refine n_then (h := ?_) | refine l_pures1 (h := ?_) | refine g_skip (h := ?_) | refine g_block (h := ?_) | (refine g_spT (h := ?_); intro h)))
      (refine g_draw [vec 53 2 (some ⟨g1, 0, none⟩) a.length c1 (entC a), vec 53 2 (some ⟨g2, 0, none⟩) a.length c2 (entC a)] (h := a_pass2 (h := ?_)))
      (repeat' (first | refine g_region (h := ?_) | refine l_nil (h := ?_) | refine n_then (h := ?_) | refine l_pures1 (h := ?_) | refine l_guard_yes (h := ?_) | refine l_indexAddr (h := ?_) | refine g_skip (h := ?_) | refine a_done (h := ?_) | refine a_one (h := ?_) | refine n_any (h := a_pass2 (h := ?_)) | refine a_v (h := ?_) | refine a_vg (h := ?_) | refine n_block (h := ?_) | refine l_load_vec (h := ?_) | refine a_load_vec (h := a_pass2 (h := ?_)) | refine a_loadg_vec (h := a_pass2 (h := ?_)) | (refine a_spF (h := ?_); intro h) | (refine g_spF (h := ?_); intro h)))
      (refine n_back (j + 1) ?_ ?_ ?_ ?_; rotate_left; rotate_left; (repeat (first | refine ts_nil | (refine ts_cons rfl ?_ ?_; first | (with_reducible rfl) | rotate_left))); (first | (intro _ i; with_reducible refine i) | rotate_left); (try omega); (try omega))
      · rw [wrapI64 (by omega)] <;> rfl
    · (repeat' (first | refine g_seq (h := ?_) | refine g_region (h := ?_) | refine l_nil (h := ?_) | refine n_then (h := ?_) | refine l_pures1 (h := ?_) | refine g_ret (h := ?_) | refine g_exit (h := ?_) | refine n_then_exit (h := ?_) | refine n_block_hit (h := ?_) | (refine g_spF (h := ?_); intro h)))
      refine r_retk [vec 53 2 p a.length c1 (entC a), vec 53 2 q a.length c2 (entC a)] ?_
      exact ⟨rfl, rfl⟩
  all_goals first | rfl | exact Nat.zero_le _

theorem Tr.scan {N : Nat} {S : Sh} {D : Dk} {U : List Int} {root : Int} {T : List Ent} {m : Nat} (k : Tr N S D U root T m) (hm : m < 10000) (sb db x : Nat) (most : Int) (h : -9223372036854775808 ≤ most ∧ most < 9223372036854775808) :
    Does Tryz.prog 17 [.pointer (some ⟨sb, 0, none⟩), .int .i64 root, .int .u64 x, .int .i64 most] [Store sb db S, Disk db D]
      (fun v H => ∃ p cap, v = .tuple #[.slice p ((geE T x).take most.toNat).length cap, .int .i64 0] ∧ H = [vec 53 2 p ((geE T x).take most.toNat).length cap (entC ((geE T x).take most.toNat)), Store sb db S, Disk db D]) :=
  scan_tree sb db x N root most U T S D k.fine k.tree (by have := k.len; omega) h
theorem Tr.scanAll {N : Nat} {S : Sh} {D : Dk} {U : List Int} {root : Int} {T : List Ent} {m : Nat} (k : Tr N S D U root T m) (hm : m ≤ 1000) (sb db : Nat) :
    Does Tryz.prog 17 [.pointer (some ⟨sb, 0, none⟩), .int .i64 root, .int .u64 0, .int .i64 1000] [Store sb db S, Disk db D]
      (fun v H => ∃ p cap, v = .tuple #[.slice p T.length cap, .int .i64 0] ∧ H = [vec 53 2 p T.length cap (entC T), Store sb db S, Disk db D]) := by
  have h := k.scan (by omega) sb db 0 1000 (by omega)
  have e : (geE T 0).take (Int.toNat 1000) = T := by
    have h0 : geE T 0 = T := List.filter_eq_self.2 fun e he => by simp
    rw [h0]
    exact List.take_of_length_le (by have := k.len; simp; omega)
  rw [e] at h
  exact h

theorem entC_cut : ∀ {l : List Ent} {j : Nat}, j < l.length → ((entC l).drop (j * 2)).take 2 = [.int .u64 ((l.getD j (0, [])).1 : Nat), .string (str (l.getD j (0, [])).2)]
  | [], j, h => by simp at h
  | e :: l, 0, _ => rfl
  | e :: l, j + 1, h => by
    have ih := entC_cut (l := l) (j := j) (by simpa using h)
    have : (j + 1) * 2 = j * 2 + 1 + 1 := by omega
    rw [this]
    exact ih
theorem part_ent {l : List Ent} {j : Nat} (h : j < l.length) : partV env 53 (entC l) (0 + ((j : Nat) : Int).toNat * 2) = some (entV (l.getD j (0, []))) := by
  have e : 0 + ((j : Nat) : Int).toNat * 2 = j * 2 := by rw [Int.toNat_natCast, Nat.zero_add]
  have hc : cutL (entC l) (j * 2) 2 = some [.int .u64 ((l.getD j (0, [])).1 : Nat), .string (str (l.getD j (0, [])).2)] := by
    rw [cutL_of (by rw [entC_len]; omega), entC_cut h]
  rw [e]
  show (match cutL (entC l) (j * 2) 2 with
        | some r => some (Value.agg r.toArray)
        | none => none) = _
  rw [hc]
end Go.Proofs.YtpbibhhjbigdhaaGreat
/- The framework, part 19: loops that hold loops over functions; their marks among the deferred calls. -/
set_option linter.unusedVariables false
set_option linter.unusedSimpArgs false
namespace Go.Proofs.YtpbibhhjbigdhaaGreat.SL

def marksK (ms : List Nat) (_ : Unit) : List SProp := ms.map fun D0 => pts D0 (.deferred (some []))
/-- The lists of deferred calls of the loops that are done. -/
def Marks (ms : List Nat) : SProp := hid (fun _ : Unit => True) (marksK ms)
section
variable {w0 w : World} {F0 : Nat → Prop} {H : List SProp} {ms : List Nat} {D0 : Nat}
theorem marks_nil (i : Inv w0 F0 H w) : Inv w0 F0 (Marks [] :: H) w := Inv.shuts (K := []) (A := Marks []) (show Shuts [] (Marks []) from fun _ _ s => ⟨(), trivial, s⟩) i
theorem marks_cons (i : Inv w0 F0 (Marks ms :: pts D0 (.deferred (some [])) :: H) w) : Inv w0 F0 (Marks (D0 :: ms) :: H) w := by
  obtain ⟨u, _, i⟩ := i.opens (hid_opens (p := fun _ : Unit => True) (K := marksK ms))
  have j : Inv w0 F0 (pts D0 (.deferred (some [])) :: (marksK ms u ++ H)) w := i.imp fun {h F} s => by
    obtain ⟨F1, F2, s1, ⟨G1, G2, a, s2, d2, u2⟩, d1, u1⟩ := sep_split s
    refine ⟨F, ⟨G1, fun x => F1 x ∨ G2 x, a, sep_append s1 s2 (fun x hx hg => d1 x hx ((u2 x).2 (.inr hg))), ?_, ?_⟩, fun _ h => h⟩
    · rintro x hg (hx | hx)
      · exact d1 x hx ((u2 x).2 (.inl hg))
      · exact d2 x hg hx
    · intro x
      rw [u1 x, u2 x]
      constructor
      · rintro (h | h | h)
        · exact .inr (.inl h)
        · exact .inl h
        · exact .inr (.inr h)
      · rintro (h | h | h)
        · exact .inr (.inl h)
        · exact .inl h
        · exact .inr (.inr h)
  exact Inv.shuts (K := marksK (D0 :: ms) ()) (hid_shuts () trivial) j
theorem marks_take (i : Inv w0 F0 (Marks (D0 :: ms) :: H) w) : Inv w0 F0 (pts D0 (.deferred (some [])) :: Marks ms :: H) w := by
  obtain ⟨u, _, i⟩ := i.opens (hid_opens (p := fun _ : Unit => True) (K := marksK (D0 :: ms)))
  have i : Inv w0 F0 (pts D0 (.deferred (some [])) :: (marksK ms u ++ H)) w := i
  exact i.imp fun {h F} s => by
    obtain ⟨F1, F2, a, s1, d, u1⟩ := s
    obtain ⟨G1, G2, s2, s3, d2, u2⟩ := sep_split s1
    exact ⟨F, ⟨F1, F2, a, ⟨G1, G2, ⟨u, trivial, s2⟩, s3, d2, u2⟩, d, u1⟩, fun _ h => h⟩
end

variable {P : Program} {E : Env} {n : Nat} {w0 : World} {F0 : Nat → Prop} {Q : Exit → Act → World → Prop} {tm : List (Nat × Value)} {D : List Deferred} {H H' : List SProp}
/-- A loop whose rounds may leave deferred calls. -/
theorem g_loop_d {α : Type} {c : Code} (tmx : α → List (Nat × Value)) (Dx : α → List Deferred) (Hx : α → List SProp) (I : α → Prop) (μ : α → Nat) (x0 : α) (h0 : I x0) (ht : tsub tm (tmx x0)) (hd : D = Dx x0) (hh : ∀ {w}, Inv w0 F0 H w → Inv w0 F0 (Hx x0) w)
    (round : ∀ x, I x → G P n w0 F0 c (Exit.then (fun a w => ∃ y, I y ∧ μ y < μ x ∧ St n w0 F0 (tmx y) (Dx y) (Hx y) a w) Q) (tmx x) (Dx x) (Hx x)) :
    G P n w0 F0 (.loop c) Q tm D H := by
  have key : ∀ (m : Nat) (x : α), μ x = m → I x → ∀ a w, St n w0 F0 (tmx x) (Dx x) (Hx x) a w → ∀ (b : Frame) (k : List Item) (cs : List Frame),
      ∃ e a' w', Q e a' w' ∧ Arrives P (lone (b.at a (.code c :: .inLoop c :: k)) cs w) b k cs e a' w' := by
    intro m
    induction m using Nat.strongRecOn with
    | _ m ih =>
      intro x hx hI a w s b k cs
      obtain ⟨e, a₁, w₁, hq, harr⟩ := round x hI a w s b (.inLoop c :: k) cs
      cases e with
      | normal =>
        obtain ⟨y, hIy, hlt, hs⟩ := hq
        obtain ⟨e₂, a₂, w₂, hq₂, harr₂⟩ := ih (μ y) (hx ▸ hlt) y rfl hIy a₁ w₁ hs b k cs
        exact ⟨e₂, a₂, w₂, hq₂, .of_steps (Steps.trans harr (.one step_inLoop)) harr₂⟩
      | exit id => exact ⟨_, a₁, w₁, hq, .pass (x := .inLoop c) rfl (fun _ _ => .inl (by simp)) harr⟩
      | goto l => exact ⟨_, a₁, w₁, hq, .pass (x := .inLoop c) rfl (fun _ _ => .inl (by simp)) harr⟩
      | ret => exact ⟨_, a₁, w₁, hq, .pass (x := .inLoop c) rfl (fun _ _ => .inl (by simp)) harr⟩
      | panic ch => exact ⟨_, a₁, w₁, hq, .pass (x := .inLoop c) rfl (fun _ _ => .inl (by simp)) harr⟩
      | outgrown => exact ⟨_, a₁, w₁, hq, .pass (x := .inLoop c) rfl (fun _ _ => .inl (by simp)) harr⟩
  refine .mk fun a w s => ?_
  intro b k cs
  obtain ⟨e, a', w', hq, harr⟩ := key _ x0 rfl h0 a w ⟨s.tm.sub ht, s.defers.trans hd, hh s.inv⟩ b k cs
  exact ⟨e, a', w', hq, .of_steps (.one step_loop) harr⟩
theorem n_back_d {α : Type} {tmx : α → List (Nat × Value)} {Dx : α → List Deferred} {Hx : α → List SProp} {I : α → Prop} {μ : α → Nat} {m : Nat} (y : α) (hI : I y) (hm : μ y < m) (ht : tsub tm (tmx y)) (hd : D = Dx y) (hh : ∀ {w}, Inv w0 F0 H w → Inv w0 F0 (Hx y) w) :
    N n w0 F0 .normal (Exit.then (fun a w => ∃ y, I y ∧ μ y < m ∧ St n w0 F0 (tmx y) (Dx y) (Hx y) a w) Q) tm D H :=
  .mk fun a w s => ⟨y, hI, hm, s.tm.sub ht, s.defers.trans hd, hh s.inv⟩

theorem r_retMs {fn : Func} {q : Value → List SProp → Prop} {rs : List ResultVar} {vs : List Value} {ms : List Nat} {R : List SProp} (K : List SProp) (hq : q (packV vs) K) (k : EnvOk P E := by refine inferInstance) (hr : fn.results = rs.toArray := by refine rfl) (ht : Take (Marks ms) H R := by with_reducible (repeat (first | refine Take.here | apply Take.there))) (hv : ResV E tm R rs vs := by repeat (first | refine ResV.nil | (apply ResV.tmp; refine rfl) | (apply ResV.cell; refine rfl; (with_reducible (repeat (first | refine Take.here | apply Take.there))); refine rfl))) (hp : Parts K R H' := by with_reducible (repeat (first | refine Parts.nil | (apply Parts.cons; repeat (first | refine Take.here | apply Take.there))))) :
    N n w0 F0 .ret (PostM P fn w0 F0 q) tm (ms.map mark) H := .mk fun a w s => by
  refine ⟨fun c e => (nomatch e), ?_⟩
  show LeavesInM _ _ _ _ _ _ a.defers _ _
  rw [s.defers]
  have i := s.inv.take ht
  have t := s.tm
  clear s ht
  induction ms generalizing w with
  | nil =>
    have i3 : Inv w0 F0 R w := i.imp fun {h F} s2 => by
      obtain ⟨G1, G2, _, s3, _, u3⟩ := s2
      exact ⟨G2, s3, fun b hb => (u3 b).2 (.inr hb)⟩
    exact ⟨_, results_run k hr t i3 hv, _, K, rfl, hq, (i3.parts hp).drop⟩
  | cons D0 ms ih =>
    have i := marks_take i
    have e := i.get
    have i2 : Inv w0 F0 (pts D0 (.deferred none) :: Marks ms :: R) (w.putObj D0 (.deferred none)) := i.set (World.putObj_heap_same (lt_of_some e)) (fun c hc => World.putObj_heap_other hc) World.putObj_size rfl rfl rfl
    have i3 : Inv w0 F0 (Marks ms :: R) (w.putObj D0 (.deferred none)) := i2.imp fun {h F} s2 => by
      obtain ⟨G1, G2, _, s3, _, u3⟩ := s2
      exact ⟨G2, s3, fun b hb => (u3 b).2 (.inr hb)⟩
    exact ⟨by simp, .inl ⟨D0, _, rfl, run_takeDeferred e, ih _ i3⟩⟩
/-- A guarded lookup in a map that is held, in a region whose order is free. -/
theorem a_lookupg_k {α : Type} {kk : IntKind} {ops : List Oper} {ty : TypeId} {pos : String} {after : Array Edge} {Hs Hs' : List SProp} {listed : Array Bool} {ll : List Bool} {i d j ts t kt et b sz by' : Nat} {want : Bool} {x y : Operand} {enc : α → Value} {kv : List (Int × α)} {u : Int} (z : α) {zv : Value} (k : EnvOk P E := by refine inferInstance) (hs : noSel ops = true := by refine rfl) (hi : nextR ops 0 listed = some i := by refine rfl)
    (ho : nth ops i = some ⟨some d, .lookup t x y false, ty, pos, after, some (j, want)⟩ := by refine rfl) (hd : Nat.blt d n = true := by refine rfl) (hst : slotOf ops j = some ts := by refine rfl) (htb : tget tm ts = some (.bool want) := by refine rfl) (hb : Nat.blt ts n = true := by refine rfl) (hx : ev tm x = some (.map (some b)) := by refine rfl) (hy : ev tm y = some (.int kk u) := by refine rfl)
    (ht : look E.ty t = some (.map kt et) := by refine rfl) (hk : look E.ty kt = some (.int kk) := by refine rfl) (hz : look E.inf et = some (zv, sz, by') := by refine rfl) (tk : Take (mpk kk b enc kv) Hs Hs' := by with_reducible (repeat (first | refine Take.here | apply Take.there))) (hze : zv = enc z := by refine rfl)
    (hf : freeL ops.toArray i ⟨some d, .lookup t x y false, ty, pos, after, some (j, want)⟩ listed ops 0 = true := by refine rfl) (hl : listed.getD i true = false := by refine rfl) (hr : rdyB after.toList listed = true := by refine rfl) (hn : copyB (listed.setIfInBounds i true).toList = some ll := by refine rfl) (hc : Calm Q := by with_reducible (repeat (first | assumption | refine calm_post | refine calm_postM | refine calm_round | apply calm_then | apply calm_block | apply calm_scope)))
    (h : A P n w0 F0 ops Hs ll.toArray Q ((d, enc ((kvGet kv u).getD z)) :: tm) D H) : A P n w0 F0 ops Hs listed Q tm D H := by
  subst hze
  refine a_yh (v := enc ((kvGet kv u).getD z)) hc hs ho hd hst htb hb hf hl hr (fun a w htm ⟨F, s⟩ => ?_) (by rw [copyB_arr hn]; exact h)
  obtain ⟨F1, F2, ⟨⟨es, clock, hw, he, _⟩, _⟩, _⟩ := tk.sep s
  simp only [execOp, ev_sound htm hx, ev_sound htm hy, Sem.run_bind, run_lookup_int_k k hw he ht hk hz, Result.andThen, Sem.run_pure, Bool.false_eq_true, if_false]
end Go.Proofs.YtpbibhhjbigdhaaGreat.SL
/- Package tree: the stack of pages. -/
set_option maxRecDepth 20000
set_option linter.unusedVariables false
set_option linter.unusedSimpArgs false
namespace Go.Proofs.YtpbibhhjbigdhaaGreat
open Go.Proofs.YtpbibhhjbigdhaaGreat.SL

def pgC (l : List (Int × Nat)) : List Value := l.flatMap fun s => [Value.int .i64 s.1, .int .i64 (s.2 : Nat)]
theorem pgC_len (l : List (Int × Nat)) : (pgC l).length = l.length * 2 := by
  induction l with
  | nil => rfl
  | cons s l ih => simp only [pgC, List.flatMap_cons, List.length_append, List.length_cons, List.length_nil] at *; omega
theorem pgC_snoc (l : List (Int × Nat)) (s : Int × Nat) : pgC (l ++ [s]) = pgC l ++ [Value.int .i64 s.1, .int .i64 (s.2 : Nat)] := by simp [pgC]
abbrev pgV (s : Int × Nat) : Value := .agg #[.int .i64 s.1, .int .i64 (s.2 : Nat)]
abbrev StpK (b : Nat) (l : List (Int × Nat)) (x : Option Addr × Nat) : List SProp := [cl b 111 [.slice x.1 l.length x.2], vec 114 2 x.1 l.length x.2 (pgC l)]
def Stp (b : Nat) (l : List (Int × Nat)) : SProp := hid (fun _ : Option Addr × Nat => True) (StpK b l)
theorem part_pg (l : List (Int × Nat)) (s : Int × Nat) : partV env 114 (pgC l ++ [Value.int .i64 s.1, .int .i64 (s.2 : Nat)]) (0 + ((l.length : Nat) : Int).toNat * 2) = some (pgV s) := by
  have e : 0 + ((l.length : Nat) : Int).toNat * 2 = (pgC l).length := by rw [pgC_len, Int.toNat_natCast, Nat.zero_add]
  have h : cutL (pgC l ++ [Value.int .i64 s.1, .int .i64 (s.2 : Nat)]) (pgC l).length 2 = some [Value.int .i64 s.1, .int .i64 (s.2 : Nat)] := by
    rw [cutL_of (by simp)]
    simp
  rw [e]
  show (match cutL (pgC l ++ [Value.int .i64 s.1, .int .i64 (s.2 : Nat)]) (pgC l).length 2 with
        | some r => some (Value.agg r.toArray)
        | none => none) = _
  rw [h]

set_option maxHeartbeats 1000000 in
theorem pushP_does (b : Nat) (l : List (Int × Nat)) (s : Int × Nat) (hl : l.length < 100000) : Does Tryz.prog 45 [.pointer (some ⟨b, 0, none⟩), pgV s] [Stp b l] (fun v H => v = .tuple #[] ∧ H = [Stp b (l ++ [s])]) := by
  have e0 : (l ++ [s]).length = l.length + 1 := by simp
  have e1 : pgC l ++ #[Value.int .i64 s.1, .int .i64 (s.2 : Nat)].toList = pgC (l ++ [s]) := (pgC_snoc l s).symm
  refine does_of Tryz.func45 Tryz.ntmps45 rfl rfl rfl (fun w0 F0 => ?_)
  refine g_open (A := Stp b l) (h := ?_); (rintro ⟨p, cap⟩ _; dsimp only [StpK, List.cons_append, List.nil_append])
  (repeat' (first | refine g_seq (h := ?_) | refine g_region (h := ?_) | refine l_nil (h := ?_) | refine n_then (h := ?_) | (refine l_box (h := ?_); intro _)))
  rename_i b1
  (refine g_draw [cl b1 114 _] (h := a_pass2 (h := ?_)))
  (repeat' (first | refine l_nil (h := ?_) | refine l_load (h := ?_) | refine l_store (h := ?_) | (refine l_buildSlice1 (h := ?_); intro _) | (refine l_append_new (h := ?_); intro _ _) | refine a_done (h := ?_) | refine a_load (h := a_pass2 (h := ?_)) | refine a_one (h := ?_) | refine n_any (h := a_pass2 (h := ?_)) | refine a_fork2 (h1 := ?_) (h2 := ?_) | refine a1_of (h := ?_)))
  all_goals rename_i b2 p' cap'
  all_goals
    rw [← e0, e1]
  all_goals
    (refine n_shut (A := Stp b (l ++ [s])) (K := StpK b (l ++ [s]) ((p', cap'))) (hid_shuts ((p', cap')) trivial) (h := ?_) (p := by dsimp only [StpK]; (try simp only [List.map_nil, List.length_nil, List.length_set, List.length_append, List.length_cons, List.length_singleton, List.map_append, List.map_cons, Nat.zero_add]); exact parts_of))
  all_goals
    refine r_endk [Stp b (l ++ [s])] ?_
  all_goals exact ⟨rfl, rfl⟩
set_option maxHeartbeats 1000000 in
theorem popPN_does (b : Nat) : Does Tryz.prog 46 [.pointer (some ⟨b, 0, none⟩)] [Stp b []] (fun v H => v = .tuple #[.agg #[.int .i64 0, .int .i64 0], .bool false] ∧ H = [Stp b []]) := by
  refine does_of Tryz.func46 Tryz.ntmps46 rfl rfl rfl (fun w0 F0 => ?_)
  refine g_open (A := Stp b []) (h := ?_); (rintro ⟨p, cap⟩ _; dsimp only [StpK, List.cons_append, List.nil_append])
  (repeat' (first | refine g_seq (h := ?_) | refine g_region (h := ?_) | refine l_nil (h := ?_) | refine n_then (h := ?_) | refine l_pures1 (h := ?_) | refine l_load (h := ?_) | refine l_store (h := ?_) | (refine l_alloc (h := ?_); intro _) | refine g_ret (h := ?_) | refine n_then_ret (h := ?_) | refine g_cond_t (h := ?_)))
  (refine n_shut (A := Stp b []) (K := StpK b [] ((p, cap))) (hid_shuts ((p, cap)) trivial) (h := ?_) (p := by dsimp only [StpK]; (try simp only [List.map_nil, List.length_nil, List.length_set, List.length_append, List.length_cons, List.length_singleton, List.map_append, List.map_cons, Nat.zero_add]); exact parts_of))
  refine r_retk [Stp b []] ?_
  exact ⟨rfl, rfl⟩
set_option maxHeartbeats 1000000 in
theorem popP_does (b : Nat) (l : List (Int × Nat)) (s : Int × Nat) (hl : l.length < 100000) : Does Tryz.prog 46 [.pointer (some ⟨b, 0, none⟩)] [Stp b (l ++ [s])] (fun v H => v = .tuple #[pgV s, .bool true] ∧ H = [Stp b l]) := by
  have e0 : (l ++ [s]).length = l.length + 1 := by simp
  have hp := part_pg l s
  refine does_of Tryz.func46 Tryz.ntmps46 rfl rfl rfl (fun w0 F0 => ?_)
  refine g_open (A := Stp b (l ++ [s])) (h := ?_); (rintro ⟨p, cap⟩ _; dsimp only [StpK, List.cons_append, List.nil_append])
  rw [e0, pgC_snoc]
  refine g_ptr (m := l.length + 1) (h := ?_); rintro g rfl hc
  have ew : IntKind.i64.wrap (((l.length + 1 : Nat) : Int) - 1) = (l.length : Int) := by rw [wrapI64 (by omega)]; omega
  (repeat' (first | refine g_seq (h := ?_) | refine g_region (h := ?_) | refine l_nil (h := ?_) | refine n_then (h := ?_) | refine l_pures1 (h := ?_) | refine l_load (h := ?_) | (refine l_alloc (h := ?_); intro _) | refine g_skip (h := ?_) | refine g_cond_f (h := ?_)))
  (refine g_draw [cl b 111 [.slice (some ⟨g, 0, none⟩) (l.length + 1) cap], vec 114 2 (some ⟨g, 0, none⟩) (l.length + 1) cap (pgC l ++ [Value.int .i64 s.1, .int .i64 (s.2 : Nat)])] (h := a_pass2 (h := ?_)))
  (repeat (first | refine l_nil (h := ?_) | refine l_indexAddr (h := ?_) | refine a_load (h := a_pass2 (h := ?_)) | refine a_one (h := ?_) | refine n_any (h := a_pass2 (h := ?_))))
  rw [ew]
  (repeat (first | refine g_seq (h := ?_) | refine l_nil (h := ?_) | refine n_then (h := ?_) | refine l_store (h := ?_) | refine a_done (h := ?_) | refine a_one (h := ?_) | refine n_any (h := a_pass2 (h := ?_)) | refine l_load_vec (h := ?_)))
  (refine g_draw [] (h := a_pass2 (h := ?_)))
  (repeat' (first | refine g_seq (h := ?_) | refine g_region (h := ?_) | refine l_nil (h := ?_) | refine n_then (h := ?_) | refine l_pures1 (h := ?_) | refine l_load (h := ?_) | refine l_store (h := ?_) | refine l_slice (h := ?_) | refine g_ret (h := ?_) | refine a_done (h := ?_) | refine a_one (h := ?_) | refine n_any (h := a_pass2 (h := ?_)) | refine a_fork2 (h1 := ?_) (h2 := ?_) | refine a1_of (h := ?_)))
  all_goals rw [ew]
  all_goals simp only [Int.toNat_natCast, Int.toNat_zero, Nat.zero_mul, Nat.add_zero, Nat.sub_zero]
  all_goals refine n_inv (fun i => vec_cut (pgC_len l) (i.take (Take.there (Take.there Take.here)))) ?_
  all_goals
    (refine n_shut (A := Stp b l) (K := StpK b l (((some ⟨g, 0, none⟩ : Option Addr), cap))) (hid_shuts (((some ⟨g, 0, none⟩ : Option Addr), cap)) trivial) (h := ?_) (p := by dsimp only [StpK]; (try simp only [List.map_nil, List.length_nil, List.length_set, List.length_append, List.length_cons, List.length_singleton, List.map_append, List.map_cons, Nat.zero_add]); exact parts_of))
  all_goals
    refine r_retk [Stp b l] ?_
  all_goals exact ⟨rfl, rfl⟩
end Go.Proofs.YtpbibhhjbigdhaaGreat
/- slices.Backward over a list of numbers. -/
set_option maxRecDepth 20000
set_option linter.unusedVariables false
set_option linter.unusedSimpArgs false
namespace Go.Proofs.YtpbibhhjbigdhaaGreat
open Go.Proofs.YtpbibhhjbigdhaaGreat.SL

theorem backward_does (p : Option Addr) (m cap : Nat) : Does Tryz.prog 48 [.slice p m cap] [] (fun v H => ∃ b1, v = .func (.func 82) #[] #[.pointer (some ⟨b1, 0, none⟩)] ∧ H = [cl b1 22 [.slice p m cap]]) := by
  refine does_of Tryz.func48 Tryz.ntmps48 rfl rfl rfl (fun w0 F0 => ?_)
  (repeat (first | refine g_seq (h := ?_) | refine g_region (h := ?_) | refine l_nil (h := ?_) | refine n_then (h := ?_) | refine l_pures1 (h := ?_) | (refine l_box (h := ?_); intro _) | refine g_ret (h := ?_)))
  rename_i b1
  refine r_retk [cl b1 22 [.slice p m cap]] ?_
  exact ⟨b1, rfl, rfl⟩

set_option maxHeartbeats 4000000 in
theorem backwardF_does (l b1 cap : Nat) (p : Option Addr) (ks : List Int) (C : Nat → SProp) (hk : ks.length < 100000)
    (hY : ∀ i, i < ks.length → SL.Yields Tryz.prog l [.int .i64 (i : Nat), .int .i64 (ks.getD i 0)] [C (i + 1)] (fun v H => v = .bool true ∧ H = [C i])) :
    Does Tryz.prog 82 [.func (.yield l) #[] #[], .pointer (some ⟨b1, 0, none⟩)] [C ks.length, cl b1 22 [.slice p ks.length cap], vec 3 1 p ks.length cap (ks.map encZ')]
      (fun v H => v = .tuple #[] ∧ H = [C 0, cl b1 22 [.slice p ks.length cap], vec 3 1 p ks.length cap (ks.map encZ')]) := by
  have ew : IntKind.i64.wrap ((ks.length : Int) - 1) = (ks.length : Int) - 1 := wrapI64 (by omega)
  refine does_of Tryz.func82 Tryz.ntmps82 rfl rfl rfl (fun w0 F0 => ?_)
  (repeat (first | refine g_seq (h := ?_) | refine g_region (h := ?_) | refine l_nil (h := ?_) | refine n_then (h := ?_) | refine l_pures1 (h := ?_) | refine l_load (h := ?_) | refine g_block (h := ?_)))
  rw [ew]
  (refine g_loop (fun i : Nat => [(3, .int .i64 ((i : Int) - 1)), (1, .pointer (some ⟨b1, 0, none⟩)), (0, .func (.yield l) #[] #[])]) (fun i => [C i, cl b1 22 [.slice p ks.length cap], vec 3 1 p ks.length cap (ks.map encZ')]) (fun i => i ≤ ks.length) (fun i => i) (ks.length) ?_ ?_ ?_ ?_; rotate_left; (repeat (first | refine ts_nil | (refine ts_cons rfl ?_ ?_; first | (with_reducible rfl) | rotate_left))); (first | (intro _ i; with_reducible refine i) | rotate_left); rotate_left; (try omega); rotate_right)
  · intro i hi
    cases i with
    | zero =>
      (repeat' (first | refine g_seq (h := ?_) | refine g_region (h := ?_) | refine l_nil (h := ?_) | refine n_then (h := ?_) | refine l_pures1 (h := ?_) | refine g_exit (h := ?_) | refine n_then_exit (h := ?_) | refine n_block_hit (h := ?_) | refine g_cond_f (h := ?_)))
      refine r_endk [C 0, cl b1 22 [.slice p ks.length cap], vec 3 1 p ks.length cap (ks.map encZ')] ?_
      exact ⟨rfl, rfl⟩
    | succ i =>
      have hil : i < ks.length := by omega
      have hgk := iGet (l := ks) (k := i) hil
      have e1 : (((i + 1 : Nat) : Int) - 1) = (i : Int) := by omega
      have ew2 : IntKind.i64.wrap ((i : Int) - 1) = (i : Int) - 1 := wrapI64 (by omega)
      have hYi := hY i hil
      rw [e1]
      refine g_ptr (m := ks.length) (h := ?_); rintro g rfl hc
      (repeat' (first | ((with_reducible show G _ _ _ _ (Code.region 3 _ _) _ _ _ _); refine g_region_w ?_) | (refine lw_i ?_; refine lw_yield (hYi) (h := ?_); rintro _ _ _ ⟨rfl, rfl⟩ he; cases he) | refine g_seq (h := ?_) | refine g_region (h := ?_) | refine l_nil (h := ?_) | refine n_then (h := ?_) | refine l_pures1 (h := ?_) | refine l_load (h := ?_) | refine l_indexAddr (h := ?_) | refine g_skip (h := ?_) | refine g_block (h := ?_) | refine n_block (h := ?_) | refine g_cond_t (h := ?_) | refine g_cond_f (h := ?_) | refine l_load_vec (h := ?_) | refine n_lw (h := ?_) | refine lw_nil (h := ?_) | refine lw_step (h := ?_)))
      rw [ew2]
      (refine n_back (i) ?_ ?_ ?_ ?_; rotate_left; rotate_left; (repeat (first | refine ts_nil | (refine ts_cons rfl ?_ ?_; first | (with_reducible rfl) | rotate_left))); (first | (intro _ i; with_reducible refine i) | rotate_left); (try omega); (try omega))
end Go.Proofs.YtpbibhhjbigdhaaGreat
/- Package tree: Pages, what waits; a round over the kids. -/
set_option maxRecDepth 20000
set_option linter.unusedVariables false
set_option linter.unusedSimpArgs false
namespace Go.Proofs.YtpbibhhjbigdhaaGreat
open Go.Proofs.YtpbibhhjbigdhaaGreat.SL

/-- A page that waits: of its tree, c pages. -/
def PgOk (N : Nat) (D : Dk) (s : Int × Nat) (c : Nat) : Prop := ∃ h es ps, OnP (Gd N D) h s.1 ⟨es, ps⟩ ∧ ps.length = c ∧ s.2 + h ≤ 10
def Cnt (N : Nat) (D : Dk) : List (Int × Nat) → Nat → Prop
  | [], m => m = 0
  | s :: l, m => ∃ c k, PgOk N D s c ∧ Cnt N D l k ∧ m = c + k
theorem Cnt.snoc {N : Nat} {D : Dk} {s : Int × Nat} {c : Nat} (hs : PgOk N D s c) : ∀ {l : List (Int × Nat)} {k : Nat}, Cnt N D l k → Cnt N D (l ++ [s]) (k + c)
  | [], k, h => ⟨c, 0, hs, rfl, by have : k = 0 := h; omega⟩
  | t :: l, m, ⟨c', k, h1, h2, e⟩ => ⟨c', k + c, h1, Cnt.snoc hs h2, by omega⟩
theorem Cnt.last {N : Nat} {D : Dk} {s : Int × Nat} : ∀ {l : List (Int × Nat)} {m : Nat}, Cnt N D (l ++ [s]) m → ∃ k c, Cnt N D l k ∧ PgOk N D s c ∧ m = k + c
  | [], m, ⟨c, k, h1, h2, e⟩ => ⟨0, c, rfl, h1, by have : k = 0 := h2; omega⟩
  | t :: l, m, ⟨c', k, h1, h2, e⟩ => by
    obtain ⟨k', c, a, b, e2⟩ := Cnt.last h2
    exact ⟨c' + k', c, ⟨c', k', h1, a, rfl⟩, b, by omega⟩
theorem cnt_kids {N : Nat} {D : Dk} {L : List (Int × Nat)} {m h dp : Nat} (hL : Cnt N D L m) (hd : dp + h ≤ 10) : ∀ {ks : List Int} {ss : List Sub}, All2 (OnP (Gd N D) h) ks ss → Cnt N D (L ++ (ks.map fun k => (k, dp)).reverse) (m + (Sub.pages ss).length)
  | [], [], _ => by simpa [Sub.pages] using hL
  | k :: ks, s :: ss, ⟨h1, h2⟩ => by
    have ih := cnt_kids hL hd h2
    have hs : PgOk N D (k, dp) s.ps.length := ⟨h, s.es, s.ps, h1, rfl, hd⟩
    have := Cnt.snoc hs ih
    rw [List.map_cons, List.reverse_cons, ← List.append_assoc, Sub.pages_cons, List.length_append]
    have e : m + (s.ps.length + (Sub.pages ss).length) = m + (Sub.pages ss).length + s.ps.length := by omega
    rw [e]; exact this
theorem cnt_node {N : Nat} {D : Dk} {L : List (Int × Nat)} {m : Nat} (hL : Cnt N D L m) : ∀ {h dp : Nat} {d : Nd} {es : List Ent} {ps : List Int}, NT (Gd N D) h d es ps → dp + h ≤ 10 → Cnt N D (L ++ (d.kids.map fun k => (k, dp + 1)).reverse) (m + ps.length)
  | 0, dp, d, es, ps, ⟨hl, p, _, e⟩, hd => by
    have hk : d.kids = [] := List.length_eq_zero_iff.1 (by have := p.kids; rw [hl] at this; simpa using this)
    rw [hk, e]; simpa using hL
  | h + 1, dp, d, es, ps, ⟨hl, p, ss, f, e, e2, sp⟩, hd => by
    rw [e2]
    exact cnt_kids hL (by omega) f

/-- What waits when the kids from i on have been pushed. -/
def kidS (L : List (Int × Nat)) (ks : List Int) (dp i : Nat) : List (Int × Nat) := L ++ ((ks.drop i).map fun k => (k, dp)).reverse
theorem kidS_all {L : List (Int × Nat)} {ks : List Int} {dp : Nat} : kidS L ks dp ks.length = L := by simp [kidS]
theorem kidS_step {L : List (Int × Nat)} {ks : List Int} {dp i : Nat} (h : i < ks.length) : kidS L ks dp (i + 1) ++ [(ks.getD i 0, dp)] = kidS L ks dp i := by
  unfold kidS
  have hk : ks.getD i 0 = ks[i] := by simp [List.getD, h]
  rw [List.drop_eq_getElem_cons h, List.map_cons, List.reverse_cons, hk, List.append_assoc]
theorem kidS_len {L : List (Int × Nat)} {ks : List Int} {dp i : Nat} : (kidS L ks dp i).length ≤ L.length + ks.length := by
  unfold kidS
  simp only [List.length_append, List.length_reverse, List.length_map, List.length_drop]
  omega

/-- The consumer of Pages' kids. -/
abbrev PcK (l n : Nat) (tm : List (Nat × Value)) (asg body : Code) (b7 b9 b' : Nat) (pg : Int) (dp : Nat) (L : List (Int × Nat)) (ks : List Int) (i : Nat) (_ : Unit) : List SProp :=
  [lp l n tm #[59, 60] asg body .ready none, cl b7 108 [.pointer (some ⟨b', 0, none⟩)], cl b9 114 [.int .i64 pg, .int .i64 (dp : Nat)], Stp b' (kidS L ks (dp + 1) i)]
def Pc (l n : Nat) (tm : List (Nat × Value)) (asg body : Code) (b7 b9 b' : Nat) (pg : Int) (dp : Nat) (L : List (Int × Nat)) (ks : List Int) (i : Nat) : SProp := hid (fun _ : Unit => True) (PcK l n tm asg body b7 b9 b' pg dp L ks i)

set_option maxHeartbeats 4000000 in
theorem pg_yields0 (l b7 b9 b' i dp : Nat) (pg : Int) (L : List (Int × Nat)) (ks : List Int) (tm0 : List (Nat × Value)) (asg body : Code) (hi : i < ks.length) (hb : L.length + ks.length < 100000) (hd : dp ≤ 10) (w7 : tget tm0 7 = some (.pointer (some ⟨b7, 0, none⟩))) (w9 : tget tm0 9 = some (.pointer (some ⟨b9, 0, none⟩)))
    (hA : asg = rfA (nav [1, 1, 1, 1, 1, 1, 0, 1, 2, 2, 1, 0, 2, 1, 1, 1, 1, 2] (bdy Tryz.f19))) (hB : body = rfB (nav [1, 1, 1, 1, 1, 1, 0, 1, 2, 2, 1, 0, 2, 1, 1, 1, 1, 2] (bdy Tryz.f19))) :
    SL.Yields Tryz.prog l [.int .i64 (i : Nat), .int .i64 (ks.getD i 0)] (PcK l 70 tm0 asg body b7 b9 b' pg dp L ks (i + 1) ())
      (fun v H => v = .bool true ∧ ∃ R, Parts (PcK l 70 tm0 asg body b7 b9 b' pg dp L ks i ()) H R) := by
  have ed : IntKind.i64.wrap ((dp : Int) + 1) = ((dp + 1 : Nat) : Int) := by rw [wrapI64 (by omega)]; rfl
  have hl := kidS_len (L := L) (ks := ks) (dp := dp + 1) (i := i + 1)
  have hP := pushP_does b' (kidS L ks (dp + 1) (i + 1)) (ks.getD i 0, dp + 1) (by omega)
  rw [kidS_step hi] at hP
  dsimp only [pgV] at hP
  rw [← ed] at hP
  dsimp only [PcK]
  refine yields_of (ps := [59, 60]) (fun w0 F0 => ?_)
  refine gr_weak (tm' := [(60, .int .i64 (ks.getD i 0)), (7, .pointer (some ⟨b7, 0, none⟩)), (9, .pointer (some ⟨b9, 0, none⟩))]) ⟨rfl, w7, w9, trivial⟩ (fun i => i) ?_
  refine gr_as hA ?_
  dsimp only [rfA, nav, bdy, Tryz.f19, Option.getD]
  (repeat (first | refine l_nil (h := ?_) | refine l_pures1 (h := ?_) | refine gr_region (h := ?_)))
  refine n_begin (h := ?_)
  refine gr_as hB ?_
  dsimp only [rfA, rfB, nav, bdy, Tryz.f19, Option.getD]
  (repeat' (first | refine l_nil (h := ?_) | refine l_pures1 (h := ?_) | (refine l_atc ?_; refine l_call (hP) ?_) | refine l_load (h := ?_) | refine n_block (h := ?_) | refine gr_region (h := ?_) | refine gr_block (h := ?_)))
  refine n_round ⟨rfl, ?_⟩
  exact ⟨_, parts_of⟩
theorem pg_yields (l b7 b9 b' i dp : Nat) (pg : Int) (L : List (Int × Nat)) (ks : List Int) (tm0 : List (Nat × Value)) (asg body : Code) (hi : i < ks.length) (hb : L.length + ks.length < 100000) (hd : dp ≤ 10) (w7 : tget tm0 7 = some (.pointer (some ⟨b7, 0, none⟩))) (w9 : tget tm0 9 = some (.pointer (some ⟨b9, 0, none⟩)))
    (hA : asg = rfA (nav [1, 1, 1, 1, 1, 1, 0, 1, 2, 2, 1, 0, 2, 1, 1, 1, 1, 2] (bdy Tryz.f19))) (hB : body = rfB (nav [1, 1, 1, 1, 1, 1, 0, 1, 2, 2, 1, 0, 2, 1, 1, 1, 1, 2] (bdy Tryz.f19))) :
    SL.Yields Tryz.prog l [.int .i64 (i : Nat), .int .i64 (ks.getD i 0)] [Pc l 70 tm0 asg body b7 b9 b' pg dp L ks (i + 1)] (fun v H => v = .bool true ∧ H = [Pc l 70 tm0 asg body b7 b9 b' pg dp L ks i]) := by
  refine SL.Yields.open hid_opens ?_
  rintro ⟨⟩ _
  refine (pg_yields0 l b7 b9 b' i dp pg L ks tm0 asg body hi hb hd w7 w9 hA hB).post ?_
  rintro v H' ⟨rfl, R, hp⟩
  refine ⟨_, ⟨rfl, rfl⟩, ?_⟩
  intro w0 F0 w i'
  exact shut_of (p := fun _ : Unit => True) (K := PcK l 70 tm0 asg body b7 b9 b' pg dp L ks i) () trivial hp i'
end Go.Proofs.YtpbibhhjbigdhaaGreat
/- Package tree: Pages. -/
set_option maxRecDepth 20000
set_option linter.unusedVariables false
set_option linter.unusedSimpArgs false
namespace Go.Proofs.YtpbibhhjbigdhaaGreat
open Go.Proofs.YtpbibhhjbigdhaaGreat.SL

theorem Cnt.len {N : Nat} {D : Dk} : ∀ {l : List (Int × Nat)} {m : Nat}, Cnt N D l m → l.length ≤ m
  | [], m, h => Nat.zero_le _
  | s :: l, m, ⟨c, k, ⟨h, es, ps, ⟨d, ps', _, _, _, _, e⟩, e2, _⟩, h2, e3⟩ => by
    have := Cnt.len h2
    dsimp only at e
    subst e
    simp only [List.length_cons] at *
    omega

/-- A round over a node's kids. -/
theorem pages_hs (b7 b9 b' bB c3 dp l : Nat) (p3 : Option Addr) (pg : Int) (L : List (Int × Nat)) (ks : List Int) (tm0 : List (Nat × Value)) (asg body : Code) (hb : L.length + ks.length < 100000) (hd : dp ≤ 10) (w7 : tget tm0 7 = some (.pointer (some ⟨b7, 0, none⟩))) (w9 : tget tm0 9 = some (.pointer (some ⟨b9, 0, none⟩)))
    (hA : asg = rfA (nav [1, 1, 1, 1, 1, 1, 0, 1, 2, 2, 1, 0, 2, 1, 1, 1, 1, 2] (bdy Tryz.f19))) (hB : body = rfB (nav [1, 1, 1, 1, 1, 1, 0, 1, 2, 2, 1, 0, 2, 1, 1, 1, 1, 2] (bdy Tryz.f19))) :
    Does Tryz.prog 82 [.func (.yield l) #[] #[], .pointer (some ⟨bB, 0, none⟩)]
      [lp l 70 tm0 #[59, 60] asg body .ready none, cl b7 108 [.pointer (some ⟨b', 0, none⟩)], cl b9 114 [.int .i64 pg, .int .i64 (dp : Nat)], Stp b' L, cl bB 22 [.slice p3 ks.length c3], vec 3 1 p3 ks.length c3 (ks.map encZ')]
      (fun _ H' => (∃ K', H' = lp l 70 tm0 #[59, 60] asg body .ready none :: K' ∧ K' = [cl b7 108 [.pointer (some ⟨b', 0, none⟩)], cl b9 114 [.int .i64 pg, .int .i64 (dp : Nat)], Stp b' (kidS L ks (dp + 1) 0)]) ∨ ∃ c K', H' = lp l 70 tm0 #[59, 60] asg body .done (some c) :: K' ∧ False) := by
  have h := backwardF_does l bB c3 p3 ks (fun i => Pc l 70 tm0 asg body b7 b9 b' pg dp L ks i) (by omega) (fun i hi => pg_yields l b7 b9 b' i dp pg L ks tm0 asg body hi hb hd w7 w9 hA hB)
  have hall : kidS L ks (dp + 1) ks.length = L := kidS_all
  refine does_pre (does_post h ?_) (fun i => Inv.shuts (K := PcK l 70 tm0 asg body b7 b9 b' pg dp L ks ks.length ()) (H := [cl bB 22 [.slice p3 ks.length c3], vec 3 1 p3 ks.length c3 (ks.map encZ')]) (hid_shuts (p := fun _ : Unit => True) (K := PcK l 70 tm0 asg body b7 b9 b' pg dp L ks ks.length) () trivial) (by dsimp only [PcK, List.cons_append, List.nil_append]; rw [hall]; exact i))
  rintro v H1 ⟨rfl, rfl⟩ w0 F0 w i
  obtain ⟨⟨⟩, _, i2⟩ := Inv.opens (H := [cl bB 22 [.slice p3 ks.length c3], vec 3 1 p3 ks.length c3 (ks.map encZ')]) (hid_opens (p := fun _ : Unit => True) (K := PcK l 70 tm0 asg body b7 b9 b' pg dp L ks 0)) i
  refine ⟨lp l 70 tm0 #[59, 60] asg body .ready none :: _, .inl ⟨_, rfl, rfl⟩, Inv.drop (H' := [cl bB 22 [.slice p3 ks.length c3], vec 3 1 p3 ks.length c3 (ks.map encZ')]) i2⟩
end Go.Proofs.YtpbibhhjbigdhaaGreat

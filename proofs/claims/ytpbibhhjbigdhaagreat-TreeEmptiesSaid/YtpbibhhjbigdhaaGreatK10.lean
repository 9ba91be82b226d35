/- Texts TrDd, TrDe, TrDf, TrDg, TrDh, TlG, RowL, RowS, joined. -/
import Derived.SliceStrings
import Derived.ChangeSlices
import Derived.Carry
import Derived.Test.YtpbibhhjbigdhaaGreatK09
/- Package tree: a round of Delete. -/
set_option maxRecDepth 20000
set_option linter.unusedVariables false
set_option linter.unusedSimpArgs false
namespace Go.Proofs.YtpbibhhjbigdhaaGreat
open Go.Proofs.YtpbibhhjbigdhaaGreat.SL

theorem HandD.lay {N : Nat} {U : List Int} {T : List Ent} {S : Sh} {D : Dk} {s : Spot} {up : List Spot} {pg : Int} {n : Nd} {h : Nat} {Lf Rt es : List Ent} {ps qs : List Int} (k : HandD N U T S D (s :: up) pg n h Lf Rt es ps qs) (hz : 80 ≤ n.size) (room : U.length + S.fresh.length + 2 < N) :
    ∃ (m : Int) (S' : Sh) (D' : Dk) (Lf' Rt' es' : List Ent) (ps' qs' : List Int),
      (∀ b sb db read r, Does Tryz.prog 35 [.pointer (some ⟨b, 0, none⟩), .int .i64 pg, ndV n r] [Wk b sb read 0, Store sb db S, Disk db D, Nds n r] (fun v H => v = .int .i64 m ∧ H = [Wk b sb read 0, Store sb db S', Disk db D', Nds n r])) ∧
      HandD N U T S' D' up s.pg { s.d with kids := s.d.kids.set s.i m } (h + 1) Lf' Rt' es' ps' qs' ∧ S'.fresh.length ≤ S.fresh.length + 1 ∧ S'.gen = S.gen ∧ S'.root = S.root := by
  have hne : n.keys ≠ [] := by
    intro e
    have hp := k.nt.plain
    cases hl : n.leaf
    · have : n.size = 1 + 2 * n.kids.length := by simp [Nd.size, hl, e]
      have := kidsLen hp hl
      rw [e] at this
      simp at this
      omega
    · have hv := valsLen hp hl
      rw [e] at hv
      have hv2 : n.vals = [] := List.length_eq_zero_iff.1 (by simpa using hv)
      have : n.size = 1 := by simp [Nd.size, hl, e, hv2, sumL]
      omega
  have hgood : n.good := ⟨k.nt.plain, fun _ => List.length_pos_iff.2 hne, k.size⟩
  obtain ⟨m, S', D', c1, c2, c3, c4, c5, c6, c7, c8, c9, c10⟩ := lay_ok k.fine k.pages room hgood
  have K : Hand N U T S D (s :: up) pg n h Lf Rt es ps qs := ⟨k.fine, k.way, k.nt, k.pages, k.fit, k.all, hne⟩
  obtain ⟨Lf', Rt', es', ps', qs', k', v1, v2, v3⟩ := Hand.up K k.size c2 c3 c4 c6
  have hsz : Nd.size { s.d with kids := s.d.kids.set s.i m } = s.d.size := by simp only [Nd.size, List.length_set]
  exact ⟨m, S', D', Lf', Rt', es', ps', qs', c1, ⟨k'.fine, k'.way, k'.nt, k'.pages, k'.fit, k'.all, by rw [hsz]; exact v1.size, k.link.2⟩, c8, c9, c10⟩

theorem HandD.even {N : Nat} {U : List Int} {T : List Ent} {S : Sh} {D : Dk} {s : Spot} {up : List Spot} {pg : Int} {n : Nd} {h : Nat} {Lf Rt es : List Ent} {ps qs : List Int} (k : HandD N U T S D (s :: up) pg n h Lf Rt es ps qs) (hz : n.size < 80) (room : U.length + S.fresh.length + 4 < N)
    (b sb db deep : Nat) (r rn : Rw) (read : Int) (h1 : 0 ≤ read ∧ read < 640) (h2 : deep + 1 ≤ 10) :
    Does Tryz.prog 38 [.pointer (some ⟨b, 0, none⟩), .agg #[.int .i64 s.pg, .bool s.d.leaf, .slice r.p1 s.d.keys.length r.c1, .slice r.p2 s.d.vals.length r.c2, .slice r.p3 s.d.kids.length r.c3, .int .i64 s.i], ndV n rn, .int .i64 deep] [Nds s.d r, Nds n rn, Wk b sb read 0, Store sb db S, Disk db D]
      (fun v H => ∃ (n' : Nd) (r' : Rw) (S' : Sh) (D' : Dk), v = ndV n' r' ∧ H = [Nds n' r', Wk b sb (read + 1) 0, Store sb db S', Disk db D'] ∧ (∃ Lf' Rt' es' ps' qs', HandD N U T S' D' up s.pg n' (h + 1) Lf' Rt' es' ps' qs') ∧ S'.fresh.length ≤ S.fresh.length + 2 ∧ S'.gen = S.gen ∧ S'.root = S.root) := by
  obtain ⟨bd, sl, sr, L', R', es', ps', q0, p⟩ := k.pair hz
  have hN := k.fine.n
  have hs : s.d.good := p.two.good
  have hsl : s.d.leaf = false := p.two.leaf
  have hkl := kidsLen hs.p hsl
  have hi : s.i ≤ s.d.keys.length := by
    obtain ⟨_, _, _, _, _, _, _, mid, _⟩ := k.way
    exact mid.ile
  have hkk : s.d.keys ≠ [] := by intro e; have := p.jlt; rw [e] at this; simp at this
  have hrb : S.read D (s.d.kids.getD (othN s.i) 0) = ((2, bd.text, 0), S) := by rw [k.fine.read p.go.1, p.go.2]
  have hnf : n.fits := k.nt.plain.fits (by have := k.size; omega)
  have hxf : (fstN s.i bd n).fits := by unfold fstN; split; exact hnf; exact p.gb.fits
  have hyf : (sndN s.i bd n).fits := by unfold sndN; split; exact p.gb.fits; exact hnf
  have hlf2 : (sndN s.i bd n).leaf = (fstN s.i bd n).leaf := by unfold sndN fstN; split; exact p.lf; exact p.lf.symm
  obtain ⟨al, hal⟩ : ∃ al, (fstN s.i bd n).both (s.d.keys.getD (lefN s.i) 0) (sndN s.i bd n) = al := ⟨_, rfl⟩
  have pnt := p.nt
  have psz := p.sz
  have pne := p.ne
  rw [hal] at pnt psz pne
  have haf : al.fits := pnt.plain.fits (by omega)
  have hjl := p.jlt
  have hkb : ∀ q, q < s.d.kids.length → -9223372036854775808 ≤ s.d.kids.getD q 0 ∧ s.d.kids.getD q 0 < 9223372036854775808 := fun q hq => by
    have := hs.p.kid _ (getD_mem (z := 0) hq)
    omega
  by_cases hz2 : al.size ≤ 240
  · have hgood : al.good := ⟨pnt.plain, fun _ => List.length_pos_iff.2 pne, hz2⟩
    obtain ⟨m, S1, D1, c1, c2, c3, c4, c5, c6, c7, c8, c9, c10⟩ := lay_ok k.fine p.pages (by omega) hgood
    obtain ⟨S2, g1, g2, g3, g4, g5, g6⟩ := give_ok (pg := s.d.kids.getD (lefN s.i + 1) 0) (rest := m :: (ps' ++ (s.pg :: (Sub.pages sl ++ (Sub.pages sr ++ q0))))) c2 ((List.Perm.swap _ _ _).trans c6)
    have ck : ∀ q ∈ ps' ++ (s.pg :: (Sub.pages sl ++ (Sub.pages sr ++ q0))), ∀ dd, Gd N D q dd → Gd N D1 q dd := fun q hq dd gd => gd.keep (c4 q (List.mem_cons_of_mem _ hq))
    refine (even_head b sb db deep s.i s.pg s.d n bd r rn read S D _ hs hsl hi hkk p.gb p.lf hrb h1 h2 (fun w0 F0 b5 b8 b12 b13 r rx ry => even_merge b sb db s.i (lefN s.i) s.pg s.d (fstN s.i bd n) (sndN s.i bd n) (read + 1) m S S1 S2 D D1 hs hsl hjl hxf hyf hlf2 (by rw [hal]; exact haf) (by rw [hal]; exact hz2) (fun r => by rw [hal]; exact c1 b sb db (read + 1) r) g1 (hkb _ (by omega)) w0 F0 b5 b8 b12 b13 r rx ry)).mono ?_
    rintro v H ⟨r', rfl, rfl⟩
    have o : OnP (Gd N D1) h m ⟨es', m :: ps'⟩ := ⟨al, ps', c3, hgood, fun _ => pne, pnt.same (fun q hq => ck q (by simp [hq])), rfl⟩
    have hnt := merge p.two o (by have := c3.1; omega) p.f2 (fun q hq => ck q (by simp only [List.mem_append, List.mem_cons] at hq ⊢; exact .inr (.inr (hq.elim .inl fun z => .inr (.inl z)))))
    refine ⟨_, r', S2, D1, rfl, rfl, ⟨L', R', _, _, q0, ⟨g2, p.way.same (fun q hq => ck q (by simp [hq])), hnt, ?_, ?_, p.all, ?_, k.link.2⟩⟩, by omega, g5.trans c9, g6.trans c10⟩
    · refine List.Perm.trans ?_ g3
      refine List.perm_iff_count.2 fun a => ?_
      simp only [List.count_append, List.count_cons, List.cons_append]
      omega
    · intro e he
      simp only [List.mem_append] at he
      rcases he with he | he | he
      · exact p.fs e (by simp [he])
      · exact p.fp e he
      · exact p.fs e (by simp [he])
    · have h3 := hs.size
      have h4 : (Nd.unhang { s.d with kids := s.d.kids.set (lefN s.i) m } (lefN s.i)).size ≤ s.d.size := by
        have l1 := laid_len (l := s.d.keys) (p := lefN s.i) (g := 1) (m := []) (by omega)
        have l2 := laid_len (l := s.d.kids.set (lefN s.i) m) (p := lefN s.i + 1) (g := 1) (m := []) (by simp; omega)
        simp only [Nd.unhang, Nd.size, hsl, Bool.false_eq_true, if_false, l1, l2, List.length_set, List.length_nil]
        omega
      exact Nat.le_trans h4 h3
  · have hz3 : 240 < al.size := by omega
    obtain ⟨a1, a2, a3, a4, a5⟩ := at_spec pnt.plain hz3 psz
    obtain ⟨e1, p1, e2, p2, md, hmd, n1, n2, rfl, rfl, lt1, ge2, q1, q2⟩ := split_nt pnt a2 a3
    have hmd' : al.keys.getD al.at' 0 = md := by rw [List.getD, hmd]; rfl
    have hmm : md < 18446744073709551616 := pnt.plain.key md (List.mem_of_getElem? hmd)
    have gf : (al.front al.at').good := ⟨n1.plain, fun _ => List.length_pos_iff.2 q1, a4⟩
    have gb : (al.back al.at').good := ⟨n2.plain, fun _ => List.length_pos_iff.2 q2, a5⟩
    obtain ⟨m1, S1, D1, c1, c2, c3, c4, c5, c6, c7, c8, c9, c10⟩ := lay_ok k.fine p.pages (by omega) gf
    obtain ⟨m2, S2, D2, f1, f2, f3, f4, f5, f6, f7, f8, f9, f10⟩ := lay_ok (pg := s.d.kids.getD (lefN s.i + 1) 0) (rest := m1 :: (p1 ++ p2 ++ (s.pg :: (Sub.pages sl ++ (Sub.pages sr ++ q0))))) c2 ((List.Perm.swap _ _ _).trans c6) (by omega) gb
    have ck : ∀ q ∈ p1 ++ p2 ++ (s.pg :: (Sub.pages sl ++ (Sub.pages sr ++ q0))), ∀ dd, Gd N D q dd → Gd N D2 q dd := fun q hq dd gd => (gd.keep (c4 q (List.mem_cons_of_mem _ hq))).keep (f4 q (List.mem_cons_of_mem _ hq))
    refine (even_head b sb db deep s.i s.pg s.d n bd r rn read S D _ hs hsl hi hkk p.gb p.lf hrb h1 h2 (fun w0 F0 b5 b8 b12 b13 r rx ry => even_deal b sb db s.i (lefN s.i) s.pg s.d (fstN s.i bd n) (sndN s.i bd n) al (read + 1) m1 m2 S S1 S2 D D1 D2 hs hsl hjl hxf hyf hlf2 hal pnt.plain haf hz3 (by omega) a1 (fun r => c1 b sb db (read + 1) r) (fun r => f1 b sb db (read + 1) r) w0 F0 b5 b8 b12 b13 r rx ry)).mono ?_
    rintro v H ⟨r', rfl, rfl⟩
    rw [hmd']
    have o1 : OnP (Gd N D2) h m1 ⟨e1, m1 :: p1⟩ := ⟨_, p1, c3.keep (f4 m1 (by simp)), gf, fun _ => q1, n1.same (fun q hq => ck q (by simp [hq])), rfl⟩
    have o2 : OnP (Gd N D2) h m2 ⟨e2, m2 :: p2⟩ := ⟨_, p2, f3, gb, fun _ => q2, n2.same (fun q hq => ck q (by simp [hq])), rfl⟩
    have hnt := deal p.two o1 o2 (by have := c3.1; omega) (by have := f3.1; omega) hmm (fun x hx => ⟨p.f2 x (by simp [hx]), lt1 x hx⟩) (fun x hx => ⟨p.f2 x (by simp [hx]), ge2 x hx⟩) (fun q hq => ck q (by simp only [List.mem_append, List.mem_cons] at hq ⊢; exact .inr (.inr (hq.elim .inl fun z => .inr (.inl z)))))
    refine ⟨_, r', S2, D2, rfl, rfl, ⟨L', R', _, _, q0, ⟨f2, p.way.same (fun q hq => ck q (by simp [hq])), hnt, ?_, ?_, p.all, ?_, k.link.2⟩⟩, by omega, f9.trans c9, f10.trans c10⟩
    · refine List.Perm.trans ?_ f6
      refine List.perm_iff_count.2 fun a => ?_
      simp only [List.count_append, List.count_cons, List.cons_append]
      omega
    · intro e he
      simp only [List.mem_append] at he
      rcases he with he | (he | he) | he
      · exact p.fs e (by simp [he])
      · exact p.fp e (by simp [he])
      · exact p.fp e (by simp [he])
      · exact p.fs e (by simp [he])
    · have h3 := hs.size
      have h4 : Nd.size { s.d with keys := s.d.keys.set (lefN s.i) md, kids := (s.d.kids.set (lefN s.i) m1).set (lefN s.i + 1) m2 } = s.d.size := by
        simp only [Nd.size, hsl, Bool.false_eq_true, if_false, List.length_set]
      exact Nat.le_trans (Nat.le_of_eq h4) h3
end Go.Proofs.YtpbibhhjbigdhaaGreat
/- Package tree: Delete, behind its loop. -/
set_option maxRecDepth 20000
set_option linter.unusedVariables false
set_option linter.unusedSimpArgs false
namespace Go.Proofs.YtpbibhhjbigdhaaGreat
open Go.Proofs.YtpbibhhjbigdhaaGreat.SL

abbrev DelQ (N : Nat) (U : List Int) (T : List Ent) (S0 : Sh) (sb db : Nat) (v : Value) (H : List SProp) : Prop :=
  ∃ (m : Int) (S' : Sh) (D' : Dk), v = .tuple #[.int .i64 m, .bool true, .int .i64 0] ∧ H = [Store sb db S', Disk db D'] ∧ IsTree N S' D' U m T ∧ Fine N S' D' U ∧ S'.gen = S0.gen ∧ S'.root = S0.root

set_option maxHeartbeats 4000000 in
theorem del_tail (b sb db b13 b15 N : Nat) (U : List Int) (T : List Ent) (S0 S : Sh) (D : Dk) (xs : Sp) (n : Nd) (rn : Rw) (rd : Int) {h : Nat} {Lf Rt es : List Ent} {ps qs : List Int} (k : HandD N U T S D [] xs.pg n h Lf Rt es ps qs) (room : U.length + S.fresh.length + 2 < N) (hg : S.gen = S0.gen) (hr : S.root = S0.root) (w0 : World) (F0 : Nat → Prop) :
    G Tryz.prog 158 w0 F0 (nav [1, 1, 1, 1, 1, 1, 1, 1, 1] (bdy Tryz.f14)) (Post Tryz.prog Tryz.f14 w0 F0 (DelQ N U T S0 sb db))
      [(15, .pointer (some ⟨b15, 0, none⟩)), (13, .pointer (some ⟨b13, 0, none⟩)), (11, .pointer (some ⟨b, 0, none⟩)), (0, .pointer (some ⟨sb, 0, none⟩))] [] [cl b13 83 xs.c, cl b15 79 (ndA n rn).toList, Nds n rn, Wk b sb rd 0, Store sb db S, Disk db D] := by
  have hN := k.fine.n
  obtain ⟨xpg, xd, xr, xi⟩ := xs
  dsimp only at k
  obtain ⟨rfl, rfl, rfl⟩ := k.way
  have hall := k.all
  simp only [List.nil_append, List.append_nil] at hall
  have hpp := k.pages
  rw [List.append_nil] at hpp
  have hp := k.nt.plain
  have hfk := (hp.fits (by have := k.size; omega)).k
  have hpg : 2 ≤ xpg ∧ xpg < N := by
    have hm : xpg ∈ S.after U := hpp.mem_iff.1 (by simp)
    rcases (Sh.mem_after.1 hm).1 with q | q
    · exact k.fine.h.b _ q
    · have := k.fine.f.2 _ q; omega
  obtain ⟨c, hc⟩ : ∃ c, c = nav [1, 1, 1, 1, 1, 1, 1, 1, 1] (bdy Tryz.f14) := ⟨_, rfl⟩
  rw [← hc]
  dsimp only [nav, bdy, Tryz.f14, Option.getD] at hc
  subst hc
  dsimp only [Sp.c]
  by_cases hne : n.keys = []
  · obtain ⟨S', g1, g2, g3, g4, g5, g6⟩ := give_ok k.fine hpp
    have hG := sGive_does sb db S xpg (by omega)
    rw [g1] at hG
    dsimp only at hG
    have hF := wFail0_does b sb rd
    have hkl0 : n.keys.length = 0 := by rw [hne]; rfl
    cases hl : n.leaf
    · have hkl := kidsLen hp hl
      have hgk := iGet (l := n.kids) (k := 0) (by omega)
      obtain ⟨p1, c1, p2, c2, p3, c3⟩ := rn
      refine g_open (A := Nds n ⟨p1, c1, p2, c2, p3, c3⟩) (h := ?_); (rintro _ _; dsimp only [NdsK, List.cons_append, List.nil_append])
      refine g_ptr (m := n.kids.length) (h := ?_); rintro g rfl hc
      have hit : IsTree N S' D U (n.kids.getD 0 0) T := by
        have hnt := k.nt
        cases h with
        | zero => have := hnt.1; rw [hl] at this; cases this
        | succ h =>
          obtain ⟨_, _, ss, f, e1, e2, sp⟩ := hnt
          rw [hne] at sp
          cases ss with
          | nil => exact sp.elim
          | cons s0 ss =>
            cases ss with
            | cons _ _ => exact sp.elim
            | nil =>
              cases hks : n.kids with
              | nil => rw [hks] at f; exact f.elim
              | cons k0 kk =>
                rw [hks] at f
                have h1 := f.1
                refine .inr ⟨h, s0.ps, ?_, ?_⟩
                · rw [← hall, e1]
                  have : Sub.all [s0] = s0.es := by simp [Sub.all]
                  rw [this]
                  exact h1
                · rw [e2] at g3
                  simpa [Sub.pages] using g3
      (repeat' (first | refine g_seq (h := ?_) | refine g_region (h := ?_) | refine l_nil (h := ?_) | refine n_then (h := ?_) | refine l_pures1 (h := ?_) | (refine l_atc ?_; refine l_call (hG) ?_) | (refine l_atc ?_; refine l_call (hF) ?_) | refine l_guard_yes (h := ?_) | refine l_load (h := ?_) | refine l_indexAddr (h := ?_) | refine g_skip (h := ?_) | refine g_ret (h := ?_) | refine g_cond_t (h := ?_) | refine g_cond_f (h := ?_) | refine l_load_vec (h := ?_) | (refine g_spF (h := ?_); intro h)))
      refine r_retk [Store sb db S', Disk db D] ?_
      exact ⟨_, S', D, rfl, rfl, hit, g2, g5.trans hg, g6.trans hr⟩
    · have hit : IsTree N S' D U 0 T := by
        have hnt := k.nt
        have h0 := hnt.leaf.1 hl
        subst h0
        obtain ⟨_, _, e1, e2⟩ := hnt
        refine .inl ⟨rfl, ?_, ?_⟩
        · rw [← hall, e1, Nd.ents, hne]; rfl
        · rw [e2] at g3
          exact List.Perm.nil_eq g3 ▸ rfl
      (repeat' (first | refine g_seq (h := ?_) | refine g_region (h := ?_) | refine l_nil (h := ?_) | refine n_then (h := ?_) | refine l_pures1 (h := ?_) | (refine l_atc ?_; refine l_call (hG) ?_) | (refine l_atc ?_; refine l_call (hF) ?_) | refine l_guard_yes (h := ?_) | refine l_load (h := ?_) | refine g_skip (h := ?_) | refine g_ret (h := ?_) | refine g_cond_f (h := ?_) | (refine g_spF (h := ?_); intro h)))
      refine r_retk [Store sb db S', Disk db D] ?_
      exact ⟨0, S', D, rfl, rfl, hit, g2, g5.trans hg, g6.trans hr⟩
  · have hkl : 0 < n.keys.length := List.length_pos_iff.2 hne
    have hgood : n.good := ⟨hp, fun _ => hkl, k.size⟩
    obtain ⟨m, S', D', c1, c2, c3, c4, c5, c6, c7, c8, c9, c10⟩ := lay_ok k.fine k.pages room hgood
    have K : Hand N U T S D [] xpg n h [] [] es ps [] := ⟨k.fine, k.way, k.nt, k.pages, k.fit, k.all, hne⟩
    (repeat' (first | refine g_seq (h := ?_) | refine g_region (h := ?_) | refine l_nil (h := ?_) | refine n_then (h := ?_) | refine l_pures1 (h := ?_) | (refine l_at 35 ?_; refine l_call (c1 b sb db rd rn) ?_) | refine l_load (h := ?_) | refine g_skip (h := ?_) | refine g_ret (h := ?_) | refine g_cond_f (h := ?_) | (refine g_spT (h := ?_); intro h)))
    refine r_retk [Store sb db S', Disk db D'] ?_
    exact ⟨m, S', D', rfl, rfl, Hand.top K k.size c2 c3 c4 c6, c2, c9.trans hg, c10.trans hr⟩
end Go.Proofs.YtpbibhhjbigdhaaGreat
/- Package tree: a round of Delete's loop. -/
set_option maxRecDepth 20000
set_option linter.unusedVariables false
set_option linter.unusedSimpArgs false
namespace Go.Proofs.YtpbibhhjbigdhaaGreat
open Go.Proofs.YtpbibhhjbigdhaaGreat.SL

abbrev delT (b sb b' b13 b15 b16 : Nat) : List (Nat × Value) := [(17, .bool true), (16, .pointer (some ⟨b16, 0, none⟩)), (15, .pointer (some ⟨b15, 0, none⟩)), (13, .pointer (some ⟨b13, 0, none⟩)), (12, .pointer (some ⟨b', 0, none⟩)), (11, .pointer (some ⟨b, 0, none⟩)), (0, .pointer (some ⟨sb, 0, none⟩))]

set_option maxHeartbeats 4000000 in
theorem del_lay (A : SProp) (b sb db b' b13 b15 b16 : Nat) (rd m : Int) (xs s : Sp) (L : List Sp) (n : Nd) (rn : Rw) (S S' : Sh) (D D' : Dk) (hn : 80 ≤ n.size) (hf : n.fits) (hk : s.i < s.d.kids.length) (hlen : L.length < 100)
    (hL : ∀ r, Does Tryz.prog 35 [.pointer (some ⟨b, 0, none⟩), .int .i64 (s.d.kids.getD s.i 0), ndV n r] [Wk b sb rd 0, Store sb db S, Disk db D, Nds n r] (fun v H => v = .int .i64 m ∧ H = [Wk b sb rd 0, Store sb db S', Disk db D', Nds n r]))
    (w0 : World) (F0 : Nat → Prop) (Q : Exit → Act → World → Prop) (hc : SL.Calm Q)
    (hq : ∀ r, N 158 w0 F0 .normal Q (delT b sb b' b13 b15 b16) [] [cl b16 83 s.c, cl b13 83 s.c, cl b15 79 (ndA { s.d with kids := s.d.kids.set s.i m } r).toList, Stk b' L, Nds { s.d with kids := s.d.kids.set s.i m } r, Wk b sb rd 0, Store sb db S', Disk db D', A]) :
    G Tryz.prog 158 w0 F0 (nav [1, 1, 1, 1, 1, 1, 1, 1, 0, 1, 2, 2, 1, 0, 2] (bdy Tryz.f14)) Q (delT b sb b' b13 b15 b16) [] [cl b16 83 s.c, cl b13 83 xs.c, cl b15 79 (ndA n rn).toList, Stk b' L, Nds s.d s.r, Nds n rn, Wk b sb rd 0, Store sb db S, Disk db D, A] := by
  have hS := ndSize_does n rn hf
  obtain ⟨tpg, td, ⟨p1, c1, p2, c2, p3, c3⟩, ti⟩ := s
  dsimp only at hk hL hq ⊢
  obtain ⟨c, hc⟩ : ∃ c, c = nav [1, 1, 1, 1, 1, 1, 1, 1, 0, 1, 2, 2, 1, 0, 2] (bdy Tryz.f14) := ⟨_, rfl⟩
  rw [← hc]
  dsimp only [nav, bdy, Tryz.f14, Option.getD] at hc
  subst hc
  dsimp only [Sp.c, delT] at hq ⊢
  refine g_open (A := Stk b' L) (h := ?_); (rintro ⟨ps, cs⟩ _; dsimp only [StkK, List.cons_append, List.nil_append])
  refine g_open (A := Nds td ⟨p1, c1, p2, c2, p3, c3⟩) (h := ?_); (rintro _ _; dsimp only [NdsK, List.cons_append, List.nil_append])
  refine g_ptr (m := td.kids.length) (h := ?_); rintro g rfl hcp
  have hgk := iGet (l := td.kids) (k := ti) (by omega)
  (repeat' (first | refine g_seq (h := ?_) | refine g_region (h := ?_) | refine l_nil (h := ?_) | refine n_then (h := ?_) | refine l_pures1 (h := ?_) | (refine l_atc ?_; refine l_call (hS) ?_) | refine l_guard_no (h := ?_) | refine l_load (h := ?_) | refine g_cond_t (h := ?_) | (refine l_spT (h := ?_); intro h)))
  all_goals
    (refine g_draw [cl b16 83 _, vec 3 1 (some ⟨g, 0, none⟩) td.kids.length c3 (td.kids.map encZ'), cl b15 79 _] (h := a_pass2 (h := ?_)))
  all_goals
    (repeat' (first | refine g_seq (h := ?_) | refine g_region (h := ?_) | refine l_nil (h := ?_) | refine n_then (h := ?_) | refine l_pures1 (h := ?_) | (refine l_at 35 ?_; refine l_call (hL rn) ?_) | refine l_load (h := ?_) | refine l_store (h := ?_) | refine l_indexAddr (h := ?_) | refine g_skip (h := ?_) | refine a_done (h := ?_) | refine a_load (h := a_pass2 (h := ?_)) | refine a_one (h := ?_) | refine n_any (h := a_pass2 (h := ?_)) | refine g_cond_f (h := ?_) | refine l_load_vec (h := ?_) | refine l_store_vec (h := ?_)))
  rw [set_encZ]
  (refine n_shut (A := Nds { td with kids := td.kids.set ti m } ⟨p1, c1, p2, c2, some ⟨g, 0, none⟩, c3⟩) (K := NdsK { td with kids := td.kids.set ti m } ⟨p1, c1, p2, c2, some ⟨g, 0, none⟩, c3⟩ (())) (hid_shuts (()) trivial) (h := ?_) (p := by dsimp only [NdsK]; (try simp only [List.map_nil, List.length_nil, List.length_set, List.length_append, List.length_cons, List.length_singleton, List.map_append, List.map_cons, Nat.zero_add]); exact parts_of))
  (refine n_shut (A := Stk b' L) (K := StkK b' L ((ps, cs))) (hid_shuts ((ps, cs)) trivial) (h := ?_) (p := by dsimp only [StkK]; (try simp only [List.map_nil, List.length_nil, List.length_set, List.length_append, List.length_cons, List.length_singleton, List.map_append, List.map_cons, Nat.zero_add]); exact parts_of))
  have hq' := hq ⟨p1, c1, p2, c2, some ⟨g, 0, none⟩, c3⟩
  simp only [List.length_set] at hq'
  exact n_bang hq'

set_option maxHeartbeats 4000000 in
theorem del_even (A : SProp) (P : Nd → Sh → Dk → Prop) (b sb db b' b13 b15 b16 : Nat) (rd rd' : Int) (xs s : Sp) (L : List Sp) (n : Nd) (rn : Rw) (S : Sh) (D : Dk) (hn : n.size < 80) (hf : n.fits) (hk : 1 < s.d.kids.length) (hk2 : s.d.kids.length < 10000) (hlen : L.length < 100)
    (hE : ∀ r rn, Does Tryz.prog 38 [.pointer (some ⟨b, 0, none⟩), .agg #[.int .i64 s.pg, .bool s.d.leaf, .slice r.p1 s.d.keys.length r.c1, .slice r.p2 s.d.vals.length r.c2, .slice r.p3 s.d.kids.length r.c3, .int .i64 s.i], ndV n rn, .int .i64 (L.length + 1 : Nat)] [Nds s.d r, Nds n rn, Wk b sb rd 0, Store sb db S, Disk db D]
      (fun v H => ∃ (n' : Nd) (r' : Rw) (S' : Sh) (D' : Dk), v = ndV n' r' ∧ H = [Nds n' r', Wk b sb rd' 0, Store sb db S', Disk db D'] ∧ P n' S' D'))
    (w0 : World) (F0 : Nat → Prop) (Q : Exit → Act → World → Prop) (hc : SL.Calm Q)
    (hq : ∀ n' r' S' D', P n' S' D' → N 158 w0 F0 .normal Q (delT b sb b' b13 b15 b16) [] [cl b16 83 s.c, cl b13 83 s.c, cl b15 79 (ndA n' r').toList, Stk b' L, Nds n' r', Wk b sb rd' 0, Store sb db S', Disk db D', A]) :
    G Tryz.prog 158 w0 F0 (nav [1, 1, 1, 1, 1, 1, 1, 1, 0, 1, 2, 2, 1, 0, 2] (bdy Tryz.f14)) Q (delT b sb b' b13 b15 b16) [] [cl b16 83 s.c, cl b13 83 xs.c, cl b15 79 (ndA n rn).toList, Stk b' L, Nds s.d s.r, Nds n rn, Wk b sb rd 0, Store sb db S, Disk db D, A] := by
  have hS := ndSize_does n rn hf
  have ed : IntKind.i64.wrap ((L.length : Int) + 1) = ((L.length + 1 : Nat) : Int) := by rw [wrapI64 (by omega)]; rfl
  rw [← ed] at hE
  obtain ⟨tpg, td, ⟨p1, c1, p2, c2, p3, c3⟩, ti⟩ := s
  dsimp only at hk hE hq ⊢
  have hE2 := hE ⟨p1, c1, p2, c2, p3, c3⟩ rn
  dsimp only at hE2
  obtain ⟨c, hc⟩ : ∃ c, c = nav [1, 1, 1, 1, 1, 1, 1, 1, 0, 1, 2, 2, 1, 0, 2] (bdy Tryz.f14) := ⟨_, rfl⟩
  rw [← hc]
  dsimp only [nav, bdy, Tryz.f14, Option.getD] at hc
  subst hc
  dsimp only [Sp.c, delT] at hq ⊢
  refine g_open (A := Stk b' L) (h := ?_); (rintro ⟨ps, cs⟩ _; dsimp only [StkK, List.cons_append, List.nil_append])
  (repeat' (first | refine g_seq (h := ?_) | refine g_region (h := ?_) | refine l_nil (h := ?_) | refine n_then (h := ?_) | refine l_pures1 (h := ?_) | (refine l_atc ?_; refine l_call (hS) ?_) | (refine l_atc ?_; refine l_call_ (hE2) ?_; rintro _ _ _ ⟨n', r', S', D', rfl, rfl, hP⟩ he; cases he) | refine l_guard_yes (h := ?_) | refine l_load (h := ?_) | refine l_store (h := ?_) | refine g_skip (h := ?_) | refine g_cond_f (h := ?_) | (refine l_spF (h := ?_); intro h) | (refine g_spF (h := ?_); intro h)))
  (refine n_shut (A := Stk b' L) (K := StkK b' L ((ps, cs))) (hid_shuts ((ps, cs)) trivial) (h := ?_) (p := by dsimp only [StkK]; (try simp only [List.map_nil, List.length_nil, List.length_set, List.length_append, List.length_cons, List.length_singleton, List.map_append, List.map_cons, Nat.zero_add]); exact parts_of))
  exact n_bang (hq n' r' S' D' hP)
end Go.Proofs.YtpbibhhjbigdhaaGreat
/- Package tree: the loop of Delete. -/
set_option maxRecDepth 20000
set_option linter.unusedVariables false
set_option linter.unusedSimpArgs false
namespace Go.Proofs.YtpbibhhjbigdhaaGreat
open Go.Proofs.YtpbibhhjbigdhaaGreat.SL

structure DelSt where
  L : List Sp
  ab : Option Sp
  b16 : Nat
  xs : Sp
  n : Nd
  rn : Rw
  S : Sh
  D : Dk
  rd : Int
def abL (ab : Option Sp) : List Sp := match ab with
  | some s => [s]
  | none => []
def abC (ab : Option Sp) : List Value := match ab with
  | some s => s.c
  | none => [.int .i64 0, .bool false, .slice none 0 0, .slice none 0 0, .slice none 0 0, .int .i64 0]
def abN (ab : Option Sp) : Nat := match ab with
  | some _ => 1
  | none => 0
/-- What holds at each round of Delete. -/
def DelI (N : Nat) (U : List Int) (T : List Ent) (S0 : Sh) (y : DelSt) : Prop :=
  ∃ h Lf Rt es ps qs, HandD N U T y.S y.D ((abL y.ab).map Sp.spot ++ (y.L.map Sp.spot).reverse) y.xs.pg y.n h Lf Rt es ps qs ∧ (y.ab = none → y.L = []) ∧ U.length + y.S.fresh.length + 2 * (y.L.length + abN y.ab) + 5 < N ∧ y.L.length ≤ 8 ∧ 0 ≤ y.rd ∧ y.rd + y.L.length + abN y.ab < 640 ∧ y.S.gen = S0.gen ∧ y.S.root = S0.root

theorem inv_tail {w0 w : World} {F0 : Nat → Prop} {A : SProp} {H : List SProp} (i : Inv w0 F0 (A :: H) w) : Inv w0 F0 H w :=
  i.imp fun s => by
    obtain ⟨F1, F2, _, s', _, un⟩ := s
    exact ⟨F2, s', fun b hb => (un b).2 (.inr hb)⟩
theorem ndl_one {w0 w : World} {F0 : Nat → Prop} {H : List SProp} {s : Sp} (i : Inv w0 F0 (NdL [s] :: H) w) : Inv w0 F0 (Nds s.d s.r :: H) w := inv_tail (ndl_last (L := []) i)
theorem ndl_sing {w0 w : World} {F0 : Nat → Prop} {H : List SProp} {s : Sp} (i : Inv w0 F0 (Nds s.d s.r :: H) w) : Inv w0 F0 (NdL [s] :: H) w := ndl_snoc (L := []) (ndl_nil i)

theorem abL_len (ab : Option Sp) : (abL ab).length = abN ab := by cases ab <;> rfl
theorem DelI.next {N : Nat} {U : List Int} {T : List Ent} {S0 S' : Sh} {D' : Dk} {L' : List Sp} {ab : Option Sp} {b17 : Nat} {s : Sp} {n' : Nd} {r : Rw} {rd : Int} {h : Nat} {Lf Rt es : List Ent} {ps qs : List Int}
    (k : HandD N U T S' D' ((L' ++ abL ab).map Sp.spot).reverse s.pg n' h Lf Rt es ps qs) (hab : ab = none → L' = []) (room : U.length + S'.fresh.length + 2 * (L' ++ abL ab).length + 5 < N) (hL : (L' ++ abL ab).length ≤ 8) (h1 : 0 ≤ rd) (h2 : rd + ((L' ++ abL ab).length : Nat) < 640) (hg : S'.gen = S0.gen) (hr : S'.root = S0.root) :
    DelI N U T S0 ⟨L', ab, b17, s, n', r, S', D', rd⟩ := by
  have hl := abL_len ab
  rw [List.length_append, hl] at room hL h2
  refine ⟨h, Lf, Rt, es, ps, qs, ?_, hab, room, by show L'.length ≤ 8; omega, h1, by show rd + (L'.length : Int) + (abN ab : Int) < 640; omega, hg, hr⟩
  have e : ((L' ++ abL ab).map Sp.spot).reverse = (abL ab).map Sp.spot ++ (L'.map Sp.spot).reverse := by
    rw [List.map_append, List.reverse_append]
    cases ab <;> rfl
  rw [e] at k
  exact k

set_option maxHeartbeats 4000000 in
theorem del_next (A B C : SProp) (b sb b' b13 b15 b16 : Nat) (s : Sp) (L : List Sp) (n' : Nd) (r' : Rw) (hlen : L.length < 100) (w0 : World) (F0 : Nat → Prop) (Q : Exit → Act → World → Prop) (hc : SL.Calm Q)
    (hq : ∀ b16' ab L', L = L' ++ abL ab → (ab = none → L' = []) → N 158 w0 F0 .normal Q [(17, .bool ab.isSome), (16, .pointer (some ⟨b16', 0, none⟩)), (15, .pointer (some ⟨b15, 0, none⟩)), (13, .pointer (some ⟨b13, 0, none⟩)), (12, .pointer (some ⟨b', 0, none⟩)), (11, .pointer (some ⟨b, 0, none⟩)), (0, .pointer (some ⟨sb, 0, none⟩))] []
      [cl b16' 83 (abC ab), cl b13 83 s.c, cl b15 79 (ndA n' r').toList, Stk b' L', NdL L', NdL (abL ab), Nds n' r', A, B, C]) :
    G Tryz.prog 158 w0 F0 (nav [1, 1, 1, 1, 1, 1, 1, 1, 0, 1, 2, 2, 1, 1] (bdy Tryz.f14)) Q (delT b sb b' b13 b15 b16) [] [cl b16 83 s.c, cl b13 83 s.c, cl b15 79 (ndA n' r').toList, Stk b' L, NdL L, Nds n' r', A, B, C] := by
  obtain ⟨c, hc⟩ : ∃ c, c = nav [1, 1, 1, 1, 1, 1, 1, 1, 0, 1, 2, 2, 1, 1] (bdy Tryz.f14) := ⟨_, rfl⟩
  rw [← hc]
  dsimp only [nav, bdy, Tryz.f14, Option.getD] at hc
  subst hc
  rcases List.eq_nil_or_concat L with rfl | ⟨L', s2, rfl⟩
  · have hp := popNone_does b'
    dsimp only [Sp.c, delT]
    (repeat (first | refine g_seq (h := ?_) | refine g_region (h := ?_) | refine l_nil (h := ?_) | refine n_then (h := ?_) | refine l_pures1 (h := ?_) | (refine l_atc ?_; refine l_call (hp) ?_) | refine l_load (h := ?_) | refine l_store (h := ?_) | (refine l_alloc (h := ?_); intro _)))
    rename_i b17
    refine n_inv (fun i => ndl_nil i) ?_
    have hq' := hq b17 none [] rfl (fun _ => rfl)
    dsimp only [abC, abL, Option.isSome, Sp.c, ndA] at hq' ⊢
    exact n_bang hq'
  · rw [List.concat_eq_append] at *
    have hp := pop_does b' L' s2 (by simp at hlen; omega)
    refine g_inv (fun i => ndl_last (i.take (A := NdL (L' ++ [s2])) (by with_reducible (repeat (first | refine Take.here | apply Take.there))))) ?_
    dsimp only [Sp.c, delT]
    (repeat (first | refine g_seq (h := ?_) | refine g_region (h := ?_) | refine l_nil (h := ?_) | refine n_then (h := ?_) | refine l_pures1 (h := ?_) | (refine l_atc ?_; refine l_call (hp) ?_) | refine l_load (h := ?_) | refine l_store (h := ?_) | (refine l_alloc (h := ?_); intro _)))
    rename_i b17
    refine n_inv (fun i => ndl_sing (s := s2) (i.take (A := Nds s2.d s2.r) (by with_reducible (repeat (first | refine Take.here | apply Take.there))))) ?_
    have hq' := hq b17 (some s2) L' rfl (fun e => by cases e)
    dsimp only [abC, abL, Option.isSome, Sp.c, ndA] at hq' ⊢
    exact n_bang hq'

set_option maxHeartbeats 8000000 in
theorem del_loop (b sb db b' b13 b15 N : Nat) (U : List Int) (T : List Ent) (S0 : Sh) (y0 : DelSt) (h0 : DelI N U T S0 y0) (w0 : World) (F0 : Nat → Prop) :
    G Tryz.prog 158 w0 F0 (nav [1, 1, 1, 1, 1, 1, 1, 1, 0, 1] (bdy Tryz.f14)) (Exit.then ((nav [1, 1, 1, 1, 1, 1, 1, 1, 1] (bdy Tryz.f14)).wp Tryz.prog (Post Tryz.prog Tryz.f14 w0 F0 (DelQ N U T S0 sb db))) (Post Tryz.prog Tryz.f14 w0 F0 (DelQ N U T S0 sb db)))
      [(17, .bool y0.ab.isSome), (16, .pointer (some ⟨y0.b16, 0, none⟩)), (15, .pointer (some ⟨b15, 0, none⟩)), (13, .pointer (some ⟨b13, 0, none⟩)), (12, .pointer (some ⟨b', 0, none⟩)), (11, .pointer (some ⟨b, 0, none⟩)), (0, .pointer (some ⟨sb, 0, none⟩))] []
      [cl y0.b16 83 (abC y0.ab), cl b13 83 y0.xs.c, cl b15 79 (ndA y0.n y0.rn).toList, Stk b' y0.L, NdL y0.L, NdL (abL y0.ab), Nds y0.n y0.rn, Wk b sb y0.rd 0, Store sb db y0.S, Disk db y0.D] := by
  obtain ⟨tl, htl⟩ : ∃ c, c = nav [1, 1, 1, 1, 1, 1, 1, 1, 1] (bdy Tryz.f14) := ⟨_, rfl⟩
  rw [← htl]
  obtain ⟨c, hc⟩ : ∃ c, c = nav [1, 1, 1, 1, 1, 1, 1, 1, 0, 1] (bdy Tryz.f14) := ⟨_, rfl⟩
  rw [← hc]
  dsimp only [nav, bdy, Tryz.f14, Option.getD] at hc
  subst hc
  refine g_block ?_
  (refine g_loop (fun y : DelSt => [(17, .bool y.ab.isSome), (16, .pointer (some ⟨y.b16, 0, none⟩)), (15, .pointer (some ⟨b15, 0, none⟩)), (13, .pointer (some ⟨b13, 0, none⟩)), (12, .pointer (some ⟨b', 0, none⟩)), (11, .pointer (some ⟨b, 0, none⟩)), (0, .pointer (some ⟨sb, 0, none⟩))]) (fun y => [cl y.b16 83 (abC y.ab), cl b13 83 y.xs.c, cl b15 79 (ndA y.n y.rn).toList, Stk b' y.L, NdL y.L, NdL (abL y.ab), Nds y.n y.rn, Wk b sb y.rd 0, Store sb db y.S, Disk db y.D]) (fun y => DelI N U T S0 y) (fun y => y.L.length + abN y.ab) (y0) ?_ ?_ ?_ ?_; rotate_left; (repeat (first | refine ts_nil | (refine ts_cons rfl ?_ ?_; first | (with_reducible rfl) | rotate_left))); (first | (intro _ i; with_reducible refine i) | rotate_left); rotate_left; (try omega); rotate_right)
  · rintro ⟨L, ab, b16, xs, n, rn, S, D, rd⟩ ⟨h, Lf, Rt, es, ps, qs, k, hab, room, hL8, hrd0, hrd, hgen, hroot⟩
    dsimp only at k hab room hL8 hrd0 hrd hgen hroot ⊢
    cases ab with
    | none =>
      obtain rfl := hab rfl
      dsimp only [Option.isSome]
      have ht := del_tail b sb db b13 b15 N U T S0 S D xs n rn rd (k : HandD N U T S D [] xs.pg n h Lf Rt es ps qs) (by simp only [List.length_nil, abN] at room; omega) hgen hroot w0 F0
      rw [← htl] at ht
      (repeat (first | refine g_seq (h := ?_) | refine g_region (h := ?_) | refine l_nil (h := ?_) | refine n_then (h := ?_) | refine l_pures1 (h := ?_) | refine g_exit (h := ?_) | refine n_then_exit (h := ?_) | refine n_block_hit (h := ?_) | refine g_cond_f (h := ?_)))
      exact g_bang ht
    | some s =>
      dsimp only [Option.isSome, abL, abN, abC] at *
      have k : HandD N U T S D (s.spot :: (L.map Sp.spot).reverse) xs.pg n h Lf Rt es ps qs := k
      obtain ⟨_, _, _, _, _, _, v0, v1, _⟩ := k.way
      have v2 : s.d.leaf = false := v1.leaf
      have v3 : s.i ≤ s.d.keys.length := v1.ile
      have v4 : s.d.good := v1.good
      have v5 : s.d.kids.length = s.d.keys.length + 1 := kidsLen v4.p v2
      have v6 := v4.fits.i
      have v7 : 0 < s.d.keys.length := List.length_pos_iff.2 v1.ne
      have v8 := v4.size
      have hnf : n.fits := k.nt.plain.fits (by have := k.size; omega)
      have hv9 : s.d.kids.length < 10000 := by
        simp only [Nd.size, v2, Bool.false_eq_true, if_false] at v8
        omega
      refine g_inv (fun i => ndl_one (i.take (A := NdL [s]) (by with_reducible (repeat (first | refine Take.here | apply Take.there))))) ?_
      by_cases hz : 80 ≤ n.size
      · obtain ⟨m, S', D', Lf', Rt', es', ps', qs', c1, c2, c3, c4, c5⟩ := k.lay hz (by omega)
        have hlink : s.d.kids.getD s.i 0 = xs.pg := k.link.1
        (repeat (first | ((with_reducible show G _ _ _ _ (Code.seq (Code.region 15 _ _) _) _ _ _ _); refine g_bang (del_lay (NdL L) b sb db b' b13 b15 b16 rd m xs s L n rn S S' D D' hz hnf (by omega) (by omega) (by rw [hlink]; exact c1 b sb db rd) w0 F0 _ (by with_reducible (repeat (first | refine calm_post | apply calm_then | apply calm_block))) ?_)) | refine g_seq (h := ?_) | refine g_region (h := ?_) | refine l_nil (h := ?_) | refine n_then (h := ?_) | refine l_pures1 (h := ?_) | refine g_skip (h := ?_) | refine g_block (h := ?_) | refine g_cond_t (h := ?_)))
        intro r
        (repeat (first | ((with_reducible show G _ _ _ _ (Code.seq (Code.seq (Code.region 24 _ _) _) _) _ _ _ _); refine g_bang (del_next (Wk b sb rd 0) (Store sb db S') (Disk db D') b sb b' b13 b15 b16 s L { s.d with kids := s.d.kids.set s.i m } r (by omega) w0 F0 _ (by with_reducible (repeat (first | refine calm_post | apply calm_then | apply calm_block))) ?_)) | refine n_then (h := ?_) | refine n_block (h := ?_)))
        intro b17 ab L' hL hab'
        subst hL
        (refine n_back ((⟨L', ab, b17, s, { s.d with kids := s.d.kids.set s.i m }, r, S', D', rd⟩ : DelSt)) ?_ ?_ ?_ ?_; rotate_left; rotate_left; (repeat (first | refine ts_nil | (refine ts_cons rfl ?_ ?_; first | (with_reducible rfl) | rotate_left))); (first | (intro _ i; with_reducible refine i) | rotate_left); (try omega); (try omega))
        · simp only [List.length_append, abL_len] at room hrd hL8
          exact DelI.next c2 hab' (by rw [List.length_append, abL_len]; omega) (by rw [List.length_append, abL_len]; omega) hrd0 (by rw [List.length_append, abL_len]; omega) (c4.trans hgen) (c5.trans hroot)
        · show L'.length + abN ab < (L' ++ abL ab).length + 1
          rw [List.length_append, abL_len]; omega
        · cases ab <;> rfl
        · cases ab <;> dsimp only [abC, abL, ndA]
          all_goals
            (intro _ i; exact inv_keep parts_of i)
      · have hz : n.size < 80 := by omega
        have hE := fun r rn => k.even hz (by omega) b sb db (L.length + 1) r rn rd ⟨hrd0, by omega⟩ (by omega)
        (repeat (first | ((with_reducible show G _ _ _ _ (Code.seq (Code.region 15 _ _) _) _ _ _ _); refine g_bang (del_even (NdL L) (fun n' S' D' => (∃ Lf' Rt' es' ps' qs', HandD N U T S' D' (L.map Sp.spot).reverse s.pg n' (h + 1) Lf' Rt' es' ps' qs') ∧ S'.fresh.length ≤ S.fresh.length + 2 ∧ S'.gen = S.gen ∧ S'.root = S.root) b sb db b' b13 b15 b16 rd (rd + 1) xs s L n rn S D hz hnf (by omega) (by omega) (by omega) hE w0 F0 _ (by with_reducible (repeat (first | refine calm_post | apply calm_then | apply calm_block))) ?_)) | refine g_seq (h := ?_) | refine g_region (h := ?_) | refine l_nil (h := ?_) | refine n_then (h := ?_) | refine l_pures1 (h := ?_) | refine g_skip (h := ?_) | refine g_block (h := ?_) | refine g_cond_t (h := ?_)))
        rintro n' r S' D' ⟨⟨Lf', Rt', es', ps', qs', c2⟩, c3, c4, c5⟩
        (repeat (first | ((with_reducible show G _ _ _ _ (Code.seq (Code.seq (Code.region 24 _ _) _) _) _ _ _ _); refine g_bang (del_next (Wk b sb (rd + 1) 0) (Store sb db S') (Disk db D') b sb b' b13 b15 b16 s L n' r (by omega) w0 F0 _ (by with_reducible (repeat (first | refine calm_post | apply calm_then | apply calm_block))) ?_)) | refine n_then (h := ?_) | refine n_block (h := ?_)))
        intro b17 ab L' hL hab'
        subst hL
        (refine n_back ((⟨L', ab, b17, s, n', r, S', D', rd + 1⟩ : DelSt)) ?_ ?_ ?_ ?_; rotate_left; rotate_left; (repeat (first | refine ts_nil | (refine ts_cons rfl ?_ ?_; first | (with_reducible rfl) | rotate_left))); (first | (intro _ i; with_reducible refine i) | rotate_left); (try omega); (try omega))
        · simp only [List.length_append, abL_len] at room hrd hL8
          exact DelI.next c2 hab' (by rw [List.length_append, abL_len]; omega) (by rw [List.length_append, abL_len]; omega) (by omega) (by rw [List.length_append, abL_len]; omega) (c4.trans hgen) (c5.trans hroot)
        · show L'.length + abN ab < (L' ++ abL ab).length + 1
          rw [List.length_append, abL_len]; omega
        · cases ab <;> rfl
        · cases ab <;> dsimp only [abC, abL, ndA]
          all_goals
            (intro _ i; exact inv_keep parts_of i)
end Go.Proofs.YtpbibhhjbigdhaaGreat
/- Package tree: Delete, whole. -/
set_option maxRecDepth 20000
set_option linter.unusedVariables false
set_option linter.unusedSimpArgs false
namespace Go.Proofs.YtpbibhhjbigdhaaGreat
open Go.Proofs.YtpbibhhjbigdhaaGreat.SL

theorem goes_link {S : Sh} {D : Dk} {x : Nat} {s : Spot} : ∀ {top : List Spot} {pg : Int} {up : List Spot}, Goes S D x pg (top ++ [s]) → LinkTo up pg → LinkTo (top.reverse ++ up) s.pg
  | [], pg, up, g, l => by
    have h : s.pg = pg := g.1
    rw [h]; exact l
  | t :: top, pg, up, g, l => by
    obtain ⟨h1, _, _, h | h⟩ := g
    · simp at h
    · rw [List.reverse_cons, List.append_assoc]
      exact goes_link (up := t :: up) h.2.2 ⟨rfl, by rw [h1]; exact l⟩

set_option maxHeartbeats 8000000 in
theorem del1_does (sb db x N : Nat) (v : List UInt8) (root : Int) (U : List Int) (T0 T : List Ent) (S : Sh) (D : Dk) (k : Fine N S D U) (ht : IsTree N S D U root T0) (hv : getE T0 x = some v) (l0 : List Spot) (s : Spot) (hg : Goes S D x root (l0 ++ [s])) (hl : l0.length ≤ 8)
    (hsi : s.i < s.d.keys.length)
    (hI : ∀ b16 L' ab (t : Sp) r, (L' ++ abL ab).map Sp.spot = l0 → (ab = none → L' = []) → t.spot = s → DelI N U T S ⟨L', ab, b16, t, s.d.without s.i, r, S, D, 0 + ((l0.length + 1 : Nat) : Int)⟩) :
    Does Tryz.prog 14 [.pointer (some ⟨sb, 0, none⟩), .int .i64 root, .int .u64 x] [Store sb db S, Disk db D] (DelQ N U T S sb db) := by
  obtain ⟨hd, hlf, hi⟩ := hg.last
  have hw := fun b => way_does b sb db x root 0 S D (l0 ++ [s]) hg (by simp; omega) (by simp; omega)
  have hG := get_tree sb db x N root U T0 S D k ht
  rw [hv] at hG
  refine does_of Tryz.func14 Tryz.ntmps14 rfl rfl rfl (fun w0 F0 => ?_)
  (repeat' (first | refine g_seq (h := ?_) | refine g_region (h := ?_) | refine l_nil (h := ?_) | refine n_then (h := ?_) | refine l_pures1 (h := ?_) | (refine l_at 16 ?_; refine l_call (hG) ?_) | (refine l_box (h := ?_); intro _) | refine g_skip (h := ?_) | refine g_block (h := ?_) | refine n_block (h := ?_) | refine g_cond_f (h := ?_)))
  rename_i b
  refine l_inv (H' := [Wk b sb 0 0, Store sb db S, Disk db D]) (fun i => i) ?_
  (repeat' (first | refine g_seq (h := ?_) | refine g_region (h := ?_) | refine l_nil (h := ?_) | refine n_then (h := ?_) | refine l_pures1 (h := ?_) | (refine l_atc ?_; refine l_call_ (hw b) ?_; rintro _ _ _ ⟨b', L, hL, rfl, rfl⟩ he; cases he) | refine l_load (h := ?_) | refine g_skip (h := ?_) | refine g_cond_f (h := ?_)))
  obtain ⟨L0, t, rfl⟩ : ∃ L0 t, L = L0 ++ [t] := by
    rcases List.eq_nil_or_concat L with rfl | ⟨l, s, rfl⟩
    · simp at hL
    · exact ⟨l, s, by simp⟩
  have hL2 : L0.map Sp.spot = l0 ∧ t.spot = s := by
    have := congrArg List.reverse hL
    simp at this
    exact ⟨this.2, this.1⟩
  obtain ⟨hL1, hts⟩ := hL2
  subst hts
  have hlen : L0.length = l0.length := by rw [← hL1]; simp
  have hpop := pop_does b' L0 t (by omega)
  refine l_inv (fun q => ndl_last (q.take (A := NdL (L0 ++ [t])) (by with_reducible (repeat (first | refine Take.here | apply Take.there))))) ?_
  dsimp only [Sp.spot] at hlf hsi
  have hki : t.d.kids = [] := List.length_eq_zero_iff.1 (by have := hd.p.kids; rw [show (Sp.spot t).d.leaf = true from hlf] at this; simpa using this)
  have hP := nWithout_does t.d t.r t.i hlf hd.fits hsi hki
  have hlp := fun b13 b15 b16 L' ab rp h1 h2 => del_loop b sb db b' b13 b15 N U T S ⟨L', ab, b16, t, t.d.without t.i, rp, S, D, 0 + ((l0 ++ [t.spot]).length : Int)⟩ (by rw [List.length_append, List.length_singleton]; exact hI b16 L' ab t rp h1 h2 rfl) w0 F0
  dsimp only [Sp.c] at hlp
  rcases List.eq_nil_or_concat L0 with rfl | ⟨L', s2, rfl⟩
  · have hp2 := popNone_does b'
    have h2 := fun b13 b15 b16 rp => hlp b13 b15 b16 [] none rp (by simpa [abL] using hL1) (fun _ => rfl)
    dsimp only [Option.isSome, abC, abL] at h2
    refine l_inv (fun i => ndl_nil i) ?_
    (repeat (first | ((with_reducible show G _ _ _ _ (Code.block 1 _) _ _ _ _); exact g_bang (h2 _ _ _ _)) | refine g_seq (h := ?_) | refine g_region (h := ?_) | refine l_nil (h := ?_) | refine n_then (h := ?_) | refine l_pures1 (h := ?_) | (refine l_atc ?_; refine l_call (hpop) ?_) | (refine l_atc ?_; refine l_call_ (hP) ?_; rintro _ _ _ ⟨rp, rfl, rfl⟩ he; cases he) | (refine l_atc ?_; refine l_call (hp2) ?_) | refine l_load (h := ?_) | refine l_store (h := ?_) | (refine l_alloc (h := ?_); intro _)))
  · rw [List.concat_eq_append] at *
    have hp2 := pop_does b' L' s2 (by simp at hlen; omega)
    have h2 := fun b13 b15 b16 rp => hlp b13 b15 b16 L' (some s2) rp (by simpa [abL] using hL1) (fun e => by cases e)
    dsimp only [Option.isSome, abC, abL, Sp.c] at h2
    refine l_inv (fun q => ndl_last (q.take (A := NdL (L' ++ [s2])) (by with_reducible (repeat (first | refine Take.here | apply Take.there))))) ?_
    refine l_inv (fun i => ndl_sing (s := s2) (i.take (A := Nds s2.d s2.r) (by with_reducible (repeat (first | refine Take.here | apply Take.there))))) ?_
    (repeat (first | ((with_reducible show G _ _ _ _ (Code.block 1 _) _ _ _ _); exact g_bang (h2 _ _ _ _)) | refine g_seq (h := ?_) | refine g_region (h := ?_) | refine l_nil (h := ?_) | refine n_then (h := ?_) | refine l_pures1 (h := ?_) | (refine l_atc ?_; refine l_call (hpop) ?_) | (refine l_atc ?_; refine l_call_ (hP) ?_; rintro _ _ _ ⟨rp, rfl, rfl⟩ he; cases he) | (refine l_atc ?_; refine l_call (hp2) ?_) | refine l_load (h := ?_) | refine l_store (h := ?_) | (refine l_alloc (h := ?_); intro _)))

theorem del_tree (sb db x N : Nat) (v : List UInt8) (root : Int) (U : List Int) (T : List Ent) (S : Sh) (D : Dk) (k : Fine N S D U) (ht : IsTree N S D U root T) (hv : getE T x = some v) (room : U.length + S.fresh.length + 25 < N) :
    Does Tryz.prog 14 [.pointer (some ⟨sb, 0, none⟩), .int .i64 root, .int .u64 x] [Store sb db S, Disk db D] (DelQ N U (delE T x) S sb db) := by
  have hN := k.n
  have ht0 := ht
  rcases ht with ⟨rfl, rfl, h0⟩ | ⟨h, ps, o, hp⟩
  · simp [getE] at hv
  · obtain ⟨top, s, L, R, qs, r1, r2, r8, r3, r4, r5, r6, r7, f1, f2, r10, r11, hroot, he⟩ := tree_way k o hp x
    have hx : x ∈ s.d.keys := by
      apply Decidable.byContradiction
      intro c
      rw [if_neg c, hv] at he
      cases he
    have hlt : s.i < s.d.keys.length := by
      have hg := posN_gone r4.p.rise x
      rw [if_pos hx] at hg
      rw [r6]; omega
    obtain ⟨lt1, lt2⟩ := r3.lt f1
    obtain ⟨n1, n2⟩ := without_nt (g := Gd N D) (d := s.d) (es := s.d.ents) (ps := []) ⟨r5, r4.p, rfl, rfl⟩ hx
    have hlink := goes_link (up := []) r1 trivial
    rw [List.append_nil] at hlink
    refine del1_does sb db x N v root U T (delE T x) S D k ht0 hv top s r1 (by omega) hlt fun b16 L' ab t r e1 e2 e3 => DelI.next (h := 0) (Lf := L) (Rt := R) (es := delE s.d.ents x) (ps := []) (qs := qs) ⟨k, ?_, ?_, ?_, ?_, ?_, ?_, ?_⟩ e2 ?_ ?_ (by omega) ?_ rfl rfl
    all_goals
      have e5 : (L' ++ abL ab).length = top.length := by rw [← e1, List.length_map]
      have e4 : t.pg = s.pg := congrArg Spot.pg e3
    · rw [e1]; exact r3
    · rw [r6]; exact n1
    · rw [e4]; exact r11
    · intro e h1
      rw [e1]
      exact f2 e (List.mem_filter.1 h1).1
    · rw [← r10, delE_mid lt1 lt2]
    · have := r4.size
      rw [r6]; omega
    · rw [e1, e4]; exact hlink
    · rw [e5]; omega
    · rw [e5]; omega
    · rw [e5]; omega
end Go.Proofs.YtpbibhhjbigdhaaGreat
/- TreeEmpties. -/
set_option maxRecDepth 20000
set_option linter.unusedVariables false
set_option linter.unusedSimpArgs false
namespace Go.Proofs.YtpbibhhjbigdhaaGreat
open Go.Proofs.YtpbibhhjbigdhaaGreat.SL

theorem Tr.del {N : Nat} {S : Sh} {D : Dk} {U : List Int} {root : Int} {T : List Ent} {m : Nat} (k : Tr N S D U root T m) (sb db x : Nat) (hx : (getE T x).isSome = true) (room : U.length + 2 * m + 25 < N) :
    Does Tryz.prog 14 [.pointer (some ⟨sb, 0, none⟩), .int .i64 root, .int .u64 x] [Store sb db S, Disk db D]
      (fun u H => ∃ r S' D', u = .tuple #[.int .i64 r, .bool true, .int .i64 0] ∧ H = [Store sb db S', Disk db D'] ∧ Tr N S' D' U r (delE T x) m ∧ S'.gen = S.gen ∧ S'.root = S.root) := by
  have h1 := k.tree.few
  have h2 := k.fine.fresh_le
  have h3 := k.len
  obtain ⟨v, hv⟩ := Option.isSome_iff_exists.1 hx
  refine (del_tree sb db x N v root U T S D k.fine k.tree hv (by omega)).mono ?_
  rintro u H ⟨r, S', D', rfl, rfl, a, b, c, d⟩
  exact ⟨r, S', D', rfl, rfl, ⟨b, a, by have := delE_len T x; omega⟩, c, d⟩

/-- The keys of a tree, in a list. -/
def KeyL (K : List Nat) (T : List Ent) : Prop := K.Nodup ∧ ∀ x, (getE T x).isSome = true ↔ x ∈ K
theorem KeyL.same {K : List Nat} {T : List Ent} (h : KeyL K T) {x : Nat} (v : List UInt8) (hx : (getE T x).isSome = true) : KeyL K (putE T x v) := by
  refine ⟨h.1, fun y => ?_⟩
  rw [getE_put]
  by_cases q : y = x
  · subst q
    rw [if_pos rfl]
    exact ⟨fun _ => (h.2 y).1 hx, fun _ => rfl⟩
  · rw [if_neg q]; exact h.2 y
theorem KeyL.add {K : List Nat} {T : List Ent} (h : KeyL K T) {x : Nat} (v : List UInt8) (hx : ¬ (getE T x).isSome = true) : KeyL (K ++ [x]) (putE T x v) := by
  have hn : x ∉ K := fun q => hx ((h.2 x).2 q)
  refine ⟨List.nodup_append.2 ⟨h.1, by simp, by rintro a ha b hb rfl; simp at hb; subst hb; exact hn ha⟩, fun y => ?_⟩
  rw [getE_put]
  by_cases q : y = x
  · subst q; simp
  · rw [if_neg q, h.2 y]; simp [q]

/-- Round about. -/
def rot (r n i : Nat) : Nat := if r + i < n then r + i else r + i - n
theorem rot_lt {r n i : Nat} (hr : r < n) (hi : i < n) : rot r n i < n := by unfold rot; split <;> omega
theorem rot_inj {r n i j : Nat} (hr : r < n) (hi : i < n) (hj : j < n) (h : rot r n i = rot r n j) : i = j := by
  unfold rot at h
  split at h <;> split at h <;> omega
theorem rot_onto {r n k : Nat} (hr : r < n) (hk : k < n) : ∃ i, i < n ∧ rot r n i = k := by
  by_cases q : r ≤ k
  · exact ⟨k - r, by omega, by unfold rot; split <;> omega⟩
  · exact ⟨k + n - r, by omega, by unfold rot; split <;> omega⟩
theorem rot_mod {a n i : Nat} (hn : 0 < n) (hi : i < n) (hb : n < 1000) : (IntKind.i64.wrap (Int.tmod (a : Int) (n : Int) + (i : Int))).tmod (n : Int) = ((rot (a % n) n i : Nat) : Int) := by
  have h1 : a % n < n := Nat.mod_lt _ hn
  rw [← Int.ofNat_tmod, wrapI64 (by omega)]
  rw [show ((a % n : Nat) : Int) + (i : Int) = ((a % n + i : Nat) : Int) by omega, ← Int.ofNat_tmod]
  congr 1
  unfold rot
  split
  · exact Nat.mod_eq_of_lt (by assumption)
  · rw [Nat.mod_eq_sub_mod (by omega)]
    exact Nat.mod_eq_of_lt (by omega)
/-- The keys that are there yet. -/
def RestK (K : List Nat) (r i : Nat) (T : List Ent) : Prop := ∀ x, (getE T x).isSome = true ↔ ∃ j, i ≤ j ∧ j < K.length ∧ K.getD (rot r K.length j) 0 = x
theorem RestK.start {K : List Nat} {T : List Ent} (h : KeyL K T) {a : Nat} : RestK K (a % K.length) 0 T := by
  intro x
  rw [h.2 x]
  constructor
  · intro hx
    obtain ⟨k, hk, rfl⟩ := List.mem_iff_getElem.1 hx
    obtain ⟨i, h1, h2⟩ := rot_onto (r := a % K.length) (n := K.length) (Nat.mod_lt _ (by omega)) hk
    exact ⟨i, Nat.zero_le _, h1, by rw [h2]; simp [List.getD, hk]⟩
  · rintro ⟨j, _, hj, rfl⟩
    exact getD_mem (rot_lt (Nat.mod_lt _ (by omega)) hj)
theorem RestK.step {K : List Nat} {T : List Ent} {r i : Nat} (hn : K.Nodup) (h : RestK K r i T) (hr : r < K.length) (hi : i < K.length) : RestK K r (i + 1) (delE T (K.getD (rot r K.length i) 0)) := by
  intro y
  rw [getE_del]
  by_cases q : y = K.getD (rot r K.length i) 0
  · rw [if_pos q]
    constructor
    · intro e; cases e
    · rintro ⟨j, h1, h2, h3⟩
      have e1 := rot_lt hr hi
      have e2 := rot_lt hr h2
      rw [q, List.getD, List.getD, List.getElem?_eq_getElem e1, List.getElem?_eq_getElem e2] at h3
      have := (List.getElem_inj hn).1 h3
      have := rot_inj hr h2 hi this
      omega
  · rw [if_neg q, h y]
    constructor
    · rintro ⟨j, h1, h2, h3⟩
      refine ⟨j, ?_, h2, h3⟩
      rcases Nat.lt_or_ge i j with c | c
      · exact c
      · obtain rfl : j = i := by omega
        exact absurd h3.symm q
    · rintro ⟨j, h1, h2, h3⟩
      exact ⟨j, by omega, h2, h3⟩
theorem RestK.none {K : List Nat} {T : List Ent} {r : Nat} (h : RestK K r K.length T) : T = [] := by
  cases T with
  | nil => rfl
  | cons e T =>
    have h1 : (getE (e :: T) e.1).isSome = true := by simp [getE]
    obtain ⟨j, h2, h3, _⟩ := (h e.1).1 h1
    omega
theorem Tr.empty {N : Nat} {S : Sh} {D : Dk} {root : Int} {m : Nat} (k : Tr N S D [] root [] m) : root = 0 ∧ S.left D = N - 2 := by
  have h1 := k.tree.few
  have h2 := k.fine.fresh_le
  have h3 : S.fresh.length = 0 := by simp at h1; rw [h1] at h2; simpa using h2
  have h4 := k.fine.h.u.count
  have h5 := k.fine.d.n
  refine ⟨?_, by unfold Sh.left; have h6 : countB S.used = 0 := h4; rw [h5, h6, h3]; omega⟩
  rcases k.tree with ⟨h, _⟩ | ⟨h, ps, o, p⟩
  · exact h
  · have := o.few
    simp at this

set_option maxHeartbeats 4000000 in
/-- What comes behind the first loop. -/
theorem empties_tail (b db xb sb rb a : Nat) (p pk : Option Addr) (ks : List Int) (K : List Nat) (cap ck : Nat) (o : Obj) (root : Int) (S : Sh) (D : Dk) (T : List Ent) (k : Tr 400 S D [] root T 50) (hK : KeyL K T) (hKl : K.length ≤ 50) (ha : a < 9223372036854775808) (w0 : World) (F0 : Nat → Prop) :
    G Tryz.prog 146 w0 F0 (nav [1, 1, 1, 1, 1, 1, 1, 1, 1] (bdy Tryz.f3)) (Post Tryz.prog Tryz.f3 w0 F0 (fun v H => v = .bool true ∧ H = [ins p ks.length (ks.map encZ') o]))
      [(8, .slice pk K.length ck), (6, .pointer (some ⟨b, 0, none⟩)), (5, .bool true), (1, .int .i64 (a : Nat))] [] [Wd b db xb sb rb root, Store sb db S, Disk db D, vec 38 1 pk K.length ck (uV K), ins p ks.length (ks.map encZ') o] := by
  obtain ⟨c, hc⟩ : ∃ c, c = nav [1, 1, 1, 1, 1, 1, 1, 1, 1] (bdy Tryz.f3) := ⟨_, rfl⟩
  rw [← hc]
  dsimp only [nav, bdy, Tryz.f3, Option.getD] at hc
  subst hc
  (repeat (first | refine g_seq (h := ?_) | refine g_region (h := ?_) | refine l_nil (h := ?_) | refine n_then (h := ?_) | refine l_pures1 (h := ?_) | refine g_block (h := ?_)))
  (refine g_loop (fun y : Nat × Int × Sh × Dk × List Ent => [(13, .int .i64 y.1), (8, .slice pk K.length ck), (6, .pointer (some ⟨b, 0, none⟩)), (5, .bool true), (1, .int .i64 (a : Nat))]) (fun y => [Wd b db xb sb rb y.2.1, Store sb db y.2.2.1, Disk db y.2.2.2.1, vec 38 1 pk K.length ck (uV K), ins p ks.length (ks.map encZ') o]) (fun y => Tr 400 y.2.2.1 y.2.2.2.1 [] y.2.1 y.2.2.2.2 50 ∧ RestK K (a % K.length) y.1 y.2.2.2.2 ∧ y.1 ≤ K.length) (fun y => K.length - y.1) ((0, root, S, D, T)) ?_ ?_ ?_ ?_; rotate_left; (repeat (first | refine ts_nil | (refine ts_cons rfl ?_ ?_; first | (with_reducible rfl) | rotate_left))); (first | (intro _ i; with_reducible refine i) | rotate_left); rotate_left; (try omega); rotate_right)
  · rintro ⟨i, root, S, D, T⟩ ⟨k, hr, hi⟩
    dsimp only at k hr hi ⊢
    by_cases hil : i < K.length
    · have hrl : a % K.length < K.length := Nat.mod_lt _ (by omega)
      have hrot := rot_mod (a := a) (n := K.length) (i := i) (by omega) hil (by omega)
      have hrt := rot_lt hrl hil
      obtain ⟨q, hq⟩ : ∃ q, q = rot (a % K.length) K.length i := ⟨_, rfl⟩
      rw [← hq] at hrot hrt
      have hib : 0 ≤ (IntKind.i64.wrap (Int.tmod (a : Int) (K.length : Int) + (i : Int))).tmod (K.length : Int) ∧ (IntKind.i64.wrap (Int.tmod (a : Int) (K.length : Int) + (i : Int))).tmod (K.length : Int) < K.length := by rw [hrot]; omega
      have hgk : (uV K)[0 + ((IntKind.i64.wrap (Int.tmod (a : Int) (K.length : Int) + (i : Int))).tmod (K.length : Int)).toNat * 1]? = some (.int .u64 (K.getD q 0 : Nat)) := by rw [hrot]; exact uGet hrt
      have hx : (getE T (K.getD q 0)).isSome = true := (hr _).2 ⟨i, Nat.le_refl _, hil, by rw [hq]⟩
      have hdel := k.del sb db (K.getD q 0) hx (by simp)
      have hKne : ((K.length : Nat) : Int) ≠ 0 := by omega
      refine g_ptr (m := K.length) (p := pk) (h := ?_); rintro gk rfl hck
      (repeat' (first | refine g_seq (h := ?_) | refine g_region (h := ?_) | refine l_nil (h := ?_) | refine n_then (h := ?_) | refine l_pures1 (h := ?_) | refine g_skip (h := ?_) | refine g_block (h := ?_) | (refine g_spT (h := ?_); intro h)))
      (refine g_draw [Wd b db xb sb rb root, vec 38 1 (some ⟨gk, 0, none⟩) K.length ck (uV K)] (h := a_pass2 (h := ?_)))
      (repeat' (first | refine g_seq (h := ?_) | refine g_region (h := ?_) | refine l_nil (h := ?_) | refine n_then (h := ?_) | refine l_pures1 (h := ?_) | (refine l_at 14 ?_; refine l_call_ (hdel) ?_; rintro _ _ _ ⟨r', S', D', rfl, rfl, k', _, _⟩ he; cases he) | refine l_guard_yes (h := ?_) | refine l_store (h := ?_) | refine l_indexAddr (h := ?_) | refine l_rem (h := ?_) | refine g_skip (h := ?_) | refine a_done (h := ?_) | refine a_load (h := a_pass2 (h := ?_)) | refine a_one (h := ?_) | refine n_any (h := a_pass2 (h := ?_)) | refine n_block (h := ?_) | refine g_cond_f (h := ?_) | refine l_load_vec (h := ?_)))
      (refine n_back ((i + 1, r', S', D', delE T (K.getD q 0))) ?_ ?_ ?_ ?_; rotate_left; rotate_left; (repeat (first | refine ts_nil | (refine ts_cons rfl ?_ ?_; first | (with_reducible rfl) | rotate_left))); (first | (intro _ i; with_reducible refine i) | rotate_left); (try omega); (try omega))
      · exact ⟨k', by rw [hq]; exact hr.step hK.1 hrl hil, hil⟩
      · dsimp only; omega
      · rw [wrapI64 (by omega)]; rfl
    · obtain rfl : i = K.length := by omega
      obtain rfl := hr.none
      obtain ⟨rfl, hleft⟩ := k.empty
      have hL := sLeft_does sb db S D
      rw [hleft] at hL
      (repeat' (first | refine g_seq (h := ?_) | refine g_region (h := ?_) | refine l_nil (h := ?_) | refine n_then (h := ?_) | refine l_pures1 (h := ?_) | (refine l_atc ?_; refine l_call (hL) ?_) | refine l_guard_yes (h := ?_) | refine l_load (h := ?_) | refine g_ret (h := ?_) | refine g_exit (h := ?_) | refine n_then_exit (h := ?_) | refine n_block_hit (h := ?_) | (refine g_spF (h := ?_); intro h)))
      refine r_retk [ins p ks.length (ks.map encZ') o] ?_
      exact ⟨rfl, rfl⟩
  · exact ⟨k, RestK.start hK, Nat.zero_le _⟩
  · rfl

set_option maxHeartbeats 4000000 in
theorem TreeEmpties_does (p : Option Addr) (ks : List Int) (cap : Nat) (o : Obj) (at' : Int) (hk : ∀ z ∈ ks, (Lit.int .i64 z).wf = true) (hl : ks.length ≤ 9223372036854775807) (h1 : -9223372036854775808 ≤ at' ∧ at' < 9223372036854775808) :
    Does Tryz.prog 3 [.slice p ks.length cap, .int .i64 at'] [ins p ks.length (ks.map encZ') o] (fun v H => v = .bool true ∧ H = [ins p ks.length (ks.map encZ') o]) := by
  obtain ⟨E1, f1, k0⟩ := tr_new (N := 400) (by omega)
  have hb := begins_does (i := 400) (n := 400) rfl (by omega) f1
  refine does_of Tryz.func3 Tryz.ntmps3 rfl rfl rfl (fun w0 F0 => ?_)
  (repeat' (first | refine g_seq (h := ?_) | refine g_region (h := ?_) | refine l_nil (h := ?_) | refine n_then (h := ?_) | refine l_pures1 (h := ?_) | (refine l_atc ?_; refine l_call (examples_does) ?_) | (refine l_atc ?_; refine l_call_ (hb) ?_; rintro _ _ _ ⟨b, db, xb, sb, rb, rfl, rfl⟩ he; cases he) | refine g_skip (h := ?_) | refine g_cond_f (h := ?_)))
  (refine l_makeMap_k (.u64) (Value.bool) (h := ?_); intro _)
  (repeat (first | refine g_seq (h := ?_) | refine g_region (h := ?_) | refine l_nil (h := ?_) | refine n_then (h := ?_) | refine l_pures1 (h := ?_) | refine g_block (h := ?_)))
  rename_i mb
  refine g_inv (fun i => vec_nil (38) (1) i) ?_
  refine g_inv (H' := [vec 38 1 none ([] : List Nat).length 0 (uV []), mpk .u64 mb Value.bool [], Wd b db xb sb rb 0, Store sb db headNew.over, Disk db E1, ins p ks.length (ks.map encZ') o]) (fun i => i) ?_
  (refine g_loop (fun y : Nat × (Int × Sh × Dk × List Ent) × List (Int × Bool) × Option Addr × Nat × List Nat => [(10, .int .i64 y.1), (9, .map (some mb)), (8, .slice y.2.2.2.1 y.2.2.2.2.2.length y.2.2.2.2.1), (6, .pointer (some ⟨b, 0, none⟩)), (5, .bool true), (0, .slice p ks.length cap), (1, .int .i64 at')]) (fun y => [mpk .u64 mb Value.bool y.2.2.1, Wd b db xb sb rb y.2.1.1, Store sb db y.2.1.2.1, Disk db y.2.1.2.2.1, vec 38 1 y.2.2.2.1 y.2.2.2.2.2.length y.2.2.2.2.1 (uV y.2.2.2.2.2), ins p ks.length (ks.map encZ') o]) (fun y => Tr 400 y.2.1.2.1 y.2.1.2.2.1 [] y.2.1.1 y.2.1.2.2.2 y.1 ∧ Met y.2.2.1 y.2.1.2.2.2 ∧ KeyL y.2.2.2.2.2 y.2.1.2.2.2 ∧ y.2.2.2.2.2.length ≤ y.1 ∧ y.1 ≤ ks.length ∧ y.1 ≤ 50) (fun y => ks.length - y.1) ((0, (0, headNew.over, E1, []), [], none, 0, [])) ?_ ?_ ?_ ?_; rotate_left; (repeat (first | refine ts_nil | (refine ts_cons rfl ?_ ?_; first | (with_reducible rfl) | rotate_left))); (first | (intro _ i; with_reducible refine i) | rotate_left); rotate_left; (try omega); rotate_right)
  · rintro ⟨j, ⟨root, S, D, T⟩, kv, pk, ck, K⟩ ⟨k, hm, hK, hKj, hj, hj50⟩
    dsimp only at k hm hK hKj hj hj50 ⊢
    by_cases hjl : j < ks.length ∧ j < 50
    · refine g_open (o := ins_opens (p := p) (m := ks.length) (by omega)) (h := ?_); (rintro ⟨gb, off, row, fr, T0⟩ ⟨rfl, rfl, v5, v6, v7⟩; dsimp only [List.cons_append, List.nil_append])
      have hgt : row[off + j * 1]? = some (.int .i64 (ks.getD j 0)) := ins_get v5 hjl.1 (by rw [List.getElem?_map, List.getD, List.getElem?_eq_getElem hjl.1]; rfl)
      have hw := wf_i64 (hk _ (getD_mem hjl.1 (z := 0)))
      have hkey := key_does (ks.getD j 0) hw
      have hval := value_does (j : Int) (by omega)
      have hput := k.put sb db (keyN (ks.getD j 0)) (valN j) (keyN_lt _) (valN_len _) (by simp; omega)
      have hmx := hm (keyN (ks.getD j 0))
      have hul : (uV K).length = K.length := by simp [uV]
      (repeat' (first | refine g_seq (h := ?_) | refine g_region (h := ?_) | refine l_nil (h := ?_) | refine n_then (h := ?_) | refine l_pures1 (h := ?_) | refine l_guard_yes (h := ?_) | refine g_skip (h := ?_) | refine g_block (h := ?_) | (refine l_spT (h := ?_); intro h) | (refine g_spT (h := ?_); intro h)))
      (refine g_draw [Wd b db xb sb rb root, pts gb (.cells row.toArray T0 fr)] (h := a_pass2 (h := ?_)))
      (repeat' (first | refine g_seq (h := ?_) | refine g_region (h := ?_) | refine l_nil (h := ?_) | refine n_then (h := ?_) | refine l_pures1 (h := ?_) | (refine l_atc ?_; refine l_call (hkey) ?_) | (refine l_atc ?_; refine l_call (hval) ?_) | (refine l_atc ?_; refine l_call_ (hput) ?_; rintro _ _ _ ⟨r', S', D', rfl, rfl, k', g', r2⟩ he; cases he) | refine l_store (h := ?_) | refine l_load_p (h := ?_) | refine l_indexAddr (h := ?_) | (refine l_buildSlice1 (h := ?_); intro _) | (refine l_append_new (h := ?_); intro _ _) | refine g_skip (h := ?_) | refine a_done (h := ?_) | refine a_load (h := a_pass2 (h := ?_)) | refine a_one (h := ?_) | refine n_any (h := a_pass2 (h := ?_)) | refine n_block (h := ?_) | refine g_cond_f (h := ?_) | refine l_lookup_k _ (h := ?_) | refine l_mapUpdate_k (h := ?_) | (refine g_sp (h1 := ?_) (h0 := ?_) <;> intro h)))
      · rename_i b1 p' cap'
        have hn : ¬ (getE T (keyN (ks.getD j 0))).isSome = true := by rw [← hmx, h]; simp
        have e0 : K.length + 1 = (K ++ [keyN (ks.getD j 0)]).length := by simp
        have e1 : uV K ++ [Value.int .u64 (keyN (ks.getD j 0) : Nat)] = uV (K ++ [keyN (ks.getD j 0)]) := by simp [uV]
        rw [e0]
        refine n_inv (H' := [vec 38 1 p' (K ++ [keyN (ks.getD j 0)]).length cap' (uV (K ++ [keyN (ks.getD j 0)])), mpk .u64 mb Value.bool (kvPut kv (keyN (ks.getD j 0) : Nat) true), Wd b db xb sb rb r', Store sb db S', Disk db D', pts gb (.cells row.toArray T0 fr)]) (fun i => by rw [← e1]; exact inv_keep parts_of i) ?_
        refine n_shut (ins_shuts v5 v6 v7) (h := ?_)
        (refine n_back ((j + 1, (r', S', D', putE T (keyN (ks.getD j 0)) (valN j)), kvPut kv (keyN (ks.getD j 0) : Nat) true, p', cap', K ++ [keyN (ks.getD j 0)])) ?_ ?_ ?_ ?_; rotate_left; rotate_left; (repeat (first | refine ts_nil | (refine ts_cons rfl ?_ ?_; first | (with_reducible rfl) | rotate_left))); (first | (intro _ i; with_reducible refine i) | rotate_left); (try omega); (try omega))
        · exact ⟨k', hm.put _ _, hK.add _ hn, by simp; omega, hjl.1, hjl.2⟩
        all_goals first
          | (dsimp only; omega)
          | (rw [wrapI64 (by omega)]; rfl)
          | (intro _ i; exact inv_keep parts_of i)
          | rfl
      · have hn : (getE T (keyN (ks.getD j 0))).isSome = true := by rw [← hmx, h]
        refine n_shut (ins_shuts v5 v6 v7) (h := ?_)
        (refine n_back ((j + 1, (r', S', D', putE T (keyN (ks.getD j 0)) (valN j)), kvPut kv (keyN (ks.getD j 0) : Nat) true, pk, ck, K)) ?_ ?_ ?_ ?_; rotate_left; rotate_left; (repeat (first | refine ts_nil | (refine ts_cons rfl ?_ ?_; first | (with_reducible rfl) | rotate_left))); (first | (intro _ i; with_reducible refine i) | rotate_left); (try omega); (try omega))
        · exact ⟨k', hm.put _ _, hK.same _ hn, by dsimp only; omega, hjl.1, hjl.2⟩
        all_goals first
          | (dsimp only; omega)
          | (rw [wrapI64 (by omega)]; rfl)
          | (intro _ i; exact inv_keep parts_of i)
          | rfl
    · have hend := fun a ha => empties_tail b db xb sb rb a p pk ks K cap ck o root S D T ⟨k.fine, k.tree, by have := k.len; omega⟩ hK (by omega) ha w0 F0
      by_cases hneg : at' < 0
      · have h2 := hend (-(at' + 1)).toNat (by omega)
        have e1 : (((-(at' + 1)).toNat : Nat) : Int) = IntKind.i64.wrap (0 - IntKind.i64.wrap (at' + 1)) := by rw [wrapI64 (n := at' + 1) (by omega), wrapI64 (by omega)]; omega
        rw [e1] at h2
        (repeat' (first | ((with_reducible show G _ _ _ _ (Code.seq (Code.seq (Code.region 21 _ _) _) _) _ _ _ _); exact g_bang (h2)) | refine g_seq (h := ?_) | refine g_region (h := ?_) | refine l_nil (h := ?_) | refine n_then (h := ?_) | refine l_pures1 (h := ?_) | refine l_guard_yes (h := ?_) | refine l_guard_no (h := ?_) | refine g_exit (h := ?_) | refine n_then_exit (h := ?_) | refine n_block_hit (h := ?_) | refine g_cond_f (h := ?_) | (refine l_sp (h1 := ?_) (h0 := ?_) <;> intro h) | (refine g_spT (h := ?_); intro h) | (refine g_spF (h := ?_); intro h)))
      · have h2 := hend at'.toNat (by omega)
        have e1 : ((at'.toNat : Nat) : Int) = at' := by omega
        rw [e1] at h2
        (repeat' (first | ((with_reducible show G _ _ _ _ (Code.seq (Code.seq (Code.region 21 _ _) _) _) _ _ _ _); exact g_bang (h2)) | refine g_seq (h := ?_) | refine g_region (h := ?_) | refine l_nil (h := ?_) | refine n_then (h := ?_) | refine l_pures1 (h := ?_) | refine l_guard_yes (h := ?_) | refine l_guard_no (h := ?_) | refine g_skip (h := ?_) | refine g_exit (h := ?_) | refine n_then_exit (h := ?_) | refine n_block_hit (h := ?_) | refine g_cond_f (h := ?_) | (refine l_sp (h1 := ?_) (h0 := ?_) <;> intro h) | (refine g_spF (h := ?_); intro h)))
  all_goals first
    | exact ⟨k0, fun y => rfl, ⟨List.nodup_nil, fun x => by simp [getE]⟩, Nat.le_refl _, Nat.zero_le _, Nat.zero_le _⟩
    | rfl
    | (intro _ i; exact inv_keep parts_of i)
end Go.Proofs.YtpbibhhjbigdhaaGreat
/- The framework, part 11: laws that take slices: what a row asks of them. -/
set_option linter.unusedVariables false
set_option linter.unusedSimpArgs false
namespace Go.Proofs.YtpbibhhjbigdhaaGreat.SL
open Go.RowKit Go.WideElems

/-- Wherever A holds its blocks F are as in W. -/
def Keeps (A : SProp) (W : World) (F : Nat → Prop) : Prop := ∀ h' F', A.holds h' F' → ∀ b, F b → h'[b]? = W.heap[b]?
theorem row_ofA {P : Program} {f : FuncId} {args : List Value} {A : SProp} {W : World} {F : Nat → Prop} (d : Does P f args [A] (fun v H => v = .bool true ∧ H = [A])) (hx : Keeps A W F) (s : A.holds W.heap F) :
    Calls P f args.toArray W fun e W' => e = .returned (.bool true) ∧ Go.RowKit.Below W.heap.size W W' := by
  refine (d W F ⟨F, fun _ => False, s, fun _ h => h, fun _ _ h => h, fun b => ⟨.inl, fun o => o.elim id False.elim⟩⟩).mono ?_
  rintro e W' ⟨v, H', rfl, ⟨rfl, rfl⟩, i⟩
  obtain ⟨⟨G, ⟨F1, _, a, _⟩, _⟩, _⟩ := id i
  refine ⟨rfl, i.os, i.tape, i.output, i.size, fun k hk => ?_⟩
  by_cases q : F k
  · exact hx _ _ a k q
  · exact i.frame k hk q
theorem keeps_ins {p : Option Addr} {m : Nat} {xs : List Value} {o : Obj} {W : World} {F : Nat → Prop} (hm : 0 < m) (s : (ins p m xs o).holds W.heap F) : Keeps (ins p m xs o) W F := by
  rintro h' F' ⟨_, z'⟩ b hb
  obtain ⟨_, z⟩ := s
  rcases z with ⟨e, _⟩ | ⟨g, off, row, fr, T, q1, q2, _, h3, e, f⟩
  · omega
  · rcases z' with ⟨e', _⟩ | ⟨g', off', row', fr', T', q1', q2', _, _, e', f'⟩
    · omega
    · rw [q1] at q1'
      cases q1'
      rw [(f b).1 hb, e, e']

/-- Cells that are there are an input row. -/
theorem cells_ins {W : World} {a : Addr} {m : Nat} {xs : List Value} (hl : xs.length = m) (h : ∀ i, i < m → W.cell? (a.add i) = xs[i]?) : ∃ o F, (ins (some a) m xs o).holds W.heap F ∧ Keeps (ins (some a) m xs o) W F ∧ (m = 0 → ∀ x, ¬ F x) := by
  by_cases hm : m = 0
  · exact ⟨.map #[] 0, fun _ => False, ⟨hl, .inl ⟨hm, fun _ h => h⟩⟩, fun _ _ _ _ h => h.elim, fun _ _ h => h⟩
  · obtain ⟨b, off, spot⟩ := a
    have h0 := h 0 (by omega)
    have hspot : spot = none := by
      rw [List.getElem?_eq_getElem (by omega)] at h0
      simpa [Addr.add] using World.cell?_spot h0
    subst hspot
    have h1 : ∀ i, i < m → W.cell? ⟨b, off + i, none⟩ = xs[i]? := fun i hi => by rw [← Go.WideShapes.add_plain]; exact h i hi
    have h2 := h1 0 (by omega)
    rw [List.getElem?_eq_getElem (by omega)] at h2
    obtain ⟨c, T, fr, hb⟩ : ∃ c T fr, W.heap[b]? = some (.cells c T fr) := by
      unfold World.cell? at h2
      split at h2
      · rename_i hb; exact ⟨_, _, _, hb⟩
      · cases h2
    have h3 : ∀ i, i < m → c[off + i]? = xs[i]? := fun i hi => by rw [← h1 i hi, cell_at hb]
    have hlen : off + m ≤ c.toList.length := by
      have := h3 (m - 1) (by omega)
      rw [List.getElem?_eq_getElem (by omega)] at this
      have := (Array.getElem?_eq_some_iff.1 this).1
      simp; omega
    have hs : (ins (some ⟨b, off, none⟩) m xs (.cells c T fr)).holds W.heap (fun x => x = b) := by
     refine ⟨hl, .inr ⟨b, off, c.toList, fr, T, rfl, by simp, ?_, hlen, hb, fun _ => Iff.rfl⟩⟩
     apply List.ext_getElem?
     intro i
     by_cases hi : i < m
     · rw [List.getElem?_take_of_lt hi, List.getElem?_drop, Array.getElem?_toList, h3 i hi]
     · rw [List.getElem?_eq_none (by simp; omega), List.getElem?_eq_none (by omega)]
    exact ⟨_, _, hs, keeps_ins (by omega) hs, fun q => absurd q hm⟩
theorem nil_ins {W : World} : (ins none 0 [] (.map #[] 0)).holds W.heap (fun _ => False) ∧ Keeps (ins none 0 [] (.map #[] 0)) W (fun _ => False) := ⟨⟨rfl, .inl ⟨rfl, fun _ h => h⟩⟩, fun _ _ _ _ h => h.elim⟩

/-- Two input rows, in one block or in two: what holds them both, and each with what is left. -/
theorem ins_two {W : World} {p1 p2 : Option Addr} {m1 m2 : Nat} {xs ys : List Value} {o1 o2 : Obj} {F1 F2 : Nat → Prop} (s1 : (ins p1 m1 xs o1).holds W.heap F1) (k1 : Keeps (ins p1 m1 xs o1) W F1) (z1 : m1 = 0 → ∀ x, ¬ F1 x) (s2 : (ins p2 m2 ys o2).holds W.heap F2) (k2 : Keeps (ins p2 m2 ys o2) W F2) (z2 : m2 = 0 → ∀ x, ¬ F2 x) :
    ∃ (A R1 R2 : SProp) (F : Nat → Prop), A.holds W.heap F ∧ Keeps A W F ∧ Opens A (fun _ : Unit => True) (fun _ => [ins p1 m1 xs o1, R1]) ∧ Shuts [ins p1 m1 xs o1, R1] A ∧ Opens A (fun _ : Unit => True) (fun _ => [ins p2 m2 ys o2, R2]) ∧ Shuts [ins p2 m2 ys o2, R2] A := by
  by_cases hd : ∃ x, F1 x ∧ F2 x
  · obtain ⟨x, h1, h2⟩ := hd
    have key : ∀ {p p' : Option Addr} {m m' : Nat} {xs ys : List Value} {o o' : Obj} {G G' : Nat → Prop}, (ins p m xs o).holds W.heap G → (ins p' m' ys o').holds W.heap G' → G x → G' x → 0 < m → ∀ h F, (ins p m xs o).holds h F → (ins p' m' ys o').holds h F := by
      intro p p' m m' xs ys o o' G G' ⟨_, z⟩ ⟨l', z'⟩ hx hx' hm h F ⟨_, y⟩
      rcases z with ⟨_, f⟩ | ⟨g, off, row, fr, T, q1, q2, q3, q4, e, f⟩
      · exact absurd hx (f x)
      · rcases z' with ⟨_, f'⟩ | ⟨g', off', row', fr', T', q1', q2', q3', q4', e', f'⟩
        · exact absurd hx' (f' x)
        · obtain rfl := (f x).1 hx
          obtain rfl := (f' x).1 hx'
          rw [e] at e'
          cases e'
          rcases y with ⟨e0, _⟩ | ⟨g2, off2, row2, fr2, T2, y1, y2, y3, y4, y5, y6⟩
          · omega
          · rw [q1] at y1
            cases y1
            exact ⟨l', .inr ⟨_, off', row', fr', T', q1', q2', q3', q4', y5, y6⟩⟩
    have emp : ∀ {K : SProp} {h : Array Obj} {F : Nat → Prop}, K.holds h F ↔ sep [K, fact True] h F := by
      intro K h F
      refine ⟨fun a => ⟨F, fun _ => False, a, ⟨fun _ => False, fun _ => False, ⟨trivial, fun _ h => h⟩, fun _ h => h, fun _ _ h => h, fun b => ⟨.inl, fun o => o.elim id id⟩⟩, fun _ _ h => h, fun b => ⟨.inl, fun o => o.elim id False.elim⟩⟩, ?_⟩
      rintro ⟨G1, G2, a, ⟨G3, G4, ⟨_, e⟩, f, _, u2⟩, d, u⟩
      have : F = G1 := by
        funext b
        apply propext
        rw [u b, u2 b]
        exact ⟨fun o => o.elim id (fun o => o.elim (fun q => (e b q).elim) (fun q => (f b q).elim)), .inl⟩
      rw [this]; exact a
    have hm1 : 0 < m1 := Nat.pos_of_ne_zero fun q => z1 q x h1
    have hm2 : 0 < m2 := Nat.pos_of_ne_zero fun q => z2 q x h2
    exact ⟨ins p1 m1 xs o1, fact True, fact True, F1, s1, k1, fun h F a => ⟨(), trivial, emp.1 a⟩, fun h F a => emp.2 a,
      fun h F a => ⟨(), trivial, emp.1 (key s1 s2 h1 h2 hm1 h F a)⟩, fun h F a => key s2 s1 h2 h1 hm2 h F (emp.2 a)⟩
  · refine ⟨⟨fun h F => sep [ins p1 m1 xs o1, ins p2 m2 ys o2] h F, sep_loc, sep_bnd⟩, ins p2 m2 ys o2, ins p1 m1 xs o1, fun x => F1 x ∨ F2 x, ?_, ?_, fun h F a => ⟨(), trivial, a⟩, fun h F a => a, fun h F a => ⟨(), trivial, ?_⟩, fun h F a => ?_⟩
    · exact ⟨F1, F2, s1, ⟨F2, fun _ => False, s2, fun _ h => h, fun _ _ h => h, fun b => ⟨.inl, fun o => o.elim id False.elim⟩⟩, fun x a b => hd ⟨x, a, b⟩, fun _ => Iff.rfl⟩
    · rintro h' F' ⟨G1, G2, a, ⟨G3, G4, b, _⟩, _⟩ x hx
      exact hx.elim (k1 _ _ a x) (k2 _ _ b x)
    · exact (Parts.cons (Take.there Take.here) (Parts.cons Take.here Parts.nil)).sep a
    · exact (Parts.cons (Take.there Take.here) (Parts.cons Take.here Parts.nil)).sep a
end Go.Proofs.YtpbibhhjbigdhaaGreat.SL
/- Rows over slices of strings and of whole numbers. -/
set_option linter.unusedVariables false
set_option linter.unusedSimpArgs false
namespace Go.Proofs.YtpbibhhjbigdhaaGreat
open Go.Proofs.YtpbibhhjbigdhaaGreat.SL Go.ChangeShapes

section
variable {H : Type} {enc : TypeId × Value → H} {P : Program} {W : World}
theorem open_Ss {t e : TypeId} (ht : P.underlying t = some (.slice e)) (he : P.underlying e = some .string) (hc : P.cellsOf e = 1) {v : Value} (hv : ∃ a0 len cap, v = .slice a0 len cap) {d : DataW H} {ps : List MemPlace} (h : DataW.Trod enc P W 0 (fun _ => true) true t v d ps) :
    ∃ (a0 : Option Addr) (cap : Nat) (Tx : List (List UInt8)) (o : Obj) (F : Nat → Prop), v = .slice a0 Tx.length cap ∧ (ins a0 Tx.length (Tx.map encS) o).holds W.heap F ∧ Keeps (ins a0 Tx.length (Tx.map encS) o) W F ∧ (Tx.length = 0 → ∀ x, ¬ F x) ∧ (∀ l ∈ Tx, l.length ≤ 9223372036854775807) ∧ Tx.length ≤ 9223372036854775807 := by
  obtain ⟨a0, len, cap, rfl⟩ := hv
  obtain ⟨fuel, hf⟩ := h
  rcases open_strings ht he hc hf with ⟨hcs, _⟩ | ⟨a, len', cap', ss, hcs, _, hle, hmax, hlen, _, hcell, hw⟩
  · simp [Value.cells] at hcs
    obtain ⟨rfl, rfl, rfl⟩ := hcs
    exact ⟨none, 0, [], .map #[] 0, _, rfl, nil_ins.1, nil_ins.2, fun _ _ h => h, by simp, by simp⟩
  · simp [Value.cells] at hcs
    obtain ⟨rfl, rfl, rfl⟩ := hcs
    simp only [if_true] at hlen
    obtain ⟨Tx, hTx⟩ : ∃ Tx, Tx = (ss.take len).map fun s => s.data.toList := ⟨_, rfl⟩
    have hl : Tx.length = len := by rw [hTx, List.length_map, List.length_take]; omega
    have hx : Tx.map encS = (ss.take len).map fun s => Value.string s := by
      rw [hTx, List.map_map]
      apply List.map_congr_left
      rintro ⟨⟨s⟩⟩ _
      rfl
    have hm' : (Tx.map encS).length = Tx.length := by simp
    obtain ⟨o, F, s1, s2, s3⟩ := cells_ins (W := W) (a := a) hm' (fun i hi => by
      rw [hcell i (by omega), hx, List.getElem?_map, List.getElem?_take_of_lt (by omega), List.getD]
      rw [List.getElem?_eq_getElem (by omega)]; rfl)
    simp only [maxLen] at hmax
    refine ⟨some a, cap, Tx, o, F, by rw [hl], s1, s2, s3, ?_, by omega⟩
    intro l hl'
    rw [hTx] at hl'
    obtain ⟨s, hs, rfl⟩ := List.mem_map.1 hl'
    have := hw s (List.mem_of_mem_take hs)
    simp only [maxLen] at this
    rw [Array.length_toList]; exact this
theorem open_Zs {t e : TypeId} (ht : P.underlying t = some (.slice e)) (he : P.underlying e = some (.int .i64)) (hc : P.cellsOf e = 1) {v : Value} (hv : ∃ a0 len cap, v = .slice a0 len cap) {d : DataW H} {ps : List MemPlace} (h : DataW.Trod enc P W 0 (fun _ => true) true t v d ps) :
    ∃ (a0 : Option Addr) (cap : Nat) (zs : List Int) (o : Obj) (F : Nat → Prop), v = .slice a0 zs.length cap ∧ (ins a0 zs.length (zs.map encZ') o).holds W.heap F ∧ Keeps (ins a0 zs.length (zs.map encZ') o) W F ∧ (zs.length = 0 → ∀ x, ¬ F x) ∧ (∀ z ∈ zs, (Lit.int .i64 z).wf = true) ∧ zs.length ≤ 9223372036854775807 := by
  obtain ⟨a0, len, cap, rfl⟩ := hv
  obtain ⟨fuel, hf⟩ := h
  rcases open_ints ht he hc hf with ⟨hcs, _⟩ | ⟨a, len', cap', ss, hcs, _, hle, hmax, hlen, _, hcell, hw⟩
  · simp [Value.cells] at hcs
    obtain ⟨rfl, rfl, rfl⟩ := hcs
    exact ⟨none, 0, [], .map #[] 0, _, rfl, nil_ins.1, nil_ins.2, fun _ _ h => h, by simp, by simp⟩
  · simp [Value.cells] at hcs
    obtain ⟨rfl, rfl, rfl⟩ := hcs
    simp only [if_true] at hlen
    have hl : (ss.take len).length = len := by rw [List.length_take]; omega
    have hm' : ((ss.take len).map encZ').length = (ss.take len).length := by simp
    obtain ⟨o, F, s1, s2, s3⟩ := cells_ins (W := W) (a := a) hm' (fun i hi => by
      rw [hcell i (by omega), List.getElem?_map, List.getElem?_take_of_lt (by omega), List.getD, List.getElem?_eq_getElem (by omega)]; rfl)
    simp only [maxLen] at hmax
    exact ⟨some a, cap, ss.take len, o, F, by rw [hl], s1, s2, s3, fun z hz => hw z (List.mem_of_mem_take hz), by omega⟩
end
end Go.Proofs.YtpbibhhjbigdhaaGreat

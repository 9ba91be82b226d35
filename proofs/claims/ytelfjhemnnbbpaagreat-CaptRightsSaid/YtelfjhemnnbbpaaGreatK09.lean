/- Texts TrDb, TrDc, TrDd, TrDe, TrDf, TrDg, TrDh, TlP, TxA, TlD, TlF, CaP, RcB, SpB, TxB, TxC, StA, joined. -/
import Derived.Test.YtelfjhemnnbbpaaGreatK08
set_option linter.unusedVariables false
set_option linter.unusedSimpArgs false
set_option maxRecDepth 20000
namespace Go.Proofs.YtelfjhemnnbbpaaGreat
open Go.Proofs.YtelfjhemnnbbpaaGreat.SL
theorem set_uV {l : List Nat} {j k : Nat} : (uV l).set (0 + ((j : Nat) : Int).toNat * 1) (Value.int .u64 (k : Nat)) = uV (l.set j k) := by rw [Nat.zero_add, Nat.mul_one, Int.toNat_natCast, uV, uV, List.map_set]
theorem set_encZ {l : List Int} {j : Nat} {m : Int} : (l.map encZ').set (0 + ((j : Nat) : Int).toNat * 1) (Value.int .i64 m) = (l.set j m).map encZ' := by rw [Nat.zero_add, Nat.mul_one, Int.toNat_natCast, List.map_set]; rfl
set_option maxHeartbeats 4000000 in
theorem even_merge (b sb db i j : Nat) (spg : Int) (d x y : Nd) (rd m : Int) (S S1 S2 : Sh) (D D1 : Dk) (hs : d.good) (hsl : d.leaf = false) (hj : j < d.keys.length) (hx : x.fits) (hy : y.fits) (hlf : y.leaf = x.leaf) (hall : (x.both (d.keys.getD j 0) y).fits)
  (hz : (x.both (d.keys.getD j 0) y).size ≤ 240)
  (hL : ∀ r, Does Tryz.prog 101 [.pointer (some ⟨b, 0, none⟩), .int .i64 (d.kids.getD j 0), ndV (x.both (d.keys.getD j 0) y) r] [Wk b sb rd 0, Store sb db S, Disk db D, Nds (x.both (d.keys.getD j 0) y) r] (fun v H => v = .int .i64 m ∧ H = [Wk b sb rd 0, Store sb db S1, Disk db D1, Nds (x.both (d.keys.getD j 0) y) r]))
  (hg : S1.give (d.kids.getD (j + 1) 0) = (0, S2)) (hkb : -9223372036854775808 ≤ d.kids.getD (j + 1) 0 ∧ d.kids.getD (j + 1) 0 < 9223372036854775808)
  (w0 : World) (F0 : Nat → Prop) (b5 b8 b12 b13 : Nat) (r rx ry : Rw) :
  G Tryz.prog 156 w0 F0 (nav [1, 1, 1, 1, 1, 1, 1, 1] (bdy Tryz.f102)) (Post Tryz.prog Tryz.f102 w0 F0 (fun v H => ∃ r, v = ndV (Nd.unhang { d with kids := d.kids.set j m } j) r ∧ H = [Nds (Nd.unhang { d with kids := d.kids.set j m } j) r, Wk b sb rd 0, Store sb db S2, Disk db D1]))
   (evT b b5 b8 b12 b13 (j : Nat)) [] (evH b5 b8 b12 b13 spg d r i x y rx ry (Wk b sb rd 0) (Store sb db S) (Disk db D)) := by
 have hkl := kidsLen hs.p hsl
 have hfk := hs.fits.k
 have hB := tBoth_does x y rx ry (d.keys.getD j 0) hx hy hlf
 have hZ := fun r => ndSize_does (x.both (d.keys.getD j 0) y) r hall
 have hG := sGive_does sb db S1 (d.kids.getD (j + 1) 0) hkb
 rw [hg] at hG
 dsimp only at hG
 have hF := wFail0_does b sb rd
 have ew : IntKind.i64.wrap ((j : Int) + 1) = ((j + 1 : Nat) : Int) := by rw [wrapI64 (by omega)]; rfl
 have hib : 0 ≤ IntKind.i64.wrap ((j : Int) + 1) ∧ IntKind.i64.wrap ((j : Int) + 1) < d.kids.length := by rw [ew]; omega
 have hgi2 : ((d.kids.set j m).map encZ')[0 + (IntKind.i64.wrap ((j : Int) + 1)).toNat * 1]? = some (.int .i64 (d.kids.getD (j + 1) 0)) := by
  rw [ew]
  have := iGet (l := d.kids.set j m) (k := j + 1) (by simp; omega)
  rw [this, List.getD, List.getD, List.getElem?_set_ne (by omega)]
 obtain ⟨p1, c1, p2, c2, p3, c3⟩ := r
 obtain ⟨c, hc⟩ : ∃ c, c = nav [1, 1, 1, 1, 1, 1, 1, 1] (bdy Tryz.f102) := ⟨_, rfl⟩
 rw [← hc]
 dsimp only [nav, bdy, Tryz.f102, Option.getD] at hc
 subst hc
 dsimp only [evT, evH]
 refine g_open (A := Nds d ⟨p1, c1, p2, c2, p3, c3⟩) (h:=?_); (rintro _ _; dsimp only [NdsK, List.cons_append, List.nil_append])
 refine g_ptr (m := d.kids.length) (h:=?_); rintro g3 rfl hc3
 refine g_ptr (m := d.keys.length) (h:=?_); rintro g1 rfl hc1
 have hgk := uGet (l := d.keys) (k := j) hj
 have hgi := iGet (l := d.kids) (k := j) (by omega)
 have hU := nUnhang_does { d with kids := d.kids.set j m } ⟨some ⟨g1, 0, none⟩, c1, p2, c2, some ⟨g3, 0, none⟩, c3⟩ j hsl ⟨hfk, by simpa using hs.fits.i, hs.fits.v, hs.fits.s⟩ hj (show d.vals = [] from noVals hs.p hsl)
 have hU2 : Does Tryz.prog 130 [.agg #[.bool d.leaf, .slice (some ⟨g1, 0, none⟩) d.keys.length c1, .slice p2 d.vals.length c2, .slice (some ⟨g3, 0, none⟩) d.kids.length c3], .int .i64 j] [Nds { d with kids := d.kids.set j m } ⟨some ⟨g1, 0, none⟩, c1, p2, c2, some ⟨g3, 0, none⟩, c3⟩] (fun u H => ∃ r', u = ndV (Nd.unhang { d with kids := d.kids.set j m } j) r' ∧ H = [Nds (Nd.unhang { d with kids := d.kids.set j m } j) r', Nds { d with kids := d.kids.set j m } ⟨some ⟨g1, 0, none⟩, c1, p2, c2, some ⟨g3, 0, none⟩, c3⟩]) := by
  have e : ndV { d with kids := d.kids.set j m } ⟨some ⟨g1, 0, none⟩, c1, p2, c2, some ⟨g3, 0, none⟩, c3⟩ = .agg #[.bool d.leaf, .slice (some ⟨g1, 0, none⟩) d.keys.length c1, .slice p2 d.vals.length c2, .slice (some ⟨g3, 0, none⟩) d.kids.length c3] := by simp
  rw [← e]; exact hU
 (repeat (first|refine g_seq (h:=?_)|refine g_region (h:=?_)|refine l_nil (h:=?_)|refine n_then (h:=?_)|refine l_pures1 (h:=?_)|refine l_load (h:=?_)|refine l_store (h:=?_)|(refine l_alloc (h:=?_); intro _)))
 rename_i b14
 (refine g_draw [cl b12 175 (ndA x rx).toList, cl b13 175 (ndA y ry).toList, cl b14 175 _, vec 78 1 (some ⟨g1, 0, none⟩) d.keys.length c1 (uV d.keys)] (h := a_pass2 (h:=?_)))
 (repeat' (first|refine g_seq (h:=?_)|refine g_region (h:=?_)|refine l_nil (h:=?_)|refine n_then (h:=?_)|refine l_pures1 (h:=?_)|(refine l_atc ?_; refine l_call_ (hB) ?_; rintro _ _ _ ⟨r15, rfl, rfl⟩ he; cases he)|(refine l_atc ?_; refine l_call (hZ _) ?_)|refine l_load (h:=?_)|refine l_store (h:=?_)|(refine l_alloc (h:=?_); intro _)|refine a_done (h:=?_)|refine a_load (h := a_pass2 (h:=?_))|refine a_one (h:=?_)|refine n_any (h := a_pass2 (h:=?_))|refine a_v (h:=?_)|refine a_load_vec (h := a_pass2 (h:=?_))|(refine g_spT (h:=?_); intro h)|refine a_fork2 (h1 := ?_) (h2 := ?_)|refine a1_of (h:=?_)))
 all_goals rename_i b15
 all_goals
  (refine g_draw [cl b14 175 [.bool d.leaf, .slice (some ⟨g1, 0, none⟩) d.keys.length c1, .slice p2 d.vals.length c2, .slice (some ⟨g3, 0, none⟩) d.kids.length c3], cl b15 175 (ndA (x.both (d.keys.getD j 0) y) r15).toList] (h := a_pass2 (h:=?_)))
 all_goals
  (repeat' (first|refine g_seq (h:=?_)|refine g_region (h:=?_)|refine l_nil (h:=?_)|refine n_then (h:=?_)|refine l_pures1 (h:=?_)|(refine l_at 101 ?_; refine l_call (hL r15) ?_)|refine l_load (h:=?_)|refine l_indexAddr (h:=?_)|refine a_done (h:=?_)|refine a_load (h := a_pass2 (h:=?_))|refine a_one (h:=?_)|refine n_any (h := a_pass2 (h:=?_))|refine g_cond_t (h:=?_)|refine l_load_vec (h:=?_)|refine l_store_vec (h:=?_)))
 all_goals rw [set_encZ]
 all_goals
  (refine g_draw [Wk b sb rd 0, cl b14 175 [.bool d.leaf, .slice (some ⟨g1, 0, none⟩) d.keys.length c1, .slice p2 d.vals.length c2, .slice (some ⟨g3, 0, none⟩) d.kids.length c3], vec 3 1 (some ⟨g3, 0, none⟩) d.kids.length c3 ((d.kids.set j m).map encZ')] (h := a_pass2 (h:=?_)))
 all_goals
  (repeat (first|refine g_seq (h:=?_)|refine g_region (h:=?_)|refine l_nil (h:=?_)|refine n_then (h:=?_)|refine l_pures1 (h:=?_)|(refine l_atc ?_; refine l_call (hG) ?_)|(refine l_atc ?_; refine l_call (hF) ?_)|refine l_load (h:=?_)|refine l_indexAddr (h:=?_)|refine a_done (h:=?_)|refine a_load (h := a_pass2 (h:=?_))|refine a_one (h:=?_)|refine n_any (h := a_pass2 (h:=?_))|refine l_load_vec (h:=?_)))
 all_goals
  (refine l_shut (A := Nds { d with kids := d.kids.set j m } ⟨some ⟨g1, 0, none⟩, c1, p2, c2, some ⟨g3, 0, none⟩, c3⟩) (K := NdsK { d with kids := d.kids.set j m } ⟨some ⟨g1, 0, none⟩, c1, p2, c2, some ⟨g3, 0, none⟩, c3⟩ (())) (hid_shuts (()) trivial) (h:=?_) (p := by dsimp only [NdsK]; (try simp only [List.map_nil, List.length_nil, List.length_set, List.length_append, List.length_cons, List.length_singleton, List.map_append, List.map_cons, Nat.zero_add]); exact parts_of))
 all_goals
  (repeat (first|refine l_nil (h:=?_)|refine n_then (h:=?_)|(refine l_atc ?_; refine l_call_ (hU2) ?_; rintro _ _ _ ⟨rr, rfl, rfl⟩ he; cases he)|refine l_store (h:=?_)|refine g_ret (h:=?_)|refine n_then_ret (h:=?_)))
 all_goals
  refine r_retk [Nds (Nd.unhang { d with kids := d.kids.set j m } j) rr, Wk b sb rd 0, Store sb db S2, Disk db D1] ?_
 all_goals exact ⟨rr, rfl, rfl⟩
set_option maxHeartbeats 4000000 in
theorem even_deal (b sb db i j : Nat) (spg : Int) (d x y al : Nd) (rd m1 m2 : Int) (S S1 S2 : Sh) (D D1 D2 : Dk) (hs : d.good) (hsl : d.leaf = false) (hj : j < d.keys.length) (hx : x.fits) (hy : y.fits) (hlf : y.leaf = x.leaf) (hal : x.both (d.keys.getD j 0) y = al) (hap : al.plain) (hall : al.fits)
  (hz : 240 < al.size) (hz2 : al.size < 10000) (hm : 1 ≤ al.keys.length - 1 - al.up)
  (hL1 : ∀ r, Does Tryz.prog 101 [.pointer (some ⟨b, 0, none⟩), .int .i64 (d.kids.getD j 0), ndV (al.front al.at') r] [Wk b sb rd 0, Store sb db S, Disk db D, Nds (al.front al.at') r] (fun v H => v = .int .i64 m1 ∧ H = [Wk b sb rd 0, Store sb db S1, Disk db D1, Nds (al.front al.at') r]))
  (hL2 : ∀ r, Does Tryz.prog 101 [.pointer (some ⟨b, 0, none⟩), .int .i64 (d.kids.getD (j + 1) 0), ndV (al.back al.at') r] [Wk b sb rd 0, Store sb db S1, Disk db D1, Nds (al.back al.at') r] (fun v H => v = .int .i64 m2 ∧ H = [Wk b sb rd 0, Store sb db S2, Disk db D2, Nds (al.back al.at') r]))
  (w0 : World) (F0 : Nat → Prop) (b5 b8 b12 b13 : Nat) (r rx ry : Rw) :
  G Tryz.prog 156 w0 F0 (nav [1, 1, 1, 1, 1, 1, 1, 1] (bdy Tryz.f102)) (Post Tryz.prog Tryz.f102 w0 F0 (fun v H => ∃ r, v = ndV { d with keys := d.keys.set j (al.keys.getD al.at' 0), kids := (d.kids.set j m1).set (j + 1) m2 } r ∧ H = [Nds { d with keys := d.keys.set j (al.keys.getD al.at' 0), kids := (d.kids.set j m1).set (j + 1) m2 } r, Wk b sb rd 0, Store sb db S2, Disk db D2]))
   (evT b b5 b8 b12 b13 (j : Nat)) [] (evH b5 b8 b12 b13 spg d r i x y rx ry (Wk b sb rd 0) (Store sb db S) (Disk db D)) := by
 have hkl := kidsLen hs.p hsl
 have hfk := hs.fits.k
 have hB := tBoth_does x y rx ry (d.keys.getD j 0) hx hy hlf
 rw [hal] at hB
 have hZ := fun r => ndSize_does al r hall
 have hSp := fun r => nSplit_does al r hap hall hz2 hm
 have ew : IntKind.i64.wrap ((j : Int) + 1) = ((j + 1 : Nat) : Int) := by rw [wrapI64 (by omega)]; rfl
 have hib : 0 ≤ IntKind.i64.wrap ((j : Int) + 1) ∧ IntKind.i64.wrap ((j : Int) + 1) < d.kids.length := by rw [ew]; omega
 have hul : (uV d.keys).length = d.keys.length := by simp [uV]
 have hgi2 : (d.kids.map encZ')[0 + (IntKind.i64.wrap ((j : Int) + 1)).toNat * 1]? = some (.int .i64 (d.kids.getD (j + 1) 0)) := by
  rw [ew]
  exact iGet (l := d.kids) (k := j + 1) (by omega)
 obtain ⟨p1, c1, p2, c2, p3, c3⟩ := r
 obtain ⟨c, hc⟩ : ∃ c, c = nav [1, 1, 1, 1, 1, 1, 1, 1] (bdy Tryz.f102) := ⟨_, rfl⟩
 rw [← hc]
 dsimp only [nav, bdy, Tryz.f102, Option.getD] at hc
 subst hc
 dsimp only [evT, evH]
 refine g_open (A := Nds d ⟨p1, c1, p2, c2, p3, c3⟩) (h:=?_); (rintro _ _; dsimp only [NdsK, List.cons_append, List.nil_append])
 refine g_ptr (m := d.kids.length) (h:=?_); rintro g3 rfl hc3
 refine g_ptr (m := d.keys.length) (h:=?_); rintro g1 rfl hc1
 have hgk := uGet (l := d.keys) (k := j) hj
 have hgi := iGet (l := d.kids) (k := j) (by omega)
 (repeat (first|refine g_seq (h:=?_)|refine g_region (h:=?_)|refine l_nil (h:=?_)|refine n_then (h:=?_)|refine l_pures1 (h:=?_)|refine l_load (h:=?_)|refine l_store (h:=?_)|(refine l_alloc (h:=?_); intro _)))
 rename_i b14
 (refine g_draw [cl b12 175 (ndA x rx).toList, cl b13 175 (ndA y ry).toList, cl b14 175 _, vec 78 1 (some ⟨g1, 0, none⟩) d.keys.length c1 (uV d.keys)] (h := a_pass2 (h:=?_)))
 (repeat' (first|refine g_seq (h:=?_)|refine g_region (h:=?_)|refine l_nil (h:=?_)|refine n_then (h:=?_)|refine l_pures1 (h:=?_)|(refine l_atc ?_; refine l_call_ (hB) ?_; rintro _ _ _ ⟨r15, rfl, rfl⟩ he; cases he)|(refine l_atc ?_; refine l_call (hZ _) ?_)|(refine l_atc ?_; refine l_call_ (hSp _) ?_; rintro _ _ _ ⟨r1, r2, rfl, rfl⟩ he; cases he)|refine l_load (h:=?_)|refine l_store (h:=?_)|(refine l_alloc (h:=?_); intro _)|refine g_skip (h:=?_)|refine a_done (h:=?_)|refine a_load (h := a_pass2 (h:=?_))|refine a_one (h:=?_)|refine n_any (h := a_pass2 (h:=?_))|refine a_v (h:=?_)|refine g_cond_f (h:=?_)|refine a_load_vec (h := a_pass2 (h:=?_))|(refine g_spF (h:=?_); intro h)|refine a_fork2 (h1 := ?_) (h2 := ?_)|refine a1_of (h:=?_)))
 all_goals rename_i b15
 all_goals
  (refine g_draw [cl b12 175 _, cl b14 175 [.bool d.leaf, .slice (some ⟨g1, 0, none⟩) d.keys.length c1, .slice p2 d.vals.length c2, .slice (some ⟨g3, 0, none⟩) d.kids.length c3], vec 3 1 (some ⟨g3, 0, none⟩) d.kids.length c3 (d.kids.map encZ')] (h := a_pass2 (h:=?_)))
 all_goals
  (repeat' (first|refine g_seq (h:=?_)|refine g_region (h:=?_)|refine l_nil (h:=?_)|refine n_then (h:=?_)|refine l_pures1 (h:=?_)|(refine l_at 101 ?_; refine l_call (hL1 r1) ?_)|refine l_load (h:=?_)|refine l_indexAddr (h:=?_)|refine g_skip (h:=?_)|refine a_done (h:=?_)|refine a_load (h := a_pass2 (h:=?_))|refine a_one (h:=?_)|refine n_any (h := a_pass2 (h:=?_))|refine g_cond_f (h:=?_)|refine l_load_vec (h:=?_)))
 all_goals
  (refine g_draw [cl b13 175 _, cl b14 175 [.bool d.leaf, .slice (some ⟨g1, 0, none⟩) d.keys.length c1, .slice p2 d.vals.length c2, .slice (some ⟨g3, 0, none⟩) d.kids.length c3]] (h := a_pass2 (h:=?_)))
 all_goals
  (repeat' (first|refine g_seq (h:=?_)|refine g_region (h:=?_)|refine l_nil (h:=?_)|refine n_then (h:=?_)|(refine l_at 101 ?_; refine l_call (hL2 r2) ?_)|refine l_load (h:=?_)|refine l_store (h:=?_)|refine l_indexAddr (h:=?_)|refine g_ret (h:=?_)|refine a_done (h:=?_)|refine a_load (h := a_pass2 (h:=?_))|refine a_one (h:=?_)|refine n_any (h := a_pass2 (h:=?_))|refine l_load_vec (h:=?_)|refine l_store_vec (h:=?_)))
 all_goals rw [ew, set_encZ, set_encZ, set_uV]
 all_goals
  (refine n_shut (A := Nds { d with keys := d.keys.set j (al.keys.getD al.at' 0), kids := (d.kids.set j m1).set (j + 1) m2 } ⟨some ⟨g1, 0, none⟩, c1, p2, c2, some ⟨g3, 0, none⟩, c3⟩) (K := NdsK { d with keys := d.keys.set j (al.keys.getD al.at' 0), kids := (d.kids.set j m1).set (j + 1) m2 } ⟨some ⟨g1, 0, none⟩, c1, p2, c2, some ⟨g3, 0, none⟩, c3⟩ (())) (hid_shuts (()) trivial) (h:=?_) (p := by dsimp only [NdsK]; (try simp only [List.map_nil, List.length_nil, List.length_set, List.length_append, List.length_cons, List.length_singleton, List.map_append, List.map_cons, Nat.zero_add]); exact parts_of))
 all_goals
  refine r_retk [Nds { d with keys := d.keys.set j (al.keys.getD al.at' 0), kids := (d.kids.set j m1).set (j + 1) m2 } ⟨some ⟨g1, 0, none⟩, c1, p2, c2, some ⟨g3, 0, none⟩, c3⟩, Wk b sb rd 0, Store sb db S2, Disk db D2] ?_
 all_goals exact ⟨⟨some ⟨g1, 0, none⟩, c1, p2, c2, some ⟨g3, 0, none⟩, c3⟩, by simp [packV], rfl⟩
end Go.Proofs.YtelfjhemnnbbpaaGreat
set_option maxRecDepth 20000
namespace Go.Proofs.YtelfjhemnnbbpaaGreat
open Go.Proofs.YtelfjhemnnbbpaaGreat.SL
def LinkTo : List Spot → Int → Prop
 | [], _ => True
 | s :: up, pg => s.d.kids.getD s.i 0 = pg ∧ LinkTo up s.pg
structure HandD (N : Nat) (U : List Int) (T : List Ent) (S : Sh) (D : Dk) (up : List Spot) (pg : Int) (n : Nd) (h : Nat) (Lf Rt es : List Ent) (ps qs : List Int) : Prop where
 fine : Fine N S D U
 way : Way (Gd N D) up h Lf Rt qs
 nt : NT (Gd N D) h n es ps
 pages : (pg :: (ps ++ qs)).Perm (S.after U)
 fit : ∀ e ∈ es, FitsP up e.1
 all : Lf ++ (es ++ Rt) = T
 size : n.size ≤ 240
 link : LinkTo up pg
theorem mem_take_self {α : Type} {l : List α} {j : Nat} (h : j < l.length) : l[j] ∈ l.take (j + 1) := by
 have : (l.take (j + 1))[j]'(by simp; omega) = l[j] := by simp
 rw [← this]
 exact List.getElem_mem _
theorem both_keys {a b : Nd} {mid : Nat} (h : a.keys ≠ [] ∨ b.keys ≠ []) : (a.both mid b).keys ≠ [] := by
 unfold Nd.both
 dsimp only
 split
 ·rcases h with h | h <;> simp [h]
 ·simp
structure Pair (N : Nat) (U : List Int) (T : List Ent) (S : Sh) (D : Dk) (s : Spot) (up : List Spot) (n : Nd) (h : Nat) (bd : Nd) (sl sr : List Sub) (L' R' es : List Ent) (ps q0 : List Int) : Prop where
 jlt : lefN s.i < s.d.keys.length
 go : Gd N D (s.d.kids.getD (othN s.i) 0) bd
 gb : bd.good
 lf : bd.leaf = n.leaf
 two : Two (Gd N D) h s.d (lefN s.i) sl sr
 nt : NT (Gd N D) h ((fstN s.i bd n).both (s.d.keys.getD (lefN s.i) 0) (sndN s.i bd n)) es ps
 sz : ((fstN s.i bd n).both (s.d.keys.getD (lefN s.i) 0) (sndN s.i bd n)).size ≤ 340
 ne : ((fstN s.i bd n).both (s.d.keys.getD (lefN s.i) 0) (sndN s.i bd n)).keys ≠ []
 f2 : ∀ e ∈ es, Fits2 s.d (lefN s.i) e.1
 fp : ∀ e ∈ es, FitsP up e.1
 way : Way (Gd N D) up (h + 1) L' R' q0
 gs : Gd N D s.pg s.d
 fs : ∀ e ∈ Sub.all sl ++ Sub.all sr, FitsP up e.1
 all : L' ++ ((Sub.all sl ++ (es ++ Sub.all sr)) ++ R') = T
 pages : (s.d.kids.getD (lefN s.i) 0 :: s.d.kids.getD (lefN s.i + 1) 0 :: (ps ++ (s.pg :: (Sub.pages sl ++ (Sub.pages sr ++ q0))))).Perm (S.after U)
theorem HandD.pair {N : Nat} {U : List Int} {T : List Ent} {S : Sh} {D : Dk} {s : Spot} {up : List Spot} {pg : Int} {n : Nd} {h : Nat} {Lf Rt es : List Ent} {ps qs : List Int} (k : HandD N U T S D (s :: up) pg n h Lf Rt es ps qs) (hz : n.size < 80) :
  ∃ bd sl sr L' R' es' ps' q0, Pair N U T S D s up n h bd sl sr L' R' es' ps' q0 := by
 obtain ⟨L', R', q0, sl, sr, w, g, mid, fs, rfl, rfl, rfl⟩ := k.way
 have hN := k.fine.n
 have hkl := kidsLen mid.good.p mid.leaf
 have hkp : 0 < s.d.keys.length := List.length_pos_iff.2 mid.ne
 obtain ⟨spg, d, i⟩ := s
 have hlink := k.link.1
 dsimp only at *
 cases i with
 | zero =>
  obtain ⟨kk, sb, sr', rfl, hk1, ⟨bd, ps', g1, g2, g3, g4, g5⟩, two, hf⟩ := two_right mid hkp
  have hsl : sl = [] := by have := mid.ol.len; simpa using this.symm
  subst hsl
  have hkk : d.kids.getD 1 0 = kk := by rw [List.getD, hk1]; rfl
  have hm64 : d.keys.getD 0 0 < 18446744073709551616 := mid.good.p.key _ (getD_mem hkp)
  have hd0 : d.keys.getD 0 0 ∈ d.keys.drop 0 := by rw [List.drop_zero]; exact getD_mem hkp
  obtain ⟨nt, sz⟩ := both_nt (mid := d.keys.getD 0 0) k.nt g4 (fun e he => (k.fit e he).1.2 _ hd0) (fun e he => (hf e he).2) hm64
  have hlf : bd.leaf = n.leaf := by
   have a := g4.leaf
   have b := k.nt.leaf
   cases h1 : bd.leaf <;> cases h2 : n.leaf <;> simp_all
  have hbk : bd.keys ≠ [] := by
   cases h1 : bd.leaf
   ·exact g3 h1
   ·exact List.length_pos_iff.1 (g2.some h1)
  refine ⟨bd, [], sr', L', R', _, _, q0, ⟨hkp, by rw [show othN 0 = 1 from rfl, hkk]; exact g1, g2, hlf, two, nt, ?_, both_keys (.inr hbk), ?_, ?_, w, g, ?_, ?_, ?_⟩⟩
  ·have := g2.size
   show (n.both (d.keys.getD 0 0) bd).size ≤ 340
   omega
  ·intro e he
   rcases List.mem_append.1 he with he | he
   ·exact ⟨by simp [lefN], fun k' hk' => (k.fit e he).1.2 k' (by rw [List.drop_zero]; exact List.mem_of_mem_drop hk')⟩
   ·exact (hf e he).1
  ·intro e he
   rcases List.mem_append.1 he with he | he
   ·exact (k.fit e he).2
   ·exact fs e (by simp [Sub.all_cons, he])
  ·intro e he
   exact fs e (by simp only [List.mem_append, Sub.all_cons] at he ⊢; exact he.elim .inl fun q => .inr (.inr q))
  ·rw [← k.all]; simp [Sub.all_cons]
  ·refine List.Perm.trans ?_ k.pages
   rw [show lefN 0 = 0 from rfl, hlink, hkk, Sub.pages_cons, g5]
   refine List.perm_iff_count.2 fun a => ?_
   simp only [List.count_append, List.count_cons, List.cons_append]
   omega
 | succ j =>
  have hj : j < d.keys.length := by have := mid.ile; omega
  obtain ⟨kk, sl', sb, rfl, hk1, ⟨bd, ps', g1, g2, g3, g4, g5⟩, two, hf⟩ := two_left mid
  have hkk : d.kids.getD j 0 = kk := by rw [List.getD, hk1]; rfl
  have hm64 : d.keys.getD j 0 < 18446744073709551616 := mid.good.p.key _ (getD_mem hj)
  have hdj : d.keys.getD j 0 ∈ d.keys.take (j + 1) := by
   have := mem_take_self hj
   simpa [List.getD, hj] using this
  obtain ⟨nt, sz⟩ := both_nt (mid := d.keys.getD j 0) g4 k.nt (fun e he => (hf e he).2) (fun e he => (k.fit e he).1.1 _ hdj) hm64
  have hlf : bd.leaf = n.leaf := by
   have a := g4.leaf
   have b := k.nt.leaf
   cases h1 : bd.leaf <;> cases h2 : n.leaf <;> simp_all
  have hbk : bd.keys ≠ [] := by
   cases h1 : bd.leaf
   ·exact g3 h1
   ·exact List.length_pos_iff.1 (g2.some h1)
  have hrise := mid.good.p.rise
  refine ⟨bd, sl', sr, L', R', _, _, q0, ⟨hj, by rw [show othN (j + 1) = j by simp [othN], hkk]; exact g1, g2, hlf, two, nt, ?_, both_keys (.inl hbk), ?_, ?_, w, g, ?_, ?_, ?_⟩⟩
  ·have := g2.size
   have e1 : fstN (j + 1) bd n = bd := by simp [fstN]
   have e2 : sndN (j + 1) bd n = n := by simp [sndN]
   rw [e1, e2]
   show (bd.both (d.keys.getD j 0) n).size ≤ 340
   omega
  ·intro e he
   rcases List.mem_append.1 he with he | he
   ·refine ⟨(hf e he).1, fun k' hk' => ?_⟩
    have h1 := (hf e he).2
    have h2 := (rise_take_drop hrise hj).2
    have hk2 : k' ∈ d.keys.drop (j + 1) := hk'
    have h3 : d.keys[j] < k' := by
     have := hrise
     rw [← List.take_append_drop (j + 1) d.keys] at this
     have hm : d.keys[j] ∈ d.keys.take (j + 1) := mem_take_self hj
     exact (List.pairwise_append.1 this).2.2 _ hm _ hk2
    have h4 : d.keys.getD j 0 = d.keys[j] := by simp [List.getD, hj]
    omega
   ·exact ⟨fun k' hk' => (k.fit e he).1.1 k' (by rw [List.take_succ_eq_append_getElem hj]; exact List.mem_append_left _ hk'), (k.fit e he).1.2⟩
  ·intro e he
   rcases List.mem_append.1 he with he | he
   ·exact fs e (by simp [Sub.all, he])
   ·exact (k.fit e he).2
  ·intro e he
   exact fs e (by simp only [List.mem_append, Sub.all_append] at he ⊢; exact he.elim (fun q => .inl (.inl q)) .inr)
  ·rw [← k.all]; simp [Sub.all]
  ·refine List.Perm.trans ?_ k.pages
   have hl2 : d.kids.getD (lefN (j + 1) + 1) 0 = pg := hlink
   rw [hl2, show lefN (j + 1) = j from rfl, hkk, Sub.pages_append]
   refine List.perm_iff_count.2 fun a => ?_
   have e5 : Sub.pages [sb] = kk :: ps' := by simp [Sub.pages, g5]
   rw [e5]
   simp only [List.count_append, List.count_cons, List.cons_append]
   omega
end Go.Proofs.YtelfjhemnnbbpaaGreat
set_option maxRecDepth 20000
namespace Go.Proofs.YtelfjhemnnbbpaaGreat
open Go.Proofs.YtelfjhemnnbbpaaGreat.SL
theorem HandD.lay {N : Nat} {U : List Int} {T : List Ent} {S : Sh} {D : Dk} {s : Spot} {up : List Spot} {pg : Int} {n : Nd} {h : Nat} {Lf Rt es : List Ent} {ps qs : List Int} (k : HandD N U T S D (s :: up) pg n h Lf Rt es ps qs) (hz : 80 ≤ n.size) (room : U.length + S.fresh.length + 2 < N) :
  ∃ (m : Int) (S' : Sh) (D' : Dk) (Lf' Rt' es' : List Ent) (ps' qs' : List Int),
   (∀ b sb db read r, Does Tryz.prog 101 [.pointer (some ⟨b, 0, none⟩), .int .i64 pg, ndV n r] [Wk b sb read 0, Store sb db S, Disk db D, Nds n r] (fun v H => v = .int .i64 m ∧ H = [Wk b sb read 0, Store sb db S', Disk db D', Nds n r])) ∧
   HandD N U T S' D' up s.pg { s.d with kids := s.d.kids.set s.i m } (h + 1) Lf' Rt' es' ps' qs' ∧ S'.fresh.length ≤ S.fresh.length + 1 ∧ S'.gen = S.gen ∧ Same U S D S' D' := by
 have hne : n.keys ≠ [] := by
  intro e
  have hp := k.nt.plain
  cases hl : n.leaf
  ·have : n.size = 1 + 2 * n.kids.length := by simp [Nd.size, hl, e]
   have := kidsLen hp hl
   rw [e] at this
   simp at this
   omega
  ·have hv := valsLen hp hl
   rw [e] at hv
   have hv2 : n.vals = [] := List.length_eq_zero_iff.1 (by simpa using hv)
   have : n.size = 1 := by simp [Nd.size, hl, e, hv2, sumL]
   omega
 have hgood : n.good := ⟨k.nt.plain, fun _ => List.length_pos_iff.2 hne, k.size⟩
 obtain ⟨m, S', D', c1, c2, c3, c4, c5, c6, c7, c8, c9, c10⟩ := lay_ok k.fine k.pages room hgood
 have K : Hand N U T S D (s :: up) pg n h Lf Rt es ps qs := ⟨k.fine, k.way, k.nt, k.pages, k.fit, k.all, hne⟩
 obtain ⟨Lf', Rt', es', ps', qs', k', v1, v2, v3⟩ := Hand.up K k.size c2 c3 c4 c6
 have hsz : Nd.size { s.d with kids := s.d.kids.set s.i m } = s.d.size := by simp only [Nd.size, List.length_set]
 exact ⟨m, S', D', Lf', Rt', es', ps', qs', c1, ⟨k'.fine, k'.way, k'.nt, k'.pages, k'.fit, k'.all, by rw [hsz]; exact v1.size, k.link.2⟩, c8, c9, c10⟩
theorem HandD.even {N : Nat} {U : List Int} {T : List Ent} {S : Sh} {D : Dk} {s : Spot} {up : List Spot} {pg : Int} {n : Nd} {h : Nat} {Lf Rt es : List Ent} {ps qs : List Int} (k : HandD N U T S D (s :: up) pg n h Lf Rt es ps qs) (hz : n.size < 80) (room : U.length + S.fresh.length + 4 < N)
  (b sb db deep : Nat) (r rn : Rw) (read : Int) (h1 : 0 ≤ read ∧ read < 640) (h2 : deep + 1 ≤ 10) :
  Does Tryz.prog 102 [.pointer (some ⟨b, 0, none⟩), .agg #[.int .i64 s.pg, .bool s.d.leaf, .slice r.p1 s.d.keys.length r.c1, .slice r.p2 s.d.vals.length r.c2, .slice r.p3 s.d.kids.length r.c3, .int .i64 s.i], ndV n rn, .int .i64 deep] [Nds s.d r, Nds n rn, Wk b sb read 0, Store sb db S, Disk db D]
   (fun v H => ∃ (n' : Nd) (r' : Rw) (S' : Sh) (D' : Dk), v = ndV n' r' ∧ H = [Nds n' r', Wk b sb (read + 1) 0, Store sb db S', Disk db D'] ∧ (∃ Lf' Rt' es' ps' qs', HandD N U T S' D' up s.pg n' (h + 1) Lf' Rt' es' ps' qs') ∧ S'.fresh.length ≤ S.fresh.length + 2 ∧ S'.gen = S.gen ∧ Same U S D S' D') := by
 obtain ⟨bd, sl, sr, L', R', es', ps', q0, p⟩ := k.pair hz
 have hN := k.fine.n
 have hs : s.d.good := p.two.good
 have hsl : s.d.leaf = false := p.two.leaf
 have hkl := kidsLen hs.p hsl
 have hi : s.i ≤ s.d.keys.length := by
  obtain ⟨_, _, _, _, _, _, _, mid, _⟩ := k.way
  exact mid.ile
 have hkk : s.d.keys ≠ [] := by intro e; have := p.jlt; rw [e] at this; simp at this
 have hrb : S.read D (s.d.kids.getD (othN s.i) 0) = ((2, bd.text, 0), S) := by rw [k.fine.read p.go.1, p.go.2]
 have hnf : n.fits := k.nt.plain.fits (by have := k.size; omega)
 have hxf : (fstN s.i bd n).fits := by unfold fstN; split; exact hnf; exact p.gb.fits
 have hyf : (sndN s.i bd n).fits := by unfold sndN; split; exact p.gb.fits; exact hnf
 have hlf2 : (sndN s.i bd n).leaf = (fstN s.i bd n).leaf := by unfold sndN fstN; split; exact p.lf; exact p.lf.symm
 obtain ⟨al, hal⟩ : ∃ al, (fstN s.i bd n).both (s.d.keys.getD (lefN s.i) 0) (sndN s.i bd n) = al := ⟨_, rfl⟩
 have pnt := p.nt
 have psz := p.sz
 have pne := p.ne
 rw [hal] at pnt psz pne
 have haf : al.fits := pnt.plain.fits (by omega)
 have hjl := p.jlt
 have hkb : ∀ q, q < s.d.kids.length → -9223372036854775808 ≤ s.d.kids.getD q 0 ∧ s.d.kids.getD q 0 < 9223372036854775808 := fun q hq => by
  have := hs.p.kid _ (getD_mem (z := 0) hq)
  omega
 by_cases hz2 : al.size ≤ 240
 ·have hgood : al.good := ⟨pnt.plain, fun _ => List.length_pos_iff.2 pne, hz2⟩
  obtain ⟨m, S1, D1, c1, c2, c3, c4, c5, c6, c7, c8, c9, c10⟩ := lay_ok k.fine p.pages (by omega) hgood
  obtain ⟨S2, g1, g2, g3, g4, g5, g6⟩ := give_ok (pg := s.d.kids.getD (lefN s.i + 1) 0) (rest := m :: (ps' ++ (s.pg :: (Sub.pages sl ++ (Sub.pages sr ++ q0))))) c2 ((List.Perm.swap _ _ _).trans c6)
  have ck : ∀ q ∈ ps' ++ (s.pg :: (Sub.pages sl ++ (Sub.pages sr ++ q0))), ∀ dd, Gd N D q dd → Gd N D1 q dd := fun q hq dd gd => gd.keep (c4 q (List.mem_cons_of_mem _ hq))
  refine (even_head b sb db deep s.i s.pg s.d n bd r rn read S D _ hs hsl hi hkk p.gb p.lf hrb h1 h2 (fun w0 F0 b5 b8 b12 b13 r rx ry => even_merge b sb db s.i (lefN s.i) s.pg s.d (fstN s.i bd n) (sndN s.i bd n) (read + 1) m S S1 S2 D D1 hs hsl hjl hxf hyf hlf2 (by rw [hal]; exact haf) (by rw [hal]; exact hz2) (fun r => by rw [hal]; exact c1 b sb db (read + 1) r) g1 (hkb _ (by omega)) w0 F0 b5 b8 b12 b13 r rx ry)).mono ?_
  rintro v H ⟨r', rfl, rfl⟩
  have o : OnP (Gd N D1) h m ⟨es', m :: ps'⟩ := ⟨al, ps', c3, hgood, fun _ => pne, pnt.same (fun q hq => ck q (by simp [hq])), rfl⟩
  have hnt := merge p.two o (by have := c3.1; omega) p.f2 (fun q hq => ck q (by simp only [List.mem_append, List.mem_cons] at hq ⊢; exact .inr (.inr (hq.elim .inl fun z => .inr (.inl z)))))
  refine ⟨_, r', S2, D1, rfl, rfl, ⟨L', R', _, _, q0, ⟨g2, p.way.same (fun q hq => ck q (by simp [hq])), hnt, ?_, ?_, p.all, ?_, k.link.2⟩⟩, by omega, g5.trans c9, g6.trans c10⟩
  ·refine List.Perm.trans ?_ g3
   refine List.perm_iff_count.2 fun a => ?_
   simp only [List.count_append, List.count_cons, List.cons_append]
   omega
  ·intro e he
   simp only [List.mem_append] at he
   rcases he with he | he | he
   ·exact p.fs e (by simp [he])
   ·exact p.fp e he
   ·exact p.fs e (by simp [he])
  ·have h3 := hs.size
   have h4 : (Nd.unhang { s.d with kids := s.d.kids.set (lefN s.i) m } (lefN s.i)).size ≤ s.d.size := by
    have l1 := laid_len (l := s.d.keys) (p := lefN s.i) (g := 1) (m := []) (by omega)
    have l2 := laid_len (l := s.d.kids.set (lefN s.i) m) (p := lefN s.i + 1) (g := 1) (m := []) (by simp; omega)
    simp only [Nd.unhang, Nd.size, hsl, Bool.false_eq_true, if_false, l1, l2, List.length_set, List.length_nil]
    omega
   exact Nat.le_trans h4 h3
 ·have hz3 : 240 < al.size := by omega
  obtain ⟨a1, a2, a3, a4, a5⟩ := at_spec pnt.plain hz3 psz
  obtain ⟨e1, p1, e2, p2, md, hmd, n1, n2, rfl, rfl, lt1, ge2, q1, q2⟩ := split_nt pnt a2 a3
  have hmd' : al.keys.getD al.at' 0 = md := by rw [List.getD, hmd]; rfl
  have hmm : md < 18446744073709551616 := pnt.plain.key md (List.mem_of_getElem? hmd)
  have gf : (al.front al.at').good := ⟨n1.plain, fun _ => List.length_pos_iff.2 q1, a4⟩
  have gb : (al.back al.at').good := ⟨n2.plain, fun _ => List.length_pos_iff.2 q2, a5⟩
  obtain ⟨m1, S1, D1, c1, c2, c3, c4, c5, c6, c7, c8, c9, c10⟩ := lay_ok k.fine p.pages (by omega) gf
  obtain ⟨m2, S2, D2, f1, f2, f3, f4, f5, f6, f7, f8, f9, f10⟩ := lay_ok (pg := s.d.kids.getD (lefN s.i + 1) 0) (rest := m1 :: (p1 ++ p2 ++ (s.pg :: (Sub.pages sl ++ (Sub.pages sr ++ q0))))) c2 ((List.Perm.swap _ _ _).trans c6) (by omega) gb
  have ck : ∀ q ∈ p1 ++ p2 ++ (s.pg :: (Sub.pages sl ++ (Sub.pages sr ++ q0))), ∀ dd, Gd N D q dd → Gd N D2 q dd := fun q hq dd gd => (gd.keep (c4 q (List.mem_cons_of_mem _ hq))).keep (f4 q (List.mem_cons_of_mem _ hq))
  refine (even_head b sb db deep s.i s.pg s.d n bd r rn read S D _ hs hsl hi hkk p.gb p.lf hrb h1 h2 (fun w0 F0 b5 b8 b12 b13 r rx ry => even_deal b sb db s.i (lefN s.i) s.pg s.d (fstN s.i bd n) (sndN s.i bd n) al (read + 1) m1 m2 S S1 S2 D D1 D2 hs hsl hjl hxf hyf hlf2 hal pnt.plain haf hz3 (by omega) a1 (fun r => c1 b sb db (read + 1) r) (fun r => f1 b sb db (read + 1) r) w0 F0 b5 b8 b12 b13 r rx ry)).mono ?_
  rintro v H ⟨r', rfl, rfl⟩
  rw [hmd']
  have o1 : OnP (Gd N D2) h m1 ⟨e1, m1 :: p1⟩ := ⟨_, p1, c3.keep (f4 m1 (by simp)), gf, fun _ => q1, n1.same (fun q hq => ck q (by simp [hq])), rfl⟩
  have o2 : OnP (Gd N D2) h m2 ⟨e2, m2 :: p2⟩ := ⟨_, p2, f3, gb, fun _ => q2, n2.same (fun q hq => ck q (by simp [hq])), rfl⟩
  have hnt := deal p.two o1 o2 (by have := c3.1; omega) (by have := f3.1; omega) hmm (fun x hx => ⟨p.f2 x (by simp [hx]), lt1 x hx⟩) (fun x hx => ⟨p.f2 x (by simp [hx]), ge2 x hx⟩) (fun q hq => ck q (by simp only [List.mem_append, List.mem_cons] at hq ⊢; exact .inr (.inr (hq.elim .inl fun z => .inr (.inl z)))))
  refine ⟨_, r', S2, D2, rfl, rfl, ⟨L', R', _, _, q0, ⟨f2, p.way.same (fun q hq => ck q (by simp [hq])), hnt, ?_, ?_, p.all, ?_, k.link.2⟩⟩, by omega, f9.trans c9, f10.trans c10⟩
  ·refine List.Perm.trans ?_ f6
   refine List.perm_iff_count.2 fun a => ?_
   simp only [List.count_append, List.count_cons, List.cons_append]
   omega
  ·intro e he
   simp only [List.mem_append] at he
   rcases he with he | (he | he) | he
   ·exact p.fs e (by simp [he])
   ·exact p.fp e (by simp [he])
   ·exact p.fp e (by simp [he])
   ·exact p.fs e (by simp [he])
  ·have h3 := hs.size
   have h4 : Nd.size { s.d with keys := s.d.keys.set (lefN s.i) md, kids := (s.d.kids.set (lefN s.i) m1).set (lefN s.i + 1) m2 } = s.d.size := by
    simp only [Nd.size, hsl, Bool.false_eq_true, if_false, List.length_set]
   exact Nat.le_trans (Nat.le_of_eq h4) h3
end Go.Proofs.YtelfjhemnnbbpaaGreat
set_option maxRecDepth 20000
namespace Go.Proofs.YtelfjhemnnbbpaaGreat
open Go.Proofs.YtelfjhemnnbbpaaGreat.SL
abbrev DelQ (N : Nat) (U : List Int) (T : List Ent) (S0 : Sh) (D0 : Dk) (sb db : Nat) (v : Value) (H : List SProp) : Prop :=
 ∃ (m : Int) (S' : Sh) (D' : Dk), v = .tuple #[.int .i64 m, .bool true, .int .i64 0] ∧ H = [Store sb db S', Disk db D'] ∧ IsTree N S' D' U m T ∧ Fine N S' D' U ∧ S'.gen = S0.gen ∧ Same U S0 D0 S' D'
set_option maxHeartbeats 4000000 in
theorem del_tail (b sb db b13 b15 N : Nat) (U : List Int) (T : List Ent) (S0 S : Sh) (D0 D : Dk) (xs : Sp) (n : Nd) (rn : Rw) (rd : Int) {h : Nat} {Lf Rt es : List Ent} {ps qs : List Int} (k : HandD N U T S D [] xs.pg n h Lf Rt es ps qs) (room : U.length + S.fresh.length + 2 < N) (hg : S.gen = S0.gen) (hr : Same U S0 D0 S D) (w0 : World) (F0 : Nat → Prop) :
  G Tryz.prog 158 w0 F0 (nav [1, 1, 1, 1, 1, 1, 1, 1, 1] (bdy Tryz.f75)) (Post Tryz.prog Tryz.f75 w0 F0 (DelQ N U T S0 D0 sb db))
   [(15, .pointer (some ⟨b15, 0, none⟩)), (13, .pointer (some ⟨b13, 0, none⟩)), (11, .pointer (some ⟨b, 0, none⟩)), (0, .pointer (some ⟨sb, 0, none⟩))] [] [cl b13 177 xs.c, cl b15 175 (ndA n rn).toList, Nds n rn, Wk b sb rd 0, Store sb db S, Disk db D] := by
 have hN := k.fine.n
 obtain ⟨xpg, xd, xr, xi⟩ := xs
 dsimp only at k
 obtain ⟨rfl, rfl, rfl⟩ := k.way
 have hall := k.all
 simp only [List.nil_append, List.append_nil] at hall
 have hpp := k.pages
 rw [List.append_nil] at hpp
 have hp := k.nt.plain
 have hfk := (hp.fits (by have := k.size; omega)).k
 have hpg : 2 ≤ xpg ∧ xpg < N := by
  have hm : xpg ∈ S.after U := hpp.mem_iff.1 (by simp)
  rcases (Sh.mem_after.1 hm).1 with q | q
  ·exact k.fine.h.b _ q
  ·have := k.fine.f.2 _ q; omega
 obtain ⟨c, hc⟩ : ∃ c, c = nav [1, 1, 1, 1, 1, 1, 1, 1, 1] (bdy Tryz.f75) := ⟨_, rfl⟩
 rw [← hc]
 dsimp only [nav, bdy, Tryz.f75, Option.getD] at hc
 subst hc
 dsimp only [Sp.c]
 by_cases hne : n.keys = []
 ·obtain ⟨S', g1, g2, g3, g4, g5, g6⟩ := give_ok k.fine hpp
  have hG := sGive_does sb db S xpg (by omega)
  rw [g1] at hG
  dsimp only at hG
  have hF := wFail0_does b sb rd
  have hkl0 : n.keys.length = 0 := by rw [hne]; rfl
  cases hl : n.leaf
  ·have hkl := kidsLen hp hl
   have hgk := iGet (l := n.kids) (k := 0) (by omega)
   obtain ⟨p1, c1, p2, c2, p3, c3⟩ := rn
   refine g_open (A := Nds n ⟨p1, c1, p2, c2, p3, c3⟩) (h:=?_); (rintro _ _; dsimp only [NdsK, List.cons_append, List.nil_append])
   refine g_ptr (m := n.kids.length) (h:=?_); rintro g rfl hc
   have hit : IsTree N S' D U (n.kids.getD 0 0) T := by
    have hnt := k.nt
    cases h with
    | zero => have := hnt.1; rw [hl] at this; cases this
    | succ h =>
     obtain ⟨_, _, ss, f, e1, e2, sp⟩ := hnt
     rw [hne] at sp
     cases ss with
     | nil => exact sp.elim
     | cons s0 ss =>
      cases ss with
      | cons _ _ => exact sp.elim
      | nil =>
       cases hks : n.kids with
       | nil => rw [hks] at f; exact f.elim
       | cons k0 kk =>
        rw [hks] at f
        have h1 := f.1
        refine .inr ⟨h, s0.ps, ?_, ?_⟩
        ·rw [← hall, e1]
         have : Sub.all [s0] = s0.es := by simp [Sub.all]
         rw [this]
         exact h1
        ·rw [e2] at g3
         simpa [Sub.pages] using g3
   (repeat' (first|refine g_seq (h:=?_)|refine g_region (h:=?_)|refine l_nil (h:=?_)|refine n_then (h:=?_)|refine l_pures1 (h:=?_)|(refine l_atc ?_; refine l_call (hG) ?_)|(refine l_atc ?_; refine l_call (hF) ?_)|refine l_guard_yes (h:=?_)|refine l_load (h:=?_)|refine l_indexAddr (h:=?_)|refine g_skip (h:=?_)|refine g_ret (h:=?_)|refine g_cond_t (h:=?_)|refine g_cond_f (h:=?_)|refine l_load_vec (h:=?_)|(refine g_spF (h:=?_); intro h)))
   refine r_retk [Store sb db S', Disk db D] ?_
   exact ⟨_, S', D, rfl, rfl, hit, g2, g5.trans hg, g6.trans hr⟩
  ·have hit : IsTree N S' D U 0 T := by
    have hnt := k.nt
    have h0 := hnt.leaf.1 hl
    subst h0
    obtain ⟨_, _, e1, e2⟩ := hnt
    refine .inl ⟨rfl, ?_, ?_⟩
    ·rw [← hall, e1, Nd.ents, hne]; rfl
    ·rw [e2] at g3
     exact List.Perm.nil_eq g3 ▸ rfl
   (repeat' (first|refine g_seq (h:=?_)|refine g_region (h:=?_)|refine l_nil (h:=?_)|refine n_then (h:=?_)|refine l_pures1 (h:=?_)|(refine l_atc ?_; refine l_call (hG) ?_)|(refine l_atc ?_; refine l_call (hF) ?_)|refine l_guard_yes (h:=?_)|refine l_load (h:=?_)|refine g_skip (h:=?_)|refine g_ret (h:=?_)|refine g_cond_f (h:=?_)|(refine g_spF (h:=?_); intro h)))
   refine r_retk [Store sb db S', Disk db D] ?_
   exact ⟨0, S', D, rfl, rfl, hit, g2, g5.trans hg, g6.trans hr⟩
 ·have hkl : 0 < n.keys.length := List.length_pos_iff.2 hne
  have hgood : n.good := ⟨hp, fun _ => hkl, k.size⟩
  obtain ⟨m, S', D', c1, c2, c3, c4, c5, c6, c7, c8, c9, c10⟩ := lay_ok k.fine k.pages room hgood
  have K : Hand N U T S D [] xpg n h [] [] es ps [] := ⟨k.fine, k.way, k.nt, k.pages, k.fit, k.all, hne⟩
  (repeat' (first|refine g_seq (h:=?_)|refine g_region (h:=?_)|refine l_nil (h:=?_)|refine n_then (h:=?_)|refine l_pures1 (h:=?_)|(refine l_at 101 ?_; refine l_call (c1 b sb db rd rn) ?_)|refine l_load (h:=?_)|refine g_skip (h:=?_)|refine g_ret (h:=?_)|refine g_cond_f (h:=?_)|(refine g_spT (h:=?_); intro h)))
  refine r_retk [Store sb db S', Disk db D'] ?_
  exact ⟨m, S', D', rfl, rfl, Hand.top K k.size c2 c3 c4 c6, c2, c9.trans hg, c10.trans hr⟩
end Go.Proofs.YtelfjhemnnbbpaaGreat
set_option maxRecDepth 20000
namespace Go.Proofs.YtelfjhemnnbbpaaGreat
open Go.Proofs.YtelfjhemnnbbpaaGreat.SL
abbrev delT (b sb b' b13 b15 b16 : Nat) : List (Nat × Value) := [(17, .bool true), (16, .pointer (some ⟨b16, 0, none⟩)), (15, .pointer (some ⟨b15, 0, none⟩)), (13, .pointer (some ⟨b13, 0, none⟩)), (12, .pointer (some ⟨b', 0, none⟩)), (11, .pointer (some ⟨b, 0, none⟩)), (0, .pointer (some ⟨sb, 0, none⟩))]
set_option maxHeartbeats 4000000 in
theorem del_lay (A : SProp) (b sb db b' b13 b15 b16 : Nat) (rd m : Int) (xs s : Sp) (L : List Sp) (n : Nd) (rn : Rw) (S S' : Sh) (D D' : Dk) (hn : 80 ≤ n.size) (hf : n.fits) (hk : s.i < s.d.kids.length) (hlen : L.length < 100)
  (hL : ∀ r, Does Tryz.prog 101 [.pointer (some ⟨b, 0, none⟩), .int .i64 (s.d.kids.getD s.i 0), ndV n r] [Wk b sb rd 0, Store sb db S, Disk db D, Nds n r] (fun v H => v = .int .i64 m ∧ H = [Wk b sb rd 0, Store sb db S', Disk db D', Nds n r]))
  (w0 : World) (F0 : Nat → Prop) (Q : Exit → Act → World → Prop) (hc : SL.Calm Q)
  (hq : ∀ r, N 158 w0 F0 .normal Q (delT b sb b' b13 b15 b16) [] [cl b16 177 s.c, cl b13 177 s.c, cl b15 175 (ndA { s.d with kids := s.d.kids.set s.i m } r).toList, Stk b' L, Nds { s.d with kids := s.d.kids.set s.i m } r, Wk b sb rd 0, Store sb db S', Disk db D', A]) :
  G Tryz.prog 158 w0 F0 (nav [1, 1, 1, 1, 1, 1, 1, 1, 0, 1, 2, 2, 1, 0, 2] (bdy Tryz.f75)) Q (delT b sb b' b13 b15 b16) [] [cl b16 177 s.c, cl b13 177 xs.c, cl b15 175 (ndA n rn).toList, Stk b' L, Nds s.d s.r, Nds n rn, Wk b sb rd 0, Store sb db S, Disk db D, A] := by
 have hS := ndSize_does n rn hf
 obtain ⟨tpg, td, ⟨p1, c1, p2, c2, p3, c3⟩, ti⟩ := s
 dsimp only at hk hL hq ⊢
 obtain ⟨c, hc⟩ : ∃ c, c = nav [1, 1, 1, 1, 1, 1, 1, 1, 0, 1, 2, 2, 1, 0, 2] (bdy Tryz.f75) := ⟨_, rfl⟩
 rw [← hc]
 dsimp only [nav, bdy, Tryz.f75, Option.getD] at hc
 subst hc
 dsimp only [Sp.c, delT] at hq ⊢
 refine g_open (A := Stk b' L) (h:=?_); (rintro ⟨ps, cs⟩ _; dsimp only [StkK, List.cons_append, List.nil_append])
 refine g_open (A := Nds td ⟨p1, c1, p2, c2, p3, c3⟩) (h:=?_); (rintro _ _; dsimp only [NdsK, List.cons_append, List.nil_append])
 refine g_ptr (m := td.kids.length) (h:=?_); rintro g rfl hcp
 have hgk := iGet (l := td.kids) (k := ti) (by omega)
 (repeat' (first|refine g_seq (h:=?_)|refine g_region (h:=?_)|refine l_nil (h:=?_)|refine n_then (h:=?_)|refine l_pures1 (h:=?_)|(refine l_atc ?_; refine l_call (hS) ?_)|refine l_guard_no (h:=?_)|refine l_load (h:=?_)|refine g_cond_t (h:=?_)|(refine l_spT (h:=?_); intro h)))
 all_goals
  (refine g_draw [cl b16 177 _, vec 3 1 (some ⟨g, 0, none⟩) td.kids.length c3 (td.kids.map encZ'), cl b15 175 _] (h := a_pass2 (h:=?_)))
 all_goals
  (repeat' (first|refine g_seq (h:=?_)|refine g_region (h:=?_)|refine l_nil (h:=?_)|refine n_then (h:=?_)|refine l_pures1 (h:=?_)|(refine l_at 101 ?_; refine l_call (hL rn) ?_)|refine l_load (h:=?_)|refine l_store (h:=?_)|refine l_indexAddr (h:=?_)|refine g_skip (h:=?_)|refine a_done (h:=?_)|refine a_load (h := a_pass2 (h:=?_))|refine a_one (h:=?_)|refine n_any (h := a_pass2 (h:=?_))|refine g_cond_f (h:=?_)|refine l_load_vec (h:=?_)|refine l_store_vec (h:=?_)))
 rw [set_encZ]
 (refine n_shut (A := Nds { td with kids := td.kids.set ti m } ⟨p1, c1, p2, c2, some ⟨g, 0, none⟩, c3⟩) (K := NdsK { td with kids := td.kids.set ti m } ⟨p1, c1, p2, c2, some ⟨g, 0, none⟩, c3⟩ (())) (hid_shuts (()) trivial) (h:=?_) (p := by dsimp only [NdsK]; (try simp only [List.map_nil, List.length_nil, List.length_set, List.length_append, List.length_cons, List.length_singleton, List.map_append, List.map_cons, Nat.zero_add]); exact parts_of))
 (refine n_shut (A := Stk b' L) (K := StkK b' L ((ps, cs))) (hid_shuts ((ps, cs)) trivial) (h:=?_) (p := by dsimp only [StkK]; (try simp only [List.map_nil, List.length_nil, List.length_set, List.length_append, List.length_cons, List.length_singleton, List.map_append, List.map_cons, Nat.zero_add]); exact parts_of))
 have hq' := hq ⟨p1, c1, p2, c2, some ⟨g, 0, none⟩, c3⟩
 simp only [List.length_set] at hq'
 exact n_bang hq'
set_option maxHeartbeats 4000000 in
theorem del_even (A : SProp) (P : Nd → Sh → Dk → Prop) (b sb db b' b13 b15 b16 : Nat) (rd rd' : Int) (xs s : Sp) (L : List Sp) (n : Nd) (rn : Rw) (S : Sh) (D : Dk) (hn : n.size < 80) (hf : n.fits) (hk : 1 < s.d.kids.length) (hk2 : s.d.kids.length < 10000) (hlen : L.length < 100)
  (hE : ∀ r rn, Does Tryz.prog 102 [.pointer (some ⟨b, 0, none⟩), .agg #[.int .i64 s.pg, .bool s.d.leaf, .slice r.p1 s.d.keys.length r.c1, .slice r.p2 s.d.vals.length r.c2, .slice r.p3 s.d.kids.length r.c3, .int .i64 s.i], ndV n rn, .int .i64 (L.length + 1 : Nat)] [Nds s.d r, Nds n rn, Wk b sb rd 0, Store sb db S, Disk db D]
   (fun v H => ∃ (n' : Nd) (r' : Rw) (S' : Sh) (D' : Dk), v = ndV n' r' ∧ H = [Nds n' r', Wk b sb rd' 0, Store sb db S', Disk db D'] ∧ P n' S' D'))
  (w0 : World) (F0 : Nat → Prop) (Q : Exit → Act → World → Prop) (hc : SL.Calm Q)
  (hq : ∀ n' r' S' D', P n' S' D' → N 158 w0 F0 .normal Q (delT b sb b' b13 b15 b16) [] [cl b16 177 s.c, cl b13 177 s.c, cl b15 175 (ndA n' r').toList, Stk b' L, Nds n' r', Wk b sb rd' 0, Store sb db S', Disk db D', A]) :
  G Tryz.prog 158 w0 F0 (nav [1, 1, 1, 1, 1, 1, 1, 1, 0, 1, 2, 2, 1, 0, 2] (bdy Tryz.f75)) Q (delT b sb b' b13 b15 b16) [] [cl b16 177 s.c, cl b13 177 xs.c, cl b15 175 (ndA n rn).toList, Stk b' L, Nds s.d s.r, Nds n rn, Wk b sb rd 0, Store sb db S, Disk db D, A] := by
 have hS := ndSize_does n rn hf
 have ed : IntKind.i64.wrap ((L.length : Int) + 1) = ((L.length + 1 : Nat) : Int) := by rw [wrapI64 (by omega)]; rfl
 rw [← ed] at hE
 obtain ⟨tpg, td, ⟨p1, c1, p2, c2, p3, c3⟩, ti⟩ := s
 dsimp only at hk hE hq ⊢
 have hE2 := hE ⟨p1, c1, p2, c2, p3, c3⟩ rn
 dsimp only at hE2
 obtain ⟨c, hc⟩ : ∃ c, c = nav [1, 1, 1, 1, 1, 1, 1, 1, 0, 1, 2, 2, 1, 0, 2] (bdy Tryz.f75) := ⟨_, rfl⟩
 rw [← hc]
 dsimp only [nav, bdy, Tryz.f75, Option.getD] at hc
 subst hc
 dsimp only [Sp.c, delT] at hq ⊢
 refine g_open (A := Stk b' L) (h:=?_); (rintro ⟨ps, cs⟩ _; dsimp only [StkK, List.cons_append, List.nil_append])
 (repeat' (first|refine g_seq (h:=?_)|refine g_region (h:=?_)|refine l_nil (h:=?_)|refine n_then (h:=?_)|refine l_pures1 (h:=?_)|(refine l_atc ?_; refine l_call (hS) ?_)|(refine l_atc ?_; refine l_call_ (hE2) ?_; rintro _ _ _ ⟨n', r', S', D', rfl, rfl, hP⟩ he; cases he)|refine l_guard_yes (h:=?_)|refine l_load (h:=?_)|refine l_store (h:=?_)|refine g_skip (h:=?_)|refine g_cond_f (h:=?_)|(refine l_spF (h:=?_); intro h)|(refine g_spF (h:=?_); intro h)))
 (refine n_shut (A := Stk b' L) (K := StkK b' L ((ps, cs))) (hid_shuts ((ps, cs)) trivial) (h:=?_) (p := by dsimp only [StkK]; (try simp only [List.map_nil, List.length_nil, List.length_set, List.length_append, List.length_cons, List.length_singleton, List.map_append, List.map_cons, Nat.zero_add]); exact parts_of))
 exact n_bang (hq n' r' S' D' hP)
end Go.Proofs.YtelfjhemnnbbpaaGreat
set_option maxRecDepth 20000
namespace Go.Proofs.YtelfjhemnnbbpaaGreat
open Go.Proofs.YtelfjhemnnbbpaaGreat.SL
structure DelSt where
 L : List Sp
 ab : Option Sp
 b16 : Nat
 xs : Sp
 n : Nd
 rn : Rw
 S : Sh
 D : Dk
 rd : Int
def abL (ab : Option Sp) : List Sp := match ab with
 | some s => [s]
 | none => []
def abC (ab : Option Sp) : List Value := match ab with
 | some s => s.c
 | none => [.int .i64 0, .bool false, .slice none 0 0, .slice none 0 0, .slice none 0 0, .int .i64 0]
def abN (ab : Option Sp) : Nat := match ab with
 | some _ => 1
 | none => 0
def DelI (N : Nat) (U : List Int) (T : List Ent) (S0 : Sh) (D0 : Dk) (y : DelSt) : Prop :=
 ∃ h Lf Rt es ps qs, HandD N U T y.S y.D ((abL y.ab).map Sp.spot ++ (y.L.map Sp.spot).reverse) y.xs.pg y.n h Lf Rt es ps qs ∧ (y.ab = none → y.L = []) ∧ U.length + y.S.fresh.length + 2 * (y.L.length + abN y.ab) + 5 < N ∧ y.L.length ≤ 8 ∧ 0 ≤ y.rd ∧ y.rd + y.L.length + abN y.ab < 640 ∧ y.S.gen = S0.gen ∧ Same U S0 D0 y.S y.D
theorem inv_tail {w0 w : World} {F0 : Nat → Prop} {A : SProp} {H : List SProp} (i : Inv w0 F0 (A :: H) w) : Inv w0 F0 H w :=
 i.imp fun s => by
  obtain ⟨F1, F2, _, s', _, un⟩ := s
  exact ⟨F2, s', fun b hb => (un b).2 (.inr hb)⟩
theorem ndl_one {w0 w : World} {F0 : Nat → Prop} {H : List SProp} {s : Sp} (i : Inv w0 F0 (NdL [s] :: H) w) : Inv w0 F0 (Nds s.d s.r :: H) w := inv_tail (ndl_last (L := []) i)
theorem ndl_sing {w0 w : World} {F0 : Nat → Prop} {H : List SProp} {s : Sp} (i : Inv w0 F0 (Nds s.d s.r :: H) w) : Inv w0 F0 (NdL [s] :: H) w := ndl_snoc (L := []) (ndl_nil i)
theorem abL_len (ab : Option Sp) : (abL ab).length = abN ab := by cases ab <;> rfl
theorem DelI.next {N : Nat} {U : List Int} {T : List Ent} {S0 S' : Sh} {D0 D' : Dk} {L' : List Sp} {ab : Option Sp} {b17 : Nat} {s : Sp} {n' : Nd} {r : Rw} {rd : Int} {h : Nat} {Lf Rt es : List Ent} {ps qs : List Int}
  (k : HandD N U T S' D' ((L' ++ abL ab).map Sp.spot).reverse s.pg n' h Lf Rt es ps qs) (hab : ab = none → L' = []) (room : U.length + S'.fresh.length + 2 * (L' ++ abL ab).length + 5 < N) (hL : (L' ++ abL ab).length ≤ 8) (h1 : 0 ≤ rd) (h2 : rd + ((L' ++ abL ab).length : Nat) < 640) (hg : S'.gen = S0.gen) (hr : Same U S0 D0 S' D') :
  DelI N U T S0 D0 ⟨L', ab, b17, s, n', r, S', D', rd⟩ := by
 have hl := abL_len ab
 rw [List.length_append, hl] at room hL h2
 refine ⟨h, Lf, Rt, es, ps, qs, ?_, hab, room, by show L'.length ≤ 8; omega, h1, by show rd + (L'.length : Int) + (abN ab : Int) < 640; omega, hg, hr⟩
 have e : ((L' ++ abL ab).map Sp.spot).reverse = (abL ab).map Sp.spot ++ (L'.map Sp.spot).reverse := by
  rw [List.map_append, List.reverse_append]
  cases ab <;> rfl
 rw [e] at k
 exact k
set_option maxHeartbeats 4000000 in
theorem del_next (A B C : SProp) (b sb b' b13 b15 b16 : Nat) (s : Sp) (L : List Sp) (n' : Nd) (r' : Rw) (hlen : L.length < 100) (w0 : World) (F0 : Nat → Prop) (Q : Exit → Act → World → Prop) (hc : SL.Calm Q)
  (hq : ∀ b16' ab L', L = L' ++ abL ab → (ab = none → L' = []) → N 158 w0 F0 .normal Q [(17, .bool ab.isSome), (16, .pointer (some ⟨b16', 0, none⟩)), (15, .pointer (some ⟨b15, 0, none⟩)), (13, .pointer (some ⟨b13, 0, none⟩)), (12, .pointer (some ⟨b', 0, none⟩)), (11, .pointer (some ⟨b, 0, none⟩)), (0, .pointer (some ⟨sb, 0, none⟩))] []
   [cl b16' 177 (abC ab), cl b13 177 s.c, cl b15 175 (ndA n' r').toList, Stk b' L', NdL L', NdL (abL ab), Nds n' r', A, B, C]) :
  G Tryz.prog 158 w0 F0 (nav [1, 1, 1, 1, 1, 1, 1, 1, 0, 1, 2, 2, 1, 1] (bdy Tryz.f75)) Q (delT b sb b' b13 b15 b16) [] [cl b16 177 s.c, cl b13 177 s.c, cl b15 175 (ndA n' r').toList, Stk b' L, NdL L, Nds n' r', A, B, C] := by
 obtain ⟨c, hc⟩ : ∃ c, c = nav [1, 1, 1, 1, 1, 1, 1, 1, 0, 1, 2, 2, 1, 1] (bdy Tryz.f75) := ⟨_, rfl⟩
 rw [← hc]
 dsimp only [nav, bdy, Tryz.f75, Option.getD] at hc
 subst hc
 rcases List.eq_nil_or_concat L with rfl | ⟨L', s2, rfl⟩
 ·have hp := popNone_does b'
  dsimp only [Sp.c, delT]
  (repeat (first|refine g_seq (h:=?_)|refine g_region (h:=?_)|refine l_nil (h:=?_)|refine n_then (h:=?_)|refine l_pures1 (h:=?_)|(refine l_atc ?_; refine l_call (hp) ?_)|refine l_load (h:=?_)|refine l_store (h:=?_)|(refine l_alloc (h:=?_); intro _)))
  rename_i b17
  refine n_inv (fun i => ndl_nil i) ?_
  have hq' := hq b17 none [] rfl (fun _ => rfl)
  dsimp only [abC, abL, Option.isSome, Sp.c, ndA] at hq' ⊢
  exact n_bang hq'
 ·rw [List.concat_eq_append] at *
  have hp := pop_does b' L' s2 (by simp at hlen; omega)
  refine g_inv (fun i => ndl_last (i.take (A := NdL (L' ++ [s2])) (by with_reducible (repeat (first | refine Take.here | apply Take.there))))) ?_
  dsimp only [Sp.c, delT]
  (repeat (first|refine g_seq (h:=?_)|refine g_region (h:=?_)|refine l_nil (h:=?_)|refine n_then (h:=?_)|refine l_pures1 (h:=?_)|(refine l_atc ?_; refine l_call (hp) ?_)|refine l_load (h:=?_)|refine l_store (h:=?_)|(refine l_alloc (h:=?_); intro _)))
  rename_i b17
  refine n_inv (fun i => ndl_sing (s := s2) (i.take (A := Nds s2.d s2.r) (by with_reducible (repeat (first | refine Take.here | apply Take.there))))) ?_
  have hq' := hq b17 (some s2) L' rfl (fun e => by cases e)
  dsimp only [abC, abL, Option.isSome, Sp.c, ndA] at hq' ⊢
  exact n_bang hq'
set_option maxHeartbeats 8000000 in
theorem del_loop (b sb db b' b13 b15 N : Nat) (U : List Int) (T : List Ent) (S0 : Sh) (D0 : Dk) (y0 : DelSt) (h0 : DelI N U T S0 D0 y0) (w0 : World) (F0 : Nat → Prop) :
  G Tryz.prog 158 w0 F0 (nav [1, 1, 1, 1, 1, 1, 1, 1, 0, 1] (bdy Tryz.f75)) (Exit.then ((nav [1, 1, 1, 1, 1, 1, 1, 1, 1] (bdy Tryz.f75)).wp Tryz.prog (Post Tryz.prog Tryz.f75 w0 F0 (DelQ N U T S0 D0 sb db))) (Post Tryz.prog Tryz.f75 w0 F0 (DelQ N U T S0 D0 sb db)))
   [(17, .bool y0.ab.isSome), (16, .pointer (some ⟨y0.b16, 0, none⟩)), (15, .pointer (some ⟨b15, 0, none⟩)), (13, .pointer (some ⟨b13, 0, none⟩)), (12, .pointer (some ⟨b', 0, none⟩)), (11, .pointer (some ⟨b, 0, none⟩)), (0, .pointer (some ⟨sb, 0, none⟩))] []
   [cl y0.b16 177 (abC y0.ab), cl b13 177 y0.xs.c, cl b15 175 (ndA y0.n y0.rn).toList, Stk b' y0.L, NdL y0.L, NdL (abL y0.ab), Nds y0.n y0.rn, Wk b sb y0.rd 0, Store sb db y0.S, Disk db y0.D] := by
 obtain ⟨tl, htl⟩ : ∃ c, c = nav [1, 1, 1, 1, 1, 1, 1, 1, 1] (bdy Tryz.f75) := ⟨_, rfl⟩
 rw [← htl]
 obtain ⟨c, hc⟩ : ∃ c, c = nav [1, 1, 1, 1, 1, 1, 1, 1, 0, 1] (bdy Tryz.f75) := ⟨_, rfl⟩
 rw [← hc]
 dsimp only [nav, bdy, Tryz.f75, Option.getD] at hc
 subst hc
 refine g_block ?_
 (refine g_loop (fun y : DelSt => [(17, .bool y.ab.isSome), (16, .pointer (some ⟨y.b16, 0, none⟩)), (15, .pointer (some ⟨b15, 0, none⟩)), (13, .pointer (some ⟨b13, 0, none⟩)), (12, .pointer (some ⟨b', 0, none⟩)), (11, .pointer (some ⟨b, 0, none⟩)), (0, .pointer (some ⟨sb, 0, none⟩))]) (fun y => [cl y.b16 177 (abC y.ab), cl b13 177 y.xs.c, cl b15 175 (ndA y.n y.rn).toList, Stk b' y.L, NdL y.L, NdL (abL y.ab), Nds y.n y.rn, Wk b sb y.rd 0, Store sb db y.S, Disk db y.D]) (fun y => DelI N U T S0 D0 y) (fun y => y.L.length + abN y.ab) (y0) ?_ ?_ ?_ ?_; rotate_left; (repeat (first | refine ts_nil | (refine ts_cons rfl ?_ ?_; first | (with_reducible rfl) | rotate_left))); (first | (intro _ i; with_reducible refine i) | rotate_left); rotate_left; (try omega); rotate_right)
 ·rintro ⟨L, ab, b16, xs, n, rn, S, D, rd⟩ ⟨h, Lf, Rt, es, ps, qs, k, hab, room, hL8, hrd0, hrd, hgen, hroot⟩
  dsimp only at k hab room hL8 hrd0 hrd hgen hroot ⊢
  cases ab with
  | none =>
   obtain rfl := hab rfl
   dsimp only [Option.isSome]
   have ht := del_tail b sb db b13 b15 N U T S0 S D0 D xs n rn rd (k : HandD N U T S D [] xs.pg n h Lf Rt es ps qs) (by simp only [List.length_nil, abN] at room; omega) hgen hroot w0 F0
   rw [← htl] at ht
   (repeat (first|refine g_seq (h:=?_)|refine g_region (h:=?_)|refine l_nil (h:=?_)|refine n_then (h:=?_)|refine l_pures1 (h:=?_)|refine g_exit (h:=?_)|refine n_then_exit (h:=?_)|refine n_block_hit (h:=?_)|refine g_cond_f (h:=?_)))
   exact g_bang ht
  | some s =>
   dsimp only [Option.isSome, abL, abN, abC] at *
   have k : HandD N U T S D (s.spot :: (L.map Sp.spot).reverse) xs.pg n h Lf Rt es ps qs := k
   obtain ⟨_, _, _, _, _, _, v0, v1, _⟩ := k.way
   have v2 : s.d.leaf = false := v1.leaf
   have v3 : s.i ≤ s.d.keys.length := v1.ile
   have v4 : s.d.good := v1.good
   have v5 : s.d.kids.length = s.d.keys.length + 1 := kidsLen v4.p v2
   have v6 := v4.fits.i
   have v7 : 0 < s.d.keys.length := List.length_pos_iff.2 v1.ne
   have v8 := v4.size
   have hnf : n.fits := k.nt.plain.fits (by have := k.size; omega)
   have hv9 : s.d.kids.length < 10000 := by
    simp only [Nd.size, v2, Bool.false_eq_true, if_false] at v8
    omega
   refine g_inv (fun i => ndl_one (i.take (A := NdL [s]) (by with_reducible (repeat (first | refine Take.here | apply Take.there))))) ?_
   by_cases hz : 80 ≤ n.size
   ·obtain ⟨m, S', D', Lf', Rt', es', ps', qs', c1, c2, c3, c4, c5⟩ := k.lay hz (by omega)
    have hlink : s.d.kids.getD s.i 0 = xs.pg := k.link.1
    (repeat (first|((with_reducible show G _ _ _ _ (Code.seq (Code.region 15 _ _) _) _ _ _ _); refine g_bang (del_lay (NdL L) b sb db b' b13 b15 b16 rd m xs s L n rn S S' D D' hz hnf (by omega) (by omega) (by rw [hlink]; exact c1 b sb db rd) w0 F0 _ (by with_reducible (repeat (first|refine calm_post|apply calm_then|apply calm_block))) ?_))|refine g_seq (h:=?_)|refine g_region (h:=?_)|refine l_nil (h:=?_)|refine n_then (h:=?_)|refine l_pures1 (h:=?_)|refine g_skip (h:=?_)|refine g_block (h:=?_)|refine g_cond_t (h:=?_)))
    intro r
    (repeat (first|((with_reducible show G _ _ _ _ (Code.seq (Code.seq (Code.region 24 _ _) _) _) _ _ _ _); refine g_bang (del_next (Wk b sb rd 0) (Store sb db S') (Disk db D') b sb b' b13 b15 b16 s L { s.d with kids := s.d.kids.set s.i m } r (by omega) w0 F0 _ (by with_reducible (repeat (first|refine calm_post|apply calm_then|apply calm_block))) ?_))|refine n_then (h:=?_)|refine n_block (h:=?_)))
    intro b17 ab L' hL hab'
    subst hL
    (refine n_back ((⟨L', ab, b17, s, { s.d with kids := s.d.kids.set s.i m }, r, S', D', rd⟩ : DelSt)) ?_ ?_ ?_ ?_; rotate_left; rotate_left; (repeat (first | refine ts_nil | (refine ts_cons rfl ?_ ?_; first | (with_reducible rfl) | rotate_left))); (first | (intro _ i; with_reducible refine i) | rotate_left); (try omega); (try omega))
    ·simp only [List.length_append, abL_len] at room hrd hL8
     exact DelI.next c2 hab' (by rw [List.length_append, abL_len]; omega) (by rw [List.length_append, abL_len]; omega) hrd0 (by rw [List.length_append, abL_len]; omega) (c4.trans hgen) (c5.trans hroot)
    ·show L'.length + abN ab < (L' ++ abL ab).length + 1
     rw [List.length_append, abL_len]; omega
    ·cases ab <;> rfl
    ·cases ab <;> dsimp only [abC, abL, ndA]
     all_goals
      (intro _ i; exact inv_keep parts_of i)
   ·have hz : n.size < 80 := by omega
    have hE := fun r rn => k.even hz (by omega) b sb db (L.length + 1) r rn rd ⟨hrd0, by omega⟩ (by omega)
    (repeat (first|((with_reducible show G _ _ _ _ (Code.seq (Code.region 15 _ _) _) _ _ _ _); refine g_bang (del_even (NdL L) (fun n' S' D' => (∃ Lf' Rt' es' ps' qs', HandD N U T S' D' (L.map Sp.spot).reverse s.pg n' (h + 1) Lf' Rt' es' ps' qs') ∧ S'.fresh.length ≤ S.fresh.length + 2 ∧ S'.gen = S.gen ∧ Same U S D S' D') b sb db b' b13 b15 b16 rd (rd + 1) xs s L n rn S D hz hnf (by omega) (by omega) (by omega) hE w0 F0 _ (by with_reducible (repeat (first|refine calm_post|apply calm_then|apply calm_block))) ?_))|refine g_seq (h:=?_)|refine g_region (h:=?_)|refine l_nil (h:=?_)|refine n_then (h:=?_)|refine l_pures1 (h:=?_)|refine g_skip (h:=?_)|refine g_block (h:=?_)|refine g_cond_t (h:=?_)))
    rintro n' r S' D' ⟨⟨Lf', Rt', es', ps', qs', c2⟩, c3, c4, c5⟩
    (repeat (first|((with_reducible show G _ _ _ _ (Code.seq (Code.seq (Code.region 24 _ _) _) _) _ _ _ _); refine g_bang (del_next (Wk b sb (rd + 1) 0) (Store sb db S') (Disk db D') b sb b' b13 b15 b16 s L n' r (by omega) w0 F0 _ (by with_reducible (repeat (first|refine calm_post|apply calm_then|apply calm_block))) ?_))|refine n_then (h:=?_)|refine n_block (h:=?_)))
    intro b17 ab L' hL hab'
    subst hL
    (refine n_back ((⟨L', ab, b17, s, n', r, S', D', rd + 1⟩ : DelSt)) ?_ ?_ ?_ ?_; rotate_left; rotate_left; (repeat (first | refine ts_nil | (refine ts_cons rfl ?_ ?_; first | (with_reducible rfl) | rotate_left))); (first | (intro _ i; with_reducible refine i) | rotate_left); (try omega); (try omega))
    ·simp only [List.length_append, abL_len] at room hrd hL8
     exact DelI.next c2 hab' (by rw [List.length_append, abL_len]; omega) (by rw [List.length_append, abL_len]; omega) (by omega) (by rw [List.length_append, abL_len]; omega) (c4.trans hgen) (c5.trans hroot)
    ·show L'.length + abN ab < (L' ++ abL ab).length + 1
     rw [List.length_append, abL_len]; omega
    ·cases ab <;> rfl
    ·cases ab <;> dsimp only [abC, abL, ndA]
     all_goals
      (intro _ i; exact inv_keep parts_of i)
end Go.Proofs.YtelfjhemnnbbpaaGreat
set_option maxRecDepth 20000
namespace Go.Proofs.YtelfjhemnnbbpaaGreat
open Go.Proofs.YtelfjhemnnbbpaaGreat.SL
theorem goes_link {S : Sh} {D : Dk} {x : Nat} {s : Spot} : ∀ {top : List Spot} {pg : Int} {up : List Spot}, Goes S D x pg (top ++ [s]) → LinkTo up pg → LinkTo (top.reverse ++ up) s.pg
 | [], pg, up, g, l => by
  have h : s.pg = pg := g.1
  rw [h]; exact l
 | t :: top, pg, up, g, l => by
  obtain ⟨h1, _, _, h | h⟩ := g
  ·simp at h
  ·rw [List.reverse_cons, List.append_assoc]
   exact goes_link (up := t :: up) h.2.2 ⟨rfl, by rw [h1]; exact l⟩
set_option maxHeartbeats 8000000 in
theorem del1_does (sb db x N : Nat) (v : List UInt8) (root : Int) (U : List Int) (T0 T : List Ent) (S : Sh) (D : Dk) (k : Fine N S D U) (ht : IsTree N S D U root T0) (hv : getE T0 x = some v) (l0 : List Spot) (s : Spot) (hg : Goes S D x root (l0 ++ [s])) (hl : l0.length ≤ 8)
  (hsi : s.i < s.d.keys.length)
  (hI : ∀ b16 L' ab (t : Sp) r, (L' ++ abL ab).map Sp.spot = l0 → (ab = none → L' = []) → t.spot = s → DelI N U T S D ⟨L', ab, b16, t, s.d.without s.i, r, S, D, 0 + ((l0.length + 1 : Nat) : Int)⟩) :
  Does Tryz.prog 75 [.pointer (some ⟨sb, 0, none⟩), .int .i64 root, .int .u64 x] [Store sb db S, Disk db D] (DelQ N U T S D sb db) := by
 obtain ⟨hd, hlf, hi⟩ := hg.last
 have hw := fun b => way_does b sb db x root 0 S D (l0 ++ [s]) hg (by simp; omega) (by simp; omega)
 have hG := get_tree sb db x N root U T0 S D k ht
 rw [hv] at hG
 refine does_of Tryz.func75 Tryz.ntmps75 rfl rfl rfl (fun w0 F0 => ?_)
 (repeat' (first|refine g_seq (h:=?_)|refine g_region (h:=?_)|refine l_nil (h:=?_)|refine n_then (h:=?_)|refine l_pures1 (h:=?_)|(refine l_at 69 ?_; refine l_call (hG) ?_)|(refine l_box (h:=?_); intro _)|refine g_skip (h:=?_)|refine g_block (h:=?_)|refine n_block (h:=?_)|refine g_cond_f (h:=?_)))
 rename_i b
 refine l_inv (H' := [Wk b sb 0 0, Store sb db S, Disk db D]) (fun i => i) ?_
 (repeat' (first|refine g_seq (h:=?_)|refine g_region (h:=?_)|refine l_nil (h:=?_)|refine n_then (h:=?_)|refine l_pures1 (h:=?_)|(refine l_atc ?_; refine l_call_ (hw b) ?_; rintro _ _ _ ⟨b', L, hL, rfl, rfl⟩ he; cases he)|refine l_load (h:=?_)|refine g_skip (h:=?_)|refine g_cond_f (h:=?_)))
 obtain ⟨L0, t, rfl⟩ : ∃ L0 t, L = L0 ++ [t] := by
  rcases List.eq_nil_or_concat L with rfl | ⟨l, s, rfl⟩
  ·simp at hL
  ·exact ⟨l, s, by simp⟩
 have hL2 : L0.map Sp.spot = l0 ∧ t.spot = s := by
  have := congrArg List.reverse hL
  simp at this
  exact ⟨this.2, this.1⟩
 obtain ⟨hL1, hts⟩ := hL2
 subst hts
 have hlen : L0.length = l0.length := by rw [← hL1]; simp
 have hpop := pop_does b' L0 t (by omega)
 refine l_inv (fun q => ndl_last (q.take (A := NdL (L0 ++ [t])) (by with_reducible (repeat (first | refine Take.here | apply Take.there))))) ?_
 dsimp only [Sp.spot] at hlf hsi
 have hki : t.d.kids = [] := List.length_eq_zero_iff.1 (by have := hd.p.kids; rw [show (Sp.spot t).d.leaf = true from hlf] at this; simpa using this)
 have hP := nWithout_does t.d t.r t.i hlf hd.fits hsi hki
 have hlp := fun b13 b15 b16 L' ab rp h1 h2 => del_loop b sb db b' b13 b15 N U T S D ⟨L', ab, b16, t, t.d.without t.i, rp, S, D, 0 + ((l0 ++ [t.spot]).length : Int)⟩ (by rw [List.length_append, List.length_singleton]; exact hI b16 L' ab t rp h1 h2 rfl) w0 F0
 dsimp only [Sp.c] at hlp
 rcases List.eq_nil_or_concat L0 with rfl | ⟨L', s2, rfl⟩
 ·have hp2 := popNone_does b'
  have h2 := fun b13 b15 b16 rp => hlp b13 b15 b16 [] none rp (by simpa [abL] using hL1) (fun _ => rfl)
  dsimp only [Option.isSome, abC, abL] at h2
  refine l_inv (fun i => ndl_nil i) ?_
  (repeat (first|((with_reducible show G _ _ _ _ (Code.block 1 _) _ _ _ _); exact g_bang (h2 _ _ _ _))|refine g_seq (h:=?_)|refine g_region (h:=?_)|refine l_nil (h:=?_)|refine n_then (h:=?_)|refine l_pures1 (h:=?_)|(refine l_atc ?_; refine l_call (hpop) ?_)|(refine l_atc ?_; refine l_call_ (hP) ?_; rintro _ _ _ ⟨rp, rfl, rfl⟩ he; cases he)|(refine l_atc ?_; refine l_call (hp2) ?_)|refine l_load (h:=?_)|refine l_store (h:=?_)|(refine l_alloc (h:=?_); intro _)))
 ·rw [List.concat_eq_append] at *
  have hp2 := pop_does b' L' s2 (by simp at hlen; omega)
  have h2 := fun b13 b15 b16 rp => hlp b13 b15 b16 L' (some s2) rp (by simpa [abL] using hL1) (fun e => by cases e)
  dsimp only [Option.isSome, abC, abL, Sp.c] at h2
  refine l_inv (fun q => ndl_last (q.take (A := NdL (L' ++ [s2])) (by with_reducible (repeat (first | refine Take.here | apply Take.there))))) ?_
  refine l_inv (fun i => ndl_sing (s := s2) (i.take (A := Nds s2.d s2.r) (by with_reducible (repeat (first | refine Take.here | apply Take.there))))) ?_
  (repeat (first|((with_reducible show G _ _ _ _ (Code.block 1 _) _ _ _ _); exact g_bang (h2 _ _ _ _))|refine g_seq (h:=?_)|refine g_region (h:=?_)|refine l_nil (h:=?_)|refine n_then (h:=?_)|refine l_pures1 (h:=?_)|(refine l_atc ?_; refine l_call (hpop) ?_)|(refine l_atc ?_; refine l_call_ (hP) ?_; rintro _ _ _ ⟨rp, rfl, rfl⟩ he; cases he)|(refine l_atc ?_; refine l_call (hp2) ?_)|refine l_load (h:=?_)|refine l_store (h:=?_)|(refine l_alloc (h:=?_); intro _)))
theorem del_tree (sb db x N : Nat) (v : List UInt8) (root : Int) (U : List Int) (T : List Ent) (S : Sh) (D : Dk) (k : Fine N S D U) (ht : IsTree N S D U root T) (hv : getE T x = some v) (room : U.length + S.fresh.length + 25 < N) :
  Does Tryz.prog 75 [.pointer (some ⟨sb, 0, none⟩), .int .i64 root, .int .u64 x] [Store sb db S, Disk db D] (DelQ N U (delE T x) S D sb db) := by
 have hN := k.n
 have ht0 := ht
 rcases ht with ⟨rfl, rfl, h0⟩ | ⟨h, ps, o, hp⟩
 ·simp [getE] at hv
 ·obtain ⟨top, s, L, R, qs, r1, r2, r8, r3, r4, r5, r6, r7, f1, f2, r10, r11, hroot, he⟩ := tree_way k o hp x
  have hx : x ∈ s.d.keys := by
   apply Decidable.byContradiction
   intro c
   rw [if_neg c, hv] at he
   cases he
  have hlt : s.i < s.d.keys.length := by
   have hg := posN_gone r4.p.rise x
   rw [if_pos hx] at hg
   rw [r6]; omega
  obtain ⟨lt1, lt2⟩ := r3.lt f1
  obtain ⟨n1, n2⟩ := without_nt (g := Gd N D) (d := s.d) (es := s.d.ents) (ps := []) ⟨r5, r4.p, rfl, rfl⟩ hx
  have hlink := goes_link (up := []) r1 trivial
  rw [List.append_nil] at hlink
  refine del1_does sb db x N v root U T (delE T x) S D k ht0 hv top s r1 (by omega) hlt fun b16 L' ab t r e1 e2 e3 => DelI.next (h := 0) (Lf := L) (Rt := R) (es := delE s.d.ents x) (ps := []) (qs := qs) ⟨k, ?_, ?_, ?_, ?_, ?_, ?_, ?_⟩ e2 ?_ ?_ (by omega) ?_ rfl (.refl _ _ _)
  all_goals
   have e5 : (L' ++ abL ab).length = top.length := by rw [← e1, List.length_map]
   have e4 : t.pg = s.pg := congrArg Spot.pg e3
  ·rw [e1]; exact r3
  ·rw [r6]; exact n1
  ·rw [e4]; exact r11
  ·intro e h1
   rw [e1]
   exact f2 e (List.mem_filter.1 h1).1
  ·rw [← r10, delE_mid lt1 lt2]
  ·have := r4.size
   rw [r6]; omega
  ·rw [e1, e4]; exact hlink
  ·rw [e5]; omega
  ·rw [e5]; omega
  ·rw [e5]; omega
end Go.Proofs.YtelfjhemnnbbpaaGreat
set_option maxRecDepth 20000
namespace Go.Proofs.YtelfjhemnnbbpaaGreat
open Go.Proofs.YtelfjhemnnbbpaaGreat.SL
theorem after_clean {S : Sh} {U : List Int} (h1 : S.fresh = []) (h2 : S.given = []) : S.after U = U := by simp [Sh.after, h1, h2]
theorem after_roll {S : Sh} {U : List Int} : S.roll.after U = U := after_clean rfl rfl
theorem IsTree.move {N : Nat} {S S' : Sh} {D D' : Dk} {U U' : List Int} {root : Int} {T : List Ent} (h : IsTree N S D U root T) (he : S'.after U' = S.after U) (hk : ∀ p ∈ S.after U, D'.pg p = D.pg p) : IsTree N S' D' U' root T := by
 rcases h with ⟨a, b, c⟩ | ⟨h, ps, o, hp⟩
 ·exact .inl ⟨a, b, by rw [he]; exact c⟩
 ·exact .inr ⟨h, ps, o.same (fun p q d g => g.keep (hk p (hp.mem_iff.1 q))), by rw [he]; exact hp⟩
theorem Tr.back {N : Nat} {S0 S : Sh} {D0 D : Dk} {U : List Int} {root : Int} {T : List Ent} {m : Nat} (k : Tr N S0 D0 U root T m) (he : S0.after U = U) (f : Fine N S D U) (s : Same U S0 D0 S D) : Tr N S.roll D U root T m :=
 ⟨f.roll, k.tree.move (by rw [he, after_roll]) (by rw [he]; exact s.2), k.len⟩
end Go.Proofs.YtelfjhemnnbbpaaGreat
set_option maxRecDepth 20000
namespace Go.Proofs.YtelfjhemnnbbpaaGreat
open Go.Proofs.YtelfjhemnnbbpaaGreat.SL
structure TxP where
 t : Nat
 sb : Nat
 db : Nat
 N : Nat
 U : List Int
 g : Int
 T0 : List Ent
structure StI (P : TxP) (y : Sh × Dk) : Prop where
 fine : Fine P.N y.1 y.2 P.U
 gen : y.1.gen = P.g
 old : IsTree P.N y.1.roll y.2 P.U y.1.root P.T0
def StK (P : TxP) (y : Sh × Dk) : List SProp := [Store P.sb P.db y.1, Disk P.db y.2]
def St (P : TxP) : SProp := hid (StI P) (StK P)
structure TxI (P : TxP) (T : List Ent) (y : Int × Sh × Dk) : Prop where
 st : StI P y.2
 tree : IsTree P.N y.2.1 y.2.2 P.U y.1 T
def TxK (P : TxP) (T : List Ent) (y : Int × Sh × Dk) : List SProp := [cl P.t 97 [.pointer (some ⟨P.sb, 0, none⟩), .int .i64 y.1, .int .i64 0, .bool false], Store P.sb P.db y.2.1, Disk P.db y.2.2]
def Tx (P : TxP) (T : List Ent) : SProp := hid (TxI P T) (TxK P T)
theorem StI.same {P : TxP} {S S' : Sh} {D D' : Dk} (k : StI P (S, D)) (f : Fine P.N S' D' P.U) (hg : S'.gen = S.gen) (s : Same P.U S D S' D') : StI P (S', D') :=
 ⟨f, hg.trans k.gen, by
  have h := k.old
  dsimp only at h ⊢
  rw [s.1]
  exact h.move (by rw [after_roll, after_roll]) (by rw [after_roll]; exact s.2)⟩
theorem TxI.put {P : TxP} {T T' : List Ent} {r r' : Int} {S S' : Sh} {D D' : Dk} (k : TxI P T (r, S, D)) (f : Fine P.N S' D' P.U) (t : IsTree P.N S' D' P.U r' T') (hg : S'.gen = S.gen) (s : Same P.U S D S' D') : TxI P T' (r', S', D') := ⟨k.st.same f hg s, t⟩
theorem StI.pages {P : TxP} {y : Sh × Dk} (k : StI P y) : P.U.length ≤ 2 * P.T0.length := by
 have h := k.old.few
 rw [after_roll] at h
 exact h
def TxP.room (P : TxP) (T : List Ent) : Prop := P.U.length + 2 * T.length + 25 < P.N
theorem TxI.roomy {P : TxP} {T : List Ent} {r : Int} {S : Sh} {D : Dk} (k : TxI P T (r, S, D)) (h : P.room T) : P.U.length + S.fresh.length + 25 < P.N := by
 have h1 := k.tree.few
 have h2 := k.st.fine.fresh_le
 dsimp only at h1 h2
 unfold TxP.room at h
 omega
def optV (o : Option (List UInt8)) : Value := .tuple #[.string (str (o.getD [])), .bool o.isSome]
theorem delE_none {T : List Ent} (o : Ord T) {x : Nat} (h : getE T x = none) : delE T x = T :=
 List.filter_eq_self.2 fun e he => by
  have hne : e.1 ≠ x := by
   intro q
   have := getE_of o (x := e.1) (v := e.2) he
   rw [q, h] at this
   cases this
  simpa using hne
end Go.Proofs.YtelfjhemnnbbpaaGreat
set_option maxRecDepth 20000
namespace Go.Proofs.YtelfjhemnnbbpaaGreat
open Go.Proofs.YtelfjhemnnbbpaaGreat.SL
theorem entC_get0 : ∀ {l : List Ent} {j : Nat}, j < l.length → (entC l)[j * 2]? = some (.int .u64 ((l.getD j (0, [])).1 : Nat))
 | [], j, h => by simp at h
 | e :: l, 0, _ => rfl
 | e :: l, j + 1, h => by
  have ih := entC_get0 (l := l) (j := j) (by simpa using h)
  have : (j + 1) * 2 = j * 2 + 1 + 1 := by omega
  rw [this]
  exact ih
theorem entC_cut : ∀ {l : List Ent} {j : Nat}, j < l.length → ((entC l).drop (j * 2)).take 2 = [.int .u64 ((l.getD j (0, [])).1 : Nat), .string (str (l.getD j (0, [])).2)]
 | [], j, h => by simp at h
 | e :: l, 0, _ => rfl
 | e :: l, j + 1, h => by
  have ih := entC_cut (l := l) (j := j) (by simpa using h)
  have : (j + 1) * 2 = j * 2 + 1 + 1 := by omega
  rw [this]
  exact ih
theorem part_ent {l : List Ent} {j : Nat} (h : j < l.length) : partV env 121 (entC l) (0 + ((j : Nat) : Int).toNat * 2) = some (entV (l.getD j (0, []))) := by
 have e : 0 + ((j : Nat) : Int).toNat * 2 = j * 2 := by rw [Int.toNat_natCast, Nat.zero_add]
 have hc : cutL (entC l) (j * 2) 2 = some [.int .u64 ((l.getD j (0, [])).1 : Nat), .string (str (l.getD j (0, [])).2)] := by
  rw [cutL_of (by rw [entC_len]; omega), entC_cut h]
 rw [e]
 show (match cutL (entC l) (j * 2) 2 with
    | some r => some (Value.agg r.toArray)
    | none => none) = _
 rw [hc]
end Go.Proofs.YtelfjhemnnbbpaaGreat
set_option maxRecDepth 20000
namespace Go.Proofs.YtelfjhemnnbbpaaGreat
open Go.Proofs.YtelfjhemnnbbpaaGreat.SL
def Keyed (T : List Ent) (f : Nat → Nat) (j : Nat) : Prop := ∀ x, (getE T x).isSome = true ↔ ∃ i, i < j ∧ f i = x
theorem Keyed.put {T : List Ent} {f : Nat → Nat} {j : Nat} (h : Keyed T f j) (v : List UInt8) : Keyed (putE T (f j) v) f (j + 1) := by
 intro x
 rw [getE_put]
 constructor
 ·intro q
  by_cases e : x = f j
  ·exact ⟨j, by omega, e.symm⟩
  ·rw [if_neg e] at q
   obtain ⟨i, h1, h2⟩ := (h x).1 q
   exact ⟨i, by omega, h2⟩
 ·rintro ⟨i, h1, rfl⟩
  by_cases e : f i = f j
  ·rw [if_pos e]; rfl
  ·rw [if_neg e]
   have : i ≠ j := fun q => e (by rw [q])
   exact (h _).2 ⟨i, by omega, rfl⟩
end Go.Proofs.YtelfjhemnnbbpaaGreat
set_option maxRecDepth 20000
namespace Go.Proofs.YtelfjhemnnbbpaaGreat
open Go.Proofs.YtelfjhemnnbbpaaGreat.SL
structure Ow where
 name : List UInt8
 limit : Nat
 hav : Nat
def Ow.text (o : Ow) : List UInt8 := putN o.limit 2 ++ (putN o.hav 2 ++ (UInt8.ofNat o.name.length :: o.name))
structure Cp where
 parent : Nat
 object : Nat
 owner : Nat
 rights : Nat
 badge : Nat
 depth : Nat
 expiry : Nat
 cut : Nat
 rev : Bool
 due : Bool
def b2n (b : Bool) : Nat := if b then 1 else 0
def Cp.text (c : Cp) : List UInt8 := putN c.parent 3 ++ (putN c.object 3 ++ (putN c.owner 3 ++ (putN c.rights 2 ++ (putN c.badge 4 ++ (putN c.depth 1 ++ (putN c.expiry 4 ++ (putN c.cut 3 ++ putN (b2n c.rev) 1)))))))
structure Cp.ok (n : Nat) (c : Cp) : Prop where
 id : 1 ≤ n ∧ n ≤ 16777215
 parent : c.parent ≤ 16777215
 other : c.parent ≠ n
 object : 1 ≤ c.object ∧ c.object ≤ 16777215
 owner : 1 ≤ c.owner ∧ c.owner ≤ 16777215
 rights : c.rights < 65536
 badge : c.badge < 4294967296
 depth : 1 ≤ c.depth ∧ c.depth ≤ 8
 expiry : c.expiry ≤ 268435455
 cut : c.cut ≤ 16777215
 root : c.depth = 1 ↔ c.parent = 0
theorem b2n_le (b : Bool) : b2n b ≤ 1 := by cases b <;> decide
theorem Cp.text_len (c : Cp) : c.text.length = 24 := by simp [Cp.text, putN_length]
structure CS where
 ow : List Ow
 cp : List (Option Cp)
def CS.capAt (s : CS) (n : Nat) : Option Cp := if n = 0 then none else (s.cp[n - 1]?).join
def CS.owAt (s : CS) (n : Nat) : Option Ow := if n = 0 then none else s.ow[n - 1]?
def numV (m : Nat) : Option (List UInt8) := if m = 0 then none else some (putN m 3)
def CS.kid (s : CS) (p n : Nat) : Bool := decide (p ≠ 0) && (s.capAt n).any fun c => decide (c.parent = p)
def CS.lease (s : CS) (at' n : Nat) : Bool := decide (at' ≠ 0) && (s.capAt n).any fun c => decide (c.expiry = at') && c.due
def CS.val (s : CS) (k a b : Nat) : Option (List UInt8) :=
 if k = 1 ∧ a = 0 then (s.capAt b).map Cp.text
 else if k = 2 ∧ s.kid a b = true then some []
 else if k = 3 ∧ a = 0 then (s.owAt b).map Ow.text
 else if k = 5 ∧ s.lease a b = true then some []
 else if k = 9 ∧ a = 0 ∧ b = 1 then numV s.cp.length
 else if k = 9 ∧ a = 0 ∧ b = 2 then numV s.ow.length
 else none
theorem capAt_lt {s : CS} {n : Nat} {c : Cp} (h : s.capAt n = some c) : 1 ≤ n ∧ n ≤ s.cp.length := by
 unfold CS.capAt at h
 split at h
 ·cases h
 ·refine ⟨by omega, ?_⟩
  rcases Nat.lt_or_ge (n - 1) s.cp.length with q | q
  ·omega
  ·rw [List.getElem?_eq_none q] at h; cases h
theorem owAt_lt {s : CS} {n : Nat} {o : Ow} (h : s.owAt n = some o) : 1 ≤ n ∧ n ≤ s.ow.length := by
 unfold CS.owAt at h
 split at h
 ·cases h
 ·refine ⟨by omega, ?_⟩
  rcases Nat.lt_or_ge (n - 1) s.ow.length with q | q
  ·omega
  ·rw [List.getElem?_eq_none q] at h; cases h
theorem kyN_inj {k a b k' a' b' : Nat} (ha : a ≤ 268435455) (hb : b < 4294967296) (ha' : a' ≤ 268435455) (hb' : b' < 4294967296) : kyN k a b = kyN k' a' b' ↔ k = k' ∧ a = a' ∧ b = b' := by
 unfold kyN
 constructor
 ·intro h; omega
 ·rintro ⟨rfl, rfl, rfl⟩; rfl
theorem kyN_split {x : Nat} (h : x < 18446744073709551616) : ∃ k a b, k < 16 ∧ a ≤ 268435455 ∧ b < 4294967296 ∧ x = kyN k a b :=
 ⟨x / 1152921504606846976, x / 4294967296 % 268435456, x % 4294967296, by omega, by omega, by omega, by unfold kyN; omega⟩
abbrev Vals := Nat → Nat → Nat → Option (List UInt8)
def Vals.upd (f : Vals) (k a b : Nat) (v : Option (List UInt8)) : Vals := fun k' a' b' => if k' = k ∧ a' = a ∧ b' = b then v else f k' a' b'
structure Rp (T : List Ent) (f : Vals) : Prop where
 ord : Ord T
 lt : ∀ e ∈ T, e.1 < 18446744073709551616
 val : ∀ k a b, k < 16 → a ≤ 268435455 → b < 4294967296 → getE T (kyN k a b) = f k a b
theorem mem_of_get {T : List Ent} {x : Nat} (h : (getE T x).isSome = true) : ∃ v, (x, v) ∈ T := by
 obtain ⟨v, hv⟩ := Option.isSome_iff_exists.1 h
 exact ⟨v, getE_mem hv⟩
theorem Rp.put {T : List Ent} {f : Vals} (r : Rp T f) {k a b : Nat} (hk : k < 16) (ha : a ≤ 268435455) (hb : b < 4294967296) (v : List UInt8) : Rp (putE T (kyN k a b) v) (f.upd k a b (some v)) where
 ord := putE_ord r.ord
 lt := fun e he => by
  have h := getE_of (putE_ord r.ord) (x := e.1) (v := e.2) he
  rw [getE_put] at h
  split at h
  ·rename_i q; rw [q]; exact kyN_lt hk ha hb
  ·exact r.lt _ (getE_mem h)
 val := fun k' a' b' h1 h2 h3 => by
  rw [getE_put]
  unfold Vals.upd
  have := kyN_inj (k := k') (k' := k) h2 h3 ha hb
  by_cases q : k' = k ∧ a' = a ∧ b' = b
  ·rw [if_pos (this.2 q), if_pos q]
  ·rw [if_neg (fun h => q (this.1 h)), if_neg q, r.val _ _ _ h1 h2 h3]
theorem ord_del {T : List Ent} (o : Ord T) (x : Nat) : Ord (delE T x) := List.Pairwise.filter _ o
theorem Rp.del {T : List Ent} {f : Vals} (r : Rp T f) {k a b : Nat} (hk : k < 16) (ha : a ≤ 268435455) (hb : b < 4294967296) : Rp (delE T (kyN k a b)) (f.upd k a b none) where
 ord := ord_del r.ord _
 lt := fun e he => r.lt e (List.mem_filter.1 he).1
 val := fun k' a' b' h1 h2 h3 => by
  rw [getE_del]
  unfold Vals.upd
  have := kyN_inj (k := k') (k' := k) h2 h3 ha hb
  by_cases q : k' = k ∧ a' = a ∧ b' = b
  ·rw [if_pos (this.2 q), if_pos q]
  ·rw [if_neg (fun h => q (this.1 h)), if_neg q, r.val _ _ _ h1 h2 h3]
theorem Rp.to {T : List Ent} {f g : Vals} (r : Rp T f) (h : ∀ k a b, k < 16 → a ≤ 268435455 → b < 4294967296 → f k a b = g k a b) : Rp T g :=
 ⟨r.ord, r.lt, fun k a b h1 h2 h3 => (r.val k a b h1 h2 h3).trans (h k a b h1 h2 h3)⟩
theorem Rp.nil : Rp [] (CS.val ⟨[], []⟩) where
 ord := List.Pairwise.nil
 lt := fun e he => by cases he
 val := fun k a b _ _ _ => by
  have h1 : ∀ n, CS.capAt ⟨[], []⟩ n = none := fun n => by unfold CS.capAt; split <;> simp
  have h2 : ∀ n, CS.owAt ⟨[], []⟩ n = none := fun n => by unfold CS.owAt; split <;> simp
  simp [CS.val, CS.kid, CS.lease, h1, h2, getE, numV]
def CS.keys (s : CS) : List Int :=
 ((kyN 9 0 1 : Nat) : Int) :: ((kyN 9 0 2 : Nat) : Int) :: ((List.range s.ow.length).map (fun n => ((kyN 3 0 (n + 1) : Nat) : Int)) ++ ((List.range s.cp.length).map (fun n => ((kyN 1 0 (n + 1) : Nat) : Int))
  ++ ((List.range s.cp.length).map (fun n => ((kyN 2 (((s.capAt (n + 1)).map Cp.parent).getD 0) (n + 1) : Nat) : Int)) ++ (List.range s.cp.length).map (fun n => ((kyN 5 (((s.capAt (n + 1)).map Cp.expiry).getD 0) (n + 1) : Nat) : Int)))))
theorem CS.keys_len (s : CS) : s.keys.length = 2 + s.ow.length + 3 * s.cp.length := by simp [CS.keys]; omega
theorem val_keys {s : CS} {k a b : Nat} (h : (s.val k a b).isSome = true) : ((kyN k a b : Nat) : Int) ∈ s.keys := by
 unfold CS.val at h
 split at h
 ·rename_i q
  obtain ⟨rfl, rfl⟩ := q
  rw [Option.isSome_map] at h
  obtain ⟨c, hc⟩ := Option.isSome_iff_exists.1 h
  have := capAt_lt hc
  refine List.mem_cons_of_mem _ (List.mem_cons_of_mem _ (List.mem_append_right _ (List.mem_append_left _ (List.mem_map.2 ⟨b - 1, List.mem_range.2 (by omega), ?_⟩))))
  rw [show b - 1 + 1 = b by omega]
 split at h
 ·rename_i q
  obtain ⟨rfl, q⟩ := q
  simp only [CS.kid, Bool.and_eq_true, decide_eq_true_eq] at q
  obtain ⟨q1, q2⟩ := q
  obtain ⟨c, hc, hp⟩ := (Option.any_eq_true _ _).1 q2
  have := capAt_lt hc
  refine List.mem_cons_of_mem _ (List.mem_cons_of_mem _ (List.mem_append_right _ (List.mem_append_right _ (List.mem_append_left _ (List.mem_map.2 ⟨b - 1, List.mem_range.2 (by omega), ?_⟩)))))
  rw [show b - 1 + 1 = b by omega, hc]
  simp only [decide_eq_true_eq] at hp
  simp [hp]
 split at h
 ·rename_i q
  obtain ⟨rfl, rfl⟩ := q
  rw [Option.isSome_map] at h
  obtain ⟨c, hc⟩ := Option.isSome_iff_exists.1 h
  have := owAt_lt hc
  refine List.mem_cons_of_mem _ (List.mem_cons_of_mem _ (List.mem_append_left _ (List.mem_map.2 ⟨b - 1, List.mem_range.2 (by omega), ?_⟩)))
  rw [show b - 1 + 1 = b by omega]
 split at h
 ·rename_i q
  obtain ⟨rfl, q⟩ := q
  simp only [CS.lease, Bool.and_eq_true, decide_eq_true_eq] at q
  obtain ⟨q1, q2⟩ := q
  obtain ⟨c, hc, hp⟩ := (Option.any_eq_true _ _).1 q2
  have := capAt_lt hc
  refine List.mem_cons_of_mem _ (List.mem_cons_of_mem _ (List.mem_append_right _ (List.mem_append_right _ (List.mem_append_right _ (List.mem_map.2 ⟨b - 1, List.mem_range.2 (by omega), ?_⟩)))))
  rw [show b - 1 + 1 = b by omega, hc]
  simp only [Bool.and_eq_true, decide_eq_true_eq] at hp
  simp [hp.1]
 split at h
 ·rename_i q
  obtain ⟨rfl, rfl, rfl⟩ := q
  exact List.mem_cons_self
 split at h
 ·rename_i q
  obtain ⟨rfl, rfl, rfl⟩ := q
  exact List.mem_cons_of_mem _ List.mem_cons_self
 ·cases h
theorem Rp.len {T : List Ent} {s : CS} (r : Rp T s.val) : T.length ≤ 2 + s.ow.length + 3 * s.cp.length := by
 have h := nodup_sub (A := T.map fun e => (e.1 : Int)) (B := s.keys) (by
  refine List.Pairwise.map _ (fun a b h => ?_) r.ord
  intro q
  have : a.1 = b.1 := by exact_mod_cast q
  omega) (fun a ha => by
  obtain ⟨e, he, rfl⟩ := List.mem_map.1 ha
  obtain ⟨k, a, b, h1, h2, h3, h4⟩ := kyN_split (r.lt e he)
  rw [h4]
  refine val_keys ?_
  rw [← r.val k a b h1 h2 h3, ← h4, getE_of r.ord (x := e.1) (v := e.2) he]
  rfl)
 rw [CS.keys_len] at h
 simpa using h
def rng (T : List Ent) (lo hi : Nat) : List Ent := (geE T lo).filter fun e => decide (e.1 < hi)
theorem ord_split : ∀ {L : List Ent} (o : Ord L) (c : Nat), L = (L.filter fun e => decide (e.1 < c)) ++ geE L c
 | [], _, _ => rfl
 | e :: L, o, c => by
  have o2 := List.pairwise_cons.1 o
  have ih := ord_split o2.2 c
  by_cases q : e.1 < c
  ·have hn : ¬ c ≤ e.1 := by omega
   conv => lhs; rw [ih]
   simp [geE, List.filter_cons, q, hn]
  ·have hn : c ≤ e.1 := by omega
   have h0 : (L.filter fun e => decide (e.1 < c)) = [] := List.filter_eq_nil_iff.2 fun a ha => by have := o2.1 a ha; simp; omega
   rw [h0, List.nil_append] at ih
   simp only [geE, List.filter_cons, q, hn, decide_false, decide_true, if_true, h0, List.nil_append]
   rw [if_neg (by simp), List.nil_append]
   congr 1
theorem geE_ord {T : List Ent} (o : Ord T) (x : Nat) : Ord (geE T x) := List.Pairwise.filter _ o
theorem rng_split {T : List Ent} (o : Ord T) {lo hi : Nat} (h : lo ≤ hi) : geE T lo = rng T lo hi ++ geE T hi := by
 conv => lhs; rw [ord_split (geE_ord o lo) hi]
 unfold rng
 congr 1
 unfold geE
 rw [List.filter_filter]
 refine List.filter_congr fun a _ => ?_
 simp; omega
theorem geE_next0 {T R : List Ent} (o : Ord T) {x j : Nat} (hR : R = geE T x) (h : j < R.length) : geE T (R[j].1 + 1) = R.drop (j + 1) := by
 have o2 : Ord R := hR ▸ geE_ord o x
 have hall : ∀ a ∈ R, x ≤ a.1 := fun a ha => by
  rw [hR] at ha
  simpa [geE] using (List.mem_filter.1 ha).2
 have hx := hall _ (List.getElem_mem h)
 have e1 : ∀ y, x ≤ y → geE T y = geE R y := by
  intro y hy
  rw [hR]
  unfold geE
  rw [List.filter_filter]
  refine List.filter_congr fun a _ => ?_
  simp
  intro q
  omega
 rw [e1 _ (by omega)]
 have e3 : geE R (R[j].1 + 1) = geE (R.take (j + 1)) (R[j].1 + 1) ++ geE (R.drop (j + 1)) (R[j].1 + 1) := by rw [← geE_append, List.take_append_drop]
 rw [e3]
 have o3 := List.pairwise_iff_getElem.1 o2
 have h1 : geE (R.take (j + 1)) (R[j].1 + 1) = [] := List.filter_eq_nil_iff.2 fun a ha => by
  obtain ⟨i, hi, rfl⟩ := List.mem_iff_getElem.1 ha
  rw [List.getElem_take]
  have hi2 : i < j + 1 := by rw [List.length_take] at hi; omega
  rcases Nat.lt_or_ge i j with q | q
  ·have := o3 i j (by omega) h q
   simp; omega
  ·obtain rfl : i = j := by omega
   simp
 have h2 : geE (R.drop (j + 1)) (R[j].1 + 1) = R.drop (j + 1) := List.filter_eq_self.2 fun a ha => by
  obtain ⟨i, hi, rfl⟩ := List.mem_iff_getElem.1 ha
  rw [List.getElem_drop]
  rw [List.length_drop] at hi
  have := o3 j (j + 1 + i) h (by omega) (by omega)
  simp; omega
 rw [h1, h2, List.nil_append]
theorem geE_next {T : List Ent} (o : Ord T) {x j : Nat} (h : j < (geE T x).length) : geE T ((geE T x)[j].1 + 1) = (geE T x).drop (j + 1) := geE_next0 o rfl h
def goOn (T : List Ent) (lo j : Nat) : Nat := if j = 0 then lo else ((geE T lo).getD (j - 1) (0, [])).1 + 1
theorem goOn_ge {T : List Ent} (o : Ord T) {lo j : Nat} (h : j ≤ (geE T lo).length) : geE T (goOn T lo j) = (geE T lo).drop j := by
 unfold goOn
 split
 ·rename_i q; subst q; rfl
 ·have hj : j - 1 < (geE T lo).length := by omega
  have e := geE_next o hj
  rw [show j - 1 + 1 = j by omega] at e
  rw [List.getD, List.getElem?_eq_getElem hj]
  exact e
theorem riseN_ext : ∀ {a b : List Nat}, a.Pairwise (· < ·) → b.Pairwise (· < ·) → (∀ x, x ∈ a ↔ x ∈ b) → a = b
 | [], [], _, _, _ => rfl
 | [], y :: b, _, _, h => by have := (h y).2 (by simp); cases this
 | x :: a, [], _, _, h => by have := (h x).1 (by simp); cases this
 | x :: a, y :: b, p, q, h => by
  have p2 := List.pairwise_cons.1 p
  have q2 := List.pairwise_cons.1 q
  have hxy : x = y := by
   rcases List.mem_cons.1 ((h x).1 (by simp)) with e | e
   ·exact e
   ·rcases List.mem_cons.1 ((h y).2 (by simp)) with e2 | e2
    ·exact e2.symm
    ·have := q2.1 x e; have := p2.1 y e2; omega
  subst hxy
  congr 1
  refine riseN_ext p2.2 q2.2 fun z => ⟨fun hz => ?_, fun hz => ?_⟩
  ·rcases List.mem_cons.1 ((h z).1 (List.mem_cons_of_mem _ hz)) with e | e
   ·have := p2.1 z hz; omega
   ·exact e
  ·rcases List.mem_cons.1 ((h z).2 (List.mem_cons_of_mem _ hz)) with e | e
   ·have := q2.1 z hz; omega
   ·exact e
def und (T : List Ent) (k a : Nat) : List Nat := (rng T (kyN k a 0) (kyN k a 0 + 4294967296)).map fun e => e.1 % 4294967296
theorem rng_mem {T : List Ent} {lo hi : Nat} {e : Ent} : e ∈ rng T lo hi ↔ e ∈ T ∧ lo ≤ e.1 ∧ e.1 < hi := by
 unfold rng geE
 rw [List.filter_filter, List.mem_filter]
 simp [and_comm]
theorem und_rise {T : List Ent} (o : Ord T) (k a : Nat) : (und T k a).Pairwise (· < ·) := by
 refine List.pairwise_map.2 (List.Pairwise.imp_of_mem ?_ (List.Pairwise.filter _ (geE_ord o _)))
 intro x y hx hy h
 have h1 := (rng_mem (T := T)).1 hx
 have h2 := (rng_mem (T := T)).1 hy
 unfold kyN at h1 h2
 omega
theorem und_mem {T : List Ent} (o : Ord T) {k a n : Nat} : n ∈ und T k a ↔ n < 4294967296 ∧ (getE T (kyN k a n)).isSome = true := by
 unfold und
 rw [List.mem_map]
 constructor
 ·rintro ⟨e, he, rfl⟩
  obtain ⟨h1, h2, h3⟩ := rng_mem.1 he
  refine ⟨by omega, ?_⟩
  have e1 : kyN k a (e.1 % 4294967296) = e.1 := by unfold kyN at h2 h3 ⊢; omega
  rw [e1, getE_of o (x := e.1) (v := e.2) h1]
  rfl
 ·rintro ⟨h1, h2⟩
  obtain ⟨v, hv⟩ := mem_of_get h2
  exact ⟨_, rng_mem.2 ⟨hv, by unfold kyN; omega, by unfold kyN; omega⟩, by unfold kyN; omega⟩
end Go.Proofs.YtelfjhemnnbbpaaGreat
set_option maxRecDepth 20000
namespace Go.Proofs.YtelfjhemnnbbpaaGreat
open Go.Proofs.YtelfjhemnnbbpaaGreat.SL
instance mthCap : Mth Tryz.prog 149 "bailiwick/rec.right" 188 := Mth.of (by kernel_rfl)
instance mthOwner : Mth Tryz.prog 143 "bailiwick/rec.right" 186 := Mth.of (by kernel_rfl)
abbrev cpA (n : Nat) (c : Cp) : Array Value := #[.int .i64 n, .int .i64 c.parent, .int .i64 c.object, .int .i64 c.owner, .int .i64 c.rights, .int .i64 c.badge, .int .i64 c.depth, .int .i64 c.expiry, .int .i64 c.cut, .bool c.rev]
abbrev owA (n : Nat) (o : Ow) : Array Value := #[.int .i64 n, .string (str o.name), .int .i64 o.limit, .int .i64 o.hav]
def subB (a b : Nat) : Bool := decide (a &&& b = a)
theorem bits_andNot {a b : Nat} (ha : a < 65536) (hb : b < 65536) : bits .andNot .i64 a b = ((a ^^^ (a &&& b) : Nat) : Int) := by
 show IntKind.i64.wrap ((BitVec.ofInt 64 a &&& ~~~ BitVec.ofInt 64 b).toNat : Int) = _
 have e : (BitVec.ofInt 64 (a : Int) &&& ~~~ BitVec.ofInt 64 (b : Int)).toNat = a ^^^ (a &&& b) := by
  refine Nat.eq_of_testBit_eq fun i => ?_
  have h1 : (BitVec.ofInt 64 (a : Int)).toNat = a := ofInt_nat (n := 64) (by omega)
  have h2 : (BitVec.ofInt 64 (b : Int)).toNat = b := ofInt_nat (n := 64) (by omega)
  rw [Nat.testBit_xor, Nat.testBit_and, BitVec.testBit_toNat, BitVec.getLsbD_and, BitVec.getLsbD_not, ← BitVec.testBit_toNat, ← BitVec.testBit_toNat, h1, h2]
  by_cases q : i < 64
  ·simp [q]; cases a.testBit i <;> cases b.testBit i <;> rfl
  ·have : a.testBit i = false := Nat.testBit_lt_two_pow (Nat.lt_of_lt_of_le (show a < 2 ^ 64 by omega) (Nat.pow_le_pow_right (by omega) (by omega)))
   simp [q, this]
 rw [e, wrapI64]
 have := Nat.xor_lt_two_pow (n := 16) (x := a) (y := a &&& b) (by omega) (Nat.lt_of_le_of_lt Nat.and_le_left (by omega))
 omega
theorem andNot_zero {a b : Nat} (ha : a < 65536) (hb : b < 65536) : decide (bits .andNot .i64 (a : Int) (b : Int) = 0) = subB a b := by
 rw [bits_andNot ha hb]
 unfold subB
 congr 1
 rw [eq_iff_iff]
 constructor
 ·intro h
  have h : a ^^^ (a &&& b) = 0 := by exact_mod_cast h
  have h2 := congrArg (fun x => x ^^^ (a &&& b)) h
  simp only [Nat.xor_assoc, Nat.xor_self, Nat.xor_zero, Nat.zero_xor] at h2
  exact h2.symm
 ·intro h
  rw [h, Nat.xor_self]; rfl
theorem right_does (a : Nat) (h : a < 65536) : Does Tryz.prog 46 [.int .i64 a] [] (fun v H => v = .bool true ∧ H = []) := by
 refine does_of Tryz.func46 Tryz.ntmps46 rfl rfl rfl (fun w0 F0 => ?_)
 (repeat' (first|refine g_seq (h:=?_)|refine g_region (h:=?_)|refine l_nil (h:=?_)|refine n_then (h:=?_)|refine l_pures1 (h:=?_)|refine l_guard_yes (h:=?_)|refine g_ret (h:=?_)))
 refine r_retk [] ?_
 exact ⟨(by first | (simp [packV]; done) | (simp [packV]; omega)), rfl⟩
theorem sub_does (a b : Nat) (ha : a < 65536) (hb : b < 65536) : Does Tryz.prog 19 [.int .i64 a, .int .i64 b] [] (fun v H => v = .bool (subB a b) ∧ H = []) := by
 have h1 := right_does a ha
 have h2 := right_does b hb
 have hz := andNot_zero ha hb
 refine does_of Tryz.func19 Tryz.ntmps19 rfl rfl rfl (fun w0 F0 => ?_)
 (repeat' (first|refine g_seq (h:=?_)|refine g_region (h:=?_)|refine l_nil (h:=?_)|refine n_then (h:=?_)|refine l_pures1 (h:=?_)|(refine l_atc ?_; refine l_call (h1) ?_)|(refine l_atc ?_; refine l_call (h2) ?_)|refine l_guard_yes (h:=?_)|refine g_ret (h:=?_)))
 refine r_retk [] ?_
 refine ⟨?_, rfl⟩
 rw [← hz]
 simp [packV, BEq.beq]
theorem subB_self (a : Nat) : subB a a = true := by simp [subB]
def FoldTo (a b : List UInt8) : Prop := Does Tryz.prog 29 [.string (str a)] [] (fun v H => v = .tuple #[.string (str b), .bool true] ∧ H = [])
structure Ow.ok (n : Nat) (o : Ow) : Prop where
 id : 1 ≤ n ∧ n ≤ 16777215
 name : FoldTo o.name o.name
 len : o.name.length ≤ 32
 limit : o.limit ≤ 1000
 hav : o.hav ≤ o.limit
theorem Ow.text_len (o : Ow) : o.text.length = 5 + o.name.length := by simp [Ow.text, putN_length]; omega
theorem cpRight_does (n : Nat) (c : Cp) (ok : c.ok n) : Does Tryz.prog 188 [.agg (cpA n c)] [] (fun v H => v = .bool true ∧ H = []) := by
 obtain ⟨o1, o2, o3, o4, o5, o6, o7, o8, o9, o10, o11⟩ := ok
 have h1 := in_does n 1 16777215 (by omega)
 have h2 := in_does c.parent 0 16777215 (by omega)
 have h3 := in_does c.object 1 16777215 (by omega)
 have h4 := in_does c.owner 1 16777215 (by omega)
 have h5 := sub_does c.rights c.rights o6 o6
 rw [subB_self] at h5
 have h6 := in_does c.badge 0 4294967295 (by omega)
 have h7 := in_does c.expiry 0 268435455 (by omega)
 have h8 := in_does c.cut 0 16777215 (by omega)
 have h9 := in_does c.depth 1 8 (by omega)
 have e1 : ((c.parent : Int) == (n : Int)) = false := by simp; omega
 have e2 : (((c.depth : Int) == 1) == ((c.parent : Int) == 0)) = true := by
  by_cases q : c.depth = 1
  ·have := o11.1 q
   simp [q, this]
  ·have : ¬ c.parent = 0 := fun h => q (o11.2 h)
   have a1 : ((c.depth : Int) == 1) = false := by simp; omega
   have a2 : ((c.parent : Int) == 0) = false := by simp; omega
   rw [a1, a2]; rfl
 refine does_of Tryz.func188 Tryz.ntmps188 rfl rfl rfl (fun w0 F0 => ?_)
 (repeat' (first|refine g_seq (h:=?_)|refine g_region (h:=?_)|refine l_nil (h:=?_)|refine n_then (h:=?_)|refine l_pures1 (h:=?_)|(refine l_atc ?_; refine l_call (h1) ?_)|(refine l_atc ?_; refine l_call (h2) ?_)|(refine l_atc ?_; refine l_call (h3) ?_)|(refine l_atc ?_; refine l_call (h4) ?_)|(refine l_atc ?_; refine l_call (h5) ?_)|(refine l_atc ?_; refine l_call (h6) ?_)|(refine l_atc ?_; refine l_call (h7) ?_)|(refine l_atc ?_; refine l_call (h8) ?_)|(refine l_atc ?_; refine l_call (h9) ?_)|refine l_guard_yes (h:=?_)|refine l_load (h:=?_)|(refine l_box (h:=?_); intro _)|refine g_skip (h:=?_)|refine g_ret (h:=?_)|refine g_cond_f (h:=?_)|(refine l_spF (h:=?_); intro h)))
 all_goals
  refine r_retk [] ?_
 all_goals exact ⟨(by first | (simp [packV, e2]; done) | (simp [packV]; omega)), rfl⟩
theorem owRight_does (n : Nat) (o : Ow) (ok : o.ok n) : Does Tryz.prog 186 [.agg (owA n o)] [] (fun v H => v = .bool true ∧ H = []) := by
 obtain ⟨o1, o2, o3, o4, o5⟩ := ok
 have h0 : Does Tryz.prog 29 [.string (str o.name)] [] (fun v H => v = .tuple #[.string (str o.name), .bool true] ∧ H = []) := o2
 have h1 := in_does n 1 16777215 (by omega)
 have h2 := in_does o.limit 0 1000 (by omega)
 have h3 := in_does o.hav 0 o.limit (by omega)
 refine does_of Tryz.func186 Tryz.ntmps186 rfl rfl rfl (fun w0 F0 => ?_)
 (repeat' (first|refine g_seq (h:=?_)|refine g_region (h:=?_)|refine l_nil (h:=?_)|refine n_then (h:=?_)|refine l_pures1 (h:=?_)|(refine l_atc ?_; refine l_call (h0) ?_)|(refine l_atc ?_; refine l_call (h1) ?_)|(refine l_atc ?_; refine l_call (h2) ?_)|(refine l_atc ?_; refine l_call (h3) ?_)|refine l_guard_yes (h:=?_)|refine l_load (h:=?_)|(refine l_box (h:=?_); intro _)|refine g_ret (h:=?_)|(refine l_spT (h:=?_); intro h)))
 all_goals
  refine r_retk [] ?_
 all_goals exact ⟨(by first | (simp [packV]; done) | (simp [packV]; omega)), rfl⟩
def cp3 (c : Cp) : List Nat := [c.parent, c.object, c.owner]
def cp3T (c : Cp) (i : Nat) : List UInt8 := (((cp3 c).take i).map fun n => putN n 3).flatten
set_option maxHeartbeats 4000000 in
theorem writeOwner_does (n : Nat) (o : Ow) (ok : o.ok n) : Does Tryz.prog 94 [.iface 143 (.agg (owA n o))] [] (fun v H => v = .tuple #[.string (str o.text), .int .i64 0] ∧ H = []) := by
 have hr := owRight_does n o ok
 obtain ⟨o1, o2, o3, o4, o5⟩ := ok
 have hl1 := putN_length 2 o.limit
 have hl2 := putN_length 2 o.hav
 have ht := Text_does o.name (by omega)
 have hc1 : ([] ++ putN o.limit 2 ++ putN o.hav 2).length = 4 := by simp [putN_length]
 have hc2 : (UInt8.ofNat o.name.length :: o.name).length = o.name.length + 1 := by simp
 refine does_of Tryz.func94 Tryz.ntmps94 rfl rfl rfl (fun w0 F0 => ?_)
 (repeat (first|refine g_seq (h:=?_)|refine g_region (h:=?_)|refine l_nil (h:=?_)|refine n_then (h:=?_)|refine l_pures1 (h:=?_)|refine l_invoke (hr) ?_|refine l_load (h:=?_)|refine l_store (h:=?_)|(refine l_box (h:=?_); intro _)|(refine l_alloc (h:=?_); intro _)|refine g_skip (h:=?_)|refine g_block (h:=?_)|refine g_cond_t (h:=?_)|refine g_cond_f (h:=?_)|refine l_assert (h:=?_)))
 rename_i b b2
 have h1 : Does Tryz.prog 119 [.pointer (some ⟨b, 0, none⟩), .int .i64 o.limit, .int .i64 2] [cl b 214 [.string { data := #[] }]] (fun v H => v = .tuple #[] ∧ H = [Wr b ([] ++ putN o.limit 2)]) := wSmall_does b o.limit 2 [] (by omega) (by omega) (by omega) (by simp)
 have h2 : Does Tryz.prog 119 [.pointer (some ⟨b, 0, none⟩), .int .i64 o.hav, .int .i64 2] [Wr b ([] ++ putN o.limit 2)] (fun v H => v = .tuple #[] ∧ H = [Wr b (([] ++ putN o.limit 2) ++ putN o.hav 2)]) := wSmall_does b o.hav 2 _ (by omega) (by omega) (by omega) (by simp; omega)
 refine l_inv (H' := [cl b2 143 [.int .i64 n, .string (str o.name), .int .i64 o.limit, .int .i64 o.hav], cl b 214 [.string { data := #[] }]]) (fun i => i) ?_
 (repeat' (first|refine g_seq (h:=?_)|refine g_region (h:=?_)|refine l_nil (h:=?_)|refine n_then (h:=?_)|refine l_pures1 (h:=?_)|(refine l_atc ?_; refine l_call (h1) ?_)|(refine l_atc ?_; refine l_call (h2) ?_)|(refine l_atc ?_; refine l_call (ht) ?_)|refine l_load (h:=?_)|refine l_store (h:=?_)|refine l_concat (h:=?_)|refine g_ret (h:=?_)|refine n_block (h:=?_)))
 refine r_retk [] ?_
 exact ⟨by simp [packV, Ow.text], rfl⟩
theorem againOwner_does (n : Nat) (o : Ow) (ok : o.ok n) : Does Tryz.prog 73 [.iface 143 (.agg (owA n o)), .string (str o.text)] [] (fun v H => v = .bool true ∧ H = []) := by
 have hw := writeOwner_does n o ok
 refine does_of Tryz.func73 Tryz.ntmps73 rfl rfl rfl (fun w0 F0 => ?_)
 (repeat' (first|refine g_seq (h:=?_)|refine g_region (h:=?_)|refine l_nil (h:=?_)|refine n_then (h:=?_)|refine l_pures1 (h:=?_)|(refine l_atc ?_; refine l_call (hw) ?_)|refine l_guard_yes (h:=?_)|refine g_ret (h:=?_)))
 refine r_retk [] ?_
 exact ⟨by simp [packV], rfl⟩
theorem putOwner_does (n : Nat) (o : Ow) (ok : o.ok n) : Does Tryz.prog 66 [.agg (owA n o)] [] (fun v H => v = .tuple #[.string (str o.text), .int .i64 0] ∧ H = []) := by
 have hw := writeOwner_does n o ok
 refine does_of Tryz.func66 Tryz.ntmps66 rfl rfl rfl (fun w0 F0 => ?_)
 (repeat' (first|refine g_seq (h:=?_)|refine g_region (h:=?_)|refine l_nil (h:=?_)|refine n_then (h:=?_)|refine l_pures1 (h:=?_)|(refine l_atc ?_; refine l_call (hw) ?_)|refine l_load (h:=?_)|(refine l_box (h:=?_); intro _)|refine g_ret (h:=?_)))
 refine r_retk [] ?_
 exact ⟨rfl, rfl⟩
set_option maxHeartbeats 2000000 in
theorem takeOwner_does (n : Nat) (o : Ow) (ok : o.ok n) : Does Tryz.prog 38 [.int .i64 n, .string (str o.text)] [] (fun v H => v = .tuple #[.agg (owA n o), .int .i64 0] ∧ H = []) := by
 have hag := againOwner_does n o ok
 obtain ⟨o1, o2, o3, o4, o5⟩ := ok
 have hl1 := putN_length 2 o.limit
 have hl2 := putN_length 2 o.hav
 have ht := TakeText_does o.name [] (by omega) (by simp)
 rw [List.append_nil] at ht
 refine does_of Tryz.func38 Tryz.ntmps38 rfl rfl rfl (fun w0 F0 => ?_)
 (repeat (first|refine g_seq (h:=?_)|refine g_region (h:=?_)|refine l_nil (h:=?_)|refine n_then (h:=?_)|refine l_pures1 (h:=?_)|(refine l_box (h:=?_); intro _)|(refine l_alloc (h:=?_); intro _)))
 rename_i b4 b
 have h1 : Does Tryz.prog 71 [.pointer (some ⟨b, 0, none⟩), .int .i64 2] [Rd14 b o.text] (fun v H => v = .int .i64 o.limit ∧ H = [Rd14 b (putN o.hav 2 ++ (UInt8.ofNat o.name.length :: o.name))]) := rSmall_does b o.limit 2 (putN o.hav 2 ++ (UInt8.ofNat o.name.length :: o.name)) (by omega) (by omega) (by omega) (by simp; omega)
 have h2 : Does Tryz.prog 71 [.pointer (some ⟨b, 0, none⟩), .int .i64 2] [Rd14 b (putN o.hav 2 ++ (UInt8.ofNat o.name.length :: o.name))] (fun v H => v = .int .i64 o.hav ∧ H = [Rd14 b (UInt8.ofNat o.name.length :: o.name)]) := rSmall_does b o.hav 2 (UInt8.ofNat o.name.length :: o.name) (by omega) (by omega) (by omega) (by simp; omega)
 (repeat' (first|refine g_seq (h:=?_)|refine g_region (h:=?_)|refine l_nil (h:=?_)|refine n_then (h:=?_)|refine l_pures1 (h:=?_)|(refine l_atc ?_; refine l_call (h1) ?_)|(refine l_atc ?_; refine l_call (h2) ?_)|(refine l_atc ?_; refine l_call (ht) ?_)|(refine l_atc ?_; refine l_call (hag) ?_)|refine l_guard_yes (h:=?_)|refine l_load (h:=?_)|refine l_store (h:=?_)|(refine l_alloc (h:=?_); intro _)|refine g_skip (h:=?_)|refine g_ret (h:=?_)|refine g_cond_f (h:=?_)))
 refine r_retk [] ?_
 exact ⟨rfl, rfl⟩
set_option maxHeartbeats 4000000 in
theorem writeCap_does (n : Nat) (c : Cp) (ok : c.ok n) : Does Tryz.prog 94 [.iface 149 (.agg (cpA n c))] [] (fun v H => v = .tuple #[.string (str c.text), .int .i64 0] ∧ H = []) := by
 have hr := cpRight_does n c ok
 obtain ⟨o1, o2, o3, o4, o5, o6, o7, o8, o9, o10, o11⟩ := ok
 have hb2 := b2n_le c.rev
 obtain ⟨q3, e3⟩ : ∃ l, l = cp3T c 3 := ⟨_, rfl⟩
 obtain ⟨q4, e4⟩ : ∃ l, l = q3 ++ putN c.rights 2 := ⟨_, rfl⟩
 obtain ⟨q5, e5⟩ : ∃ l, l = q4 ++ putN c.badge 4 := ⟨_, rfl⟩
 obtain ⟨q6, e6⟩ : ∃ l, l = q5 ++ putN c.depth 1 := ⟨_, rfl⟩
 obtain ⟨q7, e7⟩ : ∃ l, l = q6 ++ putN c.expiry 4 := ⟨_, rfl⟩
 obtain ⟨q8, e8⟩ : ∃ l, l = q7 ++ putN c.cut 3 := ⟨_, rfl⟩
 obtain ⟨q9, e9⟩ : ∃ l, l = q8 ++ putN (b2n c.rev) 1 := ⟨_, rfl⟩
 have l3 : q3.length = 9 := by rw [e3]; simp [cp3T, cp3, putN_length]
 have l4 : q4.length = 11 := by rw [e4, List.length_append, putN_length, l3]
 have l5 : q5.length = 15 := by rw [e5, List.length_append, putN_length, l4]
 have l6 : q6.length = 16 := by rw [e6, List.length_append, putN_length, l5]
 have l7 : q7.length = 20 := by rw [e7, List.length_append, putN_length, l6]
 have l8 : q8.length = 23 := by rw [e8, List.length_append, putN_length, l7]
 have et : c.text = q9 := by subst e9 e8 e7 e6 e5 e4 e3; simp [Cp.text, cp3T, cp3]
 have hcut : ∀ i, (cp3T c i).length ≤ 9 := fun i => by
  match i with
  | 0 => simp [cp3T]
  | 1 => simp [cp3T, cp3, putN_length]
  | 2 => simp [cp3T, cp3, putN_length]
  | i + 3 => simp [cp3T, cp3, putN_length]
 refine does_of Tryz.func94 Tryz.ntmps94 rfl rfl rfl (fun w0 F0 => ?_)
 (repeat (first|refine g_seq (h:=?_)|refine g_region (h:=?_)|refine l_nil (h:=?_)|refine n_then (h:=?_)|refine l_pures1 (h:=?_)|refine l_invoke (hr) ?_|refine l_load (h:=?_)|refine l_store (h:=?_)|(refine l_box (h:=?_); intro _)|(refine l_alloc (h:=?_); intro _)|refine g_skip (h:=?_)|refine g_block (h:=?_)|refine g_cond_t (h:=?_)|refine g_cond_f (h:=?_)|(refine l_buildSlice3 (h:=?_); intro _)|refine l_assert (h:=?_)))
 rename_i b b1 b2
 have h4 : Does Tryz.prog 119 [.pointer (some ⟨b, 0, none⟩), .int .i64 c.rights, .int .i64 2] [Wr b q3] (fun v H => v = .tuple #[] ∧ H = [Wr b q4]) := by rw [e4]; exact wSmall_does b c.rights 2 q3 (by omega) (by omega) (by omega) (by omega)
 have h5 : Does Tryz.prog 119 [.pointer (some ⟨b, 0, none⟩), .int .i64 c.badge, .int .i64 4] [Wr b q4] (fun v H => v = .tuple #[] ∧ H = [Wr b q5]) := by rw [e5]; exact wSmall_does b c.badge 4 q4 (by omega) (by omega) (by omega) (by omega)
 have h6 : Does Tryz.prog 119 [.pointer (some ⟨b, 0, none⟩), .int .i64 c.depth, .int .i64 1] [Wr b q5] (fun v H => v = .tuple #[] ∧ H = [Wr b q6]) := by rw [e6]; exact wSmall_does b c.depth 1 q5 (by omega) (by omega) (by omega) (by omega)
 have h7 : Does Tryz.prog 119 [.pointer (some ⟨b, 0, none⟩), .int .i64 c.expiry, .int .i64 4] [Wr b q6] (fun v H => v = .tuple #[] ∧ H = [Wr b q7]) := by rw [e7]; exact wSmall_does b c.expiry 4 q6 (by omega) (by omega) (by omega) (by omega)
 have h8 : Does Tryz.prog 119 [.pointer (some ⟨b, 0, none⟩), .int .i64 c.cut, .int .i64 3] [Wr b q7] (fun v H => v = .tuple #[] ∧ H = [Wr b q8]) := by rw [e8]; exact wSmall_does b c.cut 3 q7 (by omega) (by omega) (by omega) (by omega)
 have h0 : ∀ (i : Nat) (x : Nat) (l l' : List UInt8), l = cp3T c i → l' = cp3T c (i + 1) → cp3T c (i + 1) = cp3T c i ++ putN x 3 → x ≤ 16777215 → Does Tryz.prog 119 [.pointer (some ⟨b, 0, none⟩), .int .i64 x, .int .i64 3] [Wr b l] (fun v H => v = .tuple #[] ∧ H = [Wr b l']) := by
  rintro i x l l' rfl rfl e hx
  rw [e]
  exact wSmall_does b x 3 _ (by omega) (by omega) (by omega) (by have := hcut i; omega)
 have h9 : ∀ v : Int, v = (b2n c.rev : Nat) → Does Tryz.prog 119 [.pointer (some ⟨b, 0, none⟩), .int .i64 v, .int .i64 1] [Wr b q8] (fun v H => v = .tuple #[] ∧ H = [Wr b q9]) := by
  rintro v rfl
  rw [e9]
  exact wSmall_does b (b2n c.rev) 1 q8 (by omega) (by omega) (by omega) (by omega)
 refine g_inv (H' := [cl b2 3 [.int .i64 c.parent, .int .i64 c.object, .int .i64 c.owner], cl b1 149 [.int .i64 n, .int .i64 c.parent, .int .i64 c.object, .int .i64 c.owner, .int .i64 c.rights, .int .i64 c.badge, .int .i64 c.depth, .int .i64 c.expiry, .int .i64 c.cut, .bool c.rev], Wr b (cp3T c 0)]) (fun i => i) ?_
 (refine g_loop (fun i : Nat => [(33, .int .i64 i), (32, .int .i64 3), (31, .slice (some ⟨b2, 0, none⟩) 3 3), (5, .pointer (some ⟨b1, 0, none⟩)), (4, .pointer (some ⟨b, 0, none⟩))]) (fun i => [Wr b (cp3T c i), cl b2 3 [.int .i64 c.parent, .int .i64 c.object, .int .i64 c.owner], cl b1 149 [.int .i64 n, .int .i64 c.parent, .int .i64 c.object, .int .i64 c.owner, .int .i64 c.rights, .int .i64 c.badge, .int .i64 c.depth, .int .i64 c.expiry, .int .i64 c.cut, .bool c.rev]]) (fun i => i ≤ 3) (fun i => 3 - i) (0) ?_ ?_ ?_ ?_; rotate_left; (repeat (first | refine ts_nil | (refine ts_cons rfl ?_ ?_; first | (with_reducible rfl) | rotate_left))); (first | (intro _ i; with_reducible refine i) | rotate_left); rotate_left; (try omega); rotate_right)
 ·intro i hi
  have : i = 0 ∨ i = 1 ∨ i = 2 ∨ i = 3 := by omega
  rcases this with rfl | rfl | rfl | rfl
  ·have hx := h0 0 c.parent _ _ rfl rfl (by simp [cp3T, cp3]) o2
   (repeat' (first|refine g_seq (h:=?_)|refine g_region (h:=?_)|refine l_nil (h:=?_)|refine n_then (h:=?_)|refine l_pures1 (h:=?_)|(refine l_atc ?_; refine l_call (hx) ?_)|refine l_load (h:=?_)|refine l_indexAddr (h:=?_)|refine g_skip (h:=?_)|refine g_block (h:=?_)|refine n_block (h:=?_)|refine g_cond_t (h:=?_)))
   (refine n_back (1) ?_ ?_ ?_ ?_; rotate_left; rotate_left; (repeat (first | refine ts_nil | (refine ts_cons rfl ?_ ?_; first | (with_reducible rfl) | rotate_left))); (first | (intro _ i; with_reducible refine i) | rotate_left); (try omega); (try omega))
   all_goals first
    | (dsimp only; omega)
    | (intro _ i; exact inv_keep parts_of i)
    | rfl
  ·have hx := h0 1 c.object _ _ rfl rfl (by simp [cp3T, cp3]) (by omega)
   (repeat' (first|refine g_seq (h:=?_)|refine g_region (h:=?_)|refine l_nil (h:=?_)|refine n_then (h:=?_)|refine l_pures1 (h:=?_)|(refine l_atc ?_; refine l_call (hx) ?_)|refine l_load (h:=?_)|refine l_indexAddr (h:=?_)|refine g_skip (h:=?_)|refine g_block (h:=?_)|refine n_block (h:=?_)|refine g_cond_t (h:=?_)))
   (refine n_back (2) ?_ ?_ ?_ ?_; rotate_left; rotate_left; (repeat (first | refine ts_nil | (refine ts_cons rfl ?_ ?_; first | (with_reducible rfl) | rotate_left))); (first | (intro _ i; with_reducible refine i) | rotate_left); (try omega); (try omega))
   all_goals first
    | (dsimp only; omega)
    | (intro _ i; exact inv_keep parts_of i)
    | rfl
  ·have hx := h0 2 c.owner _ _ rfl rfl (by simp [cp3T, cp3]) (by omega)
   (repeat' (first|refine g_seq (h:=?_)|refine g_region (h:=?_)|refine l_nil (h:=?_)|refine n_then (h:=?_)|refine l_pures1 (h:=?_)|(refine l_atc ?_; refine l_call (hx) ?_)|refine l_load (h:=?_)|refine l_indexAddr (h:=?_)|refine g_skip (h:=?_)|refine g_block (h:=?_)|refine n_block (h:=?_)|refine g_cond_t (h:=?_)))
   (refine n_back (3) ?_ ?_ ?_ ?_; rotate_left; rotate_left; (repeat (first | refine ts_nil | (refine ts_cons rfl ?_ ?_; first | (with_reducible rfl) | rotate_left))); (first | (intro _ i; with_reducible refine i) | rotate_left); (try omega); (try omega))
   all_goals first
    | (dsimp only; omega)
    | (intro _ i; exact inv_keep parts_of i)
    | rfl
  ·rw [← e3]
   (repeat' (first|refine g_seq (h:=?_)|refine g_region (h:=?_)|refine l_nil (h:=?_)|refine n_then (h:=?_)|refine l_pures1 (h:=?_)|(refine l_atc ?_; refine l_call (h4) ?_)|(refine l_atc ?_; refine l_call (h5) ?_)|(refine l_atc ?_; refine l_call (h6) ?_)|(refine l_atc ?_; refine l_call (h7) ?_)|(refine l_atc ?_; refine l_call (h8) ?_)|refine l_load (h:=?_)|refine g_skip (h:=?_)|refine g_exit (h:=?_)|refine n_then_exit (h:=?_)|refine n_block_hit (h:=?_)|refine g_cond_f (h:=?_)|(refine g_sp (h1 := ?_) (h0 := ?_) <;> intro h)))
   ·have hx := h9 1 (by rw [h]; rfl)
    (repeat' (first|refine g_seq (h:=?_)|refine g_region (h:=?_)|refine l_nil (h:=?_)|refine n_then (h:=?_)|refine l_pures1 (h:=?_)|(refine l_atc ?_; refine l_call (hx) ?_)|refine l_load (h:=?_)|refine g_ret (h:=?_)|refine n_block (h:=?_)))
    refine r_retk [] ?_
    exact ⟨by rw [et]; rfl, rfl⟩
   ·have hx := h9 0 (by rw [h]; rfl)
    (repeat' (first|refine g_seq (h:=?_)|refine g_region (h:=?_)|refine l_nil (h:=?_)|refine n_then (h:=?_)|refine l_pures1 (h:=?_)|(refine l_atc ?_; refine l_call (hx) ?_)|refine l_load (h:=?_)|refine g_ret (h:=?_)|refine n_block (h:=?_)))
    refine r_retk [] ?_
    exact ⟨by rw [et]; rfl, rfl⟩
 all_goals first
  | exact Nat.zero_le _
  | rfl
  | (intro _ i; exact inv_keep parts_of i)
theorem againCap_does (n : Nat) (c : Cp) (ok : c.ok n) : Does Tryz.prog 73 [.iface 149 (.agg (cpA n c)), .string (str c.text)] [] (fun v H => v = .bool true ∧ H = []) := by
 have hw := writeCap_does n c ok
 refine does_of Tryz.func73 Tryz.ntmps73 rfl rfl rfl (fun w0 F0 => ?_)
 (repeat' (first|refine g_seq (h:=?_)|refine g_region (h:=?_)|refine l_nil (h:=?_)|refine n_then (h:=?_)|refine l_pures1 (h:=?_)|(refine l_atc ?_; refine l_call (hw) ?_)|refine l_guard_yes (h:=?_)|refine g_ret (h:=?_)))
 refine r_retk [] ?_
 exact ⟨by simp [packV], rfl⟩
theorem putCap_does (n : Nat) (c : Cp) (ok : c.ok n) : Does Tryz.prog 78 [.agg (cpA n c)] [] (fun v H => v = .tuple #[.string (str c.text), .int .i64 0] ∧ H = []) := by
 have hw := writeCap_does n c ok
 refine does_of Tryz.func78 Tryz.ntmps78 rfl rfl rfl (fun w0 F0 => ?_)
 (repeat' (first|refine g_seq (h:=?_)|refine g_region (h:=?_)|refine l_nil (h:=?_)|refine n_then (h:=?_)|refine l_pures1 (h:=?_)|(refine l_atc ?_; refine l_call (hw) ?_)|refine l_load (h:=?_)|(refine l_box (h:=?_); intro _)|refine g_ret (h:=?_)))
 refine r_retk [] ?_
 exact ⟨rfl, rfl⟩
set_option maxHeartbeats 4000000 in
theorem takeCap_does (n : Nat) (c : Cp) (ok : c.ok n) : Does Tryz.prog 45 [.int .i64 n, .string (str c.text)] [] (fun v H => v = .tuple #[.agg (cpA n c), .int .i64 0] ∧ H = []) := by
 have hag := againCap_does n c ok
 obtain ⟨o1, o2, o3, o4, o5, o6, o7, o8, o9, o10, o11⟩ := ok
 have hb := b2n_le c.rev
 obtain ⟨t9, e9⟩ : ∃ l, l = putN (b2n c.rev) 1 := ⟨_, rfl⟩
 obtain ⟨t8, e8⟩ : ∃ l, l = putN c.cut 3 ++ t9 := ⟨_, rfl⟩
 obtain ⟨t7, e7⟩ : ∃ l, l = putN c.expiry 4 ++ t8 := ⟨_, rfl⟩
 obtain ⟨t6, e6⟩ : ∃ l, l = putN c.depth 1 ++ t7 := ⟨_, rfl⟩
 obtain ⟨t5, e5⟩ : ∃ l, l = putN c.badge 4 ++ t6 := ⟨_, rfl⟩
 obtain ⟨t4, e4⟩ : ∃ l, l = putN c.rights 2 ++ t5 := ⟨_, rfl⟩
 obtain ⟨t3, e3⟩ : ∃ l, l = putN c.owner 3 ++ t4 := ⟨_, rfl⟩
 obtain ⟨t2, e2⟩ : ∃ l, l = putN c.object 3 ++ t3 := ⟨_, rfl⟩
 have e1 : c.text = putN c.parent 3 ++ t2 := by subst e9 e8 e7 e6 e5 e4 e3 e2; rfl
 have l9 : t9.length = 1 := by rw [e9, putN_length]
 have l8 : t8.length = 4 := by rw [e8, List.length_append, putN_length, l9]
 have l7 : t7.length = 8 := by rw [e7, List.length_append, putN_length, l8]
 have l6 : t6.length = 9 := by rw [e6, List.length_append, putN_length, l7]
 have l5 : t5.length = 13 := by rw [e5, List.length_append, putN_length, l6]
 have l4 : t4.length = 15 := by rw [e4, List.length_append, putN_length, l5]
 have l3 : t3.length = 18 := by rw [e3, List.length_append, putN_length, l4]
 have l2 : t2.length = 21 := by rw [e2, List.length_append, putN_length, l3]
 refine does_of Tryz.func45 Tryz.ntmps45 rfl rfl rfl (fun w0 F0 => ?_)
 (repeat (first|refine g_seq (h:=?_)|refine g_region (h:=?_)|refine l_nil (h:=?_)|refine n_then (h:=?_)|refine l_pures1 (h:=?_)|(refine l_box (h:=?_); intro _)|(refine l_alloc (h:=?_); intro _)))
 rename_i b4 b
 have h1 : Does Tryz.prog 71 [.pointer (some ⟨b, 0, none⟩), .int .i64 3] [Rd14 b c.text] (fun v H => v = .int .i64 c.parent ∧ H = [Rd14 b t2]) := by rw [e1]; exact rSmall_does b c.parent 3 t2 (by omega) (by omega) (by omega) (by omega)
 have h2 : Does Tryz.prog 71 [.pointer (some ⟨b, 0, none⟩), .int .i64 3] [Rd14 b t2] (fun v H => v = .int .i64 c.object ∧ H = [Rd14 b t3]) := by rw [e2]; exact rSmall_does b c.object 3 t3 (by omega) (by omega) (by omega) (by omega)
 have h3 : Does Tryz.prog 71 [.pointer (some ⟨b, 0, none⟩), .int .i64 3] [Rd14 b t3] (fun v H => v = .int .i64 c.owner ∧ H = [Rd14 b t4]) := by rw [e3]; exact rSmall_does b c.owner 3 t4 (by omega) (by omega) (by omega) (by omega)
 have h4 : Does Tryz.prog 71 [.pointer (some ⟨b, 0, none⟩), .int .i64 2] [Rd14 b t4] (fun v H => v = .int .i64 c.rights ∧ H = [Rd14 b t5]) := by rw [e4]; exact rSmall_does b c.rights 2 t5 (by omega) (by omega) (by omega) (by omega)
 have h5 : Does Tryz.prog 71 [.pointer (some ⟨b, 0, none⟩), .int .i64 4] [Rd14 b t5] (fun v H => v = .int .i64 c.badge ∧ H = [Rd14 b t6]) := by rw [e5]; exact rSmall_does b c.badge 4 t6 (by omega) (by omega) (by omega) (by omega)
 have h6 : Does Tryz.prog 71 [.pointer (some ⟨b, 0, none⟩), .int .i64 1] [Rd14 b t6] (fun v H => v = .int .i64 c.depth ∧ H = [Rd14 b t7]) := by rw [e6]; exact rSmall_does b c.depth 1 t7 (by omega) (by omega) (by omega) (by omega)
 have h7 : Does Tryz.prog 71 [.pointer (some ⟨b, 0, none⟩), .int .i64 4] [Rd14 b t7] (fun v H => v = .int .i64 c.expiry ∧ H = [Rd14 b t8]) := by rw [e7]; exact rSmall_does b c.expiry 4 t8 (by omega) (by omega) (by omega) (by omega)
 have h8 : Does Tryz.prog 71 [.pointer (some ⟨b, 0, none⟩), .int .i64 3] [Rd14 b t8] (fun v H => v = .int .i64 c.cut ∧ H = [Rd14 b t9]) := by rw [e8]; exact rSmall_does b c.cut 3 t9 (by omega) (by omega) (by omega) (by omega)
 have h9 : Does Tryz.prog 71 [.pointer (some ⟨b, 0, none⟩), .int .i64 1] [Rd14 b t9] (fun v H => v = .int .i64 (b2n c.rev) ∧ H = [Rd14 b []]) := by
  have := rSmall_does b (b2n c.rev) 1 [] (by omega) (by omega) (by omega) (by simp)
  rw [List.append_nil] at this
  rw [e9]
  exact this
 have er : (((b2n c.rev : Nat) : Int) == 1) = c.rev := by cases c.rev <;> rfl
 (repeat' (first|refine g_seq (h:=?_)|refine g_region (h:=?_)|refine l_nil (h:=?_)|refine n_then (h:=?_)|refine l_pures1 (h:=?_)|(refine l_atc ?_; refine l_call (h1) ?_)|(refine l_atc ?_; refine l_call (h2) ?_)|(refine l_atc ?_; refine l_call (h3) ?_)|(refine l_atc ?_; refine l_call (h4) ?_)|(refine l_atc ?_; refine l_call (h5) ?_)|(refine l_atc ?_; refine l_call (h6) ?_)|(refine l_atc ?_; refine l_call (h7) ?_)|(refine l_atc ?_; refine l_call (h8) ?_)|(refine l_atc ?_; refine l_call (h9) ?_)|refine l_guard_yes (h:=?_)|refine l_load (h:=?_)|refine l_store (h:=?_)|(refine l_alloc (h:=?_); intro _)))
 rw [er]
 (repeat' (first|refine g_seq (h:=?_)|refine g_region (h:=?_)|refine l_nil (h:=?_)|refine n_then (h:=?_)|refine l_pures1 (h:=?_)|(refine l_atc ?_; refine l_call (hag) ?_)|refine l_guard_yes (h:=?_)|refine l_load (h:=?_)|refine l_store (h:=?_)|refine g_skip (h:=?_)|refine g_ret (h:=?_)|refine g_cond_f (h:=?_)))
 refine r_retk [] ?_
 exact ⟨rfl, rfl⟩
end Go.Proofs.YtelfjhemnnbbpaaGreat
set_option maxRecDepth 20000
namespace Go.Proofs.YtelfjhemnnbbpaaGreat
open Go.Proofs.YtelfjhemnnbbpaaGreat.SL
theorem Next_does (x : Nat) (hx : x + 1 < 18446744073709551616) : Does Tryz.prog 64 [.int .u64 x] [] (fun v H => v = .tuple #[.int .u64 (x + 1 : Nat), .bool true] ∧ H = []) := by
 have ew : IntKind.u64.wrap ((x : Int) + 1) = ((x + 1 : Nat) : Int) := by rw [wrapU64 (by omega)]; omega
 refine does_of Tryz.func64 Tryz.ntmps64 rfl rfl rfl (fun w0 F0 => ?_)
 (repeat' (first|refine g_seq (h:=?_)|refine g_region (h:=?_)|refine l_nil (h:=?_)|refine n_then (h:=?_)|refine l_pures1 (h:=?_)|refine g_ret (h:=?_)))
 refine r_ret ?_
 refine ⟨?_, rfl⟩
 rw [ew]
 have e : (((x + 1 : Nat) : Int) != 0) = true := by simp; omega
 rw [e]
 rfl
theorem Split_does (k a b : Nat) (hk : k < 16) (ha : a ≤ 268435455) (hb : b < 4294967296) : Does Tryz.prog 63 [.int .u64 (kyN k a b : Nat)] [] (fun v H => v = .tuple #[.int .i64 k, .int .i64 a, .int .i64 b] ∧ H = []) := by
 refine does_of Tryz.func63 Tryz.ntmps63 rfl rfl rfl (fun w0 F0 => ?_)
 (repeat' (first|refine g_seq (h:=?_)|refine g_region (h:=?_)|refine l_nil (h:=?_)|refine n_then (h:=?_)|refine l_pures1 (h:=?_)|refine l_shr (h:=?_)|refine g_ret (h:=?_)))
 refine r_ret ?_
 refine ⟨?_, rfl⟩
 have p60 : (2 : Int) ^ min (Int.toNat 60) IntKind.u64.bits = 1152921504606846976 := by decide
 have p32 : (2 : Int) ^ min (Int.toNat 32) IntKind.u64.bits = 4294967296 := by decide
 have h1 : ((kyN k a b : Nat) : Int) / 1152921504606846976 = k := by unfold kyN; omega
 have h2 : ((kyN k a b : Nat) : Int) / 4294967296 = ((k * 268435456 + a : Nat) : Int) := by unfold kyN; omega
 have h3 : IntKind.u32.wrap ((kyN k a b : Nat) : Int) = b := by
  have : IntKind.u32.wrap ((kyN k a b : Nat) : Int) = ((kyN k a b : Nat) : Int) % 4294967296 := by simp [IntKind.wrap, IntKind.bits, IntKind.signed]
  rw [this]; unfold kyN; omega
 have h4 : bits BinOp.and IntKind.i64 ((k * 268435456 + a : Nat) : Int) 268435455 = a := by
  have := bits_and (k := .i64) (a := k * 268435456 + a) (b := 268435455) (by simp [IntKind.bits]; omega) (by simp [IntKind.bits])
  have e : ((268435455 : Nat) : Int) = 268435455 := rfl
  rw [e] at this
  rw [this]
  have e2 : (k * 268435456 + a) &&& 268435455 = a := by
   have := Nat.and_two_pow_sub_one_eq_mod (k * 268435456 + a) 28
   have e3 : 2 ^ 28 - 1 = 268435455 := rfl
   rw [e3] at this
   rw [this]; omega
  rw [e2, wrapI64 (by omega)]
 rw [p60, p32, Int.fdiv_eq_ediv_of_nonneg _ (by omega), Int.fdiv_eq_ediv_of_nonneg _ (by omega), h1, h2, h3, wrapI64 (n := (k : Int)) (by omega), wrapI64 (n := ((k * 268435456 + a : Nat) : Int)) (by omega), h4, wrapI64 (by omega)]
 rfl
end Go.Proofs.YtelfjhemnnbbpaaGreat
set_option maxRecDepth 20000
namespace Go.Proofs.YtelfjhemnnbbpaaGreat
open Go.Proofs.YtelfjhemnnbbpaaGreat.SL
abbrev tx (t sb : Nat) (r e : Int) (ov : Bool) : SProp := cl t 97 [.pointer (some ⟨sb, 0, none⟩), .int .i64 r, .int .i64 e, .bool ov]
theorem txDoes4 {α : Type} (t sb g : Nat) [c : Callable Tryz.prog g] (caps : List Value) (r : Int) (p : α → Prop) (ok : α → Bool) (r' : α → Int) (A0 A1 A2 A3 : SProp) (B0 B1 B2 B3 : α → SProp)
  (hd : Does Tryz.prog g caps [tx t sb r 0 false, A0, A1, A2, A3] (fun v H => ∃ y, p y ∧ v = .tuple #[.bool (ok y), .int .i64 0] ∧ H = [tx t sb (r' y) 0 false, B0 y, B1 y, B2 y, B3 y])) :
  Does Tryz.prog 67 [.pointer (some ⟨t, 0, none⟩), .func (.func g) #[] caps.toArray] [tx t sb r 0 false, A0, A1, A2, A3] (fun v H => ∃ y, p y ∧ v = .bool (ok y) ∧ H = [tx t sb (r' y) 0 false, B0 y, B1 y, B2 y, B3 y]) := by
 refine does_of Tryz.func67 Tryz.ntmps67 rfl rfl rfl (fun w0 F0 => ?_)
 (repeat' (first|refine g_seq (h:=?_)|refine g_region (h:=?_)|refine l_nil (h:=?_)|refine n_then (h:=?_)|refine l_pures1 (h:=?_)|(refine l_atc ?_; refine l_call_ (hd) ?_; rintro _ _ _ ⟨y, hy, rfl, rfl⟩ he; cases he)|refine l_guard_yes (h:=?_)|refine l_guard_no (h:=?_)|refine l_load (h:=?_)|refine l_store (h:=?_)|refine g_skip (h:=?_)|refine g_ret (h:=?_)|refine g_cond_f (h:=?_)|(refine l_sp (h1 := ?_) (h0 := ?_) <;> intro h)))
 all_goals
  refine r_retk [tx t sb (r' y) 0 false, B0 y, B1 y, B2 y, B3 y] ?_
 ·exact ⟨y, hy, by simp [packV, *], rfl⟩
 ·exact ⟨y, hy, by simp [packV, *], rfl⟩
theorem txDoes5 {α : Type} (t sb g : Nat) [c : Callable Tryz.prog g] (caps : List Value) (r : Int) (p : α → Prop) (ok : α → Bool) (r' : α → Int) (A0 A1 A2 A3 A4 : SProp) (B0 B1 B2 B3 B4 : α → SProp)
  (hd : Does Tryz.prog g caps [tx t sb r 0 false, A0, A1, A2, A3, A4] (fun v H => ∃ y, p y ∧ v = .tuple #[.bool (ok y), .int .i64 0] ∧ H = [tx t sb (r' y) 0 false, B0 y, B1 y, B2 y, B3 y, B4 y])) :
  Does Tryz.prog 67 [.pointer (some ⟨t, 0, none⟩), .func (.func g) #[] caps.toArray] [tx t sb r 0 false, A0, A1, A2, A3, A4] (fun v H => ∃ y, p y ∧ v = .bool (ok y) ∧ H = [tx t sb (r' y) 0 false, B0 y, B1 y, B2 y, B3 y, B4 y]) := by
 refine does_of Tryz.func67 Tryz.ntmps67 rfl rfl rfl (fun w0 F0 => ?_)
 (repeat' (first|refine g_seq (h:=?_)|refine g_region (h:=?_)|refine l_nil (h:=?_)|refine n_then (h:=?_)|refine l_pures1 (h:=?_)|(refine l_atc ?_; refine l_call_ (hd) ?_; rintro _ _ _ ⟨y, hy, rfl, rfl⟩ he; cases he)|refine l_guard_yes (h:=?_)|refine l_guard_no (h:=?_)|refine l_load (h:=?_)|refine l_store (h:=?_)|refine g_skip (h:=?_)|refine g_ret (h:=?_)|refine g_cond_f (h:=?_)|(refine l_sp (h1 := ?_) (h0 := ?_) <;> intro h)))
 all_goals
  refine r_retk [tx t sb (r' y) 0 false, B0 y, B1 y, B2 y, B3 y, B4 y] ?_
 ·exact ⟨y, hy, by simp [packV, *], rfl⟩
 ·exact ⟨y, hy, by simp [packV, *], rfl⟩
theorem txDoes6 {α : Type} (t sb g : Nat) [c : Callable Tryz.prog g] (caps : List Value) (r : Int) (p : α → Prop) (ok : α → Bool) (r' : α → Int) (A0 A1 A2 A3 A4 A5 : SProp) (B0 B1 B2 B3 B4 B5 B6 : α → SProp)
  (hd : Does Tryz.prog g caps [tx t sb r 0 false, A0, A1, A2, A3, A4, A5] (fun v H => ∃ y, p y ∧ v = .tuple #[.bool (ok y), .int .i64 0] ∧ H = [tx t sb (r' y) 0 false, B0 y, B1 y, B2 y, B3 y, B4 y, B5 y, B6 y])) :
  Does Tryz.prog 67 [.pointer (some ⟨t, 0, none⟩), .func (.func g) #[] caps.toArray] [tx t sb r 0 false, A0, A1, A2, A3, A4, A5] (fun v H => ∃ y, p y ∧ v = .bool (ok y) ∧ H = [tx t sb (r' y) 0 false, B0 y, B1 y, B2 y, B3 y, B4 y, B5 y, B6 y]) := by
 refine does_of Tryz.func67 Tryz.ntmps67 rfl rfl rfl (fun w0 F0 => ?_)
 (repeat' (first|refine g_seq (h:=?_)|refine g_region (h:=?_)|refine l_nil (h:=?_)|refine n_then (h:=?_)|refine l_pures1 (h:=?_)|(refine l_atc ?_; refine l_call_ (hd) ?_; rintro _ _ _ ⟨y, hy, rfl, rfl⟩ he; cases he)|refine l_guard_yes (h:=?_)|refine l_guard_no (h:=?_)|refine l_load (h:=?_)|refine l_store (h:=?_)|refine g_skip (h:=?_)|refine g_ret (h:=?_)|refine g_cond_f (h:=?_)|(refine l_sp (h1 := ?_) (h0 := ?_) <;> intro h)))
 all_goals
  refine r_retk [tx t sb (r' y) 0 false, B0 y, B1 y, B2 y, B3 y, B4 y, B5 y, B6 y] ?_
 ·exact ⟨y, hy, by simp [packV, *], rfl⟩
 ·exact ⟨y, hy, by simp [packV, *], rfl⟩
theorem txPut1 (t sb db b1 b2 b3 x : Nat) (v : List UInt8) (r : Int) (S : Sh) (D : Dk) (p : Int → Sh → Dk → Prop)
  (hp : Does Tryz.prog 77 [.pointer (some ⟨sb, 0, none⟩), .int .i64 r, .int .u64 x, .string (str v)] [Store sb db S, Disk db D] (fun u H => ∃ m S' D', u = .tuple #[.int .i64 m, .int .i64 0] ∧ H = [Store sb db S', Disk db D'] ∧ p m S' D')) :
  Does Tryz.prog 76 [.pointer (some ⟨b1, 0, none⟩), .pointer (some ⟨b2, 0, none⟩), .pointer (some ⟨b3, 0, none⟩)] [tx t sb r 0 false, cl b1 24 [.pointer (some ⟨t, 0, none⟩)], cl b2 78 [.int .u64 x], cl b3 9 [.string (str v)], Store sb db S, Disk db D]
   (fun u H => ∃ y : Int × Sh × Dk, p y.1 y.2.1 y.2.2 ∧ u = .tuple #[.bool true, .int .i64 0] ∧ H = [tx t sb y.1 0 false, cl b1 24 [.pointer (some ⟨t, 0, none⟩)], cl b2 78 [.int .u64 x], cl b3 9 [.string (str v)], Store sb db y.2.1, Disk db y.2.2]) := by
 refine does_of Tryz.func76 Tryz.ntmps76 rfl rfl rfl (fun w0 F0 => ?_)
 (repeat (first|refine g_seq (h:=?_)|refine g_region (h:=?_)|refine l_nil (h:=?_)|refine n_then (h:=?_)|refine l_pures1 (h:=?_)))
 (refine g_draw [tx t sb r 0 false, cl b1 24 [.pointer (some ⟨t, 0, none⟩)], cl b2 78 [.int .u64 x], cl b3 9 [.string (str v)]] (h := a_pass2 (h:=?_)))
 (repeat' (first|refine g_seq (h:=?_)|refine g_region (h:=?_)|refine l_nil (h:=?_)|refine n_then (h:=?_)|refine l_pures1 (h:=?_)|(refine l_atc ?_; refine l_call_ (hp) ?_; rintro _ _ _ ⟨m, S', D', rfl, rfl, hP⟩ he; cases he)|refine l_load (h:=?_)|refine l_store (h:=?_)|refine g_ret (h:=?_)|refine a_done (h:=?_)|refine a_load (h := a_pass2 (h:=?_))|refine a_one (h:=?_)|refine n_any (h := a_pass2 (h:=?_))|refine g_cond_t (h:=?_)))
 refine r_retk [tx t sb m 0 false, cl b1 24 [.pointer (some ⟨t, 0, none⟩)], cl b2 78 [.int .u64 x], cl b3 9 [.string (str v)], Store sb db S', Disk db D'] ?_
 exact ⟨(m, S', D'), hP, rfl, rfl⟩
theorem txDel1 (t sb db b1 b2 x : Nat) (r : Int) (S : Sh) (D : Dk) (ok : Bool) (p : Int → Sh → Dk → Prop)
  (hp : Does Tryz.prog 75 [.pointer (some ⟨sb, 0, none⟩), .int .i64 r, .int .u64 x] [Store sb db S, Disk db D] (fun u H => ∃ m S' D', u = .tuple #[.int .i64 m, .bool ok, .int .i64 0] ∧ H = [Store sb db S', Disk db D'] ∧ p m S' D')) :
  Does Tryz.prog 74 [.pointer (some ⟨b1, 0, none⟩), .pointer (some ⟨b2, 0, none⟩)] [tx t sb r 0 false, cl b1 24 [.pointer (some ⟨t, 0, none⟩)], cl b2 78 [.int .u64 x], Store sb db S, Disk db D]
   (fun u H => ∃ y : Int × Sh × Dk, p y.1 y.2.1 y.2.2 ∧ u = .tuple #[.bool ok, .int .i64 0] ∧ H = [tx t sb y.1 0 false, cl b1 24 [.pointer (some ⟨t, 0, none⟩)], cl b2 78 [.int .u64 x], Store sb db y.2.1, Disk db y.2.2]) := by
 refine does_of Tryz.func74 Tryz.ntmps74 rfl rfl rfl (fun w0 F0 => ?_)
 (repeat (first|refine g_seq (h:=?_)|refine g_region (h:=?_)|refine l_nil (h:=?_)|refine n_then (h:=?_)|refine l_pures1 (h:=?_)))
 (refine g_draw [tx t sb r 0 false, cl b1 24 [.pointer (some ⟨t, 0, none⟩)], cl b2 78 [.int .u64 x]] (h := a_pass2 (h:=?_)))
 (repeat' (first|refine g_seq (h:=?_)|refine g_region (h:=?_)|refine l_nil (h:=?_)|refine n_then (h:=?_)|refine l_pures1 (h:=?_)|(refine l_atc ?_; refine l_call_ (hp) ?_; rintro _ _ _ ⟨m, S', D', rfl, rfl, hP⟩ he; cases he)|refine l_load (h:=?_)|refine l_store (h:=?_)|refine g_ret (h:=?_)|refine a_done (h:=?_)|refine a_load (h := a_pass2 (h:=?_))|refine a_one (h:=?_)|refine n_any (h := a_pass2 (h:=?_))|refine g_cond_t (h:=?_)))
 refine r_retk [tx t sb m 0 false, cl b1 24 [.pointer (some ⟨t, 0, none⟩)], cl b2 78 [.int .u64 x], Store sb db S', Disk db D'] ?_
 exact ⟨(m, S', D'), hP, rfl, rfl⟩
theorem txGet1 (t sb db b1 b2 b3 x : Nat) (r : Int) (S : Sh) (D : Dk) (o : Option (List UInt8))
  (hp : Does Tryz.prog 69 [.pointer (some ⟨sb, 0, none⟩), .int .i64 r, .int .u64 x] [Store sb db S, Disk db D] (fun u H => u = getV o ∧ H = [Store sb db S, Disk db D])) :
  Does Tryz.prog 68 [.pointer (some ⟨b1, 0, none⟩), .pointer (some ⟨b2, 0, none⟩), .pointer (some ⟨b3, 0, none⟩)] [tx t sb r 0 false, cl b1 24 [.pointer (some ⟨t, 0, none⟩)], cl b2 78 [.int .u64 x], cl b3 9 [.string { data := #[] }], Store sb db S, Disk db D]
   (fun u H => ∃ y : Unit, True ∧ u = .tuple #[.bool o.isSome, .int .i64 0] ∧ H = [tx t sb r 0 false, cl b1 24 [.pointer (some ⟨t, 0, none⟩)], cl b2 78 [.int .u64 x], cl b3 9 [.string (str (o.getD []))], Store sb db S, Disk db D]) := by
 refine does_of Tryz.func68 Tryz.ntmps68 rfl rfl rfl (fun w0 F0 => ?_)
 (repeat (first|refine g_seq (h:=?_)|refine g_region (h:=?_)|refine l_nil (h:=?_)|refine n_then (h:=?_)|refine l_pures1 (h:=?_)))
 (refine g_draw [tx t sb r 0 false, cl b1 24 [.pointer (some ⟨t, 0, none⟩)], cl b2 78 [.int .u64 x]] (h := a_pass2 (h:=?_)))
 (repeat' (first|refine g_seq (h:=?_)|refine g_region (h:=?_)|refine l_nil (h:=?_)|refine n_then (h:=?_)|refine l_pures1 (h:=?_)|(refine l_atc ?_; refine l_call (hp) ?_)|refine l_store (h:=?_)|refine g_ret (h:=?_)|refine a_done (h:=?_)|refine a_load (h := a_pass2 (h:=?_))|refine a_one (h:=?_)|refine n_any (h := a_pass2 (h:=?_))))
 refine r_retk [tx t sb r 0 false, cl b1 24 [.pointer (some ⟨t, 0, none⟩)], cl b2 78 [.int .u64 x], cl b3 9 [.string (str (o.getD []))], Store sb db S, Disk db D] ?_
 exact ⟨(), trivial, rfl, rfl⟩
theorem txScan1 (t sb db b1 b2 b3 b4 x : Nat) (r most : Int) (S : Sh) (D : Dk) (l : List Ent)
  (hp : Does Tryz.prog 93 [.pointer (some ⟨sb, 0, none⟩), .int .i64 r, .int .u64 x, .int .i64 most] [Store sb db S, Disk db D] (fun u H => ∃ p cap, u = .tuple #[.slice p l.length cap, .int .i64 0] ∧ H = [vec 121 2 p l.length cap (entC l), Store sb db S, Disk db D])) :
  Does Tryz.prog 92 [.pointer (some ⟨b1, 0, none⟩), .pointer (some ⟨b2, 0, none⟩), .pointer (some ⟨b3, 0, none⟩), .pointer (some ⟨b4, 0, none⟩)] [tx t sb r 0 false, cl b1 24 [.pointer (some ⟨t, 0, none⟩)], cl b2 78 [.int .u64 x], cl b3 3 [.int .i64 most], cl b4 118 [.slice none 0 0], Store sb db S, Disk db D]
   (fun u H => ∃ y : Option Addr × Nat, True ∧ u = .tuple #[.bool true, .int .i64 0] ∧ H = [tx t sb r 0 false, cl b1 24 [.pointer (some ⟨t, 0, none⟩)], cl b2 78 [.int .u64 x], cl b3 3 [.int .i64 most], cl b4 118 [.slice y.1 l.length y.2], vec 121 2 y.1 l.length y.2 (entC l), Store sb db S, Disk db D]) := by
 refine does_of Tryz.func92 Tryz.ntmps92 rfl rfl rfl (fun w0 F0 => ?_)
 (repeat (first|refine g_seq (h:=?_)|refine g_region (h:=?_)|refine l_nil (h:=?_)|refine n_then (h:=?_)|refine l_pures1 (h:=?_)))
 (refine g_draw [tx t sb r 0 false, cl b1 24 [.pointer (some ⟨t, 0, none⟩)], cl b2 78 [.int .u64 x], cl b3 3 [.int .i64 most]] (h := a_pass2 (h:=?_)))
 (repeat' (first|refine g_seq (h:=?_)|refine g_region (h:=?_)|refine l_nil (h:=?_)|refine n_then (h:=?_)|refine l_pures1 (h:=?_)|(refine l_atc ?_; refine l_call_ (hp) ?_; rintro _ _ _ ⟨q, cap, rfl, rfl⟩ he; cases he)|refine l_store (h:=?_)|refine g_ret (h:=?_)|refine a_done (h:=?_)|refine a_load (h := a_pass2 (h:=?_))|refine a_one (h:=?_)|refine n_any (h := a_pass2 (h:=?_))))
 refine r_retk [tx t sb r 0 false, cl b1 24 [.pointer (some ⟨t, 0, none⟩)], cl b2 78 [.int .u64 x], cl b3 3 [.int .i64 most], cl b4 118 [.slice q l.length cap], vec 121 2 q l.length cap (entC l), Store sb db S, Disk db D] ?_
 exact ⟨(q, cap), trivial, rfl, rfl⟩
set_option maxHeartbeats 2000000 in
theorem tGet_does (P : TxP) (T : List Ent) (x : Nat) : Does Tryz.prog 36 [.pointer (some ⟨P.t, 0, none⟩), .int .u64 x] [Tx P T] (fun v H => v = optV (getE T x) ∧ H = [Tx P T]) := by
 refine does_of Tryz.func36 Tryz.ntmps36 rfl rfl rfl (fun w0 F0 => ?_)
 refine g_open (A := Tx P T) (h:=?_); (rintro ⟨r, S, D⟩ k; dsimp only [TxK, List.cons_append, List.nil_append])
 have hg := get_tree P.sb P.db x P.N r P.U T S D k.st.fine k.tree
 (repeat (first|refine g_seq (h:=?_)|refine g_region (h:=?_)|refine l_nil (h:=?_)|refine n_then (h:=?_)|refine l_pures1 (h:=?_)|refine l_load (h:=?_)|(refine l_box (h:=?_); intro _)|(refine l_alloc (h:=?_); intro _)))
 rename_i b1 b2 b3
 have h1 := txDoes5 P.t P.sb _ _ r (fun _ : Unit => True) (fun _ => (getE T x).isSome) (fun _ => r) _ _ _ _ _ (fun _ => _) (fun _ => _) (fun _ => _) (fun _ => _) (fun _ => _) (txGet1 P.t P.sb P.db b1 b2 b3 x r S D (getE T x) hg)
 (repeat' (first|refine g_seq (h:=?_)|refine g_region (h:=?_)|refine l_nil (h:=?_)|refine n_then (h:=?_)|refine l_pures1 (h:=?_)|(refine l_atc ?_; refine l_call_ (h1) ?_; rintro _ _ _ ⟨y, hy, rfl, rfl⟩ he; cases he)|refine l_load (h:=?_)|refine l_store (h:=?_)|refine g_ret (h:=?_)))
 (refine n_shut (A := Tx P T) (K := TxK P T ((r, S, D))) (hid_shuts ((r, S, D)) k) (h:=?_) (p := by dsimp only [TxK]; (try simp only [List.map_nil, List.length_nil, List.length_set, List.length_append, List.length_cons, List.length_singleton, List.map_append, List.map_cons, Nat.zero_add]); exact parts_of))
 refine r_retk [Tx P T] ?_
 exact ⟨rfl, rfl⟩
set_option maxHeartbeats 2000000 in
theorem tPutOf (P : TxP) (T T' : List Ent) (x : Nat) (v : List UInt8) (hv : v.length ≤ 40)
  (hp : ∀ r S D, TxI P T (r, S, D) → Does Tryz.prog 77 [.pointer (some ⟨P.sb, 0, none⟩), .int .i64 r, .int .u64 x, .string (str v)] [Store P.sb P.db S, Disk P.db D] (fun u H => ∃ m S' D', u = .tuple #[.int .i64 m, .int .i64 0] ∧ H = [Store P.sb P.db S', Disk P.db D'] ∧ TxI P T' (m, S', D'))) :
  Does Tryz.prog 43 [.pointer (some ⟨P.t, 0, none⟩), .int .u64 x, .string (str v)] [Tx P T] (fun u H => u = .bool true ∧ H = [Tx P T']) := by
 refine does_of Tryz.func43 Tryz.ntmps43 rfl rfl rfl (fun w0 F0 => ?_)
 refine g_open (A := Tx P T) (h:=?_); (rintro ⟨r, S, D⟩ k; dsimp only [TxK, List.cons_append, List.nil_append])
 have hp := hp r S D k
 (repeat (first|refine g_seq (h:=?_)|refine g_region (h:=?_)|refine l_nil (h:=?_)|refine n_then (h:=?_)|refine l_pures1 (h:=?_)|refine l_load (h:=?_)|(refine l_box (h:=?_); intro _)))
 rename_i b1 b2 b3
 have h1 := txDoes5 P.t P.sb _ _ r _ (fun _ => true) (fun y : Int × Sh × Dk => y.1) _ _ _ _ _ (fun _ => _) (fun _ => _) (fun _ => _) (fun y => Store P.sb P.db y.2.1) (fun y => Disk P.db y.2.2) (txPut1 P.t P.sb P.db b1 b2 b3 x v r S D _ hp)
 (repeat' (first|refine l_nil (h:=?_)|refine n_then (h:=?_)|refine l_pures1 (h:=?_)|(refine l_atc ?_; refine l_call_ (h1) ?_; rintro _ _ _ ⟨⟨r', S', D'⟩, hy, rfl, rfl⟩ he; cases he)|refine l_guard_yes (h:=?_)|refine l_load (h:=?_)|refine g_ret (h:=?_)|(refine l_spT (h:=?_); intro h)))
 (refine n_shut (A := Tx P T') (K := TxK P T' ((r', S', D'))) (hid_shuts ((r', S', D')) hy) (h:=?_) (p := by dsimp only [TxK]; (try simp only [List.map_nil, List.length_nil, List.length_set, List.length_append, List.length_cons, List.length_singleton, List.map_append, List.map_cons, Nat.zero_add]); exact parts_of))
 refine r_retk [Tx P T'] ?_
 exact ⟨rfl, rfl⟩
theorem tPut_does (P : TxP) (T : List Ent) (x : Nat) (v : List UInt8) (hx : x < 18446744073709551616) (hv : v.length ≤ 40) (room : P.room T) : Does Tryz.prog 43 [.pointer (some ⟨P.t, 0, none⟩), .int .u64 x, .string (str v)] [Tx P T] (fun u H => u = .bool true ∧ H = [Tx P (putE T x v)]) :=
 tPutOf P T _ x v hv fun r S D k => by
  refine (put_tree P.sb P.db x P.N v r P.U T S D k.st.fine k.tree hx hv (k.roomy room)).mono ?_
  rintro u H ⟨m, S', D', rfl, rfl, q1, q2, q3, q4⟩
  exact ⟨m, S', D', rfl, rfl, k.put q2 q1 q3 q4⟩
set_option maxHeartbeats 2000000 in
theorem tDelete_does (P : TxP) (T : List Ent) (x : Nat) (room : P.room T) : Does Tryz.prog 42 [.pointer (some ⟨P.t, 0, none⟩), .int .u64 x] [Tx P T] (fun u H => u = .bool (getE T x).isSome ∧ H = [Tx P (delE T x)]) := by
 refine does_of Tryz.func42 Tryz.ntmps42 rfl rfl rfl (fun w0 F0 => ?_)
 refine g_open (A := Tx P T) (h:=?_); (rintro ⟨r, S, D⟩ k; dsimp only [TxK, List.cons_append, List.nil_append])
 have hd : Does Tryz.prog 75 [.pointer (some ⟨P.sb, 0, none⟩), .int .i64 r, .int .u64 x] [Store P.sb P.db S, Disk P.db D] (fun u H => ∃ m S' D', u = .tuple #[.int .i64 m, .bool (getE T x).isSome, .int .i64 0] ∧ H = [Store P.sb P.db S', Disk P.db D'] ∧ TxI P (delE T x) (m, S', D')) := by
  cases hx : getE T x with
  | none =>
   refine (delNo_tree P.sb P.db x P.N r P.U T S D k.st.fine k.tree hx).mono ?_
   rintro v H ⟨rfl, rfl⟩
   refine ⟨r, S, D, rfl, rfl, ?_⟩
   rw [delE_none k.tree.ord hx]
   exact k
  | some u =>
   refine (del_tree P.sb P.db x P.N u r P.U T S D k.st.fine k.tree hx (k.roomy room)).mono ?_
   rintro v H ⟨m, S', D', rfl, rfl, q1, q2, q3, q4⟩
   exact ⟨m, S', D', rfl, rfl, k.put q2 q1 q3 q4⟩
 (repeat (first|refine g_seq (h:=?_)|refine g_region (h:=?_)|refine l_nil (h:=?_)|refine n_then (h:=?_)|refine l_pures1 (h:=?_)|refine l_load (h:=?_)|(refine l_box (h:=?_); intro _)))
 rename_i b1 b2
 have h1 := txDoes4 P.t P.sb _ _ r _ (fun _ => (getE T x).isSome) (fun y : Int × Sh × Dk => y.1) _ _ _ _ (fun _ => _) (fun _ => _) (fun y => Store P.sb P.db y.2.1) (fun y => Disk P.db y.2.2) (txDel1 P.t P.sb P.db b1 b2 x r S D _ _ hd)
 (repeat' (first|refine l_nil (h:=?_)|refine n_then (h:=?_)|refine l_pures1 (h:=?_)|(refine l_atc ?_; refine l_call_ (h1) ?_; rintro _ _ _ ⟨⟨r', S', D'⟩, hy, rfl, rfl⟩ he; cases he)|refine g_ret (h:=?_)))
 (refine n_shut (A := Tx P (delE T x)) (K := TxK P (delE T x) ((r', S', D'))) (hid_shuts ((r', S', D')) hy) (h:=?_) (p := by dsimp only [TxK]; (try simp only [List.map_nil, List.length_nil, List.length_set, List.length_append, List.length_cons, List.length_singleton, List.map_append, List.map_cons, Nat.zero_add]); exact parts_of))
 refine r_retk [Tx P (delE T x)] ?_
 exact ⟨rfl, rfl⟩
set_option maxHeartbeats 2000000 in
theorem tScan_does (P : TxP) (T : List Ent) (x : Nat) (most : Int) (hT : T.length < 10000) (hm : -9223372036854775808 ≤ most ∧ most < 9223372036854775808) : Does Tryz.prog 61 [.pointer (some ⟨P.t, 0, none⟩), .int .u64 x, .int .i64 most] [Tx P T]
  (fun v H => ∃ p cap, v = .slice p ((geE T x).take most.toNat).length cap ∧ H = [vec 121 2 p ((geE T x).take most.toNat).length cap (entC ((geE T x).take most.toNat)), Tx P T]) := by
 refine does_of Tryz.func61 Tryz.ntmps61 rfl rfl rfl (fun w0 F0 => ?_)
 refine g_open (A := Tx P T) (h:=?_); (rintro ⟨r, S, D⟩ k; dsimp only [TxK, List.cons_append, List.nil_append])
 have hs := scan_tree P.sb P.db x P.N r most P.U T S D k.st.fine k.tree hT hm
 (repeat (first|refine g_seq (h:=?_)|refine g_region (h:=?_)|refine l_nil (h:=?_)|refine n_then (h:=?_)|refine l_pures1 (h:=?_)|refine l_load (h:=?_)|(refine l_box (h:=?_); intro _)|(refine l_alloc (h:=?_); intro _)))
 rename_i b1 b2 b3 b4
 have h1 := txDoes6 P.t P.sb _ _ r (fun _ : Option Addr × Nat => True) (fun _ => true) (fun _ => r) _ _ _ _ _ _ (fun _ => _) (fun _ => _) (fun _ => _) (fun y => _) (fun y => _) (fun _ => _) (fun _ => _) (txScan1 P.t P.sb P.db b1 b2 b3 b4 x r most S D _ hs)
 (repeat' (first|refine g_seq (h:=?_)|refine g_region (h:=?_)|refine l_nil (h:=?_)|refine n_then (h:=?_)|(refine l_atc ?_; refine l_call_ (h1) ?_; rintro _ _ _ ⟨⟨q, cap⟩, hy, rfl, rfl⟩ he; cases he)|refine l_load (h:=?_)|refine l_store (h:=?_)|refine g_ret (h:=?_)))
 (refine n_shut (A := Tx P T) (K := TxK P T ((r, S, D))) (hid_shuts ((r, S, D)) k) (h:=?_) (p := by dsimp only [TxK]; (try simp only [List.map_nil, List.length_nil, List.length_set, List.length_append, List.length_cons, List.length_singleton, List.map_append, List.map_cons, Nat.zero_add]); exact parts_of))
 refine r_retk [vec 121 2 q ((geE T x).take most.toNat).length cap (entC ((geE T x).take most.toNat)), Tx P T] ?_
 exact ⟨q, cap, rfl, rfl⟩
theorem tErr_does (P : TxP) (T : List Ent) : Does Tryz.prog 25 [.pointer (some ⟨P.t, 0, none⟩)] [Tx P T] (fun v H => v = .int .i64 0 ∧ H = [Tx P T]) := by
 refine does_of Tryz.func25 Tryz.ntmps25 rfl rfl rfl (fun w0 F0 => ?_)
 refine g_open (A := Tx P T) (h:=?_); (rintro ⟨r, S, D⟩ k; dsimp only [TxK, List.cons_append, List.nil_append])
 (repeat' (first|refine g_seq (h:=?_)|refine g_region (h:=?_)|refine l_nil (h:=?_)|refine n_then (h:=?_)|refine l_pures1 (h:=?_)|refine l_load (h:=?_)|refine g_ret (h:=?_)))
 (refine n_shut (A := Tx P T) (K := TxK P T ((r, S, D))) (hid_shuts ((r, S, D)) k) (h:=?_) (p := by dsimp only [TxK]; (try simp only [List.map_nil, List.length_nil, List.length_set, List.length_append, List.length_cons, List.length_singleton, List.map_append, List.map_cons, Nat.zero_add]); exact parts_of))
 refine r_retk [Tx P T] ?_
 exact ⟨rfl, rfl⟩
end Go.Proofs.YtelfjhemnnbbpaaGreat
set_option maxRecDepth 20000
namespace Go.Proofs.YtelfjhemnnbbpaaGreat
open Go.Proofs.YtelfjhemnnbbpaaGreat.SL
def StR (P : TxP) (y : Sh × Dk) : Prop := StI P y ∧ y.1.fresh = [] ∧ y.1.given = []
def StoK (P : TxP) (y : Sh × Dk) : List SProp := [Store P.sb P.db y.1, Disk P.db y.2]
def Sto (P : TxP) : SProp := hid (StR P) (StoK P)
theorem StI.roll {P : TxP} {S : Sh} {D : Dk} (k : StI P (S, D)) : StR P (S.roll, D) := ⟨⟨k.fine.roll, k.gen, k.old⟩, rfl, rfl⟩
def TxP.at (P : TxP) (t : Nat) : TxP := ⟨t, P.sb, P.db, P.N, P.U, P.g, P.T0⟩
set_option maxHeartbeats 2000000 in
theorem begin_does (P : TxP) : Does Tryz.prog 28 [.pointer (some ⟨P.sb, 0, none⟩)] [Sto P] (fun v H => ∃ t, v = .pointer (some ⟨t, 0, none⟩) ∧ H = [Tx (P.at t) P.T0]) := by
 refine does_of Tryz.func28 Tryz.ntmps28 rfl rfl rfl (fun w0 F0 => ?_)
 refine g_open (A := Sto P) (h:=?_); (rintro ⟨S, D⟩ ⟨k, hf, hv⟩; dsimp only [StoK, List.cons_append, List.nil_append])
 have hrt : Does Tryz.prog 56 [.pointer (some ⟨P.sb, 0, none⟩)] [Store P.sb P.db S.roll] (fun v H => v = .int .i64 S.root ∧ H = [Store P.sb P.db S.roll]) := sRoot_does P.sb P.db S.roll
 (repeat' (first|refine g_seq (h:=?_)|refine g_region (h:=?_)|refine l_nil (h:=?_)|refine n_then (h:=?_)|refine l_pures1 (h:=?_)|(refine l_atc ?_; refine l_call (sRollback_does P.sb P.db S) ?_)|(refine l_atc ?_; refine l_call (hrt) ?_)|(refine l_box (h:=?_); intro _)|refine g_ret (h:=?_)))
 rename_i t
 (refine n_shut (A := Tx (P.at t) P.T0) (K := TxK (P.at t) P.T0 ((S.root, S.roll, D))) (hid_shuts ((S.root, S.roll, D)) (⟨⟨k.fine.roll, k.gen, k.old⟩, k.old⟩)) (h:=?_) (p := by dsimp only [TxK]; (try simp only [List.map_nil, List.length_nil, List.length_set, List.length_append, List.length_cons, List.length_singleton, List.map_append, List.map_cons, Nat.zero_add, TxP.at]); exact parts_of))
 refine r_retk [Tx (P.at t) P.T0] ?_
 exact ⟨t, rfl, rfl⟩
def TxP.next (P : TxP) (U : List Int) (T : List Ent) : TxP := ⟨P.t, P.sb, P.db, P.N, U, P.g + 1, T⟩
def TxP.new (t sb db n : Nat) : TxP := ⟨t, sb, db, n, [], headNew.over.gen, []⟩
theorem sto_new {sb db n : Nat} {E : Dk} (k : Tr n headNew.over E [] 0 [] 0) : StR (TxP.new 0 sb db n) (headNew.over, E) := ⟨⟨k.fine, rfl, k.tree⟩, rfl, rfl⟩
end Go.Proofs.YtelfjhemnnbbpaaGreat
set_option maxRecDepth 20000
namespace Go.Proofs.YtelfjhemnnbbpaaGreat
open Go.Proofs.YtelfjhemnnbbpaaGreat.SL
end Go.Proofs.YtelfjhemnnbbpaaGreat

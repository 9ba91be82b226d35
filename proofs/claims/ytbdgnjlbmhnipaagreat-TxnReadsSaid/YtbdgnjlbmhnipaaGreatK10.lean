/- Texts TrSa, TrSb, TrSc, TrDa, TrDb, TrDc, TrDd, TrDe, TrDf, TrDg, TrDh, TlP, TxA, TxB, joined. -/
import Derived.Test.YtbdgnjlbmhnipaaGreatK09
/- Package tree: from, the keys from one on, handed to a consumer. -/
set_option maxRecDepth 20000
set_option linter.unusedVariables false
set_option linter.unusedSimpArgs false
namespace Go.Proofs.YtbdgnjlbmhnipaaGreat
open Go.Proofs.YtbdgnjlbmhnipaaGreat.SL

abbrev entV (e : Ent) : Value := .agg #[.int .u64 (e.1 : Nat), .string (str e.2)]
/-- What a consumer has when it is fed: it may stop. -/
def feed (stop : List Ent → Bool) : List Ent → List Ent → List Ent × Bool
  | dn, [] => (dn, false)
  | dn, e :: es => if stop (dn ++ [e]) then (dn ++ [e], true) else feed stop (dn ++ [e]) es
theorem feed_append (stop : List Ent → Bool) : ∀ (a b dn : List Ent), feed stop dn (a ++ b) = if (feed stop dn a).2 then feed stop dn a else feed stop (feed stop dn a).1 b
  | [], b, dn => by simp [feed]
  | e :: a, b, dn => by
    simp only [List.cons_append, feed]
    split
    · simp
    · exact feed_append stop a b _
theorem feed_len (stop : List Ent → Bool) : ∀ (es dn : List Ent), (feed stop dn es).1.length ≤ dn.length + es.length
  | [], dn => by simp [feed]
  | e :: es, dn => by
    simp only [feed]
    split
    · simp
    · have := feed_len stop es (dn ++ [e])
      simp only [List.length_append, List.length_cons, List.length_nil] at *
      omega
def geE (es : List Ent) (x : Nat) : List Ent := es.filter fun e => decide (x ≤ e.1)
theorem geE_append (a b : List Ent) (x : Nat) : geE (a ++ b) x = geE a x ++ geE b x := by simp [geE]

/-- The consumer, going on or stopped. -/
def fedP (C X : List Ent → SProp) (r : List Ent × Bool) : SProp := if r.2 then X r.1 else C r.1

theorem ge_zip : ∀ {ks : List Nat} {vs : List (List UInt8)} {x : Nat}, Rise ks → geE (ks.zip vs) x = (ks.zip vs).drop (posN ks x)
  | [], _, _, _ => by simp [geE]
  | _ :: _, [], _, _ => by simp [geE]
  | k :: ks, v :: vs, x, h => by
    obtain ⟨h1, h2⟩ := List.pairwise_cons.1 h
    have ih := ge_zip (vs := vs) (x := x) h2
    simp only [List.zip_cons_cons, geE, List.filter_cons, posN_cons]
    by_cases q : k < x
    · rw [if_neg (by simp; omega), if_pos q, List.drop_succ_cons]; exact ih
    · rw [if_pos (by simp; omega), if_neg q, List.drop_zero]
      congr 1
      refine List.filter_eq_self.2 fun e he => ?_
      have := h1 _ (zip_fst_mem he)
      simp; omega

set_option maxHeartbeats 4000000 in
theorem from_leaf (b sb db x N l : Nat) (C X : List Ent → SProp) (stop : List Ent → Bool) (hY : ∀ dn e, dn.length < 100000 → SL.Yields Tryz.prog l [entV e] [C dn] (fun v H => v = .bool (!stop (dn ++ [e])) ∧ H = [if stop (dn ++ [e]) then X (dn ++ [e]) else C (dn ++ [e])]))
    (deep : Nat) (pg read : Int) (S : Sh) (D : Dk) (d : Nd) (hd : d.good) (hlf : d.leaf = true) (hr : S.read D pg = ((2, d.text, 0), S)) (h1 : 0 ≤ read ∧ read < 640) (h2 : deep ≤ 10) (dn : List Ent) (hdl : dn.length + d.ents.length ≤ 100000) :
    Does Tryz.prog 126 [.pointer (some ⟨b, 0, none⟩), .int .i64 pg, .int .i64 deep, .int .u64 x, .func (.yield l) #[] #[]] [C dn, Wk b sb read 0, Store sb db S, Disk db D]
      (fun v H => v = .bool (!(feed stop dn (geE d.ents x)).2) ∧ H = [fedP C X (feed stop dn (geE d.ents x)), Wk b sb (read + 1) 0, Store sb db S, Disk db D]) := by
  have hn := wNode_does b sb db deep pg read S D d hd hr h1 h2
  have hF := fun r => Find_does d r x hd.fits hd.p.rise
  simp only [hlf, if_true] at hF
  refine does_of Tryz.func126 Tryz.ntmps126 rfl rfl rfl (fun w0 F0 => ?_)
  (repeat' (first | refine g_seq (h := ?_) | refine g_region (h := ?_) | refine l_nil (h := ?_) | refine n_then (h := ?_) | refine l_pures1 (h := ?_) | (refine l_atc ?_; refine l_call_ (hn) ?_; rintro _ _ _ ⟨r, rfl, rfl⟩ he; cases he) | (refine l_atc ?_; refine l_call (hF _) ?_) | refine l_load (h := ?_) | refine l_store (h := ?_) | (refine l_alloc (h := ?_); intro _) | refine g_skip (h := ?_) | refine g_block (h := ?_) | refine g_cond_f (h := ?_) | (refine g_sp (h1 := ?_) (h0 := ?_) <;> intro h)))
  · exact absurd h (by rw [hlf]; simp)
  rename_i b11
  have hv := valsLen hd.p hlf
  have hne := hd.some hlf
  have hfk := hd.fits.k
  have hpos := posN_le d.keys x
  have hel : d.ents.length = d.keys.length := by simp [Nd.ents, hv]
  obtain ⟨p1, c1, p2, c2, p3, c3⟩ := r
  refine g_open (A := Nds d ⟨p1, c1, p2, c2, p3, c3⟩) (h := ?_); (rintro _ _; dsimp only [NdsK, List.cons_append, List.nil_append])
  refine g_ptr (m := d.keys.length) (h := ?_); rintro g1 rfl hc1
  refine g_ptr (m := d.vals.length) (h := ?_); rintro g2 rfl hc2
  (refine g_loop (fun y : Nat × List Ent => [(12, .int .i64 y.1), (11, .pointer (some ⟨b11, 0, none⟩)), (4, .func (.yield l) #[] #[])]) (fun y => [C y.2, vec 32 1 (some ⟨g1, 0, none⟩) d.keys.length c1 (uV d.keys), vec 9 1 (some ⟨g2, 0, none⟩) d.vals.length c2 (d.vals.map encS), cl b11 140 [.bool d.leaf, .slice (some ⟨g1, 0, none⟩) d.keys.length c1, .slice (some ⟨g2, 0, none⟩) d.vals.length c2, .slice p3 d.kids.length c3], Wk b sb (read + 1) 0, Store sb db S, Disk db D]) (fun y => y.1 ≤ d.keys.length ∧ feed stop dn (geE d.ents x) = feed stop y.2 (d.ents.drop y.1) ∧ y.2.length + (d.ents.length - y.1) ≤ 100000) (fun y => d.keys.length - y.1) ((posN d.keys x, dn)) ?_ ?_ ?_ ?_; rotate_left; (repeat (first | refine ts_nil | (refine ts_cons rfl ?_ ?_; first | (with_reducible rfl) | rotate_left))); (first | (intro _ i; with_reducible refine i) | rotate_left); rotate_left; (try omega); rotate_right)
  · rintro ⟨j, dn'⟩ ⟨hj, hf, hdl'⟩
    dsimp only at hj hf hdl' ⊢
    by_cases hjl : j < d.keys.length
    · have hgk := uGet (l := d.keys) (k := j) hjl
      have hgs := sGet (l := d.vals) (k := j) (by omega)
      obtain ⟨e, he⟩ : ∃ e : Ent, e = (d.keys.getD j 0, d.vals.getD j []) := ⟨_, rfl⟩
      have hdr : d.ents.drop j = e :: d.ents.drop (j + 1) := by
        rw [List.drop_eq_getElem_cons (by omega), he]
        simp [Nd.ents, List.getD, hjl, hv]
      have hYj := hY dn' e (by omega)
      rw [he] at hYj
      (repeat' (first | refine g_seq (h := ?_) | refine g_region (h := ?_) | refine l_nil (h := ?_) | refine n_then (h := ?_) | refine l_pures1 (h := ?_) | refine l_load (h := ?_) | refine g_skip (h := ?_) | refine g_block (h := ?_) | (refine g_spT (h := ?_); intro h)))
      refine g_draw_at 12 [vec 32 1 (some ⟨g1, 0, none⟩) d.keys.length c1 (uV d.keys), vec 9 1 (some ⟨g2, 0, none⟩) d.vals.length c2 (d.vals.map encS), cl b11 140 [.bool d.leaf, .slice (some ⟨g1, 0, none⟩) d.keys.length c1, .slice (some ⟨g2, 0, none⟩) d.vals.length c2, .slice p3 d.kids.length c3]] (h := a_pass2 (h := ?_))
      cases hst : stop (dn' ++ [e])
      · rw [← he, hst] at hYj
        simp only [Bool.not_false, Bool.false_eq_true, if_false] at hYj
        rw [he] at hYj
        (repeat (first | (refine lw_i ?_; refine lw_yield (hYj) (h := ?_); rintro _ _ _ ⟨rfl, rfl⟩ he; cases he) | refine g_region (h := ?_) | refine l_nil (h := ?_) | refine n_then (h := ?_) | refine l_pures1 (h := ?_) | refine g_skip (h := ?_) | refine a_done (h := ?_) | refine a_load (h := a_pass2 (h := ?_)) | refine a_one (h := ?_) | refine n_any (h := a_pass2 (h := ?_)) | refine a_v (h := ?_) | refine n_block (h := ?_) | refine g_cond_f (h := ?_) | refine l_load_vec (h := ?_) | refine a_load_vec (h := a_pass2 (h := ?_)) | refine n_lw (h := ?_) | refine lw_nil (h := ?_) | refine lw_step (h := ?_)))
        (refine n_back ((j + 1, dn' ++ [(d.keys.getD j 0, d.vals.getD j [])])) ?_ ?_ ?_ ?_; rotate_left; rotate_left; (repeat (first | refine ts_nil | (refine ts_cons rfl ?_ ?_; first | (with_reducible rfl) | rotate_left))); (first | (intro _ i; with_reducible refine i) | rotate_left); (try omega); (try omega))
        · refine ⟨hjl, ?_, by dsimp only; rw [List.length_append, List.length_singleton]; omega⟩
          rw [hf, hdr, feed, hst, he]; rfl
        · dsimp only; omega
        · rw [wrapI64 (by omega)] <;> rfl
      · rw [← he, hst] at hYj
        simp only [Bool.not_true, if_true] at hYj
        rw [he] at hYj
        (repeat (first | (refine lw_i ?_; refine lw_yield (hYj) (h := ?_); rintro _ _ _ ⟨rfl, rfl⟩ he; cases he) | refine g_seq (h := ?_) | refine g_region (h := ?_) | refine l_nil (h := ?_) | refine n_then (h := ?_) | refine l_pures1 (h := ?_) | refine g_ret (h := ?_) | refine n_then_ret (h := ?_) | refine n_block_ret (h := ?_) | refine a_done (h := ?_) | refine a_load (h := a_pass2 (h := ?_)) | refine a_one (h := ?_) | refine n_any (h := a_pass2 (h := ?_)) | refine a_v (h := ?_) | refine g_cond_t (h := ?_) | refine l_load_vec (h := ?_) | refine a_load_vec (h := a_pass2 (h := ?_)) | refine n_lw (h := ?_) | refine lw_nil (h := ?_) | refine lw_step (h := ?_)))
        have hfe : feed stop dn (geE d.ents x) = (dn' ++ [(d.keys.getD j 0, d.vals.getD j [])], true) := by rw [hf, hdr, feed, hst, he]; rfl
        refine r_retk [X (dn' ++ [(d.keys.getD j 0, d.vals.getD j [])]), Wk b sb (read + 1) 0, Store sb db S, Disk db D] ?_
        rw [hfe]
        exact ⟨rfl, rfl⟩
    · have hfe : feed stop dn (geE d.ents x) = (dn', false) := by rw [hf, List.drop_eq_nil_of_le (by omega)]; rfl
      (repeat' (first | refine g_seq (h := ?_) | refine g_region (h := ?_) | refine l_nil (h := ?_) | refine n_then (h := ?_) | refine l_pures1 (h := ?_) | refine l_load (h := ?_) | refine g_ret (h := ?_) | refine g_exit (h := ?_) | refine n_then_exit (h := ?_) | refine n_block_hit (h := ?_) | (refine g_spF (h := ?_); intro h)))
      refine r_retk [C dn', Wk b sb (read + 1) 0, Store sb db S, Disk db D] ?_
      rw [hfe]
      exact ⟨rfl, rfl⟩
  · exact ⟨hpos, by rw [Nd.ents, ge_zip hd.p.rise], by dsimp only; omega⟩
  · intro _ i
    exact inv_keep parts_of i
end Go.Proofs.YtbdgnjlbmhnipaaGreat
/- Package tree: from of a whole tree. -/
set_option maxRecDepth 20000
set_option linter.unusedVariables false
set_option linter.unusedSimpArgs false
namespace Go.Proofs.YtbdgnjlbmhnipaaGreat
open Go.Proofs.YtbdgnjlbmhnipaaGreat.SL

theorem sepL_lt {x : Nat} : ∀ {kl : List Nat} {sl : List Sub}, SepL kl sl → (∀ k ∈ kl, k ≤ x) → ∀ e ∈ Sub.all sl, e.1 < x
  | [], [], _, _, e, he => by simp [Sub.all] at he
  | k :: kl, s :: sl, ⟨h1, h2, h3⟩, hk, e, he => by
    rw [Sub.all_cons, List.mem_append] at he
    rcases he with he | he
    · have := h1 e he
      have := hk k (by simp)
      omega
    · exact sepL_lt h3 (fun k hk' => hk k (by simp [hk'])) e he
theorem geE_none {es : List Ent} {x : Nat} (h : ∀ e ∈ es, e.1 < x) : geE es x = [] := by
  refine List.filter_eq_nil_iff.2 fun e he => ?_
  have := h e he
  simp; omega
theorem all2_get {α β : Type} {R : α → β → Prop} : ∀ {l : List α} {m : List β} {i : Nat} {a : α}, All2 R l m → l[i]? = some a → ∃ b, m[i]? = some b ∧ R a b
  | [], [], i, a, _, h => by simp at h
  | x :: l, y :: m, 0, a, q, h => by simp only [List.getElem?_cons_zero, Option.some.injEq] at h ⊢; subst h; exact ⟨y, rfl, q.1⟩
  | x :: l, y :: m, i + 1, a, q, h => by simp only [List.getElem?_cons_succ] at h ⊢; exact all2_get q.2 h

set_option maxHeartbeats 4000000 in
theorem from_does (b sb db x N l : Nat) (C X : List Ent → SProp) (stop : List Ent → Bool) (hY : ∀ dn e, dn.length < 100000 → SL.Yields Tryz.prog l [entV e] [C dn] (fun v H => v = .bool (!stop (dn ++ [e])) ∧ H = [if stop (dn ++ [e]) then X (dn ++ [e]) else C (dn ++ [e])]))
    {S : Sh} {D : Dk} {U : List Int} (k : Fine N S D U) : ∀ (h : Nat) (d : Nd) (es : List Ent) (ps : List Int) (deep : Nat) (pg read : Int) (dn : List Ent), NT (Gd N D) h d es ps → d.good → (d.leaf = false → d.keys ≠ []) → Gd N D pg d → deep + h ≤ 10 → 0 ≤ read → read + ps.length + 1 ≤ 640 → dn.length + es.length ≤ 100000 →
    Does Tryz.prog 126 [.pointer (some ⟨b, 0, none⟩), .int .i64 pg, .int .i64 deep, .int .u64 x, .func (.yield l) #[] #[]] [C dn, Wk b sb read 0, Store sb db S, Disk db D]
      (fun v H => ∃ rd : Int, 0 ≤ rd ∧ rd ≤ read + ps.length + 1 ∧ v = .bool (!(feed stop dn (geE es x)).2) ∧ H = [fedP C X (feed stop dn (geE es x)), Wk b sb rd 0, Store sb db S, Disk db D])
  | 0, d, es, ps, deep, pg, read, dn, n, hd, hne, hg, hdp, hr0, hrd, hdl => by
    obtain ⟨hlf, hp, rfl, rfl⟩ := n
    refine (from_leaf b sb db x N l C X stop hY deep pg read S D d hd hlf (by rw [k.read hg.1, hg.2]) (by simp at hrd; omega) (by omega) dn hdl).mono ?_
    rintro v H ⟨rfl, rfl⟩
    exact ⟨read + 1, by omega, by simp, rfl, rfl⟩
  | hh + 1, d, es, ps, deep, pg, read, dn, n, hd, hne, hg, hdp, hr0, hrd, hdl => by
    have hlf := n.1
    obtain ⟨_, _, ss, f, e, e2, sp⟩ := n
    subst e e2
    have hlen := sp.len
    have hkl := kidsLen hd.p hlf
    obtain ⟨c1', c2', c3'⟩ := cntN_spec (x := x) hd.p.rise
    obtain ⟨i0, hi0⟩ : ∃ i0, i0 = cntN d.keys x := ⟨_, rfl⟩
    rw [← hi0] at c1' c2' c3'
    have hn := wNode_does b sb db deep pg read S D d hd (by rw [k.read hg.1, hg.2]) (by omega) (by omega)
    have hF := fun r => Find_does d r x hd.fits hd.p.rise
    simp only [hlf, Bool.false_eq_true, if_false, ← hi0] at hF
    have hfk := hd.fits.k
    have h0 : geE (Sub.all (ss.take i0)) x = [] := by
      refine geE_none (sepL_lt (kl := d.keys.take i0) (sl := ss.take i0) ?_ c2')
      have := (sep_app (kl := d.keys.take i0) (kr := d.keys.drop i0) (sl := ss.take i0) (sr := ss.drop i0) (by simp; omega)).1 (by rw [List.take_append_drop, List.take_append_drop]; exact sp)
      exact this.1
    have hall : geE (Sub.all ss) x = geE (Sub.all (ss.drop i0)) x := by
      have : Sub.all ss = Sub.all (ss.take i0) ++ Sub.all (ss.drop i0) := by rw [← Sub.all_append, List.take_append_drop]
      rw [this, geE_append, h0, List.nil_append]
    have hpl : (Sub.pages (ss.drop i0)).length ≤ (Sub.pages ss).length := by
      have : Sub.pages ss = Sub.pages (ss.take i0) ++ Sub.pages (ss.drop i0) := by rw [← Sub.pages_append, List.take_append_drop]
      rw [this, List.length_append]; omega
    have hal : (Sub.all (ss.drop i0)).length ≤ (Sub.all ss).length := by
      have : Sub.all ss = Sub.all (ss.take i0) ++ Sub.all (ss.drop i0) := by rw [← Sub.all_append, List.take_append_drop]
      rw [this, List.length_append]; omega
    refine does_of Tryz.func126 Tryz.ntmps126 rfl rfl rfl (fun w0 F0 => ?_)
    (repeat' (first | refine g_seq (h := ?_) | refine g_region (h := ?_) | refine l_nil (h := ?_) | refine n_then (h := ?_) | refine l_pures1 (h := ?_) | (refine l_atc ?_; refine l_call_ (hn) ?_; rintro _ _ _ ⟨r, rfl, rfl⟩ he; cases he) | (refine l_atc ?_; refine l_call (hF _) ?_) | refine l_load (h := ?_) | refine l_store (h := ?_) | (refine l_alloc (h := ?_); intro _) | refine g_skip (h := ?_) | refine g_block (h := ?_) | refine g_cond_f (h := ?_) | (refine g_sp (h1 := ?_) (h0 := ?_) <;> intro h)))
    rotate_left
    · exact absurd h (by rw [hlf]; simp)
    rename_i b11
    obtain ⟨p1, q1, p2, q2, p3, q3⟩ := r
    refine g_open (A := Nds d ⟨p1, q1, p2, q2, p3, q3⟩) (h := ?_); (rintro _ _; dsimp only [NdsK, List.cons_append, List.nil_append])
    refine g_ptr (m := d.kids.length) (h := ?_); rintro g3 rfl hc3
    (refine g_loop (fun y : Nat × List Ent × Int => [(12, .int .i64 y.1), (11, .pointer (some ⟨b11, 0, none⟩)), (4, .func (.yield l) #[] #[]), (3, .int .u64 x), (2, .int .i64 deep), (0, .pointer (some ⟨b, 0, none⟩))]) (fun y => [C y.2.1, vec 3 1 (some ⟨g3, 0, none⟩) d.kids.length q3 (d.kids.map encZ'), cl b11 140 [.bool d.leaf, .slice p1 d.keys.length q1, .slice p2 d.vals.length q2, .slice (some ⟨g3, 0, none⟩) d.kids.length q3], Wk b sb y.2.2 0, Store sb db S, Disk db D]) (fun y => y.1 ≤ d.kids.length ∧ feed stop dn (geE (Sub.all ss) x) = feed stop y.2.1 (geE (Sub.all (ss.drop y.1)) x) ∧ 0 ≤ y.2.2 ∧ y.2.2 + (Sub.pages (ss.drop y.1)).length ≤ read + 1 + (Sub.pages ss).length ∧ y.2.1.length + (Sub.all (ss.drop y.1)).length ≤ 100000) (fun y => d.kids.length - y.1) ((i0, dn, read + 1)) ?_ ?_ ?_ ?_; rotate_left; (repeat (first | refine ts_nil | (refine ts_cons rfl ?_ ?_; first | (with_reducible rfl) | rotate_left))); (first | (intro _ i; with_reducible refine i) | rotate_left); rotate_left; (try omega); rotate_right)
    · rintro ⟨j, dn', rd⟩ ⟨hj, hf, hr1, hr2, hr3⟩
      dsimp only at hj hf hr1 hr2 hr3 ⊢
      by_cases hjl : j < d.kids.length
      · have hgk := iGet (l := d.kids) (k := j) hjl
        obtain ⟨s, hs, d', ps', a1, a2, a3, a4, a5⟩ := all2_get f (List.getElem?_eq_getElem hjl)
        have hkid : d.kids.getD j 0 = d.kids[j] := by simp [List.getD, hjl]
        have hdr : ss.drop j = s :: ss.drop (j + 1) := by
          have hjs : j < ss.length := (List.getElem?_eq_some_iff.1 hs).1
          rw [List.drop_eq_getElem_cons hjs]
          congr 1
          rw [List.getElem?_eq_getElem hjs] at hs
          exact Option.some.inj hs
        rw [hdr, Sub.pages_cons, List.length_append, a5, List.length_cons] at hr2
        rw [hdr, Sub.all_cons, List.length_append] at hr3
        have hfl := feed_len stop (geE s.es x) dn'
        have hgl : (geE s.es x).length ≤ s.es.length := List.length_filter_le _ _
        have ih := from_does b sb db x N l C X stop hY k hh d' s.es ps' (deep + 1) d.kids[j] rd dn' a4 a2 a3 a1 (by omega) hr1 (by omega) (by omega)
        have ew : IntKind.i64.wrap ((deep : Int) + 1) = ((deep + 1 : Nat) : Int) := by rw [wrapI64 (by omega)]; rfl
        rw [← ew, ← hkid] at ih
        have hfs : feed stop dn (geE (Sub.all ss) x) = if (feed stop dn' (geE s.es x)).2 then feed stop dn' (geE s.es x) else feed stop (feed stop dn' (geE s.es x)).1 (geE (Sub.all (ss.drop (j + 1))) x) := by
          rw [hf, hdr, Sub.all_cons, geE_append, feed_append]
        obtain ⟨⟨dn2, st⟩, hfd⟩ : ∃ r, feed stop dn' (geE s.es x) = r := ⟨_, rfl⟩
        rw [hfd] at ih hfs hfl
        dsimp only at hfl
        cases st
        · simp only [fedP, Bool.false_eq_true, if_false, Bool.not_false] at ih hfs
          (repeat' (first | refine g_seq (h := ?_) | refine g_region (h := ?_) | refine l_nil (h := ?_) | refine n_then (h := ?_) | refine l_pures1 (h := ?_) | (refine l_atc ?_; refine l_call_ (ih) ?_; rintro _ _ _ ⟨rd2, v1, v2, rfl, rfl⟩ he; cases he) | refine l_load (h := ?_) | refine l_indexAddr (h := ?_) | refine g_skip (h := ?_) | refine g_block (h := ?_) | refine n_block (h := ?_) | refine g_cond_f (h := ?_) | refine l_load_vec (h := ?_) | (refine g_spT (h := ?_); intro h)))
          (refine n_back ((j + 1, dn2, rd2)) ?_ ?_ ?_ ?_; rotate_left; rotate_left; (repeat (first | refine ts_nil | (refine ts_cons rfl ?_ ?_; first | (with_reducible rfl) | rotate_left))); (first | (intro _ i; with_reducible refine i) | rotate_left); (try omega); (try omega))
          · exact ⟨hjl, by rw [hfs], v1, by dsimp only; omega, by dsimp only; omega⟩
          · dsimp only; omega
          · rw [wrapI64 (by omega)] <;> rfl
          · skip
            (intro _ i; exact inv_keep parts_of i)
        · simp only [fedP, if_true, Bool.not_true] at ih hfs
          (repeat' (first | refine g_seq (h := ?_) | refine g_region (h := ?_) | refine l_nil (h := ?_) | refine n_then (h := ?_) | refine l_pures1 (h := ?_) | (refine l_atc ?_; refine l_call_ (ih) ?_; rintro _ _ _ ⟨rd2, v1, v2, rfl, rfl⟩ he; cases he) | refine l_load (h := ?_) | refine l_indexAddr (h := ?_) | refine g_skip (h := ?_) | refine g_ret (h := ?_) | refine n_then_ret (h := ?_) | refine n_block_ret (h := ?_) | refine g_block (h := ?_) | refine g_cond_t (h := ?_) | refine l_load_vec (h := ?_) | (refine g_spT (h := ?_); intro h)))
          refine r_retk [X dn2, Wk b sb rd2 0, Store sb db S, Disk db D] ?_
          rw [hfs]
          exact ⟨rd2, v1, by omega, rfl, rfl⟩
      · have hfs : feed stop dn (geE (Sub.all ss) x) = (dn', false) := by rw [hf, List.drop_eq_nil_of_le (by omega)]; rfl
        (repeat' (first | refine g_seq (h := ?_) | refine g_region (h := ?_) | refine l_nil (h := ?_) | refine n_then (h := ?_) | refine l_pures1 (h := ?_) | refine l_load (h := ?_) | refine g_ret (h := ?_) | refine n_then_ret (h := ?_) | refine g_exit (h := ?_) | refine n_then_exit (h := ?_) | refine n_block_hit (h := ?_) | (refine g_spF (h := ?_); intro h)))
        refine r_retk [C dn', Wk b sb rd 0, Store sb db S, Disk db D] ?_
        rw [hfs]
        exact ⟨rd, hr1, by omega, rfl, rfl⟩
    · exact ⟨by dsimp only; omega, hall ▸ rfl, by dsimp only; omega, by dsimp only; omega, by dsimp only; omega⟩
    · intro _ i
      exact inv_keep parts_of i
end Go.Proofs.YtbdgnjlbmhnipaaGreat
/- Package tree: Scan. -/
set_option maxRecDepth 20000
set_option linter.unusedVariables false
set_option linter.unusedSimpArgs false
namespace Go.Proofs.YtbdgnjlbmhnipaaGreat
open Go.Proofs.YtbdgnjlbmhnipaaGreat.SL

def entC (es : List Ent) : List Value := es.flatMap fun e => [Value.int .u64 (e.1 : Nat), .string (str e.2)]
theorem entC_snoc (es : List Ent) (e : Ent) : entC (es ++ [e]) = entC es ++ [Value.int .u64 (e.1 : Nat), .string (str e.2)] := by simp [entC]
theorem entries_does (b : Nat) (root : Int) (x : Nat) : Does Tryz.prog 89 [.pointer (some ⟨b, 0, none⟩), .int .i64 root, .int .u64 x] []
    (fun v H => ∃ b1 b2 b3, v = .func (.func 125) #[] #[.pointer (some ⟨b1, 0, none⟩), .pointer (some ⟨b2, 0, none⟩), .pointer (some ⟨b3, 0, none⟩)] ∧
      H = [cl b1 133 [.pointer (some ⟨b, 0, none⟩)], cl b2 3 [.int .i64 root], cl b3 32 [.int .u64 x]]) := by
  refine does_of Tryz.func89 Tryz.ntmps89 rfl rfl rfl (fun w0 F0 => ?_)
  (repeat (first | refine g_seq (h := ?_) | refine g_region (h := ?_) | refine l_nil (h := ?_) | refine n_then (h := ?_) | refine l_pures1 (h := ?_) | (refine l_box (h := ?_); intro _) | refine g_ret (h := ?_)))
  rename_i b1 b2 b3
  refine r_retk [cl b1 133 [.pointer (some ⟨b, 0, none⟩)], cl b2 3 [.int .i64 root], cl b3 32 [.int .u64 x]] ?_
  exact ⟨b1, b2, b3, rfl, rfl⟩

theorem entriesF_does (b b1 b2 b3 sb db l : Nat) (root : Int) (x : Nat) (S : Sh) (D : Dk) (K : List SProp) (q : Value → List SProp → Prop) (A : SProp)
    (hd : Does Tryz.prog 126 [.pointer (some ⟨b, 0, none⟩), .int .i64 root, .int .i64 1, .int .u64 x, .func (.yield l) #[] #[]] [A, Wk b sb 0 0, Store sb db S, Disk db D] q) :
    Does Tryz.prog 125 [.func (.yield l) #[] #[], .pointer (some ⟨b1, 0, none⟩), .pointer (some ⟨b2, 0, none⟩), .pointer (some ⟨b3, 0, none⟩)]
      [A, Wk b sb 0 0, Store sb db S, Disk db D, cl b1 133 [.pointer (some ⟨b, 0, none⟩)], cl b2 3 [.int .i64 root], cl b3 32 [.int .u64 x]]
      (fun v H => ∃ u K', q u K' ∧ H = K' ++ [cl b1 133 [.pointer (some ⟨b, 0, none⟩)], cl b2 3 [.int .i64 root], cl b3 32 [.int .u64 x]]) := by
  refine does_of Tryz.func125 Tryz.ntmps125 rfl rfl rfl (fun w0 F0 => ?_)
  (repeat (first | refine g_region (h := ?_) | refine l_pures1 (h := ?_) | (refine l_atc ?_; refine l_call_ (hd) ?_) | refine l_load (h := ?_)))
  rintro v K' H'' hq he
  rw [appO_eq] at he
  cases he
  (repeat refine l_nil (h := ?_))
  refine r_end ?_
  exact ⟨v, K', hq, rfl⟩

/-- The consumer of Scan: the loop's record, what was found, how many are asked. -/
abbrev ScK (l n : Nat) (tm : List (Nat × Value)) (asg body : Code) (st : LoopState) (pe : Option Code) (b11 b7 : Nat) (most : Int) (dn : List Ent) (x : Option Addr × Nat) : List SProp :=
  [lp l n tm #[26] asg body st pe, cl b11 59 [.slice x.1 dn.length x.2], vec 67 2 x.1 dn.length x.2 (entC dn), cl b7 3 [.int .i64 most]]
def Sc (l n : Nat) (tm : List (Nat × Value)) (asg body : Code) (st : LoopState) (pe : Option Code) (b11 b7 : Nat) (most : Int) (dn : List Ent) : SProp := hid (fun _ : Option Addr × Nat => True) (ScK l n tm asg body st pe b11 b7 most dn)

set_option maxHeartbeats 4000000 in
theorem scan_yields0 (l b11 b7 : Nat) (most : Int) (tm0 : List (Nat × Value)) (asg body : Code) (dn : List Ent) (e : Ent) (p : Option Addr) (cap : Nat) (hdn : dn.length < 100000) (w11 : tget tm0 11 = some (.pointer (some ⟨b11, 0, none⟩))) (w7 : tget tm0 7 = some (.pointer (some ⟨b7, 0, none⟩)))
    (hA : asg = rfA (nav [1, 1, 1, 1, 0, 1, 2] (bdy Tryz.f55))) (hB : body = rfB (nav [1, 1, 1, 1, 0, 1, 2] (bdy Tryz.f55))) :
    SL.Yields Tryz.prog l [entV e] (ScK l 45 tm0 asg body .ready none b11 b7 most dn (p, cap))
      (fun v H => v = .bool (!decide (((dn ++ [e]).length : Int) = most)) ∧ ∃ x R, Parts (if ((dn ++ [e]).length : Int) = most then ScK l 45 tm0 asg body .done (some (.exit 0)) b11 b7 most (dn ++ [e]) x else ScK l 45 tm0 asg body .ready none b11 b7 most (dn ++ [e]) x) H R) := by
  dsimp only [ScK]
  refine yields_of (ps := [26]) (fun w0 F0 => ?_)
  refine gr_weak (tm' := [(26, entV e), (11, .pointer (some ⟨b11, 0, none⟩)), (7, .pointer (some ⟨b7, 0, none⟩))]) ⟨rfl, w11, w7, trivial⟩ (fun i => i) ?_
  have e0 : (dn ++ [e]).length = dn.length + 1 := by simp
  have e1 : entC dn ++ #[Value.int .u64 (e.1 : Nat), .string (str e.2)].toList = entC (dn ++ [e]) := (entC_snoc dn e).symm
  refine gr_as hA ?_
  dsimp only [rfA, nav, bdy, Tryz.f55, Option.getD]
  (repeat (first | refine l_nil (h := ?_) | refine l_store (h := ?_) | (refine l_alloc (h := ?_); intro _) | refine gr_region (h := ?_)))
  rename_i b12
  refine n_begin (h := ?_)
  refine gr_as hB ?_
  dsimp only [rfA, rfB, nav, bdy, Tryz.f55, Option.getD]
  (repeat' (first | refine l_nil (h := ?_) | refine l_pures1 (h := ?_) | refine l_load (h := ?_) | refine l_store (h := ?_) | (refine l_buildSlice1 (h := ?_); intro _) | (refine l_append_new (h := ?_); intro _ _) | refine n_block_miss (h := ?_) | refine n_block (h := ?_) | refine gr_seq (h := ?_) | refine gr_region (h := ?_) | refine nr_then (h := ?_) | refine gr_block (h := ?_) | refine gr_skip (h := ?_) | refine gr_exit (h := ?_) | (refine gr_sp (h1 := ?_) (h0 := ?_) <;> intro h)))
  all_goals rename_i b1 p' cap'
  all_goals have hm := h
  all_goals rw [← e0] at hm ⊢
  all_goals rw [e1]
  · refine n_round_x ⟨by rw [decide_eq_true hm]; rfl, (p', cap'), ?_⟩
    rw [if_pos hm]
    exact ⟨_, parts_of⟩
  · refine n_round ⟨by rw [decide_eq_false hm]; rfl, (p', cap'), ?_⟩
    rw [if_neg hm]
    exact ⟨_, parts_of⟩
theorem scan_yields (l b11 b7 : Nat) (most : Int) (tm0 : List (Nat × Value)) (asg body : Code) (w11 : tget tm0 11 = some (.pointer (some ⟨b11, 0, none⟩))) (w7 : tget tm0 7 = some (.pointer (some ⟨b7, 0, none⟩)))
    (hA : asg = rfA (nav [1, 1, 1, 1, 0, 1, 2] (bdy Tryz.f55))) (hB : body = rfB (nav [1, 1, 1, 1, 0, 1, 2] (bdy Tryz.f55))) (dn : List Ent) (e : Ent) (hdn : dn.length < 100000) :
    SL.Yields Tryz.prog l [entV e] [Sc l 45 tm0 asg body .ready none b11 b7 most dn] (fun v H => v = .bool (!decide (((dn ++ [e]).length : Int) = most)) ∧ H = [if decide (((dn ++ [e]).length : Int) = most) = true then Sc l 45 tm0 asg body .done (some (.exit 0)) b11 b7 most (dn ++ [e]) else Sc l 45 tm0 asg body .ready none b11 b7 most (dn ++ [e])]) := by
  refine SL.Yields.open hid_opens ?_
  rintro ⟨p, cap⟩ _
  refine (scan_yields0 l b11 b7 most tm0 asg body dn e p cap hdn w11 w7 hA hB).post ?_
  rintro v H' ⟨rfl, x, R, hp⟩
  refine ⟨_, ⟨rfl, rfl⟩, ?_⟩
  intro w0 F0 w i
  by_cases hm : ((dn ++ [e]).length : Int) = most
  · rw [if_pos hm] at hp
    rw [if_pos (by simpa using hm)]
    exact shut_of (p := fun _ : Option Addr × Nat => True) (K := ScK l 45 tm0 asg body .done (some (.exit 0)) b11 b7 most (dn ++ [e])) x trivial hp i
  · rw [if_neg hm] at hp
    rw [if_neg (by simpa using hm)]
    exact shut_of (p := fun _ : Option Addr × Nat => True) (K := ScK l 45 tm0 asg body .ready none b11 b7 most (dn ++ [e])) x trivial hp i

/-- The first keys from one on. -/
theorem feed_take (most : Int) (h : 1 ≤ most) : ∀ (es dn : List Ent), (dn.length : Int) < most → feed (fun l => decide ((l.length : Int) = most)) dn es = if dn.length + es.length < most then (dn ++ es, false) else (dn ++ es.take (most.toNat - dn.length), true)
  | [], dn, hl => by
    rw [if_pos (by simpa using hl)]; simp [feed]
  | e :: es, dn, hl => by
    simp only [feed, List.length_append, List.length_cons, List.length_nil, Nat.zero_add]
    by_cases q : ((dn.length + 1 : Nat) : Int) = most
    · rw [if_pos (by simpa using q), if_neg (by omega)]
      have : most.toNat - dn.length = 1 := by omega
      rw [this]; simp
    · rw [if_neg (by simpa using q), feed_take most h es (dn ++ [e]) (by simp; omega)]
      simp only [List.length_append, List.length_cons, List.length_nil, Nat.zero_add]
      by_cases q2 : ((dn.length + 1 : Nat) : Int) + (es.length : Nat) < most
      · rw [if_pos (by omega), if_pos (by omega)]; simp
      · rw [if_neg (by omega), if_neg (by omega)]
        have : most.toNat - dn.length = (most.toNat - (dn.length + 1)) + 1 := by omega
        rw [this, List.take_succ_cons]; simp

/-- What Scan has behind its loop. -/
def ScF (bw b11 b7 b1 b2 b3 sb db x : Nat) (root most : Int) (S : Sh) (D : Dk) (es : List Ent) (K' : List SProp) : Prop :=
  ∃ (p : Option Addr) (cap : Nat) (rd : Int), K' = [cl b11 59 [.slice p es.length cap], vec 67 2 p es.length cap (entC es), cl b7 3 [.int .i64 most], Wk bw sb rd 0, Store sb db S, Disk db D, cl b1 133 [.pointer (some ⟨bw, 0, none⟩)], cl b2 3 [.int .i64 root], cl b3 32 [.int .u64 x]]
theorem scan_hs (bw b11 b7 b1 b2 b3 sb db x N : Nat) (root most : Int) (U : List Int) (T : List Ent) (S : Sh) (D : Dk) (k : Fine N S D U) {h : Nat} {ps : List Int} (o : OnP (Gd N D) h root ⟨T, ps⟩) (hp : ps.length + 2 ≤ N) (hT : T.length < 10000) (hmo : 1 ≤ most) (l : Nat)
    (tm0 : List (Nat × Value)) (asg body : Code) (w11 : tget tm0 11 = some (.pointer (some ⟨b11, 0, none⟩))) (w7 : tget tm0 7 = some (.pointer (some ⟨b7, 0, none⟩)))
    (hA : asg = rfA (nav [1, 1, 1, 1, 0, 1, 2] (bdy Tryz.f55))) (hB : body = rfB (nav [1, 1, 1, 1, 0, 1, 2] (bdy Tryz.f55))) :
    Does Tryz.prog 125 [.func (.yield l) #[] #[], .pointer (some ⟨b1, 0, none⟩), .pointer (some ⟨b2, 0, none⟩), .pointer (some ⟨b3, 0, none⟩)]
      [lp l 45 tm0 #[26] asg body .ready none, cl b11 59 [.slice none 0 0], vec 67 2 none 0 0 [], cl b7 3 [.int .i64 most], Wk bw sb 0 0, Store sb db S, Disk db D, cl b1 133 [.pointer (some ⟨bw, 0, none⟩)], cl b2 3 [.int .i64 root], cl b3 32 [.int .u64 x]]
      (fun _ H' => (∃ K', H' = lp l 45 tm0 #[26] asg body .ready none :: K' ∧ ScF bw b11 b7 b1 b2 b3 sb db x root most S D ((geE T x).take most.toNat) K') ∨ ∃ c K', H' = lp l 45 tm0 #[26] asg body .done (some c) :: K' ∧ c = .exit 0 ∧ ScF bw b11 b7 b1 b2 b3 sb db x root most S D ((geE T x).take most.toNat) K') := by
  have hN := k.n
  have hh := o.high
  obtain ⟨d, ps1, g, hd, hne, hn, e⟩ := o
  dsimp only at e hn
  subst e
  simp only [List.length_cons] at hp hh
  have h8 := high_le hh (by omega)
  have hf := from_does bw sb db x N l (fun dn => Sc l 45 tm0 asg body .ready none b11 b7 most dn) (fun dn => Sc l 45 tm0 asg body .done (some (.exit 0)) b11 b7 most dn) (fun l => decide ((l.length : Int) = most)) (fun dn e hdn => scan_yields l b11 b7 most tm0 asg body w11 w7 hA hB dn e hdn) k h d T ps1 1 root 0 [] hn hd hne g (by omega) (by omega) (by omega) (by simp; omega)
  have hpre : ∀ {w0 : World} {F0 : Nat → Prop} {w : World}, Inv w0 F0 (lp l 45 tm0 #[26] asg body .ready none :: [cl b11 59 [.slice none 0 0], vec 67 2 none 0 0 [], cl b7 3 [.int .i64 most], Wk bw sb 0 0, Store sb db S, Disk db D, cl b1 133 [.pointer (some ⟨bw, 0, none⟩)], cl b2 3 [.int .i64 root], cl b3 32 [.int .u64 x]]) w → Inv w0 F0 (Sc l 45 tm0 asg body .ready none b11 b7 most [] :: [Wk bw sb 0 0, Store sb db S, Disk db D, cl b1 133 [.pointer (some ⟨bw, 0, none⟩)], cl b2 3 [.int .i64 root], cl b3 32 [.int .u64 x]]) w := fun i =>
    Inv.shuts (K := ScK l 45 tm0 asg body .ready none b11 b7 most [] (none, 0)) (hid_shuts (p := fun _ : Option Addr × Nat => True) (K := ScK l 45 tm0 asg body .ready none b11 b7 most []) (none, 0) trivial) i
  have hft := feed_take most hmo (geE T x) [] (by simp; omega)
  by_cases hlt : ((geE T x).length : Int) < most
  · have e : (geE T x).take most.toNat = geE T x := List.take_of_length_le (by omega)
    rw [if_pos (by simpa using hlt), List.nil_append] at hft
    rw [hft] at hf
    refine does_pre (does_post (entriesF_does bw b1 b2 b3 sb db l root x S D [] _ _ hf) ?_) hpre
    rintro v H1 ⟨u, K', ⟨rd, r1, r2, rfl, rfl⟩, rfl⟩ w0 F0 w i
    rw [e]
    obtain ⟨⟨p, cap⟩, _, i2⟩ := Inv.opens (H := [Wk bw sb rd 0, Store sb db S, Disk db D, cl b1 133 [.pointer (some ⟨bw, 0, none⟩)], cl b2 3 [.int .i64 root], cl b3 32 [.int .u64 x]]) (hid_opens (p := fun _ : Option Addr × Nat => True) (K := ScK l 45 tm0 asg body .ready none b11 b7 most (geE T x))) i
    exact ⟨lp l 45 tm0 #[26] asg body .ready none :: _, .inl ⟨_, rfl, p, cap, rd, rfl⟩, i2⟩
  · rw [if_neg (by simpa using hlt), List.nil_append, List.length_nil, Nat.sub_zero] at hft
    rw [hft] at hf
    refine does_pre (does_post (entriesF_does bw b1 b2 b3 sb db l root x S D [] _ _ hf) ?_) hpre
    rintro v H1 ⟨u, K', ⟨rd, r1, r2, rfl, rfl⟩, rfl⟩ w0 F0 w i
    obtain ⟨⟨p, cap⟩, _, i2⟩ := Inv.opens (H := [Wk bw sb rd 0, Store sb db S, Disk db D, cl b1 133 [.pointer (some ⟨bw, 0, none⟩)], cl b2 3 [.int .i64 root], cl b3 32 [.int .u64 x]]) (hid_opens (p := fun _ : Option Addr × Nat => True) (K := ScK l 45 tm0 asg body .done (some (.exit 0)) b11 b7 most ((geE T x).take most.toNat))) i
    exact ⟨lp l 45 tm0 #[26] asg body .done (some (.exit 0)) :: _, .inr ⟨_, _, rfl, rfl, p, cap, rd, rfl⟩, i2⟩
/-- A tree, whatever else there is on the disk. -/
def OldTree (N : Nat) (D : Dk) (root : Int) (T : List Ent) : Prop := (root = 0 ∧ T = []) ∨ ∃ h ps, OnP (Gd N D) h root ⟨T, ps⟩ ∧ ps.length + 2 ≤ N
theorem Fine.afterFew {N : Nat} {S : Sh} {D : Dk} {U : List Int} (k : Fine N S D U) : (S.after U).length + 2 ≤ N := by
  have hN := k.n
  have hal := nodup_sub (A := S.after U) (B := (List.range' 2 (N - 2)).map (fun n : Nat => (n : Int))) k.afterNodup (by
    intro a ha
    have ha2 : 2 ≤ a ∧ a < N := by
      rcases (Sh.mem_after.1 ha).1 with h | h
      · have := k.h.b a h; omega
      · have := k.f.2 a h; omega
    exact List.mem_map.2 ⟨a.toNat, List.mem_range'_1.2 (by omega), by omega⟩)
  simp only [List.length_map, List.length_range'] at hal
  omega
theorem IsTree.old {N : Nat} {S : Sh} {D : Dk} {U : List Int} {root : Int} {T : List Ent} (ht : IsTree N S D U root T) (k : Fine N S D U) : OldTree N D root T := by
  rcases ht with ⟨h1, h2, _⟩ | ⟨h, ps, o, hp⟩
  · exact .inl ⟨h1, h2⟩
  · exact .inr ⟨h, ps, o, by have := hp.length_eq; have := k.afterFew; omega⟩
set_option maxHeartbeats 4000000 in
theorem scan_old (sb db x N : Nat) (root most : Int) (U : List Int) (T : List Ent) (S : Sh) (D : Dk) (k : Fine N S D U) (ht : OldTree N D root T) (hT : T.length < 10000) (hm64 : -9223372036854775808 ≤ most ∧ most < 9223372036854775808) :
    Does Tryz.prog 55 [.pointer (some ⟨sb, 0, none⟩), .int .i64 root, .int .u64 x, .int .i64 most] [Store sb db S, Disk db D]
      (fun v H => ∃ p cap, v = .tuple #[.slice p ((geE T x).take most.toNat).length cap, .int .i64 0] ∧ H = [vec 67 2 p ((geE T x).take most.toNat).length cap (entC ((geE T x).take most.toNat)), Store sb db S, Disk db D]) := by
  have hnil : root = 0 → T = [] := by
    rintro rfl
    rcases ht with ⟨_, h⟩ | ⟨h, ps, ⟨d, ps1, g, _⟩, _⟩
    · exact h
    · have := g.1; omega
  refine does_of_m Tryz.func55 Tryz.ntmps55 rfl rfl rfl (fun w0 F0 => ?_)
  (repeat' (first | refine g_seq (h := ?_) | refine g_region (h := ?_) | refine l_nil (h := ?_) | refine n_then (h := ?_) | refine l_pures1 (h := ?_) | refine l_guard_yes (h := ?_) | refine l_guard_no (h := ?_) | refine l_load (h := ?_) | (refine l_box (h := ?_); intro _) | (refine l_alloc (h := ?_); intro _) | refine g_skip (h := ?_) | refine g_ret (h := ?_) | refine n_then_ret (h := ?_) | refine g_cond_t (h := ?_) | (refine l_sp (h1 := ?_) (h0 := ?_) <;> intro h) | (refine g_sp (h1 := ?_) (h0 := ?_) <;> intro h)))
  · refine n_inv (fun i => vec_nil (67) (2) i) ?_
    have e : (geE T x).take most.toNat = [] := by rw [hnil (by assumption)]; simp [geE]
    rw [e]
    refine r_retm [vec 67 2 none 0 0 [], Store sb db S, Disk db D] ?_
    exact ⟨none, 0, rfl, rfl⟩
  · refine n_inv (fun i => vec_nil (67) (2) i) ?_
    have e : (geE T x).take most.toNat = [] := by rw [show most.toNat = 0 by omega]; rfl
    rw [e]
    refine r_retm [vec 67 2 none 0 0 [], Store sb db S, Disk db D] ?_
    exact ⟨none, 0, rfl, rfl⟩
  · rename_i b7 hr0 bw b11
    refine l_inv (H' := [cl b11 59 [.slice none 0 0], Wk bw sb 0 0, cl b7 3 [.int .i64 most], Store sb db S, Disk db D]) (fun i => i) ?_
    (repeat (first | refine l_nil (h := ?_) | refine n_then (h := ?_) | (refine l_atc ?_; refine l_call_ (entries_does bw root x) ?_; rintro _ _ _ ⟨b1, b2, b3, rfl, rfl⟩ he; cases he) | refine g_block (h := ?_)))
    refine g_inv (fun i => vec_nil (67) (2) i) ?_
    rcases ht with ⟨q, _⟩ | ⟨h0, ps, o, hp⟩
    · exact absurd q hr0
    refine g_rangeFunc (qn := ScF bw b11 b7 b1 b2 b3 sb db x root most S D ((geE T x).take most.toNat)) (qx := fun c K' => c = .exit 0 ∧ ScF bw b11 b7 b1 b2 b3 sb db x root most S D ((geE T x).take most.toNat) K') (K := [cl b11 59 [.slice none 0 0], vec 67 2 none 0 0 [], cl b7 3 [.int .i64 most], Wk bw sb 0 0, Store sb db S, Disk db D, cl b1 133 [.pointer (some ⟨bw, 0, none⟩)], cl b2 3 [.int .i64 root], cl b3 32 [.int .u64 x]]) ?_ ?_ ?_
    · intro l
      exact scan_hs bw b11 b7 b1 b2 b3 sb db x N root most U T S D k o hp hT (by omega) l _ _ _ rfl rfl (by rfl) (by rfl)
    · rintro D0 K' ⟨p, cap, rd, rfl⟩
      dsimp only [List.cons_append, List.nil_append]
      (repeat' (first | refine g_seq (h := ?_) | refine g_region (h := ?_) | refine l_nil (h := ?_) | refine n_then (h := ?_) | refine l_pures1 (h := ?_) | refine l_load (h := ?_) | refine g_skip (h := ?_) | refine g_ret (h := ?_) | refine n_block (h := ?_) | refine g_cond_f (h := ?_)))
      refine r_retM [vec 67 2 p ((geE T x).take most.toNat).length cap (entC ((geE T x).take most.toNat)), Store sb db S, Disk db D] ?_
      exact ⟨p, cap, rfl, rfl⟩
    · rintro D0 c K' ⟨rfl, p, cap, rd, rfl⟩
      dsimp only [List.cons_append, List.nil_append]
      (repeat' (first | refine g_seq (h := ?_) | refine g_region (h := ?_) | refine l_nil (h := ?_) | refine n_then (h := ?_) | refine l_pures1 (h := ?_) | refine l_load (h := ?_) | refine g_skip (h := ?_) | refine g_ret (h := ?_) | refine g_exit (h := ?_) | refine n_block_hit (h := ?_) | refine g_cond_f (h := ?_)))
      refine r_retM [vec 67 2 p ((geE T x).take most.toNat).length cap (entC ((geE T x).take most.toNat)), Store sb db S, Disk db D] ?_
      exact ⟨p, cap, rfl, rfl⟩
theorem scan_tree (sb db x N : Nat) (root most : Int) (U : List Int) (T : List Ent) (S : Sh) (D : Dk) (k : Fine N S D U) (ht : IsTree N S D U root T) (hT : T.length < 10000) (hm64 : -9223372036854775808 ≤ most ∧ most < 9223372036854775808) :
    Does Tryz.prog 55 [.pointer (some ⟨sb, 0, none⟩), .int .i64 root, .int .u64 x, .int .i64 most] [Store sb db S, Disk db D]
      (fun v H => ∃ p cap, v = .tuple #[.slice p ((geE T x).take most.toNat).length cap, .int .i64 0] ∧ H = [vec 67 2 p ((geE T x).take most.toNat).length cap (entC ((geE T x).take most.toNat)), Store sb db S, Disk db D]) :=
  scan_old sb db x N root most U T S D k (ht.old k) hT hm64
end Go.Proofs.YtbdgnjlbmhnipaaGreat
/- Package tree: even. -/
set_option maxRecDepth 20000
set_option linter.unusedVariables false
set_option linter.unusedSimpArgs false
namespace Go.Proofs.YtbdgnjlbmhnipaaGreat
open Go.Proofs.YtbdgnjlbmhnipaaGreat.SL

/-- Which one of two neighbours stands first. -/
def fstN (i : Nat) (bd n : Nd) : Nd := if i = 0 then n else bd
def sndN (i : Nat) (bd n : Nd) : Nd := if i = 0 then bd else n
def othN (i : Nat) : Nat := if i = 0 then 1 else i - 1
def lefN (i : Nat) : Nat := i - 1

/-- Up to where both nodes are in hand. -/
abbrev evT (b b5 b8 b12 b13 : Nat) (l : Int) : List (Nat × Value) := [(9, .int .i64 l), (8, .pointer (some ⟨b8, 0, none⟩)), (5, .pointer (some ⟨b5, 0, none⟩)), (12, .pointer (some ⟨b12, 0, none⟩)), (13, .pointer (some ⟨b13, 0, none⟩)), (0, .pointer (some ⟨b, 0, none⟩))]
abbrev evH (b5 b8 b12 b13 : Nat) (spg : Int) (d : Nd) (r : Rw) (i : Nat) (x y : Nd) (rx ry : Rw) (A B C : SProp) : List SProp :=
  [cl b8 140 #[.bool false, .slice none 0 0, .slice none 0 0, .slice none 0 0].toList, cl b5 144 [.int .i64 spg, .bool d.leaf, .slice r.p1 d.keys.length r.c1, .slice r.p2 d.vals.length r.c2, .slice r.p3 d.kids.length r.c3, .int .i64 i], cl b12 140 (ndA x rx).toList, cl b13 140 (ndA y ry).toList, Nds d r, Nds x rx, Nds y ry, A, B, C]

set_option maxHeartbeats 4000000 in
theorem even_head (b sb db deep i : Nat) (spg : Int) (d n bd : Nd) (r rn : Rw) (read : Int) (S : Sh) (D : Dk) (q : Value → List SProp → Prop) (hs : d.good) (hsl : d.leaf = false) (hi : i ≤ d.keys.length) (hk : d.keys ≠ []) (hbd : bd.good) (hlf : bd.leaf = n.leaf)
    (hr : S.read D (d.kids.getD (othN i) 0) = ((2, bd.text, 0), S)) (h1 : 0 ≤ read ∧ read < 640) (h2 : deep + 1 ≤ 10)
    (hT : ∀ w0 F0 b5 b8 b12 b13 r rx ry, G Tryz.prog 156 w0 F0 (nav [1, 1, 1, 1, 1, 1, 1, 1] (bdy Tryz.f95)) (Post Tryz.prog Tryz.f95 w0 F0 q)
      (evT b b5 b8 b12 b13 (lefN i)) [] (evH b5 b8 b12 b13 spg d r i (fstN i bd n) (sndN i bd n) rx ry (Wk b sb (read + 1) 0) (Store sb db S) (Disk db D))) :
    Does Tryz.prog 95 [.pointer (some ⟨b, 0, none⟩), .agg #[.int .i64 spg, .bool d.leaf, .slice r.p1 d.keys.length r.c1, .slice r.p2 d.vals.length r.c2, .slice r.p3 d.kids.length r.c3, .int .i64 i], ndV n rn, .int .i64 deep] [Nds d r, Nds n rn, Wk b sb read 0, Store sb db S, Disk db D] q := by
  have hkl := kidsLen hs.p hsl
  have hkp : 0 < d.keys.length := List.length_pos_iff.2 hk
  have hfk := hs.fits.k
  have hrd := wNode_does b sb db (deep + 1) (d.kids.getD (othN i) 0) read S D bd hbd hr h1 h2
  have ed : IntKind.i64.wrap ((deep : Int) + 1) = ((deep + 1 : Nat) : Int) := by rw [wrapI64 (by omega)]; rfl
  rw [← ed] at hrd
  obtain ⟨p1, c1, p2, c2, p3, c3⟩ := r
  refine does_of Tryz.func95 Tryz.ntmps95 rfl rfl rfl (fun w0 F0 => ?_)
  dsimp only
  (repeat (first | refine g_seq (h := ?_) | refine g_region (h := ?_) | refine l_nil (h := ?_) | refine n_then (h := ?_) | (refine l_box (h := ?_); intro _) | (refine l_alloc (h := ?_); intro _)))
  rename_i b5 b6 b8
  (refine g_draw [cl b5 144 _] (h := a_pass2 (h := ?_)))
  (repeat (first | refine g_seq (h := ?_) | refine g_region (h := ?_) | refine l_nil (h := ?_) | refine n_then (h := ?_) | refine l_pures1 (h := ?_) | refine l_load (h := ?_) | refine a_done (h := ?_) | refine a_load (h := a_pass2 (h := ?_))))
  refine g_open (A := Nds d ⟨p1, c1, p2, c2, p3, c3⟩) (h := ?_); (rintro _ _; dsimp only [NdsK, List.cons_append, List.nil_append])
  refine g_ptr (m := d.kids.length) (h := ?_); rintro g3 rfl hc3
  cases i with
  | zero =>
    have hgk : (d.kids.map encZ')[0 + Int.toNat 1 * 1]? = some (.int .i64 (d.kids.getD 1 0)) := iGet (l := d.kids) (k := 1) (by omega)
    dsimp only [othN, fstN, sndN] at hrd hT
    simp only [if_true, show ((lefN 0 : Nat) : Int) = 0 from rfl] at hrd hT
    (repeat' (first | refine g_seq (h := ?_) | refine g_region (h := ?_) | refine l_nil (h := ?_) | refine n_then (h := ?_) | refine l_pures1 (h := ?_) | (refine l_atc ?_; refine l_call_ (hrd) ?_; rintro _ _ _ ⟨rb, rfl, rfl⟩ he; cases he) | refine l_load (h := ?_) | refine l_store (h := ?_) | (refine l_alloc (h := ?_); intro _) | refine l_indexAddr (h := ?_) | refine g_skip (h := ?_) | refine g_cond_t (h := ?_) | refine g_cond_f (h := ?_) | refine l_load_vec (h := ?_) | (refine g_sp (h1 := ?_) (h0 := ?_) <;> intro h)))
    · exact absurd hlf (by assumption)
    rename_i b11
    (refine g_shut (A := Nds d ⟨p1, c1, p2, c2, some ⟨g3, 0, none⟩, c3⟩) (K := NdsK d ⟨p1, c1, p2, c2, some ⟨g3, 0, none⟩, c3⟩ (())) (hid_shuts (()) trivial) (h := ?_) (p := by dsimp only [NdsK]; (try simp only [List.map_nil, List.length_nil, List.length_set, List.length_append, List.length_cons, List.length_singleton, List.map_append, List.map_cons, Nat.zero_add]); exact parts_of))
    (refine g_draw [cl b11 140 _, cl b6 140 _] (h := a_pass2 (h := ?_)))
    (repeat' (first | ((with_reducible show G _ _ _ _ (Code.seq (Code.region 13 _ _) _) _ _ _ _); exact g_bang (hT w0 F0 b5 b8 _ _ ⟨p1, c1, p2, c2, some ⟨g3, 0, none⟩, c3⟩ rn rb)) | refine g_seq (h := ?_) | refine g_region (h := ?_) | refine l_nil (h := ?_) | refine n_then (h := ?_) | refine l_pures1 (h := ?_) | refine l_load (h := ?_) | refine l_store (h := ?_) | (refine l_alloc (h := ?_); intro _) | refine a_done (h := ?_) | refine a_load (h := a_pass2 (h := ?_)) | refine a_one (h := ?_) | refine n_any (h := a_pass2 (h := ?_)) | refine g_cond_t (h := ?_) | refine a_fork2 (h1 := ?_) (h2 := ?_) | refine a1_of (h := ?_)))
  | succ i =>
    have ew : IntKind.i64.wrap (((i + 1 : Nat) : Int) - 1) = (i : Int) := by rw [wrapI64 (by omega)]; omega
    have hgk : (d.kids.map encZ')[0 + ((i : Nat) : Int).toNat * 1]? = some (.int .i64 (d.kids.getD i 0)) := iGet (l := d.kids) (k := i) (by omega)
    dsimp only [othN, fstN, sndN] at hrd hT
    simp only [show ((lefN (i + 1) : Nat) : Int) = (i : Int) from rfl, Nat.add_eq_zero_iff, Nat.one_ne_zero, and_false, if_false, Nat.add_sub_cancel] at hrd hT
    rw [ew]
    (repeat' (first | refine g_seq (h := ?_) | refine g_region (h := ?_) | refine l_nil (h := ?_) | refine n_then (h := ?_) | refine l_pures1 (h := ?_) | (refine l_atc ?_; refine l_call_ (hrd) ?_; rintro _ _ _ ⟨rb, rfl, rfl⟩ he; cases he) | refine l_load (h := ?_) | refine l_store (h := ?_) | (refine l_alloc (h := ?_); intro _) | refine l_indexAddr (h := ?_) | refine g_skip (h := ?_) | refine g_cond_f (h := ?_) | refine l_load_vec (h := ?_) | (refine g_sp (h1 := ?_) (h0 := ?_) <;> intro h)))
    · exact absurd hlf (by assumption)
    rename_i b11
    (refine g_shut (A := Nds d ⟨p1, c1, p2, c2, some ⟨g3, 0, none⟩, c3⟩) (K := NdsK d ⟨p1, c1, p2, c2, some ⟨g3, 0, none⟩, c3⟩ (())) (hid_shuts (()) trivial) (h := ?_) (p := by dsimp only [NdsK]; (try simp only [List.map_nil, List.length_nil, List.length_set, List.length_append, List.length_cons, List.length_singleton, List.map_append, List.map_cons, Nat.zero_add]); exact parts_of))
    (refine g_draw [cl b11 140 _, cl b6 140 _] (h := a_pass2 (h := ?_)))
    (repeat' (first | ((with_reducible show G _ _ _ _ (Code.seq (Code.region 13 _ _) _) _ _ _ _); exact g_bang (hT w0 F0 b5 b8 _ _ ⟨p1, c1, p2, c2, some ⟨g3, 0, none⟩, c3⟩ rb rn)) | refine g_seq (h := ?_) | refine g_region (h := ?_) | refine l_nil (h := ?_) | refine n_then (h := ?_) | refine l_pures1 (h := ?_) | refine l_store (h := ?_) | (refine l_alloc (h := ?_); intro _) | refine g_skip (h := ?_) | refine a_done (h := ?_) | refine a_load (h := a_pass2 (h := ?_)) | refine a_one (h := ?_) | refine n_any (h := a_pass2 (h := ?_)) | (refine g_spF (h := ?_); intro h) | refine a_fork2 (h1 := ?_) (h2 := ?_) | refine a1_of (h := ?_)))
end Go.Proofs.YtbdgnjlbmhnipaaGreat
/- Package tree: even, two nodes joined, or dealt anew. -/
set_option maxRecDepth 20000
set_option linter.unusedVariables false
set_option linter.unusedSimpArgs false
namespace Go.Proofs.YtbdgnjlbmhnipaaGreat
open Go.Proofs.YtbdgnjlbmhnipaaGreat.SL

theorem set_uV {l : List Nat} {j k : Nat} : (uV l).set (0 + ((j : Nat) : Int).toNat * 1) (Value.int .u64 (k : Nat)) = uV (l.set j k) := by rw [Nat.zero_add, Nat.mul_one, Int.toNat_natCast, uV, uV, List.map_set]
theorem set_encZ {l : List Int} {j : Nat} {m : Int} : (l.map encZ').set (0 + ((j : Nat) : Int).toNat * 1) (Value.int .i64 m) = (l.set j m).map encZ' := by rw [Nat.zero_add, Nat.mul_one, Int.toNat_natCast, List.map_set]; rfl
set_option maxHeartbeats 4000000 in
theorem even_merge (b sb db i j : Nat) (spg : Int) (d x y : Nd) (rd m : Int) (S S1 S2 : Sh) (D D1 : Dk) (hs : d.good) (hsl : d.leaf = false) (hj : j < d.keys.length) (hx : x.fits) (hy : y.fits) (hlf : y.leaf = x.leaf) (hall : (x.both (d.keys.getD j 0) y).fits)
    (hz : (x.both (d.keys.getD j 0) y).size ≤ 240)
    (hL : ∀ r, Does Tryz.prog 80 [.pointer (some ⟨b, 0, none⟩), .int .i64 (d.kids.getD j 0), ndV (x.both (d.keys.getD j 0) y) r] [Wk b sb rd 0, Store sb db S, Disk db D, Nds (x.both (d.keys.getD j 0) y) r] (fun v H => v = .int .i64 m ∧ H = [Wk b sb rd 0, Store sb db S1, Disk db D1, Nds (x.both (d.keys.getD j 0) y) r]))
    (hg : S1.give (d.kids.getD (j + 1) 0) = (0, S2)) (hkb : -9223372036854775808 ≤ d.kids.getD (j + 1) 0 ∧ d.kids.getD (j + 1) 0 < 9223372036854775808)
    (w0 : World) (F0 : Nat → Prop) (b5 b8 b12 b13 : Nat) (r rx ry : Rw) :
    G Tryz.prog 156 w0 F0 (nav [1, 1, 1, 1, 1, 1, 1, 1] (bdy Tryz.f95)) (Post Tryz.prog Tryz.f95 w0 F0 (fun v H => ∃ r, v = ndV (Nd.unhang { d with kids := d.kids.set j m } j) r ∧ H = [Nds (Nd.unhang { d with kids := d.kids.set j m } j) r, Wk b sb rd 0, Store sb db S2, Disk db D1]))
      (evT b b5 b8 b12 b13 (j : Nat)) [] (evH b5 b8 b12 b13 spg d r i x y rx ry (Wk b sb rd 0) (Store sb db S) (Disk db D)) := by
  have hkl := kidsLen hs.p hsl
  have hfk := hs.fits.k
  have hB := tBoth_does x y rx ry (d.keys.getD j 0) hx hy hlf
  have hZ := fun r => ndSize_does (x.both (d.keys.getD j 0) y) r hall
  have hG := sGive_does sb db S1 (d.kids.getD (j + 1) 0) hkb
  rw [hg] at hG
  dsimp only at hG
  have hF := wFail0_does b sb rd
  have ew : IntKind.i64.wrap ((j : Int) + 1) = ((j + 1 : Nat) : Int) := by rw [wrapI64 (by omega)]; rfl
  have hib : 0 ≤ IntKind.i64.wrap ((j : Int) + 1) ∧ IntKind.i64.wrap ((j : Int) + 1) < d.kids.length := by rw [ew]; omega
  have hgi2 : ((d.kids.set j m).map encZ')[0 + (IntKind.i64.wrap ((j : Int) + 1)).toNat * 1]? = some (.int .i64 (d.kids.getD (j + 1) 0)) := by
    rw [ew]
    have := iGet (l := d.kids.set j m) (k := j + 1) (by simp; omega)
    rw [this, List.getD, List.getD, List.getElem?_set_ne (by omega)]
  obtain ⟨p1, c1, p2, c2, p3, c3⟩ := r
  obtain ⟨c, hc⟩ : ∃ c, c = nav [1, 1, 1, 1, 1, 1, 1, 1] (bdy Tryz.f95) := ⟨_, rfl⟩
  rw [← hc]
  dsimp only [nav, bdy, Tryz.f95, Option.getD] at hc
  subst hc
  dsimp only [evT, evH]
  refine g_open (A := Nds d ⟨p1, c1, p2, c2, p3, c3⟩) (h := ?_); (rintro _ _; dsimp only [NdsK, List.cons_append, List.nil_append])
  refine g_ptr (m := d.kids.length) (h := ?_); rintro g3 rfl hc3
  refine g_ptr (m := d.keys.length) (h := ?_); rintro g1 rfl hc1
  have hgk := uGet (l := d.keys) (k := j) hj
  have hgi := iGet (l := d.kids) (k := j) (by omega)
  have hU := nUnhang_does { d with kids := d.kids.set j m } ⟨some ⟨g1, 0, none⟩, c1, p2, c2, some ⟨g3, 0, none⟩, c3⟩ j hsl ⟨hfk, by simpa using hs.fits.i, hs.fits.v, hs.fits.s⟩ hj (show d.vals = [] from noVals hs.p hsl)
  have hU2 : Does Tryz.prog 130 [.agg #[.bool d.leaf, .slice (some ⟨g1, 0, none⟩) d.keys.length c1, .slice p2 d.vals.length c2, .slice (some ⟨g3, 0, none⟩) d.kids.length c3], .int .i64 j] [Nds { d with kids := d.kids.set j m } ⟨some ⟨g1, 0, none⟩, c1, p2, c2, some ⟨g3, 0, none⟩, c3⟩] (fun u H => ∃ r', u = ndV (Nd.unhang { d with kids := d.kids.set j m } j) r' ∧ H = [Nds (Nd.unhang { d with kids := d.kids.set j m } j) r', Nds { d with kids := d.kids.set j m } ⟨some ⟨g1, 0, none⟩, c1, p2, c2, some ⟨g3, 0, none⟩, c3⟩]) := by
    have e : ndV { d with kids := d.kids.set j m } ⟨some ⟨g1, 0, none⟩, c1, p2, c2, some ⟨g3, 0, none⟩, c3⟩ = .agg #[.bool d.leaf, .slice (some ⟨g1, 0, none⟩) d.keys.length c1, .slice p2 d.vals.length c2, .slice (some ⟨g3, 0, none⟩) d.kids.length c3] := by simp
    rw [← e]; exact hU
  (repeat (first | refine g_seq (h := ?_) | refine g_region (h := ?_) | refine l_nil (h := ?_) | refine n_then (h := ?_) | refine l_pures1 (h := ?_) | refine l_load (h := ?_) | refine l_store (h := ?_) | (refine l_alloc (h := ?_); intro _)))
  rename_i b14
  (refine g_draw [cl b12 140 (ndA x rx).toList, cl b13 140 (ndA y ry).toList, cl b14 140 _, vec 32 1 (some ⟨g1, 0, none⟩) d.keys.length c1 (uV d.keys)] (h := a_pass2 (h := ?_)))
  (repeat' (first | refine g_seq (h := ?_) | refine g_region (h := ?_) | refine l_nil (h := ?_) | refine n_then (h := ?_) | refine l_pures1 (h := ?_) | (refine l_atc ?_; refine l_call_ (hB) ?_; rintro _ _ _ ⟨r15, rfl, rfl⟩ he; cases he) | (refine l_atc ?_; refine l_call (hZ _) ?_) | refine l_load (h := ?_) | refine l_store (h := ?_) | (refine l_alloc (h := ?_); intro _) | refine a_done (h := ?_) | refine a_load (h := a_pass2 (h := ?_)) | refine a_one (h := ?_) | refine n_any (h := a_pass2 (h := ?_)) | refine a_v (h := ?_) | refine a_load_vec (h := a_pass2 (h := ?_)) | (refine g_spT (h := ?_); intro h) | refine a_fork2 (h1 := ?_) (h2 := ?_) | refine a1_of (h := ?_)))
  all_goals rename_i b15
  all_goals
    (refine g_draw [cl b14 140 [.bool d.leaf, .slice (some ⟨g1, 0, none⟩) d.keys.length c1, .slice p2 d.vals.length c2, .slice (some ⟨g3, 0, none⟩) d.kids.length c3], cl b15 140 (ndA (x.both (d.keys.getD j 0) y) r15).toList] (h := a_pass2 (h := ?_)))
  all_goals
    (repeat' (first | refine g_seq (h := ?_) | refine g_region (h := ?_) | refine l_nil (h := ?_) | refine n_then (h := ?_) | refine l_pures1 (h := ?_) | (refine l_at 80 ?_; refine l_call (hL r15) ?_) | refine l_load (h := ?_) | refine l_indexAddr (h := ?_) | refine a_done (h := ?_) | refine a_load (h := a_pass2 (h := ?_)) | refine a_one (h := ?_) | refine n_any (h := a_pass2 (h := ?_)) | refine g_cond_t (h := ?_) | refine l_load_vec (h := ?_) | refine l_store_vec (h := ?_)))
  all_goals rw [set_encZ]
  all_goals
    (refine g_draw [Wk b sb rd 0, cl b14 140 [.bool d.leaf, .slice (some ⟨g1, 0, none⟩) d.keys.length c1, .slice p2 d.vals.length c2, .slice (some ⟨g3, 0, none⟩) d.kids.length c3], vec 3 1 (some ⟨g3, 0, none⟩) d.kids.length c3 ((d.kids.set j m).map encZ')] (h := a_pass2 (h := ?_)))
  all_goals
    (repeat (first | refine g_seq (h := ?_) | refine g_region (h := ?_) | refine l_nil (h := ?_) | refine n_then (h := ?_) | refine l_pures1 (h := ?_) | (refine l_atc ?_; refine l_call (hG) ?_) | (refine l_atc ?_; refine l_call (hF) ?_) | refine l_load (h := ?_) | refine l_indexAddr (h := ?_) | refine a_done (h := ?_) | refine a_load (h := a_pass2 (h := ?_)) | refine a_one (h := ?_) | refine n_any (h := a_pass2 (h := ?_)) | refine l_load_vec (h := ?_)))
  all_goals
    (refine l_shut (A := Nds { d with kids := d.kids.set j m } ⟨some ⟨g1, 0, none⟩, c1, p2, c2, some ⟨g3, 0, none⟩, c3⟩) (K := NdsK { d with kids := d.kids.set j m } ⟨some ⟨g1, 0, none⟩, c1, p2, c2, some ⟨g3, 0, none⟩, c3⟩ (())) (hid_shuts (()) trivial) (h := ?_) (p := by dsimp only [NdsK]; (try simp only [List.map_nil, List.length_nil, List.length_set, List.length_append, List.length_cons, List.length_singleton, List.map_append, List.map_cons, Nat.zero_add]); exact parts_of))
  all_goals
    (repeat (first | refine l_nil (h := ?_) | refine n_then (h := ?_) | (refine l_atc ?_; refine l_call_ (hU2) ?_; rintro _ _ _ ⟨rr, rfl, rfl⟩ he; cases he) | refine l_store (h := ?_) | refine g_ret (h := ?_) | refine n_then_ret (h := ?_)))
  all_goals
    refine r_retk [Nds (Nd.unhang { d with kids := d.kids.set j m } j) rr, Wk b sb rd 0, Store sb db S2, Disk db D1] ?_
  all_goals exact ⟨rr, rfl, rfl⟩

set_option maxHeartbeats 4000000 in
theorem even_deal (b sb db i j : Nat) (spg : Int) (d x y al : Nd) (rd m1 m2 : Int) (S S1 S2 : Sh) (D D1 D2 : Dk) (hs : d.good) (hsl : d.leaf = false) (hj : j < d.keys.length) (hx : x.fits) (hy : y.fits) (hlf : y.leaf = x.leaf) (hal : x.both (d.keys.getD j 0) y = al) (hap : al.plain) (hall : al.fits)
    (hz : 240 < al.size) (hz2 : al.size < 10000) (hm : 1 ≤ al.keys.length - 1 - al.up)
    (hL1 : ∀ r, Does Tryz.prog 80 [.pointer (some ⟨b, 0, none⟩), .int .i64 (d.kids.getD j 0), ndV (al.front al.at') r] [Wk b sb rd 0, Store sb db S, Disk db D, Nds (al.front al.at') r] (fun v H => v = .int .i64 m1 ∧ H = [Wk b sb rd 0, Store sb db S1, Disk db D1, Nds (al.front al.at') r]))
    (hL2 : ∀ r, Does Tryz.prog 80 [.pointer (some ⟨b, 0, none⟩), .int .i64 (d.kids.getD (j + 1) 0), ndV (al.back al.at') r] [Wk b sb rd 0, Store sb db S1, Disk db D1, Nds (al.back al.at') r] (fun v H => v = .int .i64 m2 ∧ H = [Wk b sb rd 0, Store sb db S2, Disk db D2, Nds (al.back al.at') r]))
    (w0 : World) (F0 : Nat → Prop) (b5 b8 b12 b13 : Nat) (r rx ry : Rw) :
    G Tryz.prog 156 w0 F0 (nav [1, 1, 1, 1, 1, 1, 1, 1] (bdy Tryz.f95)) (Post Tryz.prog Tryz.f95 w0 F0 (fun v H => ∃ r, v = ndV { d with keys := d.keys.set j (al.keys.getD al.at' 0), kids := (d.kids.set j m1).set (j + 1) m2 } r ∧ H = [Nds { d with keys := d.keys.set j (al.keys.getD al.at' 0), kids := (d.kids.set j m1).set (j + 1) m2 } r, Wk b sb rd 0, Store sb db S2, Disk db D2]))
      (evT b b5 b8 b12 b13 (j : Nat)) [] (evH b5 b8 b12 b13 spg d r i x y rx ry (Wk b sb rd 0) (Store sb db S) (Disk db D)) := by
  have hkl := kidsLen hs.p hsl
  have hfk := hs.fits.k
  have hB := tBoth_does x y rx ry (d.keys.getD j 0) hx hy hlf
  rw [hal] at hB
  have hZ := fun r => ndSize_does al r hall
  have hSp := fun r => nSplit_does al r hap hall hz2 hm
  have ew : IntKind.i64.wrap ((j : Int) + 1) = ((j + 1 : Nat) : Int) := by rw [wrapI64 (by omega)]; rfl
  have hib : 0 ≤ IntKind.i64.wrap ((j : Int) + 1) ∧ IntKind.i64.wrap ((j : Int) + 1) < d.kids.length := by rw [ew]; omega
  have hul : (uV d.keys).length = d.keys.length := by simp [uV]
  have hgi2 : (d.kids.map encZ')[0 + (IntKind.i64.wrap ((j : Int) + 1)).toNat * 1]? = some (.int .i64 (d.kids.getD (j + 1) 0)) := by
    rw [ew]
    exact iGet (l := d.kids) (k := j + 1) (by omega)
  obtain ⟨p1, c1, p2, c2, p3, c3⟩ := r
  obtain ⟨c, hc⟩ : ∃ c, c = nav [1, 1, 1, 1, 1, 1, 1, 1] (bdy Tryz.f95) := ⟨_, rfl⟩
  rw [← hc]
  dsimp only [nav, bdy, Tryz.f95, Option.getD] at hc
  subst hc
  dsimp only [evT, evH]
  refine g_open (A := Nds d ⟨p1, c1, p2, c2, p3, c3⟩) (h := ?_); (rintro _ _; dsimp only [NdsK, List.cons_append, List.nil_append])
  refine g_ptr (m := d.kids.length) (h := ?_); rintro g3 rfl hc3
  refine g_ptr (m := d.keys.length) (h := ?_); rintro g1 rfl hc1
  have hgk := uGet (l := d.keys) (k := j) hj
  have hgi := iGet (l := d.kids) (k := j) (by omega)
  (repeat (first | refine g_seq (h := ?_) | refine g_region (h := ?_) | refine l_nil (h := ?_) | refine n_then (h := ?_) | refine l_pures1 (h := ?_) | refine l_load (h := ?_) | refine l_store (h := ?_) | (refine l_alloc (h := ?_); intro _)))
  rename_i b14
  (refine g_draw [cl b12 140 (ndA x rx).toList, cl b13 140 (ndA y ry).toList, cl b14 140 _, vec 32 1 (some ⟨g1, 0, none⟩) d.keys.length c1 (uV d.keys)] (h := a_pass2 (h := ?_)))
  (repeat' (first | refine g_seq (h := ?_) | refine g_region (h := ?_) | refine l_nil (h := ?_) | refine n_then (h := ?_) | refine l_pures1 (h := ?_) | (refine l_atc ?_; refine l_call_ (hB) ?_; rintro _ _ _ ⟨r15, rfl, rfl⟩ he; cases he) | (refine l_atc ?_; refine l_call (hZ _) ?_) | (refine l_atc ?_; refine l_call_ (hSp _) ?_; rintro _ _ _ ⟨r1, r2, rfl, rfl⟩ he; cases he) | refine l_load (h := ?_) | refine l_store (h := ?_) | (refine l_alloc (h := ?_); intro _) | refine g_skip (h := ?_) | refine a_done (h := ?_) | refine a_load (h := a_pass2 (h := ?_)) | refine a_one (h := ?_) | refine n_any (h := a_pass2 (h := ?_)) | refine a_v (h := ?_) | refine g_cond_f (h := ?_) | refine a_load_vec (h := a_pass2 (h := ?_)) | (refine g_spF (h := ?_); intro h) | refine a_fork2 (h1 := ?_) (h2 := ?_) | refine a1_of (h := ?_)))
  all_goals rename_i b15
  all_goals
    (refine g_draw [cl b12 140 _, cl b14 140 [.bool d.leaf, .slice (some ⟨g1, 0, none⟩) d.keys.length c1, .slice p2 d.vals.length c2, .slice (some ⟨g3, 0, none⟩) d.kids.length c3], vec 3 1 (some ⟨g3, 0, none⟩) d.kids.length c3 (d.kids.map encZ')] (h := a_pass2 (h := ?_)))
  all_goals
    (repeat' (first | refine g_seq (h := ?_) | refine g_region (h := ?_) | refine l_nil (h := ?_) | refine n_then (h := ?_) | refine l_pures1 (h := ?_) | (refine l_at 80 ?_; refine l_call (hL1 r1) ?_) | refine l_load (h := ?_) | refine l_indexAddr (h := ?_) | refine g_skip (h := ?_) | refine a_done (h := ?_) | refine a_load (h := a_pass2 (h := ?_)) | refine a_one (h := ?_) | refine n_any (h := a_pass2 (h := ?_)) | refine g_cond_f (h := ?_) | refine l_load_vec (h := ?_)))
  all_goals
    (refine g_draw [cl b13 140 _, cl b14 140 [.bool d.leaf, .slice (some ⟨g1, 0, none⟩) d.keys.length c1, .slice p2 d.vals.length c2, .slice (some ⟨g3, 0, none⟩) d.kids.length c3]] (h := a_pass2 (h := ?_)))
  all_goals
    (repeat' (first | refine g_seq (h := ?_) | refine g_region (h := ?_) | refine l_nil (h := ?_) | refine n_then (h := ?_) | (refine l_at 80 ?_; refine l_call (hL2 r2) ?_) | refine l_load (h := ?_) | refine l_store (h := ?_) | refine l_indexAddr (h := ?_) | refine g_ret (h := ?_) | refine a_done (h := ?_) | refine a_load (h := a_pass2 (h := ?_)) | refine a_one (h := ?_) | refine n_any (h := a_pass2 (h := ?_)) | refine l_load_vec (h := ?_) | refine l_store_vec (h := ?_)))
  all_goals rw [ew, set_encZ, set_encZ, set_uV]
  all_goals
    (refine n_shut (A := Nds { d with keys := d.keys.set j (al.keys.getD al.at' 0), kids := (d.kids.set j m1).set (j + 1) m2 } ⟨some ⟨g1, 0, none⟩, c1, p2, c2, some ⟨g3, 0, none⟩, c3⟩) (K := NdsK { d with keys := d.keys.set j (al.keys.getD al.at' 0), kids := (d.kids.set j m1).set (j + 1) m2 } ⟨some ⟨g1, 0, none⟩, c1, p2, c2, some ⟨g3, 0, none⟩, c3⟩ (())) (hid_shuts (()) trivial) (h := ?_) (p := by dsimp only [NdsK]; (try simp only [List.map_nil, List.length_nil, List.length_set, List.length_append, List.length_cons, List.length_singleton, List.map_append, List.map_cons, Nat.zero_add]); exact parts_of))
  all_goals
    refine r_retk [Nds { d with keys := d.keys.set j (al.keys.getD al.at' 0), kids := (d.kids.set j m1).set (j + 1) m2 } ⟨some ⟨g1, 0, none⟩, c1, p2, c2, some ⟨g3, 0, none⟩, c3⟩, Wk b sb rd 0, Store sb db S2, Disk db D2] ?_
  all_goals exact ⟨⟨some ⟨g1, 0, none⟩, c1, p2, c2, some ⟨g3, 0, none⟩, c3⟩, by simp [packV], rfl⟩
end Go.Proofs.YtbdgnjlbmhnipaaGreat
/- Delete, plainly: a node in hand and its neighbour. No code. -/
set_option maxRecDepth 20000
set_option linter.unusedVariables false
set_option linter.unusedSimpArgs false
namespace Go.Proofs.YtbdgnjlbmhnipaaGreat
open Go.Proofs.YtbdgnjlbmhnipaaGreat.SL

def LinkTo : List Spot → Int → Prop
  | [], _ => True
  | s :: up, pg => s.d.kids.getD s.i 0 = pg ∧ LinkTo up s.pg
/-- A node in hand that may be low, or have nothing. -/
structure HandD (N : Nat) (U : List Int) (T : List Ent) (S : Sh) (D : Dk) (up : List Spot) (pg : Int) (n : Nd) (h : Nat) (Lf Rt es : List Ent) (ps qs : List Int) : Prop where
  fine : Fine N S D U
  way : Way (Gd N D) up h Lf Rt qs
  nt : NT (Gd N D) h n es ps
  pages : (pg :: (ps ++ qs)).Perm (S.after U)
  fit : ∀ e ∈ es, FitsP up e.1
  all : Lf ++ (es ++ Rt) = T
  size : n.size ≤ 240
  link : LinkTo up pg

theorem mem_take_self {α : Type} {l : List α} {j : Nat} (h : j < l.length) : l[j] ∈ l.take (j + 1) := by
  have : (l.take (j + 1))[j]'(by simp; omega) = l[j] := by simp
  rw [← this]
  exact List.getElem_mem _
theorem both_keys {a b : Nd} {mid : Nat} (h : a.keys ≠ [] ∨ b.keys ≠ []) : (a.both mid b).keys ≠ [] := by
  unfold Nd.both
  dsimp only
  split
  · rcases h with h | h <;> simp [h]
  · simp
/-- The node in hand and its neighbour, as one; what stands beside. -/
structure Pair (N : Nat) (U : List Int) (T : List Ent) (S : Sh) (D : Dk) (s : Spot) (up : List Spot) (n : Nd) (h : Nat) (bd : Nd) (sl sr : List Sub) (L' R' es : List Ent) (ps q0 : List Int) : Prop where
  jlt : lefN s.i < s.d.keys.length
  go : Gd N D (s.d.kids.getD (othN s.i) 0) bd
  gb : bd.good
  lf : bd.leaf = n.leaf
  two : Two (Gd N D) h s.d (lefN s.i) sl sr
  nt : NT (Gd N D) h ((fstN s.i bd n).both (s.d.keys.getD (lefN s.i) 0) (sndN s.i bd n)) es ps
  sz : ((fstN s.i bd n).both (s.d.keys.getD (lefN s.i) 0) (sndN s.i bd n)).size ≤ 340
  ne : ((fstN s.i bd n).both (s.d.keys.getD (lefN s.i) 0) (sndN s.i bd n)).keys ≠ []
  f2 : ∀ e ∈ es, Fits2 s.d (lefN s.i) e.1
  fp : ∀ e ∈ es, FitsP up e.1
  way : Way (Gd N D) up (h + 1) L' R' q0
  gs : Gd N D s.pg s.d
  fs : ∀ e ∈ Sub.all sl ++ Sub.all sr, FitsP up e.1
  all : L' ++ ((Sub.all sl ++ (es ++ Sub.all sr)) ++ R') = T
  pages : (s.d.kids.getD (lefN s.i) 0 :: s.d.kids.getD (lefN s.i + 1) 0 :: (ps ++ (s.pg :: (Sub.pages sl ++ (Sub.pages sr ++ q0))))).Perm (S.after U)

theorem HandD.pair {N : Nat} {U : List Int} {T : List Ent} {S : Sh} {D : Dk} {s : Spot} {up : List Spot} {pg : Int} {n : Nd} {h : Nat} {Lf Rt es : List Ent} {ps qs : List Int} (k : HandD N U T S D (s :: up) pg n h Lf Rt es ps qs) (hz : n.size < 80) :
    ∃ bd sl sr L' R' es' ps' q0, Pair N U T S D s up n h bd sl sr L' R' es' ps' q0 := by
  obtain ⟨L', R', q0, sl, sr, w, g, mid, fs, rfl, rfl, rfl⟩ := k.way
  have hN := k.fine.n
  have hkl := kidsLen mid.good.p mid.leaf
  have hkp : 0 < s.d.keys.length := List.length_pos_iff.2 mid.ne
  obtain ⟨spg, d, i⟩ := s
  have hlink := k.link.1
  dsimp only at *
  cases i with
  | zero =>
    obtain ⟨kk, sb, sr', rfl, hk1, ⟨bd, ps', g1, g2, g3, g4, g5⟩, two, hf⟩ := two_right mid hkp
    have hsl : sl = [] := by have := mid.ol.len; simpa using this.symm
    subst hsl
    have hkk : d.kids.getD 1 0 = kk := by rw [List.getD, hk1]; rfl
    have hm64 : d.keys.getD 0 0 < 18446744073709551616 := mid.good.p.key _ (getD_mem hkp)
    have hd0 : d.keys.getD 0 0 ∈ d.keys.drop 0 := by rw [List.drop_zero]; exact getD_mem hkp
    obtain ⟨nt, sz⟩ := both_nt (mid := d.keys.getD 0 0) k.nt g4 (fun e he => (k.fit e he).1.2 _ hd0) (fun e he => (hf e he).2) hm64
    have hlf : bd.leaf = n.leaf := by
      have a := g4.leaf
      have b := k.nt.leaf
      cases h1 : bd.leaf <;> cases h2 : n.leaf <;> simp_all
    have hbk : bd.keys ≠ [] := by
      cases h1 : bd.leaf
      · exact g3 h1
      · exact List.length_pos_iff.1 (g2.some h1)
    refine ⟨bd, [], sr', L', R', _, _, q0, ⟨hkp, by rw [show othN 0 = 1 from rfl, hkk]; exact g1, g2, hlf, two, nt, ?_, both_keys (.inr hbk), ?_, ?_, w, g, ?_, ?_, ?_⟩⟩
    · have := g2.size
      show (n.both (d.keys.getD 0 0) bd).size ≤ 340
      omega
    · intro e he
      rcases List.mem_append.1 he with he | he
      · exact ⟨by simp [lefN], fun k' hk' => (k.fit e he).1.2 k' (by rw [List.drop_zero]; exact List.mem_of_mem_drop hk')⟩
      · exact (hf e he).1
    · intro e he
      rcases List.mem_append.1 he with he | he
      · exact (k.fit e he).2
      · exact fs e (by simp [Sub.all_cons, he])
    · intro e he
      exact fs e (by simp only [List.mem_append, Sub.all_cons] at he ⊢; exact he.elim .inl fun q => .inr (.inr q))
    · rw [← k.all]; simp [Sub.all_cons]
    · refine List.Perm.trans ?_ k.pages
      rw [show lefN 0 = 0 from rfl, hlink, hkk, Sub.pages_cons, g5]
      refine List.perm_iff_count.2 fun a => ?_
      simp only [List.count_append, List.count_cons, List.cons_append]
      omega
  | succ j =>
    have hj : j < d.keys.length := by have := mid.ile; omega
    obtain ⟨kk, sl', sb, rfl, hk1, ⟨bd, ps', g1, g2, g3, g4, g5⟩, two, hf⟩ := two_left mid
    have hkk : d.kids.getD j 0 = kk := by rw [List.getD, hk1]; rfl
    have hm64 : d.keys.getD j 0 < 18446744073709551616 := mid.good.p.key _ (getD_mem hj)
    have hdj : d.keys.getD j 0 ∈ d.keys.take (j + 1) := by
      have := mem_take_self hj
      simpa [List.getD, hj] using this
    obtain ⟨nt, sz⟩ := both_nt (mid := d.keys.getD j 0) g4 k.nt (fun e he => (hf e he).2) (fun e he => (k.fit e he).1.1 _ hdj) hm64
    have hlf : bd.leaf = n.leaf := by
      have a := g4.leaf
      have b := k.nt.leaf
      cases h1 : bd.leaf <;> cases h2 : n.leaf <;> simp_all
    have hbk : bd.keys ≠ [] := by
      cases h1 : bd.leaf
      · exact g3 h1
      · exact List.length_pos_iff.1 (g2.some h1)
    have hrise := mid.good.p.rise
    refine ⟨bd, sl', sr, L', R', _, _, q0, ⟨hj, by rw [show othN (j + 1) = j by simp [othN], hkk]; exact g1, g2, hlf, two, nt, ?_, both_keys (.inl hbk), ?_, ?_, w, g, ?_, ?_, ?_⟩⟩
    · have := g2.size
      have e1 : fstN (j + 1) bd n = bd := by simp [fstN]
      have e2 : sndN (j + 1) bd n = n := by simp [sndN]
      rw [e1, e2]
      show (bd.both (d.keys.getD j 0) n).size ≤ 340
      omega
    · intro e he
      rcases List.mem_append.1 he with he | he
      · refine ⟨(hf e he).1, fun k' hk' => ?_⟩
        have h1 := (hf e he).2
        have h2 := (rise_take_drop hrise hj).2
        have hk2 : k' ∈ d.keys.drop (j + 1) := hk'
        have h3 : d.keys[j] < k' := by
          have := hrise
          rw [← List.take_append_drop (j + 1) d.keys] at this
          have hm : d.keys[j] ∈ d.keys.take (j + 1) := mem_take_self hj
          exact (List.pairwise_append.1 this).2.2 _ hm _ hk2
        have h4 : d.keys.getD j 0 = d.keys[j] := by simp [List.getD, hj]
        omega
      · exact ⟨fun k' hk' => (k.fit e he).1.1 k' (by rw [List.take_succ_eq_append_getElem hj]; exact List.mem_append_left _ hk'), (k.fit e he).1.2⟩
    · intro e he
      rcases List.mem_append.1 he with he | he
      · exact fs e (by simp [Sub.all, he])
      · exact (k.fit e he).2
    · intro e he
      exact fs e (by simp only [List.mem_append, Sub.all_append] at he ⊢; exact he.elim (fun q => .inl (.inl q)) .inr)
    · rw [← k.all]; simp [Sub.all]
    · refine List.Perm.trans ?_ k.pages
      have hl2 : d.kids.getD (lefN (j + 1) + 1) 0 = pg := hlink
      rw [hl2, show lefN (j + 1) = j from rfl, hkk, Sub.pages_append]
      refine List.perm_iff_count.2 fun a => ?_
      have e5 : Sub.pages [sb] = kk :: ps' := by simp [Sub.pages, g5]
      rw [e5]
      simp only [List.count_append, List.count_cons, List.cons_append]
      omega
end Go.Proofs.YtbdgnjlbmhnipaaGreat
/- Package tree: a round of Delete. -/
set_option maxRecDepth 20000
set_option linter.unusedVariables false
set_option linter.unusedSimpArgs false
namespace Go.Proofs.YtbdgnjlbmhnipaaGreat
open Go.Proofs.YtbdgnjlbmhnipaaGreat.SL

theorem HandD.lay {N : Nat} {U : List Int} {T : List Ent} {S : Sh} {D : Dk} {s : Spot} {up : List Spot} {pg : Int} {n : Nd} {h : Nat} {Lf Rt es : List Ent} {ps qs : List Int} (k : HandD N U T S D (s :: up) pg n h Lf Rt es ps qs) (hz : 80 ≤ n.size) (room : U.length + S.fresh.length + 2 < N) :
    ∃ (m : Int) (S' : Sh) (D' : Dk) (Lf' Rt' es' : List Ent) (ps' qs' : List Int),
      (∀ b sb db read r, Does Tryz.prog 80 [.pointer (some ⟨b, 0, none⟩), .int .i64 pg, ndV n r] [Wk b sb read 0, Store sb db S, Disk db D, Nds n r] (fun v H => v = .int .i64 m ∧ H = [Wk b sb read 0, Store sb db S', Disk db D', Nds n r])) ∧
      HandD N U T S' D' up s.pg { s.d with kids := s.d.kids.set s.i m } (h + 1) Lf' Rt' es' ps' qs' ∧ S'.fresh.length ≤ S.fresh.length + 1 ∧ S'.gen = S.gen ∧ Same U S D S' D' := by
  have hne : n.keys ≠ [] := by
    intro e
    have hp := k.nt.plain
    cases hl : n.leaf
    · have : n.size = 1 + 2 * n.kids.length := by simp [Nd.size, hl, e]
      have := kidsLen hp hl
      rw [e] at this
      simp at this
      omega
    · have hv := valsLen hp hl
      rw [e] at hv
      have hv2 : n.vals = [] := List.length_eq_zero_iff.1 (by simpa using hv)
      have : n.size = 1 := by simp [Nd.size, hl, e, hv2, sumL]
      omega
  have hgood : n.good := ⟨k.nt.plain, fun _ => List.length_pos_iff.2 hne, k.size⟩
  obtain ⟨m, S', D', c1, c2, c3, c4, c5, c6, c7, c8, c9, c10⟩ := lay_ok k.fine k.pages room hgood
  have K : Hand N U T S D (s :: up) pg n h Lf Rt es ps qs := ⟨k.fine, k.way, k.nt, k.pages, k.fit, k.all, hne⟩
  obtain ⟨Lf', Rt', es', ps', qs', k', v1, v2, v3⟩ := Hand.up K k.size c2 c3 c4 c6
  have hsz : Nd.size { s.d with kids := s.d.kids.set s.i m } = s.d.size := by simp only [Nd.size, List.length_set]
  exact ⟨m, S', D', Lf', Rt', es', ps', qs', c1, ⟨k'.fine, k'.way, k'.nt, k'.pages, k'.fit, k'.all, by rw [hsz]; exact v1.size, k.link.2⟩, c8, c9, c10⟩

theorem HandD.even {N : Nat} {U : List Int} {T : List Ent} {S : Sh} {D : Dk} {s : Spot} {up : List Spot} {pg : Int} {n : Nd} {h : Nat} {Lf Rt es : List Ent} {ps qs : List Int} (k : HandD N U T S D (s :: up) pg n h Lf Rt es ps qs) (hz : n.size < 80) (room : U.length + S.fresh.length + 4 < N)
    (b sb db deep : Nat) (r rn : Rw) (read : Int) (h1 : 0 ≤ read ∧ read < 640) (h2 : deep + 1 ≤ 10) :
    Does Tryz.prog 95 [.pointer (some ⟨b, 0, none⟩), .agg #[.int .i64 s.pg, .bool s.d.leaf, .slice r.p1 s.d.keys.length r.c1, .slice r.p2 s.d.vals.length r.c2, .slice r.p3 s.d.kids.length r.c3, .int .i64 s.i], ndV n rn, .int .i64 deep] [Nds s.d r, Nds n rn, Wk b sb read 0, Store sb db S, Disk db D]
      (fun v H => ∃ (n' : Nd) (r' : Rw) (S' : Sh) (D' : Dk), v = ndV n' r' ∧ H = [Nds n' r', Wk b sb (read + 1) 0, Store sb db S', Disk db D'] ∧ (∃ Lf' Rt' es' ps' qs', HandD N U T S' D' up s.pg n' (h + 1) Lf' Rt' es' ps' qs') ∧ S'.fresh.length ≤ S.fresh.length + 2 ∧ S'.gen = S.gen ∧ Same U S D S' D') := by
  obtain ⟨bd, sl, sr, L', R', es', ps', q0, p⟩ := k.pair hz
  have hN := k.fine.n
  have hs : s.d.good := p.two.good
  have hsl : s.d.leaf = false := p.two.leaf
  have hkl := kidsLen hs.p hsl
  have hi : s.i ≤ s.d.keys.length := by
    obtain ⟨_, _, _, _, _, _, _, mid, _⟩ := k.way
    exact mid.ile
  have hkk : s.d.keys ≠ [] := by intro e; have := p.jlt; rw [e] at this; simp at this
  have hrb : S.read D (s.d.kids.getD (othN s.i) 0) = ((2, bd.text, 0), S) := by rw [k.fine.read p.go.1, p.go.2]
  have hnf : n.fits := k.nt.plain.fits (by have := k.size; omega)
  have hxf : (fstN s.i bd n).fits := by unfold fstN; split; exact hnf; exact p.gb.fits
  have hyf : (sndN s.i bd n).fits := by unfold sndN; split; exact p.gb.fits; exact hnf
  have hlf2 : (sndN s.i bd n).leaf = (fstN s.i bd n).leaf := by unfold sndN fstN; split; exact p.lf; exact p.lf.symm
  obtain ⟨al, hal⟩ : ∃ al, (fstN s.i bd n).both (s.d.keys.getD (lefN s.i) 0) (sndN s.i bd n) = al := ⟨_, rfl⟩
  have pnt := p.nt
  have psz := p.sz
  have pne := p.ne
  rw [hal] at pnt psz pne
  have haf : al.fits := pnt.plain.fits (by omega)
  have hjl := p.jlt
  have hkb : ∀ q, q < s.d.kids.length → -9223372036854775808 ≤ s.d.kids.getD q 0 ∧ s.d.kids.getD q 0 < 9223372036854775808 := fun q hq => by
    have := hs.p.kid _ (getD_mem (z := 0) hq)
    omega
  by_cases hz2 : al.size ≤ 240
  · have hgood : al.good := ⟨pnt.plain, fun _ => List.length_pos_iff.2 pne, hz2⟩
    obtain ⟨m, S1, D1, c1, c2, c3, c4, c5, c6, c7, c8, c9, c10⟩ := lay_ok k.fine p.pages (by omega) hgood
    obtain ⟨S2, g1, g2, g3, g4, g5, g6⟩ := give_ok (pg := s.d.kids.getD (lefN s.i + 1) 0) (rest := m :: (ps' ++ (s.pg :: (Sub.pages sl ++ (Sub.pages sr ++ q0))))) c2 ((List.Perm.swap _ _ _).trans c6)
    have ck : ∀ q ∈ ps' ++ (s.pg :: (Sub.pages sl ++ (Sub.pages sr ++ q0))), ∀ dd, Gd N D q dd → Gd N D1 q dd := fun q hq dd gd => gd.keep (c4 q (List.mem_cons_of_mem _ hq))
    refine (even_head b sb db deep s.i s.pg s.d n bd r rn read S D _ hs hsl hi hkk p.gb p.lf hrb h1 h2 (fun w0 F0 b5 b8 b12 b13 r rx ry => even_merge b sb db s.i (lefN s.i) s.pg s.d (fstN s.i bd n) (sndN s.i bd n) (read + 1) m S S1 S2 D D1 hs hsl hjl hxf hyf hlf2 (by rw [hal]; exact haf) (by rw [hal]; exact hz2) (fun r => by rw [hal]; exact c1 b sb db (read + 1) r) g1 (hkb _ (by omega)) w0 F0 b5 b8 b12 b13 r rx ry)).mono ?_
    rintro v H ⟨r', rfl, rfl⟩
    have o : OnP (Gd N D1) h m ⟨es', m :: ps'⟩ := ⟨al, ps', c3, hgood, fun _ => pne, pnt.same (fun q hq => ck q (by simp [hq])), rfl⟩
    have hnt := merge p.two o (by have := c3.1; omega) p.f2 (fun q hq => ck q (by simp only [List.mem_append, List.mem_cons] at hq ⊢; exact .inr (.inr (hq.elim .inl fun z => .inr (.inl z)))))
    refine ⟨_, r', S2, D1, rfl, rfl, ⟨L', R', _, _, q0, ⟨g2, p.way.same (fun q hq => ck q (by simp [hq])), hnt, ?_, ?_, p.all, ?_, k.link.2⟩⟩, by omega, g5.trans c9, g6.trans c10⟩
    · refine List.Perm.trans ?_ g3
      refine List.perm_iff_count.2 fun a => ?_
      simp only [List.count_append, List.count_cons, List.cons_append]
      omega
    · intro e he
      simp only [List.mem_append] at he
      rcases he with he | he | he
      · exact p.fs e (by simp [he])
      · exact p.fp e he
      · exact p.fs e (by simp [he])
    · have h3 := hs.size
      have h4 : (Nd.unhang { s.d with kids := s.d.kids.set (lefN s.i) m } (lefN s.i)).size ≤ s.d.size := by
        have l1 := laid_len (l := s.d.keys) (p := lefN s.i) (g := 1) (m := []) (by omega)
        have l2 := laid_len (l := s.d.kids.set (lefN s.i) m) (p := lefN s.i + 1) (g := 1) (m := []) (by simp; omega)
        simp only [Nd.unhang, Nd.size, hsl, Bool.false_eq_true, if_false, l1, l2, List.length_set, List.length_nil]
        omega
      exact Nat.le_trans h4 h3
  · have hz3 : 240 < al.size := by omega
    obtain ⟨a1, a2, a3, a4, a5⟩ := at_spec pnt.plain hz3 psz
    obtain ⟨e1, p1, e2, p2, md, hmd, n1, n2, rfl, rfl, lt1, ge2, q1, q2⟩ := split_nt pnt a2 a3
    have hmd' : al.keys.getD al.at' 0 = md := by rw [List.getD, hmd]; rfl
    have hmm : md < 18446744073709551616 := pnt.plain.key md (List.mem_of_getElem? hmd)
    have gf : (al.front al.at').good := ⟨n1.plain, fun _ => List.length_pos_iff.2 q1, a4⟩
    have gb : (al.back al.at').good := ⟨n2.plain, fun _ => List.length_pos_iff.2 q2, a5⟩
    obtain ⟨m1, S1, D1, c1, c2, c3, c4, c5, c6, c7, c8, c9, c10⟩ := lay_ok k.fine p.pages (by omega) gf
    obtain ⟨m2, S2, D2, f1, f2, f3, f4, f5, f6, f7, f8, f9, f10⟩ := lay_ok (pg := s.d.kids.getD (lefN s.i + 1) 0) (rest := m1 :: (p1 ++ p2 ++ (s.pg :: (Sub.pages sl ++ (Sub.pages sr ++ q0))))) c2 ((List.Perm.swap _ _ _).trans c6) (by omega) gb
    have ck : ∀ q ∈ p1 ++ p2 ++ (s.pg :: (Sub.pages sl ++ (Sub.pages sr ++ q0))), ∀ dd, Gd N D q dd → Gd N D2 q dd := fun q hq dd gd => (gd.keep (c4 q (List.mem_cons_of_mem _ hq))).keep (f4 q (List.mem_cons_of_mem _ hq))
    refine (even_head b sb db deep s.i s.pg s.d n bd r rn read S D _ hs hsl hi hkk p.gb p.lf hrb h1 h2 (fun w0 F0 b5 b8 b12 b13 r rx ry => even_deal b sb db s.i (lefN s.i) s.pg s.d (fstN s.i bd n) (sndN s.i bd n) al (read + 1) m1 m2 S S1 S2 D D1 D2 hs hsl hjl hxf hyf hlf2 hal pnt.plain haf hz3 (by omega) a1 (fun r => c1 b sb db (read + 1) r) (fun r => f1 b sb db (read + 1) r) w0 F0 b5 b8 b12 b13 r rx ry)).mono ?_
    rintro v H ⟨r', rfl, rfl⟩
    rw [hmd']
    have o1 : OnP (Gd N D2) h m1 ⟨e1, m1 :: p1⟩ := ⟨_, p1, c3.keep (f4 m1 (by simp)), gf, fun _ => q1, n1.same (fun q hq => ck q (by simp [hq])), rfl⟩
    have o2 : OnP (Gd N D2) h m2 ⟨e2, m2 :: p2⟩ := ⟨_, p2, f3, gb, fun _ => q2, n2.same (fun q hq => ck q (by simp [hq])), rfl⟩
    have hnt := deal p.two o1 o2 (by have := c3.1; omega) (by have := f3.1; omega) hmm (fun x hx => ⟨p.f2 x (by simp [hx]), lt1 x hx⟩) (fun x hx => ⟨p.f2 x (by simp [hx]), ge2 x hx⟩) (fun q hq => ck q (by simp only [List.mem_append, List.mem_cons] at hq ⊢; exact .inr (.inr (hq.elim .inl fun z => .inr (.inl z)))))
    refine ⟨_, r', S2, D2, rfl, rfl, ⟨L', R', _, _, q0, ⟨f2, p.way.same (fun q hq => ck q (by simp [hq])), hnt, ?_, ?_, p.all, ?_, k.link.2⟩⟩, by omega, f9.trans c9, f10.trans c10⟩
    · refine List.Perm.trans ?_ f6
      refine List.perm_iff_count.2 fun a => ?_
      simp only [List.count_append, List.count_cons, List.cons_append]
      omega
    · intro e he
      simp only [List.mem_append] at he
      rcases he with he | (he | he) | he
      · exact p.fs e (by simp [he])
      · exact p.fp e (by simp [he])
      · exact p.fp e (by simp [he])
      · exact p.fs e (by simp [he])
    · have h3 := hs.size
      have h4 : Nd.size { s.d with keys := s.d.keys.set (lefN s.i) md, kids := (s.d.kids.set (lefN s.i) m1).set (lefN s.i + 1) m2 } = s.d.size := by
        simp only [Nd.size, hsl, Bool.false_eq_true, if_false, List.length_set]
      exact Nat.le_trans (Nat.le_of_eq h4) h3
end Go.Proofs.YtbdgnjlbmhnipaaGreat
/- Package tree: Delete, behind its loop. -/
set_option maxRecDepth 20000
set_option linter.unusedVariables false
set_option linter.unusedSimpArgs false
namespace Go.Proofs.YtbdgnjlbmhnipaaGreat
open Go.Proofs.YtbdgnjlbmhnipaaGreat.SL

abbrev DelQ (N : Nat) (U : List Int) (T : List Ent) (S0 : Sh) (D0 : Dk) (sb db : Nat) (v : Value) (H : List SProp) : Prop :=
  ∃ (m : Int) (S' : Sh) (D' : Dk), v = .tuple #[.int .i64 m, .bool true, .int .i64 0] ∧ H = [Store sb db S', Disk db D'] ∧ IsTree N S' D' U m T ∧ Fine N S' D' U ∧ S'.gen = S0.gen ∧ Same U S0 D0 S' D'

set_option maxHeartbeats 4000000 in
theorem del_tail (b sb db b13 b15 N : Nat) (U : List Int) (T : List Ent) (S0 S : Sh) (D0 D : Dk) (xs : Sp) (n : Nd) (rn : Rw) (rd : Int) {h : Nat} {Lf Rt es : List Ent} {ps qs : List Int} (k : HandD N U T S D [] xs.pg n h Lf Rt es ps qs) (room : U.length + S.fresh.length + 2 < N) (hg : S.gen = S0.gen) (hr : Same U S0 D0 S D) (w0 : World) (F0 : Nat → Prop) :
    G Tryz.prog 158 w0 F0 (nav [1, 1, 1, 1, 1, 1, 1, 1, 1] (bdy Tryz.f62)) (Post Tryz.prog Tryz.f62 w0 F0 (DelQ N U T S0 D0 sb db))
      [(15, .pointer (some ⟨b15, 0, none⟩)), (13, .pointer (some ⟨b13, 0, none⟩)), (11, .pointer (some ⟨b, 0, none⟩)), (0, .pointer (some ⟨sb, 0, none⟩))] [] [cl b13 144 xs.c, cl b15 140 (ndA n rn).toList, Nds n rn, Wk b sb rd 0, Store sb db S, Disk db D] := by
  have hN := k.fine.n
  obtain ⟨xpg, xd, xr, xi⟩ := xs
  dsimp only at k
  obtain ⟨rfl, rfl, rfl⟩ := k.way
  have hall := k.all
  simp only [List.nil_append, List.append_nil] at hall
  have hpp := k.pages
  rw [List.append_nil] at hpp
  have hp := k.nt.plain
  have hfk := (hp.fits (by have := k.size; omega)).k
  have hpg : 2 ≤ xpg ∧ xpg < N := by
    have hm : xpg ∈ S.after U := hpp.mem_iff.1 (by simp)
    rcases (Sh.mem_after.1 hm).1 with q | q
    · exact k.fine.h.b _ q
    · have := k.fine.f.2 _ q; omega
  obtain ⟨c, hc⟩ : ∃ c, c = nav [1, 1, 1, 1, 1, 1, 1, 1, 1] (bdy Tryz.f62) := ⟨_, rfl⟩
  rw [← hc]
  dsimp only [nav, bdy, Tryz.f62, Option.getD] at hc
  subst hc
  dsimp only [Sp.c]
  by_cases hne : n.keys = []
  · obtain ⟨S', g1, g2, g3, g4, g5, g6⟩ := give_ok k.fine hpp
    have hG := sGive_does sb db S xpg (by omega)
    rw [g1] at hG
    dsimp only at hG
    have hF := wFail0_does b sb rd
    have hkl0 : n.keys.length = 0 := by rw [hne]; rfl
    cases hl : n.leaf
    · have hkl := kidsLen hp hl
      have hgk := iGet (l := n.kids) (k := 0) (by omega)
      obtain ⟨p1, c1, p2, c2, p3, c3⟩ := rn
      refine g_open (A := Nds n ⟨p1, c1, p2, c2, p3, c3⟩) (h := ?_); (rintro _ _; dsimp only [NdsK, List.cons_append, List.nil_append])
      refine g_ptr (m := n.kids.length) (h := ?_); rintro g rfl hc
      have hit : IsTree N S' D U (n.kids.getD 0 0) T := by
        have hnt := k.nt
        cases h with
        | zero => have := hnt.1; rw [hl] at this; cases this
        | succ h =>
          obtain ⟨_, _, ss, f, e1, e2, sp⟩ := hnt
          rw [hne] at sp
          cases ss with
          | nil => exact sp.elim
          | cons s0 ss =>
            cases ss with
            | cons _ _ => exact sp.elim
            | nil =>
              cases hks : n.kids with
              | nil => rw [hks] at f; exact f.elim
              | cons k0 kk =>
                rw [hks] at f
                have h1 := f.1
                refine .inr ⟨h, s0.ps, ?_, ?_⟩
                · rw [← hall, e1]
                  have : Sub.all [s0] = s0.es := by simp [Sub.all]
                  rw [this]
                  exact h1
                · rw [e2] at g3
                  simpa [Sub.pages] using g3
      (repeat' (first | refine g_seq (h := ?_) | refine g_region (h := ?_) | refine l_nil (h := ?_) | refine n_then (h := ?_) | refine l_pures1 (h := ?_) | (refine l_atc ?_; refine l_call (hG) ?_) | (refine l_atc ?_; refine l_call (hF) ?_) | refine l_guard_yes (h := ?_) | refine l_load (h := ?_) | refine l_indexAddr (h := ?_) | refine g_skip (h := ?_) | refine g_ret (h := ?_) | refine g_cond_t (h := ?_) | refine g_cond_f (h := ?_) | refine l_load_vec (h := ?_) | (refine g_spF (h := ?_); intro h)))
      refine r_retk [Store sb db S', Disk db D] ?_
      exact ⟨_, S', D, rfl, rfl, hit, g2, g5.trans hg, g6.trans hr⟩
    · have hit : IsTree N S' D U 0 T := by
        have hnt := k.nt
        have h0 := hnt.leaf.1 hl
        subst h0
        obtain ⟨_, _, e1, e2⟩ := hnt
        refine .inl ⟨rfl, ?_, ?_⟩
        · rw [← hall, e1, Nd.ents, hne]; rfl
        · rw [e2] at g3
          exact List.Perm.nil_eq g3 ▸ rfl
      (repeat' (first | refine g_seq (h := ?_) | refine g_region (h := ?_) | refine l_nil (h := ?_) | refine n_then (h := ?_) | refine l_pures1 (h := ?_) | (refine l_atc ?_; refine l_call (hG) ?_) | (refine l_atc ?_; refine l_call (hF) ?_) | refine l_guard_yes (h := ?_) | refine l_load (h := ?_) | refine g_skip (h := ?_) | refine g_ret (h := ?_) | refine g_cond_f (h := ?_) | (refine g_spF (h := ?_); intro h)))
      refine r_retk [Store sb db S', Disk db D] ?_
      exact ⟨0, S', D, rfl, rfl, hit, g2, g5.trans hg, g6.trans hr⟩
  · have hkl : 0 < n.keys.length := List.length_pos_iff.2 hne
    have hgood : n.good := ⟨hp, fun _ => hkl, k.size⟩
    obtain ⟨m, S', D', c1, c2, c3, c4, c5, c6, c7, c8, c9, c10⟩ := lay_ok k.fine k.pages room hgood
    have K : Hand N U T S D [] xpg n h [] [] es ps [] := ⟨k.fine, k.way, k.nt, k.pages, k.fit, k.all, hne⟩
    (repeat' (first | refine g_seq (h := ?_) | refine g_region (h := ?_) | refine l_nil (h := ?_) | refine n_then (h := ?_) | refine l_pures1 (h := ?_) | (refine l_at 80 ?_; refine l_call (c1 b sb db rd rn) ?_) | refine l_load (h := ?_) | refine g_skip (h := ?_) | refine g_ret (h := ?_) | refine g_cond_f (h := ?_) | (refine g_spT (h := ?_); intro h)))
    refine r_retk [Store sb db S', Disk db D'] ?_
    exact ⟨m, S', D', rfl, rfl, Hand.top K k.size c2 c3 c4 c6, c2, c9.trans hg, c10.trans hr⟩
end Go.Proofs.YtbdgnjlbmhnipaaGreat
/- Package tree: a round of Delete's loop. -/
set_option maxRecDepth 20000
set_option linter.unusedVariables false
set_option linter.unusedSimpArgs false
namespace Go.Proofs.YtbdgnjlbmhnipaaGreat
open Go.Proofs.YtbdgnjlbmhnipaaGreat.SL

abbrev delT (b sb b' b13 b15 b16 : Nat) : List (Nat × Value) := [(17, .bool true), (16, .pointer (some ⟨b16, 0, none⟩)), (15, .pointer (some ⟨b15, 0, none⟩)), (13, .pointer (some ⟨b13, 0, none⟩)), (12, .pointer (some ⟨b', 0, none⟩)), (11, .pointer (some ⟨b, 0, none⟩)), (0, .pointer (some ⟨sb, 0, none⟩))]

set_option maxHeartbeats 4000000 in
theorem del_lay (A : SProp) (b sb db b' b13 b15 b16 : Nat) (rd m : Int) (xs s : Sp) (L : List Sp) (n : Nd) (rn : Rw) (S S' : Sh) (D D' : Dk) (hn : 80 ≤ n.size) (hf : n.fits) (hk : s.i < s.d.kids.length) (hlen : L.length < 100)
    (hL : ∀ r, Does Tryz.prog 80 [.pointer (some ⟨b, 0, none⟩), .int .i64 (s.d.kids.getD s.i 0), ndV n r] [Wk b sb rd 0, Store sb db S, Disk db D, Nds n r] (fun v H => v = .int .i64 m ∧ H = [Wk b sb rd 0, Store sb db S', Disk db D', Nds n r]))
    (w0 : World) (F0 : Nat → Prop) (Q : Exit → Act → World → Prop) (hc : SL.Calm Q)
    (hq : ∀ r, N 158 w0 F0 .normal Q (delT b sb b' b13 b15 b16) [] [cl b16 144 s.c, cl b13 144 s.c, cl b15 140 (ndA { s.d with kids := s.d.kids.set s.i m } r).toList, Stk b' L, Nds { s.d with kids := s.d.kids.set s.i m } r, Wk b sb rd 0, Store sb db S', Disk db D', A]) :
    G Tryz.prog 158 w0 F0 (nav [1, 1, 1, 1, 1, 1, 1, 1, 0, 1, 2, 2, 1, 0, 2] (bdy Tryz.f62)) Q (delT b sb b' b13 b15 b16) [] [cl b16 144 s.c, cl b13 144 xs.c, cl b15 140 (ndA n rn).toList, Stk b' L, Nds s.d s.r, Nds n rn, Wk b sb rd 0, Store sb db S, Disk db D, A] := by
  have hS := ndSize_does n rn hf
  obtain ⟨tpg, td, ⟨p1, c1, p2, c2, p3, c3⟩, ti⟩ := s
  dsimp only at hk hL hq ⊢
  obtain ⟨c, hc⟩ : ∃ c, c = nav [1, 1, 1, 1, 1, 1, 1, 1, 0, 1, 2, 2, 1, 0, 2] (bdy Tryz.f62) := ⟨_, rfl⟩
  rw [← hc]
  dsimp only [nav, bdy, Tryz.f62, Option.getD] at hc
  subst hc
  dsimp only [Sp.c, delT] at hq ⊢
  refine g_open (A := Stk b' L) (h := ?_); (rintro ⟨ps, cs⟩ _; dsimp only [StkK, List.cons_append, List.nil_append])
  refine g_open (A := Nds td ⟨p1, c1, p2, c2, p3, c3⟩) (h := ?_); (rintro _ _; dsimp only [NdsK, List.cons_append, List.nil_append])
  refine g_ptr (m := td.kids.length) (h := ?_); rintro g rfl hcp
  have hgk := iGet (l := td.kids) (k := ti) (by omega)
  (repeat' (first | refine g_seq (h := ?_) | refine g_region (h := ?_) | refine l_nil (h := ?_) | refine n_then (h := ?_) | refine l_pures1 (h := ?_) | (refine l_atc ?_; refine l_call (hS) ?_) | refine l_guard_no (h := ?_) | refine l_load (h := ?_) | refine g_cond_t (h := ?_) | (refine l_spT (h := ?_); intro h)))
  all_goals
    (refine g_draw [cl b16 144 _, vec 3 1 (some ⟨g, 0, none⟩) td.kids.length c3 (td.kids.map encZ'), cl b15 140 _] (h := a_pass2 (h := ?_)))
  all_goals
    (repeat' (first | refine g_seq (h := ?_) | refine g_region (h := ?_) | refine l_nil (h := ?_) | refine n_then (h := ?_) | refine l_pures1 (h := ?_) | (refine l_at 80 ?_; refine l_call (hL rn) ?_) | refine l_load (h := ?_) | refine l_store (h := ?_) | refine l_indexAddr (h := ?_) | refine g_skip (h := ?_) | refine a_done (h := ?_) | refine a_load (h := a_pass2 (h := ?_)) | refine a_one (h := ?_) | refine n_any (h := a_pass2 (h := ?_)) | refine g_cond_f (h := ?_) | refine l_load_vec (h := ?_) | refine l_store_vec (h := ?_)))
  rw [set_encZ]
  (refine n_shut (A := Nds { td with kids := td.kids.set ti m } ⟨p1, c1, p2, c2, some ⟨g, 0, none⟩, c3⟩) (K := NdsK { td with kids := td.kids.set ti m } ⟨p1, c1, p2, c2, some ⟨g, 0, none⟩, c3⟩ (())) (hid_shuts (()) trivial) (h := ?_) (p := by dsimp only [NdsK]; (try simp only [List.map_nil, List.length_nil, List.length_set, List.length_append, List.length_cons, List.length_singleton, List.map_append, List.map_cons, Nat.zero_add]); exact parts_of))
  (refine n_shut (A := Stk b' L) (K := StkK b' L ((ps, cs))) (hid_shuts ((ps, cs)) trivial) (h := ?_) (p := by dsimp only [StkK]; (try simp only [List.map_nil, List.length_nil, List.length_set, List.length_append, List.length_cons, List.length_singleton, List.map_append, List.map_cons, Nat.zero_add]); exact parts_of))
  have hq' := hq ⟨p1, c1, p2, c2, some ⟨g, 0, none⟩, c3⟩
  simp only [List.length_set] at hq'
  exact n_bang hq'

set_option maxHeartbeats 4000000 in
theorem del_even (A : SProp) (P : Nd → Sh → Dk → Prop) (b sb db b' b13 b15 b16 : Nat) (rd rd' : Int) (xs s : Sp) (L : List Sp) (n : Nd) (rn : Rw) (S : Sh) (D : Dk) (hn : n.size < 80) (hf : n.fits) (hk : 1 < s.d.kids.length) (hk2 : s.d.kids.length < 10000) (hlen : L.length < 100)
    (hE : ∀ r rn, Does Tryz.prog 95 [.pointer (some ⟨b, 0, none⟩), .agg #[.int .i64 s.pg, .bool s.d.leaf, .slice r.p1 s.d.keys.length r.c1, .slice r.p2 s.d.vals.length r.c2, .slice r.p3 s.d.kids.length r.c3, .int .i64 s.i], ndV n rn, .int .i64 (L.length + 1 : Nat)] [Nds s.d r, Nds n rn, Wk b sb rd 0, Store sb db S, Disk db D]
      (fun v H => ∃ (n' : Nd) (r' : Rw) (S' : Sh) (D' : Dk), v = ndV n' r' ∧ H = [Nds n' r', Wk b sb rd' 0, Store sb db S', Disk db D'] ∧ P n' S' D'))
    (w0 : World) (F0 : Nat → Prop) (Q : Exit → Act → World → Prop) (hc : SL.Calm Q)
    (hq : ∀ n' r' S' D', P n' S' D' → N 158 w0 F0 .normal Q (delT b sb b' b13 b15 b16) [] [cl b16 144 s.c, cl b13 144 s.c, cl b15 140 (ndA n' r').toList, Stk b' L, Nds n' r', Wk b sb rd' 0, Store sb db S', Disk db D', A]) :
    G Tryz.prog 158 w0 F0 (nav [1, 1, 1, 1, 1, 1, 1, 1, 0, 1, 2, 2, 1, 0, 2] (bdy Tryz.f62)) Q (delT b sb b' b13 b15 b16) [] [cl b16 144 s.c, cl b13 144 xs.c, cl b15 140 (ndA n rn).toList, Stk b' L, Nds s.d s.r, Nds n rn, Wk b sb rd 0, Store sb db S, Disk db D, A] := by
  have hS := ndSize_does n rn hf
  have ed : IntKind.i64.wrap ((L.length : Int) + 1) = ((L.length + 1 : Nat) : Int) := by rw [wrapI64 (by omega)]; rfl
  rw [← ed] at hE
  obtain ⟨tpg, td, ⟨p1, c1, p2, c2, p3, c3⟩, ti⟩ := s
  dsimp only at hk hE hq ⊢
  have hE2 := hE ⟨p1, c1, p2, c2, p3, c3⟩ rn
  dsimp only at hE2
  obtain ⟨c, hc⟩ : ∃ c, c = nav [1, 1, 1, 1, 1, 1, 1, 1, 0, 1, 2, 2, 1, 0, 2] (bdy Tryz.f62) := ⟨_, rfl⟩
  rw [← hc]
  dsimp only [nav, bdy, Tryz.f62, Option.getD] at hc
  subst hc
  dsimp only [Sp.c, delT] at hq ⊢
  refine g_open (A := Stk b' L) (h := ?_); (rintro ⟨ps, cs⟩ _; dsimp only [StkK, List.cons_append, List.nil_append])
  (repeat' (first | refine g_seq (h := ?_) | refine g_region (h := ?_) | refine l_nil (h := ?_) | refine n_then (h := ?_) | refine l_pures1 (h := ?_) | (refine l_atc ?_; refine l_call (hS) ?_) | (refine l_atc ?_; refine l_call_ (hE2) ?_; rintro _ _ _ ⟨n', r', S', D', rfl, rfl, hP⟩ he; cases he) | refine l_guard_yes (h := ?_) | refine l_load (h := ?_) | refine l_store (h := ?_) | refine g_skip (h := ?_) | refine g_cond_f (h := ?_) | (refine l_spF (h := ?_); intro h) | (refine g_spF (h := ?_); intro h)))
  (refine n_shut (A := Stk b' L) (K := StkK b' L ((ps, cs))) (hid_shuts ((ps, cs)) trivial) (h := ?_) (p := by dsimp only [StkK]; (try simp only [List.map_nil, List.length_nil, List.length_set, List.length_append, List.length_cons, List.length_singleton, List.map_append, List.map_cons, Nat.zero_add]); exact parts_of))
  exact n_bang (hq n' r' S' D' hP)
end Go.Proofs.YtbdgnjlbmhnipaaGreat
/- Package tree: the loop of Delete. -/
set_option maxRecDepth 20000
set_option linter.unusedVariables false
set_option linter.unusedSimpArgs false
namespace Go.Proofs.YtbdgnjlbmhnipaaGreat
open Go.Proofs.YtbdgnjlbmhnipaaGreat.SL

structure DelSt where
  L : List Sp
  ab : Option Sp
  b16 : Nat
  xs : Sp
  n : Nd
  rn : Rw
  S : Sh
  D : Dk
  rd : Int
def abL (ab : Option Sp) : List Sp := match ab with
  | some s => [s]
  | none => []
def abC (ab : Option Sp) : List Value := match ab with
  | some s => s.c
  | none => [.int .i64 0, .bool false, .slice none 0 0, .slice none 0 0, .slice none 0 0, .int .i64 0]
def abN (ab : Option Sp) : Nat := match ab with
  | some _ => 1
  | none => 0
/-- What holds at each round of Delete. -/
def DelI (N : Nat) (U : List Int) (T : List Ent) (S0 : Sh) (D0 : Dk) (y : DelSt) : Prop :=
  ∃ h Lf Rt es ps qs, HandD N U T y.S y.D ((abL y.ab).map Sp.spot ++ (y.L.map Sp.spot).reverse) y.xs.pg y.n h Lf Rt es ps qs ∧ (y.ab = none → y.L = []) ∧ U.length + y.S.fresh.length + 2 * (y.L.length + abN y.ab) + 5 < N ∧ y.L.length ≤ 8 ∧ 0 ≤ y.rd ∧ y.rd + y.L.length + abN y.ab < 640 ∧ y.S.gen = S0.gen ∧ Same U S0 D0 y.S y.D

theorem inv_tail {w0 w : World} {F0 : Nat → Prop} {A : SProp} {H : List SProp} (i : Inv w0 F0 (A :: H) w) : Inv w0 F0 H w :=
  i.imp fun s => by
    obtain ⟨F1, F2, _, s', _, un⟩ := s
    exact ⟨F2, s', fun b hb => (un b).2 (.inr hb)⟩
theorem ndl_one {w0 w : World} {F0 : Nat → Prop} {H : List SProp} {s : Sp} (i : Inv w0 F0 (NdL [s] :: H) w) : Inv w0 F0 (Nds s.d s.r :: H) w := inv_tail (ndl_last (L := []) i)
theorem ndl_sing {w0 w : World} {F0 : Nat → Prop} {H : List SProp} {s : Sp} (i : Inv w0 F0 (Nds s.d s.r :: H) w) : Inv w0 F0 (NdL [s] :: H) w := ndl_snoc (L := []) (ndl_nil i)

theorem abL_len (ab : Option Sp) : (abL ab).length = abN ab := by cases ab <;> rfl
theorem DelI.next {N : Nat} {U : List Int} {T : List Ent} {S0 S' : Sh} {D0 D' : Dk} {L' : List Sp} {ab : Option Sp} {b17 : Nat} {s : Sp} {n' : Nd} {r : Rw} {rd : Int} {h : Nat} {Lf Rt es : List Ent} {ps qs : List Int}
    (k : HandD N U T S' D' ((L' ++ abL ab).map Sp.spot).reverse s.pg n' h Lf Rt es ps qs) (hab : ab = none → L' = []) (room : U.length + S'.fresh.length + 2 * (L' ++ abL ab).length + 5 < N) (hL : (L' ++ abL ab).length ≤ 8) (h1 : 0 ≤ rd) (h2 : rd + ((L' ++ abL ab).length : Nat) < 640) (hg : S'.gen = S0.gen) (hr : Same U S0 D0 S' D') :
    DelI N U T S0 D0 ⟨L', ab, b17, s, n', r, S', D', rd⟩ := by
  have hl := abL_len ab
  rw [List.length_append, hl] at room hL h2
  refine ⟨h, Lf, Rt, es, ps, qs, ?_, hab, room, by show L'.length ≤ 8; omega, h1, by show rd + (L'.length : Int) + (abN ab : Int) < 640; omega, hg, hr⟩
  have e : ((L' ++ abL ab).map Sp.spot).reverse = (abL ab).map Sp.spot ++ (L'.map Sp.spot).reverse := by
    rw [List.map_append, List.reverse_append]
    cases ab <;> rfl
  rw [e] at k
  exact k

set_option maxHeartbeats 4000000 in
theorem del_next (A B C : SProp) (b sb b' b13 b15 b16 : Nat) (s : Sp) (L : List Sp) (n' : Nd) (r' : Rw) (hlen : L.length < 100) (w0 : World) (F0 : Nat → Prop) (Q : Exit → Act → World → Prop) (hc : SL.Calm Q)
    (hq : ∀ b16' ab L', L = L' ++ abL ab → (ab = none → L' = []) → N 158 w0 F0 .normal Q [(17, .bool ab.isSome), (16, .pointer (some ⟨b16', 0, none⟩)), (15, .pointer (some ⟨b15, 0, none⟩)), (13, .pointer (some ⟨b13, 0, none⟩)), (12, .pointer (some ⟨b', 0, none⟩)), (11, .pointer (some ⟨b, 0, none⟩)), (0, .pointer (some ⟨sb, 0, none⟩))] []
      [cl b16' 144 (abC ab), cl b13 144 s.c, cl b15 140 (ndA n' r').toList, Stk b' L', NdL L', NdL (abL ab), Nds n' r', A, B, C]) :
    G Tryz.prog 158 w0 F0 (nav [1, 1, 1, 1, 1, 1, 1, 1, 0, 1, 2, 2, 1, 1] (bdy Tryz.f62)) Q (delT b sb b' b13 b15 b16) [] [cl b16 144 s.c, cl b13 144 s.c, cl b15 140 (ndA n' r').toList, Stk b' L, NdL L, Nds n' r', A, B, C] := by
  obtain ⟨c, hc⟩ : ∃ c, c = nav [1, 1, 1, 1, 1, 1, 1, 1, 0, 1, 2, 2, 1, 1] (bdy Tryz.f62) := ⟨_, rfl⟩
  rw [← hc]
  dsimp only [nav, bdy, Tryz.f62, Option.getD] at hc
  subst hc
  rcases List.eq_nil_or_concat L with rfl | ⟨L', s2, rfl⟩
  · have hp := popNone_does b'
    dsimp only [Sp.c, delT]
    (repeat (first | refine g_seq (h := ?_) | refine g_region (h := ?_) | refine l_nil (h := ?_) | refine n_then (h := ?_) | refine l_pures1 (h := ?_) | (refine l_atc ?_; refine l_call (hp) ?_) | refine l_load (h := ?_) | refine l_store (h := ?_) | (refine l_alloc (h := ?_); intro _)))
    rename_i b17
    refine n_inv (fun i => ndl_nil i) ?_
    have hq' := hq b17 none [] rfl (fun _ => rfl)
    dsimp only [abC, abL, Option.isSome, Sp.c, ndA] at hq' ⊢
    exact n_bang hq'
  · rw [List.concat_eq_append] at *
    have hp := pop_does b' L' s2 (by simp at hlen; omega)
    refine g_inv (fun i => ndl_last (i.take (A := NdL (L' ++ [s2])) (by with_reducible (repeat (first | refine Take.here | apply Take.there))))) ?_
    dsimp only [Sp.c, delT]
    (repeat (first | refine g_seq (h := ?_) | refine g_region (h := ?_) | refine l_nil (h := ?_) | refine n_then (h := ?_) | refine l_pures1 (h := ?_) | (refine l_atc ?_; refine l_call (hp) ?_) | refine l_load (h := ?_) | refine l_store (h := ?_) | (refine l_alloc (h := ?_); intro _)))
    rename_i b17
    refine n_inv (fun i => ndl_sing (s := s2) (i.take (A := Nds s2.d s2.r) (by with_reducible (repeat (first | refine Take.here | apply Take.there))))) ?_
    have hq' := hq b17 (some s2) L' rfl (fun e => by cases e)
    dsimp only [abC, abL, Option.isSome, Sp.c, ndA] at hq' ⊢
    exact n_bang hq'

set_option maxHeartbeats 8000000 in
theorem del_loop (b sb db b' b13 b15 N : Nat) (U : List Int) (T : List Ent) (S0 : Sh) (D0 : Dk) (y0 : DelSt) (h0 : DelI N U T S0 D0 y0) (w0 : World) (F0 : Nat → Prop) :
    G Tryz.prog 158 w0 F0 (nav [1, 1, 1, 1, 1, 1, 1, 1, 0, 1] (bdy Tryz.f62)) (Exit.then ((nav [1, 1, 1, 1, 1, 1, 1, 1, 1] (bdy Tryz.f62)).wp Tryz.prog (Post Tryz.prog Tryz.f62 w0 F0 (DelQ N U T S0 D0 sb db))) (Post Tryz.prog Tryz.f62 w0 F0 (DelQ N U T S0 D0 sb db)))
      [(17, .bool y0.ab.isSome), (16, .pointer (some ⟨y0.b16, 0, none⟩)), (15, .pointer (some ⟨b15, 0, none⟩)), (13, .pointer (some ⟨b13, 0, none⟩)), (12, .pointer (some ⟨b', 0, none⟩)), (11, .pointer (some ⟨b, 0, none⟩)), (0, .pointer (some ⟨sb, 0, none⟩))] []
      [cl y0.b16 144 (abC y0.ab), cl b13 144 y0.xs.c, cl b15 140 (ndA y0.n y0.rn).toList, Stk b' y0.L, NdL y0.L, NdL (abL y0.ab), Nds y0.n y0.rn, Wk b sb y0.rd 0, Store sb db y0.S, Disk db y0.D] := by
  obtain ⟨tl, htl⟩ : ∃ c, c = nav [1, 1, 1, 1, 1, 1, 1, 1, 1] (bdy Tryz.f62) := ⟨_, rfl⟩
  rw [← htl]
  obtain ⟨c, hc⟩ : ∃ c, c = nav [1, 1, 1, 1, 1, 1, 1, 1, 0, 1] (bdy Tryz.f62) := ⟨_, rfl⟩
  rw [← hc]
  dsimp only [nav, bdy, Tryz.f62, Option.getD] at hc
  subst hc
  refine g_block ?_
  (refine g_loop (fun y : DelSt => [(17, .bool y.ab.isSome), (16, .pointer (some ⟨y.b16, 0, none⟩)), (15, .pointer (some ⟨b15, 0, none⟩)), (13, .pointer (some ⟨b13, 0, none⟩)), (12, .pointer (some ⟨b', 0, none⟩)), (11, .pointer (some ⟨b, 0, none⟩)), (0, .pointer (some ⟨sb, 0, none⟩))]) (fun y => [cl y.b16 144 (abC y.ab), cl b13 144 y.xs.c, cl b15 140 (ndA y.n y.rn).toList, Stk b' y.L, NdL y.L, NdL (abL y.ab), Nds y.n y.rn, Wk b sb y.rd 0, Store sb db y.S, Disk db y.D]) (fun y => DelI N U T S0 D0 y) (fun y => y.L.length + abN y.ab) (y0) ?_ ?_ ?_ ?_; rotate_left; (repeat (first | refine ts_nil | (refine ts_cons rfl ?_ ?_; first | (with_reducible rfl) | rotate_left))); (first | (intro _ i; with_reducible refine i) | rotate_left); rotate_left; (try omega); rotate_right)
  · rintro ⟨L, ab, b16, xs, n, rn, S, D, rd⟩ ⟨h, Lf, Rt, es, ps, qs, k, hab, room, hL8, hrd0, hrd, hgen, hroot⟩
    dsimp only at k hab room hL8 hrd0 hrd hgen hroot ⊢
    cases ab with
    | none =>
      obtain rfl := hab rfl
      dsimp only [Option.isSome]
      have ht := del_tail b sb db b13 b15 N U T S0 S D0 D xs n rn rd (k : HandD N U T S D [] xs.pg n h Lf Rt es ps qs) (by simp only [List.length_nil, abN] at room; omega) hgen hroot w0 F0
      rw [← htl] at ht
      (repeat (first | refine g_seq (h := ?_) | refine g_region (h := ?_) | refine l_nil (h := ?_) | refine n_then (h := ?_) | refine l_pures1 (h := ?_) | refine g_exit (h := ?_) | refine n_then_exit (h := ?_) | refine n_block_hit (h := ?_) | refine g_cond_f (h := ?_)))
      exact g_bang ht
    | some s =>
      dsimp only [Option.isSome, abL, abN, abC] at *
      have k : HandD N U T S D (s.spot :: (L.map Sp.spot).reverse) xs.pg n h Lf Rt es ps qs := k
      obtain ⟨_, _, _, _, _, _, v0, v1, _⟩ := k.way
      have v2 : s.d.leaf = false := v1.leaf
      have v3 : s.i ≤ s.d.keys.length := v1.ile
      have v4 : s.d.good := v1.good
      have v5 : s.d.kids.length = s.d.keys.length + 1 := kidsLen v4.p v2
      have v6 := v4.fits.i
      have v7 : 0 < s.d.keys.length := List.length_pos_iff.2 v1.ne
      have v8 := v4.size
      have hnf : n.fits := k.nt.plain.fits (by have := k.size; omega)
      have hv9 : s.d.kids.length < 10000 := by
        simp only [Nd.size, v2, Bool.false_eq_true, if_false] at v8
        omega
      refine g_inv (fun i => ndl_one (i.take (A := NdL [s]) (by with_reducible (repeat (first | refine Take.here | apply Take.there))))) ?_
      by_cases hz : 80 ≤ n.size
      · obtain ⟨m, S', D', Lf', Rt', es', ps', qs', c1, c2, c3, c4, c5⟩ := k.lay hz (by omega)
        have hlink : s.d.kids.getD s.i 0 = xs.pg := k.link.1
        (repeat (first | ((with_reducible show G _ _ _ _ (Code.seq (Code.region 15 _ _) _) _ _ _ _); refine g_bang (del_lay (NdL L) b sb db b' b13 b15 b16 rd m xs s L n rn S S' D D' hz hnf (by omega) (by omega) (by rw [hlink]; exact c1 b sb db rd) w0 F0 _ (by with_reducible (repeat (first | refine calm_post | apply calm_then | apply calm_block))) ?_)) | refine g_seq (h := ?_) | refine g_region (h := ?_) | refine l_nil (h := ?_) | refine n_then (h := ?_) | refine l_pures1 (h := ?_) | refine g_skip (h := ?_) | refine g_block (h := ?_) | refine g_cond_t (h := ?_)))
        intro r
        (repeat (first | ((with_reducible show G _ _ _ _ (Code.seq (Code.seq (Code.region 24 _ _) _) _) _ _ _ _); refine g_bang (del_next (Wk b sb rd 0) (Store sb db S') (Disk db D') b sb b' b13 b15 b16 s L { s.d with kids := s.d.kids.set s.i m } r (by omega) w0 F0 _ (by with_reducible (repeat (first | refine calm_post | apply calm_then | apply calm_block))) ?_)) | refine n_then (h := ?_) | refine n_block (h := ?_)))
        intro b17 ab L' hL hab'
        subst hL
        (refine n_back ((⟨L', ab, b17, s, { s.d with kids := s.d.kids.set s.i m }, r, S', D', rd⟩ : DelSt)) ?_ ?_ ?_ ?_; rotate_left; rotate_left; (repeat (first | refine ts_nil | (refine ts_cons rfl ?_ ?_; first | (with_reducible rfl) | rotate_left))); (first | (intro _ i; with_reducible refine i) | rotate_left); (try omega); (try omega))
        · simp only [List.length_append, abL_len] at room hrd hL8
          exact DelI.next c2 hab' (by rw [List.length_append, abL_len]; omega) (by rw [List.length_append, abL_len]; omega) hrd0 (by rw [List.length_append, abL_len]; omega) (c4.trans hgen) (c5.trans hroot)
        · show L'.length + abN ab < (L' ++ abL ab).length + 1
          rw [List.length_append, abL_len]; omega
        · cases ab <;> rfl
        · cases ab <;> dsimp only [abC, abL, ndA]
          all_goals
            (intro _ i; exact inv_keep parts_of i)
      · have hz : n.size < 80 := by omega
        have hE := fun r rn => k.even hz (by omega) b sb db (L.length + 1) r rn rd ⟨hrd0, by omega⟩ (by omega)
        (repeat (first | ((with_reducible show G _ _ _ _ (Code.seq (Code.region 15 _ _) _) _ _ _ _); refine g_bang (del_even (NdL L) (fun n' S' D' => (∃ Lf' Rt' es' ps' qs', HandD N U T S' D' (L.map Sp.spot).reverse s.pg n' (h + 1) Lf' Rt' es' ps' qs') ∧ S'.fresh.length ≤ S.fresh.length + 2 ∧ S'.gen = S.gen ∧ Same U S D S' D') b sb db b' b13 b15 b16 rd (rd + 1) xs s L n rn S D hz hnf (by omega) (by omega) (by omega) hE w0 F0 _ (by with_reducible (repeat (first | refine calm_post | apply calm_then | apply calm_block))) ?_)) | refine g_seq (h := ?_) | refine g_region (h := ?_) | refine l_nil (h := ?_) | refine n_then (h := ?_) | refine l_pures1 (h := ?_) | refine l_guard_yes (h := ?_) | refine l_guard_no (h := ?_) | refine l_guard_no0 (h := ?_) | refine l_guard_un (h := ?_) | refine l_guard_un0 (h := ?_) | refine l_load (h := ?_) | refine l_store (h := ?_) | (refine l_box (h := ?_); intro _) | (refine l_alloc (h := ?_); intro _) | refine l_index (h := ?_) | refine l_slice_str (h := ?_) | refine l_concat (h := ?_) | (refine l_makeSlice (h := ?_); intro _) | refine l_load_at (h := ?_) | refine l_store_at (h := ?_) | refine l_load_p (h := ?_) | refine l_indexAddr (h := ?_) | refine l_rem (h := ?_) | refine l_quo (h := ?_) | refine l_shr (h := ?_) | refine l_shl (h := ?_) | refine l_slice (h := ?_) | refine l_copy_in (h := ?_) | refine l_copy_row (h := ?_) | refine l_str_bs (h := ?_) | (refine l_bytes_of (h := ?_); intro _ _ _) | refine l_copy_str (h := ?_) | refine l_lookup _ (h := ?_) | refine l_lookup_ok _ (h := ?_) | refine l_mapUpdate (h := ?_) | refine l_delete0 (h := ?_) | refine l_len_map (h := ?_) | (refine l_buildSlice1 (h := ?_); intro _) | (refine l_append_new (h := ?_); intro _ _) | (refine l_append (h := ?_); intro _ _) | refine l_pure_none (h := ?_) | refine g_skip (h := ?_) | refine g_ret (h := ?_) | refine n_then_ret (h := ?_) | refine n_block_ret (h := ?_) | refine g_block (h := ?_) | refine g_exit (h := ?_) | refine n_then_exit (h := ?_) | refine n_block_hit (h := ?_) | refine a_done (h := ?_) | refine a_load (h := a_pass2 (h := ?_)) | refine a_one (h := ?_) | refine n_any (h := a_pass2 (h := ?_)) | refine a_load_at (h := a_pass2 (h := ?_)) | refine a_load_p (h := a_pass2 (h := ?_)) | refine a_loadg_p (h := a_pass2 (h := ?_)) | refine a_loadg (h := a_pass2 (h := ?_)) | refine a_v (h := ?_) | refine a_vg (h := ?_) | refine a_no (h := ?_) | refine a_un (h := ?_) | refine n_block_miss (h := ?_) | refine n_block (h := ?_) | refine g_cond_t (h := ?_) | refine g_cond_f (h := ?_) | refine l_load_vec (h := ?_) | refine l_store_vec (h := ?_) | refine a_load_vec (h := a_pass2 (h := ?_)) | refine a_loadg_vec (h := a_pass2 (h := ?_)) | (refine l_append_str (h := ?_); intro _ _) | (refine l_append_zeros (h := ?_); intro _ _ _) | refine l_to_unsafe (h := ?_) | refine l_from_unsafe (h := ?_) | refine l_neq_same (h := ?_) | refine l_slice_any (h := ?_) | (refine l_buildSlice2 (h := ?_); intro _) | (refine l_buildSlice3 (h := ?_); intro _) | (refine l_buildSlice4 (h := ?_); intro _) | refine l_slice3n (h := ?_) | refine l_sliceData (h := ?_) | refine l_outer_same outer_same (h := ?_) | refine l_unsafeString (h := ?_) | refine g_scope (h := ?_) | refine n_scope (h := ?_) | refine n_scope_ret (h := ?_) | refine n_scope_exit (h := ?_) | refine g_label (h := ?_) | refine l_assert (h := ?_) | refine n_lw (h := ?_) | refine lw_nil (h := ?_) | refine lw_step (h := ?_) | refine lw_guard_yes (h := ?_) | refine l_lookup_k _ (h := ?_) | refine l_lookup_ok_k _ (h := ?_) | refine l_mapUpdate_k (h := ?_) | refine l_delete0_k (h := ?_) | refine l_len_map_k (h := ?_) | refine gr_seq (h := ?_) | refine gr_region (h := ?_) | refine nr_then (h := ?_) | refine gr_block (h := ?_) | refine gr_skip (h := ?_) | refine gr_exit (h := ?_) | refine gr_ret (h := ?_) | refine gr_label (h := ?_) | refine gr_cond_t (h := ?_) | refine gr_cond_f (h := ?_) | refine a_w (h := ?_) | refine a_lookupg_k _ (h := a_pass2 (h := ?_)) | refine a_fork2 (h1 := ?_) (h2 := ?_) | refine a_fork3 (h1 := ?_) (h2 := ?_) (h3 := ?_) | refine a1_of (h := ?_)))
        rintro n' r S' D' ⟨⟨Lf', Rt', es', ps', qs', c2⟩, c3, c4, c5⟩
        (repeat (first | ((with_reducible show G _ _ _ _ (Code.seq (Code.seq (Code.region 24 _ _) _) _) _ _ _ _); refine g_bang (del_next (Wk b sb (rd + 1) 0) (Store sb db S') (Disk db D') b sb b' b13 b15 b16 s L n' r (by omega) w0 F0 _ (by with_reducible (repeat (first | refine calm_post | apply calm_then | apply calm_block))) ?_)) | refine n_then (h := ?_) | refine n_block (h := ?_)))
        intro b17 ab L' hL hab'
        subst hL
        (refine n_back ((⟨L', ab, b17, s, n', r, S', D', rd + 1⟩ : DelSt)) ?_ ?_ ?_ ?_; rotate_left; rotate_left; (repeat (first | refine ts_nil | (refine ts_cons rfl ?_ ?_; first | (with_reducible rfl) | rotate_left))); (first | (intro _ i; with_reducible refine i) | rotate_left); (try omega); (try omega))
        · simp only [List.length_append, abL_len] at room hrd hL8
          exact DelI.next c2 hab' (by rw [List.length_append, abL_len]; omega) (by rw [List.length_append, abL_len]; omega) (by omega) (by rw [List.length_append, abL_len]; omega) (c4.trans hgen) (c5.trans hroot)
        · show L'.length + abN ab < (L' ++ abL ab).length + 1
          rw [List.length_append, abL_len]; omega
        · cases ab <;> rfl
        · cases ab <;> dsimp only [abC, abL, ndA]
          all_goals
            (intro _ i; exact inv_keep parts_of i)
end Go.Proofs.YtbdgnjlbmhnipaaGreat
/- Package tree: Delete, whole. -/
set_option maxRecDepth 20000
set_option linter.unusedVariables false
set_option linter.unusedSimpArgs false
namespace Go.Proofs.YtbdgnjlbmhnipaaGreat
open Go.Proofs.YtbdgnjlbmhnipaaGreat.SL

theorem goes_link {S : Sh} {D : Dk} {x : Nat} {s : Spot} : ∀ {top : List Spot} {pg : Int} {up : List Spot}, Goes S D x pg (top ++ [s]) → LinkTo up pg → LinkTo (top.reverse ++ up) s.pg
  | [], pg, up, g, l => by
    have h : s.pg = pg := g.1
    rw [h]; exact l
  | t :: top, pg, up, g, l => by
    obtain ⟨h1, _, _, h | h⟩ := g
    · simp at h
    · rw [List.reverse_cons, List.append_assoc]
      exact goes_link (up := t :: up) h.2.2 ⟨rfl, by rw [h1]; exact l⟩

set_option maxHeartbeats 8000000 in
theorem del1_does (sb db x N : Nat) (v : List UInt8) (root : Int) (U : List Int) (T0 T : List Ent) (S : Sh) (D : Dk) (k : Fine N S D U) (ht : IsTree N S D U root T0) (hv : getE T0 x = some v) (l0 : List Spot) (s : Spot) (hg : Goes S D x root (l0 ++ [s])) (hl : l0.length ≤ 8)
    (hsi : s.i < s.d.keys.length)
    (hI : ∀ b16 L' ab (t : Sp) r, (L' ++ abL ab).map Sp.spot = l0 → (ab = none → L' = []) → t.spot = s → DelI N U T S D ⟨L', ab, b16, t, s.d.without s.i, r, S, D, 0 + ((l0.length + 1 : Nat) : Int)⟩) :
    Does Tryz.prog 62 [.pointer (some ⟨sb, 0, none⟩), .int .i64 root, .int .u64 x] [Store sb db S, Disk db D] (DelQ N U T S D sb db) := by
  obtain ⟨hd, hlf, hi⟩ := hg.last
  have hw := fun b => way_does b sb db x root 0 S D (l0 ++ [s]) hg (by simp; omega) (by simp; omega)
  have hG := get_tree sb db x N root U T0 S D k ht
  rw [hv] at hG
  refine does_of Tryz.func62 Tryz.ntmps62 rfl rfl rfl (fun w0 F0 => ?_)
  (repeat' (first | refine g_seq (h := ?_) | refine g_region (h := ?_) | refine l_nil (h := ?_) | refine n_then (h := ?_) | refine l_pures1 (h := ?_) | (refine l_at 52 ?_; refine l_call (hG) ?_) | (refine l_box (h := ?_); intro _) | refine g_skip (h := ?_) | refine g_block (h := ?_) | refine n_block (h := ?_) | refine g_cond_f (h := ?_)))
  rename_i b
  refine l_inv (H' := [Wk b sb 0 0, Store sb db S, Disk db D]) (fun i => i) ?_
  (repeat' (first | refine g_seq (h := ?_) | refine g_region (h := ?_) | refine l_nil (h := ?_) | refine n_then (h := ?_) | refine l_pures1 (h := ?_) | (refine l_atc ?_; refine l_call_ (hw b) ?_; rintro _ _ _ ⟨b', L, hL, rfl, rfl⟩ he; cases he) | refine l_load (h := ?_) | refine g_skip (h := ?_) | refine g_cond_f (h := ?_)))
  obtain ⟨L0, t, rfl⟩ : ∃ L0 t, L = L0 ++ [t] := by
    rcases List.eq_nil_or_concat L with rfl | ⟨l, s, rfl⟩
    · simp at hL
    · exact ⟨l, s, by simp⟩
  have hL2 : L0.map Sp.spot = l0 ∧ t.spot = s := by
    have := congrArg List.reverse hL
    simp at this
    exact ⟨this.2, this.1⟩
  obtain ⟨hL1, hts⟩ := hL2
  subst hts
  have hlen : L0.length = l0.length := by rw [← hL1]; simp
  have hpop := pop_does b' L0 t (by omega)
  refine l_inv (fun q => ndl_last (q.take (A := NdL (L0 ++ [t])) (by with_reducible (repeat (first | refine Take.here | apply Take.there))))) ?_
  dsimp only [Sp.spot] at hlf hsi
  have hki : t.d.kids = [] := List.length_eq_zero_iff.1 (by have := hd.p.kids; rw [show (Sp.spot t).d.leaf = true from hlf] at this; simpa using this)
  have hP := nWithout_does t.d t.r t.i hlf hd.fits hsi hki
  have hlp := fun b13 b15 b16 L' ab rp h1 h2 => del_loop b sb db b' b13 b15 N U T S D ⟨L', ab, b16, t, t.d.without t.i, rp, S, D, 0 + ((l0 ++ [t.spot]).length : Int)⟩ (by rw [List.length_append, List.length_singleton]; exact hI b16 L' ab t rp h1 h2 rfl) w0 F0
  dsimp only [Sp.c] at hlp
  rcases List.eq_nil_or_concat L0 with rfl | ⟨L', s2, rfl⟩
  · have hp2 := popNone_does b'
    have h2 := fun b13 b15 b16 rp => hlp b13 b15 b16 [] none rp (by simpa [abL] using hL1) (fun _ => rfl)
    dsimp only [Option.isSome, abC, abL] at h2
    refine l_inv (fun i => ndl_nil i) ?_
    (repeat (first | ((with_reducible show G _ _ _ _ (Code.block 1 _) _ _ _ _); exact g_bang (h2 _ _ _ _)) | refine g_seq (h := ?_) | refine g_region (h := ?_) | refine l_nil (h := ?_) | refine n_then (h := ?_) | refine l_pures1 (h := ?_) | (refine l_atc ?_; refine l_call (hpop) ?_) | (refine l_atc ?_; refine l_call_ (hP) ?_; rintro _ _ _ ⟨rp, rfl, rfl⟩ he; cases he) | (refine l_atc ?_; refine l_call (hp2) ?_) | refine l_load (h := ?_) | refine l_store (h := ?_) | (refine l_alloc (h := ?_); intro _)))
  · rw [List.concat_eq_append] at *
    have hp2 := pop_does b' L' s2 (by simp at hlen; omega)
    have h2 := fun b13 b15 b16 rp => hlp b13 b15 b16 L' (some s2) rp (by simpa [abL] using hL1) (fun e => by cases e)
    dsimp only [Option.isSome, abC, abL, Sp.c] at h2
    refine l_inv (fun q => ndl_last (q.take (A := NdL (L' ++ [s2])) (by with_reducible (repeat (first | refine Take.here | apply Take.there))))) ?_
    refine l_inv (fun i => ndl_sing (s := s2) (i.take (A := Nds s2.d s2.r) (by with_reducible (repeat (first | refine Take.here | apply Take.there))))) ?_
    (repeat (first | ((with_reducible show G _ _ _ _ (Code.block 1 _) _ _ _ _); exact g_bang (h2 _ _ _ _)) | refine g_seq (h := ?_) | refine g_region (h := ?_) | refine l_nil (h := ?_) | refine n_then (h := ?_) | refine l_pures1 (h := ?_) | (refine l_atc ?_; refine l_call (hpop) ?_) | (refine l_atc ?_; refine l_call_ (hP) ?_; rintro _ _ _ ⟨rp, rfl, rfl⟩ he; cases he) | (refine l_atc ?_; refine l_call (hp2) ?_) | refine l_load (h := ?_) | refine l_store (h := ?_) | (refine l_alloc (h := ?_); intro _)))

theorem del_tree (sb db x N : Nat) (v : List UInt8) (root : Int) (U : List Int) (T : List Ent) (S : Sh) (D : Dk) (k : Fine N S D U) (ht : IsTree N S D U root T) (hv : getE T x = some v) (room : U.length + S.fresh.length + 25 < N) :
    Does Tryz.prog 62 [.pointer (some ⟨sb, 0, none⟩), .int .i64 root, .int .u64 x] [Store sb db S, Disk db D] (DelQ N U (delE T x) S D sb db) := by
  have hN := k.n
  have ht0 := ht
  rcases ht with ⟨rfl, rfl, h0⟩ | ⟨h, ps, o, hp⟩
  · simp [getE] at hv
  · obtain ⟨top, s, L, R, qs, r1, r2, r8, r3, r4, r5, r6, r7, f1, f2, r10, r11, hroot, he⟩ := tree_way k o hp x
    have hx : x ∈ s.d.keys := by
      apply Decidable.byContradiction
      intro c
      rw [if_neg c, hv] at he
      cases he
    have hlt : s.i < s.d.keys.length := by
      have hg := posN_gone r4.p.rise x
      rw [if_pos hx] at hg
      rw [r6]; omega
    obtain ⟨lt1, lt2⟩ := r3.lt f1
    obtain ⟨n1, n2⟩ := without_nt (g := Gd N D) (d := s.d) (es := s.d.ents) (ps := []) ⟨r5, r4.p, rfl, rfl⟩ hx
    have hlink := goes_link (up := []) r1 trivial
    rw [List.append_nil] at hlink
    refine del1_does sb db x N v root U T (delE T x) S D k ht0 hv top s r1 (by omega) hlt fun b16 L' ab t r e1 e2 e3 => DelI.next (h := 0) (Lf := L) (Rt := R) (es := delE s.d.ents x) (ps := []) (qs := qs) ⟨k, ?_, ?_, ?_, ?_, ?_, ?_, ?_⟩ e2 ?_ ?_ (by omega) ?_ rfl (.refl _ _ _)
    all_goals
      have e5 : (L' ++ abL ab).length = top.length := by rw [← e1, List.length_map]
      have e4 : t.pg = s.pg := congrArg Spot.pg e3
    · rw [e1]; exact r3
    · rw [r6]; exact n1
    · rw [e4]; exact r11
    · intro e h1
      rw [e1]
      exact f2 e (List.mem_filter.1 h1).1
    · rw [← r10, delE_mid lt1 lt2]
    · have := r4.size
      rw [r6]; omega
    · rw [e1, e4]; exact hlink
    · rw [e5]; omega
    · rw [e5]; omega
    · rw [e5]; omega
end Go.Proofs.YtbdgnjlbmhnipaaGreat
/- Trees that are committed, moved, rolled back: plain facts. -/
set_option maxRecDepth 20000
set_option linter.unusedVariables false
set_option linter.unusedSimpArgs false
namespace Go.Proofs.YtbdgnjlbmhnipaaGreat
open Go.Proofs.YtbdgnjlbmhnipaaGreat.SL

theorem open2 {w0 w : World} {F0 : Nat → Prop} {A B C : SProp} {H : List SProp} (o : Opens A (fun _ : Unit => True) (fun _ => [B, C])) (i : Inv w0 F0 (A :: H) w) : Inv w0 F0 (B :: C :: H) w := by
  obtain ⟨_, _, i⟩ := Inv.opens o i
  exact i
theorem shut2 {w0 w : World} {F0 : Nat → Prop} {A B C : SProp} {H : List SProp} (o : Shuts [B, C] A) (i : Inv w0 F0 (B :: C :: H) w) : Inv w0 F0 (A :: H) w := Inv.shuts o i
theorem after_clean {S : Sh} {U : List Int} (h1 : S.fresh = []) (h2 : S.given = []) : S.after U = U := by simp [Sh.after, h1, h2]
theorem after_roll {S : Sh} {U : List Int} : S.roll.after U = U := after_clean rfl rfl
/-- A tree whose pages are as they were. -/
theorem IsTree.move {N : Nat} {S S' : Sh} {D D' : Dk} {U U' : List Int} {root : Int} {T : List Ent} (h : IsTree N S D U root T) (he : S'.after U' = S.after U) (hk : ∀ p ∈ S.after U, D'.pg p = D.pg p) : IsTree N S' D' U' root T := by
  rcases h with ⟨a, b, c⟩ | ⟨h, ps, o, hp⟩
  · exact .inl ⟨a, b, by rw [he]; exact c⟩
  · exact .inr ⟨h, ps, o.same (fun p q d g => g.keep (hk p (hp.mem_iff.1 q))), by rw [he]; exact hp⟩
/-- What is committed is a tree of just the pages that are used. -/
theorem Tr.commit {N : Nat} {S : Sh} {D : Dk} {U : List Int} {root : Int} {T : List Ent} {m : Nat} (k : Tr N S D U root T m) (hg : S.gen < 281474976710655) :
    ∃ S' E, S.commit D root = (0, S', E) ∧ Tr N S' E (S.after U) root T m ∧ S'.fresh = [] ∧ S'.given = [] ∧ S'.gen = S.gen + 1 ∧ S'.root = root := by
  have hr : root = 0 ∨ root ∈ S.after U := by
    rcases k.tree with ⟨a, _, _⟩ | ⟨h, ps, ⟨d, ps1, g, _, _, _, e⟩, hp⟩
    · exact .inl a
    · exact .inr (hp.mem_iff.1 (by dsimp only at e; rw [e]; simp))
  obtain ⟨S', E, c1, c2, c3, c4, c5, c6, c7⟩ := k.fine.commit' hr hg
  refine ⟨S', E, c1, ⟨c2, k.tree.move (after_clean c4 c5) fun p hp => c3 p ?_, k.len⟩, c4, c5, c6, c7⟩
  rcases (Sh.mem_after.1 hp).1 with h | h
  · have := k.fine.h.b p h; omega
  · have := k.fine.f.2 p h; omega
/-- Behind a Rollback there is what was committed. -/
theorem Tr.back {N : Nat} {S0 S : Sh} {D0 D : Dk} {U : List Int} {root : Int} {T : List Ent} {m : Nat} (k : Tr N S0 D0 U root T m) (he : S0.after U = U) (f : Fine N S D U) (s : Same U S0 D0 S D) : Tr N S.roll D U root T m :=
  ⟨f.roll, k.tree.move (by rw [he, after_roll]) (by rw [he]; exact s.2), k.len⟩
end Go.Proofs.YtbdgnjlbmhnipaaGreat
/- Transactions, as the laws keep them: a tree over what was committed. -/
set_option maxRecDepth 20000
set_option linter.unusedVariables false
set_option linter.unusedSimpArgs false
namespace Go.Proofs.YtbdgnjlbmhnipaaGreat
open Go.Proofs.YtbdgnjlbmhnipaaGreat.SL

/-- Where a transaction is: its block, its store's, its disk's; how many sectors; the pages that count, the generation and the tree that were committed. -/
structure TxP where
  t : Nat
  sb : Nat
  db : Nat
  N : Nat
  U : List Int
  g : Int
  T0 : List Ent
/-- A store between commits: what is committed is the tree T0. -/
structure StI (P : TxP) (y : Sh × Dk) : Prop where
  fine : Fine P.N y.1 y.2 P.U
  gen : y.1.gen = P.g
  old : IsTree P.N y.1.roll y.2 P.U y.1.root P.T0
def StK (P : TxP) (y : Sh × Dk) : List SProp := [Store P.sb P.db y.1, Disk P.db y.2]
/-- A store at rest. -/
def St (P : TxP) : SProp := hid (StI P) (StK P)
/-- A transaction has the tree T. -/
structure TxI (P : TxP) (T : List Ent) (y : Int × Sh × Dk) : Prop where
  st : StI P y.2
  tree : IsTree P.N y.2.1 y.2.2 P.U y.1 T
def TxK (P : TxP) (T : List Ent) (y : Int × Sh × Dk) : List SProp := [cl P.t 89 [.pointer (some ⟨P.sb, 0, none⟩), .int .i64 y.1, .int .i64 0, .bool false], Store P.sb P.db y.2.1, Disk P.db y.2.2]
/-- A transaction that is under way, without an error. -/
def Tx (P : TxP) (T : List Ent) : SProp := hid (TxI P T) (TxK P T)

theorem StI.same {P : TxP} {S S' : Sh} {D D' : Dk} (k : StI P (S, D)) (f : Fine P.N S' D' P.U) (hg : S'.gen = S.gen) (s : Same P.U S D S' D') : StI P (S', D') :=
  ⟨f, hg.trans k.gen, by
    have h := k.old
    dsimp only at h ⊢
    rw [s.1]
    exact h.move (by rw [after_roll, after_roll]) (by rw [after_roll]; exact s.2)⟩
theorem TxI.put {P : TxP} {T T' : List Ent} {r r' : Int} {S S' : Sh} {D D' : Dk} (k : TxI P T (r, S, D)) (f : Fine P.N S' D' P.U) (t : IsTree P.N S' D' P.U r' T') (hg : S'.gen = S.gen) (s : Same P.U S D S' D') : TxI P T' (r', S', D') := ⟨k.st.same f hg s, t⟩
theorem StI.pages {P : TxP} {y : Sh × Dk} (k : StI P y) : P.U.length ≤ 2 * P.T0.length := by
  have h := k.old.few
  rw [after_roll] at h
  exact h
/-- Is there room for one more round? -/
def TxP.room (P : TxP) (T : List Ent) : Prop := P.U.length + 2 * T.length + 25 < P.N
theorem TxI.roomy {P : TxP} {T : List Ent} {r : Int} {S : Sh} {D : Dk} (k : TxI P T (r, S, D)) (h : P.room T) : P.U.length + S.fresh.length + 25 < P.N := by
  have h1 := k.tree.few
  have h2 := k.st.fine.fresh_le
  dsimp only at h1 h2
  unfold TxP.room at h
  omega
/-- What Get gives. -/
def optV (o : Option (List UInt8)) : Value := .tuple #[.string (str (o.getD [])), .bool o.isSome]
theorem delE_none {T : List Ent} (o : Ord T) {x : Nat} (h : getE T x = none) : delE T x = T :=
  List.filter_eq_self.2 fun e he => by
    have hne : e.1 ≠ x := by
      intro q
      have := getE_of o (x := e.1) (v := e.2) he
      rw [q, h] at this
      cases this
    simpa using hne
end Go.Proofs.YtbdgnjlbmhnipaaGreat
/- Package txn: what a transaction does. -/
set_option maxRecDepth 20000
set_option linter.unusedVariables false
set_option linter.unusedSimpArgs false
namespace Go.Proofs.YtbdgnjlbmhnipaaGreat
open Go.Proofs.YtbdgnjlbmhnipaaGreat.SL

/-- A transaction's block. -/
abbrev tx (t sb : Nat) (r e : Int) (ov : Bool) : SProp := cl t 89 [.pointer (some ⟨sb, 0, none⟩), .int .i64 r, .int .i64 e, .bool ov]

theorem txDoes4 {α : Type} (t sb g : Nat) [c : Callable Tryz.prog g] (caps : List Value) (r : Int) (p : α → Prop) (ok : α → Bool) (r' : α → Int) (A0 A1 A2 A3 : SProp) (B0 B1 B2 B3 : α → SProp)
    (hd : Does Tryz.prog g caps [tx t sb r 0 false, A0, A1, A2, A3] (fun v H => ∃ y, p y ∧ v = .tuple #[.bool (ok y), .int .i64 0] ∧ H = [tx t sb (r' y) 0 false, B0 y, B1 y, B2 y, B3 y])) :
    Does Tryz.prog 48 [.pointer (some ⟨t, 0, none⟩), .func (.func g) #[] caps.toArray] [tx t sb r 0 false, A0, A1, A2, A3] (fun v H => ∃ y, p y ∧ v = .bool (ok y) ∧ H = [tx t sb (r' y) 0 false, B0 y, B1 y, B2 y, B3 y]) := by
  refine does_of Tryz.func48 Tryz.ntmps48 rfl rfl rfl (fun w0 F0 => ?_)
  (repeat' (first | refine g_seq (h := ?_) | refine g_region (h := ?_) | refine l_nil (h := ?_) | refine n_then (h := ?_) | refine l_pures1 (h := ?_) | (refine l_atc ?_; refine l_call_ (hd) ?_; rintro _ _ _ ⟨y, hy, rfl, rfl⟩ he; cases he) | refine l_guard_yes (h := ?_) | refine l_guard_no (h := ?_) | refine l_load (h := ?_) | refine l_store (h := ?_) | refine g_skip (h := ?_) | refine g_ret (h := ?_) | refine g_cond_f (h := ?_) | (refine l_sp (h1 := ?_) (h0 := ?_) <;> intro h)))
  all_goals
    refine r_retk [tx t sb (r' y) 0 false, B0 y, B1 y, B2 y, B3 y] ?_
  · exact ⟨y, hy, by simp [packV, *], rfl⟩
  · exact ⟨y, hy, by simp [packV, *], rfl⟩

theorem txDoes5 {α : Type} (t sb g : Nat) [c : Callable Tryz.prog g] (caps : List Value) (r : Int) (p : α → Prop) (ok : α → Bool) (r' : α → Int) (A0 A1 A2 A3 A4 : SProp) (B0 B1 B2 B3 B4 : α → SProp)
    (hd : Does Tryz.prog g caps [tx t sb r 0 false, A0, A1, A2, A3, A4] (fun v H => ∃ y, p y ∧ v = .tuple #[.bool (ok y), .int .i64 0] ∧ H = [tx t sb (r' y) 0 false, B0 y, B1 y, B2 y, B3 y, B4 y])) :
    Does Tryz.prog 48 [.pointer (some ⟨t, 0, none⟩), .func (.func g) #[] caps.toArray] [tx t sb r 0 false, A0, A1, A2, A3, A4] (fun v H => ∃ y, p y ∧ v = .bool (ok y) ∧ H = [tx t sb (r' y) 0 false, B0 y, B1 y, B2 y, B3 y, B4 y]) := by
  refine does_of Tryz.func48 Tryz.ntmps48 rfl rfl rfl (fun w0 F0 => ?_)
  (repeat' (first | refine g_seq (h := ?_) | refine g_region (h := ?_) | refine l_nil (h := ?_) | refine n_then (h := ?_) | refine l_pures1 (h := ?_) | (refine l_atc ?_; refine l_call_ (hd) ?_; rintro _ _ _ ⟨y, hy, rfl, rfl⟩ he; cases he) | refine l_guard_yes (h := ?_) | refine l_guard_no (h := ?_) | refine l_load (h := ?_) | refine l_store (h := ?_) | refine g_skip (h := ?_) | refine g_ret (h := ?_) | refine g_cond_f (h := ?_) | (refine l_sp (h1 := ?_) (h0 := ?_) <;> intro h)))
  all_goals
    refine r_retk [tx t sb (r' y) 0 false, B0 y, B1 y, B2 y, B3 y, B4 y] ?_
  · exact ⟨y, hy, by simp [packV, *], rfl⟩
  · exact ⟨y, hy, by simp [packV, *], rfl⟩

theorem txDoes6 {α : Type} (t sb g : Nat) [c : Callable Tryz.prog g] (caps : List Value) (r : Int) (p : α → Prop) (ok : α → Bool) (r' : α → Int) (A0 A1 A2 A3 A4 A5 : SProp) (B0 B1 B2 B3 B4 B5 B6 : α → SProp)
    (hd : Does Tryz.prog g caps [tx t sb r 0 false, A0, A1, A2, A3, A4, A5] (fun v H => ∃ y, p y ∧ v = .tuple #[.bool (ok y), .int .i64 0] ∧ H = [tx t sb (r' y) 0 false, B0 y, B1 y, B2 y, B3 y, B4 y, B5 y, B6 y])) :
    Does Tryz.prog 48 [.pointer (some ⟨t, 0, none⟩), .func (.func g) #[] caps.toArray] [tx t sb r 0 false, A0, A1, A2, A3, A4, A5] (fun v H => ∃ y, p y ∧ v = .bool (ok y) ∧ H = [tx t sb (r' y) 0 false, B0 y, B1 y, B2 y, B3 y, B4 y, B5 y, B6 y]) := by
  refine does_of Tryz.func48 Tryz.ntmps48 rfl rfl rfl (fun w0 F0 => ?_)
  (repeat' (first | refine g_seq (h := ?_) | refine g_region (h := ?_) | refine l_nil (h := ?_) | refine n_then (h := ?_) | refine l_pures1 (h := ?_) | (refine l_atc ?_; refine l_call_ (hd) ?_; rintro _ _ _ ⟨y, hy, rfl, rfl⟩ he; cases he) | refine l_guard_yes (h := ?_) | refine l_guard_no (h := ?_) | refine l_load (h := ?_) | refine l_store (h := ?_) | refine g_skip (h := ?_) | refine g_ret (h := ?_) | refine g_cond_f (h := ?_) | (refine l_sp (h1 := ?_) (h0 := ?_) <;> intro h)))
  all_goals
    refine r_retk [tx t sb (r' y) 0 false, B0 y, B1 y, B2 y, B3 y, B4 y, B5 y, B6 y] ?_
  · exact ⟨y, hy, by simp [packV, *], rfl⟩
  · exact ⟨y, hy, by simp [packV, *], rfl⟩

theorem txPut1 (t sb db b1 b2 b3 x : Nat) (v : List UInt8) (r : Int) (S : Sh) (D : Dk) (p : Int → Sh → Dk → Prop)
    (hp : Does Tryz.prog 50 [.pointer (some ⟨sb, 0, none⟩), .int .i64 r, .int .u64 x, .string (str v)] [Store sb db S, Disk db D] (fun u H => ∃ m S' D', u = .tuple #[.int .i64 m, .int .i64 0] ∧ H = [Store sb db S', Disk db D'] ∧ p m S' D')) :
    Does Tryz.prog 49 [.pointer (some ⟨b1, 0, none⟩), .pointer (some ⟨b2, 0, none⟩), .pointer (some ⟨b3, 0, none⟩)] [tx t sb r 0 false, cl b1 24 [.pointer (some ⟨t, 0, none⟩)], cl b2 32 [.int .u64 x], cl b3 9 [.string (str v)], Store sb db S, Disk db D]
      (fun u H => ∃ y : Int × Sh × Dk, p y.1 y.2.1 y.2.2 ∧ u = .tuple #[.bool true, .int .i64 0] ∧ H = [tx t sb y.1 0 false, cl b1 24 [.pointer (some ⟨t, 0, none⟩)], cl b2 32 [.int .u64 x], cl b3 9 [.string (str v)], Store sb db y.2.1, Disk db y.2.2]) := by
  refine does_of Tryz.func49 Tryz.ntmps49 rfl rfl rfl (fun w0 F0 => ?_)
  (repeat (first | refine g_seq (h := ?_) | refine g_region (h := ?_) | refine l_nil (h := ?_) | refine n_then (h := ?_) | refine l_pures1 (h := ?_)))
  (refine g_draw [tx t sb r 0 false, cl b1 24 [.pointer (some ⟨t, 0, none⟩)], cl b2 32 [.int .u64 x], cl b3 9 [.string (str v)]] (h := a_pass2 (h := ?_)))
  (repeat' (first | refine g_seq (h := ?_) | refine g_region (h := ?_) | refine l_nil (h := ?_) | refine n_then (h := ?_) | refine l_pures1 (h := ?_) | (refine l_atc ?_; refine l_call_ (hp) ?_; rintro _ _ _ ⟨m, S', D', rfl, rfl, hP⟩ he; cases he) | refine l_load (h := ?_) | refine l_store (h := ?_) | refine g_ret (h := ?_) | refine a_done (h := ?_) | refine a_load (h := a_pass2 (h := ?_)) | refine a_one (h := ?_) | refine n_any (h := a_pass2 (h := ?_)) | refine g_cond_t (h := ?_)))
  refine r_retk [tx t sb m 0 false, cl b1 24 [.pointer (some ⟨t, 0, none⟩)], cl b2 32 [.int .u64 x], cl b3 9 [.string (str v)], Store sb db S', Disk db D'] ?_
  exact ⟨(m, S', D'), hP, rfl, rfl⟩

theorem txDel1 (t sb db b1 b2 x : Nat) (r : Int) (S : Sh) (D : Dk) (ok : Bool) (p : Int → Sh → Dk → Prop)
    (hp : Does Tryz.prog 62 [.pointer (some ⟨sb, 0, none⟩), .int .i64 r, .int .u64 x] [Store sb db S, Disk db D] (fun u H => ∃ m S' D', u = .tuple #[.int .i64 m, .bool ok, .int .i64 0] ∧ H = [Store sb db S', Disk db D'] ∧ p m S' D')) :
    Does Tryz.prog 61 [.pointer (some ⟨b1, 0, none⟩), .pointer (some ⟨b2, 0, none⟩)] [tx t sb r 0 false, cl b1 24 [.pointer (some ⟨t, 0, none⟩)], cl b2 32 [.int .u64 x], Store sb db S, Disk db D]
      (fun u H => ∃ y : Int × Sh × Dk, p y.1 y.2.1 y.2.2 ∧ u = .tuple #[.bool ok, .int .i64 0] ∧ H = [tx t sb y.1 0 false, cl b1 24 [.pointer (some ⟨t, 0, none⟩)], cl b2 32 [.int .u64 x], Store sb db y.2.1, Disk db y.2.2]) := by
  refine does_of Tryz.func61 Tryz.ntmps61 rfl rfl rfl (fun w0 F0 => ?_)
  (repeat (first | refine g_seq (h := ?_) | refine g_region (h := ?_) | refine l_nil (h := ?_) | refine n_then (h := ?_) | refine l_pures1 (h := ?_)))
  (refine g_draw [tx t sb r 0 false, cl b1 24 [.pointer (some ⟨t, 0, none⟩)], cl b2 32 [.int .u64 x]] (h := a_pass2 (h := ?_)))
  (repeat' (first | refine g_seq (h := ?_) | refine g_region (h := ?_) | refine l_nil (h := ?_) | refine n_then (h := ?_) | refine l_pures1 (h := ?_) | (refine l_atc ?_; refine l_call_ (hp) ?_; rintro _ _ _ ⟨m, S', D', rfl, rfl, hP⟩ he; cases he) | refine l_load (h := ?_) | refine l_store (h := ?_) | refine g_ret (h := ?_) | refine a_done (h := ?_) | refine a_load (h := a_pass2 (h := ?_)) | refine a_one (h := ?_) | refine n_any (h := a_pass2 (h := ?_)) | refine g_cond_t (h := ?_)))
  refine r_retk [tx t sb m 0 false, cl b1 24 [.pointer (some ⟨t, 0, none⟩)], cl b2 32 [.int .u64 x], Store sb db S', Disk db D'] ?_
  exact ⟨(m, S', D'), hP, rfl, rfl⟩

theorem txGet1 (t sb db b1 b2 b3 x : Nat) (r : Int) (S : Sh) (D : Dk) (o : Option (List UInt8))
    (hp : Does Tryz.prog 52 [.pointer (some ⟨sb, 0, none⟩), .int .i64 r, .int .u64 x] [Store sb db S, Disk db D] (fun u H => u = getV o ∧ H = [Store sb db S, Disk db D])) :
    Does Tryz.prog 51 [.pointer (some ⟨b1, 0, none⟩), .pointer (some ⟨b2, 0, none⟩), .pointer (some ⟨b3, 0, none⟩)] [tx t sb r 0 false, cl b1 24 [.pointer (some ⟨t, 0, none⟩)], cl b2 32 [.int .u64 x], cl b3 9 [.string { data := #[] }], Store sb db S, Disk db D]
      (fun u H => ∃ y : Unit, True ∧ u = .tuple #[.bool o.isSome, .int .i64 0] ∧ H = [tx t sb r 0 false, cl b1 24 [.pointer (some ⟨t, 0, none⟩)], cl b2 32 [.int .u64 x], cl b3 9 [.string (str (o.getD []))], Store sb db S, Disk db D]) := by
  refine does_of Tryz.func51 Tryz.ntmps51 rfl rfl rfl (fun w0 F0 => ?_)
  (repeat (first | refine g_seq (h := ?_) | refine g_region (h := ?_) | refine l_nil (h := ?_) | refine n_then (h := ?_) | refine l_pures1 (h := ?_)))
  (refine g_draw [tx t sb r 0 false, cl b1 24 [.pointer (some ⟨t, 0, none⟩)], cl b2 32 [.int .u64 x]] (h := a_pass2 (h := ?_)))
  (repeat' (first | refine g_seq (h := ?_) | refine g_region (h := ?_) | refine l_nil (h := ?_) | refine n_then (h := ?_) | refine l_pures1 (h := ?_) | (refine l_atc ?_; refine l_call (hp) ?_) | refine l_store (h := ?_) | refine g_ret (h := ?_) | refine a_done (h := ?_) | refine a_load (h := a_pass2 (h := ?_)) | refine a_one (h := ?_) | refine n_any (h := a_pass2 (h := ?_))))
  refine r_retk [tx t sb r 0 false, cl b1 24 [.pointer (some ⟨t, 0, none⟩)], cl b2 32 [.int .u64 x], cl b3 9 [.string (str (o.getD []))], Store sb db S, Disk db D] ?_
  exact ⟨(), trivial, rfl, rfl⟩

theorem txScan1 (t sb db b1 b2 b3 b4 x : Nat) (r most : Int) (S : Sh) (D : Dk) (l : List Ent)
    (hp : Does Tryz.prog 55 [.pointer (some ⟨sb, 0, none⟩), .int .i64 r, .int .u64 x, .int .i64 most] [Store sb db S, Disk db D] (fun u H => ∃ p cap, u = .tuple #[.slice p l.length cap, .int .i64 0] ∧ H = [vec 67 2 p l.length cap (entC l), Store sb db S, Disk db D])) :
    Does Tryz.prog 54 [.pointer (some ⟨b1, 0, none⟩), .pointer (some ⟨b2, 0, none⟩), .pointer (some ⟨b3, 0, none⟩), .pointer (some ⟨b4, 0, none⟩)] [tx t sb r 0 false, cl b1 24 [.pointer (some ⟨t, 0, none⟩)], cl b2 32 [.int .u64 x], cl b3 3 [.int .i64 most], cl b4 59 [.slice none 0 0], Store sb db S, Disk db D]
      (fun u H => ∃ y : Option Addr × Nat, True ∧ u = .tuple #[.bool true, .int .i64 0] ∧ H = [tx t sb r 0 false, cl b1 24 [.pointer (some ⟨t, 0, none⟩)], cl b2 32 [.int .u64 x], cl b3 3 [.int .i64 most], cl b4 59 [.slice y.1 l.length y.2], vec 67 2 y.1 l.length y.2 (entC l), Store sb db S, Disk db D]) := by
  refine does_of Tryz.func54 Tryz.ntmps54 rfl rfl rfl (fun w0 F0 => ?_)
  (repeat (first | refine g_seq (h := ?_) | refine g_region (h := ?_) | refine l_nil (h := ?_) | refine n_then (h := ?_) | refine l_pures1 (h := ?_)))
  (refine g_draw [tx t sb r 0 false, cl b1 24 [.pointer (some ⟨t, 0, none⟩)], cl b2 32 [.int .u64 x], cl b3 3 [.int .i64 most]] (h := a_pass2 (h := ?_)))
  (repeat' (first | refine g_seq (h := ?_) | refine g_region (h := ?_) | refine l_nil (h := ?_) | refine n_then (h := ?_) | refine l_pures1 (h := ?_) | (refine l_atc ?_; refine l_call_ (hp) ?_; rintro _ _ _ ⟨q, cap, rfl, rfl⟩ he; cases he) | refine l_store (h := ?_) | refine g_ret (h := ?_) | refine a_done (h := ?_) | refine a_load (h := a_pass2 (h := ?_)) | refine a_one (h := ?_) | refine n_any (h := a_pass2 (h := ?_))))
  refine r_retk [tx t sb r 0 false, cl b1 24 [.pointer (some ⟨t, 0, none⟩)], cl b2 32 [.int .u64 x], cl b3 3 [.int .i64 most], cl b4 59 [.slice q l.length cap], vec 67 2 q l.length cap (entC l), Store sb db S, Disk db D] ?_
  exact ⟨(q, cap), trivial, rfl, rfl⟩

/-! The calls -/
set_option maxHeartbeats 2000000 in
theorem tGet_does (P : TxP) (T : List Ent) (x : Nat) : Does Tryz.prog 27 [.pointer (some ⟨P.t, 0, none⟩), .int .u64 x] [Tx P T] (fun v H => v = optV (getE T x) ∧ H = [Tx P T]) := by
  refine does_of Tryz.func27 Tryz.ntmps27 rfl rfl rfl (fun w0 F0 => ?_)
  refine g_open (A := Tx P T) (h := ?_); (rintro ⟨r, S, D⟩ k; dsimp only [TxK, List.cons_append, List.nil_append])
  have hg := get_tree P.sb P.db x P.N r P.U T S D k.st.fine k.tree
  (repeat (first | refine g_seq (h := ?_) | refine g_region (h := ?_) | refine l_nil (h := ?_) | refine n_then (h := ?_) | refine l_pures1 (h := ?_) | refine l_load (h := ?_) | (refine l_box (h := ?_); intro _) | (refine l_alloc (h := ?_); intro _)))
  rename_i b1 b2 b3
  have h1 := txDoes5 P.t P.sb _ _ r (fun _ : Unit => True) (fun _ => (getE T x).isSome) (fun _ => r) _ _ _ _ _ (fun _ => _) (fun _ => _) (fun _ => _) (fun _ => _) (fun _ => _) (txGet1 P.t P.sb P.db b1 b2 b3 x r S D (getE T x) hg)
  (repeat' (first | refine g_seq (h := ?_) | refine g_region (h := ?_) | refine l_nil (h := ?_) | refine n_then (h := ?_) | refine l_pures1 (h := ?_) | (refine l_atc ?_; refine l_call_ (h1) ?_; rintro _ _ _ ⟨y, hy, rfl, rfl⟩ he; cases he) | refine l_load (h := ?_) | refine l_store (h := ?_) | refine g_ret (h := ?_)))
  (refine n_shut (A := Tx P T) (K := TxK P T ((r, S, D))) (hid_shuts ((r, S, D)) k) (h := ?_) (p := by dsimp only [TxK]; (try simp only [List.map_nil, List.length_nil, List.length_set, List.length_append, List.length_cons, List.length_singleton, List.map_append, List.map_cons, Nat.zero_add]); exact parts_of))
  refine r_retk [Tx P T] ?_
  exact ⟨rfl, rfl⟩
set_option maxHeartbeats 2000000 in
theorem tPutOf (P : TxP) (T T' : List Ent) (x : Nat) (v : List UInt8) (hv : v.length ≤ 40)
    (hp : ∀ r S D, TxI P T (r, S, D) → Does Tryz.prog 50 [.pointer (some ⟨P.sb, 0, none⟩), .int .i64 r, .int .u64 x, .string (str v)] [Store P.sb P.db S, Disk P.db D] (fun u H => ∃ m S' D', u = .tuple #[.int .i64 m, .int .i64 0] ∧ H = [Store P.sb P.db S', Disk P.db D'] ∧ TxI P T' (m, S', D'))) :
    Does Tryz.prog 25 [.pointer (some ⟨P.t, 0, none⟩), .int .u64 x, .string (str v)] [Tx P T] (fun u H => u = .bool true ∧ H = [Tx P T']) := by
  refine does_of Tryz.func25 Tryz.ntmps25 rfl rfl rfl (fun w0 F0 => ?_)
  refine g_open (A := Tx P T) (h := ?_); (rintro ⟨r, S, D⟩ k; dsimp only [TxK, List.cons_append, List.nil_append])
  have hp := hp r S D k
  (repeat (first | refine g_seq (h := ?_) | refine g_region (h := ?_) | refine l_nil (h := ?_) | refine n_then (h := ?_) | refine l_pures1 (h := ?_) | refine l_load (h := ?_) | (refine l_box (h := ?_); intro _)))
  rename_i b1 b2 b3
  have h1 := txDoes5 P.t P.sb _ _ r _ (fun _ => true) (fun y : Int × Sh × Dk => y.1) _ _ _ _ _ (fun _ => _) (fun _ => _) (fun _ => _) (fun y => Store P.sb P.db y.2.1) (fun y => Disk P.db y.2.2) (txPut1 P.t P.sb P.db b1 b2 b3 x v r S D _ hp)
  (repeat' (first | refine l_nil (h := ?_) | refine n_then (h := ?_) | refine l_pures1 (h := ?_) | (refine l_atc ?_; refine l_call_ (h1) ?_; rintro _ _ _ ⟨⟨r', S', D'⟩, hy, rfl, rfl⟩ he; cases he) | refine l_guard_yes (h := ?_) | refine l_load (h := ?_) | refine g_ret (h := ?_) | (refine l_spT (h := ?_); intro h)))
  (refine n_shut (A := Tx P T') (K := TxK P T' ((r', S', D'))) (hid_shuts ((r', S', D')) hy) (h := ?_) (p := by dsimp only [TxK]; (try simp only [List.map_nil, List.length_nil, List.length_set, List.length_append, List.length_cons, List.length_singleton, List.map_append, List.map_cons, Nat.zero_add]); exact parts_of))
  refine r_retk [Tx P T'] ?_
  exact ⟨rfl, rfl⟩
theorem tPut_does (P : TxP) (T : List Ent) (x : Nat) (v : List UInt8) (hx : x < 18446744073709551616) (hv : v.length ≤ 40) (room : P.room T) : Does Tryz.prog 25 [.pointer (some ⟨P.t, 0, none⟩), .int .u64 x, .string (str v)] [Tx P T] (fun u H => u = .bool true ∧ H = [Tx P (putE T x v)]) :=
  tPutOf P T _ x v hv fun r S D k => by
    refine (put_tree P.sb P.db x P.N v r P.U T S D k.st.fine k.tree hx hv (k.roomy room)).mono ?_
    rintro u H ⟨m, S', D', rfl, rfl, q1, q2, q3, q4⟩
    exact ⟨m, S', D', rfl, rfl, k.put q2 q1 q3 q4⟩
/-- The first key of a tree, where there is little room. -/
theorem tPut0_does (P : TxP) (x : Nat) (v : List UInt8) (hx : x < 18446744073709551616) (hv : v.length ≤ 40) (room : P.U.length + 2 < P.N) : Does Tryz.prog 25 [.pointer (some ⟨P.t, 0, none⟩), .int .u64 x, .string (str v)] [Tx P []] (fun u H => u = .bool true ∧ H = [Tx P [(x, v)]]) :=
  tPutOf P [] _ x v hv fun r S D k => by
    have h0 : r = 0 ∧ S.after P.U = [] := by
      rcases k.tree with ⟨a, _, b⟩ | ⟨h, ps, o, hp⟩
      · exact ⟨a, b⟩
      · have := o.few
        simp at this
    obtain ⟨rfl, h1⟩ := h0
    have hfl := k.st.fine.fresh_le
    dsimp only at hfl
    rw [h1, List.length_nil] at hfl
    have hd : Nd.good ⟨true, [x], [v], []⟩ := ⟨⟨List.pairwise_singleton _ _, by simpa using hx, by simpa using hv, by simp, rfl, rfl⟩, by simp, by simp [Nd.size, sumL]; omega⟩
    obtain ⟨m, S', D', c1, c2, c3, c4, c5, c6, c7, c8⟩ := fresh_ok k.st.fine (rest := []) (by rw [h1]) (by dsimp only; omega) hd
    refine (put0_does P.sb P.db x v S S' D D' m hv (fun b r => c1 b P.sb P.db 0 r)).mono ?_
    rintro u H ⟨rfl, rfl⟩
    exact ⟨m, S', D', rfl, rfl, k.put c2 (.inr ⟨0, [m], ⟨_, [], c3, hd, by simp, ⟨rfl, hd.p, rfl, rfl⟩, rfl⟩, c5⟩) c7 c8⟩
theorem tPutLong_does (P : TxP) (T : List Ent) (x : Nat) (v : List UInt8) (hv : 40 < v.length) (hl : v.length < 9223372036854775808) : Does Tryz.prog 25 [.pointer (some ⟨P.t, 0, none⟩), .int .u64 x, .string (str v)] [Tx P T] (fun u H => u = .bool false ∧ H = [Tx P T]) := by
  refine does_of Tryz.func25 Tryz.ntmps25 rfl rfl rfl (fun w0 F0 => ?_)
  (repeat' (first | refine g_seq (h := ?_) | refine g_region (h := ?_) | refine l_nil (h := ?_) | refine n_then (h := ?_) | refine l_pures1 (h := ?_) | refine l_guard_no (h := ?_) | refine l_load (h := ?_) | (refine l_box (h := ?_); intro _) | refine g_ret (h := ?_) | (refine l_spF (h := ?_); intro h)))
  refine r_retk [Tx P T] ?_
  exact ⟨rfl, rfl⟩
set_option maxHeartbeats 2000000 in
theorem tDelete_does (P : TxP) (T : List Ent) (x : Nat) (room : P.room T) : Does Tryz.prog 34 [.pointer (some ⟨P.t, 0, none⟩), .int .u64 x] [Tx P T] (fun u H => u = .bool (getE T x).isSome ∧ H = [Tx P (delE T x)]) := by
  refine does_of Tryz.func34 Tryz.ntmps34 rfl rfl rfl (fun w0 F0 => ?_)
  refine g_open (A := Tx P T) (h := ?_); (rintro ⟨r, S, D⟩ k; dsimp only [TxK, List.cons_append, List.nil_append])
  have hd : Does Tryz.prog 62 [.pointer (some ⟨P.sb, 0, none⟩), .int .i64 r, .int .u64 x] [Store P.sb P.db S, Disk P.db D] (fun u H => ∃ m S' D', u = .tuple #[.int .i64 m, .bool (getE T x).isSome, .int .i64 0] ∧ H = [Store P.sb P.db S', Disk P.db D'] ∧ TxI P (delE T x) (m, S', D')) := by
    cases hx : getE T x with
    | none =>
      refine (delNo_tree P.sb P.db x P.N r P.U T S D k.st.fine k.tree hx).mono ?_
      rintro v H ⟨rfl, rfl⟩
      refine ⟨r, S, D, rfl, rfl, ?_⟩
      rw [delE_none k.tree.ord hx]
      exact k
    | some u =>
      refine (del_tree P.sb P.db x P.N u r P.U T S D k.st.fine k.tree hx (k.roomy room)).mono ?_
      rintro v H ⟨m, S', D', rfl, rfl, q1, q2, q3, q4⟩
      exact ⟨m, S', D', rfl, rfl, k.put q2 q1 q3 q4⟩
  (repeat (first | refine g_seq (h := ?_) | refine g_region (h := ?_) | refine l_nil (h := ?_) | refine n_then (h := ?_) | refine l_pures1 (h := ?_) | refine l_load (h := ?_) | (refine l_box (h := ?_); intro _)))
  rename_i b1 b2
  have h1 := txDoes4 P.t P.sb _ _ r _ (fun _ => (getE T x).isSome) (fun y : Int × Sh × Dk => y.1) _ _ _ _ (fun _ => _) (fun _ => _) (fun y => Store P.sb P.db y.2.1) (fun y => Disk P.db y.2.2) (txDel1 P.t P.sb P.db b1 b2 x r S D _ _ hd)
  (repeat' (first | refine l_nil (h := ?_) | refine n_then (h := ?_) | refine l_pures1 (h := ?_) | (refine l_atc ?_; refine l_call_ (h1) ?_; rintro _ _ _ ⟨⟨r', S', D'⟩, hy, rfl, rfl⟩ he; cases he) | refine g_ret (h := ?_)))
  (refine n_shut (A := Tx P (delE T x)) (K := TxK P (delE T x) ((r', S', D'))) (hid_shuts ((r', S', D')) hy) (h := ?_) (p := by dsimp only [TxK]; (try simp only [List.map_nil, List.length_nil, List.length_set, List.length_append, List.length_cons, List.length_singleton, List.map_append, List.map_cons, Nat.zero_add]); exact parts_of))
  refine r_retk [Tx P (delE T x)] ?_
  exact ⟨rfl, rfl⟩
set_option maxHeartbeats 2000000 in
theorem tScan_does (P : TxP) (T : List Ent) (x : Nat) (most : Int) (hT : T.length < 10000) (hm : -9223372036854775808 ≤ most ∧ most < 9223372036854775808) : Does Tryz.prog 29 [.pointer (some ⟨P.t, 0, none⟩), .int .u64 x, .int .i64 most] [Tx P T]
    (fun v H => ∃ p cap, v = .slice p ((geE T x).take most.toNat).length cap ∧ H = [vec 67 2 p ((geE T x).take most.toNat).length cap (entC ((geE T x).take most.toNat)), Tx P T]) := by
  refine does_of Tryz.func29 Tryz.ntmps29 rfl rfl rfl (fun w0 F0 => ?_)
  refine g_open (A := Tx P T) (h := ?_); (rintro ⟨r, S, D⟩ k; dsimp only [TxK, List.cons_append, List.nil_append])
  have hs := scan_tree P.sb P.db x P.N r most P.U T S D k.st.fine k.tree hT hm
  (repeat (first | refine g_seq (h := ?_) | refine g_region (h := ?_) | refine l_nil (h := ?_) | refine n_then (h := ?_) | refine l_pures1 (h := ?_) | refine l_load (h := ?_) | (refine l_box (h := ?_); intro _) | (refine l_alloc (h := ?_); intro _)))
  rename_i b1 b2 b3 b4
  have h1 := txDoes6 P.t P.sb _ _ r (fun _ : Option Addr × Nat => True) (fun _ => true) (fun _ => r) _ _ _ _ _ _ (fun _ => _) (fun _ => _) (fun _ => _) (fun y => _) (fun y => _) (fun _ => _) (fun _ => _) (txScan1 P.t P.sb P.db b1 b2 b3 b4 x r most S D _ hs)
  (repeat' (first | refine g_seq (h := ?_) | refine g_region (h := ?_) | refine l_nil (h := ?_) | refine n_then (h := ?_) | (refine l_atc ?_; refine l_call_ (h1) ?_; rintro _ _ _ ⟨⟨q, cap⟩, hy, rfl, rfl⟩ he; cases he) | refine l_load (h := ?_) | refine l_store (h := ?_) | refine g_ret (h := ?_)))
  (refine n_shut (A := Tx P T) (K := TxK P T ((r, S, D))) (hid_shuts ((r, S, D)) k) (h := ?_) (p := by dsimp only [TxK]; (try simp only [List.map_nil, List.length_nil, List.length_set, List.length_append, List.length_cons, List.length_singleton, List.map_append, List.map_cons, Nat.zero_add]); exact parts_of))
  refine r_retk [vec 67 2 q ((geE T x).take most.toNat).length cap (entC ((geE T x).take most.toNat)), Tx P T] ?_
  exact ⟨q, cap, rfl, rfl⟩
theorem tErr_does (P : TxP) (T : List Ent) : Does Tryz.prog 26 [.pointer (some ⟨P.t, 0, none⟩)] [Tx P T] (fun v H => v = .int .i64 0 ∧ H = [Tx P T]) := by
  refine does_of Tryz.func26 Tryz.ntmps26 rfl rfl rfl (fun w0 F0 => ?_)
  refine g_open (A := Tx P T) (h := ?_); (rintro ⟨r, S, D⟩ k; dsimp only [TxK, List.cons_append, List.nil_append])
  (repeat' (first | refine g_seq (h := ?_) | refine g_region (h := ?_) | refine l_nil (h := ?_) | refine n_then (h := ?_) | refine l_pures1 (h := ?_) | refine l_load (h := ?_) | refine g_ret (h := ?_)))
  (refine n_shut (A := Tx P T) (K := TxK P T ((r, S, D))) (hid_shuts ((r, S, D)) k) (h := ?_) (p := by dsimp only [TxK]; (try simp only [List.map_nil, List.length_nil, List.length_set, List.length_append, List.length_cons, List.length_singleton, List.map_append, List.map_cons, Nat.zero_add]); exact parts_of))
  refine r_retk [Tx P T] ?_
  exact ⟨rfl, rfl⟩
end Go.Proofs.YtbdgnjlbmhnipaaGreat

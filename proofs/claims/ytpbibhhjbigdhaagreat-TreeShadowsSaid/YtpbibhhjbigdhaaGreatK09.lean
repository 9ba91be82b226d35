/- Texts TrG, SlP, RefA, RefB, SlQ, TlA, TlB, TlC, TrDa, TrDb, TrDc, joined. -/
import Derived.Test.YtpbibhhjbigdhaaGreatK08
/- Package tree: Get of a tree, Delete of a key that is not there, Delete from a tree that is one leaf. -/
set_option maxRecDepth 20000
set_option linter.unusedVariables false
set_option linter.unusedSimpArgs false
namespace Go.Proofs.YtpbibhhjbigdhaaGreat
open Go.Proofs.YtpbibhhjbigdhaaGreat.SL

/-- What a list has at a key. -/
def getE : List Ent → Nat → Option (List UInt8)
  | [], _ => none
  | e :: es, x => if e.1 = x then some e.2 else getE es x
theorem getE_append (a b : List Ent) (x : Nat) : getE (a ++ b) x = (getE a x).or (getE b x) := by
  induction a with
  | nil => simp [getE]
  | cons e a ih =>
    simp only [List.cons_append, getE]
    split
    · simp
    · exact ih
theorem getE_none {l : List Ent} {x : Nat} (h : ∀ e ∈ l, e.1 ≠ x) : getE l x = none := by
  induction l with
  | nil => rfl
  | cons e l ih =>
    rw [getE, if_neg (h e (by simp))]; exact ih fun e he => h e (by simp [he])
theorem getE_mid {L e R : List Ent} {x : Nat} (hl : ∀ a ∈ L, a.1 < x) (hr : ∀ a ∈ R, x < a.1) : getE (L ++ (e ++ R)) x = getE e x := by
  rw [getE_append, getE_append, getE_none (fun a ha => by have := hl a ha; omega), getE_none (l := R) (fun a ha => by have := hr a ha; omega)]
  simp
theorem getE_mem {l : List Ent} {x : Nat} {v : List UInt8} (h : getE l x = some v) : (x, v) ∈ l := by
  induction l with
  | nil => simp [getE] at h
  | cons e l ih =>
    rw [getE] at h
    split at h
    · rename_i q
      simp only [Option.some.injEq] at h
      subst q h
      simp
    · simp [ih h]
theorem getE_of {l : List Ent} (o : Ord l) {x : Nat} {v : List UInt8} (h : (x, v) ∈ l) : getE l x = some v := by
  induction l with
  | nil => simp at h
  | cons e l ih =>
    obtain ⟨h1, h2⟩ := List.pairwise_cons.1 o
    rw [getE]
    rcases List.mem_cons.1 h with rfl | h
    · rw [if_pos rfl]
    · rw [if_neg (by have := h1 _ h; dsimp only at this; omega)]
      exact ih h2 h
theorem posN_cons {k x : Nat} {l : List Nat} : posN (k :: l) x = if k < x then posN l x + 1 else 0 := rfl
theorem getE_zip : ∀ {ks : List Nat} {vs : List (List UInt8)} {x : Nat}, Rise ks → vs.length = ks.length → getE (ks.zip vs) x = if x ∈ ks then some (vs.getD (posN ks x) []) else none
  | [], [], x, _, _ => by simp [getE]
  | k :: ks, v :: vs, x, h, hl => by
    obtain ⟨h1, h2⟩ := List.pairwise_cons.1 h
    have ih := getE_zip (x := x) h2 (by simpa using hl)
    simp only [List.zip_cons_cons, getE, ih, posN_cons]
    by_cases q : k = x
    · subst q
      simp
    · rw [if_neg q]
      by_cases m : x ∈ ks
      · have := h1 x m
        rw [if_pos m, if_pos (List.mem_cons_of_mem _ m), if_pos this, List.getD_cons_succ]
      · rw [if_neg m, if_neg (by simp only [List.mem_cons, not_or]; exact ⟨fun e => q e.symm, m⟩)]
theorem getE_filter {p : Ent → Bool} {q : Nat → Bool} (h : ∀ e, p e = q e.1) : ∀ {es : List Ent} {y : Nat}, getE (es.filter p) y = if q y then getE es y else none
  | [], y => by simp [getE]
  | e :: es, y => by
    have ih := getE_filter h (es := es) (y := y)
    rw [List.filter_cons, h]
    by_cases a : e.1 = y
    · subst a
      cases b : q e.1
      · simp [ih, b]
      · simp [getE]
    · split
      · rw [getE, if_neg a, ih, getE, if_neg a]
      · rw [ih, getE, if_neg a]
theorem getE_put {es : List Ent} {x y : Nat} {v : List UInt8} : getE (putE es x v) y = if y = x then some v else getE es y := by
  rw [putE, getE_append, getE, getE_filter (q := fun k => decide (k < x)) (fun _ => rfl), getE_filter (q := fun k => decide (x < k)) (fun _ => rfl)]
  by_cases q : y = x
  · subst q; simp
  · have q2 : ¬ x = y := fun e => q e.symm
    rw [if_neg q]
    rcases Nat.lt_or_gt_of_ne q with h | h
    · simp [h, q2, Nat.not_lt_of_gt h]
    · simp [h, q2, Nat.not_lt_of_gt h]
theorem getE_del {es : List Ent} {x y : Nat} : getE (delE es x) y = if y = x then none else getE es y := by
  rw [delE, getE_filter (q := fun k => !(k == x)) (fun _ => rfl)]
  by_cases q : y = x
  · subst q; simp
  · simp [q]
theorem putE_ord {es : List Ent} (o : Ord es) {x : Nat} {v : List UInt8} : Ord (putE es x v) := by
  rw [putE, ord_append]
  refine ⟨o.filter _, List.pairwise_cons.2 ⟨?_, o.filter _⟩, ?_⟩
  · intro e he
    simpa using (List.mem_filter.1 he).2
  · intro a ha b hb
    have h1 : a.1 < x := by simpa using (List.mem_filter.1 ha).2
    rcases List.mem_cons.1 hb with rfl | hb
    · exact h1
    · have h2 : x < b.1 := by simpa using (List.mem_filter.1 hb).2
      omega
theorem delE_ord {es : List Ent} (o : Ord es) {x : Nat} : Ord (delE es x) := o.filter _
theorem IsTree.ord {N : Nat} {S : Sh} {D : Dk} {U : List Int} {r : Int} {T : List Ent} (h : IsTree N S D U r T) : Ord T := by
  rcases h with ⟨_, rfl, _⟩ | ⟨h, ps, ⟨d', ps', a1, a2, a3, a4, a5⟩, _⟩
  · exact List.Pairwise.nil
  · exact a4.ord

def getV (o : Option (List UInt8)) : Value := .tuple #[.string (str (o.getD [])), .bool o.isSome, .int .i64 0]
theorem get0_does (sb x : Nat) : Does Tryz.prog 16 [.pointer (some ⟨sb, 0, none⟩), .int .i64 0, .int .u64 x] [] (fun v H => v = getV none ∧ H = []) := by
  refine does_of Tryz.func16 Tryz.ntmps16 rfl rfl rfl (fun w0 F0 => ?_)
  (repeat' (first | refine g_seq (h := ?_) | refine g_region (h := ?_) | refine l_nil (h := ?_) | refine n_then (h := ?_) | refine l_pures1 (h := ?_) | refine g_ret (h := ?_) | refine n_then_ret (h := ?_) | refine g_cond_t (h := ?_)))
  refine r_ret ?_
  exact ⟨rfl, rfl⟩
/-- The way to a key, and what it tells of the tree. -/
theorem tree_way {N : Nat} {S : Sh} {D : Dk} {U : List Int} {root : Int} {T : List Ent} (k : Fine N S D U) {h : Nat} {ps : List Int} (o : OnP (Gd N D) h root ⟨T, ps⟩) (hp : ps.Perm (S.after U)) (x : Nat) :
    ∃ (top : List Spot) (s : Spot) (L R : List Ent) (ps' : List Int), Goes S D x root (top ++ [s]) ∧ top.length = h ∧ h ≤ 8 ∧ Way (Gd N D) top.reverse 0 L R ps' ∧ s.d.good ∧ s.d.leaf = true ∧ s.i = posN s.d.keys x ∧ Gd N D s.pg s.d ∧
      FitsP top.reverse x ∧ (∀ e ∈ s.d.ents, FitsP top.reverse e.1) ∧ L ++ (s.d.ents ++ R) = T ∧ (s.pg :: ps').Perm (S.after U) ∧ root ≠ 0 ∧ getE T x = (if x ∈ s.d.keys then some (s.d.vals.getD s.i []) else none) := by
  have hN := k.n
  have hh := o.high
  obtain ⟨d, ps1, g, hd, hne, hn, e⟩ := o
  subst e
  have hlen := hp.length_eq
  have hal := nodup_sub (A := S.after U) (B := (List.range' 2 (N - 2)).map (fun n : Nat => (n : Int))) k.afterNodup (by
    intro a ha
    have ha2 : 2 ≤ a ∧ a < N := by
      rcases (Sh.mem_after.1 ha).1 with h | h
      · have := k.h.b a h; omega
      · have := k.f.2 a h; omega
    exact List.mem_map.2 ⟨a.toNat, List.mem_range'_1.2 (by omega), by omega⟩)
  simp only [List.length_map, List.length_range'] at hal
  dsimp only at hh hn
  have h8 := high_le hh (by omega)
  obtain ⟨top, s, L, R, qs, r1, r2, r3, r4, r5, r6, r7, r8, r9, r10, r11⟩ := goes_way k (x := x) hn hd hne g (up := []) (L0 := []) (R0 := []) (ps0 := []) ⟨rfl, rfl, rfl⟩ trivial (fun _ _ => trivial)
  obtain ⟨lt1, lt2⟩ := r3.lt r8
  simp only [List.nil_append, List.append_nil] at r3 r8 r9 r10 r11
  refine ⟨top, s, L, R, qs, r1, r2, h8, r3, r4, r5, r6, r7, r8, r9, r10, r11.trans hp, by have := g.1; omega, ?_⟩
  rw [← r10, getE_mid lt1 lt2, Nd.ents, getE_zip r4.p.rise (valsLen r4.p r5), r6]
theorem get_tree (sb db x N : Nat) (root : Int) (U : List Int) (T : List Ent) (S : Sh) (D : Dk) (k : Fine N S D U) (ht : IsTree N S D U root T) :
    Does Tryz.prog 16 [.pointer (some ⟨sb, 0, none⟩), .int .i64 root, .int .u64 x] [Store sb db S, Disk db D] (fun v H => v = getV (getE T x) ∧ H = [Store sb db S, Disk db D]) := by
  rcases ht with ⟨rfl, rfl, h0⟩ | ⟨h, ps, o, hp⟩
  · refine (does_frame (K := [Store sb db S, Disk db D]) (get0_does sb x)).mono ?_
    rintro v H ⟨_, ⟨rfl, rfl⟩, rfl⟩
    exact ⟨rfl, rfl⟩
  · obtain ⟨top, s, L, R, qs, r1, r2, r8, _, _, _, _, _, _, _, _, _, hr, he⟩ := tree_way k o hp x
    refine (Get_does sb db x root S D top s r1 (by omega) hr).mono ?_
    rintro v H ⟨rfl, rfl⟩
    refine ⟨?_, rfl⟩
    rw [he]
    split <;> rfl

/-- A key that is not there is not deleted. -/
theorem delNo_tree (sb db x N : Nat) (root : Int) (U : List Int) (T : List Ent) (S : Sh) (D : Dk) (k : Fine N S D U) (ht : IsTree N S D U root T) (hx : getE T x = none) :
    Does Tryz.prog 14 [.pointer (some ⟨sb, 0, none⟩), .int .i64 root, .int .u64 x] [Store sb db S, Disk db D] (fun v H => v = .tuple #[.int .i64 root, .bool false, .int .i64 0] ∧ H = [Store sb db S, Disk db D]) := by
  have hG := get_tree sb db x N root U T S D k ht
  rw [hx] at hG
  refine does_of Tryz.func14 Tryz.ntmps14 rfl rfl rfl (fun w0 F0 => ?_)
  (repeat' (first | refine g_seq (h := ?_) | refine g_region (h := ?_) | refine l_nil (h := ?_) | refine n_then (h := ?_) | refine l_pures1 (h := ?_) | (refine l_atc ?_; refine l_call (hG) ?_) | refine g_ret (h := ?_) | refine n_then_ret (h := ?_) | refine n_block_ret (h := ?_) | refine g_block (h := ?_) | refine g_cond_t (h := ?_) | refine g_cond_f (h := ?_)))
  refine r_ret ?_
  exact ⟨rfl, rfl⟩
/-- A page that counts is given. -/
theorem give_ok {N : Nat} {S : Sh} {D : Dk} {U rest : List Int} {pg : Int} (k : Fine N S D U) (hp : (pg :: rest).Perm (S.after U)) : ∃ S', S.give pg = (0, S') ∧ Fine N S' D U ∧ rest.Perm (S'.after U) ∧ S'.fresh.length ≤ S.fresh.length ∧ S'.gen = S.gen ∧ Same U S D S' D := by
  have hpa : pg ∈ S.after U := hp.mem_iff.1 (by simp)
  obtain ⟨h1, h2⟩ := Sh.mem_after.1 hpa
  by_cases hf : pg ∈ S.fresh
  · obtain ⟨S1, g1, g2, g3, g4, g5, g6⟩ := k.giveFresh' hf
    refine ⟨S1, g1, g2, ?_, by rw [g3]; exact List.length_erase_le, g5, g6, fun _ _ => rfl⟩
    refine perm_drop hp k.afterNodup g2.afterNodup fun a => ?_
    have hU : pg ∉ U := (k.f.2 pg hf).2.2
    rw [Sh.mem_after, Sh.mem_after, g3, g4, k.f.1.mem_erase_iff]
    constructor
    · rintro ⟨h | ⟨h, h'⟩, h3⟩
      · exact ⟨⟨.inl h, h3⟩, fun e => hU (e ▸ h)⟩
      · exact ⟨⟨.inr h', h3⟩, h⟩
    · rintro ⟨⟨h | h, h3⟩, h'⟩
      · exact ⟨.inl h, h3⟩
      · exact ⟨.inr ⟨h', h⟩, h3⟩
  · have h1 : pg ∈ U := h1.elim id fun q => absurd q hf
    obtain ⟨S1, g1, g2, g3, g4, g5, g6⟩ := k.giveUsed' h1 h2
    refine ⟨S1, g1, g2, ?_, by rw [g3]; exact Nat.le_refl _, g5, g6, fun _ _ => rfl⟩
    refine perm_drop hp k.afterNodup g2.afterNodup fun a => ?_
    rw [Sh.mem_after, Sh.mem_after, g3, g4]
    simp only [List.mem_append, List.mem_singleton, not_or, and_assoc]

theorem pop1_does (b : Nat) (s : Sp) : Does Tryz.prog 31 [.pointer (some ⟨b, 0, none⟩)] [Stk b [s]] (fun v H => v = .tuple #[s.v, .bool true] ∧ H = [Stk b []]) := pop_does b [] s (by simp)
set_option maxHeartbeats 2000000 in
/-- The last key of a tree that is one leaf. -/
theorem delOne_tree (sb db x N : Nat) (v : List UInt8) (root : Int) (U : List Int) (S S' : Sh) (D : Dk) (k : Fine N S D U) (d : Nd) (hd : d = ⟨true, [x], [v], []⟩) (g : Gd N D root d) (hx : x < 18446744073709551616) (hv : v.length ≤ 40) (hp : [root].Perm (S.after U)) (hg : S.give root = (0, S')) :
    Does Tryz.prog 14 [.pointer (some ⟨sb, 0, none⟩), .int .i64 root, .int .u64 x] [Store sb db S, Disk db D] (fun v H => v = .tuple #[.int .i64 0, .bool true, .int .i64 0] ∧ H = [Store sb db S', Disk db D]) := by
  have hdg : d.good := by subst hd; exact ⟨⟨List.pairwise_singleton _ _, by simpa using hx, by simpa using hv, by simp, rfl, rfl⟩, by simp, by simp [Nd.size, sumL]; omega⟩
  have hlf : d.leaf = true := by rw [hd]
  have hN := k.n
  have hroot : root ≠ 0 := by have := g.1; omega
  have ht : IsTree N S D U root [(x, v)] := .inr ⟨0, [root], ⟨d, [], g, hdg, by rw [hlf]; simp, ⟨hlf, hdg.p, by rw [hd]; rfl, rfl⟩, rfl⟩, hp⟩
  have hG := get_tree sb db x N root U _ S D k ht
  have hgx : getE [(x, v)] x = some v := by simp [getE]
  rw [hgx] at hG
  have hgo : Goes S D x root [⟨root, d, 0⟩] := ⟨rfl, by rw [k.read g.1, g.2], hdg, .inl ⟨hlf, by rw [hd]; simp [posN], rfl⟩⟩
  have hw : ∀ b, Does Tryz.prog 30 [.pointer (some ⟨b, 0, none⟩), .int .i64 root, .int .u64 x] [Wk b sb 0 0, Store sb db S, Disk db D] (fun v H => ∃ b' L, L.map Sp.spot = [⟨root, d, 0⟩] ∧ v = .pointer (some ⟨b', 0, none⟩) ∧ H = [Stk b' L, NdL L, Wk b sb 1 0, Store sb db S, Disk db D]) := fun b => way_does b sb db x root 0 S D [⟨root, d, 0⟩] hgo (by simp) (by simp)
  have hgi := sGive_does sb db S root (by have := g.1; omega)
  rw [hg] at hgi
  dsimp only at hgi
  have hfa := fun b => wFail0_does b sb 1
  refine does_of Tryz.func14 Tryz.ntmps14 rfl rfl rfl (fun w0 F0 => ?_)
  (repeat' (first | refine g_seq (h := ?_) | refine g_region (h := ?_) | refine l_nil (h := ?_) | refine n_then (h := ?_) | refine l_pures1 (h := ?_) | (refine l_atc ?_; refine l_call (hG) ?_) | (refine l_box (h := ?_); intro _) | refine g_skip (h := ?_) | refine g_block (h := ?_) | refine n_block (h := ?_) | refine g_cond_f (h := ?_)))
  rename_i b
  refine l_inv (H' := [Wk b sb 0 0, Store sb db S, Disk db D]) (fun i => i) ?_
  (repeat' (first | refine g_seq (h := ?_) | refine g_region (h := ?_) | refine l_nil (h := ?_) | refine n_then (h := ?_) | refine l_pures1 (h := ?_) | (refine l_atc ?_; refine l_call_ (hw b) ?_; rintro _ _ _ ⟨b', L, hL, rfl, rfl⟩ he; cases he) | refine l_load (h := ?_) | refine g_skip (h := ?_) | refine g_cond_f (h := ?_)))
  obtain ⟨t, rfl, hts⟩ : ∃ t, L = [t] ∧ t.spot = ⟨root, d, 0⟩ := by
    cases L with
    | nil => simp at hL
    | cons t L =>
      cases L with
      | nil => exact ⟨t, rfl, by simpa using hL⟩
      | cons _ _ => simp at hL
  obtain ⟨tpg, td, tr, ti⟩ := t
  simp only [Sp.spot, Spot.mk.injEq] at hts
  obtain ⟨rfl, rfl, rfl⟩ := hts
  have hpop := pop1_does b' ⟨tpg, td, tr, 0⟩
  have hpn := popNone_does b'
  have hW := nWithout_does td tr 0 hlf hdg.fits (by rw [hd]; simp) (by rw [hd])
  have e : td.without 0 = ⟨true, [], [], []⟩ := by rw [hd]; rfl
  rw [e] at hW
  refine l_inv (fun q => ndl_last (L := []) (q.take (A := NdL [⟨tpg, td, tr, 0⟩]) (by with_reducible (repeat (first | refine Take.here | apply Take.there))))) ?_
  (repeat (first | refine g_seq (h := ?_) | refine g_region (h := ?_) | refine l_nil (h := ?_) | refine n_then (h := ?_) | refine l_pures1 (h := ?_) | (refine l_atc ?_; refine l_call (hpop) ?_) | (refine l_atc ?_; refine l_call_ (hW) ?_; rintro _ _ _ ⟨r2, rfl, rfl⟩ he; cases he) | (refine l_atc ?_; refine l_call (hpn) ?_) | refine l_load (h := ?_) | refine l_store (h := ?_) | (refine l_alloc (h := ?_); intro _) | refine g_block (h := ?_)))
  rename_i b1 b2 b3
  (refine g_loop (fun y : Unit => [(17, .bool false), (16, .pointer (some ⟨b3, 0, none⟩)), (15, .pointer (some ⟨b2, 0, none⟩)), (13, .pointer (some ⟨b1, 0, none⟩)), (12, .pointer (some ⟨b', 0, none⟩)), (11, .pointer (some ⟨b, 0, none⟩)), (0, .pointer (some ⟨sb, 0, none⟩))]) (fun y => [cl b1 83 (Sp.c ⟨tpg, td, tr, 0⟩), cl b2 79 (ndA ⟨true, [], [], []⟩ r2).toList, Wk b sb 1 0, Store sb db S, Disk db D]) (fun y => True) (fun y => 0) (()) ?_ ?_ ?_ ?_; rotate_left; (repeat (first | refine ts_nil | (refine ts_cons rfl ?_ ?_; first | (with_reducible rfl) | rotate_left))); (first | (intro _ i; with_reducible refine i) | rotate_left); rotate_left; (try omega); rotate_right)
  · rintro _ _
    dsimp only [Sp.c]
    (repeat' (first | refine g_seq (h := ?_) | refine g_region (h := ?_) | refine l_nil (h := ?_) | refine n_then (h := ?_) | refine l_pures1 (h := ?_) | (refine l_atc ?_; refine l_call (hgi) ?_) | (refine l_atc ?_; refine l_call (hfa b) ?_) | refine l_guard_yes (h := ?_) | refine l_load (h := ?_) | refine g_skip (h := ?_) | refine g_ret (h := ?_) | refine g_exit (h := ?_) | refine n_then_exit (h := ?_) | refine n_block_hit (h := ?_) | refine g_cond_f (h := ?_)))
    refine r_retk [Store sb db S', Disk db D] ?_
    exact ⟨rfl, rfl⟩
  · trivial
  · intro _ i
    dsimp only [Sp.c] at i ⊢
    exact inv_keep parts_of i
end Go.Proofs.YtpbibhhjbigdhaaGreat
/- The framework, part 16: rows of four, full slices of nothing, order-free regions that call yield. -/
set_option linter.unusedVariables false
set_option linter.unusedSimpArgs false
namespace Go.Proofs.YtpbibhhjbigdhaaGreat.SL

section
variable {P : Program} {E : Env} {n : Nat} {w0 : World} {F0 : Nat → Prop} {Q : Exit → Act → World → Prop} {tm : List (Nat × Value)} {D : List Deferred} {H H' : List SProp} {ops rest : List Oper}
variable {ty : TypeId} {pos : String} {after : Array Edge}
theorem l_buildSlice4 {d t e by' : Nat} {x1 x2 x3 x4 : Operand} {v1 v2 v3 v4 z : Value} (k : EnvOk P E := by refine inferInstance) (hd : Nat.blt d n = true := by refine rfl) (hx1 : ev tm x1 = some v1 := by refine rfl) (hx2 : ev tm x2 = some v2 := by refine rfl) (hx3 : ev tm x3 = some v3 := by refine rfl) (hx4 : ev tm x4 = some v4 := by refine rfl) (ht : look E.ty t = some (.slice e) := by refine rfl) (he : look E.inf e = some (z, 1, by') := by refine rfl)
    (hz : cellsV z = some [z] := by refine rfl) (hv1 : cellsV v1 = some [v1] := by refine rfl) (hv2 : cellsV v2 = some [v2] := by refine rfl) (hv3 : cellsV v3 = some [v3] := by refine rfl) (hv4 : cellsV v4 = some [v4] := by refine rfl) (h : ∀ b, L P n w0 F0 ops.toArray rest Q ((d, .slice (some ⟨b, 0, none⟩) 4 4) :: tm) D (cl b e [v1, v2, v3, v4] :: H)) :
    L P n w0 F0 ops.toArray (⟨some d, .buildSlice t 4 #[(0, x1), (1, x2), (2, x3), (3, x4)], ty, pos, after, none⟩ :: rest) Q tm D H := by
  refine .mk fun a w st => ?_
  have ez : z.cells = #[z] := by apply Array.ext'; simpa using (cellsV_spec hz).1
  have e1 : v1.cells = #[v1] := by apply Array.ext'; simpa using (cellsV_spec hv1).1
  have e2 : v2.cells = #[v2] := by apply Array.ext'; simpa using (cellsV_spec hv2).1
  have e3 : v3.cells = #[v3] := by apply Array.ext'; simpa using (cellsV_spec hv3).1
  have e4 : v4.cells = #[v4] := by apply Array.ext'; simpa using (cellsV_spec hv4).1
  refine wpList_value rfl (v := .slice (some ⟨w.heap.size, 0, none⟩) 4 4) (w' := { w with heap := w.heap.push (.cells [v1, v2, v3, v4].toArray e (0, 0)) }) ?_ (h w.heap.size _ _ ⟨st.tm.put hd _, st.defers, st.inv.new_cl _ _⟩)
  obtain ⟨info, hi, hi1, hi2, hi3⟩ := k.info he
  have hfill : Instr.fill (fun i => some (i * info.size, info.size)) ((Array.range (4 * info.size)).map (z.cells[· % z.cells.size]!)) [(0, v1), (1, v2), (2, v3), (3, v4)] = some [v1, v2, v3, v4].toArray := by
    rw [hi2, ez]
    simp [Instr.fill, e1, e2, e3, e4]
    apply Array.ext'
    simp only [Array.toList_setIfInBounds, Array.toList_map, Array.toList_range]
    rfl
  have hr := run_buildSlice w t e 4 #[(0, v1), (1, v2), (2, v3), (3, v4)] [v1, v2, v3, v4].toArray info z (k.under ht) hi hi1 (by omega) (by omega) hfill
  simp only [execOp, Sem.run_bind, List.map_toArray, List.map_cons, List.map_nil, ev_sound st.tm hx1, ev_sound st.tm hx2, ev_sound st.tm hx3, ev_sound st.tm hx4, hr, Result.andThen_ok, Sem.run_pure]
  rfl
/-- A full slice of nothing. -/
theorem l_slice3n {d t e sz by' : Nat} {x y u : Operand} {z : Value} (k : EnvOk P E := by refine inferInstance) (hd : Nat.blt d n = true := by refine rfl) (hx : ev tm x = some (.slice none 0 0) := by refine rfl) (hy : ev tm y = some (.int .i64 0) := by refine rfl) (hu : ev tm u = some (.int .i64 0) := by refine rfl) (ht : look E.ty t = some (.slice e) := by refine rfl) (he : look E.inf e = some (z, sz, by') := by refine rfl)
    (h : L P n w0 F0 ops.toArray rest Q ((d, .slice none 0 0) :: tm) D H) :
    L P n w0 F0 ops.toArray (⟨some d, .slice t x none (some y) (some u), ty, pos, after, none⟩ :: rest) Q tm D H := by
  refine .mk fun a w s => ?_
  refine wpList_value rfl (v := .slice none 0 0) (w' := w) ?_ (h _ _ (s.put hd _))
  simp [execOp, ev_sound s.tm hx, ev_sound s.tm hy, ev_sound s.tm hu, Instr.sliceAt, Instr.slice, Instr.sliceBounds, Instr.sliceBound, asIntOf, Sem.run_bind, run_underlying (k.under ht), Result.andThen, Sem.run_pure, run_size k he]

/-! ### Order-free regions that call yield last -/
def deps (o : Oper) : List Nat := (o.after.toList.filter (Region.binds .any)).map (·.on)
/-- What must have come up where the things of the list have. -/
def reach (ops : List Oper) : Nat → List Nat → List Nat
  | 0, l => l
  | i + 1, l => bif l.contains i then (match ops[i]? with
    | some o => reach ops i (deps o ++ l)
    | none => reach ops i l) else reach ops i l
def sureB : List Oper → Nat → Bool
  | [], _ => true
  | o :: l, i => (deps o).all (fun j => Nat.blt j i) && (match o.guard with | none => true | some _ => false) && sureB l (i + 1)
/-- A chain: each waits for the one ahead. -/
def chainB : List Oper → Nat → Bool
  | [], _ => true
  | o :: l, i => (deps o).all (fun j => Nat.blt j i) && (match l with | [] => true | u :: _ => (deps u).contains i) && chainB l (i + 1)
def goB (pre post : List Oper) : Bool :=
  sureB pre 0 && chainB post pre.length && noDf pre && (match post with | [] => false | c :: _ => (List.range pre.length).all (fun i => (reach pre pre.length (deps c)).contains i))

theorem mem_deps {o : Oper} {j : Nat} : j ∈ deps o ↔ ∃ e ∈ o.after, Region.binds .any e = true ∧ e.on = j := by
  simp [deps, and_assoc]
theorem reach_sub {ops : List Oper} {listed : Nat → Prop} (hc : ∀ i o, ops[i]? = some o → listed i → ∀ j ∈ deps o, listed j) : ∀ (k : Nat) (l : List Nat), (∀ x ∈ l, listed x) → ∀ x ∈ reach ops k l, listed x
  | 0, l, h => h
  | k + 1, l, h => by
    unfold reach
    cases hk : l.contains k with
    | false => exact reach_sub hc k l h
    | true =>
      simp only [cond_true]
      split
      · rename_i o ho
        refine reach_sub hc k _ fun x hx => ?_
        rcases List.mem_append.1 hx with hx | hx
        · exact hc k o ho (h k (by simpa using hk)) x hx
        · exact h x hx
      · exact reach_sub hc k l h
theorem sureB_spec : ∀ {l : List Oper} {i : Nat}, sureB l i = true → ∀ j o, l[j]? = some o → (∀ x ∈ deps o, x < i + j) ∧ o.guard = none
  | [], i, _, j, o, h => by simp at h
  | u :: l, i, hs, j, o, h => by
    simp only [sureB, Bool.and_eq_true, List.all_eq_true, Nat.blt_eq] at hs
    cases j with
    | zero =>
      simp only [List.getElem?_cons_zero, Option.some.injEq] at h
      subst h
      refine ⟨hs.1.1, ?_⟩
      have := hs.1.2
      cases hg : u.guard with
      | none => rfl
      | some _ => rw [hg] at this; simp at this
    | succ j =>
      have := sureB_spec hs.2 j o (by simpa using h)
      refine ⟨fun x hx => ?_, this.2⟩
      have := this.1 x hx
      omega
theorem chainB_spec : ∀ {l : List Oper} {i : Nat}, chainB l i = true → ∀ j o, l[j]? = some o → (∀ x ∈ deps o, x < i + j) ∧ (0 < j → i + j - 1 ∈ deps o)
  | [], i, _, j, o, h => by simp at h
  | u :: l, i, hs, j, o, h => by
    simp only [chainB, Bool.and_eq_true, List.all_eq_true, Nat.blt_eq] at hs
    cases j with
    | zero =>
      simp only [List.getElem?_cons_zero, Option.some.injEq] at h
      subst h
      exact ⟨hs.1.1, fun q => absurd q (by omega)⟩
    | succ j =>
      have := chainB_spec hs.2 j o (by simpa using h)
      refine ⟨fun x hx => by have := this.1 x hx; omega, fun _ => ?_⟩
      cases j with
      | zero =>
        cases l with
        | nil => simp at h
        | cons v l =>
          simp only [List.getElem?_cons_succ, List.getElem?_cons_zero, Option.some.injEq] at h
          subst h
          have := hs.1.2
          simp only [List.contains_eq_mem, decide_eq_true_eq] at this
          simpa using this
      | succ j =>
        have := this.2 (by omega)
        rw [show i + (j + 1 + 1) - 1 = i + 1 + (j + 1) - 1 by omega]
        exact this

theorem any_post {r : Option Nat} {pre : List Oper} {ops : Array Oper} : ∀ {post done : List Oper} {fuel : Nat} {listed : Array Bool} {a : Act} {w : World}, ops.toList = done ++ post → (∀ j o, post[j]? = some o → (∀ x ∈ deps o, x < done.length + j) ∧ (0 < j → done.length + j - 1 ∈ deps o)) → post.length ≤ fuel →
    (∀ i, i < done.length → listed.getD i false = true) → (∀ i, done.length ≤ i → i < ops.size → listed.getD i true = false) → listed.size = ops.size →
    wpListIn (FR r) 0 P ops Q post a w → wpAnyIn (FR r) 0 P .any ops Q fuel listed a w
  | [], done, fuel, listed, a, w, he, hp, hf, hl, hn, hsz, h => by
    have hnil : Region.ready .any ops listed = [] := by
      rw [List.eq_nil_iff_forall_not_mem]
      intro i hi
      obtain ⟨h1, o, h2, _⟩ := mem_ready.1 hi
      have hlt : i < ops.size := (Array.getElem?_eq_some_iff.1 h2).1
      have hs : ops.size = done.length := by have := congrArg List.length he; simpa using this
      have := hl i (by omega)
      simp only [Array.getD_eq_getD_getElem?] at h1 this
      cases hq : listed[i]? with
      | none => rw [hq] at this; simp at this
      | some b => rw [hq] at h1 this; simp only [Option.getD_some] at h1 this; rw [h1] at this; cases this
    cases fuel with
    | zero => exact ⟨hnil, h⟩
    | succ fuel => exact ⟨fun _ => h, fun i hi => by rw [hnil] at hi; cases hi⟩
  | o :: post, done, 0, listed, a, w, he, hp, hf, hl, hn, hsz, h => by simp at hf
  | o :: post, done, fuel + 1, listed, a, w, he, hp, hf, hl, hn, hsz, h => by
    have hs : ops.size = done.length + (post.length + 1) := by have := congrArg List.length he; simpa using this
    have ho : ops[done.length]? = some o := by
      rw [← Array.getElem?_toList, he]; simp
    have hrd : done.length ∈ Region.ready .any ops listed := by
      refine mem_ready.2 ⟨hn _ (Nat.le_refl _) (by omega), o, ho, fun e he hb => ?_⟩
      have := (hp 0 o rfl).1 e.on (mem_deps.2 ⟨e, he, hb, rfl⟩)
      exact hl _ (by omega)
    refine ⟨fun q => (by rw [q] at hrd; cases hrd), fun i hi => ?_⟩
    obtain ⟨h1, oi, h2, h3⟩ := mem_ready.1 hi
    have hi' : i = done.length := by
      have hlt : i < ops.size := (Array.getElem?_eq_some_iff.1 h2).1
      rcases Nat.lt_trichotomy i done.length with q | q | q
      · have := hl i q
        simp only [Array.getD_eq_getD_getElem?] at h1 this
        cases hq : listed[i]? with
        | none => rw [hq] at this; simp at this
        | some b => rw [hq] at h1 this; simp only [Option.getD_some] at h1 this; rw [h1] at this; cases this
      · exact q
      · exfalso
        have h4 : (o :: post)[i - done.length]? = some oi := by
          rw [← Array.getElem?_toList, he, List.getElem?_append_right (by omega)] at h2; exact h2
        have h5 := (hp _ _ h4).2 (by omega)
        obtain ⟨e, he1, he2, he3⟩ := mem_deps.1 h5
        have h6 := h3 e he1 he2
        have h7 := hn e.on (by omega) (by omega)
        simp only [Array.getD_eq_getD_getElem?] at h6 h7
        cases hq : listed[e.on]? with
        | none => rw [hq] at h6; simp at h6
        | some b => rw [hq] at h6 h7; simp only [Option.getD_some] at h6 h7; rw [h6] at h7; cases h7
    subst hi'
    unfold wpOpIn
    simp only [ho]
    have key : ∀ a w, wpListIn (FR r) 0 P ops Q post a w → wpAnyIn (FR r) 0 P .any ops Q fuel (listed.setIfInBounds done.length true) a w := fun a w h => by
      refine any_post (pre := pre) (done := done ++ [o]) (by simpa using he) ?_ (by simp only [List.length_cons] at hf; omega) ?_ ?_ (by simpa using hsz) h
      · intro j u hu
        have := hp (j + 1) u (by simpa using hu)
        simp only [List.length_append, List.length_singleton]
        refine ⟨fun x hx => by have := this.1 x hx; omega, fun q => ?_⟩
        have := this.2 (by omega)
        rw [show done.length + 1 + j - 1 = done.length + (j + 1) - 1 by omega]
        exact this
      · intro i hi
        simp only [List.length_append, List.length_singleton] at hi
        by_cases q : i = done.length
        · subst q
          rw [Array.getD_eq_getD_getElem?, Array.getElem?_setIfInBounds, if_pos rfl, if_pos (by omega)]; rfl
        · have := hl i (by omega)
          simp only [Array.getD_eq_getD_getElem?] at this ⊢
          rw [Array.getElem?_setIfInBounds_ne (by omega)]; exact this
      · intro i hi hi2
        simp only [List.length_append, List.length_singleton] at hi
        have := hn i (by omega) hi2
        simp only [Array.getD_eq_getD_getElem?] at this ⊢
        rw [Array.getElem?_setIfInBounds_ne (by omega)]; exact this
    unfold wpListIn at h
    split
    · rename_i hw
      rw [if_pos hw] at h
      exact Oper.wpIn_mono key h
    · rename_i hw
      rw [if_neg hw] at h
      exact ⟨h.1, key _ _ h.2⟩
theorem any_pre {r : Option Nat} {pre post : List Oper} {S : World → Prop} (hq : NoOut Q) (hg : goB pre post = true) : ∀ {fuel : Nat} {lp listed : Array Bool} {a : Act} {w : World}, lp.size = pre.length → listed = lp ++ Array.replicate post.length false → (∀ i o, pre[i]? = some o → lp.getD i true = true → ∀ j ∈ deps o, lp.getD j false = true) →
    wpAnyH P .any pre.toArray (Exit.then (fun a w => wpListIn (FR r) 0 P (pre ++ post).toArray Q post a w) Q) S fuel lp a w → wpAnyIn (FR r) 0 P .any (pre ++ post).toArray Q (fuel + post.length) listed a w := by
  simp only [goB, Bool.and_eq_true] at hg
  obtain ⟨⟨⟨g1, g2⟩, g3⟩, g4⟩ := hg
  have k1 := sureB_spec g1
  have k2 := chainB_spec g2
  have hdf : ∀ {l : List Oper} {i : Nat} {o : Oper}, noDf l = true → l[i]? = some o → isDf o.op = false := by
    intro l
    induction l with
    | nil => intro i o _ h; simp at h
    | cons x l ih =>
      obtain ⟨d, op, ty, pos, after, g⟩ := x
      intro i o h1 h2
      simp only [noDf, Bool.and_eq_true, Bool.not_eq_true'] at h1
      cases i with
      | zero => simp only [List.getElem?_cons_zero, Option.some.injEq] at h2; subst h2; exact h1.1
      | succ i => exact ih h1.2 (by simpa using h2)
  intro fuel
  induction fuel with
  | zero =>
    intro lp listed a w hsz hl hc h
    obtain ⟨h1, h2⟩ := h
    have hall : ∀ i, i < pre.length → lp.getD i true = true := by
      intro i
      induction i using Nat.strongRecOn with
      | _ i ih =>
        intro hi
        cases hb : lp.getD i true with
        | true => rfl
        | false =>
          have ho : pre.toArray[i]? = some pre[i] := by simp [hi]
          have : i ∈ Region.ready .any pre.toArray lp := mem_ready.2 ⟨hb, _, ho, fun e he hb2 => by
            have h3 := (k1 i pre[i] (by simp [hi])).1 e.on (mem_deps.2 ⟨e, he, hb2, rfl⟩)
            have h4 := ih e.on (by omega) (by omega)
            have hlt : e.on < lp.size := by omega
            simp [hlt] at h4 ⊢; exact h4⟩
          rw [h1] at this; cases this
    refine any_post (pre := pre) (done := pre) (by simp) k2 (by omega) ?_ ?_ (by rw [hl]; simp [hsz]) h2
    · intro i hi
      have := hall i hi
      have hlt : i < lp.size := by omega
      rw [hl]
      simp [hlt, Array.getElem?_append] at this ⊢; exact this
    · intro i hi hi2
      rw [hl]
      simp at hi2
      have h5 : i - pre.length < post.length := by omega
      simp [Array.getElem?_append, hsz, show ¬ i < pre.length by omega, Array.getElem?_replicate, h5]
  | succ fuel ih =>
    intro lp listed a w hsz hl hc h
    obtain ⟨h1, h2⟩ := h
    rw [show fuel + 1 + post.length = (fuel + post.length) + 1 by omega]
    by_cases hall : ∀ i, i < pre.length → lp.getD i true = true
    · have hnil : Region.ready .any pre.toArray lp = [] := by
        rw [List.eq_nil_iff_forall_not_mem]
        intro i hi
        obtain ⟨h3, o, h4, _⟩ := mem_ready.1 hi
        have hlt : i < pre.length := by simpa using (Array.getElem?_eq_some_iff.1 h4).1
        rw [hall i hlt] at h3; cases h3
      refine any_post (pre := pre) (done := pre) (by simp) k2 (by omega) ?_ ?_ (by rw [hl]; simp [hsz]) (h1 hnil)
      · intro i hi
        have := hall i hi
        have hlt : i < lp.size := by omega
        rw [hl]
        simp [hlt, Array.getElem?_append] at this ⊢; exact this
      · intro i hi hi2
        rw [hl]
        simp at hi2
        have h5 : i - pre.length < post.length := by omega
        simp [Array.getElem?_append, hsz, show ¬ i < pre.length by omega, Array.getElem?_replicate, h5]
    · -- one of the first part may come up, and none of the last
      have hex : ∃ i, i < pre.length ∧ lp.getD i true = false ∧ ∀ j, j < i → lp.getD j true = true := by
        have : ∃ i, i < pre.length ∧ lp.getD i true = false := by
          apply Classical.byContradiction
          intro q
          refine hall fun i hi => ?_
          cases hb : lp.getD i true with
          | true => rfl
          | false => exact absurd ⟨i, hi, hb⟩ q
        obtain ⟨i, hi⟩ := this
        have : ∀ m i, i ≤ m → (i < pre.length ∧ lp.getD i true = false) → ∃ i, i < pre.length ∧ lp.getD i true = false ∧ ∀ j, j < i → lp.getD j true = true := by
          intro m
          induction m with
          | zero =>
            intro i hi h
            exact ⟨i, h.1, h.2, fun j hj => by omega⟩
          | succ m ihm =>
            intro i hi h
            by_cases q : ∀ j, j < i → lp.getD j true = true
            · exact ⟨i, h.1, h.2, q⟩
            · obtain ⟨j, hj⟩ := Classical.not_forall.1 q
              obtain ⟨hj1, hj2⟩ := Classical.not_imp.1 hj
              exact ihm j (by omega) ⟨by omega, by simpa using hj2⟩
        exact this i i (Nat.le_refl _) hi
      obtain ⟨i0, hi0, hb0, hlow⟩ := hex
      have hlisted : ∀ i, i < pre.length → ∀ b, listed.getD i b = lp.getD i b := by
        intro i hi b
        have hlt : i < lp.size := by omega
        rw [hl]
        simp [hlt, Array.getElem?_append]
      have hpost : ∀ i, pre.length ≤ i → ∀ b, listed.getD i b = true → b = true := by
        intro i hi b
        rw [hl]
        simp only [Array.getD_eq_getD_getElem?, Array.getElem?_append, hsz, if_neg (show ¬ i < pre.length by omega), Array.getElem?_replicate]
        split <;> simp
      have hr0 : i0 ∈ Region.ready .any (pre ++ post).toArray listed := by
        refine mem_ready.2 ⟨by rw [hlisted i0 hi0]; exact hb0, pre[i0], by simp [List.getElem?_append, hi0], fun e he hb2 => ?_⟩
        have h3 := (k1 i0 pre[i0] (by simp [hi0])).1 e.on (mem_deps.2 ⟨e, he, hb2, rfl⟩)
        have h4 := hlow e.on (by omega)
        rw [hlisted _ (by omega)]
        have hlt : e.on < lp.size := by omega
        simp [hlt] at h4 ⊢; exact h4
      refine ⟨fun q => (by rw [q] at hr0; cases hr0), fun i hi => ?_⟩
      obtain ⟨h3, o, h4, h5⟩ := mem_ready.1 hi
      have hi1 : i < pre.length := by
        apply Classical.byContradiction
        intro q
        have h6 : post[i - pre.length]? = some o := by
          have := h4
          simp only [List.getElem?_toArray, List.getElem?_append_right (show pre.length ≤ i by omega)] at this
          exact this
        have h7 := k2 _ _ h6
        by_cases q0 : i = pre.length
        · subst q0
          cases post with
          | nil => simp at h6
          | cons c post =>
            simp only [Nat.sub_self, List.getElem?_cons_zero, Option.some.injEq] at h6
            subst h6
            have h8 := reach_sub (ops := pre) (listed := fun j => lp.getD j false = true) (fun i o ho hli j hj => hc i o ho (by
              have hlt : i < pre.length := (List.getElem?_eq_some_iff.1 ho).1
              have hlt2 : i < lp.size := by omega
              simp [hlt2] at hli ⊢; exact hli) j hj) pre.length (deps c) (fun j hj => by
                obtain ⟨e, he1, he2, he3⟩ := mem_deps.1 hj
                have h9 := h5 e he1 he2
                have h10 := h7.1 j hj
                rw [he3] at h9
                rw [hlisted j (by omega)] at h9; exact h9)
            simp only [List.all_eq_true, List.mem_range, List.contains_eq_mem, decide_eq_true_eq] at g4
            have h9 := h8 i0 (g4 i0 hi0)
            have hlt2 : i0 < lp.size := by omega
            simp [hlt2] at h9 hb0
            rw [h9] at hb0; cases hb0
        · have h8 := h7.2 (by omega)
          obtain ⟨e, he1, he2, he3⟩ := mem_deps.1 h8
          have h9 := h5 e he1 he2
          have := hpost e.on (by omega) false h9
          cases this
      have ho : pre[i]? = some o := by
        have := h4
        simp only [List.getElem?_toArray, List.getElem?_append_left hi1] at this
        exact this
      have hrd : i ∈ Region.ready .any pre.toArray lp := mem_ready.2 ⟨by rw [← hlisted i hi1]; exact h3, o, by simpa using ho, fun e he hb2 => by
        have := h5 e he hb2
        have h6 := (k1 i o ho).1 e.on (mem_deps.2 ⟨e, he, hb2, rfl⟩)
        rw [hlisted _ (by omega)] at this; exact this⟩
      have h6 := h2 i hrd
      unfold wpOp at h6
      rw [show pre.toArray[i]? = some o by simpa using ho] at h6
      have hgd := (k1 i o ho).2
      have hw1 : ∀ ts, Region.wanted o ts = true := fun ts => by simp [Region.wanted, hgd]
      simp only [hw1, if_true] at h6
      unfold wpOpIn
      rw [h4]
      simp only [hw1, if_true]
      rcases h6 with h6 | ⟨_, h6⟩
      · refine oper_lift (hdf g3 ho) (wp_mono2 (fun a w h7 => ?_) (fun e a w he h7 => ?_) h6)
        · refine ih (by simpa using hsz) ?_ ?_ h7.2
          · rw [hl, Array.setIfInBounds_append_left (by omega)]
          · intro k u hu hk j hj
            have hkl : k < lp.size := by have := (List.getElem?_eq_some_iff.1 hu).1; omega
            by_cases q : k = i
            · subst q
              rw [ho] at hu
              simp only [Option.some.injEq] at hu
              subst hu
              obtain ⟨e, he1, he2, he3⟩ := mem_deps.1 hj
              have h8 := h5 e he1 he2
              have h9 := (k1 k o ho).1 j hj
              rw [he3] at h8
              rw [hlisted j (by omega)] at h8
              rw [Array.getD_eq_getD_getElem?, Array.getElem?_setIfInBounds_ne (by omega), ← Array.getD_eq_getD_getElem?]; exact h8
            · rw [Array.getD_eq_getD_getElem?, Array.getElem?_setIfInBounds_ne (by omega), ← Array.getD_eq_getD_getElem?] at hk
              have h8 := hc k u hu hk j hj
              by_cases q2 : j = i
              · subst q2
                rw [Array.getD_eq_getD_getElem?, Array.getElem?_setIfInBounds, if_pos rfl, if_pos (by omega)]; rfl
              · rw [Array.getD_eq_getD_getElem?, Array.getElem?_setIfInBounds_ne (by omega), ← Array.getD_eq_getD_getElem?]; exact h8
        · cases e <;> first | exact absurd rfl he | exact h7
      · exact absurd h6 (noOut_then hq)
/-- An order-free region whose last operations are a chain that begins with a call of yield. -/
theorem g_draw_w {id : Nat} {pre post : List Oper} (Hs : List SProp) (k : EnvOk P E := by refine inferInstance) (p : Parts Hs H H' := by with_reducible (repeat (first | refine Parts.nil | (apply Parts.cons; repeat (first | refine Take.here | apply Take.there))))) (hg : goB pre post = true := by refine rfl) (hq : NoOut Q := by with_reducible (repeat (first | assumption | refine noOut_post | refine noOut_postM | refine noOut_round | refine noOut_begin | apply noOut_then | apply noOut_block | apply noOut_scope)))
    (h : A P n w0 F0 pre Hs (Array.replicate pre.length false) (Exit.then (fun a w => wpListIn (FR none) 0 P (pre ++ post).toArray Q post a w) Q) tm D H) : G P n w0 F0 (.region id (pre ++ post).toArray true) Q tm D H := .mk fun a w s => by
  refine wpIn_wide (n := 0).1 (wpIn_region_any k.mixed ?_)
  have h1 := h pre.length (by
    simp only [unl, Array.toList_replicate]
    exact Nat.le_trans (List.length_filter_le _ _) (by simp)) a { w with drawn := w.drawn + 1 } ⟨s.tm, s.defers, s.inv.drew _⟩ (s.inv.has p)
  have h2 := any_pre hq hg (listed := Array.replicate pre.length false ++ Array.replicate post.length false) (by simp) rfl (fun i o ho hi => by
    have hlt : i < pre.length := (List.getElem?_eq_some_iff.1 ho).1
    simp [hlt] at hi) h1
  rw [Array.replicate_append_replicate] at h2
  rw [show (pre ++ post).toArray.size = pre.length + post.length by simp]
  exact h2
/-- The region's list, cut in two. -/
def splitO : Nat → List Oper → Option (List Oper × List Oper)
  | 0, l => some ([], l)
  | _ + 1, [] => none
  | m + 1, o :: l => match splitO m l with
    | some (a, b) => some (o :: a, b)
    | none => none
theorem splitO_eq : ∀ {m : Nat} {l a b : List Oper}, splitO m l = some (a, b) → l = a ++ b
  | 0, l, a, b, h => by simp only [splitO, Option.some.injEq, Prod.mk.injEq] at h; obtain ⟨rfl, rfl⟩ := h; rfl
  | m + 1, [], a, b, h => by simp [splitO] at h
  | m + 1, o :: l, a, b, h => by
    simp only [splitO] at h
    split at h
    · rename_i a' b' he
      simp only [Option.some.injEq, Prod.mk.injEq] at h
      obtain ⟨rfl, rfl⟩ := h
      rw [splitO_eq he]; rfl
    · cases h
theorem g_draw_at {id : Nat} {l : List Oper} (m : Nat) {pre post : List Oper} (Hs : List SProp) (e : splitO m l = some (pre, post) := by refine rfl) (k : EnvOk P E := by refine inferInstance) (p : Parts Hs H H' := by with_reducible (repeat (first | refine Parts.nil | (apply Parts.cons; repeat (first | refine Take.here | apply Take.there))))) (hg : goB pre post = true := by refine rfl) (hq : NoOut Q := by with_reducible (repeat (first | assumption | refine noOut_post | refine noOut_postM | refine noOut_round | refine noOut_begin | apply noOut_then | apply noOut_block | apply noOut_scope)))
    (h : A P n w0 F0 pre Hs (Array.replicate pre.length false) (Exit.then (fun a w => wpListIn (FR none) 0 P l.toArray Q post a w) Q) tm D H) : G P n w0 F0 (.region id l.toArray true) Q tm D H := by
  obtain rfl := splitO_eq e
  exact g_draw_w Hs k p hg hq h
/-! ### The first one that may come up and is no call of a function -/
def isCallF : Op → Bool
  | .call ⟨.value _, _, _⟩ => true
  | _ => false
def nextRV : List Oper → Nat → Array Bool → Option Nat
  | [], _, _ => none
  | ⟨_, op, _, _, after, _⟩ :: l, i, listed => bif !listed.getD i true && rdyB after.toList listed && !isCallF op then some i else nextRV l (i + 1) listed
theorem a_w {ops : List Oper} {Hs : List SProp} {listed : Array Bool} {i d : Nat} {op : Op} {v : Value} (hc : Calm Q := by with_reducible (repeat (first | assumption | refine calm_post | refine calm_postM | refine calm_round | apply calm_then | apply calm_block | apply calm_scope))) (hs : noSel ops = true := by refine rfl) (hi : nextRV ops 0 listed = some i := by refine rfl) (ho : nth ops i = some ⟨some d, op, ty, pos, after, none⟩ := by refine rfl) (hd : Nat.blt d n = true := by refine rfl)
    (hy : V P n tm op v := by first | refine v_pure | refine v_index | refine v_shl | refine v_shr | refine v_rem | refine v_quo | refine v_indexAddr | refine v_slice | refine v_slice_str | refine v_slice_any | refine v_sliceData) (hf : freeL ops.toArray i ⟨some d, op, ty, pos, after, none⟩ listed ops 0 = true := by refine rfl) (hl : listed.getD i true = false := by refine rfl) (hr : rdyB after.toList listed = true := by refine rfl)
    {ll : List Bool} (hn : copyB (listed.setIfInBounds i true).toList = some ll := by refine rfl) (h : A P n w0 F0 ops Hs ll.toArray Q ((d, v) :: tm) D H) : A P n w0 F0 ops Hs listed Q tm D H :=
  a_y hc hs ho hd hf hl hr (fun _ _ => .inl ⟨rfl, hy⟩) (by rw [copyB_arr hn]; exact h)
end
end Go.Proofs.YtpbibhhjbigdhaaGreat.SL
/- The document's own pages: numbers, sums, pages, heads as bytes. What they are does not matter: how long they are does. -/
set_option maxRecDepth 20000
set_option linter.unusedVariables false
set_option linter.unusedSimpArgs false
namespace Go.Proofs.YtpbibhhjbigdhaaGreat
open Go.Proofs.YtpbibhhjbigdhaaGreat.SL

theorem u8_of {n : Int} : Value.int IntKind.u8 (IntKind.u8.wrap n) = .int .u8 ((UInt8.ofNat (IntKind.u8.wrap n).toNat).toNat : Int) := by
  have h : 0 ≤ IntKind.u8.wrap n ∧ IntKind.u8.wrap n < 256 := by rw [IntKind.wrap_u8]; omega
  congr 1
  simp; omega
theorem bsV2 {a b : Int} : [Value.int IntKind.u8 (IntKind.u8.wrap a), .int .u8 (IntKind.u8.wrap b)] = bsV [UInt8.ofNat (IntKind.u8.wrap a).toNat, UInt8.ofNat (IntKind.u8.wrap b).toNat] := by rw [u8_of, u8_of]; rfl
theorem bsV4 {a b c d : Int} : [Value.int IntKind.u8 (IntKind.u8.wrap a), .int .u8 (IntKind.u8.wrap b), .int .u8 (IntKind.u8.wrap c), .int .u8 (IntKind.u8.wrap d)] = bsV [UInt8.ofNat (IntKind.u8.wrap a).toNat, UInt8.ofNat (IntKind.u8.wrap b).toNat, UInt8.ofNat (IntKind.u8.wrap c).toNat, UInt8.ofNat (IntKind.u8.wrap d).toNat] := by rw [u8_of, u8_of, u8_of, u8_of]; rfl
theorem bsV0 {k : Nat} : List.replicate k (Value.int IntKind.u8 0) = bsV (List.replicate k 0) := by unfold bsV; rw [List.map_replicate]; rfl

theorem rFour_does (n : Int) : Does Tryz.prog 118 [.int .u32 n] [] (fun v H => ∃ s : List UInt8, s.length = 4 ∧ v = .string (str s) ∧ H = []) := by
  refine does_of Tryz.func118 Tryz.ntmps118 rfl rfl rfl (fun w0 F0 => ?_)
  (repeat (first | refine g_seq (h := ?_) | refine g_region (h := ?_) | refine l_nil (h := ?_) | refine n_then (h := ?_) | refine l_pures1 (h := ?_) | refine l_shr (h := ?_) | (refine l_buildSlice4 (h := ?_); intro _)))
  rw [bsV4]
  (repeat (first | refine l_nil (h := ?_) | refine n_then (h := ?_) | refine l_pures1 (h := ?_) | refine l_str_bs (h := ?_) | refine g_ret (h := ?_)))
  refine r_retk [] ?_
  exact ⟨_, by simp, rfl, rfl⟩

theorem rSum_does (l : List UInt8) (hl : l.length < 9223372036854775808) : Does Tryz.prog 119 [.string (str l)] [] (fun v H => ∃ n, v = .int .u32 n ∧ H = []) := by
  refine does_of Tryz.func119 Tryz.ntmps119 rfl rfl rfl (fun w0 F0 => ?_)
  (repeat (first | refine g_seq (h := ?_) | refine g_region (h := ?_) | refine l_nil (h := ?_) | refine n_then (h := ?_) | refine l_pures1 (h := ?_) | refine g_block (h := ?_)))
  (refine g_loop (fun k : Nat × Int × Int => [(5, .int .i64 k.1), (4, .int .i64 k.2.1), (3, .int .i64 k.2.2), (0, .string (str l))]) (fun _ => []) (fun k => k.1 ≤ l.length) (fun k => l.length - k.1) ((0, 0, 1)) ?_ ?_ ?_ ?_; rotate_left; (repeat (first | refine ts_nil | (refine ts_cons rfl ?_ ?_; first | (with_reducible rfl) | rotate_left))); (first | (intro _ i; with_reducible refine i) | rotate_left); rotate_left; (try omega); rotate_right)
  · rintro ⟨k, a, b⟩ hk
    dsimp only at hk ⊢
    (repeat' (first | refine g_seq (h := ?_) | refine g_region (h := ?_) | refine l_nil (h := ?_) | refine n_then (h := ?_) | refine l_pures1 (h := ?_) | refine l_index (h := ?_) | refine l_shl (h := ?_) | refine g_skip (h := ?_) | refine g_ret (h := ?_) | refine g_block (h := ?_) | refine g_exit (h := ?_) | refine n_then_exit (h := ?_) | refine n_block_hit (h := ?_) | refine n_block (h := ?_) | (refine g_sp (h1 := ?_) (h0 := ?_) <;> intro h)))
    · (refine n_back ((k + 1, (IntKind.i64.wrap (a + (IntKind.i64.wrap (b + IntKind.i64.wrap (byteAt l k))).tmod 65521)).tmod 65521, (IntKind.i64.wrap (b + IntKind.i64.wrap (byteAt l k))).tmod 65521)) ?_ ?_ ?_ ?_; rotate_left; rotate_left; (repeat (first | refine ts_nil | (refine ts_cons rfl ?_ ?_; first | (with_reducible rfl) | rotate_left))); (first | (intro _ i; with_reducible refine i) | rotate_left); (try omega); (try omega))
      rw [wrapI64 (by omega)]; rfl
    · refine r_retk [] ?_
      exact ⟨_, rfl, rfl⟩
  all_goals rfl

theorem rSeal_does (kind : Int) (t : List UInt8) (hk : 1 ≤ kind ∧ kind ≤ 15) (ht : t.length ≤ 240) : Does Tryz.prog 94 [.int .i64 kind, .string (str t)] [] (fun v H => ∃ s : List UInt8, s.length = 256 ∧ v = .tuple #[.string (str s), .bool true] ∧ H = []) := by
  refine does_of Tryz.func94 Tryz.ntmps94 rfl rfl rfl (fun w0 F0 => ?_)
  (repeat' (first | refine g_seq (h := ?_) | refine g_region (h := ?_) | refine l_nil (h := ?_) | refine n_then (h := ?_) | refine l_pures1 (h := ?_) | refine l_guard_yes (h := ?_) | refine g_skip (h := ?_) | (refine l_buildSlice2 (h := ?_); intro _) | (refine l_spF (h := ?_); intro h) | (refine g_spF (h := ?_); intro h)))
  rw [bsV2]
  (repeat (first | refine g_seq (h := ?_) | refine g_region (h := ?_) | refine l_nil (h := ?_) | refine n_then (h := ?_) | refine l_pures1 (h := ?_) | refine l_concat (h := ?_) | refine l_str_bs (h := ?_)))
  have e : IntKind.i64.wrap (252 - ((List.take 2 (List.drop 0 [UInt8.ofNat (IntKind.u8.wrap kind).toNat, UInt8.ofNat (IntKind.u8.wrap t.length).toNat]) ++ t).length : Int)) = 250 - t.length := by simp; rw [wrapI64 (by omega)]; omega
  rw [e]
  (repeat (refine l_makeSlice (h := ?_); intro _))
  rw [bsV0]
  (repeat refine l_str_bs (h := ?_))
  obtain ⟨s1, hs1⟩ : ∃ s1 : List UInt8, s1 = (List.take 2 (List.drop 0 [UInt8.ofNat (IntKind.u8.wrap kind).toNat, UInt8.ofNat (IntKind.u8.wrap t.length).toNat]) ++ t) := ⟨_, rfl⟩
  rw [← hs1]
  obtain ⟨s2, hs2⟩ : ∃ s2 : List UInt8, s2 = (List.take (250 - (t.length : Int)).toNat (List.drop 0 (List.replicate (250 - (t.length : Int)).toNat 0))) := ⟨_, rfl⟩
  rw [← hs2]
  have l1 : s1.length = t.length + 2 := by rw [hs1]; simp
  have l2 : s2.length = 250 - t.length := by rw [hs2]; simp
  have l3 : (s1 ++ s2).length = 252 := by rw [List.length_append]; omega
  have hS := rSum_does (s1 ++ s2) (by omega)
  (repeat (first | refine g_seq (h := ?_) | refine g_region (h := ?_) | refine l_nil (h := ?_) | refine n_then (h := ?_) | refine l_pures1 (h := ?_) | (refine l_atc ?_; refine l_call_ (hS) ?_; rintro _ _ _ ⟨n, rfl, rfl⟩ he; cases he) | (refine l_atc ?_; refine l_call_ (rFour_does _) ?_; rintro _ _ _ ⟨s4, hs4, rfl, rfl⟩ he; cases he) | refine l_concat (h := ?_) | refine g_ret (h := ?_)))
  refine r_retk [] ?_
  exact ⟨_, by simp only [List.length_append]; omega, rfl, rfl⟩

theorem rPut6_does : Does Tryz.prog 96 [.int .u64 1, .int .i64 6] [] (fun v H => ∃ s : List UInt8, s.length = 6 ∧ v = .tuple #[.string (str s), .bool true] ∧ H = []) := by
  have e1 : IntKind.i64.wrap (8 * 6) = 48 := by decide
  refine does_of Tryz.func96 Tryz.ntmps96 rfl rfl rfl (fun w0 F0 => ?_)
  (repeat' (first | refine g_seq (h := ?_) | refine g_region (h := ?_) | refine l_nil (h := ?_) | refine n_then (h := ?_) | refine l_pures1 (h := ?_) | refine l_guard_yes (h := ?_) | (refine l_makeSlice (h := ?_); intro _) | refine l_shr (h := ?_) | refine g_skip (h := ?_) | refine g_block (h := ?_) | refine g_cond_f (h := ?_)))
  rw [e1]
  (repeat' fail)
  rename_i b
  rw [bsV0]
  (refine g_loop (fun x : Nat × Int × List UInt8 => [(7, .int .i64 ((x.1 : Int) - 1)), (6, .slice (some ⟨b, 0, none⟩) (Int.toNat 6) (Int.toNat 6)), (0, .int .u64 x.2.1)]) (fun x => [cl b 5 (bsV x.2.2)]) (fun x => x.2.2.length = 6 ∧ x.1 ≤ 6) (fun x => x.1) ((6, 1, List.replicate (Int.toNat 6) 0)) ?_ ?_ ?_ ?_; rotate_left; (repeat (first | refine ts_nil | (refine ts_cons rfl ?_ ?_; first | (with_reducible rfl) | rotate_left))); (first | (intro _ i; with_reducible refine i) | rotate_left); rotate_left; (try omega); rotate_right)
  · rintro ⟨j, m, s⟩ ⟨hs, hj⟩
    dsimp only at hs hj ⊢
    (repeat' (first | refine g_seq (h := ?_) | refine g_region (h := ?_) | refine l_nil (h := ?_) | refine n_then (h := ?_) | refine l_pures1 (h := ?_) | refine l_store_at (h := ?_) | refine l_indexAddr (h := ?_) | refine l_shr (h := ?_) | refine l_str_bs (h := ?_) | refine g_skip (h := ?_) | refine g_ret (h := ?_) | refine g_block (h := ?_) | refine g_exit (h := ?_) | refine n_then_exit (h := ?_) | refine n_block_hit (h := ?_) | refine n_block (h := ?_) | (refine g_sp (h1 := ?_) (h0 := ?_) <;> intro h)))
    · obtain ⟨j, rfl⟩ : ∃ i, j = i + 1 := ⟨j - 1, by omega⟩
      rw [bsV_set (by rw [IntKind.wrap_u8]; omega)]
      (refine n_back ((j, m.fdiv (2 ^ min (Int.toNat 8) IntKind.u64.bits), s.set (0 + (((j + 1 : Nat) : Int) - 1).toNat * 1) (UInt8.ofNat (IntKind.u8.wrap m).toNat))) ?_ ?_ ?_ ?_; rotate_left; rotate_left; (repeat (first | refine ts_nil | (refine ts_cons rfl ?_ ?_; first | (with_reducible rfl) | rotate_left))); (first | (intro _ i; with_reducible refine i) | rotate_left); (try omega); (try omega))
      · exact ⟨by simpa using hs, by omega⟩
      · dsimp only; omega
      · rw [wrapI64 (by omega)]; congr 1; dsimp only; omega
    · skip
      (repeat fail)
      refine r_retk [] ?_
      exact ⟨_, by simp [hs], rfl, rfl⟩
  all_goals first | rfl | exact ⟨rfl, Nat.le_refl _⟩
theorem rPut2_does : Does Tryz.prog 96 [.int .u64 0, .int .i64 2] [] (fun v H => ∃ s : List UInt8, s.length = 2 ∧ v = .tuple #[.string (str s), .bool true] ∧ H = []) := by
  have e1 : IntKind.i64.wrap (8 * 2) = 16 := by decide
  refine does_of Tryz.func96 Tryz.ntmps96 rfl rfl rfl (fun w0 F0 => ?_)
  (repeat' (first | refine g_seq (h := ?_) | refine g_region (h := ?_) | refine l_nil (h := ?_) | refine n_then (h := ?_) | refine l_pures1 (h := ?_) | refine l_guard_yes (h := ?_) | (refine l_makeSlice (h := ?_); intro _) | refine l_shr (h := ?_) | refine g_skip (h := ?_) | refine g_block (h := ?_) | refine g_cond_f (h := ?_)))
  rw [e1]
  (repeat' fail)
  rename_i b
  rw [bsV0]
  (refine g_loop (fun x : Nat × Int × List UInt8 => [(7, .int .i64 ((x.1 : Int) - 1)), (6, .slice (some ⟨b, 0, none⟩) (Int.toNat 2) (Int.toNat 2)), (0, .int .u64 x.2.1)]) (fun x => [cl b 5 (bsV x.2.2)]) (fun x => x.2.2.length = 2 ∧ x.1 ≤ 2) (fun x => x.1) ((2, 0, List.replicate (Int.toNat 2) 0)) ?_ ?_ ?_ ?_; rotate_left; (repeat (first | refine ts_nil | (refine ts_cons rfl ?_ ?_; first | (with_reducible rfl) | rotate_left))); (first | (intro _ i; with_reducible refine i) | rotate_left); rotate_left; (try omega); rotate_right)
  · rintro ⟨j, m, s⟩ ⟨hs, hj⟩
    dsimp only at hs hj ⊢
    (repeat' (first | refine g_seq (h := ?_) | refine g_region (h := ?_) | refine l_nil (h := ?_) | refine n_then (h := ?_) | refine l_pures1 (h := ?_) | refine l_store_at (h := ?_) | refine l_indexAddr (h := ?_) | refine l_shr (h := ?_) | refine l_str_bs (h := ?_) | refine g_skip (h := ?_) | refine g_ret (h := ?_) | refine g_block (h := ?_) | refine g_exit (h := ?_) | refine n_then_exit (h := ?_) | refine n_block_hit (h := ?_) | refine n_block (h := ?_) | (refine g_sp (h1 := ?_) (h0 := ?_) <;> intro h)))
    · obtain ⟨j, rfl⟩ : ∃ i, j = i + 1 := ⟨j - 1, by omega⟩
      rw [bsV_set (by rw [IntKind.wrap_u8]; omega)]
      (refine n_back ((j, m.fdiv (2 ^ min (Int.toNat 8) IntKind.u64.bits), s.set (0 + (((j + 1 : Nat) : Int) - 1).toNat * 1) (UInt8.ofNat (IntKind.u8.wrap m).toNat))) ?_ ?_ ?_ ?_; rotate_left; rotate_left; (repeat (first | refine ts_nil | (refine ts_cons rfl ?_ ?_; first | (with_reducible rfl) | rotate_left))); (first | (intro _ i; with_reducible refine i) | rotate_left); (try omega); (try omega))
      · exact ⟨by simpa using hs, by omega⟩
      · dsimp only; omega
      · rw [wrapI64 (by omega)]; congr 1; dsimp only; omega
    · skip
      (repeat fail)
      refine r_retk [] ?_
      exact ⟨_, by simp [hs], rfl, rfl⟩
  all_goals first | rfl | exact ⟨rfl, Nat.le_refl _⟩
theorem rNew8_does : Does Tryz.prog 97 [.int .i64 640] [] (fun v H => ∃ s : List UInt8, s.length = 80 ∧ v = .string (str s) ∧ H = []) := by
  have e : (IntKind.i64.wrap ((IntKind.i64.wrap ((bif false then mxI (bif true then mxI 640 0 else mnI 640 0) 100000 else mnI (bif true then mxI 640 0 else mnI 640 0) 100000) + 7)).tdiv 8)) = 80 := by decide
  refine does_of Tryz.func97 Tryz.ntmps97 rfl rfl rfl (fun w0 F0 => ?_)
  (repeat (first | refine g_seq (h := ?_) | refine g_region (h := ?_) | refine l_nil (h := ?_) | refine n_then (h := ?_) | refine l_pures1 (h := ?_) | (refine l_makeSlice (h := ?_); intro _)))
  rw [e]
  (repeat fail)
  rw [bsV0]
  (repeat (first | refine l_nil (h := ?_) | refine n_then (h := ?_) | refine l_pures1 (h := ?_) | refine l_str_bs (h := ?_) | refine g_ret (h := ?_)))
  refine r_retk [] ?_
  exact ⟨_, by simp, rfl, rfl⟩
theorem rEmpty_does : Does Tryz.prog 63 [] [] (fun v H => ∃ s : List UInt8, s.length = 80 ∧ v = .string (str s) ∧ H = []) := by
  refine does_of Tryz.func63 Tryz.ntmps63 rfl rfl rfl (fun w0 F0 => ?_)
  (repeat (first | refine g_seq (h := ?_) | refine g_region (h := ?_) | refine l_nil (h := ?_) | refine n_then (h := ?_) | refine l_pures1 (h := ?_) | (refine l_atc ?_; refine l_call_ (rNew8_does) ?_; rintro _ _ _ ⟨s, hs, rfl, rfl⟩ he; cases he) | refine g_ret (h := ?_)))
  refine r_retk [] ?_
  exact ⟨s, hs, rfl, rfl⟩
theorem rText_does (s : List UInt8) (hs : s.length = 80) : Does Tryz.prog 62 [.int .i64 1, .int .i64 0, .string (str s)] [] (fun v H => ∃ s : List UInt8, s.length = 88 ∧ v = .string (str s) ∧ H = []) := by
  have e1 : IntKind.u64.wrap 1 = 1 := by decide
  have e0 : IntKind.u64.wrap 0 = 0 := by decide
  refine does_of Tryz.func62 Tryz.ntmps62 rfl rfl rfl (fun w0 F0 => ?_)
  (repeat (first | refine g_seq (h := ?_) | refine g_region (h := ?_) | refine l_nil (h := ?_) | refine n_then (h := ?_) | refine l_pures1 (h := ?_)))
  rw [e1]
  (repeat (first | refine g_seq (h := ?_) | refine g_region (h := ?_) | refine l_nil (h := ?_) | refine n_then (h := ?_) | refine l_pures1 (h := ?_) | (refine l_atc ?_; refine l_call_ (rPut6_does) ?_; rintro _ _ _ ⟨s1, h1, rfl, rfl⟩ he; cases he)))
  rw [e0]
  (repeat (first | refine g_seq (h := ?_) | refine g_region (h := ?_) | refine l_nil (h := ?_) | refine n_then (h := ?_) | refine l_pures1 (h := ?_) | (refine l_atc ?_; refine l_call_ (rPut2_does) ?_; rintro _ _ _ ⟨s2, h2, rfl, rfl⟩ he; cases he) | refine l_concat (h := ?_) | refine g_ret (h := ?_)))
  refine r_retk [] ?_
  exact ⟨_, by simp only [List.length_append]; omega, rfl, rfl⟩
end Go.Proofs.YtpbibhhjbigdhaaGreat
/- The document's own disk and store: a new one, formatted. -/
set_option maxRecDepth 20000
set_option linter.unusedVariables false
set_option linter.unusedSimpArgs false
namespace Go.Proofs.YtpbibhhjbigdhaaGreat
open Go.Proofs.YtpbibhhjbigdhaaGreat.SL

/-- A disk of the document's: so many sectors, none loose, up. -/
abbrev RdK (b n : Nat) (x : Option Addr × Nat × List (List UInt8)) : List SProp := [cl b 175 [.slice x.1 n x.2.1, .slice none 0 0, .int .i64 (-1), .bool false], vec 9 1 x.1 n x.2.1 (x.2.2.map encS)]
def Rd (b n : Nat) : SProp := hid (fun x : Option Addr × Nat × List (List UInt8) => x.2.2.length = n) (RdK b n)
theorem map_snoc_s {l : List (List UInt8)} {s : List UInt8} : l.map encS ++ [Value.string (str s)] = (l ++ [s]).map encS := by simp [encS]

set_option maxHeartbeats 1000000 in
theorem rNew6_does (n : Nat) (hn : 8 ≤ n ∧ n ≤ 640) : Does Tryz.prog 60 [.int .i64 n] [] (fun v H => ∃ b, v = .pointer (some ⟨b, 0, none⟩) ∧ H = [Rd b n]) := by
  refine does_of Tryz.func60 Tryz.ntmps60 rfl rfl rfl (fun w0 F0 => ?_)
  (repeat' (first | refine g_seq (h := ?_) | refine g_region (h := ?_) | refine l_nil (h := ?_) | refine n_then (h := ?_) | refine l_pures1 (h := ?_) | refine l_guard_yes (h := ?_) | (refine l_box (h := ?_); intro _) | refine g_skip (h := ?_) | refine g_block (h := ?_) | (refine l_spF (h := ?_); intro h) | (refine g_spF (h := ?_); intro h)))
  rename_i b
  refine g_inv (fun i => vec_nil (9) (1) i) ?_
  refine g_inv (H' := [vec 9 1 none 0 0 (([] : List (List UInt8)).map encS), cl b 175 [.slice none 0 0, .slice none 0 0, .int .i64 (-1), .bool false]]) (fun i => i) ?_
  (refine g_loop (fun x : Nat × Option Addr × Nat × List (List UInt8) => [(4, .int .i64 x.1), (3, .pointer (some ⟨b, 0, none⟩)), (0, .int .i64 n)]) (fun x => RdK b x.1 x.2) (fun x => x.1 ≤ n ∧ x.2.2.2.length = x.1) (fun x => n - x.1) ((0, none, 0, [])) ?_ ?_ ?_ ?_; rotate_left; (repeat (first | refine ts_nil | (refine ts_cons rfl ?_ ?_; first | (with_reducible rfl) | rotate_left))); (first | (intro _ i; with_reducible refine i) | rotate_left); rotate_left; (try omega); rotate_right)
  · rintro ⟨j, p, cap, xs⟩ ⟨hj, hxs⟩
    dsimp only at hj hxs ⊢
    (repeat' (first | refine g_seq (h := ?_) | refine g_region (h := ?_) | refine l_nil (h := ?_) | refine n_then (h := ?_) | refine l_pures1 (h := ?_) | refine g_skip (h := ?_) | refine g_ret (h := ?_) | refine g_block (h := ?_) | refine g_exit (h := ?_) | refine n_then_exit (h := ?_) | refine n_block_hit (h := ?_) | (refine g_sp (h1 := ?_) (h0 := ?_) <;> intro h)))
    · (refine g_draw [] (h := a_pass2 (h := ?_)))
      (repeat' (first | refine l_nil (h := ?_) | refine l_load (h := ?_) | (refine l_makeSlice (h := ?_); intro _) | refine a_one (h := ?_) | refine n_any (h := a_pass2 (h := ?_)) | refine a_fork2 (h1 := ?_) (h2 := ?_) | refine a1_of (h := ?_)))
      all_goals rw [bsV0]
      (repeat' (first | refine g_region (h := ?_) | refine l_nil (h := ?_) | refine n_then (h := ?_) | refine l_pures1 (h := ?_) | refine l_load (h := ?_) | refine l_store (h := ?_) | refine l_str_bs (h := ?_) | (refine l_buildSlice1 (h := ?_); intro _) | (refine l_append_new (h := ?_); intro _ _) | refine a_done (h := ?_) | refine a_one (h := ?_) | refine n_any (h := a_pass2 (h := ?_)) | refine n_block (h := ?_) | refine a_fork2 (h1 := ?_) (h2 := ?_) | refine a1_of (h := ?_)))
      all_goals rename_i p' cap'
      all_goals rw [map_snoc_s]
      all_goals
        (refine n_back ((j + 1, p', cap', xs ++ [List.take (Int.toNat 256) (List.drop 0 (List.replicate (Int.toNat 256) 0))])) ?_ ?_ ?_ ?_; rotate_left; rotate_left; (repeat (first | refine ts_nil | (refine ts_cons rfl ?_ ?_; first | (with_reducible rfl) | rotate_left))); (first | (intro _ i; with_reducible refine i) | rotate_left); (try omega); (try omega))
      all_goals first | exact ⟨by dsimp only; omega, by simp [hxs]⟩ | (dsimp only; omega) | (rw [wrapI64 (by omega)]; rfl) | (intro _ i; exact inv_keep parts_of i)
    · obtain rfl : j = n := by omega
      (refine n_shut (A := Rd b j) (K := RdK b j ((p, cap, xs))) (hid_shuts ((p, cap, xs)) hxs) (h := ?_) (p := by dsimp only [RdK]; (try simp only [List.map_nil, List.length_nil, List.length_set, List.length_append, List.length_cons, List.length_singleton, List.map_append, List.map_cons, Nat.zero_add]); exact parts_of))
      refine r_retk [Rd b j] ?_
      exact ⟨b, rfl, rfl⟩
  · exact ⟨Nat.zero_le _, rfl⟩
  · rfl
  · intro _ i; exact inv_keep parts_of i

theorem encS_get' {l : List (List UInt8)} {j : Nat} (h : j < l.length) : (l.map encS)[j]? = some (encS (l.getD j [])) := by
  rw [List.getElem?_map, List.getD, List.getElem?_eq_getElem h]; rfl
theorem set_enc {l : List (List UInt8)} {s : List UInt8} : (l.map encS).set (0 + Int.toNat 1 * 1) (Value.string (str s)) = (l.set 1 s).map encS := by rw [List.map_set]; rfl
/-- A disk of which something is loose. -/
abbrev RlK (b n : Nat) (x : (Option Addr × Nat × List (List UInt8)) × Option Addr × Nat × Nat) : List SProp := [cl b 175 [.slice x.1.1 n x.1.2.1, .slice x.2.1 x.2.2.1 x.2.2.2, .int .i64 (-1), .bool false], vec 9 1 x.1.1 n x.1.2.1 (x.1.2.2.map encS)]
def Rl (b n : Nat) : SProp := hid (fun x : (Option Addr × Nat × List (List UInt8)) × Option Addr × Nat × Nat => x.1.2.2.length = n) (RlK b n)

set_option maxHeartbeats 1000000 in
theorem rWrite6_does (b n : Nat) (s : List UInt8) (hn : 8 ≤ n ∧ n ≤ 640) (hs : s.length = 256) : Does Tryz.prog 95 [.pointer (some ⟨b, 0, none⟩), .int .i64 1, .string (str s)] [Rd b n] (fun v H => v = .int .i64 0 ∧ H = [Rl b n]) := by
  refine does_of Tryz.func95 Tryz.ntmps95 rfl rfl rfl (fun w0 F0 => ?_)
  refine g_open (A := Rd b n) (h := ?_); (rintro ⟨p, cap, xs⟩ hxs; dsimp only [RdK, List.cons_append, List.nil_append])
  dsimp only at hxs
  (repeat' (first | refine g_seq (h := ?_) | refine g_region (h := ?_) | refine l_nil (h := ?_) | refine n_then (h := ?_) | refine l_pures1 (h := ?_) | refine l_guard_yes (h := ?_) | refine l_load (h := ?_) | refine g_skip (h := ?_) | refine g_block (h := ?_) | refine n_block (h := ?_) | refine g_cond_f (h := ?_) | (refine l_spF (h := ?_); intro h) | (refine g_spF (h := ?_); intro h)))
  (refine g_loop (fun x : Nat => [(8, .int .i64 0), (7, .bool false), (0, .pointer (some ⟨b, 0, none⟩)), (1, .int .i64 1), (2, .string (str s))]) (fun x => RdK b n (p, cap, xs)) (fun x => True) (fun x => 0) (0) ?_ ?_ ?_ ?_; rotate_left; (repeat (first | refine ts_nil | (refine ts_cons rfl ?_ ?_; first | (with_reducible rfl) | rotate_left))); (first | (intro _ i; with_reducible refine i) | rotate_left); rotate_left; (try omega); rotate_right)
  · rintro _ _
    (repeat' (first | refine g_seq (h := ?_) | refine g_region (h := ?_) | refine l_nil (h := ?_) | refine n_then (h := ?_) | refine l_pures1 (h := ?_) | refine l_load (h := ?_) | refine g_exit (h := ?_) | refine n_then_exit (h := ?_) | refine n_block_hit (h := ?_) | refine g_cond_t (h := ?_) | refine g_cond_f (h := ?_)))
    refine g_inv (H' := RdK b n (p, cap, xs)) (fun i => i) ?_
    dsimp only [RdK]
    refine g_ptr (m := n) (h := ?_); rintro g rfl hc
    have hg : (xs.map encS)[0 + Int.toNat 1 * 1]? = some (encS (xs.getD 1 [])) := encS_get' (j := 1) (by omega)
    refine g_inv (fun i => vec_nil (205) (2) i) ?_
    (refine g_draw_at 29 [cl b 175 [.slice (some ⟨g, 0, none⟩) n cap, .slice none 0 0, .int .i64 (-1), .bool false], vec 9 1 (some ⟨g, 0, none⟩) n cap (xs.map encS)] (h := a_pass2 (h := ?_)))
    (repeat' (first | refine g_seq (h := ?_) | refine g_region (h := ?_) | refine l_nil (h := ?_) | refine n_then (h := ?_) | refine l_pures1 (h := ?_) | refine l_load (h := ?_) | refine l_store (h := ?_) | refine l_indexAddr (h := ?_) | (refine l_buildSlice1 (h := ?_); intro _) | (refine l_append_new (h := ?_); intro _ _) | refine g_ret (h := ?_) | refine a_done (h := ?_) | refine a_load (h := a_pass2 (h := ?_)) | refine a_one (h := ?_) | refine n_any (h := a_pass2 (h := ?_)) | refine l_load_vec (h := ?_) | refine l_store_vec (h := ?_) | refine a_load_vec (h := a_pass2 (h := ?_)) | refine l_slice3n (h := ?_) | refine n_lw (h := ?_) | refine lw_nil (h := ?_) | refine lw_step (h := ?_) | refine a_fork2 (h1 := ?_) (h2 := ?_) | refine a1_of (h := ?_)))
    all_goals rename_i p' cap'
    all_goals rw [set_enc]
    all_goals
      (refine n_shut (A := Rl b n) (K := RlK b n ((((some (⟨g, 0, none⟩ : Addr), cap, xs.set 1 s), (p', 0 + 1, cap')) : (Option Addr × Nat × List (List UInt8)) × Option Addr × Nat × Nat))) (hid_shuts ((((some (⟨g, 0, none⟩ : Addr), cap, xs.set 1 s), (p', 0 + 1, cap')) : (Option Addr × Nat × List (List UInt8)) × Option Addr × Nat × Nat)) (by simp [hxs])) (h := ?_) (p := by dsimp only [RlK]; (try simp only [List.map_nil, List.length_nil, List.length_set, List.length_append, List.length_cons, List.length_singleton, List.map_append, List.map_cons, Nat.zero_add]); exact parts_of))
    all_goals
      refine r_retk [Rl b n] ?_
    all_goals exact ⟨rfl, rfl⟩
  all_goals first | trivial | rfl
theorem rSync6_does (b n : Nat) : Does Tryz.prog 64 [.pointer (some ⟨b, 0, none⟩)] [Rl b n] (fun v H => v = .int .i64 0 ∧ H = []) := by
  refine does_of Tryz.func64 Tryz.ntmps64 rfl rfl rfl (fun w0 F0 => ?_)
  refine g_open (A := Rl b n) (h := ?_); (rintro ⟨⟨p, cap, xs⟩, p', m, cap'⟩ hxs; dsimp only [RlK, List.cons_append, List.nil_append])
  (repeat' (first | refine g_seq (h := ?_) | refine g_region (h := ?_) | refine l_nil (h := ?_) | refine n_then (h := ?_) | refine l_pures1 (h := ?_) | refine l_load (h := ?_) | refine l_store (h := ?_) | refine g_skip (h := ?_) | refine g_ret (h := ?_) | refine g_cond_f (h := ?_)))
  refine r_retk [] ?_
  exact ⟨rfl, rfl⟩
theorem rWrite7_does (b n : Nat) (s : List UInt8) (hn : 8 ≤ n ∧ n ≤ 640) (hs : s.length = 88) : Does Tryz.prog 61 [.pointer (some ⟨b, 0, none⟩), .int .i64 1, .int .i64 1, .string (str s)] [Rd b n] (fun v H => v = .int .i64 0 ∧ H = [Rl b n]) := by
  have h1 := rSeal_does 1 s (by omega) (by omega)
  have h2 := fun s hs => rWrite6_does b n s hn hs
  refine does_of Tryz.func61 Tryz.ntmps61 rfl rfl rfl (fun w0 F0 => ?_)
  (repeat (first | refine g_seq (h := ?_) | refine g_region (h := ?_) | refine l_nil (h := ?_) | refine n_then (h := ?_) | refine l_pures1 (h := ?_) | (refine l_atc ?_; refine l_call_ (h1) ?_; rintro _ _ _ ⟨s', hs', rfl, rfl⟩ he; cases he) | (refine l_atc ?_; refine l_call (h2 _ hs') ?_) | refine g_skip (h := ?_) | refine g_ret (h := ?_) | refine g_cond_f (h := ?_)))
  refine r_retk [Rl b n] ?_
  exact ⟨rfl, rfl⟩
theorem rFormat_does (b n : Nat) (hn : 8 ≤ n ∧ n ≤ 640) : Does Tryz.prog 27 [.pointer (some ⟨b, 0, none⟩)] [Rd b n] (fun v H => ∃ c, v = .tuple #[.pointer (some ⟨c, 0, none⟩), .int .i64 0] ∧ H = []) := by
  have h2 := fun s hs => rWrite7_does b n s hn hs
  refine does_of Tryz.func27 Tryz.ntmps27 rfl rfl rfl (fun w0 F0 => ?_)
  (repeat (first | refine g_seq (h := ?_) | refine g_region (h := ?_) | refine l_nil (h := ?_) | refine n_then (h := ?_) | refine l_pures1 (h := ?_) | (refine l_atc ?_; refine l_call_ (rEmpty_does) ?_; rintro _ _ _ ⟨s0, hs0, rfl, rfl⟩ he; cases he) | (refine l_atc ?_; refine l_call_ (rText_does _ hs0) ?_; rintro _ _ _ ⟨s1, hs1, rfl, rfl⟩ he; cases he) | (refine l_atc ?_; refine l_call (h2 _ hs1) ?_) | (refine l_atc ?_; refine l_call (rSync6_does b n) ?_) | (refine l_box (h := ?_); intro _) | refine g_skip (h := ?_) | refine g_ret (h := ?_) | refine g_cond_t (h := ?_) | refine g_cond_f (h := ?_)))
  refine r_retk [] ?_
  exact ⟨_, rfl, rfl⟩
end Go.Proofs.YtpbibhhjbigdhaaGreat
/- The framework, part 17: maps over whole numbers of any kind. -/
set_option linter.unusedVariables false
set_option linter.unusedSimpArgs false
namespace Go.Proofs.YtpbibhhjbigdhaaGreat.SL
section
variable {P : Program} {E : Env} {n : Nat} {w0 : World} {F0 : Nat → Prop} {Q : Exit → Act → World → Prop} {tm : List (Nat × Value)} {D : List Deferred} {H H' : List SProp} {ops rest : List Oper}
variable {ty : TypeId} {pos : String} {after : Array Edge}
/-- Block b is a map of whole numbers, in the order of their coming. -/
def mpk {α : Type} (kk : IntKind) (b : Nat) (enc : α → Value) (kv : List (Int × α)) : SProp where
  holds h F := (∃ es clock, h[b]? = some (.map es clock) ∧ es.toList.map (fun x => (x.key, x.val)) = kv.map (fun p => (Value.int kk p.1, enc p.2)) ∧ (∀ x ∈ es.toList, x.born < clock) ∧ (es.toList.map MapEntry.born).Nodup ∧ (kv.map Prod.fst).Nodup) ∧ ∀ x, F x ↔ x = b
  loc := fun ⟨⟨es, c, e, r⟩, f⟩ k => ⟨⟨es, c, by rw [k b ((f b).2 rfl)]; exact e, r⟩, f⟩
  bnd := fun ⟨⟨_, _, e, _⟩, f⟩ x hx => by rw [(f x).1 hx]; exact lt_of_some e

theorem same_int_k {kk : IntKind} (k : Int) (j : Int) : Instr.sameNow (.int kk) (.int kk k) (.int kk j) = some (k == j) := by simp [Instr.sameNow]

/-- What is found, and what becomes of it. -/
theorem find_spec_k {α : Type} {kk : IntKind} {enc : α → Value} (k : Int) : ∀ (es : List MapEntry) (kv : List (Int × α)) (i : Nat), es.map (fun x => (x.key, x.val)) = kv.map (fun p => (Value.int kk p.1, enc p.2)) →
    (kvGet kv k = none ∧ Instr.findNow (.int kk) (.int kk k) es i = some none ∧ (∀ x, kvPut kv k x = kv ++ [(k, x)]) ∧ kvDel kv k = kv ∧ k ∉ kv.map (·.1)) ∨
    ∃ j v e0, kvGet kv k = some v ∧ Instr.findNow (.int kk) (.int kk k) es i = some (some (i + j, enc v)) ∧ es[j]? = some e0 ∧ e0.key = .int kk k ∧
      (∀ x, (es.set j { e0 with val := enc x }).map (fun x => (x.key, x.val)) = (kvPut kv k x).map (fun p => (Value.int kk p.1, enc p.2))) ∧ (∀ x, (kvPut kv k x).map (·.1) = kv.map (·.1)) ∧
      (es.eraseIdx j).map (fun x => (x.key, x.val)) = (kvDel kv k).map (fun p => (Value.int kk p.1, enc p.2)) ∧ (kvDel kv k).Sublist kv
  | [], [], i, _ => .inl ⟨rfl, rfl, fun _ => rfl, rfl, by simp⟩
  | [], _ :: _, i, h => by simp at h
  | _ :: _, [], i, h => by simp at h
  | e :: es, (j, v) :: kv, i, h => by
    simp only [List.map_cons, List.cons.injEq, Prod.mk.injEq] at h
    obtain ⟨⟨h1, h2⟩, h3⟩ := h
    by_cases q : j = k
    · subst q
      refine .inr ⟨0, v, e, by simp [kvGet], by simp [Instr.findNow, h1, same_int_k, h2], rfl, h1, fun x => ?_, fun x => by simp [kvPut], ?_, ?_⟩
      · simp [kvPut, h1, h3]
      · simp [kvDel, h3]
      · simp [kvDel]
    · have q' : ¬ k = j := fun q2 => q q2.symm
      rcases find_spec_k k es kv (i + 1) h3 with ⟨g1, g2, g3, g4, g5⟩ | ⟨m, u, e0, g1, g2, g3, g4, g5, g6, g7, g8⟩
      · refine .inl ⟨by simp [kvGet, q, g1], by simp [Instr.findNow, h1, same_int_k, beq_eq_false_iff_ne.2 q', g2], fun x => by simp [kvPut, q, g3], by simp [kvDel, q, g4], ?_⟩
        simp only [List.map_cons, List.mem_cons, not_or]
        exact ⟨q', g5⟩
      · refine .inr ⟨m + 1, u, e0, by simp [kvGet, q, g1], ?_, by simpa using g3, g4, fun x => ?_, fun x => by simp [kvPut, q, g6], ?_, ?_⟩
        · simp [Instr.findNow, h1, same_int_k, beq_eq_false_iff_ne.2 q', g2]
          omega
        · simp [kvPut, q, h1, h2, g5]
        · simp [kvDel, q, h1, h2, g7]
        · simp [kvDel, q, g8]

theorem l_makeMap_k {d t : Nat} {α : Type} (kk : IntKind) (enc : α → Value) (hd : Nat.blt d n = true := by refine rfl) (h : ∀ b, L P n w0 F0 ops.toArray rest Q ((d, .map (some b)) :: tm) D (mpk kk b enc [] :: H)) :
    L P n w0 F0 ops.toArray (⟨some d, .makeMap t none, ty, pos, after, none⟩ :: rest) Q tm D H := by
  refine .mk fun a w s => ?_
  refine wpList_value rfl (v := .map (some w.heap.size)) (w' := { w with heap := w.heap.push (.map #[] 0) }) ?_ (h w.heap.size _ _ ⟨s.tm.put hd _, s.defers, ?_⟩)
  · simp [execOp, Instr.makeMap]
  · refine (s.inv.alloc (.map #[] 0)).imp fun {h F} s => ?_
    obtain ⟨F1, F2, ⟨e, f⟩, r⟩ := s
    exact ⟨F, ⟨F1, F2, ⟨⟨#[], 0, e, by simp⟩, f⟩, r⟩, fun _ h => h⟩

theorem run_lookup_int_k {α : Type} {kk : IntKind} {t kt et : TypeId} {enc : α → Value} {kv : List (Int × α)} {i : Int} {z : α} {b sz by' : Nat} {es : Array MapEntry} {clock : Nat} {ok : Bool} {w : World} (k : EnvOk P E) (hw : w.heap[b]? = some (.map es clock))
    (he : es.toList.map (fun x => (x.key, x.val)) = kv.map (fun p => (Value.int kk p.1, enc p.2))) (ht : look E.ty t = some (.map kt et)) (hk : look E.ty kt = some (.int kk)) (hz : look E.inf et = some (enc z, sz, by')) :
    (Instr.lookup t (.map (some b)) (.int kk i) ok).run P w = .ok (if ok then .tuple #[enc ((kvGet kv i).getD z), .bool (kvGet kv i).isSome] else enc ((kvGet kv i).getD z)) w := by
  simp only [Instr.lookup, Sem.run_bind, run_underlying (k.under ht), Result.andThen, MapKept.run_getObj_map hw, Sem.run_pure, run_checkKey_int (k.under hk), Instr.findKey, run_underlying (k.under hk)]
  rcases find_spec_k (kk := kk) (enc := enc) i es.toList kv 0 he with ⟨g1, g2, _⟩ | ⟨j, v, e0, g1, g2, _⟩
  · simp only [g1, g2, Sem.run_pure, Sem.run_bind, run_zero k hz, Result.andThen, Option.getD_none, Option.isSome_none]
  · simp only [g1, g2, Sem.run_pure, Sem.run_bind, Result.andThen, Option.getD_some, Option.isSome_some]

/-- What a map has at a number. -/
theorem l_lookup_k {α : Type} {kk : IntKind} {d t kt et b sz by' : Nat} {x y : Operand} {enc : α → Value} {kv : List (Int × α)} {i : Int} (z : α) {zv : Value} (k : EnvOk P E := by refine inferInstance) (hd : Nat.blt d n = true := by refine rfl) (hx : ev tm x = some (.map (some b)) := by refine rfl) (hy : ev tm y = some (.int kk i) := by refine rfl)
    (ht : look E.ty t = some (.map kt et) := by refine rfl) (hk : look E.ty kt = some (.int kk) := by refine rfl) (hz : look E.inf et = some (zv, sz, by') := by refine rfl) (tk : Take (mpk kk b enc kv) H H' := by with_reducible (repeat (first | refine Take.here | apply Take.there))) (hze : zv = enc z := by refine rfl)
    (h : L P n w0 F0 ops.toArray rest Q ((d, enc ((kvGet kv i).getD z)) :: tm) D H) :
    L P n w0 F0 ops.toArray (⟨some d, .lookup t x y false, ty, pos, after, none⟩ :: rest) Q tm D H := by
  subst hze
  refine .mk fun a w s => ?_
  obtain ⟨⟨_, ⟨_, _, ⟨⟨es, clock, hw, he, _⟩, _⟩, _⟩, _⟩, _⟩ := s.inv.take tk
  refine wpList_value rfl (v := enc ((kvGet kv i).getD z)) (w' := w) ?_ (h _ _ (s.put hd _))
  simp only [execOp, ev_sound s.tm hx, ev_sound s.tm hy, Sem.run_bind, run_lookup_int_k k hw he ht hk hz, Result.andThen, Sem.run_pure, Bool.false_eq_true, if_false]
theorem l_lookup_ok_k {α : Type} {kk : IntKind} {d t kt et b sz by' : Nat} {x y : Operand} {enc : α → Value} {kv : List (Int × α)} {i : Int} (z : α) {zv : Value} (k : EnvOk P E := by refine inferInstance) (hd : Nat.blt d n = true := by refine rfl) (hx : ev tm x = some (.map (some b)) := by refine rfl) (hy : ev tm y = some (.int kk i) := by refine rfl)
    (ht : look E.ty t = some (.map kt et) := by refine rfl) (hk : look E.ty kt = some (.int kk) := by refine rfl) (hz : look E.inf et = some (zv, sz, by') := by refine rfl) (tk : Take (mpk kk b enc kv) H H' := by with_reducible (repeat (first | refine Take.here | apply Take.there))) (hze : zv = enc z := by refine rfl)
    (h : L P n w0 F0 ops.toArray rest Q ((d, .tuple #[enc ((kvGet kv i).getD z), .bool (kvGet kv i).isSome]) :: tm) D H) :
    L P n w0 F0 ops.toArray (⟨some d, .lookup t x y true, ty, pos, after, none⟩ :: rest) Q tm D H := by
  subst hze
  refine .mk fun a w s => ?_
  obtain ⟨⟨_, ⟨_, _, ⟨⟨es, clock, hw, he, _⟩, _⟩, _⟩, _⟩, _⟩ := s.inv.take tk
  refine wpList_value rfl (v := .tuple #[enc ((kvGet kv i).getD z), .bool (kvGet kv i).isSome]) (w' := w) ?_ (h _ _ (s.put hd _))
  simp only [execOp, ev_sound s.tm hx, ev_sound s.tm hy, Sem.run_bind, run_lookup_int_k k hw he ht hk hz, Result.andThen, Sem.run_pure, if_true]

theorem inv_mp_k {α : Type} {kk : IntKind} {enc : α → Value} {kv kv' : List (Int × α)} {b : Nat} {es' : Array MapEntry} {clock' : Nat} {w w' : World} (i : Inv w0 F0 (mpk kk b enc kv :: H) w) (hb : w'.heap[b]? = some (.map es' clock'))
    (h1 : es'.toList.map (fun x => (x.key, x.val)) = kv'.map (fun p => (Value.int kk p.1, enc p.2))) (h2 : ∀ x ∈ es'.toList, x.born < clock') (h3 : (es'.toList.map MapEntry.born).Nodup) (h4 : (kv'.map Prod.fst).Nodup)
    (hn : ∀ c, c ≠ b → w'.heap[c]? = w.heap[c]?) (hs : w'.heap.size = w.heap.size) (e1 : w'.os = w.os) (e2 : w'.tape = w.tape) (e3 : w'.output = w.output) : Inv w0 F0 (mpk kk b enc kv' :: H) w' :=
  i.set1 (fun ⟨_, f⟩ => f) ⟨⟨es', clock', hb, h1, h2, h3, h4⟩, fun _ => Iff.rfl⟩ hn hs e1 e2 e3

theorem l_mapUpdate_k {α : Type} {kk : IntKind} {t kt et b : Nat} {x y u : Operand} {enc : α → Value} {kv : List (Int × α)} {i : Int} {v : α} {vv : Value} (k : EnvOk P E := by refine inferInstance) (hx : ev tm x = some (.map (some b)) := by refine rfl) (hy : ev tm y = some (.int kk i) := by refine rfl) (hu : ev tm u = some vv := by refine rfl)
    (ht : look E.ty t = some (.map kt et) := by refine rfl) (hk : look E.ty kt = some (.int kk) := by refine rfl) (tk : Take (mpk kk b enc kv) H H' := by with_reducible (repeat (first | refine Take.here | apply Take.there))) (hv : vv = enc v := by refine rfl)
    (h : L P n w0 F0 ops.toArray rest Q tm D (mpk kk b enc (kvPut kv i v) :: H')) :
    L P n w0 F0 ops.toArray (⟨none, .mapUpdate t x y u, ty, pos, after, none⟩ :: rest) Q tm D H := by
  subst hv
  refine .mk fun a w s => ?_
  have hi := s.inv.take tk
  obtain ⟨⟨_, ⟨_, _, ⟨⟨es, clock, hw, he, h2, h3, h4⟩, _⟩, _⟩, _⟩, _⟩ := id hi
  have hbl := lt_of_some hw
  have hset : ∀ o, ((setObj b o).run P w) = .ok () { w with heap := w.heap.setIfInBounds b o } := fun o => MapKept.run_setObj_map o hw
  have main : ∃ w', (Instr.mapUpdate t (.map (some b)) (.int kk i) (enc v)).run P w = .ok () w' ∧ Inv w0 F0 (mpk kk b enc (kvPut kv i v) :: H') w' := by
    simp only [Instr.mapUpdate, Sem.run_bind, run_underlying (k.under ht), Result.andThen, MapKept.run_getObj_map hw, Sem.run_pure, run_checkKey_int (k.under hk), Instr.findKey, run_underlying (k.under hk)]
    rcases find_spec_k (kk := kk) (enc := enc) i es.toList kv 0 he with ⟨g1, g2, g3, g4, g5⟩ | ⟨j, u, e0, g1, g2, g3, g4, g5, g6, g7⟩
    · simp only [g2, Sem.run_pure, Result.andThen, hset]
      refine ⟨_, rfl, inv_mp_k hi (es' := es.push { key := .int kk i, val := enc v, born := clock }) (clock' := clock + 1) (by simp [hbl]) ?_ ?_ ?_ ?_ ?_ (by simp) rfl rfl rfl⟩
      · simp [g3, he]
      · intro x hx
        simp only [Array.toList_push, List.mem_append, List.mem_singleton] at hx
        rcases hx with hx | rfl
        · exact Nat.lt_succ_of_lt (h2 x hx)
        · exact Nat.lt_succ_self _
      · simp only [Array.toList_push, List.map_append, List.map_cons, List.map_nil]
        refine List.nodup_append.2 ⟨h3, by simp, ?_⟩
        intro x hx y hy
        simp only [List.mem_singleton] at hy
        subst hy
        obtain ⟨e, he', rfl⟩ := List.mem_map.1 hx
        exact Nat.ne_of_lt (h2 e he')
      · rw [g3, List.map_append]
        refine List.nodup_append.2 ⟨h4, by simp, ?_⟩
        intro x hx y hy
        simp only [List.map_cons, List.map_nil, List.mem_singleton] at hy
        subst hy
        exact fun q => g5 (by rw [← q]; exact hx)
      · intro c hc
        simp [Array.getElem?_setIfInBounds, hc.symm]
    · have hj : es[j]? = some e0 := by rw [← Array.getElem?_toList]; exact g3
      have hjl : j < es.toList.length := (List.getElem?_eq_some_iff.1 g3).1
      simp only [g2, Nat.zero_add, Sem.run_pure, hj, Option.map_some, Option.getD_some, g4, Sem.run_bind, MapKept.run_keyThatStays (d := .int kk) (k := .int kk i) (by first | rfl | (cases kk <;> rfl) | simp [MapKept.IsKey]), Result.andThen, hset]
      have em : (es.modify j fun e => { key := Value.int kk i, val := enc v, born := e.born }).toList = es.toList.set j { e0 with val := enc v } := by
        rw [Array.toList_modify]
        apply List.ext_getElem?
        intro q
        rw [List.getElem?_modify, List.getElem?_set]
        by_cases hq : j = q
        · subst hq
          simp only [if_true, hjl, g3, Option.map_some, g4]
          cases e0; simp only at g4; subst g4; rfl
        · simp [hq]
      refine ⟨_, rfl, inv_mp_k hi (es' := es.modify j fun e => { key := Value.int kk i, val := enc v, born := e.born }) (clock' := clock) (by simp [hbl]) ?_ ?_ ?_ ?_ ?_ (by simp) rfl rfl rfl⟩
      · rw [em]; exact g5 v
      · intro x hx
        rw [em] at hx
        rcases List.mem_or_eq_of_mem_set hx with hx | rfl
        · exact h2 x hx
        · exact h2 e0 (List.mem_of_getElem? g3)
      · rw [em, List.map_set]
        have : (es.toList.map MapEntry.born).set j e0.born = es.toList.map MapEntry.born := by
          apply List.ext_getElem?
          intro q
          rw [List.getElem?_set]
          by_cases hq : j = q
          · subst hq
            rw [if_pos rfl, if_pos (by simpa using hjl), List.getElem?_map, g3]; rfl
          · simp [hq]
        simp only [this]; exact h3
      · have := g6 v
        rw [show (kvPut kv i v).map Prod.fst = kv.map Prod.fst from this]; exact h4
      · intro c hc
        simp [Array.getElem?_setIfInBounds, hc.symm]
  obtain ⟨w', hr, hi'⟩ := main
  refine wpList_unit rfl (w' := w') ?_ (h _ _ ⟨s.tm, s.defers, hi'⟩)
  simp only [execOp, ev_sound s.tm hx, ev_sound s.tm hy, ev_sound s.tm hu, Sem.run_bind, hr, Result.andThen, Sem.run_pure]

theorem l_delete_k {α : Type} {kk : IntKind} {d : Option Nat} {t kt et b ka : Nat} {x y : Operand} {enc : α → Value} {kv : List (Int × α)} {i : Int} (k : EnvOk P E) (hd : ∀ j, d = some j → Nat.blt j n = true) (hx : ev tm x = some (.map (some b))) (hy : ev tm y = some (.int kk i))
    (ht : look E.ty t = some (.map kt et)) (hk : look E.ty kt = some (.int kk)) (tk : Take (mpk kk b enc kv) H H')
    (h : L P n w0 F0 ops.toArray rest Q (match d with | some j => (j, .tuple #[]) :: tm | none => tm) D (mpk kk b enc (kvDel kv i) :: H')) :
    L P n w0 F0 ops.toArray (⟨d, .call { callee := .builtin .delete, args := #[x, y], argTypes := #[t, ka] }, ty, pos, after, none⟩ :: rest) Q tm D H := by
  refine .mk fun a w s => ?_
  have hi := s.inv.take tk
  obtain ⟨⟨_, ⟨_, _, ⟨⟨es, clock, hw, he, h2, h3, h4⟩, _⟩, _⟩, _⟩, _⟩ := id hi
  have hbl := lt_of_some hw
  have hset : ∀ o, ((setObj b o).run P w) = .ok () { w with heap := w.heap.setIfInBounds b o } := fun o => MapKept.run_setObj_map o hw
  have main : ∃ w', (Builtin.delete_ #[t, ka] ty #[.map (some b), .int kk i]).run P w = .ok (.tuple #[]) w' ∧ Inv w0 F0 (mpk kk b enc (kvDel kv i) :: H') w' := by
    simp only [Builtin.delete_, List.getElem?_toArray, List.getElem?_cons_zero, List.getElem?_cons_succ, Sem.run_bind, run_underlying (k.under ht), Result.andThen, MapKept.run_getObj_map hw, Sem.run_pure, run_checkKey_int (k.under hk), Instr.findKey, run_underlying (k.under hk)]
    rcases find_spec_k (kk := kk) (enc := enc) i es.toList kv 0 he with ⟨g1, g2, g3, g4, g5⟩ | ⟨j, u, e0, g1, g2, g3, g4, g5, g6, g7, g8⟩
    · simp only [g2, Sem.run_pure, Sem.run_bind, Result.andThen, hset]
      exact ⟨_, rfl, inv_mp_k hi (es' := es) (clock' := clock) (by simp [hbl]) (by rw [g4]; exact he) h2 h3 (by rw [g4]; exact h4) (fun c hc => by simp [Array.getElem?_setIfInBounds, hc.symm]) (by simp) rfl rfl rfl⟩
    · simp only [g2, Nat.zero_add, Sem.run_pure, Sem.run_bind, Result.andThen, hset]
      have em : (es.eraseIdxIfInBounds j).toList = es.toList.eraseIdx j := by
        have hj : j < es.size := by have := (List.getElem?_eq_some_iff.1 g3).1; simpa using this
        simp [Array.eraseIdxIfInBounds, hj]
      refine ⟨_, rfl, inv_mp_k hi (es' := es.eraseIdxIfInBounds j) (clock' := clock) (by simp [hbl]) (by rw [em]; exact g7) ?_ ?_ ?_ (fun c hc => by simp [Array.getElem?_setIfInBounds, hc.symm]) (by simp) rfl rfl rfl⟩
      · intro x hx
        rw [em] at hx
        exact h2 x ((List.eraseIdx_sublist _ _).mem hx)
      · rw [em]
        exact ((List.eraseIdx_sublist _ _).map _).nodup h3
      · exact (g8.map _).nodup h4
  obtain ⟨w', hr, hi'⟩ := main
  have hr2 : (execOp a.eval ⟨d, .call { callee := .builtin .delete, args := #[x, y], argTypes := #[t, ka] }, ty, pos, after, none⟩).run P w = .ok (.value (.tuple #[])) w' := by
    simp only [execOp, resolve, invoke, builtin, Sem.run_bind, Sem.run_pure, Result.andThen_ok, List.map_toArray, List.map_cons, List.map_nil, ev_sound s.tm hx, ev_sound s.tm hy, hr]
  refine wpList_value rfl (v := .tuple #[]) (w' := w') hr2 (h _ _ ?_)
  cases d with
  | none => exact ⟨s.tm, s.defers, hi'⟩
  | some j => exact ⟨s.tm.put (hd j rfl) _, s.defers, hi'⟩

theorem l_len_map_k {α : Type} {kk : IntKind} {d t kt et b : Nat} {x : Operand} {enc : α → Value} {kv : List (Int × α)} (k : EnvOk P E := by refine inferInstance) (hd : Nat.blt d n = true := by refine rfl) (hx : ev tm x = some (.map (some b)) := by refine rfl) (ht : look E.ty t = some (.map kt et) := by refine rfl) (tk : Take (mpk kk b enc kv) H H' := by with_reducible (repeat (first | refine Take.here | apply Take.there)))
    (h : L P n w0 F0 ops.toArray rest Q ((d, .int .i64 (kv.length : Nat)) :: tm) D H) :
    L P n w0 F0 ops.toArray (⟨some d, .call { callee := .builtin .len, args := #[x], argTypes := #[t] }, ty, pos, after, none⟩ :: rest) Q tm D H := by
  refine .mk fun a w s => ?_
  obtain ⟨⟨_, ⟨_, _, ⟨⟨es, clock, hw, he, _⟩, _⟩, _⟩, _⟩, _⟩ := s.inv.take tk
  have hl : es.size = kv.length := by have := congrArg List.length he; simpa using this
  refine wpList_value rfl (v := .int .i64 (kv.length : Nat)) (w' := w) ?_ (h _ _ (s.put hd _))
  have hr : (Builtin.len_ #[t] ty #[.map (some b)]).run P w = .ok (.int .i64 (kv.length : Nat)) w := by
    simp only [Builtin.len_, List.getElem?_toArray, List.getElem?_cons_zero, Sem.run_bind, run_underlying (k.under ht), Result.andThen, MapKept.run_getObj_map hw, Sem.run_pure, goInt, hl]
  simp only [execOp, resolve, invoke, builtin, Sem.run_bind, Sem.run_pure, Result.andThen_ok, List.map_toArray, List.map_cons, List.map_nil, ev_sound s.tm hx, hr]
theorem l_delete0_k {α : Type} {kk : IntKind} {t kt et b ka : Nat} {x y : Operand} {enc : α → Value} {kv : List (Int × α)} {i : Int} (k : EnvOk P E := by refine inferInstance) (hx : ev tm x = some (.map (some b)) := by refine rfl) (hy : ev tm y = some (.int kk i) := by refine rfl)
    (ht : look E.ty t = some (.map kt et) := by refine rfl) (hk : look E.ty kt = some (.int kk) := by refine rfl) (tk : Take (mpk kk b enc kv) H H' := by with_reducible (repeat (first | refine Take.here | apply Take.there)))
    (h : L P n w0 F0 ops.toArray rest Q tm D (mpk kk b enc (kvDel kv i) :: H')) :
    L P n w0 F0 ops.toArray (⟨none, .call { callee := .builtin .delete, args := #[x, y], argTypes := #[t, ka] }, ty, pos, after, none⟩ :: rest) Q tm D H :=
  l_delete_k k (d := none) (fun _ q => nomatch q) hx hy ht hk tk h

end
end Go.Proofs.YtpbibhhjbigdhaaGreat.SL
/- The laws' helpers of chapter 11: keys, values, worlds, examples. -/
set_option maxRecDepth 20000
set_option linter.unusedVariables false
set_option linter.unusedSimpArgs false
namespace Go.Proofs.YtpbibhhjbigdhaaGreat
open Go.Proofs.YtpbibhhjbigdhaaGreat.SL

def absI (n : Int) : Int := if n < 0 then -(n + 1) else n
theorem absI_bd {n : Int} (h : -9223372036854775808 ≤ n ∧ n < 9223372036854775808) : 0 ≤ absI n ∧ absI n < 9223372036854775808 := by unfold absI; split <;> omega
def keyN (n : Int) : Nat := (absI n).toNat % 60 * 1000000007
theorem keyN_lt (n : Int) : keyN n < 18446744073709551616 := by unfold keyN; omega
theorem keyN_mem (n : Int) : keyN n ∈ (List.range 60).map (· * 1000000007) := List.mem_map.2 ⟨(absI n).toNat % 60, List.mem_range.2 (Nat.mod_lt _ (by omega)), rfl⟩
def valN (n : Int) : List UInt8 := List.replicate ((absI n).toNat % 40) 0 ++ [UInt8.ofNat (IntKind.u8.wrap (absI n)).toNat]
theorem valN_len (n : Int) : (valN n).length ≤ 40 := by unfold valN; simp; omega

theorem bsV1 {a : Int} : [Value.int IntKind.u8 (IntKind.u8.wrap a)] = bsV [UInt8.ofNat (IntKind.u8.wrap a).toNat] := by rw [u8_of]; rfl
theorem key_does (n : Int) (h : -9223372036854775808 ≤ n ∧ n < 9223372036854775808) : Does Tryz.prog 12 [.int .i64 n] [] (fun v H => v = .int .u64 (keyN n : Nat) ∧ H = []) := by
  have ha := absI_bd h
  have e : IntKind.u64.wrap (IntKind.u64.wrap ((absI n).tmod 60) * 1000000007) = (keyN n : Nat) := by
    unfold keyN
    rw [Int.tmod_eq_emod_of_nonneg ha.1]
    rw [wrapU64 (n := (absI n) % 60) (by omega), wrapU64 (by omega)]
    omega
  refine does_of Tryz.func12 Tryz.ntmps12 rfl rfl rfl (fun w0 F0 => ?_)
  (repeat' (first | refine g_seq (h := ?_) | refine g_region (h := ?_) | refine l_nil (h := ?_) | refine n_then (h := ?_) | refine l_pures1 (h := ?_) | refine g_skip (h := ?_) | refine g_ret (h := ?_) | (refine g_sp (h1 := ?_) (h0 := ?_) <;> intro h)))
  · refine r_ret ?_
    rw [← e, absI, if_pos (by assumption), wrapI64 (n := n + 1) (by omega), wrapI64 (by omega), Int.zero_sub]
    exact ⟨rfl, rfl⟩
  · refine r_ret ?_
    rw [← e, absI, if_neg (by assumption)]
    exact ⟨rfl, rfl⟩

theorem value_does (n : Int) (h : -9223372036854775808 ≤ n ∧ n < 9223372036854775808) : Does Tryz.prog 13 [.int .i64 n] [] (fun v H => v = .string (str (valN n)) ∧ H = []) := by
  have ha := absI_bd h
  obtain ⟨m, hm⟩ : ∃ m, absI n = m := ⟨_, rfl⟩
  rw [hm] at ha
  have e2 : m.tmod 40 = ((m.toNat % 40 : Nat) : Int) := by rw [Int.tmod_eq_emod_of_nonneg ha.1]; omega
  have hb : 0 ≤ m.tmod 40 ∧ m.tmod 40 ≤ m.tmod 40 ∧ m.tmod 40 < 9223372036854775808 ∧ ((1 : Nat) : Int) * m.tmod 40 ≤ 281474976710656 := by rw [e2]; omega
  have key : ∀ w0 F0, G Tryz.prog 17 w0 F0 (nav [1, 1, 0] (bdy Tryz.f13)) (Exit.then ((nav [1, 1, 1] (bdy Tryz.f13)).wp Tryz.prog (Post Tryz.prog Tryz.f13 w0 F0 (fun v H => v = .string (str (valN n)) ∧ H = []))) (Post Tryz.prog Tryz.f13 w0 F0 (fun v H => v = .string (str (valN n)) ∧ H = []))) [(0, .int .i64 m), (2, .string ⟨#[]⟩)] [] [] := fun w0 F0 => by
    obtain ⟨c, hc⟩ : ∃ c, c = nav [1, 1, 0] (bdy Tryz.f13) := ⟨_, rfl⟩
    rw [← hc]
    dsimp only [nav, bdy, Tryz.f13, Option.getD] at hc
    subst hc
    obtain ⟨c, hc⟩ : ∃ c, c = nav [1, 1, 1] (bdy Tryz.f13) := ⟨_, rfl⟩
    rw [← hc]
    dsimp only [nav, bdy, Tryz.f13, Option.getD] at hc
    subst hc
    (repeat fail)
    (refine g_draw [] (h := a_pass2 (h := ?_)))
    (repeat' (first | refine l_nil (h := ?_) | (refine l_makeSlice (h := ?_); intro _) | (refine l_buildSlice1 (h := ?_); intro _) | refine n_any (h := a_pass2 (h := ?_)) | refine a_fork2 (h1 := ?_) (h2 := ?_) | refine a1_of (h := ?_)))
    all_goals (first | rw [bsV0, bsV1] | rw [bsV0] | rw [bsV1])
    all_goals
      (repeat' (first | refine l_nil (h := ?_) | refine n_then (h := ?_) | refine l_concat (h := ?_) | (refine l_makeSlice (h := ?_); intro _) | refine l_str_bs (h := ?_) | (refine l_buildSlice1 (h := ?_); intro _) | refine g_ret (h := ?_) | refine a_done (h := ?_) | refine a_one (h := ?_) | refine n_any (h := a_pass2 (h := ?_))))
    all_goals (try (first | rw [bsV0] | rw [bsV1]))
    all_goals
      (repeat' (first | refine l_nil (h := ?_) | refine n_then (h := ?_) | refine l_concat (h := ?_) | refine l_str_bs (h := ?_) | refine g_ret (h := ?_) | refine a_done (h := ?_) | refine a_one (h := ?_) | refine n_any (h := a_pass2 (h := ?_))))
    all_goals (try (first | rw [bsV0] | rw [bsV1]))
    all_goals
      (repeat' fail)
    all_goals
      refine r_retk [] ?_
    all_goals refine ⟨?_, rfl⟩
    all_goals
      have e3 : (m.tmod 40).toNat = (absI n).toNat % 40 := by rw [e2, hm]; omega
      rw [valN, hm] at *
      rw [e3]
      simp [packV]
  refine does_of Tryz.func13 Tryz.ntmps13 rfl rfl rfl (fun w0 F0 => ?_)
  (repeat' (first | refine g_seq (h := ?_) | refine g_region (h := ?_) | refine l_nil (h := ?_) | refine n_then (h := ?_) | refine l_pures1 (h := ?_) | refine g_skip (h := ?_) | (refine g_sp (h1 := ?_) (h0 := ?_) <;> intro h)))
  · have h1 : IntKind.i64.wrap (0 - IntKind.i64.wrap (n + 1)) = m := by rw [← hm, absI, if_pos (by assumption), wrapI64 (n := n + 1) (by omega), wrapI64 (by omega)]; omega
    rw [h1]
    exact g_bang (key _ _)
  · obtain rfl : n = m := by rw [← hm, absI, if_neg (by assumption)]
    exact g_bang (key _ _)
theorem new_is {i : Int} {n : Nat} (e : i = n) (hn : 8 ≤ n ∧ n ≤ 640) : Does Tryz.prog 24 [.int .i64 i] [] (fun v H => ∃ b, v = .tuple #[.pointer (some ⟨b, 0, none⟩), .int .i64 0] ∧ H = [Disk b (Dk.new n)]) := by
  subst e; exact New_does n hn
theorem rnew_is {i : Int} {n : Nat} (e : i = n) (hn : 8 ≤ n ∧ n ≤ 640) : Does Tryz.prog 60 [.int .i64 i] [] (fun v H => ∃ b, v = .pointer (some ⟨b, 0, none⟩) ∧ H = [Rd b n]) := by
  subst e; exact rNew6_does n hn
theorem format_is {D E : Dk} {db : Nat} {e : Int} {q : Hd} (h : format D = (some q, e, E)) : Does Tryz.prog 25 [.pointer (some ⟨db, 0, none⟩)] [Disk db D] (fun v H => ∃ b, v = .tuple #[.pointer (some ⟨b, 0, none⟩), .int .i64 e] ∧ H = [Store b db q.over, Disk db E]) := by
  have := Format_does db D; rw [h] at this; exact this

theorem disks_does {i : Int} {n : Nat} (e : i = n) (hn : 8 ≤ n ∧ n ≤ 640) : Does Tryz.prog 26 [.int .i64 i] [] (fun v H => ∃ db xb, v = .tuple #[.pointer (some ⟨db, 0, none⟩), .pointer (some ⟨xb, 0, none⟩), .bool true] ∧ H = [Disk db (Dk.new n), Rd xb n]) := by
  refine does_of Tryz.func26 Tryz.ntmps26 rfl rfl rfl (fun w0 F0 => ?_)
  (repeat' (first | refine g_seq (h := ?_) | refine g_region (h := ?_) | refine l_nil (h := ?_) | refine n_then (h := ?_) | refine l_pures1 (h := ?_) | (refine l_atc ?_; refine l_call_ (new_is e hn) ?_; rintro _ _ _ ⟨db, rfl, rfl⟩ he; cases he) | (refine l_atc ?_; refine l_call_ (rnew_is e hn) ?_; rintro _ _ _ ⟨xb, rfl, rfl⟩ he; cases he) | refine l_guard_yes (h := ?_) | refine g_ret (h := ?_)))
  refine r_retk [Disk db (Dk.new n), Rd xb n] ?_
  exact ⟨db, xb, rfl, rfl⟩

/-- A world of the laws: its disks, stores and its root. -/
abbrev Wd (b db xb sb rb : Nat) (root : Int) : SProp := cl b 37 [.pointer (some ⟨db, 0, none⟩), .pointer (some ⟨xb, 0, none⟩), .pointer (some ⟨sb, 0, none⟩), .pointer (some ⟨rb, 0, none⟩), .int .i64 root]
theorem begins_does {i : Int} {n : Nat} (e : i = n) (hn : 8 ≤ n ∧ n ≤ 640) {E1 : Dk} (f1 : format (Dk.new n) = (some headNew, 0, E1)) : Does Tryz.prog 10 [.int .i64 i] []
    (fun v H => ∃ b db xb sb rb, v = .tuple #[.pointer (some ⟨b, 0, none⟩), .bool true] ∧ H = [Wd b db xb sb rb 0, Store sb db headNew.over, Disk db E1]) := by
  refine does_of Tryz.func10 Tryz.ntmps10 rfl rfl rfl (fun w0 F0 => ?_)
  (repeat' (first | refine g_seq (h := ?_) | refine g_region (h := ?_) | refine l_nil (h := ?_) | refine n_then (h := ?_) | refine l_pures1 (h := ?_) | (refine l_atc ?_; refine l_call_ (disks_does e hn) ?_; rintro _ _ _ ⟨db, xb, rfl, rfl⟩ he; cases he) | (refine l_atc ?_; refine l_call_ (format_is f1) ?_; rintro _ _ _ ⟨sb, rfl, rfl⟩ he; cases he) | (refine l_atc ?_; refine l_call_ (rFormat_does xb n hn) ?_; rintro _ _ _ ⟨rb, rfl, rfl⟩ he; cases he) | refine l_guard_yes (h := ?_) | refine l_load (h := ?_) | refine l_store (h := ?_) | (refine l_box (h := ?_); intro _) | refine g_skip (h := ?_) | refine g_ret (h := ?_) | refine g_cond_f (h := ?_)))
  rename_i b
  refine r_retk [Wd b db xb sb rb 0, Store sb db headNew.over, Disk db E1] ?_
  exact ⟨b, db, xb, sb, rb, rfl, rfl⟩

theorem examples_does : Does Tryz.prog 9 [] [] (fun v H => v = .bool true ∧ H = []) := by
  have hN : 8 ≤ 20 ∧ 20 ≤ 640 := by omega
  obtain ⟨E1, f1, k1, p1⟩ := format_of hN (Dk.new_lives 20) (by rw [Dk.new_pg (by omega)]; simp)
  obtain ⟨v5, hv5⟩ : ∃ v5 : List UInt8, v5 = [102, 105, 118, 101] := ⟨_, rfl⟩
  have hvl : v5.length = 4 := by rw [hv5]; rfl
  have hd : Nd.good ⟨true, [5], [v5], []⟩ := ⟨⟨List.pairwise_singleton _ _, by simp, by simp; omega, by simp, rfl, rfl⟩, by simp, by simp [Nd.size, sumL]; omega⟩
  obtain ⟨m, S2, D2, c1, c2, c3, c4, c5, c6, c7, c8⟩ := fresh_ok k1 (rest := []) (by simp [Sh.after, Hd.over]) (by simp [Hd.over]) hd
  obtain ⟨S3, g1, g2, g3, g4⟩ := give_ok c2 c5
  have ht : IsTree 20 S2 D2 [] m [(5, v5)] := .inr ⟨0, [m], ⟨_, [], c3, hd, by simp, ⟨rfl, hd.p, rfl, rfl⟩, rfl⟩, c5⟩
  have hP : ∀ sb db, Does Tryz.prog 11 [.pointer (some ⟨sb, 0, none⟩), .int .i64 0, .int .u64 5, .string { data := #[102, 105, 118, 101] }] [Store sb db headNew.over, Disk db E1] (fun u H => u = .tuple #[.int .i64 m, .int .i64 0] ∧ H = [Store sb db S2, Disk db D2]) := fun sb db => by
    have := put0_does sb db 5 v5 headNew.over S2 E1 D2 m (by omega) (fun b r => c1 b sb db 0 r)
    rw [hv5] at this
    exact this
  have hG : ∀ sb db, Does Tryz.prog 16 [.pointer (some ⟨sb, 0, none⟩), .int .i64 m, .int .u64 5] [Store sb db S2, Disk db D2] (fun v H => v = .tuple #[.string { data := #[102, 105, 118, 101] }, .bool true, .int .i64 0] ∧ H = [Store sb db S2, Disk db D2]) := fun sb db => by
    have := get_tree sb db 5 20 m [] [(5, v5)] S2 D2 c2 ht
    rw [hv5] at this
    exact this
  have hG0 : ∀ sb, Does Tryz.prog 16 [.pointer (some ⟨sb, 0, none⟩), .int .i64 0, .int .u64 5] [] (fun v H => v = .tuple #[.string (str []), .bool false, .int .i64 0] ∧ H = []) := fun sb => get0_does sb 5
  have hD : ∀ sb db, Does Tryz.prog 14 [.pointer (some ⟨sb, 0, none⟩), .int .i64 m, .int .u64 5] [Store sb db S2, Disk db D2] (fun v H => v = .tuple #[.int .i64 0, .bool true, .int .i64 0] ∧ H = [Store sb db S3, Disk db D2]) := fun sb db =>
    delOne_tree sb db 5 20 v5 m [] S2 S3 D2 c2 _ rfl c3 (by omega) (by omega) c5 g1
  refine does_of Tryz.func9 Tryz.ntmps9 rfl rfl rfl (fun w0 F0 => ?_)
  (repeat' (first | refine g_seq (h := ?_) | refine g_region (h := ?_) | refine l_nil (h := ?_) | refine n_then (h := ?_) | refine l_pures1 (h := ?_) | (refine l_at 24 ?_; refine l_call_ (new_is (i := 20) (n := 20) rfl hN) ?_; rintro _ _ _ ⟨db, rfl, rfl⟩ he; cases he) | (refine l_at 25 ?_; refine l_call_ (format_is f1) ?_; rintro _ _ _ ⟨sb, rfl, rfl⟩ he; cases he) | (refine l_at 11 ?_; refine l_call (hP sb db) ?_) | (refine l_at 16 ?_; refine l_call (hG sb db) ?_) | (refine l_at 16 ?_; refine l_call (hG0 sb) ?_) | (refine l_at 14 ?_; refine l_call (hD sb db) ?_) | refine l_guard_yes (h := ?_) | refine g_skip (h := ?_) | refine g_ret (h := ?_) | refine g_cond_f (h := ?_)))
  refine r_retk [] ?_
  exact ⟨rfl, rfl⟩
end Go.Proofs.YtpbibhhjbigdhaaGreat
/- How many pages a tree has; what the laws keep of a world. No code. -/
set_option maxRecDepth 20000
set_option linter.unusedVariables false
set_option linter.unusedSimpArgs false
namespace Go.Proofs.YtpbibhhjbigdhaaGreat
open Go.Proofs.YtpbibhhjbigdhaaGreat.SL

theorem OnP.few {g : Int → Nd → Prop} : ∀ {h : Nat} {k : Int} {s : Sub}, OnP g h k s → s.ps.length + 1 ≤ 2 * s.es.length
  | 0, k, s, ⟨d', ps', a1, a2, a3, ⟨b1, b2, b3, b4⟩, a5⟩ => by
    have h1 := a2.some b1
    have h2 := valsLen b2 b1
    rw [a5, b4, b3]
    simp only [Nd.ents, List.length_zip, h2, List.length_cons, List.length_nil]
    omega
  | h + 1, k, s, ⟨d', ps', a1, a2, a3, ⟨b1, b2, ss, f, e, e2, sp⟩, a5⟩ => by
    have key : ∀ {ks : List Int} {ss : List Sub}, All2 (OnP g h) ks ss → (Sub.pages ss).length + ss.length ≤ 2 * (Sub.all ss).length := by
      intro ks
      induction ks with
      | nil =>
        intro ss q
        cases ss with
        | nil => simp [Sub.pages, Sub.all]
        | cons _ _ => exact q.elim
      | cons k ks ih =>
        intro ss q
        cases ss with
        | nil => exact q.elim
        | cons s ss =>
          have h1 := OnP.few q.1
          have h2 := ih q.2
          rw [Sub.pages_cons, Sub.all_cons]
          simp only [List.length_append, List.length_cons]
          omega
    have h1 := key f
    have h2 := sp.len
    have h3 : 0 < d'.keys.length := List.length_pos_iff.2 (a3 b1)
    rw [a5, e, e2]
    simp only [List.length_cons]
    omega
theorem IsTree.few {N : Nat} {S : Sh} {D : Dk} {U : List Int} {r : Int} {T : List Ent} (h : IsTree N S D U r T) : (S.after U).length ≤ 2 * T.length := by
  rcases h with ⟨_, rfl, e⟩ | ⟨h, ps, o, p⟩
  · rw [e]; simp
  · have := o.few
    rw [← p.length_eq]
    dsimp only at this
    omega
theorem Fine.fresh_le {N : Nat} {S : Sh} {D : Dk} {U : List Int} (k : Fine N S D U) : S.fresh.length ≤ (S.after U).length := by
  refine nodup_sub k.f.1 fun a ha => Sh.mem_after.2 ⟨.inr ha, fun hg => (k.f.2 a ha).2.2 (k.v.2 a hg)⟩
theorem putE_len (es : List Ent) (x : Nat) (v : List UInt8) (o : Ord es) : (putE es x v).length ≤ es.length + 1 := by
  unfold putE
  have h1 : ∀ (es : List Ent), (es.filter (fun e => decide (e.1 < x))).length + (es.filter (fun e => decide (x < e.1))).length ≤ es.length := by
    intro es
    induction es with
    | nil => simp
    | cons e es ih =>
      simp only [List.filter_cons]
      by_cases a : e.1 < x
      · have b : ¬ x < e.1 := by omega
        simp [a, b]; omega
      · by_cases b : x < e.1
        · simp [a, b]; omega
        · simp [a, b]; omega
  rw [List.length_append, List.length_cons]
  exact Nat.succ_le_succ (h1 es)
theorem delE_len (es : List Ent) (x : Nat) : (delE es x).length ≤ es.length := List.length_filter_le _ _

/-- A tree, as the laws keep it: on a disk of N sectors, of at most m keys. -/
structure Tr (N : Nat) (S : Sh) (D : Dk) (U : List Int) (root : Int) (T : List Ent) (m : Nat) : Prop where
  fine : Fine N S D U
  tree : IsTree N S D U root T
  len : T.length ≤ m
theorem Tr.put {N : Nat} {S : Sh} {D : Dk} {U : List Int} {root : Int} {T : List Ent} {m : Nat} (k : Tr N S D U root T m) (sb db x : Nat) (v : List UInt8) (hx : x < 18446744073709551616) (hv : v.length ≤ 40) (room : U.length + 2 * m + 25 < N) :
    Does Tryz.prog 11 [.pointer (some ⟨sb, 0, none⟩), .int .i64 root, .int .u64 x, .string (str v)] [Store sb db S, Disk db D]
      (fun u H => ∃ r S' D', u = .tuple #[.int .i64 r, .int .i64 0] ∧ H = [Store sb db S', Disk db D'] ∧ Tr N S' D' U r (putE T x v) (m + 1) ∧ S'.gen = S.gen ∧ Same U S D S' D') := by
  have h1 := k.tree.few
  have h2 := k.fine.fresh_le
  have h3 := k.len
  refine (put_tree sb db x N v root U T S D k.fine k.tree hx hv (by omega)).mono ?_
  rintro u H ⟨r, S', D', rfl, rfl, a, b, c, d⟩
  exact ⟨r, S', D', rfl, rfl, ⟨b, a, by have := putE_len T x v k.tree.ord; omega⟩, c, d⟩
theorem Tr.get {N : Nat} {S : Sh} {D : Dk} {U : List Int} {root : Int} {T : List Ent} {m : Nat} (k : Tr N S D U root T m) (sb db x : Nat) :
    Does Tryz.prog 16 [.pointer (some ⟨sb, 0, none⟩), .int .i64 root, .int .u64 x] [Store sb db S, Disk db D] (fun v H => v = getV (getE T x) ∧ H = [Store sb db S, Disk db D]) := get_tree sb db x N root U T S D k.fine k.tree
theorem Tr.delNo {N : Nat} {S : Sh} {D : Dk} {U : List Int} {root : Int} {T : List Ent} {m : Nat} (k : Tr N S D U root T m) (sb db x : Nat) (hx : getE T x = none) :
    Does Tryz.prog 14 [.pointer (some ⟨sb, 0, none⟩), .int .i64 root, .int .u64 x] [Store sb db S, Disk db D] (fun v H => v = .tuple #[.int .i64 root, .bool false, .int .i64 0] ∧ H = [Store sb db S, Disk db D]) := delNo_tree sb db x N root U T S D k.fine k.tree hx
/-- A world at its beginning. -/
theorem tr_new {N : Nat} (hN : 8 ≤ N ∧ N ≤ 640) : ∃ E1, format (Dk.new N) = (some headNew, 0, E1) ∧ Tr N headNew.over E1 [] 0 [] 0 := by
  obtain ⟨E1, f1, k1, p1⟩ := format_of hN (Dk.new_lives N) (by rw [Dk.new_pg (by omega)]; simp)
  exact ⟨E1, f1, k1, .inl ⟨rfl, rfl, by simp [Sh.after, Hd.over]⟩, Nat.le_refl _⟩

/-! ### Maps over keys -/
theorem kvGet_put {α : Type} : ∀ {l : List (Int × α)} {i j : Int} {x : α}, kvGet (kvPut l i x) j = if j = i then some x else kvGet l j
  | [], i, j, x => by
    by_cases q : j = i
    · subst q; simp [kvPut, kvGet]
    · have : ¬ i = j := fun e => q e.symm
      simp [kvPut, kvGet, q, this]
  | (a, v) :: l, i, j, x => by
    have ih := kvGet_put (l := l) (i := i) (j := j) (x := x)
    by_cases q : a = i
    · subst q
      simp only [kvPut, if_true, kvGet]
      by_cases q2 : a = j
      · subst q2; simp
      · have : ¬ j = a := fun e => q2 e.symm
        simp [q2, this]
    · simp only [kvPut, q, if_false, kvGet]
      by_cases q2 : a = j
      · subst q2; simp [q]
      · simp [q2, ih]
theorem wf_i64 {a : Int} (h : (Lit.int .i64 a).wf = true) : -9223372036854775808 ≤ a ∧ a < 9223372036854775808 := by
  simp [Lit.wf, IntKind.min, IntKind.max, IntKind.bits, IntKind.signed] at h
  omega
theorem wf_u8 {a : Int} (h : (Lit.int .u8 a).wf = true) : 0 ≤ a ∧ a < 256 := by
  simp [Lit.wf, IntKind.min, IntKind.max, IntKind.bits, IntKind.signed] at h
  omega
theorem wf_u64 {a : Int} (h : (Lit.int .u64 a).wf = true) : 0 ≤ a ∧ a < 18446744073709551616 := by
  simp [Lit.wf, IntKind.min, IntKind.max, IntKind.bits, IntKind.signed] at h
  omega
end Go.Proofs.YtpbibhhjbigdhaaGreat
/- TreeStops. -/
set_option maxRecDepth 20000
set_option linter.unusedVariables false
set_option linter.unusedSimpArgs false
namespace Go.Proofs.YtpbibhhjbigdhaaGreat
open Go.Proofs.YtpbibhhjbigdhaaGreat.SL

/-- The keys that were met are those of the tree. -/
def Met (kv : List (Int × Bool)) (T : List Ent) : Prop := ∀ x : Nat, (kvGet kv (x : Int)).getD false = (getE T x).isSome
theorem Met.put {kv : List (Int × Bool)} {T : List Ent} (h : Met kv T) (x : Nat) (v : List UInt8) : Met (kvPut kv x true) (putE T x v) := by
  intro y
  rw [kvGet_put, getE_put]
  by_cases q : y = x
  · subst q; simp
  · rw [if_neg (by omega), if_neg q]; exact h y

set_option maxHeartbeats 4000000 in
/-- What comes behind the loop. -/
theorem stops_tail (b db xb sb rb mb x j : Nat) (p : Option Addr) (ks : List Int) (cap : Nat) (o : Obj) (long root : Int) (S : Sh) (D : Dk) (T : List Ent) (kv : List (Int × Bool)) (k : Tr 100 S D [] root T j) (hm : Met kv T) (h1 : 0 ≤ long ∧ long < 256) (h2 : x < 18446744073709551616) (w0 : World) (F0 : Nat → Prop) :
    G Tryz.prog 186 w0 F0 (nav [1, 1, 1, 1, 1, 1, 1] (bdy Tryz.f4)) (Post Tryz.prog Tryz.f4 w0 F0 (fun v H => v = .bool true ∧ H = [ins p ks.length (ks.map encZ') o]))
      [(10, .map (some mb)), (8, .pointer (some ⟨b, 0, none⟩)), (7, .bool true), (0, .slice p ks.length cap), (1, .int .u8 long), (2, .int .u64 x)] [] [mpk .u64 mb Value.bool kv, Wd b db xb sb rb root, Store sb db S, Disk db D, ins p ks.length (ks.map encZ') o] := by
  obtain ⟨c, hc⟩ : ∃ c, c = nav [1, 1, 1, 1, 1, 1, 1] (bdy Tryz.f4) := ⟨_, rfl⟩
  rw [← hc]
  dsimp only [nav, bdy, Tryz.f4, Option.getD] at hc
  subst hc
  have hL := sLeft_does sb db S D
  have hlong := putLong_does sb x root (List.take (41 + long).toNat (List.drop 0 (List.replicate (41 + long).toNat 0))) (by simp; omega) (by simp; omega)
  have hget := k.get sb db x
  have ew : IntKind.i64.wrap long = long := wrapI64 (by omega)
  have ew2 : IntKind.i64.wrap (41 + long) = 41 + long := wrapI64 (by omega)
  (repeat (first | refine g_seq (h := ?_) | refine g_region (h := ?_) | refine l_nil (h := ?_) | refine n_then (h := ?_) | refine l_pures1 (h := ?_) | (refine l_at 15 ?_; refine l_call (hL) ?_) | refine l_load (h := ?_)))
  (refine g_draw [Wd b db xb sb rb root] (h := a_pass2 (h := ?_)))
  (repeat (first | refine a_load (h := a_pass2 (h := ?_)) | refine a_one (h := ?_)))
  rw [ew, ew2]
  (repeat (first | refine l_nil (h := ?_) | (refine l_makeSlice (h := ?_); intro _) | refine a_one (h := ?_) | refine n_any (h := a_pass2 (h := ?_))))
  rw [bsV0]
  (repeat (first | refine g_seq (h := ?_) | refine l_nil (h := ?_) | refine n_then (h := ?_) | (refine l_at 11 ?_; refine l_call (hlong) ?_) | refine l_str_bs (h := ?_) | refine a_done (h := ?_) | refine a_one (h := ?_) | refine n_any (h := a_pass2 (h := ?_))))
  (refine g_draw [Wd b db xb sb rb root] (h := a_pass2 (h := ?_)))
  (repeat (first | refine g_seq (h := ?_) | refine g_region (h := ?_) | refine l_nil (h := ?_) | refine n_then (h := ?_) | refine l_pures1 (h := ?_) | (refine l_at 16 ?_; refine l_call (hget) ?_) | refine a_done (h := ?_) | refine a_load (h := a_pass2 (h := ?_)) | refine a_one (h := ?_) | refine n_any (h := a_pass2 (h := ?_)) | refine l_lookup_k _ (h := ?_)))
  rw [hm x]
  cases hx : getE T x with
  | some u =>
    (repeat' (first | refine g_seq (h := ?_) | refine g_region (h := ?_) | refine l_nil (h := ?_) | refine n_then (h := ?_) | refine l_pures1 (h := ?_) | refine l_guard_yes (h := ?_) | refine g_ret (h := ?_) | refine n_then_ret (h := ?_) | refine g_cond_t (h := ?_)))
    refine r_retk [ins p ks.length (ks.map encZ') o] ?_
    exact ⟨rfl, rfl⟩
  | none =>
    have hdel := k.delNo sb db x hx
    (repeat (first | refine g_seq (h := ?_) | refine n_then (h := ?_) | refine g_skip (h := ?_) | refine g_cond_f (h := ?_)))
    (refine g_draw [Wd b db xb sb rb root] (h := a_pass2 (h := ?_)))
    (repeat' (first | refine g_seq (h := ?_) | refine g_region (h := ?_) | refine l_nil (h := ?_) | refine n_then (h := ?_) | refine l_pures1 (h := ?_) | (refine l_at 14 ?_; refine l_call (hdel) ?_) | (refine l_at 15 ?_; refine l_call (hL) ?_) | refine l_guard_yes (h := ?_) | refine l_load (h := ?_) | refine g_ret (h := ?_) | refine a_done (h := ?_) | refine a_load (h := a_pass2 (h := ?_)) | refine a_one (h := ?_) | refine n_any (h := a_pass2 (h := ?_)) | (refine l_spT (h := ?_); intro h)))
    refine r_retk [ins p ks.length (ks.map encZ') o] ?_
    exact ⟨by simp [packV], rfl⟩

set_option maxHeartbeats 4000000 in
theorem TreeStops_does (p : Option Addr) (ks : List Int) (cap : Nat) (o : Obj) (long other : Int) (hk : ∀ z ∈ ks, (Lit.int .i64 z).wf = true) (hl : ks.length ≤ 9223372036854775807) (h1 : 0 ≤ long ∧ long < 256) (h2 : 0 ≤ other ∧ other < 18446744073709551616) :
    Does Tryz.prog 4 [.slice p ks.length cap, .int .u8 long, .int .u64 other] [ins p ks.length (ks.map encZ') o] (fun v H => v = .bool true ∧ H = [ins p ks.length (ks.map encZ') o]) := by
  obtain ⟨x, rfl⟩ : ∃ x : Nat, other = x := ⟨other.toNat, by omega⟩
  obtain ⟨E1, f1, k0⟩ := tr_new (N := 100) (by omega)
  have hb := begins_does (i := 100) (n := 100) rfl (by omega) f1
  refine does_of Tryz.func4 Tryz.ntmps4 rfl rfl rfl (fun w0 F0 => ?_)
  (repeat' (first | refine g_seq (h := ?_) | refine g_region (h := ?_) | refine l_nil (h := ?_) | refine n_then (h := ?_) | refine l_pures1 (h := ?_) | (refine l_atc ?_; refine l_call (examples_does) ?_) | (refine l_atc ?_; refine l_call_ (hb) ?_; rintro _ _ _ ⟨b, db, xb, sb, rb, rfl, rfl⟩ he; cases he) | refine g_skip (h := ?_) | refine g_cond_f (h := ?_)))
  (refine l_makeMap_k (.u64) (Value.bool) (h := ?_); intro _)
  (repeat (first | refine g_seq (h := ?_) | refine g_region (h := ?_) | refine l_nil (h := ?_) | refine n_then (h := ?_) | refine l_pures1 (h := ?_) | refine g_block (h := ?_)))
  rename_i mb
  (refine g_loop (fun y : Nat × Int × Sh × Dk × List Ent × List (Int × Bool) => [(11, .int .i64 y.1), (10, .map (some mb)), (8, .pointer (some ⟨b, 0, none⟩)), (7, .bool true), (0, .slice p ks.length cap), (1, .int .u8 long), (2, .int .u64 x)]) (fun y => [mpk .u64 mb Value.bool y.2.2.2.2.2, Wd b db xb sb rb y.2.1, Store sb db y.2.2.1, Disk db y.2.2.2.1, ins p ks.length (ks.map encZ') o]) (fun y => Tr 100 y.2.2.1 y.2.2.2.1 [] y.2.1 y.2.2.2.2.1 y.1 ∧ Met y.2.2.2.2.2 y.2.2.2.2.1 ∧ y.1 ≤ ks.length ∧ y.1 ≤ 20) (fun y => ks.length - y.1) ((0, 0, headNew.over, E1, [], [])) ?_ ?_ ?_ ?_; rotate_left; (repeat (first | refine ts_nil | (refine ts_cons rfl ?_ ?_; first | (with_reducible rfl) | rotate_left))); (first | (intro _ i; with_reducible refine i) | rotate_left); rotate_left; (try omega); rotate_right)
  · rintro ⟨j, root, S, D, T, kv⟩ ⟨k, hm, hj, hj20⟩
    dsimp only at k hm hj hj20 ⊢
    by_cases hjl : j < ks.length ∧ j < 20
    · refine g_open (o := ins_opens (p := p) (m := ks.length) (by omega)) (h := ?_); (rintro ⟨gb, off, row, fr, T0⟩ ⟨rfl, rfl, v5, v6, v7⟩; dsimp only [List.cons_append, List.nil_append])
      have hgt : row[off + j * 1]? = some (.int .i64 (ks.getD j 0)) := ins_get v5 hjl.1 (by rw [List.getElem?_map, List.getD, List.getElem?_eq_getElem hjl.1]; rfl)
      have hw := wf_i64 (hk _ (getD_mem hjl.1 (z := 0)))
      have hkey := key_does (ks.getD j 0) hw
      have hval := value_does (j : Int) (by omega)
      have hput := k.put sb db (keyN (ks.getD j 0)) (valN j) (keyN_lt _) (valN_len _) (by simp; omega)
      (repeat' (first | refine g_seq (h := ?_) | refine g_region (h := ?_) | refine l_nil (h := ?_) | refine n_then (h := ?_) | refine l_pures1 (h := ?_) | refine l_guard_yes (h := ?_) | refine g_skip (h := ?_) | refine g_block (h := ?_) | (refine l_spT (h := ?_); intro h) | (refine g_spT (h := ?_); intro h)))
      (refine g_draw [Wd b db xb sb rb root, pts gb (.cells row.toArray T0 fr)] (h := a_pass2 (h := ?_)))
      (repeat' (first | refine g_seq (h := ?_) | refine g_region (h := ?_) | refine l_nil (h := ?_) | refine n_then (h := ?_) | refine l_pures1 (h := ?_) | (refine l_atc ?_; refine l_call (hkey) ?_) | (refine l_atc ?_; refine l_call (hval) ?_) | (refine l_atc ?_; refine l_call_ (hput) ?_; rintro _ _ _ ⟨r', S', D', rfl, rfl, k', g', r2⟩ he; cases he) | refine l_store (h := ?_) | refine l_load_p (h := ?_) | refine l_indexAddr (h := ?_) | refine g_skip (h := ?_) | refine a_done (h := ?_) | refine a_load (h := a_pass2 (h := ?_)) | refine a_one (h := ?_) | refine n_any (h := a_pass2 (h := ?_)) | refine n_block (h := ?_) | refine g_cond_f (h := ?_) | refine l_mapUpdate_k (h := ?_)))
      refine n_shut (ins_shuts v5 v6 v7) (h := ?_)
      (refine n_back ((j + 1, r', S', D', putE T (keyN (ks.getD j 0)) (valN j), kvPut kv (keyN (ks.getD j 0) : Nat) true)) ?_ ?_ ?_ ?_; rotate_left; rotate_left; (repeat (first | refine ts_nil | (refine ts_cons rfl ?_ ?_; first | (with_reducible rfl) | rotate_left))); (first | (intro _ i; with_reducible refine i) | rotate_left); (try omega); (try omega))
      · exact ⟨k', hm.put _ _, hjl.1, hjl.2⟩
      · dsimp only; omega
      · rw [wrapI64 (by omega)]; rfl
      · skip
        (intro _ i; exact inv_keep parts_of i)
    · have hx64 : x < 18446744073709551616 := by omega
      (repeat' (first | ((with_reducible show G _ _ _ _ (Code.seq (Code.region 16 _ _) _) _ _ _ _); exact g_bang (stops_tail b db xb sb rb mb x j p ks cap o long root S D T kv k hm h1 hx64 w0 F0)) | refine g_seq (h := ?_) | refine g_region (h := ?_) | refine l_nil (h := ?_) | refine n_then (h := ?_) | refine l_pures1 (h := ?_) | refine l_guard_yes (h := ?_) | refine l_guard_no (h := ?_) | refine g_exit (h := ?_) | refine n_then_exit (h := ?_) | refine n_block_hit (h := ?_) | refine g_cond_f (h := ?_) | (refine l_sp (h1 := ?_) (h0 := ?_) <;> intro h) | (refine g_spF (h := ?_); intro h)))
  · exact ⟨k0, fun y => rfl, Nat.zero_le _, Nat.zero_le _⟩
  · rfl
end Go.Proofs.YtpbibhhjbigdhaaGreat
/- Package tree: even. -/
set_option maxRecDepth 20000
set_option linter.unusedVariables false
set_option linter.unusedSimpArgs false
namespace Go.Proofs.YtpbibhhjbigdhaaGreat
open Go.Proofs.YtpbibhhjbigdhaaGreat.SL

/-- Which one of two neighbours stands first. -/
def fstN (i : Nat) (bd n : Nd) : Nd := if i = 0 then n else bd
def sndN (i : Nat) (bd n : Nd) : Nd := if i = 0 then bd else n
def othN (i : Nat) : Nat := if i = 0 then 1 else i - 1
def lefN (i : Nat) : Nat := i - 1

/-- Up to where both nodes are in hand. -/
abbrev evT (b b5 b8 b12 b13 : Nat) (l : Int) : List (Nat × Value) := [(9, .int .i64 l), (8, .pointer (some ⟨b8, 0, none⟩)), (5, .pointer (some ⟨b5, 0, none⟩)), (12, .pointer (some ⟨b12, 0, none⟩)), (13, .pointer (some ⟨b13, 0, none⟩)), (0, .pointer (some ⟨b, 0, none⟩))]
abbrev evH (b5 b8 b12 b13 : Nat) (spg : Int) (d : Nd) (r : Rw) (i : Nat) (x y : Nd) (rx ry : Rw) (A B C : SProp) : List SProp :=
  [cl b8 79 #[.bool false, .slice none 0 0, .slice none 0 0, .slice none 0 0].toList, cl b5 83 [.int .i64 spg, .bool d.leaf, .slice r.p1 d.keys.length r.c1, .slice r.p2 d.vals.length r.c2, .slice r.p3 d.kids.length r.c3, .int .i64 i], cl b12 79 (ndA x rx).toList, cl b13 79 (ndA y ry).toList, Nds d r, Nds x rx, Nds y ry, A, B, C]

set_option maxHeartbeats 4000000 in
theorem even_head (b sb db deep i : Nat) (spg : Int) (d n bd : Nd) (r rn : Rw) (read : Int) (S : Sh) (D : Dk) (q : Value → List SProp → Prop) (hs : d.good) (hsl : d.leaf = false) (hi : i ≤ d.keys.length) (hk : d.keys ≠ []) (hbd : bd.good) (hlf : bd.leaf = n.leaf)
    (hr : S.read D (d.kids.getD (othN i) 0) = ((2, bd.text, 0), S)) (h1 : 0 ≤ read ∧ read < 640) (h2 : deep + 1 ≤ 10)
    (hT : ∀ w0 F0 b5 b8 b12 b13 r rx ry, G Tryz.prog 156 w0 F0 (nav [1, 1, 1, 1, 1, 1, 1, 1] (bdy Tryz.f38)) (Post Tryz.prog Tryz.f38 w0 F0 q)
      (evT b b5 b8 b12 b13 (lefN i)) [] (evH b5 b8 b12 b13 spg d r i (fstN i bd n) (sndN i bd n) rx ry (Wk b sb (read + 1) 0) (Store sb db S) (Disk db D))) :
    Does Tryz.prog 38 [.pointer (some ⟨b, 0, none⟩), .agg #[.int .i64 spg, .bool d.leaf, .slice r.p1 d.keys.length r.c1, .slice r.p2 d.vals.length r.c2, .slice r.p3 d.kids.length r.c3, .int .i64 i], ndV n rn, .int .i64 deep] [Nds d r, Nds n rn, Wk b sb read 0, Store sb db S, Disk db D] q := by
  have hkl := kidsLen hs.p hsl
  have hkp : 0 < d.keys.length := List.length_pos_iff.2 hk
  have hfk := hs.fits.k
  have hrd := wNode_does b sb db (deep + 1) (d.kids.getD (othN i) 0) read S D bd hbd hr h1 h2
  have ed : IntKind.i64.wrap ((deep : Int) + 1) = ((deep + 1 : Nat) : Int) := by rw [wrapI64 (by omega)]; rfl
  rw [← ed] at hrd
  obtain ⟨p1, c1, p2, c2, p3, c3⟩ := r
  refine does_of Tryz.func38 Tryz.ntmps38 rfl rfl rfl (fun w0 F0 => ?_)
  dsimp only
  (repeat (first | refine g_seq (h := ?_) | refine g_region (h := ?_) | refine l_nil (h := ?_) | refine n_then (h := ?_) | (refine l_box (h := ?_); intro _) | (refine l_alloc (h := ?_); intro _)))
  rename_i b5 b6 b8
  (refine g_draw [cl b5 83 _] (h := a_pass2 (h := ?_)))
  (repeat (first | refine g_seq (h := ?_) | refine g_region (h := ?_) | refine l_nil (h := ?_) | refine n_then (h := ?_) | refine l_pures1 (h := ?_) | refine l_load (h := ?_) | refine a_done (h := ?_) | refine a_load (h := a_pass2 (h := ?_))))
  refine g_open (A := Nds d ⟨p1, c1, p2, c2, p3, c3⟩) (h := ?_); (rintro _ _; dsimp only [NdsK, List.cons_append, List.nil_append])
  refine g_ptr (m := d.kids.length) (h := ?_); rintro g3 rfl hc3
  cases i with
  | zero =>
    have hgk : (d.kids.map encZ')[0 + Int.toNat 1 * 1]? = some (.int .i64 (d.kids.getD 1 0)) := iGet (l := d.kids) (k := 1) (by omega)
    dsimp only [othN, fstN, sndN] at hrd hT
    simp only [if_true, show ((lefN 0 : Nat) : Int) = 0 from rfl] at hrd hT
    (repeat' (first | refine g_seq (h := ?_) | refine g_region (h := ?_) | refine l_nil (h := ?_) | refine n_then (h := ?_) | refine l_pures1 (h := ?_) | (refine l_atc ?_; refine l_call_ (hrd) ?_; rintro _ _ _ ⟨rb, rfl, rfl⟩ he; cases he) | refine l_load (h := ?_) | refine l_store (h := ?_) | (refine l_alloc (h := ?_); intro _) | refine l_indexAddr (h := ?_) | refine g_skip (h := ?_) | refine g_cond_t (h := ?_) | refine g_cond_f (h := ?_) | refine l_load_vec (h := ?_) | (refine g_sp (h1 := ?_) (h0 := ?_) <;> intro h)))
    · exact absurd hlf (by assumption)
    rename_i b11
    (refine g_shut (A := Nds d ⟨p1, c1, p2, c2, some ⟨g3, 0, none⟩, c3⟩) (K := NdsK d ⟨p1, c1, p2, c2, some ⟨g3, 0, none⟩, c3⟩ (())) (hid_shuts (()) trivial) (h := ?_) (p := by dsimp only [NdsK]; (try simp only [List.map_nil, List.length_nil, List.length_set, List.length_append, List.length_cons, List.length_singleton, List.map_append, List.map_cons, Nat.zero_add]); exact parts_of))
    (refine g_draw [cl b11 79 _, cl b6 79 _] (h := a_pass2 (h := ?_)))
    (repeat' (first | ((with_reducible show G _ _ _ _ (Code.seq (Code.region 13 _ _) _) _ _ _ _); exact g_bang (hT w0 F0 b5 b8 _ _ ⟨p1, c1, p2, c2, some ⟨g3, 0, none⟩, c3⟩ rn rb)) | refine g_seq (h := ?_) | refine g_region (h := ?_) | refine l_nil (h := ?_) | refine n_then (h := ?_) | refine l_pures1 (h := ?_) | refine l_load (h := ?_) | refine l_store (h := ?_) | (refine l_alloc (h := ?_); intro _) | refine a_done (h := ?_) | refine a_load (h := a_pass2 (h := ?_)) | refine a_one (h := ?_) | refine n_any (h := a_pass2 (h := ?_)) | refine g_cond_t (h := ?_) | refine a_fork2 (h1 := ?_) (h2 := ?_) | refine a1_of (h := ?_)))
  | succ i =>
    have ew : IntKind.i64.wrap (((i + 1 : Nat) : Int) - 1) = (i : Int) := by rw [wrapI64 (by omega)]; omega
    have hgk : (d.kids.map encZ')[0 + ((i : Nat) : Int).toNat * 1]? = some (.int .i64 (d.kids.getD i 0)) := iGet (l := d.kids) (k := i) (by omega)
    dsimp only [othN, fstN, sndN] at hrd hT
    simp only [show ((lefN (i + 1) : Nat) : Int) = (i : Int) from rfl, Nat.add_eq_zero_iff, Nat.one_ne_zero, and_false, if_false, Nat.add_sub_cancel] at hrd hT
    rw [ew]
    (repeat' (first | refine g_seq (h := ?_) | refine g_region (h := ?_) | refine l_nil (h := ?_) | refine n_then (h := ?_) | refine l_pures1 (h := ?_) | (refine l_atc ?_; refine l_call_ (hrd) ?_; rintro _ _ _ ⟨rb, rfl, rfl⟩ he; cases he) | refine l_load (h := ?_) | refine l_store (h := ?_) | (refine l_alloc (h := ?_); intro _) | refine l_indexAddr (h := ?_) | refine g_skip (h := ?_) | refine g_cond_f (h := ?_) | refine l_load_vec (h := ?_) | (refine g_sp (h1 := ?_) (h0 := ?_) <;> intro h)))
    · exact absurd hlf (by assumption)
    rename_i b11
    (refine g_shut (A := Nds d ⟨p1, c1, p2, c2, some ⟨g3, 0, none⟩, c3⟩) (K := NdsK d ⟨p1, c1, p2, c2, some ⟨g3, 0, none⟩, c3⟩ (())) (hid_shuts (()) trivial) (h := ?_) (p := by dsimp only [NdsK]; (try simp only [List.map_nil, List.length_nil, List.length_set, List.length_append, List.length_cons, List.length_singleton, List.map_append, List.map_cons, Nat.zero_add]); exact parts_of))
    (refine g_draw [cl b11 79 _, cl b6 79 _] (h := a_pass2 (h := ?_)))
    (repeat' (first | ((with_reducible show G _ _ _ _ (Code.seq (Code.region 13 _ _) _) _ _ _ _); exact g_bang (hT w0 F0 b5 b8 _ _ ⟨p1, c1, p2, c2, some ⟨g3, 0, none⟩, c3⟩ rb rn)) | refine g_seq (h := ?_) | refine g_region (h := ?_) | refine l_nil (h := ?_) | refine n_then (h := ?_) | refine l_pures1 (h := ?_) | refine l_store (h := ?_) | (refine l_alloc (h := ?_); intro _) | refine g_skip (h := ?_) | refine a_done (h := ?_) | refine a_load (h := a_pass2 (h := ?_)) | refine a_one (h := ?_) | refine n_any (h := a_pass2 (h := ?_)) | (refine g_spF (h := ?_); intro h) | refine a_fork2 (h1 := ?_) (h2 := ?_) | refine a1_of (h := ?_)))
end Go.Proofs.YtpbibhhjbigdhaaGreat
/- Package tree: even, two nodes joined, or dealt anew. -/
set_option maxRecDepth 20000
set_option linter.unusedVariables false
set_option linter.unusedSimpArgs false
namespace Go.Proofs.YtpbibhhjbigdhaaGreat
open Go.Proofs.YtpbibhhjbigdhaaGreat.SL

theorem set_uV {l : List Nat} {j k : Nat} : (uV l).set (0 + ((j : Nat) : Int).toNat * 1) (Value.int .u64 (k : Nat)) = uV (l.set j k) := by rw [Nat.zero_add, Nat.mul_one, Int.toNat_natCast, uV, uV, List.map_set]
theorem set_encZ {l : List Int} {j : Nat} {m : Int} : (l.map encZ').set (0 + ((j : Nat) : Int).toNat * 1) (Value.int .i64 m) = (l.set j m).map encZ' := by rw [Nat.zero_add, Nat.mul_one, Int.toNat_natCast, List.map_set]; rfl
set_option maxHeartbeats 4000000 in
theorem even_merge (b sb db i j : Nat) (spg : Int) (d x y : Nd) (rd m : Int) (S S1 S2 : Sh) (D D1 : Dk) (hs : d.good) (hsl : d.leaf = false) (hj : j < d.keys.length) (hx : x.fits) (hy : y.fits) (hlf : y.leaf = x.leaf) (hall : (x.both (d.keys.getD j 0) y).fits)
    (hz : (x.both (d.keys.getD j 0) y).size ≤ 240)
    (hL : ∀ r, Does Tryz.prog 35 [.pointer (some ⟨b, 0, none⟩), .int .i64 (d.kids.getD j 0), ndV (x.both (d.keys.getD j 0) y) r] [Wk b sb rd 0, Store sb db S, Disk db D, Nds (x.both (d.keys.getD j 0) y) r] (fun v H => v = .int .i64 m ∧ H = [Wk b sb rd 0, Store sb db S1, Disk db D1, Nds (x.both (d.keys.getD j 0) y) r]))
    (hg : S1.give (d.kids.getD (j + 1) 0) = (0, S2)) (hkb : -9223372036854775808 ≤ d.kids.getD (j + 1) 0 ∧ d.kids.getD (j + 1) 0 < 9223372036854775808)
    (w0 : World) (F0 : Nat → Prop) (b5 b8 b12 b13 : Nat) (r rx ry : Rw) :
    G Tryz.prog 156 w0 F0 (nav [1, 1, 1, 1, 1, 1, 1, 1] (bdy Tryz.f38)) (Post Tryz.prog Tryz.f38 w0 F0 (fun v H => ∃ r, v = ndV (Nd.unhang { d with kids := d.kids.set j m } j) r ∧ H = [Nds (Nd.unhang { d with kids := d.kids.set j m } j) r, Wk b sb rd 0, Store sb db S2, Disk db D1]))
      (evT b b5 b8 b12 b13 (j : Nat)) [] (evH b5 b8 b12 b13 spg d r i x y rx ry (Wk b sb rd 0) (Store sb db S) (Disk db D)) := by
  have hkl := kidsLen hs.p hsl
  have hfk := hs.fits.k
  have hB := tBoth_does x y rx ry (d.keys.getD j 0) hx hy hlf
  have hZ := fun r => ndSize_does (x.both (d.keys.getD j 0) y) r hall
  have hG := sGive_does sb db S1 (d.kids.getD (j + 1) 0) hkb
  rw [hg] at hG
  dsimp only at hG
  have hF := wFail0_does b sb rd
  have ew : IntKind.i64.wrap ((j : Int) + 1) = ((j + 1 : Nat) : Int) := by rw [wrapI64 (by omega)]; rfl
  have hib : 0 ≤ IntKind.i64.wrap ((j : Int) + 1) ∧ IntKind.i64.wrap ((j : Int) + 1) < d.kids.length := by rw [ew]; omega
  have hgi2 : ((d.kids.set j m).map encZ')[0 + (IntKind.i64.wrap ((j : Int) + 1)).toNat * 1]? = some (.int .i64 (d.kids.getD (j + 1) 0)) := by
    rw [ew]
    have := iGet (l := d.kids.set j m) (k := j + 1) (by simp; omega)
    rw [this, List.getD, List.getD, List.getElem?_set_ne (by omega)]
  obtain ⟨p1, c1, p2, c2, p3, c3⟩ := r
  obtain ⟨c, hc⟩ : ∃ c, c = nav [1, 1, 1, 1, 1, 1, 1, 1] (bdy Tryz.f38) := ⟨_, rfl⟩
  rw [← hc]
  dsimp only [nav, bdy, Tryz.f38, Option.getD] at hc
  subst hc
  dsimp only [evT, evH]
  refine g_open (A := Nds d ⟨p1, c1, p2, c2, p3, c3⟩) (h := ?_); (rintro _ _; dsimp only [NdsK, List.cons_append, List.nil_append])
  refine g_ptr (m := d.kids.length) (h := ?_); rintro g3 rfl hc3
  refine g_ptr (m := d.keys.length) (h := ?_); rintro g1 rfl hc1
  have hgk := uGet (l := d.keys) (k := j) hj
  have hgi := iGet (l := d.kids) (k := j) (by omega)
  have hU := nUnhang_does { d with kids := d.kids.set j m } ⟨some ⟨g1, 0, none⟩, c1, p2, c2, some ⟨g3, 0, none⟩, c3⟩ j hsl ⟨hfk, by simpa using hs.fits.i, hs.fits.v, hs.fits.s⟩ hj (show d.vals = [] from noVals hs.p hsl)
  have hU2 : Does Tryz.prog 75 [.agg #[.bool d.leaf, .slice (some ⟨g1, 0, none⟩) d.keys.length c1, .slice p2 d.vals.length c2, .slice (some ⟨g3, 0, none⟩) d.kids.length c3], .int .i64 j] [Nds { d with kids := d.kids.set j m } ⟨some ⟨g1, 0, none⟩, c1, p2, c2, some ⟨g3, 0, none⟩, c3⟩] (fun u H => ∃ r', u = ndV (Nd.unhang { d with kids := d.kids.set j m } j) r' ∧ H = [Nds (Nd.unhang { d with kids := d.kids.set j m } j) r', Nds { d with kids := d.kids.set j m } ⟨some ⟨g1, 0, none⟩, c1, p2, c2, some ⟨g3, 0, none⟩, c3⟩]) := by
    have e : ndV { d with kids := d.kids.set j m } ⟨some ⟨g1, 0, none⟩, c1, p2, c2, some ⟨g3, 0, none⟩, c3⟩ = .agg #[.bool d.leaf, .slice (some ⟨g1, 0, none⟩) d.keys.length c1, .slice p2 d.vals.length c2, .slice (some ⟨g3, 0, none⟩) d.kids.length c3] := by simp
    rw [← e]; exact hU
  (repeat (first | refine g_seq (h := ?_) | refine g_region (h := ?_) | refine l_nil (h := ?_) | refine n_then (h := ?_) | refine l_pures1 (h := ?_) | refine l_load (h := ?_) | refine l_store (h := ?_) | (refine l_alloc (h := ?_); intro _)))
  rename_i b14
  (refine g_draw [cl b12 79 (ndA x rx).toList, cl b13 79 (ndA y ry).toList, cl b14 79 _, vec 38 1 (some ⟨g1, 0, none⟩) d.keys.length c1 (uV d.keys)] (h := a_pass2 (h := ?_)))
  (repeat' (first | refine g_seq (h := ?_) | refine g_region (h := ?_) | refine l_nil (h := ?_) | refine n_then (h := ?_) | refine l_pures1 (h := ?_) | (refine l_atc ?_; refine l_call_ (hB) ?_; rintro _ _ _ ⟨r15, rfl, rfl⟩ he; cases he) | (refine l_atc ?_; refine l_call (hZ _) ?_) | refine l_load (h := ?_) | refine l_store (h := ?_) | (refine l_alloc (h := ?_); intro _) | refine a_done (h := ?_) | refine a_load (h := a_pass2 (h := ?_)) | refine a_one (h := ?_) | refine n_any (h := a_pass2 (h := ?_)) | refine a_v (h := ?_) | refine a_load_vec (h := a_pass2 (h := ?_)) | (refine g_spT (h := ?_); intro h) | refine a_fork2 (h1 := ?_) (h2 := ?_) | refine a1_of (h := ?_)))
  all_goals rename_i b15
  all_goals
    (refine g_draw [cl b14 79 [.bool d.leaf, .slice (some ⟨g1, 0, none⟩) d.keys.length c1, .slice p2 d.vals.length c2, .slice (some ⟨g3, 0, none⟩) d.kids.length c3], cl b15 79 (ndA (x.both (d.keys.getD j 0) y) r15).toList] (h := a_pass2 (h := ?_)))
  all_goals
    (repeat' (first | refine g_seq (h := ?_) | refine g_region (h := ?_) | refine l_nil (h := ?_) | refine n_then (h := ?_) | refine l_pures1 (h := ?_) | (refine l_at 35 ?_; refine l_call (hL r15) ?_) | refine l_load (h := ?_) | refine l_indexAddr (h := ?_) | refine a_done (h := ?_) | refine a_load (h := a_pass2 (h := ?_)) | refine a_one (h := ?_) | refine n_any (h := a_pass2 (h := ?_)) | refine g_cond_t (h := ?_) | refine l_load_vec (h := ?_) | refine l_store_vec (h := ?_)))
  all_goals rw [set_encZ]
  all_goals
    (refine g_draw [Wk b sb rd 0, cl b14 79 [.bool d.leaf, .slice (some ⟨g1, 0, none⟩) d.keys.length c1, .slice p2 d.vals.length c2, .slice (some ⟨g3, 0, none⟩) d.kids.length c3], vec 3 1 (some ⟨g3, 0, none⟩) d.kids.length c3 ((d.kids.set j m).map encZ')] (h := a_pass2 (h := ?_)))
  all_goals
    (repeat (first | refine g_seq (h := ?_) | refine g_region (h := ?_) | refine l_nil (h := ?_) | refine n_then (h := ?_) | refine l_pures1 (h := ?_) | (refine l_atc ?_; refine l_call (hG) ?_) | (refine l_atc ?_; refine l_call (hF) ?_) | refine l_load (h := ?_) | refine l_indexAddr (h := ?_) | refine a_done (h := ?_) | refine a_load (h := a_pass2 (h := ?_)) | refine a_one (h := ?_) | refine n_any (h := a_pass2 (h := ?_)) | refine l_load_vec (h := ?_)))
  all_goals
    (refine l_shut (A := Nds { d with kids := d.kids.set j m } ⟨some ⟨g1, 0, none⟩, c1, p2, c2, some ⟨g3, 0, none⟩, c3⟩) (K := NdsK { d with kids := d.kids.set j m } ⟨some ⟨g1, 0, none⟩, c1, p2, c2, some ⟨g3, 0, none⟩, c3⟩ (())) (hid_shuts (()) trivial) (h := ?_) (p := by dsimp only [NdsK]; (try simp only [List.map_nil, List.length_nil, List.length_set, List.length_append, List.length_cons, List.length_singleton, List.map_append, List.map_cons, Nat.zero_add]); exact parts_of))
  all_goals
    (repeat (first | refine l_nil (h := ?_) | refine n_then (h := ?_) | (refine l_atc ?_; refine l_call_ (hU2) ?_; rintro _ _ _ ⟨rr, rfl, rfl⟩ he; cases he) | refine l_store (h := ?_) | refine g_ret (h := ?_) | refine n_then_ret (h := ?_)))
  all_goals
    refine r_retk [Nds (Nd.unhang { d with kids := d.kids.set j m } j) rr, Wk b sb rd 0, Store sb db S2, Disk db D1] ?_
  all_goals exact ⟨rr, rfl, rfl⟩

set_option maxHeartbeats 4000000 in
theorem even_deal (b sb db i j : Nat) (spg : Int) (d x y al : Nd) (rd m1 m2 : Int) (S S1 S2 : Sh) (D D1 D2 : Dk) (hs : d.good) (hsl : d.leaf = false) (hj : j < d.keys.length) (hx : x.fits) (hy : y.fits) (hlf : y.leaf = x.leaf) (hal : x.both (d.keys.getD j 0) y = al) (hap : al.plain) (hall : al.fits)
    (hz : 240 < al.size) (hz2 : al.size < 10000) (hm : 1 ≤ al.keys.length - 1 - al.up)
    (hL1 : ∀ r, Does Tryz.prog 35 [.pointer (some ⟨b, 0, none⟩), .int .i64 (d.kids.getD j 0), ndV (al.front al.at') r] [Wk b sb rd 0, Store sb db S, Disk db D, Nds (al.front al.at') r] (fun v H => v = .int .i64 m1 ∧ H = [Wk b sb rd 0, Store sb db S1, Disk db D1, Nds (al.front al.at') r]))
    (hL2 : ∀ r, Does Tryz.prog 35 [.pointer (some ⟨b, 0, none⟩), .int .i64 (d.kids.getD (j + 1) 0), ndV (al.back al.at') r] [Wk b sb rd 0, Store sb db S1, Disk db D1, Nds (al.back al.at') r] (fun v H => v = .int .i64 m2 ∧ H = [Wk b sb rd 0, Store sb db S2, Disk db D2, Nds (al.back al.at') r]))
    (w0 : World) (F0 : Nat → Prop) (b5 b8 b12 b13 : Nat) (r rx ry : Rw) :
    G Tryz.prog 156 w0 F0 (nav [1, 1, 1, 1, 1, 1, 1, 1] (bdy Tryz.f38)) (Post Tryz.prog Tryz.f38 w0 F0 (fun v H => ∃ r, v = ndV { d with keys := d.keys.set j (al.keys.getD al.at' 0), kids := (d.kids.set j m1).set (j + 1) m2 } r ∧ H = [Nds { d with keys := d.keys.set j (al.keys.getD al.at' 0), kids := (d.kids.set j m1).set (j + 1) m2 } r, Wk b sb rd 0, Store sb db S2, Disk db D2]))
      (evT b b5 b8 b12 b13 (j : Nat)) [] (evH b5 b8 b12 b13 spg d r i x y rx ry (Wk b sb rd 0) (Store sb db S) (Disk db D)) := by
  have hkl := kidsLen hs.p hsl
  have hfk := hs.fits.k
  have hB := tBoth_does x y rx ry (d.keys.getD j 0) hx hy hlf
  rw [hal] at hB
  have hZ := fun r => ndSize_does al r hall
  have hSp := fun r => nSplit_does al r hap hall hz2 hm
  have ew : IntKind.i64.wrap ((j : Int) + 1) = ((j + 1 : Nat) : Int) := by rw [wrapI64 (by omega)]; rfl
  have hib : 0 ≤ IntKind.i64.wrap ((j : Int) + 1) ∧ IntKind.i64.wrap ((j : Int) + 1) < d.kids.length := by rw [ew]; omega
  have hul : (uV d.keys).length = d.keys.length := by simp [uV]
  have hgi2 : (d.kids.map encZ')[0 + (IntKind.i64.wrap ((j : Int) + 1)).toNat * 1]? = some (.int .i64 (d.kids.getD (j + 1) 0)) := by
    rw [ew]
    exact iGet (l := d.kids) (k := j + 1) (by omega)
  obtain ⟨p1, c1, p2, c2, p3, c3⟩ := r
  obtain ⟨c, hc⟩ : ∃ c, c = nav [1, 1, 1, 1, 1, 1, 1, 1] (bdy Tryz.f38) := ⟨_, rfl⟩
  rw [← hc]
  dsimp only [nav, bdy, Tryz.f38, Option.getD] at hc
  subst hc
  dsimp only [evT, evH]
  refine g_open (A := Nds d ⟨p1, c1, p2, c2, p3, c3⟩) (h := ?_); (rintro _ _; dsimp only [NdsK, List.cons_append, List.nil_append])
  refine g_ptr (m := d.kids.length) (h := ?_); rintro g3 rfl hc3
  refine g_ptr (m := d.keys.length) (h := ?_); rintro g1 rfl hc1
  have hgk := uGet (l := d.keys) (k := j) hj
  have hgi := iGet (l := d.kids) (k := j) (by omega)
  (repeat (first | refine g_seq (h := ?_) | refine g_region (h := ?_) | refine l_nil (h := ?_) | refine n_then (h := ?_) | refine l_pures1 (h := ?_) | refine l_load (h := ?_) | refine l_store (h := ?_) | (refine l_alloc (h := ?_); intro _)))
  rename_i b14
  (refine g_draw [cl b12 79 (ndA x rx).toList, cl b13 79 (ndA y ry).toList, cl b14 79 _, vec 38 1 (some ⟨g1, 0, none⟩) d.keys.length c1 (uV d.keys)] (h := a_pass2 (h := ?_)))
  (repeat' (first | refine g_seq (h := ?_) | refine g_region (h := ?_) | refine l_nil (h := ?_) | refine n_then (h := ?_) | refine l_pures1 (h := ?_) | (refine l_atc ?_; refine l_call_ (hB) ?_; rintro _ _ _ ⟨r15, rfl, rfl⟩ he; cases he) | (refine l_atc ?_; refine l_call (hZ _) ?_) | (refine l_atc ?_; refine l_call_ (hSp _) ?_; rintro _ _ _ ⟨r1, r2, rfl, rfl⟩ he; cases he) | refine l_load (h := ?_) | refine l_store (h := ?_) | (refine l_alloc (h := ?_); intro _) | refine g_skip (h := ?_) | refine a_done (h := ?_) | refine a_load (h := a_pass2 (h := ?_)) | refine a_one (h := ?_) | refine n_any (h := a_pass2 (h := ?_)) | refine a_v (h := ?_) | refine g_cond_f (h := ?_) | refine a_load_vec (h := a_pass2 (h := ?_)) | (refine g_spF (h := ?_); intro h) | refine a_fork2 (h1 := ?_) (h2 := ?_) | refine a1_of (h := ?_)))
  all_goals rename_i b15
  all_goals
    (refine g_draw [cl b12 79 _, cl b14 79 [.bool d.leaf, .slice (some ⟨g1, 0, none⟩) d.keys.length c1, .slice p2 d.vals.length c2, .slice (some ⟨g3, 0, none⟩) d.kids.length c3], vec 3 1 (some ⟨g3, 0, none⟩) d.kids.length c3 (d.kids.map encZ')] (h := a_pass2 (h := ?_)))
  all_goals
    (repeat' (first | refine g_seq (h := ?_) | refine g_region (h := ?_) | refine l_nil (h := ?_) | refine n_then (h := ?_) | refine l_pures1 (h := ?_) | (refine l_at 35 ?_; refine l_call (hL1 r1) ?_) | refine l_load (h := ?_) | refine l_indexAddr (h := ?_) | refine g_skip (h := ?_) | refine a_done (h := ?_) | refine a_load (h := a_pass2 (h := ?_)) | refine a_one (h := ?_) | refine n_any (h := a_pass2 (h := ?_)) | refine g_cond_f (h := ?_) | refine l_load_vec (h := ?_)))
  all_goals
    (refine g_draw [cl b13 79 _, cl b14 79 [.bool d.leaf, .slice (some ⟨g1, 0, none⟩) d.keys.length c1, .slice p2 d.vals.length c2, .slice (some ⟨g3, 0, none⟩) d.kids.length c3]] (h := a_pass2 (h := ?_)))
  all_goals
    (repeat' (first | refine g_seq (h := ?_) | refine g_region (h := ?_) | refine l_nil (h := ?_) | refine n_then (h := ?_) | (refine l_at 35 ?_; refine l_call (hL2 r2) ?_) | refine l_load (h := ?_) | refine l_store (h := ?_) | refine l_indexAddr (h := ?_) | refine g_ret (h := ?_) | refine a_done (h := ?_) | refine a_load (h := a_pass2 (h := ?_)) | refine a_one (h := ?_) | refine n_any (h := a_pass2 (h := ?_)) | refine l_load_vec (h := ?_) | refine l_store_vec (h := ?_)))
  all_goals rw [ew, set_encZ, set_encZ, set_uV]
  all_goals
    (refine n_shut (A := Nds { d with keys := d.keys.set j (al.keys.getD al.at' 0), kids := (d.kids.set j m1).set (j + 1) m2 } ⟨some ⟨g1, 0, none⟩, c1, p2, c2, some ⟨g3, 0, none⟩, c3⟩) (K := NdsK { d with keys := d.keys.set j (al.keys.getD al.at' 0), kids := (d.kids.set j m1).set (j + 1) m2 } ⟨some ⟨g1, 0, none⟩, c1, p2, c2, some ⟨g3, 0, none⟩, c3⟩ (())) (hid_shuts (()) trivial) (h := ?_) (p := by dsimp only [NdsK]; (try simp only [List.map_nil, List.length_nil, List.length_set, List.length_append, List.length_cons, List.length_singleton, List.map_append, List.map_cons, Nat.zero_add]); exact parts_of))
  all_goals
    refine r_retk [Nds { d with keys := d.keys.set j (al.keys.getD al.at' 0), kids := (d.kids.set j m1).set (j + 1) m2 } ⟨some ⟨g1, 0, none⟩, c1, p2, c2, some ⟨g3, 0, none⟩, c3⟩, Wk b sb rd 0, Store sb db S2, Disk db D2] ?_
  all_goals exact ⟨⟨some ⟨g1, 0, none⟩, c1, p2, c2, some ⟨g3, 0, none⟩, c3⟩, by simp [packV], rfl⟩
end Go.Proofs.YtpbibhhjbigdhaaGreat
/- Delete, plainly: a node in hand and its neighbour. No code. -/
set_option maxRecDepth 20000
set_option linter.unusedVariables false
set_option linter.unusedSimpArgs false
namespace Go.Proofs.YtpbibhhjbigdhaaGreat
open Go.Proofs.YtpbibhhjbigdhaaGreat.SL

def LinkTo : List Spot → Int → Prop
  | [], _ => True
  | s :: up, pg => s.d.kids.getD s.i 0 = pg ∧ LinkTo up s.pg
/-- A node in hand that may be low, or have nothing. -/
structure HandD (N : Nat) (U : List Int) (T : List Ent) (S : Sh) (D : Dk) (up : List Spot) (pg : Int) (n : Nd) (h : Nat) (Lf Rt es : List Ent) (ps qs : List Int) : Prop where
  fine : Fine N S D U
  way : Way (Gd N D) up h Lf Rt qs
  nt : NT (Gd N D) h n es ps
  pages : (pg :: (ps ++ qs)).Perm (S.after U)
  fit : ∀ e ∈ es, FitsP up e.1
  all : Lf ++ (es ++ Rt) = T
  size : n.size ≤ 240
  link : LinkTo up pg

theorem mem_take_self {α : Type} {l : List α} {j : Nat} (h : j < l.length) : l[j] ∈ l.take (j + 1) := by
  have : (l.take (j + 1))[j]'(by simp; omega) = l[j] := by simp
  rw [← this]
  exact List.getElem_mem _
theorem both_keys {a b : Nd} {mid : Nat} (h : a.keys ≠ [] ∨ b.keys ≠ []) : (a.both mid b).keys ≠ [] := by
  unfold Nd.both
  dsimp only
  split
  · rcases h with h | h <;> simp [h]
  · simp
/-- The node in hand and its neighbour, as one; what stands beside. -/
structure Pair (N : Nat) (U : List Int) (T : List Ent) (S : Sh) (D : Dk) (s : Spot) (up : List Spot) (n : Nd) (h : Nat) (bd : Nd) (sl sr : List Sub) (L' R' es : List Ent) (ps q0 : List Int) : Prop where
  jlt : lefN s.i < s.d.keys.length
  go : Gd N D (s.d.kids.getD (othN s.i) 0) bd
  gb : bd.good
  lf : bd.leaf = n.leaf
  two : Two (Gd N D) h s.d (lefN s.i) sl sr
  nt : NT (Gd N D) h ((fstN s.i bd n).both (s.d.keys.getD (lefN s.i) 0) (sndN s.i bd n)) es ps
  sz : ((fstN s.i bd n).both (s.d.keys.getD (lefN s.i) 0) (sndN s.i bd n)).size ≤ 340
  ne : ((fstN s.i bd n).both (s.d.keys.getD (lefN s.i) 0) (sndN s.i bd n)).keys ≠ []
  f2 : ∀ e ∈ es, Fits2 s.d (lefN s.i) e.1
  fp : ∀ e ∈ es, FitsP up e.1
  way : Way (Gd N D) up (h + 1) L' R' q0
  gs : Gd N D s.pg s.d
  fs : ∀ e ∈ Sub.all sl ++ Sub.all sr, FitsP up e.1
  all : L' ++ ((Sub.all sl ++ (es ++ Sub.all sr)) ++ R') = T
  pages : (s.d.kids.getD (lefN s.i) 0 :: s.d.kids.getD (lefN s.i + 1) 0 :: (ps ++ (s.pg :: (Sub.pages sl ++ (Sub.pages sr ++ q0))))).Perm (S.after U)

theorem HandD.pair {N : Nat} {U : List Int} {T : List Ent} {S : Sh} {D : Dk} {s : Spot} {up : List Spot} {pg : Int} {n : Nd} {h : Nat} {Lf Rt es : List Ent} {ps qs : List Int} (k : HandD N U T S D (s :: up) pg n h Lf Rt es ps qs) (hz : n.size < 80) :
    ∃ bd sl sr L' R' es' ps' q0, Pair N U T S D s up n h bd sl sr L' R' es' ps' q0 := by
  obtain ⟨L', R', q0, sl, sr, w, g, mid, fs, rfl, rfl, rfl⟩ := k.way
  have hN := k.fine.n
  have hkl := kidsLen mid.good.p mid.leaf
  have hkp : 0 < s.d.keys.length := List.length_pos_iff.2 mid.ne
  obtain ⟨spg, d, i⟩ := s
  have hlink := k.link.1
  dsimp only at *
  cases i with
  | zero =>
    obtain ⟨kk, sb, sr', rfl, hk1, ⟨bd, ps', g1, g2, g3, g4, g5⟩, two, hf⟩ := two_right mid hkp
    have hsl : sl = [] := by have := mid.ol.len; simpa using this.symm
    subst hsl
    have hkk : d.kids.getD 1 0 = kk := by rw [List.getD, hk1]; rfl
    have hm64 : d.keys.getD 0 0 < 18446744073709551616 := mid.good.p.key _ (getD_mem hkp)
    have hd0 : d.keys.getD 0 0 ∈ d.keys.drop 0 := by rw [List.drop_zero]; exact getD_mem hkp
    obtain ⟨nt, sz⟩ := both_nt (mid := d.keys.getD 0 0) k.nt g4 (fun e he => (k.fit e he).1.2 _ hd0) (fun e he => (hf e he).2) hm64
    have hlf : bd.leaf = n.leaf := by
      have a := g4.leaf
      have b := k.nt.leaf
      cases h1 : bd.leaf <;> cases h2 : n.leaf <;> simp_all
    have hbk : bd.keys ≠ [] := by
      cases h1 : bd.leaf
      · exact g3 h1
      · exact List.length_pos_iff.1 (g2.some h1)
    refine ⟨bd, [], sr', L', R', _, _, q0, ⟨hkp, by rw [show othN 0 = 1 from rfl, hkk]; exact g1, g2, hlf, two, nt, ?_, both_keys (.inr hbk), ?_, ?_, w, g, ?_, ?_, ?_⟩⟩
    · have := g2.size
      show (n.both (d.keys.getD 0 0) bd).size ≤ 340
      omega
    · intro e he
      rcases List.mem_append.1 he with he | he
      · exact ⟨by simp [lefN], fun k' hk' => (k.fit e he).1.2 k' (by rw [List.drop_zero]; exact List.mem_of_mem_drop hk')⟩
      · exact (hf e he).1
    · intro e he
      rcases List.mem_append.1 he with he | he
      · exact (k.fit e he).2
      · exact fs e (by simp [Sub.all_cons, he])
    · intro e he
      exact fs e (by simp only [List.mem_append, Sub.all_cons] at he ⊢; exact he.elim .inl fun q => .inr (.inr q))
    · rw [← k.all]; simp [Sub.all_cons]
    · refine List.Perm.trans ?_ k.pages
      rw [show lefN 0 = 0 from rfl, hlink, hkk, Sub.pages_cons, g5]
      refine List.perm_iff_count.2 fun a => ?_
      simp only [List.count_append, List.count_cons, List.cons_append]
      omega
  | succ j =>
    have hj : j < d.keys.length := by have := mid.ile; omega
    obtain ⟨kk, sl', sb, rfl, hk1, ⟨bd, ps', g1, g2, g3, g4, g5⟩, two, hf⟩ := two_left mid
    have hkk : d.kids.getD j 0 = kk := by rw [List.getD, hk1]; rfl
    have hm64 : d.keys.getD j 0 < 18446744073709551616 := mid.good.p.key _ (getD_mem hj)
    have hdj : d.keys.getD j 0 ∈ d.keys.take (j + 1) := by
      have := mem_take_self hj
      simpa [List.getD, hj] using this
    obtain ⟨nt, sz⟩ := both_nt (mid := d.keys.getD j 0) g4 k.nt (fun e he => (hf e he).2) (fun e he => (k.fit e he).1.1 _ hdj) hm64
    have hlf : bd.leaf = n.leaf := by
      have a := g4.leaf
      have b := k.nt.leaf
      cases h1 : bd.leaf <;> cases h2 : n.leaf <;> simp_all
    have hbk : bd.keys ≠ [] := by
      cases h1 : bd.leaf
      · exact g3 h1
      · exact List.length_pos_iff.1 (g2.some h1)
    have hrise := mid.good.p.rise
    refine ⟨bd, sl', sr, L', R', _, _, q0, ⟨hj, by rw [show othN (j + 1) = j by simp [othN], hkk]; exact g1, g2, hlf, two, nt, ?_, both_keys (.inl hbk), ?_, ?_, w, g, ?_, ?_, ?_⟩⟩
    · have := g2.size
      have e1 : fstN (j + 1) bd n = bd := by simp [fstN]
      have e2 : sndN (j + 1) bd n = n := by simp [sndN]
      rw [e1, e2]
      show (bd.both (d.keys.getD j 0) n).size ≤ 340
      omega
    · intro e he
      rcases List.mem_append.1 he with he | he
      · refine ⟨(hf e he).1, fun k' hk' => ?_⟩
        have h1 := (hf e he).2
        have h2 := (rise_take_drop hrise hj).2
        have hk2 : k' ∈ d.keys.drop (j + 1) := hk'
        have h3 : d.keys[j] < k' := by
          have := hrise
          rw [← List.take_append_drop (j + 1) d.keys] at this
          have hm : d.keys[j] ∈ d.keys.take (j + 1) := mem_take_self hj
          exact (List.pairwise_append.1 this).2.2 _ hm _ hk2
        have h4 : d.keys.getD j 0 = d.keys[j] := by simp [List.getD, hj]
        omega
      · exact ⟨fun k' hk' => (k.fit e he).1.1 k' (by rw [List.take_succ_eq_append_getElem hj]; exact List.mem_append_left _ hk'), (k.fit e he).1.2⟩
    · intro e he
      rcases List.mem_append.1 he with he | he
      · exact fs e (by simp [Sub.all, he])
      · exact (k.fit e he).2
    · intro e he
      exact fs e (by simp only [List.mem_append, Sub.all_append] at he ⊢; exact he.elim (fun q => .inl (.inl q)) .inr)
    · rw [← k.all]; simp [Sub.all]
    · refine List.Perm.trans ?_ k.pages
      have hl2 : d.kids.getD (lefN (j + 1) + 1) 0 = pg := hlink
      rw [hl2, show lefN (j + 1) = j from rfl, hkk, Sub.pages_append]
      refine List.perm_iff_count.2 fun a => ?_
      have e5 : Sub.pages [sb] = kk :: ps' := by simp [Sub.pages, g5]
      rw [e5]
      simp only [List.count_append, List.count_cons, List.cons_append]
      omega
end Go.Proofs.YtpbibhhjbigdhaaGreat

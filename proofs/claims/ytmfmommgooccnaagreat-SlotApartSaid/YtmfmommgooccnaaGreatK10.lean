/- Texts TrSc, TrDa, TrDb, TrDc, TrDd, TrDe, TrDf, TrDg, TrDh, TlP, TxA, TxB, TxC, TlD, StA, StB, StC, SlU, StD, SlV, StF, joined. -/
import Derived.Test.YtmfmommgooccnaaGreatK09
/- Package tree: Scan. -/
set_option maxRecDepth 20000
set_option linter.unusedVariables false
set_option linter.unusedSimpArgs false
namespace Go.Proofs.YtmfmommgooccnaaGreat
open Go.Proofs.YtmfmommgooccnaaGreat.SL

def entC (es : List Ent) : List Value := es.flatMap fun e => [Value.int .u64 (e.1 : Nat), .string (str e.2)]
theorem entC_snoc (es : List Ent) (e : Ent) : entC (es ++ [e]) = entC es ++ [Value.int .u64 (e.1 : Nat), .string (str e.2)] := by simp [entC]
theorem entC_len (es : List Ent) : (entC es).length = es.length * 2 := by
  induction es with
  | nil => rfl
  | cons e es ih => simp only [entC, List.flatMap_cons, List.length_append, List.length_cons, List.length_nil] at *; omega

theorem entries_does (b : Nat) (root : Int) (x : Nat) : Does Tryz.prog 123 [.pointer (some ⟨b, 0, none⟩), .int .i64 root, .int .u64 x] []
    (fun v H => ∃ b1 b2 b3, v = .func (.func 163) #[] #[.pointer (some ⟨b1, 0, none⟩), .pointer (some ⟨b2, 0, none⟩), .pointer (some ⟨b3, 0, none⟩)] ∧
      H = [cl b1 169 [.pointer (some ⟨b, 0, none⟩)], cl b2 3 [.int .i64 root], cl b3 30 [.int .u64 x]]) := by
  refine does_of Tryz.func123 Tryz.ntmps123 rfl rfl rfl (fun w0 F0 => ?_)
  (repeat (first | refine g_seq (h := ?_) | refine g_region (h := ?_) | refine l_nil (h := ?_) | refine n_then (h := ?_) | refine l_pures1 (h := ?_) | (refine l_box (h := ?_); intro _) | refine g_ret (h := ?_)))
  rename_i b1 b2 b3
  refine r_retk [cl b1 169 [.pointer (some ⟨b, 0, none⟩)], cl b2 3 [.int .i64 root], cl b3 30 [.int .u64 x]] ?_
  exact ⟨b1, b2, b3, rfl, rfl⟩

theorem entriesF_does (b b1 b2 b3 sb db l : Nat) (root : Int) (x : Nat) (S : Sh) (D : Dk) (K : List SProp) (q : Value → List SProp → Prop) (A : SProp)
    (hd : Does Tryz.prog 164 [.pointer (some ⟨b, 0, none⟩), .int .i64 root, .int .i64 1, .int .u64 x, .func (.yield l) #[] #[]] [A, Wk b sb 0 0, Store sb db S, Disk db D] q) :
    Does Tryz.prog 163 [.func (.yield l) #[] #[], .pointer (some ⟨b1, 0, none⟩), .pointer (some ⟨b2, 0, none⟩), .pointer (some ⟨b3, 0, none⟩)]
      [A, Wk b sb 0 0, Store sb db S, Disk db D, cl b1 169 [.pointer (some ⟨b, 0, none⟩)], cl b2 3 [.int .i64 root], cl b3 30 [.int .u64 x]]
      (fun v H => ∃ u K', q u K' ∧ H = K' ++ [cl b1 169 [.pointer (some ⟨b, 0, none⟩)], cl b2 3 [.int .i64 root], cl b3 30 [.int .u64 x]]) := by
  refine does_of Tryz.func163 Tryz.ntmps163 rfl rfl rfl (fun w0 F0 => ?_)
  (repeat (first | refine g_region (h := ?_) | refine l_pures1 (h := ?_) | (refine l_atc ?_; refine l_call_ (hd) ?_) | refine l_load (h := ?_)))
  rintro v K' H'' hq he
  rw [appO_eq] at he
  cases he
  (repeat refine l_nil (h := ?_))
  refine r_end ?_
  exact ⟨v, K', hq, rfl⟩

/-- The consumer of Scan: the loop's record, what was found, how many are asked. -/
abbrev ScK (l n : Nat) (tm : List (Nat × Value)) (asg body : Code) (st : LoopState) (pe : Option Code) (b11 b7 : Nat) (most : Int) (dn : List Ent) (x : Option Addr × Nat) : List SProp :=
  [lp l n tm #[26] asg body st pe, cl b11 50 [.slice x.1 dn.length x.2], vec 199 2 x.1 dn.length x.2 (entC dn), cl b7 3 [.int .i64 most]]
def Sc (l n : Nat) (tm : List (Nat × Value)) (asg body : Code) (st : LoopState) (pe : Option Code) (b11 b7 : Nat) (most : Int) (dn : List Ent) : SProp := hid (fun _ : Option Addr × Nat => True) (ScK l n tm asg body st pe b11 b7 most dn)

set_option maxHeartbeats 4000000 in
theorem scan_yields0 (l b11 b7 : Nat) (most : Int) (tm0 : List (Nat × Value)) (asg body : Code) (dn : List Ent) (e : Ent) (p : Option Addr) (cap : Nat) (hdn : dn.length < 100000) (w11 : tget tm0 11 = some (.pointer (some ⟨b11, 0, none⟩))) (w7 : tget tm0 7 = some (.pointer (some ⟨b7, 0, none⟩)))
    (hA : asg = rfA (nav [1, 1, 1, 1, 0, 1, 2] (bdy Tryz.f71))) (hB : body = rfB (nav [1, 1, 1, 1, 0, 1, 2] (bdy Tryz.f71))) :
    SL.Yields Tryz.prog l [entV e] (ScK l 45 tm0 asg body .ready none b11 b7 most dn (p, cap))
      (fun v H => v = .bool (!decide (((dn ++ [e]).length : Int) = most)) ∧ ∃ x R, Parts (if ((dn ++ [e]).length : Int) = most then ScK l 45 tm0 asg body .done (some (.exit 0)) b11 b7 most (dn ++ [e]) x else ScK l 45 tm0 asg body .ready none b11 b7 most (dn ++ [e]) x) H R) := by
  dsimp only [ScK]
  refine yields_of (ps := [26]) (fun w0 F0 => ?_)
  refine gr_weak (tm' := [(26, entV e), (11, .pointer (some ⟨b11, 0, none⟩)), (7, .pointer (some ⟨b7, 0, none⟩))]) ⟨rfl, w11, w7, trivial⟩ (fun i => i) ?_
  have e0 : (dn ++ [e]).length = dn.length + 1 := by simp
  have e1 : entC dn ++ #[Value.int .u64 (e.1 : Nat), .string (str e.2)].toList = entC (dn ++ [e]) := (entC_snoc dn e).symm
  refine gr_as hA ?_
  dsimp only [rfA, nav, bdy, Tryz.f71, Option.getD]
  (repeat (first | refine l_nil (h := ?_) | refine l_store (h := ?_) | (refine l_alloc (h := ?_); intro _) | refine gr_region (h := ?_)))
  rename_i b12
  refine n_begin (h := ?_)
  refine gr_as hB ?_
  dsimp only [rfA, rfB, nav, bdy, Tryz.f71, Option.getD]
  (repeat' (first | refine l_nil (h := ?_) | refine l_pures1 (h := ?_) | refine l_load (h := ?_) | refine l_store (h := ?_) | (refine l_buildSlice1 (h := ?_); intro _) | (refine l_append_new (h := ?_); intro _ _) | refine n_block_miss (h := ?_) | refine n_block (h := ?_) | refine gr_seq (h := ?_) | refine gr_region (h := ?_) | refine nr_then (h := ?_) | refine gr_block (h := ?_) | refine gr_skip (h := ?_) | refine gr_exit (h := ?_) | (refine gr_sp (h1 := ?_) (h0 := ?_) <;> intro h)))
  all_goals rename_i b1 p' cap'
  all_goals have hm := h
  all_goals rw [← e0] at hm ⊢
  all_goals rw [e1]
  · refine n_round_x ⟨by rw [decide_eq_true hm]; rfl, (p', cap'), ?_⟩
    rw [if_pos hm]
    exact ⟨_, parts_of⟩
  · refine n_round ⟨by rw [decide_eq_false hm]; rfl, (p', cap'), ?_⟩
    rw [if_neg hm]
    exact ⟨_, parts_of⟩
theorem scan_yields (l b11 b7 : Nat) (most : Int) (tm0 : List (Nat × Value)) (asg body : Code) (w11 : tget tm0 11 = some (.pointer (some ⟨b11, 0, none⟩))) (w7 : tget tm0 7 = some (.pointer (some ⟨b7, 0, none⟩)))
    (hA : asg = rfA (nav [1, 1, 1, 1, 0, 1, 2] (bdy Tryz.f71))) (hB : body = rfB (nav [1, 1, 1, 1, 0, 1, 2] (bdy Tryz.f71))) (dn : List Ent) (e : Ent) (hdn : dn.length < 100000) :
    SL.Yields Tryz.prog l [entV e] [Sc l 45 tm0 asg body .ready none b11 b7 most dn] (fun v H => v = .bool (!decide (((dn ++ [e]).length : Int) = most)) ∧ H = [if decide (((dn ++ [e]).length : Int) = most) = true then Sc l 45 tm0 asg body .done (some (.exit 0)) b11 b7 most (dn ++ [e]) else Sc l 45 tm0 asg body .ready none b11 b7 most (dn ++ [e])]) := by
  refine SL.Yields.open hid_opens ?_
  rintro ⟨p, cap⟩ _
  refine (scan_yields0 l b11 b7 most tm0 asg body dn e p cap hdn w11 w7 hA hB).post ?_
  rintro v H' ⟨rfl, x, R, hp⟩
  refine ⟨_, ⟨rfl, rfl⟩, ?_⟩
  intro w0 F0 w i
  by_cases hm : ((dn ++ [e]).length : Int) = most
  · rw [if_pos hm] at hp
    rw [if_pos (by simpa using hm)]
    exact shut_of (p := fun _ : Option Addr × Nat => True) (K := ScK l 45 tm0 asg body .done (some (.exit 0)) b11 b7 most (dn ++ [e])) x trivial hp i
  · rw [if_neg hm] at hp
    rw [if_neg (by simpa using hm)]
    exact shut_of (p := fun _ : Option Addr × Nat => True) (K := ScK l 45 tm0 asg body .ready none b11 b7 most (dn ++ [e])) x trivial hp i

/-- The first keys from one on. -/
theorem feed_take (most : Int) (h : 1 ≤ most) : ∀ (es dn : List Ent), (dn.length : Int) < most → feed (fun l => decide ((l.length : Int) = most)) dn es = if dn.length + es.length < most then (dn ++ es, false) else (dn ++ es.take (most.toNat - dn.length), true)
  | [], dn, hl => by
    rw [if_pos (by simpa using hl)]; simp [feed]
  | e :: es, dn, hl => by
    simp only [feed, List.length_append, List.length_cons, List.length_nil, Nat.zero_add]
    by_cases q : ((dn.length + 1 : Nat) : Int) = most
    · rw [if_pos (by simpa using q), if_neg (by omega)]
      have : most.toNat - dn.length = 1 := by omega
      rw [this]; simp
    · rw [if_neg (by simpa using q), feed_take most h es (dn ++ [e]) (by simp; omega)]
      simp only [List.length_append, List.length_cons, List.length_nil, Nat.zero_add]
      by_cases q2 : ((dn.length + 1 : Nat) : Int) + (es.length : Nat) < most
      · rw [if_pos (by omega), if_pos (by omega)]; simp
      · rw [if_neg (by omega), if_neg (by omega)]
        have : most.toNat - dn.length = (most.toNat - (dn.length + 1)) + 1 := by omega
        rw [this, List.take_succ_cons]; simp

/-- What Scan has behind its loop. -/
def ScF (bw b11 b7 b1 b2 b3 sb db x : Nat) (root most : Int) (S : Sh) (D : Dk) (es : List Ent) (K' : List SProp) : Prop :=
  ∃ (p : Option Addr) (cap : Nat) (rd : Int), K' = [cl b11 50 [.slice p es.length cap], vec 199 2 p es.length cap (entC es), cl b7 3 [.int .i64 most], Wk bw sb rd 0, Store sb db S, Disk db D, cl b1 169 [.pointer (some ⟨bw, 0, none⟩)], cl b2 3 [.int .i64 root], cl b3 30 [.int .u64 x]]
theorem scan_hs (bw b11 b7 b1 b2 b3 sb db x N : Nat) (root most : Int) (U : List Int) (T : List Ent) (S : Sh) (D : Dk) (k : Fine N S D U) {h : Nat} {ps : List Int} (o : OnP (Gd N D) h root ⟨T, ps⟩) (hp : ps.length + 2 ≤ N) (hT : T.length < 10000) (hmo : 1 ≤ most) (l : Nat)
    (tm0 : List (Nat × Value)) (asg body : Code) (w11 : tget tm0 11 = some (.pointer (some ⟨b11, 0, none⟩))) (w7 : tget tm0 7 = some (.pointer (some ⟨b7, 0, none⟩)))
    (hA : asg = rfA (nav [1, 1, 1, 1, 0, 1, 2] (bdy Tryz.f71))) (hB : body = rfB (nav [1, 1, 1, 1, 0, 1, 2] (bdy Tryz.f71))) :
    Does Tryz.prog 163 [.func (.yield l) #[] #[], .pointer (some ⟨b1, 0, none⟩), .pointer (some ⟨b2, 0, none⟩), .pointer (some ⟨b3, 0, none⟩)]
      [lp l 45 tm0 #[26] asg body .ready none, cl b11 50 [.slice none 0 0], vec 199 2 none 0 0 [], cl b7 3 [.int .i64 most], Wk bw sb 0 0, Store sb db S, Disk db D, cl b1 169 [.pointer (some ⟨bw, 0, none⟩)], cl b2 3 [.int .i64 root], cl b3 30 [.int .u64 x]]
      (fun _ H' => (∃ K', H' = lp l 45 tm0 #[26] asg body .ready none :: K' ∧ ScF bw b11 b7 b1 b2 b3 sb db x root most S D ((geE T x).take most.toNat) K') ∨ ∃ c K', H' = lp l 45 tm0 #[26] asg body .done (some c) :: K' ∧ c = .exit 0 ∧ ScF bw b11 b7 b1 b2 b3 sb db x root most S D ((geE T x).take most.toNat) K') := by
  have hN := k.n
  have hh := o.high
  obtain ⟨d, ps1, g, hd, hne, hn, e⟩ := o
  dsimp only at e hn
  subst e
  simp only [List.length_cons] at hp hh
  have h8 := high_le hh (by omega)
  have hf := from_does bw sb db x N l (fun dn => Sc l 45 tm0 asg body .ready none b11 b7 most dn) (fun dn => Sc l 45 tm0 asg body .done (some (.exit 0)) b11 b7 most dn) (fun l => decide ((l.length : Int) = most)) (fun dn e hdn => scan_yields l b11 b7 most tm0 asg body w11 w7 hA hB dn e hdn) k h d T ps1 1 root 0 [] hn hd hne g (by omega) (by omega) (by omega) (by simp; omega)
  have hpre : ∀ {w0 : World} {F0 : Nat → Prop} {w : World}, Inv w0 F0 (lp l 45 tm0 #[26] asg body .ready none :: [cl b11 50 [.slice none 0 0], vec 199 2 none 0 0 [], cl b7 3 [.int .i64 most], Wk bw sb 0 0, Store sb db S, Disk db D, cl b1 169 [.pointer (some ⟨bw, 0, none⟩)], cl b2 3 [.int .i64 root], cl b3 30 [.int .u64 x]]) w → Inv w0 F0 (Sc l 45 tm0 asg body .ready none b11 b7 most [] :: [Wk bw sb 0 0, Store sb db S, Disk db D, cl b1 169 [.pointer (some ⟨bw, 0, none⟩)], cl b2 3 [.int .i64 root], cl b3 30 [.int .u64 x]]) w := fun i =>
    Inv.shuts (K := ScK l 45 tm0 asg body .ready none b11 b7 most [] (none, 0)) (hid_shuts (p := fun _ : Option Addr × Nat => True) (K := ScK l 45 tm0 asg body .ready none b11 b7 most []) (none, 0) trivial) i
  have hft := feed_take most hmo (geE T x) [] (by simp; omega)
  by_cases hlt : ((geE T x).length : Int) < most
  · have e : (geE T x).take most.toNat = geE T x := List.take_of_length_le (by omega)
    rw [if_pos (by simpa using hlt), List.nil_append] at hft
    rw [hft] at hf
    refine does_pre (does_post (entriesF_does bw b1 b2 b3 sb db l root x S D [] _ _ hf) ?_) hpre
    rintro v H1 ⟨u, K', ⟨rd, r1, r2, rfl, rfl⟩, rfl⟩ w0 F0 w i
    rw [e]
    obtain ⟨⟨p, cap⟩, _, i2⟩ := Inv.opens (H := [Wk bw sb rd 0, Store sb db S, Disk db D, cl b1 169 [.pointer (some ⟨bw, 0, none⟩)], cl b2 3 [.int .i64 root], cl b3 30 [.int .u64 x]]) (hid_opens (p := fun _ : Option Addr × Nat => True) (K := ScK l 45 tm0 asg body .ready none b11 b7 most (geE T x))) i
    exact ⟨lp l 45 tm0 #[26] asg body .ready none :: _, .inl ⟨_, rfl, p, cap, rd, rfl⟩, i2⟩
  · rw [if_neg (by simpa using hlt), List.nil_append, List.length_nil, Nat.sub_zero] at hft
    rw [hft] at hf
    refine does_pre (does_post (entriesF_does bw b1 b2 b3 sb db l root x S D [] _ _ hf) ?_) hpre
    rintro v H1 ⟨u, K', ⟨rd, r1, r2, rfl, rfl⟩, rfl⟩ w0 F0 w i
    obtain ⟨⟨p, cap⟩, _, i2⟩ := Inv.opens (H := [Wk bw sb rd 0, Store sb db S, Disk db D, cl b1 169 [.pointer (some ⟨bw, 0, none⟩)], cl b2 3 [.int .i64 root], cl b3 30 [.int .u64 x]]) (hid_opens (p := fun _ : Option Addr × Nat => True) (K := ScK l 45 tm0 asg body .done (some (.exit 0)) b11 b7 most ((geE T x).take most.toNat))) i
    exact ⟨lp l 45 tm0 #[26] asg body .done (some (.exit 0)) :: _, .inr ⟨_, _, rfl, rfl, p, cap, rd, rfl⟩, i2⟩
/-- A tree, whatever else there is on the disk. -/
def OldTree (N : Nat) (D : Dk) (root : Int) (T : List Ent) : Prop := (root = 0 ∧ T = []) ∨ ∃ h ps, OnP (Gd N D) h root ⟨T, ps⟩ ∧ ps.length + 2 ≤ N
theorem Fine.afterFew {N : Nat} {S : Sh} {D : Dk} {U : List Int} (k : Fine N S D U) : (S.after U).length + 2 ≤ N := by
  have hN := k.n
  have hal := nodup_sub (A := S.after U) (B := (List.range' 2 (N - 2)).map (fun n : Nat => (n : Int))) k.afterNodup (by
    intro a ha
    have ha2 : 2 ≤ a ∧ a < N := by
      rcases (Sh.mem_after.1 ha).1 with h | h
      · have := k.h.b a h; omega
      · have := k.f.2 a h; omega
    exact List.mem_map.2 ⟨a.toNat, List.mem_range'_1.2 (by omega), by omega⟩)
  simp only [List.length_map, List.length_range'] at hal
  omega
theorem IsTree.old {N : Nat} {S : Sh} {D : Dk} {U : List Int} {root : Int} {T : List Ent} (ht : IsTree N S D U root T) (k : Fine N S D U) : OldTree N D root T := by
  rcases ht with ⟨h1, h2, _⟩ | ⟨h, ps, o, hp⟩
  · exact .inl ⟨h1, h2⟩
  · exact .inr ⟨h, ps, o, by have := hp.length_eq; have := k.afterFew; omega⟩
set_option maxHeartbeats 4000000 in
theorem scan_old (sb db x N : Nat) (root most : Int) (U : List Int) (T : List Ent) (S : Sh) (D : Dk) (k : Fine N S D U) (ht : OldTree N D root T) (hT : T.length < 10000) (hm64 : -9223372036854775808 ≤ most ∧ most < 9223372036854775808) :
    Does Tryz.prog 71 [.pointer (some ⟨sb, 0, none⟩), .int .i64 root, .int .u64 x, .int .i64 most] [Store sb db S, Disk db D]
      (fun v H => ∃ p cap, v = .tuple #[.slice p ((geE T x).take most.toNat).length cap, .int .i64 0] ∧ H = [vec 199 2 p ((geE T x).take most.toNat).length cap (entC ((geE T x).take most.toNat)), Store sb db S, Disk db D]) := by
  have hnil : root = 0 → T = [] := by
    rintro rfl
    rcases ht with ⟨_, h⟩ | ⟨h, ps, ⟨d, ps1, g, _⟩, _⟩
    · exact h
    · have := g.1; omega
  refine does_of_m Tryz.func71 Tryz.ntmps71 rfl rfl rfl (fun w0 F0 => ?_)
  (repeat' (first | refine g_seq (h := ?_) | refine g_region (h := ?_) | refine l_nil (h := ?_) | refine n_then (h := ?_) | refine l_pures1 (h := ?_) | refine l_guard_yes (h := ?_) | refine l_guard_no (h := ?_) | refine l_load (h := ?_) | (refine l_box (h := ?_); intro _) | (refine l_alloc (h := ?_); intro _) | refine g_skip (h := ?_) | refine g_ret (h := ?_) | refine n_then_ret (h := ?_) | refine g_cond_t (h := ?_) | (refine l_sp (h1 := ?_) (h0 := ?_) <;> intro h) | (refine g_sp (h1 := ?_) (h0 := ?_) <;> intro h)))
  · refine n_inv (fun i => vec_nil (199) (2) i) ?_
    have e : (geE T x).take most.toNat = [] := by rw [hnil (by assumption)]; simp [geE]
    rw [e]
    refine r_retm [vec 199 2 none 0 0 [], Store sb db S, Disk db D] ?_
    exact ⟨none, 0, rfl, rfl⟩
  · refine n_inv (fun i => vec_nil (199) (2) i) ?_
    have e : (geE T x).take most.toNat = [] := by rw [show most.toNat = 0 by omega]; rfl
    rw [e]
    refine r_retm [vec 199 2 none 0 0 [], Store sb db S, Disk db D] ?_
    exact ⟨none, 0, rfl, rfl⟩
  · rename_i b7 hr0 bw b11
    refine l_inv (H' := [cl b11 50 [.slice none 0 0], Wk bw sb 0 0, cl b7 3 [.int .i64 most], Store sb db S, Disk db D]) (fun i => i) ?_
    (repeat (first | refine l_nil (h := ?_) | refine n_then (h := ?_) | (refine l_atc ?_; refine l_call_ (entries_does bw root x) ?_; rintro _ _ _ ⟨b1, b2, b3, rfl, rfl⟩ he; cases he) | refine g_block (h := ?_)))
    refine g_inv (fun i => vec_nil (199) (2) i) ?_
    rcases ht with ⟨q, _⟩ | ⟨h0, ps, o, hp⟩
    · exact absurd q hr0
    refine g_rangeFunc (qn := ScF bw b11 b7 b1 b2 b3 sb db x root most S D ((geE T x).take most.toNat)) (qx := fun c K' => c = .exit 0 ∧ ScF bw b11 b7 b1 b2 b3 sb db x root most S D ((geE T x).take most.toNat) K') (K := [cl b11 50 [.slice none 0 0], vec 199 2 none 0 0 [], cl b7 3 [.int .i64 most], Wk bw sb 0 0, Store sb db S, Disk db D, cl b1 169 [.pointer (some ⟨bw, 0, none⟩)], cl b2 3 [.int .i64 root], cl b3 30 [.int .u64 x]]) ?_ ?_ ?_
    · intro l
      exact scan_hs bw b11 b7 b1 b2 b3 sb db x N root most U T S D k o hp hT (by omega) l _ _ _ rfl rfl (by rfl) (by rfl)
    · rintro D0 K' ⟨p, cap, rd, rfl⟩
      dsimp only [List.cons_append, List.nil_append]
      (repeat' (first | refine g_seq (h := ?_) | refine g_region (h := ?_) | refine l_nil (h := ?_) | refine n_then (h := ?_) | refine l_pures1 (h := ?_) | refine l_load (h := ?_) | refine g_skip (h := ?_) | refine g_ret (h := ?_) | refine n_block (h := ?_) | refine g_cond_f (h := ?_)))
      refine r_retM [vec 199 2 p ((geE T x).take most.toNat).length cap (entC ((geE T x).take most.toNat)), Store sb db S, Disk db D] ?_
      exact ⟨p, cap, rfl, rfl⟩
    · rintro D0 c K' ⟨rfl, p, cap, rd, rfl⟩
      dsimp only [List.cons_append, List.nil_append]
      (repeat' (first | refine g_seq (h := ?_) | refine g_region (h := ?_) | refine l_nil (h := ?_) | refine n_then (h := ?_) | refine l_pures1 (h := ?_) | refine l_load (h := ?_) | refine g_skip (h := ?_) | refine g_ret (h := ?_) | refine g_exit (h := ?_) | refine n_block_hit (h := ?_) | refine g_cond_f (h := ?_)))
      refine r_retM [vec 199 2 p ((geE T x).take most.toNat).length cap (entC ((geE T x).take most.toNat)), Store sb db S, Disk db D] ?_
      exact ⟨p, cap, rfl, rfl⟩
theorem scan_tree (sb db x N : Nat) (root most : Int) (U : List Int) (T : List Ent) (S : Sh) (D : Dk) (k : Fine N S D U) (ht : IsTree N S D U root T) (hT : T.length < 10000) (hm64 : -9223372036854775808 ≤ most ∧ most < 9223372036854775808) :
    Does Tryz.prog 71 [.pointer (some ⟨sb, 0, none⟩), .int .i64 root, .int .u64 x, .int .i64 most] [Store sb db S, Disk db D]
      (fun v H => ∃ p cap, v = .tuple #[.slice p ((geE T x).take most.toNat).length cap, .int .i64 0] ∧ H = [vec 199 2 p ((geE T x).take most.toNat).length cap (entC ((geE T x).take most.toNat)), Store sb db S, Disk db D]) :=
  scan_old sb db x N root most U T S D k (ht.old k) hT hm64
end Go.Proofs.YtmfmommgooccnaaGreat
/- Package tree: even. -/
set_option maxRecDepth 20000
set_option linter.unusedVariables false
set_option linter.unusedSimpArgs false
namespace Go.Proofs.YtmfmommgooccnaaGreat
open Go.Proofs.YtmfmommgooccnaaGreat.SL
end Go.Proofs.YtmfmommgooccnaaGreat
/- Package tree: even, two nodes joined, or dealt anew. -/
set_option maxRecDepth 20000
set_option linter.unusedVariables false
set_option linter.unusedSimpArgs false
namespace Go.Proofs.YtmfmommgooccnaaGreat
open Go.Proofs.YtmfmommgooccnaaGreat.SL
end Go.Proofs.YtmfmommgooccnaaGreat
/- Delete, plainly: a node in hand and its neighbour. No code. -/
set_option maxRecDepth 20000
set_option linter.unusedVariables false
set_option linter.unusedSimpArgs false
namespace Go.Proofs.YtmfmommgooccnaaGreat
open Go.Proofs.YtmfmommgooccnaaGreat.SL

def LinkTo : List Spot → Int → Prop
  | [], _ => True
  | s :: up, pg => s.d.kids.getD s.i 0 = pg ∧ LinkTo up s.pg
/-- A node in hand that may be low, or have nothing. -/
structure HandD (N : Nat) (U : List Int) (T : List Ent) (S : Sh) (D : Dk) (up : List Spot) (pg : Int) (n : Nd) (h : Nat) (Lf Rt es : List Ent) (ps qs : List Int) : Prop where
  fine : Fine N S D U
  way : Way (Gd N D) up h Lf Rt qs
  nt : NT (Gd N D) h n es ps
  pages : (pg :: (ps ++ qs)).Perm (S.after U)
  fit : ∀ e ∈ es, FitsP up e.1
  all : Lf ++ (es ++ Rt) = T
  size : n.size ≤ 240
  link : LinkTo up pg
end Go.Proofs.YtmfmommgooccnaaGreat
/- Package tree: a round of Delete. -/
set_option maxRecDepth 20000
set_option linter.unusedVariables false
set_option linter.unusedSimpArgs false
namespace Go.Proofs.YtmfmommgooccnaaGreat
open Go.Proofs.YtmfmommgooccnaaGreat.SL

theorem HandD.lay {N : Nat} {U : List Int} {T : List Ent} {S : Sh} {D : Dk} {s : Spot} {up : List Spot} {pg : Int} {n : Nd} {h : Nat} {Lf Rt es : List Ent} {ps qs : List Int} (k : HandD N U T S D (s :: up) pg n h Lf Rt es ps qs) (hz : 80 ≤ n.size) (room : U.length + S.fresh.length + 2 < N) :
    ∃ (m : Int) (S' : Sh) (D' : Dk) (Lf' Rt' es' : List Ent) (ps' qs' : List Int),
      (∀ b sb db read r, Does Tryz.prog 114 [.pointer (some ⟨b, 0, none⟩), .int .i64 pg, ndV n r] [Wk b sb read 0, Store sb db S, Disk db D, Nds n r] (fun v H => v = .int .i64 m ∧ H = [Wk b sb read 0, Store sb db S', Disk db D', Nds n r])) ∧
      HandD N U T S' D' up s.pg { s.d with kids := s.d.kids.set s.i m } (h + 1) Lf' Rt' es' ps' qs' ∧ S'.fresh.length ≤ S.fresh.length + 1 ∧ S'.gen = S.gen ∧ Same U S D S' D' := by
  have hne : n.keys ≠ [] := by
    intro e
    have hp := k.nt.plain
    cases hl : n.leaf
    · have : n.size = 1 + 2 * n.kids.length := by simp [Nd.size, hl, e]
      have := kidsLen hp hl
      rw [e] at this
      simp at this
      omega
    · have hv := valsLen hp hl
      rw [e] at hv
      have hv2 : n.vals = [] := List.length_eq_zero_iff.1 (by simpa using hv)
      have : n.size = 1 := by simp [Nd.size, hl, e, hv2, sumL]
      omega
  have hgood : n.good := ⟨k.nt.plain, fun _ => List.length_pos_iff.2 hne, k.size⟩
  obtain ⟨m, S', D', c1, c2, c3, c4, c5, c6, c7, c8, c9, c10⟩ := lay_ok k.fine k.pages room hgood
  have K : Hand N U T S D (s :: up) pg n h Lf Rt es ps qs := ⟨k.fine, k.way, k.nt, k.pages, k.fit, k.all, hne⟩
  obtain ⟨Lf', Rt', es', ps', qs', k', v1, v2, v3⟩ := Hand.up K k.size c2 c3 c4 c6
  have hsz : Nd.size { s.d with kids := s.d.kids.set s.i m } = s.d.size := by simp only [Nd.size, List.length_set]
  exact ⟨m, S', D', Lf', Rt', es', ps', qs', c1, ⟨k'.fine, k'.way, k'.nt, k'.pages, k'.fit, k'.all, by rw [hsz]; exact v1.size, k.link.2⟩, c8, c9, c10⟩
end Go.Proofs.YtmfmommgooccnaaGreat
/- Package tree: Delete, behind its loop. -/
set_option maxRecDepth 20000
set_option linter.unusedVariables false
set_option linter.unusedSimpArgs false
namespace Go.Proofs.YtmfmommgooccnaaGreat
open Go.Proofs.YtmfmommgooccnaaGreat.SL
end Go.Proofs.YtmfmommgooccnaaGreat
/- Package tree: a round of Delete's loop. -/
set_option maxRecDepth 20000
set_option linter.unusedVariables false
set_option linter.unusedSimpArgs false
namespace Go.Proofs.YtmfmommgooccnaaGreat
open Go.Proofs.YtmfmommgooccnaaGreat.SL
end Go.Proofs.YtmfmommgooccnaaGreat
/- Package tree: the loop of Delete. -/
set_option maxRecDepth 20000
set_option linter.unusedVariables false
set_option linter.unusedSimpArgs false
namespace Go.Proofs.YtmfmommgooccnaaGreat
open Go.Proofs.YtmfmommgooccnaaGreat.SL
end Go.Proofs.YtmfmommgooccnaaGreat
/- Package tree: Delete, whole. -/
set_option maxRecDepth 20000
set_option linter.unusedVariables false
set_option linter.unusedSimpArgs false
namespace Go.Proofs.YtmfmommgooccnaaGreat
open Go.Proofs.YtmfmommgooccnaaGreat.SL
end Go.Proofs.YtmfmommgooccnaaGreat
/- Trees that are committed, moved, rolled back: plain facts. -/
set_option maxRecDepth 20000
set_option linter.unusedVariables false
set_option linter.unusedSimpArgs false
namespace Go.Proofs.YtmfmommgooccnaaGreat
open Go.Proofs.YtmfmommgooccnaaGreat.SL

theorem open2 {w0 w : World} {F0 : Nat → Prop} {A B C : SProp} {H : List SProp} (o : Opens A (fun _ : Unit => True) (fun _ => [B, C])) (i : Inv w0 F0 (A :: H) w) : Inv w0 F0 (B :: C :: H) w := by
  obtain ⟨_, _, i⟩ := Inv.opens o i
  exact i
theorem shut2 {w0 w : World} {F0 : Nat → Prop} {A B C : SProp} {H : List SProp} (o : Shuts [B, C] A) (i : Inv w0 F0 (B :: C :: H) w) : Inv w0 F0 (A :: H) w := Inv.shuts o i
theorem after_clean {S : Sh} {U : List Int} (h1 : S.fresh = []) (h2 : S.given = []) : S.after U = U := by simp [Sh.after, h1, h2]
theorem after_roll {S : Sh} {U : List Int} : S.roll.after U = U := after_clean rfl rfl
/-- A tree whose pages are as they were. -/
theorem IsTree.move {N : Nat} {S S' : Sh} {D D' : Dk} {U U' : List Int} {root : Int} {T : List Ent} (h : IsTree N S D U root T) (he : S'.after U' = S.after U) (hk : ∀ p ∈ S.after U, D'.pg p = D.pg p) : IsTree N S' D' U' root T := by
  rcases h with ⟨a, b, c⟩ | ⟨h, ps, o, hp⟩
  · exact .inl ⟨a, b, by rw [he]; exact c⟩
  · exact .inr ⟨h, ps, o.same (fun p q d g => g.keep (hk p (hp.mem_iff.1 q))), by rw [he]; exact hp⟩
/-- Behind a Rollback there is what was committed. -/
theorem Tr.back {N : Nat} {S0 S : Sh} {D0 D : Dk} {U : List Int} {root : Int} {T : List Ent} {m : Nat} (k : Tr N S0 D0 U root T m) (he : S0.after U = U) (f : Fine N S D U) (s : Same U S0 D0 S D) : Tr N S.roll D U root T m :=
  ⟨f.roll, k.tree.move (by rw [he, after_roll]) (by rw [he]; exact s.2), k.len⟩
end Go.Proofs.YtmfmommgooccnaaGreat
/- Transactions, as the laws keep them: a tree over what was committed. -/
set_option maxRecDepth 20000
set_option linter.unusedVariables false
set_option linter.unusedSimpArgs false
namespace Go.Proofs.YtmfmommgooccnaaGreat
open Go.Proofs.YtmfmommgooccnaaGreat.SL

/-- Where a transaction is: its block, its store's, its disk's; how many sectors; the pages that count, the generation and the tree that were committed. -/
structure TxP where
  t : Nat
  sb : Nat
  db : Nat
  N : Nat
  U : List Int
  g : Int
  T0 : List Ent
/-- A store between commits: what is committed is the tree T0. -/
structure StI (P : TxP) (y : Sh × Dk) : Prop where
  fine : Fine P.N y.1 y.2 P.U
  gen : y.1.gen = P.g
  old : IsTree P.N y.1.roll y.2 P.U y.1.root P.T0
def StK (P : TxP) (y : Sh × Dk) : List SProp := [Store P.sb P.db y.1, Disk P.db y.2]
/-- A store at rest. -/
def St (P : TxP) : SProp := hid (StI P) (StK P)
/-- A transaction has the tree T. -/
structure TxI (P : TxP) (T : List Ent) (y : Int × Sh × Dk) : Prop where
  st : StI P y.2
  tree : IsTree P.N y.2.1 y.2.2 P.U y.1 T
def TxK (P : TxP) (T : List Ent) (y : Int × Sh × Dk) : List SProp := [cl P.t 107 [.pointer (some ⟨P.sb, 0, none⟩), .int .i64 y.1, .int .i64 0, .bool false], Store P.sb P.db y.2.1, Disk P.db y.2.2]
/-- A transaction that is under way, without an error. -/
def Tx (P : TxP) (T : List Ent) : SProp := hid (TxI P T) (TxK P T)

theorem StI.same {P : TxP} {S S' : Sh} {D D' : Dk} (k : StI P (S, D)) (f : Fine P.N S' D' P.U) (hg : S'.gen = S.gen) (s : Same P.U S D S' D') : StI P (S', D') :=
  ⟨f, hg.trans k.gen, by
    have h := k.old
    dsimp only at h ⊢
    rw [s.1]
    exact h.move (by rw [after_roll, after_roll]) (by rw [after_roll]; exact s.2)⟩
theorem TxI.put {P : TxP} {T T' : List Ent} {r r' : Int} {S S' : Sh} {D D' : Dk} (k : TxI P T (r, S, D)) (f : Fine P.N S' D' P.U) (t : IsTree P.N S' D' P.U r' T') (hg : S'.gen = S.gen) (s : Same P.U S D S' D') : TxI P T' (r', S', D') := ⟨k.st.same f hg s, t⟩
theorem StI.pages {P : TxP} {y : Sh × Dk} (k : StI P y) : P.U.length ≤ 2 * P.T0.length := by
  have h := k.old.few
  rw [after_roll] at h
  exact h
/-- Is there room for one more round? -/
def TxP.room (P : TxP) (T : List Ent) : Prop := P.U.length + 2 * T.length + 25 < P.N
theorem TxI.roomy {P : TxP} {T : List Ent} {r : Int} {S : Sh} {D : Dk} (k : TxI P T (r, S, D)) (h : P.room T) : P.U.length + S.fresh.length + 25 < P.N := by
  have h1 := k.tree.few
  have h2 := k.st.fine.fresh_le
  dsimp only at h1 h2
  unfold TxP.room at h
  omega
/-- What Get gives. -/
def optV (o : Option (List UInt8)) : Value := .tuple #[.string (str (o.getD [])), .bool o.isSome]
end Go.Proofs.YtmfmommgooccnaaGreat
/- Package txn: what a transaction does. -/
set_option maxRecDepth 20000
set_option linter.unusedVariables false
set_option linter.unusedSimpArgs false
namespace Go.Proofs.YtmfmommgooccnaaGreat
open Go.Proofs.YtmfmommgooccnaaGreat.SL

/-- A transaction's block. -/
abbrev tx (t sb : Nat) (r e : Int) (ov : Bool) : SProp := cl t 107 [.pointer (some ⟨sb, 0, none⟩), .int .i64 r, .int .i64 e, .bool ov]

theorem txDoes5 {α : Type} (t sb g : Nat) [c : Callable Tryz.prog g] (caps : List Value) (r : Int) (p : α → Prop) (ok : α → Bool) (r' : α → Int) (A0 A1 A2 A3 A4 : SProp) (B0 B1 B2 B3 B4 : α → SProp)
    (hd : Does Tryz.prog g caps [tx t sb r 0 false, A0, A1, A2, A3, A4] (fun v H => ∃ y, p y ∧ v = .tuple #[.bool (ok y), .int .i64 0] ∧ H = [tx t sb (r' y) 0 false, B0 y, B1 y, B2 y, B3 y, B4 y])) :
    Does Tryz.prog 63 [.pointer (some ⟨t, 0, none⟩), .func (.func g) #[] caps.toArray] [tx t sb r 0 false, A0, A1, A2, A3, A4] (fun v H => ∃ y, p y ∧ v = .bool (ok y) ∧ H = [tx t sb (r' y) 0 false, B0 y, B1 y, B2 y, B3 y, B4 y]) := by
  refine does_of Tryz.func63 Tryz.ntmps63 rfl rfl rfl (fun w0 F0 => ?_)
  (repeat' (first | refine g_seq (h := ?_) | refine g_region (h := ?_) | refine l_nil (h := ?_) | refine n_then (h := ?_) | refine l_pures1 (h := ?_) | (refine l_atc ?_; refine l_call_ (hd) ?_; rintro _ _ _ ⟨y, hy, rfl, rfl⟩ he; cases he) | refine l_guard_yes (h := ?_) | refine l_guard_no (h := ?_) | refine l_load (h := ?_) | refine l_store (h := ?_) | refine g_skip (h := ?_) | refine g_ret (h := ?_) | refine g_cond_f (h := ?_) | (refine l_sp (h1 := ?_) (h0 := ?_) <;> intro h)))
  all_goals
    refine r_retk [tx t sb (r' y) 0 false, B0 y, B1 y, B2 y, B3 y, B4 y] ?_
  · exact ⟨y, hy, by simp [packV, *], rfl⟩
  · exact ⟨y, hy, by simp [packV, *], rfl⟩

theorem txDoes6 {α : Type} (t sb g : Nat) [c : Callable Tryz.prog g] (caps : List Value) (r : Int) (p : α → Prop) (ok : α → Bool) (r' : α → Int) (A0 A1 A2 A3 A4 A5 : SProp) (B0 B1 B2 B3 B4 B5 B6 : α → SProp)
    (hd : Does Tryz.prog g caps [tx t sb r 0 false, A0, A1, A2, A3, A4, A5] (fun v H => ∃ y, p y ∧ v = .tuple #[.bool (ok y), .int .i64 0] ∧ H = [tx t sb (r' y) 0 false, B0 y, B1 y, B2 y, B3 y, B4 y, B5 y, B6 y])) :
    Does Tryz.prog 63 [.pointer (some ⟨t, 0, none⟩), .func (.func g) #[] caps.toArray] [tx t sb r 0 false, A0, A1, A2, A3, A4, A5] (fun v H => ∃ y, p y ∧ v = .bool (ok y) ∧ H = [tx t sb (r' y) 0 false, B0 y, B1 y, B2 y, B3 y, B4 y, B5 y, B6 y]) := by
  refine does_of Tryz.func63 Tryz.ntmps63 rfl rfl rfl (fun w0 F0 => ?_)
  (repeat' (first | refine g_seq (h := ?_) | refine g_region (h := ?_) | refine l_nil (h := ?_) | refine n_then (h := ?_) | refine l_pures1 (h := ?_) | (refine l_atc ?_; refine l_call_ (hd) ?_; rintro _ _ _ ⟨y, hy, rfl, rfl⟩ he; cases he) | refine l_guard_yes (h := ?_) | refine l_guard_no (h := ?_) | refine l_load (h := ?_) | refine l_store (h := ?_) | refine g_skip (h := ?_) | refine g_ret (h := ?_) | refine g_cond_f (h := ?_) | (refine l_sp (h1 := ?_) (h0 := ?_) <;> intro h)))
  all_goals
    refine r_retk [tx t sb (r' y) 0 false, B0 y, B1 y, B2 y, B3 y, B4 y, B5 y, B6 y] ?_
  · exact ⟨y, hy, by simp [packV, *], rfl⟩
  · exact ⟨y, hy, by simp [packV, *], rfl⟩

theorem txPut1 (t sb db b1 b2 b3 x : Nat) (v : List UInt8) (r : Int) (S : Sh) (D : Dk) (p : Int → Sh → Dk → Prop)
    (hp : Does Tryz.prog 65 [.pointer (some ⟨sb, 0, none⟩), .int .i64 r, .int .u64 x, .string (str v)] [Store sb db S, Disk db D] (fun u H => ∃ m S' D', u = .tuple #[.int .i64 m, .int .i64 0] ∧ H = [Store sb db S', Disk db D'] ∧ p m S' D')) :
    Does Tryz.prog 64 [.pointer (some ⟨b1, 0, none⟩), .pointer (some ⟨b2, 0, none⟩), .pointer (some ⟨b3, 0, none⟩)] [tx t sb r 0 false, cl b1 24 [.pointer (some ⟨t, 0, none⟩)], cl b2 30 [.int .u64 x], cl b3 9 [.string (str v)], Store sb db S, Disk db D]
      (fun u H => ∃ y : Int × Sh × Dk, p y.1 y.2.1 y.2.2 ∧ u = .tuple #[.bool true, .int .i64 0] ∧ H = [tx t sb y.1 0 false, cl b1 24 [.pointer (some ⟨t, 0, none⟩)], cl b2 30 [.int .u64 x], cl b3 9 [.string (str v)], Store sb db y.2.1, Disk db y.2.2]) := by
  refine does_of Tryz.func64 Tryz.ntmps64 rfl rfl rfl (fun w0 F0 => ?_)
  (repeat (first | refine g_seq (h := ?_) | refine g_region (h := ?_) | refine l_nil (h := ?_) | refine n_then (h := ?_) | refine l_pures1 (h := ?_)))
  (refine g_draw [tx t sb r 0 false, cl b1 24 [.pointer (some ⟨t, 0, none⟩)], cl b2 30 [.int .u64 x], cl b3 9 [.string (str v)]] (h := a_pass2 (h := ?_)))
  (repeat' (first | refine g_seq (h := ?_) | refine g_region (h := ?_) | refine l_nil (h := ?_) | refine n_then (h := ?_) | refine l_pures1 (h := ?_) | (refine l_atc ?_; refine l_call_ (hp) ?_; rintro _ _ _ ⟨m, S', D', rfl, rfl, hP⟩ he; cases he) | refine l_load (h := ?_) | refine l_store (h := ?_) | refine g_ret (h := ?_) | refine a_done (h := ?_) | refine a_load (h := a_pass2 (h := ?_)) | refine a_one (h := ?_) | refine n_any (h := a_pass2 (h := ?_)) | refine g_cond_t (h := ?_)))
  refine r_retk [tx t sb m 0 false, cl b1 24 [.pointer (some ⟨t, 0, none⟩)], cl b2 30 [.int .u64 x], cl b3 9 [.string (str v)], Store sb db S', Disk db D'] ?_
  exact ⟨(m, S', D'), hP, rfl, rfl⟩

theorem txGet1 (t sb db b1 b2 b3 x : Nat) (r : Int) (S : Sh) (D : Dk) (o : Option (List UInt8))
    (hp : Does Tryz.prog 69 [.pointer (some ⟨sb, 0, none⟩), .int .i64 r, .int .u64 x] [Store sb db S, Disk db D] (fun u H => u = getV o ∧ H = [Store sb db S, Disk db D])) :
    Does Tryz.prog 68 [.pointer (some ⟨b1, 0, none⟩), .pointer (some ⟨b2, 0, none⟩), .pointer (some ⟨b3, 0, none⟩)] [tx t sb r 0 false, cl b1 24 [.pointer (some ⟨t, 0, none⟩)], cl b2 30 [.int .u64 x], cl b3 9 [.string { data := #[] }], Store sb db S, Disk db D]
      (fun u H => ∃ y : Unit, True ∧ u = .tuple #[.bool o.isSome, .int .i64 0] ∧ H = [tx t sb r 0 false, cl b1 24 [.pointer (some ⟨t, 0, none⟩)], cl b2 30 [.int .u64 x], cl b3 9 [.string (str (o.getD []))], Store sb db S, Disk db D]) := by
  refine does_of Tryz.func68 Tryz.ntmps68 rfl rfl rfl (fun w0 F0 => ?_)
  (repeat (first | refine g_seq (h := ?_) | refine g_region (h := ?_) | refine l_nil (h := ?_) | refine n_then (h := ?_) | refine l_pures1 (h := ?_)))
  (refine g_draw [tx t sb r 0 false, cl b1 24 [.pointer (some ⟨t, 0, none⟩)], cl b2 30 [.int .u64 x]] (h := a_pass2 (h := ?_)))
  (repeat' (first | refine g_seq (h := ?_) | refine g_region (h := ?_) | refine l_nil (h := ?_) | refine n_then (h := ?_) | refine l_pures1 (h := ?_) | (refine l_atc ?_; refine l_call (hp) ?_) | refine l_store (h := ?_) | refine g_ret (h := ?_) | refine a_done (h := ?_) | refine a_load (h := a_pass2 (h := ?_)) | refine a_one (h := ?_) | refine n_any (h := a_pass2 (h := ?_))))
  refine r_retk [tx t sb r 0 false, cl b1 24 [.pointer (some ⟨t, 0, none⟩)], cl b2 30 [.int .u64 x], cl b3 9 [.string (str (o.getD []))], Store sb db S, Disk db D] ?_
  exact ⟨(), trivial, rfl, rfl⟩

theorem txScan1 (t sb db b1 b2 b3 b4 x : Nat) (r most : Int) (S : Sh) (D : Dk) (l : List Ent)
    (hp : Does Tryz.prog 71 [.pointer (some ⟨sb, 0, none⟩), .int .i64 r, .int .u64 x, .int .i64 most] [Store sb db S, Disk db D] (fun u H => ∃ p cap, u = .tuple #[.slice p l.length cap, .int .i64 0] ∧ H = [vec 199 2 p l.length cap (entC l), Store sb db S, Disk db D])) :
    Does Tryz.prog 70 [.pointer (some ⟨b1, 0, none⟩), .pointer (some ⟨b2, 0, none⟩), .pointer (some ⟨b3, 0, none⟩), .pointer (some ⟨b4, 0, none⟩)] [tx t sb r 0 false, cl b1 24 [.pointer (some ⟨t, 0, none⟩)], cl b2 30 [.int .u64 x], cl b3 3 [.int .i64 most], cl b4 50 [.slice none 0 0], Store sb db S, Disk db D]
      (fun u H => ∃ y : Option Addr × Nat, True ∧ u = .tuple #[.bool true, .int .i64 0] ∧ H = [tx t sb r 0 false, cl b1 24 [.pointer (some ⟨t, 0, none⟩)], cl b2 30 [.int .u64 x], cl b3 3 [.int .i64 most], cl b4 50 [.slice y.1 l.length y.2], vec 199 2 y.1 l.length y.2 (entC l), Store sb db S, Disk db D]) := by
  refine does_of Tryz.func70 Tryz.ntmps70 rfl rfl rfl (fun w0 F0 => ?_)
  (repeat (first | refine g_seq (h := ?_) | refine g_region (h := ?_) | refine l_nil (h := ?_) | refine n_then (h := ?_) | refine l_pures1 (h := ?_)))
  (refine g_draw [tx t sb r 0 false, cl b1 24 [.pointer (some ⟨t, 0, none⟩)], cl b2 30 [.int .u64 x], cl b3 3 [.int .i64 most]] (h := a_pass2 (h := ?_)))
  (repeat' (first | refine g_seq (h := ?_) | refine g_region (h := ?_) | refine l_nil (h := ?_) | refine n_then (h := ?_) | refine l_pures1 (h := ?_) | (refine l_atc ?_; refine l_call_ (hp) ?_; rintro _ _ _ ⟨q, cap, rfl, rfl⟩ he; cases he) | refine l_store (h := ?_) | refine g_ret (h := ?_) | refine a_done (h := ?_) | refine a_load (h := a_pass2 (h := ?_)) | refine a_one (h := ?_) | refine n_any (h := a_pass2 (h := ?_))))
  refine r_retk [tx t sb r 0 false, cl b1 24 [.pointer (some ⟨t, 0, none⟩)], cl b2 30 [.int .u64 x], cl b3 3 [.int .i64 most], cl b4 50 [.slice q l.length cap], vec 199 2 q l.length cap (entC l), Store sb db S, Disk db D] ?_
  exact ⟨(q, cap), trivial, rfl, rfl⟩

/-! The calls -/
set_option maxHeartbeats 2000000 in
theorem tGet_does (P : TxP) (T : List Ent) (x : Nat) : Does Tryz.prog 29 [.pointer (some ⟨P.t, 0, none⟩), .int .u64 x] [Tx P T] (fun v H => v = optV (getE T x) ∧ H = [Tx P T]) := by
  refine does_of Tryz.func29 Tryz.ntmps29 rfl rfl rfl (fun w0 F0 => ?_)
  refine g_open (A := Tx P T) (h := ?_); (rintro ⟨r, S, D⟩ k; dsimp only [TxK, List.cons_append, List.nil_append])
  have hg := get_tree P.sb P.db x P.N r P.U T S D k.st.fine k.tree
  (repeat (first | refine g_seq (h := ?_) | refine g_region (h := ?_) | refine l_nil (h := ?_) | refine n_then (h := ?_) | refine l_pures1 (h := ?_) | refine l_load (h := ?_) | (refine l_box (h := ?_); intro _) | (refine l_alloc (h := ?_); intro _)))
  rename_i b1 b2 b3
  have h1 := txDoes5 P.t P.sb _ _ r (fun _ : Unit => True) (fun _ => (getE T x).isSome) (fun _ => r) _ _ _ _ _ (fun _ => _) (fun _ => _) (fun _ => _) (fun _ => _) (fun _ => _) (txGet1 P.t P.sb P.db b1 b2 b3 x r S D (getE T x) hg)
  (repeat' (first | refine g_seq (h := ?_) | refine g_region (h := ?_) | refine l_nil (h := ?_) | refine n_then (h := ?_) | refine l_pures1 (h := ?_) | (refine l_atc ?_; refine l_call_ (h1) ?_; rintro _ _ _ ⟨y, hy, rfl, rfl⟩ he; cases he) | refine l_load (h := ?_) | refine l_store (h := ?_) | refine g_ret (h := ?_)))
  (refine n_shut (A := Tx P T) (K := TxK P T ((r, S, D))) (hid_shuts ((r, S, D)) k) (h := ?_) (p := by dsimp only [TxK]; (try simp only [List.map_nil, List.length_nil, List.length_set, List.length_append, List.length_cons, List.length_singleton, List.map_append, List.map_cons, Nat.zero_add]); exact parts_of))
  refine r_retk [Tx P T] ?_
  exact ⟨rfl, rfl⟩
set_option maxHeartbeats 2000000 in
theorem tPutOf (P : TxP) (T T' : List Ent) (x : Nat) (v : List UInt8) (hv : v.length ≤ 40)
    (hp : ∀ r S D, TxI P T (r, S, D) → Does Tryz.prog 65 [.pointer (some ⟨P.sb, 0, none⟩), .int .i64 r, .int .u64 x, .string (str v)] [Store P.sb P.db S, Disk P.db D] (fun u H => ∃ m S' D', u = .tuple #[.int .i64 m, .int .i64 0] ∧ H = [Store P.sb P.db S', Disk P.db D'] ∧ TxI P T' (m, S', D'))) :
    Does Tryz.prog 26 [.pointer (some ⟨P.t, 0, none⟩), .int .u64 x, .string (str v)] [Tx P T] (fun u H => u = .bool true ∧ H = [Tx P T']) := by
  refine does_of Tryz.func26 Tryz.ntmps26 rfl rfl rfl (fun w0 F0 => ?_)
  refine g_open (A := Tx P T) (h := ?_); (rintro ⟨r, S, D⟩ k; dsimp only [TxK, List.cons_append, List.nil_append])
  have hp := hp r S D k
  (repeat (first | refine g_seq (h := ?_) | refine g_region (h := ?_) | refine l_nil (h := ?_) | refine n_then (h := ?_) | refine l_pures1 (h := ?_) | refine l_load (h := ?_) | (refine l_box (h := ?_); intro _)))
  rename_i b1 b2 b3
  have h1 := txDoes5 P.t P.sb _ _ r _ (fun _ => true) (fun y : Int × Sh × Dk => y.1) _ _ _ _ _ (fun _ => _) (fun _ => _) (fun _ => _) (fun y => Store P.sb P.db y.2.1) (fun y => Disk P.db y.2.2) (txPut1 P.t P.sb P.db b1 b2 b3 x v r S D _ hp)
  (repeat' (first | refine l_nil (h := ?_) | refine n_then (h := ?_) | refine l_pures1 (h := ?_) | (refine l_atc ?_; refine l_call_ (h1) ?_; rintro _ _ _ ⟨⟨r', S', D'⟩, hy, rfl, rfl⟩ he; cases he) | refine l_guard_yes (h := ?_) | refine l_load (h := ?_) | refine g_ret (h := ?_) | (refine l_spT (h := ?_); intro h)))
  (refine n_shut (A := Tx P T') (K := TxK P T' ((r', S', D'))) (hid_shuts ((r', S', D')) hy) (h := ?_) (p := by dsimp only [TxK]; (try simp only [List.map_nil, List.length_nil, List.length_set, List.length_append, List.length_cons, List.length_singleton, List.map_append, List.map_cons, Nat.zero_add]); exact parts_of))
  refine r_retk [Tx P T'] ?_
  exact ⟨rfl, rfl⟩
theorem tPut_does (P : TxP) (T : List Ent) (x : Nat) (v : List UInt8) (hx : x < 18446744073709551616) (hv : v.length ≤ 40) (room : P.room T) : Does Tryz.prog 26 [.pointer (some ⟨P.t, 0, none⟩), .int .u64 x, .string (str v)] [Tx P T] (fun u H => u = .bool true ∧ H = [Tx P (putE T x v)]) :=
  tPutOf P T _ x v hv fun r S D k => by
    refine (put_tree P.sb P.db x P.N v r P.U T S D k.st.fine k.tree hx hv (k.roomy room)).mono ?_
    rintro u H ⟨m, S', D', rfl, rfl, q1, q2, q3, q4⟩
    exact ⟨m, S', D', rfl, rfl, k.put q2 q1 q3 q4⟩
set_option maxHeartbeats 2000000 in
theorem tScan_does (P : TxP) (T : List Ent) (x : Nat) (most : Int) (hT : T.length < 10000) (hm : -9223372036854775808 ≤ most ∧ most < 9223372036854775808) : Does Tryz.prog 30 [.pointer (some ⟨P.t, 0, none⟩), .int .u64 x, .int .i64 most] [Tx P T]
    (fun v H => ∃ p cap, v = .slice p ((geE T x).take most.toNat).length cap ∧ H = [vec 199 2 p ((geE T x).take most.toNat).length cap (entC ((geE T x).take most.toNat)), Tx P T]) := by
  refine does_of Tryz.func30 Tryz.ntmps30 rfl rfl rfl (fun w0 F0 => ?_)
  refine g_open (A := Tx P T) (h := ?_); (rintro ⟨r, S, D⟩ k; dsimp only [TxK, List.cons_append, List.nil_append])
  have hs := scan_tree P.sb P.db x P.N r most P.U T S D k.st.fine k.tree hT hm
  (repeat (first | refine g_seq (h := ?_) | refine g_region (h := ?_) | refine l_nil (h := ?_) | refine n_then (h := ?_) | refine l_pures1 (h := ?_) | refine l_load (h := ?_) | (refine l_box (h := ?_); intro _) | (refine l_alloc (h := ?_); intro _)))
  rename_i b1 b2 b3 b4
  have h1 := txDoes6 P.t P.sb _ _ r (fun _ : Option Addr × Nat => True) (fun _ => true) (fun _ => r) _ _ _ _ _ _ (fun _ => _) (fun _ => _) (fun _ => _) (fun y => _) (fun y => _) (fun _ => _) (fun _ => _) (txScan1 P.t P.sb P.db b1 b2 b3 b4 x r most S D _ hs)
  (repeat' (first | refine g_seq (h := ?_) | refine g_region (h := ?_) | refine l_nil (h := ?_) | refine n_then (h := ?_) | (refine l_atc ?_; refine l_call_ (h1) ?_; rintro _ _ _ ⟨⟨q, cap⟩, hy, rfl, rfl⟩ he; cases he) | refine l_load (h := ?_) | refine l_store (h := ?_) | refine g_ret (h := ?_)))
  (refine n_shut (A := Tx P T) (K := TxK P T ((r, S, D))) (hid_shuts ((r, S, D)) k) (h := ?_) (p := by dsimp only [TxK]; (try simp only [List.map_nil, List.length_nil, List.length_set, List.length_append, List.length_cons, List.length_singleton, List.map_append, List.map_cons, Nat.zero_add]); exact parts_of))
  refine r_retk [vec 199 2 q ((geE T x).take most.toNat).length cap (entC ((geE T x).take most.toNat)), Tx P T] ?_
  exact ⟨q, cap, rfl, rfl⟩
theorem tErr_does (P : TxP) (T : List Ent) : Does Tryz.prog 28 [.pointer (some ⟨P.t, 0, none⟩)] [Tx P T] (fun v H => v = .int .i64 0 ∧ H = [Tx P T]) := by
  refine does_of Tryz.func28 Tryz.ntmps28 rfl rfl rfl (fun w0 F0 => ?_)
  refine g_open (A := Tx P T) (h := ?_); (rintro ⟨r, S, D⟩ k; dsimp only [TxK, List.cons_append, List.nil_append])
  (repeat' (first | refine g_seq (h := ?_) | refine g_region (h := ?_) | refine l_nil (h := ?_) | refine n_then (h := ?_) | refine l_pures1 (h := ?_) | refine l_load (h := ?_) | refine g_ret (h := ?_)))
  (refine n_shut (A := Tx P T) (K := TxK P T ((r, S, D))) (hid_shuts ((r, S, D)) k) (h := ?_) (p := by dsimp only [TxK]; (try simp only [List.map_nil, List.length_nil, List.length_set, List.length_append, List.length_cons, List.length_singleton, List.map_append, List.map_cons, Nat.zero_add]); exact parts_of))
  refine r_retk [Tx P T] ?_
  exact ⟨rfl, rfl⟩
end Go.Proofs.YtmfmommgooccnaaGreat
/- Package txn: how a transaction begins and ends. -/
set_option maxRecDepth 20000
set_option linter.unusedVariables false
set_option linter.unusedSimpArgs false
namespace Go.Proofs.YtmfmommgooccnaaGreat
open Go.Proofs.YtmfmommgooccnaaGreat.SL

/-- A store at rest: nothing is fresh, nothing given. -/
def StR (P : TxP) (y : Sh × Dk) : Prop := StI P y ∧ y.1.fresh = [] ∧ y.1.given = []
def StoK (P : TxP) (y : Sh × Dk) : List SProp := [Store P.sb P.db y.1, Disk P.db y.2]
def Sto (P : TxP) : SProp := hid (StR P) (StoK P)
theorem StI.roll {P : TxP} {S : Sh} {D : Dk} (k : StI P (S, D)) : StR P (S.roll, D) := ⟨⟨k.fine.roll, k.gen, k.old⟩, rfl, rfl⟩
/-- A transaction's place. -/
def TxP.at (P : TxP) (t : Nat) : TxP := ⟨t, P.sb, P.db, P.N, P.U, P.g, P.T0⟩

set_option maxHeartbeats 2000000 in
theorem begin_does (P : TxP) : Does Tryz.prog 25 [.pointer (some ⟨P.sb, 0, none⟩)] [Sto P] (fun v H => ∃ t, v = .pointer (some ⟨t, 0, none⟩) ∧ H = [Tx (P.at t) P.T0]) := by
  refine does_of Tryz.func25 Tryz.ntmps25 rfl rfl rfl (fun w0 F0 => ?_)
  refine g_open (A := Sto P) (h := ?_); (rintro ⟨S, D⟩ ⟨k, hf, hv⟩; dsimp only [StoK, List.cons_append, List.nil_append])
  have hrt : Does Tryz.prog 62 [.pointer (some ⟨P.sb, 0, none⟩)] [Store P.sb P.db S.roll] (fun v H => v = .int .i64 S.root ∧ H = [Store P.sb P.db S.roll]) := sRoot_does P.sb P.db S.roll
  (repeat' (first | refine g_seq (h := ?_) | refine g_region (h := ?_) | refine l_nil (h := ?_) | refine n_then (h := ?_) | refine l_pures1 (h := ?_) | (refine l_atc ?_; refine l_call (sRollback_does P.sb P.db S) ?_) | (refine l_atc ?_; refine l_call (hrt) ?_) | (refine l_box (h := ?_); intro _) | refine g_ret (h := ?_)))
  rename_i t
  (refine n_shut (A := Tx (P.at t) P.T0) (K := TxK (P.at t) P.T0 ((S.root, S.roll, D))) (hid_shuts ((S.root, S.roll, D)) (⟨⟨k.fine.roll, k.gen, k.old⟩, k.old⟩)) (h := ?_) (p := by dsimp only [TxK]; (try simp only [List.map_nil, List.length_nil, List.length_set, List.length_append, List.length_cons, List.length_singleton, List.map_append, List.map_cons, Nat.zero_add, TxP.at]); exact parts_of))
  refine r_retk [Tx (P.at t) P.T0] ?_
  exact ⟨t, rfl, rfl⟩

/-! A store on a new disk -/
def TxP.new (t sb db n : Nat) : TxP := ⟨t, sb, db, n, [], headNew.over.gen, []⟩
theorem sto_new {sb db n : Nat} {E : Dk} (k : Tr n headNew.over E [] 0 [] 0) : StR (TxP.new 0 sb db n) (headNew.over, E) := ⟨⟨k.fine, rfl, k.tree⟩, rfl, rfl⟩
theorem made17_does : Does Tryz.prog 18 [] [] (fun v H => ∃ t db sb, v = .pointer (some ⟨t, 0, none⟩) ∧ H = [Tx (TxP.new t sb db 640) []]) := by
  obtain ⟨E1, f1, k0⟩ := tr_new (N := 640) (by omega)
  refine does_of Tryz.func18 Tryz.ntmps18 rfl rfl rfl (fun w0 F0 => ?_)
  (repeat' (first | refine g_seq (h := ?_) | refine g_region (h := ?_) | refine l_nil (h := ?_) | refine n_then (h := ?_) | refine l_pures1 (h := ?_) | (refine l_at 53 ?_; refine l_call_ (new_is (i := 640) (n := 640) rfl (by omega)) ?_; rintro _ _ _ ⟨db, rfl, rfl⟩ he; cases he) | (refine l_at 54 ?_; refine l_call_ (format_is f1) ?_; rintro _ _ _ ⟨sb, rfl, rfl⟩ he; cases he) | refine l_guard_yes (h := ?_) | refine g_skip (h := ?_) | refine g_cond_f (h := ?_)))
  (refine l_shut (A := Sto (TxP.new 0 sb db 640)) (K := StoK (TxP.new 0 sb db 640) ((headNew.over, E1))) (hid_shuts ((headNew.over, E1)) (sto_new k0)) (h := ?_) (p := by dsimp only [StoK]; (try simp only [List.map_nil, List.length_nil, List.length_set, List.length_append, List.length_cons, List.length_singleton, List.map_append, List.map_cons, Nat.zero_add, TxP.new]); exact parts_of))
  have hb : Does Tryz.prog 25 [.pointer (some ⟨sb, 0, none⟩)] [Sto (TxP.new 0 sb db 640)] (fun v H => ∃ t, v = .pointer (some ⟨t, 0, none⟩) ∧ H = [Tx (TxP.new t sb db 640) []]) := begin_does (TxP.new 0 sb db 640)
  (repeat' (first | refine l_nil (h := ?_) | refine n_then (h := ?_) | refine l_pures1 (h := ?_) | (refine l_atc ?_; refine l_call_ (hb) ?_; rintro _ _ _ ⟨t, rfl, rfl⟩ he; cases he) | refine g_ret (h := ?_)))
  refine r_retk [Tx (TxP.new t sb db 640) []] ?_
  exact ⟨t, db, sb, rfl, rfl⟩
end Go.Proofs.YtmfmommgooccnaaGreat
/- The laws' entries: two lists that are the same. -/
set_option maxRecDepth 20000
set_option linter.unusedVariables false
set_option linter.unusedSimpArgs false
namespace Go.Proofs.YtmfmommgooccnaaGreat
open Go.Proofs.YtmfmommgooccnaaGreat.SL

theorem entC_get0 : ∀ {l : List Ent} {j : Nat}, j < l.length → (entC l)[j * 2]? = some (.int .u64 ((l.getD j (0, [])).1 : Nat))
  | [], j, h => by simp at h
  | e :: l, 0, _ => rfl
  | e :: l, j + 1, h => by
    have ih := entC_get0 (l := l) (j := j) (by simpa using h)
    have : (j + 1) * 2 = j * 2 + 1 + 1 := by omega
    rw [this]
    exact ih
theorem entC_cut : ∀ {l : List Ent} {j : Nat}, j < l.length → ((entC l).drop (j * 2)).take 2 = [.int .u64 ((l.getD j (0, [])).1 : Nat), .string (str (l.getD j (0, [])).2)]
  | [], j, h => by simp at h
  | e :: l, 0, _ => rfl
  | e :: l, j + 1, h => by
    have ih := entC_cut (l := l) (j := j) (by simpa using h)
    have : (j + 1) * 2 = j * 2 + 1 + 1 := by omega
    rw [this]
    exact ih
theorem part_ent {l : List Ent} {j : Nat} (h : j < l.length) : partV env 199 (entC l) (0 + ((j : Nat) : Int).toNat * 2) = some (entV (l.getD j (0, []))) := by
  have e : 0 + ((j : Nat) : Int).toNat * 2 = j * 2 := by rw [Int.toNat_natCast, Nat.zero_add]
  have hc : cutL (entC l) (j * 2) 2 = some [.int .u64 ((l.getD j (0, [])).1 : Nat), .string (str (l.getD j (0, [])).2)] := by
    rw [cutL_of (by rw [entC_len]; omega), entC_cut h]
  rw [e]
  show (match cutL (entC l) (j * 2) 2 with
        | some r => some (Value.agg r.toArray)
        | none => none) = _
  rw [hc]
end Go.Proofs.YtmfmommgooccnaaGreat
/- Package slot: slots in a transaction. -/
set_option maxRecDepth 20000
set_option linter.unusedVariables false
set_option linter.unusedSimpArgs false
namespace Go.Proofs.YtmfmommgooccnaaGreat
open Go.Proofs.YtmfmommgooccnaaGreat.SL

theorem sKey_does (id : Nat) (h : id < 4294967296) : Does Tryz.prog 58 [.int .i64 id] [] (fun v H => v = .int .u64 (kyN 4 0 id : Nat) ∧ H = []) := by
  have hK : Does Tryz.prog 103 [.int .i64 4, .int .i64 0, .int .i64 id] [] (fun v H => v = .tuple #[.int .u64 (kyN 4 0 id : Nat), .bool true] ∧ H = []) := Key_does 4 0 id (by omega) (by omega) h
  refine does_of Tryz.func58 Tryz.ntmps58 rfl rfl rfl (fun w0 F0 => ?_)
  (repeat' (first | refine g_seq (h := ?_) | refine g_region (h := ?_) | refine l_nil (h := ?_) | refine n_then (h := ?_) | refine l_pures1 (h := ?_) | (refine l_atc ?_; refine l_call (hK) ?_) | refine g_ret (h := ?_)))
  refine r_ret ?_
  exact ⟨rfl, rfl⟩
theorem sSet_does (P : TxP) (T : List Ent) (id : Nat) (s : Sl) (hid : 1 ≤ id ∧ id ≤ 200) (ok : s.ok) (room : P.room T) : Does Tryz.prog 56 [.pointer (some ⟨P.t, 0, none⟩), .agg (slA id s)] [Tx P T] (fun v H => v = .tuple #[] ∧ H = [Tx P (putE T (kyN 4 0 id) s.text)]) := by
  have hp := putSlot_does id s hid ok
  have hk := sKey_does id (by omega)
  have hput := tPut_does P T (kyN 4 0 id) s.text (kyN_lt (by omega) (by omega) (by omega)) (by simp [Sl.text, putN_length]) room
  refine does_of Tryz.func56 Tryz.ntmps56 rfl rfl rfl (fun w0 F0 => ?_)
  (repeat' (first | refine g_seq (h := ?_) | refine g_region (h := ?_) | refine l_nil (h := ?_) | refine n_then (h := ?_) | refine l_pures1 (h := ?_) | (refine l_atc ?_; refine l_call (hp) ?_) | (refine l_atc ?_; refine l_call (hk) ?_) | (refine l_atc ?_; refine l_call (hput) ?_) | refine l_load (h := ?_) | (refine l_box (h := ?_); intro _)))
  refine r_endk [Tx P (putE T (kyN 4 0 id) s.text)] ?_
  exact ⟨rfl, rfl⟩
theorem sAt_does (P : TxP) (L : List Sl) (i : Nat) (hi : i < L.length) (hL : L.length ≤ 200) (ok : ∀ s ∈ L, s.ok) : Does Tryz.prog 21 [.pointer (some ⟨P.t, 0, none⟩), .int .i64 (1 + i : Nat)] [Tx P (slotT 1 L)] (fun v H => v = .tuple #[.agg (slA (1 + i) L[i]), .int .i64 0] ∧ H = [Tx P (slotT 1 L)]) := by
  have hk := sKey_does (1 + i) (by omega)
  have hg := tGet_does P (slotT 1 L) (kyN 4 0 (1 + i))
  rw [slotT_get, List.getElem?_eq_getElem hi] at hg
  have hg : Does Tryz.prog 29 [.pointer (some ⟨P.t, 0, none⟩), .int .u64 (kyN 4 0 (1 + i) : Nat)] [Tx P (slotT 1 L)] (fun v H => v = .tuple #[.string (str L[i].text), .bool true] ∧ H = [Tx P (slotT 1 L)]) := hg
  have ht := takeSlot_does (1 + i) L[i] (by omega) (ok _ (List.getElem_mem hi))
  refine does_of Tryz.func21 Tryz.ntmps21 rfl rfl rfl (fun w0 F0 => ?_)
  (repeat' (first | refine g_seq (h := ?_) | refine g_region (h := ?_) | refine l_nil (h := ?_) | refine n_then (h := ?_) | refine l_pures1 (h := ?_) | (refine l_atc ?_; refine l_call (hk) ?_) | (refine l_atc ?_; refine l_call (hg) ?_) | (refine l_atc ?_; refine l_call (ht) ?_) | refine l_guard_yes (h := ?_) | refine l_store (h := ?_) | (refine l_alloc (h := ?_); intro _) | refine g_skip (h := ?_) | refine g_ret (h := ?_) | refine g_cond_f (h := ?_) | (refine l_spF (h := ?_); intro h) | (refine g_spF (h := ?_); intro h)))
  refine r_retk [Tx P (slotT 1 L)] ?_
  exact ⟨rfl, rfl⟩
/-- A slot as all hands it on. -/
abbrev foundV (e : Nat × Sl) : Value := .agg #[.int .i64 (e.1 : Nat), .int .i64 e.2.cap, .int .i64 e.2.epoch, .int .u64 e.2.nonce, .int .i64 0]
theorem inSlot_does (id : Nat) (h : id < 4294967296) : Does Tryz.prog 128 [.int .u64 (kyN 4 0 id : Nat), .int .i64 4, .int .i64 0] [] (fun v H => v = .bool true ∧ H = []) := by
  have hs : Does Tryz.prog 129 [.int .u64 (kyN 4 0 id : Nat)] [] (fun v H => v = .tuple #[.int .i64 4, .int .i64 0, .int .i64 id] ∧ H = []) := Split_does 4 0 id (by omega) (by omega) h
  refine does_of Tryz.func128 Tryz.ntmps128 rfl rfl rfl (fun w0 F0 => ?_)
  (repeat' (first | refine g_seq (h := ?_) | refine g_region (h := ?_) | refine l_nil (h := ?_) | refine n_then (h := ?_) | refine l_pures1 (h := ?_) | (refine l_atc ?_; refine l_call (hs) ?_) | refine l_guard_yes (h := ?_) | refine g_ret (h := ?_)))
  refine r_ret ?_
  exact ⟨rfl, rfl⟩

set_option maxHeartbeats 4000000 in
theorem allF_does (P : TxP) (L : List Sl) (l b1 : Nat) (C : List (Nat × Sl) → SProp) (hL : L.length ≤ 200) (ok : ∀ s ∈ L, s.ok)
    (hY : ∀ dn e, dn.length < 1000 → SL.Yields Tryz.prog l [foundV e] [C dn] (fun v H => v = .bool true ∧ H = [C (dn ++ [e])])) :
    Does Tryz.prog 147 [.func (.yield l) #[] #[], .pointer (some ⟨b1, 0, none⟩)] [C [], cl b1 24 [.pointer (some ⟨P.t, 0, none⟩)], Tx P (slotT 1 L)]
      (fun v H => v = .tuple #[] ∧ H = [C (slE 1 L), cl b1 24 [.pointer (some ⟨P.t, 0, none⟩)], Tx P (slotT 1 L)]) := by
  have hF : Does Tryz.prog 139 [.int .i64 4] [] (fun v H => v = .int .u64 (fromK 0 : Nat) ∧ H = []) := First_does 4 (by omega)
  refine does_of Tryz.func147 Tryz.ntmps147 rfl rfl rfl (fun w0 F0 => ?_)
  (repeat' (first | refine g_seq (h := ?_) | refine g_region (h := ?_) | refine l_nil (h := ?_) | refine n_then (h := ?_) | refine l_pures1 (h := ?_) | (refine l_atc ?_; refine l_call (hF) ?_) | refine g_block (h := ?_)))
  (refine g_loop (fun k : Nat => [(3, .int .u64 (fromK k : Nat)), (0, .func (.yield l) #[] #[]), (0 + 1, .pointer (some ⟨b1, 0, none⟩))]) (fun k => [C (slE 1 (L.take k)), cl b1 24 [.pointer (some ⟨P.t, 0, none⟩)], Tx P (slotT 1 L)]) (fun k => k ≤ L.length) (fun k => L.length - k) (0) ?_ ?_ ?_ ?_; rotate_left; (repeat (first | refine ts_nil | (refine ts_cons rfl ?_ ?_; first | (with_reducible rfl) | rotate_left))); (first | (intro _ i; with_reducible refine i) | rotate_left); rotate_left; (try omega); rotate_right)
  · intro k hk
    have hsc := tScan_does P (slotT 1 L) (fromK k) 16 (by rw [slotT_len]; omega) (by omega)
    rw [fromK_ge hk, slotT_take] at hsc
    obtain ⟨pl, hpl⟩ : ∃ pl, pl = (L.drop k).take (Int.toNat 16) := ⟨_, rfl⟩
    rw [← hpl] at hsc
    have hpll : pl.length = min 16 (L.length - k) := by rw [hpl]; simp
    have hpg : ∀ i (hi : i < pl.length), pl[i] = L[k + i]'(by omega) := fun i hi => by
      subst hpl
      simp
    have hsl := slotT_len (1 + k) pl
    obtain ⟨es, hes⟩ : ∃ es, es = slotT (1 + k) pl := ⟨_, rfl⟩
    rw [← hes] at hsc hsl
    have heg : ∀ i (hi : i < pl.length), es.getD i (0, []) = (kyN 4 0 (1 + (k + i)), (L[k + i]'(by omega)).text) := fun i hi => by
      have h := slotT_getD (l := pl) (j := 1 + k) hi
      have e := hpg i hi
      have e3 : 1 + k + i = 1 + (k + i) := by omega
      have e4 : es.getD i (0, []) = ((slotT (1 + k) pl)[i]?).getD (0, []) := by rw [hes]; rfl
      rw [e4, h]
      simp only [Option.getD_some, e, e3]
    (repeat (first | refine g_seq (h := ?_) | refine g_region (h := ?_) | refine l_nil (h := ?_) | refine n_then (h := ?_) | refine l_pures1 (h := ?_) | (refine l_atc ?_; refine l_call_ (hsc) ?_; rintro _ _ _ ⟨pa, ca, rfl, rfl⟩ he; cases he) | refine l_load (h := ?_) | refine g_block (h := ?_)))
    (refine g_loop (fun i : Nat => [(18, .int .i64 i), (17, .int .i64 es.length), (16, .slice pa es.length ca), (4, .slice pa es.length ca), (0, .func (.yield l) #[] #[]), (0 + 1, .pointer (some ⟨b1, 0, none⟩))]) (fun i => [C (slE 1 (L.take (k + i))), vec 199 2 pa es.length ca (entC es), cl b1 24 [.pointer (some ⟨P.t, 0, none⟩)], Tx P (slotT 1 L)]) (fun i => i ≤ pl.length) (fun i => pl.length - i) (0) ?_ ?_ ?_ ?_; rotate_left; (repeat (first | refine ts_nil | (refine ts_cons rfl ?_ ?_; first | (with_reducible rfl) | rotate_left))); (first | (intro _ i; with_reducible refine i) | rotate_left); rotate_left; (try omega); rotate_right)
    · intro i hi
      by_cases hil : i < pl.length
      · refine g_ptr (m := es.length) (p := pa) (h := ?_); rintro ga rfl hca
        have hpt := part_ent (l := es) (j := i) (by omega)
        rw [heg i hil] at hpt
        obtain ⟨s, hs⟩ : ∃ s, s = L[k + i]'(by omega) := ⟨_, rfl⟩
        have hsm : s.ok := ok _ (hs ▸ List.getElem_mem _)
        have hsn : slE 1 (L.take (k + (i + 1))) = slE 1 (L.take (k + i)) ++ [(1 + (k + i), s)] := by rw [hs]; exact slE_snoc (n := k + i) (by omega)
        rw [← hs] at hpt
        have hin := inSlot_does (1 + (k + i)) (by omega)
        have hsp : Does Tryz.prog 129 [.int .u64 (kyN 4 0 (1 + (k + i)) : Nat)] [] (fun v H => v = .tuple #[.int .i64 4, .int .i64 0, .int .i64 (1 + (k + i) : Nat)] ∧ H = []) := Split_does 4 0 (1 + (k + i)) (by omega) (by omega) (by omega)
        have hts := takeSlot_does (1 + (k + i)) s (by omega) hsm
        have hYi := hY (slE 1 (L.take (k + i))) (1 + (k + i), s) (by rw [slE_len]; simp; omega)
        dsimp only [foundV] at hYi
        (repeat' (first | ((with_reducible show G _ _ _ _ (Code.region 8 _ _) _ _ _ _); refine g_region_w ?_) | (refine lw_i ?_; refine lw_yield (hYi) (h := ?_); rintro _ _ _ ⟨rfl, rfl⟩ he; cases he) | refine g_seq (h := ?_) | refine g_region (h := ?_) | refine l_nil (h := ?_) | refine n_then (h := ?_) | refine l_pures1 (h := ?_) | (refine l_atc ?_; refine l_call (hin) ?_) | (refine l_at 129 ?_; refine l_call (hsp) ?_) | (refine l_atc ?_; refine l_call (hts) ?_) | refine l_guard_yes (h := ?_) | refine l_load (h := ?_) | refine l_store (h := ?_) | (refine l_alloc (h := ?_); intro _) | refine l_indexAddr (h := ?_) | refine g_skip (h := ?_) | refine g_block (h := ?_) | refine n_block (h := ?_) | refine g_cond_f (h := ?_) | refine l_load_vec (h := ?_) | refine n_lw (h := ?_) | refine lw_nil (h := ?_) | refine lw_step (h := ?_) | (refine g_spT (h := ?_); intro h)))
        rw [← hsn]
        (refine n_back (i + 1) ?_ ?_ ?_ ?_; rotate_left; rotate_left; (repeat (first | refine ts_nil | (refine ts_cons rfl ?_ ?_; first | (with_reducible rfl) | rotate_left))); (first | (intro _ i; with_reducible refine i) | rotate_left); (try omega); (try omega))
        all_goals first
          | (dsimp only; omega)
          | (rw [wrapI64 (by omega)]; rfl)
          | (intro _ i; exact inv_keep parts_of i)
          | rfl
      · obtain rfl : i = pl.length := by omega
        by_cases h16 : pl.length < 16
        · have hend : L.take (k + pl.length) = L := List.take_of_length_le (by omega)
          rw [hend]
          (repeat' (first | refine g_seq (h := ?_) | refine g_region (h := ?_) | refine l_nil (h := ?_) | refine n_then (h := ?_) | refine l_pures1 (h := ?_) | refine g_ret (h := ?_) | refine n_then_ret (h := ?_) | refine n_block_ret (h := ?_) | refine g_exit (h := ?_) | refine n_then_exit (h := ?_) | refine n_block_hit (h := ?_) | (refine g_spT (h := ?_); intro h) | (refine g_spF (h := ?_); intro h)))
          refine r_retk [C (slE 1 L), cl b1 24 [.pointer (some ⟨P.t, 0, none⟩)], Tx P (slotT 1 L)] ?_
          exact ⟨rfl, rfl⟩
        · have h16' : pl.length = 16 := by omega
          have hfk : fromK (k + 16) = kyN 4 0 (1 + (k + 15)) + 1 := by unfold fromK kyN; rw [if_neg (by omega)]; omega
          have hnx : Does Tryz.prog 130 [.int .u64 (kyN 4 0 (1 + (k + 15)) : Nat)] [] (fun v H => v = .tuple #[.int .u64 (fromK (k + 16) : Nat), .bool true] ∧ H = []) := by
            rw [hfk]
            exact Next_does _ (by unfold kyN; omega)
          have hel : (es.length : Int) = 16 := by omega
          have hi15 := entC_get0 (l := es) (j := 15) (by omega)
          rw [heg 15 (by omega)] at hi15
          refine g_ptr (m := es.length) (p := pa) (h := ?_); rintro ga rfl hca
          have ew15 : IntKind.i64.wrap ((es.length : Int) - 1) = 15 := by rw [wrapI64 (by omega)]; omega
          have hib : 0 ≤ IntKind.i64.wrap ((es.length : Int) - 1) ∧ IntKind.i64.wrap ((es.length : Int) - 1) < es.length := by rw [ew15]; omega
          have hg15 : (entC es)[0 + (IntKind.i64.wrap ((es.length : Int) - 1)).toNat * 2 + 0]? = some (.int .u64 (kyN 4 0 (1 + (k + 15)) : Nat)) := by rw [ew15]; exact hi15
          (repeat' (first | refine g_seq (h := ?_) | refine g_region (h := ?_) | refine l_nil (h := ?_) | refine n_then (h := ?_) | refine l_pures1 (h := ?_) | (refine l_atc ?_; refine l_call (hnx) ?_) | refine l_indexAddr (h := ?_) | refine g_skip (h := ?_) | refine g_exit (h := ?_) | refine n_then_exit (h := ?_) | refine n_block_hit (h := ?_) | refine n_block (h := ?_) | refine l_load_vec (h := ?_) | (refine g_spF (h := ?_); intro h)))
          rw [h16']
          (refine n_back (k + 16) ?_ ?_ ?_ ?_; rotate_left; rotate_left; (repeat (first | refine ts_nil | (refine ts_cons rfl ?_ ?_; first | (with_reducible rfl) | rotate_left))); (first | (intro _ i; with_reducible refine i) | rotate_left); (try omega); (try omega))
          all_goals first
            | (dsimp only; omega)
            | (intro _ i; exact inv_keep parts_of i)
            | rfl
    all_goals first
      | exact Nat.zero_le _
      | rfl
      | (intro _ i; simp only [Nat.add_zero]; exact inv_keep parts_of i)
  all_goals first
    | exact Nat.zero_le _
    | rfl
    | (intro _ i; simp only [List.take_zero, slE]; exact inv_keep parts_of i)

/-! All slots, in a list -/
def slC (dn : List (Nat × Sl)) : List Value := dn.flatMap fun e => [Value.int .i64 (e.1 : Nat), .int .i64 e.2.cap, .int .i64 e.2.epoch, .int .u64 e.2.nonce]
theorem slC_snoc (dn : List (Nat × Sl)) (e : Nat × Sl) : slC (dn ++ [e]) = slC dn ++ [Value.int .i64 (e.1 : Nat), .int .i64 e.2.cap, .int .i64 e.2.epoch, .int .u64 e.2.nonce] := by simp [slC]
theorem all_does (t : Nat) : Does Tryz.prog 101 [.pointer (some ⟨t, 0, none⟩)] [] (fun v H => ∃ b1, v = .func (.func 147) #[] #[.pointer (some ⟨b1, 0, none⟩)] ∧ H = [cl b1 24 [.pointer (some ⟨t, 0, none⟩)]]) := by
  refine does_of Tryz.func101 Tryz.ntmps101 rfl rfl rfl (fun w0 F0 => ?_)
  (repeat (first | refine g_seq (h := ?_) | refine g_region (h := ?_) | refine l_nil (h := ?_) | refine n_then (h := ?_) | refine l_pures1 (h := ?_) | (refine l_box (h := ?_); intro _) | refine g_ret (h := ?_)))
  rename_i b1
  refine r_retk [cl b1 24 [.pointer (some ⟨t, 0, none⟩)]] ?_
  exact ⟨b1, rfl, rfl⟩
abbrev StcK (l n : Nat) (tm : List (Nat × Value)) (asg body : Code) (st : LoopState) (pe : Option Code) (b4 : Nat) (dn : List (Nat × Sl)) (x : Option Addr × Nat) : List SProp :=
  [lp l n tm #[8] asg body st pe, cl b4 96 [.slice x.1 dn.length x.2], vec 32 4 x.1 dn.length x.2 (slC dn)]
def Stc (l n : Nat) (tm : List (Nat × Value)) (asg body : Code) (st : LoopState) (pe : Option Code) (b4 : Nat) (dn : List (Nat × Sl)) : SProp := hid (fun _ : Option Addr × Nat => True) (StcK l n tm asg body st pe b4 dn)
set_option maxHeartbeats 4000000 in
theorem st_yields0 (l b4 : Nat) (tm0 : List (Nat × Value)) (asg body : Code) (dn : List (Nat × Sl)) (e : Nat × Sl) (p : Option Addr) (cap : Nat) (hdn : dn.length < 1000) (w4 : tget tm0 4 = some (.pointer (some ⟨b4, 0, none⟩)))
    (hA : asg = rfA (nav [1, 1, 0, 1, 2] (bdy Tryz.f55))) (hB : body = rfB (nav [1, 1, 0, 1, 2] (bdy Tryz.f55))) :
    SL.Yields Tryz.prog l [foundV e] (StcK l 22 tm0 asg body .ready none b4 dn (p, cap))
      (fun v H => v = .bool true ∧ ∃ x R, Parts (StcK l 22 tm0 asg body .ready none b4 (dn ++ [e]) x) H R) := by
  dsimp only [StcK]
  refine yields_of (ps := [8]) (fun w0 F0 => ?_)
  refine gr_weak (tm' := [(8, foundV e), (4, .pointer (some ⟨b4, 0, none⟩))]) ⟨rfl, w4, trivial⟩ (fun i => i) ?_
  have e0 : (dn ++ [e]).length = dn.length + 1 := by simp
  have e1 : slC dn ++ #[Value.int .i64 (e.1 : Nat), .int .i64 e.2.cap, .int .i64 e.2.epoch, .int .u64 e.2.nonce].toList = slC (dn ++ [e]) := (slC_snoc dn e).symm
  refine gr_as hA ?_
  dsimp only [rfA, nav, bdy, Tryz.f55, Option.getD]
  (repeat (first | refine l_nil (h := ?_) | refine l_store (h := ?_) | (refine l_alloc (h := ?_); intro _) | refine gr_region (h := ?_)))
  rename_i b12
  refine n_begin (h := ?_)
  refine gr_as hB ?_
  dsimp only [rfA, rfB, nav, bdy, Tryz.f55, Option.getD]
  (repeat' (first | refine l_nil (h := ?_) | refine l_pures1 (h := ?_) | refine l_load (h := ?_) | refine l_store (h := ?_) | (refine l_buildSlice1 (h := ?_); intro _) | (refine l_append_new (h := ?_); intro _ _) | refine n_block (h := ?_) | refine gr_seq (h := ?_) | refine gr_region (h := ?_) | refine nr_then (h := ?_) | refine gr_block (h := ?_) | refine gr_skip (h := ?_) | refine gr_cond_f (h := ?_)))
  rename_i b1 p' cap'
  rw [← e0, e1]
  refine n_round ⟨rfl, (p', cap'), ?_⟩
  exact ⟨_, parts_of⟩
theorem st_yields (l b4 : Nat) (tm0 : List (Nat × Value)) (asg body : Code) (w4 : tget tm0 4 = some (.pointer (some ⟨b4, 0, none⟩)))
    (hA : asg = rfA (nav [1, 1, 0, 1, 2] (bdy Tryz.f55))) (hB : body = rfB (nav [1, 1, 0, 1, 2] (bdy Tryz.f55))) (dn : List (Nat × Sl)) (e : Nat × Sl) (hdn : dn.length < 1000) :
    SL.Yields Tryz.prog l [foundV e] [Stc l 22 tm0 asg body .ready none b4 dn] (fun v H => v = .bool true ∧ H = [Stc l 22 tm0 asg body .ready none b4 (dn ++ [e])]) := by
  refine SL.Yields.open hid_opens ?_
  rintro ⟨p, cap⟩ _
  refine (st_yields0 l b4 tm0 asg body dn e p cap hdn w4 hA hB).post ?_
  rintro v H' ⟨rfl, x, R, hp⟩
  refine ⟨_, ⟨rfl, rfl⟩, ?_⟩
  intro w0 F0 w i
  exact shut_of (p := fun _ : Option Addr × Nat => True) (K := StcK l 22 tm0 asg body .ready none b4 (dn ++ [e])) x trivial hp i
theorem slots_hs (P : TxP) (L : List Sl) (l b1 b4 : Nat) (hL : L.length ≤ 200) (ok : ∀ s ∈ L, s.ok) (tm0 : List (Nat × Value)) (asg body : Code) (w4 : tget tm0 4 = some (.pointer (some ⟨b4, 0, none⟩)))
    (hA : asg = rfA (nav [1, 1, 0, 1, 2] (bdy Tryz.f55))) (hB : body = rfB (nav [1, 1, 0, 1, 2] (bdy Tryz.f55))) :
    Does Tryz.prog 147 [.func (.yield l) #[] #[], .pointer (some ⟨b1, 0, none⟩)]
      [lp l 22 tm0 #[8] asg body .ready none, cl b4 96 [.slice none 0 0], vec 32 4 none 0 0 [], cl b1 24 [.pointer (some ⟨P.t, 0, none⟩)], Tx P (slotT 1 L)]
      (fun _ H' => (∃ K', H' = lp l 22 tm0 #[8] asg body .ready none :: K' ∧ ∃ (p : Option Addr) (cap : Nat), K' = [cl b4 96 [.slice p (slE 1 L).length cap], vec 32 4 p (slE 1 L).length cap (slC (slE 1 L)), cl b1 24 [.pointer (some ⟨P.t, 0, none⟩)], Tx P (slotT 1 L)]) ∨ ∃ c K', H' = lp l 22 tm0 #[8] asg body .done (some c) :: K' ∧ False) := by
  have hf := allF_does P L l b1 (fun dn => Stc l 22 tm0 asg body .ready none b4 dn) hL ok (fun dn e hdn => st_yields l b4 tm0 asg body w4 hA hB dn e hdn)
  refine does_pre (does_post hf ?_) (fun i => Inv.shuts (K := StcK l 22 tm0 asg body .ready none b4 [] (none, 0)) (hid_shuts (p := fun _ : Option Addr × Nat => True) (K := StcK l 22 tm0 asg body .ready none b4 []) (none, 0) trivial) i)
  rintro v H1 ⟨rfl, rfl⟩ w0 F0 w i
  obtain ⟨⟨p, cap⟩, _, i2⟩ := Inv.opens (hid_opens (p := fun _ : Option Addr × Nat => True) (K := StcK l 22 tm0 asg body .ready none b4 (slE 1 L))) i
  exact ⟨lp l 22 tm0 #[8] asg body .ready none :: _, .inl ⟨_, rfl, p, cap, rfl⟩, i2⟩
set_option maxHeartbeats 4000000 in
theorem slots_does (P : TxP) (L : List Sl) (hL : L.length ≤ 200) (ok : ∀ s ∈ L, s.ok) : Does Tryz.prog 55 [.pointer (some ⟨P.t, 0, none⟩)] [Tx P (slotT 1 L)]
    (fun v H => ∃ p cap, v = .tuple #[.slice p (slE 1 L).length cap, .int .i64 0] ∧ H = [vec 32 4 p (slE 1 L).length cap (slC (slE 1 L)), Tx P (slotT 1 L)]) := by
  have he := tErr_does P (slotT 1 L)
  refine does_of_m Tryz.func55 Tryz.ntmps55 rfl rfl rfl (fun w0 F0 => ?_)
  (repeat (first | refine g_seq (h := ?_) | refine g_region (h := ?_) | refine l_nil (h := ?_) | refine n_then (h := ?_) | refine l_pures1 (h := ?_) | (refine l_atc ?_; refine l_call_ (all_does P.t) ?_; rintro _ _ _ ⟨b1, rfl, rfl⟩ he; cases he) | (refine l_alloc (h := ?_); intro _) | refine g_block (h := ?_)))
  rename_i b2 b3 b4
  refine g_inv (fun i => vec_nil (32) (4) i) ?_
  refine g_rangeFunc (qn := fun K' => ∃ (p : Option Addr) (cap : Nat), K' = [cl b4 96 [.slice p (slE 1 L).length cap], vec 32 4 p (slE 1 L).length cap (slC (slE 1 L)), cl b1 24 [.pointer (some ⟨P.t, 0, none⟩)], Tx P (slotT 1 L)]) (qx := fun _ _ => False) (K := [cl b4 96 [.slice none 0 0], vec 32 4 none 0 0 [], cl b1 24 [.pointer (some ⟨P.t, 0, none⟩)], Tx P (slotT 1 L)]) ?_ ?_ ?_
  · intro l
    exact slots_hs P L l b1 b4 hL ok _ _ _ rfl (by rfl) (by rfl)
  · rintro D0 K' ⟨p, cap, rfl⟩
    dsimp only [List.cons_append, List.nil_append]
    (repeat (first | refine g_seq (h := ?_) | refine n_then (h := ?_) | refine n_block (h := ?_)))
    (refine g_draw [cl b4 96 [.slice p (slE 1 L).length cap]] (h := a_pass2 (h := ?_)))
    (repeat' (first | refine l_nil (h := ?_) | refine n_then (h := ?_) | (refine l_atc ?_; refine l_call (he) ?_) | refine l_store (h := ?_) | refine g_ret (h := ?_) | refine a_done (h := ?_) | refine a_load (h := a_pass2 (h := ?_)) | refine a_one (h := ?_) | refine n_any (h := a_pass2 (h := ?_))))
    refine r_retM [vec 32 4 p (slE 1 L).length cap (slC (slE 1 L)), Tx P (slotT 1 L)] ?_
    exact ⟨p, cap, rfl, rfl⟩
  · rintro D0 c K' hf
    exact hf.elim
end Go.Proofs.YtmfmommgooccnaaGreat
/- Package slot: Take, Free, Used. -/
set_option maxRecDepth 20000
set_option linter.unusedVariables false
set_option linter.unusedSimpArgs false
namespace Go.Proofs.YtmfmommgooccnaaGreat
open Go.Proofs.YtmfmommgooccnaaGreat.SL

theorem slC_len : ∀ (l : List (Nat × Sl)), (slC l).length = l.length * 4
  | [] => rfl
  | e :: l => by
    have ih := slC_len l
    simp only [slC, List.flatMap_cons, List.length_append, List.length_cons, List.length_nil] at *; omega
theorem slC_cut : ∀ {l : List (Nat × Sl)} {j : Nat} {e : Nat × Sl}, l[j]? = some e → ((slC l).drop (j * 4)).take 4 = [Value.int .i64 (e.1 : Nat), .int .i64 e.2.cap, .int .i64 e.2.epoch, .int .u64 e.2.nonce]
  | e :: l, 0, _, h => by cases h; rfl
  | e :: l, j + 1, _, h => by
    have ih := slC_cut (l := l) (j := j) (by simpa using h)
    have : (j + 1) * 4 = j * 4 + 1 + 1 + 1 + 1 := by omega
    rw [this]
    exact ih
theorem part_sl {l : List (Nat × Sl)} {j : Nat} {e : Nat × Sl} (h : l[j]? = some e) : partV env 32 (slC l) (0 + ((j : Nat) : Int).toNat * 4) = some (.agg (slA e.1 e.2)) := by
  have hj := (List.getElem?_eq_some_iff.1 h).1
  have e0 : 0 + ((j : Nat) : Int).toNat * 4 = j * 4 := by rw [Int.toNat_natCast, Nat.zero_add]
  have hc : cutL (slC l) (j * 4) 4 = some [Value.int .i64 (e.1 : Nat), .int .i64 e.2.cap, .int .i64 e.2.epoch, .int .u64 e.2.nonce] := by
    rw [cutL_of (by rw [slC_len]; omega), slC_cut h]
  rw [e0]
  show (match cutL (slC l) (j * 4) 4 with
        | some r => some (Value.agg r.toArray)
        | none => none) = _
  rw [hc]
/-- What is known of the slots: by their numbers. -/
def Known (L : List Sl) (i : Nat) (kv : List (Int × Value)) : Prop := ∀ j : Nat, kvGet kv ((1 + j : Nat) : Int) = if j < i then some (.agg (slA (1 + j) (L.getD j ⟨0, 0, 0⟩))) else none
theorem Known.step {L : List Sl} {i : Nat} {kv : List (Int × Value)} (h : Known L i kv) (hi : i < L.length) : Known L (i + 1) (kvPut kv ((1 + i : Nat) : Int) (.agg (slA (1 + i) L[i]))) := by
  intro j
  rw [kvGet_put, h j]
  by_cases q : j = i
  · subst q
    rw [if_pos rfl, if_pos (by omega)]
    simp [List.getD, hi]
  · rw [if_neg (by omega)]
    by_cases q2 : j < i
    · rw [if_pos q2, if_pos (by omega)]
    · rw [if_neg q2, if_neg (by omega)]

set_option maxHeartbeats 8000000 in
theorem slotTake_does (P : TxP) (L : List Sl) (cap nonce : Nat) (hc : 1 ≤ cap ∧ cap ≤ 16777215) (hn : nonce < 18446744073709551616) (hL : L.length ≤ 200) (ok : ∀ s ∈ L, s.ok) (room : P.room (slotT 1 L)) (hu : ∀ s ∈ L, ¬ (s.cap ≠ 0 ∧ s.nonce = nonce)) (hfree : takeAt L < 200) :
    Does Tryz.prog 20 [.pointer (some ⟨P.t, 0, none⟩), .int .i64 cap, .int .u64 nonce] [Tx P (slotT 1 L)] (fun v H => v = .tuple #[.agg (slA (1 + takeAt L) ⟨cap, epochAt L, nonce⟩), .int .i64 0] ∧ H = [Tx P (slotT 1 (takeL L cap nonce))]) := by
  have hsl := slots_does P L hL ok
  have hel := slE_len 1 L
  obtain ⟨es, hes⟩ : ∃ es, es = slE 1 L := ⟨_, rfl⟩
  rw [← hes] at hsl hel
  refine does_of Tryz.func20 Tryz.ntmps20 rfl rfl rfl (fun w0 F0 => ?_)
  (repeat' (first | refine g_seq (h := ?_) | refine g_region (h := ?_) | refine l_nil (h := ?_) | refine n_then (h := ?_) | refine l_pures1 (h := ?_) | (refine l_atc ?_; refine l_call_ (hsl) ?_; rintro _ _ _ ⟨ps, cs, rfl, rfl⟩ he; cases he) | refine l_guard_yes (h := ?_) | (refine l_alloc (h := ?_); intro _) | refine g_skip (h := ?_) | refine g_cond_f (h := ?_) | (refine l_spF (h := ?_); intro h) | (refine g_spF (h := ?_); intro h)))
  (refine l_makeMap (fun v : Value => v) (h := ?_); intro _)
  (repeat (first | refine g_seq (h := ?_) | refine g_region (h := ?_) | refine l_nil (h := ?_) | refine n_then (h := ?_) | refine l_pures1 (h := ?_) | refine g_block (h := ?_)))
  rename_i b6 hx mb
  (refine g_loop (fun y : Nat × List (Int × Value) => [(37, .int .i64 y.1), (36, .int .i64 es.length), (35, .slice ps es.length cs), (10, .map (some mb)), (6, .pointer (some ⟨b6, 0, none⟩)), (0, .pointer (some ⟨P.t, 0, none⟩)), (1, .int .i64 cap), (2, .int .u64 nonce)]) (fun y => [mp mb (fun v : Value => v) y.2, vec 32 4 ps es.length cs (slC es), Tx P (slotT 1 L), cl b6 32 [.int .i64 0, .int .i64 0, .int .i64 0, .int .u64 0]]) (fun y => Known L y.1 y.2 ∧ y.1 ≤ L.length) (fun y => L.length - y.1) ((0, [])) ?_ ?_ ?_ ?_; rotate_left; (repeat (first | refine ts_nil | (refine ts_cons rfl ?_ ?_; first | (with_reducible rfl) | rotate_left))); (first | (intro _ i; with_reducible refine i) | rotate_left); rotate_left; (try omega); rotate_right)
  · rintro ⟨i, kv⟩ ⟨hk, hi⟩
    dsimp only at hk hi ⊢
    by_cases hil : i < L.length
    · refine g_ptr (m := es.length) (p := ps) (h := ?_); rintro gs rfl hcs
      have hge : es[i]? = some (1 + i, L[i]) := by rw [hes]; exact slE_get hil
      have hpt := part_sl hge
      dsimp only at hpt
      obtain ⟨s, hs⟩ : ∃ s, s = L[i] := ⟨_, rfl⟩
      have hst := hk.step hil
      rw [← hs] at hpt hst
      have hus := hu s (hs ▸ List.getElem_mem _)
      (repeat' (first | refine g_seq (h := ?_) | refine g_region (h := ?_) | refine l_nil (h := ?_) | refine n_then (h := ?_) | refine l_pures1 (h := ?_) | refine l_guard_yes (h := ?_) | refine l_guard_no (h := ?_) | refine l_load (h := ?_) | refine l_store (h := ?_) | (refine l_alloc (h := ?_); intro _) | refine l_indexAddr (h := ?_) | refine l_mapUpdate (h := ?_) | refine g_skip (h := ?_) | refine g_block (h := ?_) | refine n_block (h := ?_) | refine g_cond_f (h := ?_) | refine l_load_vec (h := ?_) | (refine l_sp (h1 := ?_) (h0 := ?_) <;> intro h) | (refine g_spT (h := ?_); intro h) | (refine g_spF (h := ?_); intro h)))
      all_goals
        (refine n_back ((i + 1, kvPut kv ((1 + i : Nat) : Int) (.agg (slA (1 + i) s)))) ?_ ?_ ?_ ?_; rotate_left; rotate_left; (repeat (first | refine ts_nil | (refine ts_cons rfl ?_ ?_; first | (with_reducible rfl) | rotate_left))); (first | (intro _ i; with_reducible refine i) | rotate_left); (try omega); (try omega))
      all_goals first
        | exact ⟨hst, hil⟩
        | (dsimp only; omega)
        | (rw [wrapI64 (by omega)]; rfl)
        | (intro _ i; exact inv_keep parts_of i)
        | rfl
    · obtain rfl : i = L.length := by omega
      have htl := takeAt_le L
      have hepb : 1 ≤ epochAt L ∧ epochAt L ≤ 15 := by
        unfold epochAt
        split
        · rename_i h
          have h2 := takeAt_free h
          have h3 := ok _ (List.getElem_mem h)
          have e : (L.getD (takeAt L) ⟨0, 1, 0⟩) = L[takeAt L] := by simp [List.getD, h]
          rw [e]
          exact ⟨h3.2.1, h2.2⟩
        · exact ⟨by omega, by omega⟩
      have hset := sSet_does P (slotT 1 L) (1 + takeAt L) ⟨cap, epochAt L, nonce⟩ (by omega) ⟨hc.2, hepb.1, Nat.le_trans hepb.2 (by omega), .inr hepb.2, hn⟩ room
      rw [takeL_put] at hset
      have herr := tErr_does P (slotT 1 (takeL L cap nonce))
      (repeat' (first | refine g_seq (h := ?_) | refine g_region (h := ?_) | refine l_nil (h := ?_) | refine n_then (h := ?_) | refine l_pures1 (h := ?_) | refine g_block (h := ?_) | refine g_exit (h := ?_) | refine n_then_exit (h := ?_) | refine n_block_hit (h := ?_) | (refine g_spF (h := ?_); intro h)))
      (refine g_loop (fun j : Nat => [(13, .int .i64 (1 + j : Nat)), (10, .map (some mb)), (6, .pointer (some ⟨b6, 0, none⟩)), (0, .pointer (some ⟨P.t, 0, none⟩)), (1, .int .i64 cap), (2, .int .u64 nonce)]) (fun j => [mp mb (fun v : Value => v) kv, Tx P (slotT 1 L), cl b6 32 [.int .i64 0, .int .i64 0, .int .i64 0, .int .u64 0]]) (fun j => j ≤ takeAt L) (fun j => takeAt L - j) (0) ?_ ?_ ?_ ?_; rotate_left; (repeat (first | refine ts_nil | (refine ts_cons rfl ?_ ?_; first | (with_reducible rfl) | rotate_left))); (first | (intro _ i; with_reducible refine i) | rotate_left); rotate_left; (try omega); rotate_right)
      · intro j hj
        have hkj := hk j
        have hd : j < 200 → decide (((1 + j : Nat) : Int) ≤ 200) = true := fun h => by simp; omega
        rcases Nat.lt_or_ge j (takeAt L) with hlt | hge
        · have hjl : j < L.length := by omega
          have hbusy := takeAt_busy hlt hjl
          obtain ⟨s, hs⟩ : ∃ s, s = L[j] := ⟨_, rfl⟩
          have hgd : L.getD j ⟨0, 0, 0⟩ = s := by rw [hs]; simp [List.getD, hjl]
          rw [← hs] at hbusy
          rw [if_pos hjl, hgd] at hkj
          (repeat (first | refine g_seq (h := ?_) | refine g_region (h := ?_) | refine l_nil (h := ?_) | refine n_then (h := ?_) | refine l_pures1 (h := ?_)))
          rw [hd (by omega)]
          (repeat (first | refine g_seq (h := ?_) | refine g_region (h := ?_) | refine n_then (h := ?_) | refine l_pures1 (h := ?_) | (refine l_alloc (h := ?_); intro _) | refine l_lookup_ok _ (h := ?_) | refine g_skip (h := ?_) | refine g_block (h := ?_) | refine g_cond_t (h := ?_)))
          rw [hkj]
          (repeat' (first | refine g_seq (h := ?_) | refine g_region (h := ?_) | refine l_nil (h := ?_) | refine n_then (h := ?_) | refine l_pures1 (h := ?_) | refine l_guard_yes (h := ?_) | refine l_guard_no (h := ?_) | refine l_load (h := ?_) | refine l_store (h := ?_) | refine g_skip (h := ?_) | refine g_exit (h := ?_) | refine n_then_exit (h := ?_) | refine n_block_hit (h := ?_) | refine g_cond_t (h := ?_) | refine g_cond_f (h := ?_) | (refine l_sp (h1 := ?_) (h0 := ?_) <;> intro h) | (refine g_spT (h := ?_); intro h)))
          all_goals
            (refine n_back (j + 1) ?_ ?_ ?_ ?_; rotate_left; rotate_left; (repeat (first | refine ts_nil | (refine ts_cons rfl ?_ ?_; first | (with_reducible rfl) | rotate_left))); (first | (intro _ i; with_reducible refine i) | rotate_left); (try omega); (try omega))
          all_goals first
            | (dsimp only; omega)
            | (rw [wrapI64 (by omega)]; congr 1; omega)
            | (rw [wrapI64 (by omega)]; rfl)
            | (intro _ i; exact inv_keep parts_of i)
            | rfl
        · obtain rfl : j = takeAt L := by omega
          by_cases hjl : takeAt L < L.length
          · have hfr := takeAt_free hjl
            obtain ⟨s, hs⟩ : ∃ s, s = L[takeAt L] := ⟨_, rfl⟩
            have hgd : L.getD (takeAt L) ⟨0, 0, 0⟩ = s := by rw [hs]; simp [List.getD, hjl]
            have hep : epochAt L = s.epoch := by unfold epochAt; rw [if_pos hjl, hs]; simp [List.getD, hjl]
            rw [← hs] at hfr
            rw [if_pos hjl, hgd] at hkj
            rw [hep] at hset ⊢
            (repeat (first | refine g_seq (h := ?_) | refine g_region (h := ?_) | refine l_nil (h := ?_) | refine n_then (h := ?_) | refine l_pures1 (h := ?_)))
            rw [hd (by omega)]
            (repeat (first | refine g_seq (h := ?_) | refine g_region (h := ?_) | refine n_then (h := ?_) | refine l_pures1 (h := ?_) | (refine l_alloc (h := ?_); intro _) | refine l_lookup_ok _ (h := ?_) | refine g_skip (h := ?_) | refine g_block (h := ?_) | refine g_cond_t (h := ?_)))
            rw [hkj]
            (repeat' (first | refine g_seq (h := ?_) | refine g_region (h := ?_) | refine l_nil (h := ?_) | refine n_then (h := ?_) | refine l_pures1 (h := ?_) | (refine l_atc ?_; refine l_call (hset) ?_) | (refine l_atc ?_; refine l_call (herr) ?_) | refine l_guard_yes (h := ?_) | refine l_load (h := ?_) | refine l_store (h := ?_) | refine g_skip (h := ?_) | refine g_ret (h := ?_) | refine n_then_ret (h := ?_) | refine n_block_ret (h := ?_) | refine g_cond_f (h := ?_) | (refine l_spF (h := ?_); intro h) | (refine g_spF (h := ?_); intro h)))
            refine r_retk [Tx P (slotT 1 (takeL L cap nonce))] ?_
            exact ⟨rfl, rfl⟩
          · have hep : epochAt L = 1 := by unfold epochAt; rw [if_neg hjl]
            rw [if_neg hjl] at hkj
            rw [hep] at hset ⊢
            have hset : Does Tryz.prog 56 [.pointer (some ⟨P.t, 0, none⟩), .agg #[.int .i64 (1 + takeAt L : Nat), .int .i64 cap, .int .i64 1, .int .u64 nonce]] [Tx P (slotT 1 L)] (fun v H => v = .tuple #[] ∧ H = [Tx P (slotT 1 (takeL L cap nonce))]) := hset
            (repeat (first | refine g_seq (h := ?_) | refine g_region (h := ?_) | refine l_nil (h := ?_) | refine n_then (h := ?_) | refine l_pures1 (h := ?_)))
            rw [hd (by omega)]
            (repeat (first | refine g_seq (h := ?_) | refine g_region (h := ?_) | refine n_then (h := ?_) | refine l_pures1 (h := ?_) | (refine l_alloc (h := ?_); intro _) | refine l_lookup_ok _ (h := ?_) | refine g_skip (h := ?_) | refine g_block (h := ?_) | refine g_cond_t (h := ?_)))
            rw [hkj]
            (repeat' (first | refine g_seq (h := ?_) | refine g_region (h := ?_) | refine l_nil (h := ?_) | refine n_then (h := ?_) | refine l_pures1 (h := ?_) | (refine l_atc ?_; refine l_call (hset) ?_) | (refine l_atc ?_; refine l_call (herr) ?_) | refine l_guard_yes (h := ?_) | refine l_load (h := ?_) | refine l_store (h := ?_) | refine g_skip (h := ?_) | refine g_ret (h := ?_) | refine n_then_ret (h := ?_) | refine n_block_ret (h := ?_) | refine g_cond_t (h := ?_) | refine g_cond_f (h := ?_)))
            refine r_retk [Tx P (slotT 1 (takeL L cap nonce))] ?_
            exact ⟨rfl, rfl⟩
      all_goals first
        | exact Nat.zero_le _
        | rfl
        | (intro _ i; exact inv_keep parts_of i)
  · exact ⟨fun j => by simp [kvGet], Nat.zero_le _⟩
  all_goals first
    | rfl
    | (intro _ i; exact inv_keep parts_of i)

set_option maxHeartbeats 4000000 in
/-- A nonce that a live slot has is refused. -/
theorem sTakeBusy_does (P : TxP) (L : List Sl) (cap nonce : Nat) (hc : 1 ≤ cap ∧ cap ≤ 16777215) (hn : nonce < 18446744073709551616) (hL : L.length ≤ 200) (ok : ∀ s ∈ L, s.ok) (i0 : Nat) (hi0 : i0 < L.length) (hu : L[i0].cap ≠ 0 ∧ L[i0].nonce = nonce) :
    Does Tryz.prog 20 [.pointer (some ⟨P.t, 0, none⟩), .int .i64 cap, .int .u64 nonce] [Tx P (slotT 1 L)] (fun v H => v = .tuple #[.agg #[.int .i64 0, .int .i64 0, .int .i64 0, .int .u64 0], .int .i64 13] ∧ H = [Tx P (slotT 1 L)]) := by
  have hsl := slots_does P L hL ok
  have hel := slE_len 1 L
  obtain ⟨es, hes⟩ : ∃ es, es = slE 1 L := ⟨_, rfl⟩
  rw [← hes] at hsl hel
  refine does_of Tryz.func20 Tryz.ntmps20 rfl rfl rfl (fun w0 F0 => ?_)
  (repeat' (first | refine g_seq (h := ?_) | refine g_region (h := ?_) | refine l_nil (h := ?_) | refine n_then (h := ?_) | refine l_pures1 (h := ?_) | (refine l_atc ?_; refine l_call_ (hsl) ?_; rintro _ _ _ ⟨ps, cs, rfl, rfl⟩ he; cases he) | refine l_guard_yes (h := ?_) | (refine l_alloc (h := ?_); intro _) | refine g_skip (h := ?_) | refine g_cond_f (h := ?_) | (refine l_spF (h := ?_); intro h) | (refine g_spF (h := ?_); intro h)))
  (refine l_makeMap (fun v : Value => v) (h := ?_); intro _)
  (repeat (first | refine g_seq (h := ?_) | refine g_region (h := ?_) | refine l_nil (h := ?_) | refine n_then (h := ?_) | refine l_pures1 (h := ?_) | refine g_block (h := ?_)))
  rename_i b6 hx mb
  (refine g_loop (fun y : Nat × List (Int × Value) => [(37, .int .i64 y.1), (36, .int .i64 es.length), (35, .slice ps es.length cs), (10, .map (some mb)), (6, .pointer (some ⟨b6, 0, none⟩)), (0, .pointer (some ⟨P.t, 0, none⟩)), (1, .int .i64 cap), (2, .int .u64 nonce)]) (fun y => [mp mb (fun v : Value => v) y.2, vec 32 4 ps es.length cs (slC es), Tx P (slotT 1 L), cl b6 32 [.int .i64 0, .int .i64 0, .int .i64 0, .int .u64 0]]) (fun y => y.1 ≤ i0) (fun y => L.length - y.1) ((0, [])) ?_ ?_ ?_ ?_; rotate_left; (repeat (first | refine ts_nil | (refine ts_cons rfl ?_ ?_; first | (with_reducible rfl) | rotate_left))); (first | (intro _ i; with_reducible refine i) | rotate_left); rotate_left; (try omega); rotate_right)
  · rintro ⟨i, kv⟩ hi
    dsimp only at hi ⊢
    have hil : i < L.length := by omega
    refine g_ptr (m := es.length) (p := ps) (h := ?_); rintro gs rfl hcs
    have hge : es[i]? = some (1 + i, L[i]) := by rw [hes]; exact slE_get hil
    have hpt := part_sl hge
    dsimp only at hpt
    have hii : i = i0 → L[i].cap ≠ 0 ∧ L[i].nonce = nonce := by rintro rfl; exact hu
    obtain ⟨s, hs⟩ : ∃ s, s = L[i] := ⟨_, rfl⟩
    rw [← hs] at hpt hii
    by_cases q : s.cap ≠ 0 ∧ s.nonce = nonce
    · (repeat' (first | refine g_seq (h := ?_) | refine g_region (h := ?_) | refine l_nil (h := ?_) | refine n_then (h := ?_) | refine l_pures1 (h := ?_) | refine l_guard_yes (h := ?_) | refine l_load (h := ?_) | refine l_store (h := ?_) | (refine l_alloc (h := ?_); intro _) | refine l_indexAddr (h := ?_) | refine g_skip (h := ?_) | refine g_ret (h := ?_) | refine n_then_ret (h := ?_) | refine n_block_ret (h := ?_) | refine g_block (h := ?_) | refine l_load_vec (h := ?_) | (refine l_spT (h := ?_); intro h) | (refine g_spT (h := ?_); intro h)))
      refine r_retk [Tx P (slotT 1 L)] ?_
      exact ⟨rfl, rfl⟩
    · have hlt : i < i0 := by
        rcases Nat.lt_or_ge i i0 with h | h
        · exact h
        · exact absurd (hii (by omega)) q
      (repeat' (first | refine g_seq (h := ?_) | refine g_region (h := ?_) | refine l_nil (h := ?_) | refine n_then (h := ?_) | refine l_pures1 (h := ?_) | refine l_guard_yes (h := ?_) | refine l_guard_no (h := ?_) | refine l_load (h := ?_) | refine l_store (h := ?_) | (refine l_alloc (h := ?_); intro _) | refine l_indexAddr (h := ?_) | refine l_mapUpdate (h := ?_) | refine g_skip (h := ?_) | refine g_block (h := ?_) | refine n_block (h := ?_) | refine g_cond_f (h := ?_) | refine l_load_vec (h := ?_) | (refine l_sp (h1 := ?_) (h0 := ?_) <;> intro h) | (refine g_spT (h := ?_); intro h) | (refine g_spF (h := ?_); intro h)))
      all_goals
        (refine n_back ((i + 1, kvPut kv ((1 + i : Nat) : Int) (.agg (slA (1 + i) s)))) ?_ ?_ ?_ ?_; rotate_left; rotate_left; (repeat (first | refine ts_nil | (refine ts_cons rfl ?_ ?_; first | (with_reducible rfl) | rotate_left))); (first | (intro _ i; with_reducible refine i) | rotate_left); (try omega); (try omega))
      all_goals first
        | exact hlt
        | (dsimp only; omega)
        | (rw [wrapI64 (by omega)]; rfl)
        | (intro _ i; exact inv_keep parts_of i)
        | rfl
  all_goals first
    | exact Nat.zero_le _
    | rfl
    | (intro _ i; exact inv_keep parts_of i)
end Go.Proofs.YtmfmommgooccnaaGreat
/- Package slot: Free. -/
set_option maxRecDepth 20000
set_option linter.unusedVariables false
set_option linter.unusedSimpArgs false
namespace Go.Proofs.YtmfmommgooccnaaGreat
open Go.Proofs.YtmfmommgooccnaaGreat.SL

set_option maxHeartbeats 8000000 in
theorem sFree_does (P : TxP) (L : List Sl) (cap : Nat) (hc : 1 ≤ cap ∧ cap ≤ 16777215) (hL : L.length ≤ 200) (ok : ∀ s ∈ L, s.ok) (room : P.room (slotT 1 L)) :
    Does Tryz.prog 19 [.pointer (some ⟨P.t, 0, none⟩), .int .i64 cap] [Tx P (slotT 1 L)] (fun v H => v = .tuple #[.int .i64 (frN cap L : Nat), .int .i64 0] ∧ H = [Tx P (slotT 1 (L.map (Sl.fr cap)))]) := by
  have hsl := slots_does P L hL ok
  have hel := slE_len 1 L
  obtain ⟨es, hes⟩ : ∃ es, es = slE 1 L := ⟨_, rfl⟩
  rw [← hes] at hsl hel
  have hm0 := mixL_zero cap L
  refine does_of Tryz.func19 Tryz.ntmps19 rfl rfl rfl (fun w0 F0 => ?_)
  (repeat' (first | refine g_seq (h := ?_) | refine g_region (h := ?_) | refine l_nil (h := ?_) | refine n_then (h := ?_) | refine l_pures1 (h := ?_) | (refine l_atc ?_; refine l_call_ (hsl) ?_; rintro _ _ _ ⟨ps, cs, rfl, rfl⟩ he; cases he) | refine g_skip (h := ?_) | refine g_block (h := ?_) | refine g_cond_f (h := ?_)))
  (refine g_loop (fun i : Nat => [(22, .int .i64 i), (21, .int .i64 es.length), (20, .slice ps es.length cs), (8, .int .i64 (frN cap (L.take i) : Nat)), (0, .pointer (some ⟨P.t, 0, none⟩)), (1, .int .i64 cap)]) (fun i => [Tx P (slotT 1 (mixL cap L i)), vec 32 4 ps es.length cs (slC es)]) (fun i => i ≤ L.length) (fun i => L.length - i) (0) ?_ ?_ ?_ ?_; rotate_left; (repeat (first | refine ts_nil | (refine ts_cons rfl ?_ ?_; first | (with_reducible rfl) | rotate_left))); (first | (intro _ i; with_reducible refine i) | rotate_left); rotate_left; (try omega); rotate_right)
  · intro i hi
    by_cases hil : i < L.length
    · refine g_ptr (m := es.length) (p := ps) (h := ?_); rintro gs rfl hcs
      have hge : es[i]? = some (1 + i, L[i]) := by rw [hes]; exact slE_get hil
      have hpt := part_sl hge
      dsimp only at hpt
      have hsm := ok _ (List.getElem_mem hil)
      have hfs := frN_snoc (cap := cap) hil
      have hfl := frN_le cap (L.take i)
      have hml := mixL_put (cap := cap) hil
      have hkp := mixL_keep (cap := cap) hil
      have hmr : P.room (slotT 1 (mixL cap L i)) := by unfold TxP.room at room ⊢; rw [slotT_len, mixL_len]; rw [slotT_len] at room; exact room
      obtain ⟨s, hs⟩ : ∃ s, s = L[i] := ⟨_, rfl⟩
      rw [← hs] at hpt hsm hfs hml hkp
      have hsok := hsm
      obtain ⟨o1, o2, o3, o4, o5⟩ := hsm
      simp only [List.length_take] at hfl
      by_cases q : s.cap ≠ 0 ∧ s.cap = cap
      · rw [if_pos q] at hfs
        have hset := sSet_does P (slotT 1 (mixL cap L i)) (1 + i) ⟨0, s.epoch + 1, 0⟩ (by omega) ⟨by simp, by simp, by show s.epoch + 1 ≤ 16; omega, .inl rfl, by simp⟩ hmr
        rw [hml q] at hset
        have hset : Does Tryz.prog 56 [.pointer (some ⟨P.t, 0, none⟩), .agg #[.int .i64 (1 + i : Nat), .int .i64 0, .int .i64 (s.epoch + 1 : Nat), .int .u64 0]] [Tx P (slotT 1 (mixL cap L i))] (fun v H => v = .tuple #[] ∧ H = [Tx P (slotT 1 (mixL cap L (i + 1)))]) := hset
        have ew : IntKind.i64.wrap ((s.epoch : Int) + 1) = ((s.epoch + 1 : Nat) : Int) := by rw [wrapI64 (by omega)]; omega
        have ew2 : IntKind.i64.wrap ((frN cap (L.take i) : Int) + 1) = ((frN cap (L.take i) + 1 : Nat) : Int) := by rw [wrapI64 (by omega)]; omega
        rw [← hfs] at ew2
        (repeat' (first | refine g_seq (h := ?_) | refine g_region (h := ?_) | refine l_nil (h := ?_) | refine n_then (h := ?_) | refine l_pures1 (h := ?_) | refine l_guard_yes (h := ?_) | refine l_load (h := ?_) | refine l_store (h := ?_) | (refine l_alloc (h := ?_); intro _) | refine l_indexAddr (h := ?_) | refine g_skip (h := ?_) | refine g_block (h := ?_) | refine l_load_vec (h := ?_) | (refine l_spT (h := ?_); intro h) | (refine g_spT (h := ?_); intro h)))
        rw [ew]
        (repeat' (first | refine g_region (h := ?_) | refine l_nil (h := ?_) | refine n_then (h := ?_) | refine l_pures1 (h := ?_) | (refine l_atc ?_; refine l_call (hset) ?_) | refine n_block (h := ?_)))
        rw [ew2]
        (refine n_back (i + 1) ?_ ?_ ?_ ?_; rotate_left; rotate_left; (repeat (first | refine ts_nil | (refine ts_cons rfl ?_ ?_; first | (with_reducible rfl) | rotate_left))); (first | (intro _ i; with_reducible refine i) | rotate_left); (try omega); (try omega))
        all_goals first
          | (dsimp only; omega)
          | (rw [wrapI64 (by omega)]; rfl)
          | (intro _ i; exact inv_keep parts_of i)
          | rfl
      · rw [if_neg q, Nat.add_zero] at hfs
        (repeat' (first | refine g_seq (h := ?_) | refine g_region (h := ?_) | refine l_nil (h := ?_) | refine n_then (h := ?_) | refine l_pures1 (h := ?_) | refine l_guard_yes (h := ?_) | refine l_guard_no (h := ?_) | refine l_load (h := ?_) | refine l_store (h := ?_) | (refine l_alloc (h := ?_); intro _) | refine l_indexAddr (h := ?_) | refine g_skip (h := ?_) | refine g_block (h := ?_) | refine n_block (h := ?_) | refine g_cond_f (h := ?_) | refine l_load_vec (h := ?_) | (refine l_sp (h1 := ?_) (h0 := ?_) <;> intro h) | (refine g_spT (h := ?_); intro h) | (refine g_spF (h := ?_); intro h)))
        all_goals
          (refine n_back (i + 1) ?_ ?_ ?_ ?_; rotate_left; rotate_left; (repeat (first | refine ts_nil | (refine ts_cons rfl ?_ ?_; first | (with_reducible rfl) | rotate_left))); (first | (intro _ i; with_reducible refine i) | rotate_left); (try omega); (try omega))
        all_goals first
          | (rw [hfs]; done)
          | (rw [hfs]; rfl)
          | (intro _ i; rw [hkp q]; exact inv_keep parts_of i)
          | (dsimp only; omega)
          | (rw [wrapI64 (by omega)]; rfl)
          | (intro _ i; exact inv_keep parts_of i)
          | rfl
    · obtain rfl : i = L.length := by omega
      have he := tErr_does P (slotT 1 (L.map (Sl.fr cap)))
      rw [mixL_all, frN_all]
      (repeat' (first | refine g_seq (h := ?_) | refine g_region (h := ?_) | refine l_nil (h := ?_) | refine n_then (h := ?_) | refine l_pures1 (h := ?_) | (refine l_atc ?_; refine l_call (he) ?_) | refine g_skip (h := ?_) | refine g_ret (h := ?_) | refine g_exit (h := ?_) | refine n_then_exit (h := ?_) | refine n_block_hit (h := ?_) | refine g_cond_f (h := ?_) | (refine g_spF (h := ?_); intro h)))
      refine r_retk [Tx P (slotT 1 (L.map (Sl.fr cap)))] ?_
      exact ⟨rfl, rfl⟩
  all_goals first
    | exact Nat.zero_le _
    | rfl
    | (intro _ i; rw [hm0]; exact inv_keep parts_of i)
end Go.Proofs.YtmfmommgooccnaaGreat
/- The framework, part 21: structs of whole numbers compared. -/
set_option linter.unusedVariables false
set_option linter.unusedSimpArgs false
namespace Go.Proofs.YtmfmommgooccnaaGreat.SL
section
variable {P : Program} {E : Env} {n : Nat} {w0 : World} {F0 : Nat → Prop} {Q : Exit → Act → World → Prop} {tm : List (Nat × Value)} {D : List Deferred} {H H' : List SProp} {ops rest : List Oper}
variable {ty : TypeId} {pos : String} {after : Array Edge}

/-- Are all fields, which are whole numbers, the same? -/
def eqInts (E : Env) (xs ys : List Value) : List Field → Option Bool
  | [] => some true
  | f :: l => (match partV E f.type xs f.offset with
    | some (.int k a) => (match partV E f.type ys f.offset with
      | some (.int k' b) => (match look E.ty f.type with
        | some (.int _) => bif (decide (f.name = "_") || !decide (k = k')) then none else (match eqInts E xs ys l with
          | some r => some (a == b && r)
          | none => none)
        | _ => none)
      | _ => none)
    | _ => none)
theorem run_eqInt {t : Nat} {q k : IntKind} (hu : P.underlying t = some (.int q)) (d : Nat) (a b : Int) (w : World) : (Op.equalIn (d + 1) t (.int k a) (.int k b)).run P w = .ok (a == b) w := by
  unfold Op.equalIn
  simp only [Sem.run_bind, run_underlying hu, Result.andThen, if_true, Sem.run_pure]
theorem run_eqList (k : EnvOk P E) {xs ys : Array Value} (d : Nat) (w : World) : ∀ {fs : List Field} {r : Bool}, eqInts E xs.toList ys.toList fs = some r →
    (forIn fs (none, ()) fun (f : Field) (__s : Option Bool × Unit) =>
          (if f.name ≠ "_" then do
            let __do_lift ← part f.type xs f.offset
            let __do_lift_1 ← part f.type ys f.offset
            let __do_lift ← Op.equalIn (d + 1) f.type __do_lift __do_lift_1
            if (!__do_lift) = true then pure (ForInStep.done (some false, ())) else pure (ForInStep.yield (none, ()))
          else pure (ForInStep.yield (none, ())) : Sem (ForInStep (Option Bool × Unit)))).run P w = .ok (if r then (none, ()) else (some false, ())) w
  | [], r, h => by
    simp only [eqInts, Option.some.injEq] at h
    subst h
    simp
  | f :: l, r, h => by
    simp only [eqInts] at h
    split at h
    · rename_i q a h1
      split at h
      · rename_i q' b h2
        split at h
        · rename_i q2 h3
          cases hc : (decide (f.name = "_") || !decide (q = q')) with
          | true => rw [hc] at h; cases h
          | false =>
            rw [hc, cond_false] at h
            simp only [Bool.or_eq_false_iff, decide_eq_false_iff_not, Bool.not_eq_false', decide_eq_true_eq] at hc
            obtain ⟨hn, rfl⟩ := hc
            split at h
            · rename_i r' h4
              simp only [Option.some.injEq] at h; subst h
              have ih := run_eqList k d w h4
              rw [List.forIn_cons]
              simp only [hn, ne_eq, not_false_eq_true, if_true, Sem.run_bind, partV_sound k h1, partV_sound k h2, run_eqInt (k.under h3), Result.andThen]
              by_cases hab : a = b
              · subst hab
                simp only [beq_self_eq_true, Bool.not_true, Bool.false_eq_true, if_false, Sem.run_pure, Bool.true_and]
                exact ih
              · have : (a == b) = false := by simpa using hab
                simp only [this, Bool.not_false, if_true, Sem.run_pure, Bool.false_and, Bool.false_eq_true, if_false]
            · cases h
        · cases h
      · cases h
    · cases h
theorem run_eqStruct (k : EnvOk P E) {t : Nat} {xs ys : Array Value} {fs : Array Field} {r : Bool} (hu : P.underlying t = some (.struct fs)) (hs : P.stoodInHeld t = false) (h : eqInts E xs.toList ys.toList fs.toList = some r) (w : World) : (Op.equal t (.agg xs) (.agg ys)).run P w = .ok r w := by
  unfold Op.equal
  obtain ⟨d, hd⟩ : ∃ d, Op.maxDepth = d + 1 + 1 := ⟨Op.maxDepth - 2, by decide⟩
  rw [hd]
  unfold Op.equalIn
  have hp : (program).run P w = .ok P w := by simp [program, Sem.run]
  simp only [Sem.run_bind, run_underlying hu, Result.andThen, hp, hs, Bool.false_eq_true, if_false]
  have hl := run_eqList k (xs := xs) (ys := ys) d w h
  rw [← Array.forIn_toList]
  rw [hl]
  cases r <;> simp
/-- A type of structs of whole numbers, of which nothing is known but what it says. -/
class Plain (P : Program) (t : Nat) : Prop where
  it : P.stoodInHeld t = false ∧ P.eqGuardType P.depth t = false
theorem l_eqStruct {d t t2 : Nat} {x y : Operand} {xs ys : Array Value} {fs : Array Field} {r : Bool} (k : EnvOk P E := by refine inferInstance) (hd : Nat.blt d n = true := by refine rfl) (hx : ev tm x = some (.agg xs) := by refine rfl) (hy : ev tm y = some (.agg ys) := by refine rfl) (hu : look E.ty t = some (.struct fs) := by refine rfl) (hr : eqInts E xs.toList ys.toList fs.toList = some r := by refine rfl) (pl : Plain P t := by refine inferInstance)
    (h : L P n w0 F0 ops.toArray rest Q ((d, .bool r) :: tm) D H) : L P n w0 F0 ops.toArray (⟨some d, .binOp .eql t x y t2, ty, pos, after, none⟩ :: rest) Q tm D H := .mk fun a w st => by
  refine wpList_value rfl (v := .bool r) (w' := w) ?_ (h _ _ (st.put hd _))
  have hp : (program).run P w = .ok P w := by simp [program, Sem.run]
  have hg : (eqGuard .eql t x y (.agg xs) (.agg ys)).run P w = .ok () w := by
    unfold eqGuard
    simp [Sem.run_bind, hp, Result.andThen, pl.it.2]
  simp only [execOp, ev_sound st.tm hx, ev_sound st.tm hy, Sem.run_bind, hg, Result.andThen, binOp, run_eqStruct k (k.under hu) pl.it.1 hr, Sem.run_pure]
theorem l_neStruct {d t t2 : Nat} {x y : Operand} {xs ys : Array Value} {fs : Array Field} {r : Bool} (k : EnvOk P E := by refine inferInstance) (hd : Nat.blt d n = true := by refine rfl) (hx : ev tm x = some (.agg xs) := by refine rfl) (hy : ev tm y = some (.agg ys) := by refine rfl) (hu : look E.ty t = some (.struct fs) := by refine rfl) (hr : eqInts E xs.toList ys.toList fs.toList = some r := by refine rfl) (pl : Plain P t := by refine inferInstance)
    (h : L P n w0 F0 ops.toArray rest Q ((d, .bool (!r)) :: tm) D H) : L P n w0 F0 ops.toArray (⟨some d, .binOp .neq t x y t2, ty, pos, after, none⟩ :: rest) Q tm D H := .mk fun a w st => by
  refine wpList_value rfl (v := .bool (!r)) (w' := w) ?_ (h _ _ (st.put hd _))
  have hp : (program).run P w = .ok P w := by simp [program, Sem.run]
  have hg : (eqGuard .neq t x y (.agg xs) (.agg ys)).run P w = .ok () w := by
    unfold eqGuard
    simp [Sem.run_bind, hp, Result.andThen, pl.it.2]
  simp only [execOp, ev_sound st.tm hx, ev_sound st.tm hy, Sem.run_bind, hg, Result.andThen, binOp, run_eqStruct k (k.under hu) pl.it.1 hr, Sem.run_pure]
end
end Go.Proofs.YtmfmommgooccnaaGreat.SL
/- Law SlotEpochs. -/
set_option maxRecDepth 20000
set_option linter.unusedVariables false
set_option linter.unusedSimpArgs false
namespace Go.Proofs.YtmfmommgooccnaaGreat
open Go.Proofs.YtmfmommgooccnaaGreat.SL

instance plainSlot : Plain Tryz.prog 32 := ⟨⟨by kernel_rfl, by kernel_rfl⟩⟩

theorem examples17_does : Does Tryz.prog 17 [] [] (fun v H => v = .bool true ∧ H = []) := by
  have room : ∀ t sb db (L : List Sl), L.length ≤ 200 → (TxP.new t sb db 640).room (slotT 1 L) := fun t sb db L h => by show 0 + 2 * (slotT 1 L).length + 25 < 640; rw [slotT_len]; omega
  refine does_of Tryz.func17 Tryz.ntmps17 rfl rfl rfl (fun w0 F0 => ?_)
  (repeat (first | refine g_seq (h := ?_) | refine g_region (h := ?_) | refine l_nil (h := ?_) | refine n_then (h := ?_) | refine l_pures1 (h := ?_) | (refine l_atc ?_; refine l_call_ (made17_does) ?_; rintro _ _ _ ⟨t, db, sb, rfl, rfl⟩ he; cases he) | refine g_skip (h := ?_) | refine g_cond_f (h := ?_)))
  have h1 : Does Tryz.prog 20 [.pointer (some ⟨t, 0, none⟩), .int .i64 9, .int .u64 7] [Tx (TxP.new t sb db 640) []] (fun v H => v = .tuple #[.agg #[.int .i64 1, .int .i64 9, .int .i64 1, .int .u64 7], .int .i64 0] ∧ H = [Tx (TxP.new t sb db 640) (slotT 1 [⟨9, 1, 7⟩])]) :=
    slotTake_does (TxP.new t sb db 640) [] 9 7 (by omega) (by omega) (by simp) (by simp) (room _ _ _ _ (by simp)) (by simp) (by decide)
  have h2 : Does Tryz.prog 20 [.pointer (some ⟨t, 0, none⟩), .int .i64 9, .int .u64 7] [Tx (TxP.new t sb db 640) (slotT 1 [⟨9, 1, 7⟩])] (fun v H => v = .tuple #[.agg #[.int .i64 0, .int .i64 0, .int .i64 0, .int .u64 0], .int .i64 13] ∧ H = [Tx (TxP.new t sb db 640) (slotT 1 [⟨9, 1, 7⟩])]) :=
    sTakeBusy_does (TxP.new t sb db 640) [⟨9, 1, 7⟩] 9 7 (by omega) (by omega) (by simp) (by simp [Sl.ok]) 0 (by simp) (by simp)
  have h3 : Does Tryz.prog 19 [.pointer (some ⟨t, 0, none⟩), .int .i64 9] [Tx (TxP.new t sb db 640) (slotT 1 [⟨9, 1, 7⟩])] (fun v H => v = .tuple #[.int .i64 1, .int .i64 0] ∧ H = [Tx (TxP.new t sb db 640) (slotT 1 [⟨0, 2, 0⟩])]) :=
    sFree_does (TxP.new t sb db 640) [⟨9, 1, 7⟩] 9 (by omega) (by simp) (by simp [Sl.ok]) (room _ _ _ _ (by simp))
  have h4 : Does Tryz.prog 20 [.pointer (some ⟨t, 0, none⟩), .int .i64 8, .int .u64 7] [Tx (TxP.new t sb db 640) (slotT 1 [⟨0, 2, 0⟩])] (fun v H => v = .tuple #[.agg #[.int .i64 1, .int .i64 8, .int .i64 2, .int .u64 7], .int .i64 0] ∧ H = [Tx (TxP.new t sb db 640) (slotT 1 [⟨8, 2, 7⟩])]) :=
    slotTake_does (TxP.new t sb db 640) [⟨0, 2, 0⟩] 8 7 (by omega) (by omega) (by simp) (by simp [Sl.ok]) (room _ _ _ _ (by simp)) (by simp) (by decide)
  (repeat (first | refine g_seq (h := ?_) | refine g_region (h := ?_) | refine l_nil (h := ?_) | refine n_then (h := ?_) | refine l_pures1 (h := ?_) | (refine l_atc ?_; refine l_call (h1) ?_) | refine l_store (h := ?_) | (refine l_alloc (h := ?_); intro _)))
  (repeat (first | refine g_seq (h := ?_) | refine g_region (h := ?_) | refine l_nil (h := ?_) | refine n_then (h := ?_) | refine l_pures1 (h := ?_) | (refine l_atc ?_; refine l_call (h2) ?_) | refine l_store (h := ?_) | (refine l_alloc (h := ?_); intro _)))
  (repeat (first | refine g_seq (h := ?_) | refine g_region (h := ?_) | refine l_nil (h := ?_) | refine n_then (h := ?_) | refine l_pures1 (h := ?_) | (refine l_atc ?_; refine l_call (h3) ?_)))
  (repeat' (first | refine g_seq (h := ?_) | refine g_region (h := ?_) | refine l_nil (h := ?_) | refine n_then (h := ?_) | refine l_pures1 (h := ?_) | (refine l_atc ?_; refine l_call (h4) ?_) | refine l_guard_yes (h := ?_) | refine l_load (h := ?_) | refine l_store (h := ?_) | (refine l_alloc (h := ?_); intro _) | refine g_ret (h := ?_) | refine l_eqStruct (h := ?_)))
  refine r_retk [] ?_
  exact ⟨rfl, rfl⟩
end Go.Proofs.YtmfmommgooccnaaGreat
/- The framework, part 22: places in an array. -/
set_option linter.unusedVariables false
set_option linter.unusedSimpArgs false
namespace Go.Proofs.YtmfmommgooccnaaGreat.SL
section
variable {P : Program} {E : Env} {n : Nat} {w0 : World} {F0 : Nat → Prop} {Q : Exit → Act → World → Prop} {tm : List (Nat × Value)} {D : List Deferred} {H H' : List SProp} {ops rest : List Oper}
variable {ty : TypeId} {pos : String} {after : Array Edge}

theorem l_indexArr {d t e b off m sz by' : Nat} {x i : Operand} {kk : IntKind} {j : Int} {z : Value} (k : EnvOk P E := by refine inferInstance) (hd : Nat.blt d n = true := by refine rfl) (hx : ev tm x = some (.pointer (some ⟨b, off, none⟩)) := by refine rfl) (hi : ev tm i = some (.int kk j) := by refine rfl) (ht : look E.ty t = some (.array m e) := by refine rfl) (he : look E.inf e = some (z, sz, by') := by refine rfl)
    (hb : 0 ≤ j ∧ j < m := by first | assumption | omega | (refine ⟨?_, ?_⟩ <;> omega)) (h : L P n w0 F0 ops.toArray rest Q ((d, .pointer (some ⟨b, off + j.toNat * sz, none⟩)) :: tm) D H) :
    L P n w0 F0 ops.toArray (⟨some d, .indexAddr t x i, ty, pos, after, none⟩ :: rest) Q tm D H := by
  refine .mk fun a w s => ?_
  refine wpList_value rfl (v := .pointer (some ⟨b, off + j.toNat * sz, none⟩)) (w' := w) ?_ (h _ _ (s.put hd _))
  have ha : (⟨b, off, none⟩ : Addr).add (j.toNat * sz) = ⟨b, off + j.toNat * sz, none⟩ := by unfold Addr.add; split <;> simp_all
  simp only [execOp, ev_sound s.tm hx, ev_sound s.tm hi, Instr.indexAt, asIntOf, Instr.sureAddr, Sem.run_bind, Sem.run_pure, Result.andThen, run_underlying (k.under ht), if_pos hb, run_size k he, ha]
end
end Go.Proofs.YtmfmommgooccnaaGreat.SL
/- Law SlotLeast. -/
set_option maxRecDepth 20000
set_option linter.unusedVariables false
set_option linter.unusedSimpArgs false
namespace Go.Proofs.YtmfmommgooccnaaGreat
open Go.Proofs.YtmfmommgooccnaaGreat.SL

theorem wf_u8' {a : Int} (h : (Lit.int .u8 a).wf = true) : 0 ≤ a ∧ a < 256 := by
  simp [Lit.wf, IntKind.min, IntKind.max, IntKind.bits, IntKind.signed] at h
  omega
theorem takeL_mem {L : List Sl} {cap n : Nat} {s : Sl} (h : s ∈ takeL L cap n) : s ∈ L ∨ s = ⟨cap, epochAt L, n⟩ := by
  unfold takeL at h
  split at h
  · exact List.mem_or_eq_of_mem_set h
  · simpa using h
theorem epochAt_bd {L : List Sl} (ok : ∀ s ∈ L, s.ok) : 1 ≤ epochAt L ∧ epochAt L ≤ 15 := by
  unfold epochAt
  split
  · rename_i h
    have h2 := takeAt_free h
    have h3 := ok _ (List.getElem_mem h)
    have e : (L.getD (takeAt L) ⟨0, 1, 0⟩) = L[takeAt L] := by simp [List.getD, h]
    rw [e]
    exact ⟨h3.2.1, h2.2⟩
  · exact ⟨by omega, by omega⟩
theorem takeL_ok {L : List Sl} {cap n : Nat} (ok : ∀ s ∈ L, s.ok) (hc : cap ≤ 16777215) (hn : n < 18446744073709551616) : ∀ s ∈ takeL L cap n, s.ok := by
  intro s hs
  rcases takeL_mem hs with h | rfl
  · exact ok s h
  · have := epochAt_bd ok
    exact ⟨hc, this.1, Nat.le_trans this.2 (by omega), .inr this.2, hn⟩
/-- The cap of the slot of a number. -/
def capAt (L : List Sl) (q : Nat) : Nat := if q = 0 then 0 else (L.getD (q - 1) ⟨0, 0, 0⟩).cap
theorem capAt_succ {L : List Sl} {j : Nat} (h : j < L.length) : capAt L (1 + j) = L[j].cap := by
  have e : 1 + j - 1 = j := by omega
  unfold capAt
  rw [if_neg (by omega), e]
  simp [List.getD, h]
theorem capAt_none {L : List Sl} {j : Nat} (h : L.length ≤ j) : capAt L (1 + j) = 0 := by
  have e : 1 + j - 1 = j := by omega
  unfold capAt
  rw [if_neg (by omega), e]
  simp [List.getD, List.getElem?_eq_none h]
theorem capAt_take {L : List Sl} : capAt L (1 + takeAt L) = 0 := by
  rcases Nat.lt_or_ge (takeAt L) L.length with h | h
  · rw [capAt_succ h]; exact (takeAt_free h).1
  · exact capAt_none h
theorem capAt_fr {L : List Sl} {c : Nat} (hc : 1 ≤ c) (q : Nat) : capAt (L.map (Sl.fr c)) q = if capAt L q = c then 0 else capAt L q := by
  by_cases h0 : q = 0
  · subst h0
    simp [capAt]
  · obtain ⟨j, rfl⟩ : ∃ j, q = 1 + j := ⟨q - 1, by omega⟩
    rcases Nat.lt_or_ge j L.length with h | h
    · rw [capAt_succ (by simpa using h), capAt_succ h, List.getElem_map]
      unfold Sl.fr
      by_cases z : L[j].cap = c
      · rw [if_pos ⟨by omega, z⟩, if_pos z]
      · rw [if_neg (fun q => z q.2), if_neg z]
    · rw [capAt_none (by simpa using h), capAt_none h]
      simp
theorem capAt_takeL {L : List Sl} {cap n : Nat} (q : Nat) : capAt (takeL L cap n) q = if q = 1 + takeAt L then cap else capAt L q := by
  have htl := takeAt_le L
  by_cases h0 : q = 0
  · subst h0
    rw [if_neg (by omega)]
    rfl
  · obtain ⟨j, rfl⟩ : ∃ j, q = 1 + j := ⟨q - 1, by omega⟩
    have e : 1 + j - 1 = j := by omega
    unfold capAt
    rw [if_neg h0, if_neg h0, e]
    unfold takeL
    split
    · rename_i h
      by_cases hj : j = takeAt L
      · subst hj
        rw [if_pos rfl]
        simp [List.getD, h]
      · rw [if_neg (by omega)]
        simp [List.getD, List.getElem?_set_ne (Ne.symm hj)]
    · rename_i h
      have e2 : takeAt L = L.length := by omega
      rw [e2]
      by_cases hj : j = L.length
      · subst hj
        rw [if_pos rfl]
        simp [List.getD]
      · rw [if_neg (by omega)]
        rcases Nat.lt_or_ge j L.length with q | q
        · simp [List.getD, List.getElem?_append_left q]
        · simp [List.getD, List.getElem?_append_right q, List.getElem?_eq_none q, List.getElem?_cons, show j - L.length ≠ 0 by omega]
/-- Sixty numbers. -/
def arr (f : Nat → Nat) : List Value := (List.range 60).map fun q => .int .i64 (f q)
theorem arr_len (f : Nat → Nat) : (arr f).length = 60 := by simp [arr]
theorem arr_get {f : Nat → Nat} {q : Nat} (h : q < 60) : (arr f)[0 + ((q : Nat) : Int).toNat * 1]? = some (.int .i64 (f q)) := by simp [arr, h]
theorem arr_set {f g : Nat → Nat} {q v : Nat} (h : q < 60) (e : ∀ x, x < 60 → g x = if x = q then v else f x) : (arr f).set (0 + ((q : Nat) : Int).toNat * 1) (.int .i64 v) = arr g := by
  apply List.ext_getElem
  · simp [arr]
  · intro x h1 h2
    have hx : x < 60 := by simpa [arr] using h2
    rw [List.getElem_set]
    have := e x hx
    by_cases hq : q = x
    · subst hq
      rw [if_pos rfl] at this
      simp [arr, this]
    · rw [if_neg (fun z => hq z.symm)] at this
      rw [if_neg (by simpa using hq)]
      simp [arr, this]
theorem arr_congr {f g : Nat → Nat} (e : ∀ x, x < 60 → f x = g x) : arr f = arr g := by
  unfold arr
  refine List.map_congr_left fun x hx => ?_
  rw [e x (List.mem_range.1 hx)]
theorem arr_zero : arr (capAt []) = [.int .i64 0, .int .i64 0, .int .i64 0, .int .i64 0, .int .i64 0, .int .i64 0, .int .i64 0, .int .i64 0, .int .i64 0, .int .i64 0, .int .i64 0, .int .i64 0, .int .i64 0, .int .i64 0, .int .i64 0, .int .i64 0, .int .i64 0, .int .i64 0, .int .i64 0, .int .i64 0, .int .i64 0, .int .i64 0, .int .i64 0, .int .i64 0, .int .i64 0, .int .i64 0, .int .i64 0, .int .i64 0, .int .i64 0, .int .i64 0, .int .i64 0, .int .i64 0, .int .i64 0, .int .i64 0, .int .i64 0, .int .i64 0, .int .i64 0, .int .i64 0, .int .i64 0, .int .i64 0, .int .i64 0, .int .i64 0, .int .i64 0, .int .i64 0, .int .i64 0, .int .i64 0, .int .i64 0, .int .i64 0, .int .i64 0, .int .i64 0, .int .i64 0, .int .i64 0, .int .i64 0, .int .i64 0, .int .i64 0, .int .i64 0, .int .i64 0, .int .i64 0, .int .i64 0, .int .i64 0] := by rfl
def midC (L : List Sl) (c k q : Nat) : Nat := if q < k ∧ capAt L q = c then 0 else capAt L q
theorem midC_zero {L : List Sl} {c : Nat} : arr (midC L c 0) = arr (capAt L) := arr_congr fun x _ => by unfold midC; rw [if_neg (by omega)]
theorem midC_all {L : List Sl} {c : Nat} (hc : 1 ≤ c) : arr (midC L c 60) = arr (capAt (L.map (Sl.fr c))) := arr_congr fun x hx => by
  rw [capAt_fr hc]
  unfold midC
  by_cases z : capAt L x = c
  · rw [if_pos ⟨hx, z⟩, if_pos z]
  · rw [if_neg (fun q => z q.2), if_neg z]
theorem midC_at {L : List Sl} {c k : Nat} : midC L c k k = capAt L k := by unfold midC; rw [if_neg (by omega)]
theorem midC_keep {L : List Sl} {c k : Nat} (h : capAt L k ≠ c) : arr (midC L c (k + 1)) = arr (midC L c k) := arr_congr fun x hx => by
  unfold midC
  by_cases z : x < k ∧ capAt L x = c
  · rw [if_pos z, if_pos ⟨by omega, z.2⟩]
  · rw [if_neg z, if_neg]
    rintro ⟨z1, z2⟩
    by_cases hxk : x = k
    · subst hxk; exact h z2
    · exact z ⟨by omega, z2⟩
theorem midC_set {L : List Sl} {c k : Nat} (hk : k < 60) (h : capAt L k = c) : (arr (midC L c k)).set (0 + ((k : Nat) : Int).toNat * 1) (.int .i64 0) = arr (midC L c (k + 1)) := by
  refine arr_set (v := 0) hk fun x hx => ?_
  unfold midC
  by_cases hxk : x = k
  · subst hxk
    rw [if_pos ⟨by omega, h⟩, if_pos rfl]
  · rw [if_neg hxk]
    by_cases z : x < k ∧ capAt L x = c
    · rw [if_pos z, if_pos ⟨by omega, z.2⟩]
    · rw [if_neg z, if_neg]
      rintro ⟨z1, z2⟩
      exact z ⟨by omega, z2⟩

set_option maxHeartbeats 8000000 in
theorem SlotLeast_does (p : Option Addr) (ks : List Int) (cap : Nat) (o : Obj) (hk : ∀ z ∈ ks, (Lit.int .u8 z).wf = true) (hl : ks.length ≤ 9223372036854775807) :
    Does Tryz.prog 3 [.slice p ks.length cap] [ins p ks.length (ks.map (Value.int .u8)) o] (fun v H => v = .bool true ∧ H = [ins p ks.length (ks.map (Value.int .u8)) o]) := by
  refine does_of Tryz.func3 Tryz.ntmps3 rfl rfl rfl (fun w0 F0 => ?_)
  (repeat' (first | refine g_seq (h := ?_) | refine g_region (h := ?_) | refine l_nil (h := ?_) | refine n_then (h := ?_) | refine l_pures1 (h := ?_) | (refine l_atc ?_; refine l_call (examples17_does) ?_) | (refine l_atc ?_; refine l_call_ (made17_does) ?_; rintro _ _ _ ⟨t, db, sb, rfl, rfl⟩ he; cases he) | (refine l_alloc (h := ?_); intro _) | refine g_skip (h := ?_) | refine g_block (h := ?_) | refine g_cond_f (h := ?_)))
  rename_i b5
  have room : ∀ (L : List Sl), L.length ≤ 200 → (TxP.new t sb db 640).room (slotT 1 L) := fun L h => by show 0 + 2 * (slotT 1 L).length + 25 < 640; rw [slotT_len]; omega
  (refine g_loop (fun y : Nat × List Sl => [(6, .int .i64 y.1), (5, .pointer (some ⟨b5, 0, none⟩)), (4, .pointer (some ⟨t, 0, none⟩)), (3, .bool true), (0, .slice p ks.length cap)]) (fun y => [cl b5 26 (arr (capAt y.2)), Tx (TxP.new t sb db 640) (slotT 1 y.2), ins p ks.length (ks.map (Value.int .u8)) o]) (fun y => y.2.length ≤ y.1 ∧ (∀ s ∈ y.2, s.ok) ∧ (∀ s ∈ y.2, s.cap ≠ 0 → s.nonce < y.1) ∧ y.1 ≤ ks.length ∧ y.1 ≤ 40) (fun y => ks.length - y.1) ((0, [])) ?_ ?_ ?_ ?_; rotate_left; (repeat (first | refine ts_nil | (refine ts_cons rfl ?_ ?_; first | (with_reducible rfl) | rotate_left))); (first | (intro _ i; with_reducible refine i) | rotate_left); rotate_left; (try omega); rotate_right)
  · rintro ⟨i, L⟩ ⟨hL, ok, hn, hi, hi40⟩
    dsimp only at hL ok hn hi hi40 ⊢
    by_cases hil : i < ks.length ∧ i < 40
    · refine g_open (o := ins_opens (p := p) (m := ks.length) (by omega)) (h := ?_); (rintro ⟨gb, off, row, fr, T0⟩ ⟨rfl, rfl, v5, v6, v7⟩; dsimp only [List.cons_append, List.nil_append])
      have hgt : row[off + i * 1]? = some (.int .u8 (ks.getD i 0)) := ins_get v5 hil.1 (by rw [List.getElem?_map, List.getD, List.getElem?_eq_getElem hil.1]; rfl)
      have hw := wf_u8' (hk _ (getD_mem hil.1 (z := 0)))
      obtain ⟨x, hx⟩ : ∃ x : Nat, ks.getD i 0 = x := ⟨(ks.getD i 0).toNat, by omega⟩
      rw [hx] at hgt hw
      obtain ⟨c, hc⟩ : ∃ c : Nat, c = 1 + x % 9 := ⟨_, rfl⟩
      have ec : IntKind.i64.wrap (1 + IntKind.i64.wrap ((x : Int).tmod 9)) = (c : Int) := by rw [Int.tmod_eq_emod_of_nonneg (by omega), wrapI64 (n := (x : Int) % 9) (by omega), wrapI64 (by omega)]; omega
      have ewi : IntKind.u64.wrap (i : Int) = i := wrapU64 (by omega)
      have htl := takeAt_le L
      by_cases hxl : 128 ≤ x
      · have hF : Does Tryz.prog 19 [.pointer (some ⟨t, 0, none⟩), .int .i64 c] [Tx (TxP.new t sb db 640) (slotT 1 L)] (fun v H => v = .tuple #[.int .i64 (frN c L : Nat), .int .i64 0] ∧ H = [Tx (TxP.new t sb db 640) (slotT 1 (L.map (Sl.fr c)))]) :=
          sFree_does (TxP.new t sb db 640) L c (by omega) (by omega) ok (room _ (by omega))
        (repeat' (first | refine g_seq (h := ?_) | refine g_region (h := ?_) | refine l_nil (h := ?_) | refine n_then (h := ?_) | refine l_pures1 (h := ?_) | refine l_guard_yes (h := ?_) | refine l_load_p (h := ?_) | refine l_indexAddr (h := ?_) | refine g_skip (h := ?_) | refine g_block (h := ?_) | (refine l_spT (h := ?_); intro h) | (refine g_spT (h := ?_); intro h)))
        refine l_shut (ins_shuts v5 v6 v7) (h := ?_)
        rw [ec]
        (repeat' (first | refine g_seq (h := ?_) | refine g_region (h := ?_) | refine l_nil (h := ?_) | refine n_then (h := ?_) | refine l_pures1 (h := ?_) | (refine l_atc ?_; refine l_call (hF) ?_) | refine g_block (h := ?_)))
        (refine g_loop (fun k : Nat => [(10, .int .i64 k), (9, .int .i64 0), (7, .int .i64 c), (6, .int .i64 i), (5, .pointer (some ⟨b5, 0, none⟩)), (4, .pointer (some ⟨t, 0, none⟩)), (3, .bool true), (0, .slice (some ⟨gb, off, none⟩) ks.length cap)]) (fun k => [cl b5 26 (arr (midC L c k)), Tx (TxP.new t sb db 640) (slotT 1 (L.map (Sl.fr c))), ins (some ⟨gb, off, none⟩) ks.length (ks.map (Value.int .u8)) (.cells row.toArray T0 fr)]) (fun k => k ≤ 60) (fun k => 60 - k) (0) ?_ ?_ ?_ ?_; rotate_left; (repeat (first | refine ts_nil | (refine ts_cons rfl ?_ ?_; first | (with_reducible rfl) | rotate_left))); (first | (intro _ i; with_reducible refine i) | rotate_left); rotate_left; (try omega); rotate_right)
        · intro k hk60
          by_cases hkl : k < 60
          · have hg := arr_get (f := midC L c k) hkl
            have hal := arr_len (midC L c k)
            rw [midC_at] at hg
            by_cases hq : capAt L k = c
            · have hst := midC_set (L := L) hkl hq
              (repeat' (first | refine g_seq (h := ?_) | refine g_region (h := ?_) | refine l_nil (h := ?_) | refine n_then (h := ?_) | refine l_pures1 (h := ?_) | refine l_load_at (h := ?_) | refine l_store_at (h := ?_) | refine g_skip (h := ?_) | refine g_block (h := ?_) | refine n_block (h := ?_) | refine l_indexArr (h := ?_) | (refine g_spT (h := ?_); intro h)))
              rw [hst]
              (refine n_back (k + 1) ?_ ?_ ?_ ?_; rotate_left; rotate_left; (repeat (first | refine ts_nil | (refine ts_cons rfl ?_ ?_; first | (with_reducible rfl) | rotate_left))); (first | (intro _ i; with_reducible refine i) | rotate_left); (try omega); (try omega))
              all_goals first
                | (dsimp only; omega)
                | (rw [wrapI64 (by omega)]; rfl)
                | (intro _ i; exact inv_keep parts_of i)
                | rfl
            · have hkp := midC_keep (L := L) (c := c) (k := k) hq
              (repeat' (first | refine g_seq (h := ?_) | refine g_region (h := ?_) | refine l_nil (h := ?_) | refine n_then (h := ?_) | refine l_pures1 (h := ?_) | refine l_load_at (h := ?_) | refine g_skip (h := ?_) | refine g_block (h := ?_) | refine n_block (h := ?_) | refine l_indexArr (h := ?_) | (refine g_spT (h := ?_); intro h) | (refine g_spF (h := ?_); intro h)))
              (refine n_back (k + 1) ?_ ?_ ?_ ?_; rotate_left; rotate_left; (repeat (first | refine ts_nil | (refine ts_cons rfl ?_ ?_; first | (with_reducible rfl) | rotate_left))); (first | (intro _ i; with_reducible refine i) | rotate_left); (try omega); (try omega))
              all_goals first
                | (dsimp only; omega)
                | (rw [wrapI64 (by omega)]; rfl)
                | (intro _ i; rw [hkp]; exact inv_keep parts_of i)
                | rfl
          · obtain rfl : k = 60 := by omega
            rw [midC_all (by omega)]
            (repeat' (first | refine g_seq (h := ?_) | refine g_region (h := ?_) | refine l_nil (h := ?_) | refine n_then (h := ?_) | refine l_pures1 (h := ?_) | refine g_skip (h := ?_) | refine g_exit (h := ?_) | refine n_then_exit (h := ?_) | refine n_block_hit (h := ?_) | refine g_cond_f (h := ?_)))
            (refine n_back ((i + 1, L.map (Sl.fr c))) ?_ ?_ ?_ ?_; rotate_left; rotate_left; (repeat (first | refine ts_nil | (refine ts_cons rfl ?_ ?_; first | (with_reducible rfl) | rotate_left))); (first | (intro _ i; with_reducible refine i) | rotate_left); (try omega); (try omega))
            all_goals first
              | (refine ⟨by simp; omega, fun s hs => ?_, fun s hs hs0 => ?_, hil.1, hil.2⟩
                 · obtain ⟨s', h1, rfl⟩ := List.mem_map.1 hs
                   exact fr_ok (ok _ h1)
                 · obtain ⟨s', h1, rfl⟩ := List.mem_map.1 hs
                   have h2 := hn s' h1
                   unfold Sl.fr at hs0 ⊢
                   split
                   · rename_i z; rw [if_pos z] at hs0; exact absurd rfl hs0
                   · rename_i z; rw [if_neg z] at hs0; have := h2 hs0; dsimp only; omega)
              | (dsimp only; omega)
              | (rw [wrapI64 (by omega)]; rfl)
              | (intro _ i; exact inv_keep parts_of i)
              | rfl
        all_goals first
          | exact Nat.zero_le _
          | rfl
          | (intro _ i; rw [midC_zero]; exact inv_keep parts_of i)
      · have hu : ∀ s ∈ L, ¬ (s.cap ≠ 0 ∧ s.nonce = i) := fun s hs q => by
          have := hn s hs q.1
          omega
        have hT : Does Tryz.prog 20 [.pointer (some ⟨t, 0, none⟩), .int .i64 c, .int .u64 i] [Tx (TxP.new t sb db 640) (slotT 1 L)] (fun v H => v = .tuple #[.agg #[.int .i64 (1 + takeAt L : Nat), .int .i64 c, .int .i64 (epochAt L : Nat), .int .u64 i], .int .i64 0] ∧ H = [Tx (TxP.new t sb db 640) (slotT 1 (takeL L c i))]) :=
          slotTake_does (TxP.new t sb db 640) L c i (by omega) (by omega) (by omega) ok (room _ (by omega)) hu (by omega)
        have hll := takeL_len L c i
        have hok2 := takeL_ok (cap := c) (n := i) ok (by omega) (by omega)
        have hal := arr_len (capAt L)
        have hg0 := arr_get (f := capAt L) (q := 1 + takeAt L) (by omega)
        rw [capAt_take] at hg0
        have hst : (arr (capAt L)).set (0 + ((1 + takeAt L : Nat) : Int).toNat * 1) (.int .i64 c) = arr (capAt (takeL L c i)) := arr_set (by omega) fun x _ => capAt_takeL x
        (repeat' (first | refine g_seq (h := ?_) | refine g_region (h := ?_) | refine l_nil (h := ?_) | refine n_then (h := ?_) | refine l_pures1 (h := ?_) | refine l_guard_yes (h := ?_) | refine l_load_p (h := ?_) | refine l_indexAddr (h := ?_) | refine g_skip (h := ?_) | refine g_block (h := ?_) | (refine l_spT (h := ?_); intro h) | (refine g_spT (h := ?_); intro h) | (refine g_spF (h := ?_); intro h)))
        refine l_shut (ins_shuts v5 v6 v7) (h := ?_)
        rw [ec, ewi]
        (repeat' (first | refine g_seq (h := ?_) | refine g_region (h := ?_) | refine l_nil (h := ?_) | refine n_then (h := ?_) | refine l_pures1 (h := ?_) | (refine l_atc ?_; refine l_call (hT) ?_) | refine l_guard_yes (h := ?_) | refine l_load (h := ?_) | refine l_store (h := ?_) | (refine l_alloc (h := ?_); intro _) | refine l_load_at (h := ?_) | refine g_skip (h := ?_) | refine g_block (h := ?_) | refine g_cond_f (h := ?_) | refine l_indexArr (h := ?_) | (refine l_spF (h := ?_); intro h)))
        rename_i b11 _
        (refine g_loop (fun j : Nat => [(13, .int .i64 (1 + j : Nat)), (11, .pointer (some ⟨b11, 0, none⟩)), (7, .int .i64 c), (6, .int .i64 i), (5, .pointer (some ⟨b5, 0, none⟩)), (4, .pointer (some ⟨t, 0, none⟩)), (3, .bool true), (0, .slice (some ⟨gb, off, none⟩) ks.length cap)]) (fun j => [cl b11 32 [.int .i64 (1 + takeAt L : Nat), .int .i64 c, .int .i64 (epochAt L), .int .u64 i], cl b5 26 (arr (capAt L)), Tx (TxP.new t sb db 640) (slotT 1 (takeL L c i)), ins (some ⟨gb, off, none⟩) ks.length (ks.map (Value.int .u8)) (.cells row.toArray T0 fr)]) (fun j => j ≤ takeAt L) (fun j => takeAt L - j) (0) ?_ ?_ ?_ ?_; rotate_left; (repeat (first | refine ts_nil | (refine ts_cons rfl ?_ ?_; first | (with_reducible rfl) | rotate_left))); (first | (intro _ i; with_reducible refine i) | rotate_left); rotate_left; (try omega); rotate_right)
        · intro j hj
          rcases Nat.lt_or_ge j (takeAt L) with hlt | hge
          · have hjl : j < L.length := by omega
            have hbusy := takeAt_busy hlt hjl
            have hgj := arr_get (f := capAt L) (q := 1 + j) (by omega)
            rw [capAt_succ hjl] at hgj
            have hj2 : j < (takeL L c i).length := by unfold takeL; split <;> simp <;> omega
            have he : (takeL L c i)[j] = L[j] := by
              unfold takeL
              split
              · rw [List.getElem_set_ne (by omega)]
              · rw [List.getElem_append_left hjl]
            have hA := sAt_does (TxP.new t sb db 640) (takeL L c i) j hj2 (by omega) hok2
            rw [he] at hA
            obtain ⟨s, hs⟩ : ∃ s, s = L[j] := ⟨_, rfl⟩
            rw [← hs] at hA hgj hbusy
            have hA : Does Tryz.prog 21 [.pointer (some ⟨t, 0, none⟩), .int .i64 (1 + j : Nat)] [Tx (TxP.new t sb db 640) (slotT 1 (takeL L c i))] (fun v H => v = .tuple #[.agg #[.int .i64 (1 + j : Nat), .int .i64 s.cap, .int .i64 s.epoch, .int .u64 s.nonce], .int .i64 0] ∧ H = [Tx (TxP.new t sb db 640) (slotT 1 (takeL L c i))]) := hA
            (repeat' (first | refine g_seq (h := ?_) | refine g_region (h := ?_) | refine l_nil (h := ?_) | refine n_then (h := ?_) | refine l_pures1 (h := ?_) | (refine l_atc ?_; refine l_call (hA) ?_) | refine l_guard_yes (h := ?_) | refine l_guard_no (h := ?_) | refine l_guard_un (h := ?_) | refine l_load (h := ?_) | refine l_store (h := ?_) | (refine l_alloc (h := ?_); intro _) | refine l_load_at (h := ?_) | refine g_skip (h := ?_) | refine g_block (h := ?_) | refine n_block (h := ?_) | refine g_cond_f (h := ?_) | refine l_indexArr (h := ?_) | (refine l_sp (h1 := ?_) (h0 := ?_) <;> intro h) | (refine g_spT (h := ?_); intro h) | (refine g_spF (h := ?_); intro h)))
            all_goals
              (refine n_back (j + 1) ?_ ?_ ?_ ?_; rotate_left; rotate_left; (repeat (first | refine ts_nil | (refine ts_cons rfl ?_ ?_; first | (with_reducible rfl) | rotate_left))); (first | (intro _ i; with_reducible refine i) | rotate_left); (try omega); (try omega))
            all_goals first
              | (dsimp only; omega)
              | (congr 1; rw [wrapI64 (by omega)]; omega)
              | (intro _ i; exact inv_keep parts_of i)
              | rfl
          · obtain rfl : j = takeAt L := by omega
            (repeat' (first | refine g_seq (h := ?_) | refine g_region (h := ?_) | refine l_nil (h := ?_) | refine n_then (h := ?_) | refine l_pures1 (h := ?_) | refine l_load (h := ?_) | refine l_store_at (h := ?_) | refine g_exit (h := ?_) | refine n_then_exit (h := ?_) | refine n_block_hit (h := ?_) | refine n_block (h := ?_) | refine l_indexArr (h := ?_) | (refine g_spF (h := ?_); intro h)))
            rw [hst]
            (refine n_back ((i + 1, takeL L c i)) ?_ ?_ ?_ ?_; rotate_left; rotate_left; (repeat (first | refine ts_nil | (refine ts_cons rfl ?_ ?_; first | (with_reducible rfl) | rotate_left))); (first | (intro _ i; with_reducible refine i) | rotate_left); (try omega); (try omega))
            all_goals first
              | (refine ⟨by dsimp only; omega, hok2, fun s hs hs0 => ?_, hil.1, hil.2⟩
                 rcases takeL_mem hs with h | rfl
                 · have := hn s h hs0; dsimp only; omega
                 · dsimp only; omega)
              | (dsimp only; omega)
              | (rw [wrapI64 (by omega)]; rfl)
              | (intro _ i; exact inv_keep parts_of i)
              | rfl
        all_goals first
          | exact Nat.zero_le _
          | rfl
          | (intro _ i; exact inv_keep parts_of i)
    · (repeat' (first | refine g_seq (h := ?_) | refine g_region (h := ?_) | refine l_nil (h := ?_) | refine n_then (h := ?_) | refine l_pures1 (h := ?_) | refine l_guard_yes (h := ?_) | refine l_guard_no (h := ?_) | refine g_ret (h := ?_) | refine g_exit (h := ?_) | refine n_then_exit (h := ?_) | refine n_block_hit (h := ?_) | refine g_cond_f (h := ?_) | (refine l_sp (h1 := ?_) (h0 := ?_) <;> intro h) | (refine g_spF (h := ?_); intro h)))
      all_goals
        refine r_retk [ins p ks.length (ks.map (Value.int .u8)) o] ?_
      all_goals exact ⟨rfl, rfl⟩
  all_goals first
    | (refine ⟨Nat.le_refl _, ?_, ?_, Nat.zero_le _, Nat.zero_le _⟩ <;> (intro s hs; simp at hs))
    | rfl
    | (intro _ i; (show SL.Inv _ _ [cl b5 26 (arr (capAt [])), Tx (TxP.new t sb db 640) [], ins p ks.length (ks.map (Value.int .u8)) o] _); rw [arr_zero]; exact i)
end Go.Proofs.YtmfmommgooccnaaGreat

/- Texts SlR, TrSa, RcP, SlS, SlT, SpA, RcA, TrSb, TrSc, TrDa, TrDb, TrDc, TrDd, TrDe, TrDf, TrDg, TrDh, TlP, TxA, TlD, TlF, CaP, RcB, SpB, TxB, TxC, StA, joined. -/
import Derived.Test.YtmfmommgooccnaaGreatK08
/- The framework, part 18: what a call of yield comes to, over assertions that hide. -/
set_option linter.unusedVariables false
set_option linter.unusedSimpArgs false
namespace Go.Proofs.YtmfmommgooccnaaGreat.SL

/-- The parts of a loop over a function. -/
def rfA : Code → Code
  | .rangeFunc _ _ a _ => a
  | c => c
def rfB : Code → Code
  | .rangeFunc _ _ _ b => b
  | c => c
theorem gr_weak {P : Program} {n : Nat} {w0 : World} {F0 : Nat → Prop} {Q : Exit → Act → World → Prop} {tm : List (Nat × Value)} {D : List Deferred} {H : List SProp} {r : Nat} {c : Code} {tm' : List (Nat × Value)} {H' : List SProp} (ht : tsub tm tm') (hh : ∀ {w}, Inv w0 F0 H w → Inv w0 F0 H' w) (h : GR P n w0 F0 r c Q tm' D H') : GR P n w0 F0 r c Q tm D H :=
  .mk fun a w s => h.h a w ⟨s.tm.sub ht, s.defers, hh s.inv⟩
theorem gr_as {P : Program} {n : Nat} {w0 : World} {F0 : Nat → Prop} {Q : Exit → Act → World → Prop} {tm : List (Nat × Value)} {D : List Deferred} {H : List SProp} {r : Nat} {c c' : Code} (e : c = c') (h : GR P n w0 F0 r c' Q tm D H) : GR P n w0 F0 r c Q tm D H := e ▸ h
section
variable {P : Program} {l : Nat} {xs : List Value} {q : Value → List SProp → Prop}
theorem Yields.open {α : Type} {A : SProp} {p : α → Prop} {K : α → List SProp} (o : Opens A p K) (h : ∀ x, p x → Yields P l xs (K x) q) : Yields P l xs [A] q := fun w F s => by
  obtain ⟨F1, F2, a, e, d, u⟩ := s
  obtain ⟨x, hx, s1⟩ := o _ _ a
  exact h x hx w F (sep_congr s1 (fun b => ⟨fun h => (u b).2 (.inl h), fun h => ((u b).1 h).elim id (fun q => (e b q).elim)⟩))
/-- What is told behind may be told otherwise, and less. -/
theorem Yields.post {H : List SProp} {q' : Value → List SProp → Prop} (h : Yields P l xs H q') (k : ∀ v H', q' v H' → ∃ H'', q v H'' ∧ ∀ {w0 : World} {F0 : Nat → Prop} {w : World}, Inv w0 F0 H' w → Inv w0 F0 H'' w) : Yields P l xs H q := fun w F s => by
  obtain ⟨fn, tmps, assign, body, e, r⟩ := h w F s
  refine ⟨fn, tmps, assign, body, e, r.mono ?_⟩
  rintro e w' ⟨v, H', he, hq, hi⟩
  obtain ⟨H'', h1, h2⟩ := k v H' hq
  exact ⟨v, H'', he, h1, h2 hi⟩
/-- The parts of an assertion stand in a list. -/
theorem shut_of {α : Type} {p : α → Prop} {K : α → List SProp} {H R : List SProp} (x : α) (hx : p x) (pt : Parts (K x) H R) {w0 : World} {F0 : Nat → Prop} {w : World} (i : Inv w0 F0 H w) : Inv w0 F0 [hid p K] w :=
  Inv.drop (K := [hid p K]) (H' := R) (i.shut (hid_shuts x hx) pt)
/-- A contract whose post is told otherwise, where what is owned may be opened. -/
theorem does_post {f : FuncId} {args : List Value} {H : List SProp} {q q' : Value → List SProp → Prop} (d : Does P f args H q) (h : ∀ v H1, q v H1 → ∀ {w0 : World} {F0 : Nat → Prop} {w : World}, Inv w0 F0 H1 w → ∃ H2, q' v H2 ∧ Inv w0 F0 H2 w) : Does P f args H q' := fun w F s =>
  (d w F s).mono fun e w' ⟨v, H1, e1, hq, i⟩ => by
    obtain ⟨H2, h2, h3⟩ := h v H1 hq i
    exact ⟨v, H2, e1, h2, h3⟩
theorem Inv.less {w0 w : World} {F F' : Nat → Prop} {H : List SProp} (i : Inv w0 F' H w) (h : ∀ b, b < w0.heap.size → ¬ F b → ¬ F' b) : Inv w0 F H w := by
  obtain ⟨⟨G, s, o⟩, fr, sz, a, b, c⟩ := i
  exact ⟨⟨G, s, fun b hb n => o b hb (h b hb n)⟩, fun b hb n => fr b hb (h b hb n), sz, a, b, c⟩
/-- A contract from what is owned otherwise. -/
theorem does_pre {f : FuncId} {args : List Value} {H H' : List SProp} {q : Value → List SProp → Prop} (d : Does P f args H q) (k : ∀ {w0 : World} {F0 : Nat → Prop} {w : World}, Inv w0 F0 H' w → Inv w0 F0 H w) : Does P f args H' q := fun w F s => by
  obtain ⟨⟨F', s', o⟩, _⟩ := k (Inv.start s)
  exact (d w F' s').mono fun e w' ⟨v, H1, e1, hq, i⟩ => ⟨v, H1, e1, hq, i.less o⟩
end
end Go.Proofs.YtmfmommgooccnaaGreat.SL
/- Package tree: from, the keys from one on, handed to a consumer. -/
set_option maxRecDepth 20000
set_option linter.unusedVariables false
set_option linter.unusedSimpArgs false
namespace Go.Proofs.YtmfmommgooccnaaGreat
open Go.Proofs.YtmfmommgooccnaaGreat.SL

abbrev entV (e : Ent) : Value := .agg #[.int .u64 (e.1 : Nat), .string (str e.2)]
/-- What a consumer has when it is fed: it may stop. -/
def feed (stop : List Ent → Bool) : List Ent → List Ent → List Ent × Bool
  | dn, [] => (dn, false)
  | dn, e :: es => if stop (dn ++ [e]) then (dn ++ [e], true) else feed stop (dn ++ [e]) es
theorem feed_append (stop : List Ent → Bool) : ∀ (a b dn : List Ent), feed stop dn (a ++ b) = if (feed stop dn a).2 then feed stop dn a else feed stop (feed stop dn a).1 b
  | [], b, dn => by simp [feed]
  | e :: a, b, dn => by
    simp only [List.cons_append, feed]
    split
    · simp
    · exact feed_append stop a b _
theorem feed_len (stop : List Ent → Bool) : ∀ (es dn : List Ent), (feed stop dn es).1.length ≤ dn.length + es.length
  | [], dn => by simp [feed]
  | e :: es, dn => by
    simp only [feed]
    split
    · simp
    · have := feed_len stop es (dn ++ [e])
      simp only [List.length_append, List.length_cons, List.length_nil] at *
      omega
def geE (es : List Ent) (x : Nat) : List Ent := es.filter fun e => decide (x ≤ e.1)
theorem geE_append (a b : List Ent) (x : Nat) : geE (a ++ b) x = geE a x ++ geE b x := by simp [geE]

/-- The consumer, going on or stopped. -/
def fedP (C X : List Ent → SProp) (r : List Ent × Bool) : SProp := if r.2 then X r.1 else C r.1

theorem ge_zip : ∀ {ks : List Nat} {vs : List (List UInt8)} {x : Nat}, Rise ks → geE (ks.zip vs) x = (ks.zip vs).drop (posN ks x)
  | [], _, _, _ => by simp [geE]
  | _ :: _, [], _, _ => by simp [geE]
  | k :: ks, v :: vs, x, h => by
    obtain ⟨h1, h2⟩ := List.pairwise_cons.1 h
    have ih := ge_zip (vs := vs) (x := x) h2
    simp only [List.zip_cons_cons, geE, List.filter_cons, posN_cons]
    by_cases q : k < x
    · rw [if_neg (by simp; omega), if_pos q, List.drop_succ_cons]; exact ih
    · rw [if_pos (by simp; omega), if_neg q, List.drop_zero]
      congr 1
      refine List.filter_eq_self.2 fun e he => ?_
      have := h1 _ (zip_fst_mem he)
      simp; omega

set_option maxHeartbeats 4000000 in
theorem from_leaf (b sb db x N l : Nat) (C X : List Ent → SProp) (stop : List Ent → Bool) (hY : ∀ dn e, dn.length < 100000 → SL.Yields Tryz.prog l [entV e] [C dn] (fun v H => v = .bool (!stop (dn ++ [e])) ∧ H = [if stop (dn ++ [e]) then X (dn ++ [e]) else C (dn ++ [e])]))
    (deep : Nat) (pg read : Int) (S : Sh) (D : Dk) (d : Nd) (hd : d.good) (hlf : d.leaf = true) (hr : S.read D pg = ((2, d.text, 0), S)) (h1 : 0 ≤ read ∧ read < 640) (h2 : deep ≤ 10) (dn : List Ent) (hdl : dn.length + d.ents.length ≤ 100000) :
    Does Tryz.prog 164 [.pointer (some ⟨b, 0, none⟩), .int .i64 pg, .int .i64 deep, .int .u64 x, .func (.yield l) #[] #[]] [C dn, Wk b sb read 0, Store sb db S, Disk db D]
      (fun v H => v = .bool (!(feed stop dn (geE d.ents x)).2) ∧ H = [fedP C X (feed stop dn (geE d.ents x)), Wk b sb (read + 1) 0, Store sb db S, Disk db D]) := by
  have hn := wNode_does b sb db deep pg read S D d hd hr h1 h2
  have hF := fun r => Find_does d r x hd.fits hd.p.rise
  simp only [hlf, if_true] at hF
  refine does_of Tryz.func164 Tryz.ntmps164 rfl rfl rfl (fun w0 F0 => ?_)
  (repeat' (first | refine g_seq (h := ?_) | refine g_region (h := ?_) | refine l_nil (h := ?_) | refine n_then (h := ?_) | refine l_pures1 (h := ?_) | (refine l_atc ?_; refine l_call_ (hn) ?_; rintro _ _ _ ⟨r, rfl, rfl⟩ he; cases he) | (refine l_atc ?_; refine l_call (hF _) ?_) | refine l_load (h := ?_) | refine l_store (h := ?_) | (refine l_alloc (h := ?_); intro _) | refine g_skip (h := ?_) | refine g_block (h := ?_) | refine g_cond_f (h := ?_) | (refine g_sp (h1 := ?_) (h0 := ?_) <;> intro h)))
  · exact absurd h (by rw [hlf]; simp)
  rename_i b11
  have hv := valsLen hd.p hlf
  have hne := hd.some hlf
  have hfk := hd.fits.k
  have hpos := posN_le d.keys x
  have hel : d.ents.length = d.keys.length := by simp [Nd.ents, hv]
  obtain ⟨p1, c1, p2, c2, p3, c3⟩ := r
  refine g_open (A := Nds d ⟨p1, c1, p2, c2, p3, c3⟩) (h := ?_); (rintro _ _; dsimp only [NdsK, List.cons_append, List.nil_append])
  refine g_ptr (m := d.keys.length) (h := ?_); rintro g1 rfl hc1
  refine g_ptr (m := d.vals.length) (h := ?_); rintro g2 rfl hc2
  (refine g_loop (fun y : Nat × List Ent => [(12, .int .i64 y.1), (11, .pointer (some ⟨b11, 0, none⟩)), (4, .func (.yield l) #[] #[])]) (fun y => [C y.2, vec 30 1 (some ⟨g1, 0, none⟩) d.keys.length c1 (uV d.keys), vec 9 1 (some ⟨g2, 0, none⟩) d.vals.length c2 (d.vals.map encS), cl b11 176 [.bool d.leaf, .slice (some ⟨g1, 0, none⟩) d.keys.length c1, .slice (some ⟨g2, 0, none⟩) d.vals.length c2, .slice p3 d.kids.length c3], Wk b sb (read + 1) 0, Store sb db S, Disk db D]) (fun y => y.1 ≤ d.keys.length ∧ feed stop dn (geE d.ents x) = feed stop y.2 (d.ents.drop y.1) ∧ y.2.length + (d.ents.length - y.1) ≤ 100000) (fun y => d.keys.length - y.1) ((posN d.keys x, dn)) ?_ ?_ ?_ ?_; rotate_left; (repeat (first | refine ts_nil | (refine ts_cons rfl ?_ ?_; first | (with_reducible rfl) | rotate_left))); (first | (intro _ i; with_reducible refine i) | rotate_left); rotate_left; (try omega); rotate_right)
  · rintro ⟨j, dn'⟩ ⟨hj, hf, hdl'⟩
    dsimp only at hj hf hdl' ⊢
    by_cases hjl : j < d.keys.length
    · have hgk := uGet (l := d.keys) (k := j) hjl
      have hgs := sGet (l := d.vals) (k := j) (by omega)
      obtain ⟨e, he⟩ : ∃ e : Ent, e = (d.keys.getD j 0, d.vals.getD j []) := ⟨_, rfl⟩
      have hdr : d.ents.drop j = e :: d.ents.drop (j + 1) := by
        rw [List.drop_eq_getElem_cons (by omega), he]
        simp [Nd.ents, List.getD, hjl, hv]
      have hYj := hY dn' e (by omega)
      rw [he] at hYj
      (repeat' (first | refine g_seq (h := ?_) | refine g_region (h := ?_) | refine l_nil (h := ?_) | refine n_then (h := ?_) | refine l_pures1 (h := ?_) | refine l_load (h := ?_) | refine g_skip (h := ?_) | refine g_block (h := ?_) | (refine g_spT (h := ?_); intro h)))
      refine g_draw_at 12 [vec 30 1 (some ⟨g1, 0, none⟩) d.keys.length c1 (uV d.keys), vec 9 1 (some ⟨g2, 0, none⟩) d.vals.length c2 (d.vals.map encS), cl b11 176 [.bool d.leaf, .slice (some ⟨g1, 0, none⟩) d.keys.length c1, .slice (some ⟨g2, 0, none⟩) d.vals.length c2, .slice p3 d.kids.length c3]] (h := a_pass2 (h := ?_))
      cases hst : stop (dn' ++ [e])
      · rw [← he, hst] at hYj
        simp only [Bool.not_false, Bool.false_eq_true, if_false] at hYj
        rw [he] at hYj
        (repeat (first | (refine lw_i ?_; refine lw_yield (hYj) (h := ?_); rintro _ _ _ ⟨rfl, rfl⟩ he; cases he) | refine g_region (h := ?_) | refine l_nil (h := ?_) | refine n_then (h := ?_) | refine l_pures1 (h := ?_) | refine g_skip (h := ?_) | refine a_done (h := ?_) | refine a_load (h := a_pass2 (h := ?_)) | refine a_one (h := ?_) | refine n_any (h := a_pass2 (h := ?_)) | refine a_v (h := ?_) | refine n_block (h := ?_) | refine g_cond_f (h := ?_) | refine l_load_vec (h := ?_) | refine a_load_vec (h := a_pass2 (h := ?_)) | refine n_lw (h := ?_) | refine lw_nil (h := ?_) | refine lw_step (h := ?_)))
        (refine n_back ((j + 1, dn' ++ [(d.keys.getD j 0, d.vals.getD j [])])) ?_ ?_ ?_ ?_; rotate_left; rotate_left; (repeat (first | refine ts_nil | (refine ts_cons rfl ?_ ?_; first | (with_reducible rfl) | rotate_left))); (first | (intro _ i; with_reducible refine i) | rotate_left); (try omega); (try omega))
        · refine ⟨hjl, ?_, by dsimp only; rw [List.length_append, List.length_singleton]; omega⟩
          rw [hf, hdr, feed, hst, he]; rfl
        · dsimp only; omega
        · rw [wrapI64 (by omega)] <;> rfl
      · rw [← he, hst] at hYj
        simp only [Bool.not_true, if_true] at hYj
        rw [he] at hYj
        (repeat (first | (refine lw_i ?_; refine lw_yield (hYj) (h := ?_); rintro _ _ _ ⟨rfl, rfl⟩ he; cases he) | refine g_seq (h := ?_) | refine g_region (h := ?_) | refine l_nil (h := ?_) | refine n_then (h := ?_) | refine l_pures1 (h := ?_) | refine g_ret (h := ?_) | refine n_then_ret (h := ?_) | refine n_block_ret (h := ?_) | refine a_done (h := ?_) | refine a_load (h := a_pass2 (h := ?_)) | refine a_one (h := ?_) | refine n_any (h := a_pass2 (h := ?_)) | refine a_v (h := ?_) | refine g_cond_t (h := ?_) | refine l_load_vec (h := ?_) | refine a_load_vec (h := a_pass2 (h := ?_)) | refine n_lw (h := ?_) | refine lw_nil (h := ?_) | refine lw_step (h := ?_)))
        have hfe : feed stop dn (geE d.ents x) = (dn' ++ [(d.keys.getD j 0, d.vals.getD j [])], true) := by rw [hf, hdr, feed, hst, he]; rfl
        refine r_retk [X (dn' ++ [(d.keys.getD j 0, d.vals.getD j [])]), Wk b sb (read + 1) 0, Store sb db S, Disk db D] ?_
        rw [hfe]
        exact ⟨rfl, rfl⟩
    · have hfe : feed stop dn (geE d.ents x) = (dn', false) := by rw [hf, List.drop_eq_nil_of_le (by omega)]; rfl
      (repeat' (first | refine g_seq (h := ?_) | refine g_region (h := ?_) | refine l_nil (h := ?_) | refine n_then (h := ?_) | refine l_pures1 (h := ?_) | refine l_load (h := ?_) | refine g_ret (h := ?_) | refine g_exit (h := ?_) | refine n_then_exit (h := ?_) | refine n_block_hit (h := ?_) | (refine g_spF (h := ?_); intro h)))
      refine r_retk [C dn', Wk b sb (read + 1) 0, Store sb db S, Disk db D] ?_
      rw [hfe]
      exact ⟨rfl, rfl⟩
  · exact ⟨hpos, by rw [Nd.ents, ge_zip hd.p.rise], by dsimp only; omega⟩
  · intro _ i
    exact inv_keep parts_of i
end Go.Proofs.YtmfmommgooccnaaGreat
/- Keys of kinds, and slots in them: plain facts. -/
set_option maxRecDepth 20000
set_option linter.unusedVariables false
set_option linter.unusedSimpArgs false
namespace Go.Proofs.YtmfmommgooccnaaGreat
open Go.Proofs.YtmfmommgooccnaaGreat.SL

/-- The key of a kind and two numbers. -/
def kyN (k a b : Nat) : Nat := k * 1152921504606846976 + a * 4294967296 + b
theorem kyN_lt {k a b : Nat} (hk : k < 16) (ha : a ≤ 268435455) (hb : b < 4294967296) : kyN k a b < 18446744073709551616 := by unfold kyN; omega

/-- A slot. -/
structure Sl where
  cap : Nat
  epoch : Nat
  nonce : Nat
deriving DecidableEq
def Sl.ok (s : Sl) : Prop := s.cap ≤ 16777215 ∧ 1 ≤ s.epoch ∧ s.epoch ≤ 16 ∧ (s.cap = 0 ∨ s.epoch ≤ 15) ∧ s.nonce < 18446744073709551616
def Sl.text (s : Sl) : List UInt8 := putN s.cap 3 ++ (putN s.epoch 1 ++ putN s.nonce 8)
/-! What Take and Free make of the slots -/
/-- What Free makes of a slot. -/
def Sl.fr (cap : Nat) (s : Sl) : Sl := if s.cap ≠ 0 ∧ s.cap = cap then ⟨0, s.epoch + 1, 0⟩ else s
end Go.Proofs.YtmfmommgooccnaaGreat
/- The framework, part 19: loops that hold loops over functions; their marks among the deferred calls. -/
set_option linter.unusedVariables false
set_option linter.unusedSimpArgs false
namespace Go.Proofs.YtmfmommgooccnaaGreat.SL

section
variable {w0 w : World} {F0 : Nat → Prop} {H : List SProp} {ms : List Nat} {D0 : Nat}
end

variable {P : Program} {E : Env} {n : Nat} {w0 : World} {F0 : Nat → Prop} {Q : Exit → Act → World → Prop} {tm : List (Nat × Value)} {D : List Deferred} {H H' : List SProp}
/-- A guarded lookup in a map that is held, in a region whose order is free. -/
theorem a_lookupg_k {α : Type} {kk : IntKind} {ops : List Oper} {ty : TypeId} {pos : String} {after : Array Edge} {Hs Hs' : List SProp} {listed : Array Bool} {ll : List Bool} {i d j ts t kt et b sz by' : Nat} {want : Bool} {x y : Operand} {enc : α → Value} {kv : List (Int × α)} {u : Int} (z : α) {zv : Value} (k : EnvOk P E := by refine inferInstance) (hs : noSel ops = true := by refine rfl) (hi : nextR ops 0 listed = some i := by refine rfl)
    (ho : nth ops i = some ⟨some d, .lookup t x y false, ty, pos, after, some (j, want)⟩ := by refine rfl) (hd : Nat.blt d n = true := by refine rfl) (hst : slotOf ops j = some ts := by refine rfl) (htb : tget tm ts = some (.bool want) := by refine rfl) (hb : Nat.blt ts n = true := by refine rfl) (hx : ev tm x = some (.map (some b)) := by refine rfl) (hy : ev tm y = some (.int kk u) := by refine rfl)
    (ht : look E.ty t = some (.map kt et) := by refine rfl) (hk : look E.ty kt = some (.int kk) := by refine rfl) (hz : look E.inf et = some (zv, sz, by') := by refine rfl) (tk : Take (mpk kk b enc kv) Hs Hs' := by with_reducible (repeat (first | refine Take.here | apply Take.there))) (hze : zv = enc z := by refine rfl)
    (hf : freeL ops.toArray i ⟨some d, .lookup t x y false, ty, pos, after, some (j, want)⟩ listed ops 0 = true := by refine rfl) (hl : listed.getD i true = false := by refine rfl) (hr : rdyB after.toList listed = true := by refine rfl) (hn : copyB (listed.setIfInBounds i true).toList = some ll := by refine rfl) (hc : Calm Q := by with_reducible (repeat (first | assumption | refine calm_post | refine calm_postM | refine calm_round | apply calm_then | apply calm_block | apply calm_scope)))
    (h : A P n w0 F0 ops Hs ll.toArray Q ((d, enc ((kvGet kv u).getD z)) :: tm) D H) : A P n w0 F0 ops Hs listed Q tm D H := by
  subst hze
  refine a_yh (v := enc ((kvGet kv u).getD z)) hc hs ho hd hst htb hb hf hl hr (fun a w htm ⟨F, s⟩ => ?_) (by rw [copyB_arr hn]; exact h)
  obtain ⟨F1, F2, ⟨⟨es, clock, hw, he, _⟩, _⟩, _⟩ := tk.sep s
  simp only [execOp, ev_sound htm hx, ev_sound htm hy, Sem.run_bind, run_lookup_int_k k hw he ht hk hz, Result.andThen, Sem.run_pure, Bool.false_eq_true, if_false]
end Go.Proofs.YtmfmommgooccnaaGreat.SL
/- The framework, part 20: values behind interfaces: their types are asked for, their methods called. -/
set_option linter.unusedVariables false
set_option linter.unusedSimpArgs false
namespace Go.Proofs.YtmfmommgooccnaaGreat.SL
section
variable {P : Program} {E : Env} {n : Nat} {w0 : World} {F0 : Nat → Prop} {Q : Exit → Act → World → Prop} {tm : List (Nat × Value)} {D : List Deferred} {H H' : List SProp} {ops rest : List Oper}
variable {ty : TypeId} {pos : String} {after : Array Edge}

/-- Is what is behind it of the type s? -/
def assertV (E : Env) (s : Nat) (x : Value) : Option Value :=
  match x with
  | .iface t v => (match look E.ty s with
    | none => none
    | some (.interface _) => none
    | some _ => bif Nat.beq t s then some (.tuple #[v, .bool true]) else (match look E.inf s with
      | some (z, _, _) => some (.tuple #[z, .bool false])
      | none => none))
  | _ => none
theorem assertV_sound (k : EnvOk P E) {xt s : Nat} {x v : Value} (h : assertV E s x = some v) (w : World) : (Instr.typeAssert x xt s true).run P w = .ok v w := by
  unfold assertV at h
  split at h
  · rename_i t u
    split at h
    · cases h
    · cases h
    · rename_i d hd hu
      have hu' := k.under hu
      cases hb : Nat.beq t s with
      | true =>
        rw [hb, cond_true] at h
        simp only [Option.some.injEq] at h; subst h
        obtain rfl : t = s := Nat.eq_of_beq_eq_true hb
        unfold Instr.typeAssert
        simp only [Sem.run_bind, run_underlying hu', Result.andThen]
        cases d <;> first | exact absurd rfl (hd _) | simp
      | false =>
        rw [hb, cond_false] at h
        split at h
        · rename_i z s1 b1 hi
          simp only [Option.some.injEq] at h; subst h
          have hne : t ≠ s := Nat.ne_of_beq_eq_false hb
          unfold Instr.typeAssert
          simp only [Sem.run_bind, run_underlying hu', Result.andThen]
          cases d <;> first | exact absurd rfl (hd _) | simp [hne, run_zero k hi, Result.andThen]
        · cases h
  · cases h
theorem l_assert {d xt s : Nat} {x : Operand} {u v : Value} (k : EnvOk P E := by refine inferInstance) (hd : Nat.blt d n = true := by refine rfl) (hx : ev tm x = some u := by refine rfl) (hv : assertV E s u = some v := by refine rfl)
    (h : L P n w0 F0 ops.toArray rest Q ((d, v) :: tm) D H) : L P n w0 F0 ops.toArray (⟨some d, .typeAssert x xt s true, ty, pos, after, none⟩ :: rest) Q tm D H :=
  .mk fun a w st => wpList_value rfl (v := v) (w' := w) (by simp only [execOp, ev_sound st.tm hx, Sem.run_bind, assertV_sound k hv, Result.andThen, Sem.run_pure]) (h _ _ (st.put hd v))

/-- The type t has a method of this name, of a value: it is the function g. -/
class Mth (P : Program) (t : Nat) (name : String) (g : FuncId) : Prop where
  it : ∃ i m, P.info? t = some i ∧ i.methods.find? (·.name == name) = some m ∧ m.path.toList = [] ∧ m.func = some (g, false)
def mthB (P : Program) (t : Nat) (name : String) (g : FuncId) : Bool :=
  match P.info? t with
  | none => false
  | some i => (match i.methods.find? (·.name == name) with
    | none => false
    | some m => m.path.toList.isEmpty && (match m.func with
      | some (f, false) => Nat.beq f g
      | _ => false))
theorem Mth.of {t : Nat} {name : String} {g : FuncId} (h : mthB P t name g = true) : Mth P t name g := by
  unfold mthB at h
  split at h
  · cases h
  · rename_i i hi
    split at h
    · cases h
    · rename_i m hm
      simp only [Bool.and_eq_true, List.isEmpty_iff] at h
      obtain ⟨h1, h2⟩ := h
      split at h2
      · rename_i f hf
        have : f = g := Nat.eq_of_beq_eq_true h2
        subst this
        exact ⟨i, m, hi, hm, h1, hf⟩
      · cases h2
def noPtr (E : Env) (t : Nat) : Bool :=
  match look E.ty t with
  | none => false
  | some (.pointer _) => false
  | some _ => true
theorem run_mth {t : Nat} {name : String} {g : FuncId} (k : EnvOk P E) (m : Mth P t name g) (hn : noPtr E t = true) (v : Value) (w : World) (fuel : Nat) : (method (fuel + 1) t v name).run P w = .ok (g, v) w := by
  obtain ⟨i, m, h1, h2, h3, h4⟩ := m.it
  unfold noPtr at hn
  split at hn
  · cases hn
  · cases hn
  · rename_i d hd hu
    have hu' := k.under hu
    unfold method
    have ht : (typeInfo t).run P w = .ok i w := by simp [typeInfo, program, Sem.run, h1]
    simp only [Sem.run_bind, ht, Result.andThen, h2, h3, follow, Sem.run_pure, h4, receiverAt, run_underlying hu']
    cases d <;> first | exact absurd rfl (hd _) | simp [Place.get, Result.andThen]
theorem run_invoke {g t : Nat} {name : String} {tm : List (Nat × Value)} {a : Act} (k : EnvOk P E) (c : Callable P g) (m : Mth P t name g) (hn : noPtr E t = true) (ht : Tm n tm a) {f : Operand} {xs : Array Operand} {ts : Array TypeId} {v : Value} {vs : List Value}
    (hf : ev tm f = some (.iface t v)) (hx : evs tm xs.toList = some vs) (dst : Option Nat) (w : World) :
    (execOp a.eval ⟨dst, .call ⟨.invoke f name, xs, ts⟩, ty, pos, after, none⟩).run P w = .ok (.enter g (v :: vs).toArray) w := by
  obtain ⟨fn, h1, h2, h3⟩ := c.it
  have e1 : xs.map a.eval = vs.toArray := by apply Array.ext'; simpa using evs_sound ht hx
  have hN : ¬ (fn.name == "runtime.NumGoroutine") = true := by rw [h2]; exact Bool.false_ne_true
  have hb : ¬ fn.body.isNone = true := by rw [h3]; exact Bool.false_ne_true
  have hsz : 0 < Made.depth := by decide
  obtain ⟨fu, hfu⟩ : ∃ fu, P.types.size + Made.depth = fu + 1 := ⟨P.types.size + Made.depth - 1, by omega⟩
  have hc : ∀ args : Array Value, (callFunc g args).run P w = .ok (.enter g args) w := fun args => by
    unfold callFunc
    simp only [program, Sem.run_bind, Sem.run, Result.andThen, h1, if_neg hN, if_neg hb, Sem.run_pure]
  have e2 : (#[v] ++ vs.toArray) = (v :: vs).toArray := by apply Array.ext'; simp
  have hget : (#[Value.iface t v] ++ vs.toArray)[0]? = some (.iface t v) := by simp
  have hext : (#[Value.iface t v] ++ vs.toArray).extract 1 (#[Value.iface t v] ++ vs.toArray).size = vs.toArray := by apply Array.ext'; simp
  have hp : (program).run P w = .ok P w := by simp [program, Sem.run]
  simp only [execOp, resolve, ev_sound ht hf, e1, invoke, Sem.run_bind, Sem.run_pure, Result.andThen, hget, hext, callMethod, hp, hfu, run_mth k m hn v w fu, hc, e2]
theorem l_invoke_ {d g t : Nat} {f : Operand} {name : String} {xs : Array Operand} {ts : Array TypeId} {u : Value} {vs args args' : List Value} {K : List SProp} {q : Value → List SProp → Prop} (hs : Does P g args K q) (h : ∀ v K' H'', q v K' → appO K' H' = some H'' → L P n w0 F0 ops.toArray rest Q ((d, v) :: tm) D H'')
    (k : EnvOk P E := by refine inferInstance) (hf : ev tm f = some (.iface t u) := by refine rfl) (m : Mth P t name g := by refine inferInstance) (hn : noPtr E t = true := by refine rfl) (hd : Nat.blt d n = true := by refine rfl) (hx : evs tm xs.toList = some vs := by refine rfl) (ha : u :: vs = args' := by refine rfl) (he : args' = args := by with_reducible refine rfl)
    (hp : Parts K H H' := by with_reducible (repeat (first | refine Parts.nil | (apply Parts.cons; repeat (first | refine Take.here | apply Take.there))))) (c : Callable P g := by refine inferInstance) :
    L P n w0 F0 ops.toArray (⟨some d, .call ⟨.invoke f name, xs, ts⟩, ty, pos, after, none⟩ :: rest) Q tm D H := by
  refine .mk fun a w s => ?_
  subst he
  subst ha
  obtain ⟨F1, s1, back⟩ := (s.inv.parts hp).hand
  refine wpList_enter rfl (run_invoke k c m hn s.tm hf hx _ w) (R := fun v w' => ∃ K', q v K' ∧ Inv w F1 K' w') ?_ ?_
  · exact (hs w F1 s1).mono fun e w' ⟨v, K', he, hq, hi⟩ => ⟨v, he, K', hq, hi⟩
  · rintro v w' ⟨K', hq, hi⟩
    exact h v K' _ hq (appO_eq K' H') _ _ ⟨s.tm.put hd v, s.defers, back hi⟩
theorem l_invoke {d g t : Nat} {f : Operand} {name : String} {xs : Array Operand} {ts : Array TypeId} {u : Value} {vs args args' : List Value} {K K' H'' : List SProp} {V : Value} (hs : Does P g args K (fun v H => v = V ∧ H = K')) (h : L P n w0 F0 ops.toArray rest Q ((d, V) :: tm) D H'')
    (k : EnvOk P E := by refine inferInstance) (hf : ev tm f = some (.iface t u) := by refine rfl) (m : Mth P t name g := by refine inferInstance) (hn : noPtr E t = true := by refine rfl) (hd : Nat.blt d n = true := by refine rfl) (hx : evs tm xs.toList = some vs := by refine rfl) (ha : u :: vs = args' := by refine rfl) (he : args' = args := by with_reducible refine rfl)
    (hp : Parts K H H' := by with_reducible (repeat (first | refine Parts.nil | (apply Parts.cons; repeat (first | refine Take.here | apply Take.there))))) (ho : appO K' H' = some H'' := by refine rfl) (c : Callable P g := by refine inferInstance) :
    L P n w0 F0 ops.toArray (⟨some d, .call ⟨.invoke f name, xs, ts⟩, ty, pos, after, none⟩ :: rest) Q tm D H :=
  l_invoke_ hs (fun v K1 H2 ⟨e1, e2⟩ e3 => by subst e1 e2; rw [ho] at e3; cases e3; exact h) k hf m hn hd hx ha he hp c
end
end Go.Proofs.YtmfmommgooccnaaGreat.SL
/- Package space: keys. -/
set_option maxRecDepth 20000
set_option linter.unusedVariables false
set_option linter.unusedSimpArgs false
namespace Go.Proofs.YtmfmommgooccnaaGreat
open Go.Proofs.YtmfmommgooccnaaGreat.SL

theorem Key_does (k a b : Nat) (hk : k < 16) (ha : a ≤ 268435455) (hb : b < 4294967296) : Does Tryz.prog 103 [.int .i64 k, .int .i64 a, .int .i64 b] [] (fun v H => v = .tuple #[.int .u64 (kyN k a b : Nat), .bool true] ∧ H = []) := by
  refine does_of Tryz.func103 Tryz.ntmps103 rfl rfl rfl (fun w0 F0 => ?_)
  (repeat' (first | refine g_seq (h := ?_) | refine g_region (h := ?_) | refine l_nil (h := ?_) | refine n_then (h := ?_) | refine l_pures1 (h := ?_) | refine l_guard_yes (h := ?_) | refine l_shl (h := ?_) | refine g_skip (h := ?_) | refine g_ret (h := ?_) | (refine l_spF (h := ?_); intro h) | (refine g_spF (h := ?_); intro h)))
  refine r_ret ?_
  refine ⟨?_, rfl⟩
  have p60 : (2 : Int) ^ min (Int.toNat 60) IntKind.u64.bits = 1152921504606846976 := by decide
  have p32 : (2 : Int) ^ min (Int.toNat 32) IntKind.u64.bits = 4294967296 := by decide
  rw [p60, p32, wrapU64 (n := (k : Int)) (by omega), wrapU64 (n := (a : Int)) (by omega), wrapU64 (n := (b : Int)) (by omega), wrapU64 (n := (k : Int) * 1152921504606846976) (by omega), wrapU64 (n := (a : Int) * 4294967296) (by omega), wrapU64 (n := (k : Int) * 1152921504606846976 + (a : Int) * 4294967296) (by omega), wrapU64 (by omega)]
  simp [packV, kyN]
end Go.Proofs.YtmfmommgooccnaaGreat
/- Package rec: slots as bytes. -/
set_option maxRecDepth 20000
set_option linter.unusedVariables false
set_option linter.unusedSimpArgs false
namespace Go.Proofs.YtmfmommgooccnaaGreat
open Go.Proofs.YtmfmommgooccnaaGreat.SL

instance mthSlot : Mth Tryz.prog 165 "bailiwick/rec.right" 251 := Mth.of (by kernel_rfl)

theorem putN_ok {n k : Nat} (hk : 1 ≤ k ∧ k ≤ 8) (h : n < 256 ^ k) : numPut n (k : Int) = (putN n k, 0) := by
  rw [numPut, if_neg (by omega), if_pos (by simpa using h)]; simp
theorem take_putN {n k : Nat} (hk : 1 ≤ k ∧ k ≤ 8) (h : n < 256 ^ k) (r : List UInt8) : numTake (putN n k ++ r) (k : Int) = (n, r, 0) := by
  have hl := putN_length k n
  rw [take_of (by simp [hl]) hk, List.take_left' hl, List.drop_left' hl, getN_putN _ _ h]

theorem in_does (n lo hi : Int) (h : lo ≤ n ∧ n ≤ hi) : Does Tryz.prog 252 [.int .i64 n, .int .i64 lo, .int .i64 hi] [] (fun v H => v = .bool true ∧ H = []) := by
  refine does_of Tryz.func252 Tryz.ntmps252 rfl rfl rfl (fun w0 F0 => ?_)
  (repeat' (first | refine g_seq (h := ?_) | refine g_region (h := ?_) | refine l_nil (h := ?_) | refine n_then (h := ?_) | refine l_pures1 (h := ?_) | refine l_guard_yes (h := ?_) | refine g_ret (h := ?_) | (refine l_spT (h := ?_); intro h)))
  refine r_ret ?_
  exact ⟨(by first | (simp [packV]; done) | (simp [packV]; omega)), rfl⟩
/-- A writer has the bytes l. -/
abbrev Wr (b : Nat) (l : List UInt8) : SProp := cl b 260 [.string (str l)]
theorem wNumber_does (b n k : Nat) (l : List UInt8) (hk : 1 ≤ k ∧ k ≤ 8) (h : n < 256 ^ k) (hn : n < 18446744073709551616) (hl : l.length < 1000) : Does Tryz.prog 173 [.pointer (some ⟨b, 0, none⟩), .int .u64 n, .int .i64 k] [Wr b l] (fun v H => v = .tuple #[] ∧ H = [Wr b (l ++ putN n k)]) := by
  have hp := Put_does n k hn (by omega)
  rw [putN_ok hk h] at hp
  have hpl := putN_length k n
  refine does_of Tryz.func173 Tryz.ntmps173 rfl rfl rfl (fun w0 F0 => ?_)
  (repeat' (first | refine g_seq (h := ?_) | refine g_region (h := ?_) | refine l_nil (h := ?_) | refine n_then (h := ?_) | refine l_pures1 (h := ?_) | (refine l_atc ?_; refine l_call (hp) ?_) | refine l_load (h := ?_) | refine l_store (h := ?_) | refine l_concat (h := ?_)))
  refine r_endk [Wr b (l ++ putN n k)] ?_
  exact ⟨rfl, rfl⟩
theorem wSmall_does (b n k : Nat) (l : List UInt8) (hk : 1 ≤ k ∧ k ≤ 8) (h : n < 256 ^ k) (hn : n < 9223372036854775808) (hl : l.length < 1000) : Does Tryz.prog 171 [.pointer (some ⟨b, 0, none⟩), .int .i64 n, .int .i64 k] [Wr b l] (fun v H => v = .tuple #[] ∧ H = [Wr b (l ++ putN n k)]) := by
  have hw := wNumber_does b n k l hk h (by omega) hl
  have ew : IntKind.u64.wrap (n : Int) = n := wrapU64 (by omega)
  refine does_of Tryz.func171 Tryz.ntmps171 rfl rfl rfl (fun w0 F0 => ?_)
  (repeat (first | refine g_region (h := ?_) | refine l_pures1 (h := ?_)))
  rw [ew]
  (repeat' (first | refine l_nil (h := ?_) | (refine l_atc ?_; refine l_call (hw) ?_)))
  refine r_endk [Wr b (l ++ putN n k)] ?_
  exact ⟨rfl, rfl⟩
/-- A reader has the bytes l yet. -/
abbrev Rd14 (b : Nat) (l : List UInt8) : SProp := cl b 161 [.string (str l), .bool false]
theorem rNumber_does (b n k : Nat) (r : List UInt8) (hk : 1 ≤ k ∧ k ≤ 8) (h : n < 256 ^ k) (hr : r.length < 1000) : Does Tryz.prog 105 [.pointer (some ⟨b, 0, none⟩), .int .i64 k] [Rd14 b (putN n k ++ r)] (fun v H => v = .int .u64 n ∧ H = [Rd14 b r]) := by
  have ht := Take_does (putN n k ++ r) k (by omega) (by simp [putN_length]; omega)
  rw [take_putN hk h] at ht
  have ht : Does Tryz.prog 136 [.string (str (putN n k ++ r)), .int .i64 k] [] (fun v H => v = .tuple #[.int .u64 n, .string (str r), .int .i64 0] ∧ H = []) := ht
  refine does_of Tryz.func105 Tryz.ntmps105 rfl rfl rfl (fun w0 F0 => ?_)
  (repeat' (first | refine g_seq (h := ?_) | refine g_region (h := ?_) | refine l_nil (h := ?_) | refine n_then (h := ?_) | refine l_pures1 (h := ?_) | (refine l_atc ?_; refine l_call (ht) ?_) | refine l_guard_yes (h := ?_) | refine l_load (h := ?_) | refine l_store (h := ?_) | refine g_ret (h := ?_)))
  refine r_ret ?_
  exact ⟨rfl, rfl⟩
theorem rSmall_does (b n k : Nat) (r : List UInt8) (hk : 1 ≤ k ∧ k ≤ 8) (h : n < 256 ^ k) (hn : n < 9223372036854775808) (hr : r.length < 1000) : Does Tryz.prog 104 [.pointer (some ⟨b, 0, none⟩), .int .i64 k] [Rd14 b (putN n k ++ r)] (fun v H => v = .int .i64 n ∧ H = [Rd14 b r]) := by
  have hw := rNumber_does b n k r hk h hr
  have ew : IntKind.i64.wrap (n : Int) = n := wrapI64 (by omega)
  refine does_of Tryz.func104 Tryz.ntmps104 rfl rfl rfl (fun w0 F0 => ?_)
  (repeat' (first | refine g_seq (h := ?_) | refine g_region (h := ?_) | refine l_nil (h := ?_) | refine n_then (h := ?_) | refine l_pures1 (h := ?_) | (refine l_atc ?_; refine l_call (hw) ?_) | refine g_ret (h := ?_)))
  refine r_retk [Rd14 b r] ?_
  exact ⟨by rw [ew]; rfl, rfl⟩
end Go.Proofs.YtmfmommgooccnaaGreat
/- Package tree: from of a whole tree. -/
set_option maxRecDepth 20000
set_option linter.unusedVariables false
set_option linter.unusedSimpArgs false
namespace Go.Proofs.YtmfmommgooccnaaGreat
open Go.Proofs.YtmfmommgooccnaaGreat.SL

theorem sepL_lt {x : Nat} : ∀ {kl : List Nat} {sl : List Sub}, SepL kl sl → (∀ k ∈ kl, k ≤ x) → ∀ e ∈ Sub.all sl, e.1 < x
  | [], [], _, _, e, he => by simp [Sub.all] at he
  | k :: kl, s :: sl, ⟨h1, h2, h3⟩, hk, e, he => by
    rw [Sub.all_cons, List.mem_append] at he
    rcases he with he | he
    · have := h1 e he
      have := hk k (by simp)
      omega
    · exact sepL_lt h3 (fun k hk' => hk k (by simp [hk'])) e he
theorem geE_none {es : List Ent} {x : Nat} (h : ∀ e ∈ es, e.1 < x) : geE es x = [] := by
  refine List.filter_eq_nil_iff.2 fun e he => ?_
  have := h e he
  simp; omega
theorem all2_get {α β : Type} {R : α → β → Prop} : ∀ {l : List α} {m : List β} {i : Nat} {a : α}, All2 R l m → l[i]? = some a → ∃ b, m[i]? = some b ∧ R a b
  | [], [], i, a, _, h => by simp at h
  | x :: l, y :: m, 0, a, q, h => by simp only [List.getElem?_cons_zero, Option.some.injEq] at h ⊢; subst h; exact ⟨y, rfl, q.1⟩
  | x :: l, y :: m, i + 1, a, q, h => by simp only [List.getElem?_cons_succ] at h ⊢; exact all2_get q.2 h

set_option maxHeartbeats 4000000 in
theorem from_does (b sb db x N l : Nat) (C X : List Ent → SProp) (stop : List Ent → Bool) (hY : ∀ dn e, dn.length < 100000 → SL.Yields Tryz.prog l [entV e] [C dn] (fun v H => v = .bool (!stop (dn ++ [e])) ∧ H = [if stop (dn ++ [e]) then X (dn ++ [e]) else C (dn ++ [e])]))
    {S : Sh} {D : Dk} {U : List Int} (k : Fine N S D U) : ∀ (h : Nat) (d : Nd) (es : List Ent) (ps : List Int) (deep : Nat) (pg read : Int) (dn : List Ent), NT (Gd N D) h d es ps → d.good → (d.leaf = false → d.keys ≠ []) → Gd N D pg d → deep + h ≤ 10 → 0 ≤ read → read + ps.length + 1 ≤ 640 → dn.length + es.length ≤ 100000 →
    Does Tryz.prog 164 [.pointer (some ⟨b, 0, none⟩), .int .i64 pg, .int .i64 deep, .int .u64 x, .func (.yield l) #[] #[]] [C dn, Wk b sb read 0, Store sb db S, Disk db D]
      (fun v H => ∃ rd : Int, 0 ≤ rd ∧ rd ≤ read + ps.length + 1 ∧ v = .bool (!(feed stop dn (geE es x)).2) ∧ H = [fedP C X (feed stop dn (geE es x)), Wk b sb rd 0, Store sb db S, Disk db D])
  | 0, d, es, ps, deep, pg, read, dn, n, hd, hne, hg, hdp, hr0, hrd, hdl => by
    obtain ⟨hlf, hp, rfl, rfl⟩ := n
    refine (from_leaf b sb db x N l C X stop hY deep pg read S D d hd hlf (by rw [k.read hg.1, hg.2]) (by simp at hrd; omega) (by omega) dn hdl).mono ?_
    rintro v H ⟨rfl, rfl⟩
    exact ⟨read + 1, by omega, by simp, rfl, rfl⟩
  | hh + 1, d, es, ps, deep, pg, read, dn, n, hd, hne, hg, hdp, hr0, hrd, hdl => by
    have hlf := n.1
    obtain ⟨_, _, ss, f, e, e2, sp⟩ := n
    subst e e2
    have hlen := sp.len
    have hkl := kidsLen hd.p hlf
    obtain ⟨c1', c2', c3'⟩ := cntN_spec (x := x) hd.p.rise
    obtain ⟨i0, hi0⟩ : ∃ i0, i0 = cntN d.keys x := ⟨_, rfl⟩
    rw [← hi0] at c1' c2' c3'
    have hn := wNode_does b sb db deep pg read S D d hd (by rw [k.read hg.1, hg.2]) (by omega) (by omega)
    have hF := fun r => Find_does d r x hd.fits hd.p.rise
    simp only [hlf, Bool.false_eq_true, if_false, ← hi0] at hF
    have hfk := hd.fits.k
    have h0 : geE (Sub.all (ss.take i0)) x = [] := by
      refine geE_none (sepL_lt (kl := d.keys.take i0) (sl := ss.take i0) ?_ c2')
      have := (sep_app (kl := d.keys.take i0) (kr := d.keys.drop i0) (sl := ss.take i0) (sr := ss.drop i0) (by simp; omega)).1 (by rw [List.take_append_drop, List.take_append_drop]; exact sp)
      exact this.1
    have hall : geE (Sub.all ss) x = geE (Sub.all (ss.drop i0)) x := by
      have : Sub.all ss = Sub.all (ss.take i0) ++ Sub.all (ss.drop i0) := by rw [← Sub.all_append, List.take_append_drop]
      rw [this, geE_append, h0, List.nil_append]
    have hpl : (Sub.pages (ss.drop i0)).length ≤ (Sub.pages ss).length := by
      have : Sub.pages ss = Sub.pages (ss.take i0) ++ Sub.pages (ss.drop i0) := by rw [← Sub.pages_append, List.take_append_drop]
      rw [this, List.length_append]; omega
    have hal : (Sub.all (ss.drop i0)).length ≤ (Sub.all ss).length := by
      have : Sub.all ss = Sub.all (ss.take i0) ++ Sub.all (ss.drop i0) := by rw [← Sub.all_append, List.take_append_drop]
      rw [this, List.length_append]; omega
    refine does_of Tryz.func164 Tryz.ntmps164 rfl rfl rfl (fun w0 F0 => ?_)
    (repeat' (first | refine g_seq (h := ?_) | refine g_region (h := ?_) | refine l_nil (h := ?_) | refine n_then (h := ?_) | refine l_pures1 (h := ?_) | (refine l_atc ?_; refine l_call_ (hn) ?_; rintro _ _ _ ⟨r, rfl, rfl⟩ he; cases he) | (refine l_atc ?_; refine l_call (hF _) ?_) | refine l_load (h := ?_) | refine l_store (h := ?_) | (refine l_alloc (h := ?_); intro _) | refine g_skip (h := ?_) | refine g_block (h := ?_) | refine g_cond_f (h := ?_) | (refine g_sp (h1 := ?_) (h0 := ?_) <;> intro h)))
    rotate_left
    · exact absurd h (by rw [hlf]; simp)
    rename_i b11
    obtain ⟨p1, q1, p2, q2, p3, q3⟩ := r
    refine g_open (A := Nds d ⟨p1, q1, p2, q2, p3, q3⟩) (h := ?_); (rintro _ _; dsimp only [NdsK, List.cons_append, List.nil_append])
    refine g_ptr (m := d.kids.length) (h := ?_); rintro g3 rfl hc3
    (refine g_loop (fun y : Nat × List Ent × Int => [(12, .int .i64 y.1), (11, .pointer (some ⟨b11, 0, none⟩)), (4, .func (.yield l) #[] #[]), (3, .int .u64 x), (2, .int .i64 deep), (0, .pointer (some ⟨b, 0, none⟩))]) (fun y => [C y.2.1, vec 3 1 (some ⟨g3, 0, none⟩) d.kids.length q3 (d.kids.map encZ'), cl b11 176 [.bool d.leaf, .slice p1 d.keys.length q1, .slice p2 d.vals.length q2, .slice (some ⟨g3, 0, none⟩) d.kids.length q3], Wk b sb y.2.2 0, Store sb db S, Disk db D]) (fun y => y.1 ≤ d.kids.length ∧ feed stop dn (geE (Sub.all ss) x) = feed stop y.2.1 (geE (Sub.all (ss.drop y.1)) x) ∧ 0 ≤ y.2.2 ∧ y.2.2 + (Sub.pages (ss.drop y.1)).length ≤ read + 1 + (Sub.pages ss).length ∧ y.2.1.length + (Sub.all (ss.drop y.1)).length ≤ 100000) (fun y => d.kids.length - y.1) ((i0, dn, read + 1)) ?_ ?_ ?_ ?_; rotate_left; (repeat (first | refine ts_nil | (refine ts_cons rfl ?_ ?_; first | (with_reducible rfl) | rotate_left))); (first | (intro _ i; with_reducible refine i) | rotate_left); rotate_left; (try omega); rotate_right)
    · rintro ⟨j, dn', rd⟩ ⟨hj, hf, hr1, hr2, hr3⟩
      dsimp only at hj hf hr1 hr2 hr3 ⊢
      by_cases hjl : j < d.kids.length
      · have hgk := iGet (l := d.kids) (k := j) hjl
        obtain ⟨s, hs, d', ps', a1, a2, a3, a4, a5⟩ := all2_get f (List.getElem?_eq_getElem hjl)
        have hkid : d.kids.getD j 0 = d.kids[j] := by simp [List.getD, hjl]
        have hdr : ss.drop j = s :: ss.drop (j + 1) := by
          have hjs : j < ss.length := (List.getElem?_eq_some_iff.1 hs).1
          rw [List.drop_eq_getElem_cons hjs]
          congr 1
          rw [List.getElem?_eq_getElem hjs] at hs
          exact Option.some.inj hs
        rw [hdr, Sub.pages_cons, List.length_append, a5, List.length_cons] at hr2
        rw [hdr, Sub.all_cons, List.length_append] at hr3
        have hfl := feed_len stop (geE s.es x) dn'
        have hgl : (geE s.es x).length ≤ s.es.length := List.length_filter_le _ _
        have ih := from_does b sb db x N l C X stop hY k hh d' s.es ps' (deep + 1) d.kids[j] rd dn' a4 a2 a3 a1 (by omega) hr1 (by omega) (by omega)
        have ew : IntKind.i64.wrap ((deep : Int) + 1) = ((deep + 1 : Nat) : Int) := by rw [wrapI64 (by omega)]; rfl
        rw [← ew, ← hkid] at ih
        have hfs : feed stop dn (geE (Sub.all ss) x) = if (feed stop dn' (geE s.es x)).2 then feed stop dn' (geE s.es x) else feed stop (feed stop dn' (geE s.es x)).1 (geE (Sub.all (ss.drop (j + 1))) x) := by
          rw [hf, hdr, Sub.all_cons, geE_append, feed_append]
        obtain ⟨⟨dn2, st⟩, hfd⟩ : ∃ r, feed stop dn' (geE s.es x) = r := ⟨_, rfl⟩
        rw [hfd] at ih hfs hfl
        dsimp only at hfl
        cases st
        · simp only [fedP, Bool.false_eq_true, if_false, Bool.not_false] at ih hfs
          (repeat' (first | refine g_seq (h := ?_) | refine g_region (h := ?_) | refine l_nil (h := ?_) | refine n_then (h := ?_) | refine l_pures1 (h := ?_) | (refine l_atc ?_; refine l_call_ (ih) ?_; rintro _ _ _ ⟨rd2, v1, v2, rfl, rfl⟩ he; cases he) | refine l_load (h := ?_) | refine l_indexAddr (h := ?_) | refine g_skip (h := ?_) | refine g_block (h := ?_) | refine n_block (h := ?_) | refine g_cond_f (h := ?_) | refine l_load_vec (h := ?_) | (refine g_spT (h := ?_); intro h)))
          (refine n_back ((j + 1, dn2, rd2)) ?_ ?_ ?_ ?_; rotate_left; rotate_left; (repeat (first | refine ts_nil | (refine ts_cons rfl ?_ ?_; first | (with_reducible rfl) | rotate_left))); (first | (intro _ i; with_reducible refine i) | rotate_left); (try omega); (try omega))
          · exact ⟨hjl, by rw [hfs], v1, by dsimp only; omega, by dsimp only; omega⟩
          · dsimp only; omega
          · rw [wrapI64 (by omega)] <;> rfl
          · skip
            (intro _ i; exact inv_keep parts_of i)
        · simp only [fedP, if_true, Bool.not_true] at ih hfs
          (repeat' (first | refine g_seq (h := ?_) | refine g_region (h := ?_) | refine l_nil (h := ?_) | refine n_then (h := ?_) | refine l_pures1 (h := ?_) | (refine l_atc ?_; refine l_call_ (ih) ?_; rintro _ _ _ ⟨rd2, v1, v2, rfl, rfl⟩ he; cases he) | refine l_load (h := ?_) | refine l_indexAddr (h := ?_) | refine g_skip (h := ?_) | refine g_ret (h := ?_) | refine n_then_ret (h := ?_) | refine n_block_ret (h := ?_) | refine g_block (h := ?_) | refine g_cond_t (h := ?_) | refine l_load_vec (h := ?_) | (refine g_spT (h := ?_); intro h)))
          refine r_retk [X dn2, Wk b sb rd2 0, Store sb db S, Disk db D] ?_
          rw [hfs]
          exact ⟨rd2, v1, by omega, rfl, rfl⟩
      · have hfs : feed stop dn (geE (Sub.all ss) x) = (dn', false) := by rw [hf, List.drop_eq_nil_of_le (by omega)]; rfl
        (repeat' (first | refine g_seq (h := ?_) | refine g_region (h := ?_) | refine l_nil (h := ?_) | refine n_then (h := ?_) | refine l_pures1 (h := ?_) | refine l_load (h := ?_) | refine g_ret (h := ?_) | refine n_then_ret (h := ?_) | refine g_exit (h := ?_) | refine n_then_exit (h := ?_) | refine n_block_hit (h := ?_) | (refine g_spF (h := ?_); intro h)))
        refine r_retk [C dn', Wk b sb rd 0, Store sb db S, Disk db D] ?_
        rw [hfs]
        exact ⟨rd, hr1, by omega, rfl, rfl⟩
    · exact ⟨by dsimp only; omega, hall ▸ rfl, by dsimp only; omega, by dsimp only; omega, by dsimp only; omega⟩
    · intro _ i
      exact inv_keep parts_of i
end Go.Proofs.YtmfmommgooccnaaGreat
/- Package tree: Scan. -/
set_option maxRecDepth 20000
set_option linter.unusedVariables false
set_option linter.unusedSimpArgs false
namespace Go.Proofs.YtmfmommgooccnaaGreat
open Go.Proofs.YtmfmommgooccnaaGreat.SL

def entC (es : List Ent) : List Value := es.flatMap fun e => [Value.int .u64 (e.1 : Nat), .string (str e.2)]
theorem entC_snoc (es : List Ent) (e : Ent) : entC (es ++ [e]) = entC es ++ [Value.int .u64 (e.1 : Nat), .string (str e.2)] := by simp [entC]
theorem entC_len (es : List Ent) : (entC es).length = es.length * 2 := by
  induction es with
  | nil => rfl
  | cons e es ih => simp only [entC, List.flatMap_cons, List.length_append, List.length_cons, List.length_nil] at *; omega

theorem entries_does (b : Nat) (root : Int) (x : Nat) : Does Tryz.prog 123 [.pointer (some ⟨b, 0, none⟩), .int .i64 root, .int .u64 x] []
    (fun v H => ∃ b1 b2 b3, v = .func (.func 163) #[] #[.pointer (some ⟨b1, 0, none⟩), .pointer (some ⟨b2, 0, none⟩), .pointer (some ⟨b3, 0, none⟩)] ∧
      H = [cl b1 169 [.pointer (some ⟨b, 0, none⟩)], cl b2 3 [.int .i64 root], cl b3 30 [.int .u64 x]]) := by
  refine does_of Tryz.func123 Tryz.ntmps123 rfl rfl rfl (fun w0 F0 => ?_)
  (repeat (first | refine g_seq (h := ?_) | refine g_region (h := ?_) | refine l_nil (h := ?_) | refine n_then (h := ?_) | refine l_pures1 (h := ?_) | (refine l_box (h := ?_); intro _) | refine g_ret (h := ?_)))
  rename_i b1 b2 b3
  refine r_retk [cl b1 169 [.pointer (some ⟨b, 0, none⟩)], cl b2 3 [.int .i64 root], cl b3 30 [.int .u64 x]] ?_
  exact ⟨b1, b2, b3, rfl, rfl⟩

theorem entriesF_does (b b1 b2 b3 sb db l : Nat) (root : Int) (x : Nat) (S : Sh) (D : Dk) (K : List SProp) (q : Value → List SProp → Prop) (A : SProp)
    (hd : Does Tryz.prog 164 [.pointer (some ⟨b, 0, none⟩), .int .i64 root, .int .i64 1, .int .u64 x, .func (.yield l) #[] #[]] [A, Wk b sb 0 0, Store sb db S, Disk db D] q) :
    Does Tryz.prog 163 [.func (.yield l) #[] #[], .pointer (some ⟨b1, 0, none⟩), .pointer (some ⟨b2, 0, none⟩), .pointer (some ⟨b3, 0, none⟩)]
      [A, Wk b sb 0 0, Store sb db S, Disk db D, cl b1 169 [.pointer (some ⟨b, 0, none⟩)], cl b2 3 [.int .i64 root], cl b3 30 [.int .u64 x]]
      (fun v H => ∃ u K', q u K' ∧ H = K' ++ [cl b1 169 [.pointer (some ⟨b, 0, none⟩)], cl b2 3 [.int .i64 root], cl b3 30 [.int .u64 x]]) := by
  refine does_of Tryz.func163 Tryz.ntmps163 rfl rfl rfl (fun w0 F0 => ?_)
  (repeat (first | refine g_region (h := ?_) | refine l_pures1 (h := ?_) | (refine l_atc ?_; refine l_call_ (hd) ?_) | refine l_load (h := ?_)))
  rintro v K' H'' hq he
  rw [appO_eq] at he
  cases he
  (repeat refine l_nil (h := ?_))
  refine r_end ?_
  exact ⟨v, K', hq, rfl⟩

/-- The consumer of Scan: the loop's record, what was found, how many are asked. -/
abbrev ScK (l n : Nat) (tm : List (Nat × Value)) (asg body : Code) (st : LoopState) (pe : Option Code) (b11 b7 : Nat) (most : Int) (dn : List Ent) (x : Option Addr × Nat) : List SProp :=
  [lp l n tm #[26] asg body st pe, cl b11 50 [.slice x.1 dn.length x.2], vec 199 2 x.1 dn.length x.2 (entC dn), cl b7 3 [.int .i64 most]]
def Sc (l n : Nat) (tm : List (Nat × Value)) (asg body : Code) (st : LoopState) (pe : Option Code) (b11 b7 : Nat) (most : Int) (dn : List Ent) : SProp := hid (fun _ : Option Addr × Nat => True) (ScK l n tm asg body st pe b11 b7 most dn)

set_option maxHeartbeats 4000000 in
theorem scan_yields0 (l b11 b7 : Nat) (most : Int) (tm0 : List (Nat × Value)) (asg body : Code) (dn : List Ent) (e : Ent) (p : Option Addr) (cap : Nat) (hdn : dn.length < 100000) (w11 : tget tm0 11 = some (.pointer (some ⟨b11, 0, none⟩))) (w7 : tget tm0 7 = some (.pointer (some ⟨b7, 0, none⟩)))
    (hA : asg = rfA (nav [1, 1, 1, 1, 0, 1, 2] (bdy Tryz.f71))) (hB : body = rfB (nav [1, 1, 1, 1, 0, 1, 2] (bdy Tryz.f71))) :
    SL.Yields Tryz.prog l [entV e] (ScK l 45 tm0 asg body .ready none b11 b7 most dn (p, cap))
      (fun v H => v = .bool (!decide (((dn ++ [e]).length : Int) = most)) ∧ ∃ x R, Parts (if ((dn ++ [e]).length : Int) = most then ScK l 45 tm0 asg body .done (some (.exit 0)) b11 b7 most (dn ++ [e]) x else ScK l 45 tm0 asg body .ready none b11 b7 most (dn ++ [e]) x) H R) := by
  dsimp only [ScK]
  refine yields_of (ps := [26]) (fun w0 F0 => ?_)
  refine gr_weak (tm' := [(26, entV e), (11, .pointer (some ⟨b11, 0, none⟩)), (7, .pointer (some ⟨b7, 0, none⟩))]) ⟨rfl, w11, w7, trivial⟩ (fun i => i) ?_
  have e0 : (dn ++ [e]).length = dn.length + 1 := by simp
  have e1 : entC dn ++ #[Value.int .u64 (e.1 : Nat), .string (str e.2)].toList = entC (dn ++ [e]) := (entC_snoc dn e).symm
  refine gr_as hA ?_
  dsimp only [rfA, nav, bdy, Tryz.f71, Option.getD]
  (repeat (first | refine l_nil (h := ?_) | refine l_store (h := ?_) | (refine l_alloc (h := ?_); intro _) | refine gr_region (h := ?_)))
  rename_i b12
  refine n_begin (h := ?_)
  refine gr_as hB ?_
  dsimp only [rfA, rfB, nav, bdy, Tryz.f71, Option.getD]
  (repeat' (first | refine l_nil (h := ?_) | refine l_pures1 (h := ?_) | refine l_load (h := ?_) | refine l_store (h := ?_) | (refine l_buildSlice1 (h := ?_); intro _) | (refine l_append_new (h := ?_); intro _ _) | refine n_block_miss (h := ?_) | refine n_block (h := ?_) | refine gr_seq (h := ?_) | refine gr_region (h := ?_) | refine nr_then (h := ?_) | refine gr_block (h := ?_) | refine gr_skip (h := ?_) | refine gr_exit (h := ?_) | (refine gr_sp (h1 := ?_) (h0 := ?_) <;> intro h)))
  all_goals rename_i b1 p' cap'
  all_goals have hm := h
  all_goals rw [← e0] at hm ⊢
  all_goals rw [e1]
  · refine n_round_x ⟨by rw [decide_eq_true hm]; rfl, (p', cap'), ?_⟩
    rw [if_pos hm]
    exact ⟨_, parts_of⟩
  · refine n_round ⟨by rw [decide_eq_false hm]; rfl, (p', cap'), ?_⟩
    rw [if_neg hm]
    exact ⟨_, parts_of⟩
theorem scan_yields (l b11 b7 : Nat) (most : Int) (tm0 : List (Nat × Value)) (asg body : Code) (w11 : tget tm0 11 = some (.pointer (some ⟨b11, 0, none⟩))) (w7 : tget tm0 7 = some (.pointer (some ⟨b7, 0, none⟩)))
    (hA : asg = rfA (nav [1, 1, 1, 1, 0, 1, 2] (bdy Tryz.f71))) (hB : body = rfB (nav [1, 1, 1, 1, 0, 1, 2] (bdy Tryz.f71))) (dn : List Ent) (e : Ent) (hdn : dn.length < 100000) :
    SL.Yields Tryz.prog l [entV e] [Sc l 45 tm0 asg body .ready none b11 b7 most dn] (fun v H => v = .bool (!decide (((dn ++ [e]).length : Int) = most)) ∧ H = [if decide (((dn ++ [e]).length : Int) = most) = true then Sc l 45 tm0 asg body .done (some (.exit 0)) b11 b7 most (dn ++ [e]) else Sc l 45 tm0 asg body .ready none b11 b7 most (dn ++ [e])]) := by
  refine SL.Yields.open hid_opens ?_
  rintro ⟨p, cap⟩ _
  refine (scan_yields0 l b11 b7 most tm0 asg body dn e p cap hdn w11 w7 hA hB).post ?_
  rintro v H' ⟨rfl, x, R, hp⟩
  refine ⟨_, ⟨rfl, rfl⟩, ?_⟩
  intro w0 F0 w i
  by_cases hm : ((dn ++ [e]).length : Int) = most
  · rw [if_pos hm] at hp
    rw [if_pos (by simpa using hm)]
    exact shut_of (p := fun _ : Option Addr × Nat => True) (K := ScK l 45 tm0 asg body .done (some (.exit 0)) b11 b7 most (dn ++ [e])) x trivial hp i
  · rw [if_neg hm] at hp
    rw [if_neg (by simpa using hm)]
    exact shut_of (p := fun _ : Option Addr × Nat => True) (K := ScK l 45 tm0 asg body .ready none b11 b7 most (dn ++ [e])) x trivial hp i

/-- The first keys from one on. -/
theorem feed_take (most : Int) (h : 1 ≤ most) : ∀ (es dn : List Ent), (dn.length : Int) < most → feed (fun l => decide ((l.length : Int) = most)) dn es = if dn.length + es.length < most then (dn ++ es, false) else (dn ++ es.take (most.toNat - dn.length), true)
  | [], dn, hl => by
    rw [if_pos (by simpa using hl)]; simp [feed]
  | e :: es, dn, hl => by
    simp only [feed, List.length_append, List.length_cons, List.length_nil, Nat.zero_add]
    by_cases q : ((dn.length + 1 : Nat) : Int) = most
    · rw [if_pos (by simpa using q), if_neg (by omega)]
      have : most.toNat - dn.length = 1 := by omega
      rw [this]; simp
    · rw [if_neg (by simpa using q), feed_take most h es (dn ++ [e]) (by simp; omega)]
      simp only [List.length_append, List.length_cons, List.length_nil, Nat.zero_add]
      by_cases q2 : ((dn.length + 1 : Nat) : Int) + (es.length : Nat) < most
      · rw [if_pos (by omega), if_pos (by omega)]; simp
      · rw [if_neg (by omega), if_neg (by omega)]
        have : most.toNat - dn.length = (most.toNat - (dn.length + 1)) + 1 := by omega
        rw [this, List.take_succ_cons]; simp

/-- What Scan has behind its loop. -/
def ScF (bw b11 b7 b1 b2 b3 sb db x : Nat) (root most : Int) (S : Sh) (D : Dk) (es : List Ent) (K' : List SProp) : Prop :=
  ∃ (p : Option Addr) (cap : Nat) (rd : Int), K' = [cl b11 50 [.slice p es.length cap], vec 199 2 p es.length cap (entC es), cl b7 3 [.int .i64 most], Wk bw sb rd 0, Store sb db S, Disk db D, cl b1 169 [.pointer (some ⟨bw, 0, none⟩)], cl b2 3 [.int .i64 root], cl b3 30 [.int .u64 x]]
theorem scan_hs (bw b11 b7 b1 b2 b3 sb db x N : Nat) (root most : Int) (U : List Int) (T : List Ent) (S : Sh) (D : Dk) (k : Fine N S D U) {h : Nat} {ps : List Int} (o : OnP (Gd N D) h root ⟨T, ps⟩) (hp : ps.length + 2 ≤ N) (hT : T.length < 10000) (hmo : 1 ≤ most) (l : Nat)
    (tm0 : List (Nat × Value)) (asg body : Code) (w11 : tget tm0 11 = some (.pointer (some ⟨b11, 0, none⟩))) (w7 : tget tm0 7 = some (.pointer (some ⟨b7, 0, none⟩)))
    (hA : asg = rfA (nav [1, 1, 1, 1, 0, 1, 2] (bdy Tryz.f71))) (hB : body = rfB (nav [1, 1, 1, 1, 0, 1, 2] (bdy Tryz.f71))) :
    Does Tryz.prog 163 [.func (.yield l) #[] #[], .pointer (some ⟨b1, 0, none⟩), .pointer (some ⟨b2, 0, none⟩), .pointer (some ⟨b3, 0, none⟩)]
      [lp l 45 tm0 #[26] asg body .ready none, cl b11 50 [.slice none 0 0], vec 199 2 none 0 0 [], cl b7 3 [.int .i64 most], Wk bw sb 0 0, Store sb db S, Disk db D, cl b1 169 [.pointer (some ⟨bw, 0, none⟩)], cl b2 3 [.int .i64 root], cl b3 30 [.int .u64 x]]
      (fun _ H' => (∃ K', H' = lp l 45 tm0 #[26] asg body .ready none :: K' ∧ ScF bw b11 b7 b1 b2 b3 sb db x root most S D ((geE T x).take most.toNat) K') ∨ ∃ c K', H' = lp l 45 tm0 #[26] asg body .done (some c) :: K' ∧ c = .exit 0 ∧ ScF bw b11 b7 b1 b2 b3 sb db x root most S D ((geE T x).take most.toNat) K') := by
  have hN := k.n
  have hh := o.high
  obtain ⟨d, ps1, g, hd, hne, hn, e⟩ := o
  dsimp only at e hn
  subst e
  simp only [List.length_cons] at hp hh
  have h8 := high_le hh (by omega)
  have hf := from_does bw sb db x N l (fun dn => Sc l 45 tm0 asg body .ready none b11 b7 most dn) (fun dn => Sc l 45 tm0 asg body .done (some (.exit 0)) b11 b7 most dn) (fun l => decide ((l.length : Int) = most)) (fun dn e hdn => scan_yields l b11 b7 most tm0 asg body w11 w7 hA hB dn e hdn) k h d T ps1 1 root 0 [] hn hd hne g (by omega) (by omega) (by omega) (by simp; omega)
  have hpre : ∀ {w0 : World} {F0 : Nat → Prop} {w : World}, Inv w0 F0 (lp l 45 tm0 #[26] asg body .ready none :: [cl b11 50 [.slice none 0 0], vec 199 2 none 0 0 [], cl b7 3 [.int .i64 most], Wk bw sb 0 0, Store sb db S, Disk db D, cl b1 169 [.pointer (some ⟨bw, 0, none⟩)], cl b2 3 [.int .i64 root], cl b3 30 [.int .u64 x]]) w → Inv w0 F0 (Sc l 45 tm0 asg body .ready none b11 b7 most [] :: [Wk bw sb 0 0, Store sb db S, Disk db D, cl b1 169 [.pointer (some ⟨bw, 0, none⟩)], cl b2 3 [.int .i64 root], cl b3 30 [.int .u64 x]]) w := fun i =>
    Inv.shuts (K := ScK l 45 tm0 asg body .ready none b11 b7 most [] (none, 0)) (hid_shuts (p := fun _ : Option Addr × Nat => True) (K := ScK l 45 tm0 asg body .ready none b11 b7 most []) (none, 0) trivial) i
  have hft := feed_take most hmo (geE T x) [] (by simp; omega)
  by_cases hlt : ((geE T x).length : Int) < most
  · have e : (geE T x).take most.toNat = geE T x := List.take_of_length_le (by omega)
    rw [if_pos (by simpa using hlt), List.nil_append] at hft
    rw [hft] at hf
    refine does_pre (does_post (entriesF_does bw b1 b2 b3 sb db l root x S D [] _ _ hf) ?_) hpre
    rintro v H1 ⟨u, K', ⟨rd, r1, r2, rfl, rfl⟩, rfl⟩ w0 F0 w i
    rw [e]
    obtain ⟨⟨p, cap⟩, _, i2⟩ := Inv.opens (H := [Wk bw sb rd 0, Store sb db S, Disk db D, cl b1 169 [.pointer (some ⟨bw, 0, none⟩)], cl b2 3 [.int .i64 root], cl b3 30 [.int .u64 x]]) (hid_opens (p := fun _ : Option Addr × Nat => True) (K := ScK l 45 tm0 asg body .ready none b11 b7 most (geE T x))) i
    exact ⟨lp l 45 tm0 #[26] asg body .ready none :: _, .inl ⟨_, rfl, p, cap, rd, rfl⟩, i2⟩
  · rw [if_neg (by simpa using hlt), List.nil_append, List.length_nil, Nat.sub_zero] at hft
    rw [hft] at hf
    refine does_pre (does_post (entriesF_does bw b1 b2 b3 sb db l root x S D [] _ _ hf) ?_) hpre
    rintro v H1 ⟨u, K', ⟨rd, r1, r2, rfl, rfl⟩, rfl⟩ w0 F0 w i
    obtain ⟨⟨p, cap⟩, _, i2⟩ := Inv.opens (H := [Wk bw sb rd 0, Store sb db S, Disk db D, cl b1 169 [.pointer (some ⟨bw, 0, none⟩)], cl b2 3 [.int .i64 root], cl b3 30 [.int .u64 x]]) (hid_opens (p := fun _ : Option Addr × Nat => True) (K := ScK l 45 tm0 asg body .done (some (.exit 0)) b11 b7 most ((geE T x).take most.toNat))) i
    exact ⟨lp l 45 tm0 #[26] asg body .done (some (.exit 0)) :: _, .inr ⟨_, _, rfl, rfl, p, cap, rd, rfl⟩, i2⟩
/-- A tree, whatever else there is on the disk. -/
def OldTree (N : Nat) (D : Dk) (root : Int) (T : List Ent) : Prop := (root = 0 ∧ T = []) ∨ ∃ h ps, OnP (Gd N D) h root ⟨T, ps⟩ ∧ ps.length + 2 ≤ N
theorem Fine.afterFew {N : Nat} {S : Sh} {D : Dk} {U : List Int} (k : Fine N S D U) : (S.after U).length + 2 ≤ N := by
  have hN := k.n
  have hal := nodup_sub (A := S.after U) (B := (List.range' 2 (N - 2)).map (fun n : Nat => (n : Int))) k.afterNodup (by
    intro a ha
    have ha2 : 2 ≤ a ∧ a < N := by
      rcases (Sh.mem_after.1 ha).1 with h | h
      · have := k.h.b a h; omega
      · have := k.f.2 a h; omega
    exact List.mem_map.2 ⟨a.toNat, List.mem_range'_1.2 (by omega), by omega⟩)
  simp only [List.length_map, List.length_range'] at hal
  omega
theorem IsTree.old {N : Nat} {S : Sh} {D : Dk} {U : List Int} {root : Int} {T : List Ent} (ht : IsTree N S D U root T) (k : Fine N S D U) : OldTree N D root T := by
  rcases ht with ⟨h1, h2, _⟩ | ⟨h, ps, o, hp⟩
  · exact .inl ⟨h1, h2⟩
  · exact .inr ⟨h, ps, o, by have := hp.length_eq; have := k.afterFew; omega⟩
set_option maxHeartbeats 4000000 in
theorem scan_old (sb db x N : Nat) (root most : Int) (U : List Int) (T : List Ent) (S : Sh) (D : Dk) (k : Fine N S D U) (ht : OldTree N D root T) (hT : T.length < 10000) (hm64 : -9223372036854775808 ≤ most ∧ most < 9223372036854775808) :
    Does Tryz.prog 71 [.pointer (some ⟨sb, 0, none⟩), .int .i64 root, .int .u64 x, .int .i64 most] [Store sb db S, Disk db D]
      (fun v H => ∃ p cap, v = .tuple #[.slice p ((geE T x).take most.toNat).length cap, .int .i64 0] ∧ H = [vec 199 2 p ((geE T x).take most.toNat).length cap (entC ((geE T x).take most.toNat)), Store sb db S, Disk db D]) := by
  have hnil : root = 0 → T = [] := by
    rintro rfl
    rcases ht with ⟨_, h⟩ | ⟨h, ps, ⟨d, ps1, g, _⟩, _⟩
    · exact h
    · have := g.1; omega
  refine does_of_m Tryz.func71 Tryz.ntmps71 rfl rfl rfl (fun w0 F0 => ?_)
  (repeat' (first | refine g_seq (h := ?_) | refine g_region (h := ?_) | refine l_nil (h := ?_) | refine n_then (h := ?_) | refine l_pures1 (h := ?_) | refine l_guard_yes (h := ?_) | refine l_guard_no (h := ?_) | refine l_load (h := ?_) | (refine l_box (h := ?_); intro _) | (refine l_alloc (h := ?_); intro _) | refine g_skip (h := ?_) | refine g_ret (h := ?_) | refine n_then_ret (h := ?_) | refine g_cond_t (h := ?_) | (refine l_sp (h1 := ?_) (h0 := ?_) <;> intro h) | (refine g_sp (h1 := ?_) (h0 := ?_) <;> intro h)))
  · refine n_inv (fun i => vec_nil (199) (2) i) ?_
    have e : (geE T x).take most.toNat = [] := by rw [hnil (by assumption)]; simp [geE]
    rw [e]
    refine r_retm [vec 199 2 none 0 0 [], Store sb db S, Disk db D] ?_
    exact ⟨none, 0, rfl, rfl⟩
  · refine n_inv (fun i => vec_nil (199) (2) i) ?_
    have e : (geE T x).take most.toNat = [] := by rw [show most.toNat = 0 by omega]; rfl
    rw [e]
    refine r_retm [vec 199 2 none 0 0 [], Store sb db S, Disk db D] ?_
    exact ⟨none, 0, rfl, rfl⟩
  · rename_i b7 hr0 bw b11
    refine l_inv (H' := [cl b11 50 [.slice none 0 0], Wk bw sb 0 0, cl b7 3 [.int .i64 most], Store sb db S, Disk db D]) (fun i => i) ?_
    (repeat (first | refine l_nil (h := ?_) | refine n_then (h := ?_) | (refine l_atc ?_; refine l_call_ (entries_does bw root x) ?_; rintro _ _ _ ⟨b1, b2, b3, rfl, rfl⟩ he; cases he) | refine g_block (h := ?_)))
    refine g_inv (fun i => vec_nil (199) (2) i) ?_
    rcases ht with ⟨q, _⟩ | ⟨h0, ps, o, hp⟩
    · exact absurd q hr0
    refine g_rangeFunc (qn := ScF bw b11 b7 b1 b2 b3 sb db x root most S D ((geE T x).take most.toNat)) (qx := fun c K' => c = .exit 0 ∧ ScF bw b11 b7 b1 b2 b3 sb db x root most S D ((geE T x).take most.toNat) K') (K := [cl b11 50 [.slice none 0 0], vec 199 2 none 0 0 [], cl b7 3 [.int .i64 most], Wk bw sb 0 0, Store sb db S, Disk db D, cl b1 169 [.pointer (some ⟨bw, 0, none⟩)], cl b2 3 [.int .i64 root], cl b3 30 [.int .u64 x]]) ?_ ?_ ?_
    · intro l
      exact scan_hs bw b11 b7 b1 b2 b3 sb db x N root most U T S D k o hp hT (by omega) l _ _ _ rfl rfl (by rfl) (by rfl)
    · rintro D0 K' ⟨p, cap, rd, rfl⟩
      dsimp only [List.cons_append, List.nil_append]
      (repeat' (first | refine g_seq (h := ?_) | refine g_region (h := ?_) | refine l_nil (h := ?_) | refine n_then (h := ?_) | refine l_pures1 (h := ?_) | refine l_load (h := ?_) | refine g_skip (h := ?_) | refine g_ret (h := ?_) | refine n_block (h := ?_) | refine g_cond_f (h := ?_)))
      refine r_retM [vec 199 2 p ((geE T x).take most.toNat).length cap (entC ((geE T x).take most.toNat)), Store sb db S, Disk db D] ?_
      exact ⟨p, cap, rfl, rfl⟩
    · rintro D0 c K' ⟨rfl, p, cap, rd, rfl⟩
      dsimp only [List.cons_append, List.nil_append]
      (repeat' (first | refine g_seq (h := ?_) | refine g_region (h := ?_) | refine l_nil (h := ?_) | refine n_then (h := ?_) | refine l_pures1 (h := ?_) | refine l_load (h := ?_) | refine g_skip (h := ?_) | refine g_ret (h := ?_) | refine g_exit (h := ?_) | refine n_block_hit (h := ?_) | refine g_cond_f (h := ?_)))
      refine r_retM [vec 199 2 p ((geE T x).take most.toNat).length cap (entC ((geE T x).take most.toNat)), Store sb db S, Disk db D] ?_
      exact ⟨p, cap, rfl, rfl⟩
theorem scan_tree (sb db x N : Nat) (root most : Int) (U : List Int) (T : List Ent) (S : Sh) (D : Dk) (k : Fine N S D U) (ht : IsTree N S D U root T) (hT : T.length < 10000) (hm64 : -9223372036854775808 ≤ most ∧ most < 9223372036854775808) :
    Does Tryz.prog 71 [.pointer (some ⟨sb, 0, none⟩), .int .i64 root, .int .u64 x, .int .i64 most] [Store sb db S, Disk db D]
      (fun v H => ∃ p cap, v = .tuple #[.slice p ((geE T x).take most.toNat).length cap, .int .i64 0] ∧ H = [vec 199 2 p ((geE T x).take most.toNat).length cap (entC ((geE T x).take most.toNat)), Store sb db S, Disk db D]) :=
  scan_old sb db x N root most U T S D k (ht.old k) hT hm64
end Go.Proofs.YtmfmommgooccnaaGreat
/- Package tree: even. -/
set_option maxRecDepth 20000
set_option linter.unusedVariables false
set_option linter.unusedSimpArgs false
namespace Go.Proofs.YtmfmommgooccnaaGreat
open Go.Proofs.YtmfmommgooccnaaGreat.SL
end Go.Proofs.YtmfmommgooccnaaGreat
/- Package tree: even, two nodes joined, or dealt anew. -/
set_option maxRecDepth 20000
set_option linter.unusedVariables false
set_option linter.unusedSimpArgs false
namespace Go.Proofs.YtmfmommgooccnaaGreat
open Go.Proofs.YtmfmommgooccnaaGreat.SL
end Go.Proofs.YtmfmommgooccnaaGreat
/- Delete, plainly: a node in hand and its neighbour. No code. -/
set_option maxRecDepth 20000
set_option linter.unusedVariables false
set_option linter.unusedSimpArgs false
namespace Go.Proofs.YtmfmommgooccnaaGreat
open Go.Proofs.YtmfmommgooccnaaGreat.SL

def LinkTo : List Spot → Int → Prop
  | [], _ => True
  | s :: up, pg => s.d.kids.getD s.i 0 = pg ∧ LinkTo up s.pg
/-- A node in hand that may be low, or have nothing. -/
structure HandD (N : Nat) (U : List Int) (T : List Ent) (S : Sh) (D : Dk) (up : List Spot) (pg : Int) (n : Nd) (h : Nat) (Lf Rt es : List Ent) (ps qs : List Int) : Prop where
  fine : Fine N S D U
  way : Way (Gd N D) up h Lf Rt qs
  nt : NT (Gd N D) h n es ps
  pages : (pg :: (ps ++ qs)).Perm (S.after U)
  fit : ∀ e ∈ es, FitsP up e.1
  all : Lf ++ (es ++ Rt) = T
  size : n.size ≤ 240
  link : LinkTo up pg
end Go.Proofs.YtmfmommgooccnaaGreat
/- Package tree: a round of Delete. -/
set_option maxRecDepth 20000
set_option linter.unusedVariables false
set_option linter.unusedSimpArgs false
namespace Go.Proofs.YtmfmommgooccnaaGreat
open Go.Proofs.YtmfmommgooccnaaGreat.SL

theorem HandD.lay {N : Nat} {U : List Int} {T : List Ent} {S : Sh} {D : Dk} {s : Spot} {up : List Spot} {pg : Int} {n : Nd} {h : Nat} {Lf Rt es : List Ent} {ps qs : List Int} (k : HandD N U T S D (s :: up) pg n h Lf Rt es ps qs) (hz : 80 ≤ n.size) (room : U.length + S.fresh.length + 2 < N) :
    ∃ (m : Int) (S' : Sh) (D' : Dk) (Lf' Rt' es' : List Ent) (ps' qs' : List Int),
      (∀ b sb db read r, Does Tryz.prog 114 [.pointer (some ⟨b, 0, none⟩), .int .i64 pg, ndV n r] [Wk b sb read 0, Store sb db S, Disk db D, Nds n r] (fun v H => v = .int .i64 m ∧ H = [Wk b sb read 0, Store sb db S', Disk db D', Nds n r])) ∧
      HandD N U T S' D' up s.pg { s.d with kids := s.d.kids.set s.i m } (h + 1) Lf' Rt' es' ps' qs' ∧ S'.fresh.length ≤ S.fresh.length + 1 ∧ S'.gen = S.gen ∧ Same U S D S' D' := by
  have hne : n.keys ≠ [] := by
    intro e
    have hp := k.nt.plain
    cases hl : n.leaf
    · have : n.size = 1 + 2 * n.kids.length := by simp [Nd.size, hl, e]
      have := kidsLen hp hl
      rw [e] at this
      simp at this
      omega
    · have hv := valsLen hp hl
      rw [e] at hv
      have hv2 : n.vals = [] := List.length_eq_zero_iff.1 (by simpa using hv)
      have : n.size = 1 := by simp [Nd.size, hl, e, hv2, sumL]
      omega
  have hgood : n.good := ⟨k.nt.plain, fun _ => List.length_pos_iff.2 hne, k.size⟩
  obtain ⟨m, S', D', c1, c2, c3, c4, c5, c6, c7, c8, c9, c10⟩ := lay_ok k.fine k.pages room hgood
  have K : Hand N U T S D (s :: up) pg n h Lf Rt es ps qs := ⟨k.fine, k.way, k.nt, k.pages, k.fit, k.all, hne⟩
  obtain ⟨Lf', Rt', es', ps', qs', k', v1, v2, v3⟩ := Hand.up K k.size c2 c3 c4 c6
  have hsz : Nd.size { s.d with kids := s.d.kids.set s.i m } = s.d.size := by simp only [Nd.size, List.length_set]
  exact ⟨m, S', D', Lf', Rt', es', ps', qs', c1, ⟨k'.fine, k'.way, k'.nt, k'.pages, k'.fit, k'.all, by rw [hsz]; exact v1.size, k.link.2⟩, c8, c9, c10⟩
end Go.Proofs.YtmfmommgooccnaaGreat
/- Package tree: Delete, behind its loop. -/
set_option maxRecDepth 20000
set_option linter.unusedVariables false
set_option linter.unusedSimpArgs false
namespace Go.Proofs.YtmfmommgooccnaaGreat
open Go.Proofs.YtmfmommgooccnaaGreat.SL
end Go.Proofs.YtmfmommgooccnaaGreat
/- Package tree: a round of Delete's loop. -/
set_option maxRecDepth 20000
set_option linter.unusedVariables false
set_option linter.unusedSimpArgs false
namespace Go.Proofs.YtmfmommgooccnaaGreat
open Go.Proofs.YtmfmommgooccnaaGreat.SL
end Go.Proofs.YtmfmommgooccnaaGreat
/- Package tree: the loop of Delete. -/
set_option maxRecDepth 20000
set_option linter.unusedVariables false
set_option linter.unusedSimpArgs false
namespace Go.Proofs.YtmfmommgooccnaaGreat
open Go.Proofs.YtmfmommgooccnaaGreat.SL

structure DelSt where
  L : List Sp
  ab : Option Sp
  b16 : Nat
  xs : Sp
  n : Nd
  rn : Rw
  S : Sh
  D : Dk
  rd : Int
def abL (ab : Option Sp) : List Sp := match ab with
  | some s => [s]
  | none => []
def abN (ab : Option Sp) : Nat := match ab with
  | some _ => 1
  | none => 0
/-- What holds at each round of Delete. -/
def DelI (N : Nat) (U : List Int) (T : List Ent) (S0 : Sh) (D0 : Dk) (y : DelSt) : Prop :=
  ∃ h Lf Rt es ps qs, HandD N U T y.S y.D ((abL y.ab).map Sp.spot ++ (y.L.map Sp.spot).reverse) y.xs.pg y.n h Lf Rt es ps qs ∧ (y.ab = none → y.L = []) ∧ U.length + y.S.fresh.length + 2 * (y.L.length + abN y.ab) + 5 < N ∧ y.L.length ≤ 8 ∧ 0 ≤ y.rd ∧ y.rd + y.L.length + abN y.ab < 640 ∧ y.S.gen = S0.gen ∧ Same U S0 D0 y.S y.D

theorem abL_len (ab : Option Sp) : (abL ab).length = abN ab := by cases ab <;> rfl
theorem DelI.next {N : Nat} {U : List Int} {T : List Ent} {S0 S' : Sh} {D0 D' : Dk} {L' : List Sp} {ab : Option Sp} {b17 : Nat} {s : Sp} {n' : Nd} {r : Rw} {rd : Int} {h : Nat} {Lf Rt es : List Ent} {ps qs : List Int}
    (k : HandD N U T S' D' ((L' ++ abL ab).map Sp.spot).reverse s.pg n' h Lf Rt es ps qs) (hab : ab = none → L' = []) (room : U.length + S'.fresh.length + 2 * (L' ++ abL ab).length + 5 < N) (hL : (L' ++ abL ab).length ≤ 8) (h1 : 0 ≤ rd) (h2 : rd + ((L' ++ abL ab).length : Nat) < 640) (hg : S'.gen = S0.gen) (hr : Same U S0 D0 S' D') :
    DelI N U T S0 D0 ⟨L', ab, b17, s, n', r, S', D', rd⟩ := by
  have hl := abL_len ab
  rw [List.length_append, hl] at room hL h2
  refine ⟨h, Lf, Rt, es, ps, qs, ?_, hab, room, by show L'.length ≤ 8; omega, h1, by show rd + (L'.length : Int) + (abN ab : Int) < 640; omega, hg, hr⟩
  have e : ((L' ++ abL ab).map Sp.spot).reverse = (abL ab).map Sp.spot ++ (L'.map Sp.spot).reverse := by
    rw [List.map_append, List.reverse_append]
    cases ab <;> rfl
  rw [e] at k
  exact k
end Go.Proofs.YtmfmommgooccnaaGreat
/- Package tree: Delete, whole. -/
set_option maxRecDepth 20000
set_option linter.unusedVariables false
set_option linter.unusedSimpArgs false
namespace Go.Proofs.YtmfmommgooccnaaGreat
open Go.Proofs.YtmfmommgooccnaaGreat.SL
end Go.Proofs.YtmfmommgooccnaaGreat
/- Trees that are committed, moved, rolled back: plain facts. -/
set_option maxRecDepth 20000
set_option linter.unusedVariables false
set_option linter.unusedSimpArgs false
namespace Go.Proofs.YtmfmommgooccnaaGreat
open Go.Proofs.YtmfmommgooccnaaGreat.SL

theorem after_clean {S : Sh} {U : List Int} (h1 : S.fresh = []) (h2 : S.given = []) : S.after U = U := by simp [Sh.after, h1, h2]
theorem after_roll {S : Sh} {U : List Int} : S.roll.after U = U := after_clean rfl rfl
/-- A tree whose pages are as they were. -/
theorem IsTree.move {N : Nat} {S S' : Sh} {D D' : Dk} {U U' : List Int} {root : Int} {T : List Ent} (h : IsTree N S D U root T) (he : S'.after U' = S.after U) (hk : ∀ p ∈ S.after U, D'.pg p = D.pg p) : IsTree N S' D' U' root T := by
  rcases h with ⟨a, b, c⟩ | ⟨h, ps, o, hp⟩
  · exact .inl ⟨a, b, by rw [he]; exact c⟩
  · exact .inr ⟨h, ps, o.same (fun p q d g => g.keep (hk p (hp.mem_iff.1 q))), by rw [he]; exact hp⟩
/-- Behind a Rollback there is what was committed. -/
theorem Tr.back {N : Nat} {S0 S : Sh} {D0 D : Dk} {U : List Int} {root : Int} {T : List Ent} {m : Nat} (k : Tr N S0 D0 U root T m) (he : S0.after U = U) (f : Fine N S D U) (s : Same U S0 D0 S D) : Tr N S.roll D U root T m :=
  ⟨f.roll, k.tree.move (by rw [he, after_roll]) (by rw [he]; exact s.2), k.len⟩
end Go.Proofs.YtmfmommgooccnaaGreat
/- Transactions, as the laws keep them: a tree over what was committed. -/
set_option maxRecDepth 20000
set_option linter.unusedVariables false
set_option linter.unusedSimpArgs false
namespace Go.Proofs.YtmfmommgooccnaaGreat
open Go.Proofs.YtmfmommgooccnaaGreat.SL

/-- Where a transaction is: its block, its store's, its disk's; how many sectors; the pages that count, the generation and the tree that were committed. -/
structure TxP where
  t : Nat
  sb : Nat
  db : Nat
  N : Nat
  U : List Int
  g : Int
  T0 : List Ent
/-- A store between commits: what is committed is the tree T0. -/
structure StI (P : TxP) (y : Sh × Dk) : Prop where
  fine : Fine P.N y.1 y.2 P.U
  gen : y.1.gen = P.g
  old : IsTree P.N y.1.roll y.2 P.U y.1.root P.T0
def StK (P : TxP) (y : Sh × Dk) : List SProp := [Store P.sb P.db y.1, Disk P.db y.2]
/-- A store at rest. -/
def St (P : TxP) : SProp := hid (StI P) (StK P)
/-- A transaction has the tree T. -/
structure TxI (P : TxP) (T : List Ent) (y : Int × Sh × Dk) : Prop where
  st : StI P y.2
  tree : IsTree P.N y.2.1 y.2.2 P.U y.1 T
def TxK (P : TxP) (T : List Ent) (y : Int × Sh × Dk) : List SProp := [cl P.t 107 [.pointer (some ⟨P.sb, 0, none⟩), .int .i64 y.1, .int .i64 0, .bool false], Store P.sb P.db y.2.1, Disk P.db y.2.2]
/-- A transaction that is under way, without an error. -/
def Tx (P : TxP) (T : List Ent) : SProp := hid (TxI P T) (TxK P T)

theorem StI.same {P : TxP} {S S' : Sh} {D D' : Dk} (k : StI P (S, D)) (f : Fine P.N S' D' P.U) (hg : S'.gen = S.gen) (s : Same P.U S D S' D') : StI P (S', D') :=
  ⟨f, hg.trans k.gen, by
    have h := k.old
    dsimp only at h ⊢
    rw [s.1]
    exact h.move (by rw [after_roll, after_roll]) (by rw [after_roll]; exact s.2)⟩
theorem TxI.put {P : TxP} {T T' : List Ent} {r r' : Int} {S S' : Sh} {D D' : Dk} (k : TxI P T (r, S, D)) (f : Fine P.N S' D' P.U) (t : IsTree P.N S' D' P.U r' T') (hg : S'.gen = S.gen) (s : Same P.U S D S' D') : TxI P T' (r', S', D') := ⟨k.st.same f hg s, t⟩
theorem StI.pages {P : TxP} {y : Sh × Dk} (k : StI P y) : P.U.length ≤ 2 * P.T0.length := by
  have h := k.old.few
  rw [after_roll] at h
  exact h
/-- Is there room for one more round? -/
def TxP.room (P : TxP) (T : List Ent) : Prop := P.U.length + 2 * T.length + 25 < P.N
theorem TxI.roomy {P : TxP} {T : List Ent} {r : Int} {S : Sh} {D : Dk} (k : TxI P T (r, S, D)) (h : P.room T) : P.U.length + S.fresh.length + 25 < P.N := by
  have h1 := k.tree.few
  have h2 := k.st.fine.fresh_le
  dsimp only at h1 h2
  unfold TxP.room at h
  omega
/-- What Get gives. -/
def optV (o : Option (List UInt8)) : Value := .tuple #[.string (str (o.getD [])), .bool o.isSome]
end Go.Proofs.YtmfmommgooccnaaGreat
/- The laws' entries: two lists that are the same. -/
set_option maxRecDepth 20000
set_option linter.unusedVariables false
set_option linter.unusedSimpArgs false
namespace Go.Proofs.YtmfmommgooccnaaGreat
open Go.Proofs.YtmfmommgooccnaaGreat.SL

theorem entC_get0 : ∀ {l : List Ent} {j : Nat}, j < l.length → (entC l)[j * 2]? = some (.int .u64 ((l.getD j (0, [])).1 : Nat))
  | [], j, h => by simp at h
  | e :: l, 0, _ => rfl
  | e :: l, j + 1, h => by
    have ih := entC_get0 (l := l) (j := j) (by simpa using h)
    have : (j + 1) * 2 = j * 2 + 1 + 1 := by omega
    rw [this]
    exact ih
theorem entC_cut : ∀ {l : List Ent} {j : Nat}, j < l.length → ((entC l).drop (j * 2)).take 2 = [.int .u64 ((l.getD j (0, [])).1 : Nat), .string (str (l.getD j (0, [])).2)]
  | [], j, h => by simp at h
  | e :: l, 0, _ => rfl
  | e :: l, j + 1, h => by
    have ih := entC_cut (l := l) (j := j) (by simpa using h)
    have : (j + 1) * 2 = j * 2 + 1 + 1 := by omega
    rw [this]
    exact ih
theorem part_ent {l : List Ent} {j : Nat} (h : j < l.length) : partV env 199 (entC l) (0 + ((j : Nat) : Int).toNat * 2) = some (entV (l.getD j (0, []))) := by
  have e : 0 + ((j : Nat) : Int).toNat * 2 = j * 2 := by rw [Int.toNat_natCast, Nat.zero_add]
  have hc : cutL (entC l) (j * 2) 2 = some [.int .u64 ((l.getD j (0, [])).1 : Nat), .string (str (l.getD j (0, [])).2)] := by
    rw [cutL_of (by rw [entC_len]; omega), entC_cut h]
  rw [e]
  show (match cutL (entC l) (j * 2) 2 with
        | some r => some (Value.agg r.toArray)
        | none => none) = _
  rw [hc]
end Go.Proofs.YtmfmommgooccnaaGreat
/- TreeOrders. -/
set_option maxRecDepth 20000
set_option linter.unusedVariables false
set_option linter.unusedSimpArgs false
namespace Go.Proofs.YtmfmommgooccnaaGreat
open Go.Proofs.YtmfmommgooccnaaGreat.SL

/-- Which keys there are. -/
def Keyed (T : List Ent) (f : Nat → Nat) (j : Nat) : Prop := ∀ x, (getE T x).isSome = true ↔ ∃ i, i < j ∧ f i = x
theorem Keyed.put {T : List Ent} {f : Nat → Nat} {j : Nat} (h : Keyed T f j) (v : List UInt8) : Keyed (putE T (f j) v) f (j + 1) := by
  intro x
  rw [getE_put]
  constructor
  · intro q
    by_cases e : x = f j
    · exact ⟨j, by omega, e.symm⟩
    · rw [if_neg e] at q
      obtain ⟨i, h1, h2⟩ := (h x).1 q
      exact ⟨i, by omega, h2⟩
  · rintro ⟨i, h1, rfl⟩
    by_cases e : f i = f j
    · rw [if_pos e]; rfl
    · rw [if_neg e]
      have : i ≠ j := fun q => e (by rw [q])
      exact (h _).2 ⟨i, by omega, rfl⟩
end Go.Proofs.YtmfmommgooccnaaGreat
/- Caps and principals in a tree: plain facts. -/
set_option maxRecDepth 20000
set_option linter.unusedVariables false
set_option linter.unusedSimpArgs false
namespace Go.Proofs.YtmfmommgooccnaaGreat
open Go.Proofs.YtmfmommgooccnaaGreat.SL

/-- A principal. -/
structure Ow where
  name : List UInt8
  limit : Nat
  hav : Nat
def Ow.text (o : Ow) : List UInt8 := putN o.limit 2 ++ (putN o.hav 2 ++ (UInt8.ofNat o.name.length :: o.name))
/-- A cap; the last part tells whether its lease is there. -/
structure Cp where
  parent : Nat
  object : Nat
  owner : Nat
  rights : Nat
  badge : Nat
  depth : Nat
  expiry : Nat
  cut : Nat
  rev : Bool
  due : Bool
def b2n (b : Bool) : Nat := if b then 1 else 0
def Cp.text (c : Cp) : List UInt8 := putN c.parent 3 ++ (putN c.object 3 ++ (putN c.owner 3 ++ (putN c.rights 2 ++ (putN c.badge 4 ++ (putN c.depth 1 ++ (putN c.expiry 4 ++ (putN c.cut 3 ++ putN (b2n c.rev) 1)))))))
structure Cp.ok (n : Nat) (c : Cp) : Prop where
  id : 1 ≤ n ∧ n ≤ 16777215
  parent : c.parent ≤ 16777215
  other : c.parent ≠ n
  object : 1 ≤ c.object ∧ c.object ≤ 16777215
  owner : 1 ≤ c.owner ∧ c.owner ≤ 16777215
  rights : c.rights < 65536
  badge : c.badge < 4294967296
  depth : 1 ≤ c.depth ∧ c.depth ≤ 8
  expiry : c.expiry ≤ 268435455
  cut : c.cut ≤ 16777215
  root : c.depth = 1 ↔ c.parent = 0
theorem b2n_le (b : Bool) : b2n b ≤ 1 := by cases b <;> decide
theorem Cp.text_len (c : Cp) : c.text.length = 24 := by simp [Cp.text, putN_length]

/-- What there is. -/
structure CS where
  ow : List Ow
  cp : List (Option Cp)
def CS.capAt (s : CS) (n : Nat) : Option Cp := if n = 0 then none else (s.cp[n - 1]?).join
def CS.owAt (s : CS) (n : Nat) : Option Ow := if n = 0 then none else s.ow[n - 1]?
def numV (m : Nat) : Option (List UInt8) := if m = 0 then none else some (putN m 3)
def CS.kid (s : CS) (p n : Nat) : Bool := decide (p ≠ 0) && (s.capAt n).any fun c => decide (c.parent = p)
def CS.lease (s : CS) (at' n : Nat) : Bool := decide (at' ≠ 0) && (s.capAt n).any fun c => decide (c.expiry = at') && c.due
def CS.val (s : CS) (k a b : Nat) : Option (List UInt8) :=
  if k = 1 ∧ a = 0 then (s.capAt b).map Cp.text
  else if k = 2 ∧ s.kid a b = true then some []
  else if k = 3 ∧ a = 0 then (s.owAt b).map Ow.text
  else if k = 5 ∧ s.lease a b = true then some []
  else if k = 9 ∧ a = 0 ∧ b = 1 then numV s.cp.length
  else if k = 9 ∧ a = 0 ∧ b = 2 then numV s.ow.length
  else none
theorem capAt_lt {s : CS} {n : Nat} {c : Cp} (h : s.capAt n = some c) : 1 ≤ n ∧ n ≤ s.cp.length := by
  unfold CS.capAt at h
  split at h
  · cases h
  · refine ⟨by omega, ?_⟩
    rcases Nat.lt_or_ge (n - 1) s.cp.length with q | q
    · omega
    · rw [List.getElem?_eq_none q] at h; cases h
theorem owAt_lt {s : CS} {n : Nat} {o : Ow} (h : s.owAt n = some o) : 1 ≤ n ∧ n ≤ s.ow.length := by
  unfold CS.owAt at h
  split at h
  · cases h
  · refine ⟨by omega, ?_⟩
    rcases Nat.lt_or_ge (n - 1) s.ow.length with q | q
    · omega
    · rw [List.getElem?_eq_none q] at h; cases h

/-! A tree as a map of kinds and numbers -/
theorem kyN_inj {k a b k' a' b' : Nat} (ha : a ≤ 268435455) (hb : b < 4294967296) (ha' : a' ≤ 268435455) (hb' : b' < 4294967296) : kyN k a b = kyN k' a' b' ↔ k = k' ∧ a = a' ∧ b = b' := by
  unfold kyN
  constructor
  · intro h; omega
  · rintro ⟨rfl, rfl, rfl⟩; rfl
theorem kyN_split {x : Nat} (h : x < 18446744073709551616) : ∃ k a b, k < 16 ∧ a ≤ 268435455 ∧ b < 4294967296 ∧ x = kyN k a b :=
  ⟨x / 1152921504606846976, x / 4294967296 % 268435456, x % 4294967296, by omega, by omega, by omega, by unfold kyN; omega⟩
abbrev Vals := Nat → Nat → Nat → Option (List UInt8)
def Vals.upd (f : Vals) (k a b : Nat) (v : Option (List UInt8)) : Vals := fun k' a' b' => if k' = k ∧ a' = a ∧ b' = b then v else f k' a' b'
structure Rp (T : List Ent) (f : Vals) : Prop where
  ord : Ord T
  lt : ∀ e ∈ T, e.1 < 18446744073709551616
  val : ∀ k a b, k < 16 → a ≤ 268435455 → b < 4294967296 → getE T (kyN k a b) = f k a b
theorem mem_of_get {T : List Ent} {x : Nat} (h : (getE T x).isSome = true) : ∃ v, (x, v) ∈ T := by
  obtain ⟨v, hv⟩ := Option.isSome_iff_exists.1 h
  exact ⟨v, getE_mem hv⟩
theorem Rp.put {T : List Ent} {f : Vals} (r : Rp T f) {k a b : Nat} (hk : k < 16) (ha : a ≤ 268435455) (hb : b < 4294967296) (v : List UInt8) : Rp (putE T (kyN k a b) v) (f.upd k a b (some v)) where
  ord := putE_ord r.ord
  lt := fun e he => by
    have h := getE_of (putE_ord r.ord) (x := e.1) (v := e.2) he
    rw [getE_put] at h
    split at h
    · rename_i q; rw [q]; exact kyN_lt hk ha hb
    · exact r.lt _ (getE_mem h)
  val := fun k' a' b' h1 h2 h3 => by
    rw [getE_put]
    unfold Vals.upd
    have := kyN_inj (k := k') (k' := k) h2 h3 ha hb
    by_cases q : k' = k ∧ a' = a ∧ b' = b
    · rw [if_pos (this.2 q), if_pos q]
    · rw [if_neg (fun h => q (this.1 h)), if_neg q, r.val _ _ _ h1 h2 h3]
theorem ord_del {T : List Ent} (o : Ord T) (x : Nat) : Ord (delE T x) := List.Pairwise.filter _ o
theorem Rp.del {T : List Ent} {f : Vals} (r : Rp T f) {k a b : Nat} (hk : k < 16) (ha : a ≤ 268435455) (hb : b < 4294967296) : Rp (delE T (kyN k a b)) (f.upd k a b none) where
  ord := ord_del r.ord _
  lt := fun e he => r.lt e (List.mem_filter.1 he).1
  val := fun k' a' b' h1 h2 h3 => by
    rw [getE_del]
    unfold Vals.upd
    have := kyN_inj (k := k') (k' := k) h2 h3 ha hb
    by_cases q : k' = k ∧ a' = a ∧ b' = b
    · rw [if_pos (this.2 q), if_pos q]
    · rw [if_neg (fun h => q (this.1 h)), if_neg q, r.val _ _ _ h1 h2 h3]
theorem Rp.to {T : List Ent} {f g : Vals} (r : Rp T f) (h : ∀ k a b, k < 16 → a ≤ 268435455 → b < 4294967296 → f k a b = g k a b) : Rp T g :=
  ⟨r.ord, r.lt, fun k a b h1 h2 h3 => (r.val k a b h1 h2 h3).trans (h k a b h1 h2 h3)⟩
theorem Rp.nil : Rp [] (CS.val ⟨[], []⟩) where
  ord := List.Pairwise.nil
  lt := fun e he => by cases he
  val := fun k a b _ _ _ => by
    have h1 : ∀ n, CS.capAt ⟨[], []⟩ n = none := fun n => by unfold CS.capAt; split <;> simp
    have h2 : ∀ n, CS.owAt ⟨[], []⟩ n = none := fun n => by unfold CS.owAt; split <;> simp
    simp [CS.val, CS.kid, CS.lease, h1, h2, getE, numV]

/-- A tree has no more keys than these. -/
def CS.keys (s : CS) : List Int :=
  ((kyN 9 0 1 : Nat) : Int) :: ((kyN 9 0 2 : Nat) : Int) :: ((List.range s.ow.length).map (fun n => ((kyN 3 0 (n + 1) : Nat) : Int)) ++ ((List.range s.cp.length).map (fun n => ((kyN 1 0 (n + 1) : Nat) : Int))
    ++ ((List.range s.cp.length).map (fun n => ((kyN 2 (((s.capAt (n + 1)).map Cp.parent).getD 0) (n + 1) : Nat) : Int)) ++ (List.range s.cp.length).map (fun n => ((kyN 5 (((s.capAt (n + 1)).map Cp.expiry).getD 0) (n + 1) : Nat) : Int)))))
theorem CS.keys_len (s : CS) : s.keys.length = 2 + s.ow.length + 3 * s.cp.length := by simp [CS.keys]; omega
theorem val_keys {s : CS} {k a b : Nat} (h : (s.val k a b).isSome = true) : ((kyN k a b : Nat) : Int) ∈ s.keys := by
  unfold CS.val at h
  split at h
  · rename_i q
    obtain ⟨rfl, rfl⟩ := q
    rw [Option.isSome_map] at h
    obtain ⟨c, hc⟩ := Option.isSome_iff_exists.1 h
    have := capAt_lt hc
    refine List.mem_cons_of_mem _ (List.mem_cons_of_mem _ (List.mem_append_right _ (List.mem_append_left _ (List.mem_map.2 ⟨b - 1, List.mem_range.2 (by omega), ?_⟩))))
    rw [show b - 1 + 1 = b by omega]
  split at h
  · rename_i q
    obtain ⟨rfl, q⟩ := q
    simp only [CS.kid, Bool.and_eq_true, decide_eq_true_eq] at q
    obtain ⟨q1, q2⟩ := q
    obtain ⟨c, hc, hp⟩ := (Option.any_eq_true _ _).1 q2
    have := capAt_lt hc
    refine List.mem_cons_of_mem _ (List.mem_cons_of_mem _ (List.mem_append_right _ (List.mem_append_right _ (List.mem_append_left _ (List.mem_map.2 ⟨b - 1, List.mem_range.2 (by omega), ?_⟩)))))
    rw [show b - 1 + 1 = b by omega, hc]
    simp only [decide_eq_true_eq] at hp
    simp [hp]
  split at h
  · rename_i q
    obtain ⟨rfl, rfl⟩ := q
    rw [Option.isSome_map] at h
    obtain ⟨c, hc⟩ := Option.isSome_iff_exists.1 h
    have := owAt_lt hc
    refine List.mem_cons_of_mem _ (List.mem_cons_of_mem _ (List.mem_append_left _ (List.mem_map.2 ⟨b - 1, List.mem_range.2 (by omega), ?_⟩)))
    rw [show b - 1 + 1 = b by omega]
  split at h
  · rename_i q
    obtain ⟨rfl, q⟩ := q
    simp only [CS.lease, Bool.and_eq_true, decide_eq_true_eq] at q
    obtain ⟨q1, q2⟩ := q
    obtain ⟨c, hc, hp⟩ := (Option.any_eq_true _ _).1 q2
    have := capAt_lt hc
    refine List.mem_cons_of_mem _ (List.mem_cons_of_mem _ (List.mem_append_right _ (List.mem_append_right _ (List.mem_append_right _ (List.mem_map.2 ⟨b - 1, List.mem_range.2 (by omega), ?_⟩)))))
    rw [show b - 1 + 1 = b by omega, hc]
    simp only [Bool.and_eq_true, decide_eq_true_eq] at hp
    simp [hp.1]
  split at h
  · rename_i q
    obtain ⟨rfl, rfl, rfl⟩ := q
    exact List.mem_cons_self
  split at h
  · rename_i q
    obtain ⟨rfl, rfl, rfl⟩ := q
    exact List.mem_cons_of_mem _ List.mem_cons_self
  · cases h
theorem Rp.len {T : List Ent} {s : CS} (r : Rp T s.val) : T.length ≤ 2 + s.ow.length + 3 * s.cp.length := by
  have h := nodup_sub (A := T.map fun e => (e.1 : Int)) (B := s.keys) (by
    refine List.Pairwise.map _ (fun a b h => ?_) r.ord
    intro q
    have : a.1 = b.1 := by exact_mod_cast q
    omega) (fun a ha => by
    obtain ⟨e, he, rfl⟩ := List.mem_map.1 ha
    obtain ⟨k, a, b, h1, h2, h3, h4⟩ := kyN_split (r.lt e he)
    rw [h4]
    refine val_keys ?_
    rw [← r.val k a b h1 h2 h3, ← h4, getE_of r.ord (x := e.1) (v := e.2) he]
    rfl)
  rw [CS.keys_len] at h
  simpa using h

/-! The keys of a range -/
def rng (T : List Ent) (lo hi : Nat) : List Ent := (geE T lo).filter fun e => decide (e.1 < hi)
theorem ord_split : ∀ {L : List Ent} (o : Ord L) (c : Nat), L = (L.filter fun e => decide (e.1 < c)) ++ geE L c
  | [], _, _ => rfl
  | e :: L, o, c => by
    have o2 := List.pairwise_cons.1 o
    have ih := ord_split o2.2 c
    by_cases q : e.1 < c
    · have hn : ¬ c ≤ e.1 := by omega
      conv => lhs; rw [ih]
      simp [geE, List.filter_cons, q, hn]
    · have hn : c ≤ e.1 := by omega
      have h0 : (L.filter fun e => decide (e.1 < c)) = [] := List.filter_eq_nil_iff.2 fun a ha => by have := o2.1 a ha; simp; omega
      rw [h0, List.nil_append] at ih
      simp only [geE, List.filter_cons, q, hn, decide_false, decide_true, if_true, h0, List.nil_append]
      rw [if_neg (by simp), List.nil_append]
      congr 1
theorem geE_ord {T : List Ent} (o : Ord T) (x : Nat) : Ord (geE T x) := List.Pairwise.filter _ o
theorem rng_split {T : List Ent} (o : Ord T) {lo hi : Nat} (h : lo ≤ hi) : geE T lo = rng T lo hi ++ geE T hi := by
  conv => lhs; rw [ord_split (geE_ord o lo) hi]
  unfold rng
  congr 1
  unfold geE
  rw [List.filter_filter]
  refine List.filter_congr fun a _ => ?_
  simp; omega
theorem geE_next0 {T R : List Ent} (o : Ord T) {x j : Nat} (hR : R = geE T x) (h : j < R.length) : geE T (R[j].1 + 1) = R.drop (j + 1) := by
  have o2 : Ord R := hR ▸ geE_ord o x
  have hall : ∀ a ∈ R, x ≤ a.1 := fun a ha => by
    rw [hR] at ha
    simpa [geE] using (List.mem_filter.1 ha).2
  have hx := hall _ (List.getElem_mem h)
  have e1 : ∀ y, x ≤ y → geE T y = geE R y := by
    intro y hy
    rw [hR]
    unfold geE
    rw [List.filter_filter]
    refine List.filter_congr fun a _ => ?_
    simp
    intro q
    omega
  rw [e1 _ (by omega)]
  have e3 : geE R (R[j].1 + 1) = geE (R.take (j + 1)) (R[j].1 + 1) ++ geE (R.drop (j + 1)) (R[j].1 + 1) := by rw [← geE_append, List.take_append_drop]
  rw [e3]
  have o3 := List.pairwise_iff_getElem.1 o2
  have h1 : geE (R.take (j + 1)) (R[j].1 + 1) = [] := List.filter_eq_nil_iff.2 fun a ha => by
    obtain ⟨i, hi, rfl⟩ := List.mem_iff_getElem.1 ha
    rw [List.getElem_take]
    have hi2 : i < j + 1 := by rw [List.length_take] at hi; omega
    rcases Nat.lt_or_ge i j with q | q
    · have := o3 i j (by omega) h q
      simp; omega
    · obtain rfl : i = j := by omega
      simp
  have h2 : geE (R.drop (j + 1)) (R[j].1 + 1) = R.drop (j + 1) := List.filter_eq_self.2 fun a ha => by
    obtain ⟨i, hi, rfl⟩ := List.mem_iff_getElem.1 ha
    rw [List.getElem_drop]
    rw [List.length_drop] at hi
    have := o3 j (j + 1 + i) h (by omega) (by omega)
    simp; omega
  rw [h1, h2, List.nil_append]
theorem geE_next {T : List Ent} (o : Ord T) {x j : Nat} (h : j < (geE T x).length) : geE T ((geE T x)[j].1 + 1) = (geE T x).drop (j + 1) := geE_next0 o rfl h
/-- Where a scan goes on. -/
def goOn (T : List Ent) (lo j : Nat) : Nat := if j = 0 then lo else ((geE T lo).getD (j - 1) (0, [])).1 + 1
theorem goOn_ge {T : List Ent} (o : Ord T) {lo j : Nat} (h : j ≤ (geE T lo).length) : geE T (goOn T lo j) = (geE T lo).drop j := by
  unfold goOn
  split
  · rename_i q; subst q; rfl
  · have hj : j - 1 < (geE T lo).length := by omega
    have e := geE_next o hj
    rw [show j - 1 + 1 = j by omega] at e
    rw [List.getD, List.getElem?_eq_getElem hj]
    exact e
/-- Two lists that rise and have the same numbers are the same. -/
theorem riseN_ext : ∀ {a b : List Nat}, a.Pairwise (· < ·) → b.Pairwise (· < ·) → (∀ x, x ∈ a ↔ x ∈ b) → a = b
  | [], [], _, _, _ => rfl
  | [], y :: b, _, _, h => by have := (h y).2 (by simp); cases this
  | x :: a, [], _, _, h => by have := (h x).1 (by simp); cases this
  | x :: a, y :: b, p, q, h => by
    have p2 := List.pairwise_cons.1 p
    have q2 := List.pairwise_cons.1 q
    have hxy : x = y := by
      rcases List.mem_cons.1 ((h x).1 (by simp)) with e | e
      · exact e
      · rcases List.mem_cons.1 ((h y).2 (by simp)) with e2 | e2
        · exact e2.symm
        · have := q2.1 x e; have := p2.1 y e2; omega
    subst hxy
    congr 1
    refine riseN_ext p2.2 q2.2 fun z => ⟨fun hz => ?_, fun hz => ?_⟩
    · rcases List.mem_cons.1 ((h z).1 (List.mem_cons_of_mem _ hz)) with e | e
      · have := p2.1 z hz; omega
      · exact e
    · rcases List.mem_cons.1 ((h z).2 (List.mem_cons_of_mem _ hz)) with e | e
      · have := q2.1 z hz; omega
      · exact e
/-- The numbers of the keys of a kind and a first number. -/
def und (T : List Ent) (k a : Nat) : List Nat := (rng T (kyN k a 0) (kyN k a 0 + 4294967296)).map fun e => e.1 % 4294967296
theorem rng_mem {T : List Ent} {lo hi : Nat} {e : Ent} : e ∈ rng T lo hi ↔ e ∈ T ∧ lo ≤ e.1 ∧ e.1 < hi := by
  unfold rng geE
  rw [List.filter_filter, List.mem_filter]
  simp [and_comm]
theorem und_rise {T : List Ent} (o : Ord T) (k a : Nat) : (und T k a).Pairwise (· < ·) := by
  refine List.pairwise_map.2 (List.Pairwise.imp_of_mem ?_ (List.Pairwise.filter _ (geE_ord o _)))
  intro x y hx hy h
  have h1 := (rng_mem (T := T)).1 hx
  have h2 := (rng_mem (T := T)).1 hy
  unfold kyN at h1 h2
  omega
theorem und_mem {T : List Ent} (o : Ord T) {k a n : Nat} : n ∈ und T k a ↔ n < 4294967296 ∧ (getE T (kyN k a n)).isSome = true := by
  unfold und
  rw [List.mem_map]
  constructor
  · rintro ⟨e, he, rfl⟩
    obtain ⟨h1, h2, h3⟩ := rng_mem.1 he
    refine ⟨by omega, ?_⟩
    have e1 : kyN k a (e.1 % 4294967296) = e.1 := by unfold kyN at h2 h3 ⊢; omega
    rw [e1, getE_of o (x := e.1) (v := e.2) h1]
    rfl
  · rintro ⟨h1, h2⟩
    obtain ⟨v, hv⟩ := mem_of_get h2
    exact ⟨_, rng_mem.2 ⟨hv, by unfold kyN; omega, by unfold kyN; omega⟩, by unfold kyN; omega⟩
end Go.Proofs.YtmfmommgooccnaaGreat
/- Package rec: caps and principals as bytes. -/
set_option maxRecDepth 20000
set_option linter.unusedVariables false
set_option linter.unusedSimpArgs false
namespace Go.Proofs.YtmfmommgooccnaaGreat
open Go.Proofs.YtmfmommgooccnaaGreat.SL

instance mthCap : Mth Tryz.prog 220 "bailiwick/rec.right" 255 := Mth.of (by kernel_rfl)
instance mthOwner : Mth Tryz.prog 218 "bailiwick/rec.right" 254 := Mth.of (by kernel_rfl)
abbrev cpA (n : Nat) (c : Cp) : Array Value := #[.int .i64 n, .int .i64 c.parent, .int .i64 c.object, .int .i64 c.owner, .int .i64 c.rights, .int .i64 c.badge, .int .i64 c.depth, .int .i64 c.expiry, .int .i64 c.cut, .bool c.rev]
abbrev owA (n : Nat) (o : Ow) : Array Value := #[.int .i64 n, .string (str o.name), .int .i64 o.limit, .int .i64 o.hav]

/-! Rights -/
def subB (a b : Nat) : Bool := decide (a &&& b = a)
theorem bits_andNot {a b : Nat} (ha : a < 65536) (hb : b < 65536) : bits .andNot .i64 a b = ((a ^^^ (a &&& b) : Nat) : Int) := by
  show IntKind.i64.wrap ((BitVec.ofInt 64 a &&& ~~~ BitVec.ofInt 64 b).toNat : Int) = _
  have e : (BitVec.ofInt 64 (a : Int) &&& ~~~ BitVec.ofInt 64 (b : Int)).toNat = a ^^^ (a &&& b) := by
    refine Nat.eq_of_testBit_eq fun i => ?_
    have h1 : (BitVec.ofInt 64 (a : Int)).toNat = a := ofInt_nat (n := 64) (by omega)
    have h2 : (BitVec.ofInt 64 (b : Int)).toNat = b := ofInt_nat (n := 64) (by omega)
    rw [Nat.testBit_xor, Nat.testBit_and, BitVec.testBit_toNat, BitVec.getLsbD_and, BitVec.getLsbD_not, ← BitVec.testBit_toNat, ← BitVec.testBit_toNat, h1, h2]
    by_cases q : i < 64
    · simp [q]; cases a.testBit i <;> cases b.testBit i <;> rfl
    · have : a.testBit i = false := Nat.testBit_lt_two_pow (Nat.lt_of_lt_of_le (show a < 2 ^ 64 by omega) (Nat.pow_le_pow_right (by omega) (by omega)))
      simp [q, this]
  rw [e, wrapI64]
  have := Nat.xor_lt_two_pow (n := 16) (x := a) (y := a &&& b) (by omega) (Nat.lt_of_le_of_lt Nat.and_le_left (by omega))
  omega
theorem andNot_zero {a b : Nat} (ha : a < 65536) (hb : b < 65536) : decide (bits .andNot .i64 (a : Int) (b : Int) = 0) = subB a b := by
  rw [bits_andNot ha hb]
  unfold subB
  congr 1
  rw [eq_iff_iff]
  constructor
  · intro h
    have h : a ^^^ (a &&& b) = 0 := by exact_mod_cast h
    have h2 := congrArg (fun x => x ^^^ (a &&& b)) h
    simp only [Nat.xor_assoc, Nat.xor_self, Nat.xor_zero, Nat.zero_xor] at h2
    exact h2.symm
  · intro h
    rw [h, Nat.xor_self]; rfl
theorem right_does (a : Nat) (h : a < 65536) : Does Tryz.prog 88 [.int .i64 a] [] (fun v H => v = .bool true ∧ H = []) := by
  refine does_of Tryz.func88 Tryz.ntmps88 rfl rfl rfl (fun w0 F0 => ?_)
  (repeat' (first | refine g_seq (h := ?_) | refine g_region (h := ?_) | refine l_nil (h := ?_) | refine n_then (h := ?_) | refine l_pures1 (h := ?_) | refine l_guard_yes (h := ?_) | refine g_ret (h := ?_)))
  refine r_retk [] ?_
  exact ⟨(by first | (simp [packV]; done) | (simp [packV]; omega)), rfl⟩
theorem sub_does (a b : Nat) (ha : a < 65536) (hb : b < 65536) : Does Tryz.prog 43 [.int .i64 a, .int .i64 b] [] (fun v H => v = .bool (subB a b) ∧ H = []) := by
  have h1 := right_does a ha
  have h2 := right_does b hb
  have hz := andNot_zero ha hb
  refine does_of Tryz.func43 Tryz.ntmps43 rfl rfl rfl (fun w0 F0 => ?_)
  (repeat' (first | refine g_seq (h := ?_) | refine g_region (h := ?_) | refine l_nil (h := ?_) | refine n_then (h := ?_) | refine l_pures1 (h := ?_) | (refine l_atc ?_; refine l_call (h1) ?_) | (refine l_atc ?_; refine l_call (h2) ?_) | refine l_guard_yes (h := ?_) | refine g_ret (h := ?_)))
  refine r_retk [] ?_
  refine ⟨?_, rfl⟩
  rw [← hz]
  simp [packV, BEq.beq]
theorem subB_self (a : Nat) : subB a a = true := by simp [subB]
/-! Labels -/
/-- A label is folded to another text. -/
def FoldTo (a b : List UInt8) : Prop := Does Tryz.prog 72 [.string (str a)] [] (fun v H => v = .tuple #[.string (str b), .bool true] ∧ H = [])
structure Ow.ok (n : Nat) (o : Ow) : Prop where
  id : 1 ≤ n ∧ n ≤ 16777215
  name : FoldTo o.name o.name
  len : o.name.length ≤ 32
  limit : o.limit ≤ 1000
  hav : o.hav ≤ o.limit
theorem Ow.text_len (o : Ow) : o.text.length = 5 + o.name.length := by simp [Ow.text, putN_length]; omega

/-! Right -/
theorem cpRight_does (n : Nat) (c : Cp) (ok : c.ok n) : Does Tryz.prog 255 [.agg (cpA n c)] [] (fun v H => v = .bool true ∧ H = []) := by
  obtain ⟨o1, o2, o3, o4, o5, o6, o7, o8, o9, o10, o11⟩ := ok
  have h1 := in_does n 1 16777215 (by omega)
  have h2 := in_does c.parent 0 16777215 (by omega)
  have h3 := in_does c.object 1 16777215 (by omega)
  have h4 := in_does c.owner 1 16777215 (by omega)
  have h5 := sub_does c.rights c.rights o6 o6
  rw [subB_self] at h5
  have h6 := in_does c.badge 0 4294967295 (by omega)
  have h7 := in_does c.expiry 0 268435455 (by omega)
  have h8 := in_does c.cut 0 16777215 (by omega)
  have h9 := in_does c.depth 1 8 (by omega)
  have e1 : ((c.parent : Int) == (n : Int)) = false := by simp; omega
  have e2 : (((c.depth : Int) == 1) == ((c.parent : Int) == 0)) = true := by
    by_cases q : c.depth = 1
    · have := o11.1 q
      simp [q, this]
    · have : ¬ c.parent = 0 := fun h => q (o11.2 h)
      have a1 : ((c.depth : Int) == 1) = false := by simp; omega
      have a2 : ((c.parent : Int) == 0) = false := by simp; omega
      rw [a1, a2]; rfl
  refine does_of Tryz.func255 Tryz.ntmps255 rfl rfl rfl (fun w0 F0 => ?_)
  (repeat' (first | refine g_seq (h := ?_) | refine g_region (h := ?_) | refine l_nil (h := ?_) | refine n_then (h := ?_) | refine l_pures1 (h := ?_) | (refine l_atc ?_; refine l_call (h1) ?_) | (refine l_atc ?_; refine l_call (h2) ?_) | (refine l_atc ?_; refine l_call (h3) ?_) | (refine l_atc ?_; refine l_call (h4) ?_) | (refine l_atc ?_; refine l_call (h5) ?_) | (refine l_atc ?_; refine l_call (h6) ?_) | (refine l_atc ?_; refine l_call (h7) ?_) | (refine l_atc ?_; refine l_call (h8) ?_) | (refine l_atc ?_; refine l_call (h9) ?_) | refine l_guard_yes (h := ?_) | refine l_load (h := ?_) | (refine l_box (h := ?_); intro _) | refine g_skip (h := ?_) | refine g_ret (h := ?_) | refine g_cond_f (h := ?_) | (refine l_spF (h := ?_); intro h)))
  all_goals
    refine r_retk [] ?_
  all_goals exact ⟨(by first | (simp [packV, e2]; done) | (simp [packV]; omega)), rfl⟩
theorem owRight_does (n : Nat) (o : Ow) (ok : o.ok n) : Does Tryz.prog 254 [.agg (owA n o)] [] (fun v H => v = .bool true ∧ H = []) := by
  obtain ⟨o1, o2, o3, o4, o5⟩ := ok
  have h0 : Does Tryz.prog 72 [.string (str o.name)] [] (fun v H => v = .tuple #[.string (str o.name), .bool true] ∧ H = []) := o2
  have h1 := in_does n 1 16777215 (by omega)
  have h2 := in_does o.limit 0 1000 (by omega)
  have h3 := in_does o.hav 0 o.limit (by omega)
  refine does_of Tryz.func254 Tryz.ntmps254 rfl rfl rfl (fun w0 F0 => ?_)
  (repeat' (first | refine g_seq (h := ?_) | refine g_region (h := ?_) | refine l_nil (h := ?_) | refine n_then (h := ?_) | refine l_pures1 (h := ?_) | (refine l_atc ?_; refine l_call (h0) ?_) | (refine l_atc ?_; refine l_call (h1) ?_) | (refine l_atc ?_; refine l_call (h2) ?_) | (refine l_atc ?_; refine l_call (h3) ?_) | refine l_guard_yes (h := ?_) | refine l_load (h := ?_) | (refine l_box (h := ?_); intro _) | refine g_ret (h := ?_) | (refine l_spT (h := ?_); intro h)))
  all_goals
    refine r_retk [] ?_
  all_goals exact ⟨(by first | (simp [packV]; done) | (simp [packV]; omega)), rfl⟩

/-! Writing -/
def cp3 (c : Cp) : List Nat := [c.parent, c.object, c.owner]
def cp3T (c : Cp) (i : Nat) : List UInt8 := (((cp3 c).take i).map fun n => putN n 3).flatten
set_option maxHeartbeats 4000000 in
theorem writeOwner_does (n : Nat) (o : Ow) (ok : o.ok n) : Does Tryz.prog 137 [.iface 218 (.agg (owA n o))] [] (fun v H => v = .tuple #[.string (str o.text), .int .i64 0] ∧ H = []) := by
  have hr := owRight_does n o ok
  obtain ⟨o1, o2, o3, o4, o5⟩ := ok
  have hl1 := putN_length 2 o.limit
  have hl2 := putN_length 2 o.hav
  have ht := Text_does o.name (by omega)
  have hc1 : ([] ++ putN o.limit 2 ++ putN o.hav 2).length = 4 := by simp [putN_length]
  have hc2 : (UInt8.ofNat o.name.length :: o.name).length = o.name.length + 1 := by simp
  refine does_of Tryz.func137 Tryz.ntmps137 rfl rfl rfl (fun w0 F0 => ?_)
  (repeat (first | refine g_seq (h := ?_) | refine g_region (h := ?_) | refine l_nil (h := ?_) | refine n_then (h := ?_) | refine l_pures1 (h := ?_) | refine l_invoke (hr) ?_ | refine l_load (h := ?_) | refine l_store (h := ?_) | (refine l_box (h := ?_); intro _) | (refine l_alloc (h := ?_); intro _) | refine g_skip (h := ?_) | refine g_block (h := ?_) | refine g_cond_t (h := ?_) | refine g_cond_f (h := ?_) | refine l_assert (h := ?_)))
  rename_i b b2
  have h1 : Does Tryz.prog 171 [.pointer (some ⟨b, 0, none⟩), .int .i64 o.limit, .int .i64 2] [cl b 260 [.string { data := #[] }]] (fun v H => v = .tuple #[] ∧ H = [Wr b ([] ++ putN o.limit 2)]) := wSmall_does b o.limit 2 [] (by omega) (by omega) (by omega) (by simp)
  have h2 : Does Tryz.prog 171 [.pointer (some ⟨b, 0, none⟩), .int .i64 o.hav, .int .i64 2] [Wr b ([] ++ putN o.limit 2)] (fun v H => v = .tuple #[] ∧ H = [Wr b (([] ++ putN o.limit 2) ++ putN o.hav 2)]) := wSmall_does b o.hav 2 _ (by omega) (by omega) (by omega) (by simp; omega)
  refine l_inv (H' := [cl b2 218 [.int .i64 n, .string (str o.name), .int .i64 o.limit, .int .i64 o.hav], cl b 260 [.string { data := #[] }]]) (fun i => i) ?_
  (repeat' (first | refine g_seq (h := ?_) | refine g_region (h := ?_) | refine l_nil (h := ?_) | refine n_then (h := ?_) | refine l_pures1 (h := ?_) | (refine l_atc ?_; refine l_call (h1) ?_) | (refine l_atc ?_; refine l_call (h2) ?_) | (refine l_atc ?_; refine l_call (ht) ?_) | refine l_load (h := ?_) | refine l_store (h := ?_) | refine l_concat (h := ?_) | refine g_ret (h := ?_) | refine n_block (h := ?_)))
  refine r_retk [] ?_
  exact ⟨by simp [packV, Ow.text], rfl⟩
theorem againOwner_does (n : Nat) (o : Ow) (ok : o.ok n) : Does Tryz.prog 106 [.iface 218 (.agg (owA n o)), .string (str o.text)] [] (fun v H => v = .bool true ∧ H = []) := by
  have hw := writeOwner_does n o ok
  refine does_of Tryz.func106 Tryz.ntmps106 rfl rfl rfl (fun w0 F0 => ?_)
  (repeat' (first | refine g_seq (h := ?_) | refine g_region (h := ?_) | refine l_nil (h := ?_) | refine n_then (h := ?_) | refine l_pures1 (h := ?_) | (refine l_atc ?_; refine l_call (hw) ?_) | refine l_guard_yes (h := ?_) | refine g_ret (h := ?_)))
  refine r_retk [] ?_
  exact ⟨by simp [packV], rfl⟩
theorem putOwner_does (n : Nat) (o : Ow) (ok : o.ok n) : Does Tryz.prog 132 [.agg (owA n o)] [] (fun v H => v = .tuple #[.string (str o.text), .int .i64 0] ∧ H = []) := by
  have hw := writeOwner_does n o ok
  refine does_of Tryz.func132 Tryz.ntmps132 rfl rfl rfl (fun w0 F0 => ?_)
  (repeat' (first | refine g_seq (h := ?_) | refine g_region (h := ?_) | refine l_nil (h := ?_) | refine n_then (h := ?_) | refine l_pures1 (h := ?_) | (refine l_atc ?_; refine l_call (hw) ?_) | refine l_load (h := ?_) | (refine l_box (h := ?_); intro _) | refine g_ret (h := ?_)))
  refine r_retk [] ?_
  exact ⟨rfl, rfl⟩
set_option maxHeartbeats 2000000 in
theorem takeOwner_does (n : Nat) (o : Ow) (ok : o.ok n) : Does Tryz.prog 80 [.int .i64 n, .string (str o.text)] [] (fun v H => v = .tuple #[.agg (owA n o), .int .i64 0] ∧ H = []) := by
  have hag := againOwner_does n o ok
  obtain ⟨o1, o2, o3, o4, o5⟩ := ok
  have hl1 := putN_length 2 o.limit
  have hl2 := putN_length 2 o.hav
  have ht := TakeText_does o.name [] (by omega) (by simp)
  rw [List.append_nil] at ht
  refine does_of Tryz.func80 Tryz.ntmps80 rfl rfl rfl (fun w0 F0 => ?_)
  (repeat (first | refine g_seq (h := ?_) | refine g_region (h := ?_) | refine l_nil (h := ?_) | refine n_then (h := ?_) | refine l_pures1 (h := ?_) | (refine l_box (h := ?_); intro _) | (refine l_alloc (h := ?_); intro _)))
  rename_i b4 b
  have h1 : Does Tryz.prog 104 [.pointer (some ⟨b, 0, none⟩), .int .i64 2] [Rd14 b o.text] (fun v H => v = .int .i64 o.limit ∧ H = [Rd14 b (putN o.hav 2 ++ (UInt8.ofNat o.name.length :: o.name))]) := rSmall_does b o.limit 2 (putN o.hav 2 ++ (UInt8.ofNat o.name.length :: o.name)) (by omega) (by omega) (by omega) (by simp; omega)
  have h2 : Does Tryz.prog 104 [.pointer (some ⟨b, 0, none⟩), .int .i64 2] [Rd14 b (putN o.hav 2 ++ (UInt8.ofNat o.name.length :: o.name))] (fun v H => v = .int .i64 o.hav ∧ H = [Rd14 b (UInt8.ofNat o.name.length :: o.name)]) := rSmall_does b o.hav 2 (UInt8.ofNat o.name.length :: o.name) (by omega) (by omega) (by omega) (by simp; omega)
  (repeat' (first | refine g_seq (h := ?_) | refine g_region (h := ?_) | refine l_nil (h := ?_) | refine n_then (h := ?_) | refine l_pures1 (h := ?_) | (refine l_atc ?_; refine l_call (h1) ?_) | (refine l_atc ?_; refine l_call (h2) ?_) | (refine l_atc ?_; refine l_call (ht) ?_) | (refine l_atc ?_; refine l_call (hag) ?_) | refine l_guard_yes (h := ?_) | refine l_load (h := ?_) | refine l_store (h := ?_) | (refine l_alloc (h := ?_); intro _) | refine g_skip (h := ?_) | refine g_ret (h := ?_) | refine g_cond_f (h := ?_)))
  refine r_retk [] ?_
  exact ⟨rfl, rfl⟩

set_option maxHeartbeats 4000000 in
theorem writeCap_does (n : Nat) (c : Cp) (ok : c.ok n) : Does Tryz.prog 137 [.iface 220 (.agg (cpA n c))] [] (fun v H => v = .tuple #[.string (str c.text), .int .i64 0] ∧ H = []) := by
  have hr := cpRight_does n c ok
  obtain ⟨o1, o2, o3, o4, o5, o6, o7, o8, o9, o10, o11⟩ := ok
  have hb2 := b2n_le c.rev
  obtain ⟨q3, e3⟩ : ∃ l, l = cp3T c 3 := ⟨_, rfl⟩
  obtain ⟨q4, e4⟩ : ∃ l, l = q3 ++ putN c.rights 2 := ⟨_, rfl⟩
  obtain ⟨q5, e5⟩ : ∃ l, l = q4 ++ putN c.badge 4 := ⟨_, rfl⟩
  obtain ⟨q6, e6⟩ : ∃ l, l = q5 ++ putN c.depth 1 := ⟨_, rfl⟩
  obtain ⟨q7, e7⟩ : ∃ l, l = q6 ++ putN c.expiry 4 := ⟨_, rfl⟩
  obtain ⟨q8, e8⟩ : ∃ l, l = q7 ++ putN c.cut 3 := ⟨_, rfl⟩
  obtain ⟨q9, e9⟩ : ∃ l, l = q8 ++ putN (b2n c.rev) 1 := ⟨_, rfl⟩
  have l3 : q3.length = 9 := by rw [e3]; simp [cp3T, cp3, putN_length]
  have l4 : q4.length = 11 := by rw [e4, List.length_append, putN_length, l3]
  have l5 : q5.length = 15 := by rw [e5, List.length_append, putN_length, l4]
  have l6 : q6.length = 16 := by rw [e6, List.length_append, putN_length, l5]
  have l7 : q7.length = 20 := by rw [e7, List.length_append, putN_length, l6]
  have l8 : q8.length = 23 := by rw [e8, List.length_append, putN_length, l7]
  have et : c.text = q9 := by subst e9 e8 e7 e6 e5 e4 e3; simp [Cp.text, cp3T, cp3]
  have hcut : ∀ i, (cp3T c i).length ≤ 9 := fun i => by
    match i with
    | 0 => simp [cp3T]
    | 1 => simp [cp3T, cp3, putN_length]
    | 2 => simp [cp3T, cp3, putN_length]
    | i + 3 => simp [cp3T, cp3, putN_length]
  refine does_of Tryz.func137 Tryz.ntmps137 rfl rfl rfl (fun w0 F0 => ?_)
  (repeat (first | refine g_seq (h := ?_) | refine g_region (h := ?_) | refine l_nil (h := ?_) | refine n_then (h := ?_) | refine l_pures1 (h := ?_) | refine l_invoke (hr) ?_ | refine l_load (h := ?_) | refine l_store (h := ?_) | (refine l_box (h := ?_); intro _) | (refine l_alloc (h := ?_); intro _) | refine g_skip (h := ?_) | refine g_block (h := ?_) | refine g_cond_t (h := ?_) | refine g_cond_f (h := ?_) | (refine l_buildSlice3 (h := ?_); intro _) | refine l_assert (h := ?_)))
  rename_i b b1 b2
  have h4 : Does Tryz.prog 171 [.pointer (some ⟨b, 0, none⟩), .int .i64 c.rights, .int .i64 2] [Wr b q3] (fun v H => v = .tuple #[] ∧ H = [Wr b q4]) := by rw [e4]; exact wSmall_does b c.rights 2 q3 (by omega) (by omega) (by omega) (by omega)
  have h5 : Does Tryz.prog 171 [.pointer (some ⟨b, 0, none⟩), .int .i64 c.badge, .int .i64 4] [Wr b q4] (fun v H => v = .tuple #[] ∧ H = [Wr b q5]) := by rw [e5]; exact wSmall_does b c.badge 4 q4 (by omega) (by omega) (by omega) (by omega)
  have h6 : Does Tryz.prog 171 [.pointer (some ⟨b, 0, none⟩), .int .i64 c.depth, .int .i64 1] [Wr b q5] (fun v H => v = .tuple #[] ∧ H = [Wr b q6]) := by rw [e6]; exact wSmall_does b c.depth 1 q5 (by omega) (by omega) (by omega) (by omega)
  have h7 : Does Tryz.prog 171 [.pointer (some ⟨b, 0, none⟩), .int .i64 c.expiry, .int .i64 4] [Wr b q6] (fun v H => v = .tuple #[] ∧ H = [Wr b q7]) := by rw [e7]; exact wSmall_does b c.expiry 4 q6 (by omega) (by omega) (by omega) (by omega)
  have h8 : Does Tryz.prog 171 [.pointer (some ⟨b, 0, none⟩), .int .i64 c.cut, .int .i64 3] [Wr b q7] (fun v H => v = .tuple #[] ∧ H = [Wr b q8]) := by rw [e8]; exact wSmall_does b c.cut 3 q7 (by omega) (by omega) (by omega) (by omega)
  have h0 : ∀ (i : Nat) (x : Nat) (l l' : List UInt8), l = cp3T c i → l' = cp3T c (i + 1) → cp3T c (i + 1) = cp3T c i ++ putN x 3 → x ≤ 16777215 → Does Tryz.prog 171 [.pointer (some ⟨b, 0, none⟩), .int .i64 x, .int .i64 3] [Wr b l] (fun v H => v = .tuple #[] ∧ H = [Wr b l']) := by
    rintro i x l l' rfl rfl e hx
    rw [e]
    exact wSmall_does b x 3 _ (by omega) (by omega) (by omega) (by have := hcut i; omega)
  have h9 : ∀ v : Int, v = (b2n c.rev : Nat) → Does Tryz.prog 171 [.pointer (some ⟨b, 0, none⟩), .int .i64 v, .int .i64 1] [Wr b q8] (fun v H => v = .tuple #[] ∧ H = [Wr b q9]) := by
    rintro v rfl
    rw [e9]
    exact wSmall_does b (b2n c.rev) 1 q8 (by omega) (by omega) (by omega) (by omega)
  refine g_inv (H' := [cl b2 3 [.int .i64 c.parent, .int .i64 c.object, .int .i64 c.owner], cl b1 220 [.int .i64 n, .int .i64 c.parent, .int .i64 c.object, .int .i64 c.owner, .int .i64 c.rights, .int .i64 c.badge, .int .i64 c.depth, .int .i64 c.expiry, .int .i64 c.cut, .bool c.rev], Wr b (cp3T c 0)]) (fun i => i) ?_
  (refine g_loop (fun i : Nat => [(33, .int .i64 i), (32, .int .i64 3), (31, .slice (some ⟨b2, 0, none⟩) 3 3), (5, .pointer (some ⟨b1, 0, none⟩)), (4, .pointer (some ⟨b, 0, none⟩))]) (fun i => [Wr b (cp3T c i), cl b2 3 [.int .i64 c.parent, .int .i64 c.object, .int .i64 c.owner], cl b1 220 [.int .i64 n, .int .i64 c.parent, .int .i64 c.object, .int .i64 c.owner, .int .i64 c.rights, .int .i64 c.badge, .int .i64 c.depth, .int .i64 c.expiry, .int .i64 c.cut, .bool c.rev]]) (fun i => i ≤ 3) (fun i => 3 - i) (0) ?_ ?_ ?_ ?_; rotate_left; (repeat (first | refine ts_nil | (refine ts_cons rfl ?_ ?_; first | (with_reducible rfl) | rotate_left))); (first | (intro _ i; with_reducible refine i) | rotate_left); rotate_left; (try omega); rotate_right)
  · intro i hi
    have : i = 0 ∨ i = 1 ∨ i = 2 ∨ i = 3 := by omega
    rcases this with rfl | rfl | rfl | rfl
    · have hx := h0 0 c.parent _ _ rfl rfl (by simp [cp3T, cp3]) o2
      (repeat' (first | refine g_seq (h := ?_) | refine g_region (h := ?_) | refine l_nil (h := ?_) | refine n_then (h := ?_) | refine l_pures1 (h := ?_) | (refine l_atc ?_; refine l_call (hx) ?_) | refine l_load (h := ?_) | refine l_indexAddr (h := ?_) | refine g_skip (h := ?_) | refine g_block (h := ?_) | refine n_block (h := ?_) | refine g_cond_t (h := ?_)))
      (refine n_back (1) ?_ ?_ ?_ ?_; rotate_left; rotate_left; (repeat (first | refine ts_nil | (refine ts_cons rfl ?_ ?_; first | (with_reducible rfl) | rotate_left))); (first | (intro _ i; with_reducible refine i) | rotate_left); (try omega); (try omega))
      all_goals first
        | (dsimp only; omega)
        | (intro _ i; exact inv_keep parts_of i)
        | rfl
    · have hx := h0 1 c.object _ _ rfl rfl (by simp [cp3T, cp3]) (by omega)
      (repeat' (first | refine g_seq (h := ?_) | refine g_region (h := ?_) | refine l_nil (h := ?_) | refine n_then (h := ?_) | refine l_pures1 (h := ?_) | (refine l_atc ?_; refine l_call (hx) ?_) | refine l_load (h := ?_) | refine l_indexAddr (h := ?_) | refine g_skip (h := ?_) | refine g_block (h := ?_) | refine n_block (h := ?_) | refine g_cond_t (h := ?_)))
      (refine n_back (2) ?_ ?_ ?_ ?_; rotate_left; rotate_left; (repeat (first | refine ts_nil | (refine ts_cons rfl ?_ ?_; first | (with_reducible rfl) | rotate_left))); (first | (intro _ i; with_reducible refine i) | rotate_left); (try omega); (try omega))
      all_goals first
        | (dsimp only; omega)
        | (intro _ i; exact inv_keep parts_of i)
        | rfl
    · have hx := h0 2 c.owner _ _ rfl rfl (by simp [cp3T, cp3]) (by omega)
      (repeat' (first | refine g_seq (h := ?_) | refine g_region (h := ?_) | refine l_nil (h := ?_) | refine n_then (h := ?_) | refine l_pures1 (h := ?_) | (refine l_atc ?_; refine l_call (hx) ?_) | refine l_load (h := ?_) | refine l_indexAddr (h := ?_) | refine g_skip (h := ?_) | refine g_block (h := ?_) | refine n_block (h := ?_) | refine g_cond_t (h := ?_)))
      (refine n_back (3) ?_ ?_ ?_ ?_; rotate_left; rotate_left; (repeat (first | refine ts_nil | (refine ts_cons rfl ?_ ?_; first | (with_reducible rfl) | rotate_left))); (first | (intro _ i; with_reducible refine i) | rotate_left); (try omega); (try omega))
      all_goals first
        | (dsimp only; omega)
        | (intro _ i; exact inv_keep parts_of i)
        | rfl
    · rw [← e3]
      (repeat' (first | refine g_seq (h := ?_) | refine g_region (h := ?_) | refine l_nil (h := ?_) | refine n_then (h := ?_) | refine l_pures1 (h := ?_) | (refine l_atc ?_; refine l_call (h4) ?_) | (refine l_atc ?_; refine l_call (h5) ?_) | (refine l_atc ?_; refine l_call (h6) ?_) | (refine l_atc ?_; refine l_call (h7) ?_) | (refine l_atc ?_; refine l_call (h8) ?_) | refine l_load (h := ?_) | refine g_skip (h := ?_) | refine g_exit (h := ?_) | refine n_then_exit (h := ?_) | refine n_block_hit (h := ?_) | refine g_cond_f (h := ?_) | (refine g_sp (h1 := ?_) (h0 := ?_) <;> intro h)))
      · have hx := h9 1 (by rw [h]; rfl)
        (repeat' (first | refine g_seq (h := ?_) | refine g_region (h := ?_) | refine l_nil (h := ?_) | refine n_then (h := ?_) | refine l_pures1 (h := ?_) | (refine l_atc ?_; refine l_call (hx) ?_) | refine l_load (h := ?_) | refine g_ret (h := ?_) | refine n_block (h := ?_)))
        refine r_retk [] ?_
        exact ⟨by rw [et]; rfl, rfl⟩
      · have hx := h9 0 (by rw [h]; rfl)
        (repeat' (first | refine g_seq (h := ?_) | refine g_region (h := ?_) | refine l_nil (h := ?_) | refine n_then (h := ?_) | refine l_pures1 (h := ?_) | (refine l_atc ?_; refine l_call (hx) ?_) | refine l_load (h := ?_) | refine g_ret (h := ?_) | refine n_block (h := ?_)))
        refine r_retk [] ?_
        exact ⟨by rw [et]; rfl, rfl⟩
  all_goals first
    | exact Nat.zero_le _
    | rfl
    | (intro _ i; exact inv_keep parts_of i)
theorem againCap_does (n : Nat) (c : Cp) (ok : c.ok n) : Does Tryz.prog 106 [.iface 220 (.agg (cpA n c)), .string (str c.text)] [] (fun v H => v = .bool true ∧ H = []) := by
  have hw := writeCap_does n c ok
  refine does_of Tryz.func106 Tryz.ntmps106 rfl rfl rfl (fun w0 F0 => ?_)
  (repeat' (first | refine g_seq (h := ?_) | refine g_region (h := ?_) | refine l_nil (h := ?_) | refine n_then (h := ?_) | refine l_pures1 (h := ?_) | (refine l_atc ?_; refine l_call (hw) ?_) | refine l_guard_yes (h := ?_) | refine g_ret (h := ?_)))
  refine r_retk [] ?_
  exact ⟨by simp [packV], rfl⟩
theorem putCap_does (n : Nat) (c : Cp) (ok : c.ok n) : Does Tryz.prog 92 [.agg (cpA n c)] [] (fun v H => v = .tuple #[.string (str c.text), .int .i64 0] ∧ H = []) := by
  have hw := writeCap_does n c ok
  refine does_of Tryz.func92 Tryz.ntmps92 rfl rfl rfl (fun w0 F0 => ?_)
  (repeat' (first | refine g_seq (h := ?_) | refine g_region (h := ?_) | refine l_nil (h := ?_) | refine n_then (h := ?_) | refine l_pures1 (h := ?_) | (refine l_atc ?_; refine l_call (hw) ?_) | refine l_load (h := ?_) | (refine l_box (h := ?_); intro _) | refine g_ret (h := ?_)))
  refine r_retk [] ?_
  exact ⟨rfl, rfl⟩
set_option maxHeartbeats 4000000 in
theorem takeCap_does (n : Nat) (c : Cp) (ok : c.ok n) : Does Tryz.prog 83 [.int .i64 n, .string (str c.text)] [] (fun v H => v = .tuple #[.agg (cpA n c), .int .i64 0] ∧ H = []) := by
  have hag := againCap_does n c ok
  obtain ⟨o1, o2, o3, o4, o5, o6, o7, o8, o9, o10, o11⟩ := ok
  have hb := b2n_le c.rev
  obtain ⟨t9, e9⟩ : ∃ l, l = putN (b2n c.rev) 1 := ⟨_, rfl⟩
  obtain ⟨t8, e8⟩ : ∃ l, l = putN c.cut 3 ++ t9 := ⟨_, rfl⟩
  obtain ⟨t7, e7⟩ : ∃ l, l = putN c.expiry 4 ++ t8 := ⟨_, rfl⟩
  obtain ⟨t6, e6⟩ : ∃ l, l = putN c.depth 1 ++ t7 := ⟨_, rfl⟩
  obtain ⟨t5, e5⟩ : ∃ l, l = putN c.badge 4 ++ t6 := ⟨_, rfl⟩
  obtain ⟨t4, e4⟩ : ∃ l, l = putN c.rights 2 ++ t5 := ⟨_, rfl⟩
  obtain ⟨t3, e3⟩ : ∃ l, l = putN c.owner 3 ++ t4 := ⟨_, rfl⟩
  obtain ⟨t2, e2⟩ : ∃ l, l = putN c.object 3 ++ t3 := ⟨_, rfl⟩
  have e1 : c.text = putN c.parent 3 ++ t2 := by subst e9 e8 e7 e6 e5 e4 e3 e2; rfl
  have l9 : t9.length = 1 := by rw [e9, putN_length]
  have l8 : t8.length = 4 := by rw [e8, List.length_append, putN_length, l9]
  have l7 : t7.length = 8 := by rw [e7, List.length_append, putN_length, l8]
  have l6 : t6.length = 9 := by rw [e6, List.length_append, putN_length, l7]
  have l5 : t5.length = 13 := by rw [e5, List.length_append, putN_length, l6]
  have l4 : t4.length = 15 := by rw [e4, List.length_append, putN_length, l5]
  have l3 : t3.length = 18 := by rw [e3, List.length_append, putN_length, l4]
  have l2 : t2.length = 21 := by rw [e2, List.length_append, putN_length, l3]
  refine does_of Tryz.func83 Tryz.ntmps83 rfl rfl rfl (fun w0 F0 => ?_)
  (repeat (first | refine g_seq (h := ?_) | refine g_region (h := ?_) | refine l_nil (h := ?_) | refine n_then (h := ?_) | refine l_pures1 (h := ?_) | (refine l_box (h := ?_); intro _) | (refine l_alloc (h := ?_); intro _)))
  rename_i b4 b
  have h1 : Does Tryz.prog 104 [.pointer (some ⟨b, 0, none⟩), .int .i64 3] [Rd14 b c.text] (fun v H => v = .int .i64 c.parent ∧ H = [Rd14 b t2]) := by rw [e1]; exact rSmall_does b c.parent 3 t2 (by omega) (by omega) (by omega) (by omega)
  have h2 : Does Tryz.prog 104 [.pointer (some ⟨b, 0, none⟩), .int .i64 3] [Rd14 b t2] (fun v H => v = .int .i64 c.object ∧ H = [Rd14 b t3]) := by rw [e2]; exact rSmall_does b c.object 3 t3 (by omega) (by omega) (by omega) (by omega)
  have h3 : Does Tryz.prog 104 [.pointer (some ⟨b, 0, none⟩), .int .i64 3] [Rd14 b t3] (fun v H => v = .int .i64 c.owner ∧ H = [Rd14 b t4]) := by rw [e3]; exact rSmall_does b c.owner 3 t4 (by omega) (by omega) (by omega) (by omega)
  have h4 : Does Tryz.prog 104 [.pointer (some ⟨b, 0, none⟩), .int .i64 2] [Rd14 b t4] (fun v H => v = .int .i64 c.rights ∧ H = [Rd14 b t5]) := by rw [e4]; exact rSmall_does b c.rights 2 t5 (by omega) (by omega) (by omega) (by omega)
  have h5 : Does Tryz.prog 104 [.pointer (some ⟨b, 0, none⟩), .int .i64 4] [Rd14 b t5] (fun v H => v = .int .i64 c.badge ∧ H = [Rd14 b t6]) := by rw [e5]; exact rSmall_does b c.badge 4 t6 (by omega) (by omega) (by omega) (by omega)
  have h6 : Does Tryz.prog 104 [.pointer (some ⟨b, 0, none⟩), .int .i64 1] [Rd14 b t6] (fun v H => v = .int .i64 c.depth ∧ H = [Rd14 b t7]) := by rw [e6]; exact rSmall_does b c.depth 1 t7 (by omega) (by omega) (by omega) (by omega)
  have h7 : Does Tryz.prog 104 [.pointer (some ⟨b, 0, none⟩), .int .i64 4] [Rd14 b t7] (fun v H => v = .int .i64 c.expiry ∧ H = [Rd14 b t8]) := by rw [e7]; exact rSmall_does b c.expiry 4 t8 (by omega) (by omega) (by omega) (by omega)
  have h8 : Does Tryz.prog 104 [.pointer (some ⟨b, 0, none⟩), .int .i64 3] [Rd14 b t8] (fun v H => v = .int .i64 c.cut ∧ H = [Rd14 b t9]) := by rw [e8]; exact rSmall_does b c.cut 3 t9 (by omega) (by omega) (by omega) (by omega)
  have h9 : Does Tryz.prog 104 [.pointer (some ⟨b, 0, none⟩), .int .i64 1] [Rd14 b t9] (fun v H => v = .int .i64 (b2n c.rev) ∧ H = [Rd14 b []]) := by
    have := rSmall_does b (b2n c.rev) 1 [] (by omega) (by omega) (by omega) (by simp)
    rw [List.append_nil] at this
    rw [e9]
    exact this
  have er : (((b2n c.rev : Nat) : Int) == 1) = c.rev := by cases c.rev <;> rfl
  (repeat' (first | refine g_seq (h := ?_) | refine g_region (h := ?_) | refine l_nil (h := ?_) | refine n_then (h := ?_) | refine l_pures1 (h := ?_) | (refine l_atc ?_; refine l_call (h1) ?_) | (refine l_atc ?_; refine l_call (h2) ?_) | (refine l_atc ?_; refine l_call (h3) ?_) | (refine l_atc ?_; refine l_call (h4) ?_) | (refine l_atc ?_; refine l_call (h5) ?_) | (refine l_atc ?_; refine l_call (h6) ?_) | (refine l_atc ?_; refine l_call (h7) ?_) | (refine l_atc ?_; refine l_call (h8) ?_) | (refine l_atc ?_; refine l_call (h9) ?_) | refine l_guard_yes (h := ?_) | refine l_load (h := ?_) | refine l_store (h := ?_) | (refine l_alloc (h := ?_); intro _)))
  rw [er]
  (repeat' (first | refine g_seq (h := ?_) | refine g_region (h := ?_) | refine l_nil (h := ?_) | refine n_then (h := ?_) | refine l_pures1 (h := ?_) | (refine l_atc ?_; refine l_call (hag) ?_) | refine l_guard_yes (h := ?_) | refine l_load (h := ?_) | refine l_store (h := ?_) | refine g_skip (h := ?_) | refine g_ret (h := ?_) | refine g_cond_f (h := ?_)))
  refine r_retk [] ?_
  exact ⟨rfl, rfl⟩
end Go.Proofs.YtmfmommgooccnaaGreat
/- Package space: what a key is made of. -/
set_option maxRecDepth 20000
set_option linter.unusedVariables false
set_option linter.unusedSimpArgs false
namespace Go.Proofs.YtmfmommgooccnaaGreat
open Go.Proofs.YtmfmommgooccnaaGreat.SL

theorem Next_does (x : Nat) (hx : x + 1 < 18446744073709551616) : Does Tryz.prog 130 [.int .u64 x] [] (fun v H => v = .tuple #[.int .u64 (x + 1 : Nat), .bool true] ∧ H = []) := by
  have ew : IntKind.u64.wrap ((x : Int) + 1) = ((x + 1 : Nat) : Int) := by rw [wrapU64 (by omega)]; omega
  refine does_of Tryz.func130 Tryz.ntmps130 rfl rfl rfl (fun w0 F0 => ?_)
  (repeat' (first | refine g_seq (h := ?_) | refine g_region (h := ?_) | refine l_nil (h := ?_) | refine n_then (h := ?_) | refine l_pures1 (h := ?_) | refine g_ret (h := ?_)))
  refine r_ret ?_
  refine ⟨?_, rfl⟩
  rw [ew]
  have e : (((x + 1 : Nat) : Int) != 0) = true := by simp; omega
  rw [e]
  rfl
theorem Split_does (k a b : Nat) (hk : k < 16) (ha : a ≤ 268435455) (hb : b < 4294967296) : Does Tryz.prog 129 [.int .u64 (kyN k a b : Nat)] [] (fun v H => v = .tuple #[.int .i64 k, .int .i64 a, .int .i64 b] ∧ H = []) := by
  refine does_of Tryz.func129 Tryz.ntmps129 rfl rfl rfl (fun w0 F0 => ?_)
  (repeat' (first | refine g_seq (h := ?_) | refine g_region (h := ?_) | refine l_nil (h := ?_) | refine n_then (h := ?_) | refine l_pures1 (h := ?_) | refine l_shr (h := ?_) | refine g_ret (h := ?_)))
  refine r_ret ?_
  refine ⟨?_, rfl⟩
  have p60 : (2 : Int) ^ min (Int.toNat 60) IntKind.u64.bits = 1152921504606846976 := by decide
  have p32 : (2 : Int) ^ min (Int.toNat 32) IntKind.u64.bits = 4294967296 := by decide
  have h1 : ((kyN k a b : Nat) : Int) / 1152921504606846976 = k := by unfold kyN; omega
  have h2 : ((kyN k a b : Nat) : Int) / 4294967296 = ((k * 268435456 + a : Nat) : Int) := by unfold kyN; omega
  have h3 : IntKind.u32.wrap ((kyN k a b : Nat) : Int) = b := by
    have : IntKind.u32.wrap ((kyN k a b : Nat) : Int) = ((kyN k a b : Nat) : Int) % 4294967296 := by simp [IntKind.wrap, IntKind.bits, IntKind.signed]
    rw [this]; unfold kyN; omega
  have h4 : bits BinOp.and IntKind.i64 ((k * 268435456 + a : Nat) : Int) 268435455 = a := by
    have := bits_and (k := .i64) (a := k * 268435456 + a) (b := 268435455) (by simp [IntKind.bits]; omega) (by simp [IntKind.bits])
    have e : ((268435455 : Nat) : Int) = 268435455 := rfl
    rw [e] at this
    rw [this]
    have e2 : (k * 268435456 + a) &&& 268435455 = a := by
      have := Nat.and_two_pow_sub_one_eq_mod (k * 268435456 + a) 28
      have e3 : 2 ^ 28 - 1 = 268435455 := rfl
      rw [e3] at this
      rw [this]; omega
    rw [e2, wrapI64 (by omega)]
  rw [p60, p32, Int.fdiv_eq_ediv_of_nonneg _ (by omega), Int.fdiv_eq_ediv_of_nonneg _ (by omega), h1, h2, h3, wrapI64 (n := (k : Int)) (by omega), wrapI64 (n := ((k * 268435456 + a : Nat) : Int)) (by omega), h4, wrapI64 (by omega)]
  rfl
end Go.Proofs.YtmfmommgooccnaaGreat
/- Package txn: what a transaction does. -/
set_option maxRecDepth 20000
set_option linter.unusedVariables false
set_option linter.unusedSimpArgs false
namespace Go.Proofs.YtmfmommgooccnaaGreat
open Go.Proofs.YtmfmommgooccnaaGreat.SL

/-- A transaction's block. -/
abbrev tx (t sb : Nat) (r e : Int) (ov : Bool) : SProp := cl t 107 [.pointer (some ⟨sb, 0, none⟩), .int .i64 r, .int .i64 e, .bool ov]

theorem txDoes5 {α : Type} (t sb g : Nat) [c : Callable Tryz.prog g] (caps : List Value) (r : Int) (p : α → Prop) (ok : α → Bool) (r' : α → Int) (A0 A1 A2 A3 A4 : SProp) (B0 B1 B2 B3 B4 : α → SProp)
    (hd : Does Tryz.prog g caps [tx t sb r 0 false, A0, A1, A2, A3, A4] (fun v H => ∃ y, p y ∧ v = .tuple #[.bool (ok y), .int .i64 0] ∧ H = [tx t sb (r' y) 0 false, B0 y, B1 y, B2 y, B3 y, B4 y])) :
    Does Tryz.prog 63 [.pointer (some ⟨t, 0, none⟩), .func (.func g) #[] caps.toArray] [tx t sb r 0 false, A0, A1, A2, A3, A4] (fun v H => ∃ y, p y ∧ v = .bool (ok y) ∧ H = [tx t sb (r' y) 0 false, B0 y, B1 y, B2 y, B3 y, B4 y]) := by
  refine does_of Tryz.func63 Tryz.ntmps63 rfl rfl rfl (fun w0 F0 => ?_)
  (repeat' (first | refine g_seq (h := ?_) | refine g_region (h := ?_) | refine l_nil (h := ?_) | refine n_then (h := ?_) | refine l_pures1 (h := ?_) | (refine l_atc ?_; refine l_call_ (hd) ?_; rintro _ _ _ ⟨y, hy, rfl, rfl⟩ he; cases he) | refine l_guard_yes (h := ?_) | refine l_guard_no (h := ?_) | refine l_load (h := ?_) | refine l_store (h := ?_) | refine g_skip (h := ?_) | refine g_ret (h := ?_) | refine g_cond_f (h := ?_) | (refine l_sp (h1 := ?_) (h0 := ?_) <;> intro h)))
  all_goals
    refine r_retk [tx t sb (r' y) 0 false, B0 y, B1 y, B2 y, B3 y, B4 y] ?_
  · exact ⟨y, hy, by simp [packV, *], rfl⟩
  · exact ⟨y, hy, by simp [packV, *], rfl⟩

theorem txDoes6 {α : Type} (t sb g : Nat) [c : Callable Tryz.prog g] (caps : List Value) (r : Int) (p : α → Prop) (ok : α → Bool) (r' : α → Int) (A0 A1 A2 A3 A4 A5 : SProp) (B0 B1 B2 B3 B4 B5 B6 : α → SProp)
    (hd : Does Tryz.prog g caps [tx t sb r 0 false, A0, A1, A2, A3, A4, A5] (fun v H => ∃ y, p y ∧ v = .tuple #[.bool (ok y), .int .i64 0] ∧ H = [tx t sb (r' y) 0 false, B0 y, B1 y, B2 y, B3 y, B4 y, B5 y, B6 y])) :
    Does Tryz.prog 63 [.pointer (some ⟨t, 0, none⟩), .func (.func g) #[] caps.toArray] [tx t sb r 0 false, A0, A1, A2, A3, A4, A5] (fun v H => ∃ y, p y ∧ v = .bool (ok y) ∧ H = [tx t sb (r' y) 0 false, B0 y, B1 y, B2 y, B3 y, B4 y, B5 y, B6 y]) := by
  refine does_of Tryz.func63 Tryz.ntmps63 rfl rfl rfl (fun w0 F0 => ?_)
  (repeat' (first | refine g_seq (h := ?_) | refine g_region (h := ?_) | refine l_nil (h := ?_) | refine n_then (h := ?_) | refine l_pures1 (h := ?_) | (refine l_atc ?_; refine l_call_ (hd) ?_; rintro _ _ _ ⟨y, hy, rfl, rfl⟩ he; cases he) | refine l_guard_yes (h := ?_) | refine l_guard_no (h := ?_) | refine l_load (h := ?_) | refine l_store (h := ?_) | refine g_skip (h := ?_) | refine g_ret (h := ?_) | refine g_cond_f (h := ?_) | (refine l_sp (h1 := ?_) (h0 := ?_) <;> intro h)))
  all_goals
    refine r_retk [tx t sb (r' y) 0 false, B0 y, B1 y, B2 y, B3 y, B4 y, B5 y, B6 y] ?_
  · exact ⟨y, hy, by simp [packV, *], rfl⟩
  · exact ⟨y, hy, by simp [packV, *], rfl⟩

theorem txPut1 (t sb db b1 b2 b3 x : Nat) (v : List UInt8) (r : Int) (S : Sh) (D : Dk) (p : Int → Sh → Dk → Prop)
    (hp : Does Tryz.prog 65 [.pointer (some ⟨sb, 0, none⟩), .int .i64 r, .int .u64 x, .string (str v)] [Store sb db S, Disk db D] (fun u H => ∃ m S' D', u = .tuple #[.int .i64 m, .int .i64 0] ∧ H = [Store sb db S', Disk db D'] ∧ p m S' D')) :
    Does Tryz.prog 64 [.pointer (some ⟨b1, 0, none⟩), .pointer (some ⟨b2, 0, none⟩), .pointer (some ⟨b3, 0, none⟩)] [tx t sb r 0 false, cl b1 24 [.pointer (some ⟨t, 0, none⟩)], cl b2 30 [.int .u64 x], cl b3 9 [.string (str v)], Store sb db S, Disk db D]
      (fun u H => ∃ y : Int × Sh × Dk, p y.1 y.2.1 y.2.2 ∧ u = .tuple #[.bool true, .int .i64 0] ∧ H = [tx t sb y.1 0 false, cl b1 24 [.pointer (some ⟨t, 0, none⟩)], cl b2 30 [.int .u64 x], cl b3 9 [.string (str v)], Store sb db y.2.1, Disk db y.2.2]) := by
  refine does_of Tryz.func64 Tryz.ntmps64 rfl rfl rfl (fun w0 F0 => ?_)
  (repeat (first | refine g_seq (h := ?_) | refine g_region (h := ?_) | refine l_nil (h := ?_) | refine n_then (h := ?_) | refine l_pures1 (h := ?_)))
  (refine g_draw [tx t sb r 0 false, cl b1 24 [.pointer (some ⟨t, 0, none⟩)], cl b2 30 [.int .u64 x], cl b3 9 [.string (str v)]] (h := a_pass2 (h := ?_)))
  (repeat' (first | refine g_seq (h := ?_) | refine g_region (h := ?_) | refine l_nil (h := ?_) | refine n_then (h := ?_) | refine l_pures1 (h := ?_) | (refine l_atc ?_; refine l_call_ (hp) ?_; rintro _ _ _ ⟨m, S', D', rfl, rfl, hP⟩ he; cases he) | refine l_load (h := ?_) | refine l_store (h := ?_) | refine g_ret (h := ?_) | refine a_done (h := ?_) | refine a_load (h := a_pass2 (h := ?_)) | refine a_one (h := ?_) | refine n_any (h := a_pass2 (h := ?_)) | refine g_cond_t (h := ?_)))
  refine r_retk [tx t sb m 0 false, cl b1 24 [.pointer (some ⟨t, 0, none⟩)], cl b2 30 [.int .u64 x], cl b3 9 [.string (str v)], Store sb db S', Disk db D'] ?_
  exact ⟨(m, S', D'), hP, rfl, rfl⟩

theorem txGet1 (t sb db b1 b2 b3 x : Nat) (r : Int) (S : Sh) (D : Dk) (o : Option (List UInt8))
    (hp : Does Tryz.prog 69 [.pointer (some ⟨sb, 0, none⟩), .int .i64 r, .int .u64 x] [Store sb db S, Disk db D] (fun u H => u = getV o ∧ H = [Store sb db S, Disk db D])) :
    Does Tryz.prog 68 [.pointer (some ⟨b1, 0, none⟩), .pointer (some ⟨b2, 0, none⟩), .pointer (some ⟨b3, 0, none⟩)] [tx t sb r 0 false, cl b1 24 [.pointer (some ⟨t, 0, none⟩)], cl b2 30 [.int .u64 x], cl b3 9 [.string { data := #[] }], Store sb db S, Disk db D]
      (fun u H => ∃ y : Unit, True ∧ u = .tuple #[.bool o.isSome, .int .i64 0] ∧ H = [tx t sb r 0 false, cl b1 24 [.pointer (some ⟨t, 0, none⟩)], cl b2 30 [.int .u64 x], cl b3 9 [.string (str (o.getD []))], Store sb db S, Disk db D]) := by
  refine does_of Tryz.func68 Tryz.ntmps68 rfl rfl rfl (fun w0 F0 => ?_)
  (repeat (first | refine g_seq (h := ?_) | refine g_region (h := ?_) | refine l_nil (h := ?_) | refine n_then (h := ?_) | refine l_pures1 (h := ?_)))
  (refine g_draw [tx t sb r 0 false, cl b1 24 [.pointer (some ⟨t, 0, none⟩)], cl b2 30 [.int .u64 x]] (h := a_pass2 (h := ?_)))
  (repeat' (first | refine g_seq (h := ?_) | refine g_region (h := ?_) | refine l_nil (h := ?_) | refine n_then (h := ?_) | refine l_pures1 (h := ?_) | (refine l_atc ?_; refine l_call (hp) ?_) | refine l_store (h := ?_) | refine g_ret (h := ?_) | refine a_done (h := ?_) | refine a_load (h := a_pass2 (h := ?_)) | refine a_one (h := ?_) | refine n_any (h := a_pass2 (h := ?_))))
  refine r_retk [tx t sb r 0 false, cl b1 24 [.pointer (some ⟨t, 0, none⟩)], cl b2 30 [.int .u64 x], cl b3 9 [.string (str (o.getD []))], Store sb db S, Disk db D] ?_
  exact ⟨(), trivial, rfl, rfl⟩

theorem txScan1 (t sb db b1 b2 b3 b4 x : Nat) (r most : Int) (S : Sh) (D : Dk) (l : List Ent)
    (hp : Does Tryz.prog 71 [.pointer (some ⟨sb, 0, none⟩), .int .i64 r, .int .u64 x, .int .i64 most] [Store sb db S, Disk db D] (fun u H => ∃ p cap, u = .tuple #[.slice p l.length cap, .int .i64 0] ∧ H = [vec 199 2 p l.length cap (entC l), Store sb db S, Disk db D])) :
    Does Tryz.prog 70 [.pointer (some ⟨b1, 0, none⟩), .pointer (some ⟨b2, 0, none⟩), .pointer (some ⟨b3, 0, none⟩), .pointer (some ⟨b4, 0, none⟩)] [tx t sb r 0 false, cl b1 24 [.pointer (some ⟨t, 0, none⟩)], cl b2 30 [.int .u64 x], cl b3 3 [.int .i64 most], cl b4 50 [.slice none 0 0], Store sb db S, Disk db D]
      (fun u H => ∃ y : Option Addr × Nat, True ∧ u = .tuple #[.bool true, .int .i64 0] ∧ H = [tx t sb r 0 false, cl b1 24 [.pointer (some ⟨t, 0, none⟩)], cl b2 30 [.int .u64 x], cl b3 3 [.int .i64 most], cl b4 50 [.slice y.1 l.length y.2], vec 199 2 y.1 l.length y.2 (entC l), Store sb db S, Disk db D]) := by
  refine does_of Tryz.func70 Tryz.ntmps70 rfl rfl rfl (fun w0 F0 => ?_)
  (repeat (first | refine g_seq (h := ?_) | refine g_region (h := ?_) | refine l_nil (h := ?_) | refine n_then (h := ?_) | refine l_pures1 (h := ?_)))
  (refine g_draw [tx t sb r 0 false, cl b1 24 [.pointer (some ⟨t, 0, none⟩)], cl b2 30 [.int .u64 x], cl b3 3 [.int .i64 most]] (h := a_pass2 (h := ?_)))
  (repeat' (first | refine g_seq (h := ?_) | refine g_region (h := ?_) | refine l_nil (h := ?_) | refine n_then (h := ?_) | refine l_pures1 (h := ?_) | (refine l_atc ?_; refine l_call_ (hp) ?_; rintro _ _ _ ⟨q, cap, rfl, rfl⟩ he; cases he) | refine l_store (h := ?_) | refine g_ret (h := ?_) | refine a_done (h := ?_) | refine a_load (h := a_pass2 (h := ?_)) | refine a_one (h := ?_) | refine n_any (h := a_pass2 (h := ?_))))
  refine r_retk [tx t sb r 0 false, cl b1 24 [.pointer (some ⟨t, 0, none⟩)], cl b2 30 [.int .u64 x], cl b3 3 [.int .i64 most], cl b4 50 [.slice q l.length cap], vec 199 2 q l.length cap (entC l), Store sb db S, Disk db D] ?_
  exact ⟨(q, cap), trivial, rfl, rfl⟩

/-! The calls -/
set_option maxHeartbeats 2000000 in
theorem tGet_does (P : TxP) (T : List Ent) (x : Nat) : Does Tryz.prog 29 [.pointer (some ⟨P.t, 0, none⟩), .int .u64 x] [Tx P T] (fun v H => v = optV (getE T x) ∧ H = [Tx P T]) := by
  refine does_of Tryz.func29 Tryz.ntmps29 rfl rfl rfl (fun w0 F0 => ?_)
  refine g_open (A := Tx P T) (h := ?_); (rintro ⟨r, S, D⟩ k; dsimp only [TxK, List.cons_append, List.nil_append])
  have hg := get_tree P.sb P.db x P.N r P.U T S D k.st.fine k.tree
  (repeat (first | refine g_seq (h := ?_) | refine g_region (h := ?_) | refine l_nil (h := ?_) | refine n_then (h := ?_) | refine l_pures1 (h := ?_) | refine l_load (h := ?_) | (refine l_box (h := ?_); intro _) | (refine l_alloc (h := ?_); intro _)))
  rename_i b1 b2 b3
  have h1 := txDoes5 P.t P.sb _ _ r (fun _ : Unit => True) (fun _ => (getE T x).isSome) (fun _ => r) _ _ _ _ _ (fun _ => _) (fun _ => _) (fun _ => _) (fun _ => _) (fun _ => _) (txGet1 P.t P.sb P.db b1 b2 b3 x r S D (getE T x) hg)
  (repeat' (first | refine g_seq (h := ?_) | refine g_region (h := ?_) | refine l_nil (h := ?_) | refine n_then (h := ?_) | refine l_pures1 (h := ?_) | (refine l_atc ?_; refine l_call_ (h1) ?_; rintro _ _ _ ⟨y, hy, rfl, rfl⟩ he; cases he) | refine l_load (h := ?_) | refine l_store (h := ?_) | refine g_ret (h := ?_)))
  (refine n_shut (A := Tx P T) (K := TxK P T ((r, S, D))) (hid_shuts ((r, S, D)) k) (h := ?_) (p := by dsimp only [TxK]; (try simp only [List.map_nil, List.length_nil, List.length_set, List.length_append, List.length_cons, List.length_singleton, List.map_append, List.map_cons, Nat.zero_add]); exact parts_of))
  refine r_retk [Tx P T] ?_
  exact ⟨rfl, rfl⟩
set_option maxHeartbeats 2000000 in
theorem tPutOf (P : TxP) (T T' : List Ent) (x : Nat) (v : List UInt8) (hv : v.length ≤ 40)
    (hp : ∀ r S D, TxI P T (r, S, D) → Does Tryz.prog 65 [.pointer (some ⟨P.sb, 0, none⟩), .int .i64 r, .int .u64 x, .string (str v)] [Store P.sb P.db S, Disk P.db D] (fun u H => ∃ m S' D', u = .tuple #[.int .i64 m, .int .i64 0] ∧ H = [Store P.sb P.db S', Disk P.db D'] ∧ TxI P T' (m, S', D'))) :
    Does Tryz.prog 26 [.pointer (some ⟨P.t, 0, none⟩), .int .u64 x, .string (str v)] [Tx P T] (fun u H => u = .bool true ∧ H = [Tx P T']) := by
  refine does_of Tryz.func26 Tryz.ntmps26 rfl rfl rfl (fun w0 F0 => ?_)
  refine g_open (A := Tx P T) (h := ?_); (rintro ⟨r, S, D⟩ k; dsimp only [TxK, List.cons_append, List.nil_append])
  have hp := hp r S D k
  (repeat (first | refine g_seq (h := ?_) | refine g_region (h := ?_) | refine l_nil (h := ?_) | refine n_then (h := ?_) | refine l_pures1 (h := ?_) | refine l_load (h := ?_) | (refine l_box (h := ?_); intro _)))
  rename_i b1 b2 b3
  have h1 := txDoes5 P.t P.sb _ _ r _ (fun _ => true) (fun y : Int × Sh × Dk => y.1) _ _ _ _ _ (fun _ => _) (fun _ => _) (fun _ => _) (fun y => Store P.sb P.db y.2.1) (fun y => Disk P.db y.2.2) (txPut1 P.t P.sb P.db b1 b2 b3 x v r S D _ hp)
  (repeat' (first | refine l_nil (h := ?_) | refine n_then (h := ?_) | refine l_pures1 (h := ?_) | (refine l_atc ?_; refine l_call_ (h1) ?_; rintro _ _ _ ⟨⟨r', S', D'⟩, hy, rfl, rfl⟩ he; cases he) | refine l_guard_yes (h := ?_) | refine l_load (h := ?_) | refine g_ret (h := ?_) | (refine l_spT (h := ?_); intro h)))
  (refine n_shut (A := Tx P T') (K := TxK P T' ((r', S', D'))) (hid_shuts ((r', S', D')) hy) (h := ?_) (p := by dsimp only [TxK]; (try simp only [List.map_nil, List.length_nil, List.length_set, List.length_append, List.length_cons, List.length_singleton, List.map_append, List.map_cons, Nat.zero_add]); exact parts_of))
  refine r_retk [Tx P T'] ?_
  exact ⟨rfl, rfl⟩
theorem tPut_does (P : TxP) (T : List Ent) (x : Nat) (v : List UInt8) (hx : x < 18446744073709551616) (hv : v.length ≤ 40) (room : P.room T) : Does Tryz.prog 26 [.pointer (some ⟨P.t, 0, none⟩), .int .u64 x, .string (str v)] [Tx P T] (fun u H => u = .bool true ∧ H = [Tx P (putE T x v)]) :=
  tPutOf P T _ x v hv fun r S D k => by
    refine (put_tree P.sb P.db x P.N v r P.U T S D k.st.fine k.tree hx hv (k.roomy room)).mono ?_
    rintro u H ⟨m, S', D', rfl, rfl, q1, q2, q3, q4⟩
    exact ⟨m, S', D', rfl, rfl, k.put q2 q1 q3 q4⟩
set_option maxHeartbeats 2000000 in
theorem tScan_does (P : TxP) (T : List Ent) (x : Nat) (most : Int) (hT : T.length < 10000) (hm : -9223372036854775808 ≤ most ∧ most < 9223372036854775808) : Does Tryz.prog 30 [.pointer (some ⟨P.t, 0, none⟩), .int .u64 x, .int .i64 most] [Tx P T]
    (fun v H => ∃ p cap, v = .slice p ((geE T x).take most.toNat).length cap ∧ H = [vec 199 2 p ((geE T x).take most.toNat).length cap (entC ((geE T x).take most.toNat)), Tx P T]) := by
  refine does_of Tryz.func30 Tryz.ntmps30 rfl rfl rfl (fun w0 F0 => ?_)
  refine g_open (A := Tx P T) (h := ?_); (rintro ⟨r, S, D⟩ k; dsimp only [TxK, List.cons_append, List.nil_append])
  have hs := scan_tree P.sb P.db x P.N r most P.U T S D k.st.fine k.tree hT hm
  (repeat (first | refine g_seq (h := ?_) | refine g_region (h := ?_) | refine l_nil (h := ?_) | refine n_then (h := ?_) | refine l_pures1 (h := ?_) | refine l_load (h := ?_) | (refine l_box (h := ?_); intro _) | (refine l_alloc (h := ?_); intro _)))
  rename_i b1 b2 b3 b4
  have h1 := txDoes6 P.t P.sb _ _ r (fun _ : Option Addr × Nat => True) (fun _ => true) (fun _ => r) _ _ _ _ _ _ (fun _ => _) (fun _ => _) (fun _ => _) (fun y => _) (fun y => _) (fun _ => _) (fun _ => _) (txScan1 P.t P.sb P.db b1 b2 b3 b4 x r most S D _ hs)
  (repeat' (first | refine g_seq (h := ?_) | refine g_region (h := ?_) | refine l_nil (h := ?_) | refine n_then (h := ?_) | (refine l_atc ?_; refine l_call_ (h1) ?_; rintro _ _ _ ⟨⟨q, cap⟩, hy, rfl, rfl⟩ he; cases he) | refine l_load (h := ?_) | refine l_store (h := ?_) | refine g_ret (h := ?_)))
  (refine n_shut (A := Tx P T) (K := TxK P T ((r, S, D))) (hid_shuts ((r, S, D)) k) (h := ?_) (p := by dsimp only [TxK]; (try simp only [List.map_nil, List.length_nil, List.length_set, List.length_append, List.length_cons, List.length_singleton, List.map_append, List.map_cons, Nat.zero_add]); exact parts_of))
  refine r_retk [vec 199 2 q ((geE T x).take most.toNat).length cap (entC ((geE T x).take most.toNat)), Tx P T] ?_
  exact ⟨q, cap, rfl, rfl⟩
theorem tErr_does (P : TxP) (T : List Ent) : Does Tryz.prog 28 [.pointer (some ⟨P.t, 0, none⟩)] [Tx P T] (fun v H => v = .int .i64 0 ∧ H = [Tx P T]) := by
  refine does_of Tryz.func28 Tryz.ntmps28 rfl rfl rfl (fun w0 F0 => ?_)
  refine g_open (A := Tx P T) (h := ?_); (rintro ⟨r, S, D⟩ k; dsimp only [TxK, List.cons_append, List.nil_append])
  (repeat' (first | refine g_seq (h := ?_) | refine g_region (h := ?_) | refine l_nil (h := ?_) | refine n_then (h := ?_) | refine l_pures1 (h := ?_) | refine l_load (h := ?_) | refine g_ret (h := ?_)))
  (refine n_shut (A := Tx P T) (K := TxK P T ((r, S, D))) (hid_shuts ((r, S, D)) k) (h := ?_) (p := by dsimp only [TxK]; (try simp only [List.map_nil, List.length_nil, List.length_set, List.length_append, List.length_cons, List.length_singleton, List.map_append, List.map_cons, Nat.zero_add]); exact parts_of))
  refine r_retk [Tx P T] ?_
  exact ⟨rfl, rfl⟩
end Go.Proofs.YtmfmommgooccnaaGreat
/- Package txn: how a transaction begins and ends. -/
set_option maxRecDepth 20000
set_option linter.unusedVariables false
set_option linter.unusedSimpArgs false
namespace Go.Proofs.YtmfmommgooccnaaGreat
open Go.Proofs.YtmfmommgooccnaaGreat.SL

/-- A store at rest: nothing is fresh, nothing given. -/
def StR (P : TxP) (y : Sh × Dk) : Prop := StI P y ∧ y.1.fresh = [] ∧ y.1.given = []
def StoK (P : TxP) (y : Sh × Dk) : List SProp := [Store P.sb P.db y.1, Disk P.db y.2]
def Sto (P : TxP) : SProp := hid (StR P) (StoK P)
theorem StI.roll {P : TxP} {S : Sh} {D : Dk} (k : StI P (S, D)) : StR P (S.roll, D) := ⟨⟨k.fine.roll, k.gen, k.old⟩, rfl, rfl⟩
/-- A transaction's place. -/
def TxP.at (P : TxP) (t : Nat) : TxP := ⟨t, P.sb, P.db, P.N, P.U, P.g, P.T0⟩

set_option maxHeartbeats 2000000 in
theorem begin_does (P : TxP) : Does Tryz.prog 25 [.pointer (some ⟨P.sb, 0, none⟩)] [Sto P] (fun v H => ∃ t, v = .pointer (some ⟨t, 0, none⟩) ∧ H = [Tx (P.at t) P.T0]) := by
  refine does_of Tryz.func25 Tryz.ntmps25 rfl rfl rfl (fun w0 F0 => ?_)
  refine g_open (A := Sto P) (h := ?_); (rintro ⟨S, D⟩ ⟨k, hf, hv⟩; dsimp only [StoK, List.cons_append, List.nil_append])
  have hrt : Does Tryz.prog 62 [.pointer (some ⟨P.sb, 0, none⟩)] [Store P.sb P.db S.roll] (fun v H => v = .int .i64 S.root ∧ H = [Store P.sb P.db S.roll]) := sRoot_does P.sb P.db S.roll
  (repeat' (first | refine g_seq (h := ?_) | refine g_region (h := ?_) | refine l_nil (h := ?_) | refine n_then (h := ?_) | refine l_pures1 (h := ?_) | (refine l_atc ?_; refine l_call (sRollback_does P.sb P.db S) ?_) | (refine l_atc ?_; refine l_call (hrt) ?_) | (refine l_box (h := ?_); intro _) | refine g_ret (h := ?_)))
  rename_i t
  (refine n_shut (A := Tx (P.at t) P.T0) (K := TxK (P.at t) P.T0 ((S.root, S.roll, D))) (hid_shuts ((S.root, S.roll, D)) (⟨⟨k.fine.roll, k.gen, k.old⟩, k.old⟩)) (h := ?_) (p := by dsimp only [TxK]; (try simp only [List.map_nil, List.length_nil, List.length_set, List.length_append, List.length_cons, List.length_singleton, List.map_append, List.map_cons, Nat.zero_add, TxP.at]); exact parts_of))
  refine r_retk [Tx (P.at t) P.T0] ?_
  exact ⟨t, rfl, rfl⟩

/-- What a commit leaves: other pages, the next generation, another tree. -/
def TxP.next (P : TxP) (U : List Int) (T : List Ent) : TxP := ⟨P.t, P.sb, P.db, P.N, U, P.g + 1, T⟩
/-! A store on a new disk -/
def TxP.new (t sb db n : Nat) : TxP := ⟨t, sb, db, n, [], headNew.over.gen, []⟩
theorem sto_new {sb db n : Nat} {E : Dk} (k : Tr n headNew.over E [] 0 [] 0) : StR (TxP.new 0 sb db n) (headNew.over, E) := ⟨⟨k.fine, rfl, k.tree⟩, rfl, rfl⟩
end Go.Proofs.YtmfmommgooccnaaGreat
/- Package slot: slots in a transaction. -/
set_option maxRecDepth 20000
set_option linter.unusedVariables false
set_option linter.unusedSimpArgs false
namespace Go.Proofs.YtmfmommgooccnaaGreat
open Go.Proofs.YtmfmommgooccnaaGreat.SL

/-! All slots, in a list -/
end Go.Proofs.YtmfmommgooccnaaGreat

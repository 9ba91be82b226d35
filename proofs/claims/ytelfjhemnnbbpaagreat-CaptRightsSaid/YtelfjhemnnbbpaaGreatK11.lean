/- Texts CaT, EnN, CaK, CaV, CaY, CaW, joined. -/
import Derived.Test.YtelfjhemnnbbpaaGreatK10
set_option linter.unusedVariables false
set_option linter.unusedSimpArgs false
set_option maxRecDepth 20000
namespace Go.Proofs.YtelfjhemnnbbpaaGreat
open Go.Proofs.YtelfjhemnnbbpaaGreat.SL
theorem ct_of {g : FuncId} {args : List Value} {P : TxP} {s s' : CS} {V : Value} (h : ∀ T, CtI P s T → Does Tryz.prog g args [Tx P T] (fun v H => ∃ T', v = V ∧ H = [Tx P T'] ∧ CtI P s' T')) : Does Tryz.prog g args [Ct P s] (fun v H => v = V ∧ H = [Ct P s']) := by
 refine does_opens (H := []) (p := CtI P s) (K := CtK P s) hid_opens fun T k => does_post (h T k) ?_
 rintro v H1 ⟨T', rfl, rfl, k'⟩ w0 F0 w i
 exact ⟨[Ct P s'], ⟨rfl, rfl⟩, Inv.shuts (K := CtK P s' T') (hid_shuts (p := CtI P s') (K := CtK P s') T' k') i⟩
theorem ct_same {g : FuncId} {args : List Value} {P : TxP} {s : CS} {V : Value} (h : ∀ T, CtI P s T → Does Tryz.prog g args [Tx P T] (fun v H => v = V ∧ H = [Tx P T])) : Does Tryz.prog g args [Ct P s] (fun v H => v = V ∧ H = [Ct P s]) :=
 ct_of fun T k => (h T k).mono fun v H ⟨h1, h2⟩ => ⟨T, h1, h2, k⟩
theorem cReg_does (P : TxP) (s : CS) (room : roomC P s) (nm f : List UInt8) (limit : Nat) (hfo : FoldTo nm f) (hff : FoldTo f f) (hfl : f.length ≤ 32) (hl : limit ≤ 1000) (hn : s.ow.length < 1000) (hno : ∀ n, isNm s f n = false) :
  Does Tryz.prog 12 [.pointer (some ⟨P.t, 0, none⟩), .string (str nm), .int .i64 limit] [Ct P s] (fun v H => v = .tuple #[.int .i64 (s.ow.length + 1 : Nat), .int .i64 0] ∧ H = [Ct P (s.addO ⟨f, limit, 0⟩)]) :=
 ct_of fun T k => (register_does P s T k room nm f limit hfo hff hfl hl hn hno).mono fun v H ⟨T', h1, h2, h3⟩ => ⟨T', h1, h2, h3, addO_ok k.ok ⟨by omega, hff, hfl, hl, by simp⟩ hn⟩
theorem hav_ok {o : Ow} {n : Nat} (h : o.ok n) (hq : o.hav < o.limit) : Ow.ok n ⟨o.name, o.limit, o.hav + 1⟩ := ⟨h.id, h.name, h.len, h.limit, by show o.hav + 1 ≤ o.limit; omega⟩
theorem mintOk {s : CS} {owner object mask badge expiry : Nat} {o : Ow} (ok : s.ok) (ho : s.owAt owner = some o) (hob : 1 ≤ object ∧ object ≤ 16777215) (hm : mask < 65536) (hb : badge < 4294967296) (he : expiry ≤ 268435455) (hn : s.cp.length < 1000) : Cp.ok (s.cp.length + 1) ⟨0, object, owner, mask, badge, 1, expiry, 0, false, true⟩ := by
 have h1 := owAt_lt ho
 have h2 := ok.size
 exact ⟨by omega, by simp, by simp, hob, by show 1 ≤ owner ∧ owner ≤ 16777215; omega, hm, hb, by simp, he, by simp, by simp⟩
theorem cMint_does (P : TxP) (s : CS) (room : roomC P s) (owner object mask badge expiry : Nat) (o : Ow) (ho : s.owAt owner = some o) (hob : 1 ≤ object ∧ object ≤ 16777215) (hm : mask < 65536) (hb : badge < 4294967296) (he : expiry ≤ 268435455) (hq : o.hav < o.limit) (hn : s.cp.length < 1000) :
  Does Tryz.prog 14 [.pointer (some ⟨P.t, 0, none⟩), .int .i64 owner, .int .i64 object, .int .i64 mask, .int .i64 badge, .int .i64 expiry] [Ct P s]
   (fun v H => v = .tuple #[.int .i64 (s.cp.length + 1 : Nat), .int .i64 0] ∧ H = [Ct P (s.add ⟨0, object, owner, mask, badge, 1, expiry, 0, false, true⟩ ⟨o.name, o.limit, o.hav + 1⟩)]) :=
 ct_of fun T k => by
  have hc := mintOk k.ok ho hob hm hb he hn
  exact (mint_does P s T k room owner object mask badge expiry o ho hob hm hb he hq hc).mono fun v H ⟨T', h1, h2, h3⟩ => ⟨T', h1, h2, h3, add_ok k.ok ho hc (hav_ok (k.ok.ow _ _ ho) hq) (fun h => absurd rfl h) hn⟩
theorem derOk {s : CS} {parent owner mask badge expiry : Nat} {p : Cp} {o : Ow} (ok : s.ok) (hp : s.capAt parent = some p) (ho : s.owAt owner = some o) (hm : mask < 65536) (hb : badge < 4294967296) (he : expiry ≤ 268435455) (hd : p.depth < 8) (hn : s.cp.length < 1000) : Cp.ok (s.cp.length + 1) ⟨parent, p.object, owner, mask, badge, p.depth + 1, expiry, 0, false, true⟩ := by
 have h1 := owAt_lt ho
 have h2 := ok.size
 have h3 := capAt_lt hp
 have h4 := ok.cp _ _ hp
 have h5 := h4.depth
 exact ⟨by omega, by show parent ≤ 16777215; omega, by show parent ≠ s.cp.length + 1; omega, h4.object, by show 1 ≤ owner ∧ owner ≤ 16777215; omega, hm, hb, by show 1 ≤ p.depth + 1 ∧ p.depth + 1 ≤ 8; omega, he, by simp, by show p.depth + 1 = 1 ↔ parent = 0; omega⟩
theorem cDer_does (P : TxP) (s : CS) (room : roomC P s) (parent owner mask badge expiry : Nat) (now : Int) (p : Cp) (o : Ow) (hp : s.capAt parent = some p) (hst : s.state parent now = 0) (ho : s.owAt owner = some o) (hm : mask < 65536) (hb : badge < 4294967296) (he : expiry ≤ 268435455) (hs : subB mask p.rights = true) (hd : p.depth < 8) (hq : o.hav < o.limit) (hn : s.cp.length < 1000) :
  Does Tryz.prog 15 [.pointer (some ⟨P.t, 0, none⟩), .int .i64 parent, .int .i64 owner, .int .i64 mask, .int .i64 badge, .int .i64 expiry, .int .i64 now] [Ct P s]
   (fun v H => v = .tuple #[.int .i64 (s.cp.length + 1 : Nat), .int .i64 0] ∧ H = [Ct P (s.add ⟨parent, p.object, owner, mask, badge, p.depth + 1, expiry, 0, false, true⟩ ⟨o.name, o.limit, o.hav + 1⟩)]) :=
 ct_of fun T k => by
  have hc := derOk k.ok hp ho hm hb he hd hn
  exact (derive_does P s T k room parent owner mask badge expiry now p o hp hst ho hm hb he hs hd hq hc).mono fun v H ⟨T', h1, h2, h3⟩ => ⟨T', h1, h2, h3, add_ok k.ok ho hc (hav_ok (k.ok.ow _ _ ho) hq) (fun _ => ⟨p, hp, rfl⟩) hn⟩
theorem cDerNot_does (P : TxP) (s : CS) (parent owner mask badge expiry : Nat) (now : Int) (p : Cp) (o : Ow) (hp : s.capAt parent = some p) (hst : s.state parent now = 0) (ho : s.owAt owner = some o) (hm : mask < 65536) (hb : badge < 4294967296) (he : expiry ≤ 268435455) (hs : subB mask p.rights = false) :
  Does Tryz.prog 15 [.pointer (some ⟨P.t, 0, none⟩), .int .i64 parent, .int .i64 owner, .int .i64 mask, .int .i64 badge, .int .i64 expiry, .int .i64 now] [Ct P s] (fun v H => v = .tuple #[.int .i64 0, .int .i64 7] ∧ H = [Ct P s]) :=
 ct_same fun T k => deriveNot_does P s T k parent owner mask badge expiry now p o hp hst ho hm hb he hs
theorem cGet_does (P : TxP) (s : CS) (n : Nat) (c : Cp) (hc : s.capAt n = some c) : Does Tryz.prog 17 [.pointer (some ⟨P.t, 0, none⟩), .int .i64 n] [Ct P s] (fun v H => v = .tuple #[.agg (cpA n c), .int .i64 0] ∧ H = [Ct P s]) :=
 ct_same fun T k => getCapAt_does P s T n c k hc
theorem cEnds_does (P : TxP) (s : CS) (n : Nat) (c : Cp) (hc : s.capAt n = some c) : Does Tryz.prog 24 [.pointer (some ⟨P.t, 0, none⟩), .int .i64 n] [Ct P s] (fun v H => v = .tuple #[.int .i64 (endsL (s.up 9 n) : Nat), .int .i64 0] ∧ H = [Ct P s]) :=
 ct_same fun T k => ends_does P s T n c k hc
theorem cState_does (P : TxP) (s : CS) (n : Nat) (now : Int) (c : Cp) (hc : s.capAt n = some c) : Does Tryz.prog 22 [.pointer (some ⟨P.t, 0, none⟩), .int .i64 n, .int .i64 now] [Ct P s] (fun v H => v = .int .i64 (s.state n now) ∧ H = [Ct P s]) :=
 ct_same fun T k => state_does P s T n now c k hc
theorem up_fuel {s : CS} (ok : s.ok) : ∀ (f g n : Nat) (c : Cp), s.capAt n = some c → c.depth ≤ f → c.depth ≤ g → s.up f n = s.up g n
 | 0, _, n, c, h, hf, _ => by have := (ok.cp n c h).depth; omega
 | _ + 1, 0, n, c, h, _, hg => by have := (ok.cp n c h).depth; omega
 | f + 1, g + 1, n, c, h, hf, hg => by
  rw [up_some h, up_some h]
  by_cases q : c.parent = 0
  ·rw [if_pos q, if_pos q]
  ·rw [if_neg q, if_neg q]
   obtain ⟨p, hp, hd⟩ := ok.par n c h q
   rw [up_fuel ok f g c.parent p hp (by omega) (by omega)]
theorem up_step {s : CS} (ok : s.ok) {n : Nat} {c : Cp} (h : s.capAt n = some c) : s.up 9 n = (n, c) :: if c.parent = 0 then [] else s.up 9 c.parent := by
 rw [up_some h]
 by_cases q : c.parent = 0
 ·rw [if_pos q, if_pos q]
 ·rw [if_neg q, if_neg q]
  obtain ⟨p, hp, hd⟩ := ok.par n c h q
  have := (ok.cp n c h).depth
  rw [up_fuel ok 8 9 c.parent p hp (by omega) (by omega)]
def lmin (a b : Nat) : Nat := if a = 0 then b else if b = 0 then a else min a b
theorem endF_lmin (a : Nat) (c : Cp) : endF a c = lmin c.expiry a := by
 unfold endF lmin
 split
 ·rename_i q
  split
  ·omega
  ·split <;> omega
 ·rename_i q
  split
  ·rfl
  ·split <;> omega
theorem lmin_assoc (a b c : Nat) : lmin a (lmin b c) = lmin (lmin a b) c := by
 unfold lmin
 repeat' split
 all_goals omega
theorem lmin_comm (a b : Nat) : lmin a b = lmin b a := by
 unfold lmin
 repeat' split
 all_goals omega
theorem ends_from : ∀ (l : List (Nat × Cp)) (a : Nat), l.foldl (fun a e => endF a e.2) a = lmin a (endsL l)
 | [], a => by simp [endsL, lmin]
 | e :: l, a => by
  unfold endsL
  rw [List.foldl_cons, List.foldl_cons, ends_from l, ends_from l, endF_lmin, endF_lmin, lmin_assoc, lmin_comm e.2.expiry a, lmin_assoc]
  congr 1
  unfold lmin
  repeat' split
  all_goals omega
theorem endsL_cons (e : Nat × Cp) (l : List (Nat × Cp)) : endsL (e :: l) = lmin e.2.expiry (endsL l) := by
 conv => lhs; unfold endsL
 rw [List.foldl_cons, ends_from, endF_lmin]
 congr 1
 unfold lmin
 repeat' split
 all_goals omega
end Go.Proofs.YtelfjhemnnbbpaaGreat
set_option maxRecDepth 20000
namespace Go.Proofs.YtelfjhemnnbbpaaGreat
open Go.Proofs.YtelfjhemnnbbpaaGreat.SL
def encN (n : Nat) : Value := .int .i64 (n : Nat)
theorem encN_get {D : List Nat} {q : Nat} (h : q < D.length) : (D.map encN)[0 + ((q : Nat) : Int).toNat * 1]? = some (.int .i64 (D[q] : Nat)) := by
 rw [Int.toNat_natCast, Nat.zero_add, Nat.mul_one, List.getElem?_map, List.getElem?_eq_getElem h]; rfl
end Go.Proofs.YtelfjhemnnbbpaaGreat
set_option maxRecDepth 20000
namespace Go.Proofs.YtelfjhemnnbbpaaGreat
open Go.Proofs.YtelfjhemnnbbpaaGreat.SL
def addK (fr : Int) (ids : List Nat) (id : Nat) : List Nat := if fr ≤ (id : Int) then ids ++ [id] else ids
def stopK (fr : Int) (most : Nat) (ids : List Nat) (id : Nat) : Bool := decide (fr ≤ (id : Int)) && decide (ids.length + 1 = most)
abbrev KiK (l n : Nat) (tm : List (Nat × Value)) (asg body : Code) (st : LoopState) (pe : Option Code) (b6 b7 b10 : Nat) (fr : Int) (most : Nat) (ids : List Nat) (x : Option Addr × Nat) : List SProp :=
 [lp l n tm #[25] asg body st pe, cl b6 3 [.int .i64 fr], cl b7 3 [.int .i64 most], cl b10 44 [.slice x.1 ids.length x.2], vec 3 1 x.1 ids.length x.2 (ids.map encN)]
def Ki (l n : Nat) (tm : List (Nat × Value)) (asg body : Code) (st : LoopState) (pe : Option Code) (b6 b7 b10 : Nat) (fr : Int) (most : Nat) (ids : List Nat) : SProp := hid (fun _ : Option Addr × Nat => True) (KiK l n tm asg body st pe b6 b7 b10 fr most ids)
set_option maxHeartbeats 4000000 in
theorem ki_yields0 (P : TxP) (T : List Ent) (l b6 b7 b10 id : Nat) (fr : Int) (most : Nat) (ids : List Nat) (x : Option Addr × Nat) (tm0 : List (Nat × Value)) (asg body : Code) (hl : ids.length < 100000) (hm : most < 1000000000) (w6 : tget tm0 6 = some (.pointer (some ⟨b6, 0, none⟩))) (w7 : tget tm0 7 = some (.pointer (some ⟨b7, 0, none⟩))) (w10 : tget tm0 10 = some (.pointer (some ⟨b10, 0, none⟩)))
  (hA : asg = rfA (nav [1, 1, 1, 0, 1, 2] (bdy Tryz.f18))) (hB : body = rfB (nav [1, 1, 1, 0, 1, 2] (bdy Tryz.f18))) :
  SL.Yields Tryz.prog l [.int .i64 id] (KiK l 43 tm0 asg body .ready none b6 b7 b10 fr most ids x ++ [Tx P T])
   (fun v H => v = .bool (!stopK fr most ids id) ∧ ∃ x' R, Parts (if stopK fr most ids id = true then KiK l 43 tm0 asg body .done (some (.exit 0)) b6 b7 b10 fr most (addK fr ids id) x' ++ [Tx P T] else KiK l 43 tm0 asg body .ready none b6 b7 b10 fr most (addK fr ids id) x' ++ [Tx P T]) H R) := by
 obtain ⟨p, cap⟩ := x
 dsimp only [KiK, List.cons_append, List.nil_append]
 refine yields_of (ps := [25]) (fun w0 F0 => ?_)
 refine gr_weak (tm' := [(25, .int .i64 id), (6, .pointer (some ⟨b6, 0, none⟩)), (7, .pointer (some ⟨b7, 0, none⟩)), (10, .pointer (some ⟨b10, 0, none⟩))]) ⟨rfl, w6, w7, w10, trivial⟩ (fun i => i) ?_
 have e0 : (ids ++ [id]).length = ids.length + 1 := by simp
 have e1 : ids.map encN ++ [Value.int .i64 id] = (ids ++ [id]).map encN := by simp [encN]
 refine gr_as hA ?_
 dsimp only [rfA, nav, bdy, Tryz.f18, Option.getD]
 (repeat (first|refine l_nil (h:=?_)|refine l_pures1 (h:=?_)|refine gr_region (h:=?_)))
 refine n_begin (h:=?_)
 refine gr_as hB ?_
 dsimp only [rfA, rfB, nav, bdy, Tryz.f18, Option.getD]
 by_cases q1 : fr ≤ (id : Int)
 ·have ea : addK fr ids id = ids ++ [id] := if_pos q1
  rw [ea]
  by_cases q2 : ids.length + 1 = most
  ·have es : stopK fr most ids id = true := by simp [stopK, q1, q2]
   rw [es]
   (repeat' (first|refine l_nil (h:=?_)|refine l_pures1 (h:=?_)|refine l_load (h:=?_)|refine l_store (h:=?_)|(refine l_buildSlice1 (h:=?_); intro _)|(refine l_append_new (h:=?_); intro _ _)|refine n_block_miss (h:=?_)|refine gr_seq (h:=?_)|refine gr_region (h:=?_)|refine nr_then (h:=?_)|refine gr_block (h:=?_)|refine gr_skip (h:=?_)|refine gr_exit (h:=?_)|(refine gr_spT (h:=?_); intro h)|(refine gr_spF (h:=?_); intro h)))
   rename_i p' cap'
   rw [← e0, e1]
   refine n_round_x ⟨rfl, (p', cap'), ?_⟩
   rw [if_pos rfl]
   exact ⟨_, parts_of⟩
  ·have es : stopK fr most ids id = false := by simp [stopK, q2]
   rw [es]
   (repeat' (first|refine l_nil (h:=?_)|refine l_pures1 (h:=?_)|refine l_load (h:=?_)|refine l_store (h:=?_)|(refine l_buildSlice1 (h:=?_); intro _)|(refine l_append_new (h:=?_); intro _ _)|refine n_block (h:=?_)|refine gr_seq (h:=?_)|refine gr_region (h:=?_)|refine nr_then (h:=?_)|refine gr_block (h:=?_)|refine gr_skip (h:=?_)|(refine gr_spF (h:=?_); intro h)))
   rename_i p' cap'
   rw [← e0, e1]
   refine n_round ⟨rfl, (p', cap'), ?_⟩
   rw [if_neg (by simp)]
   exact ⟨_, parts_of⟩
 ·have ea : addK fr ids id = ids := if_neg q1
  have es : stopK fr most ids id = false := by simp [stopK, q1]
  rw [ea, es]
  (repeat' (first|refine l_nil (h:=?_)|refine l_pures1 (h:=?_)|refine l_load (h:=?_)|refine n_then_exit (h:=?_)|refine n_block_hit (h:=?_)|refine gr_seq (h:=?_)|refine gr_region (h:=?_)|refine nr_then (h:=?_)|refine gr_block (h:=?_)|refine gr_exit (h:=?_)|(refine gr_spT (h:=?_); intro h)))
  refine n_round ⟨rfl, (p, cap), ?_⟩
  rw [if_neg (by simp)]
  exact ⟨_, parts_of⟩
theorem ki_yields (P : TxP) (T : List Ent) (l b6 b7 b10 id : Nat) (fr : Int) (most : Nat) (ids : List Nat) (tm0 : List (Nat × Value)) (asg body : Code) (hl : ids.length < 100000) (hm : most < 1000000000) (w6 : tget tm0 6 = some (.pointer (some ⟨b6, 0, none⟩))) (w7 : tget tm0 7 = some (.pointer (some ⟨b7, 0, none⟩))) (w10 : tget tm0 10 = some (.pointer (some ⟨b10, 0, none⟩)))
  (hA : asg = rfA (nav [1, 1, 1, 0, 1, 2] (bdy Tryz.f18))) (hB : body = rfB (nav [1, 1, 1, 0, 1, 2] (bdy Tryz.f18))) :
  SL.Yields Tryz.prog l [.int .i64 id] [Ki l 43 tm0 asg body .ready none b6 b7 b10 fr most ids, Tx P T]
   (fun v H => v = .bool (!stopK fr most ids id) ∧ H = [if stopK fr most ids id = true then Ki l 43 tm0 asg body .done (some (.exit 0)) b6 b7 b10 fr most (addK fr ids id) else Ki l 43 tm0 asg body .ready none b6 b7 b10 fr most (addK fr ids id), Tx P T]) := by
 refine Yields.openR hid_opens ?_
 rintro x _
 refine (ki_yields0 P T l b6 b7 b10 id fr most ids x tm0 asg body hl hm w6 w7 w10 hA hB).post ?_
 rintro v H' ⟨rfl, x', R, hp⟩
 refine ⟨_, ⟨rfl, rfl⟩, ?_⟩
 intro w0 F0 w iv
 cases hc : stopK fr most ids id
 ·rw [hc] at hp
  simp only [Bool.false_eq_true, if_false] at hp ⊢
  exact Inv.shuts (hid_shuts (p := fun _ : Option Addr × Nat => True) (K := KiK l 43 tm0 asg body .ready none b6 b7 b10 fr most (addK fr ids id)) x' trivial) ((iv.parts hp).drop)
 ·rw [hc] at hp
  simp only [if_true] at hp ⊢
  exact Inv.shuts (hid_shuts (p := fun _ : Option Addr × Nat => True) (K := KiK l 43 tm0 asg body .done (some (.exit 0)) b6 b7 b10 fr most (addK fr ids id)) x' trivial) ((iv.parts hp).drop)
def selK (fr : Int) (E : List Nat) (i : Nat) : List Nat := (E.take i).filter fun k : Nat => decide (fr ≤ (k : Int))
theorem selK_succ {fr : Int} {E : List Nat} {i : Nat} (h : i < E.length) : selK fr E (i + 1) = addK fr (selK fr E i) E[i] := by
 unfold selK addK
 rw [List.take_succ_eq_append_getElem h, List.filter_append]
 by_cases q : fr ≤ (E[i] : Int)
 ·rw [if_pos q]; simp [q]
 ·rw [if_neg q]; simp [q]
theorem selK_len {fr : Int} {E : List Nat} {i : Nat} : (selK fr E i).length ≤ i := Nat.le_trans (List.length_filter_le _ _) (List.length_take_le _ _)
theorem selK_all {fr : Int} {E : List Nat} : selK fr E E.length = E.filter fun k : Nat => decide (fr ≤ (k : Int)) := by unfold selK; rw [List.take_length]
theorem selK_few {fr : Int} {E : List Nat} {most : Nat} (hm : 1 ≤ most) : ∀ {i : Nat}, i ≤ E.length → (∀ j (h : j < i), stopK fr most (selK fr E j) (E.getD j 0) = false) → (selK fr E i).length < most
 | 0, _, _ => by simp [selK]; omega
 | i + 1, hi, h => by
  have ih := selK_few hm (i := i) (by omega) (fun j hj => h j (by omega))
  have hs := h i (by omega)
  have e1 : E.getD i 0 = E[i]'(by omega) := by rw [List.getD, List.getElem?_eq_getElem (by omega)]; rfl
  rw [selK_succ (by omega)]
  rw [e1] at hs
  unfold addK
  unfold stopK at hs
  by_cases q : fr ≤ ((E[i]'(by omega) : Nat) : Int)
  ·rw [if_pos q, List.length_append, List.length_singleton]
   simp [q] at hs
   omega
  ·rw [if_neg q]; exact ih
theorem selK_stop {fr : Int} {E : List Nat} {most i : Nat} (hi : i < E.length) (h : stopK fr most (selK fr E i) (E.getD i 0) = true) : selK fr E (i + 1) = (E.filter fun k : Nat => decide (fr ≤ (k : Int))).take most := by
 have e1 : E.getD i 0 = E[i] := by rw [List.getD, List.getElem?_eq_getElem hi]; rfl
 have hs := selK_succ (fr := fr) hi
 rw [e1] at h
 unfold stopK at h
 simp only [Bool.and_eq_true, decide_eq_true_eq] at h
 unfold addK at hs
 rw [if_pos h.1] at hs
 have hl : (selK fr E (i + 1)).length = most := by rw [hs, List.length_append, List.length_singleton]; exact h.2
 have hp : selK fr E (i + 1) <+: E.filter fun k : Nat => decide (fr ≤ (k : Int)) := List.IsPrefix.filter _ (List.take_prefix _ _)
 rw [← hl]
 exact (List.prefix_iff_eq_take.1 hp)
def KiF (t c1 c2 c3 b6 b7 b10 n : Nat) (fr : Int) (most : Nat) (ids : List Nat) (P : TxP) (T : List Ent) (K' : List SProp) : Prop :=
 ∃ (p : Option Addr) (cap : Nat), K' = [cl b6 3 [.int .i64 fr], cl b7 3 [.int .i64 most], cl b10 44 [.slice p ids.length cap], vec 3 1 p ids.length cap (ids.map encN), cl c1 3 [.int .i64 2], cl c2 3 [.int .i64 n], cl c3 24 [.pointer (some ⟨t, 0, none⟩)], Tx P T]
def CS.part (s : CS) (n : Nat) (fr : Int) : List Nat := (s.kids n).filter fun k : Nat => decide (fr ≤ (k : Int))
theorem kids_hs (P : TxP) (s : CS) (T : List Ent) (k : CtI P s T) (l c1 c2 c3 b6 b7 b10 n : Nat) (fr : Int) (most : Nat) (hn : n ≤ 16777215) (hm : 1 ≤ most ∧ most < 1000000000) (tm0 : List (Nat × Value)) (asg body : Code) (w6 : tget tm0 6 = some (.pointer (some ⟨b6, 0, none⟩))) (w7 : tget tm0 7 = some (.pointer (some ⟨b7, 0, none⟩))) (w10 : tget tm0 10 = some (.pointer (some ⟨b10, 0, none⟩)))
  (hA : asg = rfA (nav [1, 1, 1, 0, 1, 2] (bdy Tryz.f18))) (hB : body = rfB (nav [1, 1, 1, 0, 1, 2] (bdy Tryz.f18))) :
  Does Tryz.prog 60 [.func (.yield l) #[] #[], .pointer (some ⟨c1, 0, none⟩), .pointer (some ⟨c2, 0, none⟩), .pointer (some ⟨c3, 0, none⟩)]
   [lp l 43 tm0 #[25] asg body .ready none, cl b6 3 [.int .i64 fr], cl b7 3 [.int .i64 most], cl b10 44 [.slice none 0 0], vec 3 1 none 0 0 [], cl c1 3 [.int .i64 2], cl c2 3 [.int .i64 n], cl c3 24 [.pointer (some ⟨P.t, 0, none⟩)], Tx P T]
   (fun _ H' => (∃ K', H' = lp l 43 tm0 #[25] asg body .ready none :: K' ∧ KiF P.t c1 c2 c3 b6 b7 b10 n fr most ((s.part n fr).take most) P T K')
    ∨ ∃ c K', H' = lp l 43 tm0 #[25] asg body .done (some c) :: K' ∧ c = .exit 0 ∧ KiF P.t c1 c2 c3 b6 b7 b10 n fr most ((s.part n fr).take most) P T K') := by
 have hu := und_kids k.rp (p := n) (by omega) (by have := k.ok.size; omega)
 have hTl : T.length < 10000 := by have := k.rp.len; have := k.ok.size; omega
 have hLl : (und T 2 n).length ≤ T.length := by
  unfold und rng
  rw [List.length_map]
  exact Nat.le_trans (List.length_filter_le _ _) (List.length_filter_le _ _)
 obtain ⟨E, hE⟩ : ∃ E, E = und T 2 n := ⟨_, rfl⟩
 have hEg : ∀ i (h : i < E.length), E.getD i 0 = E[i] := fun i h => by rw [List.getD, List.getElem?_eq_getElem h]; rfl
 have hf := underF_does P T 2 n l c1 c2 c3 (fun i => Ki l 43 tm0 asg body .ready none b6 b7 b10 fr most (selK fr E i)) (fun i => Ki l 43 tm0 asg body .done (some (.exit 0)) b6 b7 b10 fr most (selK fr E (i + 1)))
  (fun i => stopK fr most (selK fr E i) (E.getD i 0)) (by omega) (by omega) k.rp.ord k.rp.lt hTl (fun i hi => by
   have hi2 : i < E.length := hE ▸ hi
   have e0 : (und T 2 n)[i] = E[i] := by simp only [hE]
   have h := ki_yields P T l b6 b7 b10 E[i] fr most (selK fr E i) tm0 asg body (by have := selK_len (fr := fr) (E := E) (i := i); rw [← hE] at hLl; omega) (by omega) w6 w7 w10 hA hB
   rw [← selK_succ hi2] at h
   rw [e0, hEg i hi2]
   exact h)
 rw [← hE] at hf hu
 have hsel : s.part n fr = E.filter fun k : Nat => decide (fr ≤ (k : Int)) := by unfold CS.part; rw [← hu]
 rw [hsel]
 refine does_pre (does_post hf ?_) (fun i => Inv.shuts (K := KiK l 43 tm0 asg body .ready none b6 b7 b10 fr most [] (none, 0)) (hid_shuts (p := fun _ : Option Addr × Nat => True) (K := KiK l 43 tm0 asg body .ready none b6 b7 b10 fr most []) (none, 0) trivial) i)
 rintro v H1 ⟨rfl, A, rfl, ⟨rfl, hst⟩ | ⟨i, hi, h1, h2, rfl⟩⟩ w0 F0 w iv
 ·have hfew := selK_few (fr := fr) (E := E) hm.1 (Nat.le_refl _) hst
  rw [selK_all] at hfew iv
  rw [List.take_of_length_le (by omega)]
  obtain ⟨⟨p, cap⟩, _, i2⟩ := Inv.opens (hid_opens (p := fun _ : Option Addr × Nat => True) (K := KiK l 43 tm0 asg body .ready none b6 b7 b10 fr most (E.filter fun k : Nat => decide (fr ≤ (k : Int))))) iv
  exact ⟨_, .inl ⟨_, rfl, p, cap, rfl⟩, i2⟩
 ·rw [selK_stop hi h1] at iv
  obtain ⟨⟨p, cap⟩, _, i2⟩ := Inv.opens (hid_opens (p := fun _ : Option Addr × Nat => True) (K := KiK l 43 tm0 asg body .done (some (.exit 0)) b6 b7 b10 fr most ((E.filter fun k : Nat => decide (fr ≤ (k : Int))).take most))) iv
  exact ⟨_, .inr ⟨_, _, rfl, rfl, p, cap, rfl⟩, i2⟩
set_option maxHeartbeats 4000000 in
theorem kids_does (P : TxP) (s : CS) (T : List Ent) (k : CtI P s T) (n : Nat) (fr : Int) (most : Nat) (hn : 1 ≤ n ∧ n ≤ 16777215) (hm : 1 ≤ most ∧ most < 1000000000) : Does Tryz.prog 18 [.pointer (some ⟨P.t, 0, none⟩), .int .i64 n, .int .i64 fr, .int .i64 most] [Tx P T]
  (fun v H => ∃ p cap, v = .tuple #[.slice p ((s.part n fr).take most).length cap, .int .i64 0] ∧ H = [vec 3 1 p ((s.part n fr).take most).length cap (((s.part n fr).take most).map encN), Tx P T]) := by
 have he := tErr_does P T
 have hid := cId_does n hn
 refine does_of_m Tryz.func18 Tryz.ntmps18 rfl rfl rfl (fun w0 F0 => ?_)
 (repeat' (first|refine g_seq (h:=?_)|refine g_region (h:=?_)|refine l_nil (h:=?_)|refine n_then (h:=?_)|refine l_pures1 (h:=?_)|(refine l_atc ?_; refine l_call (hid) ?_)|(refine l_atc ?_; refine l_call_ (under_does P.t 2 n) ?_; rintro _ _ _ ⟨c1, c2, c3, rfl, rfl⟩ he; cases he)|refine l_guard_yes (h:=?_)|refine l_load (h:=?_)|(refine l_box (h:=?_); intro _)|(refine l_alloc (h:=?_); intro _)|refine g_skip (h:=?_)|refine g_block (h:=?_)|(refine g_spF (h:=?_); intro h)))
 rename_i b6 b7 b10
 refine g_inv (fun i => vec_nil (3) (1) i) ?_
 refine g_rangeFunc (qn := KiF P.t c1 c2 c3 b6 b7 b10 n fr most ((s.part n fr).take most) P T) (qx := fun c K' => c = .exit 0 ∧ KiF P.t c1 c2 c3 b6 b7 b10 n fr most ((s.part n fr).take most) P T K')
  (K := [cl b6 3 [.int .i64 fr], cl b7 3 [.int .i64 most], cl b10 44 [.slice none 0 0], vec 3 1 none 0 0 [], cl c1 3 [.int .i64 2], cl c2 3 [.int .i64 n], cl c3 24 [.pointer (some ⟨P.t, 0, none⟩)], Tx P T]) ?_ ?_ ?_
 ·intro l
  exact kids_hs P s T k l c1 c2 c3 b6 b7 b10 n fr most hn.2 hm _ _ _ rfl rfl rfl (by rfl) (by rfl)
 ·rintro D0 K' ⟨p, cap, rfl⟩
  dsimp only [List.cons_append, List.nil_append]
  (repeat' (first|refine g_seq (h:=?_)|refine g_region (h:=?_)|refine l_nil (h:=?_)|refine n_then (h:=?_)|refine l_pures1 (h:=?_)|(refine l_atc ?_; refine l_call (he) ?_)|refine l_load (h:=?_)|refine g_skip (h:=?_)|refine g_ret (h:=?_)|refine n_block (h:=?_)|refine g_cond_f (h:=?_)))
  refine r_retM [vec 3 1 p ((s.part n fr).take most).length cap (((s.part n fr).take most).map encN), Tx P T] ?_
  exact ⟨p, cap, rfl, rfl⟩
 ·rintro D0 c K' ⟨rfl, p, cap, rfl⟩
  dsimp only [List.cons_append, List.nil_append]
  (repeat' (first|refine g_seq (h:=?_)|refine g_region (h:=?_)|refine l_nil (h:=?_)|refine n_then (h:=?_)|refine l_pures1 (h:=?_)|(refine l_atc ?_; refine l_call (he) ?_)|refine l_load (h:=?_)|refine g_skip (h:=?_)|refine g_ret (h:=?_)|refine g_exit (h:=?_)|refine n_block_hit (h:=?_)|refine g_cond_f (h:=?_)))
  refine r_retM [vec 3 1 p ((s.part n fr).take most).length cap (((s.part n fr).take most).map encN), Tx P T] ?_
  exact ⟨p, cap, rfl, rfl⟩
theorem cKids_does (P : TxP) (s : CS) (n : Nat) (fr : Int) (most : Nat) (hn : 1 ≤ n ∧ n ≤ 16777215) (hm : 1 ≤ most ∧ most < 1000000000) : Does Tryz.prog 18 [.pointer (some ⟨P.t, 0, none⟩), .int .i64 n, .int .i64 fr, .int .i64 most] [Ct P s]
  (fun v H => ∃ p cap, v = .tuple #[.slice p ((s.part n fr).take most).length cap, .int .i64 0] ∧ H = [Ct P s, vec 3 1 p ((s.part n fr).take most).length cap (((s.part n fr).take most).map encN)]) := by
 refine does_opens (H := []) (p := CtI P s) (K := CtK P s) hid_opens fun T k => does_post (kids_does P s T k n fr most hn hm) ?_
 rintro v H1 ⟨p, cap, rfl, rfl⟩ w0 F0 w i
 have i2 : SL.Inv w0 F0 ([Tx P T] ++ [vec 3 1 p ((s.part n fr).take most).length cap (((s.part n fr).take most).map encN)]) w := (i.parts (K := [Tx P T, vec 3 1 p ((s.part n fr).take most).length cap (((s.part n fr).take most).map encN)]) parts_of).drop
 exact ⟨[Ct P s, vec 3 1 p ((s.part n fr).take most).length cap (((s.part n fr).take most).map encN)], ⟨p, cap, rfl, rfl⟩, Inv.shuts (K := CtK P s T) (hid_shuts (p := CtI P s) (K := CtK P s) T k) i2⟩
theorem part_zero (s : CS) (n : Nat) : s.part n 0 = s.kids n := List.filter_eq_self.2 fun a _ => by simp
theorem has_does (P : TxP) (s : CS) (T : List Ent) (k : CtI P s T) (n : Nat) (hn : 1 ≤ n ∧ n ≤ 16777215) : Does Tryz.prog 41 [.pointer (some ⟨P.t, 0, none⟩), .int .i64 n] [Tx P T]
  (fun v H => v = .tuple #[.bool (!(s.kids n).isEmpty), .int .i64 0] ∧ H = [Tx P T]) := by
 have hK := kids_does P s T k n 0 1 hn (by omega)
 rw [part_zero] at hK
 have hK : Does Tryz.prog 18 [.pointer (some ⟨P.t, 0, none⟩), .int .i64 n, .int .i64 0, .int .i64 1] [Tx P T]
  (fun v H => ∃ p cap, v = .tuple #[.slice p ((s.kids n).take 1).length cap, .int .i64 0] ∧ H = [vec 3 1 p ((s.kids n).take 1).length cap (((s.kids n).take 1).map encN), Tx P T]) := hK
 refine does_of Tryz.func41 Tryz.ntmps41 rfl rfl rfl (fun w0 F0 => ?_)
 (repeat' (first|refine g_seq (h:=?_)|refine g_region (h:=?_)|refine l_nil (h:=?_)|refine n_then (h:=?_)|refine l_pures1 (h:=?_)|(refine l_atc ?_; refine l_call_ (hK) ?_; rintro _ _ _ ⟨p, cap, rfl, rfl⟩ he; cases he)|refine g_ret (h:=?_)))
 refine r_retk [Tx P T] ?_
 refine ⟨?_, rfl⟩
 cases hk : s.kids n with
 | nil => rfl
 | cons a l =>
  have : decide ((((a :: l).take 1).length : Int) > 0) = true := by simp
  show Value.tuple #[.bool (decide ((((a :: l).take 1).length : Int) > 0)), .int .i64 0] = _
  rw [this]; rfl
end Go.Proofs.YtelfjhemnnbbpaaGreat
set_option maxRecDepth 20000
namespace Go.Proofs.YtelfjhemnnbbpaaGreat
open Go.Proofs.YtelfjhemnnbbpaaGreat.SL
theorem stateAny_does (P : TxP) (s : CS) (T : List Ent) (k : CtI P s T) (n : Nat) (now : Int) : Does Tryz.prog 22 [.pointer (some ⟨P.t, 0, none⟩), .int .i64 n, .int .i64 now] [Tx P T] (fun v H => v = .int .i64 (s.state n now) ∧ H = [Tx P T]) := by
 cases hc : s.capAt n with
 | some c => exact state_does P s T n now c k hc
 | none =>
  have hch := chainNo_does P s T n k hc
  have hs : s.state n now = 3 := by unfold CS.state; rw [if_pos hc]
  rw [hs]
  refine does_of Tryz.func22 Tryz.ntmps22 rfl rfl rfl (fun w0 F0 => ?_)
  (repeat' (first|refine g_seq (h:=?_)|refine g_region (h:=?_)|refine l_nil (h:=?_)|refine n_then (h:=?_)|refine l_pures1 (h:=?_)|(refine l_atc ?_; refine l_call (hch) ?_)|refine g_ret (h:=?_)|refine n_then_ret (h:=?_)|refine g_cond_t (h:=?_)))
  refine r_retk [Tx P T] ?_
  exact ⟨rfl, rfl⟩
theorem kid_of {s : CS} {n : Nat} {c : Cp} (hc : s.capAt n = some c) (a : Nat) : s.kid a n = true ↔ a ≠ 0 ∧ c.parent = a := by simp [CS.kid, hc]
theorem lease_of {s : CS} {n : Nat} {c : Cp} (hc : s.capAt n = some c) (a : Nat) : s.lease a n = true ↔ a ≠ 0 ∧ c.expiry = a ∧ c.due = true := by simp [CS.lease, hc]
theorem delE_le' {T : List Ent} (x : Nat) {m : Nat} (h : T.length ≤ m) : (delE T x).length ≤ m := Nat.le_trans (delE_len T x) h
theorem rem_val {s : CS} {n : Nat} {c : Cp} (hc : s.capAt n = some c) : ∀ k a b, ((Vals.upd s.val 1 0 n none).updIf (0 < c.parent) 2 c.parent n none).updIf (0 < c.expiry) 5 c.expiry n none k a b = (s.setC n none).val k a b := by
 have hn := capAt_lt hc
 refine setC_val hn none ?_ ?_ ?_ ?_
 ·intro a b
  rw [Vals.updIf_ne (by omega), Vals.updIf_ne (by omega), Vals.upd_at]; rfl
 ·intro a b
  rw [Vals.updIf_ne (by omega), Vals.updIf_at, Vals.upd_ne (by omega)]
  by_cases q : b = n
  ·subst q
   rw [if_pos rfl, val2]
   by_cases h : s.kid a b = true
   ·have := (kid_of hc a).1 h
    rw [if_pos (show 0 < c.parent ∧ a = c.parent ∧ b = b from ⟨by omega, by omega, rfl⟩)]
    simp
   ·rw [if_neg h]
    simp
  ·rw [if_neg q, if_neg (fun h => q h.2.2)]
 ·intro a b
  rw [Vals.updIf_at, Vals.updIf_ne (by omega), Vals.upd_ne (by omega)]
  by_cases q : b = n
  ·subst q
   rw [if_pos rfl, val5]
   by_cases h : s.lease a b = true
   ·have := (lease_of hc a).1 h
    rw [if_pos (show 0 < c.expiry ∧ a = c.expiry ∧ b = b from ⟨by omega, by omega, rfl⟩)]
    simp
   ·rw [if_neg h]
    simp
  ·rw [if_neg q, if_neg (fun h => q h.2.2)]
 ·rintro k a b ⟨q1, q2, q3⟩
  rw [Vals.updIf_ne q3, Vals.updIf_ne q2, Vals.upd_ne q1]
def CS.rem (s : CS) (n : Nat) (c : Cp) (o' : Ow) : CS := (s.setC n none).setO c.owner o'
set_option maxHeartbeats 4000000 in
theorem remove_does (P : TxP) (s : CS) (T : List Ent) (k : CtI P s T) (room : roomC P s) (n : Nat) (c : Cp) (o : Ow) (hc : s.capAt n = some c) (ho : s.owAt c.owner = some o) (hk : s.kids n = []) :
  Does Tryz.prog 47 [.pointer (some ⟨P.t, 0, none⟩), .int .i64 n] [Tx P T] (fun v H => ∃ T', v = .int .i64 0 ∧ H = [Tx P T'] ∧ Rp T' (s.rem n c ⟨o.name, o.limit, o.hav - 1⟩).val) := by
 have hg := getCapAt_does P s T n c k hc
 have hid := capAt_lt hc
 have hsz := k.ok.size
 have hok := k.ok.cp n c hc
 have hex := hok.expiry
 have hpa := hok.parent
 have hoo := k.ok.ow _ _ ho
 have hlim := hoo.limit
 have hha := hoo.hav
 have how := owAt_lt ho
 have hH := has_does P s T k n (by omega)
 rw [hk] at hH
 have hH : Does Tryz.prog 41 [.pointer (some ⟨P.t, 0, none⟩), .int .i64 n] [Tx P T] (fun v H => v = .tuple #[.bool false, .int .i64 0] ∧ H = [Tx P T]) := hH
 have hO := ownerOf_does P T c.owner o hoo (k.owner ho)
 have hK1 : Does Tryz.prog 37 [.int .i64 1, .int .i64 0, .int .i64 n] [] (fun v H => v = .int .u64 (kyN 1 0 n : Nat) ∧ H = []) := cKey_does 1 0 n (by omega) (by omega) (by omega)
 have hK2 : Does Tryz.prog 37 [.int .i64 2, .int .i64 c.parent, .int .i64 n] [] (fun v H => v = .int .u64 (kyN 2 c.parent n : Nat) ∧ H = []) := cKey_does 2 c.parent n (by omega) (by omega) (by omega)
 have hK5 : Does Tryz.prog 37 [.int .i64 5, .int .i64 c.expiry, .int .i64 n] [] (fun v H => v = .int .u64 (kyN 5 c.expiry n : Nat) ∧ H = []) := cKey_does 5 c.expiry n (by omega) hex (by omega)
 have hval := rem_val hc
 have hD1 := tDelete_does P T (kyN 1 0 n) (k.room room (by omega))
 have r1 := k.rp.del (k := 1) (a := 0) (b := n) (by omega) (by omega) (by omega)
 have n1 : (delE T (kyN 1 0 n)).length ≤ T.length := delE_len _ _
 obtain ⟨T1, h1⟩ : ∃ T1, T1 = delE T (kyN 1 0 n) := ⟨_, rfl⟩
 rw [← h1] at hD1 r1 n1
 obtain ⟨T2, h2⟩ : ∃ T2, T2 = if 0 < c.parent then delE T1 (kyN 2 c.parent n) else T1 := ⟨_, rfl⟩
 have r2 : Rp T2 ((Vals.upd s.val 1 0 n none).updIf (0 < c.parent) 2 c.parent n none) ∧ T2.length ≤ T.length := by
  by_cases q : 0 < c.parent
  ·rw [h2, if_pos q, Vals.updIf_t q]; exact ⟨r1.del (by omega) (by omega) (by omega), delE_le' _ n1⟩
  ·rw [h2, if_neg q, Vals.updIf_f q]; exact ⟨r1, n1⟩
 obtain ⟨T3, h3⟩ : ∃ T3, T3 = if 0 < c.expiry then delE T2 (kyN 5 c.expiry n) else T2 := ⟨_, rfl⟩
 have r3 : Rp T3 (((Vals.upd s.val 1 0 n none).updIf (0 < c.parent) 2 c.parent n none).updIf (0 < c.expiry) 5 c.expiry n none) ∧ T3.length ≤ T.length := by
  by_cases q : 0 < c.expiry
  ·rw [h3, if_pos q, Vals.updIf_t q]; exact ⟨r2.1.del (by omega) hex (by omega), delE_le' _ r2.2⟩
  ·rw [h3, if_neg q, Vals.updIf_f q]; exact r2
 have hD2 := tDelete_does P T1 (kyN 2 c.parent n) (k.room room (by omega))
 have hD5 := tDelete_does P T2 (kyN 5 c.expiry n) (k.room room (by omega))
 have r3' := r3.1.to fun k a b _ _ _ => hval k a b
 have n3 := r3.2
 clear r1 r2 r3 hval
 obtain ⟨o', ho'⟩ : ∃ o', o' = Ow.mk o.name o.limit (o.hav - 1) := ⟨_, rfl⟩
 have ok' : Ow.ok c.owner o' := ho' ▸ ⟨hoo.id, hoo.name, hoo.len, hoo.limit, by show o.hav - 1 ≤ o.limit; omega⟩
 have hS := setOwner_does P T3 c.owner o' ok' (k.room room (by omega))
 have r4 := r3'.put (k := 3) (a := 0) (b := c.owner) (by omega) (by omega) (by omega) o'.text
 have hval4 := setO_val (s := s.setC n none) (n := c.owner) (by exact how) o'
 rw [← ho']
 have r4' : Rp (putE T3 (kyN 3 0 c.owner) o'.text) (s.rem n c o').val := r4.to fun k a b _ _ _ => hval4 k a b
 obtain ⟨T4, h4⟩ : ∃ T4, T4 = putE T3 (kyN 3 0 c.owner) o'.text := ⟨_, rfl⟩
 rw [← h4] at hS r4'
 have hT := cTold_does P T4 0
 have ew : max 0 (IntKind.i64.wrap ((o.hav : Int) - 1)) = ((o'.hav : Nat) : Int) := by rw [wrapI64 (by omega), ho']; show max 0 ((o.hav : Int) - 1) = ((o.hav - 1 : Nat) : Int); omega
 have e4 : owA c.owner o' = #[.int .i64 c.owner, .string (str o.name), .int .i64 o.limit, .int .i64 (o'.hav : Nat)] := by rw [ho']
 rw [e4] at hS
 clear r4 hval4 ok' ho' h1 h4 r3' hoo hok
 by_cases q1 : 0 < c.parent <;> by_cases q2 : 0 < c.expiry
 all_goals simp only [q1, q2, if_true, if_false] at h2 h3
 ·rw [← h2] at hD2
  rw [← h3] at hD5
  refine does_of Tryz.func47 Tryz.ntmps47 rfl rfl rfl (fun w0 F0 => ?_)
  (repeat' (first|refine g_seq (h:=?_)|refine g_region (h:=?_)|refine l_nil (h:=?_)|refine n_then (h:=?_)|refine l_pures1 (h:=?_)|(refine l_atc ?_; refine l_call (hg) ?_)|(refine l_atc ?_; refine l_call (hH) ?_)|(refine l_atc ?_; refine l_call (hO) ?_)|(refine l_atc ?_; refine l_call (hK1) ?_)|(refine l_atc ?_; refine l_call (hD1) ?_)|(refine l_atc ?_; refine l_call (hK2) ?_)|(refine l_atc ?_; refine l_call (hD2) ?_)|(refine l_atc ?_; refine l_call (hK5) ?_)|(refine l_atc ?_; refine l_call (hD5) ?_)|refine l_guard_no (h:=?_)|refine l_load (h:=?_)|refine l_store (h:=?_)|(refine l_alloc (h:=?_); intro _)|refine g_skip (h:=?_)|refine g_block (h:=?_)|refine n_block (h:=?_)|refine g_cond_t (h:=?_)|refine g_cond_f (h:=?_)|(refine g_spT (h:=?_); intro h)))
  (simp only [cond_true, cond_false, mxI_eq, mnI_eq])
  rw [ew]
  (repeat' (first|refine g_seq (h:=?_)|refine g_region (h:=?_)|refine l_nil (h:=?_)|refine n_then (h:=?_)|refine l_pures1 (h:=?_)|(refine l_atc ?_; refine l_call (hS) ?_)|(refine l_atc ?_; refine l_call (hT) ?_)|refine g_ret (h:=?_)))
  refine r_retk [Tx P T4] ?_
  exact ⟨T4, rfl, rfl, r4'⟩
 ·rw [← h2] at hD2
  subst h3
  refine does_of Tryz.func47 Tryz.ntmps47 rfl rfl rfl (fun w0 F0 => ?_)
  (repeat' (first|refine g_seq (h:=?_)|refine g_region (h:=?_)|refine l_nil (h:=?_)|refine n_then (h:=?_)|refine l_pures1 (h:=?_)|(refine l_atc ?_; refine l_call (hg) ?_)|(refine l_atc ?_; refine l_call (hH) ?_)|(refine l_atc ?_; refine l_call (hO) ?_)|(refine l_atc ?_; refine l_call (hK1) ?_)|(refine l_atc ?_; refine l_call (hD1) ?_)|(refine l_atc ?_; refine l_call (hK2) ?_)|(refine l_atc ?_; refine l_call (hD2) ?_)|refine l_guard_no (h:=?_)|refine l_load (h:=?_)|refine l_store (h:=?_)|(refine l_alloc (h:=?_); intro _)|refine g_skip (h:=?_)|refine g_block (h:=?_)|refine n_block (h:=?_)|refine g_cond_t (h:=?_)|refine g_cond_f (h:=?_)|(refine g_spT (h:=?_); intro h)|(refine g_spF (h:=?_); intro h)))
  (simp only [cond_true, cond_false, mxI_eq, mnI_eq])
  rw [ew]
  (repeat' (first|refine g_seq (h:=?_)|refine g_region (h:=?_)|refine l_nil (h:=?_)|refine n_then (h:=?_)|refine l_pures1 (h:=?_)|(refine l_atc ?_; refine l_call (hS) ?_)|(refine l_atc ?_; refine l_call (hT) ?_)|refine g_ret (h:=?_)))
  refine r_retk [Tx P T4] ?_
  exact ⟨T4, rfl, rfl, r4'⟩
 ·subst h2
  rw [← h3] at hD5
  refine does_of Tryz.func47 Tryz.ntmps47 rfl rfl rfl (fun w0 F0 => ?_)
  (repeat' (first|refine g_seq (h:=?_)|refine g_region (h:=?_)|refine l_nil (h:=?_)|refine n_then (h:=?_)|refine l_pures1 (h:=?_)|(refine l_atc ?_; refine l_call (hg) ?_)|(refine l_atc ?_; refine l_call (hH) ?_)|(refine l_atc ?_; refine l_call (hO) ?_)|(refine l_atc ?_; refine l_call (hK1) ?_)|(refine l_atc ?_; refine l_call (hD1) ?_)|(refine l_atc ?_; refine l_call (hK5) ?_)|(refine l_atc ?_; refine l_call (hD5) ?_)|refine l_guard_no (h:=?_)|refine l_load (h:=?_)|refine l_store (h:=?_)|(refine l_alloc (h:=?_); intro _)|refine g_skip (h:=?_)|refine g_block (h:=?_)|refine n_block (h:=?_)|refine g_cond_t (h:=?_)|refine g_cond_f (h:=?_)|(refine g_spT (h:=?_); intro h)|(refine g_spF (h:=?_); intro h)))
  (simp only [cond_true, cond_false, mxI_eq, mnI_eq])
  rw [ew]
  (repeat' (first|refine g_seq (h:=?_)|refine g_region (h:=?_)|refine l_nil (h:=?_)|refine n_then (h:=?_)|refine l_pures1 (h:=?_)|(refine l_atc ?_; refine l_call (hS) ?_)|(refine l_atc ?_; refine l_call (hT) ?_)|refine g_ret (h:=?_)))
  refine r_retk [Tx P T4] ?_
  exact ⟨T4, rfl, rfl, r4'⟩
 ·subst h2
  subst h3
  refine does_of Tryz.func47 Tryz.ntmps47 rfl rfl rfl (fun w0 F0 => ?_)
  (repeat' (first|refine g_seq (h:=?_)|refine g_region (h:=?_)|refine l_nil (h:=?_)|refine n_then (h:=?_)|refine l_pures1 (h:=?_)|(refine l_atc ?_; refine l_call (hg) ?_)|(refine l_atc ?_; refine l_call (hH) ?_)|(refine l_atc ?_; refine l_call (hO) ?_)|(refine l_atc ?_; refine l_call (hK1) ?_)|(refine l_atc ?_; refine l_call (hD1) ?_)|refine l_guard_no (h:=?_)|refine l_load (h:=?_)|refine l_store (h:=?_)|(refine l_alloc (h:=?_); intro _)|refine g_skip (h:=?_)|refine g_block (h:=?_)|refine n_block (h:=?_)|refine g_cond_t (h:=?_)|refine g_cond_f (h:=?_)|(refine g_spF (h:=?_); intro h)))
  (simp only [cond_true, cond_false, mxI_eq, mnI_eq])
  rw [ew]
  (repeat' (first|refine g_seq (h:=?_)|refine g_region (h:=?_)|refine l_nil (h:=?_)|refine n_then (h:=?_)|refine l_pures1 (h:=?_)|(refine l_atc ?_; refine l_call (hS) ?_)|(refine l_atc ?_; refine l_call (hT) ?_)|refine g_ret (h:=?_)))
  refine r_retk [Tx P T4] ?_
  exact ⟨T4, rfl, rfl, r4'⟩
theorem removeNone_does (P : TxP) (s : CS) (T : List Ent) (k : CtI P s T) (n : Nat) (hc : s.capAt n = none) : Does Tryz.prog 47 [.pointer (some ⟨P.t, 0, none⟩), .int .i64 n] [Tx P T] (fun v H => v = .int .i64 3 ∧ H = [Tx P T]) := by
 have hg := getCapNone_does P s T n k hc
 refine does_of Tryz.func47 Tryz.ntmps47 rfl rfl rfl (fun w0 F0 => ?_)
 (repeat' (first|refine g_seq (h:=?_)|refine g_region (h:=?_)|refine l_nil (h:=?_)|refine n_then (h:=?_)|refine l_pures1 (h:=?_)|(refine l_atc ?_; refine l_call (hg) ?_)|refine l_store (h:=?_)|(refine l_alloc (h:=?_); intro _)|refine g_ret (h:=?_)|refine n_then_ret (h:=?_)|refine g_cond_t (h:=?_)))
 refine r_retk [Tx P T] ?_
 exact ⟨rfl, rfl⟩
theorem removeKids_does (P : TxP) (s : CS) (T : List Ent) (k : CtI P s T) (n : Nat) (c : Cp) (hc : s.capAt n = some c) (hk : s.kids n ≠ []) : Does Tryz.prog 47 [.pointer (some ⟨P.t, 0, none⟩), .int .i64 n] [Tx P T] (fun v H => v = .int .i64 6 ∧ H = [Tx P T]) := by
 have hg := getCapAt_does P s T n c k hc
 have hid := capAt_lt hc
 have hsz := k.ok.size
 have hH := has_does P s T k n (by omega)
 have he : (!(s.kids n).isEmpty) = true := by
  cases h : s.kids n with
  | nil => exact absurd h hk
  | cons a l => rfl
 rw [he] at hH
 refine does_of Tryz.func47 Tryz.ntmps47 rfl rfl rfl (fun w0 F0 => ?_)
 (repeat' (first|refine g_seq (h:=?_)|refine g_region (h:=?_)|refine l_nil (h:=?_)|refine n_then (h:=?_)|refine l_pures1 (h:=?_)|(refine l_atc ?_; refine l_call (hg) ?_)|(refine l_atc ?_; refine l_call (hH) ?_)|refine l_store (h:=?_)|(refine l_alloc (h:=?_); intro _)|refine g_skip (h:=?_)|refine g_ret (h:=?_)|refine n_then_ret (h:=?_)|refine n_block_ret (h:=?_)|refine g_block (h:=?_)|refine g_cond_t (h:=?_)|refine g_cond_f (h:=?_)))
 refine r_retk [Tx P T] ?_
 exact ⟨rfl, rfl⟩
def Cp.revoke (c : Cp) (self : Bool) (last : Nat) : Cp := if self then { c with rev := true } else { c with cut := last }
theorem upd1_val {s : CS} {n : Nat} {c c' : Cp} (hc : s.capAt n = some c) (hp : c'.parent = c.parent) (he : c'.expiry = c.expiry) (hd : c'.due = c.due) : ∀ k a b, Vals.upd s.val 1 0 n (some c'.text) k a b = (s.setC n (some c')).val k a b := by
 refine setC_val (capAt_lt hc) _ ?_ ?_ ?_ ?_
 ·intro a b
  rw [Vals.upd_at]; rfl
 ·intro a b
  rw [Vals.upd_ne (by omega)]
  by_cases q : b = n
  ·subst q
   rw [if_pos rfl, val2]
   unfold CS.kid
   rw [hc]
   simp [hp]
  ·rw [if_neg q]
 ·intro a b
  rw [Vals.upd_ne (by omega)]
  by_cases q : b = n
  ·subst q
   rw [if_pos rfl, val5]
   unfold CS.lease
   rw [hc]
   simp [he, hd]
  ·rw [if_neg q]
 ·rintro k a b ⟨q1, q2, q3⟩
  rw [Vals.upd_ne q1]
set_option maxHeartbeats 4000000 in
theorem revoke_does (P : TxP) (s : CS) (T : List Ent) (k : CtI P s T) (room : roomC P s) (n : Nat) (self : Bool) (c : Cp) (hc : s.capAt n = some c) :
  Does Tryz.prog 23 [.pointer (some ⟨P.t, 0, none⟩), .int .i64 n, .bool self] [Tx P T] (fun v H => ∃ T', v = .int .i64 0 ∧ H = [Tx P T'] ∧ Rp T' (s.setC n (some (c.revoke self s.cp.length))).val) := by
 have hg := getCapAt_does P s T n c k hc
 have hid := capAt_lt hc
 have hsz := k.ok.size
 have hok := k.ok.cp n c hc
 have hv := k.rp.val 9 0 1 (by omega) (by omega) (by omega)
 rw [val9, if_pos ⟨rfl, rfl⟩] at hv
 obtain ⟨m, hm⟩ : ∃ m, m = s.cp.length := ⟨_, rfl⟩
 rw [← hm] at hv ⊢
 have hN : Does Tryz.prog 49 [.pointer (some ⟨P.t, 0, none⟩), .int .i64 1] [Tx P T] (fun v H => v = .tuple #[.int .i64 m, .int .i64 0] ∧ H = [Tx P T]) := cNumber_does P T m 1 (by omega) (by omega) hv
 obtain ⟨c', hc'⟩ : ∃ c', c' = c.revoke self m := ⟨_, rfl⟩
 have hok' : c'.ok n := by
  rw [hc']
  cases self
  ·exact ⟨hok.id, hok.parent, hok.other, hok.object, hok.owner, hok.rights, hok.badge, hok.depth, hok.expiry, by show m ≤ 16777215; omega, hok.root⟩
  ·exact ⟨hok.id, hok.parent, hok.other, hok.object, hok.owner, hok.rights, hok.badge, hok.depth, hok.expiry, hok.cut, hok.root⟩
 have hS := setCap_does P T n c' hok' (k.room room (by omega))
 have r1 := k.rp.put (k := 1) (a := 0) (b := n) (by omega) (by omega) (by omega) c'.text
 have hval := upd1_val (c' := c') hc (by rw [hc']; cases self <;> rfl) (by rw [hc']; cases self <;> rfl) (by rw [hc']; cases self <;> rfl)
 rw [← hc']
 obtain ⟨T1, h1⟩ : ∃ T1, T1 = putE T (kyN 1 0 n) c'.text := ⟨_, rfl⟩
 rw [← h1] at hS r1
 have hT := cTold_does P T1 0
 have r1' : Rp T1 (s.setC n (some c')).val := r1.to fun k a b _ _ _ => hval k a b
 clear hok' r1 hval
 cases self
 ·have e : cpA n c' = #[.int .i64 n, .int .i64 c.parent, .int .i64 c.object, .int .i64 c.owner, .int .i64 c.rights, .int .i64 c.badge, .int .i64 c.depth, .int .i64 c.expiry, .int .i64 m, .bool c.rev] := by rw [hc']; rfl
  rw [e] at hS
  refine does_of Tryz.func23 Tryz.ntmps23 rfl rfl rfl (fun w0 F0 => ?_)
  (repeat' (first|refine g_seq (h:=?_)|refine g_region (h:=?_)|refine l_nil (h:=?_)|refine n_then (h:=?_)|refine l_pures1 (h:=?_)|(refine l_atc ?_; refine l_call (hg) ?_)|(refine l_atc ?_; refine l_call (hN) ?_)|(refine l_atc ?_; refine l_call (hS) ?_)|(refine l_atc ?_; refine l_call (hT) ?_)|refine l_load (h:=?_)|refine l_store (h:=?_)|(refine l_alloc (h:=?_); intro _)|refine g_skip (h:=?_)|refine g_ret (h:=?_)|refine g_cond_f (h:=?_)))
  refine r_retk [Tx P T1] ?_
  exact ⟨T1, rfl, rfl, r1'⟩
 ·have e : cpA n c' = #[.int .i64 n, .int .i64 c.parent, .int .i64 c.object, .int .i64 c.owner, .int .i64 c.rights, .int .i64 c.badge, .int .i64 c.depth, .int .i64 c.expiry, .int .i64 c.cut, .bool true] := by rw [hc']; rfl
  rw [e] at hS
  refine does_of Tryz.func23 Tryz.ntmps23 rfl rfl rfl (fun w0 F0 => ?_)
  (repeat' (first|refine g_seq (h:=?_)|refine g_region (h:=?_)|refine l_nil (h:=?_)|refine n_then (h:=?_)|refine l_pures1 (h:=?_)|(refine l_atc ?_; refine l_call (hg) ?_)|(refine l_atc ?_; refine l_call (hN) ?_)|(refine l_atc ?_; refine l_call (hS) ?_)|(refine l_atc ?_; refine l_call (hT) ?_)|refine l_load (h:=?_)|refine l_store (h:=?_)|(refine l_alloc (h:=?_); intro _)|refine g_skip (h:=?_)|refine g_ret (h:=?_)|refine g_cond_t (h:=?_)|refine g_cond_f (h:=?_)))
  refine r_retk [Tx P T1] ?_
  exact ⟨T1, rfl, rfl, r1'⟩
theorem revokeNone_does (P : TxP) (s : CS) (T : List Ent) (k : CtI P s T) (n : Nat) (self : Bool) (hc : s.capAt n = none) : Does Tryz.prog 23 [.pointer (some ⟨P.t, 0, none⟩), .int .i64 n, .bool self] [Tx P T] (fun v H => v = .int .i64 3 ∧ H = [Tx P T]) := by
 have hg := getCapNone_does P s T n k hc
 refine does_of Tryz.func23 Tryz.ntmps23 rfl rfl rfl (fun w0 F0 => ?_)
 (repeat' (first|refine g_seq (h:=?_)|refine g_region (h:=?_)|refine l_nil (h:=?_)|refine n_then (h:=?_)|refine l_pures1 (h:=?_)|(refine l_atc ?_; refine l_call (hg) ?_)|refine l_store (h:=?_)|(refine l_alloc (h:=?_); intro _)|refine g_ret (h:=?_)|refine n_then_ret (h:=?_)|refine g_cond_t (h:=?_)))
 refine r_retk [Tx P T] ?_
 exact ⟨rfl, rfl⟩
end Go.Proofs.YtelfjhemnnbbpaaGreat
set_option maxRecDepth 20000
namespace Go.Proofs.YtelfjhemnnbbpaaGreat
open Go.Proofs.YtelfjhemnnbbpaaGreat.SL
def Cp.under (c : Cp) (parent object depth : Nat) : Cp := { c with parent := parent, object := object, depth := depth }
theorem move_val {s : CS} {n : Nat} {c : Cp} (hc : s.capAt n = some c) (hne : c.parent ≠ 0) {q : Nat} (hq : q ≠ 0) (ob de : Nat) : ∀ k a b,
  Vals.upd (Vals.upd (Vals.upd s.val 2 c.parent n none) 2 q n (some [])) 1 0 n (some (c.under q ob de).text) k a b = (s.setC n (some (c.under q ob de))).val k a b := by
 refine setC_val (capAt_lt hc) _ ?_ ?_ ?_ ?_
 ·intro a b
  rw [Vals.upd_at, Vals.upd_ne (by omega), Vals.upd_ne (by omega)]; rfl
 ·intro a b
  rw [Vals.upd_ne (by omega), Vals.upd_at, Vals.upd_at]
  by_cases h : b = n
  ·subst h
   rw [if_pos rfl, val2]
   simp only [and_true, Option.any_some, Cp.under]
   by_cases h1 : a = q
   ·subst h1
    rw [if_pos rfl]; simp [hq]
   ·have h1' : ¬ q = a := fun e => h1 e.symm
    rw [if_neg h1]
    by_cases h2 : a = c.parent
    ·rw [if_pos h2]; simp [h1']
    ·rw [if_neg h2, if_neg (fun h => h2 ((kid_of hc a).1 h).2.symm)]; simp [h1']
  ·simp [h]
 ·intro a b
  rw [Vals.upd_ne (by omega), Vals.upd_ne (by omega), Vals.upd_ne (by omega)]
  by_cases h : b = n
  ·subst h
   rw [if_pos rfl, val5]
   unfold CS.lease
   rw [hc]; rfl
  ·rw [if_neg h]
 ·rintro k a b ⟨q1, q2, q3⟩
  rw [Vals.upd_ne q1, Vals.upd_ne q2, Vals.upd_ne q2]
theorem under_ok {n q ob de : Nat} {c : Cp} (h : c.ok n) (hq : 1 ≤ q ∧ q ≤ 16777215) (hn : q ≠ n) (hob : 1 ≤ ob ∧ ob ≤ 16777215) (hde : 2 ≤ de ∧ de ≤ 8) : (c.under q ob de).ok n :=
 ⟨h.id, hq.2, hn, hob, h.owner, h.rights, h.badge, by show 1 ≤ de ∧ de ≤ 8; omega, h.expiry, h.cut, by show de = 1 ↔ q = 0; omega⟩
def CS.move (s : CS) (n q : Nat) : Int × CS :=
 if s.state n 0 ≠ 0 then (s.state n 0, s) else if s.state q 0 ≠ 0 then (s.state q 0, s) else
 match s.capAt n, s.capAt q with
 | some c, some p => if s.kids n ≠ [] ∨ c.parent = 0 ∨ n = q ∨ n ≤ p.cut then (6, s) else if subB c.rights p.rights = false then (7, s) else if 8 ≤ p.depth then (9, s) else (0, s.setC n (some (c.under q p.object (p.depth + 1))))
 | _, _ => (3, s)
theorem state_some {s : CS} {n : Nat} {now : Int} (h : s.state n now = 0) : ∃ c, s.capAt n = some c := by
 cases hc : s.capAt n with
 | some c => exact ⟨c, rfl⟩
 | none => unfold CS.state at h; rw [if_pos hc] at h; cases h
theorem stateN_does (P : TxP) (s : CS) (T : List Ent) (k : CtI P s T) (n : Nat) : Does Tryz.prog 22 [.pointer (some ⟨P.t, 0, none⟩), .int .i64 n, .int .i64 0] [Tx P T] (fun v H => v = .int .i64 (s.state n 0) ∧ H = [Tx P T]) := stateAny_does P s T k n 0
set_option maxHeartbeats 8000000 in
theorem move_does (P : TxP) (s : CS) (T : List Ent) (k : CtI P s T) (room : roomC P s) (n q : Nat) :
  Does Tryz.prog 16 [.pointer (some ⟨P.t, 0, none⟩), .int .i64 n, .int .i64 q, .int .i64 0] [Tx P T] (fun v H => ∃ T', v = .int .i64 (s.move n q).1 ∧ H = [Tx P T'] ∧ Rp T' (s.move n q).2.val) := by
 have hS1 := stateN_does P s T k n
 have hS2 := stateN_does P s T k q
 by_cases e1 : ¬ s.state n 0 = 0
 ·have hm : s.move n q = (s.state n 0, s) := by unfold CS.move; rw [if_pos e1]
  rw [hm]
  refine does_of Tryz.func16 Tryz.ntmps16 rfl rfl rfl (fun w0 F0 => ?_)
  (repeat' (first|refine g_seq (h:=?_)|refine g_region (h:=?_)|refine l_nil (h:=?_)|refine n_then (h:=?_)|refine l_pures1 (h:=?_)|refine g_block (h:=?_)|(refine l_buildSlice2 (h:=?_); intro _)))
  rename_i bs
  (refine g_loop (fun y : Nat => [(20, .int .i64 0), (19, .int .i64 (2 : Nat)), (18, .slice (some ⟨bs, 0, none⟩) 2 2), (3, .int .i64 0), (2, .int .i64 q), (1, .int .i64 n), (0, .pointer (some ⟨P.t, 0, none⟩))]) (fun y => [Tx P T, cl bs 3 [.int .i64 n, .int .i64 q]]) (fun y => True) (fun y => 0) (0) ?_ ?_ ?_ ?_; rotate_left; (repeat (first | refine ts_nil | (refine ts_cons rfl ?_ ?_; first | (with_reducible rfl) | rotate_left))); (first | (intro _ i; with_reducible refine i) | rotate_left); rotate_left; (try omega); rotate_right)
  ·intro y _
   (repeat' (first|refine g_seq (h:=?_)|refine g_region (h:=?_)|refine l_nil (h:=?_)|refine n_then (h:=?_)|refine l_pures1 (h:=?_)|(refine l_atc ?_; refine l_call (hS1) ?_)|refine l_load (h:=?_)|refine l_indexAddr (h:=?_)|refine g_skip (h:=?_)|refine g_ret (h:=?_)|refine n_then_ret (h:=?_)|refine n_block_ret (h:=?_)|refine g_block (h:=?_)|refine g_cond_t (h:=?_)|(refine g_spT (h:=?_); intro h)))
   refine r_retk [Tx P T] ?_
   exact ⟨T, rfl, rfl, k.rp⟩
  all_goals first
   | trivial
   | rfl
   | (intro _ i; exact inv_keep parts_of i)
 have e1 : s.state n 0 = 0 := Decidable.not_not.1 e1
 rw [e1] at hS1
 by_cases e2 : ¬ s.state q 0 = 0
 ·have hm : s.move n q = (s.state q 0, s) := by unfold CS.move; rw [if_neg (by omega), if_pos e2]
  rw [hm]
  refine does_of Tryz.func16 Tryz.ntmps16 rfl rfl rfl (fun w0 F0 => ?_)
  (repeat' (first|refine g_seq (h:=?_)|refine g_region (h:=?_)|refine l_nil (h:=?_)|refine n_then (h:=?_)|refine l_pures1 (h:=?_)|refine g_block (h:=?_)|(refine l_buildSlice2 (h:=?_); intro _)))
  rename_i bs
  (refine g_loop (fun y : Nat => [(20, .int .i64 y), (19, .int .i64 (2 : Nat)), (18, .slice (some ⟨bs, 0, none⟩) 2 2), (3, .int .i64 0), (2, .int .i64 q), (1, .int .i64 n), (0, .pointer (some ⟨P.t, 0, none⟩))]) (fun y => [Tx P T, cl bs 3 [.int .i64 n, .int .i64 q]]) (fun y => y ≤ 1) (fun y => 1 - y) (0) ?_ ?_ ?_ ?_; rotate_left; (repeat (first | refine ts_nil | (refine ts_cons rfl ?_ ?_; first | (with_reducible rfl) | rotate_left))); (first | (intro _ i; with_reducible refine i) | rotate_left); rotate_left; (try omega); rotate_right)
  ·intro y hy
   rcases Nat.lt_or_ge y 1 with h | h
   ·obtain rfl : y = 0 := by omega
    (repeat' (first|refine g_seq (h:=?_)|refine g_region (h:=?_)|refine l_nil (h:=?_)|refine n_then (h:=?_)|refine l_pures1 (h:=?_)|(refine l_atc ?_; refine l_call (hS1) ?_)|refine l_load (h:=?_)|refine l_indexAddr (h:=?_)|refine g_skip (h:=?_)|refine g_block (h:=?_)|refine n_block (h:=?_)|refine g_cond_t (h:=?_)|refine g_cond_f (h:=?_)))
    (refine n_back (1) ?_ ?_ ?_ ?_; rotate_left; rotate_left; (repeat (first | refine ts_nil | (refine ts_cons rfl ?_ ?_; first | (with_reducible rfl) | rotate_left))); (first | (intro _ i; with_reducible refine i) | rotate_left); (try omega); (try omega))
    all_goals first
     | omega
     | rfl
     | (intro _ i; exact inv_keep parts_of i)
   ·obtain rfl : y = 1 := by omega
    (repeat' (first|refine g_seq (h:=?_)|refine g_region (h:=?_)|refine l_nil (h:=?_)|refine n_then (h:=?_)|refine l_pures1 (h:=?_)|(refine l_atc ?_; refine l_call (hS2) ?_)|refine l_load (h:=?_)|refine l_indexAddr (h:=?_)|refine g_skip (h:=?_)|refine g_ret (h:=?_)|refine n_then_ret (h:=?_)|refine n_block_ret (h:=?_)|refine g_block (h:=?_)|refine g_cond_t (h:=?_)|(refine g_spT (h:=?_); intro h)))
    refine r_retk [Tx P T] ?_
    exact ⟨T, rfl, rfl, k.rp⟩
  all_goals first
   | trivial
   | rfl
   | (intro _ i; exact inv_keep parts_of i)
 have e2 : s.state q 0 = 0 := Decidable.not_not.1 e2
 rw [e2] at hS2
 obtain ⟨c, hc⟩ := state_some e1
 obtain ⟨p, hp⟩ := state_some e2
 have hm : s.move n q = if s.kids n ≠ [] ∨ c.parent = 0 ∨ n = q ∨ n ≤ p.cut then (6, s) else if subB c.rights p.rights = false then (7, s) else if 8 ≤ p.depth then (9, s) else (0, s.setC n (some (c.under q p.object (p.depth + 1)))) := by
  unfold CS.move; rw [if_neg (by omega), if_neg (by omega), hc, hp]
 rw [hm]
 have hG1 := getCapAt_does P s T n c k hc
 have hG2 := getCapAt_does P s T q p k hp
 have hid := capAt_lt hc
 have hiq := capAt_lt hp
 have hsz := k.ok.size
 have hok := k.ok.cp n c hc
 have hoq := k.ok.cp q p hp
 have hpa := hok.parent
 have hH := has_does P s T k n (by omega)
 have hb : (!(s.kids n).isEmpty) = true ∨ ((!(s.kids n).isEmpty) = false ∧ s.kids n = []) := by
  cases h : s.kids n with
  | nil => exact .inr ⟨rfl, rfl⟩
  | cons a l => exact .inl rfl
 have hsb := sub_does c.rights p.rights hok.rights hoq.rights
 have hQ : ∀ (w0 : World) (F0 : Nat → Prop) (bs : Nat), SL.G Tryz.prog 114 w0 F0 (nav [1, 1] (bdy Tryz.f16)) (SL.Post Tryz.prog Tryz.f16 w0 F0 (fun v H => ∃ T', v = .int .i64 (if s.kids n ≠ [] ∨ c.parent = 0 ∨ n = q ∨ n ≤ p.cut then ((6 : Int), s) else if subB c.rights p.rights = false then (7, s) else if 8 ≤ p.depth then (9, s) else (0, s.setC n (some (c.under q p.object (p.depth + 1))))).1 ∧ H = [Tx P T'] ∧ Rp T' (if s.kids n ≠ [] ∨ c.parent = 0 ∨ n = q ∨ n ≤ p.cut then ((6 : Int), s) else if subB c.rights p.rights = false then (7, s) else if 8 ≤ p.depth then (9, s) else (0, s.setC n (some (c.under q p.object (p.depth + 1))))).2.val)) [(3, .int .i64 0), (2, .int .i64 q), (1, .int .i64 n), (0, .pointer (some ⟨P.t, 0, none⟩))] [] [Tx P T] := by
  intro w0 F0 bs
  by_cases f1 : s.kids n ≠ [] ∨ c.parent = 0 ∨ n = q ∨ n ≤ p.cut
  ·rw [if_pos f1]
   rcases hb with hb | ⟨hb, hk⟩
   ·rw [hb] at hH
    obtain ⟨c, hc⟩ : ∃ c, c = nav [1, 1] (bdy Tryz.f16) := ⟨_, rfl⟩
    rw [← hc]
    dsimp only [nav, bdy, Tryz.f16, Option.getD] at hc
    subst hc
    (repeat' (first|refine g_seq (h:=?_)|refine g_region (h:=?_)|refine l_nil (h:=?_)|refine n_then (h:=?_)|refine l_pures1 (h:=?_)|(refine l_atc ?_; refine l_call (hG1) ?_)|(refine l_atc ?_; refine l_call (hG2) ?_)|(refine l_atc ?_; refine l_call (hH) ?_)|refine l_guard_no (h:=?_)|refine l_store (h:=?_)|(refine l_alloc (h:=?_); intro _)|refine g_skip (h:=?_)|refine g_ret (h:=?_)|refine n_then_ret (h:=?_)|refine n_block_ret (h:=?_)|refine g_block (h:=?_)|refine g_cond_t (h:=?_)|refine g_cond_f (h:=?_)))
    refine r_retk [Tx P T] ?_
    exact ⟨T, rfl, rfl, k.rp⟩
   ·rw [hb] at hH
    have f2 : c.parent = 0 ∨ n = q ∨ n ≤ p.cut := by
     rcases f1 with f1 | f1
     ·exact absurd hk f1
     ·exact f1
    obtain ⟨c, hc⟩ : ∃ c, c = nav [1, 1] (bdy Tryz.f16) := ⟨_, rfl⟩
    rw [← hc]
    dsimp only [nav, bdy, Tryz.f16, Option.getD] at hc
    subst hc
    (repeat' (first|refine g_seq (h:=?_)|refine g_region (h:=?_)|refine l_nil (h:=?_)|refine n_then (h:=?_)|refine l_pures1 (h:=?_)|(refine l_atc ?_; refine l_call (hG1) ?_)|(refine l_atc ?_; refine l_call (hG2) ?_)|(refine l_atc ?_; refine l_call (hH) ?_)|refine l_guard_yes (h:=?_)|refine l_guard_no (h:=?_)|refine l_load (h:=?_)|refine l_store (h:=?_)|(refine l_alloc (h:=?_); intro _)|refine g_skip (h:=?_)|refine g_ret (h:=?_)|refine n_then_ret (h:=?_)|refine n_block_ret (h:=?_)|refine g_block (h:=?_)|refine g_cond_t (h:=?_)|refine g_cond_f (h:=?_)|(refine l_sp (h1 := ?_) (h0 := ?_) <;> intro h)|(refine g_spT (h:=?_); intro h)))
    all_goals
     refine r_retk [Tx P T] ?_
    all_goals exact ⟨T, rfl, rfl, k.rp⟩
  ·rw [if_neg f1]
   have f1a : s.kids n = [] := by
    cases h : s.kids n with
    | nil => rfl
    | cons a l => exact absurd (.inl (by rw [h]; simp)) f1
   have f2 : ¬ (c.parent = 0 ∨ n = q ∨ n ≤ p.cut) := fun h => f1 (.inr h)
   have hb : (!(s.kids n).isEmpty) = false := by rw [f1a]; rfl
   rw [hb] at hH
   clear f1
   by_cases f3 : subB c.rights p.rights = false
   ·rw [if_pos f3]
    rw [f3] at hsb
    obtain ⟨c, hc⟩ : ∃ c, c = nav [1, 1] (bdy Tryz.f16) := ⟨_, rfl⟩
    rw [← hc]
    dsimp only [nav, bdy, Tryz.f16, Option.getD] at hc
    subst hc
    (repeat' (first|refine g_seq (h:=?_)|refine g_region (h:=?_)|refine l_nil (h:=?_)|refine n_then (h:=?_)|refine l_pures1 (h:=?_)|(refine l_atc ?_; refine l_call (hG1) ?_)|(refine l_atc ?_; refine l_call (hG2) ?_)|(refine l_atc ?_; refine l_call (hH) ?_)|(refine l_atc ?_; refine l_call (hsb) ?_)|refine l_guard_yes (h:=?_)|refine l_load (h:=?_)|refine l_store (h:=?_)|(refine l_alloc (h:=?_); intro _)|refine g_skip (h:=?_)|refine g_ret (h:=?_)|refine n_then_ret (h:=?_)|refine n_block_ret (h:=?_)|refine g_block (h:=?_)|refine g_cond_t (h:=?_)|refine g_cond_f (h:=?_)|(refine l_spF (h:=?_); intro h)|(refine g_spF (h:=?_); intro h)))
    refine r_retk [Tx P T] ?_
    exact ⟨T, rfl, rfl, k.rp⟩
   ·rw [if_neg f3]
    have f3 : subB c.rights p.rights = true := by simpa using f3
    rw [f3] at hsb
    by_cases f4 : 8 ≤ p.depth
    ·rw [if_pos f4]
     obtain ⟨c, hc⟩ : ∃ c, c = nav [1, 1] (bdy Tryz.f16) := ⟨_, rfl⟩
     rw [← hc]
     dsimp only [nav, bdy, Tryz.f16, Option.getD] at hc
     subst hc
     (repeat' (first|refine g_seq (h:=?_)|refine g_region (h:=?_)|refine l_nil (h:=?_)|refine n_then (h:=?_)|refine l_pures1 (h:=?_)|(refine l_atc ?_; refine l_call (hG1) ?_)|(refine l_atc ?_; refine l_call (hG2) ?_)|(refine l_atc ?_; refine l_call (hH) ?_)|(refine l_atc ?_; refine l_call (hsb) ?_)|refine l_guard_yes (h:=?_)|refine l_load (h:=?_)|refine l_store (h:=?_)|(refine l_alloc (h:=?_); intro _)|refine g_skip (h:=?_)|refine g_ret (h:=?_)|refine n_then_ret (h:=?_)|refine n_block_ret (h:=?_)|refine g_block (h:=?_)|refine g_cond_f (h:=?_)|(refine l_spF (h:=?_); intro h)|(refine g_spT (h:=?_); intro h)|(refine g_spF (h:=?_); intro h)))
     refine r_retk [Tx P T] ?_
     exact ⟨T, rfl, rfl, k.rp⟩
    ·rw [if_neg f4]
     have hdq := hoq.depth
     have hval := move_val hc (q := q) (fun h => f2 (.inl h)) (by omega) p.object (p.depth + 1)
     obtain ⟨c', hc'⟩ : ∃ c', c' = c.under q p.object (p.depth + 1) := ⟨_, rfl⟩
     have hok' : c'.ok n := hc' ▸ under_ok hok (by omega) (fun h => f2 (.inr (.inl h.symm))) hoq.object (by omega)
     have hK2 : Does Tryz.prog 37 [.int .i64 2, .int .i64 c.parent, .int .i64 n] [] (fun v H => v = .int .u64 (kyN 2 c.parent n : Nat) ∧ H = []) := cKey_does 2 c.parent n (by omega) (by omega) (by omega)
     have hK3 : Does Tryz.prog 37 [.int .i64 2, .int .i64 q, .int .i64 n] [] (fun v H => v = .int .u64 (kyN 2 q n : Nat) ∧ H = []) := cKey_does 2 q n (by omega) (by omega) (by omega)
     have hD := tDelete_does P T (kyN 2 c.parent n) (k.room room (by omega))
     have r1 := k.rp.del (k := 2) (a := c.parent) (b := n) (by omega) (by omega) (by omega)
     have n1 : (delE T (kyN 2 c.parent n)).length ≤ T.length := delE_len _ _
     obtain ⟨T1, h1⟩ : ∃ T1, T1 = delE T (kyN 2 c.parent n) := ⟨_, rfl⟩
     rw [← h1] at hD r1 n1
     have hP := putEmpty_does P T1 (kyN 2 q n) (kyN_lt (by omega) (by omega) (by omega)) (k.room room (by omega))
     have r2 := r1.put (k := 2) (a := q) (b := n) (by omega) (by omega) (by omega) []
     have n2 := putE_le r1 (kyN 2 q n) [] n1
     obtain ⟨T2, h2⟩ : ∃ T2, T2 = putE T1 (kyN 2 q n) [] := ⟨_, rfl⟩
     rw [← h2] at hP r2 n2
     have hS := setCap_does P T2 n c' hok' (k.room room (by omega))
     have r3 := r2.put (k := 1) (a := 0) (b := n) (by omega) (by omega) (by omega) c'.text
     obtain ⟨T3, h3⟩ : ∃ T3, T3 = putE T2 (kyN 1 0 n) c'.text := ⟨_, rfl⟩
     rw [← h3] at hS r3
     rw [← hc'] at hval
     have r3' : Rp T3 (s.setC n (some c')).val := r3.to fun k a b _ _ _ => hval k a b
     have hT := cTold_does P T3 0
     have ew : IntKind.i64.wrap ((p.depth : Int) + 1) = ((p.depth + 1 : Nat) : Int) := by rw [wrapI64 (by omega)]; rfl
     have e : cpA n c' = #[.int .i64 n, .int .i64 q, .int .i64 p.object, .int .i64 c.owner, .int .i64 c.rights, .int .i64 c.badge, .int .i64 (IntKind.i64.wrap ((p.depth : Int) + 1)), .int .i64 c.expiry, .int .i64 c.cut, .bool c.rev] := by rw [ew, hc']; rfl
     rw [e] at hS
     rw [← hc']
     clear hok' hval r1 r2 r3 hm hc' h1 h2 h3
     obtain ⟨c, hc⟩ : ∃ c, c = nav [1, 1] (bdy Tryz.f16) := ⟨_, rfl⟩
     rw [← hc]
     dsimp only [nav, bdy, Tryz.f16, Option.getD] at hc
     subst hc
     (repeat' (first|refine g_seq (h:=?_)|refine g_region (h:=?_)|refine l_nil (h:=?_)|refine n_then (h:=?_)|refine l_pures1 (h:=?_)|(refine l_atc ?_; refine l_call (hG1) ?_)|(refine l_atc ?_; refine l_call (hG2) ?_)|(refine l_atc ?_; refine l_call (hH) ?_)|(refine l_atc ?_; refine l_call (hsb) ?_)|(refine l_atc ?_; refine l_call (hK2) ?_)|(refine l_atc ?_; refine l_call (hK3) ?_)|(refine l_atc ?_; refine l_call (hD) ?_)|(refine l_atc ?_; refine l_call (hP) ?_)|refine l_guard_yes (h:=?_)|refine l_load (h:=?_)|refine l_store (h:=?_)|(refine l_alloc (h:=?_); intro _)|refine g_skip (h:=?_)|refine g_block (h:=?_)|refine n_block (h:=?_)|refine g_cond_f (h:=?_)|(refine l_spF (h:=?_); intro h)|(refine g_spF (h:=?_); intro h)))
     rename_i b12 b14 _ _ _
     (refine g_draw [cl b14 41 [.int .i64 q, .int .i64 p.parent, .int .i64 p.object, .int .i64 p.owner, .int .i64 p.rights, .int .i64 p.badge, .int .i64 p.depth, .int .i64 p.expiry, .int .i64 p.cut, .bool p.rev]] (h := a_pass2 (h:=?_)))
     (repeat' (first|refine g_seq (h:=?_)|refine g_region (h:=?_)|refine l_nil (h:=?_)|refine n_then (h:=?_)|refine l_pures1 (h:=?_)|(refine l_atc ?_; refine l_call (hS) ?_)|(refine l_atc ?_; refine l_call (hT) ?_)|refine l_load (h:=?_)|refine l_store (h:=?_)|refine g_ret (h:=?_)|refine a_done (h:=?_)|refine a_load (h := a_pass2 (h:=?_))|refine a_one (h:=?_)|refine n_any (h := a_pass2 (h:=?_))))
     refine r_retk [Tx P T3] ?_
     exact ⟨T3, rfl, rfl, r3'⟩
 refine does_of Tryz.func16 Tryz.ntmps16 rfl rfl rfl (fun w0 F0 => ?_)
 (repeat' (first|refine g_seq (h:=?_)|refine g_region (h:=?_)|refine l_nil (h:=?_)|refine n_then (h:=?_)|refine l_pures1 (h:=?_)|refine g_block (h:=?_)|(refine l_buildSlice2 (h:=?_); intro _)))
 rename_i bs
 (refine g_loop (fun y : Nat => [(20, .int .i64 y), (19, .int .i64 (2 : Nat)), (18, .slice (some ⟨bs, 0, none⟩) 2 2), (3, .int .i64 0), (2, .int .i64 q), (1, .int .i64 n), (0, .pointer (some ⟨P.t, 0, none⟩))]) (fun y => [Tx P T, cl bs 3 [.int .i64 n, .int .i64 q]]) (fun y => y ≤ 2) (fun y => 2 - y) (0) ?_ ?_ ?_ ?_; rotate_left; (repeat (first | refine ts_nil | (refine ts_cons rfl ?_ ?_; first | (with_reducible rfl) | rotate_left))); (first | (intro _ i; with_reducible refine i) | rotate_left); rotate_left; (try omega); rotate_right)
 ·intro y hy
  by_cases h0 : y = 0
  ·subst h0
   (repeat' (first|refine g_seq (h:=?_)|refine g_region (h:=?_)|refine l_nil (h:=?_)|refine n_then (h:=?_)|refine l_pures1 (h:=?_)|(refine l_atc ?_; refine l_call (hS1) ?_)|refine l_load (h:=?_)|refine l_indexAddr (h:=?_)|refine g_skip (h:=?_)|refine g_block (h:=?_)|refine n_block (h:=?_)|refine g_cond_t (h:=?_)|refine g_cond_f (h:=?_)))
   (refine n_back (1) ?_ ?_ ?_ ?_; rotate_left; rotate_left; (repeat (first | refine ts_nil | (refine ts_cons rfl ?_ ?_; first | (with_reducible rfl) | rotate_left))); (first | (intro _ i; with_reducible refine i) | rotate_left); (try omega); (try omega))
   all_goals first
    | omega
    | rfl
    | (intro _ i; exact inv_keep parts_of i)
  ·by_cases h1 : y = 1
   ·subst h1
    (repeat' (first|refine g_seq (h:=?_)|refine g_region (h:=?_)|refine l_nil (h:=?_)|refine n_then (h:=?_)|refine l_pures1 (h:=?_)|(refine l_atc ?_; refine l_call (hS2) ?_)|refine l_load (h:=?_)|refine l_indexAddr (h:=?_)|refine g_skip (h:=?_)|refine g_block (h:=?_)|refine n_block (h:=?_)|refine g_cond_t (h:=?_)|refine g_cond_f (h:=?_)))
    (refine n_back (2) ?_ ?_ ?_ ?_; rotate_left; rotate_left; (repeat (first | refine ts_nil | (refine ts_cons rfl ?_ ?_; first | (with_reducible rfl) | rotate_left))); (first | (intro _ i; with_reducible refine i) | rotate_left); (try omega); (try omega))
    all_goals first
     | omega
     | rfl
     | (intro _ i; exact inv_keep parts_of i)
   ·obtain rfl : y = 2 := by omega
    have hq := hQ w0 F0 bs
    (repeat' (first|((with_reducible show G _ _ _ _ (Code.seq (Code.region 8 _ _) _) _ _ _ _); exact g_bang (hq))|refine g_seq (h:=?_)|refine g_region (h:=?_)|refine l_nil (h:=?_)|refine n_then (h:=?_)|refine l_pures1 (h:=?_)|refine g_exit (h:=?_)|refine n_then_exit (h:=?_)|refine n_block_hit (h:=?_)|refine g_cond_f (h:=?_)))
 all_goals first
  | exact Nat.zero_le _
  | rfl
  | (intro _ i; exact inv_keep parts_of i)
end Go.Proofs.YtelfjhemnnbbpaaGreat
set_option maxRecDepth 20000
namespace Go.Proofs.YtelfjhemnnbbpaaGreat
open Go.Proofs.YtelfjhemnnbbpaaGreat.SL
theorem kids_mem {s : CS} {n m : Nat} : m ∈ s.kids n ↔ s.kid n m = true := by
 unfold CS.kids
 rw [List.mem_filter, List.mem_range'_1]
 constructor
 ·exact fun h => h.2
 ·intro h
  refine ⟨?_, h⟩
  simp only [CS.kid, Bool.and_eq_true] at h
  obtain ⟨c, hc, _⟩ := (Option.any_eq_true _ _).1 h.2
  have := capAt_lt hc
  omega
theorem kids_none {s : CS} {n m : Nat} {x : Cp} (h : s.kids n = []) (hn : n ≠ 0) (hx : s.capAt m = some x) : x.parent ≠ n := fun e => by
 have : m ∈ s.kids n := kids_mem.2 ((kid_of hx n).2 ⟨hn, e⟩)
 rw [h] at this
 cases this
theorem setC_ok2 {s : CS} (ok : s.ok) {n : Nat} {c : Cp} (hc : s.capAt n = some c) {oc : Option Cp} (hk : s.kids n = []) (h' : ∀ c', oc = some c' → c'.ok n ∧ (c'.parent ≠ 0 → ∃ p, s.capAt c'.parent = some p ∧ c'.depth = p.depth + 1)) : (s.setC n oc).ok where
 ow := ok.ow
 cp := fun m x hx => by
  rw [setC_cap (capAt_lt hc)] at hx
  split at hx
  ·rename_i q; rw [q]; exact (h' x hx).1
  ·exact ok.cp m x hx
 par := fun m x hx hne => by
  have hn := capAt_lt hc
  rw [setC_cap hn] at hx
  split at hx
  ·rename_i q
   obtain ⟨h1, h2⟩ := h' x hx
   obtain ⟨p, h3, h4⟩ := h2 hne
   refine ⟨p, ?_, h4⟩
   rw [setC_cap hn, if_neg h1.other]
   exact h3
  ·obtain ⟨p, h3, h4⟩ := ok.par m x hx hne
   refine ⟨p, ?_, h4⟩
   rw [setC_cap hn, if_neg (kids_none hk (by omega) hx)]
   exact h3
 size := ⟨by simp [CS.setC]; exact ok.size.1, ok.size.2⟩
theorem setO_ok {s : CS} (ok : s.ok) {i : Nat} (hi : 1 ≤ i ∧ i ≤ s.ow.length) {o : Ow} (ho : o.ok i) : (s.setO i o).ok where
 ow := fun n x hx => by
  unfold CS.setO at hx
  rw [setO_ow hi] at hx
  split at hx
  ·rename_i q; cases hx; rw [q]; exact ho
  ·exact ok.ow n x hx
 cp := ok.cp
 par := ok.par
 size := ⟨ok.size.1, by simp [CS.setO]; exact ok.size.2⟩
theorem setC_okP {s : CS} (ok : s.ok) {n : Nat} {c c' : Cp} (hc : s.capAt n = some c) (h' : c'.ok n) (hp : c'.parent = c.parent) (hd : c'.depth = c.depth) : (s.setC n (some c')).ok where
 ow := ok.ow
 cp := fun m x hx => by
  rw [setC_cap (capAt_lt hc)] at hx
  split at hx
  ·rename_i q; cases hx; rw [q]; exact h'
  ·exact ok.cp m x hx
 par := fun m x hx hne => by
  rw [setC_cap (capAt_lt hc)] at hx
  have key : ∀ y, s.capAt m = some y → y.parent = x.parent → y.depth = x.depth → ∃ p, (s.setC n (some c')).capAt x.parent = some p ∧ x.depth = p.depth + 1 := fun y hy e1 e2 => by
   obtain ⟨p, h1, h2⟩ := ok.par m y hy (by rw [e1]; exact hne)
   rw [e1] at h1
   rw [setC_cap (capAt_lt hc)]
   by_cases q : x.parent = n
   ·rw [if_pos q]
    rw [q, hc] at h1
    cases h1
    exact ⟨c', rfl, by rw [hd, ← e2]; exact h2⟩
   ·rw [if_neg q]; exact ⟨p, h1, by rw [← e2]; exact h2⟩
  split at hx
  ·rename_i q
   cases hx
   exact key c (by rw [q]; exact hc) hp.symm hd.symm
  ·exact key x hx rfl rfl
 size := ⟨by simp [CS.setC]; exact ok.size.1, ok.size.2⟩
def CS.remove (s : CS) (n : Nat) : Int × CS := match s.capAt n with
 | none => (3, s)
 | some c => if s.kids n ≠ [] then (6, s) else match s.owAt c.owner with
  | some o => (0, s.rem n c ⟨o.name, o.limit, o.hav - 1⟩)
  | none => (0, s)
def CS.revoke (s : CS) (n : Nat) (self : Bool) : Int × CS := match s.capAt n with
 | none => (3, s)
 | some c => (0, s.setC n (some (c.revoke self s.cp.length)))
def CS.mint (s : CS) (owner object mask badge expiry : Nat) : (Nat × Int) × CS := match s.owAt owner with
 | none => ((0, 3), s)
 | some o => if o.hav < o.limit then ((s.cp.length + 1, 0), s.add ⟨0, object, owner, mask, badge, 1, expiry, 0, false, true⟩ ⟨o.name, o.limit, o.hav + 1⟩) else ((0, 8), s)
def CS.derive (s : CS) (parent owner mask badge expiry : Nat) : (Nat × Int) × CS :=
 if s.state parent 0 ≠ 0 then ((0, s.state parent 0), s) else match s.capAt parent, s.owAt owner with
 | some p, some o => if subB mask p.rights = false then ((0, 7), s) else if 8 ≤ p.depth then ((0, 9), s) else if o.hav < o.limit then ((s.cp.length + 1, 0), s.add ⟨parent, p.object, owner, mask, badge, p.depth + 1, expiry, 0, false, true⟩ ⟨o.name, o.limit, o.hav + 1⟩) else ((0, 8), s)
 | _, _ => ((0, 3), s)
theorem move_ok {s : CS} (ok : s.ok) (n q : Nat) : (s.move n q).2.ok := by
 unfold CS.move
 split
 ·exact ok
 ·split
  ·exact ok
  ·split
   ·rename_i c p hc hp
    split
    ·exact ok
    ·rename_i f1
     split
     ·exact ok
     ·split
      ·exact ok
      ·have hk : s.kids n = [] := Decidable.byContradiction fun h => f1 (.inl h)
       have f2 : ¬ (c.parent = 0 ∨ n = q ∨ n ≤ p.cut) := fun h => f1 (.inr h)
       have hq := capAt_lt hp
       have hoq := ok.cp q p hp
       have hdq := hoq.depth
       have hsz := ok.size
       refine setC_ok2 ok hc hk fun c' e => ?_
       cases e
       exact ⟨under_ok (ok.cp n c hc) (by omega) (fun h => f2 (.inr (.inl h.symm))) hoq.object (by omega), fun _ => ⟨p, hp, rfl⟩⟩
   ·exact ok
theorem remove_ok {s : CS} (ok : s.ok) (n : Nat) : (s.remove n).2.ok := by
 unfold CS.remove
 split
 ·exact ok
 ·rename_i c hc
  split
  ·exact ok
  ·rename_i hk
   split
   ·rename_i o ho
    have hoo := ok.ow _ _ ho
    have h1 : (s.setC n none).ok := setC_ok2 ok hc (Decidable.not_not.1 hk) (fun c' e => by cases e)
    exact setO_ok h1 (i := c.owner) (owAt_lt ho) ⟨hoo.id, hoo.name, hoo.len, hoo.limit, by show o.hav - 1 ≤ o.limit; have := hoo.hav; omega⟩
   ·exact ok
theorem revoke_ok {s : CS} (ok : s.ok) (n : Nat) (self : Bool) : (s.revoke n self).2.ok := by
 unfold CS.revoke
 split
 ·exact ok
 ·rename_i c hc
  have h := ok.cp n c hc
  have hsz := ok.size
  have hh : (c.revoke self s.cp.length).ok n := by
   cases self
   ·exact ⟨h.id, h.parent, h.other, h.object, h.owner, h.rights, h.badge, h.depth, h.expiry, by show s.cp.length ≤ 16777215; omega, h.root⟩
   ·exact ⟨h.id, h.parent, h.other, h.object, h.owner, h.rights, h.badge, h.depth, h.expiry, h.cut, h.root⟩
  exact setC_okP ok hc hh (by cases self <;> rfl) (by cases self <;> rfl)
theorem mint_ok {s : CS} (ok : s.ok) {owner object mask badge expiry : Nat} (hob : 1 ≤ object ∧ object ≤ 16777215) (hm : mask < 65536) (hb : badge < 4294967296) (he : expiry ≤ 268435455) (hn : s.cp.length < 1000) : (s.mint owner object mask badge expiry).2.ok := by
 unfold CS.mint
 split
 ·exact ok
 ·rename_i o ho
  split
  ·rename_i hq
   exact add_ok ok ho (mintOk ok ho hob hm hb he hn) (hav_ok (ok.ow _ _ ho) hq) (fun h => absurd rfl h) hn
  ·exact ok
theorem derive_ok {s : CS} (ok : s.ok) {parent owner mask badge expiry : Nat} (hm : mask < 65536) (hb : badge < 4294967296) (he : expiry ≤ 268435455) (hn : s.cp.length < 1000) : (s.derive parent owner mask badge expiry).2.ok := by
 unfold CS.derive
 split
 ·exact ok
 ·split
  ·rename_i p o hp ho
   split
   ·exact ok
   ·split
    ·exact ok
    ·rename_i hd
     split
     ·rename_i hq
      exact add_ok ok ho (derOk ok hp ho hm hb he (by omega) hn) (hav_ok (ok.ow _ _ ho) hq) (fun _ => ⟨p, hp, rfl⟩) hn
     ·exact ok
  ·exact ok
theorem ct_ofI {g : FuncId} {args : List Value} {P : TxP} {s s' : CS} {V : Value} (hok : s.ok → s'.ok) (h : ∀ T, CtI P s T → Does Tryz.prog g args [Tx P T] (fun v H => ∃ T', v = V ∧ H = [Tx P T'] ∧ Rp T' s'.val)) : Does Tryz.prog g args [Ct P s] (fun v H => v = V ∧ H = [Ct P s']) :=
 ct_of fun T k => (h T k).mono fun v H ⟨T', h1, h2, h3⟩ => ⟨T', h1, h2, h3, hok k.ok⟩
section
variable (P : TxP) (s : CS)
theorem cMove_does (room : roomC P s) (n q : Nat) : Does Tryz.prog 16 [.pointer (some ⟨P.t, 0, none⟩), .int .i64 n, .int .i64 q, .int .i64 0] [Ct P s] (fun v H => v = .int .i64 (s.move n q).1 ∧ H = [Ct P (s.move n q).2]) :=
 ct_ofI (fun ok => move_ok ok n q) fun T k => move_does P s T k room n q
theorem cRemove_does (room : roomC P s) (n : Nat) (hown : ∀ c, s.capAt n = some c → ∃ o, s.owAt c.owner = some o) : Does Tryz.prog 47 [.pointer (some ⟨P.t, 0, none⟩), .int .i64 n] [Ct P s] (fun v H => v = .int .i64 (s.remove n).1 ∧ H = [Ct P (s.remove n).2]) := by
 have hok := fun ok => remove_ok (s := s) ok n
 cases hc : s.capAt n with
 | none =>
  have e : s.remove n = (3, s) := by unfold CS.remove; rw [hc]
  rw [e]
  exact ct_same fun T k => removeNone_does P s T k n hc
 | some c =>
  by_cases hk : s.kids n = []
  ·obtain ⟨o, ho⟩ := hown c hc
   have e : s.remove n = (0, s.rem n c ⟨o.name, o.limit, o.hav - 1⟩) := by unfold CS.remove; simp only [hc, ho]; rw [if_neg (by simp [hk])]
   rw [e] at hok ⊢
   exact ct_ofI hok fun T k => remove_does P s T k room n c o hc ho hk
  ·have e : s.remove n = (6, s) := by unfold CS.remove; simp only [hc]; rw [if_pos hk]
   rw [e]
   exact ct_same fun T k => removeKids_does P s T k n c hc hk
theorem cRevoke_does (room : roomC P s) (n : Nat) (self : Bool) : Does Tryz.prog 23 [.pointer (some ⟨P.t, 0, none⟩), .int .i64 n, .bool self] [Ct P s] (fun v H => v = .int .i64 (s.revoke n self).1 ∧ H = [Ct P (s.revoke n self).2]) := by
 have hok := fun ok => revoke_ok (s := s) ok n self
 cases hc : s.capAt n with
 | none =>
  have e : s.revoke n self = (3, s) := by unfold CS.revoke; rw [hc]
  rw [e]
  exact ct_same fun T k => revokeNone_does P s T k n self hc
 | some c =>
  have e : s.revoke n self = (0, s.setC n (some (c.revoke self s.cp.length))) := by unfold CS.revoke; rw [hc]
  rw [e] at hok ⊢
  exact ct_ofI hok fun T k => revoke_does P s T k room n self c hc
theorem cMintF_does (room : roomC P s) (owner object mask badge expiry : Nat) (o : Ow) (ho : s.owAt owner = some o) (hob : 1 ≤ object ∧ object ≤ 16777215) (hm : mask < 65536) (hb : badge < 4294967296) (he : expiry ≤ 268435455) (hn : s.cp.length < 1000) :
  Does Tryz.prog 14 [.pointer (some ⟨P.t, 0, none⟩), .int .i64 owner, .int .i64 object, .int .i64 mask, .int .i64 badge, .int .i64 expiry] [Ct P s]
   (fun v H => v = .tuple #[.int .i64 ((s.mint owner object mask badge expiry).1.1 : Nat), .int .i64 (s.mint owner object mask badge expiry).1.2] ∧ H = [Ct P (s.mint owner object mask badge expiry).2]) := by
 by_cases hq : o.hav < o.limit
 ·have e : s.mint owner object mask badge expiry = ((s.cp.length + 1, 0), s.add ⟨0, object, owner, mask, badge, 1, expiry, 0, false, true⟩ ⟨o.name, o.limit, o.hav + 1⟩) := by unfold CS.mint; simp only [ho]; rw [if_pos hq]
  rw [e]
  exact cMint_does P s room owner object mask badge expiry o ho hob hm hb he hq hn
 ·have e : s.mint owner object mask badge expiry = ((0, 8), s) := by unfold CS.mint; simp only [ho]; rw [if_neg hq]
  rw [e]
  exact ct_same fun T k => mintFull_does P s T k owner object mask badge expiry o ho hob hm hb he hq
theorem deriveSt_does (T : List Ent) (k : CtI P s T) (parent owner mask badge expiry : Nat) (hm : mask < 65536) (hb : badge < 4294967296) (he : expiry ≤ 268435455) (hst : ¬ s.state parent 0 = 0) :
  Does Tryz.prog 15 [.pointer (some ⟨P.t, 0, none⟩), .int .i64 parent, .int .i64 owner, .int .i64 mask, .int .i64 badge, .int .i64 expiry, .int .i64 0] [Tx P T] (fun v H => v = .tuple #[.int .i64 0, .int .i64 (s.state parent 0)] ∧ H = [Tx P T]) := by
 have hmay := cMay_does mask badge expiry hm hb he
 have hst2 := stateN_does P s T k parent
 refine does_of Tryz.func15 Tryz.ntmps15 rfl rfl rfl (fun w0 F0 => ?_)
 (repeat' (first|refine g_seq (h:=?_)|refine g_region (h:=?_)|refine l_nil (h:=?_)|refine n_then (h:=?_)|refine l_pures1 (h:=?_)|(refine l_atc ?_; refine l_call (hmay) ?_)|(refine l_atc ?_; refine l_call (hst2) ?_)|refine g_skip (h:=?_)|refine g_ret (h:=?_)|refine n_then_ret (h:=?_)|refine g_cond_f (h:=?_)|(refine g_spT (h:=?_); intro h)))
 refine r_retk [Tx P T] ?_
 exact ⟨rfl, rfl⟩
theorem cDeriveF_does (room : roomC P s) (parent owner mask badge expiry : Nat) (o : Ow) (ho : s.owAt owner = some o) (hm : mask < 65536) (hb : badge < 4294967296) (he : expiry ≤ 268435455) (hn : s.cp.length < 1000) :
  Does Tryz.prog 15 [.pointer (some ⟨P.t, 0, none⟩), .int .i64 parent, .int .i64 owner, .int .i64 mask, .int .i64 badge, .int .i64 expiry, .int .i64 0] [Ct P s]
   (fun v H => v = .tuple #[.int .i64 ((s.derive parent owner mask badge expiry).1.1 : Nat), .int .i64 (s.derive parent owner mask badge expiry).1.2] ∧ H = [Ct P (s.derive parent owner mask badge expiry).2]) := by
 by_cases hst : s.state parent 0 = 0
 ·obtain ⟨p, hp⟩ := state_some hst
  have e0 : s.derive parent owner mask badge expiry = if subB mask p.rights = false then ((0, 7), s) else if 8 ≤ p.depth then ((0, 9), s) else if o.hav < o.limit then ((s.cp.length + 1, 0), s.add ⟨parent, p.object, owner, mask, badge, p.depth + 1, expiry, 0, false, true⟩ ⟨o.name, o.limit, o.hav + 1⟩) else ((0, 8), s) := by
   unfold CS.derive
   rw [if_neg (by omega)]
   simp only [hp, ho]
  rw [e0]
  by_cases f1 : subB mask p.rights = false
  ·rw [if_pos f1]
   exact ct_same fun T k => deriveNot_does P s T k parent owner mask badge expiry 0 p o hp hst ho hm hb he f1
  ·rw [if_neg f1]
   have f1 : subB mask p.rights = true := by simpa using f1
   by_cases f2 : 8 ≤ p.depth
   ·rw [if_pos f2]
    exact ct_same fun T k => deriveDeep_does P s T k parent owner mask badge expiry 0 p o hp hst ho hm hb he f1 (by omega)
   ·rw [if_neg f2]
    by_cases f3 : o.hav < o.limit
    ·rw [if_pos f3]
     exact cDer_does P s room parent owner mask badge expiry 0 p o hp hst ho hm hb he f1 (by omega) f3 hn
    ·rw [if_neg f3]
     exact ct_same fun T k => deriveFull_does P s T k parent owner mask badge expiry 0 p o hp hst ho hm hb he f1 (by omega) f3
 ·have e0 : s.derive parent owner mask badge expiry = ((0, s.state parent 0), s) := by unfold CS.derive; rw [if_pos hst]
  rw [e0]
  exact ct_same fun T k => deriveSt_does P s T k parent owner mask badge expiry hm hb he hst
end
end Go.Proofs.YtelfjhemnnbbpaaGreat

/- Texts TrX, TrY, Pl, PlS, TrT, TrU, TrZ, TrPa, TrPb, TrPp, TrPc, TrPd, TrPe, TrG, SlP, RefA, RefB, SlQ, TlA, TlB, joined. -/
import Derived.Test.YtmfmommgooccnaaGreatK07
/- Package tree: the way down to a key. -/
set_option maxRecDepth 20000
set_option linter.unusedVariables false
set_option linter.unusedSimpArgs false
namespace Go.Proofs.YtmfmommgooccnaaGreat
open Go.Proofs.YtmfmommgooccnaaGreat.SL

abbrev Sp.spot (s : Sp) : Spot := ⟨s.pg, s.d, s.i⟩
/-- The rows of all nodes of a stack. -/
def ndlK (L : List Sp) (_ : Unit) : List SProp := L.map fun s => Nds s.d s.r
def NdL (L : List Sp) : SProp := hid (fun _ : Unit => True) (ndlK L)
theorem ndl_nil {w0 w : World} {F0 : Nat → Prop} {H : List SProp} (i : Inv w0 F0 H w) : Inv w0 F0 (NdL [] :: H) w := Inv.shuts (K := []) (A := NdL []) (show Shuts [] (NdL []) from fun _ _ s => ⟨(), trivial, s⟩) i
theorem spC_nil : spC [] = [] := rfl
theorem ndl_snoc {w0 w : World} {F0 : Nat → Prop} {H : List SProp} {L : List Sp} {s : Sp} (i : Inv w0 F0 (NdL L :: Nds s.d s.r :: H) w) : Inv w0 F0 (NdL (L ++ [s]) :: H) w := by
  obtain ⟨u, _, i⟩ := i.opens (hid_opens (p := fun _ : Unit => True) (K := ndlK L))
  have e : ndlK L () ++ Nds s.d s.r :: H = ndlK (L ++ [s]) () ++ H := by simp [ndlK]
  cases u
  rw [e] at i
  exact i.shuts (hid_shuts () trivial)
theorem ndl_last {w0 w : World} {F0 : Nat → Prop} {H : List SProp} {L : List Sp} {s : Sp} (i : Inv w0 F0 (NdL (L ++ [s]) :: H) w) : Inv w0 F0 (NdL L :: Nds s.d s.r :: H) w := by
  obtain ⟨u, _, i⟩ := i.opens (hid_opens (p := fun _ : Unit => True) (K := ndlK (L ++ [s])))
  have e : ndlK (L ++ [s]) () ++ H = ndlK L () ++ Nds s.d s.r :: H := by simp [ndlK]
  cases u
  rw [e] at i
  exact i.shuts (hid_shuts () trivial)

/-- The way from a page down to the leaf for a key. -/
def Goes (S : Sh) (D : Dk) (x : Nat) : Int → List Spot → Prop
  | _, [] => False
  | pg, s :: l => s.pg = pg ∧ S.read D pg = ((2, s.d.text, 0), S) ∧ s.d.good ∧ (s.d.leaf = true ∧ s.i = posN s.d.keys x ∧ l = [] ∨ s.d.leaf = false ∧ s.i = cntN s.d.keys x ∧ Goes S D x (s.d.kids.getD s.i 0) l)

set_option maxHeartbeats 2000000 in
theorem way_does (b sb db x : Nat) (root read : Int) (S : Sh) (D : Dk) (path : List Spot) (hg : Goes S D x root path) (hl : path.length ≤ 10) (h1 : 0 ≤ read ∧ read + path.length ≤ 640) :
    Does Tryz.prog 109 [.pointer (some ⟨b, 0, none⟩), .int .i64 root, .int .u64 x] [Wk b sb read 0, Store sb db S, Disk db D]
      (fun v H => ∃ b' L, L.map Sp.spot = path ∧ v = .pointer (some ⟨b', 0, none⟩) ∧ H = [Stk b' L, NdL L, Wk b sb (read + path.length) 0, Store sb db S, Disk db D]) := by
  refine does_of Tryz.func109 Tryz.ntmps109 rfl rfl rfl (fun w0 F0 => ?_)
  (repeat (first | refine g_seq (h := ?_) | refine g_region (h := ?_) | refine l_nil (h := ?_) | refine n_then (h := ?_) | refine l_pures1 (h := ?_) | (refine l_box (h := ?_); intro _) | refine g_block (h := ?_)))
  rename_i b'
  refine g_inv (fun i => vec_nil (180) (6) i) ?_
  refine g_inv (H' := [vec 180 6 none 0 0 [], cl b' 240 [.slice none 0 0], Wk b sb read 0, Store sb db S, Disk db D]) (fun i => i) ?_
  (refine g_shut (A := Stk b' []) (K := StkK b' [] (((none : Option Addr), 0))) (hid_shuts (((none : Option Addr), 0)) trivial) (h := ?_) (p := by dsimp only [StkK]; (try simp only [List.map_nil, List.length_nil, List.length_set, List.length_append, List.length_cons, List.length_singleton, List.map_append, List.map_cons, Nat.zero_add, spC_nil]); exact parts_of))
  refine g_inv (fun i => ndl_nil i) ?_
  (refine g_loop (fun y : List Sp × List Spot × Int => [(9, .int .i64 (y.1.length + 1 : Nat)), (8, .int .i64 y.2.2), (7, .pointer (some ⟨b', 0, none⟩)), (0, .pointer (some ⟨b, 0, none⟩)), (2, .int .u64 x)]) (fun y => [Stk b' y.1, NdL y.1, Wk b sb (read + y.1.length) 0, Store sb db S, Disk db D]) (fun y => Goes S D x y.2.2 y.2.1 ∧ y.1.map Sp.spot ++ y.2.1 = path) (fun y => y.2.1.length) (([], path, root)) ?_ ?_ ?_ ?_; rotate_left; (repeat (first | refine ts_nil | (refine ts_cons rfl ?_ ?_; first | (with_reducible rfl) | rotate_left))); (first | (intro _ i; with_reducible refine i) | rotate_left); rotate_left; (try omega); rotate_right)
  · rintro ⟨L, rest, pg⟩ ⟨hgo, hp⟩
    dsimp only at hgo hp ⊢
    cases rest with
    | nil => exact hgo.elim
    | cons s l =>
      obtain ⟨pg', d, i⟩ := s
      obtain ⟨e1, e2, e3, e4⟩ := hgo
      dsimp only at e1 e2 e3 e4
      subst e1
      have hlen : L.length + (l.length + 1) = path.length := by rw [← hp]; simp
      have hn := wNode_does b sb db (L.length + 1) pg' (read + L.length) S D d e3 e2 (by omega) (by omega)
      have hpush := fun r => push_does b' L ⟨pg', d, r, i⟩ (by omega)
      have hF := fun r => Find_does d r x e3.fits e3.p.rise
      rcases e4 with ⟨f1, f2, f3⟩ | ⟨f1, f2, f3⟩
      · simp only [f1, if_true, ← f2] at hF
        (repeat' (first | refine g_seq (h := ?_) | refine g_region (h := ?_) | refine l_nil (h := ?_) | refine n_then (h := ?_) | refine l_pures1 (h := ?_) | (refine l_atc ?_; refine l_call_ (hn) ?_; rintro _ _ _ ⟨r, rfl, rfl⟩ he; cases he) | (refine l_atc ?_; refine l_call (hF _) ?_) | (refine l_atc ?_; refine l_call (hpush _) ?_) | refine l_load (h := ?_) | refine l_store (h := ?_) | (refine l_alloc (h := ?_); intro _) | refine g_skip (h := ?_) | refine g_ret (h := ?_) | refine n_then_ret (h := ?_) | refine n_block_ret (h := ?_) | refine g_block (h := ?_) | refine g_cond_f (h := ?_) | (refine g_sp (h1 := ?_) (h0 := ?_) <;> intro h)))
        · subst f3
          have er : read + (path.length : Int) = read + L.length + 1 := by simp at hlen; omega
          refine n_inv (fun q => ndl_snoc (s := ⟨pg', d, r, i⟩) ((q.take (A := Nds d r) (by with_reducible (repeat (first | refine Take.here | apply Take.there)))).take (A := NdL L) (Take.there (by with_reducible (repeat (first | refine Take.here | apply Take.there)))))) ?_
          refine r_retk [Stk b' (L ++ [⟨pg', d, r, i⟩]), NdL (L ++ [⟨pg', d, r, i⟩]), Wk b sb (read + L.length + 1) 0, Store sb db S, Disk db D] ?_
          exact ⟨b', L ++ [⟨pg', d, r, i⟩], by rw [← hp]; simp, rfl, by rw [er]⟩
        · exact absurd (f1.symm.trans h) (by decide)
      · simp only [f1, Bool.false_eq_true, if_false, ← f2] at hF
        have hkl := e3.p.kids
        simp only [f1, Bool.false_eq_true, if_false] at hkl
        have hci := (cntN_spec (x := x) e3.p.rise).1
        rw [← f2] at hci
        have hfk := e3.fits.k
        (repeat' (first | refine g_seq (h := ?_) | refine g_region (h := ?_) | refine l_nil (h := ?_) | refine n_then (h := ?_) | refine l_pures1 (h := ?_) | (refine l_atc ?_; refine l_call_ (hn) ?_; rintro _ _ _ ⟨r, rfl, rfl⟩ he; cases he) | (refine l_atc ?_; refine l_call (hF _) ?_) | (refine l_atc ?_; refine l_call (hpush _) ?_) | refine l_load (h := ?_) | refine l_store (h := ?_) | (refine l_alloc (h := ?_); intro _) | refine g_skip (h := ?_) | refine g_ret (h := ?_) | refine n_then_ret (h := ?_) | refine n_block_ret (h := ?_) | refine g_block (h := ?_) | refine g_cond_f (h := ?_) | (refine g_sp (h1 := ?_) (h0 := ?_) <;> intro h)))
        · exact absurd (f1.symm.trans h) (by decide)
        · obtain ⟨p1, c1, p2, c2, p3, c3⟩ := r
          refine l_open (A := Nds d ⟨p1, c1, p2, c2, p3, c3⟩) (h := ?_); (rintro _ _; dsimp only [NdsK, List.cons_append, List.nil_append])
          refine l_ptr (m := d.kids.length) (h := ?_); rintro g rfl hc
          have hgk := iGet (l := d.kids) (k := i) (by omega)
          (repeat (first | refine g_region (h := ?_) | refine l_nil (h := ?_) | refine n_then (h := ?_) | refine l_pures1 (h := ?_) | refine l_indexAddr (h := ?_) | refine n_block (h := ?_) | refine l_load_vec (h := ?_)))
          (refine n_shut (A := Nds d ⟨p1, c1, p2, c2, some ⟨g, 0, none⟩, c3⟩) (K := NdsK d ⟨p1, c1, p2, c2, some ⟨g, 0, none⟩, c3⟩ (())) (hid_shuts (()) trivial) (h := ?_) (p := by dsimp only [NdsK]; (try simp only [List.map_nil, List.length_nil, List.length_set, List.length_append, List.length_cons, List.length_singleton, List.map_append, List.map_cons, Nat.zero_add]); exact parts_of))
          refine n_inv (fun q => ndl_snoc (s := ⟨pg', d, ⟨p1, c1, p2, c2, some ⟨g, 0, none⟩, c3⟩, i⟩) ((q.take (A := Nds d ⟨p1, c1, p2, c2, some ⟨g, 0, none⟩, c3⟩) (by with_reducible (repeat (first | refine Take.here | apply Take.there)))).take (A := NdL L) (Take.there (by with_reducible (repeat (first | refine Take.here | apply Take.there)))))) ?_
          (refine n_back ((L ++ [⟨pg', d, ⟨p1, c1, p2, c2, some ⟨g, 0, none⟩, c3⟩, i⟩], l, d.kids.getD i 0)) ?_ ?_ ?_ ?_; rotate_left; rotate_left; (repeat (first | refine ts_nil | (refine ts_cons rfl ?_ ?_; first | (with_reducible rfl) | rotate_left))); (first | (intro _ i; with_reducible refine i) | rotate_left); (try omega); (try omega))
          · exact ⟨f3, by rw [← hp]; simp⟩
          · exact Nat.lt_succ_self _
          · rw [wrapI64 (by omega), List.length_append]; rfl
          · dsimp only
            have er : read + ((L ++ [(⟨pg', d, ⟨p1, c1, p2, c2, some ⟨g, 0, none⟩, c3⟩, i⟩ : Sp)]).length : Int) = read + L.length + 1 := by rw [List.length_append, List.length_singleton]; omega
            rw [er]
            (intro _ i; exact inv_keep parts_of i)
  · exact ⟨hg, rfl⟩
  · rfl
  · dsimp only
    rw [show read + (([] : List Sp).length : Int) = read by simp]
    (intro _ i; exact inv_keep parts_of i)
end Go.Proofs.YtmfmommgooccnaaGreat
/- Package tree: Get. -/
set_option maxRecDepth 20000
set_option linter.unusedVariables false
set_option linter.unusedSimpArgs false
namespace Go.Proofs.YtmfmommgooccnaaGreat
open Go.Proofs.YtmfmommgooccnaaGreat.SL

theorem Goes.last {S : Sh} {D : Dk} {x : Nat} : ∀ {l : List Spot} {s : Spot} {pg : Int}, Goes S D x pg (l ++ [s]) → s.d.good ∧ s.d.leaf = true ∧ s.i = posN s.d.keys x
  | [], s, pg, ⟨_, _, h3, h4⟩ => by
    rcases h4 with ⟨a, b, _⟩ | ⟨_, _, c⟩
    · exact ⟨h3, a, b⟩
    · exact c.elim
  | t :: l, s, pg, ⟨_, _, _, h4⟩ => by
    rcases h4 with ⟨_, _, c⟩ | ⟨_, _, c⟩
    · simp at c
    · exact Goes.last c
set_option maxHeartbeats 2000000 in
theorem Get_does (sb db x : Nat) (root : Int) (S : Sh) (D : Dk) (l0 : List Spot) (s : Spot) (hg : Goes S D x root (l0 ++ [s])) (hl : l0.length + 1 ≤ 10) (hr : root ≠ 0) :
    Does Tryz.prog 69 [.pointer (some ⟨sb, 0, none⟩), .int .i64 root, .int .u64 x] [Store sb db S, Disk db D]
      (fun v H => v = (if x ∈ s.d.keys then .tuple #[.string (str (s.d.vals.getD s.i [])), .bool true, .int .i64 0] else .tuple #[.string (str []), .bool false, .int .i64 0]) ∧ H = [Store sb db S, Disk db D]) := by
  obtain ⟨hd, hlf, hi⟩ := hg.last
  have hw := fun b => way_does b sb db x root 0 S D (l0 ++ [s]) hg (by simp; omega) (by simp; omega)
  have hv := hd.p.vals
  simp only [hlf, if_true] at hv
  refine does_of Tryz.func69 Tryz.ntmps69 rfl rfl rfl (fun w0 F0 => ?_)
  (repeat' (first | refine g_seq (h := ?_) | refine g_region (h := ?_) | refine l_nil (h := ?_) | refine n_then (h := ?_) | refine l_pures1 (h := ?_) | (refine l_box (h := ?_); intro _) | refine g_skip (h := ?_) | (refine g_spF (h := ?_); intro h)))
  rename_i b
  refine l_inv (H' := [Wk b sb 0 0, Store sb db S, Disk db D]) (fun i => i) ?_
  (repeat' (refine l_atc ?_; refine l_call_ (hw b) ?_; rintro _ _ _ ⟨b', L, hL, rfl, rfl⟩ he; cases he))
  obtain ⟨L0, t, rfl⟩ : ∃ L0 t, L = L0 ++ [t] := by
    rcases List.eq_nil_or_concat L with rfl | ⟨l, s, rfl⟩
    · simp at hL
    · exact ⟨l, s, by simp⟩
  have hL2 : L0.map Sp.spot = l0 ∧ t.spot = s := by
    have := congrArg List.reverse hL
    simp at this
    exact ⟨this.2, this.1⟩
  obtain ⟨hL1, hts⟩ := hL2
  subst hts
  have hlen : L0.length = l0.length := by rw [← hL1]; simp
  have hpop := pop_does b' L0 t (by omega)
  refine l_inv (fun q => ndl_last (q.take (A := NdL (L0 ++ [t])) (by with_reducible (repeat (first | refine Take.here | apply Take.there))))) ?_
  have hF := Find_does t.d t.r x hd.fits hd.p.rise
  dsimp only [Sp.spot] at hlf hi hv
  simp only [hlf, if_true] at hF
  rw [← hi] at hF
  (repeat' (first | refine g_seq (h := ?_) | refine g_region (h := ?_) | refine l_nil (h := ?_) | refine n_then (h := ?_) | refine l_pures1 (h := ?_) | (refine l_atc ?_; refine l_call (hpop) ?_) | (refine l_atc ?_; refine l_call (hF) ?_) | refine l_load (h := ?_) | refine l_store (h := ?_) | (refine l_alloc (h := ?_); intro _) | refine g_skip (h := ?_) | refine g_ret (h := ?_) | refine g_cond_f (h := ?_) | (refine g_sp (h1 := ?_) (h0 := ?_) <;> intro h)))
  · have hm := (posN_mem hd.p.rise).1 h
    dsimp only [Sp.spot] at hm
    rw [← hi] at hm
    obtain ⟨tpg, td, ⟨p1, c1, p2, c2, p3, c3⟩, ti⟩ := t
    dsimp only at hv hm h
    refine l_open (A := Nds td ⟨p1, c1, p2, c2, p3, c3⟩) (h := ?_); (rintro _ _; dsimp only [NdsK, List.cons_append, List.nil_append])
    refine l_ptr (m := td.vals.length) (h := ?_); rintro g rfl hc
    have hgs := sGet (l := td.vals) (k := ti) (by omega)
    (repeat (first | refine l_nil (h := ?_) | refine n_then (h := ?_) | refine l_pures1 (h := ?_) | refine l_indexAddr (h := ?_) | refine g_ret (h := ?_) | refine n_then_ret (h := ?_) | refine l_load_vec (h := ?_)))
    refine r_retk [Store sb db S, Disk db D] ?_
    exact ⟨by rw [if_pos h]; rfl, rfl⟩
  · skip
    refine r_retk [Store sb db S, Disk db D] ?_
    exact ⟨by rw [if_neg h]; rfl, rfl⟩
end Go.Proofs.YtmfmommgooccnaaGreat
/- Plain facts on the models: sets of numbers, pages, disks. -/
set_option linter.unusedVariables false
set_option linter.unusedSimpArgs false
namespace Go.Proofs.YtmfmommgooccnaaGreat
open Go.Proofs.YtmfmommgooccnaaGreat.SL

/-! ### Sets -/
theorem hasB_snoc {l : List UInt8} {c : UInt8} {i : Nat} (h : i < 8 * l.length) : hasB (l ++ [c]) i = hasB l i := by
  simp only [hasB, Int.toNat_natCast]
  rw [List.getD, List.getElem?_append_left (by omega)]; rfl
theorem hasB_snoc2 {l : List UInt8} {c : UInt8} {m : Nat} (h : m < 8) : hasB (l ++ [c]) ((8 * l.length + m : Nat) : Int) = c.toNat.testBit m := by
  simp only [hasB, Int.toNat_natCast]
  rw [show (8 * l.length + m) / 8 = l.length by omega, show (8 * l.length + m) % 8 = m by omega, List.getD, List.getElem?_append_right (Nat.le_refl _)]
  simp
  intro _; omega
theorem countB_eq : ∀ (u : List UInt8), countB u = (usedN u (8 * u.length)).length := by
  refine snoc_ind rfl ?_
  intro l c ih
  rw [countB_snoc, ih]
  simp only [usedN, List.length_map]
  rw [← List.countP_eq_length_filter, ← List.countP_eq_length_filter, List.length_append, List.length_singleton, Nat.mul_add, List.range_add, List.countP_append, List.countP_map]
  congr 1
  · apply List.countP_congr
    intro i hi
    rw [hasB_snoc (List.mem_range.1 hi)]
  · rw [ones]
    apply List.countP_congr
    intro m hm
    have := hasB_snoc2 (l := l) (c := c) (List.mem_range.1 (by simpa using hm))
    simp only [Function.comp]
    rw [this]

theorem mem_usedN {u : List UInt8} {n : Nat} {i : Int} : i ∈ usedN u n ↔ hasB u i = true ∧ i < n := by
  simp only [usedN, List.mem_map, List.mem_filter, List.mem_range]
  constructor
  · rintro ⟨j, ⟨h1, h2⟩, rfl⟩
    exact ⟨h2, by omega⟩
  · rintro ⟨h1, h2⟩
    have := (hasB_lt h1).1
    exact ⟨i.toNat, ⟨by omega, by rw [Int.toNat_of_nonneg this]; exact h1⟩, Int.toNat_of_nonneg this⟩
theorem usedN_nodup (u : List UInt8) (n : Nat) : (usedN u n).Nodup := by
  exact List.Pairwise.map _ (fun a b (h : a ≠ b) q => h (by omega)) (List.Pairwise.filter _ List.nodup_range)

/-- A set's bytes have just these numbers. -/
structure Uses (u : List UInt8) (L : List Int) : Prop where
  len : u.length = 80
  nd : L.Nodup
  mem : ∀ i, hasB u i = true ↔ i ∈ L
theorem Uses.bd {u : List UInt8} {L : List Int} (h : Uses u L) {i : Int} (hi : i ∈ L) : 0 ≤ i ∧ i < 640 := by
  have := hasB_lt ((h.mem i).2 hi)
  rw [h.len] at this
  omega
theorem Uses.usedN {u : List UInt8} {L : List Int} (h : Uses u L) {n : Nat} (hn : ∀ i ∈ L, i < n) : (usedN u n).Perm L := by
  rw [List.perm_ext_iff_of_nodup (usedN_nodup _ _) h.nd]
  intro i
  rw [mem_usedN, h.mem]
  exact ⟨fun q => q.1, fun q => ⟨q, hn i q⟩⟩
theorem Uses.count {u : List UInt8} {L : List Int} (h : Uses u L) : countB u = L.length := by
  rw [countB_eq]
  exact (h.usedN (fun i hi => by have := h.bd hi; rw [h.len]; omega)).length_eq
theorem hasB_zeros (n : Nat) (i : Int) : hasB (List.replicate n 0) i = false := by
  simp only [hasB]
  have : (List.replicate n (0 : UInt8)).getD (i.toNat / 8) 0 = 0 := by
    rw [List.getD, List.getElem?_replicate]; split <;> rfl
  rw [this]; simp
theorem uses_new : Uses (newB 640) [] := ⟨newB_len, List.nodup_nil, fun i => by rw [newB, hasB_zeros]; simp⟩
theorem has_setAll {on : Bool} : ∀ {l : List Int} {u : List UInt8} {j : Int}, (∀ i ∈ l, 0 ≤ i ∧ i < 8 * (u.length : Int)) → hasB (setAll u on l) j = if j ∈ l then on else hasB u j
  | [], u, j, _ => by simp [setAll]
  | n :: l, u, j, h => by
    show hasB (setAll (withB u n on) on l) j = _
    have hn := h n (by simp)
    rw [has_setAll (fun i hi => by rw [withB_len]; exact h i (by simp [hi])), hasB_with hn.1 (by omega)]
    by_cases q : j ∈ l
    · simp [q]
    · by_cases e : j = n <;> simp [q, e]
theorem Uses.add {u : List UInt8} {L F : List Int} (h : Uses u L) (hF : F.Nodup) (hb : ∀ i ∈ F, 0 ≤ i ∧ i < 640) (hd : ∀ i ∈ F, i ∉ L) {l : List Int} (hl : l.Perm F) : Uses (setAll u true l) (L ++ F) := by
  refine ⟨by rw [setAll_len, h.len], List.nodup_append.2 ⟨h.nd, hF, fun x hx y hy q => hd y hy (q ▸ hx)⟩, fun i => ?_⟩
  rw [has_setAll (fun i hi => by have := hb i (hl.mem_iff.1 hi); rw [h.len]; omega)]
  simp only [hl.mem_iff, List.mem_append]
  by_cases q : i ∈ F <;> simp [q, h.mem i]
theorem Uses.del {u : List UInt8} {L G : List Int} (h : Uses u L) (hb : ∀ i ∈ G, 0 ≤ i ∧ i < 640) {l : List Int} (hl : l.Perm G) : Uses (setAll u false l) (L.filter fun i => !decide (i ∈ G)) := by
  refine ⟨by rw [setAll_len, h.len], h.nd.filter _, fun i => ?_⟩
  rw [has_setAll (fun i hi => by have := hb i (hl.mem_iff.1 hi); rw [h.len]; omega)]
  simp only [hl.mem_iff, List.mem_filter]
  by_cases q : i ∈ G <;> simp [q, h.mem i]

/-! ### Pages -/
theorem bodyP_len {k : Int} {t : List UInt8} (h : t.length ≤ 240) : (bodyP k t).length = 252 := by
  simp only [bodyP, List.length_cons, List.length_append, List.length_replicate]; omega
theorem sealP_len {k : Int} {t : List UInt8} (h : t.length ≤ 240) : (sealP k t).length = 256 := by
  simp only [sealP, List.length_append, bodyP_len h, putN_length]
theorem seal_of {k : Int} {t : List UInt8} (hk : 1 ≤ k ∧ k ≤ 15) (h : t.length ≤ 240) : pageSeal k t = (sealP k t, 0) := by
  rw [pageSeal, if_neg (by omega)]
theorem open_seal {k : Int} {t : List UInt8} (hk : 1 ≤ k ∧ k ≤ 15) (h : t.length ≤ 240) : pageOpen (sealP k t) = (k, t, 0) := by
  have hb := bodyP_len (k := k) h
  have e1 : (sealP k t).take 252 = bodyP k t := by rw [sealP, ← hb, List.take_left]
  have e2 : (sealP k t).drop 252 = putN (sumP (bodyP k t)) 4 := by rw [sealP, ← hb, List.drop_left]
  have e3 : getN (putN (sumP (bodyP k t)) 4) = sumP (bodyP k t) := getN_putN 4 _ (sumP_lt _)
  have e4 : (sealP k t).getD 1 0 = UInt8.ofNat t.length := rfl
  have e5 : (UInt8.ofNat t.length).toNat = t.length := by simp; omega
  have e6 : byteAt (sealP k t) 0 = k := by
    show (((UInt8.ofNat k.toNat).toNat : Nat) : Int) = k
    simp; omega
  have e7 : ((sealP k t).drop 2).take t.length = t := by
    show (t ++ List.replicate (250 - t.length) 0 ++ putN (sumP (bodyP k t)) 4).take t.length = t
    rw [List.append_assoc, List.take_left]
  rw [pageOpen, if_neg (by rw [sealP_len h]; omega), e1, e2, e3, if_neg (by omega), e4, e5, e6, Nat.min_eq_left (by omega), e7, seal_of hk h, if_pos rfl]
theorem open_zero : pageOpen zero256 = (0, [], 15) := by
  have h1 : sumP (zero256.take 252) = 16515073 := by decide +kernel
  have h2 : getN (zero256.drop 252) = 0 := by decide +kernel
  rw [pageOpen, if_neg (by rw [zero256_len]; omega), h1, h2, if_pos (by omega)]

/-! ### Disks that are up, with no fuse -/
structure Dk.lives (D : Dk) (N : Nat) : Prop where
  n : D.now.length = N
  up : D.gone = false
  fuse : D.fuse = -1
theorem Dk.lives.may {D : Dk} {N : Nat} (h : D.lives N) {n : Int} (hn : 0 ≤ n ∧ n < N) : D.may n = 0 := by
  rw [Dk.may, if_neg (by rw [h.up]; simp), if_neg (by rw [h.n]; omega)]
theorem Dk.lives.put {D : Dk} {N : Nat} (h : D.lives N) (n : Int) (s : List UInt8) : (D.put n s).lives N :=
  ⟨by simp [Dk.put, h.n], h.up, by show max (-1) (D.fuse - 1) = -1; rw [h.fuse]; rfl⟩
theorem Dk.lives.write {D : Dk} {N : Nat} (h : D.lives N) {n k : Int} {t : List UInt8} (hn : 0 ≤ n ∧ n < N) (hk : 1 ≤ k ∧ k ≤ 15) (ht : t.length ≤ 240) : pageWrite D n k t = (0, D.put n (sealP k t)) := by
  rw [pageWrite, seal_of hk ht, if_neg (by simp), Dk.write, if_neg (by rw [h.may hn]; simp), if_neg (by rw [sealP_len ht]; simp), if_neg (by rw [h.fuse]; omega)]
/-- What a page says. -/
def Dk.pg (D : Dk) (n : Int) : Int × List UInt8 × Int := pageOpen (D.now.getD n.toNat [])
theorem Dk.lives.read {D : Dk} {N : Nat} (h : D.lives N) {n : Int} (hn : 0 ≤ n ∧ n < N) : pageRead D n = D.pg n := by
  have : D.read n = (D.now.getD n.toNat [], 0) := by rw [Dk.read, if_pos (h.may hn)]
  rw [pageRead, this, if_neg (by simp)]; rfl
theorem Dk.put_now (D : Dk) (n : Int) (s : List UInt8) : (D.put n s).now = D.now.set n.toNat s := rfl
theorem getD_set {α : Type} {l : List α} {i j : Nat} {s z : α} (h : i < l.length) : (l.set i s).getD j z = if j = i then s else l.getD j z := by
  simp only [List.getD, List.getElem?_set]
  by_cases q : j = i
  · subst q; simp [h]
  · rw [if_neg (fun e => q e.symm), if_neg q]
theorem Dk.lives.pg_put {D : Dk} {N : Nat} (h : D.lives N) {n m : Int} {s : List UInt8} (hn : 0 ≤ n ∧ n < N) (hm : 0 ≤ m) : (D.put n s).pg m = if m = n then pageOpen s else D.pg m := by
  rw [Dk.pg, Dk.put_now, getD_set (by rw [h.n]; omega)]
  by_cases q : m = n
  · subst q; simp
  · rw [if_neg q, if_neg (by omega)]; rfl
theorem Dk.lives.sync {D : Dk} {N : Nat} (h : D.lives N) : D.sync.1 = 0 ∧ D.sync.2.lives N ∧ D.sync.2.now = D.now := by
  rw [Dk.sync, if_neg (by rw [h.up]; simp)]
  exact ⟨rfl, ⟨h.n, h.up, h.fuse⟩, rfl⟩
theorem Dk.pg_now {D E : Dk} (h : D.now = E.now) (n : Int) : D.pg n = E.pg n := by rw [Dk.pg, Dk.pg, h]
theorem Dk.new_lives (n : Nat) : (Dk.new n).lives n := ⟨List.length_replicate, rfl, rfl⟩
theorem Dk.new_pg {n : Nat} {i : Int} (h : 0 ≤ i ∧ i < n) : (Dk.new n).pg i = (0, [], 15) := by
  have : (Dk.new n).now.getD i.toNat [] = zero256 := by
    rw [List.getD, Dk.new, List.getElem?_replicate, if_pos (by omega)]; rfl
  rw [Dk.pg, this, open_zero]

/-! ### Heads -/
structure Hd.good (h : Hd) (N : Nat) (U : List Int) : Prop where
  g : 1 ≤ h.gen ∧ h.gen ≤ 281474976710655
  r : h.root = 0 ∨ h.root ∈ U
  u : Uses h.used U
  b : ∀ i ∈ U, 2 ≤ i ∧ i < N
theorem Hd.good.ok {h : Hd} {N : Nat} {U : List Int} (k : h.good N U) : h.ok := by
  refine ⟨⟨by have := k.g; omega, k.g.2⟩, ?_, by rw [k.u.len]; omega⟩
  rcases k.r with e | e
  · omega
  · have := k.u.bd e; omega
theorem Hd.good.nums {h : Hd} {N : Nat} {U : List Int} (k : h.good N U) : (numPut h.gen.toNat 6).1 = putN h.gen.toNat 6 ∧ (numPut h.root.toNat 2).1 = putN h.root.toNat 2 := by
  have h1 := k.ok.g
  have h2 := k.ok.r
  refine ⟨?_, ?_⟩
  · rw [numPut, if_neg (by omega), if_pos (by show _ < 281474976710656; omega)]; rfl
  · rw [numPut, if_neg (by omega), if_pos (by show _ < 65536; omega)]; rfl
theorem Hd.good.text_len {h : Hd} {N : Nat} {U : List Int} (k : h.good N U) : h.text.length = 88 := by
  have h1 := k.ok.g
  have h2 := k.ok.r
  obtain ⟨e1, e2⟩ := k.nums
  rw [Hd.text, e1, e2, List.length_append, List.length_append, putN_length, putN_length, k.u.len]
theorem Hd.good.counts {h : Hd} {N : Nat} {U : List Int} (k : h.good N U) {n : Int} (hn : h.gen % 2 = n) : h.counts N n = true := by
  have h1 := k.g
  have hc : h.clear N 640 = true := by
    rw [Hd.clear, List.all_eq_true]
    intro i _
    cases q : hasB h.used i
    · simp
    · have := k.b _ ((k.u.mem i).1 q)
      simp; omega
  rw [Hd.counts, hc]
  have e : h.gen.tmod 2 = n := by rw [Int.tmod_eq_emod_of_nonneg (by omega)]; exact hn
  have e2 : decide (h.gen < 1) = false := by simp; omega
  rw [e, e2]
  rcases k.r with e | e
  · simp [e]
  · have := (k.u.mem _).2 e
    simp [this]
theorem readH_lt {D : Dk} {N : Nat} (hl : D.lives N) (hN : 2 ≤ N) {n : Int} (hn : 0 ≤ n ∧ n < 2) (h : (D.pg n).2.2 ≠ 0) : readH D n = (headNone, false) := by
  rw [readH, hl.read (by omega), if_pos (.inl h)]
theorem lay_of {D : Dk} {N : Nat} {h : Hd} {U : List Int} (hl : D.lives N) (k : h.good N U) (hN : 2 ≤ N) : ∃ E, h.lay D = (0, E) ∧ E.lives N ∧ ∀ m, 0 ≤ m → E.pg m = if m = h.gen % 2 then (1, h.text, 0) else D.pg m := by
  have hg := k.g
  have e : h.gen.tmod 2 = h.gen % 2 := Int.tmod_eq_emod_of_nonneg (by omega)
  have hb : 0 ≤ h.gen % 2 ∧ h.gen % 2 < N := by omega
  have ht : h.text.length ≤ 240 := by rw [k.text_len]; omega
  have hw := hl.write hb (k := 1) (t := h.text) (by omega) ht
  have hp := hl.put (h.gen % 2) (sealP 1 h.text)
  obtain ⟨s1, s2, s3⟩ := hp.sync
  refine ⟨(D.put (h.gen % 2) (sealP 1 h.text)).sync.2, ?_, s2, fun m hm => ?_⟩
  · rw [Hd.lay, e, hw, if_neg (by simp)]
    exact Prod.ext s1 rfl
  · rw [Dk.pg_now s3, hl.pg_put hb hm, open_seal (by omega) ht]
end Go.Proofs.YtmfmommgooccnaaGreat
/- Plain facts on the models: a store on a disk that is up. -/
set_option linter.unusedVariables false
set_option linter.unusedSimpArgs false
namespace Go.Proofs.YtmfmommgooccnaaGreat
open Go.Proofs.YtmfmommgooccnaaGreat.SL

theorem readH_pg {D E : Dk} {N : Nat} (hd : D.lives N) (he : E.lives N) {n : Int} (hn : 0 ≤ n ∧ n < N) (h : D.pg n = E.pg n) : readH D n = readH E n := by
  rw [readH, readH, hd.read hn, he.read hn, h, hd.n, he.n]

def Sh.head (S : Sh) : Hd := ⟨S.gen, S.root, S.used⟩
structure Fine (N : Nat) (S : Sh) (D : Dk) (U : List Int) : Prop where
  n : 8 ≤ N ∧ N ≤ 640
  d : D.lives N
  up : S.down = false
  h : S.head.good N U
  on : D.pg (S.gen % 2) = (1, S.head.text, 0)
  other : (readH D ((S.gen + 1) % 2)).2 = true → (readH D ((S.gen + 1) % 2)).1.gen < S.gen
  f : S.fresh.Nodup ∧ ∀ i ∈ S.fresh, 2 ≤ i ∧ i < N ∧ i ∉ U
  v : S.given.Nodup ∧ ∀ i ∈ S.given, i ∈ U

section
variable {N : Nat} {S : Sh} {D : Dk} {U : List Int}

theorem Fine.over (k : Fine N S D U) : Fine N S.head.over D U :=
  ⟨k.n, k.d, rfl, k.h, k.on, k.other, ⟨by simp [Hd.over], by simp [Hd.over]⟩, ⟨by simp [Hd.over], by simp [Hd.over]⟩⟩
theorem Fine.roll (k : Fine N S D U) : Fine N S.roll D U :=
  ⟨k.n, k.d, k.up, k.h, k.on, k.other, ⟨by simp [Sh.roll], by simp [Sh.roll]⟩, ⟨by simp [Sh.roll], by simp [Sh.roll]⟩⟩
theorem Fine.left (k : Fine N S D U) : S.left D = N - 2 - U.length - S.fresh.length := by
  rw [Sh.left, k.d.n]
  have : countB S.used = U.length := k.h.u.count
  rw [this]
theorem Fine.free (k : Fine N S D U) (j : Nat) : S.free j = true ↔ (j : Int) ∉ U ∧ (j : Int) ∉ S.fresh := by
  have h := k.h.u.mem j
  simp only [Sh.head] at h
  rw [Sh.free, Bool.and_eq_true, Bool.not_eq_true', Bool.not_eq_true', decide_eq_false_iff_not, ← h]
  simp
theorem Sh.find_of {S : Sh} {m : Nat} (hm : S.free m = true) : ∀ {k n : Nat}, n ≤ m → m < n + k → (∀ j, n ≤ j → j < m → ¬ S.free j = true) → S.find k n = some m
  | 0, n, h1, h2, _ => by omega
  | k + 1, n, h1, h2, h3 => by
    rw [Sh.find]
    by_cases q : n = m
    · subst q; rw [if_pos hm]
    · rw [if_neg (h3 n (Nat.le_refl _) (by omega)), Sh.find_of hm (by omega) (by omega) (fun j a b => h3 j (by omega) b)]
theorem Fine.take (k : Fine N S D U) {m : Nat} (h1 : 2 ≤ m ∧ m < N) (h2 : (m : Int) ∉ U ∧ (m : Int) ∉ S.fresh) (h3 : ∀ j : Nat, 2 ≤ j → j < m → (j : Int) ∈ U ∨ (j : Int) ∈ S.fresh) :
    S.take D = (((m : Int), 0), { S with fresh := S.fresh ++ [(m : Int)] }) ∧ Fine N { S with fresh := S.fresh ++ [(m : Int)] } D U := by
  have hn := k.n
  refine ⟨?_, k.n, k.d, k.up, k.h, k.on, k.other, ⟨?_, ?_⟩, k.v⟩
  · rw [Sh.take, if_neg (by rw [k.up]; simp), k.d.n, Sh.find_of ((k.free m).2 h2) h1.1 (by omega) (fun j a b q => by
      have := (k.free j).1 q
      rcases h3 j a b with e | e
      · exact this.1 e
      · exact this.2 e)]
  · exact List.nodup_append.2 ⟨k.f.1, by simp, by intro x hx y hy; simp only [List.mem_singleton] at hy; subst hy; exact fun q => h2.2 (q ▸ hx)⟩
  · intro i hi
    rcases List.mem_append.1 hi with hi | hi
    · exact k.f.2 i hi
    · simp only [List.mem_singleton] at hi; subst hi; exact ⟨by omega, by omega, h2.1⟩
theorem Sh.told_eq {e : Int} (h : e ≠ 5) : S.told e = S := by
  have : (e == 5) = false := by simpa using h
  rw [Sh.told, this, Bool.or_false]
theorem Fine.put (k : Fine N S D U) {n : Int} (hn : n ∈ S.fresh) (s : List UInt8) : Fine N S (D.put n s) U := by
  have hf := k.f.2 n hn
  have hN := k.n
  have hg := k.h.g
  refine ⟨k.n, k.d.put n s, k.up, k.h, ?_, ?_, k.f, k.v⟩
  · rw [k.d.pg_put (by omega) (by omega), if_neg (by omega), k.on]
  · rw [← readH_pg k.d (k.d.put n s) (by omega) (by rw [k.d.pg_put (by omega) (by omega), if_neg (by omega)])]
    exact k.other
theorem Fine.write (k : Fine N S D U) {n kd : Int} {t : List UInt8} (hn : n ∈ S.fresh) (hk : 1 ≤ kd ∧ kd ≤ 15) (ht : t.length ≤ 240) :
    S.write D n kd t = (0, S, D.put n (sealP kd t)) ∧ Fine N S (D.put n (sealP kd t)) U ∧ ∀ m, 0 ≤ m → (D.put n (sealP kd t)).pg m = if m = n then (kd, t, 0) else D.pg m := by
  have hf := k.f.2 n hn
  refine ⟨?_, k.put hn _, fun m hm => ?_⟩
  · rw [Sh.write, if_neg (by rw [k.up]; simp), if_pos hn, k.d.write (by omega) hk ht, Sh.told_eq (by simp)]
  · rw [k.d.pg_put (by omega) hm, open_seal hk ht]
theorem open_no5 (b : List UInt8) : (pageOpen b).2.2 ≠ 5 := by
  rw [pageOpen]
  split
  · simp
  · split
    · simp
    · split <;> simp
theorem Fine.read (k : Fine N S D U) {n : Int} (hn : 2 ≤ n ∧ n < N) : S.read D n = (D.pg n, S) := by
  rw [Sh.read, if_neg (by rw [k.up]; simp), if_neg (by rw [k.d.n]; omega), k.d.read (by omega), Sh.told_eq (e := (D.pg n).2.2) (open_no5 _)]
theorem Fine.giveUsed (k : Fine N S D U) {n : Int} (hn : n ∈ U) (hv : n ∉ S.given) : S.give n = (0, { S with given := S.given ++ [n] }) ∧ Fine N { S with given := S.given ++ [n] } D U := by
  have hf : n ∉ S.fresh := fun q => (k.f.2 n q).2.2 hn
  have hb : hasB S.used n = true := (k.h.u.mem n).2 hn
  refine ⟨by rw [Sh.give, if_neg (by rw [k.up]; simp), if_neg hf, if_pos (by rw [hb]; simpa using hv)], k.n, k.d, k.up, k.h, k.on, k.other, k.f, ⟨?_, ?_⟩⟩
  · exact List.nodup_append.2 ⟨k.v.1, by simp, by intro x hx y hy; simp only [List.mem_singleton] at hy; subst hy; exact fun q => hv (q ▸ hx)⟩
  · intro i hi
    rcases List.mem_append.1 hi with hi | hi
    · exact k.v.2 i hi
    · simp only [List.mem_singleton] at hi; subst hi; exact hn
/-- The pages that count behind a commit. -/
def Sh.after (S : Sh) (U : List Int) : List Int := (U ++ S.fresh).filter fun i => !decide (i ∈ S.given)
theorem Sh.mem_after {i : Int} : i ∈ S.after U ↔ (i ∈ U ∨ i ∈ S.fresh) ∧ i ∉ S.given := by
  simp only [Sh.after, List.mem_filter, List.mem_append, Bool.not_eq_true', decide_eq_false_iff_not]
theorem Fine.next (k : Fine N S D U) {root : Int} (hr : root = 0 ∨ root ∈ S.after U) (hg : S.gen < 281474976710655) : (S.next root).good N (S.after U) := by
  have hN := k.n
  have hgg := k.h.g
  have ha := k.h.u.add k.f.1 (fun i hi => by have := k.f.2 i hi; omega) (fun i hi => (k.f.2 i hi).2.2) (rise_perm S.fresh)
  have hd := ha.del (G := S.given) (fun i hi => k.h.u.bd (k.v.2 i hi)) (rise_perm S.given)
  refine ⟨⟨?_, ?_⟩, hr, hd, ?_⟩
  · show 1 ≤ S.gen + 1
    have : 1 ≤ S.gen := hgg.1
    omega
  · show S.gen + 1 ≤ _
    omega
  · intro i hi
    rcases (Sh.mem_after.1 hi).1 with e | e
    · exact k.h.b i e
    · have := k.f.2 i e; omega
end

/-! ### The same, the store behind it by its parts -/
section
variable {N : Nat} {S : Sh} {D : Dk} {U : List Int}
theorem Fine.take' (k : Fine N S D U) {m : Int} (h1 : 2 ≤ m ∧ m < N) (h2 : m ∉ U ∧ m ∉ S.fresh) (h3 : ∀ j : Int, 2 ≤ j → j < m → j ∈ U ∨ j ∈ S.fresh) :
    ∃ S', S.take D = ((m, 0), S') ∧ Fine N S' D U ∧ S'.fresh = S.fresh ++ [m] ∧ S'.given = S.given ∧ S'.gen = S.gen ∧ S'.root = S.root := by
  obtain ⟨n, rfl⟩ : ∃ n : Nat, m = n := ⟨m.toNat, by omega⟩
  obtain ⟨a, b⟩ := k.take (m := n) (by omega) h2 (fun j a b => h3 j (by omega) (by omega))
  exact ⟨_, a, b, rfl, rfl, rfl, rfl⟩
theorem Fine.write' (k : Fine N S D U) {n kd : Int} {t : List UInt8} (hn : n ∈ S.fresh) (hk : 1 ≤ kd ∧ kd ≤ 15) (ht : t.length ≤ 240) :
    ∃ E, S.write D n kd t = (0, S, E) ∧ Fine N S E U ∧ ∀ m, 0 ≤ m → E.pg m = if m = n then (kd, t, 0) else D.pg m := ⟨_, k.write hn hk ht⟩
theorem Fine.giveUsed' (k : Fine N S D U) {n : Int} (hn : n ∈ U) (hv : n ∉ S.given) : ∃ S', S.give n = (0, S') ∧ Fine N S' D U ∧ S'.fresh = S.fresh ∧ S'.given = S.given ++ [n] ∧ S'.gen = S.gen ∧ S'.root = S.root := by
  obtain ⟨a, b⟩ := k.giveUsed hn hv
  exact ⟨_, a, b, rfl, rfl, rfl, rfl⟩
end

theorem headNew_good {N : Nat} (hN : 8 ≤ N ∧ N ≤ 640) : headNew.good N [] :=
  ⟨⟨by decide, by decide⟩, .inl rfl, uses_new, by simp⟩
theorem format_of {N : Nat} {D : Dk} (hN : 8 ≤ N ∧ N ≤ 640) (d : D.lives N) (h : (D.pg 0).2.2 ≠ 0) : ∃ E, format D = (some headNew, 0, E) ∧ Fine N headNew.over E [] ∧ ∀ m, 2 ≤ m → E.pg m = D.pg m := by
  obtain ⟨E, e1, e2, e3⟩ := lay_of d (headNew_good hN) (by omega)
  refine ⟨E, by rw [format, e1, if_neg (by simp)], ⟨hN, e2, rfl, headNew_good hN, ?_, ?_, ⟨by simp [Hd.over], by simp [Hd.over]⟩, ⟨by simp [Hd.over], by simp [Hd.over]⟩⟩, ?_⟩
  · rw [e3 _ (by decide), if_pos (by rfl)]; rfl
  · show (readH E 0).2 = true → _
    rw [readH_lt e2 (by omega) (by omega) (by rw [e3 0 (by omega), if_neg (by decide)]; exact h)]
    intro q; cases q
  · intro m hm
    rw [e3 _ (by omega), if_neg (by show ¬ m = 1; omega)]
end Go.Proofs.YtmfmommgooccnaaGreat
/- Trees on a store's disk: the way that a walk goes is one of the tree. No code. -/
set_option maxRecDepth 20000
set_option linter.unusedVariables false
set_option linter.unusedSimpArgs false
namespace Go.Proofs.YtmfmommgooccnaaGreat
open Go.Proofs.YtmfmommgooccnaaGreat.SL

/-- A node lies on a page. -/
def Gd (N : Nat) (D : Dk) (p : Int) (d : Nd) : Prop := (2 ≤ p ∧ p < N) ∧ D.pg p = (2, d.text, 0)

theorem goes_way {N : Nat} {S : Sh} {D : Dk} {U : List Int} (k : Fine N S D U) {x : Nat} : ∀ {h : Nat} {d : Nd} {es : List Ent} {ps : List Int} {pg : Int}, NT (Gd N D) h d es ps → d.good → (d.leaf = false → d.keys ≠ []) → Gd N D pg d →
    ∀ {up : List Spot} {L0 R0 : List Ent} {ps0 : List Int}, Way (Gd N D) up h L0 R0 ps0 → FitsP up x → (∀ e ∈ es, FitsP up e.1) →
    ∃ (top : List Spot) (s : Spot) (L R : List Ent) (ps' : List Int), Goes S D x pg (top ++ [s]) ∧ top.length = h ∧ Way (Gd N D) (top.reverse ++ up) 0 L R ps' ∧ s.d.good ∧ s.d.leaf = true ∧ s.i = posN s.d.keys x ∧ Gd N D s.pg s.d ∧
      FitsP (top.reverse ++ up) x ∧ (∀ e ∈ s.d.ents, FitsP (top.reverse ++ up) e.1) ∧ L ++ (s.d.ents ++ R) = L0 ++ (es ++ R0) ∧ (s.pg :: ps').Perm ((pg :: ps) ++ ps0)
  | 0, d, es, ps, pg, n, hd, hne, hg, up, L0, R0, ps0, w, fx, fe => by
    obtain ⟨hl, hp, rfl, rfl⟩ := n
    exact ⟨[], ⟨pg, d, posN d.keys x⟩, L0, R0, ps0, ⟨rfl, by rw [k.read hg.1, hg.2], hd, .inl ⟨hl, rfl, rfl⟩⟩, rfl, w, hd, hl, rfl, hg, fx, fe, rfl, .refl _⟩
  | h + 1, d, es, ps, pg, n, hd, hne, hg, up, L0, R0, ps0, w, fx, fe => by
    have hl := n.1
    obtain ⟨c1, c2, c3⟩ := cntN_spec (x := x) hd.p.rise
    obtain ⟨kid, sl, s, sr, hk, hm, ⟨d', ps', g', hd', hne', n', hps⟩, hfit, e1, e2⟩ := descend n hd (hne hl) c1
    subst e1 e2
    have w' : Way (Gd N D) (⟨pg, d, cntN d.keys x⟩ :: up) h (L0 ++ Sub.all sl) (Sub.all sr ++ R0) (pg :: (Sub.pages sl ++ (Sub.pages sr ++ ps0))) :=
      ⟨L0, R0, ps0, sl, sr, w, hg, hm, fun y hy => fe y (by simp only [List.mem_append] at hy ⊢; exact hy.elim .inl fun q => .inr (.inr q)), rfl, rfl, rfl⟩
    obtain ⟨top, t, L, R, qs, r1, r2, r3, r4, r5, r6, r7, r8, r9, r10, r11⟩ := goes_way k n' hd' hne' g' w' ⟨⟨c2, c3⟩, fx⟩ (fun e he => ⟨hfit e he, fe e (by simp [he])⟩)
    have hkd : d.kids.getD (cntN d.keys x) 0 = kid := by rw [List.getD, hk]; rfl
    refine ⟨⟨pg, d, cntN d.keys x⟩ :: top, t, L, R, qs, ⟨rfl, by rw [k.read hg.1, hg.2], hd, .inr ⟨hl, rfl, by rw [hkd]; exact r1⟩⟩, by simp [r2], ?_, r4, r5, r6, r7, ?_, ?_, ?_, ?_⟩
    · simpa using r3
    · simpa using r8
    · simpa using r9
    · rw [r10]; simp
    · refine r11.trans ?_
      rw [hps]
      refine List.perm_iff_count.2 fun a => ?_
      simp only [List.count_append, List.count_cons, List.cons_append]
      omega
end Go.Proofs.YtmfmommgooccnaaGreat
/- Trees on a store's disk: what a page that is laid anew does to the pages that count. -/
set_option maxRecDepth 20000
set_option linter.unusedVariables false
set_option linter.unusedSimpArgs false
namespace Go.Proofs.YtmfmommgooccnaaGreat
open Go.Proofs.YtmfmommgooccnaaGreat.SL

theorem nodup_sub : ∀ {A B : List Int}, A.Nodup → (∀ a ∈ A, a ∈ B) → A.length ≤ B.length
  | [], _, _, _ => by simp
  | a :: A, B, h, k => by
    obtain ⟨h1, h2⟩ := List.nodup_cons.1 h
    have hm := k a (by simp)
    have := nodup_sub (B := B.erase a) h2 (fun x hx => (List.mem_erase_of_ne (by rintro rfl; exact h1 hx)).2 (k x (by simp [hx])))
    rw [List.length_erase_of_mem hm] at this
    have hb := List.length_pos_of_mem hm
    simp only [List.length_cons]; omega

section
variable {N : Nat} {S : Sh} {D : Dk} {U : List Int}
theorem Fine.nodup (k : Fine N S D U) : (U ++ S.fresh).Nodup := List.nodup_append.2 ⟨k.h.u.nd, k.f.1, fun a ha b hb e => (k.f.2 b hb).2.2 (e ▸ ha)⟩
theorem Fine.afterNodup (k : Fine N S D U) : (S.after U).Nodup := k.nodup.filter _
/-- There is a page, as long as not all are used. -/
theorem Fine.takeSome (k : Fine N S D U) (h : U.length + S.fresh.length + 2 < N) : ∃ m S', (2 ≤ m ∧ m < (N : Int)) ∧ m ∉ U ∧ m ∉ S.fresh ∧ S.take D = ((m, 0), S') ∧ Fine N S' D U ∧ S'.fresh = S.fresh ++ [m] ∧ S'.given = S.given ∧ S'.gen = S.gen ∧ S'.root = S.root := by
  cases hf : List.find? (fun j : Nat => decide (2 ≤ j) && !decide ((j : Int) ∈ U ++ S.fresh)) (List.range N) with
  | some m =>
    obtain ⟨h1, l1, l2, h2, h3⟩ := List.find?_eq_some_iff_append.1 hf
    simp only [Bool.and_eq_true, decide_eq_true_eq, Bool.not_eq_true', decide_eq_false_iff_not, List.mem_append, not_or] at h1
    have hmN : m < N := List.mem_range.1 (by rw [h2]; simp)
    have hall : ∀ j : Int, 2 ≤ j → j < (m : Int) → j ∈ U ∨ j ∈ S.fresh := by
      intro j j1 j2
      obtain ⟨n, rfl⟩ : ∃ n : Nat, j = n := ⟨j.toNat, by omega⟩
      have hn : n ∈ l1 := by
        have hlen : l1.length = m := by
          have h4 := congrArg (fun l => l[l1.length]?) h2
          simp only [List.getElem?_append_right (Nat.le_refl _), Nat.sub_self, List.getElem?_cons_zero] at h4
          obtain ⟨_, h5⟩ := List.getElem?_eq_some_iff.1 h4
          simpa using h5
        have h6 : (List.range N)[n]? = some n := by rw [List.getElem?_range (by omega)]
        rw [h2, List.getElem?_append_left (by omega)] at h6
        exact List.mem_of_getElem? h6
      have := h3 n hn
      simp only [Bool.not_and, Bool.not_not, Bool.or_eq_true, Bool.not_eq_true', decide_eq_false_iff_not, decide_eq_true_eq, List.mem_append] at this
      exact this.elim (fun q => absurd (by omega) q) id
    obtain ⟨S', a, b, c, d, e, f⟩ := k.take' (m := m) (by omega) h1.2 hall
    exact ⟨m, S', by omega, h1.2.1, h1.2.2, a, b, c, d, e, f⟩
  | none =>
    exfalso
    rw [List.find?_eq_none] at hf
    have hs := nodup_sub (A := (List.range' 2 (N - 2)).map (fun n : Nat => (n : Int))) (B := U ++ S.fresh) ?_ ?_
    · simp only [List.length_map, List.length_range', List.length_append] at hs; omega
    · exact List.Pairwise.map _ (fun a b h => by omega) (List.nodup_range' (step := 1))
    · intro a ha
      obtain ⟨n, hn, rfl⟩ := List.mem_map.1 ha
      have hn := List.mem_range'_1.1 hn
      have := hf n (List.mem_range.2 (by omega))
      simp only [Bool.and_eq_true, decide_eq_true_eq, Bool.not_eq_true', decide_eq_false_iff_not, not_and, Decidable.not_not] at this
      exact this hn.1
end

/-- The pages behind one that is given, or taken. -/
theorem perm_drop {A A' rest : List Int} {pg : Int} (hp : (pg :: rest).Perm A) (h1 : A.Nodup) (h2 : A'.Nodup) (hm : ∀ a, a ∈ A' ↔ a ∈ A ∧ a ≠ pg) : rest.Perm A' := by
  obtain ⟨h3, h4⟩ := List.nodup_cons.1 (hp.nodup_iff.2 h1)
  refine (List.perm_ext_iff_of_nodup h4 h2).2 fun a => ?_
  rw [hm, ← hp.mem_iff, List.mem_cons]
  constructor
  · intro h; exact ⟨.inr h, by rintro rfl; exact h3 h⟩
  · rintro ⟨rfl | h, n⟩
    · exact absurd rfl n
    · exact h
theorem perm_add {A A' rest : List Int} {m : Int} (hp : rest.Perm A) (h1 : A.Nodup) (h2 : A'.Nodup) (hn : m ∉ A) (hm : ∀ a, a ∈ A' ↔ a = m ∨ a ∈ A) : (m :: rest).Perm A' := by
  refine (List.perm_ext_iff_of_nodup (List.nodup_cons.2 ⟨fun q => hn (hp.mem_iff.1 q), hp.nodup_iff.2 h1⟩) h2).2 fun a => ?_
  rw [hm, List.mem_cons, hp.mem_iff]

theorem Nd.good.tl {d : Nd} (h : d.good) : d.text.length ≤ 240 := by rw [d.text_len h.p]; exact h.size

/-- A store whose root is as it was, on a disk where the pages that count are as they were. -/
def Same (U : List Int) (S0 : Sh) (D0 : Dk) (S : Sh) (D : Dk) : Prop := S.root = S0.root ∧ ∀ p ∈ U, D.pg p = D0.pg p
theorem Same.refl (U : List Int) (S : Sh) (D : Dk) : Same U S D S D := ⟨rfl, fun _ _ => rfl⟩
theorem Same.trans {U : List Int} {S0 S S' : Sh} {D0 D D' : Dk} (h1 : Same U S D S' D') (h2 : Same U S0 D0 S D) : Same U S0 D0 S' D' := ⟨h1.1.trans h2.1, fun p h => (h1.2 p h).trans (h2.2 p h)⟩

/-- A node is laid on a page that is taken. -/
theorem fresh_ok {N : Nat} {S : Sh} {D : Dk} {U rest : List Int} (k : Fine N S D U) (hp : rest.Perm (S.after U)) (room : U.length + S.fresh.length + 2 < N) {d : Nd} (hd : d.good) : ∃ (m : Int) (S' : Sh) (D' : Dk),
    (∀ b sb db read r, Does Tryz.prog 108 [.pointer (some ⟨b, 0, none⟩), ndV d r] [Wk b sb read 0, Store sb db S, Disk db D, Nds d r] (fun v H => v = .int .i64 m ∧ H = [Wk b sb read 0, Store sb db S', Disk db D', Nds d r])) ∧
    Fine N S' D' U ∧ Gd N D' m d ∧ (∀ p, 0 ≤ p → (p ∈ U ∨ p ∈ S.fresh) → D'.pg p = D.pg p) ∧ (m :: rest).Perm (S'.after U) ∧ S'.fresh.length = S.fresh.length + 1 ∧ S'.gen = S.gen ∧ Same U S D S' D' := by
  obtain ⟨m, S', a1, a2, a3, a4, a5, a6, a7, a8, a9⟩ := k.takeSome room
  have hm : m ∈ S'.fresh := by rw [a6]; simp
  obtain ⟨E, w1, w2, w3⟩ := a5.write' hm (kd := 2) (t := d.text) (by omega) hd.tl
  have hg : ∀ a ∈ S.given, a ∈ U := k.v.2
  refine ⟨m, S', E, fun b sb db read r => wFresh_does b sb db m read S S' S' D E d r hd a4 w1, w2, ⟨a1, by rw [w3 m (by omega), if_pos rfl]⟩, ?_, ?_, by rw [a6]; simp, a8, a9, ?_⟩
  · intro p hp0 hq
    rw [w3 p hp0, if_neg]
    rintro rfl
    exact hq.elim a2 a3
  · refine perm_add hp k.afterNodup w2.afterNodup (fun q => (Sh.mem_after.1 q).1.elim a2 a3) fun a => ?_
    rw [Sh.mem_after, Sh.mem_after, a6, a7]
    simp only [List.mem_append, List.mem_singleton]
    constructor
    · rintro ⟨h | h | h, h2⟩
      · exact .inr ⟨.inl h, h2⟩
      · exact .inr ⟨.inr h, h2⟩
      · exact .inl h
    · rintro (rfl | ⟨h, h2⟩)
      · exact ⟨.inr (.inr rfl), fun q => a2 (hg _ q)⟩
      · exact ⟨h.elim .inl fun q => .inr (.inl q), h2⟩
  · intro p hq
    rw [w3 p (by have := k.h.b p hq; omega), if_neg]
    rintro rfl
    exact a2 hq
/-- A node is laid anew. -/
theorem lay_ok {N : Nat} {S : Sh} {D : Dk} {U rest : List Int} {pg : Int} (k : Fine N S D U) (hp : (pg :: rest).Perm (S.after U)) (room : U.length + S.fresh.length + 2 < N) {d : Nd} (hd : d.good) : ∃ (m : Int) (S' : Sh) (D' : Dk),
    (∀ b sb db read r, Does Tryz.prog 114 [.pointer (some ⟨b, 0, none⟩), .int .i64 pg, ndV d r] [Wk b sb read 0, Store sb db S, Disk db D, Nds d r] (fun v H => v = .int .i64 m ∧ H = [Wk b sb read 0, Store sb db S', Disk db D', Nds d r])) ∧
    Fine N S' D' U ∧ Gd N D' m d ∧ (∀ p ∈ rest, D'.pg p = D.pg p) ∧ (∀ p ∈ U, D'.pg p = D.pg p) ∧ (m :: rest).Perm (S'.after U) ∧ S.fresh.length ≤ S'.fresh.length ∧ S'.fresh.length ≤ S.fresh.length + 1 ∧ S'.gen = S.gen ∧ Same U S D S' D' := by
  have hpa : pg ∈ S.after U := hp.mem_iff.1 (by simp)
  have hnd := List.nodup_cons.1 (hp.nodup_iff.2 k.afterNodup)
  have hU : ∀ p ∈ U, 2 ≤ p ∧ p < (N : Int) := k.h.b
  by_cases hf : pg ∈ S.fresh
  · obtain ⟨E, w1, w2, w3⟩ := k.write' hf (kd := 2) (t := d.text) (by omega) hd.tl
    have hb := k.f.2 pg hf
    refine ⟨pg, S, E, fun b sb db read r => wLayF_does b sb db pg read S S D E d r hd hf w1, w2, ⟨⟨hb.1, hb.2.1⟩, by rw [w3 pg (by omega), if_pos rfl]⟩, ?_, ?_, hp, Nat.le_refl _, by omega, rfl, rfl, ?_⟩
    · intro p hq
      have h2 := (Sh.mem_after.1 (hp.mem_iff.1 (List.mem_cons_of_mem _ hq))).1
      have h3 : 0 ≤ p := h2.elim (fun q => by have := hU p q; omega) (fun q => by have := k.f.2 p q; omega)
      rw [w3 p h3, if_neg]
      rintro rfl
      exact hnd.1 hq
    · intro p hq
      rw [w3 p (by have := hU p hq; omega), if_neg]
      rintro rfl
      exact hb.2.2 hq
    · intro p hq
      rw [w3 p (by have := hU p hq; omega), if_neg]
      rintro rfl
      exact hb.2.2 hq
  · obtain ⟨h1, h2⟩ := Sh.mem_after.1 hpa
    have h1 : pg ∈ U := h1.elim id fun q => absurd q hf
    obtain ⟨S1, g1, g2, g3, g4, g5, g6⟩ := k.giveUsed' h1 h2
    have hp1 : rest.Perm (S1.after U) := perm_drop hp k.afterNodup g2.afterNodup fun a => by
      rw [Sh.mem_after, Sh.mem_after, g3, g4]
      simp only [List.mem_append, List.mem_singleton, not_or, and_assoc]
    obtain ⟨m, S', D', q1, q2, q3, q4, q5, q6, q7, q8⟩ := fresh_ok g2 hp1 (by rw [g3]; exact room) hd
    have hb := hU pg h1
    have hN := k.n
    refine ⟨m, S', D', fun b sb db read r => wLayG_does b sb db pg read m 0 S S1 S' D D' d r (by omega) hf g1 (q1 b sb db read r), q2, q3, ?_, ?_, q5, by rw [q6, g3]; omega, by rw [q6, g3]; omega, by rw [q7, g5], q8.trans ⟨g6, fun _ _ => rfl⟩⟩
    · intro p hq
      have h2 := (Sh.mem_after.1 (hp.mem_iff.1 (List.mem_cons_of_mem _ hq))).1
      refine q4 p (h2.elim (fun q => by have := hU p q; omega) (fun q => by have := k.f.2 p q; omega)) (by rw [g3]; exact h2)
    · exact fun p hq => q4 p (by have := hU p hq; omega) (.inl hq)
end Go.Proofs.YtmfmommgooccnaaGreat
/- Package tree: Put. -/
set_option maxRecDepth 20000
set_option linter.unusedVariables false
set_option linter.unusedSimpArgs false
namespace Go.Proofs.YtmfmommgooccnaaGreat
open Go.Proofs.YtmfmommgooccnaaGreat.SL

theorem done_does (b sb : Nat) (root read : Int) : Does Tryz.prog 107 [.pointer (some ⟨b, 0, none⟩), .int .i64 root] [Wk b sb read 0] (fun v H => v = .tuple #[.int .i64 root, .int .i64 0] ∧ H = [Wk b sb read 0]) := by
  refine does_of Tryz.func107 Tryz.ntmps107 rfl rfl rfl (fun w0 F0 => ?_)
  (repeat' (first | refine g_seq (h := ?_) | refine g_region (h := ?_) | refine l_nil (h := ?_) | refine n_then (h := ?_) | refine l_pures1 (h := ?_) | refine l_load (h := ?_) | refine g_skip (h := ?_) | refine g_ret (h := ?_) | refine g_cond_f (h := ?_)))
  refine r_ret ?_
  exact ⟨rfl, rfl⟩
theorem vec_one (g e : Nat) (v : Value) : Shuts [cl g e [v]] (vec e 1 (some ⟨g, 0, none⟩) 1 1 [v]) := vec_shuts (xs := [v]) (rest := []) (Nat.le_refl _) (by simp [maxLen]) rfl rfl

set_option maxHeartbeats 1000000 in
/-- The first key of a tree. -/
theorem put0_does (sb db x : Nat) (v : List UInt8) (S S' : Sh) (D D' : Dk) (m : Int) (hv : v.length ≤ 40)
    (hF : ∀ b r, Does Tryz.prog 108 [.pointer (some ⟨b, 0, none⟩), ndV ⟨true, [x], [v], []⟩ r] [Wk b sb 0 0, Store sb db S, Disk db D, Nds ⟨true, [x], [v], []⟩ r] (fun u H => u = .int .i64 m ∧ H = [Wk b sb 0 0, Store sb db S', Disk db D', Nds ⟨true, [x], [v], []⟩ r])) :
    Does Tryz.prog 65 [.pointer (some ⟨sb, 0, none⟩), .int .i64 0, .int .u64 x, .string (str v)] [Store sb db S, Disk db D] (fun u H => u = .tuple #[.int .i64 m, .int .i64 0] ∧ H = [Store sb db S', Disk db D']) := by
  refine does_of Tryz.func65 Tryz.ntmps65 rfl rfl rfl (fun w0 F0 => ?_)
  (repeat' (first | refine g_seq (h := ?_) | refine g_region (h := ?_) | refine l_nil (h := ?_) | refine n_then (h := ?_) | refine l_pures1 (h := ?_) | (refine l_box (h := ?_); intro _) | (refine l_buildSlice1 (h := ?_); intro _) | refine g_skip (h := ?_) | refine g_cond_t (h := ?_) | (refine g_spF (h := ?_); intro h)))
  rename_i b g1 g2
  refine l_inv (H' := [cl g2 9 [.string (str v)], cl g1 30 [.int .u64 x], Wk b sb 0 0, Store sb db S, Disk db D]) (fun i => i) ?_
  refine l_shut (vec_one g1 30 (.int .u64 x)) (h := ?_)
  refine l_shut (vec_one g2 9 (.string (str v))) (h := ?_)
  refine l_inv (fun i => vec_nil (3) (1) i) ?_
  refine l_inv (H' := [Nds ⟨true, [x], [v], []⟩ ⟨some ⟨g1, 0, none⟩, 1, some ⟨g2, 0, none⟩, 1, none, 0⟩, Wk b sb 0 0, Store sb db S, Disk db D]) (fun i => Inv.shuts (K := NdsK ⟨true, [x], [v], []⟩ ⟨some ⟨g1, 0, none⟩, 1, some ⟨g2, 0, none⟩, 1, none, 0⟩ ()) (A := Nds ⟨true, [x], [v], []⟩ ⟨some ⟨g1, 0, none⟩, 1, some ⟨g2, 0, none⟩, 1, none, 0⟩) (show Shuts (NdsK ⟨true, [x], [v], []⟩ ⟨some ⟨g1, 0, none⟩, 1, some ⟨g2, 0, none⟩, 1, none, 0⟩ ()) (Nds ⟨true, [x], [v], []⟩ ⟨some ⟨g1, 0, none⟩, 1, some ⟨g2, 0, none⟩, 1, none, 0⟩) from fun _ _ s => ⟨(), trivial, s⟩) (i.parts (K := NdsK ⟨true, [x], [v], []⟩ ⟨some ⟨g1, 0, none⟩, 1, some ⟨g2, 0, none⟩, 1, none, 0⟩ ()) (Parts.cons (Take.there (Take.there Take.here)) (Parts.cons (Take.there Take.here) (Parts.cons Take.here Parts.nil))))) ?_
  have hF' : Does Tryz.prog 108 [.pointer (some ⟨b, 0, none⟩), .agg #[.bool true, .slice (some ⟨g1, 0, none⟩) 1 1, .slice (some ⟨g2, 0, none⟩) 1 1, .slice none 0 0]] [Wk b sb 0 0, Store sb db S, Disk db D, Nds ⟨true, [x], [v], []⟩ ⟨some ⟨g1, 0, none⟩, 1, some ⟨g2, 0, none⟩, 1, none, 0⟩] (fun u H => u = .int .i64 m ∧ H = [Wk b sb 0 0, Store sb db S', Disk db D', Nds ⟨true, [x], [v], []⟩ ⟨some ⟨g1, 0, none⟩, 1, some ⟨g2, 0, none⟩, 1, none, 0⟩]) := hF b ⟨some ⟨g1, 0, none⟩, 1, some ⟨g2, 0, none⟩, 1, none, 0⟩
  (repeat' (first | refine l_nil (h := ?_) | refine n_then (h := ?_) | refine l_pures1 (h := ?_) | (refine l_atc ?_; refine l_call (hF') ?_) | (refine l_atc ?_; refine l_call (done_does b sb m 0) ?_) | refine g_ret (h := ?_) | refine n_then_ret (h := ?_)))
  refine r_retk [Store sb db S', Disk db D'] ?_
  exact ⟨rfl, rfl⟩
end Go.Proofs.YtmfmommgooccnaaGreat
/- Package tree: a round of Put. -/
set_option maxRecDepth 20000
set_option linter.unusedVariables false
set_option linter.unusedSimpArgs false
namespace Go.Proofs.YtmfmommgooccnaaGreat
open Go.Proofs.YtmfmommgooccnaaGreat.SL

abbrev putT (b sb b' b12 b14 x : Nat) : List (Nat × Value) := [(10, .pointer (some ⟨b, 0, none⟩)), (11, .pointer (some ⟨b', 0, none⟩)), (12, .pointer (some ⟨b12, 0, none⟩)), (14, .pointer (some ⟨b14, 0, none⟩)), (2, .int .u64 x), (0, .pointer (some ⟨sb, 0, none⟩))]

set_option maxHeartbeats 2000000 in
/-- No split, no node above. -/
theorem putTop (b sb db b' b12 b14 x : Nat) (read m : Int) (xs : Sp) (n : Nd) (rn : Rw) (S S' : Sh) (D D' : Dk) (hn : n.size ≤ 240) (hf : n.fits)
    (hL : ∀ b sb db read r, Does Tryz.prog 114 [.pointer (some ⟨b, 0, none⟩), .int .i64 xs.pg, ndV n r] [Wk b sb read 0, Store sb db S, Disk db D, Nds n r] (fun v H => v = .int .i64 m ∧ H = [Wk b sb read 0, Store sb db S', Disk db D', Nds n r]))
    (w0 : World) (F0 : Nat → Prop) (Q : Exit → Act → World → Prop) (hc : SL.Calm Q) (hq : N 147 w0 F0 .ret Q [(8, .int .i64 m), (9, .int .i64 0)] [] [Store sb db S', Disk db D']) :
    G Tryz.prog 147 w0 F0 (nav [1, 1, 1, 1, 1, 1, 1, 1, 2, 2, 2] (bdy Tryz.f65)) Q (putT b sb b' b12 b14 x) [] [cl b12 180 xs.c, cl b14 176 (ndA n rn).toList, Stk b' [], Nds n rn, Wk b sb read 0, Store sb db S, Disk db D] := by
  have hS := ndSize_does n rn hf
  have hp := popNone_does b'
  unfold Sp.c
  obtain ⟨c, hc⟩ : ∃ c, c = nav [1, 1, 1, 1, 1, 1, 1, 1, 2, 2, 2] (bdy Tryz.f65) := ⟨_, rfl⟩
  rw [← hc]
  dsimp only [nav, bdy, Tryz.f65, Option.getD] at hc
  subst hc
  (repeat' (first | refine g_seq (h := ?_) | refine g_region (h := ?_) | refine l_nil (h := ?_) | refine n_then (h := ?_) | refine l_pures1 (h := ?_) | (refine l_atc ?_; refine l_call (hS) ?_) | (refine l_atc ?_; refine l_call (hL b sb db read rn) ?_) | (refine l_atc ?_; refine l_call (hp) ?_) | refine l_guard_yes (h := ?_) | refine l_guard_no (h := ?_) | refine l_load (h := ?_) | refine l_store (h := ?_) | (refine l_alloc (h := ?_); intro _) | refine g_skip (h := ?_) | refine g_ret (h := ?_) | refine n_then_ret (h := ?_) | refine n_block_ret (h := ?_) | refine g_block (h := ?_) | refine g_cond_t (h := ?_) | refine g_cond_f (h := ?_) | (refine g_spF (h := ?_); intro h)))
  exact n_bang hq

set_option maxHeartbeats 2000000 in
/-- No split, a node above. -/
theorem putUp (A : SProp) (b sb db b' b12 b14 x : Nat) (read m : Int) (xs s : Sp) (L : List Sp) (n : Nd) (rn : Rw) (S S' : Sh) (D D' : Dk) (hn : n.size ≤ 240) (hf : n.fits) (hs : s.d.leaf = false) (hk : s.i < s.d.kids.length) (hlen : L.length < 100)
    (hL : ∀ b sb db read r, Does Tryz.prog 114 [.pointer (some ⟨b, 0, none⟩), .int .i64 xs.pg, ndV n r] [Wk b sb read 0, Store sb db S, Disk db D, Nds n r] (fun v H => v = .int .i64 m ∧ H = [Wk b sb read 0, Store sb db S', Disk db D', Nds n r]))
    (w0 : World) (F0 : Nat → Prop) (Q : Exit → Act → World → Prop) (hc : SL.Calm Q)
    (hq : ∀ r, N 147 w0 F0 .normal Q (putT b sb b' b12 b14 x) [] [cl b12 180 s.c, cl b14 176 (ndA { s.d with kids := s.d.kids.set s.i m } r).toList, Stk b' L, Nds { s.d with kids := s.d.kids.set s.i m } r, Wk b sb read 0, Store sb db S', Disk db D', A]) :
    G Tryz.prog 147 w0 F0 (nav [1, 1, 1, 1, 1, 1, 1, 1, 2, 2, 2] (bdy Tryz.f65)) Q (putT b sb b' b12 b14 x) [] [cl b12 180 xs.c, cl b14 176 (ndA n rn).toList, Stk b' (L ++ [s]), Nds s.d s.r, Nds n rn, Wk b sb read 0, Store sb db S, Disk db D, A] := by
  have hS := ndSize_does n rn hf
  have hp := pop_does b' L s hlen
  obtain ⟨tpg, td, ⟨p1, c1, p2, c2, p3, c3⟩, ti⟩ := s
  dsimp only [Sp.c] at hs hk hq
  unfold Sp.c
  obtain ⟨c, hc⟩ : ∃ c, c = nav [1, 1, 1, 1, 1, 1, 1, 1, 2, 2, 2] (bdy Tryz.f65) := ⟨_, rfl⟩
  rw [← hc]
  dsimp only [nav, bdy, Tryz.f65, Option.getD] at hc
  subst hc
  (repeat' (first | refine g_seq (h := ?_) | refine g_region (h := ?_) | refine l_nil (h := ?_) | refine n_then (h := ?_) | refine l_pures1 (h := ?_) | (refine l_atc ?_; refine l_call (hS) ?_) | (refine l_atc ?_; refine l_call (hL b sb db read rn) ?_) | (refine l_atc ?_; refine l_call (hp) ?_) | refine l_guard_no (h := ?_) | refine l_load (h := ?_) | refine l_store (h := ?_) | (refine l_alloc (h := ?_); intro _) | refine g_skip (h := ?_) | refine g_block (h := ?_) | refine n_block (h := ?_) | refine g_cond_f (h := ?_) | (refine g_spF (h := ?_); intro h)))
  rename_i b15 b17 b21
  dsimp only
  (refine g_draw [cl b21 180 _] (h := a_pass2 (h := ?_)))
  (repeat' (first | refine g_seq (h := ?_) | refine g_region (h := ?_) | refine l_nil (h := ?_) | refine n_then (h := ?_) | refine l_pures1 (h := ?_) | refine l_load (h := ?_) | refine l_store (h := ?_) | refine a_done (h := ?_) | refine a_load (h := a_pass2 (h := ?_)) | refine a_one (h := ?_) | refine n_any (h := a_pass2 (h := ?_))))
  refine l_open (A := Nds td ⟨p1, c1, p2, c2, p3, c3⟩) (h := ?_); (rintro _ _; dsimp only [NdsK, List.cons_append, List.nil_append])
  refine l_ptr (m := td.kids.length) (h := ?_); rintro g rfl hcp
  (repeat' (first | refine g_seq (h := ?_) | refine g_region (h := ?_) | refine l_nil (h := ?_) | refine n_then (h := ?_) | refine l_pures1 (h := ?_) | refine l_indexAddr (h := ?_) | refine g_skip (h := ?_) | refine g_cond_f (h := ?_) | refine l_store_vec (h := ?_)))
  have e1 : (td.kids.map encZ').set (0 + ((ti : Nat) : Int).toNat * 1) (.int .i64 m) = (td.kids.set ti m).map encZ' := by
    rw [Nat.zero_add, Nat.mul_one, Int.toNat_natCast, List.map_set]; rfl
  have e4 : cl b14 176 [.bool td.leaf, .slice p1 td.keys.length c1, .slice p2 td.vals.length c2, .slice (some ⟨g, 0, none⟩) td.kids.length c3] = cl b14 176 (ndA { td with kids := td.kids.set ti m } ⟨p1, c1, p2, c2, some ⟨g, 0, none⟩, c3⟩).toList := by
    simp only [ndA, List.length_set]
  rw [e1]
  (refine n_shut (A := Nds { td with kids := td.kids.set ti m } ⟨p1, c1, p2, c2, some ⟨g, 0, none⟩, c3⟩) (K := NdsK { td with kids := td.kids.set ti m } ⟨p1, c1, p2, c2, some ⟨g, 0, none⟩, c3⟩ (())) (hid_shuts (()) trivial) (h := ?_) (p := by dsimp only [NdsK]; (try simp only [List.map_nil, List.length_nil, List.length_set, List.length_append, List.length_cons, List.length_singleton, List.map_append, List.map_cons, Nat.zero_add]); exact parts_of))
  rw [e4]
  exact n_bang (hq ⟨p1, c1, p2, c2, some ⟨g, 0, none⟩, c3⟩)
end Go.Proofs.YtmfmommgooccnaaGreat
/- Package tree: a round of Put that splits. -/
set_option maxRecDepth 20000
set_option linter.unusedVariables false
set_option linter.unusedSimpArgs false
namespace Go.Proofs.YtmfmommgooccnaaGreat
open Go.Proofs.YtmfmommgooccnaaGreat.SL

set_option maxHeartbeats 2000000 in
/-- A split, a node above. -/
theorem putSplitUp (A : SProp) (b sb db b' b12 b14 x : Nat) (read m m2 : Int) (xs s : Sp) (L : List Sp) (n : Nd) (rn : Rw) (S S1 S' : Sh) (D D1 D' : Dk) (hn : 240 < n.size) (hz : n.size < 10000) (hp0 : n.plain) (hf : n.fits) (hm0 : 1 ≤ n.keys.length - 1 - n.up) (hsf : s.d.fits) (hsi : s.i ≤ s.d.keys.length) (hsv : s.d.vals = []) (hs : s.d.leaf = false) (hk : s.i < s.d.kids.length) (hlen : L.length < 100)
    (hL : ∀ b sb db read r, Does Tryz.prog 114 [.pointer (some ⟨b, 0, none⟩), .int .i64 xs.pg, ndV (n.front n.at') r] [Wk b sb read 0, Store sb db S, Disk db D, Nds (n.front n.at') r] (fun v H => v = .int .i64 m ∧ H = [Wk b sb read 0, Store sb db S1, Disk db D1, Nds (n.front n.at') r]))
    (hR : ∀ b sb db read r, Does Tryz.prog 108 [.pointer (some ⟨b, 0, none⟩), ndV (n.back n.at') r] [Wk b sb read 0, Store sb db S1, Disk db D1, Nds (n.back n.at') r] (fun v H => v = .int .i64 m2 ∧ H = [Wk b sb read 0, Store sb db S', Disk db D', Nds (n.back n.at') r]))
    (w0 : World) (F0 : Nat → Prop) (Q : Exit → Act → World → Prop) (hc : SL.Calm Q)
    (hq : ∀ r, N 147 w0 F0 .normal Q (putT b sb b' b12 b14 x) [] [cl b12 180 s.c, cl b14 176 (ndA (Nd.hang { s.d with kids := s.d.kids.set s.i m } s.i (n.keys.getD n.at' 0) m2) r).toList, Stk b' L, Nds (Nd.hang { s.d with kids := s.d.kids.set s.i m } s.i (n.keys.getD n.at' 0) m2) r, Wk b sb read 0, Store sb db S', Disk db D', A]) :
    G Tryz.prog 147 w0 F0 (nav [1, 1, 1, 1, 1, 1, 1, 1, 2, 2, 2] (bdy Tryz.f65)) Q (putT b sb b' b12 b14 x) [] [cl b12 180 xs.c, cl b14 176 (ndA n rn).toList, Stk b' (L ++ [s]), Nds s.d s.r, Nds n rn, Wk b sb read 0, Store sb db S, Disk db D, A] := by
  have hS := ndSize_does n rn hf
  have hp := pop_does b' L s hlen
  have hX := nSplit_does n rn hp0 hf hz hm0
  obtain ⟨tpg, td, ⟨p1, c1, p2, c2, p3, c3⟩, ti⟩ := s
  dsimp only [Sp.c] at hs hk hq hsf hsi hsv
  have hH := fun r => nHang_does { td with kids := td.kids.set ti m } r ti (n.keys.getD n.at' 0) m2 hs ⟨hsf.k, by simp only [List.length_set]; exact hsf.i, hsf.v, hsf.s⟩ hsi hsv
  unfold Sp.c
  obtain ⟨c, hc⟩ : ∃ c, c = nav [1, 1, 1, 1, 1, 1, 1, 1, 2, 2, 2] (bdy Tryz.f65) := ⟨_, rfl⟩
  rw [← hc]
  dsimp only [nav, bdy, Tryz.f65, Option.getD] at hc
  subst hc
  (repeat' (first | refine g_seq (h := ?_) | refine g_region (h := ?_) | refine l_nil (h := ?_) | refine n_then (h := ?_) | refine l_pures1 (h := ?_) | (refine l_atc ?_; refine l_call (hS) ?_) | (refine l_atc ?_; refine l_call_ (hX) ?_; rintro _ _ _ ⟨rf, rb, rfl, rfl⟩ he; cases he) | (refine l_atc ?_; refine l_call (hL b sb db read _) ?_) | (refine l_atc ?_; refine l_call (hR b sb db read _) ?_) | (refine l_atc ?_; refine l_call (hp) ?_) | refine l_guard_yes (h := ?_) | refine l_guard_no (h := ?_) | refine l_load (h := ?_) | refine l_store (h := ?_) | (refine l_alloc (h := ?_); intro _) | refine g_skip (h := ?_) | refine g_block (h := ?_) | refine n_block (h := ?_) | refine g_cond_t (h := ?_) | refine g_cond_f (h := ?_) | (refine g_spT (h := ?_); intro h)))
  rename_i b15 b17 b21
  dsimp only
  (refine g_draw [cl b21 180 _] (h := a_pass2 (h := ?_)))
  (repeat' (first | refine g_seq (h := ?_) | refine g_region (h := ?_) | refine l_nil (h := ?_) | refine n_then (h := ?_) | refine l_pures1 (h := ?_) | refine l_load (h := ?_) | refine l_store (h := ?_) | refine a_done (h := ?_) | refine a_load (h := a_pass2 (h := ?_)) | refine a_one (h := ?_) | refine n_any (h := a_pass2 (h := ?_))))
  refine l_open (A := Nds td ⟨p1, c1, p2, c2, p3, c3⟩) (h := ?_); (rintro _ _; dsimp only [NdsK, List.cons_append, List.nil_append])
  refine l_ptr (m := td.kids.length) (h := ?_); rintro g rfl hcp
  (repeat' (first | refine g_seq (h := ?_) | refine g_region (h := ?_) | refine l_nil (h := ?_) | refine n_then (h := ?_) | refine l_pures1 (h := ?_) | refine l_load (h := ?_) | refine l_indexAddr (h := ?_) | refine g_cond_t (h := ?_) | refine l_store_vec (h := ?_)))
  have e1 : (td.kids.map encZ').set (0 + ((ti : Nat) : Int).toNat * 1) (.int .i64 m) = (td.kids.set ti m).map encZ' := by
    rw [Nat.zero_add, Nat.mul_one, Int.toNat_natCast, List.map_set]; rfl
  rw [e1]
  (refine l_shut (A := Nds { td with kids := td.kids.set ti m } ⟨p1, c1, p2, c2, some ⟨g, 0, none⟩, c3⟩) (K := NdsK { td with kids := td.kids.set ti m } ⟨p1, c1, p2, c2, some ⟨g, 0, none⟩, c3⟩ (())) (hid_shuts (()) trivial) (h := ?_) (p := by dsimp only [NdsK]; (try simp only [List.map_nil, List.length_nil, List.length_set, List.length_append, List.length_cons, List.length_singleton, List.map_append, List.map_cons, Nat.zero_add]); exact parts_of))
  have hH' := hH ⟨p1, c1, p2, c2, some ⟨g, 0, none⟩, c3⟩
  simp only [ndV, ndA, List.length_set] at hH'
  (repeat' (first | refine l_nil (h := ?_) | (refine l_atc ?_; refine l_call_ (hH') ?_; rintro _ _ _ ⟨rh, rfl, rfl⟩ he; cases he) | refine l_store (h := ?_)))
  exact n_bang (hq rh)

theorem vec_two (g e : Nat) (v u : Value) : Shuts [cl g e [v, u]] (vec e 1 (some ⟨g, 0, none⟩) 2 2 [v, u]) := vec_shuts (xs := [v, u]) (rest := []) (Nat.le_refl _) (by simp [maxLen]) rfl rfl

set_option maxHeartbeats 2000000 in
/-- A split, no node above. -/
theorem putSplitTop (b sb db b' b12 b14 x : Nat) (read m m2 m3 : Int) (xs : Sp) (n : Nd) (rn : Rw) (S S1 S2 S' : Sh) (D D1 D2 D' : Dk) (hn : 240 < n.size) (hz : n.size < 10000) (hp0 : n.plain) (hf : n.fits) (hm0 : 1 ≤ n.keys.length - 1 - n.up)
    (hL : ∀ b sb db read r, Does Tryz.prog 114 [.pointer (some ⟨b, 0, none⟩), .int .i64 xs.pg, ndV (n.front n.at') r] [Wk b sb read 0, Store sb db S, Disk db D, Nds (n.front n.at') r] (fun v H => v = .int .i64 m ∧ H = [Wk b sb read 0, Store sb db S1, Disk db D1, Nds (n.front n.at') r]))
    (hR : ∀ b sb db read r, Does Tryz.prog 108 [.pointer (some ⟨b, 0, none⟩), ndV (n.back n.at') r] [Wk b sb read 0, Store sb db S1, Disk db D1, Nds (n.back n.at') r] (fun v H => v = .int .i64 m2 ∧ H = [Wk b sb read 0, Store sb db S2, Disk db D2, Nds (n.back n.at') r]))
    (hT : ∀ b sb db read r, Does Tryz.prog 108 [.pointer (some ⟨b, 0, none⟩), ndV ⟨false, [n.keys.getD n.at' 0], [], [m, m2]⟩ r] [Wk b sb read 0, Store sb db S2, Disk db D2, Nds ⟨false, [n.keys.getD n.at' 0], [], [m, m2]⟩ r] (fun v H => v = .int .i64 m3 ∧ H = [Wk b sb read 0, Store sb db S', Disk db D', Nds ⟨false, [n.keys.getD n.at' 0], [], [m, m2]⟩ r]))
    (w0 : World) (F0 : Nat → Prop) (Q : Exit → Act → World → Prop) (hc : SL.Calm Q) (hq : N 147 w0 F0 .ret Q [(8, .int .i64 m3), (9, .int .i64 0)] [] [Store sb db S', Disk db D']) :
    G Tryz.prog 147 w0 F0 (nav [1, 1, 1, 1, 1, 1, 1, 1, 2, 2, 2] (bdy Tryz.f65)) Q (putT b sb b' b12 b14 x) [] [cl b12 180 xs.c, cl b14 176 (ndA n rn).toList, Stk b' [], Nds n rn, Wk b sb read 0, Store sb db S, Disk db D] := by
  have hS := ndSize_does n rn hf
  have hX := nSplit_does n rn hp0 hf hz hm0
  have hp := popNone_does b'
  unfold Sp.c
  obtain ⟨c, hc⟩ : ∃ c, c = nav [1, 1, 1, 1, 1, 1, 1, 1, 2, 2, 2] (bdy Tryz.f65) := ⟨_, rfl⟩
  rw [← hc]
  dsimp only [nav, bdy, Tryz.f65, Option.getD] at hc
  subst hc
  (repeat' (first | refine g_seq (h := ?_) | refine g_region (h := ?_) | refine l_nil (h := ?_) | refine n_then (h := ?_) | refine l_pures1 (h := ?_) | (refine l_atc ?_; refine l_call (hS) ?_) | (refine l_atc ?_; refine l_call_ (hX) ?_; rintro _ _ _ ⟨rf, rb, rfl, rfl⟩ he; cases he) | (refine l_atc ?_; refine l_call (hL b sb db read _) ?_) | (refine l_atc ?_; refine l_call (hR b sb db read _) ?_) | (refine l_atc ?_; refine l_call (hp) ?_) | refine l_guard_yes (h := ?_) | refine l_load (h := ?_) | refine l_store (h := ?_) | (refine l_alloc (h := ?_); intro _) | (refine l_buildSlice1 (h := ?_); intro _) | refine g_skip (h := ?_) | refine g_block (h := ?_) | refine g_cond_t (h := ?_) | refine g_cond_f (h := ?_) | (refine l_buildSlice2 (h := ?_); intro _) | (refine g_spT (h := ?_); intro h)))
  rename_i g1 g2
  have hT' : Does Tryz.prog 108 [.pointer (some ⟨b, 0, none⟩), .agg #[.bool false, .slice (some ⟨g1, 0, none⟩) 1 1, .slice none 0 0, .slice (some ⟨g2, 0, none⟩) 2 2]] [Wk b sb read 0, Store sb db S2, Disk db D2, Nds ⟨false, [n.keys.getD n.at' 0], [], [m, m2]⟩ ⟨some ⟨g1, 0, none⟩, 1, none, 0, some ⟨g2, 0, none⟩, 2⟩] (fun v H => v = .int .i64 m3 ∧ H = [Wk b sb read 0, Store sb db S', Disk db D', Nds ⟨false, [n.keys.getD n.at' 0], [], [m, m2]⟩ ⟨some ⟨g1, 0, none⟩, 1, none, 0, some ⟨g2, 0, none⟩, 2⟩]) := hT b sb db read _
  refine l_shut (vec_one g1 30 (.int .u64 (n.keys.getD n.at' 0 : Nat))) (h := ?_)
  refine l_shut (vec_two g2 3 (.int .i64 m) (.int .i64 m2)) (h := ?_)
  refine l_inv (fun i => vec_nil (9) (1) i) ?_
  refine l_inv (fun i => Inv.shuts (K := NdsK ⟨false, [n.keys.getD n.at' 0], [], [m, m2]⟩ ⟨some ⟨g1, 0, none⟩, 1, none, 0, some ⟨g2, 0, none⟩, 2⟩ ()) (A := Nds ⟨false, [n.keys.getD n.at' 0], [], [m, m2]⟩ ⟨some ⟨g1, 0, none⟩, 1, none, 0, some ⟨g2, 0, none⟩, 2⟩) (show Shuts (NdsK ⟨false, [n.keys.getD n.at' 0], [], [m, m2]⟩ ⟨some ⟨g1, 0, none⟩, 1, none, 0, some ⟨g2, 0, none⟩, 2⟩ ()) (Nds ⟨false, [n.keys.getD n.at' 0], [], [m, m2]⟩ ⟨some ⟨g1, 0, none⟩, 1, none, 0, some ⟨g2, 0, none⟩, 2⟩) from fun _ _ s => ⟨(), trivial, s⟩) (i.parts (K := NdsK ⟨false, [n.keys.getD n.at' 0], [], [m, m2]⟩ ⟨some ⟨g1, 0, none⟩, 1, none, 0, some ⟨g2, 0, none⟩, 2⟩ ()) (Parts.cons (Take.there (Take.there Take.here)) (Parts.cons Take.here (Parts.cons Take.here Parts.nil))))) ?_
  (repeat' (first | refine l_nil (h := ?_) | refine n_then (h := ?_) | refine l_pures1 (h := ?_) | (refine l_atc ?_; refine l_call (hT') ?_) | (refine l_atc ?_; refine l_call (done_does b sb m3 read) ?_) | refine g_ret (h := ?_) | refine n_then_ret (h := ?_) | refine n_block_ret (h := ?_)))
  exact n_bang hq
end Go.Proofs.YtmfmommgooccnaaGreat
/- Put, plainly: what a round does to the tree. No code. -/
set_option maxRecDepth 20000
set_option linter.unusedVariables false
set_option linter.unusedSimpArgs false
namespace Go.Proofs.YtmfmommgooccnaaGreat
open Go.Proofs.YtmfmommgooccnaaGreat.SL

/-- A tree on a store: its root, what it has; its pages are all that count. -/
def IsTree (N : Nat) (S : Sh) (D : Dk) (U : List Int) (root : Int) (T : List Ent) : Prop :=
  root = 0 ∧ T = [] ∧ S.after U = [] ∨ ∃ h ps, OnP (Gd N D) h root ⟨T, ps⟩ ∧ ps.Perm (S.after U)
/-- A node in hand, that is to be laid on the page pg, and the way above it. -/
structure Hand (N : Nat) (U : List Int) (T : List Ent) (S : Sh) (D : Dk) (up : List Spot) (pg : Int) (n : Nd) (h : Nat) (Lf Rt es : List Ent) (ps qs : List Int) : Prop where
  fine : Fine N S D U
  way : Way (Gd N D) up h Lf Rt qs
  nt : NT (Gd N D) h n es ps
  pages : (pg :: (ps ++ qs)).Perm (S.after U)
  fit : ∀ e ∈ es, FitsP up e.1
  all : Lf ++ (es ++ Rt) = T
  some : n.keys ≠ []

theorem Gd.keep {N : Nat} {D D' : Dk} {p : Int} {d : Nd} (g : Gd N D p d) (h : D'.pg p = D.pg p) : Gd N D' p d := ⟨g.1, by rw [h]; exact g.2⟩

theorem Hand.up {N : Nat} {U : List Int} {T : List Ent} {S S' : Sh} {D D' : Dk} {s : Spot} {up : List Spot} {pg m : Int} {n : Nd} {h : Nat} {Lf Rt es : List Ent} {ps qs : List Int} (k : Hand N U T S D (s :: up) pg n h Lf Rt es ps qs) (hn : n.size ≤ 240)
    (f' : Fine N S' D' U) (gm : Gd N D' m n) (same : ∀ p ∈ ps ++ qs, D'.pg p = D.pg p) (hp : (m :: (ps ++ qs)).Perm (S'.after U)) :
    ∃ Lf' Rt' es' ps' qs', Hand N U T S' D' up s.pg { s.d with kids := s.d.kids.set s.i m } (h + 1) Lf' Rt' es' ps' qs' ∧ s.d.good ∧ s.d.leaf = false ∧ s.i ≤ s.d.keys.length := by
  obtain ⟨L', R', q0, sl, sr, w, g, mid, fs, rfl, rfl, rfl⟩ := k.way
  have hN := f'.n
  have o : OnP (Gd N D') h m ⟨es, m :: ps⟩ := ⟨n, ps, gm, ⟨k.nt.plain, fun _ => List.length_pos_iff.2 k.some, hn⟩, fun _ => k.some, k.nt.same (fun p hp d gd => gd.keep (same p (by simp [hp]))), rfl⟩
  have hnt := plug (g' := Gd N D') mid o (by have := gm.1; omega) (fun e he => (k.fit e he).1) (fun p hp d gd => gd.keep (same p (by simp only [List.mem_append, List.mem_cons] at hp ⊢; exact .inr (.inr (hp.elim .inl fun q => .inr (.inl q))))))
  refine ⟨L', R', _, _, q0, ⟨f', w.same (fun p hp d gd => gd.keep (same p (by simp [hp]))), hnt, ?_, ?_, ?_, mid.ne⟩, mid.good, mid.leaf, mid.ile⟩
  · refine List.Perm.trans ?_ hp
    refine List.perm_iff_count.2 fun a => ?_
    simp only [List.count_append, List.count_cons, List.cons_append]
    omega
  · intro e he
    simp only [List.mem_append] at he
    rcases he with he | he | he
    · exact fs e (by simp [he])
    · exact (k.fit e he).2
    · exact fs e (by simp [he])
  · rw [← k.all]; simp
theorem Hand.top {N : Nat} {U : List Int} {T : List Ent} {S S' : Sh} {D D' : Dk} {pg m : Int} {n : Nd} {h : Nat} {Lf Rt es : List Ent} {ps qs : List Int} (k : Hand N U T S D [] pg n h Lf Rt es ps qs) (hn : n.size ≤ 240)
    (f' : Fine N S' D' U) (gm : Gd N D' m n) (same : ∀ p ∈ ps ++ qs, D'.pg p = D.pg p) (hp : (m :: (ps ++ qs)).Perm (S'.after U)) : IsTree N S' D' U m T := by
  obtain ⟨rfl, rfl, rfl⟩ := k.way
  refine .inr ⟨h, m :: ps, ⟨n, ps, gm, ⟨k.nt.plain, fun _ => List.length_pos_iff.2 k.some, hn⟩, fun _ => k.some, ?_, rfl⟩, by simpa using hp⟩
  have := k.nt.same (g' := Gd N D') (fun p hp d gd => gd.keep (same p (by simp [hp])))
  have e := k.all
  simp only [List.nil_append, List.append_nil] at e
  rw [← e]
  exact this

theorem Hand.splitUp {N : Nat} {U : List Int} {T : List Ent} {S S' : Sh} {D D' : Dk} {s : Spot} {up : List Spot} {pg m m2 : Int} {n : Nd} {h : Nat} {Lf Rt es : List Ent} {ps qs : List Int} (k : Hand N U T S D (s :: up) pg n h Lf Rt es ps qs) (h1 : 240 < n.size) (h2 : n.size ≤ 340)
    (f' : Fine N S' D' U) (g1 : Gd N D' m (n.front n.at')) (g2 : Gd N D' m2 (n.back n.at')) (same : ∀ p ∈ ps ++ qs, D'.pg p = D.pg p) (hp : (m2 :: m :: (ps ++ qs)).Perm (S'.after U)) :
    ∃ Lf' Rt' es' ps' qs', Hand N U T S' D' up s.pg (Nd.hang { s.d with kids := s.d.kids.set s.i m } s.i (n.keys.getD n.at' 0) m2) (h + 1) Lf' Rt' es' ps' qs' := by
  obtain ⟨L', R', q0, sl, sr, w, g, mid, fs, rfl, rfl, rfl⟩ := k.way
  have hN := f'.n
  obtain ⟨a1, a2, a3, a4, a5⟩ := at_spec k.nt.plain h1 h2
  obtain ⟨e1, p1, e2, p2, md, hmd, n1, n2, rfl, rfl, lt1, ge2, k1, k2⟩ := split_nt k.nt a2 a3
  have hmd' : n.keys.getD n.at' 0 = md := by rw [List.getD, hmd]; rfl
  have hmm : md < 18446744073709551616 := k.nt.plain.key md (List.mem_of_getElem? hmd)
  rw [hmd']
  have o1 : OnP (Gd N D') h m ⟨e1, m :: p1⟩ := ⟨_, p1, g1, ⟨n1.plain, fun _ => List.length_pos_iff.2 k1, a4⟩, fun _ => k1, n1.same (fun p hp d gd => gd.keep (same p (by simp [hp]))), rfl⟩
  have o2 : OnP (Gd N D') h m2 ⟨e2, m2 :: p2⟩ := ⟨_, p2, g2, ⟨n2.plain, fun _ => List.length_pos_iff.2 k2, a5⟩, fun _ => k2, n2.same (fun p hp d gd => gd.keep (same p (by simp [hp]))), rfl⟩
  have hnt := plug2 (g' := Gd N D') mid o1 o2 (by have := g1.1; omega) (by have := g2.1; omega) hmm (fun e he => ⟨(k.fit e (by simp [he])).1, lt1 e he⟩) (fun e he => ⟨(k.fit e (by simp [he])).1, ge2 e he⟩) (fun p hp d gd => gd.keep (same p (by simp only [List.mem_append, List.mem_cons] at hp ⊢; exact .inr (.inr (hp.elim .inl fun q => .inr (.inl q))))))
  refine ⟨L', R', _, _, q0, ⟨f', w.same (fun p hp d gd => gd.keep (same p (by simp [hp]))), hnt, ?_, ?_, ?_, by simp [Nd.hang, laidL]⟩⟩
  · refine List.Perm.trans ?_ hp
    refine List.perm_iff_count.2 fun a => ?_
    simp only [List.count_append, List.count_cons, List.cons_append]
    omega
  · intro e he
    simp only [List.mem_append] at he
    rcases he with he | (he | he) | he
    · exact fs e (by simp [he])
    · exact (k.fit e (by simp [he])).2
    · exact (k.fit e (by simp [he])).2
    · exact fs e (by simp [he])
  · rw [← k.all]; simp

theorem Hand.splitTop {N : Nat} {U : List Int} {T : List Ent} {S S' : Sh} {D D' : Dk} {pg m m2 m3 : Int} {n : Nd} {h : Nat} {Lf Rt es : List Ent} {ps qs : List Int} (k : Hand N U T S D [] pg n h Lf Rt es ps qs) (h1 : 240 < n.size) (h2 : n.size ≤ 340)
    (f' : Fine N S' D' U) (g1 : Gd N D' m (n.front n.at')) (g2 : Gd N D' m2 (n.back n.at')) (g3 : Gd N D' m3 ⟨false, [n.keys.getD n.at' 0], [], [m, m2]⟩) (same : ∀ p ∈ ps ++ qs, D'.pg p = D.pg p) (hp : (m3 :: m2 :: m :: (ps ++ qs)).Perm (S'.after U)) :
    IsTree N S' D' U m3 T := by
  obtain ⟨rfl, rfl, rfl⟩ := k.way
  have hN := f'.n
  obtain ⟨a1, a2, a3, a4, a5⟩ := at_spec k.nt.plain h1 h2
  obtain ⟨e1, p1, e2, p2, md, hmd, n1, n2, rfl, rfl, lt1, ge2, k1, k2⟩ := split_nt k.nt a2 a3
  have hmd' : n.keys.getD n.at' 0 = md := by rw [List.getD, hmd]; rfl
  have hmm : md < 18446744073709551616 := k.nt.plain.key md (List.mem_of_getElem? hmd)
  rw [hmd'] at g3
  have o1 : OnP (Gd N D') h m ⟨e1, m :: p1⟩ := ⟨_, p1, g1, ⟨n1.plain, fun _ => List.length_pos_iff.2 k1, a4⟩, fun _ => k1, n1.same (fun p hp d gd => gd.keep (same p (by simp [hp]))), rfl⟩
  have o2 : OnP (Gd N D') h m2 ⟨e2, m2 :: p2⟩ := ⟨_, p2, g2, ⟨n2.plain, fun _ => List.length_pos_iff.2 k2, a5⟩, fun _ => k2, n2.same (fun p hp d gd => gd.keep (same p (by simp [hp]))), rfl⟩
  have b1 := g1.1
  have b2 := g2.1
  have hnt := nt_of (g := Gd N D') (h := h) (d := ⟨false, [md], [], [m, m2]⟩) (ss := [⟨e1, m :: p1⟩, ⟨e2, m2 :: p2⟩]) rfl rfl (all2_cons.2 ⟨_, _, rfl, o1, all2_cons.2 ⟨_, _, rfl, o2, trivial⟩⟩) ⟨lt1, fun y hy => ge2 y (by simpa [Sub.all] using hy), trivial⟩ (by simp; omega) (by simp; omega)
  have hes := k.all
  simp only [List.nil_append, List.append_nil] at hes
  refine .inr ⟨h + 1, m3 :: (m :: p1 ++ m2 :: p2), ⟨_, _, g3, ⟨hnt.plain, by simp, by simp [Nd.size]⟩, by simp, ?_, rfl⟩, ?_⟩
  · have : Sub.all [⟨e1, m :: p1⟩, ⟨e2, m2 :: p2⟩] = T := by rw [← hes]; simp [Sub.all]
    rw [this] at hnt
    simpa [Sub.pages] using hnt
  · refine List.Perm.trans ?_ hp
    refine List.perm_iff_count.2 fun a => ?_
    simp only [List.count_append, List.count_cons, List.cons_append, List.append_nil]
    omega
end Go.Proofs.YtmfmommgooccnaaGreat
/- Package tree: the loop of Put. -/
set_option maxRecDepth 20000
set_option linter.unusedVariables false
set_option linter.unusedSimpArgs false
namespace Go.Proofs.YtmfmommgooccnaaGreat
open Go.Proofs.YtmfmommgooccnaaGreat.SL

structure PutSt where
  L : List Sp
  xs : Sp
  n : Nd
  rn : Rw
  S : Sh
  D : Dk
/-- What holds at each round of Put; c: pages that may be taken yet. -/
def PutI (N : Nat) (U : List Int) (T : List Ent) (S0 : Sh) (D0 : Dk) (y : PutSt) : Prop :=
  ∃ h Lf Rt es ps qs, Hand N U T y.S y.D (y.L.map Sp.spot).reverse y.xs.pg y.n h Lf Rt es ps qs ∧ y.n.size ≤ 340 ∧ y.n.plain ∧ U.length + y.S.fresh.length + 2 * y.L.length + 5 < N ∧ y.L.length < 100 ∧ y.S.gen = S0.gen ∧ Same U S0 D0 y.S y.D

set_option maxHeartbeats 2000000 in
theorem put_loop (b sb db b' b12 b14 x N : Nat) (read : Int) (U : List Int) (T : List Ent) (S0 : Sh) (D0 : Dk) (y0 : PutSt) (h0 : PutI N U T S0 D0 y0) (w0 : World) (F0 : Nat → Prop) :
    G Tryz.prog 147 w0 F0 (nav [1, 1, 1, 1, 1, 1, 1, 1, 2] (bdy Tryz.f65)) (Exit.inBlock 0 (Post Tryz.prog Tryz.f65 w0 F0 (fun v H => ∃ m S' D', v = .tuple #[.int .i64 m, .int .i64 0] ∧ H = [Store sb db S', Disk db D'] ∧ IsTree N S' D' U m T ∧ Fine N S' D' U ∧ S'.gen = S0.gen ∧ Same U S0 D0 S' D')))
      (putT b sb b' b12 b14 x) [] [cl b12 180 y0.xs.c, cl b14 176 (ndA y0.n y0.rn).toList, Stk b' y0.L, NdL y0.L, Nds y0.n y0.rn, Wk b sb read 0, Store sb db y0.S, Disk db y0.D] := by
  obtain ⟨c, hc⟩ : ∃ c, c = nav [1, 1, 1, 1, 1, 1, 1, 1, 2] (bdy Tryz.f65) := ⟨_, rfl⟩
  rw [← hc]
  dsimp only [nav, bdy, Tryz.f65, Option.getD] at hc
  subst hc
  (refine g_loop (fun y : PutSt => putT b sb b' b12 b14 x) (fun y => [cl b12 180 y.xs.c, cl b14 176 (ndA y.n y.rn).toList, Stk b' y.L, NdL y.L, Nds y.n y.rn, Wk b sb read 0, Store sb db y.S, Disk db y.D]) (fun y => PutI N U T S0 D0 y) (fun y => y.L.length) (y0) ?_ ?_ ?_ ?_; rotate_left; (repeat (first | refine ts_nil | (refine ts_cons rfl ?_ ?_; first | (with_reducible rfl) | rotate_left))); (first | (intro _ i; with_reducible refine i) | rotate_left); rotate_left; (try omega); rotate_right)
  · rintro ⟨L, xs, n, rn, S, D⟩ ⟨h, Lf, Rt, es, ps, qs, k, hz, hpl, room, hL, hg, hr⟩
    dsimp only at k hz hpl room hL hg hr ⊢
    have hf := hpl.fits (by omega)
    refine g_block ?_
    by_cases hn : n.size ≤ 240
    · have hgood : n.good := ⟨hpl, fun _ => List.length_pos_iff.2 k.some, hn⟩
      obtain ⟨m, S', D', c1, c2, c3, c4, c5, c6, c7, c8, c9, c10⟩ := lay_ok k.fine k.pages (by omega) hgood
      rcases List.eq_nil_or_concat L with rfl | ⟨L', s, rfl⟩
      · refine g_bang (putTop b sb db b' b12 b14 x read m xs n rn S S' D D' hn hf c1 w0 F0 _ (by with_reducible (repeat (first | refine calm_post | apply calm_then | apply calm_block))) ?_)
        (repeat (first | refine n_then_ret (h := ?_) | refine n_block_ret (h := ?_)))
        refine r_ret ?_
        exact ⟨m, S', D', rfl, rfl, Hand.top k hn c2 c3 c4 c6, c2, c9.trans hg, c10.trans hr⟩
      · rw [List.concat_eq_append] at *
        rw [List.map_append, List.reverse_append] at k
        obtain ⟨Lf', Rt', es', ps', qs', k', v1, v2, v3⟩ := Hand.up k hn c2 c3 c4 c6
        refine g_inv (fun i => ndl_last (i.take (A := NdL (L' ++ [s])) (by with_reducible (repeat (first | refine Take.here | apply Take.there))))) ?_
        refine g_bang (putUp (NdL L') b sb db b' b12 b14 x read m xs s L' n rn S S' D D' hn hf v2 (by have v5 : s.d.kids.length = s.d.keys.length + 1 := kidsLen v1.p v2; have v4 : s.i ≤ s.d.keys.length := v3; omega) (by simp at hL; omega) c1 w0 F0 _ (by with_reducible (repeat (first | refine calm_post | apply calm_then | apply calm_block))) ?_)
        intro r
        (repeat refine n_block (h := ?_))
        (refine n_back ((⟨L', s, { s.d with kids := s.d.kids.set s.i m }, r, S', D'⟩ : PutSt)) ?_ ?_ ?_ ?_; rotate_left; rotate_left; (repeat (first | refine ts_nil | (refine ts_cons rfl ?_ ?_; first | (with_reducible rfl) | rotate_left))); (first | (intro _ i; with_reducible refine i) | rotate_left); (try omega); (try omega))
        · have hsz : Nd.size { s.d with kids := s.d.kids.set s.i m } = s.d.size := by simp only [Nd.size, List.length_set]
          have v6 : s.d.size ≤ 240 := v1.size
          simp only [List.length_append, List.length_singleton] at room hL
          exact ⟨h + 1, Lf', Rt', es', ps', qs', k', by show Nd.size _ ≤ 340; rw [hsz]; omega, k'.nt.plain, by show U.length + S'.fresh.length + 2 * L'.length + 5 < N; omega, by show L'.length < 100; omega, c9.trans hg, c10.trans hr⟩
        · show L'.length < (L' ++ [s]).length
          simp
        · skip
          (intro _ i; exact inv_keep parts_of i)
    · have hn : 240 < n.size := by omega
      obtain ⟨a1, a2, a3, a4, a5⟩ := at_spec hpl hn hz
      obtain ⟨e1, p1, e2, p2, md, hmd, n1, n2, _, _, _, _, q1, q2⟩ := split_nt k.nt a2 a3
      have gf : (n.front n.at').good := ⟨n1.plain, fun _ => List.length_pos_iff.2 q1, a4⟩
      have gb : (n.back n.at').good := ⟨n2.plain, fun _ => List.length_pos_iff.2 q2, a5⟩
      obtain ⟨m, S1, D1, c1, c2, c3, c4, c5, c6, c7, c8, c9, c10⟩ := lay_ok k.fine k.pages (by omega) gf
      obtain ⟨m2, S2, D2, f1, f2, f3, f4, f5, f6, f7, f8⟩ := fresh_ok c2 c6 (by omega) gb
      have old : ∀ p ∈ m :: (ps ++ qs), D2.pg p = D1.pg p := fun p hp => by
        have h1 := (Sh.mem_after.1 (c6.mem_iff.1 hp)).1
        exact f4 p (h1.elim (fun q => by have := c2.h.b p q; omega) (fun q => by have := c2.f.2 p q; omega)) h1
      have same : ∀ p ∈ ps ++ qs, D2.pg p = D.pg p := fun p hp => (old p (List.mem_cons_of_mem _ hp)).trans (c4 p hp)
      have g1 : Gd N D2 m (n.front n.at') := c3.keep (old m (by simp))
      rcases List.eq_nil_or_concat L with rfl | ⟨L', s, rfl⟩
      · have hN := c2.n
        have b1 := c3.1
        have b2 := f3.1
        have hmd' : n.keys.getD n.at' 0 = md := by rw [List.getD, hmd]; rfl
        have hmm : n.keys.getD n.at' 0 < 18446744073709551616 := by rw [hmd']; exact hpl.key md (List.mem_of_getElem? hmd)
        have gT : Nd.good ⟨false, [n.keys.getD n.at' 0], [], [m, m2]⟩ := ⟨⟨List.pairwise_singleton _ _, by intro k hk; simp only [List.mem_singleton] at hk; omega, by simp, by intro i hi; simp only [List.mem_cons, List.not_mem_nil, or_false] at hi; omega, rfl, rfl⟩, by simp, by simp [Nd.size]⟩
        obtain ⟨m3, S3, D3, t1, t2, t3, t4, t5, t6, t7, t8⟩ := fresh_ok f2 f5 (by omega) gT
        have old3 : ∀ p ∈ m2 :: m :: (ps ++ qs), D3.pg p = D2.pg p := fun p hp => by
          have h1 := (Sh.mem_after.1 (f5.mem_iff.1 hp)).1
          exact t4 p (h1.elim (fun q => by have := f2.h.b p q; omega) (fun q => by have := f2.f.2 p q; omega)) h1
        refine g_bang (putSplitTop b sb db b' b12 b14 x read m m2 m3 xs n rn S S1 S2 S3 D D1 D2 D3 hn (by omega) hpl hf a1 c1 f1 t1 w0 F0 _ (by with_reducible (repeat (first | refine calm_post | apply calm_then | apply calm_block))) ?_)
        (repeat (first | refine n_then_ret (h := ?_) | refine n_block_ret (h := ?_)))
        refine r_ret ?_
        exact ⟨m3, S3, D3, rfl, rfl, Hand.splitTop k hn hz t2 (g1.keep (old3 m (by simp))) (f3.keep (old3 m2 (by simp))) t3 (fun p hp => (old3 p (by simp only [List.mem_cons]; exact .inr (.inr hp))).trans (same p hp)) t5, t2, ((t7.trans f7).trans c9).trans hg, ((t8.trans f8).trans c10).trans hr⟩
      · rw [List.concat_eq_append] at *
        rw [List.map_append, List.reverse_append] at k
        obtain ⟨Lf', Rt', es', ps', qs', k'⟩ := Hand.splitUp k hn hz f2 g1 f3 same f5
        obtain ⟨_, _, _, _, _, _, v0, v1, _⟩ := k.way
        have v2 : s.d.leaf = false := v1.leaf
        have v3 : s.i ≤ s.d.keys.length := v1.ile
        have v4 : s.d.good := v1.good
        have v5 : s.d.kids.length = s.d.keys.length + 1 := kidsLen v4.p v2
        simp only [List.length_append, List.length_singleton] at room hL
        refine g_inv (fun i => ndl_last (i.take (A := NdL (L' ++ [s])) (by with_reducible (repeat (first | refine Take.here | apply Take.there))))) ?_
        refine g_bang (putSplitUp (NdL L') b sb db b' b12 b14 x read m m2 xs s L' n rn S S1 S2 D D1 D2 hn (by omega) hpl hf a1 v4.fits v3 (noVals v4.p v2) v2 (by omega) (by omega) c1 f1 w0 F0 _ (by with_reducible (repeat (first | refine calm_post | apply calm_then | apply calm_block))) ?_)
        intro r
        (repeat refine n_block (h := ?_))
        (refine n_back ((⟨L', s, Nd.hang { s.d with kids := s.d.kids.set s.i m } s.i (n.keys.getD n.at' 0) m2, r, S2, D2⟩ : PutSt)) ?_ ?_ ?_ ?_; rotate_left; rotate_left; (repeat (first | refine ts_nil | (refine ts_cons rfl ?_ ?_; first | (with_reducible rfl) | rotate_left))); (first | (intro _ i; with_reducible refine i) | rotate_left); (try omega); (try omega))
        · have hsz : Nd.size (Nd.hang { s.d with kids := s.d.kids.set s.i m } s.i (n.keys.getD n.at' 0) m2) ≤ 340 := by
            have v6 := v4.size
            simp only [Nd.size, v2, Bool.false_eq_true, if_false] at v6
            simp only [Nd.size, Nd.hang, laidL, Bool.false_eq_true, if_false, List.length_append, List.length_take, List.length_drop, List.length_singleton, List.length_set]
            omega
          exact ⟨h + 1, Lf', Rt', es', ps', qs', k', hsz, k'.nt.plain, by show U.length + S2.fresh.length + 2 * L'.length + 5 < N; omega, by show L'.length < 100; omega, (f7.trans c9).trans hg, (f8.trans c10).trans hr⟩
        · show L'.length < (L' ++ [s]).length
          simp
        · skip
          (intro _ i; exact inv_keep parts_of i)
end Go.Proofs.YtmfmommgooccnaaGreat
/- Package tree: Put of a tree that is there. -/
set_option maxRecDepth 20000
set_option linter.unusedVariables false
set_option linter.unusedSimpArgs false
namespace Go.Proofs.YtmfmommgooccnaaGreat
open Go.Proofs.YtmfmommgooccnaaGreat.SL

set_option maxHeartbeats 2000000 in
theorem put1_does (sb db x N : Nat) (v : List UInt8) (root : Int) (U : List Int) (T : List Ent) (S : Sh) (D : Dk) (l0 : List Spot) (s : Spot) (hg : Goes S D x root (l0 ++ [s])) (hl : l0.length + 1 ≤ 10) (hr : root ≠ 0) (hv : v.length ≤ 40)
    (hI : ∀ (L : List Sp) (t : Sp) r, L.map Sp.spot = l0 → t.spot = s → PutI N U T S D ⟨L, t, s.d.put x v, r, S, D⟩) :
    Does Tryz.prog 65 [.pointer (some ⟨sb, 0, none⟩), .int .i64 root, .int .u64 x, .string (str v)] [Store sb db S, Disk db D]
      (fun u H => ∃ m S' D', u = .tuple #[.int .i64 m, .int .i64 0] ∧ H = [Store sb db S', Disk db D'] ∧ IsTree N S' D' U m T ∧ Fine N S' D' U ∧ S'.gen = S.gen ∧ Same U S D S' D') := by
  obtain ⟨hd, hlf, hi⟩ := hg.last
  have hw := fun b => way_does b sb db x root 0 S D (l0 ++ [s]) hg (by simp; omega) (by simp; omega)
  refine does_of Tryz.func65 Tryz.ntmps65 rfl rfl rfl (fun w0 F0 => ?_)
  (repeat' (first | refine g_seq (h := ?_) | refine g_region (h := ?_) | refine l_nil (h := ?_) | refine n_then (h := ?_) | refine l_pures1 (h := ?_) | (refine l_box (h := ?_); intro _) | refine g_skip (h := ?_) | (refine g_spF (h := ?_); intro h)))
  rename_i b
  refine l_inv (H' := [Wk b sb 0 0, Store sb db S, Disk db D]) (fun i => i) ?_
  (repeat' (first | refine g_seq (h := ?_) | refine g_region (h := ?_) | refine l_nil (h := ?_) | refine n_then (h := ?_) | refine l_pures1 (h := ?_) | (refine l_atc ?_; refine l_call_ (hw b) ?_; rintro _ _ _ ⟨b', L, hL, rfl, rfl⟩ he; cases he) | refine l_load (h := ?_) | refine g_skip (h := ?_) | refine g_cond_f (h := ?_)))
  obtain ⟨L0, t, rfl⟩ : ∃ L0 t, L = L0 ++ [t] := by
    rcases List.eq_nil_or_concat L with rfl | ⟨l, s, rfl⟩
    · simp at hL
    · exact ⟨l, s, by simp⟩
  have hL2 : L0.map Sp.spot = l0 ∧ t.spot = s := by
    have := congrArg List.reverse hL
    simp at this
    exact ⟨this.2, this.1⟩
  obtain ⟨hL1, hts⟩ := hL2
  subst hts
  have hlen : L0.length = l0.length := by rw [← hL1]; simp
  have hpop := pop_does b' L0 t (by omega)
  refine l_inv (fun q => ndl_last (q.take (A := NdL (L0 ++ [t])) (by with_reducible (repeat (first | refine Take.here | apply Take.there))))) ?_
  dsimp only [Sp.spot] at hlf
  have hki : t.d.kids = [] := List.length_eq_zero_iff.1 (by have := hd.p.kids; rw [show (Sp.spot t).d.leaf = true from hlf] at this; simpa using this)
  have hP := nPut_does t.d t.r x v hlf hd.fits hd.p.rise hki
  have hlp := fun b12 b14 rp => put_loop b sb db b' b12 b14 x N (0 + ((l0 ++ [t.spot]).length : Int)) U T S D ⟨L0, t, t.d.put x v, rp, S, D⟩ (hI L0 t rp hL1 rfl) w0 F0
  dsimp only [Sp.c] at hlp
  (repeat (first | refine g_seq (h := ?_) | refine g_region (h := ?_) | refine l_nil (h := ?_) | refine n_then (h := ?_) | refine l_pures1 (h := ?_) | (refine l_atc ?_; refine l_call (hpop) ?_) | (refine l_atc ?_; refine l_call_ (hP) ?_; rintro _ _ _ ⟨rp, rfl, rfl⟩ he; cases he) | refine l_load (h := ?_) | refine l_store (h := ?_) | (refine l_alloc (h := ?_); intro _) | refine g_block (h := ?_)))
  exact g_bang (hlp _ _ _)
end Go.Proofs.YtmfmommgooccnaaGreat
/- Package tree: Put, whole. -/
set_option maxRecDepth 20000
set_option linter.unusedVariables false
set_option linter.unusedSimpArgs false
namespace Go.Proofs.YtmfmommgooccnaaGreat
open Go.Proofs.YtmfmommgooccnaaGreat.SL

theorem high_le {h n : Nat} (k : 2 ^ (h + 1) ≤ n) (hn : n ≤ 700) : h ≤ 8 := by
  apply Decidable.byContradiction
  intro c
  have : 2 ^ 10 ≤ 2 ^ (h + 1) := Nat.pow_le_pow_right (by omega) (by omega)
  omega
theorem Fine.afterLen {N : Nat} {S : Sh} {D : Dk} {U : List Int} (k : Fine N S D U) : (S.after U).length ≤ U.length + S.fresh.length := by
  have := List.length_filter_le (fun i => !decide (i ∈ S.given)) (U ++ S.fresh)
  rw [List.length_append] at this
  exact this
theorem put_tree (sb db x N : Nat) (v : List UInt8) (root : Int) (U : List Int) (T : List Ent) (S : Sh) (D : Dk) (k : Fine N S D U) (ht : IsTree N S D U root T) (hx : x < 18446744073709551616) (hv : v.length ≤ 40) (room : U.length + S.fresh.length + 25 < N) :
    Does Tryz.prog 65 [.pointer (some ⟨sb, 0, none⟩), .int .i64 root, .int .u64 x, .string (str v)] [Store sb db S, Disk db D]
      (fun u H => ∃ m S' D', u = .tuple #[.int .i64 m, .int .i64 0] ∧ H = [Store sb db S', Disk db D'] ∧ IsTree N S' D' U m (putE T x v) ∧ Fine N S' D' U ∧ S'.gen = S.gen ∧ Same U S D S' D') := by
  have hN := k.n
  have hal := k.afterLen
  rcases ht with ⟨rfl, rfl, h0⟩ | ⟨h, ps, o, hp⟩
  · have hd : Nd.good ⟨true, [x], [v], []⟩ := ⟨⟨List.pairwise_singleton _ _, by simpa using hx, by simpa using hv, by simp, rfl, rfl⟩, by simp, by simp [Nd.size, sumL]; omega⟩
    obtain ⟨m, S', D', c1, c2, c3, c4, c5, c6, c7, c8⟩ := fresh_ok k (rest := []) (by rw [h0]) (by omega) hd
    refine (put0_does sb db x v S S' D D' m hv (fun b r => c1 b sb db 0 r)).mono ?_
    rintro u H ⟨rfl, rfl⟩
    refine ⟨m, S', D', rfl, rfl, .inr ⟨0, [m], ⟨_, [], c3, hd, by simp, ⟨rfl, hd.p, rfl, rfl⟩, rfl⟩, c5⟩, c2, c7, c8⟩
  · have hh := o.high
    obtain ⟨d, ps1, g, hd, hne, hn, e⟩ := o
    subst e
    have hlen := hp.length_eq
    dsimp only at hh hn
    have h8 := high_le hh (by omega)
    obtain ⟨top, s, L, R, qs, r1, r2, r3, r4, r5, r6, r7, r8, r9, r10, r11⟩ := goes_way k (x := x) hn hd hne g (up := []) (L0 := []) (R0 := []) (ps0 := []) ⟨rfl, rfl, rfl⟩ trivial (fun _ _ => trivial)
    obtain ⟨lt1, lt2⟩ := r3.lt r8
    simp only [List.nil_append, List.append_nil] at r3 r8 r9 r10 r11
    obtain ⟨n1, n2, n3⟩ := put_nt (g := Gd N D) (d := s.d) (es := s.d.ents) (ps := []) ⟨r5, r4.p, rfl, rfl⟩ hx hv
    have hroot : root ≠ 0 := by have := g.1; omega
    refine put1_does sb db x N v root U (putE T x v) S D top s r1 (by omega) hroot hv fun L1 t r hL1 ht => ⟨0, L, R, putE s.d.ents x v, [], qs, ⟨k, ?_, n1, ?_, ?_, ?_, List.length_pos_iff.1 n3⟩, ?_, n1.plain, ?_, ?_, rfl, .refl _ _ _⟩
    · show Way _ (L1.map Sp.spot).reverse 0 L R qs
      rw [hL1]; exact r3
    · have e1 : t.pg = s.pg := congrArg Spot.pg ht
      show (t.pg :: qs).Perm (S.after U)
      rw [e1]; exact r11.trans hp
    · intro e he
      show FitsP (L1.map Sp.spot).reverse e.1
      rw [hL1]
      simp only [putE, List.mem_append, List.mem_cons, List.mem_filter] at he
      rcases he with ⟨he, _⟩ | rfl | ⟨he, _⟩
      · exact r9 e he
      · exact r8
      · exact r9 e he
    · rw [← r10, putE_mid lt1 lt2]
    · have := r4.size
      show (s.d.put x v).size ≤ 340
      omega
    all_goals
      have e2 : L1.length = top.length := by rw [← hL1]; simp
    · show U.length + S.fresh.length + 2 * L1.length + 5 < N
      omega
    · show L1.length < 100
      omega
end Go.Proofs.YtmfmommgooccnaaGreat
/- Package tree: Get of a tree, Delete of a key that is not there, Delete from a tree that is one leaf. -/
set_option maxRecDepth 20000
set_option linter.unusedVariables false
set_option linter.unusedSimpArgs false
namespace Go.Proofs.YtmfmommgooccnaaGreat
open Go.Proofs.YtmfmommgooccnaaGreat.SL

/-- What a list has at a key. -/
def getE : List Ent → Nat → Option (List UInt8)
  | [], _ => none
  | e :: es, x => if e.1 = x then some e.2 else getE es x
theorem getE_append (a b : List Ent) (x : Nat) : getE (a ++ b) x = (getE a x).or (getE b x) := by
  induction a with
  | nil => simp [getE]
  | cons e a ih =>
    simp only [List.cons_append, getE]
    split
    · simp
    · exact ih
theorem getE_none {l : List Ent} {x : Nat} (h : ∀ e ∈ l, e.1 ≠ x) : getE l x = none := by
  induction l with
  | nil => rfl
  | cons e l ih =>
    rw [getE, if_neg (h e (by simp))]; exact ih fun e he => h e (by simp [he])
theorem getE_mid {L e R : List Ent} {x : Nat} (hl : ∀ a ∈ L, a.1 < x) (hr : ∀ a ∈ R, x < a.1) : getE (L ++ (e ++ R)) x = getE e x := by
  rw [getE_append, getE_append, getE_none (fun a ha => by have := hl a ha; omega), getE_none (l := R) (fun a ha => by have := hr a ha; omega)]
  simp
theorem getE_mem {l : List Ent} {x : Nat} {v : List UInt8} (h : getE l x = some v) : (x, v) ∈ l := by
  induction l with
  | nil => simp [getE] at h
  | cons e l ih =>
    rw [getE] at h
    split at h
    · rename_i q
      simp only [Option.some.injEq] at h
      subst q h
      simp
    · simp [ih h]
theorem getE_of {l : List Ent} (o : Ord l) {x : Nat} {v : List UInt8} (h : (x, v) ∈ l) : getE l x = some v := by
  induction l with
  | nil => simp at h
  | cons e l ih =>
    obtain ⟨h1, h2⟩ := List.pairwise_cons.1 o
    rw [getE]
    rcases List.mem_cons.1 h with rfl | h
    · rw [if_pos rfl]
    · rw [if_neg (by have := h1 _ h; dsimp only at this; omega)]
      exact ih h2 h
theorem posN_cons {k x : Nat} {l : List Nat} : posN (k :: l) x = if k < x then posN l x + 1 else 0 := rfl
theorem getE_zip : ∀ {ks : List Nat} {vs : List (List UInt8)} {x : Nat}, Rise ks → vs.length = ks.length → getE (ks.zip vs) x = if x ∈ ks then some (vs.getD (posN ks x) []) else none
  | [], [], x, _, _ => by simp [getE]
  | k :: ks, v :: vs, x, h, hl => by
    obtain ⟨h1, h2⟩ := List.pairwise_cons.1 h
    have ih := getE_zip (x := x) h2 (by simpa using hl)
    simp only [List.zip_cons_cons, getE, ih, posN_cons]
    by_cases q : k = x
    · subst q
      simp
    · rw [if_neg q]
      by_cases m : x ∈ ks
      · have := h1 x m
        rw [if_pos m, if_pos (List.mem_cons_of_mem _ m), if_pos this, List.getD_cons_succ]
      · rw [if_neg m, if_neg (by simp only [List.mem_cons, not_or]; exact ⟨fun e => q e.symm, m⟩)]
theorem getE_filter {p : Ent → Bool} {q : Nat → Bool} (h : ∀ e, p e = q e.1) : ∀ {es : List Ent} {y : Nat}, getE (es.filter p) y = if q y then getE es y else none
  | [], y => by simp [getE]
  | e :: es, y => by
    have ih := getE_filter h (es := es) (y := y)
    rw [List.filter_cons, h]
    by_cases a : e.1 = y
    · subst a
      cases b : q e.1
      · simp [ih, b]
      · simp [getE]
    · split
      · rw [getE, if_neg a, ih, getE, if_neg a]
      · rw [ih, getE, if_neg a]
theorem getE_put {es : List Ent} {x y : Nat} {v : List UInt8} : getE (putE es x v) y = if y = x then some v else getE es y := by
  rw [putE, getE_append, getE, getE_filter (q := fun k => decide (k < x)) (fun _ => rfl), getE_filter (q := fun k => decide (x < k)) (fun _ => rfl)]
  by_cases q : y = x
  · subst q; simp
  · have q2 : ¬ x = y := fun e => q e.symm
    rw [if_neg q]
    rcases Nat.lt_or_gt_of_ne q with h | h
    · simp [h, q2, Nat.not_lt_of_gt h]
    · simp [h, q2, Nat.not_lt_of_gt h]
theorem getE_del {es : List Ent} {x y : Nat} : getE (delE es x) y = if y = x then none else getE es y := by
  rw [delE, getE_filter (q := fun k => !(k == x)) (fun _ => rfl)]
  by_cases q : y = x
  · subst q; simp
  · simp [q]
theorem putE_ord {es : List Ent} (o : Ord es) {x : Nat} {v : List UInt8} : Ord (putE es x v) := by
  rw [putE, ord_append]
  refine ⟨o.filter _, List.pairwise_cons.2 ⟨?_, o.filter _⟩, ?_⟩
  · intro e he
    simpa using (List.mem_filter.1 he).2
  · intro a ha b hb
    have h1 : a.1 < x := by simpa using (List.mem_filter.1 ha).2
    rcases List.mem_cons.1 hb with rfl | hb
    · exact h1
    · have h2 : x < b.1 := by simpa using (List.mem_filter.1 hb).2
      omega
theorem IsTree.ord {N : Nat} {S : Sh} {D : Dk} {U : List Int} {r : Int} {T : List Ent} (h : IsTree N S D U r T) : Ord T := by
  rcases h with ⟨_, rfl, _⟩ | ⟨h, ps, ⟨d', ps', a1, a2, a3, a4, a5⟩, _⟩
  · exact List.Pairwise.nil
  · exact a4.ord

def getV (o : Option (List UInt8)) : Value := .tuple #[.string (str (o.getD [])), .bool o.isSome, .int .i64 0]
theorem get0_does (sb x : Nat) : Does Tryz.prog 69 [.pointer (some ⟨sb, 0, none⟩), .int .i64 0, .int .u64 x] [] (fun v H => v = getV none ∧ H = []) := by
  refine does_of Tryz.func69 Tryz.ntmps69 rfl rfl rfl (fun w0 F0 => ?_)
  (repeat' (first | refine g_seq (h := ?_) | refine g_region (h := ?_) | refine l_nil (h := ?_) | refine n_then (h := ?_) | refine l_pures1 (h := ?_) | refine g_ret (h := ?_) | refine n_then_ret (h := ?_) | refine g_cond_t (h := ?_)))
  refine r_ret ?_
  exact ⟨rfl, rfl⟩
/-- The way to a key, and what it tells of the tree. -/
theorem tree_way {N : Nat} {S : Sh} {D : Dk} {U : List Int} {root : Int} {T : List Ent} (k : Fine N S D U) {h : Nat} {ps : List Int} (o : OnP (Gd N D) h root ⟨T, ps⟩) (hp : ps.Perm (S.after U)) (x : Nat) :
    ∃ (top : List Spot) (s : Spot) (L R : List Ent) (ps' : List Int), Goes S D x root (top ++ [s]) ∧ top.length = h ∧ h ≤ 8 ∧ Way (Gd N D) top.reverse 0 L R ps' ∧ s.d.good ∧ s.d.leaf = true ∧ s.i = posN s.d.keys x ∧ Gd N D s.pg s.d ∧
      FitsP top.reverse x ∧ (∀ e ∈ s.d.ents, FitsP top.reverse e.1) ∧ L ++ (s.d.ents ++ R) = T ∧ (s.pg :: ps').Perm (S.after U) ∧ root ≠ 0 ∧ getE T x = (if x ∈ s.d.keys then some (s.d.vals.getD s.i []) else none) := by
  have hN := k.n
  have hh := o.high
  obtain ⟨d, ps1, g, hd, hne, hn, e⟩ := o
  subst e
  have hlen := hp.length_eq
  have hal := nodup_sub (A := S.after U) (B := (List.range' 2 (N - 2)).map (fun n : Nat => (n : Int))) k.afterNodup (by
    intro a ha
    have ha2 : 2 ≤ a ∧ a < N := by
      rcases (Sh.mem_after.1 ha).1 with h | h
      · have := k.h.b a h; omega
      · have := k.f.2 a h; omega
    exact List.mem_map.2 ⟨a.toNat, List.mem_range'_1.2 (by omega), by omega⟩)
  simp only [List.length_map, List.length_range'] at hal
  dsimp only at hh hn
  have h8 := high_le hh (by omega)
  obtain ⟨top, s, L, R, qs, r1, r2, r3, r4, r5, r6, r7, r8, r9, r10, r11⟩ := goes_way k (x := x) hn hd hne g (up := []) (L0 := []) (R0 := []) (ps0 := []) ⟨rfl, rfl, rfl⟩ trivial (fun _ _ => trivial)
  obtain ⟨lt1, lt2⟩ := r3.lt r8
  simp only [List.nil_append, List.append_nil] at r3 r8 r9 r10 r11
  refine ⟨top, s, L, R, qs, r1, r2, h8, r3, r4, r5, r6, r7, r8, r9, r10, r11.trans hp, by have := g.1; omega, ?_⟩
  rw [← r10, getE_mid lt1 lt2, Nd.ents, getE_zip r4.p.rise (valsLen r4.p r5), r6]
theorem get_tree (sb db x N : Nat) (root : Int) (U : List Int) (T : List Ent) (S : Sh) (D : Dk) (k : Fine N S D U) (ht : IsTree N S D U root T) :
    Does Tryz.prog 69 [.pointer (some ⟨sb, 0, none⟩), .int .i64 root, .int .u64 x] [Store sb db S, Disk db D] (fun v H => v = getV (getE T x) ∧ H = [Store sb db S, Disk db D]) := by
  rcases ht with ⟨rfl, rfl, h0⟩ | ⟨h, ps, o, hp⟩
  · refine (does_frame (K := [Store sb db S, Disk db D]) (get0_does sb x)).mono ?_
    rintro v H ⟨_, ⟨rfl, rfl⟩, rfl⟩
    exact ⟨rfl, rfl⟩
  · obtain ⟨top, s, L, R, qs, r1, r2, r8, _, _, _, _, _, _, _, _, _, hr, he⟩ := tree_way k o hp x
    refine (Get_does sb db x root S D top s r1 (by omega) hr).mono ?_
    rintro v H ⟨rfl, rfl⟩
    refine ⟨?_, rfl⟩
    rw [he]
    split <;> rfl
end Go.Proofs.YtmfmommgooccnaaGreat
/- The framework, part 16: rows of four, full slices of nothing, order-free regions that call yield. -/
set_option linter.unusedVariables false
set_option linter.unusedSimpArgs false
namespace Go.Proofs.YtmfmommgooccnaaGreat.SL

section
variable {P : Program} {E : Env} {n : Nat} {w0 : World} {F0 : Nat → Prop} {Q : Exit → Act → World → Prop} {tm : List (Nat × Value)} {D : List Deferred} {H H' : List SProp} {ops rest : List Oper}
variable {ty : TypeId} {pos : String} {after : Array Edge}
theorem l_buildSlice4 {d t e by' : Nat} {x1 x2 x3 x4 : Operand} {v1 v2 v3 v4 z : Value} (k : EnvOk P E := by refine inferInstance) (hd : Nat.blt d n = true := by refine rfl) (hx1 : ev tm x1 = some v1 := by refine rfl) (hx2 : ev tm x2 = some v2 := by refine rfl) (hx3 : ev tm x3 = some v3 := by refine rfl) (hx4 : ev tm x4 = some v4 := by refine rfl) (ht : look E.ty t = some (.slice e) := by refine rfl) (he : look E.inf e = some (z, 1, by') := by refine rfl)
    (hz : cellsV z = some [z] := by refine rfl) (hv1 : cellsV v1 = some [v1] := by refine rfl) (hv2 : cellsV v2 = some [v2] := by refine rfl) (hv3 : cellsV v3 = some [v3] := by refine rfl) (hv4 : cellsV v4 = some [v4] := by refine rfl) (h : ∀ b, L P n w0 F0 ops.toArray rest Q ((d, .slice (some ⟨b, 0, none⟩) 4 4) :: tm) D (cl b e [v1, v2, v3, v4] :: H)) :
    L P n w0 F0 ops.toArray (⟨some d, .buildSlice t 4 #[(0, x1), (1, x2), (2, x3), (3, x4)], ty, pos, after, none⟩ :: rest) Q tm D H := by
  refine .mk fun a w st => ?_
  have ez : z.cells = #[z] := by apply Array.ext'; simpa using (cellsV_spec hz).1
  have e1 : v1.cells = #[v1] := by apply Array.ext'; simpa using (cellsV_spec hv1).1
  have e2 : v2.cells = #[v2] := by apply Array.ext'; simpa using (cellsV_spec hv2).1
  have e3 : v3.cells = #[v3] := by apply Array.ext'; simpa using (cellsV_spec hv3).1
  have e4 : v4.cells = #[v4] := by apply Array.ext'; simpa using (cellsV_spec hv4).1
  refine wpList_value rfl (v := .slice (some ⟨w.heap.size, 0, none⟩) 4 4) (w' := { w with heap := w.heap.push (.cells [v1, v2, v3, v4].toArray e (0, 0)) }) ?_ (h w.heap.size _ _ ⟨st.tm.put hd _, st.defers, st.inv.new_cl _ _⟩)
  obtain ⟨info, hi, hi1, hi2, hi3⟩ := k.info he
  have hfill : Instr.fill (fun i => some (i * info.size, info.size)) ((Array.range (4 * info.size)).map (z.cells[· % z.cells.size]!)) [(0, v1), (1, v2), (2, v3), (3, v4)] = some [v1, v2, v3, v4].toArray := by
    rw [hi2, ez]
    simp [Instr.fill, e1, e2, e3, e4]
    apply Array.ext'
    simp only [Array.toList_setIfInBounds, Array.toList_map, Array.toList_range]
    rfl
  have hr := run_buildSlice w t e 4 #[(0, v1), (1, v2), (2, v3), (3, v4)] [v1, v2, v3, v4].toArray info z (k.under ht) hi hi1 (by omega) (by omega) hfill
  simp only [execOp, Sem.run_bind, List.map_toArray, List.map_cons, List.map_nil, ev_sound st.tm hx1, ev_sound st.tm hx2, ev_sound st.tm hx3, ev_sound st.tm hx4, hr, Result.andThen_ok, Sem.run_pure]
  rfl
/-- A full slice of nothing. -/
theorem l_slice3n {d t e sz by' : Nat} {x y u : Operand} {z : Value} (k : EnvOk P E := by refine inferInstance) (hd : Nat.blt d n = true := by refine rfl) (hx : ev tm x = some (.slice none 0 0) := by refine rfl) (hy : ev tm y = some (.int .i64 0) := by refine rfl) (hu : ev tm u = some (.int .i64 0) := by refine rfl) (ht : look E.ty t = some (.slice e) := by refine rfl) (he : look E.inf e = some (z, sz, by') := by refine rfl)
    (h : L P n w0 F0 ops.toArray rest Q ((d, .slice none 0 0) :: tm) D H) :
    L P n w0 F0 ops.toArray (⟨some d, .slice t x none (some y) (some u), ty, pos, after, none⟩ :: rest) Q tm D H := by
  refine .mk fun a w s => ?_
  refine wpList_value rfl (v := .slice none 0 0) (w' := w) ?_ (h _ _ (s.put hd _))
  simp [execOp, ev_sound s.tm hx, ev_sound s.tm hy, ev_sound s.tm hu, Instr.sliceAt, Instr.slice, Instr.sliceBounds, Instr.sliceBound, asIntOf, Sem.run_bind, run_underlying (k.under ht), Result.andThen, Sem.run_pure, run_size k he]

/-! ### Order-free regions that call yield last -/
def deps (o : Oper) : List Nat := (o.after.toList.filter (Region.binds .any)).map (·.on)
/-- What must have come up where the things of the list have. -/
def reach (ops : List Oper) : Nat → List Nat → List Nat
  | 0, l => l
  | i + 1, l => bif l.contains i then (match ops[i]? with
    | some o => reach ops i (deps o ++ l)
    | none => reach ops i l) else reach ops i l
def sureB : List Oper → Nat → Bool
  | [], _ => true
  | o :: l, i => (deps o).all (fun j => Nat.blt j i) && (match o.guard with | none => true | some _ => false) && sureB l (i + 1)
/-- A chain: each waits for the one ahead. -/
def chainB : List Oper → Nat → Bool
  | [], _ => true
  | o :: l, i => (deps o).all (fun j => Nat.blt j i) && (match l with | [] => true | u :: _ => (deps u).contains i) && chainB l (i + 1)
def goB (pre post : List Oper) : Bool :=
  sureB pre 0 && chainB post pre.length && noDf pre && (match post with | [] => false | c :: _ => (List.range pre.length).all (fun i => (reach pre pre.length (deps c)).contains i))

theorem mem_deps {o : Oper} {j : Nat} : j ∈ deps o ↔ ∃ e ∈ o.after, Region.binds .any e = true ∧ e.on = j := by
  simp [deps, and_assoc]
theorem reach_sub {ops : List Oper} {listed : Nat → Prop} (hc : ∀ i o, ops[i]? = some o → listed i → ∀ j ∈ deps o, listed j) : ∀ (k : Nat) (l : List Nat), (∀ x ∈ l, listed x) → ∀ x ∈ reach ops k l, listed x
  | 0, l, h => h
  | k + 1, l, h => by
    unfold reach
    cases hk : l.contains k with
    | false => exact reach_sub hc k l h
    | true =>
      simp only [cond_true]
      split
      · rename_i o ho
        refine reach_sub hc k _ fun x hx => ?_
        rcases List.mem_append.1 hx with hx | hx
        · exact hc k o ho (h k (by simpa using hk)) x hx
        · exact h x hx
      · exact reach_sub hc k l h
theorem sureB_spec : ∀ {l : List Oper} {i : Nat}, sureB l i = true → ∀ j o, l[j]? = some o → (∀ x ∈ deps o, x < i + j) ∧ o.guard = none
  | [], i, _, j, o, h => by simp at h
  | u :: l, i, hs, j, o, h => by
    simp only [sureB, Bool.and_eq_true, List.all_eq_true, Nat.blt_eq] at hs
    cases j with
    | zero =>
      simp only [List.getElem?_cons_zero, Option.some.injEq] at h
      subst h
      refine ⟨hs.1.1, ?_⟩
      have := hs.1.2
      cases hg : u.guard with
      | none => rfl
      | some _ => rw [hg] at this; simp at this
    | succ j =>
      have := sureB_spec hs.2 j o (by simpa using h)
      refine ⟨fun x hx => ?_, this.2⟩
      have := this.1 x hx
      omega
theorem chainB_spec : ∀ {l : List Oper} {i : Nat}, chainB l i = true → ∀ j o, l[j]? = some o → (∀ x ∈ deps o, x < i + j) ∧ (0 < j → i + j - 1 ∈ deps o)
  | [], i, _, j, o, h => by simp at h
  | u :: l, i, hs, j, o, h => by
    simp only [chainB, Bool.and_eq_true, List.all_eq_true, Nat.blt_eq] at hs
    cases j with
    | zero =>
      simp only [List.getElem?_cons_zero, Option.some.injEq] at h
      subst h
      exact ⟨hs.1.1, fun q => absurd q (by omega)⟩
    | succ j =>
      have := chainB_spec hs.2 j o (by simpa using h)
      refine ⟨fun x hx => by have := this.1 x hx; omega, fun _ => ?_⟩
      cases j with
      | zero =>
        cases l with
        | nil => simp at h
        | cons v l =>
          simp only [List.getElem?_cons_succ, List.getElem?_cons_zero, Option.some.injEq] at h
          subst h
          have := hs.1.2
          simp only [List.contains_eq_mem, decide_eq_true_eq] at this
          simpa using this
      | succ j =>
        have := this.2 (by omega)
        rw [show i + (j + 1 + 1) - 1 = i + 1 + (j + 1) - 1 by omega]
        exact this

theorem any_post {r : Option Nat} {pre : List Oper} {ops : Array Oper} : ∀ {post done : List Oper} {fuel : Nat} {listed : Array Bool} {a : Act} {w : World}, ops.toList = done ++ post → (∀ j o, post[j]? = some o → (∀ x ∈ deps o, x < done.length + j) ∧ (0 < j → done.length + j - 1 ∈ deps o)) → post.length ≤ fuel →
    (∀ i, i < done.length → listed.getD i false = true) → (∀ i, done.length ≤ i → i < ops.size → listed.getD i true = false) → listed.size = ops.size →
    wpListIn (FR r) 0 P ops Q post a w → wpAnyIn (FR r) 0 P .any ops Q fuel listed a w
  | [], done, fuel, listed, a, w, he, hp, hf, hl, hn, hsz, h => by
    have hnil : Region.ready .any ops listed = [] := by
      rw [List.eq_nil_iff_forall_not_mem]
      intro i hi
      obtain ⟨h1, o, h2, _⟩ := mem_ready.1 hi
      have hlt : i < ops.size := (Array.getElem?_eq_some_iff.1 h2).1
      have hs : ops.size = done.length := by have := congrArg List.length he; simpa using this
      have := hl i (by omega)
      simp only [Array.getD_eq_getD_getElem?] at h1 this
      cases hq : listed[i]? with
      | none => rw [hq] at this; simp at this
      | some b => rw [hq] at h1 this; simp only [Option.getD_some] at h1 this; rw [h1] at this; cases this
    cases fuel with
    | zero => exact ⟨hnil, h⟩
    | succ fuel => exact ⟨fun _ => h, fun i hi => by rw [hnil] at hi; cases hi⟩
  | o :: post, done, 0, listed, a, w, he, hp, hf, hl, hn, hsz, h => by simp at hf
  | o :: post, done, fuel + 1, listed, a, w, he, hp, hf, hl, hn, hsz, h => by
    have hs : ops.size = done.length + (post.length + 1) := by have := congrArg List.length he; simpa using this
    have ho : ops[done.length]? = some o := by
      rw [← Array.getElem?_toList, he]; simp
    have hrd : done.length ∈ Region.ready .any ops listed := by
      refine mem_ready.2 ⟨hn _ (Nat.le_refl _) (by omega), o, ho, fun e he hb => ?_⟩
      have := (hp 0 o rfl).1 e.on (mem_deps.2 ⟨e, he, hb, rfl⟩)
      exact hl _ (by omega)
    refine ⟨fun q => (by rw [q] at hrd; cases hrd), fun i hi => ?_⟩
    obtain ⟨h1, oi, h2, h3⟩ := mem_ready.1 hi
    have hi' : i = done.length := by
      have hlt : i < ops.size := (Array.getElem?_eq_some_iff.1 h2).1
      rcases Nat.lt_trichotomy i done.length with q | q | q
      · have := hl i q
        simp only [Array.getD_eq_getD_getElem?] at h1 this
        cases hq : listed[i]? with
        | none => rw [hq] at this; simp at this
        | some b => rw [hq] at h1 this; simp only [Option.getD_some] at h1 this; rw [h1] at this; cases this
      · exact q
      · exfalso
        have h4 : (o :: post)[i - done.length]? = some oi := by
          rw [← Array.getElem?_toList, he, List.getElem?_append_right (by omega)] at h2; exact h2
        have h5 := (hp _ _ h4).2 (by omega)
        obtain ⟨e, he1, he2, he3⟩ := mem_deps.1 h5
        have h6 := h3 e he1 he2
        have h7 := hn e.on (by omega) (by omega)
        simp only [Array.getD_eq_getD_getElem?] at h6 h7
        cases hq : listed[e.on]? with
        | none => rw [hq] at h6; simp at h6
        | some b => rw [hq] at h6 h7; simp only [Option.getD_some] at h6 h7; rw [h6] at h7; cases h7
    subst hi'
    unfold wpOpIn
    simp only [ho]
    have key : ∀ a w, wpListIn (FR r) 0 P ops Q post a w → wpAnyIn (FR r) 0 P .any ops Q fuel (listed.setIfInBounds done.length true) a w := fun a w h => by
      refine any_post (pre := pre) (done := done ++ [o]) (by simpa using he) ?_ (by simp only [List.length_cons] at hf; omega) ?_ ?_ (by simpa using hsz) h
      · intro j u hu
        have := hp (j + 1) u (by simpa using hu)
        simp only [List.length_append, List.length_singleton]
        refine ⟨fun x hx => by have := this.1 x hx; omega, fun q => ?_⟩
        have := this.2 (by omega)
        rw [show done.length + 1 + j - 1 = done.length + (j + 1) - 1 by omega]
        exact this
      · intro i hi
        simp only [List.length_append, List.length_singleton] at hi
        by_cases q : i = done.length
        · subst q
          rw [Array.getD_eq_getD_getElem?, Array.getElem?_setIfInBounds, if_pos rfl, if_pos (by omega)]; rfl
        · have := hl i (by omega)
          simp only [Array.getD_eq_getD_getElem?] at this ⊢
          rw [Array.getElem?_setIfInBounds_ne (by omega)]; exact this
      · intro i hi hi2
        simp only [List.length_append, List.length_singleton] at hi
        have := hn i (by omega) hi2
        simp only [Array.getD_eq_getD_getElem?] at this ⊢
        rw [Array.getElem?_setIfInBounds_ne (by omega)]; exact this
    unfold wpListIn at h
    split
    · rename_i hw
      rw [if_pos hw] at h
      exact Oper.wpIn_mono key h
    · rename_i hw
      rw [if_neg hw] at h
      exact ⟨h.1, key _ _ h.2⟩
theorem any_pre {r : Option Nat} {pre post : List Oper} {S : World → Prop} (hq : NoOut Q) (hg : goB pre post = true) : ∀ {fuel : Nat} {lp listed : Array Bool} {a : Act} {w : World}, lp.size = pre.length → listed = lp ++ Array.replicate post.length false → (∀ i o, pre[i]? = some o → lp.getD i true = true → ∀ j ∈ deps o, lp.getD j false = true) →
    wpAnyH P .any pre.toArray (Exit.then (fun a w => wpListIn (FR r) 0 P (pre ++ post).toArray Q post a w) Q) S fuel lp a w → wpAnyIn (FR r) 0 P .any (pre ++ post).toArray Q (fuel + post.length) listed a w := by
  simp only [goB, Bool.and_eq_true] at hg
  obtain ⟨⟨⟨g1, g2⟩, g3⟩, g4⟩ := hg
  have k1 := sureB_spec g1
  have k2 := chainB_spec g2
  have hdf : ∀ {l : List Oper} {i : Nat} {o : Oper}, noDf l = true → l[i]? = some o → isDf o.op = false := by
    intro l
    induction l with
    | nil => intro i o _ h; simp at h
    | cons x l ih =>
      obtain ⟨d, op, ty, pos, after, g⟩ := x
      intro i o h1 h2
      simp only [noDf, Bool.and_eq_true, Bool.not_eq_true'] at h1
      cases i with
      | zero => simp only [List.getElem?_cons_zero, Option.some.injEq] at h2; subst h2; exact h1.1
      | succ i => exact ih h1.2 (by simpa using h2)
  intro fuel
  induction fuel with
  | zero =>
    intro lp listed a w hsz hl hc h
    obtain ⟨h1, h2⟩ := h
    have hall : ∀ i, i < pre.length → lp.getD i true = true := by
      intro i
      induction i using Nat.strongRecOn with
      | _ i ih =>
        intro hi
        cases hb : lp.getD i true with
        | true => rfl
        | false =>
          have ho : pre.toArray[i]? = some pre[i] := by simp [hi]
          have : i ∈ Region.ready .any pre.toArray lp := mem_ready.2 ⟨hb, _, ho, fun e he hb2 => by
            have h3 := (k1 i pre[i] (by simp [hi])).1 e.on (mem_deps.2 ⟨e, he, hb2, rfl⟩)
            have h4 := ih e.on (by omega) (by omega)
            have hlt : e.on < lp.size := by omega
            simp [hlt] at h4 ⊢; exact h4⟩
          rw [h1] at this; cases this
    refine any_post (pre := pre) (done := pre) (by simp) k2 (by omega) ?_ ?_ (by rw [hl]; simp [hsz]) h2
    · intro i hi
      have := hall i hi
      have hlt : i < lp.size := by omega
      rw [hl]
      simp [hlt, Array.getElem?_append] at this ⊢; exact this
    · intro i hi hi2
      rw [hl]
      simp at hi2
      have h5 : i - pre.length < post.length := by omega
      simp [Array.getElem?_append, hsz, show ¬ i < pre.length by omega, Array.getElem?_replicate, h5]
  | succ fuel ih =>
    intro lp listed a w hsz hl hc h
    obtain ⟨h1, h2⟩ := h
    rw [show fuel + 1 + post.length = (fuel + post.length) + 1 by omega]
    by_cases hall : ∀ i, i < pre.length → lp.getD i true = true
    · have hnil : Region.ready .any pre.toArray lp = [] := by
        rw [List.eq_nil_iff_forall_not_mem]
        intro i hi
        obtain ⟨h3, o, h4, _⟩ := mem_ready.1 hi
        have hlt : i < pre.length := by simpa using (Array.getElem?_eq_some_iff.1 h4).1
        rw [hall i hlt] at h3; cases h3
      refine any_post (pre := pre) (done := pre) (by simp) k2 (by omega) ?_ ?_ (by rw [hl]; simp [hsz]) (h1 hnil)
      · intro i hi
        have := hall i hi
        have hlt : i < lp.size := by omega
        rw [hl]
        simp [hlt, Array.getElem?_append] at this ⊢; exact this
      · intro i hi hi2
        rw [hl]
        simp at hi2
        have h5 : i - pre.length < post.length := by omega
        simp [Array.getElem?_append, hsz, show ¬ i < pre.length by omega, Array.getElem?_replicate, h5]
    · -- one of the first part may come up, and none of the last
      have hex : ∃ i, i < pre.length ∧ lp.getD i true = false ∧ ∀ j, j < i → lp.getD j true = true := by
        have : ∃ i, i < pre.length ∧ lp.getD i true = false := by
          apply Classical.byContradiction
          intro q
          refine hall fun i hi => ?_
          cases hb : lp.getD i true with
          | true => rfl
          | false => exact absurd ⟨i, hi, hb⟩ q
        obtain ⟨i, hi⟩ := this
        have : ∀ m i, i ≤ m → (i < pre.length ∧ lp.getD i true = false) → ∃ i, i < pre.length ∧ lp.getD i true = false ∧ ∀ j, j < i → lp.getD j true = true := by
          intro m
          induction m with
          | zero =>
            intro i hi h
            exact ⟨i, h.1, h.2, fun j hj => by omega⟩
          | succ m ihm =>
            intro i hi h
            by_cases q : ∀ j, j < i → lp.getD j true = true
            · exact ⟨i, h.1, h.2, q⟩
            · obtain ⟨j, hj⟩ := Classical.not_forall.1 q
              obtain ⟨hj1, hj2⟩ := Classical.not_imp.1 hj
              exact ihm j (by omega) ⟨by omega, by simpa using hj2⟩
        exact this i i (Nat.le_refl _) hi
      obtain ⟨i0, hi0, hb0, hlow⟩ := hex
      have hlisted : ∀ i, i < pre.length → ∀ b, listed.getD i b = lp.getD i b := by
        intro i hi b
        have hlt : i < lp.size := by omega
        rw [hl]
        simp [hlt, Array.getElem?_append]
      have hpost : ∀ i, pre.length ≤ i → ∀ b, listed.getD i b = true → b = true := by
        intro i hi b
        rw [hl]
        simp only [Array.getD_eq_getD_getElem?, Array.getElem?_append, hsz, if_neg (show ¬ i < pre.length by omega), Array.getElem?_replicate]
        split <;> simp
      have hr0 : i0 ∈ Region.ready .any (pre ++ post).toArray listed := by
        refine mem_ready.2 ⟨by rw [hlisted i0 hi0]; exact hb0, pre[i0], by simp [List.getElem?_append, hi0], fun e he hb2 => ?_⟩
        have h3 := (k1 i0 pre[i0] (by simp [hi0])).1 e.on (mem_deps.2 ⟨e, he, hb2, rfl⟩)
        have h4 := hlow e.on (by omega)
        rw [hlisted _ (by omega)]
        have hlt : e.on < lp.size := by omega
        simp [hlt] at h4 ⊢; exact h4
      refine ⟨fun q => (by rw [q] at hr0; cases hr0), fun i hi => ?_⟩
      obtain ⟨h3, o, h4, h5⟩ := mem_ready.1 hi
      have hi1 : i < pre.length := by
        apply Classical.byContradiction
        intro q
        have h6 : post[i - pre.length]? = some o := by
          have := h4
          simp only [List.getElem?_toArray, List.getElem?_append_right (show pre.length ≤ i by omega)] at this
          exact this
        have h7 := k2 _ _ h6
        by_cases q0 : i = pre.length
        · subst q0
          cases post with
          | nil => simp at h6
          | cons c post =>
            simp only [Nat.sub_self, List.getElem?_cons_zero, Option.some.injEq] at h6
            subst h6
            have h8 := reach_sub (ops := pre) (listed := fun j => lp.getD j false = true) (fun i o ho hli j hj => hc i o ho (by
              have hlt : i < pre.length := (List.getElem?_eq_some_iff.1 ho).1
              have hlt2 : i < lp.size := by omega
              simp [hlt2] at hli ⊢; exact hli) j hj) pre.length (deps c) (fun j hj => by
                obtain ⟨e, he1, he2, he3⟩ := mem_deps.1 hj
                have h9 := h5 e he1 he2
                have h10 := h7.1 j hj
                rw [he3] at h9
                rw [hlisted j (by omega)] at h9; exact h9)
            simp only [List.all_eq_true, List.mem_range, List.contains_eq_mem, decide_eq_true_eq] at g4
            have h9 := h8 i0 (g4 i0 hi0)
            have hlt2 : i0 < lp.size := by omega
            simp [hlt2] at h9 hb0
            rw [h9] at hb0; cases hb0
        · have h8 := h7.2 (by omega)
          obtain ⟨e, he1, he2, he3⟩ := mem_deps.1 h8
          have h9 := h5 e he1 he2
          have := hpost e.on (by omega) false h9
          cases this
      have ho : pre[i]? = some o := by
        have := h4
        simp only [List.getElem?_toArray, List.getElem?_append_left hi1] at this
        exact this
      have hrd : i ∈ Region.ready .any pre.toArray lp := mem_ready.2 ⟨by rw [← hlisted i hi1]; exact h3, o, by simpa using ho, fun e he hb2 => by
        have := h5 e he hb2
        have h6 := (k1 i o ho).1 e.on (mem_deps.2 ⟨e, he, hb2, rfl⟩)
        rw [hlisted _ (by omega)] at this; exact this⟩
      have h6 := h2 i hrd
      unfold wpOp at h6
      rw [show pre.toArray[i]? = some o by simpa using ho] at h6
      have hgd := (k1 i o ho).2
      have hw1 : ∀ ts, Region.wanted o ts = true := fun ts => by simp [Region.wanted, hgd]
      simp only [hw1, if_true] at h6
      unfold wpOpIn
      rw [h4]
      simp only [hw1, if_true]
      rcases h6 with h6 | ⟨_, h6⟩
      · refine oper_lift (hdf g3 ho) (wp_mono2 (fun a w h7 => ?_) (fun e a w he h7 => ?_) h6)
        · refine ih (by simpa using hsz) ?_ ?_ h7.2
          · rw [hl, Array.setIfInBounds_append_left (by omega)]
          · intro k u hu hk j hj
            have hkl : k < lp.size := by have := (List.getElem?_eq_some_iff.1 hu).1; omega
            by_cases q : k = i
            · subst q
              rw [ho] at hu
              simp only [Option.some.injEq] at hu
              subst hu
              obtain ⟨e, he1, he2, he3⟩ := mem_deps.1 hj
              have h8 := h5 e he1 he2
              have h9 := (k1 k o ho).1 j hj
              rw [he3] at h8
              rw [hlisted j (by omega)] at h8
              rw [Array.getD_eq_getD_getElem?, Array.getElem?_setIfInBounds_ne (by omega), ← Array.getD_eq_getD_getElem?]; exact h8
            · rw [Array.getD_eq_getD_getElem?, Array.getElem?_setIfInBounds_ne (by omega), ← Array.getD_eq_getD_getElem?] at hk
              have h8 := hc k u hu hk j hj
              by_cases q2 : j = i
              · subst q2
                rw [Array.getD_eq_getD_getElem?, Array.getElem?_setIfInBounds, if_pos rfl, if_pos (by omega)]; rfl
              · rw [Array.getD_eq_getD_getElem?, Array.getElem?_setIfInBounds_ne (by omega), ← Array.getD_eq_getD_getElem?]; exact h8
        · cases e <;> first | exact absurd rfl he | exact h7
      · exact absurd h6 (noOut_then hq)
/-- An order-free region whose last operations are a chain that begins with a call of yield. -/
theorem g_draw_w {id : Nat} {pre post : List Oper} (Hs : List SProp) (k : EnvOk P E := by refine inferInstance) (p : Parts Hs H H' := by with_reducible (repeat (first | refine Parts.nil | (apply Parts.cons; repeat (first | refine Take.here | apply Take.there))))) (hg : goB pre post = true := by refine rfl) (hq : NoOut Q := by with_reducible (repeat (first | assumption | refine noOut_post | refine noOut_postM | refine noOut_round | refine noOut_begin | apply noOut_then | apply noOut_block | apply noOut_scope)))
    (h : A P n w0 F0 pre Hs (Array.replicate pre.length false) (Exit.then (fun a w => wpListIn (FR none) 0 P (pre ++ post).toArray Q post a w) Q) tm D H) : G P n w0 F0 (.region id (pre ++ post).toArray true) Q tm D H := .mk fun a w s => by
  refine wpIn_wide (n := 0).1 (wpIn_region_any k.mixed ?_)
  have h1 := h pre.length (by
    simp only [unl, Array.toList_replicate]
    exact Nat.le_trans (List.length_filter_le _ _) (by simp)) a { w with drawn := w.drawn + 1 } ⟨s.tm, s.defers, s.inv.drew _⟩ (s.inv.has p)
  have h2 := any_pre hq hg (listed := Array.replicate pre.length false ++ Array.replicate post.length false) (by simp) rfl (fun i o ho hi => by
    have hlt : i < pre.length := (List.getElem?_eq_some_iff.1 ho).1
    simp [hlt] at hi) h1
  rw [Array.replicate_append_replicate] at h2
  rw [show (pre ++ post).toArray.size = pre.length + post.length by simp]
  exact h2
/-- The region's list, cut in two. -/
def splitO : Nat → List Oper → Option (List Oper × List Oper)
  | 0, l => some ([], l)
  | _ + 1, [] => none
  | m + 1, o :: l => match splitO m l with
    | some (a, b) => some (o :: a, b)
    | none => none
theorem splitO_eq : ∀ {m : Nat} {l a b : List Oper}, splitO m l = some (a, b) → l = a ++ b
  | 0, l, a, b, h => by simp only [splitO, Option.some.injEq, Prod.mk.injEq] at h; obtain ⟨rfl, rfl⟩ := h; rfl
  | m + 1, [], a, b, h => by simp [splitO] at h
  | m + 1, o :: l, a, b, h => by
    simp only [splitO] at h
    split at h
    · rename_i a' b' he
      simp only [Option.some.injEq, Prod.mk.injEq] at h
      obtain ⟨rfl, rfl⟩ := h
      rw [splitO_eq he]; rfl
    · cases h
theorem g_draw_at {id : Nat} {l : List Oper} (m : Nat) {pre post : List Oper} (Hs : List SProp) (e : splitO m l = some (pre, post) := by refine rfl) (k : EnvOk P E := by refine inferInstance) (p : Parts Hs H H' := by with_reducible (repeat (first | refine Parts.nil | (apply Parts.cons; repeat (first | refine Take.here | apply Take.there))))) (hg : goB pre post = true := by refine rfl) (hq : NoOut Q := by with_reducible (repeat (first | assumption | refine noOut_post | refine noOut_postM | refine noOut_round | refine noOut_begin | apply noOut_then | apply noOut_block | apply noOut_scope)))
    (h : A P n w0 F0 pre Hs (Array.replicate pre.length false) (Exit.then (fun a w => wpListIn (FR none) 0 P l.toArray Q post a w) Q) tm D H) : G P n w0 F0 (.region id l.toArray true) Q tm D H := by
  obtain rfl := splitO_eq e
  exact g_draw_w Hs k p hg hq h
/-! ### The first one that may come up and is no call of a function -/
def isCallF : Op → Bool
  | .call ⟨.value _, _, _⟩ => true
  | _ => false
def nextRV : List Oper → Nat → Array Bool → Option Nat
  | [], _, _ => none
  | ⟨_, op, _, _, after, _⟩ :: l, i, listed => bif !listed.getD i true && rdyB after.toList listed && !isCallF op then some i else nextRV l (i + 1) listed
theorem a_w {ops : List Oper} {Hs : List SProp} {listed : Array Bool} {i d : Nat} {op : Op} {v : Value} (hc : Calm Q := by with_reducible (repeat (first | assumption | refine calm_post | refine calm_postM | refine calm_round | apply calm_then | apply calm_block | apply calm_scope))) (hs : noSel ops = true := by refine rfl) (hi : nextRV ops 0 listed = some i := by refine rfl) (ho : nth ops i = some ⟨some d, op, ty, pos, after, none⟩ := by refine rfl) (hd : Nat.blt d n = true := by refine rfl)
    (hy : V P n tm op v := by first | refine v_pure | refine v_index | refine v_shl | refine v_shr | refine v_rem | refine v_quo | refine v_indexAddr | refine v_slice | refine v_slice_str | refine v_slice_any | refine v_sliceData) (hf : freeL ops.toArray i ⟨some d, op, ty, pos, after, none⟩ listed ops 0 = true := by refine rfl) (hl : listed.getD i true = false := by refine rfl) (hr : rdyB after.toList listed = true := by refine rfl)
    {ll : List Bool} (hn : copyB (listed.setIfInBounds i true).toList = some ll := by refine rfl) (h : A P n w0 F0 ops Hs ll.toArray Q ((d, v) :: tm) D H) : A P n w0 F0 ops Hs listed Q tm D H :=
  a_y hc hs ho hd hf hl hr (fun _ _ => .inl ⟨rfl, hy⟩) (by rw [copyB_arr hn]; exact h)
end
end Go.Proofs.YtmfmommgooccnaaGreat.SL
/- The document's own pages: numbers, sums, pages, heads as bytes. What they are does not matter: how long they are does. -/
set_option maxRecDepth 20000
set_option linter.unusedVariables false
set_option linter.unusedSimpArgs false
namespace Go.Proofs.YtmfmommgooccnaaGreat
open Go.Proofs.YtmfmommgooccnaaGreat.SL
end Go.Proofs.YtmfmommgooccnaaGreat
/- The document's own disk and store: a new one, formatted. -/
set_option maxRecDepth 20000
set_option linter.unusedVariables false
set_option linter.unusedSimpArgs false
namespace Go.Proofs.YtmfmommgooccnaaGreat
open Go.Proofs.YtmfmommgooccnaaGreat.SL
end Go.Proofs.YtmfmommgooccnaaGreat
/- The framework, part 17: maps over whole numbers of any kind. -/
set_option linter.unusedVariables false
set_option linter.unusedSimpArgs false
namespace Go.Proofs.YtmfmommgooccnaaGreat.SL
section
variable {P : Program} {E : Env} {n : Nat} {w0 : World} {F0 : Nat → Prop} {Q : Exit → Act → World → Prop} {tm : List (Nat × Value)} {D : List Deferred} {H H' : List SProp} {ops rest : List Oper}
variable {ty : TypeId} {pos : String} {after : Array Edge}
/-- Block b is a map of whole numbers, in the order of their coming. -/
def mpk {α : Type} (kk : IntKind) (b : Nat) (enc : α → Value) (kv : List (Int × α)) : SProp where
  holds h F := (∃ es clock, h[b]? = some (.map es clock) ∧ es.toList.map (fun x => (x.key, x.val)) = kv.map (fun p => (Value.int kk p.1, enc p.2)) ∧ (∀ x ∈ es.toList, x.born < clock) ∧ (es.toList.map MapEntry.born).Nodup ∧ (kv.map Prod.fst).Nodup) ∧ ∀ x, F x ↔ x = b
  loc := fun ⟨⟨es, c, e, r⟩, f⟩ k => ⟨⟨es, c, by rw [k b ((f b).2 rfl)]; exact e, r⟩, f⟩
  bnd := fun ⟨⟨_, _, e, _⟩, f⟩ x hx => by rw [(f x).1 hx]; exact lt_of_some e

theorem same_int_k {kk : IntKind} (k : Int) (j : Int) : Instr.sameNow (.int kk) (.int kk k) (.int kk j) = some (k == j) := by simp [Instr.sameNow]

/-- What is found, and what becomes of it. -/
theorem find_spec_k {α : Type} {kk : IntKind} {enc : α → Value} (k : Int) : ∀ (es : List MapEntry) (kv : List (Int × α)) (i : Nat), es.map (fun x => (x.key, x.val)) = kv.map (fun p => (Value.int kk p.1, enc p.2)) →
    (kvGet kv k = none ∧ Instr.findNow (.int kk) (.int kk k) es i = some none ∧ (∀ x, kvPut kv k x = kv ++ [(k, x)]) ∧ kvDel kv k = kv ∧ k ∉ kv.map (·.1)) ∨
    ∃ j v e0, kvGet kv k = some v ∧ Instr.findNow (.int kk) (.int kk k) es i = some (some (i + j, enc v)) ∧ es[j]? = some e0 ∧ e0.key = .int kk k ∧
      (∀ x, (es.set j { e0 with val := enc x }).map (fun x => (x.key, x.val)) = (kvPut kv k x).map (fun p => (Value.int kk p.1, enc p.2))) ∧ (∀ x, (kvPut kv k x).map (·.1) = kv.map (·.1)) ∧
      (es.eraseIdx j).map (fun x => (x.key, x.val)) = (kvDel kv k).map (fun p => (Value.int kk p.1, enc p.2)) ∧ (kvDel kv k).Sublist kv
  | [], [], i, _ => .inl ⟨rfl, rfl, fun _ => rfl, rfl, by simp⟩
  | [], _ :: _, i, h => by simp at h
  | _ :: _, [], i, h => by simp at h
  | e :: es, (j, v) :: kv, i, h => by
    simp only [List.map_cons, List.cons.injEq, Prod.mk.injEq] at h
    obtain ⟨⟨h1, h2⟩, h3⟩ := h
    by_cases q : j = k
    · subst q
      refine .inr ⟨0, v, e, by simp [kvGet], by simp [Instr.findNow, h1, same_int_k, h2], rfl, h1, fun x => ?_, fun x => by simp [kvPut], ?_, ?_⟩
      · simp [kvPut, h1, h3]
      · simp [kvDel, h3]
      · simp [kvDel]
    · have q' : ¬ k = j := fun q2 => q q2.symm
      rcases find_spec_k k es kv (i + 1) h3 with ⟨g1, g2, g3, g4, g5⟩ | ⟨m, u, e0, g1, g2, g3, g4, g5, g6, g7, g8⟩
      · refine .inl ⟨by simp [kvGet, q, g1], by simp [Instr.findNow, h1, same_int_k, beq_eq_false_iff_ne.2 q', g2], fun x => by simp [kvPut, q, g3], by simp [kvDel, q, g4], ?_⟩
        simp only [List.map_cons, List.mem_cons, not_or]
        exact ⟨q', g5⟩
      · refine .inr ⟨m + 1, u, e0, by simp [kvGet, q, g1], ?_, by simpa using g3, g4, fun x => ?_, fun x => by simp [kvPut, q, g6], ?_, ?_⟩
        · simp [Instr.findNow, h1, same_int_k, beq_eq_false_iff_ne.2 q', g2]
          omega
        · simp [kvPut, q, h1, h2, g5]
        · simp [kvDel, q, h1, h2, g7]
        · simp [kvDel, q, g8]

theorem run_lookup_int_k {α : Type} {kk : IntKind} {t kt et : TypeId} {enc : α → Value} {kv : List (Int × α)} {i : Int} {z : α} {b sz by' : Nat} {es : Array MapEntry} {clock : Nat} {ok : Bool} {w : World} (k : EnvOk P E) (hw : w.heap[b]? = some (.map es clock))
    (he : es.toList.map (fun x => (x.key, x.val)) = kv.map (fun p => (Value.int kk p.1, enc p.2))) (ht : look E.ty t = some (.map kt et)) (hk : look E.ty kt = some (.int kk)) (hz : look E.inf et = some (enc z, sz, by')) :
    (Instr.lookup t (.map (some b)) (.int kk i) ok).run P w = .ok (if ok then .tuple #[enc ((kvGet kv i).getD z), .bool (kvGet kv i).isSome] else enc ((kvGet kv i).getD z)) w := by
  simp only [Instr.lookup, Sem.run_bind, run_underlying (k.under ht), Result.andThen, MapKept.run_getObj_map hw, Sem.run_pure, run_checkKey_int (k.under hk), Instr.findKey, run_underlying (k.under hk)]
  rcases find_spec_k (kk := kk) (enc := enc) i es.toList kv 0 he with ⟨g1, g2, _⟩ | ⟨j, v, e0, g1, g2, _⟩
  · simp only [g1, g2, Sem.run_pure, Sem.run_bind, run_zero k hz, Result.andThen, Option.getD_none, Option.isSome_none]
  · simp only [g1, g2, Sem.run_pure, Sem.run_bind, Result.andThen, Option.getD_some, Option.isSome_some]

/-- What a map has at a number. -/
theorem l_lookup_k {α : Type} {kk : IntKind} {d t kt et b sz by' : Nat} {x y : Operand} {enc : α → Value} {kv : List (Int × α)} {i : Int} (z : α) {zv : Value} (k : EnvOk P E := by refine inferInstance) (hd : Nat.blt d n = true := by refine rfl) (hx : ev tm x = some (.map (some b)) := by refine rfl) (hy : ev tm y = some (.int kk i) := by refine rfl)
    (ht : look E.ty t = some (.map kt et) := by refine rfl) (hk : look E.ty kt = some (.int kk) := by refine rfl) (hz : look E.inf et = some (zv, sz, by') := by refine rfl) (tk : Take (mpk kk b enc kv) H H' := by with_reducible (repeat (first | refine Take.here | apply Take.there))) (hze : zv = enc z := by refine rfl)
    (h : L P n w0 F0 ops.toArray rest Q ((d, enc ((kvGet kv i).getD z)) :: tm) D H) :
    L P n w0 F0 ops.toArray (⟨some d, .lookup t x y false, ty, pos, after, none⟩ :: rest) Q tm D H := by
  subst hze
  refine .mk fun a w s => ?_
  obtain ⟨⟨_, ⟨_, _, ⟨⟨es, clock, hw, he, _⟩, _⟩, _⟩, _⟩, _⟩ := s.inv.take tk
  refine wpList_value rfl (v := enc ((kvGet kv i).getD z)) (w' := w) ?_ (h _ _ (s.put hd _))
  simp only [execOp, ev_sound s.tm hx, ev_sound s.tm hy, Sem.run_bind, run_lookup_int_k k hw he ht hk hz, Result.andThen, Sem.run_pure, Bool.false_eq_true, if_false]
theorem l_lookup_ok_k {α : Type} {kk : IntKind} {d t kt et b sz by' : Nat} {x y : Operand} {enc : α → Value} {kv : List (Int × α)} {i : Int} (z : α) {zv : Value} (k : EnvOk P E := by refine inferInstance) (hd : Nat.blt d n = true := by refine rfl) (hx : ev tm x = some (.map (some b)) := by refine rfl) (hy : ev tm y = some (.int kk i) := by refine rfl)
    (ht : look E.ty t = some (.map kt et) := by refine rfl) (hk : look E.ty kt = some (.int kk) := by refine rfl) (hz : look E.inf et = some (zv, sz, by') := by refine rfl) (tk : Take (mpk kk b enc kv) H H' := by with_reducible (repeat (first | refine Take.here | apply Take.there))) (hze : zv = enc z := by refine rfl)
    (h : L P n w0 F0 ops.toArray rest Q ((d, .tuple #[enc ((kvGet kv i).getD z), .bool (kvGet kv i).isSome]) :: tm) D H) :
    L P n w0 F0 ops.toArray (⟨some d, .lookup t x y true, ty, pos, after, none⟩ :: rest) Q tm D H := by
  subst hze
  refine .mk fun a w s => ?_
  obtain ⟨⟨_, ⟨_, _, ⟨⟨es, clock, hw, he, _⟩, _⟩, _⟩, _⟩, _⟩ := s.inv.take tk
  refine wpList_value rfl (v := .tuple #[enc ((kvGet kv i).getD z), .bool (kvGet kv i).isSome]) (w' := w) ?_ (h _ _ (s.put hd _))
  simp only [execOp, ev_sound s.tm hx, ev_sound s.tm hy, Sem.run_bind, run_lookup_int_k k hw he ht hk hz, Result.andThen, Sem.run_pure, if_true]

theorem inv_mp_k {α : Type} {kk : IntKind} {enc : α → Value} {kv kv' : List (Int × α)} {b : Nat} {es' : Array MapEntry} {clock' : Nat} {w w' : World} (i : Inv w0 F0 (mpk kk b enc kv :: H) w) (hb : w'.heap[b]? = some (.map es' clock'))
    (h1 : es'.toList.map (fun x => (x.key, x.val)) = kv'.map (fun p => (Value.int kk p.1, enc p.2))) (h2 : ∀ x ∈ es'.toList, x.born < clock') (h3 : (es'.toList.map MapEntry.born).Nodup) (h4 : (kv'.map Prod.fst).Nodup)
    (hn : ∀ c, c ≠ b → w'.heap[c]? = w.heap[c]?) (hs : w'.heap.size = w.heap.size) (e1 : w'.os = w.os) (e2 : w'.tape = w.tape) (e3 : w'.output = w.output) : Inv w0 F0 (mpk kk b enc kv' :: H) w' :=
  i.set1 (fun ⟨_, f⟩ => f) ⟨⟨es', clock', hb, h1, h2, h3, h4⟩, fun _ => Iff.rfl⟩ hn hs e1 e2 e3

theorem l_mapUpdate_k {α : Type} {kk : IntKind} {t kt et b : Nat} {x y u : Operand} {enc : α → Value} {kv : List (Int × α)} {i : Int} {v : α} {vv : Value} (k : EnvOk P E := by refine inferInstance) (hx : ev tm x = some (.map (some b)) := by refine rfl) (hy : ev tm y = some (.int kk i) := by refine rfl) (hu : ev tm u = some vv := by refine rfl)
    (ht : look E.ty t = some (.map kt et) := by refine rfl) (hk : look E.ty kt = some (.int kk) := by refine rfl) (tk : Take (mpk kk b enc kv) H H' := by with_reducible (repeat (first | refine Take.here | apply Take.there))) (hv : vv = enc v := by refine rfl)
    (h : L P n w0 F0 ops.toArray rest Q tm D (mpk kk b enc (kvPut kv i v) :: H')) :
    L P n w0 F0 ops.toArray (⟨none, .mapUpdate t x y u, ty, pos, after, none⟩ :: rest) Q tm D H := by
  subst hv
  refine .mk fun a w s => ?_
  have hi := s.inv.take tk
  obtain ⟨⟨_, ⟨_, _, ⟨⟨es, clock, hw, he, h2, h3, h4⟩, _⟩, _⟩, _⟩, _⟩ := id hi
  have hbl := lt_of_some hw
  have hset : ∀ o, ((setObj b o).run P w) = .ok () { w with heap := w.heap.setIfInBounds b o } := fun o => MapKept.run_setObj_map o hw
  have main : ∃ w', (Instr.mapUpdate t (.map (some b)) (.int kk i) (enc v)).run P w = .ok () w' ∧ Inv w0 F0 (mpk kk b enc (kvPut kv i v) :: H') w' := by
    simp only [Instr.mapUpdate, Sem.run_bind, run_underlying (k.under ht), Result.andThen, MapKept.run_getObj_map hw, Sem.run_pure, run_checkKey_int (k.under hk), Instr.findKey, run_underlying (k.under hk)]
    rcases find_spec_k (kk := kk) (enc := enc) i es.toList kv 0 he with ⟨g1, g2, g3, g4, g5⟩ | ⟨j, u, e0, g1, g2, g3, g4, g5, g6, g7⟩
    · simp only [g2, Sem.run_pure, Result.andThen, hset]
      refine ⟨_, rfl, inv_mp_k hi (es' := es.push { key := .int kk i, val := enc v, born := clock }) (clock' := clock + 1) (by simp [hbl]) ?_ ?_ ?_ ?_ ?_ (by simp) rfl rfl rfl⟩
      · simp [g3, he]
      · intro x hx
        simp only [Array.toList_push, List.mem_append, List.mem_singleton] at hx
        rcases hx with hx | rfl
        · exact Nat.lt_succ_of_lt (h2 x hx)
        · exact Nat.lt_succ_self _
      · simp only [Array.toList_push, List.map_append, List.map_cons, List.map_nil]
        refine List.nodup_append.2 ⟨h3, by simp, ?_⟩
        intro x hx y hy
        simp only [List.mem_singleton] at hy
        subst hy
        obtain ⟨e, he', rfl⟩ := List.mem_map.1 hx
        exact Nat.ne_of_lt (h2 e he')
      · rw [g3, List.map_append]
        refine List.nodup_append.2 ⟨h4, by simp, ?_⟩
        intro x hx y hy
        simp only [List.map_cons, List.map_nil, List.mem_singleton] at hy
        subst hy
        exact fun q => g5 (by rw [← q]; exact hx)
      · intro c hc
        simp [Array.getElem?_setIfInBounds, hc.symm]
    · have hj : es[j]? = some e0 := by rw [← Array.getElem?_toList]; exact g3
      have hjl : j < es.toList.length := (List.getElem?_eq_some_iff.1 g3).1
      simp only [g2, Nat.zero_add, Sem.run_pure, hj, Option.map_some, Option.getD_some, g4, Sem.run_bind, MapKept.run_keyThatStays (d := .int kk) (k := .int kk i) (by first | rfl | (cases kk <;> rfl) | simp [MapKept.IsKey]), Result.andThen, hset]
      have em : (es.modify j fun e => { key := Value.int kk i, val := enc v, born := e.born }).toList = es.toList.set j { e0 with val := enc v } := by
        rw [Array.toList_modify]
        apply List.ext_getElem?
        intro q
        rw [List.getElem?_modify, List.getElem?_set]
        by_cases hq : j = q
        · subst hq
          simp only [if_true, hjl, g3, Option.map_some, g4]
          cases e0; simp only at g4; subst g4; rfl
        · simp [hq]
      refine ⟨_, rfl, inv_mp_k hi (es' := es.modify j fun e => { key := Value.int kk i, val := enc v, born := e.born }) (clock' := clock) (by simp [hbl]) ?_ ?_ ?_ ?_ ?_ (by simp) rfl rfl rfl⟩
      · rw [em]; exact g5 v
      · intro x hx
        rw [em] at hx
        rcases List.mem_or_eq_of_mem_set hx with hx | rfl
        · exact h2 x hx
        · exact h2 e0 (List.mem_of_getElem? g3)
      · rw [em, List.map_set]
        have : (es.toList.map MapEntry.born).set j e0.born = es.toList.map MapEntry.born := by
          apply List.ext_getElem?
          intro q
          rw [List.getElem?_set]
          by_cases hq : j = q
          · subst hq
            rw [if_pos rfl, if_pos (by simpa using hjl), List.getElem?_map, g3]; rfl
          · simp [hq]
        simp only [this]; exact h3
      · have := g6 v
        rw [show (kvPut kv i v).map Prod.fst = kv.map Prod.fst from this]; exact h4
      · intro c hc
        simp [Array.getElem?_setIfInBounds, hc.symm]
  obtain ⟨w', hr, hi'⟩ := main
  refine wpList_unit rfl (w' := w') ?_ (h _ _ ⟨s.tm, s.defers, hi'⟩)
  simp only [execOp, ev_sound s.tm hx, ev_sound s.tm hy, ev_sound s.tm hu, Sem.run_bind, hr, Result.andThen, Sem.run_pure]

theorem l_delete_k {α : Type} {kk : IntKind} {d : Option Nat} {t kt et b ka : Nat} {x y : Operand} {enc : α → Value} {kv : List (Int × α)} {i : Int} (k : EnvOk P E) (hd : ∀ j, d = some j → Nat.blt j n = true) (hx : ev tm x = some (.map (some b))) (hy : ev tm y = some (.int kk i))
    (ht : look E.ty t = some (.map kt et)) (hk : look E.ty kt = some (.int kk)) (tk : Take (mpk kk b enc kv) H H')
    (h : L P n w0 F0 ops.toArray rest Q (match d with | some j => (j, .tuple #[]) :: tm | none => tm) D (mpk kk b enc (kvDel kv i) :: H')) :
    L P n w0 F0 ops.toArray (⟨d, .call { callee := .builtin .delete, args := #[x, y], argTypes := #[t, ka] }, ty, pos, after, none⟩ :: rest) Q tm D H := by
  refine .mk fun a w s => ?_
  have hi := s.inv.take tk
  obtain ⟨⟨_, ⟨_, _, ⟨⟨es, clock, hw, he, h2, h3, h4⟩, _⟩, _⟩, _⟩, _⟩ := id hi
  have hbl := lt_of_some hw
  have hset : ∀ o, ((setObj b o).run P w) = .ok () { w with heap := w.heap.setIfInBounds b o } := fun o => MapKept.run_setObj_map o hw
  have main : ∃ w', (Builtin.delete_ #[t, ka] ty #[.map (some b), .int kk i]).run P w = .ok (.tuple #[]) w' ∧ Inv w0 F0 (mpk kk b enc (kvDel kv i) :: H') w' := by
    simp only [Builtin.delete_, List.getElem?_toArray, List.getElem?_cons_zero, List.getElem?_cons_succ, Sem.run_bind, run_underlying (k.under ht), Result.andThen, MapKept.run_getObj_map hw, Sem.run_pure, run_checkKey_int (k.under hk), Instr.findKey, run_underlying (k.under hk)]
    rcases find_spec_k (kk := kk) (enc := enc) i es.toList kv 0 he with ⟨g1, g2, g3, g4, g5⟩ | ⟨j, u, e0, g1, g2, g3, g4, g5, g6, g7, g8⟩
    · simp only [g2, Sem.run_pure, Sem.run_bind, Result.andThen, hset]
      exact ⟨_, rfl, inv_mp_k hi (es' := es) (clock' := clock) (by simp [hbl]) (by rw [g4]; exact he) h2 h3 (by rw [g4]; exact h4) (fun c hc => by simp [Array.getElem?_setIfInBounds, hc.symm]) (by simp) rfl rfl rfl⟩
    · simp only [g2, Nat.zero_add, Sem.run_pure, Sem.run_bind, Result.andThen, hset]
      have em : (es.eraseIdxIfInBounds j).toList = es.toList.eraseIdx j := by
        have hj : j < es.size := by have := (List.getElem?_eq_some_iff.1 g3).1; simpa using this
        simp [Array.eraseIdxIfInBounds, hj]
      refine ⟨_, rfl, inv_mp_k hi (es' := es.eraseIdxIfInBounds j) (clock' := clock) (by simp [hbl]) (by rw [em]; exact g7) ?_ ?_ ?_ (fun c hc => by simp [Array.getElem?_setIfInBounds, hc.symm]) (by simp) rfl rfl rfl⟩
      · intro x hx
        rw [em] at hx
        exact h2 x ((List.eraseIdx_sublist _ _).mem hx)
      · rw [em]
        exact ((List.eraseIdx_sublist _ _).map _).nodup h3
      · exact (g8.map _).nodup h4
  obtain ⟨w', hr, hi'⟩ := main
  have hr2 : (execOp a.eval ⟨d, .call { callee := .builtin .delete, args := #[x, y], argTypes := #[t, ka] }, ty, pos, after, none⟩).run P w = .ok (.value (.tuple #[])) w' := by
    simp only [execOp, resolve, invoke, builtin, Sem.run_bind, Sem.run_pure, Result.andThen_ok, List.map_toArray, List.map_cons, List.map_nil, ev_sound s.tm hx, ev_sound s.tm hy, hr]
  refine wpList_value rfl (v := .tuple #[]) (w' := w') hr2 (h _ _ ?_)
  cases d with
  | none => exact ⟨s.tm, s.defers, hi'⟩
  | some j => exact ⟨s.tm.put (hd j rfl) _, s.defers, hi'⟩

theorem l_len_map_k {α : Type} {kk : IntKind} {d t kt et b : Nat} {x : Operand} {enc : α → Value} {kv : List (Int × α)} (k : EnvOk P E := by refine inferInstance) (hd : Nat.blt d n = true := by refine rfl) (hx : ev tm x = some (.map (some b)) := by refine rfl) (ht : look E.ty t = some (.map kt et) := by refine rfl) (tk : Take (mpk kk b enc kv) H H' := by with_reducible (repeat (first | refine Take.here | apply Take.there)))
    (h : L P n w0 F0 ops.toArray rest Q ((d, .int .i64 (kv.length : Nat)) :: tm) D H) :
    L P n w0 F0 ops.toArray (⟨some d, .call { callee := .builtin .len, args := #[x], argTypes := #[t] }, ty, pos, after, none⟩ :: rest) Q tm D H := by
  refine .mk fun a w s => ?_
  obtain ⟨⟨_, ⟨_, _, ⟨⟨es, clock, hw, he, _⟩, _⟩, _⟩, _⟩, _⟩ := s.inv.take tk
  have hl : es.size = kv.length := by have := congrArg List.length he; simpa using this
  refine wpList_value rfl (v := .int .i64 (kv.length : Nat)) (w' := w) ?_ (h _ _ (s.put hd _))
  have hr : (Builtin.len_ #[t] ty #[.map (some b)]).run P w = .ok (.int .i64 (kv.length : Nat)) w := by
    simp only [Builtin.len_, List.getElem?_toArray, List.getElem?_cons_zero, Sem.run_bind, run_underlying (k.under ht), Result.andThen, MapKept.run_getObj_map hw, Sem.run_pure, goInt, hl]
  simp only [execOp, resolve, invoke, builtin, Sem.run_bind, Sem.run_pure, Result.andThen_ok, List.map_toArray, List.map_cons, List.map_nil, ev_sound s.tm hx, hr]
theorem l_delete0_k {α : Type} {kk : IntKind} {t kt et b ka : Nat} {x y : Operand} {enc : α → Value} {kv : List (Int × α)} {i : Int} (k : EnvOk P E := by refine inferInstance) (hx : ev tm x = some (.map (some b)) := by refine rfl) (hy : ev tm y = some (.int kk i) := by refine rfl)
    (ht : look E.ty t = some (.map kt et) := by refine rfl) (hk : look E.ty kt = some (.int kk) := by refine rfl) (tk : Take (mpk kk b enc kv) H H' := by with_reducible (repeat (first | refine Take.here | apply Take.there)))
    (h : L P n w0 F0 ops.toArray rest Q tm D (mpk kk b enc (kvDel kv i) :: H')) :
    L P n w0 F0 ops.toArray (⟨none, .call { callee := .builtin .delete, args := #[x, y], argTypes := #[t, ka] }, ty, pos, after, none⟩ :: rest) Q tm D H :=
  l_delete_k k (d := none) (fun _ q => nomatch q) hx hy ht hk tk h

end
end Go.Proofs.YtmfmommgooccnaaGreat.SL
/- The laws' helpers of chapter 11: keys, values, worlds, examples. -/
set_option maxRecDepth 20000
set_option linter.unusedVariables false
set_option linter.unusedSimpArgs false
namespace Go.Proofs.YtmfmommgooccnaaGreat
open Go.Proofs.YtmfmommgooccnaaGreat.SL

theorem new_is {i : Int} {n : Nat} (e : i = n) (hn : 8 ≤ n ∧ n ≤ 640) : Does Tryz.prog 53 [.int .i64 i] [] (fun v H => ∃ b, v = .tuple #[.pointer (some ⟨b, 0, none⟩), .int .i64 0] ∧ H = [Disk b (Dk.new n)]) := by
  subst e; exact New_does n hn
theorem format_is {D E : Dk} {db : Nat} {e : Int} {q : Hd} (h : format D = (some q, e, E)) : Does Tryz.prog 54 [.pointer (some ⟨db, 0, none⟩)] [Disk db D] (fun v H => ∃ b, v = .tuple #[.pointer (some ⟨b, 0, none⟩), .int .i64 e] ∧ H = [Store b db q.over, Disk db E]) := by
  have := Format_does db D; rw [h] at this; exact this
end Go.Proofs.YtmfmommgooccnaaGreat
/- How many pages a tree has; what the laws keep of a world. No code. -/
set_option maxRecDepth 20000
set_option linter.unusedVariables false
set_option linter.unusedSimpArgs false
namespace Go.Proofs.YtmfmommgooccnaaGreat
open Go.Proofs.YtmfmommgooccnaaGreat.SL

theorem OnP.few {g : Int → Nd → Prop} : ∀ {h : Nat} {k : Int} {s : Sub}, OnP g h k s → s.ps.length + 1 ≤ 2 * s.es.length
  | 0, k, s, ⟨d', ps', a1, a2, a3, ⟨b1, b2, b3, b4⟩, a5⟩ => by
    have h1 := a2.some b1
    have h2 := valsLen b2 b1
    rw [a5, b4, b3]
    simp only [Nd.ents, List.length_zip, h2, List.length_cons, List.length_nil]
    omega
  | h + 1, k, s, ⟨d', ps', a1, a2, a3, ⟨b1, b2, ss, f, e, e2, sp⟩, a5⟩ => by
    have key : ∀ {ks : List Int} {ss : List Sub}, All2 (OnP g h) ks ss → (Sub.pages ss).length + ss.length ≤ 2 * (Sub.all ss).length := by
      intro ks
      induction ks with
      | nil =>
        intro ss q
        cases ss with
        | nil => simp [Sub.pages, Sub.all]
        | cons _ _ => exact q.elim
      | cons k ks ih =>
        intro ss q
        cases ss with
        | nil => exact q.elim
        | cons s ss =>
          have h1 := OnP.few q.1
          have h2 := ih q.2
          rw [Sub.pages_cons, Sub.all_cons]
          simp only [List.length_append, List.length_cons]
          omega
    have h1 := key f
    have h2 := sp.len
    have h3 : 0 < d'.keys.length := List.length_pos_iff.2 (a3 b1)
    rw [a5, e, e2]
    simp only [List.length_cons]
    omega
theorem IsTree.few {N : Nat} {S : Sh} {D : Dk} {U : List Int} {r : Int} {T : List Ent} (h : IsTree N S D U r T) : (S.after U).length ≤ 2 * T.length := by
  rcases h with ⟨_, rfl, e⟩ | ⟨h, ps, o, p⟩
  · rw [e]; simp
  · have := o.few
    rw [← p.length_eq]
    dsimp only at this
    omega
theorem Fine.fresh_le {N : Nat} {S : Sh} {D : Dk} {U : List Int} (k : Fine N S D U) : S.fresh.length ≤ (S.after U).length := by
  refine nodup_sub k.f.1 fun a ha => Sh.mem_after.2 ⟨.inr ha, fun hg => (k.f.2 a ha).2.2 (k.v.2 a hg)⟩
theorem putE_len (es : List Ent) (x : Nat) (v : List UInt8) (o : Ord es) : (putE es x v).length ≤ es.length + 1 := by
  unfold putE
  have h1 : ∀ (es : List Ent), (es.filter (fun e => decide (e.1 < x))).length + (es.filter (fun e => decide (x < e.1))).length ≤ es.length := by
    intro es
    induction es with
    | nil => simp
    | cons e es ih =>
      simp only [List.filter_cons]
      by_cases a : e.1 < x
      · have b : ¬ x < e.1 := by omega
        simp [a, b]; omega
      · by_cases b : x < e.1
        · simp [a, b]; omega
        · simp [a, b]; omega
  rw [List.length_append, List.length_cons]
  exact Nat.succ_le_succ (h1 es)
/-- A tree, as the laws keep it: on a disk of N sectors, of at most m keys. -/
structure Tr (N : Nat) (S : Sh) (D : Dk) (U : List Int) (root : Int) (T : List Ent) (m : Nat) : Prop where
  fine : Fine N S D U
  tree : IsTree N S D U root T
  len : T.length ≤ m
theorem Tr.put {N : Nat} {S : Sh} {D : Dk} {U : List Int} {root : Int} {T : List Ent} {m : Nat} (k : Tr N S D U root T m) (sb db x : Nat) (v : List UInt8) (hx : x < 18446744073709551616) (hv : v.length ≤ 40) (room : U.length + 2 * m + 25 < N) :
    Does Tryz.prog 65 [.pointer (some ⟨sb, 0, none⟩), .int .i64 root, .int .u64 x, .string (str v)] [Store sb db S, Disk db D]
      (fun u H => ∃ r S' D', u = .tuple #[.int .i64 r, .int .i64 0] ∧ H = [Store sb db S', Disk db D'] ∧ Tr N S' D' U r (putE T x v) (m + 1) ∧ S'.gen = S.gen ∧ Same U S D S' D') := by
  have h1 := k.tree.few
  have h2 := k.fine.fresh_le
  have h3 := k.len
  refine (put_tree sb db x N v root U T S D k.fine k.tree hx hv (by omega)).mono ?_
  rintro u H ⟨r, S', D', rfl, rfl, a, b, c, d⟩
  exact ⟨r, S', D', rfl, rfl, ⟨b, a, by have := putE_len T x v k.tree.ord; omega⟩, c, d⟩
theorem Tr.get {N : Nat} {S : Sh} {D : Dk} {U : List Int} {root : Int} {T : List Ent} {m : Nat} (k : Tr N S D U root T m) (sb db x : Nat) :
    Does Tryz.prog 69 [.pointer (some ⟨sb, 0, none⟩), .int .i64 root, .int .u64 x] [Store sb db S, Disk db D] (fun v H => v = getV (getE T x) ∧ H = [Store sb db S, Disk db D]) := get_tree sb db x N root U T S D k.fine k.tree
/-- A world at its beginning. -/
theorem tr_new {N : Nat} (hN : 8 ≤ N ∧ N ≤ 640) : ∃ E1, format (Dk.new N) = (some headNew, 0, E1) ∧ Tr N headNew.over E1 [] 0 [] 0 := by
  obtain ⟨E1, f1, k1, p1⟩ := format_of hN (Dk.new_lives N) (by rw [Dk.new_pg (by omega)]; simp)
  exact ⟨E1, f1, k1, .inl ⟨rfl, rfl, by simp [Sh.after, Hd.over]⟩, Nat.le_refl _⟩

/-! ### Maps over keys -/
theorem wf_i64 {a : Int} (h : (Lit.int .i64 a).wf = true) : -9223372036854775808 ≤ a ∧ a < 9223372036854775808 := by
  simp [Lit.wf, IntKind.min, IntKind.max, IntKind.bits, IntKind.signed] at h
  omega
end Go.Proofs.YtmfmommgooccnaaGreat

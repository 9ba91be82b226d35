/- Texts CpR, RowL, RowS, RowT, joined. -/
import Derived.SliceStrings
import Derived.ChangeSlices
import Derived.Carry
import Derived.Deep.Slices
import Derived.Deep.Fields
import Derived.Test.YtelfjhemnnbbpaaGreatK12
set_option linter.unusedVariables false
set_option linter.unusedSimpArgs false
set_option maxRecDepth 20000
namespace Go.Proofs.YtelfjhemnnbbpaaGreat
open Go.Proofs.YtelfjhemnnbbpaaGreat.SL
section
variable (t sb db : Nat) (s : CS)
theorem nErr_does : Does Tryz.prog 25 [.pointer (some ⟨t, 0, none⟩)] [Ct (TxP.new t sb db 640) s] (fun v H => v = .int .i64 0 ∧ H = [Ct (TxP.new t sb db 640) s]) := ct_same fun T k => tErr_does (TxP.new t sb db 640) T
theorem nGetNo_does (n : Nat) (hc : s.capAt n = none) : Does Tryz.prog 17 [.pointer (some ⟨t, 0, none⟩), .int .i64 n] [Ct (TxP.new t sb db 640) s] (fun v H => v = .tuple #[.agg cpZ, .int .i64 3] ∧ H = [Ct (TxP.new t sb db 640) s]) := ct_same fun T k => getCapNone_does (TxP.new t sb db 640) s T n k hc
theorem nOwner_does (n : Nat) (o : Ow) (ho : s.owAt n = some o) : Does Tryz.prog 13 [.pointer (some ⟨t, 0, none⟩), .int .i64 n] [Ct (TxP.new t sb db 640) s] (fun v H => v = .tuple #[.agg (owA n o), .int .i64 0] ∧ H = [Ct (TxP.new t sb db 640) s]) := ct_same fun T k => ownerOf_does (TxP.new t sb db 640) T n o (k.ok.ow _ _ ho) (k.owner ho)
end
set_option maxHeartbeats 8000000 in
theorem CaptRights_does (p : Option Addr) (ks : List Stp) (cap : Nat) (o : Obj) (hk : ∀ u ∈ ks, u.ok) (hl : ks.length ≤ 9223372036854775807) :
  Does Tryz.prog 8 [.slice p ks.length cap] [ins p (ks.length * 6) (stC ks) o] (fun v H => v = .bool true ∧ H = [ins p (ks.length * 6) (stC ks) o]) := by
 refine does_of Tryz.func8 Tryz.ntmps8 rfl rfl rfl (fun w0 F0 => ?_)
 (repeat (first|refine g_seq (h:=?_)|refine g_region (h:=?_)|refine l_nil (h:=?_)|refine n_then (h:=?_)|refine l_pures1 (h:=?_)|(refine l_atc ?_; refine l_call (examples15_does) ?_)|(refine l_atc ?_; refine l_call_ (made15_does) ?_; rintro _ _ _ ⟨t, db, sb, rfl, rfl⟩ he; cases he)|refine g_skip (h:=?_)|refine g_cond_f (h:=?_)))
 have hgr := grown_does t sb db p ks cap o hk hl
 (repeat' (first|refine g_seq (h:=?_)|refine g_region (h:=?_)|refine l_nil (h:=?_)|refine n_then (h:=?_)|refine l_pures1 (h:=?_)|(refine l_atc ?_; refine l_call_ (hgr) ?_; rintro _ _ _ ⟨s, rfl, rfl, hf, hlen⟩ he; cases he)|refine g_block (h:=?_)))
 clear hgr
 (refine g_loop (fun k : Nat => [(6, .int .i64 (k + 1 : Nat)), (5, .int .i64 (s.cp.length : Nat)), (4, .pointer (some ⟨t, 0, none⟩)), (3, .bool true), (0, .slice p ks.length cap)]) (fun k => [Ct (TxP.new t sb db 640) s, ins p (ks.length * 6) (stC ks) o]) (fun k => k ≤ s.cp.length) (fun k => s.cp.length - k) (0) ?_ ?_ ?_ ?_; rotate_left; (repeat (first | refine ts_nil | (refine ts_cons rfl ?_ ?_; first | (with_reducible rfl) | rotate_left))); (first | (intro _ i; with_reducible refine i) | rotate_left); rotate_left; (try omega); rotate_right)
 ·intro k hkl
  by_cases hkn : k < s.cp.length
  ·cases hc : s.capAt (k + 1) with
   | none =>
    have hg := nGetNo_does t sb db s (k + 1) hc
    (repeat' (first|refine g_seq (h:=?_)|refine g_region (h:=?_)|refine l_nil (h:=?_)|refine n_then (h:=?_)|refine l_pures1 (h:=?_)|(refine l_atc ?_; refine l_call (hg) ?_)|refine l_guard_no (h:=?_)|refine l_store (h:=?_)|(refine l_alloc (h:=?_); intro _)|refine g_skip (h:=?_)|refine g_block (h:=?_)|refine g_exit (h:=?_)|refine n_then_exit (h:=?_)|refine n_block_hit (h:=?_)|refine g_cond_t (h:=?_)|(refine g_spT (h:=?_); intro h)))
    (refine n_back (k + 1) ?_ ?_ ?_ ?_; rotate_left; rotate_left; (repeat (first | refine ts_nil | (refine ts_cons rfl ?_ ?_; first | (with_reducible rfl) | rotate_left))); (first | (intro _ i; with_reducible refine i) | rotate_left); (try omega); (try omega))
    all_goals first
     | omega
     | (dsimp only; omega)
     | (rw [wrapI64 (by omega)]; rfl)
     | (intro _ i; exact inv_keep parts_of i)
     | rfl
   | some c =>
    have hg := nGet_does t sb db s (k + 1) c hc
    by_cases hp0 : c.parent = 0
    ·skip
     (repeat' (first|refine g_seq (h:=?_)|refine g_region (h:=?_)|refine l_nil (h:=?_)|refine n_then (h:=?_)|refine l_pures1 (h:=?_)|(refine l_atc ?_; refine l_call (hg) ?_)|refine l_guard_yes (h:=?_)|refine l_load (h:=?_)|refine l_store (h:=?_)|(refine l_alloc (h:=?_); intro _)|refine g_skip (h:=?_)|refine g_block (h:=?_)|refine g_exit (h:=?_)|refine n_then_exit (h:=?_)|refine n_block_hit (h:=?_)|(refine g_spT (h:=?_); intro h)))
     (refine n_back (k + 1) ?_ ?_ ?_ ?_; rotate_left; rotate_left; (repeat (first | refine ts_nil | (refine ts_cons rfl ?_ ?_; first | (with_reducible rfl) | rotate_left))); (first | (intro _ i; with_reducible refine i) | rotate_left); (try omega); (try omega))
     all_goals first
      | omega
      | (dsimp only; omega)
      | (rw [wrapI64 (by omega)]; rfl)
      | (intro _ i; exact inv_keep parts_of i)
      | rfl
    ·obtain ⟨q, hq, hdep⟩ := hf.ok.par _ c hc hp0
     obtain ⟨hsub, hobj⟩ := hf.rts _ c q hc hq
     have hg2 := nGet_does t sb db s c.parent q hq
     have hx := nEnds_does t sb db s (k + 1) c hc
     have hy := nEnds_does t sb db s c.parent q hq
     have hxe : endsL (s.up 9 (k + 1)) = lmin c.expiry (endsL (s.up 9 c.parent)) := by
      rw [up_step hf.ok hc, endsL_cons, if_neg hp0]
     rw [hxe] at hx
     obtain ⟨y, hye⟩ : ∃ y, y = endsL (s.up 9 c.parent) := ⟨_, rfl⟩
     rw [← hye] at hx hy
     have hxy : y = 0 ∨ (lmin c.expiry y ≠ 0 ∧ lmin c.expiry y ≤ y) := by
      unfold lmin
      repeat' split
      all_goals omega
     obtain ⟨x, hxx⟩ : ∃ x, x = lmin c.expiry y := ⟨_, rfl⟩
     rw [← hxx] at hx hxy
     have hsb := sub_does c.rights q.rights (hf.ok.cp _ c hc).rights (hf.ok.cp _ q hq).rights
     rw [hsub] at hsb
     have hqd := (hf.ok.cp _ q hq).depth
     have ewd : IntKind.i64.wrap ((q.depth : Int) + 1) = (c.depth : Int) := by rw [wrapI64 (by omega), hdep]; rfl
     clear hxe hye hxx hq hc hsub
     (repeat' (first|refine g_seq (h:=?_)|refine g_region (h:=?_)|refine l_nil (h:=?_)|refine n_then (h:=?_)|refine l_pures1 (h:=?_)|(refine l_atc ?_; refine l_call (hg) ?_)|(refine l_atc ?_; refine l_call (hg2) ?_)|(refine l_atc ?_; refine l_call (hx) ?_)|(refine l_atc ?_; refine l_call (hy) ?_)|(refine l_atc ?_; refine l_call (hsb) ?_)|refine l_guard_yes (h:=?_)|refine l_guard_no (h:=?_)|refine l_guard_un (h:=?_)|refine l_load (h:=?_)|refine l_store (h:=?_)|(refine l_alloc (h:=?_); intro _)|refine g_skip (h:=?_)|refine g_block (h:=?_)|refine n_block (h:=?_)|refine g_cond_f (h:=?_)|(refine l_spF (h:=?_); intro h)|(refine l_sp (h1 := ?_) (h0 := ?_) <;> intro h)|(refine g_spT (h:=?_); intro h)|(refine g_spF (h:=?_); intro h)))
     all_goals
      (refine n_back (k + 1) ?_ ?_ ?_ ?_; rotate_left; rotate_left; (repeat (first | refine ts_nil | (refine ts_cons rfl ?_ ?_; first | (with_reducible rfl) | rotate_left))); (first | (intro _ i; with_reducible refine i) | rotate_left); (try omega); (try omega))
     all_goals first
      | omega
      | (dsimp only; omega)
      | (rw [wrapI64 (by omega)]; rfl)
      | (intro _ i; exact inv_keep parts_of i)
      | rfl
  ·have hE := nErr_does t sb db s
   (repeat' (first|refine g_seq (h:=?_)|refine g_region (h:=?_)|refine l_nil (h:=?_)|refine n_then (h:=?_)|refine l_pures1 (h:=?_)|(refine l_atc ?_; refine l_call (hE) ?_)|refine l_guard_yes (h:=?_)|refine g_ret (h:=?_)|refine g_exit (h:=?_)|refine n_then_exit (h:=?_)|refine n_block_hit (h:=?_)|(refine g_spF (h:=?_); intro h)))
   refine r_retk [ins p (ks.length * 6) (stC ks) o] ?_
   exact ⟨rfl, rfl⟩
 all_goals first
  | exact Nat.zero_le _
  | rfl
  | (intro _ i; exact inv_keep parts_of i)
end Go.Proofs.YtelfjhemnnbbpaaGreat
namespace Go.Proofs.YtelfjhemnnbbpaaGreat.SL
open Go.RowKit Go.WideElems
def Keeps (A : SProp) (W : World) (F : Nat → Prop) : Prop := ∀ h' F', A.holds h' F' → ∀ b, F b → h'[b]? = W.heap[b]?
theorem row_ofA {P : Program} {f : FuncId} {args : List Value} {A : SProp} {W : World} {F : Nat → Prop} (d : Does P f args [A] (fun v H => v = .bool true ∧ H = [A])) (hx : Keeps A W F) (s : A.holds W.heap F) :
  Calls P f args.toArray W fun e W' => e = .returned (.bool true) ∧ Go.RowKit.Below W.heap.size W W' := by
 refine (d W F ⟨F, fun _ => False, s, fun _ h => h, fun _ _ h => h, fun b => ⟨.inl, fun o => o.elim id False.elim⟩⟩).mono ?_
 rintro e W' ⟨v, H', rfl, ⟨rfl, rfl⟩, i⟩
 obtain ⟨⟨G, ⟨F1, _, a, _⟩, _⟩, _⟩ := id i
 refine ⟨rfl, i.os, i.tape, i.output, i.size, fun k hk => ?_⟩
 by_cases q : F k
 ·exact hx _ _ a k q
 ·exact i.frame k hk q
theorem keeps_ins {p : Option Addr} {m : Nat} {xs : List Value} {o : Obj} {W : World} {F : Nat → Prop} (hm : 0 < m) (s : (ins p m xs o).holds W.heap F) : Keeps (ins p m xs o) W F := by
 rintro h' F' ⟨_, z'⟩ b hb
 obtain ⟨_, z⟩ := s
 rcases z with ⟨e, _⟩ | ⟨g, off, row, fr, T, q1, q2, _, h3, e, f⟩
 ·omega
 ·rcases z' with ⟨e', _⟩ | ⟨g', off', row', fr', T', q1', q2', _, _, e', f'⟩
  ·omega
  ·rw [q1] at q1'
   cases q1'
   rw [(f b).1 hb, e, e']
theorem cells_ins {W : World} {a : Addr} {m : Nat} {xs : List Value} (hl : xs.length = m) (h : ∀ i, i < m → W.cell? (a.add i) = xs[i]?) : ∃ o F, (ins (some a) m xs o).holds W.heap F ∧ Keeps (ins (some a) m xs o) W F ∧ (m = 0 → ∀ x, ¬ F x) := by
 by_cases hm : m = 0
 ·exact ⟨.map #[] 0, fun _ => False, ⟨hl, .inl ⟨hm, fun _ h => h⟩⟩, fun _ _ _ _ h => h.elim, fun _ _ h => h⟩
 ·obtain ⟨b, off, spot⟩ := a
  have h0 := h 0 (by omega)
  have hspot : spot = none := by
   rw [List.getElem?_eq_getElem (by omega)] at h0
   simpa [Addr.add] using World.cell?_spot h0
  subst hspot
  have h1 : ∀ i, i < m → W.cell? ⟨b, off + i, none⟩ = xs[i]? := fun i hi => by rw [← Go.WideShapes.add_plain]; exact h i hi
  have h2 := h1 0 (by omega)
  rw [List.getElem?_eq_getElem (by omega)] at h2
  obtain ⟨c, T, fr, hb⟩ : ∃ c T fr, W.heap[b]? = some (.cells c T fr) := by
   unfold World.cell? at h2
   split at h2
   ·rename_i hb; exact ⟨_, _, _, hb⟩
   ·cases h2
  have h3 : ∀ i, i < m → c[off + i]? = xs[i]? := fun i hi => by rw [← h1 i hi, cell_at hb]
  have hlen : off + m ≤ c.toList.length := by
   have := h3 (m - 1) (by omega)
   rw [List.getElem?_eq_getElem (by omega)] at this
   have := (Array.getElem?_eq_some_iff.1 this).1
   simp; omega
  have hs : (ins (some ⟨b, off, none⟩) m xs (.cells c T fr)).holds W.heap (fun x => x = b) := by
   refine ⟨hl, .inr ⟨b, off, c.toList, fr, T, rfl, by simp, ?_, hlen, hb, fun _ => Iff.rfl⟩⟩
   apply List.ext_getElem?
   intro i
   by_cases hi : i < m
   ·rw [List.getElem?_take_of_lt hi, List.getElem?_drop, Array.getElem?_toList, h3 i hi]
   ·rw [List.getElem?_eq_none (by simp; omega), List.getElem?_eq_none (by omega)]
  exact ⟨_, _, hs, keeps_ins (by omega) hs, fun q => absurd q hm⟩
theorem nil_ins {W : World} : (ins none 0 [] (.map #[] 0)).holds W.heap (fun _ => False) ∧ Keeps (ins none 0 [] (.map #[] 0)) W (fun _ => False) := ⟨⟨rfl, .inl ⟨rfl, fun _ h => h⟩⟩, fun _ _ _ _ h => h.elim⟩
end Go.Proofs.YtelfjhemnnbbpaaGreat.SL
namespace Go.Proofs.YtelfjhemnnbbpaaGreat
open Go.Proofs.YtelfjhemnnbbpaaGreat.SL Go.ChangeShapes
section
variable {H : Type} {enc : TypeId × Value → H} {P : Program} {W : World}
end
end Go.Proofs.YtelfjhemnnbbpaaGreat
namespace Go.Proofs.YtelfjhemnnbbpaaGreat
open Go.Proofs.YtelfjhemnnbbpaaGreat.SL Go.ChangeShapes Go.WideShapes Go.Deep
section
variable {H : Type} {enc : TypeId × Value → H} {P : Program} {W : World}
theorem cells_fields {t e : TypeId} {fs : Array Field} {fuel : Nat} {a0 : Option Addr} {len cap : Nat} {x : DataW H × List MemPlace} (ht : P.underlying t = some (.slice e)) (he : P.underlying e = some (.struct fs)) (hone : oneCellFields P fs = true) (hC : P.cellsOf e = fs.size)
  (h : DataW.trod enc P W 0 (fun _ => true) true fuel t [.slice a0 len cap] = some x) :
  (a0 = none ∧ len = 0 ∧ cap = 0) ∨ ∃ a, a0 = some a ∧ len ≤ cap ∧ cap ≤ maxLen ∧ ∀ i, i < len → ∃ n : Nat, ∀ (j : Nat) (f : Field), fs[j]? = some f → ∃ (v : Value) (y : DataW H × List MemPlace), W.cell? (a.add (i * fs.size + j)) = some v ∧ DataW.trod enc P W 0 (fun _ => true) true n f.type [v] = some y := by
 rcases open_slice ht h with ⟨h0, _⟩ | ⟨a, len', cap', m, n, D, Pl, hcs, hb, hl, hm, hmm, hx, hi⟩
 ·simp at h0
  exact .inl h0
 ·simp at hcs
  obtain ⟨rfl, rfl, rfl⟩ := hcs
  refine .inr ⟨a, rfl, hl, hm, fun i him => ?_⟩
  simp only [if_true] at hmm
  obtain ⟨cs', hc, ht'⟩ := hi i (by omega)
  rw [hC] at hc
  obtain ⟨ys, n', hn', hy, hlen, hyl, hf⟩ := DataW.trod_struct he ht'
  obtain ⟨_, hcl, hat⟩ := World.cells?_some hc
  refine ⟨n', fun j f hj => ?_⟩
  obtain ⟨ho, hk⟩ := hone_of hone j f hj
  have hjl : j < fs.size := (Array.getElem?_eq_some_iff.1 hj).1
  have hcell := hat j hjl
  have hv : cs'[j]? = some (cs'[j]'(by omega)) := List.getElem?_eq_getElem (by omega)
  have h1 := hf j f hj
  rw [ho, hk] at h1
  have h2 : (cs'.drop j).take 1 = [cs'[j]'(by omega)] := by
   rw [List.drop_eq_getElem_cons (by omega)]
   rfl
  rw [h2] at h1
  have hys : ys[j]? = some (ys[j]'(by omega)) := List.getElem?_eq_getElem (by omega)
  refine ⟨_, _, ?_, h1.trans hys⟩
  rw [← Go.Deep.add_add, hcell, hv]
theorem open_Ts {t e ti tb : TypeId} {fs : Array Field} (ht : P.underlying t = some (.slice e)) (he : P.underlying e = some (.struct fs)) (hone : oneCellFields P fs = true) (hC : P.cellsOf e = 6) (hts : fs.map (·.type) = #[ti, ti, ti, ti, ti, tb]) (hI : P.underlying ti = some (.int .i64)) (hB : P.underlying tb = some .bool) {v : Value} (hv : ∃ a0 len cap, v = .slice a0 len cap) {d : DataW H} {ps : List MemPlace} (h : DataW.Trod enc P W 0 (fun _ => true) true t v d ps) :
  ∃ (a0 : Option Addr) (cap : Nat) (st : List Stp) (o : Obj) (F : Nat → Prop), v = .slice a0 st.length cap ∧ (ins a0 (st.length * 6) (stC st) o).holds W.heap F ∧ Keeps (ins a0 (st.length * 6) (stC st) o) W F ∧ (st.length = 0 → ∀ x, ¬ F x) ∧ (∀ u ∈ st, u.ok) ∧ st.length ≤ 9223372036854775807 := by
 have hsz : fs.size = 6 := by
  have := congrArg Array.size hts
  simpa using this
 have hfj : ∀ j, j < 6 → ∃ f, fs[j]? = some f ∧ (#[ti, ti, ti, ti, ti, tb] : Array TypeId)[j]? = some f.type := fun j hj => by
  refine ⟨fs[j]'(by omega), Array.getElem?_eq_getElem (by omega), ?_⟩
  rw [← hts, Array.getElem?_map, Array.getElem?_eq_getElem (by omega)]; rfl
 obtain ⟨a0, len, cap, rfl⟩ := hv
 obtain ⟨fuel, hf⟩ := h
 rcases cells_fields ht he hone (hC.trans hsz.symm) hf with ⟨rfl, rfl, rfl⟩ | ⟨a, rfl, hle, hmax, hcell⟩
 ·exact ⟨none, 0, [], .map #[] 0, _, rfl, nil_ins.1, nil_ins.2, fun _ _ h => h, by simp, by simp⟩
 ·have each : ∀ i, ∃ u : Stp, i < len → u.ok ∧ ∀ j, j < 6 → W.cell? (a.add (i * 6 + j)) = (encT u)[j]? := fun i => by
   by_cases hi : i < len
   ·obtain ⟨n, hn⟩ := hcell i hi
    have int : ∀ j, j < 5 → ∃ z, W.cell? (a.add (i * 6 + j)) = some (.int .i64 z) ∧ inI z := fun j hj => by
     obtain ⟨f, h1, h2⟩ := hfj j (by omega)
     obtain ⟨v, y, h3, h4⟩ := hn j f h1
     have e : f.type = ti := by
      have hj5 : j = 0 ∨ j = 1 ∨ j = 2 ∨ j = 3 ∨ j = 4 := by omega
      rcases hj5 with rfl | rfl | rfl | rfl | rfl
      all_goals simpa using h2.symm
     rw [e] at h4
     obtain ⟨z, hz, _, hw⟩ := DataW.trod_int hI h4
     cases hz
     rw [hsz] at h3
     exact ⟨z, h3, wf_i64 hw⟩
    obtain ⟨z0, c0, w0⟩ := int 0 (by omega)
    obtain ⟨z1, c1, w1⟩ := int 1 (by omega)
    obtain ⟨z2, c2, w2⟩ := int 2 (by omega)
    obtain ⟨z3, c3, w3⟩ := int 3 (by omega)
    obtain ⟨z4, c4, w4⟩ := int 4 (by omega)
    obtain ⟨f, h1, h2⟩ := hfj 5 (by omega)
    obtain ⟨v, y, h3, h4⟩ := hn 5 f h1
    have e : f.type = tb := by simpa using h2.symm
    rw [e] at h4
    obtain ⟨b, hb, _⟩ := DataW.trod_bool hB h4
    cases hb
    rw [hsz] at h3
    refine ⟨⟨z0, z1, z2, z3, z4, b⟩, fun _ => ⟨⟨w0, w1, w2, w3, w4⟩, fun j hj => ?_⟩⟩
    have hj6 : j = 0 ∨ j = 1 ∨ j = 2 ∨ j = 3 ∨ j = 4 ∨ j = 5 := by omega
    rcases hj6 with rfl | rfl | rfl | rfl | rfl | rfl
    ·exact c0
    ·exact c1
    ·exact c2
    ·exact c3
    ·exact c4
    ·exact h3
   ·exact ⟨⟨0, 0, 0, 0, 0, false⟩, fun h => absurd h hi⟩
  obtain ⟨g, hg⟩ := Classical.axiomOfChoice each
  obtain ⟨st, hst⟩ : ∃ st, st = (List.range len).map g := ⟨_, rfl⟩
  have hl : st.length = len := by rw [hst]; simp
  have hget : ∀ i, i < len → st[i]? = some (g i) := fun i hi => by rw [hst]; simp [hi]
  obtain ⟨o, F, s1, s2, s3⟩ := cells_ins (W := W) (a := a) (m := st.length * 6) (xs := stC st) (stC_len st) (fun k hk => by
   have hi : k / 6 < len := by omega
   have hc := stC_cut (hget _ hi)
   have e : (stC st)[k]? = (encT (g (k / 6)))[k % 6]? := by
    rw [← hc, List.getElem?_take, if_pos (by omega), List.getElem?_drop]
    congr 1
    omega
   rw [e, ← (hg _ hi).2 (k % 6) (by omega)]
   congr 2
   omega)
  simp only [maxLen] at hmax
  refine ⟨some a, cap, st, o, F, by rw [hl], s1, s2, fun h => s3 (by rw [h]), fun u hu => ?_, by omega⟩
  rw [hst] at hu
  obtain ⟨i, hi, rfl⟩ := List.mem_map.1 hu
  exact (hg i (List.mem_range.1 hi)).1
end
end Go.Proofs.YtelfjhemnnbbpaaGreat

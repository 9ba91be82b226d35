/- Texts TxL, RowL, RowU, RowS, joined. -/
import Derived.SliceStrings
import Derived.ChangeSlices
import Derived.Carry
import Derived.Test.YtbdgnjlbmhnipaaGreatK11
/- Laws of chapter 12: examples, TxnLong. -/
set_option maxRecDepth 20000
set_option linter.unusedVariables false
set_option linter.unusedSimpArgs false
namespace Go.Proofs.YtbdgnjlbmhnipaaGreat
open Go.Proofs.YtbdgnjlbmhnipaaGreat.SL

theorem wf_u16 {a : Int} (h : (Lit.int .u16 a).wf = true) : 0 ≤ a ∧ a < 65536 := by
  simp [Lit.wf, IntKind.min, IntKind.max, IntKind.bits, IntKind.signed] at h
  omega
theorem examples12_does : Does Tryz.prog 22 [] [] (fun v H => v = .bool true ∧ H = []) := by
  have hm := made12_does (i := 20) (n := 20) rfl (by omega)
  obtain ⟨v5, hv5⟩ : ∃ v5 : List UInt8, v5 = [102, 105, 118, 101] := ⟨_, rfl⟩
  have hvl : v5.length = 4 := by rw [hv5]; rfl
  have hb : ∀ sb db, Does Tryz.prog 24 [.pointer (some ⟨sb, 0, none⟩)] [Sto (TxP.new 0 sb db 20)] (fun v H => ∃ t, v = .pointer (some ⟨t, 0, none⟩) ∧ H = [Tx (TxP.new t sb db 20) []]) := fun sb db => begin_does (TxP.new 0 sb db 20)
  have hp : ∀ t sb db, Does Tryz.prog 25 [.pointer (some ⟨t, 0, none⟩), .int .u64 5, .string { data := #[102, 105, 118, 101] }] [Tx (TxP.new t sb db 20) []] (fun u H => u = .bool true ∧ H = [Tx (TxP.new t sb db 20) [(5, v5)]]) := fun t sb db => by
    have := tPut0_does (TxP.new t sb db 20) 5 v5 (by omega) (by omega) (by show 0 + 2 < 20; omega)
    rw [hv5] at this ⊢
    exact this
  have hg : ∀ t sb db, Does Tryz.prog 27 [.pointer (some ⟨t, 0, none⟩), .int .u64 5] [Tx (TxP.new t sb db 20) [(5, v5)]] (fun v H => v = .tuple #[.string { data := #[102, 105, 118, 101] }, .bool true] ∧ H = [Tx (TxP.new t sb db 20) [(5, v5)]]) := fun t sb db => by
    have := tGet_does (TxP.new t sb db 20) [(5, v5)] 5
    rw [hv5] at this ⊢
    exact this
  have hc : ∀ t sb db, Does Tryz.prog 28 [.pointer (some ⟨t, 0, none⟩)] [Tx (TxP.new t sb db 20) [(5, v5)]] (fun v H => ∃ (U : List Int) (r : Int), v = .int .i64 0 ∧ H = [tx t sb r 0 true, Sto ((TxP.new t sb db 20).next U [(5, v5)])]) := fun t sb db => tCommit_does (TxP.new t sb db 20) [(5, v5)] (by show headNew.over.gen < _; decide)
  refine does_of Tryz.func22 Tryz.ntmps22 rfl rfl rfl (fun w0 F0 => ?_)
  (repeat (first | refine g_seq (h := ?_) | refine g_region (h := ?_) | refine l_nil (h := ?_) | refine n_then (h := ?_) | refine l_pures1 (h := ?_) | (refine l_atc ?_; refine l_call_ (hm) ?_; rintro _ _ _ ⟨db, sb, rfl, rfl⟩ he; cases he) | (refine l_atc ?_; refine l_call_ (hb _ _) ?_; rintro _ _ _ ⟨t, rfl, rfl⟩ he; cases he) | refine l_guard_yes (h := ?_) | refine g_skip (h := ?_) | refine g_cond_f (h := ?_)))
  (repeat (first | refine g_seq (h := ?_) | refine g_region (h := ?_) | refine l_nil (h := ?_) | refine n_then (h := ?_) | refine l_pures1 (h := ?_) | (refine l_atc ?_; refine l_call (hp t sb db) ?_) | (refine l_atc ?_; refine l_call (hg t sb db) ?_) | (refine l_at 28 ?_; refine l_call_ (hc t sb db) ?_; rintro _ _ _ ⟨U, r, rfl, rfl⟩ he; cases he)))
  have ho := oCommit_does t sb r 0
  have hov := oOver_does t sb r 0 true
  (repeat' (first | refine g_seq (h := ?_) | refine g_region (h := ?_) | refine l_nil (h := ?_) | refine n_then (h := ?_) | refine l_pures1 (h := ?_) | (refine l_atc ?_; refine l_call (ho) ?_) | (refine l_atc ?_; refine l_call (hov) ?_) | refine l_guard_yes (h := ?_) | refine g_ret (h := ?_)))
  refine r_retk [] ?_
  exact ⟨rfl, rfl⟩

set_option maxHeartbeats 4000000 in
theorem TxnLong_does (p : Option Addr) (ks : List Int) (cap : Nat) (o : Obj) (long : Int) (hk : ∀ z ∈ ks, (Lit.int .u16 z).wf = true) (hl : ks.length ≤ 9223372036854775807) (h1 : 0 ≤ long ∧ long < 256) :
    Does Tryz.prog 8 [.slice p ks.length cap, .int .u8 long] [ins p ks.length (ks.map (Value.int .u16)) o] (fun v H => v = .bool true ∧ H = [ins p ks.length (ks.map (Value.int .u16)) o]) := by
  have hm := made12_does (i := 100) (n := 100) rfl (by omega)
  have hb : ∀ sb db, Does Tryz.prog 24 [.pointer (some ⟨sb, 0, none⟩)] [Sto (TxP.new 0 sb db 100)] (fun v H => ∃ t, v = .pointer (some ⟨t, 0, none⟩) ∧ H = [Tx (TxP.new t sb db 100) []]) := fun sb db => begin_does (TxP.new 0 sb db 100)
  have ew : IntKind.i64.wrap long = long := wrapI64 (by omega)
  have ew2 : IntKind.i64.wrap (41 + long) = 41 + long := wrapI64 (by omega)
  refine does_of Tryz.func8 Tryz.ntmps8 rfl rfl rfl (fun w0 F0 => ?_)
  (repeat' (first | refine g_seq (h := ?_) | refine g_region (h := ?_) | refine l_nil (h := ?_) | refine n_then (h := ?_) | refine l_pures1 (h := ?_) | (refine l_atc ?_; refine l_call (examples12_does) ?_) | (refine l_atc ?_; refine l_call_ (hm) ?_; rintro _ _ _ ⟨db, sb, rfl, rfl⟩ he; cases he) | (refine l_atc ?_; refine l_call_ (hb _ _) ?_; rintro _ _ _ ⟨t, rfl, rfl⟩ he; cases he) | refine g_skip (h := ?_) | refine g_block (h := ?_) | refine g_cond_f (h := ?_)))
  (refine g_loop (fun y : Nat × List Ent => [(9, .int .i64 y.1), (8, .pointer (some ⟨t, 0, none⟩)), (5, .bool true), (0, .slice p ks.length cap), (1, .int .u8 long)]) (fun y => [Tx (TxP.new t sb db 100) y.2, ins p ks.length (ks.map (Value.int .u16)) o]) (fun y => Ord y.2 ∧ y.2.length ≤ y.1 ∧ y.1 ≤ ks.length ∧ y.1 ≤ 10) (fun y => ks.length - y.1) ((0, [])) ?_ ?_ ?_ ?_; rotate_left; (repeat (first | refine ts_nil | (refine ts_cons rfl ?_ ?_; first | (with_reducible rfl) | rotate_left))); (first | (intro _ i; with_reducible refine i) | rotate_left); rotate_left; (try omega); rotate_right)
  · rintro ⟨j, T⟩ ⟨ho, hT, hj, hj20⟩
    dsimp only at ho hT hj hj20 ⊢
    by_cases hjl : j < ks.length ∧ j < 10
    · refine g_open (o := ins_opens (p := p) (m := ks.length) (by omega)) (h := ?_); (rintro ⟨gb, off, row, fr, T0⟩ ⟨rfl, rfl, v5, v6, v7⟩; dsimp only [List.cons_append, List.nil_append])
      have hgt : row[off + j * 1]? = some (.int .u16 (ks.getD j 0)) := ins_get v5 hjl.1 (by rw [List.getElem?_map, List.getD, List.getElem?_eq_getElem hjl.1]; rfl)
      have hw := wf_u16 (hk _ (getD_mem hjl.1 (z := 0)))
      obtain ⟨x, hx⟩ : ∃ x : Nat, ks.getD j 0 = x := ⟨(ks.getD j 0).toNat, by omega⟩
      rw [hx] at hgt hw
      have ewx : IntKind.u64.wrap (x : Int) = x := wrapU64 (by omega)
      have room : (TxP.new t sb db 100).room T := by show 0 + 2 * T.length + 25 < 100; omega
      obtain ⟨T1, hT1⟩ : ∃ T1, T1 = putE T x [120] := ⟨_, rfl⟩
      have hput : Does Tryz.prog 25 [.pointer (some ⟨t, 0, none⟩), .int .u64 x, .string { data := #[120] }] [Tx (TxP.new t sb db 100) T] (fun u H => u = .bool true ∧ H = [Tx (TxP.new t sb db 100) T1]) := by
        rw [hT1]
        exact tPut_does (TxP.new t sb db 100) T x [120] (by omega) (by simp) room
      have hlong := tPutLong_does (TxP.new t sb db 100) T1 x (List.take (41 + long).toNat (List.drop 0 (List.replicate (41 + long).toNat 0))) (by simp; omega) (by simp; omega)
      have hlong : Does Tryz.prog 25 [.pointer (some ⟨t, 0, none⟩), .int .u64 x, .string (str (List.take (41 + long).toNat (List.drop 0 (List.replicate (41 + long).toNat 0))))] [Tx (TxP.new t sb db 100) T1] (fun u H => u = .bool false ∧ H = [Tx (TxP.new t sb db 100) T1]) := hlong
      have herr : Does Tryz.prog 26 [.pointer (some ⟨t, 0, none⟩)] [Tx (TxP.new t sb db 100) T1] (fun v H => v = .int .i64 0 ∧ H = [Tx (TxP.new t sb db 100) T1]) := tErr_does _ _
      have hget : Does Tryz.prog 27 [.pointer (some ⟨t, 0, none⟩), .int .u64 x] [Tx (TxP.new t sb db 100) T1] (fun v H => v = .tuple #[.string { data := #[120] }, .bool true] ∧ H = [Tx (TxP.new t sb db 100) T1]) := by
        have := tGet_does (TxP.new t sb db 100) T1 x
        rw [hT1, getE_put, if_pos rfl] at this
        rw [hT1]
        exact this
      (repeat' (first | refine g_seq (h := ?_) | refine g_region (h := ?_) | refine l_nil (h := ?_) | refine n_then (h := ?_) | refine l_pures1 (h := ?_) | refine l_guard_yes (h := ?_) | refine g_skip (h := ?_) | refine g_block (h := ?_) | (refine l_spT (h := ?_); intro h) | (refine g_spT (h := ?_); intro h)))
      (refine g_draw [pts gb (.cells row.toArray T0 fr)] (h := a_pass2 (h := ?_)))
      (repeat (first | refine l_nil (h := ?_) | refine l_load_p (h := ?_) | refine l_indexAddr (h := ?_) | refine a_one (h := ?_) | refine n_any (h := a_pass2 (h := ?_))))
      rw [ewx]
      (repeat (first | refine l_nil (h := ?_) | refine l_pures1 (h := ?_) | (refine l_atc ?_; refine l_call (hput) ?_) | refine l_guard_yes (h := ?_) | refine a_one (h := ?_) | refine n_any (h := a_pass2 (h := ?_)) | refine a_loadg_p (h := a_pass2 (h := ?_)) | refine a_vg (h := ?_)))
      rw [ewx, ew, ew2]
      (repeat (first | refine l_nil (h := ?_) | refine l_guard_yes (h := ?_) | (refine l_makeSlice (h := ?_); intro _) | refine a_one (h := ?_) | refine n_any (h := a_pass2 (h := ?_))))
      rw [bsV0]
      (repeat (first | refine g_seq (h := ?_) | refine g_region (h := ?_) | refine l_nil (h := ?_) | refine n_then (h := ?_) | refine l_pures1 (h := ?_) | (refine l_atc ?_; refine l_call (hlong) ?_) | (refine l_atc ?_; refine l_call (herr) ?_) | refine l_guard_yes (h := ?_) | refine l_load_p (h := ?_) | refine l_indexAddr (h := ?_) | refine l_str_bs (h := ?_) | refine g_skip (h := ?_) | refine a_done (h := ?_) | refine a_one (h := ?_) | refine n_any (h := a_pass2 (h := ?_)) | refine g_cond_f (h := ?_)))
      rw [ewx]
      (repeat' (first | refine g_seq (h := ?_) | refine g_region (h := ?_) | refine l_nil (h := ?_) | refine n_then (h := ?_) | refine l_pures1 (h := ?_) | (refine l_atc ?_; refine l_call (hget) ?_) | refine l_guard_yes (h := ?_) | refine g_skip (h := ?_) | refine n_block (h := ?_) | refine g_cond_f (h := ?_)))
      refine n_shut (ins_shuts v5 v6 v7) (h := ?_)
      (refine n_back ((j + 1, T1)) ?_ ?_ ?_ ?_; rotate_left; rotate_left; (repeat (first | refine ts_nil | (refine ts_cons rfl ?_ ?_; first | (with_reducible rfl) | rotate_left))); (first | (intro _ i; with_reducible refine i) | rotate_left); (try omega); (try omega))
      · refine ⟨by dsimp only; rw [hT1]; exact putE_ord ho, ?_, hjl.1, hjl.2⟩
        have := putE_len T x [120] ho
        rw [← hT1] at this
        dsimp only; omega
      all_goals first
        | (dsimp only; omega)
        | (rw [wrapI64 (by omega)]; rfl)
        | (intro _ i; exact inv_keep parts_of i)
        | rfl
    · (repeat' (first | refine g_seq (h := ?_) | refine g_region (h := ?_) | refine l_nil (h := ?_) | refine n_then (h := ?_) | refine l_pures1 (h := ?_) | refine l_guard_yes (h := ?_) | refine l_guard_no (h := ?_) | refine g_exit (h := ?_) | refine n_then_exit (h := ?_) | refine n_block_hit (h := ?_) | refine g_cond_f (h := ?_) | (refine l_sp (h1 := ?_) (h0 := ?_) <;> intro h) | (refine g_spF (h := ?_); intro h)))
      all_goals
        have hc : Does Tryz.prog 28 [.pointer (some ⟨t, 0, none⟩)] [Tx (TxP.new t sb db 100) T] (fun v H => ∃ (U : List Int) (r : Int), v = .int .i64 0 ∧ H = [tx t sb r 0 true, Sto ((TxP.new t sb db 100).next U T)]) := tCommit_does (TxP.new t sb db 100) T (by show headNew.over.gen < _; decide)
      all_goals
        (repeat' (first | refine l_nil (h := ?_) | refine n_then (h := ?_) | refine l_pures1 (h := ?_) | (refine l_atc ?_; refine l_call_ (hc) ?_; rintro _ _ _ ⟨U, r, rfl, rfl⟩ he; cases he) | refine l_guard_yes (h := ?_) | refine g_ret (h := ?_)))
      all_goals
        refine r_retk [ins p ks.length (ks.map (Value.int .u16)) o] ?_
      all_goals exact ⟨by simp [packV], rfl⟩
  all_goals first
    | exact ⟨List.Pairwise.nil, Nat.zero_le _, Nat.zero_le _, Nat.zero_le _⟩
    | rfl
    | (intro _ i; exact inv_keep parts_of i)
end Go.Proofs.YtbdgnjlbmhnipaaGreat
/- The framework, part 11: laws that take slices: what a row asks of them. -/
set_option linter.unusedVariables false
set_option linter.unusedSimpArgs false
namespace Go.Proofs.YtbdgnjlbmhnipaaGreat.SL
open Go.RowKit Go.WideElems

/-- Wherever A holds its blocks F are as in W. -/
def Keeps (A : SProp) (W : World) (F : Nat → Prop) : Prop := ∀ h' F', A.holds h' F' → ∀ b, F b → h'[b]? = W.heap[b]?
theorem row_ofA {P : Program} {f : FuncId} {args : List Value} {A : SProp} {W : World} {F : Nat → Prop} (d : Does P f args [A] (fun v H => v = .bool true ∧ H = [A])) (hx : Keeps A W F) (s : A.holds W.heap F) :
    Calls P f args.toArray W fun e W' => e = .returned (.bool true) ∧ Go.RowKit.Below W.heap.size W W' := by
  refine (d W F ⟨F, fun _ => False, s, fun _ h => h, fun _ _ h => h, fun b => ⟨.inl, fun o => o.elim id False.elim⟩⟩).mono ?_
  rintro e W' ⟨v, H', rfl, ⟨rfl, rfl⟩, i⟩
  obtain ⟨⟨G, ⟨F1, _, a, _⟩, _⟩, _⟩ := id i
  refine ⟨rfl, i.os, i.tape, i.output, i.size, fun k hk => ?_⟩
  by_cases q : F k
  · exact hx _ _ a k q
  · exact i.frame k hk q
theorem keeps_ins {p : Option Addr} {m : Nat} {xs : List Value} {o : Obj} {W : World} {F : Nat → Prop} (hm : 0 < m) (s : (ins p m xs o).holds W.heap F) : Keeps (ins p m xs o) W F := by
  rintro h' F' ⟨_, z'⟩ b hb
  obtain ⟨_, z⟩ := s
  rcases z with ⟨e, _⟩ | ⟨g, off, row, fr, T, q1, q2, _, h3, e, f⟩
  · omega
  · rcases z' with ⟨e', _⟩ | ⟨g', off', row', fr', T', q1', q2', _, _, e', f'⟩
    · omega
    · rw [q1] at q1'
      cases q1'
      rw [(f b).1 hb, e, e']

/-- Cells that are there are an input row. -/
theorem cells_ins {W : World} {a : Addr} {m : Nat} {xs : List Value} (hl : xs.length = m) (h : ∀ i, i < m → W.cell? (a.add i) = xs[i]?) : ∃ o F, (ins (some a) m xs o).holds W.heap F ∧ Keeps (ins (some a) m xs o) W F ∧ (m = 0 → ∀ x, ¬ F x) := by
  by_cases hm : m = 0
  · exact ⟨.map #[] 0, fun _ => False, ⟨hl, .inl ⟨hm, fun _ h => h⟩⟩, fun _ _ _ _ h => h.elim, fun _ _ h => h⟩
  · obtain ⟨b, off, spot⟩ := a
    have h0 := h 0 (by omega)
    have hspot : spot = none := by
      rw [List.getElem?_eq_getElem (by omega)] at h0
      simpa [Addr.add] using World.cell?_spot h0
    subst hspot
    have h1 : ∀ i, i < m → W.cell? ⟨b, off + i, none⟩ = xs[i]? := fun i hi => by rw [← Go.WideShapes.add_plain]; exact h i hi
    have h2 := h1 0 (by omega)
    rw [List.getElem?_eq_getElem (by omega)] at h2
    obtain ⟨c, T, fr, hb⟩ : ∃ c T fr, W.heap[b]? = some (.cells c T fr) := by
      unfold World.cell? at h2
      split at h2
      · rename_i hb; exact ⟨_, _, _, hb⟩
      · cases h2
    have h3 : ∀ i, i < m → c[off + i]? = xs[i]? := fun i hi => by rw [← h1 i hi, cell_at hb]
    have hlen : off + m ≤ c.toList.length := by
      have := h3 (m - 1) (by omega)
      rw [List.getElem?_eq_getElem (by omega)] at this
      have := (Array.getElem?_eq_some_iff.1 this).1
      simp; omega
    have hs : (ins (some ⟨b, off, none⟩) m xs (.cells c T fr)).holds W.heap (fun x => x = b) := by
     refine ⟨hl, .inr ⟨b, off, c.toList, fr, T, rfl, by simp, ?_, hlen, hb, fun _ => Iff.rfl⟩⟩
     apply List.ext_getElem?
     intro i
     by_cases hi : i < m
     · rw [List.getElem?_take_of_lt hi, List.getElem?_drop, Array.getElem?_toList, h3 i hi]
     · rw [List.getElem?_eq_none (by simp; omega), List.getElem?_eq_none (by omega)]
    exact ⟨_, _, hs, keeps_ins (by omega) hs, fun q => absurd q hm⟩
theorem nil_ins {W : World} : (ins none 0 [] (.map #[] 0)).holds W.heap (fun _ => False) ∧ Keeps (ins none 0 [] (.map #[] 0)) W (fun _ => False) := ⟨⟨rfl, .inl ⟨rfl, fun _ h => h⟩⟩, fun _ _ _ _ h => h.elim⟩

/-- Two input rows, in one block or in two: what holds them both, and each with what is left. -/
theorem ins_two {W : World} {p1 p2 : Option Addr} {m1 m2 : Nat} {xs ys : List Value} {o1 o2 : Obj} {F1 F2 : Nat → Prop} (s1 : (ins p1 m1 xs o1).holds W.heap F1) (k1 : Keeps (ins p1 m1 xs o1) W F1) (z1 : m1 = 0 → ∀ x, ¬ F1 x) (s2 : (ins p2 m2 ys o2).holds W.heap F2) (k2 : Keeps (ins p2 m2 ys o2) W F2) (z2 : m2 = 0 → ∀ x, ¬ F2 x) :
    ∃ (A R1 R2 : SProp) (F : Nat → Prop), A.holds W.heap F ∧ Keeps A W F ∧ Opens A (fun _ : Unit => True) (fun _ => [ins p1 m1 xs o1, R1]) ∧ Shuts [ins p1 m1 xs o1, R1] A ∧ Opens A (fun _ : Unit => True) (fun _ => [ins p2 m2 ys o2, R2]) ∧ Shuts [ins p2 m2 ys o2, R2] A := by
  by_cases hd : ∃ x, F1 x ∧ F2 x
  · obtain ⟨x, h1, h2⟩ := hd
    have key : ∀ {p p' : Option Addr} {m m' : Nat} {xs ys : List Value} {o o' : Obj} {G G' : Nat → Prop}, (ins p m xs o).holds W.heap G → (ins p' m' ys o').holds W.heap G' → G x → G' x → 0 < m → ∀ h F, (ins p m xs o).holds h F → (ins p' m' ys o').holds h F := by
      intro p p' m m' xs ys o o' G G' ⟨_, z⟩ ⟨l', z'⟩ hx hx' hm h F ⟨_, y⟩
      rcases z with ⟨_, f⟩ | ⟨g, off, row, fr, T, q1, q2, q3, q4, e, f⟩
      · exact absurd hx (f x)
      · rcases z' with ⟨_, f'⟩ | ⟨g', off', row', fr', T', q1', q2', q3', q4', e', f'⟩
        · exact absurd hx' (f' x)
        · obtain rfl := (f x).1 hx
          obtain rfl := (f' x).1 hx'
          rw [e] at e'
          cases e'
          rcases y with ⟨e0, _⟩ | ⟨g2, off2, row2, fr2, T2, y1, y2, y3, y4, y5, y6⟩
          · omega
          · rw [q1] at y1
            cases y1
            exact ⟨l', .inr ⟨_, off', row', fr', T', q1', q2', q3', q4', y5, y6⟩⟩
    have emp : ∀ {K : SProp} {h : Array Obj} {F : Nat → Prop}, K.holds h F ↔ sep [K, fact True] h F := by
      intro K h F
      refine ⟨fun a => ⟨F, fun _ => False, a, ⟨fun _ => False, fun _ => False, ⟨trivial, fun _ h => h⟩, fun _ h => h, fun _ _ h => h, fun b => ⟨.inl, fun o => o.elim id id⟩⟩, fun _ _ h => h, fun b => ⟨.inl, fun o => o.elim id False.elim⟩⟩, ?_⟩
      rintro ⟨G1, G2, a, ⟨G3, G4, ⟨_, e⟩, f, _, u2⟩, d, u⟩
      have : F = G1 := by
        funext b
        apply propext
        rw [u b, u2 b]
        exact ⟨fun o => o.elim id (fun o => o.elim (fun q => (e b q).elim) (fun q => (f b q).elim)), .inl⟩
      rw [this]; exact a
    have hm1 : 0 < m1 := Nat.pos_of_ne_zero fun q => z1 q x h1
    have hm2 : 0 < m2 := Nat.pos_of_ne_zero fun q => z2 q x h2
    exact ⟨ins p1 m1 xs o1, fact True, fact True, F1, s1, k1, fun h F a => ⟨(), trivial, emp.1 a⟩, fun h F a => emp.2 a,
      fun h F a => ⟨(), trivial, emp.1 (key s1 s2 h1 h2 hm1 h F a)⟩, fun h F a => key s2 s1 h2 h1 hm2 h F (emp.2 a)⟩
  · refine ⟨⟨fun h F => sep [ins p1 m1 xs o1, ins p2 m2 ys o2] h F, sep_loc, sep_bnd⟩, ins p2 m2 ys o2, ins p1 m1 xs o1, fun x => F1 x ∨ F2 x, ?_, ?_, fun h F a => ⟨(), trivial, a⟩, fun h F a => a, fun h F a => ⟨(), trivial, ?_⟩, fun h F a => ?_⟩
    · exact ⟨F1, F2, s1, ⟨F2, fun _ => False, s2, fun _ h => h, fun _ _ h => h, fun b => ⟨.inl, fun o => o.elim id False.elim⟩⟩, fun x a b => hd ⟨x, a, b⟩, fun _ => Iff.rfl⟩
    · rintro h' F' ⟨G1, G2, a, ⟨G3, G4, b, _⟩, _⟩ x hx
      exact hx.elim (k1 _ _ a x) (k2 _ _ b x)
    · exact (Parts.cons (Take.there Take.here) (Parts.cons Take.here Parts.nil)).sep a
    · exact (Parts.cons (Take.there Take.here) (Parts.cons Take.here Parts.nil)).sep a
end Go.Proofs.YtbdgnjlbmhnipaaGreat.SL
/- Rows over slices of whole numbers of any kind. -/
set_option linter.unusedVariables false
set_option linter.unusedSimpArgs false
namespace Go.Proofs.YtbdgnjlbmhnipaaGreat
open Go.Proofs.YtbdgnjlbmhnipaaGreat.SL Go.ChangeShapes

section
variable {H : Type} {enc : TypeId × Value → H} {P : Program} {W : World}
theorem open_Ks {t e : TypeId} {k : IntKind} (ht : P.underlying t = some (.slice e)) (he : P.underlying e = some (.int k)) (hc : P.cellsOf e = 1) {v : Value} (hv : ∃ a0 len cap, v = .slice a0 len cap) {d : DataW H} {ps : List MemPlace} (h : DataW.Trod enc P W 0 (fun _ => true) true t v d ps) :
    ∃ (a0 : Option Addr) (cap : Nat) (zs : List Int) (o : Obj) (F : Nat → Prop), v = .slice a0 zs.length cap ∧ (ins a0 zs.length (zs.map (Value.int k)) o).holds W.heap F ∧ Keeps (ins a0 zs.length (zs.map (Value.int k)) o) W F ∧ (zs.length = 0 → ∀ x, ¬ F x) ∧ (∀ z ∈ zs, (Lit.int k z).wf = true) ∧ zs.length ≤ 9223372036854775807 := by
  obtain ⟨a0, len, cap, rfl⟩ := hv
  obtain ⟨fuel, hf⟩ := h
  rcases open_ints ht he hc hf with ⟨hcs, _⟩ | ⟨a, len', cap', ss, hcs, _, hle, hmax, hlen, _, hcell, hw⟩
  · simp [Value.cells] at hcs
    obtain ⟨rfl, rfl, rfl⟩ := hcs
    exact ⟨none, 0, [], .map #[] 0, _, rfl, nil_ins.1, nil_ins.2, fun _ _ h => h, by simp, by simp⟩
  · simp [Value.cells] at hcs
    obtain ⟨rfl, rfl, rfl⟩ := hcs
    simp only [if_true] at hlen
    have hl : (ss.take len).length = len := by rw [List.length_take]; omega
    have hm' : ((ss.take len).map (Value.int k)).length = (ss.take len).length := by simp
    obtain ⟨o, F, s1, s2, s3⟩ := cells_ins (W := W) (a := a) hm' (fun i hi => by
      rw [hcell i (by omega), List.getElem?_map, List.getElem?_take_of_lt (by omega), List.getD, List.getElem?_eq_getElem (by omega)]; rfl)
    simp only [maxLen] at hmax
    exact ⟨some a, cap, ss.take len, o, F, by rw [hl], s1, s2, s3, fun z hz => hw z (List.mem_of_mem_take hz), by omega⟩
end
end Go.Proofs.YtbdgnjlbmhnipaaGreat
/- Rows over slices of strings and of whole numbers. -/
set_option linter.unusedVariables false
set_option linter.unusedSimpArgs false
namespace Go.Proofs.YtbdgnjlbmhnipaaGreat
open Go.Proofs.YtbdgnjlbmhnipaaGreat.SL Go.ChangeShapes

section
variable {H : Type} {enc : TypeId × Value → H} {P : Program} {W : World}
theorem open_Zs {t e : TypeId} (ht : P.underlying t = some (.slice e)) (he : P.underlying e = some (.int .i64)) (hc : P.cellsOf e = 1) {v : Value} (hv : ∃ a0 len cap, v = .slice a0 len cap) {d : DataW H} {ps : List MemPlace} (h : DataW.Trod enc P W 0 (fun _ => true) true t v d ps) :
    ∃ (a0 : Option Addr) (cap : Nat) (zs : List Int) (o : Obj) (F : Nat → Prop), v = .slice a0 zs.length cap ∧ (ins a0 zs.length (zs.map encZ') o).holds W.heap F ∧ Keeps (ins a0 zs.length (zs.map encZ') o) W F ∧ (zs.length = 0 → ∀ x, ¬ F x) ∧ (∀ z ∈ zs, (Lit.int .i64 z).wf = true) ∧ zs.length ≤ 9223372036854775807 := by
  obtain ⟨a0, len, cap, rfl⟩ := hv
  obtain ⟨fuel, hf⟩ := h
  rcases open_ints ht he hc hf with ⟨hcs, _⟩ | ⟨a, len', cap', ss, hcs, _, hle, hmax, hlen, _, hcell, hw⟩
  · simp [Value.cells] at hcs
    obtain ⟨rfl, rfl, rfl⟩ := hcs
    exact ⟨none, 0, [], .map #[] 0, _, rfl, nil_ins.1, nil_ins.2, fun _ _ h => h, by simp, by simp⟩
  · simp [Value.cells] at hcs
    obtain ⟨rfl, rfl, rfl⟩ := hcs
    simp only [if_true] at hlen
    have hl : (ss.take len).length = len := by rw [List.length_take]; omega
    have hm' : ((ss.take len).map encZ').length = (ss.take len).length := by simp
    obtain ⟨o, F, s1, s2, s3⟩ := cells_ins (W := W) (a := a) hm' (fun i hi => by
      rw [hcell i (by omega), List.getElem?_map, List.getElem?_take_of_lt (by omega), List.getD, List.getElem?_eq_getElem (by omega)]; rfl)
    simp only [maxLen] at hmax
    exact ⟨some a, cap, ss.take len, o, F, by rw [hl], s1, s2, s3, fun z hz => hw z (List.mem_of_mem_take hz), by omega⟩
end
end Go.Proofs.YtbdgnjlbmhnipaaGreat

/- Texts TxC, joined. -/
import Derived.Test.YtbdgnjlbmhnipaaGreatK10
/- Package txn: how a transaction begins and ends. -/
set_option maxRecDepth 20000
set_option linter.unusedVariables false
set_option linter.unusedSimpArgs false
namespace Go.Proofs.YtbdgnjlbmhnipaaGreat
open Go.Proofs.YtbdgnjlbmhnipaaGreat.SL

/-- A contract inside of what is hidden. -/
theorem does_hid {α : Type} {P : Program} {p : α → Prop} {K : α → List SProp} {f : FuncId} {args : List Value} {q : Value → Prop} (h : ∀ x, p x → Does P f args (K x) (fun v H => q v ∧ H = K x)) : Does P f args [hid p K] (fun v H => q v ∧ H = [hid p K]) := fun w F s => by
  obtain ⟨x, hx, i⟩ := Inv.opens (hid_opens (p := p) (K := K)) (Inv.start s)
  rw [List.append_nil] at i
  obtain ⟨⟨F', s', oo⟩, _⟩ := i
  refine (h x hx w F' s').mono ?_
  rintro e w' ⟨v, H1, e1, ⟨hq, rfl⟩, i⟩
  refine ⟨v, _, e1, ⟨hq, rfl⟩, Inv.shuts (K := K x) (hid_shuts x hx) ?_⟩
  rw [List.append_nil]
  exact i.less oo
/-- A store at rest: nothing is fresh, nothing given. -/
def StR (P : TxP) (y : Sh × Dk) : Prop := StI P y ∧ y.1.fresh = [] ∧ y.1.given = []
def StoK (P : TxP) (y : Sh × Dk) : List SProp := [Store P.sb P.db y.1, Disk P.db y.2]
def Sto (P : TxP) : SProp := hid (StR P) (StoK P)
theorem StI.roll {P : TxP} {S : Sh} {D : Dk} (k : StI P (S, D)) : StR P (S.roll, D) := ⟨⟨k.fine.roll, k.gen, k.old⟩, rfl, rfl⟩
/-- A transaction's place. -/
def TxP.at (P : TxP) (t : Nat) : TxP := ⟨t, P.sb, P.db, P.N, P.U, P.g, P.T0⟩

set_option maxHeartbeats 2000000 in
theorem begin_does (P : TxP) : Does Tryz.prog 24 [.pointer (some ⟨P.sb, 0, none⟩)] [Sto P] (fun v H => ∃ t, v = .pointer (some ⟨t, 0, none⟩) ∧ H = [Tx (P.at t) P.T0]) := by
  refine does_of Tryz.func24 Tryz.ntmps24 rfl rfl rfl (fun w0 F0 => ?_)
  refine g_open (A := Sto P) (h := ?_); (rintro ⟨S, D⟩ ⟨k, hf, hv⟩; dsimp only [StoK, List.cons_append, List.nil_append])
  have hrt : Does Tryz.prog 47 [.pointer (some ⟨P.sb, 0, none⟩)] [Store P.sb P.db S.roll] (fun v H => v = .int .i64 S.root ∧ H = [Store P.sb P.db S.roll]) := sRoot_does P.sb P.db S.roll
  (repeat' (first | refine g_seq (h := ?_) | refine g_region (h := ?_) | refine l_nil (h := ?_) | refine n_then (h := ?_) | refine l_pures1 (h := ?_) | (refine l_atc ?_; refine l_call (sRollback_does P.sb P.db S) ?_) | (refine l_atc ?_; refine l_call (hrt) ?_) | (refine l_box (h := ?_); intro _) | refine g_ret (h := ?_)))
  rename_i t
  (refine n_shut (A := Tx (P.at t) P.T0) (K := TxK (P.at t) P.T0 ((S.root, S.roll, D))) (hid_shuts ((S.root, S.roll, D)) (⟨⟨k.fine.roll, k.gen, k.old⟩, k.old⟩)) (h := ?_) (p := by dsimp only [TxK]; (try simp only [List.map_nil, List.length_nil, List.length_set, List.length_append, List.length_cons, List.length_singleton, List.map_append, List.map_cons, Nat.zero_add, TxP.at]); exact parts_of))
  refine r_retk [Tx (P.at t) P.T0] ?_
  exact ⟨t, rfl, rfl⟩

/-- What a commit leaves: other pages, the next generation, another tree. -/
def TxP.next (P : TxP) (U : List Int) (T : List Ent) : TxP := ⟨P.t, P.sb, P.db, P.N, U, P.g + 1, T⟩
theorem TxI.commit {P : TxP} {T : List Ent} {r : Int} {S : Sh} {D : Dk} (k : TxI P T (r, S, D)) (hg : P.g < 281474976710655) :
    ∃ S' E U, S.commit D r = (0, S', E) ∧ StR (P.next U T) (S', E) := by
  have kt : Tr P.N S D P.U r T T.length := ⟨k.st.fine, k.tree, Nat.le_refl _⟩
  obtain ⟨S', E, c1, c2, c3, c4, c5, c6⟩ := kt.commit (by have := k.st.gen; dsimp only at this; omega)
  refine ⟨S', E, _, c1, ⟨c2.fine, ?_, ?_⟩, c3, c4⟩
  · show S'.gen = P.g + 1
    rw [c5]
    have := k.st.gen
    dsimp only at this
    rw [this]
  · show IsTree P.N S'.roll E (S.after P.U) S'.root T
    rw [c6]
    exact c2.tree.move (by rw [after_roll, after_clean c3 c4]) (fun _ _ => rfl)
theorem TxI.rootBd {P : TxP} {T : List Ent} {r : Int} {S : Sh} {D : Dk} (k : TxI P T (r, S, D)) : -9223372036854775808 ≤ r ∧ r < 9223372036854775808 := by
  have hN := k.st.fine.n
  rcases k.tree with ⟨a, _, _⟩ | ⟨h, ps, ⟨d, ps1, g, _, _, _, e⟩, hp⟩
  · dsimp only at a; omega
  · have := g.1; dsimp only at this; omega
set_option maxHeartbeats 2000000 in
theorem tCommit_does (P : TxP) (T : List Ent) (hg : P.g < 281474976710655) : Does Tryz.prog 28 [.pointer (some ⟨P.t, 0, none⟩)] [Tx P T] (fun v H => ∃ (U : List Int) (r : Int), v = .int .i64 0 ∧ H = [tx P.t P.sb r 0 true, Sto (P.next U T)]) := by
  refine does_of Tryz.func28 Tryz.ntmps28 rfl rfl rfl (fun w0 F0 => ?_)
  refine g_open (A := Tx P T) (h := ?_); (rintro ⟨r, S, D⟩ k; dsimp only [TxK, List.cons_append, List.nil_append])
  obtain ⟨S', E, U, c1, c2⟩ := k.commit hg
  have hcm := sCommit_does P.sb P.db S D r k.rootBd
  rw [c1] at hcm
  dsimp only at hcm
  (repeat (first | refine g_seq (h := ?_) | refine g_region (h := ?_) | refine l_nil (h := ?_) | refine n_then (h := ?_) | refine l_pures1 (h := ?_) | refine l_load (h := ?_) | refine l_store (h := ?_) | refine g_skip (h := ?_) | refine g_block (h := ?_) | refine n_block (h := ?_) | refine g_cond_f (h := ?_)))
  (refine g_draw [tx P.t P.sb r 0 true] (h := a_pass2 (h := ?_)))
  (repeat' (first | refine g_seq (h := ?_) | refine g_region (h := ?_) | refine l_nil (h := ?_) | refine n_then (h := ?_) | refine l_pures1 (h := ?_) | (refine l_atc ?_; refine l_call (hcm) ?_) | refine g_skip (h := ?_) | refine g_ret (h := ?_) | refine a_done (h := ?_) | refine a_load (h := a_pass2 (h := ?_)) | refine a_one (h := ?_) | refine n_any (h := a_pass2 (h := ?_)) | refine g_cond_f (h := ?_)))
  (refine n_shut (A := Sto (P.next U T)) (K := StoK (P.next U T) ((S', E))) (hid_shuts ((S', E)) c2) (h := ?_) (p := by dsimp only [StoK]; (try simp only [List.map_nil, List.length_nil, List.length_set, List.length_append, List.length_cons, List.length_singleton, List.map_append, List.map_cons, Nat.zero_add, TxP.next]); exact parts_of))
  refine r_retk [tx P.t P.sb r 0 true, Sto (P.next U T)] ?_
  exact ⟨U, r, rfl, rfl⟩
set_option maxHeartbeats 2000000 in
theorem tDrop_does (P : TxP) (T : List Ent) : Does Tryz.prog 30 [.pointer (some ⟨P.t, 0, none⟩)] [Tx P T] (fun v H => ∃ r : Int, v = .tuple #[] ∧ H = [tx P.t P.sb r 0 true, Sto P]) := by
  refine does_of Tryz.func30 Tryz.ntmps30 rfl rfl rfl (fun w0 F0 => ?_)
  refine g_open (A := Tx P T) (h := ?_); (rintro ⟨r, S, D⟩ k; dsimp only [TxK, List.cons_append, List.nil_append])
  (repeat' (first | refine g_seq (h := ?_) | refine g_region (h := ?_) | refine l_nil (h := ?_) | refine n_then (h := ?_) | refine l_pures1 (h := ?_) | (refine l_atc ?_; refine l_call (sRollback_does P.sb P.db S) ?_) | refine l_load (h := ?_) | refine l_store (h := ?_) | refine g_cond_t (h := ?_)))
  (refine n_shut (A := Sto P) (K := StoK P ((S.roll, D))) (hid_shuts ((S.roll, D)) k.st.roll) (h := ?_) (p := by dsimp only [StoK]; (try simp only [List.map_nil, List.length_nil, List.length_set, List.length_append, List.length_cons, List.length_singleton, List.map_append, List.map_cons, Nat.zero_add]); exact parts_of))
  refine r_endk [tx P.t P.sb r 0 true, Sto P] ?_
  exact ⟨r, rfl, rfl⟩
theorem oRoot_does (t sb : Nat) (r e : Int) : Does Tryz.prog 33 [.pointer (some ⟨t, 0, none⟩)] [tx t sb r e true] (fun v H => v = .int .i64 0 ∧ H = [tx t sb r e true]) := by
  refine does_of Tryz.func33 Tryz.ntmps33 rfl rfl rfl (fun w0 F0 => ?_)
  (repeat' (first | refine g_seq (h := ?_) | refine g_region (h := ?_) | refine l_nil (h := ?_) | refine n_then (h := ?_) | refine l_pures1 (h := ?_) | refine l_load (h := ?_) | refine g_ret (h := ?_) | refine n_then_ret (h := ?_) | refine g_cond_t (h := ?_)))
  refine r_ret ?_
  exact ⟨rfl, rfl⟩
theorem oOver_does (t sb : Nat) (r e : Int) (o : Bool) : Does Tryz.prog 35 [.pointer (some ⟨t, 0, none⟩)] [tx t sb r e o] (fun v H => v = .bool o ∧ H = [tx t sb r e o]) := by
  refine does_of Tryz.func35 Tryz.ntmps35 rfl rfl rfl (fun w0 F0 => ?_)
  (repeat' (first | refine g_seq (h := ?_) | refine g_region (h := ?_) | refine l_nil (h := ?_) | refine n_then (h := ?_) | refine l_pures1 (h := ?_) | refine l_load (h := ?_) | refine g_ret (h := ?_)))
  refine r_ret ?_
  exact ⟨rfl, rfl⟩
theorem oDoes_does (t sb : Nat) (r e : Int) (g : Value) : Does Tryz.prog 48 [.pointer (some ⟨t, 0, none⟩), g] [tx t sb r e true] (fun v H => v = .bool false ∧ H = [tx t sb r e true]) := by
  refine does_of Tryz.func48 Tryz.ntmps48 rfl rfl rfl (fun w0 F0 => ?_)
  (repeat' (first | refine g_seq (h := ?_) | refine g_region (h := ?_) | refine l_nil (h := ?_) | refine n_then (h := ?_) | refine l_pures1 (h := ?_) | refine l_guard_no (h := ?_) | refine l_load (h := ?_) | refine g_ret (h := ?_) | refine n_then_ret (h := ?_) | refine g_cond_t (h := ?_)))
  refine r_ret ?_
  exact ⟨rfl, rfl⟩
theorem oGet_does (t sb x : Nat) (r e : Int) : Does Tryz.prog 27 [.pointer (some ⟨t, 0, none⟩), .int .u64 x] [tx t sb r e true] (fun v H => v = optV none ∧ H = [tx t sb r e true]) := by
  refine does_of Tryz.func27 Tryz.ntmps27 rfl rfl rfl (fun w0 F0 => ?_)
  (repeat' (first | refine g_seq (h := ?_) | refine g_region (h := ?_) | refine l_nil (h := ?_) | refine n_then (h := ?_) | refine l_pures1 (h := ?_) | (refine l_atc ?_; refine l_call (oDoes_does t sb r e _) ?_) | refine l_load (h := ?_) | refine l_store (h := ?_) | (refine l_box (h := ?_); intro _) | (refine l_alloc (h := ?_); intro _) | refine g_ret (h := ?_)))
  refine r_retk [tx t sb r e true] ?_
  exact ⟨rfl, rfl⟩
/-- What comes behind an end: an error of its state. -/
theorem oCommit_does (t sb : Nat) (r e : Int) : Does Tryz.prog 28 [.pointer (some ⟨t, 0, none⟩)] [tx t sb r e true] (fun v H => v = .int .i64 6 ∧ H = [tx t sb r e true]) := by
  refine does_of Tryz.func28 Tryz.ntmps28 rfl rfl rfl (fun w0 F0 => ?_)
  (repeat' (first | refine g_seq (h := ?_) | refine g_region (h := ?_) | refine l_nil (h := ?_) | refine n_then (h := ?_) | refine l_pures1 (h := ?_) | refine l_load (h := ?_) | refine g_ret (h := ?_) | refine n_then_ret (h := ?_) | refine n_block_ret (h := ?_) | refine g_block (h := ?_) | refine g_cond_t (h := ?_)))
  refine r_ret ?_
  exact ⟨rfl, rfl⟩
theorem tRoot_does (P : TxP) (T : List Ent) : Does Tryz.prog 33 [.pointer (some ⟨P.t, 0, none⟩)] [Tx P T] (fun v H => ∃ r : Int, (T = [] → r = 0) ∧ v = .int .i64 r ∧ H = [Tx P T]) := by
  refine does_of Tryz.func33 Tryz.ntmps33 rfl rfl rfl (fun w0 F0 => ?_)
  refine g_open (A := Tx P T) (h := ?_); (rintro ⟨r, S, D⟩ k; dsimp only [TxK, List.cons_append, List.nil_append])
  have hr : T = [] → r = 0 := fun e => by
    subst e
    rcases k.tree with ⟨a, _, _⟩ | ⟨h, ps, o, hp⟩
    · exact a
    · have := o.few
      simp at this
  (repeat' (first | refine g_seq (h := ?_) | refine g_region (h := ?_) | refine l_nil (h := ?_) | refine n_then (h := ?_) | refine l_pures1 (h := ?_) | refine l_load (h := ?_) | refine g_skip (h := ?_) | refine g_ret (h := ?_) | refine g_cond_f (h := ?_)))
  (refine n_shut (A := Tx P T) (K := TxK P T ((r, S, D))) (hid_shuts ((r, S, D)) k) (h := ?_) (p := by dsimp only [TxK]; (try simp only [List.map_nil, List.length_nil, List.length_set, List.length_append, List.length_cons, List.length_singleton, List.map_append, List.map_cons, Nat.zero_add]); exact parts_of))
  refine r_retk [Tx P T] ?_
  exact ⟨r, hr, rfl, rfl⟩
theorem stoLeft_does (P : TxP) : Does Tryz.prog 31 [.pointer (some ⟨P.sb, 0, none⟩)] [Sto P] (fun v H => v = .int .i64 ((P.N : Int) - 2 - (P.U.length : Int)) ∧ H = [Sto P]) := by
  refine does_hid ?_
  rintro ⟨S, D⟩ ⟨k, hf, hv⟩
  have h := sLeft_does P.sb P.db S D
  have hl : S.left D = P.N - 2 - P.U.length - S.fresh.length := k.fine.left
  dsimp only at hf
  rw [hl, hf] at h
  have e : ((P.N : Int) - 2 - (P.U.length : Int) - (([] : List Int).length : Int)) = (P.N : Int) - 2 - (P.U.length : Int) := by simp
  rw [e] at h
  exact h

/-! A store on a new disk -/
def TxP.new (t sb db n : Nat) : TxP := ⟨t, sb, db, n, [], headNew.over.gen, []⟩
theorem sto_new {sb db n : Nat} {E : Dk} (k : Tr n headNew.over E [] 0 [] 0) : StR (TxP.new 0 sb db n) (headNew.over, E) := ⟨⟨k.fine, rfl, k.tree⟩, rfl, rfl⟩
theorem made12_does {i : Int} {n : Nat} (e : i = n) (hn : 8 ≤ n ∧ n ≤ 640) : Does Tryz.prog 23 [.int .i64 i] [] (fun v H => ∃ db sb, v = .tuple #[.pointer (some ⟨db, 0, none⟩), .pointer (some ⟨sb, 0, none⟩)] ∧ H = [Sto (TxP.new 0 sb db n)]) := by
  obtain ⟨E1, f1, k0⟩ := tr_new (N := n) hn
  refine does_of Tryz.func23 Tryz.ntmps23 rfl rfl rfl (fun w0 F0 => ?_)
  (repeat' (first | refine g_seq (h := ?_) | refine g_region (h := ?_) | refine l_nil (h := ?_) | refine n_then (h := ?_) | refine l_pures1 (h := ?_) | (refine l_at 36 ?_; refine l_call_ (new_is (i := i) (n := n) e hn) ?_; rintro _ _ _ ⟨db, rfl, rfl⟩ he; cases he) | (refine l_at 37 ?_; refine l_call_ (format_is f1) ?_; rintro _ _ _ ⟨sb, rfl, rfl⟩ he; cases he) | refine l_guard_yes (h := ?_) | refine g_skip (h := ?_) | refine g_ret (h := ?_) | refine g_cond_f (h := ?_)))
  (refine n_shut (A := Sto (TxP.new 0 sb db n)) (K := StoK (TxP.new 0 sb db n) ((headNew.over, E1))) (hid_shuts ((headNew.over, E1)) (sto_new k0)) (h := ?_) (p := by dsimp only [StoK]; (try simp only [List.map_nil, List.length_nil, List.length_set, List.length_append, List.length_cons, List.length_singleton, List.map_append, List.map_cons, Nat.zero_add, TxP.new]); exact parts_of))
  refine r_retk [Sto (TxP.new 0 sb db n)] ?_
  exact ⟨db, sb, rfl, rfl⟩
theorem made16_does : Does Tryz.prog 13 [] [] (fun v H => ∃ t db sb, v = .pointer (some ⟨t, 0, none⟩) ∧ H = [Tx (TxP.new t sb db 640) []]) := by
  obtain ⟨E1, f1, k0⟩ := tr_new (N := 640) (by omega)
  refine does_of Tryz.func13 Tryz.ntmps13 rfl rfl rfl (fun w0 F0 => ?_)
  (repeat' (first | refine g_seq (h := ?_) | refine g_region (h := ?_) | refine l_nil (h := ?_) | refine n_then (h := ?_) | refine l_pures1 (h := ?_) | (refine l_at 36 ?_; refine l_call_ (new_is (i := 640) (n := 640) rfl (by omega)) ?_; rintro _ _ _ ⟨db, rfl, rfl⟩ he; cases he) | (refine l_at 37 ?_; refine l_call_ (format_is f1) ?_; rintro _ _ _ ⟨sb, rfl, rfl⟩ he; cases he) | refine l_guard_yes (h := ?_) | refine g_skip (h := ?_) | refine g_cond_f (h := ?_)))
  (refine l_shut (A := Sto (TxP.new 0 sb db 640)) (K := StoK (TxP.new 0 sb db 640) ((headNew.over, E1))) (hid_shuts ((headNew.over, E1)) (sto_new k0)) (h := ?_) (p := by dsimp only [StoK]; (try simp only [List.map_nil, List.length_nil, List.length_set, List.length_append, List.length_cons, List.length_singleton, List.map_append, List.map_cons, Nat.zero_add, TxP.new]); exact parts_of))
  have hb : Does Tryz.prog 24 [.pointer (some ⟨sb, 0, none⟩)] [Sto (TxP.new 0 sb db 640)] (fun v H => ∃ t, v = .pointer (some ⟨t, 0, none⟩) ∧ H = [Tx (TxP.new t sb db 640) []]) := begin_does (TxP.new 0 sb db 640)
  (repeat' (first | refine l_nil (h := ?_) | refine n_then (h := ?_) | refine l_pures1 (h := ?_) | (refine l_atc ?_; refine l_call_ (hb) ?_; rintro _ _ _ ⟨t, rfl, rfl⟩ he; cases he) | refine g_ret (h := ?_)))
  refine r_retk [Tx (TxP.new t sb db 640) []] ?_
  exact ⟨t, db, sb, rfl, rfl⟩
end Go.Proofs.YtbdgnjlbmhnipaaGreat

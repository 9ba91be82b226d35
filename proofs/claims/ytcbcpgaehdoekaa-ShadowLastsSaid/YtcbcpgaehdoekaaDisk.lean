/- Package disk. -/
import Derived.Test.YtcbcpgaehdoekaaNum
set_option linter.unusedVariables false
set_option linter.unusedSimpArgs false
namespace Go.Proofs.Ytcbcpgaehdoekaa
open Go.Proofs.Ytcbcpgaehdoekaa.SL

/-- A disk: its sectors; of the loose ones what they were, and which they are; how many writes are left; has the power gone? -/
structure Dk where
  now : List (List UInt8)
  was : List (Int × List UInt8)
  order : List Int
  fuse : Int
  gone : Bool

def encS (l : List UInt8) : Value := .string (str l)
def encZ' (i : Int) : Value := .int .i64 i

structure Dk.ok (D : Dk) : Prop where
  n : D.now.length ≤ 640
  f : -1 ≤ D.fuse ∧ D.fuse < 9223372036854775808
  o : D.order.length ≤ D.now.length ∧ D.order.Nodup ∧ (∀ i ∈ D.order, 0 ≤ i ∧ i < D.now.length) ∧ D.was.map Prod.fst = D.order
  s : (∀ x ∈ D.now, x.length = 256) ∧ ∀ p ∈ D.was, p.2.length = 256

/-- Where it lies: its row, its sectors' row (and how long that is), its map, the loose ones' slice. -/
def DiskK (b : Nat) (D : Dk) (x : Nat × Nat × Nat × (Option Addr × Nat) × List Value) : List SProp :=
  [cl b 71 [.slice (some ⟨x.1, 0, none⟩) D.now.length x.2.1, .map (some x.2.2.1), .slice x.2.2.2.1.1 D.order.length x.2.2.2.1.2, .int .i64 D.fuse, .bool D.gone], cl x.1 9 (D.now.map encS ++ x.2.2.2.2), mp x.2.2.1 encS D.was,
   vec 3 1 x.2.2.2.1.1 D.order.length x.2.2.2.1.2 (D.order.map encZ')]
def DiskP (D : Dk) (x : Nat × Nat × Nat × (Option Addr × Nat) × List Value) : Prop := D.ok ∧ D.now.length ≤ x.2.1 ∧ x.2.1 ≤ 9223372036854775807
def Disk (b : Nat) (D : Dk) : SProp := hid (DiskP D) (DiskK b D)

theorem set_all {α : Type} {p : α → Prop} {l : List α} {i : Nat} {s : α} (h : ∀ x ∈ l, p x) (hs : p s) : ∀ x ∈ l.set i s, p x := fun x hx => (List.mem_or_eq_of_mem_set hx).elim (h x) (fun e => e ▸ hs)
theorem getD_all {α : Type} {p : α → Prop} {l : List α} {i : Nat} {z : α} (h : ∀ x ∈ l, p x) (hi : i < l.length) : p (l.getD i z) := by
  rw [List.getD, List.getElem?_eq_getElem hi]; exact h _ (List.getElem_mem _)
theorem kvGet_all {α : Type} {p : α → Prop} : ∀ {l : List (Int × α)} {i : Int} {z : α}, (∀ q ∈ l, p q.2) → i ∈ l.map Prod.fst → p ((kvGet l i).getD z)
  | [], i, z, _, hi => by simp at hi
  | (j, v) :: l, i, z, h, hi => by
    simp only [kvGet]
    by_cases q : j = i
    · rw [if_pos q]; exact h (j, v) (by simp)
    · rw [if_neg q]
      simp only [List.map_cons, List.mem_cons] at hi
      exact kvGet_all (fun x hx => h x (by simp [hx])) (hi.resolve_left (fun e => q e.symm))

theorem Size_does (b : Nat) (D : Dk) : Does Try.prog 42 [.pointer (some ⟨b, 0, none⟩)] [Disk b D] (fun v H => v = .int .i64 D.now.length ∧ H = [Disk b D]) := by
  refine does_of Try.func42 Try.ntmps42 rfl rfl rfl (fun w0 F0 => ?_)
  (refine g_open (H' := ?_) (show Opens (Disk b D) _ _ from hid_opens) ?_ ?_; rotate_left; (focus (repeat (first | (with_reducible exact Take.here) | ((with_reducible apply Take.there)))))); (rintro ⟨bn, c, bm, ⟨po, co⟩, rest⟩ ⟨ok, hc, hc2⟩; dsimp only [DiskK, List.cons_append, List.nil_append])
  (repeat (first | ((with_reducible apply g_seq)) | ((with_reducible apply g_region)) | ((with_reducible apply l_nil)) | ((with_reducible apply n_then)) | ((with_reducible apply l_pures1 env_ok); rfl; rfl; rfl) | ((with_reducible apply l_load env_ok); rfl; rfl; (repeat (first | (with_reducible exact Take.here) | ((with_reducible apply Take.there)))); rfl) | ((with_reducible apply g_ret))))
  (have hshut_ : Shuts (DiskK b D ((bn, c, bm, (po, co), rest))) (Disk b D) := hid_shuts ((bn, c, bm, (po, co), rest)) ⟨ok, hc, hc2⟩); (with_reducible apply n_shut hshut_); (focus (dsimp only [DiskK]; (try simp only [List.map_nil, List.length_nil, List.length_set, List.length_append, List.length_cons, List.length_singleton, List.map_append, List.map_cons, Nat.zero_add]); (repeat (first | (with_reducible exact Parts.nil) | ((with_reducible apply Parts.cons); (repeat (first | (with_reducible exact Take.here) | ((with_reducible apply Take.there)))))))))
  (apply n_ret env_ok rfl; (repeat (first | (with_reducible exact ResV.nil) | (apply ResV.tmp; rfl) | (apply ResV.cell; rfl; (repeat (first | (with_reducible exact Take.here) | ((with_reducible apply Take.there)))); rfl) | exact ResV.nil)); refine ⟨_, ?_, fun i => i⟩)
  exact ⟨rfl, rfl⟩

def Dk.may (D : Dk) (n : Int) : Int := if D.gone then 5 else if n < 0 ∨ n ≥ D.now.length then 1 else 0
theorem may_does (b : Nat) (D : Dk) (n : Int) : Does Try.prog 61 [.pointer (some ⟨b, 0, none⟩), .int .i64 n] [Disk b D] (fun v H => v = .int .i64 (D.may n) ∧ H = [Disk b D]) := by
  refine does_of Try.func61 Try.ntmps61 rfl rfl rfl (fun w0 F0 => ?_)
  (refine g_open (H' := ?_) (show Opens (Disk b D) _ _ from hid_opens) ?_ ?_; rotate_left; (focus (repeat (first | (with_reducible exact Take.here) | ((with_reducible apply Take.there)))))); (rintro ⟨bn, c, bm, ⟨po, co⟩, rest⟩ ⟨ok, hc, hc2⟩; dsimp only [DiskK, List.cons_append, List.nil_append])
  (repeat' (first | ((with_reducible apply g_seq)) | ((with_reducible apply g_region)) | ((with_reducible apply l_nil)) | ((with_reducible apply n_then)) | ((with_reducible apply l_pures1 env_ok); rfl; rfl; rfl) | ((with_reducible apply l_guard_yes); rfl; rfl; rfl) | ((with_reducible apply l_guard_no); rfl; rfl; rfl; rfl; rfl) | ((with_reducible apply l_load env_ok); rfl; rfl; (repeat (first | (with_reducible exact Take.here) | ((with_reducible apply Take.there)))); rfl) | ((with_reducible apply g_skip)) | ((with_reducible apply g_ret)) | ((with_reducible apply n_then_ret)) | ((with_reducible apply n_block_ret)) | ((with_reducible apply g_block)) | ((with_reducible apply n_block)) | ((with_reducible apply g_cond_t); rfl) | ((with_reducible apply l_guard_split); rfl; rfl; (intro h; (try dsimp only at h); (try simp only [beq_true, beq_false, decide_eq_decide, beq_iff_eq, bne_iff_ne, beq_eq_false_iff_ne, bne_eq_false_iff_eq, decide_eq_true_eq, decide_eq_false_iff_not, Bool.not_eq_true', Bool.not_eq_false', ne_eq, Decidable.not_not] at h); (try (focus (exfalso; first | (simp only [eq_self, not_true_eq_false, not_false_eq_true, reduceCtorEq] at h; done) | omega)))); rotate_left; (intro h; (try dsimp only at h); (try simp only [beq_true, beq_false, decide_eq_decide, beq_iff_eq, bne_iff_ne, beq_eq_false_iff_ne, bne_eq_false_iff_eq, decide_eq_true_eq, decide_eq_false_iff_not, Bool.not_eq_true', Bool.not_eq_false', ne_eq, Decidable.not_not] at h); (try (focus (exfalso; first | (simp only [eq_self, not_true_eq_false, not_false_eq_true, reduceCtorEq] at h; done) | omega)))); rotate_left) | ((with_reducible apply g_cond); rfl; (intro h; (try dsimp only at h); (try simp only [beq_true, beq_false, decide_eq_decide, beq_iff_eq, bne_iff_ne, beq_eq_false_iff_ne, bne_eq_false_iff_eq, decide_eq_true_eq, decide_eq_false_iff_not, Bool.not_eq_true', Bool.not_eq_false', ne_eq, Decidable.not_not] at h); (try (focus (exfalso; first | (simp only [eq_self, not_true_eq_false, not_false_eq_true, reduceCtorEq] at h; done) | omega)))); rotate_left; (intro h; (try dsimp only at h); (try simp only [beq_true, beq_false, decide_eq_decide, beq_iff_eq, bne_iff_ne, beq_eq_false_iff_ne, bne_eq_false_iff_eq, decide_eq_true_eq, decide_eq_false_iff_not, Bool.not_eq_true', Bool.not_eq_false', ne_eq, Decidable.not_not] at h); (try (focus (exfalso; first | (simp only [eq_self, not_true_eq_false, not_false_eq_true, reduceCtorEq] at h; done) | omega)))); rotate_left)))
  all_goals (have hc : D.now.length ≤ c := hc)
  all_goals
    (have hshut_ : Shuts (DiskK b D ((bn, c, bm, (po, co), rest))) (Disk b D) := hid_shuts ((bn, c, bm, (po, co), rest)) ⟨ok, hc, hc2⟩); (with_reducible apply n_shut hshut_); (focus (dsimp only [DiskK]; (try simp only [List.map_nil, List.length_nil, List.length_set, List.length_append, List.length_cons, List.length_singleton, List.map_append, List.map_cons, Nat.zero_add]); (repeat (first | (with_reducible exact Parts.nil) | ((with_reducible apply Parts.cons); (repeat (first | (with_reducible exact Take.here) | ((with_reducible apply Take.there)))))))))
  all_goals
    (apply n_ret env_ok rfl; (repeat (first | (with_reducible exact ResV.nil) | (apply ResV.tmp; rfl) | (apply ResV.cell; rfl; (repeat (first | (with_reducible exact Take.here) | ((with_reducible apply Take.there)))); rfl) | exact ResV.nil)); refine ⟨_, ?_, fun i => i⟩)
  all_goals refine ⟨?_, rfl⟩
  · rw [Dk.may, if_pos (by assumption)]; rfl
  · rw [Dk.may, if_neg (by simp [*]), if_pos (by omega)]; rfl
  · rw [Dk.may, if_neg (by simp [*]), if_pos (by omega)]; rfl
  · rw [Dk.may, if_neg (by simp [*]), if_neg (by omega)]; rfl

theorem Dk.may_0 {D : Dk} {n : Int} (h : D.may n = 0) : D.gone = false ∧ 0 ≤ n ∧ n < D.now.length := by
  unfold Dk.may at h
  cases hg : D.gone <;> simp [hg] at h ⊢
  omega

def Dk.read (D : Dk) (n : Int) : List UInt8 × Int := if D.may n = 0 then (D.now.getD n.toNat [], 0) else ([], D.may n)
theorem encS_get {l : List (List UInt8)} {r : List Value} {j : Nat} (h : j < l.length) : (l.map encS ++ r)[j]? = some (encS (l.getD j [])) := by
  rw [List.getElem?_append_left (by simpa using h), List.getElem?_map, List.getD, List.getElem?_eq_getElem h]; rfl

theorem Read_does (b : Nat) (D : Dk) (n : Int) : Does Try.prog 50 [.pointer (some ⟨b, 0, none⟩), .int .i64 n] [Disk b D] (fun v H => v = .tuple #[.string (str (D.read n).1), .int .i64 (D.read n).2] ∧ H = [Disk b D]) := by
  refine does_of Try.func50 Try.ntmps50 rfl rfl rfl (fun w0 F0 => ?_)
  (repeat' (first | ((with_reducible apply g_seq)) | ((with_reducible apply g_region)) | ((with_reducible apply l_nil)) | ((with_reducible apply n_then)) | ((with_reducible apply l_pures1 env_ok); rfl; rfl; rfl) | ((with_reducible apply l_call c61); rfl; rfl; rfl; rfl; (with_reducible exact may_does b D n); (repeat (first | (with_reducible exact Parts.nil) | ((with_reducible apply Parts.cons); (repeat (first | (with_reducible exact Take.here) | ((with_reducible apply Take.there))))))); rintro _ _ _ ⟨rfl, rfl⟩ he; cases he) | ((with_reducible apply g_skip)) | ((with_reducible apply g_ret)) | ((with_reducible apply n_then_ret)) | ((with_reducible apply g_cond); rfl; (intro h; (try dsimp only at h); (try simp only [beq_true, beq_false, decide_eq_decide, beq_iff_eq, bne_iff_ne, beq_eq_false_iff_ne, bne_eq_false_iff_eq, decide_eq_true_eq, decide_eq_false_iff_not, Bool.not_eq_true', Bool.not_eq_false', ne_eq, Decidable.not_not] at h); (try (focus (exfalso; first | (simp only [eq_self, not_true_eq_false, not_false_eq_true, reduceCtorEq] at h; done) | omega)))); rotate_left; (intro h; (try dsimp only at h); (try simp only [beq_true, beq_false, decide_eq_decide, beq_iff_eq, bne_iff_ne, beq_eq_false_iff_ne, bne_eq_false_iff_eq, decide_eq_true_eq, decide_eq_false_iff_not, Bool.not_eq_true', Bool.not_eq_false', ne_eq, Decidable.not_not] at h); (try (focus (exfalso; first | (simp only [eq_self, not_true_eq_false, not_false_eq_true, reduceCtorEq] at h; done) | omega)))); rotate_left)))
  · (apply n_ret env_ok rfl; (repeat (first | (with_reducible exact ResV.nil) | (apply ResV.tmp; rfl) | (apply ResV.cell; rfl; (repeat (first | (with_reducible exact Take.here) | ((with_reducible apply Take.there)))); rfl) | exact ResV.nil)); refine ⟨_, ?_, fun i => i⟩)
    exact ⟨by rw [Dk.read, if_neg (by assumption)]; rfl, rfl⟩
  · obtain ⟨h1, h2, h3⟩ := Dk.may_0 h
    (refine l_open (H' := ?_) (show Opens (Disk b D) _ _ from hid_opens) ?_ ?_; rotate_left; (focus (repeat (first | (with_reducible exact Take.here) | ((with_reducible apply Take.there)))))); (rintro ⟨bn, c, bm, ⟨po, co⟩, rest⟩ ⟨ok, hc, hc2⟩; dsimp only [DiskK, List.cons_append, List.nil_append])
    have hg : (D.now.map encS ++ rest)[0 + n.toNat * 1]? = some (encS (D.now.getD n.toNat [])) := by
      rw [Nat.zero_add, Nat.mul_one]; exact encS_get (by omega)
    (repeat' (first | ((with_reducible apply l_nil)) | ((with_reducible apply n_then)) | ((with_reducible apply l_pures1 env_ok); rfl; rfl; rfl) | ((with_reducible apply l_load env_ok); rfl; rfl; (repeat (first | (with_reducible exact Take.here) | ((with_reducible apply Take.there)))); rfl) | ((with_reducible apply l_load_at env_ok); rfl; rfl; (repeat (first | (with_reducible exact Take.here) | ((with_reducible apply Take.there)))); rfl; rfl; (first | assumption | exact bsV_get (by first | omega | (simp; omega)))) | ((with_reducible apply l_indexAddr env_ok); rfl; rfl; rfl; rfl; rfl; (first | assumption | omega | (refine ⟨?_, ?_⟩ <;> omega) | (simp only [List.length_cons, List.length_nil, str] at *; omega) | (simp only [List.length_append] at *; omega))) | ((with_reducible apply g_ret))))
    (have hshut_ : Shuts (DiskK b D ((bn, c, bm, (po, co), rest))) (Disk b D) := hid_shuts ((bn, c, bm, (po, co), rest)) ⟨ok, hc, hc2⟩); (with_reducible apply n_shut hshut_); (focus (dsimp only [DiskK]; (try simp only [List.map_nil, List.length_nil, List.length_set, List.length_append, List.length_cons, List.length_singleton, List.map_append, List.map_cons, Nat.zero_add]); (repeat (first | (with_reducible exact Parts.nil) | ((with_reducible apply Parts.cons); (repeat (first | (with_reducible exact Take.here) | ((with_reducible apply Take.there)))))))))
    (apply n_ret env_ok rfl; (repeat (first | (with_reducible exact ResV.nil) | (apply ResV.tmp; rfl) | (apply ResV.cell; rfl; (repeat (first | (with_reducible exact Take.here) | ((with_reducible apply Take.there)))); rfl) | exact ResV.nil)); refine ⟨_, ?_, fun i => i⟩)
    exact ⟨by rw [Dk.read, if_pos (by assumption)]; rfl, rfl⟩

theorem Up_does (b : Nat) (D : Dk) : Does Try.prog 22 [.pointer (some ⟨b, 0, none⟩)] [Disk b D] (fun v H => v = .bool (!D.gone) ∧ H = [Disk b D]) := by
  refine does_of Try.func22 Try.ntmps22 rfl rfl rfl (fun w0 F0 => ?_)
  (refine g_open (H' := ?_) (show Opens (Disk b D) _ _ from hid_opens) ?_ ?_; rotate_left; (focus (repeat (first | (with_reducible exact Take.here) | ((with_reducible apply Take.there)))))); (rintro ⟨bn, c, bm, ⟨po, co⟩, rest⟩ ⟨ok, hc, hc2⟩; dsimp only [DiskK, List.cons_append, List.nil_append])
  (repeat (first | ((with_reducible apply g_seq)) | ((with_reducible apply g_region)) | ((with_reducible apply l_nil)) | ((with_reducible apply n_then)) | ((with_reducible apply l_pures1 env_ok); rfl; rfl; rfl) | ((with_reducible apply l_load env_ok); rfl; rfl; (repeat (first | (with_reducible exact Take.here) | ((with_reducible apply Take.there)))); rfl) | ((with_reducible apply g_ret))))
  (have hshut_ : Shuts (DiskK b D ((bn, c, bm, (po, co), rest))) (Disk b D) := hid_shuts ((bn, c, bm, (po, co), rest)) ⟨ok, hc, hc2⟩); (with_reducible apply n_shut hshut_); (focus (dsimp only [DiskK]; (try simp only [List.map_nil, List.length_nil, List.length_set, List.length_append, List.length_cons, List.length_singleton, List.map_append, List.map_cons, Nat.zero_add]); (repeat (first | (with_reducible exact Parts.nil) | ((with_reducible apply Parts.cons); (repeat (first | (with_reducible exact Take.here) | ((with_reducible apply Take.there)))))))))
  (apply n_ret env_ok rfl; (repeat (first | (with_reducible exact ResV.nil) | (apply ResV.tmp; rfl) | (apply ResV.cell; rfl; (repeat (first | (with_reducible exact Take.here) | ((with_reducible apply Take.there)))); rfl) | exact ResV.nil)); refine ⟨_, ?_, fun i => i⟩)
  exact ⟨rfl, rfl⟩

theorem Fuse_does (b : Nat) (D : Dk) (k : Int) (hk : k < 9223372036854775808) : Does Try.prog 21 [.pointer (some ⟨b, 0, none⟩), .int .i64 k] [Disk b D] (fun v H => v = .tuple #[] ∧ H = [Disk b { D with fuse := max (-1) k }]) := by
  refine does_of Try.func21 Try.ntmps21 rfl rfl rfl (fun w0 F0 => ?_)
  (refine g_open (H' := ?_) (show Opens (Disk b D) _ _ from hid_opens) ?_ ?_; rotate_left; (focus (repeat (first | (with_reducible exact Take.here) | ((with_reducible apply Take.there)))))); (rintro ⟨bn, c, bm, ⟨po, co⟩, rest⟩ ⟨ok, hc, hc2⟩; dsimp only [DiskK, List.cons_append, List.nil_append])
  (repeat (first | ((with_reducible apply g_region)) | ((with_reducible apply l_nil)) | ((with_reducible apply l_pures1 env_ok); rfl; rfl; rfl) | ((with_reducible apply l_store env_ok); rfl; rfl; rfl; rfl; rfl; (repeat (first | (with_reducible exact Take.here) | ((with_reducible apply Take.there)))); rfl)))
  (simp only [cond_true, cond_false, mxI_eq, mnI_eq])
  (have hshut_ : Shuts (DiskK b { D with fuse := max (-1) k } ((bn, c, bm, (po, co), rest))) (Disk b { D with fuse := max (-1) k }) := hid_shuts ((bn, c, bm, (po, co), rest)) ⟨⟨ok.n, ⟨by simp only; omega, by simp only; omega⟩, ok.o, ok.s⟩, hc, hc2⟩); (with_reducible apply n_shut hshut_); (focus (dsimp only [DiskK]; (try simp only [List.map_nil, List.length_nil, List.length_set, List.length_append, List.length_cons, List.length_singleton, List.map_append, List.map_cons, Nat.zero_add]); (repeat (first | (with_reducible exact Parts.nil) | ((with_reducible apply Parts.cons); (repeat (first | (with_reducible exact Take.here) | ((with_reducible apply Take.there)))))))))
  (apply n_end env_ok rfl; (repeat (first | (with_reducible exact ResV.nil) | (apply ResV.tmp; rfl) | (apply ResV.cell; rfl; (repeat (first | (with_reducible exact Take.here) | ((with_reducible apply Take.there)))); rfl) | exact ResV.nil)); refine ⟨_, ?_, fun i => i⟩)
  exact ⟨rfl, rfl⟩

/-- What is known of a disk that is owned. -/
theorem does_disk {f : FuncId} {args : List Value} {b : Nat} {D : Dk} {H : List SProp} {q : Value → List SProp → Prop} (h : D.ok → Does Try.prog f args (Disk b D :: H) q) : Does Try.prog f args (Disk b D :: H) q := by
  intro w F s
  obtain ⟨_, _, ⟨_, ⟨ok, _⟩, _⟩, _⟩ := id s
  exact h ok w F s

def Dk.sync (D : Dk) : Int × Dk := if D.gone then (5, D) else (0, { D with was := [], order := [] })
theorem Sync_does (b : Nat) (D : Dk) : Does Try.prog 34 [.pointer (some ⟨b, 0, none⟩)] [Disk b D] (fun v H => v = .int .i64 D.sync.1 ∧ H = [Disk b D.sync.2]) := by
  refine does_of Try.func34 Try.ntmps34 rfl rfl rfl (fun w0 F0 => ?_)
  (refine g_open (H' := ?_) (show Opens (Disk b D) _ _ from hid_opens) ?_ ?_; rotate_left; (focus (repeat (first | (with_reducible exact Take.here) | ((with_reducible apply Take.there)))))); (rintro ⟨bn, c, bm, ⟨po, co⟩, rest⟩ ⟨ok, hc, hc2⟩; dsimp only [DiskK, List.cons_append, List.nil_append])
  (repeat' (first | ((with_reducible apply g_seq)) | ((with_reducible apply g_region)) | ((with_reducible apply l_nil)) | ((with_reducible apply n_then)) | ((with_reducible apply l_pures1 env_ok); rfl; rfl; rfl) | ((with_reducible apply l_load env_ok); rfl; rfl; (repeat (first | (with_reducible exact Take.here) | ((with_reducible apply Take.there)))); rfl) | ((with_reducible apply g_skip)) | ((with_reducible apply g_ret)) | ((with_reducible apply n_then_ret)) | ((with_reducible apply g_cond); rfl; (intro h; (try dsimp only at h); (try simp only [beq_true, beq_false, decide_eq_decide, beq_iff_eq, bne_iff_ne, beq_eq_false_iff_ne, bne_eq_false_iff_eq, decide_eq_true_eq, decide_eq_false_iff_not, Bool.not_eq_true', Bool.not_eq_false', ne_eq, Decidable.not_not] at h); (try (focus (exfalso; first | (simp only [eq_self, not_true_eq_false, not_false_eq_true, reduceCtorEq] at h; done) | omega)))); rotate_left; (intro h; (try dsimp only at h); (try simp only [beq_true, beq_false, decide_eq_decide, beq_iff_eq, bne_iff_ne, beq_eq_false_iff_ne, bne_eq_false_iff_eq, decide_eq_true_eq, decide_eq_false_iff_not, Bool.not_eq_true', Bool.not_eq_false', ne_eq, Decidable.not_not] at h); (try (focus (exfalso; first | (simp only [eq_self, not_true_eq_false, not_false_eq_true, reduceCtorEq] at h; done) | omega)))); rotate_left)))
  · (have hshut_ : Shuts (DiskK b D ((bn, c, bm, (po, co), rest))) (Disk b D) := hid_shuts ((bn, c, bm, (po, co), rest)) ⟨ok, hc, hc2⟩); (with_reducible apply n_shut hshut_); (focus (dsimp only [DiskK]; (try simp only [List.map_nil, List.length_nil, List.length_set, List.length_append, List.length_cons, List.length_singleton, List.map_append, List.map_cons, Nat.zero_add]); (repeat (first | (with_reducible exact Parts.nil) | ((with_reducible apply Parts.cons); (repeat (first | (with_reducible exact Take.here) | ((with_reducible apply Take.there)))))))))
    (apply n_ret env_ok rfl; (repeat (first | (with_reducible exact ResV.nil) | (apply ResV.tmp; rfl) | (apply ResV.cell; rfl; (repeat (first | (with_reducible exact Take.here) | ((with_reducible apply Take.there)))); rfl) | exact ResV.nil)); refine ⟨_, ?_, fun i => i⟩)
    exact ⟨by rw [Dk.sync, if_pos h]; rfl, by rw [Dk.sync, if_pos h]⟩
  · ((with_reducible apply l_makeMap (encS)); rfl; intro _)
    (repeat (first | ((with_reducible apply g_seq)) | ((with_reducible apply g_region)) | ((with_reducible apply l_nil)) | ((with_reducible apply n_then)) | ((with_reducible apply l_pures1 env_ok); rfl; rfl; rfl) | ((with_reducible apply l_store env_ok); rfl; rfl; rfl; rfl; rfl; (repeat (first | (with_reducible exact Take.here) | ((with_reducible apply Take.there)))); rfl) | ((with_reducible apply g_ret))))
    rename_i bm'
    (with_reducible apply n_inv (fun i => vec_nil (3) (1) i))
    (have hshut_ : Shuts (DiskK b { D with was := [], order := [] } ((bn, c, bm', ((none, 0) : Option Addr × Nat), rest))) (Disk b { D with was := [], order := [] }) := hid_shuts ((bn, c, bm', ((none, 0) : Option Addr × Nat), rest)) ⟨⟨ok.n, ok.f, by simp, ok.s.1, by simp⟩, hc, hc2⟩); (with_reducible apply n_shut hshut_); (focus (dsimp only [DiskK]; (try simp only [List.map_nil, List.length_nil, List.length_set, List.length_append, List.length_cons, List.length_singleton, List.map_append, List.map_cons, Nat.zero_add]); (repeat (first | (with_reducible exact Parts.nil) | ((with_reducible apply Parts.cons); (repeat (first | (with_reducible exact Take.here) | ((with_reducible apply Take.there)))))))))
    (apply n_ret env_ok rfl; (repeat (first | (with_reducible exact ResV.nil) | (apply ResV.tmp; rfl) | (apply ResV.cell; rfl; (repeat (first | (with_reducible exact Take.here) | ((with_reducible apply Take.there)))); rfl) | exact ResV.nil)); refine ⟨[Disk b { D with was := [], order := [] }], ?_, ?_⟩; rotate_left; (intro _; refine @inv_keep _ _ _ _ ?_ ?_ _); rotate_left; (repeat (first | (with_reducible exact Parts.nil) | ((with_reducible apply Parts.cons); (repeat (first | (with_reducible exact Take.here) | ((with_reducible apply Take.there))))))); rotate_right)
    exact ⟨by rw [Dk.sync, if_neg (by simp [h])]; rfl, by rw [Dk.sync, if_neg (by simp [h])]⟩

theorem kvGet_none_iff {α : Type} : ∀ {l : List (Int × α)} {i : Int}, kvGet l i = none ↔ i ∉ l.map Prod.fst
  | [], i => by simp [kvGet]
  | (j, v) :: l, i => by
    simp only [kvGet, List.map_cons, List.mem_cons, not_or]
    by_cases q : j = i
    · subst q; simp
    · rw [if_neg q, kvGet_none_iff]
      exact ⟨fun h => ⟨fun e => q e.symm, h⟩, fun h => h.2⟩
theorem kvPut_none {α : Type} : ∀ {l : List (Int × α)} {i : Int} {x : α}, (kvGet l i).isSome = false → kvPut l i x = l ++ [(i, x)]
  | [], i, x, _ => rfl
  | (j, v) :: l, i, x, h => by
    simp only [kvGet] at h
    by_cases q : j = i
    · simp [q] at h
    · rw [if_neg q] at h
      simp [kvPut, q, kvPut_none h]
theorem room_of {l : List Int} {N : Nat} {n : Int} (h1 : l.Nodup) (h2 : ∀ i ∈ l, 0 ≤ i ∧ i < N) (h3 : n ∉ l) (h4 : 0 ≤ n) (h5 : n < N) : l.length < N := by
  have key : ∀ (N : Nat) (l : List Int), l.Nodup → (∀ i ∈ l, 0 ≤ i ∧ i < N) → l.length ≤ N := by
    intro N
    induction N with
    | zero =>
      intro l _ h
      cases l with
      | nil => exact Nat.le_refl _
      | cons a l => have := h a (by simp); omega
    | succ N ih =>
      intro l hn h
      have := ih (l.erase (N : Int)) (hn.erase _) (fun i hi => by
        have hi2 := h i (List.mem_of_mem_erase hi)
        have : i ≠ (N : Int) := fun q => by
          subst q
          exact (hn.not_mem_erase) hi
        omega)
      have h3 := List.length_erase_le (l := l) (a := (N : Int))
      rw [List.length_erase] at this
      split at this <;> omega
  have := key N (n :: l) (List.nodup_cons.2 ⟨h3, h1⟩) (fun i hi => by
    rcases List.mem_cons.1 hi with rfl | hi
    · exact ⟨h4, h5⟩
    · exact h2 i hi)
  simp at this
  omega
theorem encS_set {l : List (List UInt8)} {r : List Value} {j : Nat} {s : List UInt8} (h : j < l.length) : (l.map encS ++ r).set (0 + j * 1) (.string (str s)) = (l.set j s).map encS ++ r := by
  rw [Nat.zero_add, Nat.mul_one, List.set_append_left _ _ (by simpa using h), List.map_set]; rfl

theorem encS_set' {l : List (List UInt8)} {r : List Value} {j : Nat} {s : List UInt8} (h : j < l.length) : (l.map encS ++ r).set (0 + j * 1) (encS s) = (l.set j s).map encS ++ r := encS_set h

def Dk.put (D : Dk) (n : Int) (s : List UInt8) : Dk :=
  { D with fuse := max (-1) (D.fuse - 1), was := if (kvGet D.was n).isSome then D.was else kvPut D.was n (D.now.getD n.toNat []), order := if (kvGet D.was n).isSome then D.order else D.order ++ [n], now := D.now.set n.toNat s }
def Dk.write (D : Dk) (n : Int) (s : List UInt8) : Int × Dk :=
  if D.may n ≠ 0 then (D.may n, D) else if s.length ≠ 256 then (1, D) else if D.fuse = 0 then (5, { D with gone := true }) else (0, D.put n s)

set_option maxHeartbeats 1000000 in
theorem Write_does (b : Nat) (D : Dk) (n : Int) (s : List UInt8) : Does Try.prog 45 [.pointer (some ⟨b, 0, none⟩), .int .i64 n, .string (str s)] [Disk b D] (fun v H => v = .int .i64 (D.write n s).1 ∧ H = [Disk b (D.write n s).2]) := by
  refine does_of Try.func45 Try.ntmps45 rfl rfl rfl (fun w0 F0 => ?_)
  (repeat' (first | ((with_reducible apply g_seq)) | ((with_reducible apply g_region)) | ((with_reducible apply l_nil)) | ((with_reducible apply n_then)) | ((with_reducible apply l_pures1 env_ok); rfl; rfl; rfl) | ((with_reducible apply l_call c61); rfl; rfl; rfl; rfl; (with_reducible exact may_does b D n); (repeat (first | (with_reducible exact Parts.nil) | ((with_reducible apply Parts.cons); (repeat (first | (with_reducible exact Take.here) | ((with_reducible apply Take.there))))))); rintro _ _ _ ⟨rfl, rfl⟩ he; cases he) | ((with_reducible apply g_skip)) | ((with_reducible apply g_ret)) | ((with_reducible apply n_then_ret)) | ((with_reducible apply g_cond); rfl; (intro h; (try dsimp only at h); (try simp only [beq_true, beq_false, decide_eq_decide, beq_iff_eq, bne_iff_ne, beq_eq_false_iff_ne, bne_eq_false_iff_eq, decide_eq_true_eq, decide_eq_false_iff_not, Bool.not_eq_true', Bool.not_eq_false', ne_eq, Decidable.not_not] at h); (try (focus (exfalso; first | (simp only [eq_self, not_true_eq_false, not_false_eq_true, reduceCtorEq] at h; done) | omega)))); rotate_left; (intro h; (try dsimp only at h); (try simp only [beq_true, beq_false, decide_eq_decide, beq_iff_eq, bne_iff_ne, beq_eq_false_iff_ne, bne_eq_false_iff_eq, decide_eq_true_eq, decide_eq_false_iff_not, Bool.not_eq_true', Bool.not_eq_false', ne_eq, Decidable.not_not] at h); (try (focus (exfalso; first | (simp only [eq_self, not_true_eq_false, not_false_eq_true, reduceCtorEq] at h; done) | omega)))); rotate_left)))
  · (apply n_ret env_ok rfl; (repeat (first | (with_reducible exact ResV.nil) | (apply ResV.tmp; rfl) | (apply ResV.cell; rfl; (repeat (first | (with_reducible exact Take.here) | ((with_reducible apply Take.there)))); rfl) | exact ResV.nil)); refine ⟨_, ?_, fun i => i⟩)
    exact ⟨by rw [Dk.write, if_pos (by assumption)]; rfl, by rw [Dk.write, if_pos (by assumption)]⟩
  · (apply n_ret env_ok rfl; (repeat (first | (with_reducible exact ResV.nil) | (apply ResV.tmp; rfl) | (apply ResV.cell; rfl; (repeat (first | (with_reducible exact Take.here) | ((with_reducible apply Take.there)))); rfl) | exact ResV.nil)); refine ⟨_, ?_, fun i => i⟩)
    exact ⟨by rw [Dk.write, if_neg (by omega), if_pos (by omega)]; rfl, by rw [Dk.write, if_neg (by omega), if_pos (by omega)]⟩
  · rename_i hm
    obtain ⟨h1, h2, h3⟩ := Dk.may_0 hm
    (refine l_open (H' := ?_) (show Opens (Disk b D) _ _ from hid_opens) ?_ ?_; rotate_left; (focus (repeat (first | (with_reducible exact Take.here) | ((with_reducible apply Take.there)))))); (rintro ⟨bn, c, bm, ⟨po, co⟩, rest⟩ ⟨ok, hc, hc2⟩; dsimp only [DiskK, List.cons_append, List.nil_append])
    have hf := ok.f
    have hn := ok.n
    obtain ⟨o1, o2, o3, o4⟩ := ok.o
    have hw : IntKind.i64.wrap (D.fuse - 1) = D.fuse - 1 := wrapI64 (by omega)
    have hg : (D.now.map encS ++ rest)[0 + n.toNat * 1]? = some (encS (D.now.getD n.toNat [])) := by
      rw [Nat.zero_add, Nat.mul_one]; exact encS_get (by omega)
    have h256 : ¬ s.length ≠ 256 := by omega
    (repeat' (first | ((with_reducible apply g_seq)) | ((with_reducible apply g_region)) | ((with_reducible apply l_nil)) | ((with_reducible apply n_then)) | ((with_reducible apply l_pures1 env_ok); rfl; rfl; rfl) | ((with_reducible apply l_load env_ok); rfl; rfl; (repeat (first | (with_reducible exact Take.here) | ((with_reducible apply Take.there)))); rfl) | ((with_reducible apply l_store env_ok); rfl; rfl; rfl; rfl; rfl; (repeat (first | (with_reducible exact Take.here) | ((with_reducible apply Take.there)))); rfl) | ((with_reducible apply l_store_at env_ok); rfl; rfl; rfl; rfl; (repeat (first | (with_reducible exact Take.here) | ((with_reducible apply Take.there)))); (first | omega | (simp only [List.length_map, List.length_replicate, List.length_append, List.length_set, List.length_cons, List.length_nil, bsV] at *; omega))) | ((with_reducible apply l_indexAddr env_ok); rfl; rfl; rfl; rfl; rfl; (first | assumption | omega | (refine ⟨?_, ?_⟩ <;> omega) | (simp only [List.length_cons, List.length_nil, str] at *; omega) | (simp only [List.length_append] at *; omega))) | ((with_reducible apply l_lookup_ok _ env_ok); rfl; rfl; rfl; rfl; rfl; rfl; (repeat (first | (with_reducible exact Take.here) | ((with_reducible apply Take.there)))); rfl) | ((with_reducible apply g_skip)) | ((with_reducible apply g_ret)) | ((with_reducible apply n_then_ret)) | ((with_reducible apply g_cond); rfl; (intro h; (try dsimp only at h); (try simp only [beq_true, beq_false, decide_eq_decide, beq_iff_eq, bne_iff_ne, beq_eq_false_iff_ne, bne_eq_false_iff_eq, decide_eq_true_eq, decide_eq_false_iff_not, Bool.not_eq_true', Bool.not_eq_false', ne_eq, Decidable.not_not] at h); (try (focus (exfalso; first | (simp only [eq_self, not_true_eq_false, not_false_eq_true, reduceCtorEq] at h; done) | omega)))); rotate_left; (intro h; (try dsimp only at h); (try simp only [beq_true, beq_false, decide_eq_decide, beq_iff_eq, bne_iff_ne, beq_eq_false_iff_ne, bne_eq_false_iff_eq, decide_eq_true_eq, decide_eq_false_iff_not, Bool.not_eq_true', Bool.not_eq_false', ne_eq, Decidable.not_not] at h); (try (focus (exfalso; first | (simp only [eq_self, not_true_eq_false, not_false_eq_true, reduceCtorEq] at h; done) | omega)))); rotate_left)))
    · (have hshut_ : Shuts (DiskK b { D with gone := true } ((bn, c, bm, (po, co), rest))) (Disk b { D with gone := true }) := hid_shuts ((bn, c, bm, (po, co), rest)) ⟨⟨ok.n, ok.f, ok.o, ok.s⟩, hc, hc2⟩); (with_reducible apply n_shut hshut_); (focus (dsimp only [DiskK]; (try simp only [List.map_nil, List.length_nil, List.length_set, List.length_append, List.length_cons, List.length_singleton, List.map_append, List.map_cons, Nat.zero_add]); (repeat (first | (with_reducible exact Parts.nil) | ((with_reducible apply Parts.cons); (repeat (first | (with_reducible exact Take.here) | ((with_reducible apply Take.there)))))))))
      (apply n_ret env_ok rfl; (repeat (first | (with_reducible exact ResV.nil) | (apply ResV.tmp; rfl) | (apply ResV.cell; rfl; (repeat (first | (with_reducible exact Take.here) | ((with_reducible apply Take.there)))); rfl) | exact ResV.nil)); refine ⟨_, ?_, fun i => i⟩)
      exact ⟨by rw [Dk.write, if_neg (by omega), if_neg h256, if_pos (by assumption)]; rfl, by rw [Dk.write, if_neg (by omega), if_neg h256, if_pos (by assumption)]⟩
    · have hk : n ∉ D.order := by
        rw [← o4]; exact kvGet_none_iff.1 (by simpa using h)
      have hlt : D.order.length < D.now.length := room_of o2 o3 hk h2 h3
      ((with_reducible apply g_draw [_] env_ok); (repeat (first | (with_reducible exact Parts.nil) | ((with_reducible apply Parts.cons); (repeat (first | (with_reducible exact Take.here) | ((with_reducible apply Take.there))))))); ((with_reducible apply a_pass2 env_ok); rfl; rfl; rfl; (repeat (first | exact calm_post | (with_reducible apply calm_then) | (with_reducible apply calm_block)))))
      (repeat' (first | ((with_reducible apply g_seq)) | ((with_reducible apply g_region)) | ((with_reducible apply l_nil)) | ((with_reducible apply n_then)) | ((with_reducible apply l_pures1 env_ok); rfl; rfl; rfl) | ((with_reducible apply l_load env_ok); rfl; rfl; (repeat (first | (with_reducible exact Take.here) | ((with_reducible apply Take.there)))); rfl) | ((with_reducible apply l_store env_ok); rfl; rfl; rfl; rfl; rfl; (repeat (first | (with_reducible exact Take.here) | ((with_reducible apply Take.there)))); rfl) | ((with_reducible apply l_load_at env_ok); rfl; rfl; (repeat (first | (with_reducible exact Take.here) | ((with_reducible apply Take.there)))); rfl; rfl; (first | assumption | exact bsV_get (by first | omega | (simp; omega)))) | ((with_reducible apply l_store_at env_ok); rfl; rfl; rfl; rfl; (repeat (first | (with_reducible exact Take.here) | ((with_reducible apply Take.there)))); (first | omega | (simp only [List.length_map, List.length_replicate, List.length_append, List.length_set, List.length_cons, List.length_nil, bsV] at *; omega))) | ((with_reducible apply l_indexAddr env_ok); rfl; rfl; rfl; rfl; rfl; (first | assumption | omega | (refine ⟨?_, ?_⟩ <;> omega) | (simp only [List.length_cons, List.length_nil, str] at *; omega) | (simp only [List.length_append] at *; omega))) | ((with_reducible apply l_mapUpdate env_ok); rfl; rfl; rfl; rfl; rfl; (repeat (first | (with_reducible exact Take.here) | ((with_reducible apply Take.there)))); rfl) | ((with_reducible apply l_buildSlice1 env_ok); rfl; rfl; rfl; rfl; rfl; rfl; (exact ⟨rfl, rfl, rfl, rfl⟩); intro _) | ((with_reducible apply l_append_new env_ok); rfl; rfl; rfl; rfl; rfl; rfl; (repeat (first | (with_reducible exact Take.here) | ((with_reducible apply Take.there)))); (repeat (first | (with_reducible exact Take.here) | ((with_reducible apply Take.there)))); rfl; rfl; (first | assumption | omega | (refine ⟨?_, ?_⟩ <;> omega) | (simp only [List.length_cons, List.length_nil, str] at *; omega) | (simp only [List.length_append] at *; omega)); intro _ _) | ((with_reducible apply g_ret)) | ((with_reducible apply a_done); rfl) | ((with_reducible apply a_load env_ok); (repeat (first | exact calm_post | (with_reducible apply calm_then) | (with_reducible apply calm_block))); rfl; rfl; rfl; rfl; rfl; (repeat (first | (with_reducible exact Take.here) | ((with_reducible apply Take.there)))); rfl; rfl; rfl; rfl; ((with_reducible apply a_pass2 env_ok); rfl; rfl; rfl; (repeat (first | exact calm_post | (with_reducible apply calm_then) | (with_reducible apply calm_block))))) | ((with_reducible apply a_one); rfl; rfl; rfl; rfl) | ((with_reducible apply n_any); (repeat (first | (with_reducible exact Parts.nil) | ((with_reducible apply Parts.cons); (repeat (first | (with_reducible exact Take.here) | ((with_reducible apply Take.there))))))); ((with_reducible apply a_pass2 env_ok); rfl; rfl; rfl; (repeat (first | exact calm_post | (with_reducible apply calm_then) | (with_reducible apply calm_block)))))))
      rename_i pe ce
      (simp only [cond_true, cond_false, mxI_eq, mnI_eq])
      rw [hw, encS_set (by omega)]
      have ex : D.put n s = { D with fuse := max (-1) (D.fuse - 1), was := kvPut D.was n (D.now.getD n.toNat []), order := D.order ++ [n], now := D.now.set n.toNat s } := by
        simp only [Dk.put, h, Bool.false_eq_true, if_false]
      have ok' : Dk.ok (D.put n s) := by
        rw [ex]
        refine ⟨by simpa using ok.n, ⟨by simp only; omega, by simp only; omega⟩, ⟨by simp; omega, ?_, ?_, ?_⟩, set_all (p := fun x : List UInt8 => x.length = 256) ok.s.1 (by omega), ?_⟩
        · exact List.nodup_append.2 ⟨o2, by simp, by intro x hx y hy; simp only [List.mem_singleton] at hy; subst hy; exact fun q => hk (q ▸ hx)⟩
        · intro i hi
          simp only [List.length_set]
          rcases List.mem_append.1 hi with hi | hi
          · exact o3 i hi
          · simp only [List.mem_singleton] at hi; subst hi; exact ⟨h2, h3⟩
        · rw [kvPut_none h, List.map_append, o4]; rfl
        · rw [kvPut_none h]
          intro p hp
          rcases List.mem_append.1 hp with hp | hp
          · exact ok.s.2 p hp
          · simp only [List.mem_singleton] at hp; subst hp
            exact getD_all (p := fun x : List UInt8 => x.length = 256) ok.s.1 (by omega)
      rw [ex] at ok'
      (have hshut_ : Shuts (DiskK b { D with fuse := max (-1) (D.fuse - 1), was := kvPut D.was n (D.now.getD n.toNat []), order := D.order ++ [n], now := D.now.set n.toNat s } ((bn, c, bm, (pe, ce), rest))) (Disk b { D with fuse := max (-1) (D.fuse - 1), was := kvPut D.was n (D.now.getD n.toNat []), order := D.order ++ [n], now := D.now.set n.toNat s }) := hid_shuts ((bn, c, bm, (pe, ce), rest)) ⟨ok', by simpa using hc, hc2⟩); (with_reducible apply n_shut hshut_); (focus (dsimp only [DiskK]; (try simp only [List.map_nil, List.length_nil, List.length_set, List.length_append, List.length_cons, List.length_singleton, List.map_append, List.map_cons, Nat.zero_add, encZ']); (repeat (first | (with_reducible exact Parts.nil) | ((with_reducible apply Parts.cons); (repeat (first | (with_reducible exact Take.here) | ((with_reducible apply Take.there)))))))))
      rw [← ex]
      (apply n_ret env_ok rfl; (repeat (first | (with_reducible exact ResV.nil) | (apply ResV.tmp; rfl) | (apply ResV.cell; rfl; (repeat (first | (with_reducible exact Take.here) | ((with_reducible apply Take.there)))); rfl) | exact ResV.nil)); refine ⟨[Disk b (D.put n s)], ?_, ?_⟩; rotate_left; (intro _; refine @inv_keep _ _ _ _ ?_ ?_ _); rotate_left; (repeat (first | (with_reducible exact Parts.nil) | ((with_reducible apply Parts.cons); (repeat (first | (with_reducible exact Take.here) | ((with_reducible apply Take.there))))))); rotate_right)
      exact ⟨by rw [Dk.write, if_neg (by omega), if_neg h256, if_neg (by assumption)]; rfl, by rw [Dk.write, if_neg (by omega), if_neg h256, if_neg (by assumption)]⟩
    · (simp only [cond_true, cond_false, mxI_eq, mnI_eq])
      rw [hw, encS_set (by omega)]
      have ex : D.put n s = { D with fuse := max (-1) (D.fuse - 1), now := D.now.set n.toNat s } := by
        simp only [Dk.put, h, if_true]
      (have hshut_ : Shuts (DiskK b { D with fuse := max (-1) (D.fuse - 1), now := D.now.set n.toNat s } ((bn, c, bm, (po, co), rest))) (Disk b { D with fuse := max (-1) (D.fuse - 1), now := D.now.set n.toNat s }) := hid_shuts ((bn, c, bm, (po, co), rest)) ⟨⟨by simpa using ok.n, ⟨by simp only; omega, by simp only; omega⟩, by simpa using ok.o, set_all (p := fun x : List UInt8 => x.length = 256) ok.s.1 (by omega), ok.s.2⟩, by simpa using hc, hc2⟩); (with_reducible apply n_shut hshut_); (focus (dsimp only [DiskK]; (try simp only [List.map_nil, List.length_nil, List.length_set, List.length_append, List.length_cons, List.length_singleton, List.map_append, List.map_cons, Nat.zero_add]); (repeat (first | (with_reducible exact Parts.nil) | ((with_reducible apply Parts.cons); (repeat (first | (with_reducible exact Take.here) | ((with_reducible apply Take.there)))))))))
      rw [← ex]
      (apply n_ret env_ok rfl; (repeat (first | (with_reducible exact ResV.nil) | (apply ResV.tmp; rfl) | (apply ResV.cell; rfl; (repeat (first | (with_reducible exact Take.here) | ((with_reducible apply Take.there)))); rfl) | exact ResV.nil)); refine ⟨_, ?_, fun i => i⟩)
      exact ⟨by rw [Dk.write, if_neg (by omega), if_neg h256, if_neg (by assumption)]; rfl, by rw [Dk.write, if_neg (by omega), if_neg h256, if_neg (by assumption)]⟩

/-- What a crash leaves: of the loose ones, the oldest first, those that are told. -/
def crashN (was : List (Int × List UInt8)) : List Int → List Int → List (List UInt8) → List (List UInt8)
  | [], _, now => now
  | n :: os, [], now => crashN was os [] (now.set n.toNat ((kvGet was n).getD []))
  | n :: os, k :: ks, now => crashN was os ks (if k % 2 = 0 then now.set n.toNat ((kvGet was n).getD []) else now)
def Dk.crash (D : Dk) (ks : List Int) : Dk := { now := crashN D.was D.order ks D.now, was := [], order := [], fuse := -1, gone := false }
theorem crashN_len (was : List (Int × List UInt8)) : ∀ (os ks : List Int) (now : List (List UInt8)), (crashN was os ks now).length = now.length
  | [], ks, now => by simp [crashN]
  | n :: os, [], now => by simp [crashN, crashN_len was os]
  | n :: os, k :: ks, now => by
    rw [crashN, crashN_len was os]
    split <;> simp
theorem crashN_all {was : List (Int × List UInt8)} {o : List Int} (hw : ∀ i ∈ o, ((kvGet was i).getD []).length = 256) : ∀ (os ks : List Int) {now : List (List UInt8)}, (∀ i ∈ os, i ∈ o) → (∀ x ∈ now, x.length = 256) → ∀ x ∈ crashN was os ks now, x.length = 256
  | [], ks, now, _, h => by simpa [crashN] using h
  | n :: os, [], now, ho, h => crashN_all hw os [] (fun i hi => ho i (by simp [hi])) (set_all (p := fun x : List UInt8 => x.length = 256) h (hw n (ho n (by simp))))
  | n :: os, k :: ks, now, ho, h => by
    rw [crashN]
    refine crashN_all hw os ks (fun i hi => ho i (by simp [hi])) ?_
    split
    · exact set_all (p := fun x : List UInt8 => x.length = 256) h (hw n (ho n (by simp)))
    · exact h
theorem crashN_snoc (was : List (Int × List UInt8)) (n : Int) : ∀ (os ks : List Int) (now : List (List UInt8)), crashN was (os ++ [n]) ks now = if ks.length ≤ os.length ∨ ks.getD os.length 0 % 2 = 0 then (crashN was os ks now).set n.toNat ((kvGet was n).getD []) else crashN was os ks now
  | [], [], now => by simp [crashN]
  | [], k :: ks, now => by simp [crashN]
  | m :: os, [], now => by
    simp only [List.cons_append, crashN, crashN_snoc was n os]
    simp
  | m :: os, k :: ks, now => by
    simp only [List.cons_append, crashN, crashN_snoc was n os]
    simp
theorem crashN_take {was : List (Int × List UInt8)} {os ks : List Int} {now : List (List UInt8)} {j : Nat} (h : j < os.length) :
    crashN was (os.take (j + 1)) ks now = if ks.length ≤ j ∨ ks.getD j 0 % 2 = 0 then (crashN was (os.take j) ks now).set (os.getD j 0).toNat ((kvGet was (os.getD j 0)).getD []) else crashN was (os.take j) ks now := by
  rw [List.take_succ_eq_append_getElem h, crashN_snoc]
  simp [List.getD, h, Nat.min_eq_left (Nat.le_of_lt h)]
theorem encZ_get {l : List Int} {r : List Value} {j : Nat} (h : j < l.length) : (l.map encZ' ++ r)[j]? = some (.int .i64 (l.getD j 0)) := by
  rw [List.getElem?_append_left (by simpa using h), List.getElem?_map, List.getD, List.getElem?_eq_getElem h]; rfl

set_option maxHeartbeats 1000000 in
theorem Crash_does (b : Nat) (D : Dk) (ks : List Int) (pk : Option Addr) (ck : Nat) (o : Obj) (hks : ks.length ≤ 9223372036854775807) : Does Try.prog 23 [.pointer (some ⟨b, 0, none⟩), .slice pk ks.length ck] [Disk b D, ins pk ks.length (ks.map encZ') o]
    (fun v H => v = .tuple #[] ∧ H = [Disk b (D.crash ks), ins pk ks.length (ks.map encZ') o]) := by
  refine does_of Try.func23 Try.ntmps23 rfl rfl rfl (fun w0 F0 => ?_)
  (refine g_open (H' := ?_) (show Opens (Disk b D) _ _ from hid_opens) ?_ ?_; rotate_left; (focus (repeat (first | (with_reducible exact Take.here) | ((with_reducible apply Take.there)))))); (rintro ⟨bn, c, bm, ⟨po, co⟩, rest⟩ ⟨ok, hc, hc2⟩; dsimp only [DiskK, List.cons_append, List.nil_append])
  have hn := ok.n
  obtain ⟨o1, o2, o3, o4⟩ := ok.o
  (repeat (first | ((with_reducible apply g_seq)) | ((with_reducible apply g_region)) | ((with_reducible apply l_nil)) | ((with_reducible apply n_then)) | ((with_reducible apply l_pures1 env_ok); rfl; rfl; rfl) | ((with_reducible apply l_load env_ok); rfl; rfl; (repeat (first | (with_reducible exact Take.here) | ((with_reducible apply Take.there)))); rfl) | ((with_reducible apply g_block))))
  (refine g_loop (fun j : Nat => [(9, .slice po D.order.length co), (10, .int .i64 D.order.length), (11, .int .i64 j), (0, .pointer (some ⟨b, 0, none⟩)), (1, .slice pk ks.length ck)]) (fun j => [cl b 71 [.slice (some ⟨bn, 0, none⟩) D.now.length c, .map (some bm), .slice po D.order.length co, .int .i64 D.fuse, .bool D.gone], cl bn 9 ((crashN D.was (D.order.take j) ks D.now).map encS ++ rest), mp bm encS D.was, vec 3 1 po D.order.length co (D.order.map encZ'), ins pk ks.length (ks.map encZ') o]) (fun j => j ≤ D.order.length) (fun j => D.order.length - j) (0) ?_ ?_ ?_ ?_; rotate_left; (repeat (first | (with_reducible exact ts_nil) | ((with_reducible apply ts_cons); rfl; first | (with_reducible rfl) | rotate_left))); (first | (intro _ i; with_reducible exact i) | rotate_left); rotate_left; (try omega); rotate_right)
  · intro j hj
    (repeat' (first | ((with_reducible apply g_seq)) | ((with_reducible apply g_region)) | ((with_reducible apply l_nil)) | ((with_reducible apply n_then)) | ((with_reducible apply l_pures1 env_ok); rfl; rfl; rfl) | ((with_reducible apply g_skip)) | ((with_reducible apply g_block)) | ((with_reducible apply g_exit)) | ((with_reducible apply n_then_exit)) | ((with_reducible apply n_block_hit)) | ((with_reducible apply g_cond); rfl; (intro h; (try dsimp only at h); (try simp only [beq_true, beq_false, decide_eq_decide, beq_iff_eq, bne_iff_ne, beq_eq_false_iff_ne, bne_eq_false_iff_eq, decide_eq_true_eq, decide_eq_false_iff_not, Bool.not_eq_true', Bool.not_eq_false', ne_eq, Decidable.not_not] at h); (try (focus (exfalso; first | (simp only [eq_self, not_true_eq_false, not_false_eq_true, reduceCtorEq] at h; done) | omega)))); rotate_left; (intro h; (try dsimp only at h); (try simp only [beq_true, beq_false, decide_eq_decide, beq_iff_eq, bne_iff_ne, beq_eq_false_iff_ne, bne_eq_false_iff_eq, decide_eq_true_eq, decide_eq_false_iff_not, Bool.not_eq_true', Bool.not_eq_false', ne_eq, Decidable.not_not] at h); (try (focus (exfalso; first | (simp only [eq_self, not_true_eq_false, not_false_eq_true, reduceCtorEq] at h; done) | omega)))); rotate_left)))
    · (with_reducible apply l_open (vec_opens (p := po) (m := D.order.length) (by omega)); (focus (repeat (first | (with_reducible exact Take.here) | ((with_reducible apply Take.there)))))); (rintro ⟨g, r⟩ ⟨rfl, v1, v2, v3, v4⟩; dsimp only [List.cons_append, List.nil_append])
      have hlt : j < D.order.length := by omega
      have hg : (D.order.map encZ' ++ r)[0 + j * 1]? = some (.int .i64 (D.order.getD j 0)) := by rw [Nat.zero_add, Nat.mul_one]; exact encZ_get hlt
      have hm : 0 ≤ D.order.getD j 0 ∧ D.order.getD j 0 < D.now.length := by
        rw [List.getD, List.getElem?_eq_getElem hlt]; exact o3 _ (List.getElem_mem _)
      have hl2 : (crashN D.was (D.order.take j) ks D.now).length = D.now.length := crashN_len _ _ _ _
      (repeat' (first | ((with_reducible apply g_seq)) | ((with_reducible apply g_region)) | ((with_reducible apply l_nil)) | ((with_reducible apply n_then)) | ((with_reducible apply l_pures1 env_ok); rfl; rfl; rfl) | ((with_reducible apply l_guard_yes); rfl; rfl; rfl) | ((with_reducible apply l_guard_no); rfl; rfl; rfl; rfl; rfl) | ((with_reducible apply l_load_at env_ok); rfl; rfl; (repeat (first | (with_reducible exact Take.here) | ((with_reducible apply Take.there)))); rfl; rfl; (first | assumption | exact bsV_get (by first | omega | (simp; omega)))) | ((with_reducible apply l_indexAddr env_ok); rfl; rfl; rfl; rfl; rfl; (first | assumption | omega | (refine ⟨?_, ?_⟩ <;> omega) | (simp only [List.length_cons, List.length_nil, str] at *; omega) | (simp only [List.length_append] at *; omega))) | ((with_reducible apply g_cond_t); rfl) | ((with_reducible apply l_guard_split); rfl; rfl; (intro h; (try dsimp only at h); (try simp only [beq_true, beq_false, decide_eq_decide, beq_iff_eq, bne_iff_ne, beq_eq_false_iff_ne, bne_eq_false_iff_eq, decide_eq_true_eq, decide_eq_false_iff_not, Bool.not_eq_true', Bool.not_eq_false', ne_eq, Decidable.not_not] at h); (try (focus (exfalso; first | (simp only [eq_self, not_true_eq_false, not_false_eq_true, reduceCtorEq] at h; done) | omega)))); rotate_left; (intro h; (try dsimp only at h); (try simp only [beq_true, beq_false, decide_eq_decide, beq_iff_eq, bne_iff_ne, beq_eq_false_iff_ne, bne_eq_false_iff_eq, decide_eq_true_eq, decide_eq_false_iff_not, Bool.not_eq_true', Bool.not_eq_false', ne_eq, Decidable.not_not] at h); (try (focus (exfalso; first | (simp only [eq_self, not_true_eq_false, not_false_eq_true, reduceCtorEq] at h; done) | omega)))); rotate_left)))
      · ((with_reducible apply g_draw [_, _] env_ok); (repeat (first | (with_reducible exact Parts.nil) | ((with_reducible apply Parts.cons); (repeat (first | (with_reducible exact Take.here) | ((with_reducible apply Take.there))))))); ((with_reducible apply a_pass2 env_ok); rfl; rfl; rfl; (repeat (first | exact calm_post | (with_reducible apply calm_then) | (with_reducible apply calm_block)))))
        (repeat' (first | ((with_reducible apply g_region)) | ((with_reducible apply l_nil)) | ((with_reducible apply n_then)) | ((with_reducible apply l_pures1 env_ok); rfl; rfl; rfl) | ((with_reducible apply l_store_at env_ok); rfl; rfl; rfl; rfl; (repeat (first | (with_reducible exact Take.here) | ((with_reducible apply Take.there)))); (first | omega | (simp only [List.length_map, List.length_replicate, List.length_append, List.length_set, List.length_cons, List.length_nil, bsV] at *; omega))) | ((with_reducible apply l_indexAddr env_ok); rfl; rfl; rfl; rfl; rfl; (first | assumption | omega | (refine ⟨?_, ?_⟩ <;> omega) | (simp only [List.length_cons, List.length_nil, str] at *; omega) | (simp only [List.length_append] at *; omega))) | ((with_reducible apply l_lookup _ env_ok); rfl; rfl; rfl; rfl; rfl; rfl; (repeat (first | (with_reducible exact Take.here) | ((with_reducible apply Take.there)))); rfl) | ((with_reducible apply a_done); rfl) | ((with_reducible apply a_load env_ok); (repeat (first | exact calm_post | (with_reducible apply calm_then) | (with_reducible apply calm_block))); rfl; rfl; rfl; rfl; rfl; (repeat (first | (with_reducible exact Take.here) | ((with_reducible apply Take.there)))); rfl; rfl; rfl; rfl; ((with_reducible apply a_pass2 env_ok); rfl; rfl; rfl; (repeat (first | exact calm_post | (with_reducible apply calm_then) | (with_reducible apply calm_block))))) | ((with_reducible apply a_one); rfl; rfl; rfl; rfl) | ((with_reducible apply n_any); (repeat (first | (with_reducible exact Parts.nil) | ((with_reducible apply Parts.cons); (repeat (first | (with_reducible exact Take.here) | ((with_reducible apply Take.there))))))); ((with_reducible apply a_pass2 env_ok); rfl; rfl; rfl; (repeat (first | exact calm_post | (with_reducible apply calm_then) | (with_reducible apply calm_block))))) | ((with_reducible apply n_block))))
        rw [encS_set' (by omega)]
        (with_reducible apply n_shut (vec_shuts v1 v2 v3 v4)); (focus (repeat (first | (with_reducible exact Parts.nil) | ((with_reducible apply Parts.cons); (repeat (first | (with_reducible exact Take.here) | ((with_reducible apply Take.there))))))))
        (refine n_back (j + 1) ?_ ?_ ?_ ?_; rotate_left; rotate_left; (repeat (first | (with_reducible exact ts_nil) | ((with_reducible apply ts_cons); rfl; first | (with_reducible rfl) | rotate_left))); (first | (intro _ i; with_reducible exact i) | rotate_left); (try omega); (try omega))
        · rw [wrapI64 (by omega)]; rfl
        · rw [crashN_take hlt, if_pos (.inl (by omega))]
          (intro _ i; exact inv_keep (by (repeat (first | (with_reducible exact Parts.nil) | ((with_reducible apply Parts.cons); (repeat (first | (with_reducible exact Take.here) | ((with_reducible apply Take.there)))))))) i)
      · (first | (with_reducible apply g_open (ins_opens (p := pk) (m := ks.length) (by omega)); (focus (repeat (first | (with_reducible exact Take.here) | ((with_reducible apply Take.there)))))) | (with_reducible apply l_open (ins_opens (p := pk) (m := ks.length) (by omega)); (focus (repeat (first | (with_reducible exact Take.here) | ((with_reducible apply Take.there)))))) | (with_reducible apply n_open (ins_opens (p := pk) (m := ks.length) (by omega)); (focus (repeat (first | (with_reducible exact Take.here) | ((with_reducible apply Take.there))))))); (rintro ⟨g', off, row, fr, T⟩ ⟨rfl, rfl, v5, v6, v7⟩; dsimp only [List.cons_append, List.nil_append])
        have hg2 : row[off + j * 1]? = some (.int .i64 (ks.getD j 0)) := by
          have hjk : j < ks.length := by omega
          have hv := congrArg (fun q => q[j]?) v5
          simp only [List.getElem?_take_of_lt hjk, List.getElem?_drop, List.getElem?_map, List.getElem?_eq_getElem hjk] at hv
          rw [Nat.mul_one, hv, List.getD, List.getElem?_eq_getElem hjk]; rfl
        (repeat' (first | ((with_reducible apply g_region)) | ((with_reducible apply l_nil)) | ((with_reducible apply n_then)) | ((with_reducible apply l_pures1 env_ok); rfl; rfl; rfl) | ((with_reducible apply l_guard_yes); rfl; rfl; rfl) | ((with_reducible apply l_load_p env_ok); rfl; rfl; (repeat (first | (with_reducible exact Take.here) | ((with_reducible apply Take.there)))); rfl; rfl; (first | assumption | exact bsV_get (by first | omega | (simp; omega)))) | ((with_reducible apply l_indexAddr env_ok); rfl; rfl; rfl; rfl; rfl; (first | assumption | omega | (refine ⟨?_, ?_⟩ <;> omega) | (simp only [List.length_cons, List.length_nil, str] at *; omega) | (simp only [List.length_append] at *; omega))) | ((with_reducible apply g_skip)) | ((with_reducible apply n_block)) | ((with_reducible apply g_cond); rfl; (intro h; (try dsimp only at h); (try simp only [beq_true, beq_false, decide_eq_decide, beq_iff_eq, bne_iff_ne, beq_eq_false_iff_ne, bne_eq_false_iff_eq, decide_eq_true_eq, decide_eq_false_iff_not, Bool.not_eq_true', Bool.not_eq_false', ne_eq, Decidable.not_not] at h); (try (focus (exfalso; first | (simp only [eq_self, not_true_eq_false, not_false_eq_true, reduceCtorEq] at h; done) | omega)))); rotate_left; (intro h; (try dsimp only at h); (try simp only [beq_true, beq_false, decide_eq_decide, beq_iff_eq, bne_iff_ne, beq_eq_false_iff_ne, bne_eq_false_iff_eq, decide_eq_true_eq, decide_eq_false_iff_not, Bool.not_eq_true', Bool.not_eq_false', ne_eq, Decidable.not_not] at h); (try (focus (exfalso; first | (simp only [eq_self, not_true_eq_false, not_false_eq_true, reduceCtorEq] at h; done) | omega)))); rotate_left)))
        · have hodd : ks.getD j 0 % 2 = 0 := by rw [← bits_odd]; assumption
          ((with_reducible apply g_draw [_, _, _] env_ok); (repeat (first | (with_reducible exact Parts.nil) | ((with_reducible apply Parts.cons); (repeat (first | (with_reducible exact Take.here) | ((with_reducible apply Take.there))))))); ((with_reducible apply a_pass2 env_ok); rfl; rfl; rfl; (repeat (first | exact calm_post | (with_reducible apply calm_then) | (with_reducible apply calm_block)))))
          (repeat' (first | ((with_reducible apply g_region)) | ((with_reducible apply l_nil)) | ((with_reducible apply n_then)) | ((with_reducible apply l_pures1 env_ok); rfl; rfl; rfl) | ((with_reducible apply l_store_at env_ok); rfl; rfl; rfl; rfl; (repeat (first | (with_reducible exact Take.here) | ((with_reducible apply Take.there)))); (first | omega | (simp only [List.length_map, List.length_replicate, List.length_append, List.length_set, List.length_cons, List.length_nil, bsV] at *; omega))) | ((with_reducible apply l_indexAddr env_ok); rfl; rfl; rfl; rfl; rfl; (first | assumption | omega | (refine ⟨?_, ?_⟩ <;> omega) | (simp only [List.length_cons, List.length_nil, str] at *; omega) | (simp only [List.length_append] at *; omega))) | ((with_reducible apply l_lookup _ env_ok); rfl; rfl; rfl; rfl; rfl; rfl; (repeat (first | (with_reducible exact Take.here) | ((with_reducible apply Take.there)))); rfl) | ((with_reducible apply a_done); rfl) | ((with_reducible apply a_load env_ok); (repeat (first | exact calm_post | (with_reducible apply calm_then) | (with_reducible apply calm_block))); rfl; rfl; rfl; rfl; rfl; (repeat (first | (with_reducible exact Take.here) | ((with_reducible apply Take.there)))); rfl; rfl; rfl; rfl; ((with_reducible apply a_pass2 env_ok); rfl; rfl; rfl; (repeat (first | exact calm_post | (with_reducible apply calm_then) | (with_reducible apply calm_block))))) | ((with_reducible apply a_one); rfl; rfl; rfl; rfl) | ((with_reducible apply n_any); (repeat (first | (with_reducible exact Parts.nil) | ((with_reducible apply Parts.cons); (repeat (first | (with_reducible exact Take.here) | ((with_reducible apply Take.there))))))); ((with_reducible apply a_pass2 env_ok); rfl; rfl; rfl; (repeat (first | exact calm_post | (with_reducible apply calm_then) | (with_reducible apply calm_block))))) | ((with_reducible apply n_block))))
          rw [encS_set' (by omega)]
          (with_reducible apply n_shut (vec_shuts v1 v2 v3 v4)); (focus (repeat (first | (with_reducible exact Parts.nil) | ((with_reducible apply Parts.cons); (repeat (first | (with_reducible exact Take.here) | ((with_reducible apply Take.there))))))))
          (with_reducible apply n_shut (ins_shuts v5 v6 v7)); (focus (repeat (first | (with_reducible exact Parts.nil) | ((with_reducible apply Parts.cons); (repeat (first | (with_reducible exact Take.here) | ((with_reducible apply Take.there))))))))
          (refine n_back (j + 1) ?_ ?_ ?_ ?_; rotate_left; rotate_left; (repeat (first | (with_reducible exact ts_nil) | ((with_reducible apply ts_cons); rfl; first | (with_reducible rfl) | rotate_left))); (first | (intro _ i; with_reducible exact i) | rotate_left); (try omega); (try omega))
          · rw [wrapI64 (by omega)]; rfl
          · rw [crashN_take hlt, if_pos (.inr hodd)]
            (intro _ i; exact inv_keep (by (repeat (first | (with_reducible exact Parts.nil) | ((with_reducible apply Parts.cons); (repeat (first | (with_reducible exact Take.here) | ((with_reducible apply Take.there)))))))) i)
        · have heven : ¬ ks.getD j 0 % 2 = 0 := by rw [← bits_odd]; assumption
          (with_reducible apply n_shut (vec_shuts v1 v2 v3 v4)); (focus (repeat (first | (with_reducible exact Parts.nil) | ((with_reducible apply Parts.cons); (repeat (first | (with_reducible exact Take.here) | ((with_reducible apply Take.there))))))))
          (with_reducible apply n_shut (ins_shuts v5 v6 v7)); (focus (repeat (first | (with_reducible exact Parts.nil) | ((with_reducible apply Parts.cons); (repeat (first | (with_reducible exact Take.here) | ((with_reducible apply Take.there))))))))
          (refine n_back (j + 1) ?_ ?_ ?_ ?_; rotate_left; rotate_left; (repeat (first | (with_reducible exact ts_nil) | ((with_reducible apply ts_cons); rfl; first | (with_reducible rfl) | rotate_left))); (first | (intro _ i; with_reducible exact i) | rotate_left); (try omega); (try omega))
          · rw [wrapI64 (by omega)]; rfl
          · rw [crashN_take hlt, if_neg (fun q => q.elim (by omega) heven)]
            (intro _ i; exact inv_keep (by (repeat (first | (with_reducible exact Parts.nil) | ((with_reducible apply Parts.cons); (repeat (first | (with_reducible exact Take.here) | ((with_reducible apply Take.there)))))))) i)
    · ((with_reducible apply l_makeMap (encS)); rfl; intro _)
      (repeat (first | ((with_reducible apply l_nil)) | ((with_reducible apply l_pures1 env_ok); rfl; rfl; rfl) | ((with_reducible apply l_store env_ok); rfl; rfl; rfl; rfl; rfl; (repeat (first | (with_reducible exact Take.here) | ((with_reducible apply Take.there)))); rfl)))
      rename_i bm'
      (with_reducible apply n_inv (fun i => vec_nil (3) (1) i))
      obtain rfl : j = D.order.length := by omega
      rw [List.take_length]
      have hl2 : (crashN D.was D.order ks D.now).length = D.now.length := crashN_len _ _ _ _
      rw [← hl2]
      (have hshut_ : Shuts (DiskK b (D.crash ks) ((bn, c, bm', (none, 0), rest))) (Disk b (D.crash ks)) := hid_shuts ((bn, c, bm', (none, 0), rest)) ⟨⟨by rw [Dk.crash, hl2]; exact hn, ⟨by simp [Dk.crash], by simp [Dk.crash]⟩, by simp [Dk.crash], by rw [Dk.crash]; exact crashN_all (fun i hi => kvGet_all (p := fun x : List UInt8 => x.length = 256) ok.s.2 (by rw [o4]; exact hi)) _ _ (fun i hi => hi) ok.s.1, by simp [Dk.crash]⟩, by rw [Dk.crash, hl2]; exact hc, hc2⟩); (with_reducible apply n_shut hshut_); (focus (dsimp only [DiskK]; (try simp only [List.map_nil, List.length_nil, List.length_set, List.length_append, List.length_cons, List.length_singleton, List.map_append, List.map_cons, Nat.zero_add, Dk.crash]); (repeat (first | (with_reducible exact Parts.nil) | ((with_reducible apply Parts.cons); (repeat (first | (with_reducible exact Take.here) | ((with_reducible apply Take.there)))))))))
      (apply n_end env_ok rfl; (repeat (first | (with_reducible exact ResV.nil) | (apply ResV.tmp; rfl) | (apply ResV.cell; rfl; (repeat (first | (with_reducible exact Take.here) | ((with_reducible apply Take.there)))); rfl) | exact ResV.nil)); refine ⟨[Disk b (D.crash ks), ins pk ks.length (ks.map encZ') o], ?_, ?_⟩; rotate_left; (intro _; refine @inv_keep _ _ _ _ ?_ ?_ _); rotate_left; (repeat (first | (with_reducible exact Parts.nil) | ((with_reducible apply Parts.cons); (repeat (first | (with_reducible exact Take.here) | ((with_reducible apply Take.there))))))); rotate_right)
      exact ⟨rfl, rfl⟩
  · rfl
  · simp only [List.take_zero, crashN]
    exact id
end Go.Proofs.Ytcbcpgaehdoekaa

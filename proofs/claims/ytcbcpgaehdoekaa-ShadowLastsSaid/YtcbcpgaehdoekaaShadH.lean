/- Package shadow: heads: text, lay, counts, read, over, Mount. -/
import Derived.Test.YtcbcpgaehdoekaaShadW
set_option linter.unusedVariables false
set_option linter.unusedSimpArgs false
namespace Go.Proofs.Ytcbcpgaehdoekaa
open Go.Proofs.Ytcbcpgaehdoekaa.SL

/-- A head: its number, its root, its used pages. -/
structure Hd where
  gen : Int
  root : Int
  used : List UInt8
def Hd.v (h : Hd) : Value := .agg #[.int .i64 h.gen, .int .i64 h.root, .string (str h.used)]
structure Hd.ok (h : Hd) : Prop where
  g : 0 ≤ h.gen ∧ h.gen ≤ 281474976710655
  r : 0 ≤ h.root ∧ h.root < 65536
  u : h.used.length ≤ 1000
def Hd.text (h : Hd) : List UInt8 := (numPut h.gen.toNat 6).1 ++ (numPut h.root.toNat 2).1 ++ h.used
theorem numPut_len (n : Nat) (size : Int) : (numPut n size).1.length ≤ size.toNat := by
  rw [numPut]
  split
  · simp
  · split
    · rw [putN_length]; exact Nat.le_refl _
    · simp
theorem wrapU64n {n : Int} (h : 0 ≤ n ∧ n ≤ 281474976710655) : IntKind.u64.wrap n = (n.toNat : Int) := by
  rw [wrapU64 (by omega)]; omega
theorem Put2_does (n : Nat) (size : Int) (hn : n < 18446744073709551616) (hs : -9223372036854775808 ≤ size ∧ size < 9223372036854775808) :
    Does Try.prog 65 [.int .u64 n, .int .i64 size] [] (fun v H => v = .tuple #[.string (str (numPut n size).1), .int .i64 (numPut n size).2] ∧ H = []) := Put_does n size hn hs
theorem text_does (h : Hd) (ok : h.ok) : Does Try.prog 49 [h.v] [] (fun v H => v = .string (str h.text) ∧ H = []) := by
  have hg := ok.g
  have hr := ok.r
  have hu := ok.u
  have e1 := wrapU64n (n := h.gen) hg
  have e2 := wrapU64n (n := h.root) (by omega)
  refine does_of Try.func49 Try.ntmps49 rfl rfl rfl (fun w0 F0 => ?_)
  (repeat' (first | ((with_reducible apply g_seq)) | ((with_reducible apply g_region)) | ((with_reducible apply l_nil)) | ((with_reducible apply n_then)) | ((with_reducible apply l_pures1 env_ok); rfl; rfl; rfl) | ((with_reducible apply l_load env_ok); rfl; rfl; (repeat (first | (with_reducible exact Take.here) | ((with_reducible apply Take.there)))); rfl) | ((with_reducible apply l_box); rfl; rfl; rfl; intro _)))
  rw [e1]
  (repeat' (first | ((with_reducible apply g_seq)) | ((with_reducible apply g_region)) | ((with_reducible apply l_nil)) | ((with_reducible apply n_then)) | ((with_reducible apply l_pures1 env_ok); rfl; rfl; rfl) | ((with_reducible apply l_call c65); rfl; rfl; rfl; rfl; (with_reducible exact Put2_does h.gen.toNat 6 (by omega) (by omega)); (repeat (first | (with_reducible exact Parts.nil) | ((with_reducible apply Parts.cons); (repeat (first | (with_reducible exact Take.here) | ((with_reducible apply Take.there))))))); rintro _ _ _ ⟨rfl, rfl⟩ he; cases he) | ((with_reducible apply l_load env_ok); rfl; rfl; (repeat (first | (with_reducible exact Take.here) | ((with_reducible apply Take.there)))); rfl)))
  rw [e2]
  have l1 := numPut_len h.gen.toNat 6
  have l2 := numPut_len h.root.toNat 2
  (repeat' (first | ((with_reducible apply g_seq)) | ((with_reducible apply g_region)) | ((with_reducible apply l_nil)) | ((with_reducible apply n_then)) | ((with_reducible apply l_pures1 env_ok); rfl; rfl; rfl) | ((with_reducible apply l_call c65); rfl; rfl; rfl; rfl; (with_reducible exact Put2_does h.root.toNat 2 (by omega) (by omega)); (repeat (first | (with_reducible exact Parts.nil) | ((with_reducible apply Parts.cons); (repeat (first | (with_reducible exact Take.here) | ((with_reducible apply Take.there))))))); rintro _ _ _ ⟨rfl, rfl⟩ he; cases he) | ((with_reducible apply l_load env_ok); rfl; rfl; (repeat (first | (with_reducible exact Take.here) | ((with_reducible apply Take.there)))); rfl) | ((with_reducible apply l_concat); rfl; rfl; rfl; (first | assumption | omega | (refine ⟨?_, ?_⟩ <;> omega) | (simp only [List.length_cons, List.length_nil, str] at *; omega) | (simp only [List.length_append] at *; omega))) | ((with_reducible apply g_ret))))
  (apply n_ret env_ok rfl; (repeat (first | (with_reducible exact ResV.nil) | (apply ResV.tmp; rfl) | (apply ResV.cell; rfl; (repeat (first | (with_reducible exact Take.here) | ((with_reducible apply Take.there)))); rfl) | exact ResV.nil)); refine ⟨[], ?_, ?_⟩; rotate_left; (intro _; refine @inv_keep _ _ _ _ ?_ ?_ _); rotate_left; (repeat (first | (with_reducible exact Parts.nil) | ((with_reducible apply Parts.cons); (repeat (first | (with_reducible exact Take.here) | ((with_reducible apply Take.there))))))); rotate_right)
  exact ⟨rfl, rfl⟩

theorem text2_does (h : Hd) (ok : h.ok) : Does Try.prog 49 [.agg #[.int .i64 h.gen, .int .i64 h.root, .string (str h.used)]] [] (fun v H => v = .string (str h.text) ∧ H = []) := text_does h ok
def Hd.lay (h : Hd) (D : Dk) : Int × Dk :=
  if (pageWrite D (h.gen.tmod 2) 1 h.text).1 ≠ 0 then pageWrite D (h.gen.tmod 2) 1 h.text else (pageWrite D (h.gen.tmod 2) 1 h.text).2.sync
theorem Hd.text_len {h : Hd} (ok : h.ok) : h.text.length < 9223372036854775808 := by
  have l1 := numPut_len h.gen.toNat 6
  have l2 := numPut_len h.root.toNat 2
  have := ok.u
  simp only [Hd.text, List.length_append]
  omega
theorem lay_does (q : Hd) (ok : q.ok) (db : Nat) (D : Dk) : Does Try.prog 35 [q.v, .pointer (some ⟨db, 0, none⟩)] [Disk db D] (fun v H => v = .int .i64 (q.lay D).1 ∧ H = [Disk db (q.lay D).2]) := by
  have ht := Hd.text_len ok
  refine does_of Try.func35 Try.ntmps35 rfl rfl rfl (fun w0 F0 => ?_)
  (repeat' (first | ((with_reducible apply g_seq)) | ((with_reducible apply g_region)) | ((with_reducible apply l_nil)) | ((with_reducible apply n_then)) | ((with_reducible apply l_pures1 env_ok); rfl; rfl; rfl) | ((with_reducible apply l_box); rfl; rfl; rfl; intro _)))
  ((with_reducible apply g_draw [_] env_ok); (repeat (first | (with_reducible exact Parts.nil) | ((with_reducible apply Parts.cons); (repeat (first | (with_reducible exact Take.here) | ((with_reducible apply Take.there))))))); ((with_reducible apply a_pass2 env_ok); rfl; rfl; rfl; (repeat (first | exact calm_post | (with_reducible apply calm_then) | (with_reducible apply calm_block)))))
  (repeat' (first | ((with_reducible apply g_seq)) | ((with_reducible apply g_region)) | ((with_reducible apply l_nil)) | ((with_reducible apply n_then)) | ((with_reducible apply l_pures1 env_ok); rfl; rfl; rfl) | ((with_reducible apply l_call c49); rfl; rfl; rfl; rfl; (with_reducible exact text2_does q ok); (repeat (first | (with_reducible exact Parts.nil) | ((with_reducible apply Parts.cons); (repeat (first | (with_reducible exact Take.here) | ((with_reducible apply Take.there))))))); rintro _ _ _ ⟨rfl, rfl⟩ he; cases he) | ((with_reducible apply l_call c30); rfl; rfl; rfl; rfl; (with_reducible exact pWrite_does db D (q.gen.tmod 2) 1 q.text ht); (repeat (first | (with_reducible exact Parts.nil) | ((with_reducible apply Parts.cons); (repeat (first | (with_reducible exact Take.here) | ((with_reducible apply Take.there))))))); rintro _ _ _ ⟨rfl, rfl⟩ he; cases he) | ((with_reducible apply l_call c34); rfl; rfl; rfl; rfl; (with_reducible exact Sync_does db (pageWrite D (q.gen.tmod 2) 1 q.text).2); (repeat (first | (with_reducible exact Parts.nil) | ((with_reducible apply Parts.cons); (repeat (first | (with_reducible exact Take.here) | ((with_reducible apply Take.there))))))); rintro _ _ _ ⟨rfl, rfl⟩ he; cases he) | ((with_reducible apply g_skip)) | ((with_reducible apply g_ret)) | ((with_reducible apply n_then_ret)) | ((with_reducible apply a_done); rfl) | ((with_reducible apply a_load env_ok); (repeat (first | exact calm_post | (with_reducible apply calm_then) | (with_reducible apply calm_block))); rfl; rfl; rfl; rfl; rfl; (repeat (first | (with_reducible exact Take.here) | ((with_reducible apply Take.there)))); rfl; rfl; rfl; rfl; ((with_reducible apply a_pass2 env_ok); rfl; rfl; rfl; (repeat (first | exact calm_post | (with_reducible apply calm_then) | (with_reducible apply calm_block))))) | ((with_reducible apply a_one); rfl; rfl; rfl; rfl) | ((with_reducible apply n_any); (repeat (first | (with_reducible exact Parts.nil) | ((with_reducible apply Parts.cons); (repeat (first | (with_reducible exact Take.here) | ((with_reducible apply Take.there))))))); ((with_reducible apply a_pass2 env_ok); rfl; rfl; rfl; (repeat (first | exact calm_post | (with_reducible apply calm_then) | (with_reducible apply calm_block))))) | ((with_reducible apply g_cond); rfl; (intro h; (try dsimp only at h); (try simp only [beq_true, beq_false, decide_eq_decide, beq_iff_eq, bne_iff_ne, beq_eq_false_iff_ne, bne_eq_false_iff_eq, decide_eq_true_eq, decide_eq_false_iff_not, Bool.not_eq_true', Bool.not_eq_false', ne_eq, Decidable.not_not] at h); (try (focus (exfalso; first | (simp only [eq_self, not_true_eq_false, not_false_eq_true, reduceCtorEq] at h; done) | omega)))); rotate_left; (intro h; (try dsimp only at h); (try simp only [beq_true, beq_false, decide_eq_decide, beq_iff_eq, bne_iff_ne, beq_eq_false_iff_ne, bne_eq_false_iff_eq, decide_eq_true_eq, decide_eq_false_iff_not, Bool.not_eq_true', Bool.not_eq_false', ne_eq, Decidable.not_not] at h); (try (focus (exfalso; first | (simp only [eq_self, not_true_eq_false, not_false_eq_true, reduceCtorEq] at h; done) | omega)))); rotate_left)))
  · have e : q.lay D = pageWrite D (q.gen.tmod 2) 1 q.text := by simp [Hd.lay, *]
    rw [e]
    (apply n_ret env_ok rfl; (repeat (first | (with_reducible exact ResV.nil) | (apply ResV.tmp; rfl) | (apply ResV.cell; rfl; (repeat (first | (with_reducible exact Take.here) | ((with_reducible apply Take.there)))); rfl) | exact ResV.nil)); refine ⟨[Disk db (pageWrite D (q.gen.tmod 2) 1 q.text).2], ?_, ?_⟩; rotate_left; (intro _; refine @inv_keep _ _ _ _ ?_ ?_ _); rotate_left; (repeat (first | (with_reducible exact Parts.nil) | ((with_reducible apply Parts.cons); (repeat (first | (with_reducible exact Take.here) | ((with_reducible apply Take.there))))))); rotate_right)
    exact ⟨rfl, rfl⟩
  · have e : q.lay D = (pageWrite D (q.gen.tmod 2) 1 q.text).2.sync := by simp [Hd.lay, *]
    rw [e]
    (apply n_ret env_ok rfl; (repeat (first | (with_reducible exact ResV.nil) | (apply ResV.tmp; rfl) | (apply ResV.cell; rfl; (repeat (first | (with_reducible exact Take.here) | ((with_reducible apply Take.there)))); rfl) | exact ResV.nil)); refine ⟨[Disk db (pageWrite D (q.gen.tmod 2) 1 q.text).2.sync.2], ?_, ?_⟩; rotate_left; (intro _; refine @inv_keep _ _ _ _ ?_ ?_ _); rotate_left; (repeat (first | (with_reducible exact Parts.nil) | ((with_reducible apply Parts.cons); (repeat (first | (with_reducible exact Take.here) | ((with_reducible apply Take.there))))))); rotate_right)
    exact ⟨rfl, rfl⟩

/-- Are the first numbers, that are no pages on a disk of so many sectors, not used? -/
def Hd.clear (h : Hd) (size : Int) (k : Nat) : Bool := (List.range k).all fun i : Nat => !((decide (i < 2) || decide ((i : Int) ≥ size)) && hasB h.used i)
theorem Hd.clear_succ (h : Hd) (size : Int) (k : Nat) : h.clear size (k + 1) = (h.clear size k && !((decide (k < 2) || decide ((k : Int) ≥ size)) && hasB h.used k)) := by
  simp only [Hd.clear, List.range_succ, List.all_append, List.all_cons, List.all_nil, Bool.and_true]
theorem Hd.clear_mono (h : Hd) (size : Int) {j k : Nat} (hjk : j ≤ k) (e : h.clear size j = false) : h.clear size k = false := by
  induction hjk with
  | refl => exact e
  | step _ ih => rw [Hd.clear_succ, ih]; rfl
/-- May a head of sector n count on a disk of so many sectors? -/
def Hd.counts (h : Hd) (size n : Int) : Bool :=
  !(decide (h.gen < 1) || h.gen.tmod 2 != n || (h.root != 0 && !hasB h.used h.root)) && h.clear size 640
set_option maxRecDepth 100000 in
theorem counts_does (q : Hd) (ok : q.ok) (db : Nat) (D : Dk) (n : Int) (hn : 0 ≤ n ∧ n < 2) : Does Try.prog 53 [.agg #[.int .i64 q.gen, .int .i64 q.root, .string (str q.used)], .pointer (some ⟨db, 0, none⟩), .int .i64 n] [Disk db D] (fun v H => v = .bool (q.counts D.now.length n) ∧ H = [Disk db D]) := by
  have hu := ok.u
  have hr := ok.r
  refine does_of Try.func53 Try.ntmps53 rfl rfl rfl (fun w0 F0 => ?_)
  (repeat' (first | ((with_reducible apply g_seq)) | ((with_reducible apply g_region)) | ((with_reducible apply l_nil)) | ((with_reducible apply n_then)) | ((with_reducible apply l_pures1 env_ok); rfl; rfl; rfl) | ((with_reducible apply l_call c28); rfl; rfl; rfl; rfl; (with_reducible exact Has_does q.used q.root (by omega) (by omega)); (repeat (first | (with_reducible exact Parts.nil) | ((with_reducible apply Parts.cons); (repeat (first | (with_reducible exact Take.here) | ((with_reducible apply Take.there))))))); rintro _ _ _ ⟨rfl, rfl⟩ he; cases he) | ((with_reducible apply l_guard_yes); rfl; rfl; rfl) | ((with_reducible apply l_guard_no); rfl; rfl; rfl; rfl; rfl) | ((with_reducible apply l_guard_un); rfl; rfl; rfl; rfl) | ((with_reducible apply l_load env_ok); rfl; rfl; (repeat (first | (with_reducible exact Take.here) | ((with_reducible apply Take.there)))); rfl) | ((with_reducible apply l_box); rfl; rfl; rfl; intro _) | ((with_reducible apply g_skip)) | ((with_reducible apply g_ret)) | ((with_reducible apply n_then_ret)) | ((with_reducible apply g_block)) | ((with_reducible apply g_cond_t); rfl) | ((with_reducible apply g_cond_f); rfl) | ((with_reducible apply l_guard_split); rfl; rfl; (intro h; (try dsimp only at h); (try simp only [beq_true, beq_false, decide_eq_decide, beq_iff_eq, bne_iff_ne, beq_eq_false_iff_ne, bne_eq_false_iff_eq, decide_eq_true_eq, decide_eq_false_iff_not, Bool.not_eq_true', Bool.not_eq_false', ne_eq, Decidable.not_not] at h); (try (focus (exfalso; first | (simp only [eq_self, not_true_eq_false, not_false_eq_true, reduceCtorEq] at h; done) | omega)))); rotate_left; (intro h; (try dsimp only at h); (try simp only [beq_true, beq_false, decide_eq_decide, beq_iff_eq, bne_iff_ne, beq_eq_false_iff_ne, bne_eq_false_iff_eq, decide_eq_true_eq, decide_eq_false_iff_not, Bool.not_eq_true', Bool.not_eq_false', ne_eq, Decidable.not_not] at h); (try (focus (exfalso; first | (simp only [eq_self, not_true_eq_false, not_false_eq_true, reduceCtorEq] at h; done) | omega)))); rotate_left) | ((with_reducible apply g_cond); rfl; (intro h; (try dsimp only at h); (try simp only [beq_true, beq_false, decide_eq_decide, beq_iff_eq, bne_iff_ne, beq_eq_false_iff_ne, bne_eq_false_iff_eq, decide_eq_true_eq, decide_eq_false_iff_not, Bool.not_eq_true', Bool.not_eq_false', ne_eq, Decidable.not_not] at h); (try (focus (exfalso; first | (simp only [eq_self, not_true_eq_false, not_false_eq_true, reduceCtorEq] at h; done) | omega)))); rotate_left; (intro h; (try dsimp only at h); (try simp only [beq_true, beq_false, decide_eq_decide, beq_iff_eq, bne_iff_ne, beq_eq_false_iff_ne, bne_eq_false_iff_eq, decide_eq_true_eq, decide_eq_false_iff_not, Bool.not_eq_true', Bool.not_eq_false', ne_eq, Decidable.not_not] at h); (try (focus (exfalso; first | (simp only [eq_self, not_true_eq_false, not_false_eq_true, reduceCtorEq] at h; done) | omega)))); rotate_left)))
  · have e : q.counts D.now.length n = false := by simp [Hd.counts, *]
    rw [e]
    (apply n_ret env_ok rfl; (repeat (first | (with_reducible exact ResV.nil) | (apply ResV.tmp; rfl) | (apply ResV.cell; rfl; (repeat (first | (with_reducible exact Take.here) | ((with_reducible apply Take.there)))); rfl) | exact ResV.nil)); refine ⟨[Disk db D], ?_, ?_⟩; rotate_left; (intro _; refine @inv_keep _ _ _ _ ?_ ?_ _); rotate_left; (repeat (first | (with_reducible exact Parts.nil) | ((with_reducible apply Parts.cons); (repeat (first | (with_reducible exact Take.here) | ((with_reducible apply Take.there))))))); rotate_right)
    exact ⟨rfl, rfl⟩
  · have e : q.counts D.now.length n = false := by simp [Hd.counts, *]
    rw [e]
    (apply n_ret env_ok rfl; (repeat (first | (with_reducible exact ResV.nil) | (apply ResV.tmp; rfl) | (apply ResV.cell; rfl; (repeat (first | (with_reducible exact Take.here) | ((with_reducible apply Take.there)))); rfl) | exact ResV.nil)); refine ⟨[Disk db D], ?_, ?_⟩; rotate_left; (intro _; refine @inv_keep _ _ _ _ ?_ ?_ _); rotate_left; (repeat (first | (with_reducible exact Parts.nil) | ((with_reducible apply Parts.cons); (repeat (first | (with_reducible exact Take.here) | ((with_reducible apply Take.there))))))); rotate_right)
    exact ⟨rfl, rfl⟩
  · have e : q.counts D.now.length n = false := by simp [Hd.counts, *]
    rw [e]
    (apply n_ret env_ok rfl; (repeat (first | (with_reducible exact ResV.nil) | (apply ResV.tmp; rfl) | (apply ResV.cell; rfl; (repeat (first | (with_reducible exact Take.here) | ((with_reducible apply Take.there)))); rfl) | exact ResV.nil)); refine ⟨[Disk db D], ?_, ?_⟩; rotate_left; (intro _; refine @inv_keep _ _ _ _ ?_ ?_ _); rotate_left; (repeat (first | (with_reducible exact Parts.nil) | ((with_reducible apply Parts.cons); (repeat (first | (with_reducible exact Take.here) | ((with_reducible apply Take.there))))))); rotate_right)
    exact ⟨rfl, rfl⟩
  · rename_i bb _ _ _
    have hh : q.counts D.now.length n = q.clear D.now.length 640 := by simp [Hd.counts, *]
    (refine g_loop (fun j : Nat => [(31, .int .i64 j), (3, .pointer (some ⟨bb, 0, none⟩)), (1, .pointer (some ⟨db, 0, none⟩))]) (fun j => [cl bb 51 [.int .i64 q.gen, .int .i64 q.root, .string (str q.used)], Disk db D]) (fun j => j ≤ 640 ∧ q.clear D.now.length j = true) (fun j => 640 - j) (0) ?_ ?_ ?_ ?_; rotate_left; (repeat (first | (with_reducible exact ts_nil) | ((with_reducible apply ts_cons); rfl; first | (with_reducible rfl) | rotate_left))); (first | (intro _ i; with_reducible exact i) | rotate_left); rotate_left; (try omega); rotate_right)
    · rintro j ⟨hj, hc⟩
      (repeat' (first | ((with_reducible apply g_seq)) | ((with_reducible apply g_region)) | ((with_reducible apply l_nil)) | ((with_reducible apply n_then)) | ((with_reducible apply l_pures1 env_ok); rfl; rfl; rfl) | ((with_reducible apply l_call c42); rfl; rfl; rfl; rfl; (with_reducible exact Size_does db D); (repeat (first | (with_reducible exact Parts.nil) | ((with_reducible apply Parts.cons); (repeat (first | (with_reducible exact Take.here) | ((with_reducible apply Take.there))))))); rintro _ _ _ ⟨rfl, rfl⟩ he; cases he) | ((with_reducible apply l_call c28); rfl; rfl; rfl; rfl; (with_reducible exact Has_does q.used j (by omega) (by omega)); (repeat (first | (with_reducible exact Parts.nil) | ((with_reducible apply Parts.cons); (repeat (first | (with_reducible exact Take.here) | ((with_reducible apply Take.there))))))); rintro _ _ _ ⟨rfl, rfl⟩ he; cases he) | ((with_reducible apply l_guard_yes); rfl; rfl; rfl) | ((with_reducible apply l_guard_no); rfl; rfl; rfl; rfl; rfl) | ((with_reducible apply l_load env_ok); rfl; rfl; (repeat (first | (with_reducible exact Take.here) | ((with_reducible apply Take.there)))); rfl) | ((with_reducible apply g_skip)) | ((with_reducible apply g_ret)) | ((with_reducible apply n_then_ret)) | ((with_reducible apply n_block_ret)) | ((with_reducible apply g_block)) | ((with_reducible apply g_exit)) | ((with_reducible apply n_then_exit)) | ((with_reducible apply n_block_hit)) | ((with_reducible apply n_block)) | ((with_reducible apply g_cond_f); rfl) | ((with_reducible apply l_guard_split); rfl; rfl; (intro h; (try dsimp only at h); (try simp only [beq_true, beq_false, decide_eq_decide, beq_iff_eq, bne_iff_ne, beq_eq_false_iff_ne, bne_eq_false_iff_eq, decide_eq_true_eq, decide_eq_false_iff_not, Bool.not_eq_true', Bool.not_eq_false', ne_eq, Decidable.not_not] at h); (try (focus (exfalso; first | (simp only [eq_self, not_true_eq_false, not_false_eq_true, reduceCtorEq] at h; done) | omega)))); rotate_left; (intro h; (try dsimp only at h); (try simp only [beq_true, beq_false, decide_eq_decide, beq_iff_eq, bne_iff_ne, beq_eq_false_iff_ne, bne_eq_false_iff_eq, decide_eq_true_eq, decide_eq_false_iff_not, Bool.not_eq_true', Bool.not_eq_false', ne_eq, Decidable.not_not] at h); (try (focus (exfalso; first | (simp only [eq_self, not_true_eq_false, not_false_eq_true, reduceCtorEq] at h; done) | omega)))); rotate_left) | ((with_reducible apply g_cond); rfl; (intro h; (try dsimp only at h); (try simp only [beq_true, beq_false, decide_eq_decide, beq_iff_eq, bne_iff_ne, beq_eq_false_iff_ne, bne_eq_false_iff_eq, decide_eq_true_eq, decide_eq_false_iff_not, Bool.not_eq_true', Bool.not_eq_false', ne_eq, Decidable.not_not] at h); (try (focus (exfalso; first | (simp only [eq_self, not_true_eq_false, not_false_eq_true, reduceCtorEq] at h; done) | omega)))); rotate_left; (intro h; (try dsimp only at h); (try simp only [beq_true, beq_false, decide_eq_decide, beq_iff_eq, bne_iff_ne, beq_eq_false_iff_ne, bne_eq_false_iff_eq, decide_eq_true_eq, decide_eq_false_iff_not, Bool.not_eq_true', Bool.not_eq_false', ne_eq, Decidable.not_not] at h); (try (focus (exfalso; first | (simp only [eq_self, not_true_eq_false, not_false_eq_true, reduceCtorEq] at h; done) | omega)))); rotate_left)))
      · have e2 : q.clear D.now.length (j + 1) = false := by rw [Hd.clear_succ, hc, show hasB q.used j = true by assumption]; simp; omega
        have e : q.counts D.now.length n = false := by rw [hh]; exact Hd.clear_mono _ _ (j := j + 1) (by omega) e2
        rw [e]
        (apply n_ret env_ok rfl; (repeat (first | (with_reducible exact ResV.nil) | (apply ResV.tmp; rfl) | (apply ResV.cell; rfl; (repeat (first | (with_reducible exact Take.here) | ((with_reducible apply Take.there)))); rfl) | exact ResV.nil)); refine ⟨[Disk db D], ?_, ?_⟩; rotate_left; (intro _; refine @inv_keep _ _ _ _ ?_ ?_ _); rotate_left; (repeat (first | (with_reducible exact Parts.nil) | ((with_reducible apply Parts.cons); (repeat (first | (with_reducible exact Take.here) | ((with_reducible apply Take.there))))))); rotate_right)
        exact ⟨rfl, rfl⟩
      · (refine n_back (j + 1) ?_ ?_ ?_ ?_; rotate_left; rotate_left; (repeat (first | (with_reducible exact ts_nil) | ((with_reducible apply ts_cons); rfl; first | (with_reducible rfl) | rotate_left))); (first | (intro _ i; with_reducible exact i) | rotate_left); (try omega); (try omega))
        · exact ⟨by omega, by rw [Hd.clear_succ, hc]; first | (simp [*]; done) | (simp [*]; omega)⟩
        · omega
        · rw [wrapI64 (by omega)]; rfl
        all_goals (intro _ i; exact inv_keep (by (repeat (first | (with_reducible exact Parts.nil) | ((with_reducible apply Parts.cons); (repeat (first | (with_reducible exact Take.here) | ((with_reducible apply Take.there)))))))) i)
      · have e2 : q.clear D.now.length (j + 1) = false := by rw [Hd.clear_succ, hc, show hasB q.used j = true by assumption]; simp; omega
        have e : q.counts D.now.length n = false := by rw [hh]; exact Hd.clear_mono _ _ (j := j + 1) (by omega) e2
        rw [e]
        (apply n_ret env_ok rfl; (repeat (first | (with_reducible exact ResV.nil) | (apply ResV.tmp; rfl) | (apply ResV.cell; rfl; (repeat (first | (with_reducible exact Take.here) | ((with_reducible apply Take.there)))); rfl) | exact ResV.nil)); refine ⟨[Disk db D], ?_, ?_⟩; rotate_left; (intro _; refine @inv_keep _ _ _ _ ?_ ?_ _); rotate_left; (repeat (first | (with_reducible exact Parts.nil) | ((with_reducible apply Parts.cons); (repeat (first | (with_reducible exact Take.here) | ((with_reducible apply Take.there))))))); rotate_right)
        exact ⟨rfl, rfl⟩
      · (refine n_back (j + 1) ?_ ?_ ?_ ?_; rotate_left; rotate_left; (repeat (first | (with_reducible exact ts_nil) | ((with_reducible apply ts_cons); rfl; first | (with_reducible rfl) | rotate_left))); (first | (intro _ i; with_reducible exact i) | rotate_left); (try omega); (try omega))
        · exact ⟨by omega, by rw [Hd.clear_succ, hc]; first | (simp [*]; done) | (simp [*]; omega)⟩
        · omega
        · rw [wrapI64 (by omega)]; rfl
        all_goals (intro _ i; exact inv_keep (by (repeat (first | (with_reducible exact Parts.nil) | ((with_reducible apply Parts.cons); (repeat (first | (with_reducible exact Take.here) | ((with_reducible apply Take.there)))))))) i)
      · (refine n_back (j + 1) ?_ ?_ ?_ ?_; rotate_left; rotate_left; (repeat (first | (with_reducible exact ts_nil) | ((with_reducible apply ts_cons); rfl; first | (with_reducible rfl) | rotate_left))); (first | (intro _ i; with_reducible exact i) | rotate_left); (try omega); (try omega))
        · exact ⟨by omega, by rw [Hd.clear_succ, hc]; first | (simp [*]; done) | (simp [*]; omega)⟩
        · omega
        · rw [wrapI64 (by omega)]; rfl
        all_goals (intro _ i; exact inv_keep (by (repeat (first | (with_reducible exact Parts.nil) | ((with_reducible apply Parts.cons); (repeat (first | (with_reducible exact Take.here) | ((with_reducible apply Take.there)))))))) i)
      · obtain rfl : j = 640 := by omega
        rw [hh, hc]
        (apply n_ret env_ok rfl; (repeat (first | (with_reducible exact ResV.nil) | (apply ResV.tmp; rfl) | (apply ResV.cell; rfl; (repeat (first | (with_reducible exact Take.here) | ((with_reducible apply Take.there)))); rfl) | exact ResV.nil)); refine ⟨[Disk db D], ?_, ?_⟩; rotate_left; (intro _; refine @inv_keep _ _ _ _ ?_ ?_ _); rotate_left; (repeat (first | (with_reducible exact Parts.nil) | ((with_reducible apply Parts.cons); (repeat (first | (with_reducible exact Take.here) | ((with_reducible apply Take.there))))))); rotate_right)
        exact ⟨rfl, rfl⟩
    · exact ⟨by omega, rfl⟩
    · rfl
  · rename_i bb _ _
    have hh : q.counts D.now.length n = q.clear D.now.length 640 := by simp [Hd.counts, *]
    (refine g_loop (fun j : Nat => [(31, .int .i64 j), (3, .pointer (some ⟨bb, 0, none⟩)), (1, .pointer (some ⟨db, 0, none⟩))]) (fun j => [cl bb 51 [.int .i64 q.gen, .int .i64 q.root, .string (str q.used)], Disk db D]) (fun j => j ≤ 640 ∧ q.clear D.now.length j = true) (fun j => 640 - j) (0) ?_ ?_ ?_ ?_; rotate_left; (repeat (first | (with_reducible exact ts_nil) | ((with_reducible apply ts_cons); rfl; first | (with_reducible rfl) | rotate_left))); (first | (intro _ i; with_reducible exact i) | rotate_left); rotate_left; (try omega); rotate_right)
    · rintro j ⟨hj, hc⟩
      (repeat' (first | ((with_reducible apply g_seq)) | ((with_reducible apply g_region)) | ((with_reducible apply l_nil)) | ((with_reducible apply n_then)) | ((with_reducible apply l_pures1 env_ok); rfl; rfl; rfl) | ((with_reducible apply l_call c42); rfl; rfl; rfl; rfl; (with_reducible exact Size_does db D); (repeat (first | (with_reducible exact Parts.nil) | ((with_reducible apply Parts.cons); (repeat (first | (with_reducible exact Take.here) | ((with_reducible apply Take.there))))))); rintro _ _ _ ⟨rfl, rfl⟩ he; cases he) | ((with_reducible apply l_call c28); rfl; rfl; rfl; rfl; (with_reducible exact Has_does q.used j (by omega) (by omega)); (repeat (first | (with_reducible exact Parts.nil) | ((with_reducible apply Parts.cons); (repeat (first | (with_reducible exact Take.here) | ((with_reducible apply Take.there))))))); rintro _ _ _ ⟨rfl, rfl⟩ he; cases he) | ((with_reducible apply l_guard_yes); rfl; rfl; rfl) | ((with_reducible apply l_guard_no); rfl; rfl; rfl; rfl; rfl) | ((with_reducible apply l_load env_ok); rfl; rfl; (repeat (first | (with_reducible exact Take.here) | ((with_reducible apply Take.there)))); rfl) | ((with_reducible apply g_skip)) | ((with_reducible apply g_ret)) | ((with_reducible apply n_then_ret)) | ((with_reducible apply n_block_ret)) | ((with_reducible apply g_block)) | ((with_reducible apply g_exit)) | ((with_reducible apply n_then_exit)) | ((with_reducible apply n_block_hit)) | ((with_reducible apply n_block)) | ((with_reducible apply g_cond_f); rfl) | ((with_reducible apply l_guard_split); rfl; rfl; (intro h; (try dsimp only at h); (try simp only [beq_true, beq_false, decide_eq_decide, beq_iff_eq, bne_iff_ne, beq_eq_false_iff_ne, bne_eq_false_iff_eq, decide_eq_true_eq, decide_eq_false_iff_not, Bool.not_eq_true', Bool.not_eq_false', ne_eq, Decidable.not_not] at h); (try (focus (exfalso; first | (simp only [eq_self, not_true_eq_false, not_false_eq_true, reduceCtorEq] at h; done) | omega)))); rotate_left; (intro h; (try dsimp only at h); (try simp only [beq_true, beq_false, decide_eq_decide, beq_iff_eq, bne_iff_ne, beq_eq_false_iff_ne, bne_eq_false_iff_eq, decide_eq_true_eq, decide_eq_false_iff_not, Bool.not_eq_true', Bool.not_eq_false', ne_eq, Decidable.not_not] at h); (try (focus (exfalso; first | (simp only [eq_self, not_true_eq_false, not_false_eq_true, reduceCtorEq] at h; done) | omega)))); rotate_left) | ((with_reducible apply g_cond); rfl; (intro h; (try dsimp only at h); (try simp only [beq_true, beq_false, decide_eq_decide, beq_iff_eq, bne_iff_ne, beq_eq_false_iff_ne, bne_eq_false_iff_eq, decide_eq_true_eq, decide_eq_false_iff_not, Bool.not_eq_true', Bool.not_eq_false', ne_eq, Decidable.not_not] at h); (try (focus (exfalso; first | (simp only [eq_self, not_true_eq_false, not_false_eq_true, reduceCtorEq] at h; done) | omega)))); rotate_left; (intro h; (try dsimp only at h); (try simp only [beq_true, beq_false, decide_eq_decide, beq_iff_eq, bne_iff_ne, beq_eq_false_iff_ne, bne_eq_false_iff_eq, decide_eq_true_eq, decide_eq_false_iff_not, Bool.not_eq_true', Bool.not_eq_false', ne_eq, Decidable.not_not] at h); (try (focus (exfalso; first | (simp only [eq_self, not_true_eq_false, not_false_eq_true, reduceCtorEq] at h; done) | omega)))); rotate_left)))
      · have e2 : q.clear D.now.length (j + 1) = false := by rw [Hd.clear_succ, hc, show hasB q.used j = true by assumption]; simp; omega
        have e : q.counts D.now.length n = false := by rw [hh]; exact Hd.clear_mono _ _ (j := j + 1) (by omega) e2
        rw [e]
        (apply n_ret env_ok rfl; (repeat (first | (with_reducible exact ResV.nil) | (apply ResV.tmp; rfl) | (apply ResV.cell; rfl; (repeat (first | (with_reducible exact Take.here) | ((with_reducible apply Take.there)))); rfl) | exact ResV.nil)); refine ⟨[Disk db D], ?_, ?_⟩; rotate_left; (intro _; refine @inv_keep _ _ _ _ ?_ ?_ _); rotate_left; (repeat (first | (with_reducible exact Parts.nil) | ((with_reducible apply Parts.cons); (repeat (first | (with_reducible exact Take.here) | ((with_reducible apply Take.there))))))); rotate_right)
        exact ⟨rfl, rfl⟩
      · (refine n_back (j + 1) ?_ ?_ ?_ ?_; rotate_left; rotate_left; (repeat (first | (with_reducible exact ts_nil) | ((with_reducible apply ts_cons); rfl; first | (with_reducible rfl) | rotate_left))); (first | (intro _ i; with_reducible exact i) | rotate_left); (try omega); (try omega))
        · exact ⟨by omega, by rw [Hd.clear_succ, hc]; first | (simp [*]; done) | (simp [*]; omega)⟩
        · omega
        · rw [wrapI64 (by omega)]; rfl
        all_goals (intro _ i; exact inv_keep (by (repeat (first | (with_reducible exact Parts.nil) | ((with_reducible apply Parts.cons); (repeat (first | (with_reducible exact Take.here) | ((with_reducible apply Take.there)))))))) i)
      · have e2 : q.clear D.now.length (j + 1) = false := by rw [Hd.clear_succ, hc, show hasB q.used j = true by assumption]; simp; omega
        have e : q.counts D.now.length n = false := by rw [hh]; exact Hd.clear_mono _ _ (j := j + 1) (by omega) e2
        rw [e]
        (apply n_ret env_ok rfl; (repeat (first | (with_reducible exact ResV.nil) | (apply ResV.tmp; rfl) | (apply ResV.cell; rfl; (repeat (first | (with_reducible exact Take.here) | ((with_reducible apply Take.there)))); rfl) | exact ResV.nil)); refine ⟨[Disk db D], ?_, ?_⟩; rotate_left; (intro _; refine @inv_keep _ _ _ _ ?_ ?_ _); rotate_left; (repeat (first | (with_reducible exact Parts.nil) | ((with_reducible apply Parts.cons); (repeat (first | (with_reducible exact Take.here) | ((with_reducible apply Take.there))))))); rotate_right)
        exact ⟨rfl, rfl⟩
      · (refine n_back (j + 1) ?_ ?_ ?_ ?_; rotate_left; rotate_left; (repeat (first | (with_reducible exact ts_nil) | ((with_reducible apply ts_cons); rfl; first | (with_reducible rfl) | rotate_left))); (first | (intro _ i; with_reducible exact i) | rotate_left); (try omega); (try omega))
        · exact ⟨by omega, by rw [Hd.clear_succ, hc]; first | (simp [*]; done) | (simp [*]; omega)⟩
        · omega
        · rw [wrapI64 (by omega)]; rfl
        all_goals (intro _ i; exact inv_keep (by (repeat (first | (with_reducible exact Parts.nil) | ((with_reducible apply Parts.cons); (repeat (first | (with_reducible exact Take.here) | ((with_reducible apply Take.there)))))))) i)
      · (refine n_back (j + 1) ?_ ?_ ?_ ?_; rotate_left; rotate_left; (repeat (first | (with_reducible exact ts_nil) | ((with_reducible apply ts_cons); rfl; first | (with_reducible rfl) | rotate_left))); (first | (intro _ i; with_reducible exact i) | rotate_left); (try omega); (try omega))
        · exact ⟨by omega, by rw [Hd.clear_succ, hc]; first | (simp [*]; done) | (simp [*]; omega)⟩
        · omega
        · rw [wrapI64 (by omega)]; rfl
        all_goals (intro _ i; exact inv_keep (by (repeat (first | (with_reducible exact Parts.nil) | ((with_reducible apply Parts.cons); (repeat (first | (with_reducible exact Take.here) | ((with_reducible apply Take.there)))))))) i)
      · obtain rfl : j = 640 := by omega
        rw [hh, hc]
        (apply n_ret env_ok rfl; (repeat (first | (with_reducible exact ResV.nil) | (apply ResV.tmp; rfl) | (apply ResV.cell; rfl; (repeat (first | (with_reducible exact Take.here) | ((with_reducible apply Take.there)))); rfl) | exact ResV.nil)); refine ⟨[Disk db D], ?_, ?_⟩; rotate_left; (intro _; refine @inv_keep _ _ _ _ ?_ ?_ _); rotate_left; (repeat (first | (with_reducible exact Parts.nil) | ((with_reducible apply Parts.cons); (repeat (first | (with_reducible exact Take.here) | ((with_reducible apply Take.there))))))); rotate_right)
        exact ⟨rfl, rfl⟩
    · exact ⟨by omega, rfl⟩
    · rfl
end Go.Proofs.Ytcbcpgaehdoekaa

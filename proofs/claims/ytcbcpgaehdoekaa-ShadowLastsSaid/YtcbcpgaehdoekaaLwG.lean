/- ShadowGives. -/
import Derived.Test.YtcbcpgaehdoekaaLwH
set_option linter.unusedVariables false
set_option linter.unusedSimpArgs false
namespace Go.Proofs.Ytcbcpgaehdoekaa
open Go.Proofs.Ytcbcpgaehdoekaa.SL

theorem len_filter_not {U G : List Int} (hU : U.Nodup) (hG : G.Nodup) (h : ∀ i ∈ G, i ∈ U) : (U.filter fun i => !decide (i ∈ G)).length + G.length = U.length := by
  have e : (U.filter fun i => decide (i ∈ G)).Perm G := by
    rw [List.perm_ext_iff_of_nodup (hU.filter _) hG]
    intro i
    simp only [List.mem_filter, decide_eq_true_eq]
    exact ⟨fun q => q.2, fun q => ⟨h i q, q⟩⟩
  have := List.length_eq_countP_add_countP (fun i => decide (i ∈ G)) (l := U)
  rw [List.countP_eq_length_filter, List.countP_eq_length_filter, e.length_eq] at this
  have e2 : (fun a => decide ¬(decide (a ∈ G)) = true) = fun i : Int => !decide (i ∈ G) := by funext i; by_cases q : i ∈ G <;> simp [q]
  rw [e2] at this
  omega
theorem mem_upto {k : Nat} {i : Int} : i ∈ upto k ↔ 2 ≤ i ∧ i < k + 2 := mem_handS (k := k)
theorem upto_len (k : Nat) : (upto k).length = k := by simp [upto]

set_option maxHeartbeats 2000000 in
theorem ShadowGives_does (s : Int) (t : Value) : Does Try.prog 4 [.int .i64 s, t] [] (fun v H => v = .bool true ∧ H = []) := by
  obtain ⟨E1, f1, k1, p1⟩ := format_of (N := 12) (by omega) (Dk.new_lives 12) (by rw [Dk.new_pg (by omega)]; simp)
  have hmade := made_does (i := 12) (n := 12) rfl (by omega) f1
  refine does_of Try.func4 Try.ntmps4 rfl rfl rfl (fun w0 F0 => ?_)
  (repeat' (first | ((with_reducible apply g_seq)) | ((with_reducible apply g_region)) | ((with_reducible apply l_nil)) | ((with_reducible apply n_then)) | ((with_reducible apply l_pures1 env_ok); rfl; rfl; rfl) | ((with_reducible apply l_call c7); rfl; rfl; rfl; rfl; (with_reducible exact examples_does); (repeat (first | (with_reducible exact Parts.nil) | ((with_reducible apply Parts.cons); (repeat (first | (with_reducible exact Take.here) | ((with_reducible apply Take.there))))))); rintro _ _ _ ⟨rfl, rfl⟩ he; cases he) | ((with_reducible apply l_call c8); rfl; rfl; rfl; rfl; (with_reducible exact hmade); (repeat (first | (with_reducible exact Parts.nil) | ((with_reducible apply Parts.cons); (repeat (first | (with_reducible exact Take.here) | ((with_reducible apply Take.there))))))); rintro _ _ _ ⟨b, db, rfl, rfl⟩ he; cases he) | ((with_reducible apply g_skip)) | ((with_reducible apply g_block)) | ((with_reducible apply g_cond_f); rfl)))
  (refine g_loop (fun x : Nat × Sh × Dk => [(8, .int .i64 x.1), (7, .pointer (some ⟨b, 0, none⟩)), (5, .bool true), (0, .int .i64 s)]) (fun x => [Store b db x.2.1, Disk db x.2.2]) (fun x => x.1 ≤ 9 ∧ Fine 12 x.2.1 x.2.2 [] ∧ x.2.1.fresh = upto x.1 ∧ x.2.1.given = [] ∧ x.2.1.gen = 1 ∧ ∀ m : Int, 2 ≤ m → m < x.1 + 2 → x.2.2.pg m = (3, [120], 0)) (fun x => 9 - x.1) ((0, headNew.over, E1)) ?_ ?_ ?_ ?_; rotate_left; (repeat (first | (with_reducible exact ts_nil) | ((with_reducible apply ts_cons); rfl; first | (with_reducible rfl) | rotate_left))); (first | (intro _ i; with_reducible exact i) | rotate_left); rotate_left; (try omega); rotate_right)
  · rintro ⟨j, S, D⟩ ⟨hj, k, hf, hv, hg, hp⟩
    dsimp only at hj k hf hv hg hp ⊢
    by_cases hj9 : j < 9
    · obtain ⟨S2, t2, k2, f2, v2, g2, r2⟩ := k.take' (m := j + 2) (by omega) ⟨by simp, by rw [hf, mem_upto]; omega⟩ (fun i a c => .inr (by rw [hf, mem_upto]; omega))
      obtain ⟨D3, w3, k3, p3⟩ := k2.write' (n := j + 2) (kd := 3) (t := [120]) (by rw [f2]; simp) (by omega) (by simp)
      have w3' : Does Try.prog 15 [.pointer (some ⟨b, 0, none⟩), .int .i64 (j + 2), .int .i64 3, .string { data := #[120] }] [Store b db S2, Disk db D] (fun v H => v = .int .i64 0 ∧ H = [Store b db S2, Disk db D3]) := write_is db w3 (by simp)
      (repeat' (first | ((with_reducible apply g_seq)) | ((with_reducible apply g_region)) | ((with_reducible apply l_nil)) | ((with_reducible apply n_then)) | ((with_reducible apply l_pures1 env_ok); rfl; rfl; rfl) | ((with_reducible apply l_call c10); rfl; rfl; rfl; rfl; (with_reducible exact take_is db t2); (repeat (first | (with_reducible exact Parts.nil) | ((with_reducible apply Parts.cons); (repeat (first | (with_reducible exact Take.here) | ((with_reducible apply Take.there))))))); rintro _ _ _ ⟨rfl, rfl⟩ he; cases he) | ((with_reducible apply l_call c15); rfl; rfl; rfl; rfl; (with_reducible exact w3'); (repeat (first | (with_reducible exact Parts.nil) | ((with_reducible apply Parts.cons); (repeat (first | (with_reducible exact Take.here) | ((with_reducible apply Take.there))))))); rintro _ _ _ ⟨rfl, rfl⟩ he; cases he) | ((with_reducible apply l_guard_yes); rfl; rfl; rfl) | ((with_reducible apply g_skip)) | ((with_reducible apply g_block)) | ((with_reducible apply n_block)) | ((with_reducible apply g_cond_f); rfl) | ((with_reducible apply g_cond); rfl; (intro h; (try dsimp only at h); (try simp only [beq_true, beq_false, decide_eq_decide, beq_iff_eq, bne_iff_ne, beq_eq_false_iff_ne, bne_eq_false_iff_eq, decide_eq_true_eq, decide_eq_false_iff_not, Bool.not_eq_true', Bool.not_eq_false', ne_eq, Decidable.not_not] at h); (try (focus (exfalso; first | (simp only [eq_self, not_true_eq_false, not_false_eq_true, reduceCtorEq] at h; done) | omega)))); rotate_left; (intro h; (try dsimp only at h); (try simp only [beq_true, beq_false, decide_eq_decide, beq_iff_eq, bne_iff_ne, beq_eq_false_iff_ne, bne_eq_false_iff_eq, decide_eq_true_eq, decide_eq_false_iff_not, Bool.not_eq_true', Bool.not_eq_false', ne_eq, Decidable.not_not] at h); (try (focus (exfalso; first | (simp only [eq_self, not_true_eq_false, not_false_eq_true, reduceCtorEq] at h; done) | omega)))); rotate_left)))
      (refine n_back ((j + 1, S2, D3)) ?_ ?_ ?_ ?_; rotate_left; rotate_left; (repeat (first | (with_reducible exact ts_nil) | ((with_reducible apply ts_cons); rfl; first | (with_reducible rfl) | rotate_left))); (first | (intro _ i; with_reducible exact i) | rotate_left); (try omega); (try omega))
      · refine ⟨by dsimp only; omega, k3, by dsimp only; rw [f2, hf, upto_succ], by dsimp only; rw [v2, hv], by dsimp only; rw [g2, hg], fun m a c => ?_⟩
        dsimp only at c ⊢
        rw [p3 m (by omega)]
        by_cases q : m = j + 2
        · rw [if_pos q]
        · rw [if_neg q, hp m a (by omega)]
      · dsimp only; omega
      · rw [wrapI64 (by omega)]; rfl
    · obtain rfl : j = 9 := by omega
      obtain ⟨S4, E4, c4, k4, p4, a4, b4, g4, r4⟩ := k.commit' (root := 0) (.inl rfl) (by rw [hg]; omega)
      have hU : ∀ i, i ∈ S.after [] ↔ 2 ≤ i ∧ i < 11 := by intro i; rw [Sh.mem_after, hv, hf, mem_upto]; simp
      have hUl : (S.after []).length = 9 := by rw [Sh.after, hv, hf]; rfl
      obtain ⟨U, hUe⟩ : ∃ U, S.after [] = U := ⟨_, rfl⟩
      rw [hUe] at hU hUl k4
      have l4 : S4.left E4 = 1 := by rw [k4.left, hUl, a4]; rfl
      (repeat' (first | ((with_reducible apply g_seq)) | ((with_reducible apply g_region)) | ((with_reducible apply l_nil)) | ((with_reducible apply n_then)) | ((with_reducible apply l_pures1 env_ok); rfl; rfl; rfl) | ((with_reducible apply l_call c16); rfl; rfl; rfl; rfl; (with_reducible exact commit_is db c4 (by omega)); (repeat (first | (with_reducible exact Parts.nil) | ((with_reducible apply Parts.cons); (repeat (first | (with_reducible exact Take.here) | ((with_reducible apply Take.there))))))); rintro _ _ _ ⟨rfl, rfl⟩ he; cases he) | ((with_reducible apply l_call c9); rfl; rfl; rfl; rfl; (with_reducible exact left_is db l4); (repeat (first | (with_reducible exact Parts.nil) | ((with_reducible apply Parts.cons); (repeat (first | (with_reducible exact Take.here) | ((with_reducible apply Take.there))))))); rintro _ _ _ ⟨rfl, rfl⟩ he; cases he) | ((with_reducible apply l_guard_yes); rfl; rfl; rfl) | ((with_reducible apply g_skip)) | ((with_reducible apply g_block)) | ((with_reducible apply g_exit)) | ((with_reducible apply n_then_exit)) | ((with_reducible apply n_block_hit)) | ((with_reducible apply g_cond_f); rfl)))
      have hpg : ∀ m, 2 ≤ m → m < 11 → E4.pg m = (3, [120], 0) := fun m a c => by rw [p4 m a, hp m a (by omega)]
      (refine g_loop (fun x : Nat × Nat × Sh => [(12, .int .i64 x.1), (11, .int .i64 x.2.1), (7, .pointer (some ⟨b, 0, none⟩)), (5, .bool true), (0, .int .i64 s)]) (fun x => [Store b db x.2.2, Disk db E4]) (fun x => x.1 ≤ 9 ∧ Fine 12 x.2.2 E4 U ∧ x.2.2.fresh = [] ∧ x.2.2.given.length = x.2.1 ∧ x.2.1 ≤ x.1 ∧ x.2.2.gen = 2 ∧ ∀ m ∈ x.2.2.given, m < x.1 + 2) (fun x => 9 - x.1) ((0, 0, S4)) ?_ ?_ ?_ ?_; rotate_left; (repeat (first | (with_reducible exact ts_nil) | ((with_reducible apply ts_cons); rfl; first | (with_reducible rfl) | rotate_left))); (first | (intro _ i; with_reducible exact i) | rotate_left); rotate_left; (try omega); rotate_right)
      · rintro ⟨j, g, S5⟩ ⟨hj, k5, f5, v5, hgj, g5, m5⟩
        dsimp only at hj k5 f5 v5 hgj g5 m5 ⊢
        by_cases hj9 : j < 9
        · have hn : IntKind.i64.wrap ((j : Int) + 2) = j + 2 := wrapI64 (by omega)
          have w6 := k5.writeNo (n := j + 2) (kd := 3) (t := [121]) (by rw [f5]; simp)
          have w6' : Does Try.prog 15 [.pointer (some ⟨b, 0, none⟩), .int .i64 (j + 2), .int .i64 3, .string { data := #[121] }] [Store b db S5, Disk db E4] (fun v H => v = .int .i64 6 ∧ H = [Store b db S5, Disk db E4]) := write_is db w6 (by simp)
          have hnv : (j : Int) + 2 ∉ S5.given := fun q => by have := m5 _ q; omega
          obtain ⟨S7, q7, k7, f7, v7, g7, r7⟩ := k5.giveUsed' (n := j + 2) (by rw [hU]; omega) hnv
          have q8 := k7.giveNo (n := j + 2) (by rw [f7, f5]; simp) (fun _ => by rw [v7]; simp)
          have r9 := k7.read (n := j + 2) (by omega)
          rw [hpg (j + 2) (by omega) (by omega)] at r9
          (repeat' (first | ((with_reducible apply g_seq)) | ((with_reducible apply g_region)) | ((with_reducible apply l_nil)) | ((with_reducible apply n_then)) | ((with_reducible apply l_pures1 env_ok); rfl; rfl; rfl) | ((with_reducible apply g_skip)) | ((with_reducible apply g_block)) | ((with_reducible apply g_cond); rfl; (intro h; (try dsimp only at h); (try simp only [beq_true, beq_false, decide_eq_decide, beq_iff_eq, bne_iff_ne, beq_eq_false_iff_ne, bne_eq_false_iff_eq, decide_eq_true_eq, decide_eq_false_iff_not, Bool.not_eq_true', Bool.not_eq_false', ne_eq, Decidable.not_not] at h); (try (focus (exfalso; first | (simp only [eq_self, not_true_eq_false, not_false_eq_true, reduceCtorEq] at h; done) | omega)))); rotate_left; (intro h; (try dsimp only at h); (try simp only [beq_true, beq_false, decide_eq_decide, beq_iff_eq, bne_iff_ne, beq_eq_false_iff_ne, bne_eq_false_iff_eq, decide_eq_true_eq, decide_eq_false_iff_not, Bool.not_eq_true', Bool.not_eq_false', ne_eq, Decidable.not_not] at h); (try (focus (exfalso; first | (simp only [eq_self, not_true_eq_false, not_false_eq_true, reduceCtorEq] at h; done) | omega)))); rotate_left)))
          rw [hn]
          (repeat' (first | ((with_reducible apply g_seq)) | ((with_reducible apply g_region)) | ((with_reducible apply l_nil)) | ((with_reducible apply n_then)) | ((with_reducible apply l_pures1 env_ok); rfl; rfl; rfl) | ((with_reducible apply l_call c15); rfl; rfl; rfl; rfl; (with_reducible exact w6'); (repeat (first | (with_reducible exact Parts.nil) | ((with_reducible apply Parts.cons); (repeat (first | (with_reducible exact Take.here) | ((with_reducible apply Take.there))))))); rintro _ _ _ ⟨rfl, rfl⟩ he; cases he) | ((with_reducible apply l_call c12); rfl; rfl; rfl; rfl; (with_reducible exact give_is db q7 (by omega)); (repeat (first | (with_reducible exact Parts.nil) | ((with_reducible apply Parts.cons); (repeat (first | (with_reducible exact Take.here) | ((with_reducible apply Take.there))))))); rintro _ _ _ ⟨rfl, rfl⟩ he; cases he) | ((with_reducible apply l_call c12); rfl; rfl; rfl; rfl; (with_reducible exact give_is db q8 (by omega)); (repeat (first | (with_reducible exact Parts.nil) | ((with_reducible apply Parts.cons); (repeat (first | (with_reducible exact Take.here) | ((with_reducible apply Take.there))))))); rintro _ _ _ ⟨rfl, rfl⟩ he; cases he) | ((with_reducible apply l_call c17); rfl; rfl; rfl; rfl; (with_reducible exact read_is db r9); (repeat (first | (with_reducible exact Parts.nil) | ((with_reducible apply Parts.cons); (repeat (first | (with_reducible exact Take.here) | ((with_reducible apply Take.there))))))); rintro _ _ _ ⟨rfl, rfl⟩ he; cases he) | ((with_reducible apply l_guard_yes); rfl; rfl; rfl) | ((with_reducible apply l_shr env_ok); rfl; rfl; rfl; (first | assumption | omega | (refine ⟨?_, ?_⟩ <;> omega) | (simp only [List.length_cons, List.length_nil, str] at *; omega) | (simp only [List.length_append] at *; omega))) | ((with_reducible apply g_skip)) | ((with_reducible apply g_exit)) | ((with_reducible apply n_then_exit)) | ((with_reducible apply n_block_hit)) | ((with_reducible apply n_block)) | ((with_reducible apply g_cond_f); rfl) | ((with_reducible apply g_cond); rfl; (intro h; (try dsimp only at h); (try simp only [beq_true, beq_false, decide_eq_decide, beq_iff_eq, bne_iff_ne, beq_eq_false_iff_ne, bne_eq_false_iff_eq, decide_eq_true_eq, decide_eq_false_iff_not, Bool.not_eq_true', Bool.not_eq_false', ne_eq, Decidable.not_not] at h); (try (focus (exfalso; first | (simp only [eq_self, not_true_eq_false, not_false_eq_true, reduceCtorEq] at h; done) | omega)))); rotate_left; (intro h; (try dsimp only at h); (try simp only [beq_true, beq_false, decide_eq_decide, beq_iff_eq, bne_iff_ne, beq_eq_false_iff_ne, bne_eq_false_iff_eq, decide_eq_true_eq, decide_eq_false_iff_not, Bool.not_eq_true', Bool.not_eq_false', ne_eq, Decidable.not_not] at h); (try (focus (exfalso; first | (simp only [eq_self, not_true_eq_false, not_false_eq_true, reduceCtorEq] at h; done) | omega)))); rotate_left)))
          · (refine n_back ((j + 1, g, S5)) ?_ ?_ ?_ ?_; rotate_left; rotate_left; (repeat (first | (with_reducible exact ts_nil) | ((with_reducible apply ts_cons); rfl; first | (with_reducible rfl) | rotate_left))); (first | (intro _ i; with_reducible exact i) | rotate_left); (try omega); (try omega))
            · refine ⟨by dsimp only; omega, k5, f5, v5, by dsimp only; omega, g5, fun m hm => ?_⟩
              have := m5 m hm
              dsimp only; omega
            · dsimp only; omega
            · rw [wrapI64 (by omega)]; rfl
          · (refine n_back ((j + 1, g + 1, S7)) ?_ ?_ ?_ ?_; rotate_left; rotate_left; (repeat (first | (with_reducible exact ts_nil) | ((with_reducible apply ts_cons); rfl; first | (with_reducible rfl) | rotate_left))); (first | (intro _ i; with_reducible exact i) | rotate_left); (try omega); (try omega))
            · refine ⟨by dsimp only; omega, k7, by dsimp only; rw [f7, f5], by dsimp only; rw [v7, List.length_append, v5]; rfl, by dsimp only; omega, by dsimp only; rw [g7, g5], fun m hm => ?_⟩
              dsimp only at hm ⊢
              rw [v7] at hm
              rcases List.mem_append.1 hm with hm | hm
              · have := m5 m hm; omega
              · simp only [List.mem_singleton] at hm; omega
            · dsimp only; omega
            · rw [wrapI64 (by omega)]; rfl
            · rw [wrapI64 (by omega)]; rfl
        · obtain rfl : j = 9 := by omega
          obtain ⟨S8, E8, c8, k8, p8, a8, b8, g8, r8⟩ := k5.commit' (root := 0) (.inl rfl) (by rw [g5]; omega)
          have hl8 : (S5.after U).length + g = 9 := by
            rw [Sh.after, f5, List.append_nil, ← v5, ← hUl]; exact len_filter_not k5.h.u.nd k5.v.1 k5.v.2
          have l5 : S5.left E4 = 1 := by rw [k5.left, hUl, f5]; rfl
          have hw9 : IntKind.i64.wrap (1 + (g : Int)) = 1 + g := wrapI64 (by omega)
          have hw10 : IntKind.i64.wrap (9 - (g : Int)) = 9 - g := wrapI64 (by omega)
          have l8 : S8.left E8 = IntKind.i64.wrap (1 + (g : Int)) := by rw [hw9, k8.left, a8, List.length_nil]; omega
          have hu8 := used_is (b := b) db (S := S8) (D := E8) (n := (S5.after U).length) (i := (S5.after U).length) k8.usedLen rfl
          have q11 := k8.giveNo (n := 11) (by rw [a8]; simp) (fun q => by rw [Sh.mem_after, hU, f5] at q; simp at q)
          have q0 := k8.giveNo (n := 0) (by rw [a8]; simp) (fun q => by rw [Sh.mem_after, hU, f5] at q; simp at q)
          have hlw : ((S5.after U).length : Int) = IntKind.i64.wrap (9 - (g : Int)) := by rw [hw10]; omega
          (repeat' (first | ((with_reducible apply g_seq)) | ((with_reducible apply g_region)) | ((with_reducible apply l_nil)) | ((with_reducible apply n_then)) | ((with_reducible apply l_pures1 env_ok); rfl; rfl; rfl) | ((with_reducible apply l_call c9); rfl; rfl; rfl; rfl; (with_reducible exact left_is db l5); (repeat (first | (with_reducible exact Parts.nil) | ((with_reducible apply Parts.cons); (repeat (first | (with_reducible exact Take.here) | ((with_reducible apply Take.there))))))); rintro _ _ _ ⟨rfl, rfl⟩ he; cases he) | ((with_reducible apply l_call c9); rfl; rfl; rfl; rfl; (with_reducible exact left_is db l8); (repeat (first | (with_reducible exact Parts.nil) | ((with_reducible apply Parts.cons); (repeat (first | (with_reducible exact Take.here) | ((with_reducible apply Take.there))))))); rintro _ _ _ ⟨rfl, rfl⟩ he; cases he) | ((with_reducible apply l_call c16); rfl; rfl; rfl; rfl; (with_reducible exact commit_is db c8 (by omega)); (repeat (first | (with_reducible exact Parts.nil) | ((with_reducible apply Parts.cons); (repeat (first | (with_reducible exact Take.here) | ((with_reducible apply Take.there))))))); rintro _ _ _ ⟨rfl, rfl⟩ he; cases he) | ((with_reducible apply l_call c14); rfl; rfl; rfl; rfl; (with_reducible exact hu8); (repeat (first | (with_reducible exact Parts.nil) | ((with_reducible apply Parts.cons); (repeat (first | (with_reducible exact Take.here) | ((with_reducible apply Take.there))))))); rintro _ _ _ ⟨p, cap, rfl, rfl⟩ he; cases he) | ((with_reducible apply l_call c12); rfl; rfl; rfl; rfl; (with_reducible exact give_is db q11 (by omega)); (repeat (first | (with_reducible exact Parts.nil) | ((with_reducible apply Parts.cons); (repeat (first | (with_reducible exact Take.here) | ((with_reducible apply Take.there))))))); rintro _ _ _ ⟨rfl, rfl⟩ he; cases he) | ((with_reducible apply l_call c12); rfl; rfl; rfl; rfl; (with_reducible exact give_is db q0 (by omega)); (repeat (first | (with_reducible exact Parts.nil) | ((with_reducible apply Parts.cons); (repeat (first | (with_reducible exact Take.here) | ((with_reducible apply Take.there))))))); rintro _ _ _ ⟨rfl, rfl⟩ he; cases he) | ((with_reducible apply l_guard_yes); rfl; rfl; rfl) | ((with_reducible apply g_skip)) | ((with_reducible apply g_ret)) | ((with_reducible apply g_exit)) | ((with_reducible apply n_then_exit)) | ((with_reducible apply n_block_hit)) | ((with_reducible apply g_cond_f); rfl) | ((with_reducible apply l_guard_split); rfl; rfl; (intro h; (try dsimp only at h); (try simp only [beq_true, beq_false, decide_eq_decide, beq_iff_eq, bne_iff_ne, beq_eq_false_iff_ne, bne_eq_false_iff_eq, decide_eq_true_eq, decide_eq_false_iff_not, Bool.not_eq_true', Bool.not_eq_false', ne_eq, Decidable.not_not] at h); (try (focus (exfalso; first | (simp only [eq_self, not_true_eq_false, not_false_eq_true, reduceCtorEq] at h; done) | omega)))); rotate_left; (intro h; (try dsimp only at h); (try simp only [beq_true, beq_false, decide_eq_decide, beq_iff_eq, bne_iff_ne, beq_eq_false_iff_ne, bne_eq_false_iff_eq, decide_eq_true_eq, decide_eq_false_iff_not, Bool.not_eq_true', Bool.not_eq_false', ne_eq, Decidable.not_not] at h); (try (focus (exfalso; first | (simp only [eq_self, not_true_eq_false, not_false_eq_true, reduceCtorEq] at h; done) | omega)))); rotate_left)))
          rw [hlw]
          (repeat' fail)
          (apply n_ret env_ok rfl; (repeat (first | (with_reducible exact ResV.nil) | (apply ResV.tmp; rfl) | (apply ResV.cell; rfl; (repeat (first | (with_reducible exact Take.here) | ((with_reducible apply Take.there)))); rfl) | exact ResV.nil)); refine ⟨[], ?_, ?_⟩; rotate_left; (intro _; refine @inv_keep _ _ _ _ ?_ ?_ _); rotate_left; (repeat (first | (with_reducible exact Parts.nil) | ((with_reducible apply Parts.cons); (repeat (first | (with_reducible exact Take.here) | ((with_reducible apply Take.there))))))); rotate_right)
          exact ⟨rfl, rfl⟩
      · exact ⟨by dsimp only; omega, k4, a4, by dsimp only; rw [b4]; rfl, by dsimp only; omega, by dsimp only; rw [g4, hg]; rfl, by dsimp only; rw [b4]; simp⟩
      · rfl
      · rfl
  · exact ⟨by omega, k1, rfl, rfl, rfl, fun m a c => by dsimp only at c; omega⟩
  · rfl
end Go.Proofs.Ytcbcpgaehdoekaa

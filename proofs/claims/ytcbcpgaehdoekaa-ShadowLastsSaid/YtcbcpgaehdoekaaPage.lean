/- Package page. -/
import Derived.Test.YtcbcpgaehdoekaaDisk
set_option linter.unusedVariables false
set_option linter.unusedSimpArgs false
namespace Go.Proofs.Ytcbcpgaehdoekaa
open Go.Proofs.Ytcbcpgaehdoekaa.SL

/-- The two sums of a text. -/
def sumAB : List UInt8 → Nat × Nat → Nat × Nat
  | [], p => p
  | c :: l, (a, b) => sumAB l ((a + c.toNat) % 65521, (b + (a + c.toNat) % 65521) % 65521)
theorem sumAB_snoc (c : UInt8) : ∀ (l : List UInt8) (p : Nat × Nat), sumAB (l ++ [c]) p = (((sumAB l p).1 + c.toNat) % 65521, ((sumAB l p).2 + ((sumAB l p).1 + c.toNat) % 65521) % 65521)
  | [], (a, b) => rfl
  | d :: l, (a, b) => by rw [List.cons_append, sumAB, sumAB_snoc c l]; rfl
theorem sumAB_lt : ∀ (l : List UInt8) (p : Nat × Nat), p.1 < 65521 ∧ p.2 < 65521 → (sumAB l p).1 < 65521 ∧ (sumAB l p).2 < 65521
  | [], p, h => h
  | c :: l, (a, b), h => sumAB_lt l _ ⟨Nat.mod_lt _ (by decide), Nat.mod_lt _ (by decide)⟩
def sumP (l : List UInt8) : Nat := (sumAB l (1, 0)).2 * 65536 + (sumAB l (1, 0)).1
theorem sumP_lt (l : List UInt8) : sumP l < 4294967296 := by
  have := sumAB_lt l (1, 0) (by decide)
  unfold sumP; omega

theorem sum_step {A c : Nat} (hA : A < 65521) (hc : c < 65521) : (IntKind.u32.wrap ((A : Int) + (c : Int))).tmod 65521 = ((A + c) % 65521 : Nat) := by
  rw [wrapU32 (by omega), Int.tmod_eq_emod_of_nonneg (by omega)]
  omega

theorem Sum_does (l : List UInt8) (hl : l.length < 9223372036854775808) : Does Try.prog 60 [.string (str l)] [] (fun v H => v = .int .u32 (sumP l) ∧ H = []) := by
  refine does_of Try.func60 Try.ntmps60 rfl rfl rfl (fun w0 F0 => ?_)
  (repeat (first | ((with_reducible apply g_seq)) | ((with_reducible apply g_region)) | ((with_reducible apply l_nil)) | ((with_reducible apply n_then)) | ((with_reducible apply l_pures1 env_ok); rfl; rfl; rfl) | ((with_reducible apply g_block))))
  (refine g_loop (fun k : Nat => [(8, .int .i64 k), (7, .int .i64 l.length), (6, .string (str l)), (4, .int .u32 (sumAB (l.take k) (1, 0)).2), (3, .int .u32 (sumAB (l.take k) (1, 0)).1), (0, .string (str l))]) (fun _ => []) (fun k => k ≤ l.length) (fun k => l.length - k) (0) ?_ ?_ ?_ ?_; rotate_left; (repeat (first | (with_reducible exact ts_nil) | ((with_reducible apply ts_cons); rfl; first | (with_reducible rfl) | rotate_left))); (first | (intro _ i; with_reducible exact i) | rotate_left); rotate_left; (try omega); rotate_right)
  · intro k hk
    have hlt := sumAB_lt (l.take k) (1, 0) (by decide)
    (repeat' (first | ((with_reducible apply g_seq)) | ((with_reducible apply g_region)) | ((with_reducible apply l_nil)) | ((with_reducible apply n_then)) | ((with_reducible apply l_pures1 env_ok); rfl; rfl; rfl) | ((with_reducible apply l_index env_ok); rfl; rfl; rfl; rfl; (first | assumption | omega | (refine ⟨?_, ?_⟩ <;> omega) | (simp only [List.length_cons, List.length_nil, str] at *; omega) | (simp only [List.length_append] at *; omega))) | ((with_reducible apply l_shl env_ok); rfl; rfl; rfl; (first | assumption | omega | (refine ⟨?_, ?_⟩ <;> omega) | (simp only [List.length_cons, List.length_nil, str] at *; omega) | (simp only [List.length_append] at *; omega))) | ((with_reducible apply g_skip)) | ((with_reducible apply g_ret)) | ((with_reducible apply g_block)) | ((with_reducible apply g_exit)) | ((with_reducible apply n_then_exit)) | ((with_reducible apply n_block_hit)) | ((with_reducible apply n_block)) | ((with_reducible apply g_cond); rfl; (intro h; (try dsimp only at h); (try simp only [beq_true, beq_false, decide_eq_decide, beq_iff_eq, bne_iff_ne, beq_eq_false_iff_ne, bne_eq_false_iff_eq, decide_eq_true_eq, decide_eq_false_iff_not, Bool.not_eq_true', Bool.not_eq_false', ne_eq, Decidable.not_not] at h); (try (focus (exfalso; first | (simp only [eq_self, not_true_eq_false, not_false_eq_true, reduceCtorEq] at h; done) | omega)))); rotate_left; (intro h; (try dsimp only at h); (try simp only [beq_true, beq_false, decide_eq_decide, beq_iff_eq, bne_iff_ne, beq_eq_false_iff_ne, bne_eq_false_iff_eq, decide_eq_true_eq, decide_eq_false_iff_not, Bool.not_eq_true', Bool.not_eq_false', ne_eq, Decidable.not_not] at h); (try (focus (exfalso; first | (simp only [eq_self, not_true_eq_false, not_false_eq_true, reduceCtorEq] at h; done) | omega)))); rotate_left)))
    · have hby := byteAt_bd l k
      have hkl : k < l.length := by omega
      have hc : IntKind.u32.wrap (byteAt l k) = ((l.getD k 0).toNat : Int) := by rw [wrapU32 (by omega)]; simp [byteAt]
      have ht : sumAB (l.take (k + 1)) (1, 0) = (((sumAB (l.take k) (1, 0)).1 + (l.getD k 0).toNat) % 65521, ((sumAB (l.take k) (1, 0)).2 + ((sumAB (l.take k) (1, 0)).1 + (l.getD k 0).toNat) % 65521) % 65521) := by
        rw [List.take_succ_eq_append_getElem hkl, sumAB_snoc, List.getD, List.getElem?_eq_getElem hkl]; rfl
      have h256 := (l.getD k 0).toNat_lt
      (refine n_back (k + 1) ?_ ?_ ?_ ?_; rotate_left; rotate_left; (repeat (first | (with_reducible exact ts_nil) | ((with_reducible apply ts_cons); rfl; first | (with_reducible rfl) | rotate_left))); (first | (intro _ i; with_reducible exact i) | rotate_left); (try omega); (try omega))
      · rw [wrapI64 (by omega)]; rfl
      · rw [hc, sum_step hlt.1 (by omega), sum_step hlt.2 (Nat.mod_lt _ (by decide)), ht]
      · rw [hc, sum_step hlt.1 (by omega), ht]
    · (apply n_ret env_ok rfl; (repeat (first | (with_reducible exact ResV.nil) | (apply ResV.tmp; rfl) | (apply ResV.cell; rfl; (repeat (first | (with_reducible exact Take.here) | ((with_reducible apply Take.there)))); rfl) | exact ResV.nil)); refine ⟨_, ?_, fun i => i⟩)
      have e : l.take k = l := List.take_of_length_le (by omega)
      have e16 : (2 : Int) ^ min (Int.toNat 16) IntKind.u32.bits = 65536 := by decide
      have hlt' := sumAB_lt l (1, 0) (by decide)
      rw [e, e16]
      refine ⟨?_, rfl⟩
      rw [wrapU32 (n := ((sumAB l (1, 0)).2 : Int) * 65536) (by omega), wrapU32 (by omega)]
      simp [packV, sumP]
  all_goals rfl

theorem shr8 {n k : Nat} (h : k < 4) : (n : Int).fdiv (2 ^ min (IntKind.i64.wrap (8 * (k : Int))).toNat IntKind.u32.bits) = ((n / 256 ^ k : Nat) : Int) := by
  rw [wrapI64 (by omega), Int.fdiv_eq_ediv_of_nonneg _ (by exact Int.le_of_lt (Int.pow_pos (by decide)))]
  have : k = 0 ∨ k = 1 ∨ k = 2 ∨ k = 3 := by omega
  rcases this with rfl | rfl | rfl | rfl <;> simp [IntKind.bits]
theorem tail_set {body : List UInt8} {n k : Nat} (hb : body.length = 252) (h : k < 4) : (body ++ (List.replicate (4 - k) 0 ++ putN n k)).set (0 + (IntKind.i64.wrap (255 - (k : Int))).toNat * 1) (UInt8.ofNat (n / 256 ^ k)) = body ++ (List.replicate (4 - (k + 1)) 0 ++ putN n (k + 1)) := by
  rw [wrapI64 (by omega), show 0 + (255 - (k : Int)).toNat * 1 = 252 + (3 - k) by omega, List.set_append_right _ _ (by omega), hb, show 252 + (3 - k) - 252 = 3 - k by omega]
  rw [show 4 - k = (3 - k) + 1 by omega, List.replicate_succ', List.append_assoc, List.set_append_right _ _ (by simp), List.length_replicate, Nat.sub_self, List.singleton_append, List.set_cons_zero, putN_cons, show 4 - (k + 1) = 3 - k by omega]

/-- All of a page but its sum. -/
def bodyP (kind : Int) (t : List UInt8) : List UInt8 := UInt8.ofNat kind.toNat :: UInt8.ofNat t.length :: (t ++ List.replicate (250 - t.length) 0)
def sealP (kind : Int) (t : List UInt8) : List UInt8 := bodyP kind t ++ putN (sumP (bodyP kind t)) 4
def pageSeal (kind : Int) (t : List UInt8) : List UInt8 × Int := if kind < 1 ∨ kind > 15 ∨ t.length > 240 then ([], 1) else (sealP kind t, 0)

set_option maxHeartbeats 1000000 in
theorem Seal_does (kind : Int) (t : List UInt8) (ht : t.length < 9223372036854775808) : Does Try.prog 44 [.int .i64 kind, .string (str t)] []
    (fun v H => v = .tuple #[.string (str (pageSeal kind t).1), .int .i64 (pageSeal kind t).2] ∧ H = []) := by
  refine does_of Try.func44 Try.ntmps44 rfl rfl rfl (fun w0 F0 => ?_)
  (repeat' (first | ((with_reducible apply g_seq)) | ((with_reducible apply g_region)) | ((with_reducible apply l_nil)) | ((with_reducible apply n_then)) | ((with_reducible apply l_pures1 env_ok); rfl; rfl; rfl) | ((with_reducible apply l_guard_yes); rfl; rfl; rfl) | ((with_reducible apply l_guard_no); rfl; rfl; rfl; rfl; rfl) | ((with_reducible apply l_store env_ok); rfl; rfl; rfl; rfl; rfl; (repeat (first | (with_reducible exact Take.here) | ((with_reducible apply Take.there)))); rfl) | ((with_reducible apply l_makeSlice env_ok); rfl; rfl; rfl; rfl; rfl; rfl; (first | assumption | omega | (refine ⟨?_, ?_⟩ <;> omega) | (simp only [List.length_cons, List.length_nil, str] at *; omega) | (simp only [List.length_append] at *; omega)); intro _) | ((with_reducible apply l_indexAddr env_ok); rfl; rfl; rfl; rfl; rfl; (first | assumption | omega | (refine ⟨?_, ?_⟩ <;> omega) | (simp only [List.length_cons, List.length_nil, str] at *; omega) | (simp only [List.length_append] at *; omega))) | ((with_reducible apply l_slice env_ok); rfl; rfl; rfl; rfl; rfl; rfl; (first | assumption | omega | (refine ⟨?_, ?_⟩ <;> omega) | (simp only [List.length_cons, List.length_nil, str] at *; omega) | (simp only [List.length_append] at *; omega)); (first | assumption | omega | (refine ⟨?_, ?_⟩ <;> omega) | (simp only [List.length_cons, List.length_nil, str] at *; omega) | (simp only [List.length_append] at *; omega)); (first | assumption | omega | (refine ⟨?_, ?_⟩ <;> omega) | (simp only [List.length_cons, List.length_nil, str] at *; omega) | (simp only [List.length_append] at *; omega))) | ((with_reducible apply g_skip)) | ((with_reducible apply g_ret)) | ((with_reducible apply n_then_ret)) | ((with_reducible apply g_cond_t); rfl) | ((with_reducible apply l_guard_split); rfl; rfl; (intro h; (try dsimp only at h); (try simp only [beq_true, beq_false, decide_eq_decide, beq_iff_eq, bne_iff_ne, beq_eq_false_iff_ne, bne_eq_false_iff_eq, decide_eq_true_eq, decide_eq_false_iff_not, Bool.not_eq_true', Bool.not_eq_false', ne_eq, Decidable.not_not] at h); (try (focus (exfalso; first | (simp only [eq_self, not_true_eq_false, not_false_eq_true, reduceCtorEq] at h; done) | omega)))); rotate_left; (intro h; (try dsimp only at h); (try simp only [beq_true, beq_false, decide_eq_decide, beq_iff_eq, bne_iff_ne, beq_eq_false_iff_ne, bne_eq_false_iff_eq, decide_eq_true_eq, decide_eq_false_iff_not, Bool.not_eq_true', Bool.not_eq_false', ne_eq, Decidable.not_not] at h); (try (focus (exfalso; first | (simp only [eq_self, not_true_eq_false, not_false_eq_true, reduceCtorEq] at h; done) | omega)))); rotate_left) | ((with_reducible apply g_cond); rfl; (intro h; (try dsimp only at h); (try simp only [beq_true, beq_false, decide_eq_decide, beq_iff_eq, bne_iff_ne, beq_eq_false_iff_ne, bne_eq_false_iff_eq, decide_eq_true_eq, decide_eq_false_iff_not, Bool.not_eq_true', Bool.not_eq_false', ne_eq, Decidable.not_not] at h); (try (focus (exfalso; first | (simp only [eq_self, not_true_eq_false, not_false_eq_true, reduceCtorEq] at h; done) | omega)))); rotate_left; (intro h; (try dsimp only at h); (try simp only [beq_true, beq_false, decide_eq_decide, beq_iff_eq, bne_iff_ne, beq_eq_false_iff_ne, bne_eq_false_iff_eq, decide_eq_true_eq, decide_eq_false_iff_not, Bool.not_eq_true', Bool.not_eq_false', ne_eq, Decidable.not_not] at h); (try (focus (exfalso; first | (simp only [eq_self, not_true_eq_false, not_false_eq_true, reduceCtorEq] at h; done) | omega)))); rotate_left)))
  · (apply n_ret env_ok rfl; (repeat (first | (with_reducible exact ResV.nil) | (apply ResV.tmp; rfl) | (apply ResV.cell; rfl; (repeat (first | (with_reducible exact Take.here) | ((with_reducible apply Take.there)))); rfl) | exact ResV.nil)); refine ⟨_, ?_, fun i => i⟩)
    exact ⟨by rw [pageSeal, if_pos (by omega)]; rfl, rfl⟩
  · (apply n_ret env_ok rfl; (repeat (first | (with_reducible exact ResV.nil) | (apply ResV.tmp; rfl) | (apply ResV.cell; rfl; (repeat (first | (with_reducible exact Take.here) | ((with_reducible apply Take.there)))); rfl) | exact ResV.nil)); refine ⟨_, ?_, fun i => i⟩)
    exact ⟨by rw [pageSeal, if_pos (by omega)]; rfl, rfl⟩
  · (apply n_ret env_ok rfl; (repeat (first | (with_reducible exact ResV.nil) | (apply ResV.tmp; rfl) | (apply ResV.cell; rfl; (repeat (first | (with_reducible exact Take.here) | ((with_reducible apply Take.there)))); rfl) | exact ResV.nil)); refine ⟨_, ?_, fun i => i⟩)
    exact ⟨by rw [pageSeal, if_pos (by omega)]; rfl, rfl⟩
  · rename_i b
    have hk : IntKind.u8.wrap kind = ((UInt8.ofNat kind.toNat).toNat : Int) := by rw [wrapU8 (by omega)]; simp; omega
    have hl : IntKind.u8.wrap (t.length : Int) = ((UInt8.ofNat t.length).toNat : Int) := by rw [wrapU8 (by omega)]; simp; omega
    have e0 : (Value.int IntKind.u8 (IntKind.u8.wrap kind) :: Value.int IntKind.u8 (IntKind.u8.wrap t.length) :: List.replicate 254 (Value.int IntKind.u8 0)) = bsV (UInt8.ofNat kind.toNat :: UInt8.ofNat t.length :: List.replicate 254 0) := by
      rw [hk, hl]; unfold bsV; rw [List.map_cons, List.map_cons, List.map_replicate]; rfl
    rw [e0]
    (repeat (first | ((with_reducible apply g_seq)) | ((with_reducible apply g_region)) | ((with_reducible apply l_nil)) | ((with_reducible apply n_then)) | ((with_reducible apply l_pures1 env_ok); rfl; rfl; rfl) | ((with_reducible apply l_slice env_ok); rfl; rfl; rfl; rfl; rfl; rfl; (first | assumption | omega | (refine ⟨?_, ?_⟩ <;> omega) | (simp only [List.length_cons, List.length_nil, str] at *; omega) | (simp only [List.length_append] at *; omega)); (first | assumption | omega | (refine ⟨?_, ?_⟩ <;> omega) | (simp only [List.length_cons, List.length_nil, str] at *; omega) | (simp only [List.length_append] at *; omega)); (first | assumption | omega | (refine ⟨?_, ?_⟩ <;> omega) | (simp only [List.length_cons, List.length_nil, str] at *; omega) | (simp only [List.length_append] at *; omega))) | ((with_reducible apply l_copy_str env_ok); rfl; rfl; rfl; rfl; rfl; (repeat (first | (with_reducible exact Take.here) | ((with_reducible apply Take.there)))); (first | omega | (simp only [List.length_replicate, List.length_append, List.length_set, List.length_cons, List.length_nil, putN_length] at *; omega)))))
    have e1 : (List.take (0 + Int.toNat 2 * 1) (UInt8.ofNat kind.toNat :: UInt8.ofNat t.length :: List.replicate 254 0) ++ List.take (min t.length (((Int.toNat 256 : Nat) : Int).toNat - Int.toNat 2)) t ++ List.drop (0 + Int.toNat 2 * 1 + min t.length (((Int.toNat 256 : Nat) : Int).toNat - Int.toNat 2)) (UInt8.ofNat kind.toNat :: UInt8.ofNat t.length :: List.replicate 254 0)) = bodyP kind t ++ List.replicate 4 0 := by
      have e2 : min t.length (((Int.toNat 256 : Nat) : Int).toNat - Int.toNat 2) = t.length := by omega
      rw [e2]
      have e3 : 0 + Int.toNat 2 * 1 = 2 := by decide
      rw [e3, List.take_length, Nat.add_comm 2, List.drop_succ_cons, List.drop_succ_cons, List.drop_replicate]
      unfold bodyP
      have e4 : 254 - t.length = (250 - t.length) + 4 := by omega
      rw [e4, ← List.replicate_append_replicate, List.take_succ_cons, List.take_succ_cons, List.take_zero]
      simp only [List.cons_append, List.nil_append, List.append_assoc]
    rw [e1]
    have hbl : (bodyP kind t).length = 252 := by unfold bodyP; simp; omega
    (repeat ((with_reducible apply l_str_bs env_ok); rfl; rfl; rfl; rfl; rfl; (repeat (first | (with_reducible exact Take.here) | ((with_reducible apply Take.there)))); (first | omega | (simp only [List.length_replicate, List.length_append, List.length_set, List.length_cons, List.length_nil, putN_length] at *; omega))))
    have e5 : List.take (Int.toNat 252 - Int.toNat 0) (List.drop (0 + Int.toNat 0 * 1) (bodyP kind t ++ List.replicate 4 0)) = bodyP kind t := by
      rw [show 0 + Int.toNat 0 * 1 = 0 by decide, List.drop_zero, show Int.toNat 252 - Int.toNat 0 = 252 by decide, ← hbl, List.take_left]
    rw [e5]
    have hlt := sumP_lt (bodyP kind t)
    (repeat (first | ((with_reducible apply g_seq)) | ((with_reducible apply g_region)) | ((with_reducible apply l_nil)) | ((with_reducible apply n_then)) | ((with_reducible apply l_pures1 env_ok); rfl; rfl; rfl) | ((with_reducible apply l_call c60); rfl; rfl; rfl; rfl; (with_reducible exact Sum_does (bodyP kind t) (by omega)); (repeat (first | (with_reducible exact Parts.nil) | ((with_reducible apply Parts.cons); (repeat (first | (with_reducible exact Take.here) | ((with_reducible apply Take.there))))))); rintro _ _ _ ⟨rfl, rfl⟩ he; cases he) | ((with_reducible apply g_block))))
    obtain ⟨n, hn⟩ : ∃ n, sumP (bodyP kind t) = n := ⟨_, rfl⟩
    rw [hn] at hlt
    rw [hn]
    (refine g_loop (fun k : Nat => [(38, .int .i64 k), (7, .int .u32 n), (6, .slice (some ⟨b, 0, none⟩) 256 256)]) (fun k => [cl b 5 (bsV (bodyP kind t ++ (List.replicate (4 - k) 0 ++ putN n k)))]) (fun k => k ≤ 4) (fun k => 4 - k) (0) ?_ ?_ ?_ ?_; rotate_left; (repeat (first | (with_reducible exact ts_nil) | ((with_reducible apply ts_cons); rfl; first | (with_reducible rfl) | rotate_left))); (first | (intro _ i; with_reducible exact i) | rotate_left); rotate_left; (try omega); rotate_right)
    · intro k hk4
      have e6 : IntKind.i64.wrap (255 - (k : Int)) = 255 - k := wrapI64 (by omega)
      have e7 : IntKind.i64.wrap (8 * (k : Int)) = 8 * k := wrapI64 (by omega)
      (repeat' (first | ((with_reducible apply g_seq)) | ((with_reducible apply g_region)) | ((with_reducible apply l_nil)) | ((with_reducible apply n_then)) | ((with_reducible apply l_pures1 env_ok); rfl; rfl; rfl) | ((with_reducible apply l_store_at env_ok); rfl; rfl; rfl; rfl; (repeat (first | (with_reducible exact Take.here) | ((with_reducible apply Take.there)))); (first | omega | (simp only [List.length_map, List.length_replicate, List.length_append, List.length_set, List.length_cons, List.length_nil, bsV] at *; omega))) | ((with_reducible apply l_indexAddr env_ok); rfl; rfl; rfl; rfl; rfl; (first | assumption | omega | (refine ⟨?_, ?_⟩ <;> omega) | (simp only [List.length_cons, List.length_nil, str] at *; omega) | (simp only [List.length_append] at *; omega))) | ((with_reducible apply l_shr env_ok); rfl; rfl; rfl; (first | assumption | omega | (refine ⟨?_, ?_⟩ <;> omega) | (simp only [List.length_cons, List.length_nil, str] at *; omega) | (simp only [List.length_append] at *; omega))) | ((with_reducible apply l_str_bs env_ok); rfl; rfl; rfl; rfl; rfl; (repeat (first | (with_reducible exact Take.here) | ((with_reducible apply Take.there)))); (first | omega | (simp only [List.length_replicate, List.length_append, List.length_set, List.length_cons, List.length_nil, putN_length] at *; omega))) | ((with_reducible apply g_skip)) | ((with_reducible apply g_ret)) | ((with_reducible apply g_block)) | ((with_reducible apply g_exit)) | ((with_reducible apply n_then_exit)) | ((with_reducible apply n_block_hit)) | ((with_reducible apply n_block)) | ((with_reducible apply g_cond); rfl; (intro h; (try dsimp only at h); (try simp only [beq_true, beq_false, decide_eq_decide, beq_iff_eq, bne_iff_ne, beq_eq_false_iff_ne, bne_eq_false_iff_eq, decide_eq_true_eq, decide_eq_false_iff_not, Bool.not_eq_true', Bool.not_eq_false', ne_eq, Decidable.not_not] at h); (try (focus (exfalso; first | (simp only [eq_self, not_true_eq_false, not_false_eq_true, reduceCtorEq] at h; done) | omega)))); rotate_left; (intro h; (try dsimp only at h); (try simp only [beq_true, beq_false, decide_eq_decide, beq_iff_eq, bne_iff_ne, beq_eq_false_iff_ne, bne_eq_false_iff_eq, decide_eq_true_eq, decide_eq_false_iff_not, Bool.not_eq_true', Bool.not_eq_false', ne_eq, Decidable.not_not] at h); (try (focus (exfalso; first | (simp only [eq_self, not_true_eq_false, not_false_eq_true, reduceCtorEq] at h; done) | omega)))); rotate_left)))
      · (refine n_back (k + 1) ?_ ?_ ?_ ?_; rotate_left; rotate_left; (repeat (first | (with_reducible exact ts_nil) | ((with_reducible apply ts_cons); rfl; first | (with_reducible rfl) | rotate_left))); (first | (intro _ i; with_reducible exact i) | rotate_left); (try omega); (try omega))
        · rw [wrapI64 (by omega)]; rfl
        · have hk4' : k < 4 := by omega
          have ec : UInt8.ofNat (IntKind.u8.wrap ((n / 256 ^ k : Nat) : Int)).toNat = UInt8.ofNat (n / 256 ^ k) := by
            obtain ⟨q, hq⟩ : ∃ q, n / 256 ^ k = q := ⟨_, rfl⟩
            rw [IntKind.wrap_u8, hq]; apply UInt8.toNat.inj; rw [show ((q : Int) % 256).toNat = q % 256 by omega]; simp
          rw [shr8 hk4', bsV_set (by rw [IntKind.wrap_u8]; omega), ec, tail_set hbl hk4']
          intro _ i; exact i
      · obtain rfl : k = 4 := by omega
        (apply n_ret env_ok rfl; (repeat (first | (with_reducible exact ResV.nil) | (apply ResV.tmp; rfl) | (apply ResV.cell; rfl; (repeat (first | (with_reducible exact Take.here) | ((with_reducible apply Take.there)))); rfl) | exact ResV.nil)); refine ⟨[], ?_, ?_⟩; rotate_left; (intro _; refine @inv_keep _ _ _ _ ?_ ?_ _); rotate_left; (repeat (first | (with_reducible exact Parts.nil) | ((with_reducible apply Parts.cons); (repeat (first | (with_reducible exact Take.here) | ((with_reducible apply Take.there))))))); rotate_right)
        have e8 : List.take 256 (List.drop 0 (bodyP kind t ++ (List.replicate (4 - 4) 0 ++ putN n 4))) = sealP kind t := by
          rw [List.drop_zero, List.take_of_length_le (by simp [hbl, putN_length]), sealP, hn]; rfl
        rw [e8, pageSeal, if_neg (by omega)]
        exact ⟨rfl, rfl⟩
    all_goals first | rfl | (intro _ i; rw [show List.replicate (4 - 0) (0 : UInt8) ++ putN n 0 = List.replicate 4 0 by simp [putN]]; exact i)

theorem or8 {a c : Nat} (ha : a < 16777216) (hc : c < 256) : bits BinOp.or IntKind.u32 (IntKind.u32.wrap ((a : Int) * 2 ^ min (Int.toNat 8) IntKind.u32.bits)) (IntKind.u32.wrap (c : Int)) = ((a * 256 + c : Nat) : Int) := by
  rw [p8', wrapU32 (n := (a : Int) * 256) (by omega), wrapU32 (n := (c : Int)) (by omega)]
  have e : ((a : Int) * 256) = ((2 ^ 8 * a : Nat) : Int) := by omega
  rw [e, bits_or (by simp [IntKind.bits]; omega) (by simp [IntKind.bits]; omega), ← Nat.two_pow_add_eq_or_of_lt (i := 8) (by omega), wrapU32 (by omega)]
  omega

def pageOpen (b : List UInt8) : Int × List UInt8 × Int :=
  if b.length ≠ 256 then (0, [], 2) else if sumP (b.take 252) ≠ getN (b.drop 252) then (0, [], 15)
  else if pageSeal (byteAt b 0) ((b.drop 2).take (min (b.getD 1 0).toNat 250)) = (b, 0) then (byteAt b 0, (b.drop 2).take (min (b.getD 1 0).toNat 250), 0) else (0, [], 2)
def openV (r : Int × List UInt8 × Int) : Value := .tuple #[.int .i64 r.1, .string (str r.2.1), .int .i64 r.2.2]

set_option maxHeartbeats 1000000 in
theorem Open_does (b : List UInt8) (hb : b.length < 9223372036854775808) : Does Try.prog 51 [.string (str b)] [] (fun v H => v = openV (pageOpen b) ∧ H = []) := by
  refine does_of Try.func51 Try.ntmps51 rfl rfl rfl (fun w0 F0 => ?_)
  (repeat' (first | ((with_reducible apply g_seq)) | ((with_reducible apply g_region)) | ((with_reducible apply l_nil)) | ((with_reducible apply n_then)) | ((with_reducible apply l_pures1 env_ok); rfl; rfl; rfl) | ((with_reducible apply g_skip)) | ((with_reducible apply g_ret)) | ((with_reducible apply n_then_ret)) | ((with_reducible apply g_block)) | ((with_reducible apply g_cond); rfl; (intro h; (try dsimp only at h); (try simp only [beq_true, beq_false, decide_eq_decide, beq_iff_eq, bne_iff_ne, beq_eq_false_iff_ne, bne_eq_false_iff_eq, decide_eq_true_eq, decide_eq_false_iff_not, Bool.not_eq_true', Bool.not_eq_false', ne_eq, Decidable.not_not] at h); (try (focus (exfalso; first | (simp only [eq_self, not_true_eq_false, not_false_eq_true, reduceCtorEq] at h; done) | omega)))); rotate_left; (intro h; (try dsimp only at h); (try simp only [beq_true, beq_false, decide_eq_decide, beq_iff_eq, bne_iff_ne, beq_eq_false_iff_ne, bne_eq_false_iff_eq, decide_eq_true_eq, decide_eq_false_iff_not, Bool.not_eq_true', Bool.not_eq_false', ne_eq, Decidable.not_not] at h); (try (focus (exfalso; first | (simp only [eq_self, not_true_eq_false, not_false_eq_true, reduceCtorEq] at h; done) | omega)))); rotate_left)))
  · (apply n_ret env_ok rfl; (repeat (first | (with_reducible exact ResV.nil) | (apply ResV.tmp; rfl) | (apply ResV.cell; rfl; (repeat (first | (with_reducible exact Take.here) | ((with_reducible apply Take.there)))); rfl) | exact ResV.nil)); refine ⟨_, ?_, fun i => i⟩)
    exact ⟨by rw [pageOpen, if_pos (by omega)]; rfl, rfl⟩
  · (refine g_loop (fun k : Nat => [(13, .int .i64 k), (5, .int .u32 (getN ((b.drop 252).take k))), (4, .int .i64 0), (3, .string { data := #[] }), (2, .int .i64 0), (0, .string (str b))]) (fun k => []) (fun k => k ≤ 4) (fun k => 4 - k) (0) ?_ ?_ ?_ ?_; rotate_left; (repeat (first | (with_reducible exact ts_nil) | ((with_reducible apply ts_cons); rfl; first | (with_reducible rfl) | rotate_left))); (first | (intro _ i; with_reducible exact i) | rotate_left); rotate_left; (try omega); rotate_right)
    · intro k hk4
      have e6 : IntKind.i64.wrap (252 + (k : Int)) = 252 + k := wrapI64 (by omega)
      have hd : (b.drop 252).length = 4 := by simp; omega
      (repeat' (first | ((with_reducible apply g_seq)) | ((with_reducible apply g_region)) | ((with_reducible apply l_nil)) | ((with_reducible apply n_then)) | ((with_reducible apply l_pures1 env_ok); rfl; rfl; rfl) | ((with_reducible apply l_index env_ok); rfl; rfl; rfl; rfl; (first | assumption | omega | (refine ⟨?_, ?_⟩ <;> omega) | (simp only [List.length_cons, List.length_nil, str] at *; omega) | (simp only [List.length_append] at *; omega))) | ((with_reducible apply l_slice_str env_ok); rfl; rfl; rfl; rfl; rfl; (first | assumption | omega | (refine ⟨?_, ?_⟩ <;> omega) | (simp only [List.length_cons, List.length_nil, str] at *; omega) | (simp only [List.length_append] at *; omega))) | ((with_reducible apply l_shl env_ok); rfl; rfl; rfl; (first | assumption | omega | (refine ⟨?_, ?_⟩ <;> omega) | (simp only [List.length_cons, List.length_nil, str] at *; omega) | (simp only [List.length_append] at *; omega))) | ((with_reducible apply g_skip)) | ((with_reducible apply g_block)) | ((with_reducible apply g_exit)) | ((with_reducible apply n_then_exit)) | ((with_reducible apply n_block_hit)) | ((with_reducible apply n_block)) | ((with_reducible apply g_cond); rfl; (intro h; (try dsimp only at h); (try simp only [beq_true, beq_false, decide_eq_decide, beq_iff_eq, bne_iff_ne, beq_eq_false_iff_ne, bne_eq_false_iff_eq, decide_eq_true_eq, decide_eq_false_iff_not, Bool.not_eq_true', Bool.not_eq_false', ne_eq, Decidable.not_not] at h); (try (focus (exfalso; first | (simp only [eq_self, not_true_eq_false, not_false_eq_true, reduceCtorEq] at h; done) | omega)))); rotate_left; (intro h; (try dsimp only at h); (try simp only [beq_true, beq_false, decide_eq_decide, beq_iff_eq, bne_iff_ne, beq_eq_false_iff_ne, bne_eq_false_iff_eq, decide_eq_true_eq, decide_eq_false_iff_not, Bool.not_eq_true', Bool.not_eq_false', ne_eq, Decidable.not_not] at h); (try (focus (exfalso; first | (simp only [eq_self, not_true_eq_false, not_false_eq_true, reduceCtorEq] at h; done) | omega)))); rotate_left)))
      · (refine n_back (k + 1) ?_ ?_ ?_ ?_; rotate_left; rotate_left; (repeat (first | (with_reducible exact ts_nil) | ((with_reducible apply ts_cons); rfl; first | (with_reducible rfl) | rotate_left))); (first | (intro _ i; with_reducible exact i) | rotate_left); (try omega); (try omega))
        · rw [wrapI64 (by omega)]; rfl
        · have hg := getN_lt ((b.drop 252).take k)
          have hp : 256 ^ ((b.drop 252).take k).length ≤ 256 ^ 3 := Nat.pow_le_pow_right (by decide) (by simp; omega)
          have h3 : getN ((b.drop 252).take k) < 16777216 := Nat.lt_of_lt_of_le hg hp
          have hby : byteAt b (IntKind.i64.wrap (252 + (k : Int))) = (((b.drop 252).getD k 0).toNat : Int) := by
            rw [e6]
            unfold byteAt
            rw [show (252 + (k : Int)).toNat = 252 + k by omega]
            simp [List.getD]
          rw [hby, or8 h3 (UInt8.toNat_lt _), getN_take (by omega)]
      · have hcut : cutB b (Int.toNat 0) (Int.toNat 252) = b.take 252 := by
          show (b.drop 0).take (252 - 0) = _
          rw [List.drop_zero]
        have hN : (b.drop 252).take k = b.drop 252 := List.take_of_length_le (by omega)
        rw [hcut, hN]
        (repeat' (first | ((with_reducible apply g_seq)) | ((with_reducible apply g_region)) | ((with_reducible apply l_nil)) | ((with_reducible apply n_then)) | ((with_reducible apply l_pures1 env_ok); rfl; rfl; rfl) | ((with_reducible apply l_call c60); rfl; rfl; rfl; rfl; (with_reducible exact Sum_does (b.take 252) (by simp; omega)); (repeat (first | (with_reducible exact Parts.nil) | ((with_reducible apply Parts.cons); (repeat (first | (with_reducible exact Take.here) | ((with_reducible apply Take.there))))))); rintro _ _ _ ⟨rfl, rfl⟩ he; cases he) | ((with_reducible apply l_index env_ok); rfl; rfl; rfl; rfl; (first | assumption | omega | (refine ⟨?_, ?_⟩ <;> omega) | (simp only [List.length_cons, List.length_nil, str] at *; omega) | (simp only [List.length_append] at *; omega))) | ((with_reducible apply g_skip)) | ((with_reducible apply g_ret)) | ((with_reducible apply n_then_ret)) | ((with_reducible apply g_cond); rfl; (intro h; (try dsimp only at h); (try simp only [beq_true, beq_false, decide_eq_decide, beq_iff_eq, bne_iff_ne, beq_eq_false_iff_ne, bne_eq_false_iff_eq, decide_eq_true_eq, decide_eq_false_iff_not, Bool.not_eq_true', Bool.not_eq_false', ne_eq, Decidable.not_not] at h); (try (focus (exfalso; first | (simp only [eq_self, not_true_eq_false, not_false_eq_true, reduceCtorEq] at h; done) | omega)))); rotate_left; (intro h; (try dsimp only at h); (try simp only [beq_true, beq_false, decide_eq_decide, beq_iff_eq, bne_iff_ne, beq_eq_false_iff_ne, bne_eq_false_iff_eq, decide_eq_true_eq, decide_eq_false_iff_not, Bool.not_eq_true', Bool.not_eq_false', ne_eq, Decidable.not_not] at h); (try (focus (exfalso; first | (simp only [eq_self, not_true_eq_false, not_false_eq_true, reduceCtorEq] at h; done) | omega)))); rotate_left)))
        · (apply n_ret env_ok rfl; (repeat (first | (with_reducible exact ResV.nil) | (apply ResV.tmp; rfl) | (apply ResV.cell; rfl; (repeat (first | (with_reducible exact Take.here) | ((with_reducible apply Take.there)))); rfl) | exact ResV.nil)); refine ⟨_, ?_, fun i => i⟩)
          exact ⟨by rw [pageOpen, if_neg (by omega), if_pos (by omega)]; rfl, rfl⟩
        · obtain ⟨sz, hsz⟩ : ∃ sz, min (b.getD 1 0).toNat 250 = sz := ⟨_, rfl⟩
          have hby1 := byteAt_bd b 1
          have hb1 : byteAt b 1 = ((b.getD 1 0).toNat : Int) := rfl
          have hb0 := byteAt_bd b 0
          have e7 : IntKind.i64.wrap (2 + (bif false then mxI (IntKind.i64.wrap (byteAt b 1)) 250 else mnI (IntKind.i64.wrap (byteAt b 1)) 250)) = ((2 + sz : Nat) : Int) := by
            rw [cond_false, mnI_eq, wrapI64 (n := byteAt b 1) (by omega), wrapI64 (by omega)]
            omega
          have e8 : IntKind.i64.wrap (byteAt b 0) = byteAt b 0 := wrapI64 (by omega)
          have hcut2 : cutB b (Int.toNat 2) (((2 + sz : Nat) : Int).toNat) = (b.drop 2).take sz := by
            show (b.drop 2).take (((2 + sz : Nat) : Int).toNat - 2) = _
            rw [show ((2 + sz : Nat) : Int).toNat - 2 = sz by omega]
          rw [e7]
          (repeat (first | ((with_reducible apply g_seq)) | ((with_reducible apply g_region)) | ((with_reducible apply l_nil)) | ((with_reducible apply n_then)) | ((with_reducible apply l_pures1 env_ok); rfl; rfl; rfl) | ((with_reducible apply l_index env_ok); rfl; rfl; rfl; rfl; (first | assumption | omega | (refine ⟨?_, ?_⟩ <;> omega) | (simp only [List.length_cons, List.length_nil, str] at *; omega) | (simp only [List.length_append] at *; omega))) | ((with_reducible apply l_slice_str env_ok); rfl; rfl; rfl; rfl; rfl; (first | assumption | omega | (refine ⟨?_, ?_⟩ <;> omega) | (simp only [List.length_cons, List.length_nil, str] at *; omega) | (simp only [List.length_append] at *; omega)))))
          rw [hcut2, e8]
          (repeat' (first | ((with_reducible apply g_seq)) | ((with_reducible apply g_region)) | ((with_reducible apply l_nil)) | ((with_reducible apply n_then)) | ((with_reducible apply l_pures1 env_ok); rfl; rfl; rfl) | ((with_reducible apply l_call c44); rfl; rfl; rfl; rfl; (with_reducible exact Seal_does (byteAt b 0) ((b.drop 2).take sz) (by simp; omega)); (repeat (first | (with_reducible exact Parts.nil) | ((with_reducible apply Parts.cons); (repeat (first | (with_reducible exact Take.here) | ((with_reducible apply Take.there))))))); rintro _ _ _ ⟨rfl, rfl⟩ he; cases he) | ((with_reducible apply l_guard_yes); rfl; rfl; rfl) | ((with_reducible apply l_guard_no); rfl; rfl; rfl; rfl; rfl) | ((with_reducible apply l_index env_ok); rfl; rfl; rfl; rfl; (first | assumption | omega | (refine ⟨?_, ?_⟩ <;> omega) | (simp only [List.length_cons, List.length_nil, str] at *; omega) | (simp only [List.length_append] at *; omega))) | ((with_reducible apply g_skip)) | ((with_reducible apply g_ret)) | ((with_reducible apply n_then_ret)) | ((with_reducible apply g_cond_t); rfl) | ((with_reducible apply l_guard_split); rfl; rfl; (intro h; (try dsimp only at h); (try simp only [beq_true, beq_false, decide_eq_decide, beq_iff_eq, bne_iff_ne, beq_eq_false_iff_ne, bne_eq_false_iff_eq, decide_eq_true_eq, decide_eq_false_iff_not, Bool.not_eq_true', Bool.not_eq_false', ne_eq, Decidable.not_not] at h); (try (focus (exfalso; first | (simp only [eq_self, not_true_eq_false, not_false_eq_true, reduceCtorEq] at h; done) | omega)))); rotate_left; (intro h; (try dsimp only at h); (try simp only [beq_true, beq_false, decide_eq_decide, beq_iff_eq, bne_iff_ne, beq_eq_false_iff_ne, bne_eq_false_iff_eq, decide_eq_true_eq, decide_eq_false_iff_not, Bool.not_eq_true', Bool.not_eq_false', ne_eq, Decidable.not_not] at h); (try (focus (exfalso; first | (simp only [eq_self, not_true_eq_false, not_false_eq_true, reduceCtorEq] at h; done) | omega)))); rotate_left) | ((with_reducible apply g_cond); rfl; (intro h; (try dsimp only at h); (try simp only [beq_true, beq_false, decide_eq_decide, beq_iff_eq, bne_iff_ne, beq_eq_false_iff_ne, bne_eq_false_iff_eq, decide_eq_true_eq, decide_eq_false_iff_not, Bool.not_eq_true', Bool.not_eq_false', ne_eq, Decidable.not_not] at h); (try (focus (exfalso; first | (simp only [eq_self, not_true_eq_false, not_false_eq_true, reduceCtorEq] at h; done) | omega)))); rotate_left; (intro h; (try dsimp only at h); (try simp only [beq_true, beq_false, decide_eq_decide, beq_iff_eq, bne_iff_ne, beq_eq_false_iff_ne, bne_eq_false_iff_eq, decide_eq_true_eq, decide_eq_false_iff_not, Bool.not_eq_true', Bool.not_eq_false', ne_eq, Decidable.not_not] at h); (try (focus (exfalso; first | (simp only [eq_self, not_true_eq_false, not_false_eq_true, reduceCtorEq] at h; done) | omega)))); rotate_left)))
          · (apply n_ret env_ok rfl; (repeat (first | (with_reducible exact ResV.nil) | (apply ResV.tmp; rfl) | (apply ResV.cell; rfl; (repeat (first | (with_reducible exact Take.here) | ((with_reducible apply Take.there)))); rfl) | exact ResV.nil)); refine ⟨_, ?_, fun i => i⟩)
            exact ⟨by rw [pageOpen, if_neg (by omega), if_neg (by omega), hsz, if_neg (fun q => absurd (congrArg Prod.snd q) (by assumption))]; rfl, rfl⟩
          · (apply n_ret env_ok rfl; (repeat (first | (with_reducible exact ResV.nil) | (apply ResV.tmp; rfl) | (apply ResV.cell; rfl; (repeat (first | (with_reducible exact Take.here) | ((with_reducible apply Take.there)))); rfl) | exact ResV.nil)); refine ⟨_, ?_, fun i => i⟩)
            exact ⟨by rw [pageOpen, if_neg (by omega), if_neg (by omega), hsz, if_neg (fun q => absurd (congrArg Prod.fst q) (by assumption))]; rfl, rfl⟩
          · (apply n_ret env_ok rfl; (repeat (first | (with_reducible exact ResV.nil) | (apply ResV.tmp; rfl) | (apply ResV.cell; rfl; (repeat (first | (with_reducible exact Take.here) | ((with_reducible apply Take.there)))); rfl) | exact ResV.nil)); refine ⟨_, ?_, fun i => i⟩)
            rename_i hp2 hp1
            have hp : pageSeal (byteAt b 0) ((b.drop 2).take sz) = (b, 0) := Prod.ext (by assumption) (by assumption)
            exact ⟨by rw [e8, pageOpen, if_neg (by omega), if_neg (by omega), hsz, if_pos hp]; rfl, rfl⟩
    all_goals rfl

def pageWrite (D : Dk) (n kind : Int) (t : List UInt8) : Int × Dk := if (pageSeal kind t).2 ≠ 0 then ((pageSeal kind t).2, D) else D.write n (pageSeal kind t).1
theorem pWrite_does (b : Nat) (D : Dk) (n kind : Int) (t : List UInt8) (ht : t.length < 9223372036854775808) : Does Try.prog 30 [.pointer (some ⟨b, 0, none⟩), .int .i64 n, .int .i64 kind, .string (str t)] [Disk b D]
    (fun v H => v = .int .i64 (pageWrite D n kind t).1 ∧ H = [Disk b (pageWrite D n kind t).2]) := by
  refine does_of Try.func30 Try.ntmps30 rfl rfl rfl (fun w0 F0 => ?_)
  (repeat' (first | ((with_reducible apply g_seq)) | ((with_reducible apply g_region)) | ((with_reducible apply l_nil)) | ((with_reducible apply n_then)) | ((with_reducible apply l_pures1 env_ok); rfl; rfl; rfl) | ((with_reducible apply l_call c44); rfl; rfl; rfl; rfl; (with_reducible exact Seal_does kind t ht); (repeat (first | (with_reducible exact Parts.nil) | ((with_reducible apply Parts.cons); (repeat (first | (with_reducible exact Take.here) | ((with_reducible apply Take.there))))))); rintro _ _ _ ⟨rfl, rfl⟩ he; cases he) | ((with_reducible apply l_call c45); rfl; rfl; rfl; rfl; (with_reducible exact Write_does b D n (pageSeal kind t).1); (repeat (first | (with_reducible exact Parts.nil) | ((with_reducible apply Parts.cons); (repeat (first | (with_reducible exact Take.here) | ((with_reducible apply Take.there))))))); rintro _ _ _ ⟨rfl, rfl⟩ he; cases he) | ((with_reducible apply g_skip)) | ((with_reducible apply g_ret)) | ((with_reducible apply n_then_ret)) | ((with_reducible apply g_cond); rfl; (intro h; (try dsimp only at h); (try simp only [beq_true, beq_false, decide_eq_decide, beq_iff_eq, bne_iff_ne, beq_eq_false_iff_ne, bne_eq_false_iff_eq, decide_eq_true_eq, decide_eq_false_iff_not, Bool.not_eq_true', Bool.not_eq_false', ne_eq, Decidable.not_not] at h); (try (focus (exfalso; first | (simp only [eq_self, not_true_eq_false, not_false_eq_true, reduceCtorEq] at h; done) | omega)))); rotate_left; (intro h; (try dsimp only at h); (try simp only [beq_true, beq_false, decide_eq_decide, beq_iff_eq, bne_iff_ne, beq_eq_false_iff_ne, bne_eq_false_iff_eq, decide_eq_true_eq, decide_eq_false_iff_not, Bool.not_eq_true', Bool.not_eq_false', ne_eq, Decidable.not_not] at h); (try (focus (exfalso; first | (simp only [eq_self, not_true_eq_false, not_false_eq_true, reduceCtorEq] at h; done) | omega)))); rotate_left)))
  · (apply n_ret env_ok rfl; (repeat (first | (with_reducible exact ResV.nil) | (apply ResV.tmp; rfl) | (apply ResV.cell; rfl; (repeat (first | (with_reducible exact Take.here) | ((with_reducible apply Take.there)))); rfl) | exact ResV.nil)); refine ⟨_, ?_, fun i => i⟩)
    exact ⟨by rw [pageWrite, if_pos (by assumption)]; rfl, by rw [pageWrite, if_pos (by assumption)]⟩
  · (apply n_ret env_ok rfl; (repeat (first | (with_reducible exact ResV.nil) | (apply ResV.tmp; rfl) | (apply ResV.cell; rfl; (repeat (first | (with_reducible exact Take.here) | ((with_reducible apply Take.there)))); rfl) | exact ResV.nil)); refine ⟨_, ?_, fun i => i⟩)
    exact ⟨by rw [pageWrite, if_neg (by omega)]; rfl, by rw [pageWrite, if_neg (by omega)]⟩

def pageRead (D : Dk) (n : Int) : Int × List UInt8 × Int := if (D.read n).2 ≠ 0 then (0, [], (D.read n).2) else pageOpen (D.read n).1
theorem pRead_does (b : Nat) (D : Dk) (n : Int) (hl : (D.read n).1.length < 9223372036854775808) : Does Try.prog 36 [.pointer (some ⟨b, 0, none⟩), .int .i64 n] [Disk b D]
    (fun v H => v = openV (pageRead D n) ∧ H = [Disk b D]) := by
  refine does_of Try.func36 Try.ntmps36 rfl rfl rfl (fun w0 F0 => ?_)
  (repeat' (first | ((with_reducible apply g_seq)) | ((with_reducible apply g_region)) | ((with_reducible apply l_nil)) | ((with_reducible apply n_then)) | ((with_reducible apply l_pures1 env_ok); rfl; rfl; rfl) | ((with_reducible apply l_call c50); rfl; rfl; rfl; rfl; (with_reducible exact Read_does b D n); (repeat (first | (with_reducible exact Parts.nil) | ((with_reducible apply Parts.cons); (repeat (first | (with_reducible exact Take.here) | ((with_reducible apply Take.there))))))); rintro _ _ _ ⟨rfl, rfl⟩ he; cases he) | ((with_reducible apply l_call c51); rfl; rfl; rfl; rfl; (with_reducible exact Open_does (D.read n).1 hl); (repeat (first | (with_reducible exact Parts.nil) | ((with_reducible apply Parts.cons); (repeat (first | (with_reducible exact Take.here) | ((with_reducible apply Take.there))))))); rintro _ _ _ ⟨rfl, rfl⟩ he; cases he) | ((with_reducible apply g_skip)) | ((with_reducible apply g_ret)) | ((with_reducible apply n_then_ret)) | ((with_reducible apply g_cond); rfl; (intro h; (try dsimp only at h); (try simp only [beq_true, beq_false, decide_eq_decide, beq_iff_eq, bne_iff_ne, beq_eq_false_iff_ne, bne_eq_false_iff_eq, decide_eq_true_eq, decide_eq_false_iff_not, Bool.not_eq_true', Bool.not_eq_false', ne_eq, Decidable.not_not] at h); (try (focus (exfalso; first | (simp only [eq_self, not_true_eq_false, not_false_eq_true, reduceCtorEq] at h; done) | omega)))); rotate_left; (intro h; (try dsimp only at h); (try simp only [beq_true, beq_false, decide_eq_decide, beq_iff_eq, bne_iff_ne, beq_eq_false_iff_ne, bne_eq_false_iff_eq, decide_eq_true_eq, decide_eq_false_iff_not, Bool.not_eq_true', Bool.not_eq_false', ne_eq, Decidable.not_not] at h); (try (focus (exfalso; first | (simp only [eq_self, not_true_eq_false, not_false_eq_true, reduceCtorEq] at h; done) | omega)))); rotate_left)))
  · (apply n_ret env_ok rfl; (repeat (first | (with_reducible exact ResV.nil) | (apply ResV.tmp; rfl) | (apply ResV.cell; rfl; (repeat (first | (with_reducible exact Take.here) | ((with_reducible apply Take.there)))); rfl) | exact ResV.nil)); refine ⟨_, ?_, fun i => i⟩)
    exact ⟨by rw [pageRead, if_pos (by assumption)]; rfl, rfl⟩
  · (apply n_ret env_ok rfl; (repeat (first | (with_reducible exact ResV.nil) | (apply ResV.tmp; rfl) | (apply ResV.cell; rfl; (repeat (first | (with_reducible exact Take.here) | ((with_reducible apply Take.there)))); rfl) | exact ResV.nil)); refine ⟨_, ?_, fun i => i⟩)
    exact ⟨by rw [pageRead, if_neg (by omega)]; rfl, rfl⟩
end Go.Proofs.Ytcbcpgaehdoekaa

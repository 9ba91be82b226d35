/- Package shadow: read, over, Mount, Rollback on its cells. -/
import Derived.Test.YtcbcpgaehdoekaaShadH
set_option linter.unusedVariables false
set_option linter.unusedSimpArgs false
namespace Go.Proofs.Ytcbcpgaehdoekaa
open Go.Proofs.Ytcbcpgaehdoekaa.SL

theorem Take2_does (b : List UInt8) (size : Int) (hs : -9223372036854775808 ≤ size ∧ size < 9223372036854775808) (hb : b.length < 9223372036854775808) :
    Does Try.prog 52 [.string (str b), .int .i64 size] [] (fun v H => v = .tuple #[.int .u64 (numTake b size).1, .string (str (numTake b size).2.1), .int .i64 (numTake b size).2.2] ∧ H = []) := Take_does b size hs hb

def headOf (s : List UInt8) : Hd := ⟨getN (s.take 6), getN ((s.drop 6).take 2), s.drop 8⟩
def headNone : Hd := ⟨0, 0, []⟩
def readH (D : Dk) (n : Int) : Hd × Bool :=
  if (pageRead D n).2.2 ≠ 0 ∨ (pageRead D n).1 ≠ 1 ∨ (pageRead D n).2.1.length ≠ 88 then (headNone, false)
  else (headOf (pageRead D n).2.1, (headOf (pageRead D n).2.1).counts D.now.length n)
theorem take_of {b : List UInt8} {k : Nat} (h : k ≤ b.length) (hk : 1 ≤ k ∧ k ≤ 8) : numTake b k = (getN (b.take k), b.drop k, 0) := by
  rw [numTake, if_neg (by omega), if_neg (by omega)]; rfl
theorem getN_take_lt (b : List UInt8) (k : Nat) : getN (b.take k) < 256 ^ k := by
  refine Nat.lt_of_lt_of_le (getN_lt _) (Nat.pow_le_pow_right (by decide) ?_)
  rw [List.length_take]; omega
theorem headOf_ok {s : List UInt8} (h : s.length = 88) : (headOf s).ok ∧ (headOf s).used.length = 80 := by
  have h1 := getN_take_lt s 6
  have h2 := getN_take_lt (s.drop 6) 2
  refine ⟨⟨⟨?_, ?_⟩, ⟨?_, ?_⟩, ?_⟩, ?_⟩
  all_goals simp only [headOf, List.length_drop]
  all_goals omega

theorem Take3_does (b : List UInt8) (i : Int) (k : Nat) (e : i = k) (h : k ≤ b.length) (hk : 1 ≤ k ∧ k ≤ 8) (hb : b.length < 9223372036854775808) :
    Does Try.prog 52 [.string (str b), .int .i64 i] [] (fun v H => v = .tuple #[.int .u64 (getN (b.take k)), .string (str (b.drop k)), .int .i64 0] ∧ H = []) := by
  subst e
  have := Take2_does b k (by omega) hb
  rw [take_of h hk] at this
  exact this
theorem read_does (db : Nat) (D : Dk) (n : Int) (hn : 0 ≤ n ∧ n < 2) : Does Try.prog 37 [.pointer (some ⟨db, 0, none⟩), .int .i64 n] [Disk db D] (fun v H => v = .tuple #[.agg #[.int .i64 (readH D n).1.gen, .int .i64 (readH D n).1.root, .string (str (readH D n).1.used)], .bool (readH D n).2] ∧ H = [Disk db D]) := by
  refine does_of Try.func37 Try.ntmps37 rfl rfl rfl (fun w0 F0 => ?_)
  (repeat' (first | ((with_reducible apply g_seq)) | ((with_reducible apply g_region)) | ((with_reducible apply l_nil)) | ((with_reducible apply n_then)) | ((with_reducible apply l_pures1 env_ok); rfl; rfl; rfl) | ((with_reducible apply l_call c36); rfl; rfl; rfl; rfl; (with_reducible exact pRead2_does db D n); (repeat (first | (with_reducible exact Parts.nil) | ((with_reducible apply Parts.cons); (repeat (first | (with_reducible exact Take.here) | ((with_reducible apply Take.there))))))); rintro _ _ _ ⟨rfl, rfl⟩ he; cases he) | ((with_reducible apply l_guard_yes); rfl; rfl; rfl) | ((with_reducible apply l_guard_no); rfl; rfl; rfl; rfl; rfl) | ((with_reducible apply l_store env_ok); rfl; rfl; rfl; rfl; rfl; (repeat (first | (with_reducible exact Take.here) | ((with_reducible apply Take.there)))); rfl) | ((with_reducible apply l_alloc env_ok); rfl; rfl; rfl; intro _) | ((with_reducible apply g_skip)) | ((with_reducible apply g_ret)) | ((with_reducible apply n_then_ret)) | ((with_reducible apply g_cond_t); rfl) | ((with_reducible apply l_guard_split); rfl; rfl; (intro h; (try dsimp only at h); (try simp only [beq_true, beq_false, decide_eq_decide, beq_iff_eq, bne_iff_ne, beq_eq_false_iff_ne, bne_eq_false_iff_eq, decide_eq_true_eq, decide_eq_false_iff_not, Bool.not_eq_true', Bool.not_eq_false', ne_eq, Decidable.not_not] at h); (try (focus (exfalso; first | (simp only [eq_self, not_true_eq_false, not_false_eq_true, reduceCtorEq] at h; done) | omega)))); rotate_left; (intro h; (try dsimp only at h); (try simp only [beq_true, beq_false, decide_eq_decide, beq_iff_eq, bne_iff_ne, beq_eq_false_iff_ne, bne_eq_false_iff_eq, decide_eq_true_eq, decide_eq_false_iff_not, Bool.not_eq_true', Bool.not_eq_false', ne_eq, Decidable.not_not] at h); (try (focus (exfalso; first | (simp only [eq_self, not_true_eq_false, not_false_eq_true, reduceCtorEq] at h; done) | omega)))); rotate_left) | ((with_reducible apply g_cond); rfl; (intro h; (try dsimp only at h); (try simp only [beq_true, beq_false, decide_eq_decide, beq_iff_eq, bne_iff_ne, beq_eq_false_iff_ne, bne_eq_false_iff_eq, decide_eq_true_eq, decide_eq_false_iff_not, Bool.not_eq_true', Bool.not_eq_false', ne_eq, Decidable.not_not] at h); (try (focus (exfalso; first | (simp only [eq_self, not_true_eq_false, not_false_eq_true, reduceCtorEq] at h; done) | omega)))); rotate_left; (intro h; (try dsimp only at h); (try simp only [beq_true, beq_false, decide_eq_decide, beq_iff_eq, bne_iff_ne, beq_eq_false_iff_ne, bne_eq_false_iff_eq, decide_eq_true_eq, decide_eq_false_iff_not, Bool.not_eq_true', Bool.not_eq_false', ne_eq, Decidable.not_not] at h); (try (focus (exfalso; first | (simp only [eq_self, not_true_eq_false, not_false_eq_true, reduceCtorEq] at h; done) | omega)))); rotate_left)))
  · have e : readH D n = (headNone, false) := by rw [readH, if_pos (.inl (by assumption))]
    rw [e]
    (apply n_ret env_ok rfl; (repeat (first | (with_reducible exact ResV.nil) | (apply ResV.tmp; rfl) | (apply ResV.cell; rfl; (repeat (first | (with_reducible exact Take.here) | ((with_reducible apply Take.there)))); rfl) | exact ResV.nil)); refine ⟨[Disk db D], ?_, ?_⟩; rotate_left; (intro _; refine @inv_keep _ _ _ _ ?_ ?_ _); rotate_left; (repeat (first | (with_reducible exact Parts.nil) | ((with_reducible apply Parts.cons); (repeat (first | (with_reducible exact Take.here) | ((with_reducible apply Take.there))))))); rotate_right)
    exact ⟨rfl, rfl⟩
  · have e : readH D n = (headNone, false) := by rw [readH, if_pos (.inr (.inl (by assumption)))]
    rw [e]
    (apply n_ret env_ok rfl; (repeat (first | (with_reducible exact ResV.nil) | (apply ResV.tmp; rfl) | (apply ResV.cell; rfl; (repeat (first | (with_reducible exact Take.here) | ((with_reducible apply Take.there)))); rfl) | exact ResV.nil)); refine ⟨[Disk db D], ?_, ?_⟩; rotate_left; (intro _; refine @inv_keep _ _ _ _ ?_ ?_ _); rotate_left; (repeat (first | (with_reducible exact Parts.nil) | ((with_reducible apply Parts.cons); (repeat (first | (with_reducible exact Take.here) | ((with_reducible apply Take.there))))))); rotate_right)
    exact ⟨rfl, rfl⟩
  · have e : readH D n = (headNone, false) := by rw [readH, if_pos (.inr (.inr (by omega)))]
    rw [e]
    (apply n_ret env_ok rfl; (repeat (first | (with_reducible exact ResV.nil) | (apply ResV.tmp; rfl) | (apply ResV.cell; rfl; (repeat (first | (with_reducible exact Take.here) | ((with_reducible apply Take.there)))); rfl) | exact ResV.nil)); refine ⟨[Disk db D], ?_, ?_⟩; rotate_left; (intro _; refine @inv_keep _ _ _ _ ?_ ?_ _); rotate_left; (repeat (first | (with_reducible exact Parts.nil) | ((with_reducible apply Parts.cons); (repeat (first | (with_reducible exact Take.here) | ((with_reducible apply Take.there))))))); rotate_right)
    exact ⟨rfl, rfl⟩
  · have h88 : (pageRead D n).2.1.length = 88 := by omega
    have e : readH D n = (headOf (pageRead D n).2.1, (headOf (pageRead D n).2.1).counts D.now.length n) := by
      rw [readH, if_neg]
      rintro (h1 | h1 | h1)
      · exact h1 (by assumption)
      · exact h1 (by assumption)
      · exact h1 h88
    rw [e]
    obtain ⟨hok, h80⟩ := headOf_ok h88
    obtain ⟨s, hs⟩ : ∃ s, (pageRead D n).2.1 = s := ⟨_, rfl⟩
    rw [hs] at hok h80 h88 ⊢
    have g1 := getN_take_lt s 6
    have g2 := getN_take_lt (s.drop 6) 2
    have w1 : IntKind.i64.wrap ((getN (s.take 6) : Nat) : Int) = getN (s.take 6) := wrapI64 (by omega)
    have w2 : IntKind.i64.wrap ((getN ((s.drop 6).take 2) : Nat) : Int) = getN ((s.drop 6).take 2) := wrapI64 (by omega)
    have hdd : (s.drop 6).drop 2 = s.drop 8 := by rw [List.drop_drop]
    have cd : Does Try.prog 53 [.agg #[.int .i64 ((getN (s.take 6) : Nat) : Int), .int .i64 ((getN ((s.drop 6).take 2) : Nat) : Int), .string (str (s.drop 8))], .pointer (some ⟨db, 0, none⟩), .int .i64 n] [Disk db D] (fun v H => v = .bool ((headOf s).counts D.now.length n) ∧ H = [Disk db D]) := counts_does (headOf s) hok db D n hn
    (repeat' (first | ((with_reducible apply g_seq)) | ((with_reducible apply g_region)) | ((with_reducible apply l_nil)) | ((with_reducible apply n_then)) | ((with_reducible apply l_pures1 env_ok); rfl; rfl; rfl) | ((with_reducible apply l_call c52); rfl; rfl; rfl; rfl; (with_reducible exact Take3_does s 6 6 rfl (by omega) (by omega) (by omega)); (repeat (first | (with_reducible exact Parts.nil) | ((with_reducible apply Parts.cons); (repeat (first | (with_reducible exact Take.here) | ((with_reducible apply Take.there))))))); rintro _ _ _ ⟨rfl, rfl⟩ he; cases he)))
    (repeat' (first | ((with_reducible apply g_seq)) | ((with_reducible apply g_region)) | ((with_reducible apply l_nil)) | ((with_reducible apply n_then)) | ((with_reducible apply l_pures1 env_ok); rfl; rfl; rfl) | ((with_reducible apply l_call c52); rfl; rfl; rfl; rfl; (with_reducible exact Take3_does (s.drop 6) 2 2 rfl (by rw [List.length_drop]; omega) (by omega) (by rw [List.length_drop]; omega)); (repeat (first | (with_reducible exact Parts.nil) | ((with_reducible apply Parts.cons); (repeat (first | (with_reducible exact Take.here) | ((with_reducible apply Take.there))))))); rintro _ _ _ ⟨rfl, rfl⟩ he; cases he) | ((with_reducible apply l_store env_ok); rfl; rfl; rfl; rfl; rfl; (repeat (first | (with_reducible exact Take.here) | ((with_reducible apply Take.there)))); rfl) | ((with_reducible apply l_alloc env_ok); rfl; rfl; rfl; intro _)))
    rw [w1, w2, hdd]
    ((with_reducible apply g_draw [_] env_ok); (repeat (first | (with_reducible exact Parts.nil) | ((with_reducible apply Parts.cons); (repeat (first | (with_reducible exact Take.here) | ((with_reducible apply Take.there))))))); ((with_reducible apply a_pass2 env_ok); rfl; rfl; rfl; (repeat (first | exact calm_post | (with_reducible apply calm_then) | (with_reducible apply calm_block)))))
    (repeat' (first | ((with_reducible apply l_nil)) | ((with_reducible apply n_then)) | ((with_reducible apply l_call c53); rfl; rfl; rfl; rfl; (with_reducible exact cd); (repeat (first | (with_reducible exact Parts.nil) | ((with_reducible apply Parts.cons); (repeat (first | (with_reducible exact Take.here) | ((with_reducible apply Take.there))))))); rintro _ _ _ ⟨rfl, rfl⟩ he; cases he) | ((with_reducible apply l_store env_ok); rfl; rfl; rfl; rfl; rfl; (repeat (first | (with_reducible exact Take.here) | ((with_reducible apply Take.there)))); rfl) | ((with_reducible apply g_ret)) | ((with_reducible apply a_done); rfl) | ((with_reducible apply a_load env_ok); (repeat (first | exact calm_post | (with_reducible apply calm_then) | (with_reducible apply calm_block))); rfl; rfl; rfl; rfl; rfl; (repeat (first | (with_reducible exact Take.here) | ((with_reducible apply Take.there)))); rfl; rfl; rfl; rfl; ((with_reducible apply a_pass2 env_ok); rfl; rfl; rfl; (repeat (first | exact calm_post | (with_reducible apply calm_then) | (with_reducible apply calm_block))))) | ((with_reducible apply a_one); rfl; rfl; rfl; rfl) | ((with_reducible apply n_any); (repeat (first | (with_reducible exact Parts.nil) | ((with_reducible apply Parts.cons); (repeat (first | (with_reducible exact Take.here) | ((with_reducible apply Take.there))))))); ((with_reducible apply a_pass2 env_ok); rfl; rfl; rfl; (repeat (first | exact calm_post | (with_reducible apply calm_then) | (with_reducible apply calm_block)))))))
    (apply n_ret env_ok rfl; (repeat (first | (with_reducible exact ResV.nil) | (apply ResV.tmp; rfl) | (apply ResV.cell; rfl; (repeat (first | (with_reducible exact Take.here) | ((with_reducible apply Take.there)))); rfl) | exact ResV.nil)); refine ⟨[Disk db D], ?_, ?_⟩; rotate_left; (intro _; refine @inv_keep _ _ _ _ ?_ ?_ _); rotate_left; (repeat (first | (with_reducible exact Parts.nil) | ((with_reducible apply Parts.cons); (repeat (first | (with_reducible exact Take.here) | ((with_reducible apply Take.there))))))); rotate_right)
    exact ⟨rfl, rfl⟩

/-- The cells of a store, anew. -/
theorem roll0_does (b : Nat) (c0 c1 c2 c3 c4 c5 c6 : Value) : Does Try.prog 13 [.pointer (some ⟨b, 0, none⟩)] [cl b 54 [c0, c1, c2, c3, c4, c5, c6]]
    (fun v H => ∃ b1 b2, v = .tuple #[] ∧ H = [cl b 54 [c0, c1, c2, c3, .map (some b1), .map (some b2), c6], mp b1 Value.bool [], mp b2 Value.bool []]) := by
  refine does_of Try.func13 Try.ntmps13 rfl rfl rfl (fun w0 F0 => ?_)
  (repeat (first | ((with_reducible apply g_region)) | ((with_reducible apply l_pures1 env_ok); rfl; rfl; rfl)))
  ((with_reducible apply l_makeMap (Value.bool)); rfl; intro _)
  ((with_reducible apply l_makeMap (Value.bool)); rfl; intro _)
  (repeat (first | ((with_reducible apply l_nil)) | ((with_reducible apply l_pures1 env_ok); rfl; rfl; rfl) | ((with_reducible apply l_store env_ok); rfl; rfl; rfl; rfl; rfl; (repeat (first | (with_reducible exact Take.here) | ((with_reducible apply Take.there)))); rfl)))
  rename_i b1 b2
  (apply n_end env_ok rfl; (repeat (first | (with_reducible exact ResV.nil) | (apply ResV.tmp; rfl) | (apply ResV.cell; rfl; (repeat (first | (with_reducible exact Take.here) | ((with_reducible apply Take.there)))); rfl) | exact ResV.nil)); refine ⟨[cl b 54 [c0, c1, c2, c3, .map (some b1), .map (some b2), c6], mp b1 Value.bool [], mp b2 Value.bool []], ?_, ?_⟩; rotate_left; (intro _; refine @inv_keep _ _ _ _ ?_ ?_ _); rotate_left; (repeat (first | (with_reducible exact Parts.nil) | ((with_reducible apply Parts.cons); (repeat (first | (with_reducible exact Take.here) | ((with_reducible apply Take.there))))))); rotate_right)
  exact ⟨b1, b2, rfl, rfl⟩

def Hd.over (h : Hd) : Sh := ⟨h.gen, h.root, h.used, [], [], false⟩
theorem over_does (q : Hd) (ok : q.over.ok) (db : Nat) : Does Try.prog 38 [.pointer (some ⟨db, 0, none⟩), .agg #[.int .i64 q.gen, .int .i64 q.root, .string (str q.used)]] [] (fun v H => ∃ b, v = .pointer (some ⟨b, 0, none⟩) ∧ H = [Store b db q.over]) := by
  refine does_of Try.func38 Try.ntmps38 rfl rfl rfl (fun w0 F0 => ?_)
  (repeat (first | ((with_reducible apply g_seq)) | ((with_reducible apply g_region)) | ((with_reducible apply l_nil)) | ((with_reducible apply n_then)) | ((with_reducible apply l_pures1 env_ok); rfl; rfl; rfl) | ((with_reducible apply l_load env_ok); rfl; rfl; (repeat (first | (with_reducible exact Take.here) | ((with_reducible apply Take.there)))); rfl) | ((with_reducible apply l_box); rfl; rfl; rfl; intro _)))
  rename_i b0 b
  (repeat (first | ((with_reducible apply g_seq)) | ((with_reducible apply g_region)) | ((with_reducible apply l_nil)) | ((with_reducible apply n_then)) | ((with_reducible apply l_pures1 env_ok); rfl; rfl; rfl) | ((with_reducible apply l_call c13); rfl; rfl; rfl; rfl; (with_reducible exact roll0_does b (.pointer (some ⟨db, 0, none⟩)) (.int .i64 q.gen) (.int .i64 q.root) (.string (str q.used)) (.map none) (.map none) (.bool false)); (repeat (first | (with_reducible exact Parts.nil) | ((with_reducible apply Parts.cons); (repeat (first | (with_reducible exact Take.here) | ((with_reducible apply Take.there))))))); rintro _ _ _ ⟨b1, b2, rfl, rfl⟩ he; cases he) | ((with_reducible apply g_ret))))
  (have hshut_ : Shuts (StoreK b db q.over ((b1, b2))) (Store b db q.over) := hid_shuts ((b1, b2)) ok); (with_reducible apply n_shut hshut_); (focus (dsimp only [StoreK]; (try simp only [List.map_nil, List.length_nil, List.length_set, List.length_append, List.length_cons, List.length_singleton, List.map_append, List.map_cons, Nat.zero_add, Hd.over, tt]); (repeat (first | (with_reducible exact Parts.nil) | ((with_reducible apply Parts.cons); (repeat (first | (with_reducible exact Take.here) | ((with_reducible apply Take.there)))))))))
  (apply n_ret env_ok rfl; (repeat (first | (with_reducible exact ResV.nil) | (apply ResV.tmp; rfl) | (apply ResV.cell; rfl; (repeat (first | (with_reducible exact Take.here) | ((with_reducible apply Take.there)))); rfl) | exact ResV.nil)); refine ⟨[Store b db q.over], ?_, ?_⟩; rotate_left; (intro _; refine @inv_keep _ _ _ _ ?_ ?_ _); rotate_left; (repeat (first | (with_reducible exact Parts.nil) | ((with_reducible apply Parts.cons); (repeat (first | (with_reducible exact Take.here) | ((with_reducible apply Take.there))))))); rotate_right)
  exact ⟨b, rfl, rfl⟩

def mountStep (D : Dk) (best : Hd) (n : Nat) : Hd := if (readH D n).2 && decide ((readH D n).1.gen > best.gen) then (readH D n).1 else best
def mountTo (D : Dk) : Nat → Hd
  | 0 => headNone
  | k + 1 => mountStep D (mountTo D k) k
def mountBest (D : Dk) : Hd := mountTo D 2
theorem readH_ok {D : Dk} {n : Int} (h : (readH D n).2 = true) : (readH D n).1.over.ok := by
  rw [readH] at h ⊢
  split at h
  · simp at h
  · rename_i hc
    rw [if_neg hc]
    dsimp only at h ⊢
    obtain ⟨ok, h80⟩ := headOf_ok (s := (pageRead D n).2.1) (Decidable.byContradiction fun q => hc (.inr (.inr q)))
    refine ⟨ok.g, ⟨ok.r.1, ?_⟩, h80, ⟨by simp [Hd.over], by simp [Hd.over]⟩, ⟨by simp [Hd.over], by simp [Hd.over]⟩⟩
    show (headOf (pageRead D n).2.1).root < 640
    by_cases hr : (headOf (pageRead D n).2.1).root = 0
    · omega
    · have hb : hasB (headOf (pageRead D n).2.1).used (headOf (pageRead D n).2.1).root = true := by
        simp only [Hd.counts, Bool.and_eq_true, Bool.not_eq_true', Bool.or_eq_false_iff, Bool.and_eq_false_iff, bne_eq_false_iff_eq, Bool.not_eq_false'] at h
        exact h.1.2.resolve_left hr
      have := hasB_lt hb
      rw [h80] at this
      omega
theorem mountTo_ok (D : Dk) : ∀ k, (mountTo D k).gen = 0 ∨ (mountTo D k).over.ok
  | 0 => .inl rfl
  | k + 1 => by
    rw [mountTo, mountStep]
    split
    · rename_i h
      simp only [Bool.and_eq_true] at h
      exact .inr (readH_ok h.1)
    · exact mountTo_ok D k
def mount (D : Dk) : Option Hd × Int := if D.gone then (none, 5) else if (mountBest D).gen = 0 then (none, 3) else (some (mountBest D), 0)
theorem Mount_does (db : Nat) (D : Dk) : Does Try.prog 18 [.pointer (some ⟨db, 0, none⟩)] [Disk db D]
    (fun v H => match (mount D).1 with
      | none => v = .tuple #[.pointer none, .int .i64 (mount D).2] ∧ H = [Disk db D]
      | some h => ∃ b, v = .tuple #[.pointer (some ⟨b, 0, none⟩), .int .i64 (mount D).2] ∧ H = [Store b db h.over, Disk db D]) := by
  refine does_of Try.func18 Try.ntmps18 rfl rfl rfl (fun w0 F0 => ?_)
  (repeat' (first | ((with_reducible apply g_seq)) | ((with_reducible apply g_region)) | ((with_reducible apply l_nil)) | ((with_reducible apply n_then)) | ((with_reducible apply l_pures1 env_ok); rfl; rfl; rfl) | ((with_reducible apply l_call c22); rfl; rfl; rfl; rfl; (with_reducible exact Up_does db D); (repeat (first | (with_reducible exact Parts.nil) | ((with_reducible apply Parts.cons); (repeat (first | (with_reducible exact Take.here) | ((with_reducible apply Take.there))))))); rintro _ _ _ ⟨rfl, rfl⟩ he; cases he) | ((with_reducible apply l_alloc env_ok); rfl; rfl; rfl; intro _) | ((with_reducible apply g_skip)) | ((with_reducible apply g_ret)) | ((with_reducible apply n_then_ret)) | ((with_reducible apply g_block)) | ((with_reducible apply g_cond); rfl; (intro h; (try dsimp only at h); (try simp only [beq_true, beq_false, decide_eq_decide, beq_iff_eq, bne_iff_ne, beq_eq_false_iff_ne, bne_eq_false_iff_eq, decide_eq_true_eq, decide_eq_false_iff_not, Bool.not_eq_true', Bool.not_eq_false', ne_eq, Decidable.not_not] at h); (try (focus (exfalso; first | (simp only [eq_self, not_true_eq_false, not_false_eq_true, reduceCtorEq] at h; done) | omega)))); rotate_left; (intro h; (try dsimp only at h); (try simp only [beq_true, beq_false, decide_eq_decide, beq_iff_eq, bne_iff_ne, beq_eq_false_iff_ne, bne_eq_false_iff_eq, decide_eq_true_eq, decide_eq_false_iff_not, Bool.not_eq_true', Bool.not_eq_false', ne_eq, Decidable.not_not] at h); (try (focus (exfalso; first | (simp only [eq_self, not_true_eq_false, not_false_eq_true, reduceCtorEq] at h; done) | omega)))); rotate_left)))
  · have e : mount D = (none, 5) := by simp [mount, *]
    rw [e]
    (apply n_ret env_ok rfl; (repeat (first | (with_reducible exact ResV.nil) | (apply ResV.tmp; rfl) | (apply ResV.cell; rfl; (repeat (first | (with_reducible exact Take.here) | ((with_reducible apply Take.there)))); rfl) | exact ResV.nil)); refine ⟨_, ?_, fun i => i⟩)
    exact ⟨rfl, rfl⟩
  · rename_i bb
    (refine g_loop (fun j : Nat => [(11, .int .i64 j), (4, .pointer (some ⟨bb, 0, none⟩)), (0, .pointer (some ⟨db, 0, none⟩))]) (fun j => [cl bb 51 [.int .i64 (mountTo D j).gen, .int .i64 (mountTo D j).root, .string (str (mountTo D j).used)], Disk db D]) (fun j => j ≤ 2) (fun j => 2 - j) (0) ?_ ?_ ?_ ?_; rotate_left; (repeat (first | (with_reducible exact ts_nil) | ((with_reducible apply ts_cons); rfl; first | (with_reducible rfl) | rotate_left))); (first | (intro _ i; with_reducible exact i) | rotate_left); rotate_left; (try omega); rotate_right)
    · intro j hj
      (repeat' (first | ((with_reducible apply g_seq)) | ((with_reducible apply g_region)) | ((with_reducible apply l_nil)) | ((with_reducible apply n_then)) | ((with_reducible apply l_pures1 env_ok); rfl; rfl; rfl) | ((with_reducible apply l_call c37); rfl; rfl; rfl; rfl; (with_reducible exact read_does db D j (by omega)); (repeat (first | (with_reducible exact Parts.nil) | ((with_reducible apply Parts.cons); (repeat (first | (with_reducible exact Take.here) | ((with_reducible apply Take.there))))))); rintro _ _ _ ⟨rfl, rfl⟩ he; cases he) | ((with_reducible apply l_guard_yes); rfl; rfl; rfl) | ((with_reducible apply l_guard_no); rfl; rfl; rfl; rfl; rfl) | ((with_reducible apply l_load env_ok); rfl; rfl; (repeat (first | (with_reducible exact Take.here) | ((with_reducible apply Take.there)))); rfl) | ((with_reducible apply l_store env_ok); rfl; rfl; rfl; rfl; rfl; (repeat (first | (with_reducible exact Take.here) | ((with_reducible apply Take.there)))); rfl) | ((with_reducible apply l_alloc env_ok); rfl; rfl; rfl; intro _) | ((with_reducible apply g_skip)) | ((with_reducible apply g_ret)) | ((with_reducible apply n_then_ret)) | ((with_reducible apply g_block)) | ((with_reducible apply g_exit)) | ((with_reducible apply n_then_exit)) | ((with_reducible apply n_block_hit)) | ((with_reducible apply n_block)) | ((with_reducible apply g_cond_f); rfl) | ((with_reducible apply l_guard_split); rfl; rfl; (intro h; (try dsimp only at h); (try simp only [beq_true, beq_false, decide_eq_decide, beq_iff_eq, bne_iff_ne, beq_eq_false_iff_ne, bne_eq_false_iff_eq, decide_eq_true_eq, decide_eq_false_iff_not, Bool.not_eq_true', Bool.not_eq_false', ne_eq, Decidable.not_not] at h); (try (focus (exfalso; first | (simp only [eq_self, not_true_eq_false, not_false_eq_true, reduceCtorEq] at h; done) | omega)))); rotate_left; (intro h; (try dsimp only at h); (try simp only [beq_true, beq_false, decide_eq_decide, beq_iff_eq, bne_iff_ne, beq_eq_false_iff_ne, bne_eq_false_iff_eq, decide_eq_true_eq, decide_eq_false_iff_not, Bool.not_eq_true', Bool.not_eq_false', ne_eq, Decidable.not_not] at h); (try (focus (exfalso; first | (simp only [eq_self, not_true_eq_false, not_false_eq_true, reduceCtorEq] at h; done) | omega)))); rotate_left) | ((with_reducible apply g_cond); rfl; (intro h; (try dsimp only at h); (try simp only [beq_true, beq_false, decide_eq_decide, beq_iff_eq, bne_iff_ne, beq_eq_false_iff_ne, bne_eq_false_iff_eq, decide_eq_true_eq, decide_eq_false_iff_not, Bool.not_eq_true', Bool.not_eq_false', ne_eq, Decidable.not_not] at h); (try (focus (exfalso; first | (simp only [eq_self, not_true_eq_false, not_false_eq_true, reduceCtorEq] at h; done) | omega)))); rotate_left; (intro h; (try dsimp only at h); (try simp only [beq_true, beq_false, decide_eq_decide, beq_iff_eq, bne_iff_ne, beq_eq_false_iff_ne, bne_eq_false_iff_eq, decide_eq_true_eq, decide_eq_false_iff_not, Bool.not_eq_true', Bool.not_eq_false', ne_eq, Decidable.not_not] at h); (try (focus (exfalso; first | (simp only [eq_self, not_true_eq_false, not_false_eq_true, reduceCtorEq] at h; done) | omega)))); rotate_left)))
      · have e : mountTo D (j + 1) = (readH D j).1 := by simp [mountTo, mountStep, *]
        (refine n_back (j + 1) ?_ ?_ ?_ ?_; rotate_left; rotate_left; (repeat (first | (with_reducible exact ts_nil) | ((with_reducible apply ts_cons); rfl; first | (with_reducible rfl) | rotate_left))); (first | (intro _ i; with_reducible exact i) | rotate_left); (try omega); (try omega))
        · rw [wrapI64 (by omega)]; rfl
        · rw [e]
          (intro _ i; exact inv_keep (by (repeat (first | (with_reducible exact Parts.nil) | ((with_reducible apply Parts.cons); (repeat (first | (with_reducible exact Take.here) | ((with_reducible apply Take.there)))))))) i)
      · have e : mountTo D (j + 1) = mountTo D j := by simp [mountTo, mountStep, *]
        (refine n_back (j + 1) ?_ ?_ ?_ ?_; rotate_left; rotate_left; (repeat (first | (with_reducible exact ts_nil) | ((with_reducible apply ts_cons); rfl; first | (with_reducible rfl) | rotate_left))); (first | (intro _ i; with_reducible exact i) | rotate_left); (try omega); (try omega))
        · rw [wrapI64 (by omega)]; rfl
        · rw [e]
          (intro _ i; exact inv_keep (by (repeat (first | (with_reducible exact Parts.nil) | ((with_reducible apply Parts.cons); (repeat (first | (with_reducible exact Take.here) | ((with_reducible apply Take.there)))))))) i)
      · have e : mountTo D (j + 1) = mountTo D j := by simp [mountTo, mountStep, *]
        (refine n_back (j + 1) ?_ ?_ ?_ ?_; rotate_left; rotate_left; (repeat (first | (with_reducible exact ts_nil) | ((with_reducible apply ts_cons); rfl; first | (with_reducible rfl) | rotate_left))); (first | (intro _ i; with_reducible exact i) | rotate_left); (try omega); (try omega))
        · rw [wrapI64 (by omega)]; rfl
        · rw [e]
          (intro _ i; exact inv_keep (by (repeat (first | (with_reducible exact Parts.nil) | ((with_reducible apply Parts.cons); (repeat (first | (with_reducible exact Take.here) | ((with_reducible apply Take.there)))))))) i)
      · obtain rfl : j = 2 := by omega
        have e : mount D = (none, 3) := by simp [mount, mountBest, *]
        rw [e]
        (apply n_ret env_ok rfl; (repeat (first | (with_reducible exact ResV.nil) | (apply ResV.tmp; rfl) | (apply ResV.cell; rfl; (repeat (first | (with_reducible exact Take.here) | ((with_reducible apply Take.there)))); rfl) | exact ResV.nil)); refine ⟨[Disk db D], ?_, ?_⟩; rotate_left; (intro _; refine @inv_keep _ _ _ _ ?_ ?_ _); rotate_left; (repeat (first | (with_reducible exact Parts.nil) | ((with_reducible apply Parts.cons); (repeat (first | (with_reducible exact Take.here) | ((with_reducible apply Take.there))))))); rotate_right)
        exact ⟨rfl, rfl⟩
      · obtain rfl : j = 2 := by omega
        have e : mount D = (some (mountTo D 2), 0) := by simp [mount, mountBest, *]
        have hok : (mountTo D 2).over.ok := (mountTo_ok D 2).resolve_left (by assumption)
        (repeat' (first | ((with_reducible apply l_nil)) | ((with_reducible apply n_then)) | ((with_reducible apply l_pures1 env_ok); rfl; rfl; rfl) | ((with_reducible apply l_call c38); rfl; rfl; rfl; rfl; (with_reducible exact over_does (mountTo D 2) hok db); (repeat (first | (with_reducible exact Parts.nil) | ((with_reducible apply Parts.cons); (repeat (first | (with_reducible exact Take.here) | ((with_reducible apply Take.there))))))); rintro _ _ _ ⟨b', rfl, rfl⟩ he; cases he) | ((with_reducible apply g_ret))))
        (apply n_ret env_ok rfl; (repeat (first | (with_reducible exact ResV.nil) | (apply ResV.tmp; rfl) | (apply ResV.cell; rfl; (repeat (first | (with_reducible exact Take.here) | ((with_reducible apply Take.there)))); rfl) | exact ResV.nil)); refine ⟨[Store b' db (mountTo D 2).over, Disk db D], ?_, ?_⟩; rotate_left; (intro _; refine @inv_keep _ _ _ _ ?_ ?_ _); rotate_left; (repeat (first | (with_reducible exact Parts.nil) | ((with_reducible apply Parts.cons); (repeat (first | (with_reducible exact Take.here) | ((with_reducible apply Take.there))))))); rotate_right)
        rw [e]
        exact ⟨b', rfl, rfl⟩
    · rfl
    · exact id
end Go.Proofs.Ytcbcpgaehdoekaa

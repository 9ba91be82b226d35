/- The laws' helpers: examples, made; contracts where what comes out is known. -/
import Derived.Test.YtcbcpgaehdoekaaPlS
set_option linter.unusedVariables false
set_option linter.unusedSimpArgs false
namespace Go.Proofs.Ytcbcpgaehdoekaa
open Go.Proofs.Ytcbcpgaehdoekaa.SL

/-- What is left of a body behind so many parts. -/
def cseq : Nat → Code → Code
  | 0, c => c
  | k + 1, .seq _ y => cseq k y
  | _ + 1, c => c
def bodyOf (f : Func) : Code := f.body.getD .skip
theorem wf_i64 {a : Int} (h : (Lit.int .i64 a).wf = true) : -9223372036854775808 ≤ a ∧ a < 9223372036854775808 := by
  simp [Lit.wf, IntKind.min, IntKind.max, IntKind.bits, IntKind.signed] at h
  omega
/-- A contract whose post is weaker, what is owned behind it less. -/
theorem does_drop {P : Program} {f : FuncId} {args : List Value} {H : List SProp} {q q' : Value → List SProp → Prop} (d : Does P f args H q) (h : ∀ v H1, q v H1 → ∃ H2, q' v H2 ∧ ∀ {w0 : World} {F0 : Nat → Prop} {w : World}, Inv w0 F0 H1 w → Inv w0 F0 H2 w) : Does P f args H q' := fun w F s =>
  (d w F s).mono fun e w' ⟨v, H1, e1, hq, i⟩ => by
    obtain ⟨H2, h2, h3⟩ := h v H1 hq
    exact ⟨v, H2, e1, h2, h3 i⟩
section
variable {b : Nat} {S S' : Sh} {D E : Dk}
theorem new_is {i : Int} {n : Nat} (e : i = n) (hn : 8 ≤ n ∧ n ≤ 640) : Does Try.prog 24 [.int .i64 i] [] (fun v H => ∃ b, v = .tuple #[.pointer (some ⟨b, 0, none⟩), .int .i64 0] ∧ H = [Disk b (Dk.new n)]) := by
  subst e; exact New_does n hn
theorem mount_no {db : Nat} {e : Int} (h : mount D = (none, e)) : Does Try.prog 18 [.pointer (some ⟨db, 0, none⟩)] [Disk db D] (fun v H => v = .tuple #[.pointer none, .int .i64 e] ∧ H = [Disk db D]) := by
  have := Mount_does db D; rw [h] at this; exact this
theorem mount_is {db : Nat} {e : Int} {q : Hd} (h : mount D = (some q, e)) : Does Try.prog 18 [.pointer (some ⟨db, 0, none⟩)] [Disk db D] (fun v H => ∃ b, v = .tuple #[.pointer (some ⟨b, 0, none⟩), .int .i64 e] ∧ H = [Store b db q.over, Disk db D]) := by
  have := Mount_does db D; rw [h] at this; exact this
theorem format_is {db : Nat} {e : Int} {q : Hd} (h : format D = (some q, e, E)) : Does Try.prog 25 [.pointer (some ⟨db, 0, none⟩)] [Disk db D] (fun v H => ∃ b, v = .tuple #[.pointer (some ⟨b, 0, none⟩), .int .i64 e] ∧ H = [Store b db q.over, Disk db E]) := by
  have := Format_does db D; rw [h] at this; exact this
theorem take_is (db : Nat) {m e : Int} (h : S.take D = ((m, e), S')) : Does Try.prog 10 [.pointer (some ⟨b, 0, none⟩)] [Store b db S, Disk db D] (fun v H => v = .tuple #[.int .i64 m, .int .i64 e] ∧ H = [Store b db S', Disk db D]) := by
  have := sTake_does b db S D; rw [h] at this; exact this
theorem write_is (db : Nat) {n k e : Int} {t : List UInt8} (h : S.write D n k t = (e, S', E)) (ht : t.length < 9223372036854775808) : Does Try.prog 15 [.pointer (some ⟨b, 0, none⟩), .int .i64 n, .int .i64 k, .string (str t)] [Store b db S, Disk db D] (fun v H => v = .int .i64 e ∧ H = [Store b db S', Disk db E]) := by
  have := sWrite_does b db S D n k t ht; rw [h] at this; exact this
theorem commit_is (db : Nat) {n e : Int} (h : S.commit D n = (e, S', E)) (hn : -9223372036854775808 ≤ n ∧ n < 9223372036854775808) : Does Try.prog 16 [.pointer (some ⟨b, 0, none⟩), .int .i64 n] [Store b db S, Disk db D] (fun v H => v = .int .i64 e ∧ H = [Store b db S', Disk db E]) := by
  have := sCommit_does b db S D n hn; rw [h] at this; exact this
theorem give_is (db : Nat) {n e : Int} (h : S.give n = (e, S')) (hn : -9223372036854775808 ≤ n ∧ n < 9223372036854775808) : Does Try.prog 12 [.pointer (some ⟨b, 0, none⟩), .int .i64 n] [Store b db S] (fun v H => v = .int .i64 e ∧ H = [Store b db S']) := by
  have := sGive_does b db S n hn; rw [h] at this; exact this
theorem read_is (db : Nat) {n k e : Int} {t : List UInt8} (h : S.read D n = ((k, t, e), S')) : Does Try.prog 17 [.pointer (some ⟨b, 0, none⟩), .int .i64 n] [Store b db S, Disk db D] (fun v H => v = .tuple #[.int .i64 k, .string (str t), .int .i64 e] ∧ H = [Store b db S', Disk db D]) := by
  have := sRead_does b db S D n; rw [h] at this; exact this
theorem left_is (db : Nat) {n : Int} (h : S.left D = n) : Does Try.prog 9 [.pointer (some ⟨b, 0, none⟩)] [Store b db S, Disk db D] (fun v H => v = .int .i64 n ∧ H = [Store b db S, Disk db D]) := by
  have := sLeft_does b db S D; rw [h] at this; exact this
theorem fresh_is (db : Nat) {n : Int} {t : Bool} (h : decide (n ∈ S.fresh) = t) : Does Try.prog 11 [.pointer (some ⟨b, 0, none⟩), .int .i64 n] [Store b db S] (fun v H => v = .bool t ∧ H = [Store b db S]) := by
  have := sFresh_does b db S n; rw [h] at this; exact this
theorem root_is (db : Nat) {n : Int} (h : S.root = n) : Does Try.prog 19 [.pointer (some ⟨b, 0, none⟩)] [Store b db S] (fun v H => v = .int .i64 n ∧ H = [Store b db S]) := by
  have := sRoot_does b db S; rw [h] at this; exact this
theorem gen_is (db : Nat) {n : Int} (h : S.gen = n) : Does Try.prog 20 [.pointer (some ⟨b, 0, none⟩)] [Store b db S] (fun v H => v = .int .i64 n ∧ H = [Store b db S]) := by
  have := sGen_does b db S; rw [h] at this; exact this
theorem used_is (db : Nat) {n : Nat} {i : Int} (h : (usedN S.used D.now.length).length = n) (e : i = n) : Does Try.prog 14 [.pointer (some ⟨b, 0, none⟩)] [Store b db S, Disk db D] (fun v H => ∃ p cap, v = .slice p n cap ∧ H = [Store b db S, Disk db D]) := by
  have := sUsed_does b db S D
  refine does_drop this ?_
  rw [h]
  rintro v H ⟨p, cap, rfl, rfl⟩
  exact ⟨_, ⟨p, cap, rfl, rfl⟩, fun i => inv_keep (Parts.cons (Take.there Take.here) (Parts.cons (Take.there Take.here) Parts.nil)) i⟩
end

theorem examples_does : Does Try.prog 7 [] [] (fun v H => v = .bool true ∧ H = []) := by
  have hN : 8 ≤ 8 ∧ 8 ≤ 640 := by omega
  have m0 := mount_new hN
  obtain ⟨E1, f1, k1, p1⟩ := format_of hN (Dk.new_lives 8) (by rw [Dk.new_pg (by omega)]; simp)
  obtain ⟨S2, t2, k2, a2, _, g2, _⟩ := k1.take' (m := 2) (by omega) (by simp [Hd.over]) (fun j a b => by omega)
  obtain ⟨E3, w3, k3, p3⟩ := k2.write' (n := 2) (kd := 2) (t := [120]) (by rw [a2]; simp) (by omega) (by simp)
  obtain ⟨S4, E4, c4, k4, p4, a4, b4, g4, r4⟩ := k3.commit' (root := 2) (.inr (by rw [Sh.mem_after, a2]; simp [*, Hd.over])) (by rw [g2]; simp [Hd.over, headNew])
  obtain ⟨q, m5, k5, _, _, g5, r5⟩ := k4.mounts'
  have hnew := new_is (i := 8) (n := 8) rfl hN
  have w3' : ∀ b db, Does Try.prog 15 [.pointer (some ⟨b, 0, none⟩), .int .i64 2, .int .i64 2, .string { data := #[120] }] [Store b db S2, Disk db E1] (fun v H => v = .int .i64 0 ∧ H = [Store b db S2, Disk db E3]) := fun b db => write_is db w3 (by simp)
  have hg : q.over.gen = 2 := by rw [g5, g4, g2]; rfl
  rw [r4] at r5
  refine does_of Try.func7 Try.ntmps7 rfl rfl rfl (fun w0 F0 => ?_)
  (repeat' (first | ((with_reducible apply g_seq)) | ((with_reducible apply g_region)) | ((with_reducible apply l_nil)) | ((with_reducible apply n_then)) | ((with_reducible apply l_pures1 env_ok); rfl; rfl; rfl) | ((with_reducible apply l_call c24); rfl; rfl; rfl; rfl; (with_reducible exact hnew); (repeat (first | (with_reducible exact Parts.nil) | ((with_reducible apply Parts.cons); (repeat (first | (with_reducible exact Take.here) | ((with_reducible apply Take.there))))))); rintro _ _ _ ⟨db, rfl, rfl⟩ he; cases he) | ((with_reducible apply l_call c18); rfl; rfl; rfl; rfl; (with_reducible exact mount_no m0); (repeat (first | (with_reducible exact Parts.nil) | ((with_reducible apply Parts.cons); (repeat (first | (with_reducible exact Take.here) | ((with_reducible apply Take.there))))))); rintro _ _ _ ⟨rfl, rfl⟩ he; cases he) | ((with_reducible apply l_call c18); rfl; rfl; rfl; rfl; (with_reducible exact mount_is m5); (repeat (first | (with_reducible exact Parts.nil) | ((with_reducible apply Parts.cons); (repeat (first | (with_reducible exact Take.here) | ((with_reducible apply Take.there))))))); rintro _ _ _ ⟨b2, rfl, rfl⟩ he; cases he) | ((with_reducible apply l_call c25); rfl; rfl; rfl; rfl; (with_reducible exact format_is f1); (repeat (first | (with_reducible exact Parts.nil) | ((with_reducible apply Parts.cons); (repeat (first | (with_reducible exact Take.here) | ((with_reducible apply Take.there))))))); rintro _ _ _ ⟨b, rfl, rfl⟩ he; cases he) | ((with_reducible apply l_call c10); rfl; rfl; rfl; rfl; (with_reducible exact take_is db t2); (repeat (first | (with_reducible exact Parts.nil) | ((with_reducible apply Parts.cons); (repeat (first | (with_reducible exact Take.here) | ((with_reducible apply Take.there))))))); rintro _ _ _ ⟨rfl, rfl⟩ he; cases he) | ((with_reducible apply l_call c15); rfl; rfl; rfl; rfl; (with_reducible exact w3' b db); (repeat (first | (with_reducible exact Parts.nil) | ((with_reducible apply Parts.cons); (repeat (first | (with_reducible exact Take.here) | ((with_reducible apply Take.there))))))); rintro _ _ _ ⟨rfl, rfl⟩ he; cases he) | ((with_reducible apply l_call c16); rfl; rfl; rfl; rfl; (with_reducible exact commit_is db c4 (by omega)); (repeat (first | (with_reducible exact Parts.nil) | ((with_reducible apply Parts.cons); (repeat (first | (with_reducible exact Take.here) | ((with_reducible apply Take.there))))))); rintro _ _ _ ⟨rfl, rfl⟩ he; cases he) | ((with_reducible apply l_call c19); rfl; rfl; rfl; rfl; (with_reducible exact root_is db r5); (repeat (first | (with_reducible exact Parts.nil) | ((with_reducible apply Parts.cons); (repeat (first | (with_reducible exact Take.here) | ((with_reducible apply Take.there))))))); rintro _ _ _ ⟨rfl, rfl⟩ he; cases he) | ((with_reducible apply l_call c20); rfl; rfl; rfl; rfl; (with_reducible exact gen_is db hg); (repeat (first | (with_reducible exact Parts.nil) | ((with_reducible apply Parts.cons); (repeat (first | (with_reducible exact Take.here) | ((with_reducible apply Take.there))))))); rintro _ _ _ ⟨rfl, rfl⟩ he; cases he) | ((with_reducible apply l_guard_yes); rfl; rfl; rfl) | ((with_reducible apply g_skip)) | ((with_reducible apply g_ret)) | ((with_reducible apply g_cond_f); rfl)))
  (apply n_ret env_ok rfl; (repeat (first | (with_reducible exact ResV.nil) | (apply ResV.tmp; rfl) | (apply ResV.cell; rfl; (repeat (first | (with_reducible exact Take.here) | ((with_reducible apply Take.there)))); rfl) | exact ResV.nil)); refine ⟨[], ?_, ?_⟩; rotate_left; (intro _; refine @inv_keep _ _ _ _ ?_ ?_ _); rotate_left; (repeat (first | (with_reducible exact Parts.nil) | ((with_reducible apply Parts.cons); (repeat (first | (with_reducible exact Take.here) | ((with_reducible apply Take.there))))))); rotate_right)
  exact ⟨rfl, rfl⟩

/-- A new store on a new disk. -/
theorem made_does {i : Int} {n : Nat} (e : i = n) (hn : 8 ≤ n ∧ n ≤ 640) {E1 : Dk} (f1 : format (Dk.new n) = (some headNew, 0, E1)) : Does Try.prog 8 [.int .i64 i] [] (fun v H => ∃ b db, v = .tuple #[.pointer (some ⟨db, 0, none⟩), .pointer (some ⟨b, 0, none⟩)] ∧ H = [Store b db headNew.over, Disk db E1]) := by
  have hnew := new_is e hn
  refine does_of Try.func8 Try.ntmps8 rfl rfl rfl (fun w0 F0 => ?_)
  (repeat' (first | ((with_reducible apply g_seq)) | ((with_reducible apply g_region)) | ((with_reducible apply l_nil)) | ((with_reducible apply n_then)) | ((with_reducible apply l_pures1 env_ok); rfl; rfl; rfl) | ((with_reducible apply l_call c24); rfl; rfl; rfl; rfl; (with_reducible exact hnew); (repeat (first | (with_reducible exact Parts.nil) | ((with_reducible apply Parts.cons); (repeat (first | (with_reducible exact Take.here) | ((with_reducible apply Take.there))))))); rintro _ _ _ ⟨db, rfl, rfl⟩ he; cases he) | ((with_reducible apply l_call c25); rfl; rfl; rfl; rfl; (with_reducible exact format_is f1); (repeat (first | (with_reducible exact Parts.nil) | ((with_reducible apply Parts.cons); (repeat (first | (with_reducible exact Take.here) | ((with_reducible apply Take.there))))))); rintro _ _ _ ⟨b, rfl, rfl⟩ he; cases he) | ((with_reducible apply l_guard_yes); rfl; rfl; rfl) | ((with_reducible apply g_skip)) | ((with_reducible apply g_ret)) | ((with_reducible apply g_cond_f); rfl)))
  (apply n_ret env_ok rfl; (repeat (first | (with_reducible exact ResV.nil) | (apply ResV.tmp; rfl) | (apply ResV.cell; rfl; (repeat (first | (with_reducible exact Take.here) | ((with_reducible apply Take.there)))); rfl) | exact ResV.nil)); refine ⟨[Store b db headNew.over, Disk db E1], ?_, ?_⟩; rotate_left; (intro _; refine @inv_keep _ _ _ _ ?_ ?_ _); rotate_left; (repeat (first | (with_reducible exact Parts.nil) | ((with_reducible apply Parts.cons); (repeat (first | (with_reducible exact Take.here) | ((with_reducible apply Take.there))))))); rotate_right)
  exact ⟨b, db, rfl, rfl⟩
end Go.Proofs.Ytcbcpgaehdoekaa

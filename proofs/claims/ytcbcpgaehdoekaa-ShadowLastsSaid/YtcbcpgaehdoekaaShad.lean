/- Package shadow: its store, and what only looks. -/
import Derived.Test.YtcbcpgaehdoekaaPage
import Derived.Test.YtcbcpgaehdoekaaBitsL
set_option linter.unusedVariables false
set_option linter.unusedSimpArgs false
namespace Go.Proofs.Ytcbcpgaehdoekaa
open Go.Proofs.Ytcbcpgaehdoekaa.SL

theorem read_len {D : Dk} {n : Int} (ok : D.ok) : (D.read n).1.length ≤ 256 := by
  rw [Dk.read]
  by_cases h : D.may n = 0
  · rw [if_pos h]
    obtain ⟨_, h2, h3⟩ := Dk.may_0 h
    exact Nat.le_of_eq (getD_all (p := fun x : List UInt8 => x.length = 256) ok.s.1 (by omega))
  · rw [if_neg h]; simp
theorem pRead2_does (b : Nat) (D : Dk) (n : Int) : Does Try.prog 36 [.pointer (some ⟨b, 0, none⟩), .int .i64 n] [Disk b D]
    (fun v H => v = .tuple #[.int .i64 (pageRead D n).1, .string (str (pageRead D n).2.1), .int .i64 (pageRead D n).2.2] ∧ H = [Disk b D]) :=
  does_disk fun ok => pRead_does b D n (by have := read_len (n := n) ok; omega)

/-- Numbers that are in a set, as a map has them. -/
def tt (l : List Int) : List (Int × Bool) := l.map fun i => (i, true)
theorem tt_get : ∀ {l : List Int} {n : Int}, (kvGet (tt l) n).getD false = decide (n ∈ l)
  | [], n => by simp [tt, kvGet]
  | i :: l, n => by
    have := tt_get (l := l) (n := n)
    simp only [tt, List.map_cons, kvGet] at this ⊢
    by_cases q : i = n
    · subst q; simp
    · rw [if_neg q, this]; simp [show ¬ n = i from fun e => q e.symm]
theorem tt_put : ∀ {l : List Int} {n : Int}, n ∉ l → kvPut (tt l) n true = tt (l ++ [n])
  | [], n, _ => rfl
  | i :: l, n, h => by
    simp only [List.mem_cons, not_or] at h
    have := tt_put (l := l) (n := n) h.2
    simp only [tt, List.map_cons, List.cons_append, kvPut] at this ⊢
    rw [if_neg (fun e => h.1 e.symm), this]
theorem tt_del : ∀ {l : List Int} {n : Int}, kvDel (tt l) n = tt (l.erase n)
  | [], n => rfl
  | i :: l, n => by
    have := tt_del (l := l) (n := n)
    simp only [tt, List.map_cons, kvDel, List.erase_cons] at this ⊢
    by_cases q : i = n
    · subst q; simp
    · rw [if_neg q, if_neg (by simpa using q), this]; rfl
theorem tt_fst (l : List Int) : (tt l).map Prod.fst = l := by simp [tt, List.map_map, Function.comp_def]

theorem does_swap {f : FuncId} {args : List Value} {A B : SProp} {q : Value → List SProp → Prop} (h : Does Try.prog f args [A, B] q) : Does Try.prog f args [B, A] q := fun w F s => by
  obtain ⟨F1, F2, a, ⟨F3, F4, b, e, d2, u2⟩, d1, u1⟩ := s
  exact h w F ⟨F3, F1, b, ⟨F1, F4, a, e, fun x h1 h2 => e x h2, fun x => ⟨.inl, fun o => o.elim id (fun q => (e x q).elim)⟩⟩, fun x h1 h2 => d1 x h2 ((u2 x).2 (.inl h1)), fun x => by rw [u1 x, u2 x]; exact ⟨fun o => o.elim .inr (fun o => o.elim .inl (fun q => (e x q).elim)), fun o => o.elim (fun q => .inr (.inl q)) .inl⟩⟩

/-- A store: its head (number, root, used pages), what is fresh, what is given; is it down? -/
structure Sh where
  gen : Int
  root : Int
  used : List UInt8
  fresh : List Int
  given : List Int
  down : Bool

structure Sh.ok (S : Sh) : Prop where
  g : 0 ≤ S.gen ∧ S.gen ≤ 281474976710655
  r : 0 ≤ S.root ∧ S.root < 640
  u : S.used.length = 80
  f : S.fresh.Nodup ∧ ∀ i ∈ S.fresh, 0 ≤ i ∧ i < (640 : Nat)
  v : S.given.Nodup ∧ ∀ i ∈ S.given, 0 ≤ i ∧ i < (640 : Nat)

theorem nodup_room : ∀ (N : Nat) (l : List Int), l.Nodup → (∀ i ∈ l, 0 ≤ i ∧ i < (N : Int)) → l.length ≤ N := by
  intro N
  induction N with
  | zero =>
    intro l _ h
    cases l with
    | nil => exact Nat.le_refl _
    | cons a l => have := h a (by simp); omega
  | succ N ih =>
    intro l hn h
    have := ih (l.erase (N : Int)) (hn.erase _) (fun i hi => by
      have hi2 := h i (List.mem_of_mem_erase hi)
      have : i ≠ (N : Int) := fun q => by
        subst q
        exact (hn.not_mem_erase) hi
      omega)
    have h3 := List.length_erase_le (l := l) (a := (N : Int))
    rw [List.length_erase] at this
    split at this <;> omega

def StoreK (b db : Nat) (S : Sh) (x : Nat × Nat) : List SProp :=
  [cl b 54 [.pointer (some ⟨db, 0, none⟩), .int .i64 S.gen, .int .i64 S.root, .string (str S.used), .map (some x.1), .map (some x.2), .bool S.down], mp x.1 Value.bool (tt S.fresh), mp x.2 Value.bool (tt S.given)]
def StoreP (S : Sh) (_ : Nat × Nat) : Prop := S.ok
def Store (b db : Nat) (S : Sh) : SProp := hid (StoreP S) (StoreK b db S)

theorem sRoot_does (b db : Nat) (S : Sh) : Does Try.prog 19 [.pointer (some ⟨b, 0, none⟩)] [Store b db S] (fun v H => v = .int .i64 S.root ∧ H = [Store b db S]) := by
  refine does_of Try.func19 Try.ntmps19 rfl rfl rfl (fun w0 F0 => ?_)
  (refine g_open (H' := ?_) (show Opens (Store b db S) _ _ from hid_opens) ?_ ?_; rotate_left; (focus (repeat (first | (with_reducible exact Take.here) | ((with_reducible apply Take.there)))))); (rintro ⟨bf, bg⟩ ok; dsimp only [StoreK, List.cons_append, List.nil_append])
  (repeat (first | ((with_reducible apply g_seq)) | ((with_reducible apply g_region)) | ((with_reducible apply l_nil)) | ((with_reducible apply n_then)) | ((with_reducible apply l_pures1 env_ok); rfl; rfl; rfl) | ((with_reducible apply l_load env_ok); rfl; rfl; (repeat (first | (with_reducible exact Take.here) | ((with_reducible apply Take.there)))); rfl) | ((with_reducible apply g_ret))))
  (have hshut_ : Shuts (StoreK b db S ((bf, bg))) (Store b db S) := hid_shuts ((bf, bg)) ok); (with_reducible apply n_shut hshut_); (focus (dsimp only [StoreK]; (try simp only [List.map_nil, List.length_nil, List.length_set, List.length_append, List.length_cons, List.length_singleton, List.map_append, List.map_cons, Nat.zero_add]); (repeat (first | (with_reducible exact Parts.nil) | ((with_reducible apply Parts.cons); (repeat (first | (with_reducible exact Take.here) | ((with_reducible apply Take.there)))))))))
  (apply n_ret env_ok rfl; (repeat (first | (with_reducible exact ResV.nil) | (apply ResV.tmp; rfl) | (apply ResV.cell; rfl; (repeat (first | (with_reducible exact Take.here) | ((with_reducible apply Take.there)))); rfl) | exact ResV.nil)); refine ⟨_, ?_, fun i => i⟩)
  exact ⟨rfl, rfl⟩
theorem sGen_does (b db : Nat) (S : Sh) : Does Try.prog 20 [.pointer (some ⟨b, 0, none⟩)] [Store b db S] (fun v H => v = .int .i64 S.gen ∧ H = [Store b db S]) := by
  refine does_of Try.func20 Try.ntmps20 rfl rfl rfl (fun w0 F0 => ?_)
  (refine g_open (H' := ?_) (show Opens (Store b db S) _ _ from hid_opens) ?_ ?_; rotate_left; (focus (repeat (first | (with_reducible exact Take.here) | ((with_reducible apply Take.there)))))); (rintro ⟨bf, bg⟩ ok; dsimp only [StoreK, List.cons_append, List.nil_append])
  (repeat (first | ((with_reducible apply g_seq)) | ((with_reducible apply g_region)) | ((with_reducible apply l_nil)) | ((with_reducible apply n_then)) | ((with_reducible apply l_pures1 env_ok); rfl; rfl; rfl) | ((with_reducible apply l_load env_ok); rfl; rfl; (repeat (first | (with_reducible exact Take.here) | ((with_reducible apply Take.there)))); rfl) | ((with_reducible apply g_ret))))
  (have hshut_ : Shuts (StoreK b db S ((bf, bg))) (Store b db S) := hid_shuts ((bf, bg)) ok); (with_reducible apply n_shut hshut_); (focus (dsimp only [StoreK]; (try simp only [List.map_nil, List.length_nil, List.length_set, List.length_append, List.length_cons, List.length_singleton, List.map_append, List.map_cons, Nat.zero_add]); (repeat (first | (with_reducible exact Parts.nil) | ((with_reducible apply Parts.cons); (repeat (first | (with_reducible exact Take.here) | ((with_reducible apply Take.there)))))))))
  (apply n_ret env_ok rfl; (repeat (first | (with_reducible exact ResV.nil) | (apply ResV.tmp; rfl) | (apply ResV.cell; rfl; (repeat (first | (with_reducible exact Take.here) | ((with_reducible apply Take.there)))); rfl) | exact ResV.nil)); refine ⟨_, ?_, fun i => i⟩)
  exact ⟨rfl, rfl⟩
theorem sFresh_does (b db : Nat) (S : Sh) (n : Int) : Does Try.prog 11 [.pointer (some ⟨b, 0, none⟩), .int .i64 n] [Store b db S] (fun v H => v = .bool (decide (n ∈ S.fresh)) ∧ H = [Store b db S]) := by
  refine does_of Try.func11 Try.ntmps11 rfl rfl rfl (fun w0 F0 => ?_)
  (refine g_open (H' := ?_) (show Opens (Store b db S) _ _ from hid_opens) ?_ ?_; rotate_left; (focus (repeat (first | (with_reducible exact Take.here) | ((with_reducible apply Take.there)))))); (rintro ⟨bf, bg⟩ ok; dsimp only [StoreK, List.cons_append, List.nil_append])
  (repeat (first | ((with_reducible apply g_seq)) | ((with_reducible apply g_region)) | ((with_reducible apply l_nil)) | ((with_reducible apply n_then)) | ((with_reducible apply l_pures1 env_ok); rfl; rfl; rfl) | ((with_reducible apply l_load env_ok); rfl; rfl; (repeat (first | (with_reducible exact Take.here) | ((with_reducible apply Take.there)))); rfl) | ((with_reducible apply l_lookup _ env_ok); rfl; rfl; rfl; rfl; rfl; rfl; (repeat (first | (with_reducible exact Take.here) | ((with_reducible apply Take.there)))); rfl) | ((with_reducible apply g_ret))))
  (have hshut_ : Shuts (StoreK b db S ((bf, bg))) (Store b db S) := hid_shuts ((bf, bg)) ok); (with_reducible apply n_shut hshut_); (focus (dsimp only [StoreK]; (try simp only [List.map_nil, List.length_nil, List.length_set, List.length_append, List.length_cons, List.length_singleton, List.map_append, List.map_cons, Nat.zero_add]); (repeat (first | (with_reducible exact Parts.nil) | ((with_reducible apply Parts.cons); (repeat (first | (with_reducible exact Take.here) | ((with_reducible apply Take.there)))))))))
  (apply n_ret env_ok rfl; (repeat (first | (with_reducible exact ResV.nil) | (apply ResV.tmp; rfl) | (apply ResV.cell; rfl; (repeat (first | (with_reducible exact Take.here) | ((with_reducible apply Take.there)))); rfl) | exact ResV.nil)); refine ⟨_, ?_, fun i => i⟩)
  exact ⟨by rw [tt_get]; rfl, rfl⟩
/-- The cells of a store. -/
theorem sSize_does (b db : Nat) (c1 c2 c3 c4 c5 c6 : Value) (D : Dk) : Does Try.prog 26 [.pointer (some ⟨b, 0, none⟩)] [cl b 54 [.pointer (some ⟨db, 0, none⟩), c1, c2, c3, c4, c5, c6], Disk db D] (fun v H => v = .int .i64 D.now.length ∧ H = [cl b 54 [.pointer (some ⟨db, 0, none⟩), c1, c2, c3, c4, c5, c6], Disk db D]) := by
  refine does_of Try.func26 Try.ntmps26 rfl rfl rfl (fun w0 F0 => ?_)
  (repeat (first | ((with_reducible apply g_seq)) | ((with_reducible apply g_region)) | ((with_reducible apply l_nil)) | ((with_reducible apply n_then)) | ((with_reducible apply l_pures1 env_ok); rfl; rfl; rfl) | ((with_reducible apply l_call c42); rfl; rfl; rfl; rfl; (with_reducible exact Size_does db D); (repeat (first | (with_reducible exact Parts.nil) | ((with_reducible apply Parts.cons); (repeat (first | (with_reducible exact Take.here) | ((with_reducible apply Take.there))))))); rintro _ _ _ ⟨rfl, rfl⟩ he; cases he) | ((with_reducible apply l_load env_ok); rfl; rfl; (repeat (first | (with_reducible exact Take.here) | ((with_reducible apply Take.there)))); rfl) | ((with_reducible apply g_ret))))
  (apply n_ret env_ok rfl; (repeat (first | (with_reducible exact ResV.nil) | (apply ResV.tmp; rfl) | (apply ResV.cell; rfl; (repeat (first | (with_reducible exact Take.here) | ((with_reducible apply Take.there)))); rfl) | exact ResV.nil)); refine ⟨[cl b 54 [.pointer (some ⟨db, 0, none⟩), c1, c2, c3, c4, c5, c6], Disk db D], ?_, ?_⟩; rotate_left; (intro _; refine @inv_keep _ _ _ _ ?_ ?_ _); rotate_left; (repeat (first | (with_reducible exact Parts.nil) | ((with_reducible apply Parts.cons); (repeat (first | (with_reducible exact Take.here) | ((with_reducible apply Take.there))))))); rotate_right)
  exact ⟨rfl, rfl⟩
theorem sSizeS_does (b db bf bg : Nat) (S : Sh) (D : Dk) : Does Try.prog 26 [.pointer (some ⟨b, 0, none⟩)] [cl b 54 [.pointer (some ⟨db, 0, none⟩), .int .i64 S.gen, .int .i64 S.root, .string (str S.used), .map (some bf), .map (some bg), .bool S.down], Disk db D] (fun v H => v = .int .i64 D.now.length ∧ H = [cl b 54 [.pointer (some ⟨db, 0, none⟩), .int .i64 S.gen, .int .i64 S.root, .string (str S.used), .map (some bf), .map (some bg), .bool S.down], Disk db D]) := sSize_does b db _ _ _ _ _ _ D
theorem told_does (b : Nat) (c0 c1 c2 c3 c4 c5 : Value) (d : Bool) (e : Int) : Does Try.prog 29 [.pointer (some ⟨b, 0, none⟩), .int .i64 e] [cl b 54 [c0, c1, c2, c3, c4, c5, .bool d]] (fun v H => v = .int .i64 e ∧ H = [cl b 54 [c0, c1, c2, c3, c4, c5, .bool (d || e == 5)]]) := by
  refine does_of Try.func29 Try.ntmps29 rfl rfl rfl (fun w0 F0 => ?_)
  (repeat' (first | ((with_reducible apply g_seq)) | ((with_reducible apply g_region)) | ((with_reducible apply l_nil)) | ((with_reducible apply n_then)) | ((with_reducible apply l_pures1 env_ok); rfl; rfl; rfl) | ((with_reducible apply l_guard_yes); rfl; rfl; rfl) | ((with_reducible apply l_guard_no); rfl; rfl; rfl; rfl; rfl) | ((with_reducible apply l_load env_ok); rfl; rfl; (repeat (first | (with_reducible exact Take.here) | ((with_reducible apply Take.there)))); rfl) | ((with_reducible apply l_store env_ok); rfl; rfl; rfl; rfl; rfl; (repeat (first | (with_reducible exact Take.here) | ((with_reducible apply Take.there)))); rfl) | ((with_reducible apply g_ret)) | ((with_reducible apply l_guard_split); rfl; rfl; (intro h; (try dsimp only at h); (try simp only [beq_true, beq_false, decide_eq_decide, beq_iff_eq, bne_iff_ne, beq_eq_false_iff_ne, bne_eq_false_iff_eq, decide_eq_true_eq, decide_eq_false_iff_not, Bool.not_eq_true', Bool.not_eq_false', ne_eq, Decidable.not_not] at h); (try (focus (exfalso; first | (simp only [eq_self, not_true_eq_false, not_false_eq_true, reduceCtorEq] at h; done) | omega)))); rotate_left; (intro h; (try dsimp only at h); (try simp only [beq_true, beq_false, decide_eq_decide, beq_iff_eq, bne_iff_ne, beq_eq_false_iff_ne, bne_eq_false_iff_eq, decide_eq_true_eq, decide_eq_false_iff_not, Bool.not_eq_true', Bool.not_eq_false', ne_eq, Decidable.not_not] at h); (try (focus (exfalso; first | (simp only [eq_self, not_true_eq_false, not_false_eq_true, reduceCtorEq] at h; done) | omega)))); rotate_left)))
  all_goals
    (apply n_ret env_ok rfl; (repeat (first | (with_reducible exact ResV.nil) | (apply ResV.tmp; rfl) | (apply ResV.cell; rfl; (repeat (first | (with_reducible exact Take.here) | ((with_reducible apply Take.there)))); rfl) | exact ResV.nil)); refine ⟨_, ?_, fun i => i⟩)
  · subst h; exact ⟨rfl, rfl⟩
  · subst h; exact ⟨rfl, rfl⟩
def Sh.roll (S : Sh) : Sh := { S with fresh := [], given := [] }
theorem sRollback_does (b db : Nat) (S : Sh) : Does Try.prog 13 [.pointer (some ⟨b, 0, none⟩)] [Store b db S] (fun v H => v = .tuple #[] ∧ H = [Store b db S.roll]) := by
  refine does_of Try.func13 Try.ntmps13 rfl rfl rfl (fun w0 F0 => ?_)
  (refine g_open (H' := ?_) (show Opens (Store b db S) _ _ from hid_opens) ?_ ?_; rotate_left; (focus (repeat (first | (with_reducible exact Take.here) | ((with_reducible apply Take.there)))))); (rintro ⟨bf, bg⟩ ok; dsimp only [StoreK, List.cons_append, List.nil_append])
  (repeat (first | ((with_reducible apply g_region)) | ((with_reducible apply l_pures1 env_ok); rfl; rfl; rfl)))
  ((with_reducible apply l_makeMap (Value.bool)); rfl; intro _)
  ((with_reducible apply l_makeMap (Value.bool)); rfl; intro _)
  (repeat (first | ((with_reducible apply l_nil)) | ((with_reducible apply l_pures1 env_ok); rfl; rfl; rfl) | ((with_reducible apply l_store env_ok); rfl; rfl; rfl; rfl; rfl; (repeat (first | (with_reducible exact Take.here) | ((with_reducible apply Take.there)))); rfl)))
  rename_i b1 b2
  (have hshut_ : Shuts (StoreK b db S.roll ((b1, b2))) (Store b db S.roll) := hid_shuts ((b1, b2)) ⟨ok.g, ok.r, ok.u, ⟨by simp [Sh.roll], by simp [Sh.roll]⟩, ⟨by simp [Sh.roll], by simp [Sh.roll]⟩⟩); (with_reducible apply n_shut hshut_); (focus (dsimp only [StoreK]; (try simp only [List.map_nil, List.length_nil, List.length_set, List.length_append, List.length_cons, List.length_singleton, List.map_append, List.map_cons, Nat.zero_add, Sh.roll, tt]); (repeat (first | (with_reducible exact Parts.nil) | ((with_reducible apply Parts.cons); (repeat (first | (with_reducible exact Take.here) | ((with_reducible apply Take.there)))))))))
  (apply n_end env_ok rfl; (repeat (first | (with_reducible exact ResV.nil) | (apply ResV.tmp; rfl) | (apply ResV.cell; rfl; (repeat (first | (with_reducible exact Take.here) | ((with_reducible apply Take.there)))); rfl) | exact ResV.nil)); refine ⟨[Store b db S.roll], ?_, ?_⟩; rotate_left; (intro _; refine @inv_keep _ _ _ _ ?_ ?_ _); rotate_left; (repeat (first | (with_reducible exact Parts.nil) | ((with_reducible apply Parts.cons); (repeat (first | (with_reducible exact Take.here) | ((with_reducible apply Take.there))))))); rotate_right)
  exact ⟨rfl, rfl⟩

/-- Is a number neither used nor fresh? -/
def Sh.free (S : Sh) (i : Nat) : Bool := !hasB S.used i && !decide ((i : Int) ∈ S.fresh)
/-- The least free number from one on. -/
def Sh.find (S : Sh) : Nat → Nat → Option Nat
  | 0, _ => none
  | k + 1, n => if S.free n then some n else S.find k (n + 1)
def Sh.take (S : Sh) (D : Dk) : (Int × Int) × Sh :=
  if S.down then ((0, 5), S) else match S.find (D.now.length - 2) 2 with
    | some n => ((n, 0), { S with fresh := S.fresh ++ [(n : Int)] })
    | none => ((0, 4), S)
theorem Sh.find_free {S : Sh} : ∀ {k n m : Nat}, S.find k n = some m → S.free m = true ∧ n ≤ m ∧ m < n + k
  | 0, _, _, h => by simp [Sh.find] at h
  | k + 1, n, m, h => by
    rw [Sh.find] at h
    by_cases q : S.free n = true
    · rw [if_pos q] at h
      cases h
      exact ⟨q, Nat.le_refl _, by omega⟩
    · rw [if_neg q] at h
      obtain ⟨h1, h2, h3⟩ := Sh.find_free h
      exact ⟨h1, by omega, by omega⟩
theorem Sh.take_ok {S : Sh} {n : Nat} (ok : S.ok) (h : S.free n = true) (hn : n < 640) : Sh.ok { S with fresh := S.fresh ++ [(n : Int)] } := by
  refine ⟨ok.g, ok.r, ok.u, ⟨?_, ?_⟩, ok.v⟩
  · have hm : ¬ ((n : Int) ∈ S.fresh) := by
      intro q; simp [Sh.free, q] at h
    exact List.nodup_append.2 ⟨ok.f.1, by simp, by intro x hx y hy; simp only [List.mem_singleton] at hy; subst hy; exact fun q => hm (q ▸ hx)⟩
  · intro i hi
    rcases List.mem_append.1 hi with hi | hi
    · exact ok.f.2 i hi
    · simp only [List.mem_singleton] at hi; subst hi; omega

theorem sTake_does (b db : Nat) (S : Sh) (D : Dk) : Does Try.prog 10 [.pointer (some ⟨b, 0, none⟩)] [Store b db S, Disk db D] (fun v H => v = .tuple #[.int .i64 (S.take D).1.1, .int .i64 (S.take D).1.2] ∧ H = [Store b db (S.take D).2, Disk db D]) := by
  refine does_swap (does_disk fun dok => does_swap ?_)
  have hD := dok.n
  refine does_of Try.func10 Try.ntmps10 rfl rfl rfl (fun w0 F0 => ?_)
  (refine g_open (H' := ?_) (show Opens (Store b db S) _ _ from hid_opens) ?_ ?_; rotate_left; (focus (repeat (first | (with_reducible exact Take.here) | ((with_reducible apply Take.there)))))); (rintro ⟨bf, bg⟩ ok; dsimp only [StoreK, List.cons_append, List.nil_append])
  have hu := ok.u
  (repeat' (first | ((with_reducible apply g_seq)) | ((with_reducible apply g_region)) | ((with_reducible apply l_nil)) | ((with_reducible apply n_then)) | ((with_reducible apply l_pures1 env_ok); rfl; rfl; rfl) | ((with_reducible apply l_load env_ok); rfl; rfl; (repeat (first | (with_reducible exact Take.here) | ((with_reducible apply Take.there)))); rfl) | ((with_reducible apply g_skip)) | ((with_reducible apply g_ret)) | ((with_reducible apply n_then_ret)) | ((with_reducible apply g_block)) | ((with_reducible apply g_cond); rfl; (intro h; (try dsimp only at h); (try simp only [beq_true, beq_false, decide_eq_decide, beq_iff_eq, bne_iff_ne, beq_eq_false_iff_ne, bne_eq_false_iff_eq, decide_eq_true_eq, decide_eq_false_iff_not, Bool.not_eq_true', Bool.not_eq_false', ne_eq, Decidable.not_not] at h); (try (focus (exfalso; first | (simp only [eq_self, not_true_eq_false, not_false_eq_true, reduceCtorEq] at h; done) | omega)))); rotate_left; (intro h; (try dsimp only at h); (try simp only [beq_true, beq_false, decide_eq_decide, beq_iff_eq, bne_iff_ne, beq_eq_false_iff_ne, bne_eq_false_iff_eq, decide_eq_true_eq, decide_eq_false_iff_not, Bool.not_eq_true', Bool.not_eq_false', ne_eq, Decidable.not_not] at h); (try (focus (exfalso; first | (simp only [eq_self, not_true_eq_false, not_false_eq_true, reduceCtorEq] at h; done) | omega)))); rotate_left)))
  · (have hshut_ : Shuts (StoreK b db S ((bf, bg))) (Store b db S) := hid_shuts ((bf, bg)) ok); (with_reducible apply n_shut hshut_); (focus (dsimp only [StoreK]; (try simp only [List.map_nil, List.length_nil, List.length_set, List.length_append, List.length_cons, List.length_singleton, List.map_append, List.map_cons, Nat.zero_add]); (repeat (first | (with_reducible exact Parts.nil) | ((with_reducible apply Parts.cons); (repeat (first | (with_reducible exact Take.here) | ((with_reducible apply Take.there)))))))))
    (apply n_ret env_ok rfl; (repeat (first | (with_reducible exact ResV.nil) | (apply ResV.tmp; rfl) | (apply ResV.cell; rfl; (repeat (first | (with_reducible exact Take.here) | ((with_reducible apply Take.there)))); rfl) | exact ResV.nil)); refine ⟨_, ?_, fun i => i⟩)
    exact ⟨by rw [Sh.take, if_pos (by assumption)]; rfl, by rw [Sh.take, if_pos (by assumption)]⟩
  · (refine g_loop (fun j : Nat => [(4, .int .i64 j), (0, .pointer (some ⟨b, 0, none⟩))]) (fun j => [Disk db D, cl b 54 [.pointer (some ⟨db, 0, none⟩), .int .i64 S.gen, .int .i64 S.root, .string (str S.used), .map (some bf), .map (some bg), .bool S.down], mp bf Value.bool (tt S.fresh), mp bg Value.bool (tt S.given)]) (fun j => 2 ≤ j ∧ (j = 2 ∨ j ≤ D.now.length) ∧ S.find (D.now.length - 2) 2 = S.find (D.now.length - j) j) (fun j => D.now.length - j) (2) ?_ ?_ ?_ ?_; rotate_left; (repeat (first | (with_reducible exact ts_nil) | ((with_reducible apply ts_cons); rfl; first | (with_reducible rfl) | rotate_left))); (first | (intro _ i; with_reducible exact i) | rotate_left); rotate_left; (try omega); rotate_right)
    · intro j ⟨hj1, hj2, hj3⟩
      (repeat' (first | ((with_reducible apply g_seq)) | ((with_reducible apply g_region)) | ((with_reducible apply l_nil)) | ((with_reducible apply n_then)) | ((with_reducible apply l_pures1 env_ok); rfl; rfl; rfl) | ((with_reducible apply l_call c26); rfl; rfl; rfl; rfl; (with_reducible exact sSizeS_does b db bf bg S D); (repeat (first | (with_reducible exact Parts.nil) | ((with_reducible apply Parts.cons); (repeat (first | (with_reducible exact Take.here) | ((with_reducible apply Take.there))))))); rintro _ _ _ ⟨rfl, rfl⟩ he; cases he) | ((with_reducible apply l_call c28); rfl; rfl; rfl; rfl; (with_reducible exact Has_does S.used j (by omega) (by omega)); (repeat (first | (with_reducible exact Parts.nil) | ((with_reducible apply Parts.cons); (repeat (first | (with_reducible exact Take.here) | ((with_reducible apply Take.there))))))); rintro _ _ _ ⟨rfl, rfl⟩ he; cases he) | ((with_reducible apply l_guard_yes); rfl; rfl; rfl) | ((with_reducible apply l_guard_no); rfl; rfl; rfl; rfl; rfl) | ((with_reducible apply l_load env_ok); rfl; rfl; (repeat (first | (with_reducible exact Take.here) | ((with_reducible apply Take.there)))); rfl) | ((with_reducible apply l_lookup _ env_ok); rfl; rfl; rfl; rfl; rfl; rfl; (repeat (first | (with_reducible exact Take.here) | ((with_reducible apply Take.there)))); rfl) | ((with_reducible apply l_mapUpdate env_ok); rfl; rfl; rfl; rfl; rfl; (repeat (first | (with_reducible exact Take.here) | ((with_reducible apply Take.there)))); rfl) | ((with_reducible apply g_skip)) | ((with_reducible apply g_ret)) | ((with_reducible apply n_then_ret)) | ((with_reducible apply n_block_ret)) | ((with_reducible apply g_block)) | ((with_reducible apply g_exit)) | ((with_reducible apply n_then_exit)) | ((with_reducible apply n_block_hit)) | ((with_reducible apply n_block)) | ((with_reducible apply g_cond_f); rfl) | ((with_reducible apply l_guard_split); rfl; rfl; (intro h; (try dsimp only at h); (try simp only [beq_true, beq_false, decide_eq_decide, beq_iff_eq, bne_iff_ne, beq_eq_false_iff_ne, bne_eq_false_iff_eq, decide_eq_true_eq, decide_eq_false_iff_not, Bool.not_eq_true', Bool.not_eq_false', ne_eq, Decidable.not_not] at h); (try (focus (exfalso; first | (simp only [eq_self, not_true_eq_false, not_false_eq_true, reduceCtorEq] at h; done) | omega)))); rotate_left; (intro h; (try dsimp only at h); (try simp only [beq_true, beq_false, decide_eq_decide, beq_iff_eq, bne_iff_ne, beq_eq_false_iff_ne, bne_eq_false_iff_eq, decide_eq_true_eq, decide_eq_false_iff_not, Bool.not_eq_true', Bool.not_eq_false', ne_eq, Decidable.not_not] at h); (try (focus (exfalso; first | (simp only [eq_self, not_true_eq_false, not_false_eq_true, reduceCtorEq] at h; done) | omega)))); rotate_left) | ((with_reducible apply g_cond); rfl; (intro h; (try dsimp only at h); (try simp only [beq_true, beq_false, decide_eq_decide, beq_iff_eq, bne_iff_ne, beq_eq_false_iff_ne, bne_eq_false_iff_eq, decide_eq_true_eq, decide_eq_false_iff_not, Bool.not_eq_true', Bool.not_eq_false', ne_eq, Decidable.not_not] at h); (try (focus (exfalso; first | (simp only [eq_self, not_true_eq_false, not_false_eq_true, reduceCtorEq] at h; done) | omega)))); rotate_left; (intro h; (try dsimp only at h); (try simp only [beq_true, beq_false, decide_eq_decide, beq_iff_eq, bne_iff_ne, beq_eq_false_iff_ne, bne_eq_false_iff_eq, decide_eq_true_eq, decide_eq_false_iff_not, Bool.not_eq_true', Bool.not_eq_false', ne_eq, Decidable.not_not] at h); (try (focus (exfalso; first | (simp only [eq_self, not_true_eq_false, not_false_eq_true, reduceCtorEq] at h; done) | omega)))); rotate_left)))
      · rename_i hs hl hb
        have hf := h
        have hfree : S.free j = true := by
          rw [Sh.free, hb, ← tt_get, hf]; rfl
        have hnm : ¬ ((j : Int) ∈ S.fresh) := by
          rw [tt_get] at hf; simpa using hf
        have ht : S.take D = (((j : Int), 0), { S with fresh := S.fresh ++ [(j : Int)] }) := by
          rw [Sh.take, if_neg (by simp [hs]), hj3, show D.now.length - j = (D.now.length - (j + 1)) + 1 by omega, Sh.find, if_pos hfree]
        rw [tt_put hnm, ht]
        (have hshut_ : Shuts (StoreK b db { S with fresh := S.fresh ++ [(j : Int)] } ((bf, bg))) (Store b db { S with fresh := S.fresh ++ [(j : Int)] }) := hid_shuts ((bf, bg)) (Sh.take_ok ok hfree (by omega))); (with_reducible apply n_shut hshut_); (focus (dsimp only [StoreK]; (try simp only [List.map_nil, List.length_nil, List.length_set, List.length_append, List.length_cons, List.length_singleton, List.map_append, List.map_cons, Nat.zero_add]); (repeat (first | (with_reducible exact Parts.nil) | ((with_reducible apply Parts.cons); (repeat (first | (with_reducible exact Take.here) | ((with_reducible apply Take.there)))))))))
        (apply n_ret env_ok rfl; (repeat (first | (with_reducible exact ResV.nil) | (apply ResV.tmp; rfl) | (apply ResV.cell; rfl; (repeat (first | (with_reducible exact Take.here) | ((with_reducible apply Take.there)))); rfl) | exact ResV.nil)); refine ⟨[Store b db { S with fresh := S.fresh ++ [(j : Int)] }, Disk db D], ?_, ?_⟩; rotate_left; (intro _; refine @inv_keep _ _ _ _ ?_ ?_ _); rotate_left; (repeat (first | (with_reducible exact Parts.nil) | ((with_reducible apply Parts.cons); (repeat (first | (with_reducible exact Take.here) | ((with_reducible apply Take.there))))))); rotate_right)
        exact ⟨rfl, rfl⟩
      · rename_i hs hl hb
        (refine n_back (j + 1) ?_ ?_ ?_ ?_; rotate_left; rotate_left; (repeat (first | (with_reducible exact ts_nil) | ((with_reducible apply ts_cons); rfl; first | (with_reducible rfl) | rotate_left))); (first | (intro _ i; with_reducible exact i) | rotate_left); (try omega); (try omega))
        · refine ⟨by omega, by omega, ?_⟩
          rw [hj3, show D.now.length - j = (D.now.length - (j + 1)) + 1 by omega, Sh.find, if_neg]
          rw [tt_get] at h
          simp only [Sh.free, h]; simp
        · omega
        · rw [wrapI64 (by omega)]; rfl
        · (intro _ i; exact inv_keep (by (repeat (first | (with_reducible exact Parts.nil) | ((with_reducible apply Parts.cons); (repeat (first | (with_reducible exact Take.here) | ((with_reducible apply Take.there)))))))) i)
      · (refine n_back (j + 1) ?_ ?_ ?_ ?_; rotate_left; rotate_left; (repeat (first | (with_reducible exact ts_nil) | ((with_reducible apply ts_cons); rfl; first | (with_reducible rfl) | rotate_left))); (first | (intro _ i; with_reducible exact i) | rotate_left); (try omega); (try omega))
        · refine ⟨by omega, by omega, ?_⟩
          rw [hj3, show D.now.length - j = (D.now.length - (j + 1)) + 1 by omega, Sh.find, if_neg]
          simp only [Sh.free, h]; simp
        · omega
        · rw [wrapI64 (by omega)]; rfl
        · (intro _ i; exact inv_keep (by (repeat (first | (with_reducible exact Parts.nil) | ((with_reducible apply Parts.cons); (repeat (first | (with_reducible exact Take.here) | ((with_reducible apply Take.there)))))))) i)
      · rename_i hs
        have ht : S.take D = ((0, 4), S) := by
          rw [Sh.take, if_neg (by simp [hs]), hj3, show D.now.length - j = 0 by omega]; rfl
        rw [ht]
        (have hshut_ : Shuts (StoreK b db S ((bf, bg))) (Store b db S) := hid_shuts ((bf, bg)) ok); (with_reducible apply n_shut hshut_); (focus (dsimp only [StoreK]; (try simp only [List.map_nil, List.length_nil, List.length_set, List.length_append, List.length_cons, List.length_singleton, List.map_append, List.map_cons, Nat.zero_add]); (repeat (first | (with_reducible exact Parts.nil) | ((with_reducible apply Parts.cons); (repeat (first | (with_reducible exact Take.here) | ((with_reducible apply Take.there)))))))))
        (apply n_ret env_ok rfl; (repeat (first | (with_reducible exact ResV.nil) | (apply ResV.tmp; rfl) | (apply ResV.cell; rfl; (repeat (first | (with_reducible exact Take.here) | ((with_reducible apply Take.there)))); rfl) | exact ResV.nil)); refine ⟨_, ?_, fun i => i⟩)
        exact ⟨rfl, rfl⟩
    · exact ⟨by omega, by omega, rfl⟩
    · rfl
    · (intro _ i; exact inv_keep (by (repeat (first | (with_reducible exact Parts.nil) | ((with_reducible apply Parts.cons); (repeat (first | (with_reducible exact Take.here) | ((with_reducible apply Take.there)))))))) i)
end Go.Proofs.Ytcbcpgaehdoekaa

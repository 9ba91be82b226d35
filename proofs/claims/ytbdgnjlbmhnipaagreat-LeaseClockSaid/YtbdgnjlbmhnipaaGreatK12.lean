/- Texts RcP, SlS, SlT, SpA, LcA, RowL, RowS, joined. -/
import Derived.SliceStrings
import Derived.ChangeSlices
import Derived.Carry
import Derived.Test.YtbdgnjlbmhnipaaGreatK11
/- Keys of kinds, and slots in them: plain facts. -/
set_option maxRecDepth 20000
set_option linter.unusedVariables false
set_option linter.unusedSimpArgs false
namespace Go.Proofs.YtbdgnjlbmhnipaaGreat
open Go.Proofs.YtbdgnjlbmhnipaaGreat.SL

/-- The key of a kind and two numbers. -/
def kyN (k a b : Nat) : Nat := k * 1152921504606846976 + a * 4294967296 + b
/-- A slot. -/
structure Sl where
  cap : Nat
  epoch : Nat
  nonce : Nat
deriving DecidableEq
def Sl.ok (s : Sl) : Prop := s.cap ≤ 16777215 ∧ 1 ≤ s.epoch ∧ s.epoch ≤ 16 ∧ (s.cap = 0 ∨ s.epoch ≤ 15) ∧ s.nonce < 18446744073709551616
def Sl.text (s : Sl) : List UInt8 := putN s.cap 3 ++ (putN s.epoch 1 ++ putN s.nonce 8)
end Go.Proofs.YtbdgnjlbmhnipaaGreat
/- The framework, part 19: loops that hold loops over functions; their marks among the deferred calls. -/
set_option linter.unusedVariables false
set_option linter.unusedSimpArgs false
namespace Go.Proofs.YtbdgnjlbmhnipaaGreat.SL

section
variable {w0 w : World} {F0 : Nat → Prop} {H : List SProp} {ms : List Nat} {D0 : Nat}
end

variable {P : Program} {E : Env} {n : Nat} {w0 : World} {F0 : Nat → Prop} {Q : Exit → Act → World → Prop} {tm : List (Nat × Value)} {D : List Deferred} {H H' : List SProp}
/-- A guarded lookup in a map that is held, in a region whose order is free. -/
theorem a_lookupg_k {α : Type} {kk : IntKind} {ops : List Oper} {ty : TypeId} {pos : String} {after : Array Edge} {Hs Hs' : List SProp} {listed : Array Bool} {ll : List Bool} {i d j ts t kt et b sz by' : Nat} {want : Bool} {x y : Operand} {enc : α → Value} {kv : List (Int × α)} {u : Int} (z : α) {zv : Value} (k : EnvOk P E := by refine inferInstance) (hs : noSel ops = true := by refine rfl) (hi : nextR ops 0 listed = some i := by refine rfl)
    (ho : nth ops i = some ⟨some d, .lookup t x y false, ty, pos, after, some (j, want)⟩ := by refine rfl) (hd : Nat.blt d n = true := by refine rfl) (hst : slotOf ops j = some ts := by refine rfl) (htb : tget tm ts = some (.bool want) := by refine rfl) (hb : Nat.blt ts n = true := by refine rfl) (hx : ev tm x = some (.map (some b)) := by refine rfl) (hy : ev tm y = some (.int kk u) := by refine rfl)
    (ht : look E.ty t = some (.map kt et) := by refine rfl) (hk : look E.ty kt = some (.int kk) := by refine rfl) (hz : look E.inf et = some (zv, sz, by') := by refine rfl) (tk : Take (mpk kk b enc kv) Hs Hs' := by with_reducible (repeat (first | refine Take.here | apply Take.there))) (hze : zv = enc z := by refine rfl)
    (hf : freeL ops.toArray i ⟨some d, .lookup t x y false, ty, pos, after, some (j, want)⟩ listed ops 0 = true := by refine rfl) (hl : listed.getD i true = false := by refine rfl) (hr : rdyB after.toList listed = true := by refine rfl) (hn : copyB (listed.setIfInBounds i true).toList = some ll := by refine rfl) (hc : Calm Q := by with_reducible (repeat (first | assumption | refine calm_post | refine calm_postM | refine calm_round | apply calm_then | apply calm_block | apply calm_scope)))
    (h : A P n w0 F0 ops Hs ll.toArray Q ((d, enc ((kvGet kv u).getD z)) :: tm) D H) : A P n w0 F0 ops Hs listed Q tm D H := by
  subst hze
  refine a_yh (v := enc ((kvGet kv u).getD z)) hc hs ho hd hst htb hb hf hl hr (fun a w htm ⟨F, s⟩ => ?_) (by rw [copyB_arr hn]; exact h)
  obtain ⟨F1, F2, ⟨⟨es, clock, hw, he, _⟩, _⟩, _⟩ := tk.sep s
  simp only [execOp, ev_sound htm hx, ev_sound htm hy, Sem.run_bind, run_lookup_int_k k hw he ht hk hz, Result.andThen, Sem.run_pure, Bool.false_eq_true, if_false]
end Go.Proofs.YtbdgnjlbmhnipaaGreat.SL
/- The framework, part 20: values behind interfaces: their types are asked for, their methods called. -/
set_option linter.unusedVariables false
set_option linter.unusedSimpArgs false
namespace Go.Proofs.YtbdgnjlbmhnipaaGreat.SL
section
variable {P : Program} {E : Env} {n : Nat} {w0 : World} {F0 : Nat → Prop} {Q : Exit → Act → World → Prop} {tm : List (Nat × Value)} {D : List Deferred} {H H' : List SProp} {ops rest : List Oper}
variable {ty : TypeId} {pos : String} {after : Array Edge}

/-- Is what is behind it of the type s? -/
def assertV (E : Env) (s : Nat) (x : Value) : Option Value :=
  match x with
  | .iface t v => (match look E.ty s with
    | none => none
    | some (.interface _) => none
    | some _ => bif Nat.beq t s then some (.tuple #[v, .bool true]) else (match look E.inf s with
      | some (z, _, _) => some (.tuple #[z, .bool false])
      | none => none))
  | _ => none
theorem assertV_sound (k : EnvOk P E) {xt s : Nat} {x v : Value} (h : assertV E s x = some v) (w : World) : (Instr.typeAssert x xt s true).run P w = .ok v w := by
  unfold assertV at h
  split at h
  · rename_i t u
    split at h
    · cases h
    · cases h
    · rename_i d hd hu
      have hu' := k.under hu
      cases hb : Nat.beq t s with
      | true =>
        rw [hb, cond_true] at h
        simp only [Option.some.injEq] at h; subst h
        obtain rfl : t = s := Nat.eq_of_beq_eq_true hb
        unfold Instr.typeAssert
        simp only [Sem.run_bind, run_underlying hu', Result.andThen]
        cases d <;> first | exact absurd rfl (hd _) | simp
      | false =>
        rw [hb, cond_false] at h
        split at h
        · rename_i z s1 b1 hi
          simp only [Option.some.injEq] at h; subst h
          have hne : t ≠ s := Nat.ne_of_beq_eq_false hb
          unfold Instr.typeAssert
          simp only [Sem.run_bind, run_underlying hu', Result.andThen]
          cases d <;> first | exact absurd rfl (hd _) | simp [hne, run_zero k hi, Result.andThen]
        · cases h
  · cases h
theorem l_assert {d xt s : Nat} {x : Operand} {u v : Value} (k : EnvOk P E := by refine inferInstance) (hd : Nat.blt d n = true := by refine rfl) (hx : ev tm x = some u := by refine rfl) (hv : assertV E s u = some v := by refine rfl)
    (h : L P n w0 F0 ops.toArray rest Q ((d, v) :: tm) D H) : L P n w0 F0 ops.toArray (⟨some d, .typeAssert x xt s true, ty, pos, after, none⟩ :: rest) Q tm D H :=
  .mk fun a w st => wpList_value rfl (v := v) (w' := w) (by simp only [execOp, ev_sound st.tm hx, Sem.run_bind, assertV_sound k hv, Result.andThen, Sem.run_pure]) (h _ _ (st.put hd v))

/-- The type t has a method of this name, of a value: it is the function g. -/
class Mth (P : Program) (t : Nat) (name : String) (g : FuncId) : Prop where
  it : ∃ i m, P.info? t = some i ∧ i.methods.find? (·.name == name) = some m ∧ m.path.toList = [] ∧ m.func = some (g, false)
def mthB (P : Program) (t : Nat) (name : String) (g : FuncId) : Bool :=
  match P.info? t with
  | none => false
  | some i => (match i.methods.find? (·.name == name) with
    | none => false
    | some m => m.path.toList.isEmpty && (match m.func with
      | some (f, false) => Nat.beq f g
      | _ => false))
theorem Mth.of {t : Nat} {name : String} {g : FuncId} (h : mthB P t name g = true) : Mth P t name g := by
  unfold mthB at h
  split at h
  · cases h
  · rename_i i hi
    split at h
    · cases h
    · rename_i m hm
      simp only [Bool.and_eq_true, List.isEmpty_iff] at h
      obtain ⟨h1, h2⟩ := h
      split at h2
      · rename_i f hf
        have : f = g := Nat.eq_of_beq_eq_true h2
        subst this
        exact ⟨i, m, hi, hm, h1, hf⟩
      · cases h2
end
end Go.Proofs.YtbdgnjlbmhnipaaGreat.SL
/- Package space: keys. -/
set_option maxRecDepth 20000
set_option linter.unusedVariables false
set_option linter.unusedSimpArgs false
namespace Go.Proofs.YtbdgnjlbmhnipaaGreat
open Go.Proofs.YtbdgnjlbmhnipaaGreat.SL

theorem Key_does (k a b : Nat) (hk : k < 16) (ha : a ≤ 268435455) (hb : b < 4294967296) : Does Tryz.prog 67 [.int .i64 k, .int .i64 a, .int .i64 b] [] (fun v H => v = .tuple #[.int .u64 (kyN k a b : Nat), .bool true] ∧ H = []) := by
  refine does_of Tryz.func67 Tryz.ntmps67 rfl rfl rfl (fun w0 F0 => ?_)
  (repeat' (first | refine g_seq (h := ?_) | refine g_region (h := ?_) | refine l_nil (h := ?_) | refine n_then (h := ?_) | refine l_pures1 (h := ?_) | refine l_guard_yes (h := ?_) | refine l_shl (h := ?_) | refine g_skip (h := ?_) | refine g_ret (h := ?_) | (refine l_spF (h := ?_); intro h) | (refine g_spF (h := ?_); intro h)))
  refine r_ret ?_
  refine ⟨?_, rfl⟩
  have p60 : (2 : Int) ^ min (Int.toNat 60) IntKind.u64.bits = 1152921504606846976 := by decide
  have p32 : (2 : Int) ^ min (Int.toNat 32) IntKind.u64.bits = 4294967296 := by decide
  rw [p60, p32, wrapU64 (n := (k : Int)) (by omega), wrapU64 (n := (a : Int)) (by omega), wrapU64 (n := (b : Int)) (by omega), wrapU64 (n := (k : Int) * 1152921504606846976) (by omega), wrapU64 (n := (a : Int) * 4294967296) (by omega), wrapU64 (n := (k : Int) * 1152921504606846976 + (a : Int) * 4294967296) (by omega), wrapU64 (by omega)]
  simp [packV, kyN]
end Go.Proofs.YtbdgnjlbmhnipaaGreat
/- Package lease: the clock. -/
set_option maxRecDepth 20000
set_option linter.unusedVariables false
set_option linter.unusedSimpArgs false
namespace Go.Proofs.YtbdgnjlbmhnipaaGreat
open Go.Proofs.YtbdgnjlbmhnipaaGreat.SL

/-- The clock's key. -/
def kClk : Nat := kyN 9 0 4
theorem kClk_lt : kClk < 18446744073709551616 := by decide
theorem lkeyC_does : Does Tryz.prog 39 [.int .i64 9, .int .i64 0, .int .i64 4] [] (fun v H => v = .int .u64 (kClk : Nat) ∧ H = []) := by
  have hk : Does Tryz.prog 67 [.int .i64 9, .int .i64 0, .int .i64 4] [] (fun v H => v = .tuple #[.int .u64 (kClk : Nat), .bool true] ∧ H = []) := Key_does 9 0 4 (by omega) (by omega) (by omega)
  refine does_of Tryz.func39 Tryz.ntmps39 rfl rfl rfl (fun w0 F0 => ?_)
  (repeat' (first | refine g_seq (h := ?_) | refine g_region (h := ?_) | refine l_nil (h := ?_) | refine n_then (h := ?_) | refine l_pures1 (h := ?_) | (refine l_atc ?_; refine l_call (hk) ?_) | refine g_ret (h := ?_)))
  refine r_ret ?_
  exact ⟨rfl, rfl⟩
/-- The tree has the time, and nothing else. -/
def Clk (T : List Ent) (now : Nat) : Prop := (T = [] ∧ now = 0) ∨ T = [(kClk, putN now 4)]
theorem Clk.put {T : List Ent} {now m : Nat} (h : Clk T now) : Clk (putE T kClk (putN m 4)) m := by
  rcases h with ⟨rfl, _⟩ | rfl <;> exact .inr (by simp [putE])
theorem Clk.len {T : List Ent} {now : Nat} (h : Clk T now) : T.length ≤ 1 := by
  rcases h with ⟨rfl, _⟩ | rfl <;> simp
theorem take4 {now : Nat} (hn : now ≤ 268435455) : numTake (putN now 4) 4 = (now, [], 0) := by
  have hl := putN_length 4 now
  rw [numTake, if_neg (by omega), if_neg (by omega)]
  have e : (4 : Int).toNat = 4 := rfl
  rw [e, List.take_of_length_le (by omega), List.drop_of_length_le (by omega), getN_putN _ _ (by omega)]

theorem clock_does (P : TxP) (T : List Ent) (now : Nat) (h : Clk T now) (hn : now ≤ 268435455) : Does Tryz.prog 15 [.pointer (some ⟨P.t, 0, none⟩)] [Tx P T] (fun v H => v = .tuple #[.int .i64 now, .int .i64 0] ∧ H = [Tx P T]) := by
  have hg := tGet_does P T kClk
  have he := tErr_does P T
  rcases h with ⟨rfl, rfl⟩ | rfl
  · refine does_of Tryz.func15 Tryz.ntmps15 rfl rfl rfl (fun w0 F0 => ?_)
    (repeat' (first | refine g_seq (h := ?_) | refine g_region (h := ?_) | refine l_nil (h := ?_) | refine n_then (h := ?_) | refine l_pures1 (h := ?_) | (refine l_atc ?_; refine l_call (lkeyC_does) ?_) | (refine l_atc ?_; refine l_call (hg) ?_) | (refine l_atc ?_; refine l_call (he) ?_) | refine g_ret (h := ?_) | refine n_then_ret (h := ?_) | refine g_cond_t (h := ?_)))
    refine r_ret ?_
    exact ⟨rfl, rfl⟩
  · have h1 : getE [(kClk, putN now 4)] kClk = some (putN now 4) := by simp [getE]
    rw [h1] at hg
    have hg : Does Tryz.prog 27 [.pointer (some ⟨P.t, 0, none⟩), .int .u64 kClk] [Tx P [(kClk, putN now 4)]] (fun v H => v = .tuple #[.string (str (putN now 4)), .bool true] ∧ H = [Tx P [(kClk, putN now 4)]]) := hg
    have ew : IntKind.i64.wrap (now : Int) = now := wrapI64 (by omega)
    have ht := Take_does (putN now 4) 4 (by omega) (by rw [putN_length]; omega)
    rw [take4 hn] at ht
    refine does_of Tryz.func15 Tryz.ntmps15 rfl rfl rfl (fun w0 F0 => ?_)
    (repeat' (first | refine g_seq (h := ?_) | refine g_region (h := ?_) | refine l_nil (h := ?_) | refine n_then (h := ?_) | refine l_pures1 (h := ?_) | (refine l_atc ?_; refine l_call (lkeyC_does) ?_) | (refine l_atc ?_; refine l_call (hg) ?_) | (refine l_atc ?_; refine l_call (ht) ?_) | refine l_guard_yes (h := ?_) | refine g_skip (h := ?_) | refine g_ret (h := ?_) | refine g_cond_f (h := ?_) | (refine g_spF (h := ?_); intro h)))
    refine r_ret ?_
    rw [ew]
    exact ⟨rfl, rfl⟩

theorem tickArg_does (P : TxP) (T : List Ent) (n : Int) (hn : n < 0) : Does Tryz.prog 14 [.pointer (some ⟨P.t, 0, none⟩), .int .i64 n] [Tx P T] (fun v H => v = .tuple #[.int .i64 0, .int .i64 1] ∧ H = [Tx P T]) := by
  have he := tErr_does P T
  refine does_of Tryz.func14 Tryz.ntmps14 rfl rfl rfl (fun w0 F0 => ?_)
  (repeat' (first | refine g_seq (h := ?_) | refine g_region (h := ?_) | refine l_nil (h := ?_) | refine n_then (h := ?_) | refine l_pures1 (h := ?_) | (refine l_atc ?_; refine l_call (he) ?_) | refine g_skip (h := ?_) | refine g_ret (h := ?_) | refine n_then_ret (h := ?_) | refine g_cond_f (h := ?_) | (refine g_spT (h := ?_); intro h)))
  refine r_ret ?_
  exact ⟨rfl, rfl⟩
theorem tickEnd_does (P : TxP) (T : List Ent) (now : Nat) (h : Clk T now) (hn : now ≤ 268435455) (n : Int) (h1 : 0 ≤ n) (h2 : 268435455 - (now : Int) < n) : Does Tryz.prog 14 [.pointer (some ⟨P.t, 0, none⟩), .int .i64 n] [Tx P T] (fun v H => v = .tuple #[.int .i64 0, .int .i64 12] ∧ H = [Tx P T]) := by
  have he := tErr_does P T
  have hc := clock_does P T now h hn
  have ew : IntKind.i64.wrap (268435455 - (now : Int)) = 268435455 - (now : Int) := wrapI64 (by omega)
  refine does_of Tryz.func14 Tryz.ntmps14 rfl rfl rfl (fun w0 F0 => ?_)
  (repeat' (first | refine g_seq (h := ?_) | refine g_region (h := ?_) | refine l_nil (h := ?_) | refine n_then (h := ?_) | refine l_pures1 (h := ?_) | (refine l_atc ?_; refine l_call (he) ?_) | (refine l_atc ?_; refine l_call (hc) ?_) | refine g_skip (h := ?_) | refine g_ret (h := ?_) | refine n_then_ret (h := ?_) | refine n_block_ret (h := ?_) | refine g_block (h := ?_) | refine g_cond_f (h := ?_) | (refine g_spT (h := ?_); intro h) | (refine g_spF (h := ?_); intro h)))
  refine r_ret ?_
  exact ⟨rfl, rfl⟩
theorem tick_does (P : TxP) (T : List Ent) (now m : Nat) (h : Clk T now) (room : P.room T) (hn : now + m ≤ 268435455) : Does Tryz.prog 14 [.pointer (some ⟨P.t, 0, none⟩), .int .i64 m] [Tx P T] (fun v H => v = .tuple #[.int .i64 (now + m : Nat), .int .i64 0] ∧ H = [Tx P (putE T kClk (putN (now + m) 4))]) := by
  have he := tErr_does P T
  have hc := clock_does P T now h (by omega)
  have hput := tPut_does P T kClk (putN (now + m) 4) kClk_lt (by rw [putN_length]; omega) room
  have hnp := Put_does (now + m) 4 (by omega) (by omega)
  have hnp2 : numPut (now + m) 4 = (putN (now + m) 4, 0) := by rw [numPut, if_neg (by omega), if_pos (by simp; omega)]; rfl
  rw [hnp2] at hnp
  have ew : IntKind.i64.wrap (268435455 - (now : Int)) = 268435455 - (now : Int) := wrapI64 (by omega)
  have ew2 : IntKind.i64.wrap ((now : Int) + (m : Int)) = ((now + m : Nat) : Int) := by rw [wrapI64 (by omega)]; omega
  have ew3 : IntKind.u64.wrap ((now + m : Nat) : Int) = ((now + m : Nat) : Int) := wrapU64 (by omega)
  refine does_of Tryz.func14 Tryz.ntmps14 rfl rfl rfl (fun w0 F0 => ?_)
  (repeat (first | refine g_seq (h := ?_) | refine g_region (h := ?_) | refine l_nil (h := ?_) | refine n_then (h := ?_) | refine l_pures1 (h := ?_) | (refine l_atc ?_; refine l_call (he) ?_) | refine g_skip (h := ?_) | refine g_cond_f (h := ?_)))
  (repeat' (first | refine g_seq (h := ?_) | refine g_region (h := ?_) | refine l_nil (h := ?_) | refine n_then (h := ?_) | refine l_pures1 (h := ?_) | (refine l_atc ?_; refine l_call (hc) ?_) | refine g_skip (h := ?_) | refine g_block (h := ?_) | refine n_block (h := ?_) | refine g_cond_f (h := ?_) | (refine g_spF (h := ?_); intro h)))
  rw [ew2, ew3]
  (repeat' (first | refine g_seq (h := ?_) | refine g_region (h := ?_) | refine l_nil (h := ?_) | refine n_then (h := ?_) | refine l_pures1 (h := ?_) | (refine l_atc ?_; refine l_call (lkeyC_does) ?_) | (refine l_atc ?_; refine l_call (hput) ?_) | (refine l_atc ?_; refine l_call (hnp) ?_) | refine g_skip (h := ?_) | refine g_ret (h := ?_) | refine g_cond_f (h := ?_)))
  refine r_ret ?_
  rw [ew2]
  exact ⟨rfl, rfl⟩

theorem examples16_does : Does Tryz.prog 12 [] [] (fun v H => v = .bool true ∧ H = []) := by
  have hr : ∀ t sb db, (TxP.new t sb db 640).room [] := fun t sb db => by show 0 + 2 * 0 + 25 < 640; omega
  have h0 : Clk [] 0 := .inl ⟨rfl, rfl⟩
  refine does_of Tryz.func12 Tryz.ntmps12 rfl rfl rfl (fun w0 F0 => ?_)
  (repeat (first | refine g_seq (h := ?_) | refine g_region (h := ?_) | refine l_nil (h := ?_) | refine n_then (h := ?_) | refine l_pures1 (h := ?_) | (refine l_atc ?_; refine l_call_ (made16_does) ?_; rintro _ _ _ ⟨t, db, sb, rfl, rfl⟩ he; cases he) | refine g_skip (h := ?_) | refine g_cond_f (h := ?_)))
  have hc : Does Tryz.prog 15 [.pointer (some ⟨t, 0, none⟩)] [Tx (TxP.new t sb db 640) []] (fun v H => v = .tuple #[.int .i64 0, .int .i64 0] ∧ H = [Tx (TxP.new t sb db 640) []]) := clock_does (TxP.new t sb db 640) [] 0 h0 (by omega)
  have h1 : Clk (putE [] kClk (putN (0 + 5) 4)) (0 + 5) := h0.put
  obtain ⟨T1, hT1⟩ : ∃ T1, T1 = putE [] kClk (putN (0 + 5) 4) := ⟨_, rfl⟩
  rw [← hT1] at h1
  have ht1 : Does Tryz.prog 14 [.pointer (some ⟨t, 0, none⟩), .int .i64 5] [Tx (TxP.new t sb db 640) []] (fun v H => v = .tuple #[.int .i64 5, .int .i64 0] ∧ H = [Tx (TxP.new t sb db 640) T1]) := by
    rw [hT1]
    exact tick_does (TxP.new t sb db 640) [] 0 5 h0 (hr _ _ _) (by omega)
  have ht2 : Does Tryz.prog 14 [.pointer (some ⟨t, 0, none⟩), .int .i64 268435455] [Tx (TxP.new t sb db 640) T1] (fun v H => v = .tuple #[.int .i64 0, .int .i64 12] ∧ H = [Tx (TxP.new t sb db 640) T1]) := tickEnd_does (TxP.new t sb db 640) T1 (0 + 5) h1 (by omega) 268435455 (by omega) (by omega)
  (repeat' (first | refine g_seq (h := ?_) | refine g_region (h := ?_) | refine l_nil (h := ?_) | refine n_then (h := ?_) | refine l_pures1 (h := ?_) | (refine l_atc ?_; refine l_call (hc) ?_) | (refine l_atc ?_; refine l_call (ht1) ?_) | (refine l_atc ?_; refine l_call (ht2) ?_) | refine l_guard_yes (h := ?_) | refine g_ret (h := ?_)))
  refine r_retk [] ?_
  exact ⟨rfl, rfl⟩

set_option maxHeartbeats 4000000 in
theorem LeaseClock_does (p : Option Addr) (ks : List Int) (cap : Nat) (o : Obj) (hk : ∀ z ∈ ks, (Lit.int .i64 z).wf = true) (hl : ks.length ≤ 9223372036854775807) :
    Does Tryz.prog 3 [.slice p ks.length cap] [ins p ks.length (ks.map encZ') o] (fun v H => v = .bool true ∧ H = [ins p ks.length (ks.map encZ') o]) := by
  refine does_of Tryz.func3 Tryz.ntmps3 rfl rfl rfl (fun w0 F0 => ?_)
  (repeat' (first | refine g_seq (h := ?_) | refine g_region (h := ?_) | refine l_nil (h := ?_) | refine n_then (h := ?_) | refine l_pures1 (h := ?_) | (refine l_atc ?_; refine l_call (examples16_does) ?_) | (refine l_atc ?_; refine l_call_ (made16_does) ?_; rintro _ _ _ ⟨t, db, sb, rfl, rfl⟩ he; cases he) | refine g_skip (h := ?_) | refine g_block (h := ?_) | refine g_cond_f (h := ?_)))
  (refine g_loop (fun y : Nat × Nat × List Ent => [(6, .int .i64 y.1), (5, .int .i64 y.2.1), (4, .pointer (some ⟨t, 0, none⟩)), (3, .bool true), (0, .slice p ks.length cap)]) (fun y => [Tx (TxP.new t sb db 640) y.2.2, ins p ks.length (ks.map encZ') o]) (fun y => Clk y.2.2 y.2.1 ∧ y.2.1 ≤ 268435455 ∧ y.1 ≤ ks.length ∧ y.1 ≤ 20) (fun y => ks.length - y.1) ((0, 0, [])) ?_ ?_ ?_ ?_; rotate_left; (repeat (first | refine ts_nil | (refine ts_cons rfl ?_ ?_; first | (with_reducible rfl) | rotate_left))); (first | (intro _ i; with_reducible refine i) | rotate_left); rotate_left; (try omega); rotate_right)
  · rintro ⟨j, now, T⟩ ⟨hc, hn, hj, hj20⟩
    dsimp only at hc hn hj hj20 ⊢
    by_cases hjl : j < ks.length ∧ j < 20
    · refine g_open (o := ins_opens (p := p) (m := ks.length) (by omega)) (h := ?_); (rintro ⟨gb, off, row, fr, T0⟩ ⟨rfl, rfl, v5, v6, v7⟩; dsimp only [List.cons_append, List.nil_append])
      have hgt : row[off + j * 1]? = some (.int .i64 (ks.getD j 0)) := ins_get v5 hjl.1 (by rw [List.getElem?_map, List.getD, List.getElem?_eq_getElem hjl.1]; rfl)
      have hw := wf_i64 (hk _ (getD_mem hjl.1 (z := 0)))
      obtain ⟨n, hn'⟩ : ∃ n, n = ks.getD j 0 := ⟨_, rfl⟩
      rw [← hn'] at hgt hw
      have room : (TxP.new t sb db 640).room T := by
        have := hc.len
        show 0 + 2 * T.length + 25 < 640
        omega
      have ew : IntKind.i64.wrap (268435455 - (now : Int)) = 268435455 - (now : Int) := wrapI64 (by omega)
      have hck : Does Tryz.prog 15 [.pointer (some ⟨t, 0, none⟩)] [Tx (TxP.new t sb db 640) T] (fun v H => v = .tuple #[.int .i64 now, .int .i64 0] ∧ H = [Tx (TxP.new t sb db 640) T]) := clock_does (TxP.new t sb db 640) T now hc hn
      by_cases h0 : n < 0
      · have ht : Does Tryz.prog 14 [.pointer (some ⟨t, 0, none⟩), .int .i64 n] [Tx (TxP.new t sb db 640) T] (fun v H => v = .tuple #[.int .i64 0, .int .i64 1] ∧ H = [Tx (TxP.new t sb db 640) T]) := tickArg_does (TxP.new t sb db 640) T n h0
        (repeat' (first | refine g_seq (h := ?_) | refine g_region (h := ?_) | refine l_nil (h := ?_) | refine n_then (h := ?_) | refine l_pures1 (h := ?_) | (refine l_atc ?_; refine l_call (ht) ?_) | (refine l_atc ?_; refine l_call (hck) ?_) | refine l_guard_yes (h := ?_) | refine l_guard_no (h := ?_) | refine l_guard_un (h := ?_) | refine l_load_p (h := ?_) | refine l_indexAddr (h := ?_) | refine g_skip (h := ?_) | refine g_block (h := ?_) | refine n_block (h := ?_) | refine g_cond_f (h := ?_) | (refine l_spT (h := ?_); intro h) | (refine l_spF (h := ?_); intro h) | (refine g_spT (h := ?_); intro h)))
        all_goals
          refine n_shut (ins_shuts v5 v6 v7) (h := ?_)
        (refine n_back ((j + 1, now, T)) ?_ ?_ ?_ ?_; rotate_left; rotate_left; (repeat (first | refine ts_nil | (refine ts_cons rfl ?_ ?_; first | (with_reducible rfl) | rotate_left))); (first | (intro _ i; with_reducible refine i) | rotate_left); (try omega); (try omega))
        · exact ⟨hc, hn, hjl.1, hjl.2⟩
        all_goals first
          | (dsimp only; omega)
          | (rw [wrapI64 (by omega)]; rfl)
          | (intro _ i; exact inv_keep parts_of i)
          | rfl
      · by_cases h1 : 268435455 - (now : Int) < n
        · have ht : Does Tryz.prog 14 [.pointer (some ⟨t, 0, none⟩), .int .i64 n] [Tx (TxP.new t sb db 640) T] (fun v H => v = .tuple #[.int .i64 0, .int .i64 12] ∧ H = [Tx (TxP.new t sb db 640) T]) := tickEnd_does (TxP.new t sb db 640) T now hc hn n (by omega) h1
          (repeat' (first | refine g_seq (h := ?_) | refine g_region (h := ?_) | refine l_nil (h := ?_) | refine n_then (h := ?_) | refine l_pures1 (h := ?_) | (refine l_atc ?_; refine l_call (ht) ?_) | (refine l_atc ?_; refine l_call (hck) ?_) | refine l_guard_yes (h := ?_) | refine l_guard_no (h := ?_) | refine l_guard_un (h := ?_) | refine l_load_p (h := ?_) | refine l_indexAddr (h := ?_) | refine g_skip (h := ?_) | refine g_block (h := ?_) | refine n_block (h := ?_) | refine g_cond_f (h := ?_) | (refine l_spT (h := ?_); intro h) | (refine l_spF (h := ?_); intro h) | (refine g_spT (h := ?_); intro h) | (refine g_spF (h := ?_); intro h)))
          all_goals
            refine n_shut (ins_shuts v5 v6 v7) (h := ?_)
          (refine n_back ((j + 1, now, T)) ?_ ?_ ?_ ?_; rotate_left; rotate_left; (repeat (first | refine ts_nil | (refine ts_cons rfl ?_ ?_; first | (with_reducible rfl) | rotate_left))); (first | (intro _ i; with_reducible refine i) | rotate_left); (try omega); (try omega))
          · exact ⟨hc, hn, hjl.1, hjl.2⟩
          all_goals first
            | (dsimp only; omega)
            | (rw [wrapI64 (by omega)]; rfl)
            | (intro _ i; exact inv_keep parts_of i)
            | rfl
        · obtain ⟨m, rfl⟩ : ∃ m : Nat, n = m := ⟨n.toNat, by omega⟩
          obtain ⟨T1, hT1⟩ : ∃ T1, T1 = putE T kClk (putN (now + m) 4) := ⟨_, rfl⟩
          have hc1 : Clk T1 (now + m) := by rw [hT1]; exact hc.put
          have ht : Does Tryz.prog 14 [.pointer (some ⟨t, 0, none⟩), .int .i64 m] [Tx (TxP.new t sb db 640) T] (fun v H => v = .tuple #[.int .i64 (now + m : Nat), .int .i64 0] ∧ H = [Tx (TxP.new t sb db 640) T1]) := by
            rw [hT1]
            exact tick_does (TxP.new t sb db 640) T now m hc room (by omega)
          have hck1 : Does Tryz.prog 15 [.pointer (some ⟨t, 0, none⟩)] [Tx (TxP.new t sb db 640) T1] (fun v H => v = .tuple #[.int .i64 (now + m : Nat), .int .i64 0] ∧ H = [Tx (TxP.new t sb db 640) T1]) := clock_does (TxP.new t sb db 640) T1 (now + m) hc1 (by omega)
          have ew2 : IntKind.i64.wrap ((now : Int) + (m : Int)) = ((now + m : Nat) : Int) := by rw [wrapI64 (by omega)]; omega
          (repeat' (first | refine g_seq (h := ?_) | refine g_region (h := ?_) | refine l_nil (h := ?_) | refine n_then (h := ?_) | refine l_pures1 (h := ?_) | (refine l_atc ?_; refine l_call (ht) ?_) | refine l_guard_yes (h := ?_) | refine l_load_p (h := ?_) | refine l_indexAddr (h := ?_) | refine g_skip (h := ?_) | refine g_block (h := ?_) | (refine l_spT (h := ?_); intro h) | (refine g_spT (h := ?_); intro h)))
          rw [ew2]
          (repeat' (first | refine g_seq (h := ?_) | refine g_region (h := ?_) | refine l_nil (h := ?_) | refine n_then (h := ?_) | refine l_pures1 (h := ?_) | (refine l_atc ?_; refine l_call (hck1) ?_) | refine l_guard_yes (h := ?_) | refine l_guard_no (h := ?_) | refine l_load_p (h := ?_) | refine l_indexAddr (h := ?_) | refine g_skip (h := ?_) | refine n_block (h := ?_) | refine g_cond_f (h := ?_) | (refine l_spT (h := ?_); intro h) | (refine l_spF (h := ?_); intro h)))
          all_goals
            refine n_shut (ins_shuts v5 v6 v7) (h := ?_)
          (refine n_back ((j + 1, now + m, T1)) ?_ ?_ ?_ ?_; rotate_left; rotate_left; (repeat (first | refine ts_nil | (refine ts_cons rfl ?_ ?_; first | (with_reducible rfl) | rotate_left))); (first | (intro _ i; with_reducible refine i) | rotate_left); (try omega); (try omega))
          · exact ⟨hc1, by dsimp only; omega, hjl.1, hjl.2⟩
          all_goals first
            | (dsimp only; omega)
            | (rw [wrapI64 (by omega)]; rfl)
            | (intro _ i; exact inv_keep parts_of i)
            | rfl
    · (repeat' (first | refine g_seq (h := ?_) | refine g_region (h := ?_) | refine l_nil (h := ?_) | refine n_then (h := ?_) | refine l_pures1 (h := ?_) | refine l_guard_yes (h := ?_) | refine l_guard_no (h := ?_) | refine g_ret (h := ?_) | refine g_exit (h := ?_) | refine n_then_exit (h := ?_) | refine n_block_hit (h := ?_) | refine g_cond_f (h := ?_) | (refine l_sp (h1 := ?_) (h0 := ?_) <;> intro h) | (refine g_spF (h := ?_); intro h)))
      all_goals
        refine r_retk [ins p ks.length (ks.map encZ') o] ?_
      all_goals exact ⟨rfl, rfl⟩
  all_goals first
    | exact ⟨.inl ⟨rfl, rfl⟩, Nat.zero_le _, Nat.zero_le _, Nat.zero_le _⟩
    | rfl
    | (intro _ i; exact inv_keep parts_of i)
end Go.Proofs.YtbdgnjlbmhnipaaGreat
/- The framework, part 11: laws that take slices: what a row asks of them. -/
set_option linter.unusedVariables false
set_option linter.unusedSimpArgs false
namespace Go.Proofs.YtbdgnjlbmhnipaaGreat.SL
open Go.RowKit Go.WideElems

/-- Wherever A holds its blocks F are as in W. -/
def Keeps (A : SProp) (W : World) (F : Nat → Prop) : Prop := ∀ h' F', A.holds h' F' → ∀ b, F b → h'[b]? = W.heap[b]?
theorem row_ofA {P : Program} {f : FuncId} {args : List Value} {A : SProp} {W : World} {F : Nat → Prop} (d : Does P f args [A] (fun v H => v = .bool true ∧ H = [A])) (hx : Keeps A W F) (s : A.holds W.heap F) :
    Calls P f args.toArray W fun e W' => e = .returned (.bool true) ∧ Go.RowKit.Below W.heap.size W W' := by
  refine (d W F ⟨F, fun _ => False, s, fun _ h => h, fun _ _ h => h, fun b => ⟨.inl, fun o => o.elim id False.elim⟩⟩).mono ?_
  rintro e W' ⟨v, H', rfl, ⟨rfl, rfl⟩, i⟩
  obtain ⟨⟨G, ⟨F1, _, a, _⟩, _⟩, _⟩ := id i
  refine ⟨rfl, i.os, i.tape, i.output, i.size, fun k hk => ?_⟩
  by_cases q : F k
  · exact hx _ _ a k q
  · exact i.frame k hk q
theorem keeps_ins {p : Option Addr} {m : Nat} {xs : List Value} {o : Obj} {W : World} {F : Nat → Prop} (hm : 0 < m) (s : (ins p m xs o).holds W.heap F) : Keeps (ins p m xs o) W F := by
  rintro h' F' ⟨_, z'⟩ b hb
  obtain ⟨_, z⟩ := s
  rcases z with ⟨e, _⟩ | ⟨g, off, row, fr, T, q1, q2, _, h3, e, f⟩
  · omega
  · rcases z' with ⟨e', _⟩ | ⟨g', off', row', fr', T', q1', q2', _, _, e', f'⟩
    · omega
    · rw [q1] at q1'
      cases q1'
      rw [(f b).1 hb, e, e']

/-- Cells that are there are an input row. -/
theorem cells_ins {W : World} {a : Addr} {m : Nat} {xs : List Value} (hl : xs.length = m) (h : ∀ i, i < m → W.cell? (a.add i) = xs[i]?) : ∃ o F, (ins (some a) m xs o).holds W.heap F ∧ Keeps (ins (some a) m xs o) W F ∧ (m = 0 → ∀ x, ¬ F x) := by
  by_cases hm : m = 0
  · exact ⟨.map #[] 0, fun _ => False, ⟨hl, .inl ⟨hm, fun _ h => h⟩⟩, fun _ _ _ _ h => h.elim, fun _ _ h => h⟩
  · obtain ⟨b, off, spot⟩ := a
    have h0 := h 0 (by omega)
    have hspot : spot = none := by
      rw [List.getElem?_eq_getElem (by omega)] at h0
      simpa [Addr.add] using World.cell?_spot h0
    subst hspot
    have h1 : ∀ i, i < m → W.cell? ⟨b, off + i, none⟩ = xs[i]? := fun i hi => by rw [← Go.WideShapes.add_plain]; exact h i hi
    have h2 := h1 0 (by omega)
    rw [List.getElem?_eq_getElem (by omega)] at h2
    obtain ⟨c, T, fr, hb⟩ : ∃ c T fr, W.heap[b]? = some (.cells c T fr) := by
      unfold World.cell? at h2
      split at h2
      · rename_i hb; exact ⟨_, _, _, hb⟩
      · cases h2
    have h3 : ∀ i, i < m → c[off + i]? = xs[i]? := fun i hi => by rw [← h1 i hi, cell_at hb]
    have hlen : off + m ≤ c.toList.length := by
      have := h3 (m - 1) (by omega)
      rw [List.getElem?_eq_getElem (by omega)] at this
      have := (Array.getElem?_eq_some_iff.1 this).1
      simp; omega
    have hs : (ins (some ⟨b, off, none⟩) m xs (.cells c T fr)).holds W.heap (fun x => x = b) := by
     refine ⟨hl, .inr ⟨b, off, c.toList, fr, T, rfl, by simp, ?_, hlen, hb, fun _ => Iff.rfl⟩⟩
     apply List.ext_getElem?
     intro i
     by_cases hi : i < m
     · rw [List.getElem?_take_of_lt hi, List.getElem?_drop, Array.getElem?_toList, h3 i hi]
     · rw [List.getElem?_eq_none (by simp; omega), List.getElem?_eq_none (by omega)]
    exact ⟨_, _, hs, keeps_ins (by omega) hs, fun q => absurd q hm⟩
theorem nil_ins {W : World} : (ins none 0 [] (.map #[] 0)).holds W.heap (fun _ => False) ∧ Keeps (ins none 0 [] (.map #[] 0)) W (fun _ => False) := ⟨⟨rfl, .inl ⟨rfl, fun _ h => h⟩⟩, fun _ _ _ _ h => h.elim⟩

/-- Two input rows, in one block or in two: what holds them both, and each with what is left. -/
theorem ins_two {W : World} {p1 p2 : Option Addr} {m1 m2 : Nat} {xs ys : List Value} {o1 o2 : Obj} {F1 F2 : Nat → Prop} (s1 : (ins p1 m1 xs o1).holds W.heap F1) (k1 : Keeps (ins p1 m1 xs o1) W F1) (z1 : m1 = 0 → ∀ x, ¬ F1 x) (s2 : (ins p2 m2 ys o2).holds W.heap F2) (k2 : Keeps (ins p2 m2 ys o2) W F2) (z2 : m2 = 0 → ∀ x, ¬ F2 x) :
    ∃ (A R1 R2 : SProp) (F : Nat → Prop), A.holds W.heap F ∧ Keeps A W F ∧ Opens A (fun _ : Unit => True) (fun _ => [ins p1 m1 xs o1, R1]) ∧ Shuts [ins p1 m1 xs o1, R1] A ∧ Opens A (fun _ : Unit => True) (fun _ => [ins p2 m2 ys o2, R2]) ∧ Shuts [ins p2 m2 ys o2, R2] A := by
  by_cases hd : ∃ x, F1 x ∧ F2 x
  · obtain ⟨x, h1, h2⟩ := hd
    have key : ∀ {p p' : Option Addr} {m m' : Nat} {xs ys : List Value} {o o' : Obj} {G G' : Nat → Prop}, (ins p m xs o).holds W.heap G → (ins p' m' ys o').holds W.heap G' → G x → G' x → 0 < m → ∀ h F, (ins p m xs o).holds h F → (ins p' m' ys o').holds h F := by
      intro p p' m m' xs ys o o' G G' ⟨_, z⟩ ⟨l', z'⟩ hx hx' hm h F ⟨_, y⟩
      rcases z with ⟨_, f⟩ | ⟨g, off, row, fr, T, q1, q2, q3, q4, e, f⟩
      · exact absurd hx (f x)
      · rcases z' with ⟨_, f'⟩ | ⟨g', off', row', fr', T', q1', q2', q3', q4', e', f'⟩
        · exact absurd hx' (f' x)
        · obtain rfl := (f x).1 hx
          obtain rfl := (f' x).1 hx'
          rw [e] at e'
          cases e'
          rcases y with ⟨e0, _⟩ | ⟨g2, off2, row2, fr2, T2, y1, y2, y3, y4, y5, y6⟩
          · omega
          · rw [q1] at y1
            cases y1
            exact ⟨l', .inr ⟨_, off', row', fr', T', q1', q2', q3', q4', y5, y6⟩⟩
    have emp : ∀ {K : SProp} {h : Array Obj} {F : Nat → Prop}, K.holds h F ↔ sep [K, fact True] h F := by
      intro K h F
      refine ⟨fun a => ⟨F, fun _ => False, a, ⟨fun _ => False, fun _ => False, ⟨trivial, fun _ h => h⟩, fun _ h => h, fun _ _ h => h, fun b => ⟨.inl, fun o => o.elim id id⟩⟩, fun _ _ h => h, fun b => ⟨.inl, fun o => o.elim id False.elim⟩⟩, ?_⟩
      rintro ⟨G1, G2, a, ⟨G3, G4, ⟨_, e⟩, f, _, u2⟩, d, u⟩
      have : F = G1 := by
        funext b
        apply propext
        rw [u b, u2 b]
        exact ⟨fun o => o.elim id (fun o => o.elim (fun q => (e b q).elim) (fun q => (f b q).elim)), .inl⟩
      rw [this]; exact a
    have hm1 : 0 < m1 := Nat.pos_of_ne_zero fun q => z1 q x h1
    have hm2 : 0 < m2 := Nat.pos_of_ne_zero fun q => z2 q x h2
    exact ⟨ins p1 m1 xs o1, fact True, fact True, F1, s1, k1, fun h F a => ⟨(), trivial, emp.1 a⟩, fun h F a => emp.2 a,
      fun h F a => ⟨(), trivial, emp.1 (key s1 s2 h1 h2 hm1 h F a)⟩, fun h F a => key s2 s1 h2 h1 hm2 h F (emp.2 a)⟩
  · refine ⟨⟨fun h F => sep [ins p1 m1 xs o1, ins p2 m2 ys o2] h F, sep_loc, sep_bnd⟩, ins p2 m2 ys o2, ins p1 m1 xs o1, fun x => F1 x ∨ F2 x, ?_, ?_, fun h F a => ⟨(), trivial, a⟩, fun h F a => a, fun h F a => ⟨(), trivial, ?_⟩, fun h F a => ?_⟩
    · exact ⟨F1, F2, s1, ⟨F2, fun _ => False, s2, fun _ h => h, fun _ _ h => h, fun b => ⟨.inl, fun o => o.elim id False.elim⟩⟩, fun x a b => hd ⟨x, a, b⟩, fun _ => Iff.rfl⟩
    · rintro h' F' ⟨G1, G2, a, ⟨G3, G4, b, _⟩, _⟩ x hx
      exact hx.elim (k1 _ _ a x) (k2 _ _ b x)
    · exact (Parts.cons (Take.there Take.here) (Parts.cons Take.here Parts.nil)).sep a
    · exact (Parts.cons (Take.there Take.here) (Parts.cons Take.here Parts.nil)).sep a
end Go.Proofs.YtbdgnjlbmhnipaaGreat.SL
/- Rows over slices of strings and of whole numbers. -/
set_option linter.unusedVariables false
set_option linter.unusedSimpArgs false
namespace Go.Proofs.YtbdgnjlbmhnipaaGreat
open Go.Proofs.YtbdgnjlbmhnipaaGreat.SL Go.ChangeShapes

section
variable {H : Type} {enc : TypeId × Value → H} {P : Program} {W : World}
theorem open_Zs {t e : TypeId} (ht : P.underlying t = some (.slice e)) (he : P.underlying e = some (.int .i64)) (hc : P.cellsOf e = 1) {v : Value} (hv : ∃ a0 len cap, v = .slice a0 len cap) {d : DataW H} {ps : List MemPlace} (h : DataW.Trod enc P W 0 (fun _ => true) true t v d ps) :
    ∃ (a0 : Option Addr) (cap : Nat) (zs : List Int) (o : Obj) (F : Nat → Prop), v = .slice a0 zs.length cap ∧ (ins a0 zs.length (zs.map encZ') o).holds W.heap F ∧ Keeps (ins a0 zs.length (zs.map encZ') o) W F ∧ (zs.length = 0 → ∀ x, ¬ F x) ∧ (∀ z ∈ zs, (Lit.int .i64 z).wf = true) ∧ zs.length ≤ 9223372036854775807 := by
  obtain ⟨a0, len, cap, rfl⟩ := hv
  obtain ⟨fuel, hf⟩ := h
  rcases open_ints ht he hc hf with ⟨hcs, _⟩ | ⟨a, len', cap', ss, hcs, _, hle, hmax, hlen, _, hcell, hw⟩
  · simp [Value.cells] at hcs
    obtain ⟨rfl, rfl, rfl⟩ := hcs
    exact ⟨none, 0, [], .map #[] 0, _, rfl, nil_ins.1, nil_ins.2, fun _ _ h => h, by simp, by simp⟩
  · simp [Value.cells] at hcs
    obtain ⟨rfl, rfl, rfl⟩ := hcs
    simp only [if_true] at hlen
    have hl : (ss.take len).length = len := by rw [List.length_take]; omega
    have hm' : ((ss.take len).map encZ').length = (ss.take len).length := by simp
    obtain ⟨o, F, s1, s2, s3⟩ := cells_ins (W := W) (a := a) hm' (fun i hi => by
      rw [hcell i (by omega), List.getElem?_map, List.getElem?_take_of_lt (by omega), List.getD, List.getElem?_eq_getElem (by omega)]; rfl)
    simp only [maxLen] at hmax
    exact ⟨some a, cap, ss.take len, o, F, by rw [hl], s1, s2, s3, fun z hz => hw z (List.mem_of_mem_take hz), by omega⟩
end
end Go.Proofs.YtbdgnjlbmhnipaaGreat

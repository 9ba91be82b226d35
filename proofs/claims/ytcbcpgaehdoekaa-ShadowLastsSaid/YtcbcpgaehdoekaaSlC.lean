/- The framework, part 3: an operation that only computes, as a function of the slots, and runs of such operations. -/
import Derived.Test.YtcbcpgaehdoekaaSlB
set_option linter.unusedVariables false
set_option linter.unusedSimpArgs false
namespace Go.Proofs.Ytcbcpgaehdoekaa.SL

def nth {α : Type} : List α → Nat → Option α
  | [], _ => none
  | x :: _, 0 => some x
  | _ :: l, i + 1 => nth l i
theorem nth_eq {α : Type} : ∀ {l : List α} {i : Nat}, nth l i = l[i]?
  | [], _ => by simp [nth]
  | _ :: _, 0 => by simp [nth]
  | _ :: l, i + 1 => by simp [nth, nth_eq]

/-- Some cells of a list, out of its middle. -/
def cutL : List Value → Nat → Nat → Option (List Value)
  | _, 0, 0 => some []
  | [], 0, _ + 1 => none
  | x :: l, 0, m + 1 => match cutL l 0 m with
    | some r => some (x :: r)
    | none => none
  | [], _ + 1, _ => none
  | _ :: l, i + 1, m => cutL l i m
theorem cutL_spec : ∀ {l : List Value} {i m : Nat} {r : List Value}, cutL l i m = some r → r = (l.drop i).take m ∧ i + m ≤ l.length
  | _, 0, 0, r, e => by simp [cutL] at e; subst e; simp
  | [], 0, m + 1, r, e => by simp [cutL] at e
  | x :: l, 0, m + 1, r, e => by
    simp only [cutL] at e
    cases h : cutL l 0 m with
    | none => rw [h] at e; cases e
    | some q =>
      rw [h] at e
      simp only [Option.some.injEq] at e
      subst e
      obtain ⟨rfl, hl⟩ := cutL_spec h
      simp only [List.drop_zero, List.take_succ_cons, List.length_cons, true_and]
      omega
  | [], i + 1, m, r, e => by simp [cutL] at e
  | x :: l, i + 1, m, r, e => by
    simp only [cutL] at e
    obtain ⟨rfl, hl⟩ := cutL_spec e
    simp only [List.drop_succ_cons, List.length_cons, true_and]
    omega

/-- Some cells of a list, others laid over them. -/
def layL : List Value → Nat → List Value → Option (List Value)
  | l, 0, [] => some l
  | [], 0, _ :: _ => none
  | _ :: l, 0, v :: vs => match layL l 0 vs with
    | some r => some (v :: r)
    | none => none
  | [], _ + 1, _ => none
  | x :: l, i + 1, vs => match layL l i vs with
    | some r => some (x :: r)
    | none => none
theorem layL_spec : ∀ {l : List Value} {i : Nat} {vs r : List Value}, layL l i vs = some r → r = l.take i ++ vs ++ l.drop (i + vs.length) ∧ i + vs.length ≤ l.length
  | l, 0, [], r, e => by simp [layL] at e; subst e; simp
  | [], 0, _ :: _, r, e => by simp [layL] at e
  | x :: l, 0, v :: vs, r, e => by
    simp only [layL] at e
    cases h : layL l 0 vs with
    | none => rw [h] at e; cases e
    | some q =>
      rw [h] at e
      simp only [Option.some.injEq] at e
      subst e
      obtain ⟨rfl, hl⟩ := layL_spec h
      refine ⟨by simp, by simp only [List.length_cons]; omega⟩
  | [], i + 1, vs, r, e => by simp [layL] at e
  | x :: l, i + 1, vs, r, e => by
    simp only [layL] at e
    cases h : layL l i vs with
    | none => rw [h] at e; cases e
    | some q =>
      rw [h] at e
      simp only [Option.some.injEq] at e
      subst e
      obtain ⟨rfl, hl⟩ := layL_spec h
      refine ⟨by simp [show i + 1 + vs.length = (i + vs.length) + 1 by omega], by simp only [List.length_cons]; omega⟩

def fieldOf (E : Env) (t f : Nat) : Option Field :=
  match look E.ty t with
  | some (.struct fs) => nth fs.toList f
  | _ => none
theorem fieldOf_spec {P : Program} {E : Env} (k : EnvOk P E) {t f : Nat} {x : Field} (h : fieldOf E t f = some x) :
    ∃ fs, P.underlying t = some (.struct fs) ∧ fs[f]? = some x := by
  unfold fieldOf at h; split at h
  · rename_i fs he
    exact ⟨fs, k.under he, by rw [nth_eq] at h; simpa using h⟩
  · cases h

def isAggTy : TypeDesc → Bool
  | .struct _ => true
  | .array _ _ => true
  | _ => false

theorem run_isAgg {P : Program} {E : Env} (k : EnvOk P E) {t : Nat} {d : TypeDesc} (h : look E.ty t = some d) (w : World) : (isAgg t).run P w = .ok (isAggTy d) w := by
  unfold isAgg
  simp only [run_underlying (k.under h), Sem.run_bind, Result.andThen]
  cases d <;> rfl

theorem run_size {P : Program} {E : Env} (k : EnvOk P E) {t : Nat} {z : Value} {s b : Nat} (h : look E.inf t = some (z, s, b)) (w : World) : (sizeOf t).run P w = .ok s w := by
  obtain ⟨i, h1, _, h3, _⟩ := k.info h
  simp [sizeOf, typeInfo, program, Sem.run, h1, h3]
theorem run_zero {P : Program} {E : Env} (k : EnvOk P E) {t : Nat} {z : Value} {s b : Nat} (h : look E.inf t = some (z, s, b)) (w : World) : (zeroValue t).run P w = .ok z w := by
  obtain ⟨i, h1, h2, _, _⟩ := k.info h
  simp [zeroValue, typeInfo, program, Sem.run, h1, h2]
theorem run_tinfo {P : Program} {E : Env} (k : EnvOk P E) {t : Nat} {z : Value} {s b : Nat} (h : look E.inf t = some (z, s, b)) (w : World) :
    ∃ i, (typeInfo t).run P w = .ok i w ∧ i.zero = some z ∧ i.size = s ∧ i.bytes = b := by
  obtain ⟨i, h1, h2, h3, h4⟩ := k.info h
  exact ⟨i, by simp [typeInfo, program, Sem.run, h1], h2, h3, h4⟩

/-- A part of a struct's value. -/
def partV (E : Env) (t : Nat) (cs : List Value) (off : Nat) : Option Value :=
  match look E.ty t with
  | none => none
  | some d => bif isAggTy d then
      (match look E.inf t with
      | some (_, s, _) => (match cutL cs off s with
        | some r => some (.agg r.toArray)
        | none => none)
      | none => none)
    else nth cs off
theorem partV_sound {P : Program} {E : Env} (k : EnvOk P E) {t off : Nat} {cs : Array Value} {v : Value} (h : partV E t cs.toList off = some v) (w : World) :
    (part t cs off).run P w = .ok v w := by
  unfold partV at h
  cases hd : look E.ty t with
  | none => rw [hd] at h; cases h
  | some d =>
    rw [hd] at h
    simp only at h
    unfold part
    simp only [Sem.run_bind, run_isAgg k hd, Result.andThen]
    cases ha : isAggTy d with
    | true =>
      rw [ha] at h
      simp only [cond_true] at h
      cases hi : look E.inf t with
      | none => rw [hi] at h; cases h
      | some p =>
        obtain ⟨z, s, b⟩ := p
        rw [hi] at h
        simp only at h
        cases hc : cutL cs.toList off s with
        | none => rw [hc] at h; cases h
        | some r =>
          rw [hc] at h
          simp only [Option.some.injEq] at h
          subst h
          obtain ⟨rfl, hl⟩ := cutL_spec hc
          simp only [if_true, Sem.run_bind, run_size k hi, Result.andThen, Sem.run_pure]
          congr 2
          apply Array.ext'
          simp [List.take_drop]
          
    | false =>
      rw [ha] at h
      simp only [cond_false] at h
      rw [nth_eq] at h
      have : cs[off]? = some v := by simpa using h
      simp [this]

def convV (E : Env) (s d : Nat) (x : Value) : Option Value :=
  match x with
  | .int _ m => (match look E.ty s with
    | none => none
    | some _ => (match look E.ty d with
      | some (.int k) => some (.int k (k.wrap m))
      | _ => none))
  | .string b => (match look E.ty s with
    | some .string => (match look E.ty d with
      | some .string => some (.string b)
      | _ => none)
    | _ => none)
  | _ => none
theorem convV_sound {P : Program} {E : Env} (k : EnvOk P E) {s d : Nat} {x v : Value} (h : convV E s d x = some v) (w : World) : (convert s d x).run P w = .ok v w := by
  unfold convV at h
  split at h
  · split at h
    · cases h
    · rename_i ds hs
      split at h
      · rename_i kk hd
        simp only [Option.some.injEq] at h
        subst h
        simp [convert, run_underlying (k.under hs), run_underlying (k.under hd), Conv.intToInt]
      · cases h
  · split at h
    · rename_i hs
      split at h
      · rename_i hd
        simp only [Option.some.injEq] at h
        subst h
        simp [convert, run_underlying (k.under hs), run_underlying (k.under hd)]
      · cases h
    · cases h
  · cases h

def unV (op : UnOp) (x : Value) : Option Value :=
  match op, x with
  | .neg, .int k m => some (.int k (k.wrap (0 - m)))
  | .not, .bool b => some (.bool (!b))
  | .xor, .int k m => some (.int k (bits .xor k (if k.signed then -1 else k.max) m))
  | _, _ => none
theorem unV_sound {P : Program} {op : UnOp} {x v : Value} (h : unV op x = some v) (w : World) : (Op.unary op x).run P w = .ok v w := by
  unfold unV at h
  split at h
  · simp only [Option.some.injEq] at h; subst h; simp [Op.unary, Op.intArith]
  · simp only [Option.some.injEq] at h; subst h; simp [Op.unary]
  · simp only [Option.some.injEq] at h; subst h; simp [Op.unary, intBits_xor]
  · cases h

def lenV (E : Env) (t : Nat) (x : Value) : Option Value :=
  match x with
  | .string ⟨⟨l⟩⟩ => (match look E.ty t with | some .string => some (.int .i64 l.length) | _ => none)
  | .slice _ m _ => (match look E.ty t with | some (.slice _) => some (.int .i64 m) | _ => none)
  | .map none => (match look E.ty t with | some (.map _ _) => some (.int .i64 0) | _ => none)
  | _ => none
theorem lenV_sound {P : Program} {E : Env} (k : EnvOk P E) {t : Nat} {x v : Value} (h : lenV E t x = some v) (ty : TypeId) (w : World) : (Builtin.len_ #[t] ty #[x]).run P w = .ok v w := by
  unfold lenV at h
  split at h
  · rename_i l
    split at h
    · rename_i he
      simp only [Option.some.injEq] at h; subst h
      have e : (ByteArray.mk ⟨l⟩).size = l.length := rfl
      simp only [Builtin.len_, List.getElem?_toArray, List.getElem?_cons_zero, Sem.run_bind, run_underlying (k.under he), Result.andThen, Sem.run_pure, goInt, e]
    · cases h
  · split at h
    · rename_i he
      simp only [Option.some.injEq] at h; subst h
      simp [Builtin.len_, run_underlying (k.under he), goInt]
    · cases h
  · split at h
    · rename_i he
      simp only [Option.some.injEq] at h; subst h
      simp [Builtin.len_, run_underlying (k.under he), goInt]
    · cases h
  · cases h
def capV (E : Env) (t : Nat) (x : Value) : Option Value :=
  match x with
  | .slice _ _ m => (match look E.ty t with | some (.slice _) => some (.int .i64 m) | _ => none)
  | _ => none
theorem capV_sound {P : Program} {E : Env} (k : EnvOk P E) {t : Nat} {x v : Value} (h : capV E t x = some v) (ty : TypeId) (w : World) : (Builtin.cap_ #[t] ty #[x]).run P w = .ok v w := by
  unfold capV at h
  split at h
  · split at h
    · rename_i he
      simp only [Option.some.injEq] at h; subst h
      simp [Builtin.cap_, run_underlying (k.under he), goInt]
    · cases h
  · cases h

/-- The least, the greatest of two. -/
def mnI (x y : Int) : Int := if y < x then y else x
def mxI (x y : Int) : Int := if y > x then y else x
def minV (mx : Bool) (x y : Value) : Option Value :=
  match x, y with
  | .int k a, .int _ b => some (.int k (bif mx then mxI a b else mnI a b))
  | _, _ => none
theorem minV_sound {P : Program} {x y v : Value} (h : minV false x y = some v) (w : World) : (Builtin.min2 x y).run P w = .ok v w := by
  unfold minV at h; split at h
  · simp only [Option.some.injEq] at h; subst h; simp [Builtin.min2, mnI]
  · cases h
theorem maxV_sound {P : Program} {x y v : Value} (h : minV true x y = some v) (w : World) : (Builtin.max2 x y).run P w = .ok v w := by
  unfold minV at h; split at h
  · simp only [Option.some.injEq] at h; subst h; simp [Builtin.max2, mxI]
  · cases h

def builtinV (E : Env) (b : Builtin) (ts : List Nat) (xs : List Value) : Option Value :=
  match b, ts, xs with
  | .len, [t], [x] => lenV E t x
  | .cap, [t], [x] => capV E t x
  | .min, _, [x, y] => minV false x y
  | .max, _, [x, y] => minV true x y
  | _, _, _ => none

def fieldAddrV (E : Env) (s : Nat) (x : Value) (f : Nat) : Option Value :=
  match x with
  | .pointer (some ⟨b, off, none⟩) => (match fieldOf E s f with
    | some ⟨_, ft, o, _, _, _, _⟩ => (match look E.inf ft with
      | some (_, _ + 1, _) => some (.pointer (some ⟨b, off + o, none⟩))
      | _ => none)
    | none => none)
  | _ => none
theorem fieldAddrV_sound {P : Program} {E : Env} (k : EnvOk P E) {s f : Nat} {x v : Value} (h : fieldAddrV E s x f = some v) (w : World) : (Instr.fieldAt s x f).run P w = .ok v w := by
  unfold fieldAddrV at h
  split at h
  · split at h
    · rename_i b off _ _ ft o _ _ _ _ hf
      split at h
      · rename_i z s' by' hi
        simp only [Option.some.injEq] at h; subst h
        obtain ⟨fs, hu, hx⟩ := fieldOf_spec k hf
        simp [Instr.fieldAt, run_underlying hu, hx, Instr.sureAddr, fieldPlace, run_size k hi]
        by_cases h0 : o = 0 <;> simp [Addr.add, h0]
      · cases h
    · cases h
  · cases h

/-- What may be asked for its inside. -/
def checkedV (x : Value) : Option Value :=
  match x with
  | .pointer (some _) => some x
  | .iface _ _ => some x
  | .func (.func _) _ _ => some x
  | .func (.yield _) _ _ => some x
  | _ => none

/-- A struct's value out of parts. -/
def fillV (E : Env) (t : Nat) (tm : List (Nat × Value)) : List (Nat × Operand) → List Value → Option (List Value)
  | [], cs => some cs
  | (i, x) :: l, cs => match fieldOf E t i with
    | none => none
    | some ⟨_, ft, o, _, _, _, _⟩ => match look E.inf ft with
      | none => none
      | some (_, s, _) => match ev tm x with
        | none => none
        | some v => bif Nat.beq v.cells.size s then (match layL cs o v.cells.toList with
            | none => none
            | some r => fillV E t tm l r) else none

end Go.Proofs.Ytcbcpgaehdoekaa.SL

/- The framework, part 4: structs out of parts; runs of operations that only compute. -/
import Derived.Test.YtcbcpgaehdoekaaSlC
set_option linter.unusedVariables false
set_option linter.unusedSimpArgs false
namespace Go.Proofs.Ytcbcpgaehdoekaa.SL

theorem foldl_lay (off : Nat) : ∀ (l : List Value) (k : Nat) (cs : Array Value), off + k + l.length ≤ cs.size →
    ((l.zipIdx k).foldl (fun cs (c, j) => cs.setIfInBounds (off + j) c) cs).toList = cs.toList.take (off + k) ++ l ++ cs.toList.drop (off + k + l.length)
  | [], k, cs, _ => by simp
  | x :: l, k, cs, h => by
    simp only [List.length_cons] at h
    rw [List.zipIdx_cons, List.foldl_cons, foldl_lay off l (k + 1) _ (by simp; omega)]
    simp only [Array.toList_setIfInBounds, List.length_cons]
    rw [List.drop_set_of_lt (by omega), show off + (k + 1) + l.length = off + k + (l.length + 1) by omega, show off + (k + 1) = off + k + 1 by omega]
    rw [List.take_set, List.take_succ_eq_append_getElem (by simp; omega), List.set_append_right _ _ (by simp; omega)]
    simp [List.length_take, show min (off + k) cs.size = off + k by omega]

theorem fold_lay {cs vs : Array Value} {off : Nat} {r : List Value} (h : layL cs.toList off vs.toList = some r) :
    ¬ off + vs.size > cs.size ∧ vs.zipIdx.foldl (fun cs (c, j) => cs.setIfInBounds (off + j) c) cs = r.toArray := by
  obtain ⟨rfl, hl⟩ := layL_spec h
  simp only [Array.length_toList] at hl
  refine ⟨by omega, ?_⟩
  apply Array.ext'
  rw [← Array.foldl_toList, Array.toList_zipIdx]
  have := foldl_lay off vs.toList 0 cs (by simpa using hl)
  simpa using this

theorem fillV_sound {P : Program} {E : Env} (k : EnvOk P E) {t n : Nat} {tm : List (Nat × Value)} {a : Act} (ht : Tm n tm a) {fs : Array Field} (hu : P.underlying t = some (.struct fs))
    {place : Nat → Option (Nat × Nat)} (hp : ∀ (i : Nat) (f : Field) (z : Value) (s b : Nat), fs[i]? = some f → look E.inf f.type = some (z, s, b) → place i = some (f.offset, s)) :
    ∀ {l : List (Nat × Operand)} {cs : List Value} {r : List Value}, fillV E t tm l cs = some r →
      Instr.fill place cs.toArray (l.map fun (i, x) => (i, a.eval x)) = some r.toArray
  | [], cs, r, h => by simp [fillV] at h; subst h; rfl
  | (i, x) :: l, cs, r, h => by
    simp only [fillV] at h
    split at h
    · cases h
    · rename_i f1 ft o f4 f5 f6 f7 hf
      split at h
      · cases h
      · rename_i z s b hi
        split at h
        · cases h
        · rename_i v hv
          cases hb : Nat.beq v.cells.size s with
          | false => rw [hb] at h; cases h
          | true =>
            rw [hb, cond_true] at h
            have hs := Nat.eq_of_beq_eq_true hb
            split at h
            · cases h
            · rename_i q hq
              obtain ⟨fs', hu', hx⟩ := fieldOf_spec k hf
              rw [hu] at hu'
              obtain rfl : fs = fs' := by injection hu' with e; injection e
              have hpl := hp i _ z s b hx hi
              have hq' : layL cs.toArray.toList o v.cells.toList = some q := by simpa using hq
              obtain ⟨h1, h2⟩ := fold_lay hq'
              simp only [List.map_cons, Instr.fill, hpl, ev_sound ht hv]
              rw [if_neg (by simp [hs]; simpa [hs] using h1), h2]
              exact fillV_sound k ht hu hp h

def knownFields (E : Env) : List Field → Bool
  | [] => true
  | f :: l => (match look E.inf f.type with | some _ => true | none => false) && knownFields E l

theorem run_places {P : Program} {E : Env} (k : EnvOk P E) (w : World) : ∀ {l : List Field}, knownFields E l = true →
    ∃ ps, (l.mapM fun (f : Field) => (do pure (f.offset, ← sizeOf f.type) : Sem (Nat × Nat))).run P w = .ok ps w ∧
      ∀ (i : Nat) (f : Field) (z : Value) (s b : Nat), l[i]? = some f → look E.inf f.type = some (z, s, b) → ps[i]? = some (f.offset, s)
  | [], _ => ⟨[], by simp, by simp⟩
  | f :: l, h => by
    simp only [knownFields, Bool.and_eq_true] at h
    obtain ⟨h1, h2⟩ := h
    obtain ⟨ps, hr, hp⟩ := run_places k w h2
    cases hi : look E.inf f.type with
    | none => rw [hi] at h1; cases h1
    | some q =>
      obtain ⟨z, s, b⟩ := q
      refine ⟨(f.offset, s) :: ps, ?_, ?_⟩
      · rw [List.mapM_cons]
        simp only [Sem.run_bind, run_size k hi, Result.andThen, Sem.run_pure, hr]
      · intro i f' z' s' b' hf hl
        cases i with
        | zero =>
          simp only [List.getElem?_cons_zero, Option.some.injEq] at hf
          subst hf
          rw [hi] at hl
          simp only [Option.some.injEq, Prod.mk.injEq] at hl
          simp [hl.2.1]
        | succ i => simp only [List.getElem?_cons_succ] at hf ⊢; exact hp i f' z' s' b' hf hl

def buildV (E : Env) (t : Nat) (tm : List (Nat × Value)) (ps : List (Nat × Operand)) : Option Value :=
  match look E.ty t with
  | some (.struct fs) => (match look E.inf t with
    | some (z, _, _) => bif knownFields E fs.toList then (match fillV E t tm ps z.cells.toList with
        | some r => some (.agg r.toArray)
        | none => none) else none
    | none => none)
  | _ => none
theorem buildV_sound {P : Program} {E : Env} (k : EnvOk P E) {t n : Nat} {tm : List (Nat × Value)} {a : Act} (ht : Tm n tm a) {ps : Array (Nat × Operand)} {v : Value}
    (h : buildV E t tm ps.toList = some v) (w : World) : (Instr.build t (ps.map fun (i, x) => (i, a.eval x))).run P w = .ok v w := by
  unfold buildV at h
  split at h
  · rename_i fs he
    have hu := k.under he
    split at h
    · rename_i z s b hi
      cases hk : knownFields E fs.toList with
      | false => rw [hk] at h; cases h
      | true =>
        rw [hk, cond_true] at h
        split at h
        · rename_i r hr
          simp only [Option.some.injEq] at h; subst h
          obtain ⟨pl, hrun, hpl⟩ := run_places k w hk
          have hm : (fs.mapM fun (f : Field) => (do pure (f.offset, ← sizeOf f.type) : Sem (Nat × Nat))).run P w = .ok pl.toArray w := by
            rw [Array.mapM_eq_mapM_toList]
            simp only [Sem.run_map, hrun, Result.andThen]
          have hf := fillV_sound k ht hu (place := fun i => pl.toArray[i]?) (fun i f z s b h1 h2 => by simpa using hpl i f z s b (by simpa using h1) h2) hr
          unfold Instr.build
          simp only [Sem.run_bind, run_zero k hi, Result.andThen, run_underlying hu, hm]
          have e : (ps.map fun (i, x) => (i, a.eval x)).toList = ps.toList.map fun (i, x) => (i, a.eval x) := by simp
          rw [e]
          simp only [Array.toArray_toList] at hf
          rw [hf]
          rfl
        · cases h
    · cases h
  · cases h

/-- A shift is left to a step of its own: its second number must not be below 0. -/
def isSh : BinOp → Operand → Bool
  | .shl, _ => true
  | .shr, _ => true
  | .quo, .tmp _ => true
  | .rem, .tmp _ => true
  | _, _ => false
/-- An operation that only computes. -/
def pureOp (E : Env) (tm : List (Nat × Value)) : Op → Option Value
  | .move x => ev tm x
  | .assign x => ev tm x
  | .pick c x y => (match ev tm c with
    | some (.bool true) => ev tm x
    | some (.bool false) => ev tm y
    | _ => none)
  | .binOp op t x y _ => bif isSh op y then none else (match ev tm x with
    | none => none
    | some a => (match ev tm y with
      | none => none
      | some b => binV E op t a b))
  | .unOp op _ x => (match ev tm x with
    | none => none
    | some a => unV op a)
  | .convert s d x => (match ev tm x with
    | none => none
    | some a => convV E s d a)
  | .extract x i => (match ev tm x with
    | some (.tuple vs) => nth vs.toList i
    | _ => none)
  | .fieldAddr s x f => (match ev tm x with
    | none => none
    | some a => fieldAddrV E s a f)
  | .field t x f => (match ev tm x with
    | some (.agg cs) => (match fieldOf E t f with
      | some ⟨_, ft, o, _, _, _, _⟩ => partV E ft cs.toList o
      | none => none)
    | _ => none)
  | .nilCheck x => (match ev tm x with
    | none => none
    | some a => checkedV a)
  | .makeInterface t x => (match ev tm x with
    | none => none
    | some a => (match look E.ty t with
      | none => none
      | some (.interface _) => none
      | some _ => some (.iface t a)))
  | .makeFunc fn first cap => (match evs tm first.toList with
    | none => none
    | some f => (match evs tm cap.toList with
      | none => none
      | some c => some (.func fn f.toArray c.toArray)))
  | .build t ps => buildV E t tm ps.toList
  | .call ⟨.builtin b, xs, ts⟩ => (match evs tm xs.toList with
    | none => none
    | some vs => builtinV E b ts.toList vs)
  | _ => none

theorem pureOp_sound {P : Program} {E : Env} (k : EnvOk P E) {n : Nat} {tm : List (Nat × Value)} {a : Act} (ht : Tm n tm a) {op : Op} {v : Value} (h : pureOp E tm op = some v)
    (dst : Option Nat) (ty : TypeId) (pos : String) (after : Array Edge) (w : World) : (execOp a.eval ⟨dst, op, ty, pos, after, none⟩).run P w = .ok (.value v) w := by
  cases op <;> simp only [pureOp] at h <;> try cases h
  case move x => simp [execOp, ev_sound ht h]
  case assign x => simp [execOp, ev_sound ht h]
  case pick c x y =>
    split at h
    · rename_i hc; simp [execOp, ev_sound ht hc, asBool, ev_sound ht h]
    · rename_i hc; simp [execOp, ev_sound ht hc, asBool, ev_sound ht h]
    · cases h
  case binOp op t x y yt =>
    cases hsh : isSh op y with
    | true => rw [hsh] at h; cases h
    | false =>
    rw [hsh, cond_false] at h
    split at h
    · cases h
    · rename_i u hx
      split at h
      · cases h
      · rename_i u' hy
        have := binV_sound k h x y w
        simp only [execOp, ev_sound ht hx, ev_sound ht hy, Sem.run_bind, this, Result.andThen, Sem.run_pure]
  case unOp op t x =>
    split at h
    · cases h
    · rename_i u hx
      simp [execOp, ev_sound ht hx, unV_sound h]
  case convert s d x =>
    split at h
    · cases h
    · rename_i u hx
      simp [execOp, ev_sound ht hx, convV_sound k h]
  case extract x i =>
    split at h
    · rename_i vs hx
      rw [nth_eq] at h
      have : vs[i]? = some v := by simpa using h
      simp [execOp, ev_sound ht hx, Instr.extract, this]
    · cases h
  case fieldAddr s x f =>
    split at h
    · cases h
    · rename_i u hx
      simp [execOp, ev_sound ht hx, fieldAddrV_sound k h]
  case field t x f =>
    split at h
    · rename_i cs hx
      split at h
      · rename_i f1 ft o f4 f5 f6 f7 hf
        obtain ⟨fs, hu, hx'⟩ := fieldOf_spec k hf
        simp [execOp, ev_sound ht hx, Instr.field, run_underlying hu, hx', asAgg, partV_sound k h]
      · cases h
    · cases h
  case nilCheck x =>
    split at h
    · cases h
    · rename_i u hx
      unfold checkedV at h
      split at h <;> first | (simp only [Option.some.injEq] at h; subst h; simp [execOp, ev_sound ht hx]; done) | cases h
  case makeInterface t x =>
    split at h
    · cases h
    · rename_i u hx
      split at h
      · cases h
      · cases h
      · rename_i d hd hne
        simp only [Option.some.injEq] at h; subst h
        have hu := k.under hne
        simp only [execOp, ev_sound ht hx, Instr.makeInterface, Sem.run_bind, run_underlying hu, Result.andThen]
        cases d <;> first | rfl | exact absurd rfl (hd _)
  case makeFunc fn first cap =>
    split at h
    · cases h
    · rename_i f hf
      split at h
      · cases h
      · rename_i c hc
        simp only [Option.some.injEq] at h; subst h
        have e1 : first.map a.eval = f.toArray := by apply Array.ext'; simpa using evs_sound ht hf
        have e2 : cap.map a.eval = c.toArray := by apply Array.ext'; simpa using evs_sound ht hc
        simp [execOp, Instr.makeFunc, e1, e2]
  case build t ps =>
    simp only [execOp, Sem.run_bind, buildV_sound k ht h, Result.andThen, Sem.run_pure]
  case call c =>
    obtain ⟨callee, xs, ts⟩ := c
    cases callee <;> simp only at h <;> try cases h
    rename_i b
    split at h
    · cases h
    · rename_i vs hv
      have e1 : xs.map a.eval = vs.toArray := by apply Array.ext'; simpa using evs_sound ht hv
      unfold builtinV at h
      split at h <;> first | cases h | skip
      · rename_i t x hts
        have e2 : ts = #[t] := by apply Array.ext'; simpa using hts
        subst e2
        simp [execOp, resolve, e1, invoke, builtin, lenV_sound k h]
      · rename_i t x hts
        have e2 : ts = #[t] := by apply Array.ext'; simpa using hts
        subst e2
        simp [execOp, resolve, e1, invoke, builtin, capV_sound k h]
      · simp [execOp, resolve, e1, invoke, builtin, Builtin.min_, minV_sound h]
      · simp [execOp, resolve, e1, invoke, builtin, Builtin.max_, maxV_sound h]

end Go.Proofs.Ytcbcpgaehdoekaa.SL

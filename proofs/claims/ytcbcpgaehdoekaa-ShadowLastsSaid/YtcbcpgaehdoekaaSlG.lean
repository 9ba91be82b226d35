/- The framework, part 7: texts and slices. -/
import Derived.Test.YtcbcpgaehdoekaaSlF
set_option linter.unusedVariables false
set_option linter.unusedSimpArgs false
namespace Go.Proofs.Ytcbcpgaehdoekaa.SL

/-- A byte of a text. -/
def byteAt (l : List UInt8) (j : Int) : Int := ((l.getD j.toNat 0).toNat : Int)
theorem byteAt_bd (l : List UInt8) (j : Int) : 0 ≤ byteAt l j ∧ byteAt l j < 256 := by
  unfold byteAt
  have := (l.getD j.toNat 0).toNat_lt
  omega
/-- A piece of a text. -/
def cutB (l : List UInt8) (lo hi : Nat) : List UInt8 := (l.drop lo).take (hi - lo)
/-- Bytes as cells. -/
def bsV (l : List UInt8) : List Value := l.map fun c => Value.int .u8 c.toNat

theorem bsV_get {l : List UInt8} {i : Nat} (h : i < l.length) : (bsV l)[i]? = some (.int .u8 ((l.getD i 0).toNat : Int)) := by
  simp [bsV, List.getD, h]
theorem bsV_length (l : List UInt8) : (bsV l).length = l.length := by simp [bsV]
theorem bsV_set {l : List UInt8} {i : Nat} {x : Int} (h : 0 ≤ x ∧ x < 256) : (bsV l).set i (.int .u8 x) = bsV (l.set i (UInt8.ofNat x.toNat)) := by
  unfold bsV
  rw [List.map_set]
  congr 2
  simp
  omega
theorem bsV_append (l m : List UInt8) : bsV (l ++ m) = bsV l ++ bsV m := by simp [bsV]
theorem bsV_zeros (n : Nat) : List.replicate n (Value.int .u8 0) = bsV (List.replicate n 0) := by simp [bsV]
theorem ba_get (l : List UInt8) (i : Nat) : (ByteArray.mk ⟨l⟩)[i]? = l[i]? := by
  show (if h : i < l.length then some l[i] else none) = l[i]?
  by_cases h : i < l.length
  · rw [dif_pos h, List.getElem?_eq_getElem h]
  · rw [dif_neg h, List.getElem?_eq_none (by omega)]
theorem ba_cut (l : List UInt8) (lo hi : Nat) (h : hi ≤ l.length) : (ByteArray.mk ⟨l⟩).extract lo hi = str (cutB l lo hi) := by
  apply ByteArray.ext
  rw [ByteArray.data_extract]
  apply Array.ext'
  simp [str, cutB, List.take_drop]
theorem ba_app (x y : List UInt8) : (ByteArray.mk ⟨x⟩) ++ (ByteArray.mk ⟨y⟩) = str (x ++ y) := by
  apply ByteArray.ext
  rw [ByteArray.data_append]
  apply Array.ext'
  simp [str]

section
variable {P : Program} {E : Env} {n : Nat} {w0 : World} {F0 : Nat → Prop} {Q : Exit → Act → World → Prop} {tm : List (Nat × Value)} {D : List Deferred} {H H' : List SProp} {ops rest : List Oper}
variable {ty : TypeId} {pos : String} {after : Array Edge}

theorem l_index {d t : Nat} {x i : Operand} {l : List UInt8} {kk : IntKind} {j : Int} (k : EnvOk P E) (hd : Nat.blt d n = true) (hx : ev tm x = some (.string ⟨⟨l⟩⟩)) (hi : ev tm i = some (.int kk j)) (ht : look E.ty t = some .string)
    (hb : 0 ≤ j ∧ j < l.length) (h : L P n w0 F0 ops.toArray rest Q ((d, .int .u8 (byteAt l j)) :: tm) D H) : L P n w0 F0 ops.toArray (⟨some d, .index t x i, ty, pos, after, none⟩ :: rest) Q tm D H := by
  intro a w s
  refine wpList_value rfl (v := .int .u8 (byteAt l j)) (w' := w) ?_ (h _ _ (s.put hd _))
  have hlt : j.toNat < l.length := by omega
  simp only [execOp, ev_sound s.tm hx, ev_sound s.tm hi, Instr.index, asIntOf, Sem.run_bind, Sem.run_pure, Result.andThen, run_underlying (k.under ht), if_pos hb.1, ba_get, List.getElem?_eq_getElem hlt]
  simp [byteAt, List.getD, hlt]

def evO (tm : List (Nat × Value)) (dflt : Int) : Option Operand → Option Int
  | none => some dflt
  | some x => match ev tm x with
    | some (.int _ j) => some j
    | _ => none

theorem run_bound {k : IntKind} {i : Int} {y : Nat} {c : BoundsCode} {w : World} (h : 0 ≤ i ∧ i ≤ y) : (Instr.sliceBound (.int k i) y c).run P w = .ok i.toNat w := by
  simp [Instr.sliceBound, asIntOf, h]

theorem run_bounds {isS : Bool} {len cap : Nat} {lo hi : Option Operand} {a : Act} {jl jh : Int} {w : World} (ht : Tm n tm a) (h1 : evO tm 0 lo = some jl) (h2 : evO tm len hi = some jh) (hb : 0 ≤ jl ∧ jl ≤ jh ∧ jh ≤ cap) (hl : len ≤ cap) :
    (Instr.sliceBounds isS len cap (lo.map a.eval) (hi.map a.eval) none).run P w = .ok (jl.toNat, jh.toNat, cap) w := by
  have A1 : ∀ {x : Operand} {d : Int} {j : Int}, evO tm d (some x) = some j → ∃ kk, a.eval x = .int kk j := by
    intro x d j e
    simp only [evO] at e
    split at e
    · rename_i kk j' hx
      simp only [Option.some.injEq] at e; subst e
      exact ⟨kk, ev_sound ht hx⟩
    · cases e
  cases hi with
  | none =>
    simp only [evO, Option.some.injEq] at h2; subst h2
    cases lo with
    | none =>
      simp only [evO, Option.some.injEq] at h1; subst h1
      simp [Instr.sliceBounds]
    | some x =>
      obtain ⟨kk, e⟩ := A1 h1
      have r : (Instr.sliceBound (.int kk jl) len .sliceB).run P w = .ok jl.toNat w := run_bound (by omega)
      simp [Instr.sliceBounds, e, r]
  | some y =>
    obtain ⟨ky, ey⟩ := A1 h2
    have ry : ∀ cd, (Instr.sliceBound (.int ky jh) cap cd).run P w = .ok jh.toNat w := fun cd => run_bound (by omega)
    cases lo with
    | none =>
      simp only [evO, Option.some.injEq] at h1; subst h1
      simp [Instr.sliceBounds, ey, ry]
    | some x =>
      obtain ⟨kk, e⟩ := A1 h1
      have r : (Instr.sliceBound (.int kk jl) jh.toNat .sliceB).run P w = .ok jl.toNat w := run_bound (by omega)
      simp [Instr.sliceBounds, e, ey, ry, r]

theorem l_slice_str {d t : Nat} {x : Operand} {lo hi : Option Operand} {l : List UInt8} {jl jh : Int} (k : EnvOk P E) (hd : Nat.blt d n = true) (hx : ev tm x = some (.string ⟨⟨l⟩⟩)) (ht : look E.ty t = some .string) (h1 : evO tm 0 lo = some jl) (h2 : evO tm l.length hi = some jh)
    (hb : 0 ≤ jl ∧ jl ≤ jh ∧ jh ≤ l.length) (h : L P n w0 F0 ops.toArray rest Q ((d, .string (str (cutB l jl.toNat jh.toNat))) :: tm) D H) :
    L P n w0 F0 ops.toArray (⟨some d, .slice t x lo hi none, ty, pos, after, none⟩ :: rest) Q tm D H := by
  intro a w s
  refine wpList_value rfl (v := .string (str (cutB l jl.toNat jh.toNat))) (w' := w) ?_ (h _ _ (s.put hd _))
  have e : (ByteArray.mk ⟨l⟩).size = l.length := rfl
  have hr := run_bounds (P := P) (isS := false) (w := w) s.tm h1 h2 hb (Nat.le_refl _)
  rw [← e] at hr
  simp only [execOp, ev_sound s.tm hx, Option.map_none, Instr.sliceAt, Instr.slice, Sem.run_bind, run_underlying (k.under ht), Result.andThen, Option.isSome_none, Bool.false_eq_true, if_false, hr, Sem.run_pure]
  rw [ba_cut _ _ _ (by omega)]

theorem l_concat {d t : Nat} {x y : Operand} {yt : TypeId} {l m : List UInt8} (hd : Nat.blt d n = true) (hx : ev tm x = some (.string ⟨⟨l⟩⟩)) (hy : ev tm y = some (.string ⟨⟨m⟩⟩)) (hb : l.length + m.length ≤ 9223372036854775807)
    (h : L P n w0 F0 ops.toArray rest Q ((d, .string (str (l ++ m))) :: tm) D H) : L P n w0 F0 ops.toArray (⟨some d, .binOp .add t x y yt, ty, pos, after, none⟩ :: rest) Q tm D H := by
  intro a w s
  refine wpList_value rfl (v := .string (str (l ++ m))) (w' := w) ?_ (h _ _ (s.put hd _))
  have e1 : (ByteArray.mk ⟨l⟩).size = l.length := rfl
  have e2 : (ByteArray.mk ⟨m⟩).size = m.length := rfl
  have hmax : ¬ (((l.length + m.length : Nat) : Int) > IntKind.i64.max) := by
    rw [show IntKind.i64.max = 9223372036854775807 by decide]; omega
  simp only [execOp, ev_sound s.tm hx, ev_sound s.tm hy, eqGuard_at_string, binOp, Op.stringOp, Sem.run_bind, Sem.run_pure, Result.andThen, e1, e2, if_neg hmax, ba_app]

theorem forIn_push {f : Value → ByteArray → Sem (ForInStep ByteArray)} (hf : ∀ (c : UInt8) (r : ByteArray) (w : World), (f (.int .u8 c.toNat) r).run P w = .ok (.yield (r.push c)) w) (w : World) : ∀ (l : List UInt8) (s : ByteArray),
    (forIn (bsV l) s f).run P w = .ok ⟨⟨s.data.toList ++ l⟩⟩ w
  | [], s => by simp [bsV]
  | c :: l, s => by
    rw [show bsV (c :: l) = Value.int .u8 c.toNat :: bsV l from rfl, List.forIn_cons]
    simp only [Sem.run_bind, hf, Result.andThen]
    rw [forIn_push hf w l]
    congr 1
    apply ByteArray.ext
    apply Array.ext'
    simp [ByteArray.push]

theorem l_str_of {d st dt e b off len cap : Nat} {x : Operand} {c : List Value} {T : TypeId} {l : List UInt8} (k : EnvOk P E) (hd : Nat.blt d n = true) (hx : ev tm x = some (.slice (some ⟨b, off, none⟩) len cap)) (hs : look E.ty st = some (.slice e)) (hdt : look E.ty dt = some .string) (he : look E.ty e = some (.int .u8))
    (ht : Take (cl b T c) H H') (hc : (c.drop off).take len = bsV l) (hl : l.length = len) (h : L P n w0 F0 ops.toArray rest Q ((d, .string (str l)) :: tm) D H) :
    L P n w0 F0 ops.toArray (⟨some d, .convert st dt x, ty, pos, after, none⟩ :: rest) Q tm D H := by
  intro a w s
  obtain ⟨fr, _, hw⟩ := (s.inv.take ht).cell
  refine wpList_value rfl (v := .string (str l)) (w' := w) ?_ (h _ _ (s.put hd _))
  have hlen : (bsV l).length = len := by simp [bsV, hl]
  have hload := run_loadCells_list (P := P) w ⟨b, off, none⟩ (bsV l) (fun j u hu => by
    have hj : j < len := by have := (List.getElem?_eq_some_iff.1 hu).1; omega
    rw [← hc, List.getElem?_take_of_lt hj, List.getElem?_drop] at hu
    have : (⟨b, off, none⟩ : Addr).add j = ⟨b, off + j, none⟩ := by unfold Addr.add; split <;> simp_all
    rw [this, cell_at hw]
    simpa using hu)
  rw [hlen] at hload
  simp only [execOp, ev_sound s.tm hx, convert, Sem.run_bind, run_underlying (k.under hs), run_underlying (k.under hdt), Result.andThen, run_underlying (k.under he), Conv.bytesToString, hload]
  rw [List.forIn_toArray, forIn_push (fun c r w => by simp)]
  rfl

theorem bsV_cut (l : List UInt8) (off len : Nat) : ((bsV l).drop off).take len = bsV ((l.drop off).take len) := by simp [bsV, List.map_drop, List.map_take]
/-- Bytes to a string, where the row is known as bytes. -/
theorem l_str_bs {d st dt e b off len cap : Nat} {x : Operand} {T : TypeId} {l : List UInt8} (k : EnvOk P E) (hd : Nat.blt d n = true) (hx : ev tm x = some (.slice (some ⟨b, off, none⟩) len cap)) (hs : look E.ty st = some (.slice e)) (hdt : look E.ty dt = some .string) (he : look E.ty e = some (.int .u8))
    (ht : Take (cl b T (bsV l)) H H') (hl : off + len ≤ l.length) (h : L P n w0 F0 ops.toArray rest Q ((d, .string (str ((l.drop off).take len))) :: tm) D H) :
    L P n w0 F0 ops.toArray (⟨some d, .convert st dt x, ty, pos, after, none⟩ :: rest) Q tm D H :=
  l_str_of k hd hx hs hdt he ht (bsV_cut _ _ _) (by simp; omega) h

theorem l_indexAddr {d t e b off len cap sz by' : Nat} {x i : Operand} {kk : IntKind} {j : Int} {z : Value} (k : EnvOk P E) (hd : Nat.blt d n = true) (hx : ev tm x = some (.slice (some ⟨b, off, none⟩) len cap)) (hi : ev tm i = some (.int kk j)) (ht : look E.ty t = some (.slice e)) (he : look E.inf e = some (z, sz, by'))
    (hb : 0 ≤ j ∧ j < len) (h : L P n w0 F0 ops.toArray rest Q ((d, .pointer (some ⟨b, off + j.toNat * sz, none⟩)) :: tm) D H) :
    L P n w0 F0 ops.toArray (⟨some d, .indexAddr t x i, ty, pos, after, none⟩ :: rest) Q tm D H := by
  intro a w s
  refine wpList_value rfl (v := .pointer (some ⟨b, off + j.toNat * sz, none⟩)) (w' := w) ?_ (h _ _ (s.put hd _))
  have ha : (⟨b, off, none⟩ : Addr).add (j.toNat * sz) = ⟨b, off + j.toNat * sz, none⟩ := by unfold Addr.add; split <;> simp_all
  simp only [execOp, ev_sound s.tm hx, ev_sound s.tm hi, Instr.indexAt, asIntOf, Sem.run_bind, Sem.run_pure, Result.andThen, run_underlying (k.under ht), if_pos hb, run_size k he, ha]

theorem l_slice {d t e b off len cap sz by' : Nat} {x : Operand} {lo hi : Option Operand} {jl jh : Int} {z : Value} (k : EnvOk P E) (hd : Nat.blt d n = true) (hx : ev tm x = some (.slice (some ⟨b, off, none⟩) len cap)) (ht : look E.ty t = some (.slice e)) (he : look E.inf e = some (z, sz, by'))
    (h1 : evO tm 0 lo = some jl) (h2 : evO tm len hi = some jh) (hb : 0 ≤ jl ∧ jl ≤ jh ∧ jh ≤ cap) (hl : len ≤ cap) (hlt : jl < cap) (h : L P n w0 F0 ops.toArray rest Q ((d, .slice (some ⟨b, off + jl.toNat * sz, none⟩) (jh.toNat - jl.toNat) (cap - jl.toNat)) :: tm) D H) :
    L P n w0 F0 ops.toArray (⟨some d, .slice t x lo hi none, ty, pos, after, none⟩ :: rest) Q tm D H := by
  intro a w s
  refine wpList_value rfl (v := .slice (some ⟨b, off + jl.toNat * sz, none⟩) (jh.toNat - jl.toNat) (cap - jl.toNat)) (w' := w) ?_ (h _ _ (s.put hd _))
  have ha : (⟨b, off, none⟩ : Addr).add (jl.toNat * sz) = ⟨b, off + jl.toNat * sz, none⟩ := by unfold Addr.add; split <;> simp_all
  have hr := run_bounds (P := P) (isS := true) (w := w) s.tm h1 h2 hb hl
  simp only [execOp, ev_sound s.tm hx, Option.map_none, Instr.sliceAt, Instr.slice, Sem.run_bind, run_underlying (k.under ht), Result.andThen, hr, Sem.run_pure, run_size k he, Option.map_some, ha]
  rw [if_neg (by omega)]

theorem l_makeSlice {d t e by' : Nat} {x y : Operand} {kk kk' : IntKind} {m c : Int} {z : Value} (k : EnvOk P E) (hd : Nat.blt d n = true) (hx : ev tm x = some (.int kk m)) (hy : ev tm y = some (.int kk' c)) (ht : look E.ty t = some (.slice e)) (he : look E.inf e = some (z, 1, by')) (hz : cellsV z = some [z])
    (hb : 0 ≤ m ∧ m ≤ c ∧ c < 9223372036854775808 ∧ by' * c ≤ 281474976710656) (h : ∀ b, L P n w0 F0 ops.toArray rest Q ((d, .slice (some ⟨b, 0, none⟩) m.toNat c.toNat) :: tm) D (cl b e (List.replicate c.toNat z) :: H)) :
    L P n w0 F0 ops.toArray (⟨some d, .makeSlice t x y, ty, pos, after, none⟩ :: rest) Q tm D H := by
  intro a w s
  obtain ⟨h0, h1, h2, h3⟩ := hb
  obtain ⟨e1, _⟩ := cellsV_spec hz
  obtain ⟨i, hi, _, _, hi3⟩ := run_tinfo k he w
  have wm : IntKind.i64.wrap m = m := by rw [IntKind.wrap_i64]; omega
  have wc : IntKind.i64.wrap c = c := by rw [IntKind.wrap_i64]; omega
  have ez : z.cells = #[z] := by apply Array.ext'; simpa using e1
  refine wpList_value rfl (v := .slice (some ⟨w.heap.size, 0, none⟩) m.toNat c.toNat) (w' := { w with heap := w.heap.push (.cells (List.replicate c.toNat z).toArray e (0, 0)) }) ?_ (h w.heap.size _ _ ⟨s.tm.put hd _, s.defers, s.inv.new_cl _ _⟩)
  have ht1 : (decide (c < 0) || decide (((by' : Nat) : Int) * c > 2 ^ 48)) = false := by
    simp only [Bool.or_eq_false_iff, decide_eq_false_iff_not]
    have : ((by' : Nat) : Int) * c ≤ 281474976710656 := h3
    omega
  have hroom : (askRoom (c.toNat * by')).run P w = .ok () w := by
    unfold askRoom mark; split <;> simp [Sem.run]
  have hcells : ((Array.range c.toNat).map fun q => (#[z] : Array Value)[q % (#[z] : Array Value).size]!) = (List.replicate c.toNat z).toArray := by
    apply Array.ext'
    apply List.ext_getElem
    · simp
    · intro q h1 h2; simp [Nat.mod_one]
  simp only [execOp, ev_sound s.tm hx, ev_sound s.tm hy, Instr.makeSlice, asInt, asIntOf, Sem.run_bind, Sem.run_pure, Result.andThen, run_underlying (k.under ht), hi, hi3, wm, wc, run_size k he, Nat.mul_one]
  have hcond : ¬ (decide (c < 0) || decide (((by' : Nat) : Int) * c > 2 ^ 48) || decide (m < 0) || decide (m > c)) = true := by
    rw [ht1]
    simp only [Bool.false_or, Bool.or_eq_true, decide_eq_true_eq]
    omega
  rw [if_neg hcond]
  by_cases hc0 : c.toNat = 0
  · rw [hc0, Nat.zero_mul] at hroom
    have e0 : ((Array.range 0).map fun q => (#[] : Array Value)[q % (#[] : Array Value).size]!) = #[] := by apply Array.ext'; simp
    simp only [hc0, if_true, Sem.run_bind, hroom, Sem.run_pure, Result.andThen, newRow, newObj, Sem.run, Nat.zero_mul, run_size k he, e0]
    rfl
  · simp only [Sem.run_bind, hroom, Sem.run_pure, Result.andThen, run_size k he, Nat.mul_one, if_neg hc0, run_zero k he, ez, hcells, newRow, newObj, Sem.run]
end
end Go.Proofs.Ytcbcpgaehdoekaa.SL

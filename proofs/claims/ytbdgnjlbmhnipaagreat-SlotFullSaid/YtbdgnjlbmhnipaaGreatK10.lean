/- Texts SlU, StD, StE, joined. -/
import Derived.Test.YtbdgnjlbmhnipaaGreatK09
/- The framework, part 21: structs of whole numbers compared. -/
set_option linter.unusedVariables false
set_option linter.unusedSimpArgs false
namespace Go.Proofs.YtbdgnjlbmhnipaaGreat.SL
section
variable {P : Program} {E : Env} {n : Nat} {w0 : World} {F0 : Nat → Prop} {Q : Exit → Act → World → Prop} {tm : List (Nat × Value)} {D : List Deferred} {H H' : List SProp} {ops rest : List Oper}
variable {ty : TypeId} {pos : String} {after : Array Edge}

/-- Are all fields, which are whole numbers, the same? -/
def eqInts (E : Env) (xs ys : List Value) : List Field → Option Bool
  | [] => some true
  | f :: l => (match partV E f.type xs f.offset with
    | some (.int k a) => (match partV E f.type ys f.offset with
      | some (.int k' b) => (match look E.ty f.type with
        | some (.int _) => bif (decide (f.name = "_") || !decide (k = k')) then none else (match eqInts E xs ys l with
          | some r => some (a == b && r)
          | none => none)
        | _ => none)
      | _ => none)
    | _ => none)
theorem run_eqInt {t : Nat} {q k : IntKind} (hu : P.underlying t = some (.int q)) (d : Nat) (a b : Int) (w : World) : (Op.equalIn (d + 1) t (.int k a) (.int k b)).run P w = .ok (a == b) w := by
  unfold Op.equalIn
  simp only [Sem.run_bind, run_underlying hu, Result.andThen, if_true, Sem.run_pure]
theorem run_eqList (k : EnvOk P E) {xs ys : Array Value} (d : Nat) (w : World) : ∀ {fs : List Field} {r : Bool}, eqInts E xs.toList ys.toList fs = some r →
    (forIn fs (none, ()) fun (f : Field) (__s : Option Bool × Unit) =>
          (if f.name ≠ "_" then do
            let __do_lift ← part f.type xs f.offset
            let __do_lift_1 ← part f.type ys f.offset
            let __do_lift ← Op.equalIn (d + 1) f.type __do_lift __do_lift_1
            if (!__do_lift) = true then pure (ForInStep.done (some false, ())) else pure (ForInStep.yield (none, ()))
          else pure (ForInStep.yield (none, ())) : Sem (ForInStep (Option Bool × Unit)))).run P w = .ok (if r then (none, ()) else (some false, ())) w
  | [], r, h => by
    simp only [eqInts, Option.some.injEq] at h
    subst h
    simp
  | f :: l, r, h => by
    simp only [eqInts] at h
    split at h
    · rename_i q a h1
      split at h
      · rename_i q' b h2
        split at h
        · rename_i q2 h3
          cases hc : (decide (f.name = "_") || !decide (q = q')) with
          | true => rw [hc] at h; cases h
          | false =>
            rw [hc, cond_false] at h
            simp only [Bool.or_eq_false_iff, decide_eq_false_iff_not, Bool.not_eq_false', decide_eq_true_eq] at hc
            obtain ⟨hn, rfl⟩ := hc
            split at h
            · rename_i r' h4
              simp only [Option.some.injEq] at h; subst h
              have ih := run_eqList k d w h4
              rw [List.forIn_cons]
              simp only [hn, ne_eq, not_false_eq_true, if_true, Sem.run_bind, partV_sound k h1, partV_sound k h2, run_eqInt (k.under h3), Result.andThen]
              by_cases hab : a = b
              · subst hab
                simp only [beq_self_eq_true, Bool.not_true, Bool.false_eq_true, if_false, Sem.run_pure, Bool.true_and]
                exact ih
              · have : (a == b) = false := by simpa using hab
                simp only [this, Bool.not_false, if_true, Sem.run_pure, Bool.false_and, Bool.false_eq_true, if_false]
            · cases h
        · cases h
      · cases h
    · cases h
theorem run_eqStruct (k : EnvOk P E) {t : Nat} {xs ys : Array Value} {fs : Array Field} {r : Bool} (hu : P.underlying t = some (.struct fs)) (hs : P.stoodInHeld t = false) (h : eqInts E xs.toList ys.toList fs.toList = some r) (w : World) : (Op.equal t (.agg xs) (.agg ys)).run P w = .ok r w := by
  unfold Op.equal
  obtain ⟨d, hd⟩ : ∃ d, Op.maxDepth = d + 1 + 1 := ⟨Op.maxDepth - 2, by decide⟩
  rw [hd]
  unfold Op.equalIn
  have hp : (program).run P w = .ok P w := by simp [program, Sem.run]
  simp only [Sem.run_bind, run_underlying hu, Result.andThen, hp, hs, Bool.false_eq_true, if_false]
  have hl := run_eqList k (xs := xs) (ys := ys) d w h
  rw [← Array.forIn_toList]
  rw [hl]
  cases r <;> simp
/-- A type of structs of whole numbers, of which nothing is known but what it says. -/
class Plain (P : Program) (t : Nat) : Prop where
  it : P.stoodInHeld t = false ∧ P.eqGuardType P.depth t = false
theorem l_eqStruct {d t t2 : Nat} {x y : Operand} {xs ys : Array Value} {fs : Array Field} {r : Bool} (k : EnvOk P E := by refine inferInstance) (hd : Nat.blt d n = true := by refine rfl) (hx : ev tm x = some (.agg xs) := by refine rfl) (hy : ev tm y = some (.agg ys) := by refine rfl) (hu : look E.ty t = some (.struct fs) := by refine rfl) (hr : eqInts E xs.toList ys.toList fs.toList = some r := by refine rfl) (pl : Plain P t := by refine inferInstance)
    (h : L P n w0 F0 ops.toArray rest Q ((d, .bool r) :: tm) D H) : L P n w0 F0 ops.toArray (⟨some d, .binOp .eql t x y t2, ty, pos, after, none⟩ :: rest) Q tm D H := .mk fun a w st => by
  refine wpList_value rfl (v := .bool r) (w' := w) ?_ (h _ _ (st.put hd _))
  have hp : (program).run P w = .ok P w := by simp [program, Sem.run]
  have hg : (eqGuard .eql t x y (.agg xs) (.agg ys)).run P w = .ok () w := by
    unfold eqGuard
    simp [Sem.run_bind, hp, Result.andThen, pl.it.2]
  simp only [execOp, ev_sound st.tm hx, ev_sound st.tm hy, Sem.run_bind, hg, Result.andThen, binOp, run_eqStruct k (k.under hu) pl.it.1 hr, Sem.run_pure]
theorem l_neStruct {d t t2 : Nat} {x y : Operand} {xs ys : Array Value} {fs : Array Field} {r : Bool} (k : EnvOk P E := by refine inferInstance) (hd : Nat.blt d n = true := by refine rfl) (hx : ev tm x = some (.agg xs) := by refine rfl) (hy : ev tm y = some (.agg ys) := by refine rfl) (hu : look E.ty t = some (.struct fs) := by refine rfl) (hr : eqInts E xs.toList ys.toList fs.toList = some r := by refine rfl) (pl : Plain P t := by refine inferInstance)
    (h : L P n w0 F0 ops.toArray rest Q ((d, .bool (!r)) :: tm) D H) : L P n w0 F0 ops.toArray (⟨some d, .binOp .neq t x y t2, ty, pos, after, none⟩ :: rest) Q tm D H := .mk fun a w st => by
  refine wpList_value rfl (v := .bool (!r)) (w' := w) ?_ (h _ _ (st.put hd _))
  have hp : (program).run P w = .ok P w := by simp [program, Sem.run]
  have hg : (eqGuard .neq t x y (.agg xs) (.agg ys)).run P w = .ok () w := by
    unfold eqGuard
    simp [Sem.run_bind, hp, Result.andThen, pl.it.2]
  simp only [execOp, ev_sound st.tm hx, ev_sound st.tm hy, Sem.run_bind, hg, Result.andThen, binOp, run_eqStruct k (k.under hu) pl.it.1 hr, Sem.run_pure]
end
end Go.Proofs.YtbdgnjlbmhnipaaGreat.SL
/- Law SlotEpochs. -/
set_option maxRecDepth 20000
set_option linter.unusedVariables false
set_option linter.unusedSimpArgs false
namespace Go.Proofs.YtbdgnjlbmhnipaaGreat
open Go.Proofs.YtbdgnjlbmhnipaaGreat.SL

instance plainSlot : Plain Tryz.prog 34 := ⟨⟨by kernel_rfl, by kernel_rfl⟩⟩

theorem examples17_does : Does Tryz.prog 16 [] [] (fun v H => v = .bool true ∧ H = []) := by
  have room : ∀ t sb db (L : List Sl), L.length ≤ 200 → (TxP.new t sb db 640).room (slotT 1 L) := fun t sb db L h => by show 0 + 2 * (slotT 1 L).length + 25 < 640; rw [slotT_len]; omega
  refine does_of Tryz.func16 Tryz.ntmps16 rfl rfl rfl (fun w0 F0 => ?_)
  (repeat (first | refine g_seq (h := ?_) | refine g_region (h := ?_) | refine l_nil (h := ?_) | refine n_then (h := ?_) | refine l_pures1 (h := ?_) | (refine l_atc ?_; refine l_call_ (made17_does) ?_; rintro _ _ _ ⟨t, db, sb, rfl, rfl⟩ he; cases he) | refine g_skip (h := ?_) | refine g_cond_f (h := ?_)))
  have h1 : Does Tryz.prog 18 [.pointer (some ⟨t, 0, none⟩), .int .i64 9, .int .u64 7] [Tx (TxP.new t sb db 640) []] (fun v H => v = .tuple #[.agg #[.int .i64 1, .int .i64 9, .int .i64 1, .int .u64 7], .int .i64 0] ∧ H = [Tx (TxP.new t sb db 640) (slotT 1 [⟨9, 1, 7⟩])]) :=
    slotTake_does (TxP.new t sb db 640) [] 9 7 (by omega) (by omega) (by simp) (by simp) (room _ _ _ _ (by simp)) (by simp) (by decide)
  have h2 : Does Tryz.prog 18 [.pointer (some ⟨t, 0, none⟩), .int .i64 9, .int .u64 7] [Tx (TxP.new t sb db 640) (slotT 1 [⟨9, 1, 7⟩])] (fun v H => v = .tuple #[.agg #[.int .i64 0, .int .i64 0, .int .i64 0, .int .u64 0], .int .i64 13] ∧ H = [Tx (TxP.new t sb db 640) (slotT 1 [⟨9, 1, 7⟩])]) :=
    sTakeBusy_does (TxP.new t sb db 640) [⟨9, 1, 7⟩] 9 7 (by omega) (by omega) (by simp) (by simp [Sl.ok]) 0 (by simp) (by simp)
  have h3 : Does Tryz.prog 19 [.pointer (some ⟨t, 0, none⟩), .int .i64 9] [Tx (TxP.new t sb db 640) (slotT 1 [⟨9, 1, 7⟩])] (fun v H => v = .tuple #[.int .i64 1, .int .i64 0] ∧ H = [Tx (TxP.new t sb db 640) (slotT 1 [⟨0, 2, 0⟩])]) :=
    sFree_does (TxP.new t sb db 640) [⟨9, 1, 7⟩] 9 (by omega) (by simp) (by simp [Sl.ok]) (room _ _ _ _ (by simp))
  have h4 : Does Tryz.prog 18 [.pointer (some ⟨t, 0, none⟩), .int .i64 8, .int .u64 7] [Tx (TxP.new t sb db 640) (slotT 1 [⟨0, 2, 0⟩])] (fun v H => v = .tuple #[.agg #[.int .i64 1, .int .i64 8, .int .i64 2, .int .u64 7], .int .i64 0] ∧ H = [Tx (TxP.new t sb db 640) (slotT 1 [⟨8, 2, 7⟩])]) :=
    slotTake_does (TxP.new t sb db 640) [⟨0, 2, 0⟩] 8 7 (by omega) (by omega) (by simp) (by simp [Sl.ok]) (room _ _ _ _ (by simp)) (by simp) (by decide)
  (repeat (first | refine g_seq (h := ?_) | refine g_region (h := ?_) | refine l_nil (h := ?_) | refine n_then (h := ?_) | refine l_pures1 (h := ?_) | (refine l_atc ?_; refine l_call (h1) ?_) | refine l_store (h := ?_) | (refine l_alloc (h := ?_); intro _)))
  (repeat (first | refine g_seq (h := ?_) | refine g_region (h := ?_) | refine l_nil (h := ?_) | refine n_then (h := ?_) | refine l_pures1 (h := ?_) | (refine l_atc ?_; refine l_call (h2) ?_) | refine l_store (h := ?_) | (refine l_alloc (h := ?_); intro _)))
  (repeat (first | refine g_seq (h := ?_) | refine g_region (h := ?_) | refine l_nil (h := ?_) | refine n_then (h := ?_) | refine l_pures1 (h := ?_) | (refine l_atc ?_; refine l_call (h3) ?_)))
  (repeat' (first | refine g_seq (h := ?_) | refine g_region (h := ?_) | refine l_nil (h := ?_) | refine n_then (h := ?_) | refine l_pures1 (h := ?_) | (refine l_atc ?_; refine l_call (h4) ?_) | refine l_guard_yes (h := ?_) | refine l_load (h := ?_) | refine l_store (h := ?_) | (refine l_alloc (h := ?_); intro _) | refine g_ret (h := ?_) | refine l_eqStruct (h := ?_)))
  refine r_retk [] ?_
  exact ⟨rfl, rfl⟩

/-- The slots behind i rounds. -/
def epL (i : Nat) : List Sl := List.replicate (i / 15) ⟨0, 16, 0⟩ ++ (if i % 15 = 0 then [] else [⟨0, 1 + i % 15, 0⟩])
def epB (i : Nat) : Bool := decide (takeAt (epL i) = i / 15) && decide (epochAt (epL i) = 1 + i % 15) && decide ((takeL (epL i) 3 i).map (Sl.fr 3) = epL (i + 1)) && decide (frN 3 (takeL (epL i) 3 i) = 1) && decide ((epL i).length ≤ 4) &&
  decide ((takeL (epL i) 3 i)[i / 15]? = some ⟨3, 1 + i % 15, i⟩) && decide ((epL (i + 1))[i / 15]? = some ⟨0, 2 + i % 15, 0⟩) && ((epL i).all fun s => decide (s.cap = 0 ∧ 1 ≤ s.epoch ∧ s.epoch ≤ 16 ∧ s.nonce = 0)) &&
  ((takeL (epL i) 3 i).all fun s => decide (s.cap ≤ 3 ∧ 1 ≤ s.epoch ∧ s.epoch ≤ 16 ∧ (s.cap = 0 ∨ s.epoch ≤ 15) ∧ s.nonce < 41))
theorem epB_all : ((List.range 41).all epB) = true := by decide +kernel
theorem epL_facts {i : Nat} (h : i < 41) : takeAt (epL i) = i / 15 ∧ epochAt (epL i) = 1 + i % 15 ∧ (takeL (epL i) 3 i).map (Sl.fr 3) = epL (i + 1) ∧ frN 3 (takeL (epL i) 3 i) = 1 ∧ (epL i).length ≤ 4 ∧ (takeL (epL i) 3 i)[i / 15]? = some ⟨3, 1 + i % 15, i⟩ ∧ (epL (i + 1))[i / 15]? = some ⟨0, 2 + i % 15, 0⟩ ∧ (∀ s ∈ epL i, s.cap = 0 ∧ 1 ≤ s.epoch ∧ s.epoch ≤ 16 ∧ s.nonce = 0) ∧ (∀ s ∈ takeL (epL i) 3 i, s.cap ≤ 3 ∧ 1 ≤ s.epoch ∧ s.epoch ≤ 16 ∧ (s.cap = 0 ∨ s.epoch ≤ 15) ∧ s.nonce < 41) := by
  have := List.all_eq_true.1 epB_all i (List.mem_range.2 h)
  simp only [epB, Bool.and_eq_true, decide_eq_true_eq, List.all_eq_true] at this
  obtain ⟨⟨⟨⟨⟨⟨⟨⟨h1, h2⟩, h3⟩, h4⟩, h5⟩, h6⟩, h7⟩, h8⟩, h9⟩ := this
  exact ⟨h1, h2, h3, h4, h5, h6, h7, h8, h9⟩

set_option maxHeartbeats 8000000 in
theorem epochs_loop (t sb db m : Nat) (hm : m < 41) (w0 : World) (F0 : Nat → Prop) :
    G Tryz.prog 114 w0 F0 (nav [1, 1, 1, 1, 1, 1, 1] (bdy Tryz.f5)) (Post Tryz.prog Tryz.f5 w0 F0 (fun v H => v = .bool true ∧ H = []))
      [(4, .pointer (some ⟨t, 0, none⟩)), (3, .bool true), (0, .int .i64 m)] [] [Tx (TxP.new t sb db 640) []] := by
  have room : ∀ (L : List Sl), L.length ≤ 200 → (TxP.new t sb db 640).room (slotT 1 L) := fun L h => by show 0 + 2 * (slotT 1 L).length + 25 < 640; rw [slotT_len]; omega
  obtain ⟨c, hc⟩ : ∃ c, c = nav [1, 1, 1, 1, 1, 1, 1] (bdy Tryz.f5) := ⟨_, rfl⟩
  rw [← hc]
  dsimp only [nav, bdy, Tryz.f5, Option.getD] at hc
  subst hc
  (repeat (first | refine g_seq (h := ?_) | refine g_region (h := ?_) | refine l_nil (h := ?_) | refine n_then (h := ?_) | refine l_pures1 (h := ?_) | refine g_block (h := ?_)))
  (refine g_loop (fun i : Nat => [(5, .int .i64 i), (4, .pointer (some ⟨t, 0, none⟩)), (3, .bool true), (0, .int .i64 m)]) (fun i => [Tx (TxP.new t sb db 640) (slotT 1 (epL i))]) (fun i => i ≤ m) (fun i => m - i) (0) ?_ ?_ ?_ ?_; rotate_left; (repeat (first | refine ts_nil | (refine ts_cons rfl ?_ ?_; first | (with_reducible rfl) | rotate_left))); (first | (intro _ i; with_reducible refine i) | rotate_left); rotate_left; (try omega); rotate_right)
  · intro i hi
    by_cases him : i < m
    · obtain ⟨f1, f2, f3, f4, f5, f6, f7, f8, f9⟩ := epL_facts (i := i) (by omega)
      have hl2 := takeL_len (epL i) 3 i
      obtain ⟨L1, hL1⟩ : ∃ L1, L1 = takeL (epL i) 3 i := ⟨_, rfl⟩
      have ok0 : ∀ s ∈ epL i, s.ok := fun s hs => by
        obtain ⟨a, b, c, d⟩ := f8 s hs
        exact ⟨by omega, b, c, .inl a, by omega⟩
      have ok1 : ∀ s ∈ L1, s.ok := fun s hs => by
        obtain ⟨a, b, c, d, e⟩ := f9 s (hL1 ▸ hs)
        exact ⟨by omega, b, c, d, by omega⟩
      rw [← hL1] at f3 f4 f6 hl2
      have ok2 : ∀ s ∈ epL (i + 1), s.ok := fun s hs => by
        rw [← f3] at hs
        obtain ⟨s', h1, rfl⟩ := List.mem_map.1 hs
        exact fr_ok (ok1 _ h1)
      have hlen2 : (epL (i + 1)).length = L1.length := by rw [← f3]; simp
      obtain ⟨g1, g2⟩ := List.getElem?_eq_some_iff.1 f6
      obtain ⟨g3, g4⟩ := List.getElem?_eq_some_iff.1 f7
      have hT : Does Tryz.prog 18 [.pointer (some ⟨t, 0, none⟩), .int .i64 3, .int .u64 i] [Tx (TxP.new t sb db 640) (slotT 1 (epL i))] (fun v H => v = .tuple #[.agg #[.int .i64 (1 + i / 15 : Nat), .int .i64 3, .int .i64 (1 + i % 15 : Nat), .int .u64 i], .int .i64 0] ∧ H = [Tx (TxP.new t sb db 640) (slotT 1 L1)]) := by
        have := slotTake_does (TxP.new t sb db 640) (epL i) 3 i (by omega) (by omega) (by omega) ok0 (room _ (by omega)) (fun s hs q => q.1 (f8 s hs).1) (by omega)
        rw [f1, f2, ← hL1] at this
        exact this
      have hA1 : Does Tryz.prog 20 [.pointer (some ⟨t, 0, none⟩), .int .i64 (1 + i / 15 : Nat)] [Tx (TxP.new t sb db 640) (slotT 1 L1)] (fun v H => v = .tuple #[.agg #[.int .i64 (1 + i / 15 : Nat), .int .i64 3, .int .i64 (1 + i % 15 : Nat), .int .u64 i], .int .i64 0] ∧ H = [Tx (TxP.new t sb db 640) (slotT 1 L1)]) := by
        have := sAt_does (TxP.new t sb db 640) L1 (i / 15) g1 (by omega) ok1
        rw [g2] at this
        exact this
      have hF : Does Tryz.prog 19 [.pointer (some ⟨t, 0, none⟩), .int .i64 3] [Tx (TxP.new t sb db 640) (slotT 1 L1)] (fun v H => v = .tuple #[.int .i64 1, .int .i64 0] ∧ H = [Tx (TxP.new t sb db 640) (slotT 1 (epL (i + 1)))]) := by
        have := sFree_does (TxP.new t sb db 640) L1 3 (by omega) (by omega) ok1 (room _ (by omega))
        rw [f3, f4] at this
        exact this
      have hA2 : Does Tryz.prog 20 [.pointer (some ⟨t, 0, none⟩), .int .i64 (1 + i / 15 : Nat)] [Tx (TxP.new t sb db 640) (slotT 1 (epL (i + 1)))] (fun v H => v = .tuple #[.agg #[.int .i64 (1 + i / 15 : Nat), .int .i64 0, .int .i64 (2 + i % 15 : Nat), .int .u64 0], .int .i64 0] ∧ H = [Tx (TxP.new t sb db 640) (slotT 1 (epL (i + 1)))]) := by
        have := sAt_does (TxP.new t sb db 640) (epL (i + 1)) (i / 15) g3 (by omega) ok2
        rw [g4] at this
        exact this
      have ew : IntKind.u64.wrap (i : Int) = i := wrapU64 (by omega)
      have hq : (i : Int).tdiv 15 = ((i / 15 : Nat) : Int) := by rw [Int.tdiv_eq_ediv_of_nonneg (by omega)]; omega
      have hr : (i : Int).tmod 15 = ((i % 15 : Nat) : Int) := by rw [Int.tmod_eq_emod_of_nonneg (by omega)]; omega
      have e1 : IntKind.i64.wrap (1 + IntKind.i64.wrap ((i : Int).tdiv 15)) = ((1 + i / 15 : Nat) : Int) := by rw [hq, wrapI64 (n := ((i / 15 : Nat) : Int)) (by omega), wrapI64 (by omega)]; omega
      have e2 : IntKind.i64.wrap (1 + (i : Int).tmod 15) = ((1 + i % 15 : Nat) : Int) := by rw [hr, wrapI64 (by omega)]; omega
      have e3 : IntKind.i64.wrap (((1 + i % 15 : Nat) : Int) + 1) = ((2 + i % 15 : Nat) : Int) := by rw [wrapI64 (by omega)]; omega
      (repeat' (first | refine g_seq (h := ?_) | refine g_region (h := ?_) | refine l_nil (h := ?_) | refine n_then (h := ?_) | refine l_pures1 (h := ?_) | refine g_skip (h := ?_) | refine g_block (h := ?_) | (refine g_spT (h := ?_); intro h)))
      rw [ew]
      (repeat' (first | refine g_seq (h := ?_) | refine g_region (h := ?_) | refine l_nil (h := ?_) | refine n_then (h := ?_) | refine l_pures1 (h := ?_) | (refine l_atc ?_; refine l_call (hT) ?_) | refine l_guard_yes (h := ?_) | refine l_load (h := ?_) | refine l_store (h := ?_) | (refine l_alloc (h := ?_); intro _) | refine g_skip (h := ?_) | (refine l_spF (h := ?_); intro h) | (refine g_spF (h := ?_); intro h)))
      (repeat' (first | refine g_seq (h := ?_) | refine g_region (h := ?_) | refine l_nil (h := ?_) | refine n_then (h := ?_) | refine l_pures1 (h := ?_) | (refine l_atc ?_; refine l_call (hA1) ?_) | refine l_store (h := ?_) | (refine l_alloc (h := ?_); intro _)))
      (repeat' (first | refine g_seq (h := ?_) | refine g_region (h := ?_) | refine l_nil (h := ?_) | refine n_then (h := ?_) | refine l_pures1 (h := ?_) | (refine l_atc ?_; refine l_call (hF) ?_) | refine l_load (h := ?_)))
      have e5 : (((1 + i / 15 : Nat) : Int) == ((1 + i / 15 : Nat) : Int) && ((3 : Int) == 3 && (((1 + i % 15 : Nat) : Int) == ((1 + i % 15 : Nat) : Int) && ((i : Int) == (i : Int) && true)))) = true := by simp
      (repeat (first | refine g_seq (h := ?_) | refine g_region (h := ?_) | refine l_nil (h := ?_) | refine n_then (h := ?_) | refine l_pures1 (h := ?_) | (refine l_atc ?_; refine l_call (hA2) ?_) | refine l_load (h := ?_) | refine l_store (h := ?_) | (refine l_alloc (h := ?_); intro _) | refine l_neStruct (h := ?_)))
      rw [e5]
      (repeat' (first | refine g_region (h := ?_) | refine l_nil (h := ?_) | refine n_then (h := ?_) | refine l_pures1 (h := ?_) | refine l_guard_yes (h := ?_) | refine l_load (h := ?_) | refine g_skip (h := ?_) | refine n_block (h := ?_) | (refine g_spF (h := ?_); intro h)))
      (refine n_back (i + 1) ?_ ?_ ?_ ?_; rotate_left; rotate_left; (repeat (first | refine ts_nil | (refine ts_cons rfl ?_ ?_; first | (with_reducible rfl) | rotate_left))); (first | (intro _ i; with_reducible refine i) | rotate_left); (try omega); (try omega))
      all_goals first
        | (dsimp only; omega)
        | (rw [wrapI64 (by omega)]; rfl)
        | (intro _ i; exact inv_keep parts_of i)
        | rfl
    · (repeat' (first | refine g_seq (h := ?_) | refine g_region (h := ?_) | refine l_nil (h := ?_) | refine n_then (h := ?_) | refine l_pures1 (h := ?_) | refine g_ret (h := ?_) | refine g_exit (h := ?_) | refine n_then_exit (h := ?_) | refine n_block_hit (h := ?_) | (refine g_spF (h := ?_); intro h)))
      refine r_retk [] ?_
      exact ⟨rfl, rfl⟩
  all_goals first
    | exact Nat.zero_le _
    | rfl
    | (intro _ i; exact i)
theorem epochs_at (t sb db : Nat) (z : Int) (m : Nat) (hz : z = m) (hm : m < 41) (w0 : World) (F0 : Nat → Prop) :
    G Tryz.prog 114 w0 F0 (nav [1, 1, 1, 1, 1, 1, 1] (bdy Tryz.f5)) (Post Tryz.prog Tryz.f5 w0 F0 (fun v H => v = .bool true ∧ H = []))
      [(4, .pointer (some ⟨t, 0, none⟩)), (3, .bool true), (0, .int .i64 z)] [] [Tx (TxP.new t sb db 640) []] := by
  subst hz
  exact epochs_loop t sb db m hm w0 F0
theorem SlotEpochs_does (n : Int) (h2 : -9223372036854775808 ≤ n ∧ n < 9223372036854775808) :
    Does Tryz.prog 5 [.int .i64 n] [] (fun v H => v = .bool true ∧ H = []) := by
  have key : ∀ (c : Int), 0 ≤ c → c < 9223372036854775808 → ∃ m : Nat, m < 41 ∧ c.tmod 41 = m := fun c k1 k2 => by
    refine ⟨c.toNat % 41, by omega, ?_⟩
    rw [Int.tmod_eq_emod_of_nonneg k1]; omega
  by_cases hneg : n < 0
  · have e1 : IntKind.i64.wrap (0 - IntKind.i64.wrap (n + 1)) = -(n + 1) := by rw [wrapI64 (n := n + 1) (by omega), wrapI64 (by omega)]; omega
    obtain ⟨m, hm, e2⟩ := key (IntKind.i64.wrap (0 - IntKind.i64.wrap (n + 1))) (by omega) (by omega)
    refine does_of Tryz.func5 Tryz.ntmps5 rfl rfl rfl (fun w0 F0 => ?_)
    (repeat' (first | ((with_reducible show G _ _ _ _ (Code.seq (Code.seq (Code.region 10 _ _) _) _) _ _ _ _); exact g_bang (epochs_at _ _ _ _ m e2 hm _ _)) | refine g_seq (h := ?_) | refine g_region (h := ?_) | refine l_nil (h := ?_) | refine n_then (h := ?_) | refine l_pures1 (h := ?_) | (refine l_atc ?_; refine l_call (examples17_does) ?_) | (refine l_atc ?_; refine l_call_ (made17_does) ?_; rintro _ _ _ ⟨t, db, sb, rfl, rfl⟩ he; cases he) | refine g_skip (h := ?_) | refine g_cond_f (h := ?_) | (refine g_spT (h := ?_); intro h)))
  · obtain ⟨m, hm, e2⟩ := key n (by omega) (by omega)
    refine does_of Tryz.func5 Tryz.ntmps5 rfl rfl rfl (fun w0 F0 => ?_)
    (repeat' (first | ((with_reducible show G _ _ _ _ (Code.seq (Code.seq (Code.region 10 _ _) _) _) _ _ _ _); exact g_bang (epochs_at _ _ _ _ m e2 hm _ _)) | refine g_seq (h := ?_) | refine g_region (h := ?_) | refine l_nil (h := ?_) | refine n_then (h := ?_) | refine l_pures1 (h := ?_) | (refine l_atc ?_; refine l_call (examples17_does) ?_) | (refine l_atc ?_; refine l_call_ (made17_does) ?_; rintro _ _ _ ⟨t, db, sb, rfl, rfl⟩ he; cases he) | refine g_skip (h := ?_) | refine g_cond_f (h := ?_) | (refine g_spF (h := ?_); intro h)))
end Go.Proofs.YtbdgnjlbmhnipaaGreat
/- Law SlotFull. -/
set_option maxRecDepth 20000
set_option linter.unusedVariables false
set_option linter.unusedSimpArgs false
namespace Go.Proofs.YtbdgnjlbmhnipaaGreat
open Go.Proofs.YtbdgnjlbmhnipaaGreat.SL

theorem wf_u32' {a : Int} (h : (Lit.int .u32 a).wf = true) : 0 ≤ a ∧ a < 4294967296 := by
  simp [Lit.wf, IntKind.min, IntKind.max, IntKind.bits, IntKind.signed] at h
  omega
theorem fuL_ok {a n : Nat} (ha : a < 4294967296) (hn : n ≤ 200) : ∀ s ∈ fuL a n, s.ok := by
  intro s hs
  obtain ⟨j, hj, rfl⟩ := fuL_mem hs
  exact ⟨by show 1 + j ≤ 16777215; omega, by show 1 ≤ 1; omega, by show 1 ≤ 16; omega, .inr (by show 1 ≤ 15; omega), by show a + (1 + j) < 18446744073709551616; omega⟩

set_option maxHeartbeats 8000000 in
theorem full_loop (t sb db a c : Nat) (ha : a < 4294967296) (hc : 1 ≤ c ∧ c ≤ 200) (w0 : World) (F0 : Nat → Prop) :
    G Tryz.prog 101 w0 F0 (nav [1, 1, 1, 1, 1, 1, 1] (bdy Tryz.f4)) (Post Tryz.prog Tryz.f4 w0 F0 (fun v H => v = .bool true ∧ H = []))
      [(6, .pointer (some ⟨t, 0, none⟩)), (5, .bool true), (0, .int .u32 a), (1, .int .i64 c)] [] [Tx (TxP.new t sb db 640) []] := by
  have room : ∀ (L : List Sl), L.length ≤ 200 → (TxP.new t sb db 640).room (slotT 1 L) := fun L h => by show 0 + 2 * (slotT 1 L).length + 25 < 640; rw [slotT_len]; omega
  obtain ⟨c, hc⟩ : ∃ c, c = nav [1, 1, 1, 1, 1, 1, 1] (bdy Tryz.f4) := ⟨_, rfl⟩
  rw [← hc]
  dsimp only [nav, bdy, Tryz.f4, Option.getD] at hc
  subst hc
  (repeat (first | refine g_seq (h := ?_) | refine g_region (h := ?_) | refine l_nil (h := ?_) | refine n_then (h := ?_) | refine l_pures1 (h := ?_) | refine g_block (h := ?_)))
  (refine g_loop (fun n : Nat => [(7, .int .i64 (1 + n : Nat)), (6, .pointer (some ⟨t, 0, none⟩)), (5, .bool true), (0, .int .u32 a), (1, .int .i64 c)]) (fun n => [Tx (TxP.new t sb db 640) (slotT 1 (fuL a n))]) (fun n => n ≤ 200) (fun n => 200 - n) (0) ?_ ?_ ?_ ?_; rotate_left; (repeat (first | refine ts_nil | (refine ts_cons rfl ?_ ?_; first | (with_reducible rfl) | rotate_left))); (first | (intro _ i; with_reducible refine i) | rotate_left); rotate_left; (try omega); rotate_right)
  · intro n hn
    have hlen := fuL_len a n
    have hok := fuL_ok (n := n) ha hn
    have hta := fuL_takeAt a n
    obtain ⟨htk, hep⟩ := fuL_take a n
    by_cases hnl : n < 200
    · have hT : Does Tryz.prog 18 [.pointer (some ⟨t, 0, none⟩), .int .i64 (1 + n : Nat), .int .u64 (a + (1 + n) : Nat)] [Tx (TxP.new t sb db 640) (slotT 1 (fuL a n))] (fun v H => v = .tuple #[.agg #[.int .i64 (1 + n : Nat), .int .i64 (1 + n : Nat), .int .i64 1, .int .u64 (a + (1 + n) : Nat)], .int .i64 0] ∧ H = [Tx (TxP.new t sb db 640) (slotT 1 (fuL a (n + 1)))]) := by
        have := slotTake_does (TxP.new t sb db 640) (fuL a n) (1 + n) (a + (1 + n)) (by omega) (by omega) (by omega) hok (room _ (by omega)) (fun s hs q => by
          obtain ⟨j, hj, rfl⟩ := fuL_mem hs
          have : a + (1 + j) = a + (1 + n) := q.2
          omega) (by omega)
        rw [hta, htk, hep] at this
        exact this
      have e0 : IntKind.u64.wrap (IntKind.u64.wrap (a : Int) + IntKind.u64.wrap ((1 + n : Nat) : Int)) = ((a + (1 + n) : Nat) : Int) := by rw [wrapU64 (n := (a : Int)) (by omega), wrapU64 (n := ((1 + n : Nat) : Int)) (by omega), wrapU64 (by omega)]; omega
      (repeat' (first | refine g_seq (h := ?_) | refine g_region (h := ?_) | refine l_nil (h := ?_) | refine n_then (h := ?_) | refine l_pures1 (h := ?_) | refine g_skip (h := ?_) | refine g_block (h := ?_) | (refine g_spT (h := ?_); intro h)))
      rw [e0]
      (repeat' (first | refine g_seq (h := ?_) | refine g_region (h := ?_) | refine l_nil (h := ?_) | refine n_then (h := ?_) | refine l_pures1 (h := ?_) | (refine l_atc ?_; refine l_call (hT) ?_) | refine l_guard_yes (h := ?_) | refine l_load (h := ?_) | refine l_store (h := ?_) | (refine l_alloc (h := ?_); intro _) | refine g_skip (h := ?_) | refine n_block (h := ?_) | refine g_cond_f (h := ?_) | (refine l_spF (h := ?_); intro h)))
      (refine n_back (n + 1) ?_ ?_ ?_ ?_; rotate_left; rotate_left; (repeat (first | refine ts_nil | (refine ts_cons rfl ?_ ?_; first | (with_reducible rfl) | rotate_left))); (first | (intro _ i; with_reducible refine i) | rotate_left); (try omega); (try omega))
      all_goals first
        | (dsimp only; omega)
        | (rw [wrapI64 (by omega)]; congr 1; omega)
        | (rw [wrapI64 (by omega)]; rfl)
        | (intro _ i; exact inv_keep parts_of i)
        | rfl
    · obtain rfl : n = 200 := by omega
      have hu : ∀ s ∈ fuL a 200, ¬ (s.cap ≠ 0 ∧ s.nonce = a) := fun s hs q => by
        obtain ⟨j, hj, rfl⟩ := fuL_mem hs
        have : a + (1 + j) = a := q.2
        omega
      have hFull : Does Tryz.prog 18 [.pointer (some ⟨t, 0, none⟩), .int .i64 5, .int .u64 a] [Tx (TxP.new t sb db 640) (slotT 1 (fuL a 200))] (fun v H => v = .tuple #[.agg #[.int .i64 0, .int .i64 0, .int .i64 0, .int .u64 0], .int .i64 4] ∧ H = [Tx (TxP.new t sb db 640) (slotT 1 (fuL a 200))]) :=
        sTakeFull_does (TxP.new t sb db 640) (fuL a 200) 5 a (by omega) (by omega) hlen hok hu hta
      have hfr := fuL_frN (a := a) hc.1 hc.2
      have hFree : Does Tryz.prog 19 [.pointer (some ⟨t, 0, none⟩), .int .i64 c] [Tx (TxP.new t sb db 640) (slotT 1 (fuL a 200))] (fun v H => v = .tuple #[.int .i64 1, .int .i64 0] ∧ H = [Tx (TxP.new t sb db 640) (slotT 1 ((fuL a 200).map (Sl.fr c)))]) := by
        have := sFree_does (TxP.new t sb db 640) (fuL a 200) c (by omega) (by omega) hok (room _ (by omega))
        rw [hfr] at this
        exact this
      obtain ⟨hft, hfe⟩ := fuL_free (a := a) hc.1 hc.2
      have hT : Does Tryz.prog 18 [.pointer (some ⟨t, 0, none⟩), .int .i64 5, .int .u64 a] [Tx (TxP.new t sb db 640) (slotT 1 ((fuL a 200).map (Sl.fr c)))] (fun v H => v = .tuple #[.agg #[.int .i64 c, .int .i64 5, .int .i64 2, .int .u64 a], .int .i64 0] ∧ H = [Tx (TxP.new t sb db 640) (slotT 1 (takeL ((fuL a 200).map (Sl.fr c)) 5 a))]) := by
        have hml : ((fuL a 200).map (Sl.fr c)).length = 200 := by rw [List.length_map, hlen]
        have := slotTake_does (TxP.new t sb db 640) ((fuL a 200).map (Sl.fr c)) 5 a (by omega) (by omega) (by omega) (fun s hs => by
          obtain ⟨s', h1, rfl⟩ := List.mem_map.1 hs
          exact fr_ok (hok _ h1)) (room _ (by omega)) (fun s hs q => by
          obtain ⟨s', h1, rfl⟩ := List.mem_map.1 hs
          by_cases z : s'.cap ≠ 0 ∧ s'.cap = c
          · have e : Sl.fr c s' = ⟨0, s'.epoch + 1, 0⟩ := by unfold Sl.fr; rw [if_pos z]
            rw [e] at q
            exact q.1 rfl
          · have e : Sl.fr c s' = s' := by unfold Sl.fr; rw [if_neg z]
            rw [e] at q
            exact hu s' h1 q) (by omega)
        rw [hft, hfe, show 1 + (c - 1) = c by omega] at this
        exact this
      have ewa : IntKind.u64.wrap (a : Int) = a := wrapU64 (by omega)
      (repeat' (first | refine g_seq (h := ?_) | refine g_region (h := ?_) | refine l_nil (h := ?_) | refine n_then (h := ?_) | refine l_pures1 (h := ?_) | refine g_exit (h := ?_) | refine n_then_exit (h := ?_) | refine n_block_hit (h := ?_) | refine g_cond_f (h := ?_)))
      rw [ewa]
      (repeat (first | refine g_seq (h := ?_) | refine g_region (h := ?_) | refine l_nil (h := ?_) | refine n_then (h := ?_) | refine l_pures1 (h := ?_) | (refine l_atc ?_; refine l_call (hFull) ?_) | (refine l_atc ?_; refine l_call (hFree) ?_) | refine l_store (h := ?_) | (refine l_alloc (h := ?_); intro _)))
      rw [ewa]
      (repeat' (first | refine g_seq (h := ?_) | refine g_region (h := ?_) | refine l_nil (h := ?_) | refine n_then (h := ?_) | refine l_pures1 (h := ?_) | (refine l_atc ?_; refine l_call (hT) ?_) | refine l_guard_yes (h := ?_) | refine l_load (h := ?_) | refine l_store (h := ?_) | (refine l_alloc (h := ?_); intro _) | refine g_ret (h := ?_) | (refine l_spT (h := ?_); intro h)))
      refine r_retk [] ?_
      exact ⟨by simp [packV], rfl⟩
  all_goals first
    | exact Nat.zero_le _
    | rfl
    | (intro _ i; exact i)
theorem full_at (t sb db a : Nat) (z : Int) (c : Nat) (hz : z = c) (ha : a < 4294967296) (hc : 1 ≤ c ∧ c ≤ 200) (w0 : World) (F0 : Nat → Prop) :
    G Tryz.prog 101 w0 F0 (nav [1, 1, 1, 1, 1, 1, 1] (bdy Tryz.f4)) (Post Tryz.prog Tryz.f4 w0 F0 (fun v H => v = .bool true ∧ H = []))
      [(6, .pointer (some ⟨t, 0, none⟩)), (5, .bool true), (0, .int .u32 a), (1, .int .i64 z)] [] [Tx (TxP.new t sb db 640) []] := by
  subst hz
  exact full_loop t sb db a c ha hc w0 F0
theorem SlotFull_does (first cap : Int) (h1 : 0 ≤ first ∧ first < 4294967296) (h2 : -9223372036854775808 ≤ cap ∧ cap < 9223372036854775808) :
    Does Tryz.prog 4 [.int .u32 first, .int .i64 cap] [] (fun v H => v = .bool true ∧ H = []) := by
  obtain ⟨a, rfl⟩ : ∃ a : Nat, first = a := ⟨first.toNat, by omega⟩
  have key : ∀ (c : Int), 0 ≤ c → c < 9223372036854775808 → ∃ m : Nat, (1 ≤ m ∧ m ≤ 200) ∧ IntKind.i64.wrap (1 + c.tmod 200) = m := fun c k1 k2 => by
    refine ⟨1 + c.toNat % 200, by omega, ?_⟩
    rw [Int.tmod_eq_emod_of_nonneg k1, wrapI64 (by omega)]; omega
  by_cases hneg : cap < 0
  · have e1 : IntKind.i64.wrap (0 - IntKind.i64.wrap (cap + 1)) = -(cap + 1) := by rw [wrapI64 (n := cap + 1) (by omega), wrapI64 (by omega)]; omega
    obtain ⟨m, hm, e2⟩ := key (IntKind.i64.wrap (0 - IntKind.i64.wrap (cap + 1))) (by omega) (by omega)
    refine does_of Tryz.func4 Tryz.ntmps4 rfl rfl rfl (fun w0 F0 => ?_)
    (repeat' (first | ((with_reducible show G _ _ _ _ (Code.seq (Code.seq (Code.region 10 _ _) _) _) _ _ _ _); exact g_bang (full_at _ _ _ a _ m e2 (by omega) hm _ _)) | refine g_seq (h := ?_) | refine g_region (h := ?_) | refine l_nil (h := ?_) | refine n_then (h := ?_) | refine l_pures1 (h := ?_) | (refine l_atc ?_; refine l_call (examples17_does) ?_) | (refine l_atc ?_; refine l_call_ (made17_does) ?_; rintro _ _ _ ⟨t, db, sb, rfl, rfl⟩ he; cases he) | refine g_skip (h := ?_) | refine g_cond_f (h := ?_) | (refine g_spT (h := ?_); intro h)))
  · obtain ⟨m, hm, e2⟩ := key cap (by omega) (by omega)
    refine does_of Tryz.func4 Tryz.ntmps4 rfl rfl rfl (fun w0 F0 => ?_)
    (repeat' (first | ((with_reducible show G _ _ _ _ (Code.seq (Code.seq (Code.region 10 _ _) _) _) _ _ _ _); exact g_bang (full_at _ _ _ a _ m e2 (by omega) hm _ _)) | refine g_seq (h := ?_) | refine g_region (h := ?_) | refine l_nil (h := ?_) | refine n_then (h := ?_) | refine l_pures1 (h := ?_) | (refine l_atc ?_; refine l_call (examples17_does) ?_) | (refine l_atc ?_; refine l_call_ (made17_does) ?_; rintro _ _ _ ⟨t, db, sb, rfl, rfl⟩ he; cases he) | refine g_skip (h := ?_) | refine g_cond_f (h := ?_) | (refine g_spF (h := ?_); intro h)))
end Go.Proofs.YtbdgnjlbmhnipaaGreat

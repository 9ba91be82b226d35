/- The framework, part 6: how a function is entered, and how it ends. -/
import Derived.Test.YtcbcpgaehdoekaaSlE
set_option linter.unusedVariables false
set_option linter.unusedSimpArgs false
namespace Go.Proofs.Ytcbcpgaehdoekaa.SL

def numberO : Nat → List Value → Option (List (Nat × Value))
  | _, [] => some []
  | i, v :: l => match numberO (i + 1) l with
    | some r => some ((i, v) :: r)
    | none => none
def number : Nat → List Value → List (Nat × Value)
  | _, [] => []
  | i, v :: l => (i, v) :: number (i + 1) l
theorem numberO_eq : ∀ {l : List Value} {i : Nat} {r : List (Nat × Value)}, numberO i l = some r → r = number i l
  | [], _, _, e => by simp [numberO] at e; subst e; rfl
  | v :: l, i, r, e => by
    simp only [numberO] at e
    cases h : numberO (i + 1) l with
    | none => rw [h] at e; cases e
    | some q =>
      rw [h] at e
      simp only [Option.some.injEq] at e
      subst e
      rw [numberO_eq h]
      rfl
theorem number_get : ∀ {l : List Value} {i t : Nat} {v : Value}, tget (number i l) t = some v → i ≤ t ∧ l[t - i]? = some v
  | [], _, _, _, e => by simp [number, tget] at e
  | u :: l, i, t, v, e => by
    simp only [number, tget] at e
    by_cases q : Nat.beq i t = true
    · rw [q] at e
      have := Nat.eq_of_beq_eq_true q
      subst this
      simp only [cond_true, Option.some.injEq] at e
      subst e
      simp
    · rw [Bool.eq_false_iff.2 q] at e
      obtain ⟨h1, h2⟩ := number_get e
      refine ⟨by omega, ?_⟩
      rw [show t - i = (t - (i + 1)) + 1 by omega]
      simpa using h2

/-- What a function's body is to come to. -/
def Post (P : Program) (fn : Func) (w0 : World) (F0 : Nat → Prop) (q : Value → List SProp → Prop) : Exit → Act → World → Prop :=
  bodyPost P fn fun e w' => ∃ v H', e = .returned v ∧ q v H' ∧ Inv w0 F0 H' w'

theorem does_of {P : Program} {f : FuncId} {fn : Func} {c : Code} {args : List Value} {H : List SProp} {q : Value → List SProp → Prop} {n : Nat} {tm : List (Nat × Value)} (hf : P.funcs[f]? = some fn) (hm : fn.ntmps = n) (hb : fn.body = some c)
    (hn : Nat.ble args.length n = true) (hnum : numberO 0 args = some tm) (h : ∀ w0 F0, G P n w0 F0 c (Post P fn w0 F0 q) tm [] H) : Does P f args H q := by
  subst hm
  obtain rfl := numberO_eq hnum
  intro w F s
  refine calls_of_wp hf hb (h w F _ w ⟨⟨?_, ?_⟩, rfl, Inv.start s⟩)
  · have : args.length ≤ fn.ntmps := by simpa using hn
    simp; omega
  · intro t v e
    obtain ⟨_, h2⟩ := number_get e
    simp only [Nat.sub_zero] at h2
    have hlt : t < args.length := (List.getElem?_eq_some_iff.1 h2).1
    have e2 : args[t] = v := by rw [List.getElem?_eq_getElem hlt] at h2; exact Option.some.inj h2
    simp [Array.getElem?_append, hlt, e2]

/-- What a function hands back, out of its slots and of its own memory. -/
inductive ResV (E : Env) (tm : List (Nat × Value)) (H : List SProp) : List ResultVar → List Value → Prop
  | nil : ResV E tm H [] []
  | tmp {t : Nat} {v : Value} {rs : List ResultVar} {vs : List Value} : tget tm t = some v → ResV E tm H rs vs → ResV E tm H (.tmp t :: rs) (v :: vs)
  | cell {x t b off : Nat} {c : List Value} {T : TypeId} {H' : List SProp} {v : Value} {rs : List ResultVar} {vs : List Value} : tget tm x = some (.pointer (some ⟨b, off, none⟩)) →
      Take (cl b T c) H H' → partV E t c off = some v → ResV E tm H rs vs → ResV E tm H (.cell x t :: rs) (v :: vs)

def packV : List Value → Value
  | [v] => v
  | vs => .tuple vs.toArray

section
variable {P : Program} {E : Env} {n : Nat} {w0 : World} {F0 : Nat → Prop} {tm : List (Nat × Value)} {H H' : List SProp}

def resOf (tmps : Array Value) : ResultVar → Sem Value
  | .tmp t => pure (tmps.getD t undef)
  | .cell a t => do loadVar t (← asAddr (tmps.getD a undef))
theorem results_eq (fn : Func) (tmps : Array Value) : results fn tmps = (do
    let vs ← fn.results.mapM (resOf tmps)
    pure (if h : vs.size = 1 then vs[0] else .tuple vs)) := rfl

theorem resV_run {a : Act} {w : World} (k : EnvOk P E) (ht : Tm n tm a) (hi : Inv w0 F0 H w) {rs : List ResultVar} {vs : List Value} (h : ResV E tm H rs vs) :
    (rs.mapM (resOf a.tmps)).run P w = .ok vs w := by
  induction h with
  | nil => simp
  | tmp e _ ih =>
    rw [List.mapM_cons]
    simp only [resOf, Sem.run_bind, Sem.run_pure, Result.andThen, ht.get _ _ e, ih]
  | cell e tk hv _ ih =>
    obtain ⟨fr, _, hw⟩ := (hi.take tk).cell
    have := run_loadAt (P := P) k hw hv
    simp only [Instr.loadAt, Instr.sureAddr, Sem.run_bind, Sem.run_pure, Result.andThen] at this
    have ea : ∀ {x b off : Nat}, tget tm x = some (.pointer (some ⟨b, off, none⟩)) → asAddr (a.tmps.getD x undef) = pure ⟨b, off, none⟩ := fun e => by rw [ht.get _ _ e]; rfl
    rw [List.mapM_cons]
    simp only [resOf, Sem.run_bind, Sem.run_pure, Result.andThen, ea e, this, ih]

theorem results_run {a : Act} {w : World} {fn : Func} {rs : List ResultVar} {vs : List Value} (k : EnvOk P E) (hr : fn.results = rs.toArray) (ht : Tm n tm a) (hi : Inv w0 F0 H w) (h : ResV E tm H rs vs) :
    (results fn a.tmps).run P w = .ok (packV vs) w := by
  rw [results_eq, hr, Array.mapM_eq_mapM_toList]
  have := resV_run (P := P) k ht hi h
  simp only [Sem.run_bind, Sem.run_map, List.toList_toArray, this, Result.andThen, Sem.run_pure]
  congr 1
  match vs with
  | [] => rfl
  | [v] => rfl
  | _ :: _ :: _ => simp [packV]

theorem n_ret {fn : Func} {q : Value → List SProp → Prop} {rs : List ResultVar} {vs : List Value} (k : EnvOk P E) (hr : fn.results = rs.toArray) (hv : ResV E tm H rs vs) (hq : ∃ H', q (packV vs) H' ∧ ∀ {w}, Inv w0 F0 H w → Inv w0 F0 H' w) :
    N n w0 F0 .ret (Post P fn w0 F0 q) tm [] H := by
  intro a w s
  obtain ⟨H', h1, h2⟩ := hq
  exact ⟨s.defers, _, results_run k hr s.tm s.inv hv, _, H', rfl, h1, h2 s.inv⟩
theorem n_end {fn : Func} {q : Value → List SProp → Prop} {rs : List ResultVar} {vs : List Value} (k : EnvOk P E) (hr : fn.results = rs.toArray) (hv : ResV E tm H rs vs) (hq : ∃ H', q (packV vs) H' ∧ ∀ {w}, Inv w0 F0 H w → Inv w0 F0 H' w) :
    N n w0 F0 .normal (Post P fn w0 F0 q) tm [] H := by
  intro a w s
  obtain ⟨H', h1, h2⟩ := hq
  exact ⟨s.defers, _, results_run k hr s.tm s.inv hv, _, H', rfl, h1, h2 s.inv⟩
end

/-- A law that owns nothing: what a row asks of it. -/
theorem row_of {P : Program} {f : FuncId} {args : List Value} {q : Value → List SProp → Prop} (d : Does P f args [] q) (hq : ∀ v H, q v H → v = .bool true) (W : World) :
    Calls P f args.toArray W fun e W' => e = .returned (.bool true) ∧ Go.RowKit.Below W.heap.size W W' := by
  refine (d W (fun _ => False) (fun _ h => h)).mono ?_
  rintro e W' ⟨v, H', rfl, hv, i⟩
  rw [hq v H' hv]
  exact ⟨rfl, i.os, i.tape, i.output, i.size, fun k hk => i.frame k hk (fun h => h)⟩
/-- What stands in H, in whatever order, all else forgotten. -/
theorem keep {w0 w : World} {F0 : Nat → Prop} {K H H' : List SProp} (p : Parts K H H') (i : Inv w0 F0 H w) : Inv w0 F0 K w := (i.parts p).drop
end Go.Proofs.Ytcbcpgaehdoekaa.SL

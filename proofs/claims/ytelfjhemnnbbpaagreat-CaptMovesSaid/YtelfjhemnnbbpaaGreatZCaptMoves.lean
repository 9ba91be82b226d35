/- CaptMoves: for every input the law returns true and the arguments read as they did. No condition beyond the row's own. -/
import Derived.Test.YtelfjhemnnbbpaaGreatRows
import Derived.WalkKit
import Derived.ProofKit
import Derived.OpenShut
import Derived.ShutString
import Derived.ChangeOld
import Derived.Below
import Derived.SizedLaws
import Derived.ChangeMaps5
import Derived.Test.YtelfjhemnnbbpaaGreatK12
namespace Go.Proofs.YtelfjhemnnbbpaaGreat.captMoves
open Go.ChangeShapes Go.WideShapes Go.ChangeAt Go.RowKit
set_option linter.unusedVariables false
theorem own : ownKnob Tryz.prog.godebug = none := by kernel_rfl
set_option maxRecDepth 100000 in
theorem lifted (os : Os) (started : os.Started) (H : Type) (enc : TypeId × Value → H) :
    ReturnsInHanded {} Tryz.checked os 4 .any (Rows.captMovesSpec.pre6 enc Tryz.prog Tryz.f4 Rows.captMovesRow.domain false) (Rows.captMovesSpec.post enc Tryz.prog Tryz.f4 false true false false) := by
  refine returnsInHanded_of_change_sized (C := Tryz.checked) own started (by kernel_rfl) Tryz.func4
    (ChangeSpec.witness6 (enc := enc) (C := Tryz.checked) false ⟨#[], #[.int .u16 0, .int .u16 0, .int .u16 0], []⟩ 8 (by kernel_rfl) (by kernel_rfl) (by kernel_rfl) (by kernel_rfl)) ?_
  intro W base args ds gs before hval0 hW hcnd hsz0 _
  have hval : ∀ (j : Nat) t v, Tryz.f4.params[j]? = some t → args[j]? = some v → Value.okWide Tryz.prog W .any base t v := hval0
  have hW' := hW
  obtain ⟨p, q, hA0, hV, rfl, hfz, hnd⟩ := hW
  have hA : DataW.TrodAll enc Tryz.prog W 0 (fun _ => true) true Tryz.f4.params.toList args.toList ds p := hA0
  rw [Tryz.params4] at hA hval
  obtain ⟨v0, vs0, d0, ds0, p0, q0, hargs, rfl, rfl, h0, r0⟩ := trodAll_cons hA
  obtain ⟨v1, vs1, d1, ds1, p1, q1, rfl, rfl, rfl, h1, r1⟩ := trodAll_cons r0
  obtain ⟨v2, vs2, d2, ds2, p2, q2, rfl, rfl, rfl, h2, r2⟩ := trodAll_cons r1
  obtain ⟨rfl, rfl, rfl⟩ := trodAll_nil r2
  obtain rfl : args = #[v0, v1, v2] := by cases args; simp_all
  obtain ⟨rfl, rfl⟩ := trodVars_none hV
  obtain ⟨a0, rfl, rfl, rfl, w0⟩ := open_int Tryz.underlying36 (hval 0 36 v0 rfl rfl) h0
  obtain ⟨a1, rfl, rfl, rfl, w1⟩ := open_int Tryz.underlying36 (hval 1 36 v1 rfl rfl) h1
  obtain ⟨a2, rfl, rfl, rfl, w2⟩ := open_int Tryz.underlying36 (hval 2 36 v2 rfl rfl) h2
  clear hA0 hval0 hsz0
  refine (SL.row_of (CaptMoves_does a0 a1 a2 (wf_u16 w0) (wf_u16 w1) (wf_u16 w2)) (fun _ _ h => h.1) W).mono fun e W' ⟨he, bel⟩ => ?_
  subst he
  exact ⟨_, rfl, _, _, _, [], _, [], hW', trodAll_mk1 (shut_bool Tryz.underlying4 _), (trodAll_cons_mk (shut_int Tryz.underlying36 w0) (trodAll_cons_mk (shut_int Tryz.underlying36 w1) (trodAll_cons_mk (shut_int Tryz.underlying36 w2) trodAll_mk0))), rfl, bel.frame _, fun h => by cases h⟩
theorem joinB {a b : Bool} (h : a = true) (g : b = true) : (a && b) = true := by rw [h, g]; rfl
theorem join0 : laidOutB Tryz.pinned.checked.prog = true := by kernel_rfl
theorem join1 : mapsRowed Tryz.pinned.checked.prog = true := by kernel_rfl
theorem join2 : (Rows.captMovesRow.inPlace == Program.inPlace Tryz.pinned.checked.prog 4) = true := by kernel_rfl
theorem join3 : (Rows.captMovesRow.unfollowed == Program.unfollowed Tryz.pinned.checked.prog 4) = true := by kernel_rfl
theorem join4 : (Rows.captMovesRow.recurses == Program.recurses Tryz.pinned.checked.prog 4) = true := by kernel_rfl
theorem join5 : (Rows.captMovesRow.named == Program.varsNamed Tryz.pinned.checked.prog 4) = true := by kernel_rfl
theorem join6 : (Rows.captMovesRow.plainKeys == Program.plainKeys Tryz.pinned.checked.prog) = true := by kernel_rfl
theorem join7 : Program.stopsHeard Tryz.pinned.checked.prog = true := by kernel_rfl
theorem join8 : Program.mayEnter Tryz.pinned.checked.prog = true := by kernel_rfl
theorem join9 : (Rows.captMovesRow.lifted == Program.liftsFinal Tryz.pinned.checked.prog) = true := by kernel_rfl
theorem joined : joinedFacts Tryz.pinned.checked.prog 4 Tryz.f4 Rows.captMovesSpec Rows.captMovesRow = true := by
  unfold joinedFacts
  repeat' (with_reducible refine joinB ?_ ?_)
  all_goals first | (with_reducible exact join0) | (with_reducible exact join1) | (with_reducible exact join2) | (with_reducible exact join3) | (with_reducible exact join4) | (with_reducible exact join5) | (with_reducible exact join6) | (with_reducible exact join7) | (with_reducible exact join8) | (with_reducible exact join9) | kernel_rfl
theorem over : Rows.captMovesRow.holds Tryz.pinned (OpenSpec.ofChange Rows.captMovesSpec) :=
  OpenClaim.holds_of_wide 4 Tryz.f4 rfl rfl rfl rfl rfl rfl rfl ⟨rfl, rfl, rfl, rfl, rfl⟩ rfl rfl rfl rfl rfl (by kernel_rfl) Tryz.func4 joined
    (of_decide_eq_true (by kernel_rfl)) (by unfold Func.isWrapper; first | (rw [if_pos (by decide +kernel)]; kernel_rfl) | (rw [if_neg (by decide +kernel)]; exact ⟨rfl, rfl⟩))
    (fun os started H enc _ => lifted os started H enc)
theorem proved : Rows.CaptMovesSaid := over
#print axioms proved
end Go.Proofs.YtelfjhemnnbbpaaGreat.captMoves
namespace Go.Proofs.YtelfjhemnnbbpaaGreat
theorem captMoves_holds : Rows.CaptMovesSaid := captMoves.proved
end Go.Proofs.YtelfjhemnnbbpaaGreat

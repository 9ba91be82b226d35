/- CaptRights: for every input the law returns true and the arguments read as they did. No condition beyond the row's own. -/
import Derived.Test.YtelfjhemnnbbpaaGreatRows
import Derived.WalkKit
import Derived.ProofKit
import Derived.OpenShut
import Derived.ShutString
import Derived.ChangeOld
import Derived.Below
import Derived.SizedLaws
import Derived.ChangeMaps5
import Derived.Test.YtelfjhemnnbbpaaGreatK13
namespace Go.Proofs.YtelfjhemnnbbpaaGreat.captRights
open Go.ChangeShapes Go.WideShapes Go.ChangeAt Go.RowKit
set_option linter.unusedVariables false
theorem laid : laidOutB Tryz.prog = true := by kernel_rfl
theorem own : ownKnob Tryz.prog.godebug = none := by kernel_rfl
set_option maxRecDepth 100000 in
theorem lifted (os : Os) (started : os.Started) (H : Type) (enc : TypeId × Value → H) :
    ReturnsInHanded {} Tryz.checked os 8 .any (Rows.captRightsSpec.pre6 enc Tryz.prog Tryz.f8 Rows.captRightsRow.domain false) (Rows.captRightsSpec.post enc Tryz.prog Tryz.f8 false true false false) := by
  refine returnsInHanded_of_change_sized (C := Tryz.checked) own started (by kernel_rfl) Tryz.func8
    (ChangeSpec.witness6 (enc := enc) (C := Tryz.checked) false ⟨#[], #[.slice none 0 0], []⟩ 8 (by kernel_rfl) (by kernel_rfl) (by kernel_rfl) (by kernel_rfl)) ?_
  intro W base args ds gs before hval0 hW hcnd hsz0 _
  have hval : ∀ (j : Nat) t v, Tryz.f8.params[j]? = some t → args[j]? = some v → Value.okWide Tryz.prog W .any base t v := hval0
  have hW' := hW
  obtain ⟨p, q, hA0, hV, rfl, hfz, hnd⟩ := hW
  have hA : DataW.TrodAll enc Tryz.prog W 0 (fun _ => true) true Tryz.f8.params.toList args.toList ds p := hA0
  rw [Tryz.params8] at hA hval
  obtain ⟨v0, vs0, d0, ds0, p0, q0, hargs, rfl, rfl, h0, r0⟩ := trodAll_cons hA
  obtain ⟨rfl, rfl, rfl⟩ := trodAll_nil r0
  obtain rfl : args = #[v0] := by cases args; simp_all
  obtain ⟨rfl, rfl⟩ := trodVars_none hV
  obtain ⟨a0, c0, x0, o0, F0, rfl, s0, k0, z0, b0, n0⟩ := open_Ts Tryz.underlying49 Tryz.underlying91 (by kernel_rfl) (by kernel_rfl) (by simp) Tryz.underlying3 Tryz.underlying4 (Go.WideShapes.okWide_slice Tryz.underlying49 (hval 0 49 v0 rfl rfl)) h0
  have l0 : ∀ x ∈ p0, x.block < W.heap.size := by obtain ⟨fu, hf⟩ := h0; exact DataW.trod_lt _ _ _ _ hf
  clear hA0 hval0 hsz0
  refine (SL.row_ofA (CaptRights_does a0 x0 c0 o0 b0 n0) k0 s0).mono fun e W' ⟨he, bel⟩ => ?_
  subst he
  exact ⟨_, rfl, _, _, _, [], _, [], hW', trodAll_mk1 (shut_bool Tryz.underlying4 _), (trodAll_cons_mk (Below.trod laid (by kernel_rfl) (of_decide_eq_true (by kernel_rfl)) h0 bel l0) trodAll_mk0), rfl, bel.frame _, fun h => by cases h⟩
theorem joinB {a b : Bool} (h : a = true) (g : b = true) : (a && b) = true := by rw [h, g]; rfl
theorem join0 : laidOutB Tryz.pinned.checked.prog = true := by kernel_rfl
theorem join1 : mapsRowed Tryz.pinned.checked.prog = true := by kernel_rfl
theorem join2 : (Rows.captRightsRow.inPlace == Program.inPlace Tryz.pinned.checked.prog 8) = true := by kernel_rfl
theorem join3 : (Rows.captRightsRow.unfollowed == Program.unfollowed Tryz.pinned.checked.prog 8) = true := by kernel_rfl
theorem join4 : (Rows.captRightsRow.recurses == Program.recurses Tryz.pinned.checked.prog 8) = true := by kernel_rfl
theorem join5 : (Rows.captRightsRow.named == Program.varsNamed Tryz.pinned.checked.prog 8) = true := by kernel_rfl
theorem join6 : (Rows.captRightsRow.plainKeys == Program.plainKeys Tryz.pinned.checked.prog) = true := by kernel_rfl
theorem join7 : Program.stopsHeard Tryz.pinned.checked.prog = true := by kernel_rfl
theorem join8 : Program.mayEnter Tryz.pinned.checked.prog = true := by kernel_rfl
theorem join9 : (Rows.captRightsRow.lifted == Program.liftsFinal Tryz.pinned.checked.prog) = true := by kernel_rfl
theorem joined : joinedFacts Tryz.pinned.checked.prog 8 Tryz.f8 Rows.captRightsSpec Rows.captRightsRow = true := by
  unfold joinedFacts
  repeat' (with_reducible refine joinB ?_ ?_)
  all_goals first | (with_reducible exact join0) | (with_reducible exact join1) | (with_reducible exact join2) | (with_reducible exact join3) | (with_reducible exact join4) | (with_reducible exact join5) | (with_reducible exact join6) | (with_reducible exact join7) | (with_reducible exact join8) | (with_reducible exact join9) | kernel_rfl
theorem over : Rows.captRightsRow.holds Tryz.pinned (OpenSpec.ofChange Rows.captRightsSpec) :=
  OpenClaim.holds_of_wide 8 Tryz.f8 rfl rfl rfl rfl rfl rfl rfl ⟨rfl, rfl, rfl, rfl, rfl⟩ rfl rfl rfl rfl rfl (by kernel_rfl) Tryz.func8 joined
    (of_decide_eq_true (by kernel_rfl)) (by unfold Func.isWrapper; first | (rw [if_pos (by decide +kernel)]; kernel_rfl) | (rw [if_neg (by decide +kernel)]; exact ⟨rfl, rfl⟩))
    (fun os started H enc _ => lifted os started H enc)
theorem proved : Rows.CaptRightsSaid := over
#print axioms proved
end Go.Proofs.YtelfjhemnnbbpaaGreat.captRights
namespace Go.Proofs.YtelfjhemnnbbpaaGreat
theorem captRights_holds : Rows.CaptRightsSaid := captRights.proved
end Go.Proofs.YtelfjhemnnbbpaaGreat

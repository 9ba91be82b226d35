/- LeaseKeys: for every input the law returns true and the arguments read as they did. No condition beyond the row's own. -/
import Derived.Test.YthmdianikbimfaaGreatRows
import Derived.WalkKit
import Derived.ProofKit
import Derived.OpenShut
import Derived.ShutString
import Derived.ChangeOld
import Derived.Below
import Derived.SizedLaws
import Derived.ChangeMaps5
import Derived.Test.YthmdianikbimfaaGreatK12
namespace Go.Proofs.YthmdianikbimfaaGreat.leaseKeys
open Go.ChangeShapes Go.WideShapes Go.ChangeAt Go.RowKit
set_option linter.unusedVariables false
theorem laid : laidOutB Tryz.prog = true := by kernel_rfl
theorem own : ownKnob Tryz.prog.godebug = none := by kernel_rfl
set_option maxRecDepth 100000 in
theorem lifted (os : Os) (started : os.Started) (H : Type) (enc : TypeId × Value → H) :
    ReturnsInHanded {} Tryz.checked os 3 .any (Rows.leaseKeysSpec.pre6 enc Tryz.prog Tryz.f3 Rows.leaseKeysRow.domain false) (Rows.leaseKeysSpec.post enc Tryz.prog Tryz.f3 false true false false) := by
  refine returnsInHanded_of_change_sized (C := Tryz.checked) own started (by kernel_rfl) Tryz.func3
    (ChangeSpec.witness6 (enc := enc) (C := Tryz.checked) false ⟨#[], #[.slice none 0 0, .slice none 0 0], []⟩ 8 (by kernel_rfl) (by kernel_rfl) (by kernel_rfl) (by kernel_rfl)) ?_
  intro W base args ds gs before hval0 hW hcnd hsz0 _
  have hval : ∀ (j : Nat) t v, Tryz.f3.params[j]? = some t → args[j]? = some v → Value.okWide Tryz.prog W .any base t v := hval0
  have hW' := hW
  obtain ⟨p, q, hA0, hV, rfl, hfz, hnd⟩ := hW
  have hA : DataW.TrodAll enc Tryz.prog W 0 (fun _ => true) true Tryz.f3.params.toList args.toList ds p := hA0
  rw [Tryz.params3] at hA hval
  obtain ⟨v0, vs0, d0, ds0, p0, q0, hargs, rfl, rfl, h0, r0⟩ := trodAll_cons hA
  obtain ⟨v1, vs1, d1, ds1, p1, q1, rfl, rfl, rfl, h1, r1⟩ := trodAll_cons r0
  obtain ⟨rfl, rfl, rfl⟩ := trodAll_nil r1
  obtain rfl : args = #[v0, v1] := by cases args; simp_all
  obtain ⟨rfl, rfl⟩ := trodVars_none hV
  obtain ⟨a0, c0, x0, o0, F0, rfl, s0, k0, z0, b0, n0⟩ := open_Zs Tryz.underlying22 Tryz.underlying3 (by kernel_rfl) (Go.WideShapes.okWide_slice Tryz.underlying22 (hval 0 22 v0 rfl rfl)) h0
  have l0 : ∀ x ∈ p0, x.block < W.heap.size := by obtain ⟨fu, hf⟩ := h0; exact DataW.trod_lt _ _ _ _ hf
  obtain ⟨a1, c1, x1, o1, F1, rfl, s1, k1, z1, b1, n1⟩ := open_Zs Tryz.underlying22 Tryz.underlying3 (by kernel_rfl) (Go.WideShapes.okWide_slice Tryz.underlying22 (hval 1 22 v1 rfl rfl)) h1
  have l1 : ∀ x ∈ p1, x.block < W.heap.size := by obtain ⟨fu, hf⟩ := h1; exact DataW.trod_lt _ _ _ _ hf
  clear hA0 hval0 hsz0
  obtain ⟨A, R1, R2, F, sA, kA, op1, sh1, op2, sh2⟩ := SL.ins_two s0 k0 z0 s1 k1 z1
  refine (SL.row_ofA (LeaseKeys_does A R1 R2 a0 a1 x0 x1 c0 c1 o0 o1 b0 b1 n0 n1 op1 sh1 op2 sh2) kA sA).mono fun e W' ⟨he, bel⟩ => ?_
  subst he
  exact ⟨_, rfl, _, _, _, [], _, [], hW', trodAll_mk1 (shut_bool Tryz.underlying4 _), (trodAll_cons_mk (Below.trod laid (by kernel_rfl) (of_decide_eq_true (by kernel_rfl)) h0 bel l0) (trodAll_cons_mk (Below.trod laid (by kernel_rfl) (of_decide_eq_true (by kernel_rfl)) h1 bel l1) trodAll_mk0)), rfl, bel.frame _, fun h => by cases h⟩
theorem joinB {a b : Bool} (h : a = true) (g : b = true) : (a && b) = true := by rw [h, g]; rfl
theorem join0 : laidOutB Tryz.pinned.checked.prog = true := by kernel_rfl
theorem join1 : mapsRowed Tryz.pinned.checked.prog = true := by kernel_rfl
theorem join2 : (Rows.leaseKeysRow.inPlace == Program.inPlace Tryz.pinned.checked.prog 3) = true := by kernel_rfl
theorem join3 : (Rows.leaseKeysRow.unfollowed == Program.unfollowed Tryz.pinned.checked.prog 3) = true := by kernel_rfl
theorem join4 : (Rows.leaseKeysRow.recurses == Program.recurses Tryz.pinned.checked.prog 3) = true := by kernel_rfl
theorem join5 : (Rows.leaseKeysRow.named == Program.varsNamed Tryz.pinned.checked.prog 3) = true := by kernel_rfl
theorem join6 : (Rows.leaseKeysRow.plainKeys == Program.plainKeys Tryz.pinned.checked.prog) = true := by kernel_rfl
theorem join7 : Program.stopsHeard Tryz.pinned.checked.prog = true := by kernel_rfl
theorem join8 : Program.mayEnter Tryz.pinned.checked.prog = true := by kernel_rfl
theorem join9 : (Rows.leaseKeysRow.lifted == Program.liftsFinal Tryz.pinned.checked.prog) = true := by kernel_rfl
theorem joined : joinedFacts Tryz.pinned.checked.prog 3 Tryz.f3 Rows.leaseKeysSpec Rows.leaseKeysRow = true := by
  unfold joinedFacts
  repeat' (with_reducible refine joinB ?_ ?_)
  all_goals first | (with_reducible exact join0) | (with_reducible exact join1) | (with_reducible exact join2) | (with_reducible exact join3) | (with_reducible exact join4) | (with_reducible exact join5) | (with_reducible exact join6) | (with_reducible exact join7) | (with_reducible exact join8) | (with_reducible exact join9) | kernel_rfl
theorem over : Rows.leaseKeysRow.holds Tryz.pinned (OpenSpec.ofChange Rows.leaseKeysSpec) :=
  OpenClaim.holds_of_wide 3 Tryz.f3 rfl rfl rfl rfl rfl rfl rfl ⟨rfl, rfl, rfl, rfl, rfl⟩ rfl rfl rfl rfl rfl (by kernel_rfl) Tryz.func3 joined
    (of_decide_eq_true (by kernel_rfl)) (by unfold Func.isWrapper; first | (rw [if_pos (by decide +kernel)]; kernel_rfl) | (rw [if_neg (by decide +kernel)]; exact ⟨rfl, rfl⟩))
    (fun os started H enc _ => lifted os started H enc)
theorem proved : Rows.LeaseKeysSaid := over
#print axioms proved
end Go.Proofs.YthmdianikbimfaaGreat.leaseKeys
namespace Go.Proofs.YthmdianikbimfaaGreat
theorem leaseKeys_holds : Rows.LeaseKeysSaid := leaseKeys.proved
end Go.Proofs.YthmdianikbimfaaGreat

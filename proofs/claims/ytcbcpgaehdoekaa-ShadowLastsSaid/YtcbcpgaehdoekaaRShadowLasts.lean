/- ShadowLasts: for every input the law returns true and the arguments read as they did. No condition beyond the row's own. -/
import Derived.Test.YtcbcpgaehdoekaaRows
import Derived.Test.YtcbcpgaehdoekaaLwL
import Derived.Test.YtcbcpgaehdoekaaRowS
import Derived.WalkKit
import Derived.ProofKit
import Derived.OpenShut
import Derived.ShutString
import Derived.ChangeOld
import Derived.Below
import Derived.SizedLaws
import Derived.ChangeMaps5
namespace Go.Proofs.Ytcbcpgaehdoekaa.shadowLasts
open Go.ChangeShapes Go.WideShapes Go.ChangeAt Go.RowKit
set_option linter.unusedVariables false
theorem laid : laidOutB Try.prog = true := by kernel_rfl
theorem own : ownKnob Try.prog.godebug = none := by kernel_rfl
set_option maxRecDepth 100000 in
theorem lifted (os : Os) (started : os.Started) (H : Type) (enc : TypeId × Value → H) :
    ReturnsInHanded {} Try.checked os 6 .any (Rows.shadowLastsSpec.pre6 enc Try.prog Try.f6 Rows.shadowLastsRow.domain false) (Rows.shadowLastsSpec.post enc Try.prog Try.f6 false true false false) := by
  refine returnsInHanded_of_change_sized (C := Try.checked) own started (by kernel_rfl) Try.func6
    (ChangeSpec.witness6 (enc := enc) (C := Try.checked) false ⟨#[], #[.slice none 0 0, .int .i64 0, .slice none 0 0], []⟩ 8 (by kernel_rfl) (by kernel_rfl) (by kernel_rfl) (by kernel_rfl)) ?_
  intro W base args ds gs before hval0 hW hcnd hsz0 _
  have hval : ∀ (j : Nat) t v, Try.f6.params[j]? = some t → args[j]? = some v → Value.okWide Try.prog W .any base t v := hval0
  have hW' := hW
  obtain ⟨p, q, hA0, hV, rfl, hfz, hnd⟩ := hW
  have hA : DataW.TrodAll enc Try.prog W 0 (fun _ => true) true Try.f6.params.toList args.toList ds p := hA0
  rw [Try.params6] at hA hval
  obtain ⟨v0, vs0, d0, ds0, p0, q0, hargs, rfl, rfl, h0, r0⟩ := trodAll_cons hA
  obtain ⟨v1, vs1, d1, ds1, p1, q1, rfl, rfl, rfl, h1, r1⟩ := trodAll_cons r0
  obtain ⟨v2, vs2, d2, ds2, p2, q2, rfl, rfl, rfl, h2, r2⟩ := trodAll_cons r1
  obtain ⟨rfl, rfl, rfl⟩ := trodAll_nil r2
  obtain rfl : args = #[v0, v1, v2] := by cases args; simp_all
  obtain ⟨rfl, rfl⟩ := trodVars_none hV
  obtain ⟨a0, c0, x0, o0, F0, rfl, s0, k0, z0, b0, n0⟩ := open_Ss Try.underlying40 Try.underlying9 (by kernel_rfl) (Go.WideShapes.okWide_slice Try.underlying40 (hval 0 40 v0 rfl rfl)) h0
  have l0 : ∀ x ∈ p0, x.block < W.heap.size := by obtain ⟨fu, hf⟩ := h0; exact DataW.trod_lt _ _ _ _ hf
  obtain ⟨a1, rfl, rfl, rfl, w1⟩ := open_int Try.underlying3 (hval 1 3 v1 rfl rfl) h1
  obtain ⟨a2, c2, x2, o2, F2, rfl, s2, k2, z2, b2, n2⟩ := open_Zs Try.underlying33 Try.underlying3 (by kernel_rfl) (Go.WideShapes.okWide_slice Try.underlying33 (hval 2 33 v2 rfl rfl)) h2
  have l2 : ∀ x ∈ p2, x.block < W.heap.size := by obtain ⟨fu, hf⟩ := h2; exact DataW.trod_lt _ _ _ _ hf
  clear hA0 hval0 hsz0
  obtain ⟨A, R1, R2, F, sA, kA, op1, sh1, op2, sh2⟩ := SL.ins_two s0 k0 z0 s2 k2 z2
  refine (SL.row_ofA (ShadowLasts_does x0 a0 c0 o0 o2 a1 x2 a2 c2 A R1 R2 op1 sh1 op2 sh2 n0 b0 n2 (wf_i64 w1)) kA sA).mono fun e W' ⟨he, bel⟩ => ?_
  subst he
  exact ⟨_, rfl, _, _, _, [], _, [], hW', trodAll_mk1 (shut_bool Try.underlying4 _), (trodAll_cons_mk (Below.trod laid (by kernel_rfl) (of_decide_eq_true (by kernel_rfl)) h0 bel l0) (trodAll_cons_mk (shut_int Try.underlying3 w1) (trodAll_cons_mk (Below.trod laid (by kernel_rfl) (of_decide_eq_true (by kernel_rfl)) h2 bel l2) trodAll_mk0))), rfl, bel.frame _, fun h => by cases h⟩
theorem over : Rows.shadowLastsRow.holds Try.pinned (OpenSpec.ofChange Rows.shadowLastsSpec) :=
  OpenClaim.holds_of_wide 6 Try.f6 rfl rfl rfl rfl rfl rfl rfl ⟨rfl, rfl, rfl, rfl, rfl⟩ rfl rfl rfl rfl rfl (by kernel_rfl) Try.func6 (by kernel_rfl)
    (of_decide_eq_true (by kernel_rfl)) (by unfold Func.isWrapper; first | (rw [if_pos (by decide +kernel)]; kernel_rfl) | (rw [if_neg (by decide +kernel)]; exact ⟨rfl, rfl⟩))
    (fun os started H enc _ => lifted os started H enc)
theorem proved : Rows.ShadowLastsSaid := over
#print axioms proved
end Go.Proofs.Ytcbcpgaehdoekaa.shadowLasts
namespace Go.Proofs.Ytcbcpgaehdoekaa
theorem shadowLasts_holds : Rows.ShadowLastsSaid := shadowLasts.proved
end Go.Proofs.Ytcbcpgaehdoekaa

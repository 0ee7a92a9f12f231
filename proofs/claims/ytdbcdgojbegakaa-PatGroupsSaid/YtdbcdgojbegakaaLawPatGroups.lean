/-
For every pattern, exerguelaw10.PatGroups returns true and its argument reads as it did; no condition.
-/
import Derived.Test.YtdbcdgojbegakaaRows
import Derived.Test.YtdbcdgojbegakaaL4
import Derived.Test.YtdbcdgojbegakaaOQ
import Derived.WalkKit
import Derived.OpenShut
import Derived.ChangeOld
import Derived.Below
namespace Go.Proofs.Ytdbcdgojbegakaa.patGroups
open Go.ChangeShapes Go.WideShapes Go.ChangeAt Go.RowKit Go.Joins
theorem own : ownKnob Try.prog.godebug = none := by kernel_rfl
theorem laidOut : laidOutB Try.prog = true := by kernel_rfl
set_option maxRecDepth 100000 in
theorem lifted (os : Os) (started : os.Started) (H : Type) (enc : TypeId × Value → H) :
    ReturnsInHanded {} Try.checked os 5 .any (Rows.patGroupsSpec.pre6 enc Try.prog Try.f5 Rows.patGroupsRow.domain false) (Rows.patGroupsSpec.post enc Try.prog Try.f5 false true false false) := by
  refine returnsInHanded_of_change_sized (C := Try.checked) own started (by kernel_rfl) Try.func5
    (ChangeSpec.witness6 (enc := enc) (C := Try.checked) false ⟨#[], #[.agg zCells], []⟩ 8 (by kernel_rfl) (by kernel_rfl) (by kernel_rfl) (by kernel_rfl)) ?_
  intro W base args ds gs before hval0 hW hcnd hsz0 _
  have hsz : (DataW.weightsEach Try.prog (Try.f5.params.toList ++ Rows.patGroupsSpec.plain.varTypes Try.prog) (ds ++ gs)).all (· ≤ reachBytes) = true := hsz0
  have hval : ∀ (j : Nat) t v, Try.f5.params[j]? = some t → args[j]? = some v → Value.okWide Try.prog W .any base t v := hval0
  have hW' := hW
  obtain ⟨p, q, hA0, hV, rfl, hfz, hnd⟩ := hW
  have hA : DataW.TrodAll enc Try.prog W 0 (fun _ => true) true Try.f5.params.toList args.toList ds p := hA0
  rw [Try.params5] at hA hval hsz
  obtain ⟨v0, vs0, d0, ds0, p0, q0, hargs, rfl, rfl, h0, r0⟩ := trodAll_cons hA
  obtain ⟨rfl, rfl, rfl⟩ := trodAll_nil r0
  obtain rfl : args = #[v0] := by cases args; simp_all
  obtain ⟨rfl, rfl⟩ := trodVars_none hV
  have lt0 : ∀ x ∈ p0, x.block < W.heap.size := by obtain ⟨m, hm⟩ := h0; exact DataW.trod_lt m _ _ _ hm
  have hz0 : (d0.weights Try.prog 24).all (· ≤ reachBytes) = true := by
    rw [List.all_eq_true] at hsz ⊢
    intro k hk
    exact hsz k (DataW.weights_mem_each (j := 0) (t := 24) (d := d0) rfl rfl k hk)
  obtain ⟨pt0, A01, A02, A03, A04, a01, a02, a03, a04, rfl, pin0⟩ := open_pat2 (hval 0 24 v0 rfl rfl) h0 hz0
  clear hA0 hval0 hsz0 hsz
  refine (patGroups_any W _ _ _ _ _ _ _ _ pt0 pin0).mono fun e W' ⟨he, hg⟩ => ?_
  subst he
  have bel := below_of_none hg
  exact ⟨_, rfl, _, _, _, [], _, [], hW', trodAll_mk1 (shut_bool Try.underlying4 _), (trodAll_cons_mk (Below.trod laidOut (by kernel_rfl) (of_decide_eq_true (by kernel_rfl)) h0 bel lt0) trodAll_mk0), rfl, bel.frame _, fun h => by cases h⟩
theorem over : Rows.patGroupsRow.holds Try.pinned (OpenSpec.ofChange Rows.patGroupsSpec) :=
  OpenClaim.holds_of_wide 5 Try.f5 rfl rfl rfl rfl rfl rfl rfl ⟨rfl, rfl, rfl, rfl, rfl⟩ rfl rfl rfl rfl rfl (by kernel_rfl) Try.func5 (by kernel_rfl)
    (of_decide_eq_true (by kernel_rfl)) (by unfold Func.isWrapper; first | (rw [if_pos (by decide +kernel)]; kernel_rfl) | (rw [if_neg (by decide +kernel)]; exact ⟨rfl, rfl⟩))
    (fun os started H enc _ => lifted os started H enc)
theorem proved : Rows.PatGroupsSaid := over
#print axioms proved
end Go.Proofs.Ytdbcdgojbegakaa.patGroups
namespace Go.Proofs.Ytdbcdgojbegakaa
/-- The row, under a short name, for the claim. -/
theorem patGroups_holds : Rows.PatGroupsSaid := patGroups.proved
end Go.Proofs.Ytdbcdgojbegakaa

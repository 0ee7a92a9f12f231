/-
For every pattern, every piece and every number k, exerguelaw10.PatSames returns true and its arguments read as they did; no condition.
-/
import Derived.Test.YtdbcdgojbegakaaRows
import Derived.Test.YtdbcdgojbegakaaL1
import Derived.Test.YtdbcdgojbegakaaOP
import Derived.WalkKit
import Derived.OpenShut
import Derived.ChangeOld
import Derived.Below
namespace Go.Proofs.Ytdbcdgojbegakaa.patSames
open Go.ChangeShapes Go.WideShapes Go.ChangeAt Go.RowKit Go.Joins
theorem own : ownKnob Try.prog.godebug = none := by kernel_rfl
theorem laidOut : laidOutB Try.prog = true := by kernel_rfl
set_option maxRecDepth 100000 in
theorem lifted (os : Os) (started : os.Started) (H : Type) (enc : TypeId × Value → H) :
    ReturnsInHanded {} Try.checked os 6 .any (Rows.patSamesSpec.pre6 enc Try.prog Try.f6 Rows.patSamesRow.domain false) (Rows.patSamesSpec.post enc Try.prog Try.f6 false true false false) := by
  refine returnsInHanded_of_change_sized (C := Try.checked) own started (by kernel_rfl) Try.func6
    (ChangeSpec.witness6 (enc := enc) (C := Try.checked) false ⟨#[], #[.agg zCells, .agg #[.int .i64 0, .int .i32 0], .int .u8 0], []⟩ 8 (by kernel_rfl) (by kernel_rfl) (by kernel_rfl) (by kernel_rfl)) ?_
  intro W base args ds gs before hval0 hW hcnd hsz0 _
  have hsz : (DataW.weightsEach Try.prog (Try.f6.params.toList ++ Rows.patSamesSpec.plain.varTypes Try.prog) (ds ++ gs)).all (· ≤ reachBytes) = true := hsz0
  have hval : ∀ (j : Nat) t v, Try.f6.params[j]? = some t → args[j]? = some v → Value.okWide Try.prog W .any base t v := hval0
  have hW' := hW
  obtain ⟨p, q, hA0, hV, rfl, hfz, hnd⟩ := hW
  have hA : DataW.TrodAll enc Try.prog W 0 (fun _ => true) true Try.f6.params.toList args.toList ds p := hA0
  rw [Try.params6] at hA hval hsz
  obtain ⟨v0, vs0, d0, ds0, p0, q0, hargs, rfl, rfl, h0, r0⟩ := trodAll_cons hA
  obtain ⟨v1, vs1, d1, ds1, p1, q1, rfl, rfl, rfl, h1, r1⟩ := trodAll_cons r0
  obtain ⟨v2, vs2, d2, ds2, p2, q2, rfl, rfl, rfl, h2, r2⟩ := trodAll_cons r1
  obtain ⟨rfl, rfl, rfl⟩ := trodAll_nil r2
  obtain rfl : args = #[v0, v1, v2] := by cases args; simp_all
  obtain ⟨rfl, rfl⟩ := trodVars_none hV
  have lt0 : ∀ x ∈ p0, x.block < W.heap.size := by obtain ⟨m, hm⟩ := h0; exact DataW.trod_lt m _ _ _ hm
  have hz0 : (d0.weights Try.prog 24).all (· ≤ reachBytes) = true := by
    rw [List.all_eq_true] at hsz ⊢
    intro k hk
    exact hsz k (DataW.weights_mem_each (j := 0) (t := 24) (d := d0) rfl rfl k hk)
  obtain ⟨pt0, pv0, pl0⟩ := open_pat (hval 0 24 v0 rfl rfl) h0 hz0
  have lt1 : ∀ x ∈ p1, x.block < W.heap.size := by obtain ⟨m, hm⟩ := h1; exact DataW.trod_lt m _ _ _ hm
  obtain ⟨c0, c1, y0, y1, m, rfl, -, -, hy0, hy1⟩ := open_agg2 Try.underlying34 (by kernel_rfl) cells34 (hval 1 34 v1 rfl rfl) h1
  obtain ⟨n0, e0, -, -⟩ := DataW.trod_int Try.underlying3 hy0
  obtain ⟨n1, e1, -, -⟩ := DataW.trod_int Try.underlying21 hy1
  injection e0 with e0
  injection e1 with e1
  subst e0
  subst e1
  obtain ⟨a2, rfl, rfl, rfl, w2⟩ := open_int Try.underlying5 (hval 2 5 v2 rfl rfl) h2
  clear hA0 hval0 hsz0 hsz
  refine (patSames_any W _ pt0 pv0 ⟨n0, n1⟩ a2 ⟨(bounds_u8 w2).1, Int.lt_of_le_of_lt (bounds_u8 w2).2 (by decide)⟩ pl0).mono fun e W' ⟨he, hg⟩ => ?_
  subst he
  have bel := below_of_none hg
  exact ⟨_, rfl, _, _, _, [], _, [], hW', trodAll_mk1 (shut_bool Try.underlying4 _), (trodAll_cons_mk (Below.trod laidOut (by kernel_rfl) (of_decide_eq_true (by kernel_rfl)) h0 bel lt0) (trodAll_cons_mk (Below.trod laidOut (by kernel_rfl) (of_decide_eq_true (by kernel_rfl)) h1 bel lt1) (trodAll_cons_mk (shut_int Try.underlying5 w2) trodAll_mk0))), rfl, bel.frame _, fun h => by cases h⟩
theorem over : Rows.patSamesRow.holds Try.pinned (OpenSpec.ofChange Rows.patSamesSpec) :=
  OpenClaim.holds_of_wide 6 Try.f6 rfl rfl rfl rfl rfl rfl rfl ⟨rfl, rfl, rfl, rfl, rfl⟩ rfl rfl rfl rfl rfl (by kernel_rfl) Try.func6 (by kernel_rfl)
    (of_decide_eq_true (by kernel_rfl)) (by unfold Func.isWrapper; first | (rw [if_pos (by decide +kernel)]; kernel_rfl) | (rw [if_neg (by decide +kernel)]; exact ⟨rfl, rfl⟩))
    (fun os started H enc _ => lifted os started H enc)
theorem proved : Rows.PatSamesSaid := over
#print axioms proved
end Go.Proofs.Ytdbcdgojbegakaa.patSames
namespace Go.Proofs.Ytdbcdgojbegakaa
/-- The row, under a short name, for the claim. -/
theorem patSames_holds : Rows.PatSamesSaid := patSames.proved
end Go.Proofs.Ytdbcdgojbegakaa

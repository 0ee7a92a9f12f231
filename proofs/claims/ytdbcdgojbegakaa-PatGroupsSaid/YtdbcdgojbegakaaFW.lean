/-
exergueref10.Few: has a pattern 300 pieces at most?
-/
import Derived.Test.YtdbcdgojbegakaaN3
namespace Go.Proofs.Ytdbcdgojbegakaa
open Go.RowKit

set_option maxRecDepth 100000 in
set_option maxHeartbeats 4000000 in
theorem few_any (w : World) (A1 A2 A3 A4 : Option Addr) (n1 n2 n3 n4 c1 c2 c3 c4 : Nat) (p : Pt) (hl : n1 ≤ 1000000000000000000 ∧ n2 ≤ 1000000000000000000 ∧ n3 ≤ 1000000000000000000 ∧ n4 ≤ 1000000000000000000) :
    Calls Try.prog 8 #[.agg (ptCells (.slice A1 n1 c1) (.slice A2 n2 c2) (.slice A3 n3 c3) (.slice A4 n4 c4) p)] w fun e w' => e = .returned (.bool (decide ((n1 : Int) + n2 + n3 + n4 ≤ 300))) ∧ w.grownBy w' none := by
  obtain ⟨h1, h2, h3, h4⟩ := hl
  have H0 := Lib.hid (TI.new w (ptCells (.slice A1 n1 c1) (.slice A2 n2 c2) (.slice A3 n3 c3) (.slice A4 n4 c4) p))
  go_enter Try.func8, Try.ntmps8
  go_upto_region 1 with fail
  generalize w.alloc (.cells (ptCells (.slice A1 n1 c1) (.slice A2 n2 c2) (.slice A3 n3 c3) (.slice A4 n4 c4) p) 24) = W0 at *
  have k0 : W0.cell? ⟨w.heap.size, 0, none⟩ = some (.slice A1 n1 c1) := H0.out.blk.cell 0
  have k1 : W0.cell? ⟨w.heap.size, 1, none⟩ = some (.slice A2 n2 c2) := H0.out.blk.cell 1
  have k2 : W0.cell? ⟨w.heap.size, 2, none⟩ = some (.slice A3 n3 c3) := H0.out.blk.cell 2
  have k3 : W0.cell? ⟨w.heap.size, 3, none⟩ = some (.slice A4 n4 c4) := H0.out.blk.cell 3
  go_wp2
  go_ret
  exact ⟨rfl, H0.out.gr⟩
end Go.Proofs.Ytdbcdgojbegakaa

/-
pat.Width; slices.Equal on rows of pieces, and pat.Same.
-/
import Derived.Test.YtdbcdgojbegakaaN3
namespace Go.Proofs.Ytdbcdgojbegakaa
open Go.RowKit

theorem strOf_size_le (l : List Int) : (strOf l).size ≤ 4 * l.length := by
  have := enc_bytes l
  rw [← cells_str, Lib.strCells_length] at this
  exact this

set_option maxRecDepth 100000 in
set_option maxHeartbeats 40000000 in
theorem width_any (w : World) (u : Value) (p : Pt) (h : PatV w u p) (hs : smallNm p.nm = true) (hl : (p.pre ++ p.suf ++ p.npre ++ p.nsuf).length ≤ 300) :
    Calls Try.prog 17 #[u] w fun e w' => e = .returned (.int .i64 (((strOf (numT p.nm)).size : Int) + p.pre.length + p.suf.length)) ∧ w.grownBy w' none := by
  obtain ⟨v1, v2, v3, v4, rfl, t1, t2, t3, t4⟩ := h
  obtain ⟨A1, c1, rfl, -⟩ := id t1
  obtain ⟨A2, c2, rfl, -⟩ := id t2
  obtain ⟨A3, c3, rfl, -⟩ := id t3
  obtain ⟨A4, c4, rfl, -⟩ := id t4
  have hlen : p.pre.length + p.suf.length + p.npre.length + p.nsuf.length ≤ 300 := by simpa using (by simp at hl; omega : _)
  have CN : Hid (∀ W, Calls Try.prog 15 #[.agg #[.slice A1 p.pre.length c1, .slice A2 p.suf.length c2, .slice A3 p.npre.length c3, .slice A4 p.nsuf.length c4, .bool p.neg, .int .i64 p.nm.hash, .int .i64 p.nm.minInt, .int .i64 p.nm.minFrac, .int .i64 p.nm.maxFrac, .int .i64 p.nm.g1, .int .i64 p.nm.g2,
    .int .i64 p.nm.minSig, .int .i64 p.nm.maxSig, .int .i64 p.nm.exp, .bool p.nm.expPlus, .int .i32 p.pad, .int .i64 p.padAt]] W fun e w' => e = .returned (.string (strOf (numT p.nm))) ∧ W.grownBy w' none) := fun W => numT_any hs ⟨_, _, _, rfl⟩ ⟨_, _, _, rfl⟩ ⟨_, _, _, rfl⟩ ⟨_, _, _, rfl⟩
  have hz : (strOf (numT p.nm)).size ≤ 2000 := by have := strOf_size_le (numT p.nm); have := numT_le p.nm hs; omega
  have H0 := Lib.hid (TI.new w (ptCells (.slice A1 p.pre.length c1) (.slice A2 p.suf.length c2) (.slice A3 p.npre.length c3) (.slice A4 p.nsuf.length c4) p))
  generalize strOf (numT p.nm) = X at *
  have hw1 : IntKind.i64.wrap ((X.size : Int) + p.pre.length) = (X.size : Int) + p.pre.length := by rw [IntKind.wrap_i64]; omega
  have hw2 : IntKind.i64.wrap ((X.size : Int) + p.pre.length + p.suf.length) = (X.size : Int) + p.pre.length + p.suf.length := by rw [IntKind.wrap_i64]; omega
  clear t1 t2 t3 t4 hl hs
  go_enter Try.func17, Try.ntmps17
  go_upto_region 1 with fail
  go_cut [2] (fun v2 wx => v2 = .int .i64 ((X.size : Int) + p.pre.length + p.suf.length) ∧ Hid (w.grownBy wx none))
  case first =>
    have hc := H0.out.cells
    go_region_held3 (fun w' => ∀ i, w'.cell? ⟨w.heap.size, i, none⟩ = (#[.slice A1 p.pre.length c1, .slice A2 p.suf.length c2, .slice A3 p.npre.length c3, .slice A4 p.nsuf.length c4, .bool p.neg, .int .i64 p.nm.hash, .int .i64 p.nm.minInt, .int .i64 p.nm.minFrac, .int .i64 p.nm.maxFrac, .int .i64 p.nm.g1, .int .i64 p.nm.g2, .int .i64 p.nm.minSig, .int .i64 p.nm.maxSig, .int .i64 p.nm.exp, .bool p.nm.expPlus, .int .i32 p.pad, .int .i64 p.padAt] : Array Value)[i]?) (first | assumption | go_keep)
      (first
        | (go_at_call 15; refine (CN.out _).mono ?_; rintro e w2 ⟨rfl, hg⟩; have H1 := Lib.hid (H0.out.grown (only_from hg rfl rfl rfl rfl)); have q1 := H1.out.cells; clear hg))
    all_goals (go_wp2_with fail; go_meet; exact ⟨rfl, H1.out.gr⟩)
  case rest =>
    obtain ⟨rfl, HB⟩ := hcut
    go_wp2_with fail
    go_ret
    exact ⟨rfl, HB.out⟩

end Go.Proofs.Ytdbcdgojbegakaa

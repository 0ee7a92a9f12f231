/-
The reference's padded, Text, Width.
-/
import Derived.Test.YtdbcdgojbegakaaVA
import Derived.Test.YtdbcdgojbegakaaN4
import Derived.Test.YtdbcdgojbegakaaRJ
namespace Go.Proofs.Ytdbcdgojbegakaa
open Go.RowKit

/-- A pattern's text, as the reference writes it. -/
def textR (p : Pt) : List Int :=
  padT p 1 ++ writtenT false p.pre ++ padT p 2 ++ numR p.nm ++ padT p 3 ++ writtenT false p.suf ++ padT p 4 ++
  (if p.neg then 59 :: (writtenT false p.npre ++ numR p.nm ++ writtenT false p.nsuf) else [])

set_option maxRecDepth 100000 in
set_option maxHeartbeats 4000000 in
theorem pad_ref (w : World) (A1 A2 A3 A4 : Option Addr) (n1 n2 n3 n4 c1 c2 c3 c4 : Nat) (p : Pt) (hr : isRune p.pad = true) (x : Int) :
    Calls Try.prog 28 #[.agg (ptCells (.slice A1 n1 c1) (.slice A2 n2 c2) (.slice A3 n3 c3) (.slice A4 n4 c4) p), .int .i64 x] w fun e w' => e = .returned (.string (strOf (padT p x))) ∧ w.grownBy w' none := by
  have H0 := Lib.hid (TI.new w (ptCells (.slice A1 n1 c1) (.slice A2 n2 c2) (.slice A3 n3 c3) (.slice A4 n4 c4) p))
  have cat := cat_any [42] [p.pad] (by simp)
  rw [s42] at cat
  simp only [List.cons_append, List.nil_append] at cat
  have CT := Lib.hid (text_ref p.pad hr)
  by_cases h : p.padAt = x
  · have h2 : (p.padAt == x) = true := by simp [h]
    have HT : Hid (padT p x = [42, p.pad]) := by simp [Hid, padT, h]
    clear h hr
    go_enter Try.func28, Try.ntmps28
    go_upto_region 1 with fail
    generalize w.alloc (.cells (ptCells (.slice A1 n1 c1) (.slice A2 n2 c2) (.slice A3 n3 c3) (.slice A4 n4 c4) p) 24) = W0 at *
    have c15 : W0.cell? ⟨w.heap.size, 15, none⟩ = some (.int .i32 p.pad) := H0.out.blk.cell 15
    have c16 : W0.cell? ⟨w.heap.size, 16, none⟩ = some (.int .i64 p.padAt) := H0.out.blk.cell 16
    go_wp2_with (first
      | (go_at_call 51; refine (CT.out _).mono ?_; rintro e wa ⟨rfl, hg⟩; have H1 := Lib.hid (H0.out.grown hg); clear hg))
    go_ret
    exact ⟨by rw [HT.out]; rfl, H1.out.gr⟩
  · have h2 : (p.padAt == x) = false := by simpa using h
    have HT : Hid (padT p x = []) := by simp [Hid, padT, h]
    clear h hr
    go_enter Try.func28, Try.ntmps28
    go_upto_region 1 with fail
    generalize w.alloc (.cells (ptCells (.slice A1 n1 c1) (.slice A2 n2 c2) (.slice A3 n3 c3) (.slice A4 n4 c4) p) 24) = W0 at *
    have c16 : W0.cell? ⟨w.heap.size, 16, none⟩ = some (.int .i64 p.padAt) := H0.out.blk.cell 16
    go_wp2_with fail
    go_ret
    exact ⟨by rw [HT.out]; rfl, H0.out.gr⟩

theorem TI.all {w W : World} {A1 A2 A3 A4 : Option Addr} {c1 c2 c3 c4 : Nat} {p : Pt} (h : TI w W (ptCells (.slice A1 p.pre.length c1) (.slice A2 p.suf.length c2) (.slice A3 p.npre.length c3) (.slice A4 p.nsuf.length c4) p)) :
    W.cell? ⟨w.heap.size, 0, none⟩ = some (.slice A1 p.pre.length c1) ∧ W.cell? ⟨w.heap.size, 1, none⟩ = some (.slice A2 p.suf.length c2) ∧ W.cell? ⟨w.heap.size, 2, none⟩ = some (.slice A3 p.npre.length c3) ∧ W.cell? ⟨w.heap.size, 3, none⟩ = some (.slice A4 p.nsuf.length c4) ∧ W.cell? ⟨w.heap.size, 4, none⟩ = some (.bool p.neg) ∧ W.cell? ⟨w.heap.size, 5, none⟩ = some (.int .i64 p.nm.hash) ∧ W.cell? ⟨w.heap.size, 6, none⟩ = some (.int .i64 p.nm.minInt) ∧ W.cell? ⟨w.heap.size, 7, none⟩ = some (.int .i64 p.nm.minFrac) ∧ W.cell? ⟨w.heap.size, 8, none⟩ = some (.int .i64 p.nm.maxFrac) ∧ W.cell? ⟨w.heap.size, 9, none⟩ = some (.int .i64 p.nm.g1) ∧ W.cell? ⟨w.heap.size, 10, none⟩ = some (.int .i64 p.nm.g2) ∧ W.cell? ⟨w.heap.size, 11, none⟩ = some (.int .i64 p.nm.minSig) ∧ W.cell? ⟨w.heap.size, 12, none⟩ = some (.int .i64 p.nm.maxSig) ∧ W.cell? ⟨w.heap.size, 13, none⟩ = some (.int .i64 p.nm.exp) ∧ W.cell? ⟨w.heap.size, 14, none⟩ = some (.bool p.nm.expPlus) ∧ W.cell? ⟨w.heap.size, 15, none⟩ = some (.int .i32 p.pad) ∧ W.cell? ⟨w.heap.size, 16, none⟩ = some (.int .i64 p.padAt) :=
  ⟨h.blk.cell 0, h.blk.cell 1, h.blk.cell 2, h.blk.cell 3, h.blk.cell 4, h.blk.cell 5, h.blk.cell 6, h.blk.cell 7, h.blk.cell 8, h.blk.cell 9, h.blk.cell 10, h.blk.cell 11, h.blk.cell 12, h.blk.cell 13, h.blk.cell 14, h.blk.cell 15, h.blk.cell 16⟩

set_option maxRecDepth 100000 in
set_option maxHeartbeats 40000000 in
theorem textR_ref (w : World) (u : Value) (p : Pt) (h : PatV w u p) (hs : smallP p = true) (hl : (p.pre ++ p.suf ++ p.npre ++ p.nsuf).length ≤ 300) :
    Calls Try.prog 14 #[u] w fun e w' => e = .returned (.string (strOf (textR p))) ∧ w.grownBy w' none := by
  obtain ⟨v1, v2, v3, v4, rfl, t1, t2, t3, t4⟩ := h
  obtain ⟨A1, c1, rfl, -⟩ := id t1
  obtain ⟨A2, c2, rfl, -⟩ := id t2
  obtain ⟨A3, c3, rfl, -⟩ := id t3
  obtain ⟨A4, c4, rfl, -⟩ := id t4
  simp only [smallP, Bool.and_eq_true] at hs
  obtain ⟨⟨hn, hp⟩, hall⟩ := hs
  have hru : ∀ ts : List Tk, (∀ t ∈ ts, t ∈ p.pre ++ p.suf ++ p.npre ++ p.nsuf) → ∀ t ∈ ts, isRune t.r = true := fun ts h t ht => List.all_eq_true.1 hall t (h t ht)
  have hlen : p.pre.length + p.suf.length + p.npre.length + p.nsuf.length ≤ 300 := by simpa using (by simp at hl; omega : _)
  have CN : Hid (∀ W, Calls Try.prog 16 #[.agg #[.slice A1 p.pre.length c1, .slice A2 p.suf.length c2, .slice A3 p.npre.length c3, .slice A4 p.nsuf.length c4, .bool p.neg, .int .i64 p.nm.hash, .int .i64 p.nm.minInt, .int .i64 p.nm.minFrac, .int .i64 p.nm.maxFrac, .int .i64 p.nm.g1, .int .i64 p.nm.g2,
    .int .i64 p.nm.minSig, .int .i64 p.nm.maxSig, .int .i64 p.nm.exp, .bool p.nm.expPlus, .int .i32 p.pad, .int .i64 p.padAt]] W fun e w' => e = .returned (.string (strOf (numR p.nm))) ∧ W.grownBy w' none) := fun W => number_ref W A1 A2 A3 A4 _ _ _ _ c1 c2 c3 c4 p hn
  have C1 : Hid (∀ W, w.grownBy W none → Calls Try.prog 29 #[.slice A1 p.pre.length c1] W fun e w' => e = .returned (.string (strOf (writtenT false p.pre))) ∧ W.grownBy w' none) := fun W hW => written_ref W _ _ (t1.grown hW) (hru _ fun t ht => by simp [ht]) (by omega)
  have C2 : Hid (∀ W, w.grownBy W none → Calls Try.prog 29 #[.slice A2 p.suf.length c2] W fun e w' => e = .returned (.string (strOf (writtenT false p.suf))) ∧ W.grownBy w' none) := fun W hW => written_ref W _ _ (t2.grown hW) (hru _ fun t ht => by simp [ht]) (by omega)
  have C3 : Hid (∀ W, w.grownBy W none → Calls Try.prog 29 #[.slice A3 p.npre.length c3] W fun e w' => e = .returned (.string (strOf (writtenT false p.npre))) ∧ W.grownBy w' none) := fun W hW => written_ref W _ _ (t3.grown hW) (hru _ fun t ht => by simp [ht]) (by omega)
  have C4 : Hid (∀ W, w.grownBy W none → Calls Try.prog 29 #[.slice A4 p.nsuf.length c4] W fun e w' => e = .returned (.string (strOf (writtenT false p.nsuf))) ∧ W.grownBy w' none) := fun W hW => written_ref W _ _ (t4.grown hW) (hru _ fun t ht => by simp [ht]) (by omega)
  have P1 : Hid (∀ W, Calls Try.prog 28 #[.agg #[.slice A1 p.pre.length c1, .slice A2 p.suf.length c2, .slice A3 p.npre.length c3, .slice A4 p.nsuf.length c4, .bool p.neg, .int .i64 p.nm.hash, .int .i64 p.nm.minInt, .int .i64 p.nm.minFrac, .int .i64 p.nm.maxFrac, .int .i64 p.nm.g1, .int .i64 p.nm.g2, .int .i64 p.nm.minSig, .int .i64 p.nm.maxSig, .int .i64 p.nm.exp, .bool p.nm.expPlus, .int .i32 p.pad, .int .i64 p.padAt], .int .i64 1] W fun e w' => e = .returned (.string (strOf (padT p 1))) ∧ W.grownBy w' none) := fun W => pad_ref W A1 A2 A3 A4 _ _ _ _ c1 c2 c3 c4 p hp 1
  have P2 : Hid (∀ W, Calls Try.prog 28 #[.agg #[.slice A1 p.pre.length c1, .slice A2 p.suf.length c2, .slice A3 p.npre.length c3, .slice A4 p.nsuf.length c4, .bool p.neg, .int .i64 p.nm.hash, .int .i64 p.nm.minInt, .int .i64 p.nm.minFrac, .int .i64 p.nm.maxFrac, .int .i64 p.nm.g1, .int .i64 p.nm.g2, .int .i64 p.nm.minSig, .int .i64 p.nm.maxSig, .int .i64 p.nm.exp, .bool p.nm.expPlus, .int .i32 p.pad, .int .i64 p.padAt], .int .i64 2] W fun e w' => e = .returned (.string (strOf (padT p 2))) ∧ W.grownBy w' none) := fun W => pad_ref W A1 A2 A3 A4 _ _ _ _ c1 c2 c3 c4 p hp 2
  have P3 : Hid (∀ W, Calls Try.prog 28 #[.agg #[.slice A1 p.pre.length c1, .slice A2 p.suf.length c2, .slice A3 p.npre.length c3, .slice A4 p.nsuf.length c4, .bool p.neg, .int .i64 p.nm.hash, .int .i64 p.nm.minInt, .int .i64 p.nm.minFrac, .int .i64 p.nm.maxFrac, .int .i64 p.nm.g1, .int .i64 p.nm.g2, .int .i64 p.nm.minSig, .int .i64 p.nm.maxSig, .int .i64 p.nm.exp, .bool p.nm.expPlus, .int .i32 p.pad, .int .i64 p.padAt], .int .i64 3] W fun e w' => e = .returned (.string (strOf (padT p 3))) ∧ W.grownBy w' none) := fun W => pad_ref W A1 A2 A3 A4 _ _ _ _ c1 c2 c3 c4 p hp 3
  have P4 : Hid (∀ W, Calls Try.prog 28 #[.agg #[.slice A1 p.pre.length c1, .slice A2 p.suf.length c2, .slice A3 p.npre.length c3, .slice A4 p.nsuf.length c4, .bool p.neg, .int .i64 p.nm.hash, .int .i64 p.nm.minInt, .int .i64 p.nm.minFrac, .int .i64 p.nm.maxFrac, .int .i64 p.nm.g1, .int .i64 p.nm.g2, .int .i64 p.nm.minSig, .int .i64 p.nm.maxSig, .int .i64 p.nm.exp, .bool p.nm.expPlus, .int .i32 p.pad, .int .i64 p.padAt], .int .i64 4] W fun e w' => e = .returned (.string (strOf (padT p 4))) ∧ W.grownBy w' none) := fun W => pad_ref W A1 A2 A3 A4 _ _ _ _ c1 c2 c3 c4 p hp 4
  have l1 := padT_le p 1
  have l2 := writtenT_le p.pre false
  have l3 := padT_le p 2
  have l4 := numR_le p.nm hn
  have l5 := padT_le p 3
  have l6 := writtenT_le p.suf false
  have l7 := padT_le p 4
  have l8 := writtenT_le p.npre false
  have l9 := writtenT_le p.nsuf false
  have HT : Hid (textR p = padT p 1 ++ writtenT false p.pre ++ padT p 2 ++ numR p.nm ++ padT p 3 ++ writtenT false p.suf ++ padT p 4 ++ (if p.neg then [59] ++ writtenT false p.npre ++ numR p.nm ++ writtenT false p.nsuf else [])) := by
    rw [Hid, textR]; cases p.neg <;> simp
  generalize padT p 1 = X1 at *
  generalize padT p 2 = X3 at *
  generalize padT p 3 = X5 at *
  generalize padT p 4 = X7 at *
  generalize writtenT false p.pre = X2 at *
  generalize writtenT false p.suf = X6 at *
  generalize writtenT false p.npre = X8 at *
  generalize writtenT false p.nsuf = X9 at *
  generalize numR p.nm = X4 at *
  obtain ⟨Y2, y2⟩ : ∃ Y, Y = X1 ++ X2 := ⟨_, rfl⟩
  obtain ⟨Y3, y3⟩ : ∃ Y, Y = Y2 ++ X3 := ⟨_, rfl⟩
  obtain ⟨Y4, y4⟩ : ∃ Y, Y = Y3 ++ X4 := ⟨_, rfl⟩
  obtain ⟨Y5, y5⟩ : ∃ Y, Y = Y4 ++ X5 := ⟨_, rfl⟩
  obtain ⟨Y6, y6⟩ : ∃ Y, Y = Y5 ++ X6 := ⟨_, rfl⟩
  obtain ⟨Y7, y7⟩ : ∃ Y, Y = Y6 ++ X7 := ⟨_, rfl⟩
  obtain ⟨Z1, z1⟩ : ∃ Y, Y = Y7 ++ [59] := ⟨_, rfl⟩
  obtain ⟨Z2, z2⟩ : ∃ Y, Y = Z1 ++ X8 := ⟨_, rfl⟩
  obtain ⟨Z3, z3⟩ : ∃ Y, Y = Z2 ++ X4 := ⟨_, rfl⟩
  obtain ⟨Z4, z4⟩ : ∃ Y, Y = Z3 ++ X9 := ⟨_, rfl⟩
  have m2 : Y2.length = X1.length + X2.length := by rw [y2, List.length_append]
  have m3 : Y3.length = Y2.length + X3.length := by rw [y3, List.length_append]
  have m4 : Y4.length = Y3.length + X4.length := by rw [y4, List.length_append]
  have m5 : Y5.length = Y4.length + X5.length := by rw [y5, List.length_append]
  have m6 : Y6.length = Y5.length + X6.length := by rw [y6, List.length_append]
  have m7 : Y7.length = Y6.length + X7.length := by rw [y7, List.length_append]
  have m8 : Z1.length = Y7.length + 1 := by rw [z1, List.length_append]; rfl
  have m9 : Z2.length = Z1.length + X8.length := by rw [z2, List.length_append]
  have m10 : Z3.length = Z2.length + X4.length := by rw [z3, List.length_append]
  have cat1 := cat_any X1 X2 (by omega)
  have cat2 := cat_any Y2 X3 (by omega)
  have cat3 := cat_any Y3 X4 (by omega)
  have cat4 := cat_any Y4 X5 (by omega)
  have cat5 := cat_any Y5 X6 (by omega)
  have cat6 := cat_any Y6 X7 (by omega)
  have catA := cat_any Y7 [59] (by simp; omega)
  have catB := cat_any Z1 X8 (by omega)
  have catC := cat_any Z2 X4 (by omega)
  have catD := cat_any Z3 X9 (by omega)
  rw [← y2] at cat1
  rw [← y3] at cat2
  rw [← y4] at cat3
  rw [← y5] at cat4
  rw [← y6] at cat5
  rw [← y7] at cat6
  rw [s59, ← z1] at catA
  rw [← z2] at catB
  rw [← z3] at catC
  rw [← z4] at catD
  have HT2 : Hid (textR p = if p.neg then Z4 else Y7) := by
    rw [Hid, HT.out, z4, z3, z2, z1, y7, y6, y5, y4, y3, y2]
    cases p.neg <;> simp
  clear y2 y3 y4 y5 y6 y7 z1 z2 z3 z4 m2 m3 m4 m5 m6 m7 m8 m9 m10 HT
  have H0 := Lib.hid (TI.new w (ptCells (.slice A1 p.pre.length c1) (.slice A2 p.suf.length c2) (.slice A3 p.npre.length c3) (.slice A4 p.nsuf.length c4) p))
  clear l1 l2 l3 l4 l5 l6 l7 l8 l9 hru hall hn hp t1 t2 t3 t4 hl hlen
  go_enter Try.func14, Try.ntmps14
  go_upto_region 1 with fail
  go_cut [3] (fun v3 wx => v3 = .string (strOf Y7) ∧ Hid (TI w wx (ptCells (.slice A1 p.pre.length c1) (.slice A2 p.suf.length c2) (.slice A3 p.npre.length c3) (.slice A4 p.nsuf.length c4) p)))
  case first =>
   as_aux_lemma =>
    have G0 : Hid (TI w (w.alloc (.cells (ptCells (.slice A1 p.pre.length c1) (.slice A2 p.suf.length c2) (.slice A3 p.npre.length c3) (.slice A4 p.nsuf.length c4) p) 24)).drew (ptCells (.slice A1 p.pre.length c1) (.slice A2 p.suf.length c2) (.slice A3 p.npre.length c3) (.slice A4 p.nsuf.length c4) p)) := H0.out.same rfl rfl rfl rfl
    have hinfo : (Try.prog.info? 24).map (·.size) = some ((ptCells (.slice A1 p.pre.length c1) (.slice A2 p.suf.length c2) (.slice A3 p.npre.length c3) (.slice A4 p.nsuf.length c4) p)).toList.length := info24c _ _ _ _ _
    have k0 : ((ptCells (.slice A1 p.pre.length c1) (.slice A2 p.suf.length c2) (.slice A3 p.npre.length c3) (.slice A4 p.nsuf.length c4) p))[0]? = some (.slice A1 p.pre.length c1) := rfl
    have k1 : ((ptCells (.slice A1 p.pre.length c1) (.slice A2 p.suf.length c2) (.slice A3 p.npre.length c3) (.slice A4 p.nsuf.length c4) p))[1]? = some (.slice A2 p.suf.length c2) := rfl
    have D1 : Hid (∀ W, Calls Try.prog 28 #[.agg (ptCells (.slice A1 p.pre.length c1) (.slice A2 p.suf.length c2) (.slice A3 p.npre.length c3) (.slice A4 p.nsuf.length c4) p), .int .i64 1] W fun e w' => e = .returned (.string (strOf X1)) ∧ W.grownBy w' none) := P1.out
    have D2 : Hid (∀ W, Calls Try.prog 28 #[.agg (ptCells (.slice A1 p.pre.length c1) (.slice A2 p.suf.length c2) (.slice A3 p.npre.length c3) (.slice A4 p.nsuf.length c4) p), .int .i64 2] W fun e w' => e = .returned (.string (strOf X3)) ∧ W.grownBy w' none) := P2.out
    have D3 : Hid (∀ W, Calls Try.prog 28 #[.agg (ptCells (.slice A1 p.pre.length c1) (.slice A2 p.suf.length c2) (.slice A3 p.npre.length c3) (.slice A4 p.nsuf.length c4) p), .int .i64 3] W fun e w' => e = .returned (.string (strOf X5)) ∧ W.grownBy w' none) := P3.out
    have D4 : Hid (∀ W, Calls Try.prog 28 #[.agg (ptCells (.slice A1 p.pre.length c1) (.slice A2 p.suf.length c2) (.slice A3 p.npre.length c3) (.slice A4 p.nsuf.length c4) p), .int .i64 4] W fun e w' => e = .returned (.string (strOf X7)) ∧ W.grownBy w' none) := P4.out
    have DN : Hid (∀ W, Calls Try.prog 16 #[.agg (ptCells (.slice A1 p.pre.length c1) (.slice A2 p.suf.length c2) (.slice A3 p.npre.length c3) (.slice A4 p.nsuf.length c4) p)] W fun e w' => e = .returned (.string (strOf X4)) ∧ W.grownBy w' none) := CN.out
    clear HT2 catA catB catC catD C3 C4 P1 P2 P3 P4 CN
    generalize (ptCells (.slice A1 p.pre.length c1) (.slice A2 p.suf.length c2) (.slice A3 p.npre.length c3) (.slice A4 p.nsuf.length c4) p) = cs at *
    refine wp_region_held_drew (S := fun W => TI w W cs) (by kernel_rfl) G0.out (fun _ => ?_)
    refine wpAnyH_take (i := 0) (v := _) rfl (by kernel_rfl) (by kernel_rfl) (by kernel_rfl) (fun _ _ _ h => h) (yieldsIf_load_mid (by rfl) 24 _ rfl w.heap.size 0 rfl cs.toList _ (fun W hW => row_range hW.blk) Try.underlying24 rfl hinfo) G0.out ?_
    try simp only [Act.put, List.setIfInBounds_toArray, List.set_cons_zero, List.set_cons_succ, Array.toArray_toList, List.getElem_toArray, List.getElem_cons_zero, List.getElem_cons_succ]
    refine wpAnyH_take (i := 6) (v := _) rfl (by kernel_rfl) (by kernel_rfl) (by kernel_rfl) (fun _ _ _ h => h) (yieldsIf_load_mid (by rfl) 24 _ rfl w.heap.size 0 rfl cs.toList _ (fun W hW => row_range hW.blk) Try.underlying24 rfl hinfo) G0.out ?_
    try simp only [Act.put, List.setIfInBounds_toArray, List.set_cons_zero, List.set_cons_succ, Array.toArray_toList, List.getElem_toArray, List.getElem_cons_zero, List.getElem_cons_succ]
    refine wpAnyH_take (i := 9) (v := _) rfl (by kernel_rfl) (by kernel_rfl) (by kernel_rfl) (fun _ _ _ h => h) (yieldsIf_load_mid (by rfl) 24 _ rfl w.heap.size 0 rfl cs.toList _ (fun W hW => row_range hW.blk) Try.underlying24 rfl hinfo) G0.out ?_
    try simp only [Act.put, List.setIfInBounds_toArray, List.set_cons_zero, List.set_cons_succ, Array.toArray_toList, List.getElem_toArray, List.getElem_cons_zero, List.getElem_cons_succ]
    refine wpAnyH_take (i := 12) (v := _) rfl (by kernel_rfl) (by kernel_rfl) (by kernel_rfl) (fun _ _ _ h => h) (yieldsIf_load_mid (by rfl) 24 _ rfl w.heap.size 0 rfl cs.toList _ (fun W hW => row_range hW.blk) Try.underlying24 rfl hinfo) G0.out ?_
    try simp only [Act.put, List.setIfInBounds_toArray, List.set_cons_zero, List.set_cons_succ, Array.toArray_toList, List.getElem_toArray, List.getElem_cons_zero, List.getElem_cons_succ]
    refine wpAnyH_take (i := 19) (v := _) rfl (by kernel_rfl) (by kernel_rfl) (by kernel_rfl) (fun _ _ _ h => h) (yieldsIf_load_mid (by rfl) 24 _ rfl w.heap.size 0 rfl cs.toList _ (fun W hW => row_range hW.blk) Try.underlying24 rfl hinfo) G0.out ?_
    try simp only [Act.put, List.setIfInBounds_toArray, List.set_cons_zero, List.set_cons_succ, Array.toArray_toList, List.getElem_toArray, List.getElem_cons_zero, List.getElem_cons_succ]
    refine wpAnyH_take (i := 2) (v := .pointer (some ⟨w.heap.size, 0, none⟩)) rfl (by kernel_rfl) (by kernel_rfl) (by kernel_rfl) (fun _ _ _ h => h) (.inl ⟨by rfl, ?_⟩) G0.out ?_
    · intro W hW
      go_simp
    try simp only [Act.put, List.setIfInBounds_toArray, List.set_cons_zero, List.set_cons_succ, Array.toArray_toList, List.getElem_toArray, List.getElem_cons_zero, List.getElem_cons_succ]
    refine wpAnyH_take (i := 15) (v := .pointer (some ⟨w.heap.size, 1, none⟩)) rfl (by kernel_rfl) (by kernel_rfl) (by kernel_rfl) (fun _ _ _ h => h) (.inl ⟨by rfl, ?_⟩) G0.out ?_
    · intro W hW
      go_simp
    try simp only [Act.put, List.setIfInBounds_toArray, List.set_cons_zero, List.set_cons_succ, Array.toArray_toList, List.getElem_toArray, List.getElem_cons_zero, List.getElem_cons_succ]
    refine wpAnyH_take (i := 3) (v := .slice A1 p.pre.length c1) rfl (by kernel_rfl) (by kernel_rfl) (by kernel_rfl) (fun _ _ _ h => h) (.inl ⟨by rfl, ?_⟩) G0.out ?_
    · intro W hW
      have hc := hW.blk.cell 0
      rw [k0] at hc
      go_simp
    try simp only [Act.put, List.setIfInBounds_toArray, List.set_cons_zero, List.set_cons_succ, Array.toArray_toList, List.getElem_toArray, List.getElem_cons_zero, List.getElem_cons_succ]
    refine wpAnyH_take (i := 16) (v := .slice A2 p.suf.length c2) rfl (by kernel_rfl) (by kernel_rfl) (by kernel_rfl) (fun _ _ _ h => h) (.inl ⟨by rfl, ?_⟩) G0.out ?_
    · intro W hW
      have hc := hW.blk.cell 1
      rw [k1] at hc
      go_simp
    try simp only [Act.put, List.setIfInBounds_toArray, List.set_cons_zero, List.set_cons_succ, Array.toArray_toList, List.getElem_toArray, List.getElem_cons_zero, List.getElem_cons_succ]
    refine wpAnyH_ready (rs := [1]) (by kernel_rfl) (by simp) ?_
    refine AllReadyH.cons (o := _) rfl (fun K hK => ?_) AllReadyH.nil
    go_simp
    refine (D1.out _).mono ?_
    rintro e w1 ⟨rfl, hg⟩
    have G1 := Lib.hid (G0.out.grown (only_from hg rfl rfl rfl rfl))
    clear hg
    refine hK.out _ _ G1.out (fun _ => ?_)
    clear hK K
    try simp only [Act.put, List.setIfInBounds_toArray, List.set_cons_zero, List.set_cons_succ, Array.toArray_toList, List.getElem_toArray, List.getElem_cons_zero, List.getElem_cons_succ]
    refine wpAnyH_ready (rs := [4]) (by kernel_rfl) (by simp) ?_
    refine AllReadyH.cons (o := _) rfl (fun K hK => ?_) AllReadyH.nil
    go_simp
    refine (C1.out _ (only_same G1.out.gr rfl rfl rfl rfl)).mono ?_
    rintro e w2 ⟨rfl, hg⟩
    have G2 := Lib.hid (G1.out.grown (only_from hg rfl rfl rfl rfl))
    clear hg
    refine hK.out _ _ G2.out (fun _ => ?_)
    clear hK K
    try simp only [Act.put, List.setIfInBounds_toArray, List.set_cons_zero, List.set_cons_succ, Array.toArray_toList, List.getElem_toArray, List.getElem_cons_zero, List.getElem_cons_succ]
    refine wpAnyH_take (i := 5) (v := .string (strOf Y2)) rfl (by kernel_rfl) (by kernel_rfl) (by kernel_rfl) (fun _ _ _ h => h) (.inl ⟨by rfl, ?_⟩) G2.out ?_
    · intro W hW
      go_simp
    try simp only [Act.put, List.setIfInBounds_toArray, List.set_cons_zero, List.set_cons_succ, Array.toArray_toList, List.getElem_toArray, List.getElem_cons_zero, List.getElem_cons_succ]
    refine wpAnyH_ready (rs := [7]) (by kernel_rfl) (by simp) ?_
    refine AllReadyH.cons (o := _) rfl (fun K hK => ?_) AllReadyH.nil
    go_simp
    refine (D2.out _).mono ?_
    rintro e w3 ⟨rfl, hg⟩
    have G3 := Lib.hid (G2.out.grown (only_from hg rfl rfl rfl rfl))
    clear hg
    refine hK.out _ _ G3.out (fun _ => ?_)
    clear hK K
    try simp only [Act.put, List.setIfInBounds_toArray, List.set_cons_zero, List.set_cons_succ, Array.toArray_toList, List.getElem_toArray, List.getElem_cons_zero, List.getElem_cons_succ]
    refine wpAnyH_take (i := 8) (v := .string (strOf Y3)) rfl (by kernel_rfl) (by kernel_rfl) (by kernel_rfl) (fun _ _ _ h => h) (.inl ⟨by rfl, ?_⟩) G3.out ?_
    · intro W hW
      go_simp
    try simp only [Act.put, List.setIfInBounds_toArray, List.set_cons_zero, List.set_cons_succ, Array.toArray_toList, List.getElem_toArray, List.getElem_cons_zero, List.getElem_cons_succ]
    refine wpAnyH_ready (rs := [10]) (by kernel_rfl) (by simp) ?_
    refine AllReadyH.cons (o := _) rfl (fun K hK => ?_) AllReadyH.nil
    go_simp
    refine (DN.out _).mono ?_
    rintro e w4 ⟨rfl, hg⟩
    have G4 := Lib.hid (G3.out.grown (only_from hg rfl rfl rfl rfl))
    clear hg
    refine hK.out _ _ G4.out (fun _ => ?_)
    clear hK K
    try simp only [Act.put, List.setIfInBounds_toArray, List.set_cons_zero, List.set_cons_succ, Array.toArray_toList, List.getElem_toArray, List.getElem_cons_zero, List.getElem_cons_succ]
    refine wpAnyH_take (i := 11) (v := .string (strOf Y4)) rfl (by kernel_rfl) (by kernel_rfl) (by kernel_rfl) (fun _ _ _ h => h) (.inl ⟨by rfl, ?_⟩) G4.out ?_
    · intro W hW
      go_simp
    try simp only [Act.put, List.setIfInBounds_toArray, List.set_cons_zero, List.set_cons_succ, Array.toArray_toList, List.getElem_toArray, List.getElem_cons_zero, List.getElem_cons_succ]
    refine wpAnyH_ready (rs := [13]) (by kernel_rfl) (by simp) ?_
    refine AllReadyH.cons (o := _) rfl (fun K hK => ?_) AllReadyH.nil
    go_simp
    refine (D3.out _).mono ?_
    rintro e w5 ⟨rfl, hg⟩
    have G5 := Lib.hid (G4.out.grown (only_from hg rfl rfl rfl rfl))
    clear hg
    refine hK.out _ _ G5.out (fun _ => ?_)
    clear hK K
    try simp only [Act.put, List.setIfInBounds_toArray, List.set_cons_zero, List.set_cons_succ, Array.toArray_toList, List.getElem_toArray, List.getElem_cons_zero, List.getElem_cons_succ]
    refine wpAnyH_take (i := 14) (v := .string (strOf Y5)) rfl (by kernel_rfl) (by kernel_rfl) (by kernel_rfl) (fun _ _ _ h => h) (.inl ⟨by rfl, ?_⟩) G5.out ?_
    · intro W hW
      go_simp
    try simp only [Act.put, List.setIfInBounds_toArray, List.set_cons_zero, List.set_cons_succ, Array.toArray_toList, List.getElem_toArray, List.getElem_cons_zero, List.getElem_cons_succ]
    refine wpAnyH_ready (rs := [17]) (by kernel_rfl) (by simp) ?_
    refine AllReadyH.cons (o := _) rfl (fun K hK => ?_) AllReadyH.nil
    go_simp
    refine (C2.out _ (only_same G5.out.gr rfl rfl rfl rfl)).mono ?_
    rintro e w6 ⟨rfl, hg⟩
    have G6 := Lib.hid (G5.out.grown (only_from hg rfl rfl rfl rfl))
    clear hg
    refine hK.out _ _ G6.out (fun _ => ?_)
    clear hK K
    try simp only [Act.put, List.setIfInBounds_toArray, List.set_cons_zero, List.set_cons_succ, Array.toArray_toList, List.getElem_toArray, List.getElem_cons_zero, List.getElem_cons_succ]
    refine wpAnyH_take (i := 18) (v := .string (strOf Y6)) rfl (by kernel_rfl) (by kernel_rfl) (by kernel_rfl) (fun _ _ _ h => h) (.inl ⟨by rfl, ?_⟩) G6.out ?_
    · intro W hW
      go_simp
    try simp only [Act.put, List.setIfInBounds_toArray, List.set_cons_zero, List.set_cons_succ, Array.toArray_toList, List.getElem_toArray, List.getElem_cons_zero, List.getElem_cons_succ]
    refine wpAnyH_ready (rs := [20]) (by kernel_rfl) (by simp) ?_
    refine AllReadyH.cons (o := _) rfl (fun K hK => ?_) AllReadyH.nil
    go_simp
    refine (D4.out _).mono ?_
    rintro e w7 ⟨rfl, hg⟩
    have G7 := Lib.hid (G6.out.grown (only_from hg rfl rfl rfl rfl))
    clear hg
    refine hK.out _ _ G7.out (fun _ => ?_)
    clear hK K
    try simp only [Act.put, List.setIfInBounds_toArray, List.set_cons_zero, List.set_cons_succ, Array.toArray_toList, List.getElem_toArray, List.getElem_cons_zero, List.getElem_cons_succ]
    refine wpAnyH_take (i := 21) (v := .string (strOf Y7)) rfl (by kernel_rfl) (by kernel_rfl) (by kernel_rfl) (fun _ _ _ h => h) (.inl ⟨by rfl, ?_⟩) G7.out ?_
    · intro W hW
      go_simp
    try simp only [Act.put, List.setIfInBounds_toArray, List.set_cons_zero, List.set_cons_succ, Array.toArray_toList, List.getElem_toArray, List.getElem_cons_zero, List.getElem_cons_succ]
    refine wpAnyH_take (i := 22) (v := .string (strOf Y7)) rfl (by kernel_rfl) (by kernel_rfl) (by kernel_rfl) (fun _ _ _ h => h) (.inl ⟨by rfl, ?_⟩) G7.out ?_
    · intro W hW
      go_simp
    try simp only [Act.put, List.setIfInBounds_toArray, List.set_cons_zero, List.set_cons_succ, Array.toArray_toList, List.getElem_toArray, List.getElem_cons_zero, List.getElem_cons_succ]
    refine wpAnyH_done (by kernel_rfl) ?_ _
    go_wp2_with fail
    go_meet
    exact ⟨rfl, G7⟩
  case rest =>
    clear H0 P1 P2 P3 P4 C1 C2 cat1 cat2 cat3 cat4 cat5 cat6
    obtain ⟨rfl, HA⟩ := hcut
    cases hneg : p.neg with
    | false =>
      have e4 : _ = some (Value.bool p.neg) := HA.out.blk.cell 4
      rw [hneg] at e4 HT2
      go_wp2_with fail
      go_ret
      exact ⟨by rw [HT2.out]; rfl, HA.out.gr⟩
    | true =>
      have e4 : _ = some (Value.bool p.neg) := HA.out.blk.cell 4
      rw [hneg] at e4 HT2
      go_upto_region 3 with fail
      go_cut [3] (fun v3 wx => v3 = .string (strOf Z4) ∧ Hid (TI w wx (ptCells (.slice A1 p.pre.length c1) (.slice A2 p.suf.length c2) (.slice A3 p.npre.length c3) (.slice A4 p.nsuf.length c4) p)))
      case first =>
       as_aux_lemma =>
        clear e4 hneg
        have H0 := HA
        have hc := H0.out.all
        go_region_held3 (fun w' => w'.cell? ⟨w.heap.size, 0, none⟩ = some (.slice A1 p.pre.length c1) ∧ w'.cell? ⟨w.heap.size, 1, none⟩ = some (.slice A2 p.suf.length c2) ∧ w'.cell? ⟨w.heap.size, 2, none⟩ = some (.slice A3 p.npre.length c3) ∧ w'.cell? ⟨w.heap.size, 3, none⟩ = some (.slice A4 p.nsuf.length c4) ∧ w'.cell? ⟨w.heap.size, 4, none⟩ = some (.bool p.neg) ∧ w'.cell? ⟨w.heap.size, 5, none⟩ = some (.int .i64 p.nm.hash) ∧ w'.cell? ⟨w.heap.size, 6, none⟩ = some (.int .i64 p.nm.minInt) ∧ w'.cell? ⟨w.heap.size, 7, none⟩ = some (.int .i64 p.nm.minFrac) ∧ w'.cell? ⟨w.heap.size, 8, none⟩ = some (.int .i64 p.nm.maxFrac) ∧ w'.cell? ⟨w.heap.size, 9, none⟩ = some (.int .i64 p.nm.g1) ∧ w'.cell? ⟨w.heap.size, 10, none⟩ = some (.int .i64 p.nm.g2) ∧ w'.cell? ⟨w.heap.size, 11, none⟩ = some (.int .i64 p.nm.minSig) ∧ w'.cell? ⟨w.heap.size, 12, none⟩ = some (.int .i64 p.nm.maxSig) ∧ w'.cell? ⟨w.heap.size, 13, none⟩ = some (.int .i64 p.nm.exp) ∧ w'.cell? ⟨w.heap.size, 14, none⟩ = some (.bool p.nm.expPlus) ∧ w'.cell? ⟨w.heap.size, 15, none⟩ = some (.int .i32 p.pad) ∧ w'.cell? ⟨w.heap.size, 16, none⟩ = some (.int .i64 p.padAt)) (first | assumption | go_keep)
          (first
            | (go_at_call_of 29 (Value.slice A3 p.npre.length c3); refine (C3.out _ ?_).mono ?_; exact only_same H0.out.gr rfl rfl rfl rfl; rintro e w1 ⟨rfl, hg⟩; have H1 := Lib.hid (H0.out.grown (only_from hg rfl rfl rfl rfl)); have q1 := H1.out.all; clear hg)
            | (go_at_call 16; refine (CN.out _).mono ?_; rintro e w2 ⟨rfl, hg⟩; have H2 := Lib.hid (H1.out.grown (only_from hg rfl rfl rfl rfl)); have q2 := H2.out.all; clear hg)
            | (go_at_call_of 29 (Value.slice A4 p.nsuf.length c4); refine (C4.out _ ?_).mono ?_; exact only_same H2.out.gr rfl rfl rfl rfl; rintro e w3 ⟨rfl, hg⟩; have H3 := Lib.hid (H2.out.grown (only_from hg rfl rfl rfl rfl)); have q3 := H3.out.all; clear hg))
        all_goals (go_wp2_with fail; go_meet; exact ⟨rfl, H3.out.same rfl rfl rfl rfl⟩)
      case rest =>
        obtain ⟨rfl, HB⟩ := hcut
        go_wp2_with fail
        go_ret
        exact ⟨by rw [HT2.out]; rfl, HB.out.gr⟩

set_option maxRecDepth 100000 in
set_option maxHeartbeats 40000000 in
theorem width_ref (w : World) (u : Value) (p : Pt) (h : PatV w u p) (hs : smallNm p.nm = true) (hl : (p.pre ++ p.suf ++ p.npre ++ p.nsuf).length ≤ 300) :
    Calls Try.prog 18 #[u] w fun e w' => e = .returned (.int .i64 (((strOf (numR p.nm)).size : Int) + p.pre.length + p.suf.length)) ∧ w.grownBy w' none := by
  obtain ⟨v1, v2, v3, v4, rfl, t1, t2, t3, t4⟩ := h
  obtain ⟨A1, c1, rfl, -⟩ := id t1
  obtain ⟨A2, c2, rfl, -⟩ := id t2
  obtain ⟨A3, c3, rfl, -⟩ := id t3
  obtain ⟨A4, c4, rfl, -⟩ := id t4
  have hlen : p.pre.length + p.suf.length + p.npre.length + p.nsuf.length ≤ 300 := by simpa using (by simp at hl; omega : _)
  have CN : Hid (∀ W, Calls Try.prog 16 #[.agg #[.slice A1 p.pre.length c1, .slice A2 p.suf.length c2, .slice A3 p.npre.length c3, .slice A4 p.nsuf.length c4, .bool p.neg, .int .i64 p.nm.hash, .int .i64 p.nm.minInt, .int .i64 p.nm.minFrac, .int .i64 p.nm.maxFrac, .int .i64 p.nm.g1, .int .i64 p.nm.g2,
    .int .i64 p.nm.minSig, .int .i64 p.nm.maxSig, .int .i64 p.nm.exp, .bool p.nm.expPlus, .int .i32 p.pad, .int .i64 p.padAt]] W fun e w' => e = .returned (.string (strOf (numR p.nm))) ∧ W.grownBy w' none) := fun W => number_ref W A1 A2 A3 A4 _ _ _ _ c1 c2 c3 c4 p hs
  have hz : (strOf (numR p.nm)).size ≤ 2000 := by have := strOf_size_le (numR p.nm); have := numR_le p.nm hs; omega
  have H0 := Lib.hid (TI.new w (ptCells (.slice A1 p.pre.length c1) (.slice A2 p.suf.length c2) (.slice A3 p.npre.length c3) (.slice A4 p.nsuf.length c4) p))
  generalize strOf (numR p.nm) = X at *
  have hw1 : IntKind.i64.wrap ((X.size : Int) + p.pre.length) = (X.size : Int) + p.pre.length := by rw [IntKind.wrap_i64]; omega
  have hw2 : IntKind.i64.wrap ((X.size : Int) + p.pre.length + p.suf.length) = (X.size : Int) + p.pre.length + p.suf.length := by rw [IntKind.wrap_i64]; omega
  clear t1 t2 t3 t4 hl hs
  go_enter Try.func18, Try.ntmps18
  go_upto_region 1 with fail
  go_cut [2] (fun v2 wx => v2 = .int .i64 ((X.size : Int) + p.pre.length + p.suf.length) ∧ Hid (w.grownBy wx none))
  case first =>
    have hc := H0.out.cells
    go_region_held3 (fun w' => ∀ i, w'.cell? ⟨w.heap.size, i, none⟩ = (#[.slice A1 p.pre.length c1, .slice A2 p.suf.length c2, .slice A3 p.npre.length c3, .slice A4 p.nsuf.length c4, .bool p.neg, .int .i64 p.nm.hash, .int .i64 p.nm.minInt, .int .i64 p.nm.minFrac, .int .i64 p.nm.maxFrac, .int .i64 p.nm.g1, .int .i64 p.nm.g2, .int .i64 p.nm.minSig, .int .i64 p.nm.maxSig, .int .i64 p.nm.exp, .bool p.nm.expPlus, .int .i32 p.pad, .int .i64 p.padAt] : Array Value)[i]?) (first | assumption | go_keep)
      (first
        | (go_at_call 16; refine (CN.out _).mono ?_; rintro e w2 ⟨rfl, hg⟩; have H1 := Lib.hid (H0.out.grown (only_from hg rfl rfl rfl rfl)); have q1 := H1.out.cells; clear hg))
    all_goals (go_wp2_with fail; go_meet; exact ⟨rfl, H1.out.gr⟩)
  case rest =>
    obtain ⟨rfl, HB⟩ := hcut
    go_wp2_with fail
    go_ret
    exact ⟨rfl, HB.out⟩

end Go.Proofs.Ytdbcdgojbegakaa

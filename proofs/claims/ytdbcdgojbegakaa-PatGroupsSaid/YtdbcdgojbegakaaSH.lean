/-
exerguelaw10's shown: the document's example.
-/
import Derived.Test.YtdbcdgojbegakaaRJ
import Derived.Test.YtdbcdgojbegakaaN4
namespace Go.Proofs.Ytdbcdgojbegakaa
open Go.RowKit

def b0 : ByteArray := ⟨#[35, 44, 35, 35, 48, 46, 48, 48, 59, 40, 35, 44, 35, 35, 48, 46, 48, 48, 41]⟩
theorem s0_bytes : strOf s0 = ⟨#[35, 44, 35, 35, 48, 46, 48, 48, 59, 40, 35, 44, 35, 35, 48, 46, 48, 48, 41]⟩ := by decide +kernel
theorem n0_bytes : strOf (numT p0.nm) = ⟨#[35, 44, 35, 35, 48, 46, 48, 48]⟩ := by decide +kernel
theorem n0_size : ((strOf (numT p0.nm)).size : Int) + p0.pre.length + p0.suf.length = 8 := by rw [n0_bytes]; rfl
theorem small0 : smallP p0 = true := by decide +kernel

theorem shown_pat (w : World) : Calls Try.prog 19 #[.string ⟨#[35, 44, 35, 35, 48, 46, 48, 48, 59, 40, 35, 44, 35, 35, 48, 46, 48, 48, 41]⟩] w fun e w' => (∃ u, e = .returned (.tuple #[u, .int .i64 0, .int .i64 0]) ∧ PatV w' u p0) ∧ w.grownBy w' none := by
  have h := parse_any w s0 (by decide +kernel) (by decide)
  rw [shown_parse, s0_bytes] at h
  exact h
theorem shown_txt (w : World) (u : Value) (h : PatV w u p0) : Calls Try.prog 13 #[u] w fun e w' => e = .returned (.string ⟨#[35, 44, 35, 35, 48, 46, 48, 48, 59, 40, 35, 44, 35, 35, 48, 46, 48, 48, 41]⟩) ∧ w.grownBy w' none := by
  have h := text_any w u p0 h small0 (by decide)
  rw [shown_text, s0_bytes] at h
  exact h
theorem shown_rgt (w : World) (u : Value) (h : PatV w u p0) : Calls Try.prog 10 #[u] w fun e w' => e = .returned (.bool true) ∧ w.grownBy w' none := by
  have h := right_any w u p0 h (by decide)
  rw [shown_right] at h
  exact h
theorem shown_wid (w : World) (u : Value) (h : PatV w u p0) : Calls Try.prog 17 #[u] w fun e w' => e = .returned (.int .i64 8) ∧ w.grownBy w' none := by
  have h := width_any w u p0 h (by decide +kernel) (by decide)
  rw [n0_size] at h
  exact h
theorem shown_num (w : World) (u : Value) (h : PatV w u p0) : Calls Try.prog 15 #[u] w fun e w' => e = .returned (.string ⟨#[35, 44, 35, 35, 48, 46, 48, 48]⟩) ∧ w.grownBy w' none := by
  obtain ⟨v1, v2, v3, v4, rfl, ⟨A1, c1, rfl, -⟩, ⟨A2, c2, rfl, -⟩, ⟨A3, c3, rfl, -⟩, ⟨A4, c4, rfl, -⟩⟩ := h
  have h := numT_any (w := w) (p := p0) (v1 := .slice A1 p0.pre.length c1) (v2 := .slice A2 p0.suf.length c2) (v3 := .slice A3 p0.npre.length c3) (v4 := .slice A4 p0.nsuf.length c4) (by decide +kernel) ⟨_, _, _, rfl⟩ ⟨_, _, _, rfl⟩ ⟨_, _, _, rfl⟩ ⟨_, _, _, rfl⟩
  rw [n0_bytes] at h
  exact h

set_option maxRecDepth 100000 in
set_option maxHeartbeats 40000000 in
theorem shown_any (w : World) : Calls Try.prog 7 #[] w fun e w' => e = .returned (.bool true) ∧ w.grownBy w' none := by
  have C1 := Lib.hid shown_pat
  have C2 := Lib.hid shown_txt
  have C3 := Lib.hid shown_rgt
  have C4 := Lib.hid shown_wid
  have C5 := Lib.hid shown_num
  go_enter Try.func7, Try.ntmps7
  go_upto_region 2 with (first
    | (go_at_call 19; refine (C1.out _).mono ?_; rintro e w1 ⟨⟨u, rfl, hq⟩, hg⟩; have HQ := Lib.hid hq; obtain ⟨v1, v2, v3, v4, rfl, z1, z2, z3, z4⟩ := hq; obtain ⟨A1, c1, rfl, -⟩ := z1; obtain ⟨A2, c2, rfl, -⟩ := z2; obtain ⟨A3, c3, rfl, h3⟩ := z3; obtain ⟨A4, c4, rfl, -⟩ := z4; obtain ⟨ad, rfl, n1, n2⟩ := h3.1 0 ⟨0, 40⟩ rfl; have HG := Lib.hid hg; have HN := Lib.hid n2; have HB := Lib.hid (Blk.new w1 24 zCells); clear hg h3 n1 n2)
    | (refine wpList_store_row rfl 24 _ _ rfl w1.heap.size _ rfl rfl 24 zCells HB.out (by exact info24) (by rfl) (by simp [ptCells, Value.oneCell']) ?_))
  have BW : Hid (Blk ((w1.alloc (.cells zCells 24)).setRow w1.heap.size (ptCells (.slice A1 p0.pre.length c1) (.slice A2 p0.suf.length c2) (.slice (some ad) p0.npre.length c3) (.slice A4 p0.nsuf.length c4) p0)) w1.heap.size 24 (ptCells (.slice A1 p0.pre.length c1) (.slice A2 p0.suf.length c2) (.slice (some ad) p0.npre.length c3) (.slice A4 p0.nsuf.length c4) p0)) := HB.out.row _
  have GW : Hid (w.grownBy ((w1.alloc (.cells zCells 24)).setRow w1.heap.size (ptCells (.slice A1 p0.pre.length c1) (.slice A2 p0.suf.length c2) (.slice (some ad) p0.npre.length c3) (.slice A4 p0.nsuf.length c4) p0)) none) := only_row (only_alloc HG.out _) (.inr HG.out.size) _
  have G1 : Hid (w1.grownBy ((w1.alloc (.cells zCells 24)).setRow w1.heap.size (ptCells (.slice A1 p0.pre.length c1) (.slice A2 p0.suf.length c2) (.slice (some ad) p0.npre.length c3) (.slice A4 p0.nsuf.length c4) p0)) none) := only_row (only_alloc (only_refl w1 none) _) (.inr (Nat.le_refl _)) _
  have NW := Lib.hid (G1.out.cell HN.out (by simp))
  have PW := Lib.hid (HQ.out.grown G1.out)
  clear HB HG HN HQ G1
  change Code.wp _ _ _ _ ((w1.alloc (.cells zCells 24)).setRow w1.heap.size (ptCells (.slice A1 p0.pre.length c1) (.slice A2 p0.suf.length c2) (.slice (some ad) p0.npre.length c3) (.slice A4 p0.nsuf.length c4) p0))
  generalize (w1.alloc (.cells zCells 24)).setRow w1.heap.size (ptCells (.slice A1 p0.pre.length c1) (.slice A2 p0.suf.length c2) (.slice (some ad) p0.npre.length c3) (.slice A4 p0.nsuf.length c4) p0) = W2 at *
  generalize w1.heap.size = G at *
  have k4 : W2.cell? ⟨G, 4, none⟩ = some (.bool true) := BW.out.cell 4
  have k5 : W2.cell? ⟨G, 5, none⟩ = some (.int .i64 3) := BW.out.cell 5
  have k6 : W2.cell? ⟨G, 6, none⟩ = some (.int .i64 1) := BW.out.cell 6
  have k7 : W2.cell? ⟨G, 7, none⟩ = some (.int .i64 2) := BW.out.cell 7
  have k8 : W2.cell? ⟨G, 8, none⟩ = some (.int .i64 2) := BW.out.cell 8
  have k9 : W2.cell? ⟨G, 9, none⟩ = some (.int .i64 3) := BW.out.cell 9
  have k10 : W2.cell? ⟨G, 10, none⟩ = some (.int .i64 3) := BW.out.cell 10
  have k2 : W2.cell? ⟨G, 2, none⟩ = some (.slice (some ad) 1 c3) := BW.out.cell 2
  have kn : W2.cell? ⟨ad.block, ad.off + 1, none⟩ = some (.int .i32 40) := by
    have h : W2.cell? (ad.add 1) = some (.int .i32 40) := NW.out
    rwa [show ad.add 1 = ⟨ad.block, ad.off + 1, none⟩ by simp [Addr.add]] at h
  go_wp2_with (first
    | (refine wpList_load_wanted (by rfl) 24 _ (by rfl) G 0 (by rfl) (ptCells (.slice A1 p0.pre.length c1) (.slice A2 p0.suf.length c2) (.slice (some ad) p0.npre.length c3) (.slice A4 p0.nsuf.length c4) p0).toList _ (by exact row_range BW.out) Try.underlying24 rfl (info24c _ _ _ _ _) ?_)
    | (refine wpList_load_wanted (by rfl) 24 _ (by rfl) G 0 (by rfl) (ptCells (.slice A1 p0.pre.length c1) (.slice A2 p0.suf.length c2) (.slice (some ad) p0.npre.length c3) (.slice A4 p0.nsuf.length c4) p0).toList _ (by exact row_range B3.out) Try.underlying24 rfl (info24c _ _ _ _ _) ?_)
    | (refine wpList_load_wanted (by rfl) 24 _ (by rfl) G 0 (by rfl) (ptCells (.slice A1 p0.pre.length c1) (.slice A2 p0.suf.length c2) (.slice (some ad) p0.npre.length c3) (.slice A4 p0.nsuf.length c4) p0).toList _ (by exact row_range B4.out) Try.underlying24 rfl (info24c _ _ _ _ _) ?_)
    | (refine wpList_load_wanted (by rfl) 24 _ (by rfl) G 0 (by rfl) (ptCells (.slice A1 p0.pre.length c1) (.slice A2 p0.suf.length c2) (.slice (some ad) p0.npre.length c3) (.slice A4 p0.nsuf.length c4) p0).toList _ (by exact row_range B5.out) Try.underlying24 rfl (info24c _ _ _ _ _) ?_)
    | (go_at_call 13; refine (C2.out _ _ (by exact PW.out)).mono ?_; rintro e w3 ⟨rfl, hg⟩; have G3 := Lib.hid hg; have B3 := Lib.hid (BW.out.grown hg (by simp)); have P3 := Lib.hid (PW.out.grown hg); clear hg)
    | (go_at_call 10; refine (C3.out _ _ (by exact P3.out)).mono ?_; rintro e w4 ⟨rfl, hg⟩; have G4 := Lib.hid (only_trans G3.out hg); have B4 := Lib.hid (B3.out.grown hg (by simp)); have P4 := Lib.hid (P3.out.grown hg); clear hg)
    | (go_at_call 17; refine (C4.out _ _ (by exact P4.out)).mono ?_; rintro e w5 ⟨rfl, hg⟩; have G5 := Lib.hid (only_trans G4.out hg); have B5 := Lib.hid (B4.out.grown hg (by simp)); have P5 := Lib.hid (P4.out.grown hg); clear hg)
    | (go_at_call 15; refine (C5.out _ _ (by exact P5.out)).mono ?_; rintro e w6 ⟨rfl, hg⟩; have G6 := Lib.hid (only_trans G5.out hg); clear hg))
  go_ret
  exact ⟨rfl, only_trans GW.out G6.out⟩
end Go.Proofs.Ytdbcdgojbegakaa

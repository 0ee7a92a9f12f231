/-
exerguelaw10.PatTells: the walk.
-/
import Derived.Test.YtdbcdgojbegakaaVK
import Derived.Test.YtdbcdgojbegakaaOQ
import Derived.Test.YtdbcdgojbegakaaSH
import Derived.Test.YtdbcdgojbegakaaFW
namespace Go.Proofs.Ytdbcdgojbegakaa
open Go.RowKit
set_option linter.unusedSimpArgs false
set_option linter.unusedVariables false

theorem right_g {p : Pt} (h : rightP p = true) : 0 < p.nm.g1 → 0 < p.nm.g2 := fun h1 => by
  rcases (right_number h).1.fig with ⟨_, _, _, _, _, _, h3, h4⟩ | ⟨_, _, _, _, _, _, _, hg⟩
  · omega
  · rcases hg with ⟨h3, h4⟩ | ⟨h3, h4, _, _⟩ <;> omega
theorem PatIn.pat {w : World} {A1 A2 A3 A4 : Option Addr} {c1 c2 c3 c4 : Nat} {p : Pt} (h : PatIn w A1 A2 A3 A4 c1 c2 c3 c4 p) : PatV w (.agg (ptCells (.slice A1 p.pre.length c1) (.slice A2 p.suf.length c2) (.slice A3 p.npre.length c3) (.slice A4 p.nsuf.length c4) p)) p := ⟨_, _, _, _, rfl, h.t1, h.t2, h.t3, h.t4⟩
theorem right_in {w : World} {A1 A2 A3 A4 : Option Addr} {c1 c2 c3 c4 : Nat} {p : Pt} (h : PatIn w A1 A2 A3 A4 c1 c2 c3 c4 p) (hl : (p.pre ++ p.suf ++ p.npre ++ p.nsuf).length ≤ 300) (W : World) (hW : w.grownBy W none) :
    Calls Try.prog 9 #[.agg (ptCells (.slice A1 p.pre.length c1) (.slice A2 p.suf.length c2) (.slice A3 p.npre.length c3) (.slice A4 p.nsuf.length c4) p)] W fun e w' => e = .returned (.bool (rightP p)) ∧ W.grownBy w' none :=
  right_ref W A1 A2 A3 A4 c1 c2 c3 c4 p (h.t1.grown hW) (h.t2.grown hW) (h.t3.grown hW) (h.t4.grown hW) h.k1 h.k2 h.k3 h.k4 h.b h.bp hl

set_option maxRecDepth 100000 in
set_option maxHeartbeats 16000000 in
theorem patTells_any (w : World) (A1 A2 A3 A4 : Option Addr) (c1 c2 c3 c4 : Nat) (p : Pt) (hp : PatIn w A1 A2 A3 A4 c1 c2 c3 c4 p) (B1 B2 B3 B4 : Option Addr) (d1 d2 d3 d4 : Nat) (q : Pt) (hq : PatIn w B1 B2 B3 B4 d1 d2 d3 d4 q) :
    Calls Try.prog 3 #[.agg (ptCells (.slice A1 p.pre.length c1) (.slice A2 p.suf.length c2) (.slice A3 p.npre.length c3) (.slice A4 p.nsuf.length c4) p), .agg (ptCells (.slice B1 q.pre.length d1) (.slice B2 q.suf.length d2) (.slice B3 q.npre.length d3) (.slice B4 q.nsuf.length d4) q)] w fun e w' => e = .returned (.bool true) ∧ w.grownBy w' none := by
  have CS := Lib.hid shown_any
  have CF1 := Lib.hid (fun W => few_any W A1 A2 A3 A4 _ _ _ _ c1 c2 c3 c4 p hp.l)
  have CF2 := Lib.hid (fun W => few_any W B1 B2 B3 B4 _ _ _ _ d1 d2 d3 d4 q hq.l)
  have H0 := Lib.hid (SI.new w (ptCells (.slice A1 p.pre.length c1) (.slice A2 p.suf.length c2) (.slice A3 p.npre.length c3) (.slice A4 p.nsuf.length c4) p) (ptCells (.slice B1 q.pre.length d1) (.slice B2 q.suf.length d2) (.slice B3 q.npre.length d3) (.slice B4 q.nsuf.length d4) q))
  have HP := Lib.hid hp
  have HQ := Lib.hid hq
  clear hp hq
  by_cases hf : (p.pre.length : Int) + p.suf.length + p.npre.length + p.nsuf.length ≤ 300
  · have hf1 : decide ((p.pre.length : Int) + p.suf.length + p.npre.length + p.nsuf.length ≤ 300) = true := by simpa using hf
    rw [hf1] at CF1
    by_cases hk : (q.pre.length : Int) + q.suf.length + q.npre.length + q.nsuf.length ≤ 300
    · have hk1 : decide ((q.pre.length : Int) + q.suf.length + q.npre.length + q.nsuf.length ≤ 300) = true := by simpa using hk
      rw [hk1] at CF2
      have hl : (p.pre ++ p.suf ++ p.npre ++ p.nsuf).length ≤ 300 := by simp; omega
      have D9 : Hid (∀ W, w.grownBy W none → Calls Try.prog 9 #[.agg (ptCells (.slice A1 p.pre.length c1) (.slice A2 p.suf.length c2) (.slice A3 p.npre.length c3) (.slice A4 p.nsuf.length c4) p)] W fun e w' => e = .returned (.bool (rightP p)) ∧ W.grownBy w' none) := fun W hW => right_in HP.out hl W hW
      have D10 : Hid (∀ W, w.grownBy W none → Calls Try.prog 10 #[.agg (ptCells (.slice A1 p.pre.length c1) (.slice A2 p.suf.length c2) (.slice A3 p.npre.length c3) (.slice A4 p.nsuf.length c4) p)] W fun e w' => e = .returned (.bool (rightP p)) ∧ W.grownBy w' none) := fun W hW => right_any W _ p (HP.out.pat.grown hW) hl
      have D11 : Hid (∀ W, w.grownBy W none → Calls Try.prog 11 #[.agg (ptCells (.slice A1 p.pre.length c1) (.slice A2 p.suf.length c2) (.slice A3 p.npre.length c3) (.slice A4 p.nsuf.length c4) p), .agg (ptCells (.slice B1 q.pre.length d1) (.slice B2 q.suf.length d2) (.slice B3 q.npre.length d3) (.slice B4 q.nsuf.length d4) q)] W fun e w' => e = .returned (.bool (decide (p = q))) ∧ W.grownBy w' none) := fun W hW => same_any W _ _ p q (HP.out.pat.grown hW) (HQ.out.pat.grown hW) (by omega)
      have D12 : Hid (∀ W, w.grownBy W none → Calls Try.prog 12 #[.agg (ptCells (.slice A1 p.pre.length c1) (.slice A2 p.suf.length c2) (.slice A3 p.npre.length c3) (.slice A4 p.nsuf.length c4) p), .agg (ptCells (.slice B1 q.pre.length d1) (.slice B2 q.suf.length d2) (.slice B3 q.npre.length d3) (.slice B4 q.nsuf.length d4) q)] W fun e w' => e = .returned (.bool (decide (p = q))) ∧ W.grownBy w' none) := fun W hW => same_ref W _ _ p q (HP.out.pat.grown hW) (HQ.out.pat.grown hW) (by omega)
      go_enter Try.func3, Try.ntmps3
      go_upto_region 1 with fail
      generalize (w.alloc (.cells (ptCells (.slice A1 p.pre.length c1) (.slice A2 p.suf.length c2) (.slice A3 p.npre.length c3) (.slice A4 p.nsuf.length c4) p) 24)).alloc (.cells (ptCells (.slice B1 q.pre.length d1) (.slice B2 q.suf.length d2) (.slice B3 q.npre.length d3) (.slice B4 q.nsuf.length d4) q) 24) = W0 at *
      go_upto_region 5 with (first
        | (go_at_call 7; refine (CS.out _).mono ?_; rintro e w1 ⟨rfl, hg⟩; have H1 := Lib.hid (H0.out.grown hg); clear hg)
        | (go_at_call_of 8 (Value.agg (ptCells (.slice A1 p.pre.length c1) (.slice A2 p.suf.length c2) (.slice A3 p.npre.length c3) (.slice A4 p.nsuf.length c4) p)); refine (CF1.out _).mono ?_; rintro e w2 ⟨rfl, hg⟩; have H2 := Lib.hid (H1.out.grown hg); clear hg)
        | (go_at_call_of 8 (Value.agg (ptCells (.slice B1 q.pre.length d1) (.slice B2 q.suf.length d2) (.slice B3 q.npre.length d3) (.slice B4 q.nsuf.length d4) q)); refine (CF2.out _).mono ?_; rintro e w3 ⟨rfl, hg⟩; have H3 := Lib.hid (H2.out.grown hg); clear hg)
        | (go_at_call 9; refine (D9.out _ (by exact H3.out.gr)).mono ?_; rintro e w4 ⟨rfl, hg⟩; have H4 := Lib.hid (H3.out.grown hg); clear hg)
        | (refine wpList_load_wanted (by rfl) 24 _ (by rfl) (w.heap.size + 1) 0 (by rfl) (ptCells (.slice B1 q.pre.length d1) (.slice B2 q.suf.length d2) (.slice B3 q.npre.length d3) (.slice B4 q.nsuf.length d4) q).toList _ (by exact row_range H2.out.b2) Try.underlying24 rfl (info24c _ _ _ _ _) ?_)
        | (refine wpList_load_mid rfl 24 _ rfl w.heap.size 0 rfl (ptCells (.slice A1 p.pre.length c1) (.slice A2 p.suf.length c2) (.slice A3 p.npre.length c3) (.slice A4 p.nsuf.length c4) p).toList _ (by exact row_range H3.out.b1) Try.underlying24 rfl (info24c _ _ _ _ _) ?_)
        | (refine wpList_load_mid rfl 24 _ rfl w.heap.size 0 rfl (ptCells (.slice A1 p.pre.length c1) (.slice A2 p.suf.length c2) (.slice A3 p.npre.length c3) (.slice A4 p.nsuf.length c4) p).toList _ (by exact row_range H2.out.b1) Try.underlying24 rfl (info24c _ _ _ _ _) ?_)
        | (refine wpList_load_mid rfl 24 _ rfl w.heap.size 0 rfl (ptCells (.slice A1 p.pre.length c1) (.slice A2 p.suf.length c2) (.slice A3 p.npre.length c3) (.slice A4 p.nsuf.length c4) p).toList _ (by exact row_range H1.out.b1) Try.underlying24 rfl (info24c _ _ _ _ _) ?_))
      clear D9 CS CF1 CF2 H0 H1 H2 H3 hf1 hk1 hf hk
      cases hr : rightP p with
      | false =>
        have hsz1 : ((ptCells (.slice A1 p.pre.length c1) (.slice A2 p.suf.length c2) (.slice A3 p.npre.length c3) (.slice A4 p.nsuf.length c4) p) : Array Value).size = 17 := rfl
        have hsz2 : ((ptCells (.slice B1 q.pre.length d1) (.slice B2 q.suf.length d2) (.slice B3 q.npre.length d3) (.slice B4 q.nsuf.length d4) q) : Array Value).size = 17 := rfl
        rw [hr] at D10
        clear hr HP HQ
        generalize decide (p = q) = E at *
        generalize ((ptCells (.slice A1 p.pre.length c1) (.slice A2 p.suf.length c2) (.slice A3 p.npre.length c3) (.slice A4 p.nsuf.length c4) p) : Array Value) = cs at *
        generalize ((ptCells (.slice B1 q.pre.length d1) (.slice B2 q.suf.length d2) (.slice B3 q.npre.length d3) (.slice B4 q.nsuf.length d4) q) : Array Value) = ds at *
        have hics : (Try.prog.info? 24).map (·.size) = some cs.toList.length := by rw [Array.length_toList, hsz1]; exact info24
        have hids : (Try.prog.info? 24).map (·.size) = some ds.toList.length := by rw [Array.length_toList, hsz2]; exact info24
        refine wp_region_held_drew (S := fun W => SI w W cs ds) (by kernel_rfl) (H4.out.same rfl rfl rfl rfl) (fun _ => ?_)
        have H4d := Lib.hid (H4.out.same (W' := World.drew _) rfl rfl rfl rfl)
        refine wpAnyH_take (i := 0) (v := _) rfl (by kernel_rfl) (by kernel_rfl) (by kernel_rfl) (fun _ _ _ h => h) (yieldsIf_load_mid (by rfl) 24 _ rfl w.heap.size 0 rfl cs.toList _ (fun W hW => row_range hW.b1) Try.underlying24 rfl hics) H4d.out ?_
        try simp only [Act.put, List.setIfInBounds_toArray, List.set_cons_zero, List.set_cons_succ, Array.toArray_toList, List.getElem_toArray, List.getElem_cons_zero, List.getElem_cons_succ]
        refine wpAnyH_take (i := 2) (v := .bool false) rfl (by kernel_rfl) (by kernel_rfl) (by kernel_rfl) (fun _ _ _ h => h) (.inl ⟨by rfl, ?_⟩) H4d.out ?_
        · intro W hW
          go_simp
        try simp only [Act.put, List.setIfInBounds_toArray, List.set_cons_zero, List.set_cons_succ, Array.toArray_toList, List.getElem_toArray, List.getElem_cons_zero, List.getElem_cons_succ]
        refine wpAnyH_ready (rs := [1]) (by kernel_rfl) (by simp) ?_
        refine AllReadyH.cons (o := _) rfl (fun K hK => ?_) AllReadyH.nil
        go_simp
        refine (D10.out _ (H4d.out.same rfl rfl rfl rfl).gr).mono ?_
        rintro e wx1 ⟨rfl, hg⟩
        have H4x1 := Lib.hid (H4d.out.grown (only_from hg rfl rfl rfl rfl))
        clear hg
        refine hK.out _ _ H4x1.out (fun _ => ?_)
        clear hK K
        try simp only [Act.put, List.setIfInBounds_toArray, List.set_cons_zero, List.set_cons_succ, Array.toArray_toList, List.getElem_toArray, List.getElem_cons_zero, List.getElem_cons_succ]
        refine wpAnyH_take (i := 3) (v := .bool false) rfl (by kernel_rfl) (by kernel_rfl) (by kernel_rfl) (fun _ _ _ h => h) (.inl ⟨by rfl, ?_⟩) H4x1.out ?_
        · intro W hW
          go_simp
        try simp only [Act.put, List.setIfInBounds_toArray, List.set_cons_zero, List.set_cons_succ, Array.toArray_toList, List.getElem_toArray, List.getElem_cons_zero, List.getElem_cons_succ]
        refine wpAnyH_take (i := 4) (v := .bool false) rfl (by kernel_rfl) (by kernel_rfl) (by kernel_rfl) (fun _ _ _ h => h) (.inl ⟨by rfl, ?_⟩) H4x1.out ?_
        · intro W hW
          go_simp
        try simp only [Act.put, List.setIfInBounds_toArray, List.set_cons_zero, List.set_cons_succ, Array.toArray_toList, List.getElem_toArray, List.getElem_cons_zero, List.getElem_cons_succ]
        refine wpAnyH_take (i := 5) (v := _) rfl (by kernel_rfl) (by kernel_rfl) (by kernel_rfl) (fun _ _ _ h => h) (yieldsIf_load_mid (by rfl) 24 _ rfl w.heap.size 0 rfl cs.toList _ (fun W hW => row_range hW.b1) Try.underlying24 rfl hics) H4x1.out ?_
        try simp only [Act.put, List.setIfInBounds_toArray, List.set_cons_zero, List.set_cons_succ, Array.toArray_toList, List.getElem_toArray, List.getElem_cons_zero, List.getElem_cons_succ]
        refine wpAnyH_take (i := 6) (v := _) rfl (by kernel_rfl) (by kernel_rfl) (by kernel_rfl) (fun _ _ _ h => h) (yieldsIf_load_mid (by rfl) 24 _ rfl (w.heap.size + 1) 0 rfl ds.toList _ (fun W hW => row_range hW.b2) Try.underlying24 rfl hids) H4x1.out ?_
        try simp only [Act.put, List.setIfInBounds_toArray, List.set_cons_zero, List.set_cons_succ, Array.toArray_toList, List.getElem_toArray, List.getElem_cons_zero, List.getElem_cons_succ]
        refine wpAnyH_take (i := 8) (v := _) rfl (by kernel_rfl) (by kernel_rfl) (by kernel_rfl) (fun _ _ _ h => h) (yieldsIf_load_mid (by rfl) 24 _ rfl w.heap.size 0 rfl cs.toList _ (fun W hW => row_range hW.b1) Try.underlying24 rfl hics) H4x1.out ?_
        try simp only [Act.put, List.setIfInBounds_toArray, List.set_cons_zero, List.set_cons_succ, Array.toArray_toList, List.getElem_toArray, List.getElem_cons_zero, List.getElem_cons_succ]
        refine wpAnyH_take (i := 9) (v := _) rfl (by kernel_rfl) (by kernel_rfl) (by kernel_rfl) (fun _ _ _ h => h) (yieldsIf_load_mid (by rfl) 24 _ rfl (w.heap.size + 1) 0 rfl ds.toList _ (fun W hW => row_range hW.b2) Try.underlying24 rfl hids) H4x1.out ?_
        try simp only [Act.put, List.setIfInBounds_toArray, List.set_cons_zero, List.set_cons_succ, Array.toArray_toList, List.getElem_toArray, List.getElem_cons_zero, List.getElem_cons_succ]
        refine wpAnyH_ready (rs := [7]) (by kernel_rfl) (by simp) ?_
        refine AllReadyH.cons (o := _) rfl (fun K hK => ?_) AllReadyH.nil
        go_simp
        refine (D11.out _ (H4x1.out.same rfl rfl rfl rfl).gr).mono ?_
        rintro e wx2 ⟨rfl, hg⟩
        have H4x2 := Lib.hid (H4x1.out.grown (only_from hg rfl rfl rfl rfl))
        clear hg
        refine hK.out _ _ H4x2.out (fun _ => ?_)
        clear hK K
        try simp only [Act.put, List.setIfInBounds_toArray, List.set_cons_zero, List.set_cons_succ, Array.toArray_toList, List.getElem_toArray, List.getElem_cons_zero, List.getElem_cons_succ]
        refine wpAnyH_ready (rs := [10]) (by kernel_rfl) (by simp) ?_
        refine AllReadyH.cons (o := _) rfl (fun K hK => ?_) AllReadyH.nil
        go_simp
        refine (D12.out _ (H4x2.out.same rfl rfl rfl rfl).gr).mono ?_
        rintro e wx3 ⟨rfl, hg⟩
        have H4x3 := Lib.hid (H4x2.out.grown (only_from hg rfl rfl rfl rfl))
        clear hg
        refine hK.out _ _ H4x3.out (fun _ => ?_)
        clear hK K
        try simp only [Act.put, List.setIfInBounds_toArray, List.set_cons_zero, List.set_cons_succ, Array.toArray_toList, List.getElem_toArray, List.getElem_cons_zero, List.getElem_cons_succ]
        refine wpAnyH_take (i := 11) (v := .bool false) rfl (by kernel_rfl) (by kernel_rfl) (by kernel_rfl) (fun _ _ _ h => h) (.inl ⟨by rfl, ?_⟩) H4x3.out ?_
        · intro W hW
          go_simp
        try simp only [Act.put, List.setIfInBounds_toArray, List.set_cons_zero, List.set_cons_succ, Array.toArray_toList, List.getElem_toArray, List.getElem_cons_zero, List.getElem_cons_succ]
        refine wpAnyH_take (i := 12) (v := .bool false) rfl (by kernel_rfl) (by kernel_rfl) (by kernel_rfl) (fun _ _ _ h => h) (.inl ⟨by rfl, ?_⟩) H4x3.out ?_
        · intro W hW
          go_simp
        try simp only [Act.put, List.setIfInBounds_toArray, List.set_cons_zero, List.set_cons_succ, Array.toArray_toList, List.getElem_toArray, List.getElem_cons_zero, List.getElem_cons_succ]
        refine wpAnyH_done (by kernel_rfl) ?_ _
        go_upto_region 7 with fail
        refine wp_region_held_drew (S := fun W => SI w W cs ds) (by kernel_rfl) (H4x3.out.same rfl rfl rfl rfl) (fun _ => ?_)
        have H4x3d := Lib.hid (H4x3.out.same (W' := World.drew _) rfl rfl rfl rfl)
        refine wpAnyH_take (i := 0) (v := .bool true) rfl (by kernel_rfl) (by kernel_rfl) (by kernel_rfl) (fun _ _ _ h => h) (.inl ⟨by rfl, ?_⟩) H4x3d.out ?_
        · intro W hW
          go_simp
        try simp only [Act.put, List.setIfInBounds_toArray, List.set_cons_zero, List.set_cons_succ, Array.toArray_toList, List.getElem_toArray, List.getElem_cons_zero, List.getElem_cons_succ]
        refine wpAnyH_take (i := 1) (v := .bool true) rfl (by kernel_rfl) (by kernel_rfl) (by kernel_rfl) (fun _ _ _ h => h) (.inl ⟨by rfl, ?_⟩) H4x3d.out ?_
        · intro W hW
          go_simp
        try simp only [Act.put, List.setIfInBounds_toArray, List.set_cons_zero, List.set_cons_succ, Array.toArray_toList, List.getElem_toArray, List.getElem_cons_zero, List.getElem_cons_succ]
        refine wpAnyH_take (i := 2) (v := .bool false) rfl (by kernel_rfl) (by kernel_rfl) (by kernel_rfl) (fun _ _ _ h => h) (.inl ⟨by rfl, ?_⟩) H4x3d.out ?_
        · intro W hW
          go_simp
        try simp only [Act.put, List.setIfInBounds_toArray, List.set_cons_zero, List.set_cons_succ, Array.toArray_toList, List.getElem_toArray, List.getElem_cons_zero, List.getElem_cons_succ]
        refine wpAnyH_take (i := 3) (v := .bool true) rfl (by kernel_rfl) (by kernel_rfl) (by kernel_rfl) (fun _ _ _ h => h) (.inl ⟨by rfl, ?_⟩) H4x3d.out ?_
        · intro W hW
          go_simp
        try simp only [Act.put, List.setIfInBounds_toArray, List.set_cons_zero, List.set_cons_succ, Array.toArray_toList, List.getElem_toArray, List.getElem_cons_zero, List.getElem_cons_succ]
        refine wpAnyH_take (i := 4) (v := .bool true) rfl (by kernel_rfl) (by kernel_rfl) (by kernel_rfl) (fun _ _ _ h => h) (.inl ⟨by rfl, ?_⟩) H4x3d.out ?_
        · intro W hW
          go_simp
        try simp only [Act.put, List.setIfInBounds_toArray, List.set_cons_zero, List.set_cons_succ, Array.toArray_toList, List.getElem_toArray, List.getElem_cons_zero, List.getElem_cons_succ]
        refine wpAnyH_take (i := 5) (v := undef) rfl (by kernel_rfl) (by kernel_rfl) (by kernel_rfl) (fun _ _ _ h => h) (.inr ⟨by rfl, rfl⟩) H4x3d.out ?_
        try simp only [Act.put, List.setIfInBounds_toArray, List.set_cons_zero, List.set_cons_succ, Array.toArray_toList, List.getElem_toArray, List.getElem_cons_zero, List.getElem_cons_succ]
        refine wpAnyH_take (i := 6) (v := undef) rfl (by kernel_rfl) (by kernel_rfl) (by kernel_rfl) (fun _ _ _ h => h) (.inr ⟨by rfl, rfl⟩) H4x3d.out ?_
        try simp only [Act.put, List.setIfInBounds_toArray, List.set_cons_zero, List.set_cons_succ, Array.toArray_toList, List.getElem_toArray, List.getElem_cons_zero, List.getElem_cons_succ]
        refine wpAnyH_take (i := 7) (v := undef) rfl (by kernel_rfl) (by kernel_rfl) (by kernel_rfl) (fun _ _ _ h => h) (.inr ⟨by rfl, rfl⟩) H4x3d.out ?_
        try simp only [Act.put, List.setIfInBounds_toArray, List.set_cons_zero, List.set_cons_succ, Array.toArray_toList, List.getElem_toArray, List.getElem_cons_zero, List.getElem_cons_succ]
        refine wpAnyH_take (i := 8) (v := undef) rfl (by kernel_rfl) (by kernel_rfl) (by kernel_rfl) (fun _ _ _ h => h) (.inr ⟨by rfl, rfl⟩) H4x3d.out ?_
        try simp only [Act.put, List.setIfInBounds_toArray, List.set_cons_zero, List.set_cons_succ, Array.toArray_toList, List.getElem_toArray, List.getElem_cons_zero, List.getElem_cons_succ]
        refine wpAnyH_take (i := 9) (v := undef) rfl (by kernel_rfl) (by kernel_rfl) (by kernel_rfl) (fun _ _ _ h => h) (.inr ⟨by rfl, rfl⟩) H4x3d.out ?_
        try simp only [Act.put, List.setIfInBounds_toArray, List.set_cons_zero, List.set_cons_succ, Array.toArray_toList, List.getElem_toArray, List.getElem_cons_zero, List.getElem_cons_succ]
        refine wpAnyH_take (i := 10) (v := undef) rfl (by kernel_rfl) (by kernel_rfl) (by kernel_rfl) (fun _ _ _ h => h) (.inr ⟨by rfl, rfl⟩) H4x3d.out ?_
        try simp only [Act.put, List.setIfInBounds_toArray, List.set_cons_zero, List.set_cons_succ, Array.toArray_toList, List.getElem_toArray, List.getElem_cons_zero, List.getElem_cons_succ]
        refine wpAnyH_take (i := 11) (v := undef) rfl (by kernel_rfl) (by kernel_rfl) (by kernel_rfl) (fun _ _ _ h => h) (.inr ⟨by rfl, rfl⟩) H4x3d.out ?_
        try simp only [Act.put, List.setIfInBounds_toArray, List.set_cons_zero, List.set_cons_succ, Array.toArray_toList, List.getElem_toArray, List.getElem_cons_zero, List.getElem_cons_succ]
        refine wpAnyH_take (i := 12) (v := undef) rfl (by kernel_rfl) (by kernel_rfl) (by kernel_rfl) (fun _ _ _ h => h) (.inr ⟨by rfl, rfl⟩) H4x3d.out ?_
        try simp only [Act.put, List.setIfInBounds_toArray, List.set_cons_zero, List.set_cons_succ, Array.toArray_toList, List.getElem_toArray, List.getElem_cons_zero, List.getElem_cons_succ]
        refine wpAnyH_take (i := 13) (v := undef) rfl (by kernel_rfl) (by kernel_rfl) (by kernel_rfl) (fun _ _ _ h => h) (.inr ⟨by rfl, rfl⟩) H4x3d.out ?_
        try simp only [Act.put, List.setIfInBounds_toArray, List.set_cons_zero, List.set_cons_succ, Array.toArray_toList, List.getElem_toArray, List.getElem_cons_zero, List.getElem_cons_succ]
        refine wpAnyH_take (i := 14) (v := undef) rfl (by kernel_rfl) (by kernel_rfl) (by kernel_rfl) (fun _ _ _ h => h) (.inr ⟨by rfl, rfl⟩) H4x3d.out ?_
        try simp only [Act.put, List.setIfInBounds_toArray, List.set_cons_zero, List.set_cons_succ, Array.toArray_toList, List.getElem_toArray, List.getElem_cons_zero, List.getElem_cons_succ]
        refine wpAnyH_take (i := 15) (v := undef) rfl (by kernel_rfl) (by kernel_rfl) (by kernel_rfl) (fun _ _ _ h => h) (.inr ⟨by rfl, rfl⟩) H4x3d.out ?_
        try simp only [Act.put, List.setIfInBounds_toArray, List.set_cons_zero, List.set_cons_succ, Array.toArray_toList, List.getElem_toArray, List.getElem_cons_zero, List.getElem_cons_succ]
        refine wpAnyH_take (i := 16) (v := undef) rfl (by kernel_rfl) (by kernel_rfl) (by kernel_rfl) (fun _ _ _ h => h) (.inr ⟨by rfl, rfl⟩) H4x3d.out ?_
        try simp only [Act.put, List.setIfInBounds_toArray, List.set_cons_zero, List.set_cons_succ, Array.toArray_toList, List.getElem_toArray, List.getElem_cons_zero, List.getElem_cons_succ]
        refine wpAnyH_take (i := 17) (v := undef) rfl (by kernel_rfl) (by kernel_rfl) (by kernel_rfl) (fun _ _ _ h => h) (.inr ⟨by rfl, rfl⟩) H4x3d.out ?_
        try simp only [Act.put, List.setIfInBounds_toArray, List.set_cons_zero, List.set_cons_succ, Array.toArray_toList, List.getElem_toArray, List.getElem_cons_zero, List.getElem_cons_succ]
        refine wpAnyH_take (i := 18) (v := undef) rfl (by kernel_rfl) (by kernel_rfl) (by kernel_rfl) (fun _ _ _ h => h) (.inr ⟨by rfl, rfl⟩) H4x3d.out ?_
        try simp only [Act.put, List.setIfInBounds_toArray, List.set_cons_zero, List.set_cons_succ, Array.toArray_toList, List.getElem_toArray, List.getElem_cons_zero, List.getElem_cons_succ]
        refine wpAnyH_take (i := 19) (v := undef) rfl (by kernel_rfl) (by kernel_rfl) (by kernel_rfl) (fun _ _ _ h => h) (.inr ⟨by rfl, rfl⟩) H4x3d.out ?_
        try simp only [Act.put, List.setIfInBounds_toArray, List.set_cons_zero, List.set_cons_succ, Array.toArray_toList, List.getElem_toArray, List.getElem_cons_zero, List.getElem_cons_succ]
        refine wpAnyH_take (i := 20) (v := undef) rfl (by kernel_rfl) (by kernel_rfl) (by kernel_rfl) (fun _ _ _ h => h) (.inr ⟨by rfl, rfl⟩) H4x3d.out ?_
        try simp only [Act.put, List.setIfInBounds_toArray, List.set_cons_zero, List.set_cons_succ, Array.toArray_toList, List.getElem_toArray, List.getElem_cons_zero, List.getElem_cons_succ]
        refine wpAnyH_take (i := 21) (v := undef) rfl (by kernel_rfl) (by kernel_rfl) (by kernel_rfl) (fun _ _ _ h => h) (.inr ⟨by rfl, rfl⟩) H4x3d.out ?_
        try simp only [Act.put, List.setIfInBounds_toArray, List.set_cons_zero, List.set_cons_succ, Array.toArray_toList, List.getElem_toArray, List.getElem_cons_zero, List.getElem_cons_succ]
        refine wpAnyH_take (i := 22) (v := undef) rfl (by kernel_rfl) (by kernel_rfl) (by kernel_rfl) (fun _ _ _ h => h) (.inr ⟨by rfl, rfl⟩) H4x3d.out ?_
        try simp only [Act.put, List.setIfInBounds_toArray, List.set_cons_zero, List.set_cons_succ, Array.toArray_toList, List.getElem_toArray, List.getElem_cons_zero, List.getElem_cons_succ]
        refine wpAnyH_take (i := 23) (v := undef) rfl (by kernel_rfl) (by kernel_rfl) (by kernel_rfl) (fun _ _ _ h => h) (.inr ⟨by rfl, rfl⟩) H4x3d.out ?_
        try simp only [Act.put, List.setIfInBounds_toArray, List.set_cons_zero, List.set_cons_succ, Array.toArray_toList, List.getElem_toArray, List.getElem_cons_zero, List.getElem_cons_succ]
        refine wpAnyH_take (i := 24) (v := .bool true) rfl (by kernel_rfl) (by kernel_rfl) (by kernel_rfl) (fun _ _ _ h => h) (.inl ⟨by rfl, ?_⟩) H4x3d.out ?_
        · intro W hW
          go_simp
        try simp only [Act.put, List.setIfInBounds_toArray, List.set_cons_zero, List.set_cons_succ, Array.toArray_toList, List.getElem_toArray, List.getElem_cons_zero, List.getElem_cons_succ]
        refine wpAnyH_take (i := 25) (v := .bool true) rfl (by kernel_rfl) (by kernel_rfl) (by kernel_rfl) (fun _ _ _ h => h) (.inl ⟨by rfl, ?_⟩) H4x3d.out ?_
        · intro W hW
          go_simp
        try simp only [Act.put, List.setIfInBounds_toArray, List.set_cons_zero, List.set_cons_succ, Array.toArray_toList, List.getElem_toArray, List.getElem_cons_zero, List.getElem_cons_succ]
        refine wpAnyH_take (i := 26) (v := .bool true) rfl (by kernel_rfl) (by kernel_rfl) (by kernel_rfl) (fun _ _ _ h => h) (.inl ⟨by rfl, ?_⟩) H4x3d.out ?_
        · intro W hW
          go_simp
        try simp only [Act.put, List.setIfInBounds_toArray, List.set_cons_zero, List.set_cons_succ, Array.toArray_toList, List.getElem_toArray, List.getElem_cons_zero, List.getElem_cons_succ]
        refine wpAnyH_done (by kernel_rfl) ?_ _
        go_wp2_with fail
        go_ret
        exact ⟨rfl, H4x3d.out.gr⟩
      | true =>
        have hg12 := right_g hr
        obtain ⟨-, -, hsm, -⟩ := right_number hr
        have hsp := (right_parse hr).1
        have D13 : Hid (∀ W, w.grownBy W none → Calls Try.prog 13 #[.agg (ptCells (.slice A1 p.pre.length c1) (.slice A2 p.suf.length c2) (.slice A3 p.npre.length c3) (.slice A4 p.nsuf.length c4) p)] W fun e w' => e = .returned (.string (strOf (textT p))) ∧ W.grownBy w' none) := fun W hW => text_any W _ p (HP.out.pat.grown hW) hsp hl
        have D14 : Hid (∀ W, w.grownBy W none → Calls Try.prog 14 #[.agg (ptCells (.slice A1 p.pre.length c1) (.slice A2 p.suf.length c2) (.slice A3 p.npre.length c3) (.slice A4 p.nsuf.length c4) p)] W fun e w' => e = .returned (.string (strOf (textT p))) ∧ W.grownBy w' none) := fun W hW => by
          have := textR_ref W _ p (HP.out.pat.grown hW) hsp hl
          rwa [textR_eq p hg12] at this
        have D15 : Hid (∀ W, w.grownBy W none → Calls Try.prog 15 #[.agg (ptCells (.slice A1 p.pre.length c1) (.slice A2 p.suf.length c2) (.slice A3 p.npre.length c3) (.slice A4 p.nsuf.length c4) p)] W fun e w' => e = .returned (.string (strOf (numT p.nm))) ∧ W.grownBy w' none) := fun W hW => numT_any hsm ⟨_, _, _, rfl⟩ ⟨_, _, _, rfl⟩ ⟨_, _, _, rfl⟩ ⟨_, _, _, rfl⟩
        have D16 : Hid (∀ W, w.grownBy W none → Calls Try.prog 16 #[.agg (ptCells (.slice A1 p.pre.length c1) (.slice A2 p.suf.length c2) (.slice A3 p.npre.length c3) (.slice A4 p.nsuf.length c4) p)] W fun e w' => e = .returned (.string (strOf (numT p.nm))) ∧ W.grownBy w' none) := fun W hW => by
          have := number_ref W A1 A2 A3 A4 p.pre.length p.suf.length p.npre.length p.nsuf.length c1 c2 c3 c4 p hsm
          rwa [numR_eq p.nm hg12] at this
        have D17 : Hid (∀ W, w.grownBy W none → Calls Try.prog 17 #[.agg (ptCells (.slice A1 p.pre.length c1) (.slice A2 p.suf.length c2) (.slice A3 p.npre.length c3) (.slice A4 p.nsuf.length c4) p)] W fun e w' => e = .returned (.int .i64 (((strOf (numT p.nm)).size : Int) + p.pre.length + p.suf.length)) ∧ W.grownBy w' none) := fun W hW => width_any W _ p (HP.out.pat.grown hW) hsm hl
        have D18 : Hid (∀ W, w.grownBy W none → Calls Try.prog 18 #[.agg (ptCells (.slice A1 p.pre.length c1) (.slice A2 p.suf.length c2) (.slice A3 p.npre.length c3) (.slice A4 p.nsuf.length c4) p)] W fun e w' => e = .returned (.int .i64 (((strOf (numT p.nm)).size : Int) + p.pre.length + p.suf.length)) ∧ W.grownBy w' none) := fun W hW => by
          have := width_ref W _ p (HP.out.pat.grown hW) hsm hl
          rwa [numR_eq p.nm hg12] at this
        have hsz1 : ((ptCells (.slice A1 p.pre.length c1) (.slice A2 p.suf.length c2) (.slice A3 p.npre.length c3) (.slice A4 p.nsuf.length c4) p) : Array Value).size = 17 := rfl
        have hsz2 : ((ptCells (.slice B1 q.pre.length d1) (.slice B2 q.suf.length d2) (.slice B3 q.npre.length d3) (.slice B4 q.nsuf.length d4) q) : Array Value).size = 17 := rfl
        rw [hr] at D10
        clear hr HP HQ hg12 hsm hsp hl
        generalize decide (p = q) = E at *
        generalize ((strOf (numT p.nm)).size : Int) + p.pre.length + p.suf.length = Z at *
        generalize strOf (numT p.nm) = X at *
        generalize strOf (textT p) = Y at *
        generalize ((ptCells (.slice A1 p.pre.length c1) (.slice A2 p.suf.length c2) (.slice A3 p.npre.length c3) (.slice A4 p.nsuf.length c4) p) : Array Value) = cs at *
        generalize ((ptCells (.slice B1 q.pre.length d1) (.slice B2 q.suf.length d2) (.slice B3 q.npre.length d3) (.slice B4 q.nsuf.length d4) q) : Array Value) = ds at *
        have hics : (Try.prog.info? 24).map (·.size) = some cs.toList.length := by rw [Array.length_toList, hsz1]; exact info24
        have hids : (Try.prog.info? 24).map (·.size) = some ds.toList.length := by rw [Array.length_toList, hsz2]; exact info24
        refine wp_region_held_drew (S := fun W => SI w W cs ds) (by kernel_rfl) (H4.out.same rfl rfl rfl rfl) (fun _ => ?_)
        have H4d := Lib.hid (H4.out.same (W' := World.drew _) rfl rfl rfl rfl)
        refine wpAnyH_take (i := 0) (v := _) rfl (by kernel_rfl) (by kernel_rfl) (by kernel_rfl) (fun _ _ _ h => h) (yieldsIf_load_mid (by rfl) 24 _ rfl w.heap.size 0 rfl cs.toList _ (fun W hW => row_range hW.b1) Try.underlying24 rfl hics) H4d.out ?_
        try simp only [Act.put, List.setIfInBounds_toArray, List.set_cons_zero, List.set_cons_succ, Array.toArray_toList, List.getElem_toArray, List.getElem_cons_zero, List.getElem_cons_succ]
        refine wpAnyH_take (i := 2) (v := .bool true) rfl (by kernel_rfl) (by kernel_rfl) (by kernel_rfl) (fun _ _ _ h => h) (.inl ⟨by rfl, ?_⟩) H4d.out ?_
        · intro W hW
          go_simp
        try simp only [Act.put, List.setIfInBounds_toArray, List.set_cons_zero, List.set_cons_succ, Array.toArray_toList, List.getElem_toArray, List.getElem_cons_zero, List.getElem_cons_succ]
        refine wpAnyH_ready (rs := [1]) (by kernel_rfl) (by simp) ?_
        refine AllReadyH.cons (o := _) rfl (fun K hK => ?_) AllReadyH.nil
        go_simp
        refine (D10.out _ (H4d.out.same rfl rfl rfl rfl).gr).mono ?_
        rintro e wx1 ⟨rfl, hg⟩
        have H4x1 := Lib.hid (H4d.out.grown (only_from hg rfl rfl rfl rfl))
        clear hg
        refine hK.out _ _ H4x1.out (fun _ => ?_)
        clear hK K
        try simp only [Act.put, List.setIfInBounds_toArray, List.set_cons_zero, List.set_cons_succ, Array.toArray_toList, List.getElem_toArray, List.getElem_cons_zero, List.getElem_cons_succ]
        refine wpAnyH_take (i := 3) (v := .bool false) rfl (by kernel_rfl) (by kernel_rfl) (by kernel_rfl) (fun _ _ _ h => h) (.inl ⟨by rfl, ?_⟩) H4x1.out ?_
        · intro W hW
          go_simp
        try simp only [Act.put, List.setIfInBounds_toArray, List.set_cons_zero, List.set_cons_succ, Array.toArray_toList, List.getElem_toArray, List.getElem_cons_zero, List.getElem_cons_succ]
        refine wpAnyH_take (i := 4) (v := .bool false) rfl (by kernel_rfl) (by kernel_rfl) (by kernel_rfl) (fun _ _ _ h => h) (.inl ⟨by rfl, ?_⟩) H4x1.out ?_
        · intro W hW
          go_simp
        try simp only [Act.put, List.setIfInBounds_toArray, List.set_cons_zero, List.set_cons_succ, Array.toArray_toList, List.getElem_toArray, List.getElem_cons_zero, List.getElem_cons_succ]
        refine wpAnyH_take (i := 5) (v := _) rfl (by kernel_rfl) (by kernel_rfl) (by kernel_rfl) (fun _ _ _ h => h) (yieldsIf_load_mid (by rfl) 24 _ rfl w.heap.size 0 rfl cs.toList _ (fun W hW => row_range hW.b1) Try.underlying24 rfl hics) H4x1.out ?_
        try simp only [Act.put, List.setIfInBounds_toArray, List.set_cons_zero, List.set_cons_succ, Array.toArray_toList, List.getElem_toArray, List.getElem_cons_zero, List.getElem_cons_succ]
        refine wpAnyH_take (i := 6) (v := _) rfl (by kernel_rfl) (by kernel_rfl) (by kernel_rfl) (fun _ _ _ h => h) (yieldsIf_load_mid (by rfl) 24 _ rfl (w.heap.size + 1) 0 rfl ds.toList _ (fun W hW => row_range hW.b2) Try.underlying24 rfl hids) H4x1.out ?_
        try simp only [Act.put, List.setIfInBounds_toArray, List.set_cons_zero, List.set_cons_succ, Array.toArray_toList, List.getElem_toArray, List.getElem_cons_zero, List.getElem_cons_succ]
        refine wpAnyH_take (i := 8) (v := _) rfl (by kernel_rfl) (by kernel_rfl) (by kernel_rfl) (fun _ _ _ h => h) (yieldsIf_load_mid (by rfl) 24 _ rfl w.heap.size 0 rfl cs.toList _ (fun W hW => row_range hW.b1) Try.underlying24 rfl hics) H4x1.out ?_
        try simp only [Act.put, List.setIfInBounds_toArray, List.set_cons_zero, List.set_cons_succ, Array.toArray_toList, List.getElem_toArray, List.getElem_cons_zero, List.getElem_cons_succ]
        refine wpAnyH_take (i := 9) (v := _) rfl (by kernel_rfl) (by kernel_rfl) (by kernel_rfl) (fun _ _ _ h => h) (yieldsIf_load_mid (by rfl) 24 _ rfl (w.heap.size + 1) 0 rfl ds.toList _ (fun W hW => row_range hW.b2) Try.underlying24 rfl hids) H4x1.out ?_
        try simp only [Act.put, List.setIfInBounds_toArray, List.set_cons_zero, List.set_cons_succ, Array.toArray_toList, List.getElem_toArray, List.getElem_cons_zero, List.getElem_cons_succ]
        refine wpAnyH_ready (rs := [7]) (by kernel_rfl) (by simp) ?_
        refine AllReadyH.cons (o := _) rfl (fun K hK => ?_) AllReadyH.nil
        go_simp
        refine (D11.out _ (H4x1.out.same rfl rfl rfl rfl).gr).mono ?_
        rintro e wx2 ⟨rfl, hg⟩
        have H4x2 := Lib.hid (H4x1.out.grown (only_from hg rfl rfl rfl rfl))
        clear hg
        refine hK.out _ _ H4x2.out (fun _ => ?_)
        clear hK K
        try simp only [Act.put, List.setIfInBounds_toArray, List.set_cons_zero, List.set_cons_succ, Array.toArray_toList, List.getElem_toArray, List.getElem_cons_zero, List.getElem_cons_succ]
        refine wpAnyH_ready (rs := [10]) (by kernel_rfl) (by simp) ?_
        refine AllReadyH.cons (o := _) rfl (fun K hK => ?_) AllReadyH.nil
        go_simp
        refine (D12.out _ (H4x2.out.same rfl rfl rfl rfl).gr).mono ?_
        rintro e wx3 ⟨rfl, hg⟩
        have H4x3 := Lib.hid (H4x2.out.grown (only_from hg rfl rfl rfl rfl))
        clear hg
        refine hK.out _ _ H4x3.out (fun _ => ?_)
        clear hK K
        try simp only [Act.put, List.setIfInBounds_toArray, List.set_cons_zero, List.set_cons_succ, Array.toArray_toList, List.getElem_toArray, List.getElem_cons_zero, List.getElem_cons_succ]
        refine wpAnyH_take (i := 11) (v := .bool false) rfl (by kernel_rfl) (by kernel_rfl) (by kernel_rfl) (fun _ _ _ h => h) (.inl ⟨by rfl, ?_⟩) H4x3.out ?_
        · intro W hW
          go_simp
        try simp only [Act.put, List.setIfInBounds_toArray, List.set_cons_zero, List.set_cons_succ, Array.toArray_toList, List.getElem_toArray, List.getElem_cons_zero, List.getElem_cons_succ]
        refine wpAnyH_take (i := 12) (v := .bool false) rfl (by kernel_rfl) (by kernel_rfl) (by kernel_rfl) (fun _ _ _ h => h) (.inl ⟨by rfl, ?_⟩) H4x3.out ?_
        · intro W hW
          go_simp
        try simp only [Act.put, List.setIfInBounds_toArray, List.set_cons_zero, List.set_cons_succ, Array.toArray_toList, List.getElem_toArray, List.getElem_cons_zero, List.getElem_cons_succ]
        refine wpAnyH_done (by kernel_rfl) ?_ _
        go_upto_region 7 with fail
        refine wp_region_held_drew (S := fun W => SI w W cs ds) (by kernel_rfl) (H4x3.out.same rfl rfl rfl rfl) (fun _ => ?_)
        have H4x3d := Lib.hid (H4x3.out.same (W' := World.drew _) rfl rfl rfl rfl)
        refine wpAnyH_take (i := 0) (v := .bool true) rfl (by kernel_rfl) (by kernel_rfl) (by kernel_rfl) (fun _ _ _ h => h) (.inl ⟨by rfl, ?_⟩) H4x3d.out ?_
        · intro W hW
          go_simp
        try simp only [Act.put, List.setIfInBounds_toArray, List.set_cons_zero, List.set_cons_succ, Array.toArray_toList, List.getElem_toArray, List.getElem_cons_zero, List.getElem_cons_succ]
        refine wpAnyH_take (i := 1) (v := .bool true) rfl (by kernel_rfl) (by kernel_rfl) (by kernel_rfl) (fun _ _ _ h => h) (.inl ⟨by rfl, ?_⟩) H4x3d.out ?_
        · intro W hW
          go_simp
        try simp only [Act.put, List.setIfInBounds_toArray, List.set_cons_zero, List.set_cons_succ, Array.toArray_toList, List.getElem_toArray, List.getElem_cons_zero, List.getElem_cons_succ]
        refine wpAnyH_take (i := 2) (v := .bool true) rfl (by kernel_rfl) (by kernel_rfl) (by kernel_rfl) (fun _ _ _ h => h) (.inl ⟨by rfl, ?_⟩) H4x3d.out ?_
        · intro W hW
          go_simp
        try simp only [Act.put, List.setIfInBounds_toArray, List.set_cons_zero, List.set_cons_succ, Array.toArray_toList, List.getElem_toArray, List.getElem_cons_zero, List.getElem_cons_succ]
        refine wpAnyH_take (i := 3) (v := .bool false) rfl (by kernel_rfl) (by kernel_rfl) (by kernel_rfl) (fun _ _ _ h => h) (.inl ⟨by rfl, ?_⟩) H4x3d.out ?_
        · intro W hW
          go_simp
        try simp only [Act.put, List.setIfInBounds_toArray, List.set_cons_zero, List.set_cons_succ, Array.toArray_toList, List.getElem_toArray, List.getElem_cons_zero, List.getElem_cons_succ]
        refine wpAnyH_take (i := 4) (v := .bool false) rfl (by kernel_rfl) (by kernel_rfl) (by kernel_rfl) (fun _ _ _ h => h) (.inl ⟨by rfl, ?_⟩) H4x3d.out ?_
        · intro W hW
          go_simp
        try simp only [Act.put, List.setIfInBounds_toArray, List.set_cons_zero, List.set_cons_succ, Array.toArray_toList, List.getElem_toArray, List.getElem_cons_zero, List.getElem_cons_succ]
        refine wpAnyH_take (i := 5) (v := _) rfl (by kernel_rfl) (by kernel_rfl) (by kernel_rfl) (fun _ _ _ h => h) (yieldsIf_load_mid (by rfl) 24 _ rfl w.heap.size 0 rfl cs.toList _ (fun W hW => row_range hW.b1) Try.underlying24 rfl hics) H4x3d.out ?_
        try simp only [Act.put, List.setIfInBounds_toArray, List.set_cons_zero, List.set_cons_succ, Array.toArray_toList, List.getElem_toArray, List.getElem_cons_zero, List.getElem_cons_succ]
        refine wpAnyH_take (i := 7) (v := _) rfl (by kernel_rfl) (by kernel_rfl) (by kernel_rfl) (fun _ _ _ h => h) (yieldsIf_load_mid (by rfl) 24 _ rfl w.heap.size 0 rfl cs.toList _ (fun W hW => row_range hW.b1) Try.underlying24 rfl hics) H4x3d.out ?_
        try simp only [Act.put, List.setIfInBounds_toArray, List.set_cons_zero, List.set_cons_succ, Array.toArray_toList, List.getElem_toArray, List.getElem_cons_zero, List.getElem_cons_succ]
        refine wpAnyH_ready (rs := [6]) (by kernel_rfl) (by simp) ?_
        refine AllReadyH.cons (o := _) rfl (fun K hK => ?_) AllReadyH.nil
        go_simp
        refine (D13.out _ (H4x3d.out.same rfl rfl rfl rfl).gr).mono ?_
        rintro e wx1 ⟨rfl, hg⟩
        have H4x3x1 := Lib.hid (H4x3d.out.grown (only_from hg rfl rfl rfl rfl))
        clear hg
        refine hK.out _ _ H4x3x1.out (fun _ => ?_)
        clear hK K
        try simp only [Act.put, List.setIfInBounds_toArray, List.set_cons_zero, List.set_cons_succ, Array.toArray_toList, List.getElem_toArray, List.getElem_cons_zero, List.getElem_cons_succ]
        refine wpAnyH_ready (rs := [8]) (by kernel_rfl) (by simp) ?_
        refine AllReadyH.cons (o := _) rfl (fun K hK => ?_) AllReadyH.nil
        go_simp
        refine (D14.out _ (H4x3x1.out.same rfl rfl rfl rfl).gr).mono ?_
        rintro e wx2 ⟨rfl, hg⟩
        have H4x3x2 := Lib.hid (H4x3x1.out.grown (only_from hg rfl rfl rfl rfl))
        clear hg
        refine hK.out _ _ H4x3x2.out (fun _ => ?_)
        clear hK K
        try simp only [Act.put, List.setIfInBounds_toArray, List.set_cons_zero, List.set_cons_succ, Array.toArray_toList, List.getElem_toArray, List.getElem_cons_zero, List.getElem_cons_succ]
        refine wpAnyH_take (i := 9) (v := .bool true) rfl (by kernel_rfl) (by kernel_rfl) (by kernel_rfl) (fun _ _ _ h => h) (.inl ⟨by rfl, ?_⟩) H4x3x2.out ?_
        · intro W hW
          go_simp
        try simp only [Act.put, List.setIfInBounds_toArray, List.set_cons_zero, List.set_cons_succ, Array.toArray_toList, List.getElem_toArray, List.getElem_cons_zero, List.getElem_cons_succ]
        refine wpAnyH_take (i := 10) (v := .bool true) rfl (by kernel_rfl) (by kernel_rfl) (by kernel_rfl) (fun _ _ _ h => h) (.inl ⟨by rfl, ?_⟩) H4x3x2.out ?_
        · intro W hW
          go_simp
        try simp only [Act.put, List.setIfInBounds_toArray, List.set_cons_zero, List.set_cons_succ, Array.toArray_toList, List.getElem_toArray, List.getElem_cons_zero, List.getElem_cons_succ]
        refine wpAnyH_take (i := 11) (v := _) rfl (by kernel_rfl) (by kernel_rfl) (by kernel_rfl) (fun _ _ _ h => h) (yieldsIf_load_mid (by rfl) 24 _ rfl w.heap.size 0 rfl cs.toList _ (fun W hW => row_range hW.b1) Try.underlying24 rfl hics) H4x3x2.out ?_
        try simp only [Act.put, List.setIfInBounds_toArray, List.set_cons_zero, List.set_cons_succ, Array.toArray_toList, List.getElem_toArray, List.getElem_cons_zero, List.getElem_cons_succ]
        refine wpAnyH_take (i := 13) (v := _) rfl (by kernel_rfl) (by kernel_rfl) (by kernel_rfl) (fun _ _ _ h => h) (yieldsIf_load_mid (by rfl) 24 _ rfl w.heap.size 0 rfl cs.toList _ (fun W hW => row_range hW.b1) Try.underlying24 rfl hics) H4x3x2.out ?_
        try simp only [Act.put, List.setIfInBounds_toArray, List.set_cons_zero, List.set_cons_succ, Array.toArray_toList, List.getElem_toArray, List.getElem_cons_zero, List.getElem_cons_succ]
        refine wpAnyH_ready (rs := [12]) (by kernel_rfl) (by simp) ?_
        refine AllReadyH.cons (o := _) rfl (fun K hK => ?_) AllReadyH.nil
        go_simp
        refine (D15.out _ (H4x3x2.out.same rfl rfl rfl rfl).gr).mono ?_
        rintro e wx3 ⟨rfl, hg⟩
        have H4x3x3 := Lib.hid (H4x3x2.out.grown (only_from hg rfl rfl rfl rfl))
        clear hg
        refine hK.out _ _ H4x3x3.out (fun _ => ?_)
        clear hK K
        try simp only [Act.put, List.setIfInBounds_toArray, List.set_cons_zero, List.set_cons_succ, Array.toArray_toList, List.getElem_toArray, List.getElem_cons_zero, List.getElem_cons_succ]
        refine wpAnyH_ready (rs := [14]) (by kernel_rfl) (by simp) ?_
        refine AllReadyH.cons (o := _) rfl (fun K hK => ?_) AllReadyH.nil
        go_simp
        refine (D16.out _ (H4x3x3.out.same rfl rfl rfl rfl).gr).mono ?_
        rintro e wx4 ⟨rfl, hg⟩
        have H4x3x4 := Lib.hid (H4x3x3.out.grown (only_from hg rfl rfl rfl rfl))
        clear hg
        refine hK.out _ _ H4x3x4.out (fun _ => ?_)
        clear hK K
        try simp only [Act.put, List.setIfInBounds_toArray, List.set_cons_zero, List.set_cons_succ, Array.toArray_toList, List.getElem_toArray, List.getElem_cons_zero, List.getElem_cons_succ]
        refine wpAnyH_take (i := 15) (v := .bool true) rfl (by kernel_rfl) (by kernel_rfl) (by kernel_rfl) (fun _ _ _ h => h) (.inl ⟨by rfl, ?_⟩) H4x3x4.out ?_
        · intro W hW
          go_simp
        try simp only [Act.put, List.setIfInBounds_toArray, List.set_cons_zero, List.set_cons_succ, Array.toArray_toList, List.getElem_toArray, List.getElem_cons_zero, List.getElem_cons_succ]
        refine wpAnyH_take (i := 16) (v := .bool true) rfl (by kernel_rfl) (by kernel_rfl) (by kernel_rfl) (fun _ _ _ h => h) (.inl ⟨by rfl, ?_⟩) H4x3x4.out ?_
        · intro W hW
          go_simp
        try simp only [Act.put, List.setIfInBounds_toArray, List.set_cons_zero, List.set_cons_succ, Array.toArray_toList, List.getElem_toArray, List.getElem_cons_zero, List.getElem_cons_succ]
        refine wpAnyH_take (i := 17) (v := .bool true) rfl (by kernel_rfl) (by kernel_rfl) (by kernel_rfl) (fun _ _ _ h => h) (.inl ⟨by rfl, ?_⟩) H4x3x4.out ?_
        · intro W hW
          go_simp
        try simp only [Act.put, List.setIfInBounds_toArray, List.set_cons_zero, List.set_cons_succ, Array.toArray_toList, List.getElem_toArray, List.getElem_cons_zero, List.getElem_cons_succ]
        refine wpAnyH_take (i := 18) (v := _) rfl (by kernel_rfl) (by kernel_rfl) (by kernel_rfl) (fun _ _ _ h => h) (yieldsIf_load_mid (by rfl) 24 _ rfl w.heap.size 0 rfl cs.toList _ (fun W hW => row_range hW.b1) Try.underlying24 rfl hics) H4x3x4.out ?_
        try simp only [Act.put, List.setIfInBounds_toArray, List.set_cons_zero, List.set_cons_succ, Array.toArray_toList, List.getElem_toArray, List.getElem_cons_zero, List.getElem_cons_succ]
        refine wpAnyH_take (i := 20) (v := _) rfl (by kernel_rfl) (by kernel_rfl) (by kernel_rfl) (fun _ _ _ h => h) (yieldsIf_load_mid (by rfl) 24 _ rfl w.heap.size 0 rfl cs.toList _ (fun W hW => row_range hW.b1) Try.underlying24 rfl hics) H4x3x4.out ?_
        try simp only [Act.put, List.setIfInBounds_toArray, List.set_cons_zero, List.set_cons_succ, Array.toArray_toList, List.getElem_toArray, List.getElem_cons_zero, List.getElem_cons_succ]
        refine wpAnyH_ready (rs := [19]) (by kernel_rfl) (by simp) ?_
        refine AllReadyH.cons (o := _) rfl (fun K hK => ?_) AllReadyH.nil
        go_simp
        refine (D17.out _ (H4x3x4.out.same rfl rfl rfl rfl).gr).mono ?_
        rintro e wx5 ⟨rfl, hg⟩
        have H4x3x5 := Lib.hid (H4x3x4.out.grown (only_from hg rfl rfl rfl rfl))
        clear hg
        refine hK.out _ _ H4x3x5.out (fun _ => ?_)
        clear hK K
        try simp only [Act.put, List.setIfInBounds_toArray, List.set_cons_zero, List.set_cons_succ, Array.toArray_toList, List.getElem_toArray, List.getElem_cons_zero, List.getElem_cons_succ]
        refine wpAnyH_ready (rs := [21]) (by kernel_rfl) (by simp) ?_
        refine AllReadyH.cons (o := _) rfl (fun K hK => ?_) AllReadyH.nil
        go_simp
        refine (D18.out _ (H4x3x5.out.same rfl rfl rfl rfl).gr).mono ?_
        rintro e wx6 ⟨rfl, hg⟩
        have H4x3x6 := Lib.hid (H4x3x5.out.grown (only_from hg rfl rfl rfl rfl))
        clear hg
        refine hK.out _ _ H4x3x6.out (fun _ => ?_)
        clear hK K
        try simp only [Act.put, List.setIfInBounds_toArray, List.set_cons_zero, List.set_cons_succ, Array.toArray_toList, List.getElem_toArray, List.getElem_cons_zero, List.getElem_cons_succ]
        refine wpAnyH_take (i := 22) (v := .bool true) rfl (by kernel_rfl) (by kernel_rfl) (by kernel_rfl) (fun _ _ _ h => h) (.inl ⟨by rfl, ?_⟩) H4x3x6.out ?_
        · intro W hW
          go_simp
        try simp only [Act.put, List.setIfInBounds_toArray, List.set_cons_zero, List.set_cons_succ, Array.toArray_toList, List.getElem_toArray, List.getElem_cons_zero, List.getElem_cons_succ]
        refine wpAnyH_take (i := 23) (v := .bool true) rfl (by kernel_rfl) (by kernel_rfl) (by kernel_rfl) (fun _ _ _ h => h) (.inl ⟨by rfl, ?_⟩) H4x3x6.out ?_
        · intro W hW
          go_simp
        try simp only [Act.put, List.setIfInBounds_toArray, List.set_cons_zero, List.set_cons_succ, Array.toArray_toList, List.getElem_toArray, List.getElem_cons_zero, List.getElem_cons_succ]
        refine wpAnyH_take (i := 24) (v := .bool true) rfl (by kernel_rfl) (by kernel_rfl) (by kernel_rfl) (fun _ _ _ h => h) (.inl ⟨by rfl, ?_⟩) H4x3x6.out ?_
        · intro W hW
          go_simp
        try simp only [Act.put, List.setIfInBounds_toArray, List.set_cons_zero, List.set_cons_succ, Array.toArray_toList, List.getElem_toArray, List.getElem_cons_zero, List.getElem_cons_succ]
        refine wpAnyH_take (i := 25) (v := .bool true) rfl (by kernel_rfl) (by kernel_rfl) (by kernel_rfl) (fun _ _ _ h => h) (.inl ⟨by rfl, ?_⟩) H4x3x6.out ?_
        · intro W hW
          go_simp
        try simp only [Act.put, List.setIfInBounds_toArray, List.set_cons_zero, List.set_cons_succ, Array.toArray_toList, List.getElem_toArray, List.getElem_cons_zero, List.getElem_cons_succ]
        refine wpAnyH_take (i := 26) (v := .bool true) rfl (by kernel_rfl) (by kernel_rfl) (by kernel_rfl) (fun _ _ _ h => h) (.inl ⟨by rfl, ?_⟩) H4x3x6.out ?_
        · intro W hW
          go_simp
        try simp only [Act.put, List.setIfInBounds_toArray, List.set_cons_zero, List.set_cons_succ, Array.toArray_toList, List.getElem_toArray, List.getElem_cons_zero, List.getElem_cons_succ]
        refine wpAnyH_done (by kernel_rfl) ?_ _
        go_wp2_with fail
        go_ret
        exact ⟨rfl, H4x3x6.out.gr⟩
    · have hk1 : decide ((q.pre.length : Int) + q.suf.length + q.npre.length + q.nsuf.length ≤ 300) = false := by simpa using hk
      rw [hk1] at CF2
      go_enter Try.func3, Try.ntmps3
      go_upto_region 1 with fail
      generalize (w.alloc (.cells (ptCells (.slice A1 p.pre.length c1) (.slice A2 p.suf.length c2) (.slice A3 p.npre.length c3) (.slice A4 p.nsuf.length c4) p) 24)).alloc (.cells (ptCells (.slice B1 q.pre.length d1) (.slice B2 q.suf.length d2) (.slice B3 q.npre.length d3) (.slice B4 q.nsuf.length d4) q) 24) = W0 at *
      go_wp2_with (first
        | (go_at_call 7; refine (CS.out _).mono ?_; rintro e w1 ⟨rfl, hg⟩; have H1 := Lib.hid (H0.out.grown hg); clear hg)
        | (go_at_call_of 8 (Value.agg (ptCells (.slice A1 p.pre.length c1) (.slice A2 p.suf.length c2) (.slice A3 p.npre.length c3) (.slice A4 p.nsuf.length c4) p)); refine (CF1.out _).mono ?_; rintro e w2 ⟨rfl, hg⟩; have H2 := Lib.hid (H1.out.grown hg); clear hg)
        | (go_at_call_of 8 (Value.agg (ptCells (.slice B1 q.pre.length d1) (.slice B2 q.suf.length d2) (.slice B3 q.npre.length d3) (.slice B4 q.nsuf.length d4) q)); refine (CF2.out _).mono ?_; rintro e w3 ⟨rfl, hg⟩; have H3 := Lib.hid (H2.out.grown hg); clear hg)
        | (refine wpList_load_wanted (by rfl) 24 _ (by rfl) (w.heap.size + 1) 0 (by rfl) (ptCells (.slice B1 q.pre.length d1) (.slice B2 q.suf.length d2) (.slice B3 q.npre.length d3) (.slice B4 q.nsuf.length d4) q).toList _ (by exact row_range H2.out.b2) Try.underlying24 rfl (info24c _ _ _ _ _) ?_)
        | (refine wpList_load_mid rfl 24 _ rfl w.heap.size 0 rfl (ptCells (.slice A1 p.pre.length c1) (.slice A2 p.suf.length c2) (.slice A3 p.npre.length c3) (.slice A4 p.nsuf.length c4) p).toList _ (by exact row_range H2.out.b1) Try.underlying24 rfl (info24c _ _ _ _ _) ?_)
        | (refine wpList_load_mid rfl 24 _ rfl w.heap.size 0 rfl (ptCells (.slice A1 p.pre.length c1) (.slice A2 p.suf.length c2) (.slice A3 p.npre.length c3) (.slice A4 p.nsuf.length c4) p).toList _ (by exact row_range H1.out.b1) Try.underlying24 rfl (info24c _ _ _ _ _) ?_))
      go_ret
      exact ⟨rfl, H3.out.gr⟩
  · have hf1 : decide ((p.pre.length : Int) + p.suf.length + p.npre.length + p.nsuf.length ≤ 300) = false := by simpa using hf
    rw [hf1] at CF1
    go_enter Try.func3, Try.ntmps3
    go_upto_region 1 with fail
    generalize (w.alloc (.cells (ptCells (.slice A1 p.pre.length c1) (.slice A2 p.suf.length c2) (.slice A3 p.npre.length c3) (.slice A4 p.nsuf.length c4) p) 24)).alloc (.cells (ptCells (.slice B1 q.pre.length d1) (.slice B2 q.suf.length d2) (.slice B3 q.npre.length d3) (.slice B4 q.nsuf.length d4) q) 24) = W0 at *
    go_wp2_with (first
      | (go_at_call 7; refine (CS.out _).mono ?_; rintro e w1 ⟨rfl, hg⟩; have H1 := Lib.hid (H0.out.grown hg); clear hg)
      | (go_at_call_of 8 (Value.agg (ptCells (.slice A1 p.pre.length c1) (.slice A2 p.suf.length c2) (.slice A3 p.npre.length c3) (.slice A4 p.nsuf.length c4) p)); refine (CF1.out _).mono ?_; rintro e w2 ⟨rfl, hg⟩; have H2 := Lib.hid (H1.out.grown hg); clear hg)
      | (refine wpList_load_mid rfl 24 _ rfl w.heap.size 0 rfl (ptCells (.slice A1 p.pre.length c1) (.slice A2 p.suf.length c2) (.slice A3 p.npre.length c3) (.slice A4 p.nsuf.length c4) p).toList _ (by exact row_range H1.out.b1) Try.underlying24 rfl (info24c _ _ _ _ _) ?_))
    go_ret
    exact ⟨rfl, H2.out.gr⟩
end Go.Proofs.Ytdbcdgojbegakaa

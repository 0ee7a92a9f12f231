/-
exerguelaw10.PatGroups: the walk.
-/
import Derived.Test.YtdbcdgojbegakaaL2
import Derived.Test.YtdbcdgojbegakaaKG
namespace Go.Proofs.Ytdbcdgojbegakaa
open Go.RowKit
set_option linter.unusedSimpArgs false
set_option linter.unusedVariables false

theorem gl_nil {p : Nm} {n seen s : Int} (h : glL p n seen [] = some s) : s = seen := by injection h with h; exact h.symm
theorem gl_past {p : Nm} {n seen s c : Int} {t : List Int} (h : glL p n seen (c :: t) = some s) (hn : n < seen) : s = seen := by
  simp only [glL] at h; rw [if_pos hn] at h; injection h with h; exact h.symm
theorem gl_digit {p : Nm} {n seen s c : Int} {t : List Int} (h : glL p n seen (c :: t) = some s) (hn : ¬ n < seen) (hc : c = 35 ∨ c = 48) : glL p n (seen + 1) t = some s ∧ (seen < n → decide (c = 48) = decide (p.hash ≤ seen)) := by
  simp only [glL] at h
  rw [if_neg hn, if_pos hc] at h
  split at h
  · cases h
  · rename_i hh
    refine ⟨h, fun hlt => ?_⟩
    by_cases e : decide (c = 48) = decide (p.hash ≤ seen)
    · exact e
    · exact absurd ⟨hlt, e⟩ hh
theorem gl_comma {p : Nm} {n seen s : Int} {t : List Int} (h : glL p n seen (44 :: t) = some s) (hn : ¬ n < seen) : glL p n seen t = some s ∧ p.g1 ≠ 0 ∧ p.g1 ≤ n - seen ∧ (n - seen - p.g1) % p.g2 = 0 ∧ seen ≠ 0 := by
  simp only [glL] at h
  rw [if_neg hn, if_neg (by decide), if_pos trivial] at h
  split at h
  · cases h
  · rename_i hh
    simp only [not_or] at hh
    exact ⟨h, hh.1, by omega, Decidable.not_not.1 hh.2.2.1, hh.2.2.2⟩
theorem gl_other {p : Nm} {n seen s c : Int} {t : List Int} (h : glL p n seen (c :: t) = some s) (hn : ¬ n < seen) (h1 : c ≠ 35) (h2 : c ≠ 48) (h3 : c ≠ 44) : glL p n seen t = some s := by
  simp only [glL] at h
  rwa [if_neg hn, if_neg (by rintro (e | e) <;> contradiction), if_neg h3] at h

set_option maxRecDepth 100000 in
set_option maxHeartbeats 16000000 in
theorem patGroups_any (w : World) (A1 A2 A3 A4 : Option Addr) (c1 c2 c3 c4 : Nat) (p : Pt) (hp : PatIn w A1 A2 A3 A4 c1 c2 c3 c4 p) :
    Calls Try.prog 5 #[.agg (ptCells (.slice A1 p.pre.length c1) (.slice A2 p.suf.length c2) (.slice A3 p.npre.length c3) (.slice A4 p.nsuf.length c4) p)] w fun e w' => e = .returned (.bool true) ∧ w.grownBy w' none := by
  have CS := Lib.hid shown_any
  have CF := Lib.hid (fun W => few_any W A1 A2 A3 A4 _ _ _ _ c1 c2 c3 c4 p hp.l)
  have H0 := Lib.hid (TI.new w (ptCells (.slice A1 p.pre.length c1) (.slice A2 p.suf.length c2) (.slice A3 p.npre.length c3) (.slice A4 p.nsuf.length c4) p))
  have HP := Lib.hid hp
  clear hp
  by_cases hf : (p.pre.length : Int) + p.suf.length + p.npre.length + p.nsuf.length ≤ 300
  · have hf1 : decide ((p.pre.length : Int) + p.suf.length + p.npre.length + p.nsuf.length ≤ 300) = true := by simpa using hf
    rw [hf1] at CF
    have hl : (p.pre ++ p.suf ++ p.npre ++ p.nsuf).length ≤ 300 := by simp; omega
    have D9 : Hid (∀ W, w.grownBy W none → Calls Try.prog 9 #[.agg (ptCells (.slice A1 p.pre.length c1) (.slice A2 p.suf.length c2) (.slice A3 p.npre.length c3) (.slice A4 p.nsuf.length c4) p)] W fun e w' => e = .returned (.bool (rightP p)) ∧ W.grownBy w' none) := fun W hW => right_in HP.out hl W hW
    cases hr : rightP p with
    | false =>
      rw [hr] at D9
      clear hr
      go_enter Try.func5, Try.ntmps5
      go_upto_region 1 with fail
      generalize w.alloc (.cells (ptCells (.slice A1 p.pre.length c1) (.slice A2 p.suf.length c2) (.slice A3 p.npre.length c3) (.slice A4 p.nsuf.length c4) p) 24) = W0 at *
      go_wp2_with (first
      | (go_at_call 7; refine (CS.out _).mono ?_; rintro e w1 ⟨rfl, hg⟩; have H1 := Lib.hid (H0.out.grown hg); clear hg)
        | (go_at_call 8; refine (CF.out _).mono ?_; rintro e w2 ⟨rfl, hg⟩; have H2 := Lib.hid (H1.out.grown hg); clear hg)
        | (go_at_call 9; refine (D9.out _ (by exact H2.out.gr)).mono ?_; rintro e w3 ⟨rfl, hg⟩; have H3 := Lib.hid (H2.out.grown hg); have k11 : w3.cell? ⟨w.heap.size, 11, none⟩ = some (.int .i64 p.nm.minSig) := H3.out.blk.cell 11; clear hg)
        | (refine wpList_load_wanted (by rfl) 24 _ (by rfl) w.heap.size 0 (by rfl) (ptCells (.slice A1 p.pre.length c1) (.slice A2 p.suf.length c2) (.slice A3 p.npre.length c3) (.slice A4 p.nsuf.length c4) p).toList _ (by exact row_range H2.out.blk) Try.underlying24 rfl (info24c _ _ _ _ _) ?_)
        | (refine wpList_load_mid rfl 24 _ rfl w.heap.size 0 rfl (ptCells (.slice A1 p.pre.length c1) (.slice A2 p.suf.length c2) (.slice A3 p.npre.length c3) (.slice A4 p.nsuf.length c4) p).toList _ (by exact row_range H1.out.blk) Try.underlying24 rfl (info24c _ _ _ _ _) ?_))
      go_ret
      exact ⟨rfl, H3.out.gr⟩
    | true =>
      rw [hr] at D9
      obtain ⟨hok, hlen, hsm, -⟩ := right_number hr
      have hg12 := right_g hr
      by_cases hms : 0 < p.nm.minSig
      · have hms1 : decide (0 < p.nm.minSig) = true := by simpa using hms
        clear hr hok hlen hsm hg12
        go_enter Try.func5, Try.ntmps5
        go_upto_region 1 with fail
        generalize w.alloc (.cells (ptCells (.slice A1 p.pre.length c1) (.slice A2 p.suf.length c2) (.slice A3 p.npre.length c3) (.slice A4 p.nsuf.length c4) p) 24) = W0 at *
        go_wp2_with (first
        | (go_at_call 7; refine (CS.out _).mono ?_; rintro e w1 ⟨rfl, hg⟩; have H1 := Lib.hid (H0.out.grown hg); clear hg)
          | (go_at_call 8; refine (CF.out _).mono ?_; rintro e w2 ⟨rfl, hg⟩; have H2 := Lib.hid (H1.out.grown hg); clear hg)
          | (go_at_call 9; refine (D9.out _ (by exact H2.out.gr)).mono ?_; rintro e w3 ⟨rfl, hg⟩; have H3 := Lib.hid (H2.out.grown hg); have k11 : w3.cell? ⟨w.heap.size, 11, none⟩ = some (.int .i64 p.nm.minSig) := H3.out.blk.cell 11; clear hg)
          | (refine wpList_load_wanted (by rfl) 24 _ (by rfl) w.heap.size 0 (by rfl) (ptCells (.slice A1 p.pre.length c1) (.slice A2 p.suf.length c2) (.slice A3 p.npre.length c3) (.slice A4 p.nsuf.length c4) p).toList _ (by exact row_range H2.out.blk) Try.underlying24 rfl (info24c _ _ _ _ _) ?_)
          | (refine wpList_load_mid rfl 24 _ rfl w.heap.size 0 rfl (ptCells (.slice A1 p.pre.length c1) (.slice A2 p.suf.length c2) (.slice A3 p.npre.length c3) (.slice A4 p.nsuf.length c4) p).toList _ (by exact row_range H1.out.blk) Try.underlying24 rfl (info24c _ _ _ _ _) ?_))
        go_ret
        exact ⟨rfl, H3.out.gr⟩
      · have hms1 : decide (0 < p.nm.minSig) = false := by simpa using hms
        have D15 : Hid (∀ W, Calls Try.prog 15 #[.agg (ptCells (.slice A1 p.pre.length c1) (.slice A2 p.suf.length c2) (.slice A3 p.npre.length c3) (.slice A4 p.nsuf.length c4) p)] W fun e w' => e = .returned (.string (strOf (numT p.nm))) ∧ W.grownBy w' none) := fun W => numT_any hsm ⟨_, _, _, rfl⟩ ⟨_, _, _, rfl⟩ ⟨_, _, _, rfl⟩ ⟨_, _, _, rfl⟩
        obtain ⟨s, hgl, hns⟩ := numT_groups hok (by omega)
        have hlong := numT_long p.nm
        have HXS : Hid ((strOf (numT p.nm)).size = (numT p.nm).length) := strOf_asc_size _ (numT_asc p.nm)
        have HXG : Hid (∀ (i : Nat) (c : Int) (_ : (numT p.nm)[i]? = some c) (hl : i < (strOf (numT p.nm)).size), (((strOf (numT p.nm))[i]'hl).toNat : Int) = c) := fun i c hi hl => strOf_asc_get _ (numT_asc p.nm) i c hi hl
        simp only [smallNm, List.all_cons, List.all_nil, Bool.and_true, Bool.and_eq_true, decide_eq_true_eq] at hsm
        obtain ⟨⟨b1, b2⟩, ⟨b3, b4⟩, -, -, ⟨b5, b6⟩, ⟨b7, b8⟩, -⟩ := hsm
        have HGL := Lib.hid hgl
        have HNS := Lib.hid hns
        have HLL := Lib.hid (And.intro hlong hlen)
        have HSB := Lib.hid (And.intro (And.intro b1 b2) (And.intro (And.intro b3 b4) (And.intro (And.intro b5 b6) (And.intro b7 b8))))
        have HG12 := Lib.hid hg12
        have hwn : IntKind.i64.wrap (p.nm.hash + p.nm.minInt) = p.nm.hash + p.nm.minInt := by rw [IntKind.wrap_i64]; omega
        generalize hnn : p.nm.hash + p.nm.minInt = n at *
        have HNN := Lib.hid hnn
        generalize strOf (numT p.nm) = X at *
        generalize numT p.nm = T at *
        clear hr hok hlen hg12 hgl hns hlong b1 b2 b3 b4 b5 b6 b7 b8 hms hf hf1 hl
        go_enter Try.func5, Try.ntmps5
        go_upto_region 1 with fail
        generalize w.alloc (.cells (ptCells (.slice A1 p.pre.length c1) (.slice A2 p.suf.length c2) (.slice A3 p.npre.length c3) (.slice A4 p.nsuf.length c4) p) 24) = W0 at *
        go_upto_block 0 with (first
        | (go_at_call 7; refine (CS.out _).mono ?_; rintro e w1 ⟨rfl, hg⟩; have H1 := Lib.hid (H0.out.grown hg); clear hg)
          | (go_at_call 8; refine (CF.out _).mono ?_; rintro e w2 ⟨rfl, hg⟩; have H2 := Lib.hid (H1.out.grown hg); clear hg)
          | (go_at_call 9; refine (D9.out _ (by exact H2.out.gr)).mono ?_; rintro e w3 ⟨rfl, hg⟩; have H3 := Lib.hid (H2.out.grown hg); have k11 : w3.cell? ⟨w.heap.size, 11, none⟩ = some (.int .i64 p.nm.minSig) := H3.out.blk.cell 11; clear hg)
          | (refine wpList_load_wanted (by rfl) 24 _ (by rfl) w.heap.size 0 (by rfl) (ptCells (.slice A1 p.pre.length c1) (.slice A2 p.suf.length c2) (.slice A3 p.npre.length c3) (.slice A4 p.nsuf.length c4) p).toList _ (by exact row_range H2.out.blk) Try.underlying24 rfl (info24c _ _ _ _ _) ?_)
          | (refine wpList_load_mid rfl 24 _ rfl w.heap.size 0 rfl (ptCells (.slice A1 p.pre.length c1) (.slice A2 p.suf.length c2) (.slice A3 p.npre.length c3) (.slice A4 p.nsuf.length c4) p).toList _ (by exact row_range H1.out.blk) Try.underlying24 rfl (info24c _ _ _ _ _) ?_)
          | (go_at_call 15; refine (D15.out _).mono ?_; rintro e w4 ⟨rfl, hg⟩; have H4 := Lib.hid (H3.out.grown hg); have k5 : w4.cell? ⟨w.heap.size, 5, none⟩ = some (.int .i64 p.nm.hash) := H4.out.blk.cell 5; have k6 : w4.cell? ⟨w.heap.size, 6, none⟩ = some (.int .i64 p.nm.minInt) := H4.out.blk.cell 6; clear hg)
          | (refine wpList_load_mid rfl 24 _ rfl w.heap.size 0 rfl (ptCells (.slice A1 p.pre.length c1) (.slice A2 p.suf.length c2) (.slice A3 p.npre.length c3) (.slice A4 p.nsuf.length c4) p).toList _ (by exact row_range H3.out.blk) Try.underlying24 rfl (info24c _ _ _ _ _) ?_))
        clear CS CF D9 D15 H0 H1 H2 H3 k5 k6 k11 hms1
        go_wp2_with fail
        go_loopg [6, 7] T.length (fun kq v6 v7 wr => ∃ (i : Nat) (seen : Int), v6 = .int .i64 seen ∧ v7 = .int .i64 i ∧ Hid (kq + i = T.length) ∧ Hid (0 ≤ seen ∧ seen ≤ i) ∧ Hid (glL p.nm n seen (T.drop i) = some s) ∧ Hid (TI w wr (ptCells (.slice A1 p.pre.length c1) (.slice A2 p.suf.length c2) (.slice A3 p.npre.length c3) (.slice A4 p.nsuf.length c4) p)))
        case atStart => exact ⟨0, 0, rfl, rfl, rfl, ⟨Int.le_refl 0, Int.le_refl 0⟩, HGL, H4⟩
        case round =>
          obtain ⟨i, seen, rfl, rfl, HK, HSN, HG, HT⟩ := hrel
          have hkq := HK.out
          have hX := HXS.out
          have hns := HNS.out
          have hll := HLL.out
          have hsn := HSN.out
          have hnm := HNN.out
          have hsb := HSB.out
          by_cases hi : i < T.length
          · obtain ⟨c, hc⟩ : ∃ c, T[i]? = some c := ⟨_, List.getElem?_eq_getElem hi⟩
            have hd : T.drop i = c :: T.drop (i + 1) := by
              rw [List.drop_eq_getElem_cons hi]
              rw [List.getElem?_eq_getElem hi] at hc
              injection hc with hc
              rw [hc]
            have hg := HG.out
            rw [hd] at hg
            have hi1 : decide ((i : Int) < (X.size : Int)) = true := by simp; omega
            by_cases hs : n < seen
            · have hss := gl_past hg hs
              have hs1 : decide (seen ≤ n) = false := by simp; omega
              have hs2 : decide (n ≤ seen) = true := by simp; omega
              have hs3 : decide (n ≤ (X.size : Int)) = true := by simp; omega
              go_wp2_with fail
              go_ret
              exact ⟨rfl, HT.out.gr⟩
            · have hs1 : decide (seen ≤ n) = true := by simp; omega
              have hix : i < X.size := by omega
              have hby := HXG.out i c hc hix
              have hix2 : 0 ≤ (i : Int) ∧ (i : Int) < (X.size : Int) := by omega
              by_cases h35 : c = 35 ∨ c = 48
              · obtain ⟨hg2, hdig⟩ := gl_digit hg hs h35
                have HG2 := Lib.hid hg2
                have k5 : _ = some (Value.int .i64 p.nm.hash) := HT.out.blk.cell 5
                have hw1 : IntKind.i64.wrap (seen + 1) = seen + 1 := by rw [IntKind.wrap_i64]; omega
                have hw2 : IntKind.i64.wrap ((i : Int) + 1) = (i : Int) + 1 := by rw [IntKind.wrap_i64]; omega
                clear hd hg hg2 hc
                by_cases hlt : seen < n
                · have hlt1 : decide (seen < n) = true := by simpa using hlt
                  have hde := hdig hlt
                  clear hdig
                  rcases h35 with rfl | rfl
                  · have hh : decide (p.nm.hash ≤ seen) = false := by rw [← hde]; rfl
                    go_upto_region 13 with fail
                    go_region_held3 (fun w' => w'.cell? ⟨w.heap.size, 5, none⟩ = some (.int .i64 p.nm.hash)) (first | assumption | go_keep) (fail)
                    all_goals (
                      go_wp2_with fail
                      go_roundg (gk - 1)
                      case measure => have := HK.out; omega
                      case rel => exact ⟨i + 1, seen + 1, rfl, by go_num, by have := HK.out; show _ = _; omega, ⟨by omega, by push_cast; omega⟩, HG2, HT.out.same rfl rfl rfl rfl⟩)
                  · have hh : decide (p.nm.hash ≤ seen) = true := by rw [← hde]; rfl
                    go_upto_region 13 with fail
                    go_region_held3 (fun w' => w'.cell? ⟨w.heap.size, 5, none⟩ = some (.int .i64 p.nm.hash)) (first | assumption | go_keep) (fail)
                    all_goals (
                      go_wp2_with fail
                      go_roundg (gk - 1)
                      case measure => have := HK.out; omega
                      case rel => exact ⟨i + 1, seen + 1, rfl, by go_num, by have := HK.out; show _ = _; omega, ⟨by omega, by push_cast; omega⟩, HG2, HT.out.same rfl rfl rfl rfl⟩)
                · have hlt1 : decide (seen < n) = false := by simpa using hlt
                  clear hdig
                  rcases h35 with rfl | rfl
                  · go_upto_region 13 with fail
                    refine wp_region_held_drew (S := fun W => TI w W (ptCells (.slice A1 p.pre.length c1) (.slice A2 p.suf.length c2) (.slice A3 p.npre.length c3) (.slice A4 p.nsuf.length c4) p)) (by kernel_rfl) (HT.out.same rfl rfl rfl rfl) (fun _ => ?_)
                    have HTd := Lib.hid (HT.out.same (W' := World.drew _) rfl rfl rfl rfl)
                    refine wpAnyH_take (i := 0) (v := .int .i64 seen) rfl (by kernel_rfl) (by kernel_rfl) (by kernel_rfl) (fun _ _ _ h => h) (.inl ⟨by rfl, ?_⟩) HTd.out ?_
                    · intro W hW
                      go_simp
                    try simp only [Act.put, List.setIfInBounds_toArray, List.set_cons_zero, List.set_cons_succ, Array.toArray_toList, List.getElem_toArray, List.getElem_cons_zero, List.getElem_cons_succ]
                    refine wpAnyH_take (i := 1) (v := .int .i64 n) rfl (by kernel_rfl) (by kernel_rfl) (by kernel_rfl) (fun _ _ _ h => h) (.inl ⟨by rfl, ?_⟩) HTd.out ?_
                    · intro W hW
                      go_simp
                    try simp only [Act.put, List.setIfInBounds_toArray, List.set_cons_zero, List.set_cons_succ, Array.toArray_toList, List.getElem_toArray, List.getElem_cons_zero, List.getElem_cons_succ]
                    refine wpAnyH_take (i := 2) (v := .bool false) rfl (by kernel_rfl) (by kernel_rfl) (by kernel_rfl) (fun _ _ _ h => h) (.inl ⟨by rfl, ?_⟩) HTd.out ?_
                    · intro W hW
                      go_simp
                    try simp only [Act.put, List.setIfInBounds_toArray, List.set_cons_zero, List.set_cons_succ, Array.toArray_toList, List.getElem_toArray, List.getElem_cons_zero, List.getElem_cons_succ]
                    refine wpAnyH_take (i := 3) (v := .bool false) rfl (by kernel_rfl) (by kernel_rfl) (by kernel_rfl) (fun _ _ _ h => h) (.inl ⟨by rfl, ?_⟩) HTd.out ?_
                    · intro W hW
                      go_simp
                    try simp only [Act.put, List.setIfInBounds_toArray, List.set_cons_zero, List.set_cons_succ, Array.toArray_toList, List.getElem_toArray, List.getElem_cons_zero, List.getElem_cons_succ]
                    refine wpAnyH_take (i := 4) (v := undef) rfl (by kernel_rfl) (by kernel_rfl) (by kernel_rfl) (fun _ _ _ h => h) (.inr ⟨by rfl, rfl⟩) HTd.out ?_
                    try simp only [Act.put, List.setIfInBounds_toArray, List.set_cons_zero, List.set_cons_succ, Array.toArray_toList, List.getElem_toArray, List.getElem_cons_zero, List.getElem_cons_succ]
                    refine wpAnyH_take (i := 5) (v := undef) rfl (by kernel_rfl) (by kernel_rfl) (by kernel_rfl) (fun _ _ _ h => h) (.inr ⟨by rfl, rfl⟩) HTd.out ?_
                    try simp only [Act.put, List.setIfInBounds_toArray, List.set_cons_zero, List.set_cons_succ, Array.toArray_toList, List.getElem_toArray, List.getElem_cons_zero, List.getElem_cons_succ]
                    refine wpAnyH_take (i := 6) (v := undef) rfl (by kernel_rfl) (by kernel_rfl) (by kernel_rfl) (fun _ _ _ h => h) (.inr ⟨by rfl, rfl⟩) HTd.out ?_
                    try simp only [Act.put, List.setIfInBounds_toArray, List.set_cons_zero, List.set_cons_succ, Array.toArray_toList, List.getElem_toArray, List.getElem_cons_zero, List.getElem_cons_succ]
                    refine wpAnyH_take (i := 7) (v := undef) rfl (by kernel_rfl) (by kernel_rfl) (by kernel_rfl) (fun _ _ _ h => h) (.inr ⟨by rfl, rfl⟩) HTd.out ?_
                    try simp only [Act.put, List.setIfInBounds_toArray, List.set_cons_zero, List.set_cons_succ, Array.toArray_toList, List.getElem_toArray, List.getElem_cons_zero, List.getElem_cons_succ]
                    refine wpAnyH_take (i := 8) (v := undef) rfl (by kernel_rfl) (by kernel_rfl) (by kernel_rfl) (fun _ _ _ h => h) (.inr ⟨by rfl, rfl⟩) HTd.out ?_
                    try simp only [Act.put, List.setIfInBounds_toArray, List.set_cons_zero, List.set_cons_succ, Array.toArray_toList, List.getElem_toArray, List.getElem_cons_zero, List.getElem_cons_succ]
                    refine wpAnyH_take (i := 9) (v := undef) rfl (by kernel_rfl) (by kernel_rfl) (by kernel_rfl) (fun _ _ _ h => h) (.inr ⟨by rfl, rfl⟩) HTd.out ?_
                    try simp only [Act.put, List.setIfInBounds_toArray, List.set_cons_zero, List.set_cons_succ, Array.toArray_toList, List.getElem_toArray, List.getElem_cons_zero, List.getElem_cons_succ]
                    refine wpAnyH_take (i := 10) (v := undef) rfl (by kernel_rfl) (by kernel_rfl) (by kernel_rfl) (fun _ _ _ h => h) (.inr ⟨by rfl, rfl⟩) HTd.out ?_
                    try simp only [Act.put, List.setIfInBounds_toArray, List.set_cons_zero, List.set_cons_succ, Array.toArray_toList, List.getElem_toArray, List.getElem_cons_zero, List.getElem_cons_succ]
                    refine wpAnyH_take (i := 11) (v := undef) rfl (by kernel_rfl) (by kernel_rfl) (by kernel_rfl) (fun _ _ _ h => h) (.inr ⟨by rfl, rfl⟩) HTd.out ?_
                    try simp only [Act.put, List.setIfInBounds_toArray, List.set_cons_zero, List.set_cons_succ, Array.toArray_toList, List.getElem_toArray, List.getElem_cons_zero, List.getElem_cons_succ]
                    refine wpAnyH_take (i := 12) (v := undef) rfl (by kernel_rfl) (by kernel_rfl) (by kernel_rfl) (fun _ _ _ h => h) (.inr ⟨by rfl, rfl⟩) HTd.out ?_
                    try simp only [Act.put, List.setIfInBounds_toArray, List.set_cons_zero, List.set_cons_succ, Array.toArray_toList, List.getElem_toArray, List.getElem_cons_zero, List.getElem_cons_succ]
                    refine wpAnyH_take (i := 13) (v := .bool false) rfl (by kernel_rfl) (by kernel_rfl) (by kernel_rfl) (fun _ _ _ h => h) (.inl ⟨by rfl, ?_⟩) HTd.out ?_
                    · intro W hW
                      go_simp
                    try simp only [Act.put, List.setIfInBounds_toArray, List.set_cons_zero, List.set_cons_succ, Array.toArray_toList, List.getElem_toArray, List.getElem_cons_zero, List.getElem_cons_succ]
                    refine wpAnyH_done (by kernel_rfl) ?_ _
                    all_goals (
                      go_wp2_with fail
                      go_roundg (gk - 1)
                      case measure => have := HK.out; omega
                      case rel => exact ⟨i + 1, seen + 1, rfl, by go_num, by have := HK.out; show _ = _; omega, ⟨by omega, by push_cast; omega⟩, HG2, HT.out.same rfl rfl rfl rfl⟩)
                  · go_upto_region 13 with fail
                    refine wp_region_held_drew (S := fun W => TI w W (ptCells (.slice A1 p.pre.length c1) (.slice A2 p.suf.length c2) (.slice A3 p.npre.length c3) (.slice A4 p.nsuf.length c4) p)) (by kernel_rfl) (HT.out.same rfl rfl rfl rfl) (fun _ => ?_)
                    have HTd := Lib.hid (HT.out.same (W' := World.drew _) rfl rfl rfl rfl)
                    refine wpAnyH_take (i := 0) (v := .int .i64 seen) rfl (by kernel_rfl) (by kernel_rfl) (by kernel_rfl) (fun _ _ _ h => h) (.inl ⟨by rfl, ?_⟩) HTd.out ?_
                    · intro W hW
                      go_simp
                    try simp only [Act.put, List.setIfInBounds_toArray, List.set_cons_zero, List.set_cons_succ, Array.toArray_toList, List.getElem_toArray, List.getElem_cons_zero, List.getElem_cons_succ]
                    refine wpAnyH_take (i := 1) (v := .int .i64 n) rfl (by kernel_rfl) (by kernel_rfl) (by kernel_rfl) (fun _ _ _ h => h) (.inl ⟨by rfl, ?_⟩) HTd.out ?_
                    · intro W hW
                      go_simp
                    try simp only [Act.put, List.setIfInBounds_toArray, List.set_cons_zero, List.set_cons_succ, Array.toArray_toList, List.getElem_toArray, List.getElem_cons_zero, List.getElem_cons_succ]
                    refine wpAnyH_take (i := 2) (v := .bool false) rfl (by kernel_rfl) (by kernel_rfl) (by kernel_rfl) (fun _ _ _ h => h) (.inl ⟨by rfl, ?_⟩) HTd.out ?_
                    · intro W hW
                      go_simp
                    try simp only [Act.put, List.setIfInBounds_toArray, List.set_cons_zero, List.set_cons_succ, Array.toArray_toList, List.getElem_toArray, List.getElem_cons_zero, List.getElem_cons_succ]
                    refine wpAnyH_take (i := 3) (v := .bool false) rfl (by kernel_rfl) (by kernel_rfl) (by kernel_rfl) (fun _ _ _ h => h) (.inl ⟨by rfl, ?_⟩) HTd.out ?_
                    · intro W hW
                      go_simp
                    try simp only [Act.put, List.setIfInBounds_toArray, List.set_cons_zero, List.set_cons_succ, Array.toArray_toList, List.getElem_toArray, List.getElem_cons_zero, List.getElem_cons_succ]
                    refine wpAnyH_take (i := 4) (v := undef) rfl (by kernel_rfl) (by kernel_rfl) (by kernel_rfl) (fun _ _ _ h => h) (.inr ⟨by rfl, rfl⟩) HTd.out ?_
                    try simp only [Act.put, List.setIfInBounds_toArray, List.set_cons_zero, List.set_cons_succ, Array.toArray_toList, List.getElem_toArray, List.getElem_cons_zero, List.getElem_cons_succ]
                    refine wpAnyH_take (i := 5) (v := undef) rfl (by kernel_rfl) (by kernel_rfl) (by kernel_rfl) (fun _ _ _ h => h) (.inr ⟨by rfl, rfl⟩) HTd.out ?_
                    try simp only [Act.put, List.setIfInBounds_toArray, List.set_cons_zero, List.set_cons_succ, Array.toArray_toList, List.getElem_toArray, List.getElem_cons_zero, List.getElem_cons_succ]
                    refine wpAnyH_take (i := 6) (v := undef) rfl (by kernel_rfl) (by kernel_rfl) (by kernel_rfl) (fun _ _ _ h => h) (.inr ⟨by rfl, rfl⟩) HTd.out ?_
                    try simp only [Act.put, List.setIfInBounds_toArray, List.set_cons_zero, List.set_cons_succ, Array.toArray_toList, List.getElem_toArray, List.getElem_cons_zero, List.getElem_cons_succ]
                    refine wpAnyH_take (i := 7) (v := undef) rfl (by kernel_rfl) (by kernel_rfl) (by kernel_rfl) (fun _ _ _ h => h) (.inr ⟨by rfl, rfl⟩) HTd.out ?_
                    try simp only [Act.put, List.setIfInBounds_toArray, List.set_cons_zero, List.set_cons_succ, Array.toArray_toList, List.getElem_toArray, List.getElem_cons_zero, List.getElem_cons_succ]
                    refine wpAnyH_take (i := 8) (v := undef) rfl (by kernel_rfl) (by kernel_rfl) (by kernel_rfl) (fun _ _ _ h => h) (.inr ⟨by rfl, rfl⟩) HTd.out ?_
                    try simp only [Act.put, List.setIfInBounds_toArray, List.set_cons_zero, List.set_cons_succ, Array.toArray_toList, List.getElem_toArray, List.getElem_cons_zero, List.getElem_cons_succ]
                    refine wpAnyH_take (i := 9) (v := undef) rfl (by kernel_rfl) (by kernel_rfl) (by kernel_rfl) (fun _ _ _ h => h) (.inr ⟨by rfl, rfl⟩) HTd.out ?_
                    try simp only [Act.put, List.setIfInBounds_toArray, List.set_cons_zero, List.set_cons_succ, Array.toArray_toList, List.getElem_toArray, List.getElem_cons_zero, List.getElem_cons_succ]
                    refine wpAnyH_take (i := 10) (v := undef) rfl (by kernel_rfl) (by kernel_rfl) (by kernel_rfl) (fun _ _ _ h => h) (.inr ⟨by rfl, rfl⟩) HTd.out ?_
                    try simp only [Act.put, List.setIfInBounds_toArray, List.set_cons_zero, List.set_cons_succ, Array.toArray_toList, List.getElem_toArray, List.getElem_cons_zero, List.getElem_cons_succ]
                    refine wpAnyH_take (i := 11) (v := undef) rfl (by kernel_rfl) (by kernel_rfl) (by kernel_rfl) (fun _ _ _ h => h) (.inr ⟨by rfl, rfl⟩) HTd.out ?_
                    try simp only [Act.put, List.setIfInBounds_toArray, List.set_cons_zero, List.set_cons_succ, Array.toArray_toList, List.getElem_toArray, List.getElem_cons_zero, List.getElem_cons_succ]
                    refine wpAnyH_take (i := 12) (v := undef) rfl (by kernel_rfl) (by kernel_rfl) (by kernel_rfl) (fun _ _ _ h => h) (.inr ⟨by rfl, rfl⟩) HTd.out ?_
                    try simp only [Act.put, List.setIfInBounds_toArray, List.set_cons_zero, List.set_cons_succ, Array.toArray_toList, List.getElem_toArray, List.getElem_cons_zero, List.getElem_cons_succ]
                    refine wpAnyH_take (i := 13) (v := .bool false) rfl (by kernel_rfl) (by kernel_rfl) (by kernel_rfl) (fun _ _ _ h => h) (.inl ⟨by rfl, ?_⟩) HTd.out ?_
                    · intro W hW
                      go_simp
                    try simp only [Act.put, List.setIfInBounds_toArray, List.set_cons_zero, List.set_cons_succ, Array.toArray_toList, List.getElem_toArray, List.getElem_cons_zero, List.getElem_cons_succ]
                    refine wpAnyH_done (by kernel_rfl) ?_ _
                    all_goals (
                      go_wp2_with fail
                      go_roundg (gk - 1)
                      case measure => have := HK.out; omega
                      case rel => exact ⟨i + 1, seen + 1, rfl, by go_num, by have := HK.out; show _ = _; omega, ⟨by omega, by push_cast; omega⟩, HG2, HT.out.same rfl rfl rfl rfl⟩)
              · have h35a : c ≠ 35 := fun e => h35 (.inl e)
                have h35b : c ≠ 48 := fun e => h35 (.inr e)
                have e35 : (c == 35) = false := by simpa using h35a
                have e48 : (c == 48) = false := by simpa using h35b
                have hw2 : IntKind.i64.wrap ((i : Int) + 1) = (i : Int) + 1 := by rw [IntKind.wrap_i64]; omega
                by_cases h44 : c = 44
                · subst h44
                  obtain ⟨hg2, q1, q2, q3, q4⟩ := gl_comma hg hs
                  have HG2 := Lib.hid hg2
                  have hg2p : 0 < p.nm.g2 := HG12.out (by omega)
                  have k9 : _ = some (Value.int .i64 p.nm.g1) := HT.out.blk.cell 9
                  have k10 : _ = some (Value.int .i64 p.nm.g2) := HT.out.blk.cell 10
                  have z1 : (p.nm.g1 == 0) = false := by simpa using q1
                  have z2 : decide (n - seen < p.nm.g1) = false := by simp; omega
                  have z3 : Int.tmod (n - seen - p.nm.g1) p.nm.g2 = 0 := by rw [Int.tmod_eq_emod_of_nonneg (by omega)]; exact q3
                  have z4 : (seen == 0) = false := by simpa using q4
                  have z5 : (p.nm.g2 == 0) = false := by simp; omega
                  have z6 : p.nm.g2 ≠ 0 := by omega
                  have z7 : p.nm.g2 ≠ -1 := by omega
                  have w1 : IntKind.i64.wrap (n - seen) = n - seen := by rw [IntKind.wrap_i64]; omega
                  have w2 : IntKind.i64.wrap (n - seen - p.nm.g1) = n - seen - p.nm.g1 := by rw [IntKind.wrap_i64]; omega
                  clear hd hg hg2 hc h35 q3
                  go_wp2_with fail
                  go_roundg (gk - 1)
                  case measure => have := HK.out; omega
                  case rel => exact ⟨i + 1, seen, rfl, by go_num, by have := HK.out; show _ = _; omega, ⟨hsn.1, by push_cast; omega⟩, HG2, HT⟩
                · have HG2 := Lib.hid (gl_other hg hs h35a h35b h44)
                  have e44 : (c == 44) = false := by simpa using h44
                  clear hd hg hc h35
                  go_wp2_with fail
                  go_roundg (gk - 1)
                  case measure => have := HK.out; omega
                  case rel => exact ⟨i + 1, seen, rfl, by go_num, by have := HK.out; show _ = _; omega, ⟨hsn.1, by push_cast; omega⟩, HG2, HT⟩
          · have hnil : T.drop i = [] := List.drop_of_length_le (by omega)
            have hg := HG.out
            rw [hnil] at hg
            have hss := gl_nil hg
            have hi1 : decide ((i : Int) < (X.size : Int)) = false := by simp; omega
            have hs2 : decide (n ≤ seen) = true := by simp; omega
            have hs3 : decide (n ≤ (X.size : Int)) = true := by simp; omega
            clear hg hnil
            go_wp2_with fail
            go_ret
            exact ⟨rfl, HT.out.gr⟩
  · have hf1 : decide ((p.pre.length : Int) + p.suf.length + p.npre.length + p.nsuf.length ≤ 300) = false := by simpa using hf
    rw [hf1] at CF
    go_enter Try.func5, Try.ntmps5
    go_upto_region 1 with fail
    generalize w.alloc (.cells (ptCells (.slice A1 p.pre.length c1) (.slice A2 p.suf.length c2) (.slice A3 p.npre.length c3) (.slice A4 p.nsuf.length c4) p) 24) = W0 at *
    go_wp2_with (first
      | (go_at_call 7; refine (CS.out _).mono ?_; rintro e w1 ⟨rfl, hg⟩; have H1 := Lib.hid (H0.out.grown hg); clear hg)
      | (go_at_call 8; refine (CF.out _).mono ?_; rintro e w2 ⟨rfl, hg⟩; have H2 := Lib.hid (H1.out.grown hg); clear hg)
      | (refine wpList_load_mid rfl 24 _ rfl w.heap.size 0 rfl (ptCells (.slice A1 p.pre.length c1) (.slice A2 p.suf.length c2) (.slice A3 p.npre.length c3) (.slice A4 p.nsuf.length c4) p).toList _ (by exact row_range H1.out.blk) Try.underlying24 rfl (info24c _ _ _ _ _) ?_))
    go_ret
    exact ⟨rfl, H2.out.gr⟩
end Go.Proofs.Ytdbcdgojbegakaa

/-
The reference's Right: the walk.
-/
import Derived.Test.YtdbcdgojbegakaaVJ
namespace Go.Proofs.Ytdbcdgojbegakaa
open Go.RowKit
set_option linter.unusedSimpArgs false
set_option linter.unusedVariables false

theorem ok_not {x : Int} (h : okN x = true) : decide (x < 0) = false ∧ decide (40 < x) = false := by
  simp only [okN, Bool.and_eq_true, decide_eq_true_eq] at h
  simp; omega
set_option maxRecDepth 100000 in
set_option maxHeartbeats 16000000 in
theorem right_ref (w : World) (A1 A2 A3 A4 : Option Addr) (c1 c2 c3 c4 : Nat) (p : Pt) (t1 : TL w (.slice A1 p.pre.length c1) p.pre) (t2 : TL w (.slice A2 p.suf.length c2) p.suf) (t3 : TL w (.slice A3 p.npre.length c3) p.npre) (t4 : TL w (.slice A4 p.nsuf.length c4) p.nsuf)
    (k1 : p.pre.length ≤ c1) (k2 : p.suf.length ≤ c2) (k3 : p.npre.length ≤ c3) (k4 : p.nsuf.length ≤ c4) (hb : ∀ t ∈ p.pre ++ p.suf ++ p.npre ++ p.nsuf, -2147483648 ≤ t.r ∧ t.r < 2147483648) (hp : -2147483648 ≤ p.pad ∧ p.pad < 2147483648)
    (hl : (p.pre ++ p.suf ++ p.npre ++ p.nsuf).length ≤ 300) :
    Calls Try.prog 9 #[.agg (ptCells (.slice A1 p.pre.length c1) (.slice A2 p.suf.length c2) (.slice A3 p.npre.length c3) (.slice A4 p.nsuf.length c4) p)] w fun e w' => e = .returned (.bool (rightP p)) ∧ w.grownBy w' none := by
  have HPV : Hid (PatV w (.agg (ptCells (.slice A1 p.pre.length c1) (.slice A2 p.suf.length c2) (.slice A3 p.npre.length c3) (.slice A4 p.nsuf.length c4) p)) p) := ⟨_, _, _, _, rfl, t1, t2, t3, t4⟩
  have HPV2 : Hid (∀ W, w.grownBy W none → PatV W (.agg (ptCells (.slice A1 p.pre.length c1) (.slice A2 p.suf.length c2) (.slice A3 p.npre.length c3) (.slice A4 p.nsuf.length c4) p)) p) := fun W hg => HPV.out.grown hg
  have HLN := Lib.hid hl
  have hlen : p.pre.length + p.suf.length + p.npre.length + p.nsuf.length ≤ 300 := by simpa using (by simp at hl; omega : _)
  have CI : Hid (∀ W, Calls Try.prog 20 #[.int .i32 p.pad] W fun e w' => e = .returned (.bool (isRune p.pad)) ∧ W.grownBy w' none) := fun W => is_ref p.pad hp W
  have C1 : Hid (∀ W, w.grownBy W none → Calls Try.prog 21 #[.slice A1 p.pre.length c1] W fun e w' => e = .returned (.bool (p.pre.all fun t => isRune t.r)) ∧ W.grownBy w' none) := fun W hW => runes_ref W A1 c1 p.pre (t1.grown hW) k1 (fun t ht => hb t (by simp [ht])) (by omega)
  have C2 : Hid (∀ W, w.grownBy W none → Calls Try.prog 21 #[.slice A2 p.suf.length c2] W fun e w' => e = .returned (.bool (p.suf.all fun t => isRune t.r)) ∧ W.grownBy w' none) := fun W hW => runes_ref W A2 c2 p.suf (t2.grown hW) k2 (fun t ht => hb t (by simp [ht])) (by omega)
  have C3 : Hid (∀ W, w.grownBy W none → Calls Try.prog 21 #[.slice A3 p.npre.length c3] W fun e w' => e = .returned (.bool (p.npre.all fun t => isRune t.r)) ∧ W.grownBy w' none) := fun W hW => runes_ref W A3 c3 p.npre (t3.grown hW) k3 (fun t ht => hb t (by simp [ht])) (by omega)
  have C4 : Hid (∀ W, w.grownBy W none → Calls Try.prog 21 #[.slice A4 p.nsuf.length c4] W fun e w' => e = .returned (.bool (p.nsuf.all fun t => isRune t.r)) ∧ W.grownBy w' none) := fun W hW => runes_ref W A4 c4 p.nsuf (t4.grown hW) k4 (fun t ht => hb t (by simp [ht])) (by omega)
  have H0 := Lib.hid (TI.new w (ptCells (.slice A1 p.pre.length c1) (.slice A2 p.suf.length c2) (.slice A3 p.npre.length c3) (.slice A4 p.nsuf.length c4) p))
  have HRP := Lib.hid (rightP_parts p)
  have HSP := Lib.hid (smallP_parts p)
  clear t1 t2 t3 t4 k1 k2 k3 k4 hb hp hl HPV
  go_enter Try.func9, Try.ntmps9
  go_upto_region 1 with fail
  generalize w.alloc (.cells (ptCells (.slice A1 p.pre.length c1) (.slice A2 p.suf.length c2) (.slice A3 p.npre.length c3) (.slice A4 p.nsuf.length c4) p) 24) = W0 at *
  have k5 : W0.cell? ⟨w.heap.size, 5, none⟩ = some (.int .i64 p.nm.hash) := H0.out.blk.cell 5
  have k6 : W0.cell? ⟨w.heap.size, 6, none⟩ = some (.int .i64 p.nm.minInt) := H0.out.blk.cell 6
  have k7 : W0.cell? ⟨w.heap.size, 7, none⟩ = some (.int .i64 p.nm.minFrac) := H0.out.blk.cell 7
  have k8 : W0.cell? ⟨w.heap.size, 8, none⟩ = some (.int .i64 p.nm.maxFrac) := H0.out.blk.cell 8
  have k9 : W0.cell? ⟨w.heap.size, 9, none⟩ = some (.int .i64 p.nm.g1) := H0.out.blk.cell 9
  have k10 : W0.cell? ⟨w.heap.size, 10, none⟩ = some (.int .i64 p.nm.g2) := H0.out.blk.cell 10
  have k11 : W0.cell? ⟨w.heap.size, 11, none⟩ = some (.int .i64 p.nm.minSig) := H0.out.blk.cell 11
  have k12 : W0.cell? ⟨w.heap.size, 12, none⟩ = some (.int .i64 p.nm.maxSig) := H0.out.blk.cell 12
  have k13 : W0.cell? ⟨w.heap.size, 13, none⟩ = some (.int .i64 p.nm.exp) := H0.out.blk.cell 13
  have H1 := Lib.hid (H0.out.grown (only_alloc (only_refl W0 none) (.cells #[.int .i64 p.nm.hash, .int .i64 p.nm.minInt, .int .i64 p.nm.minFrac, .int .i64 p.nm.maxFrac, .int .i64 p.nm.g1, .int .i64 p.nm.g2, .int .i64 p.nm.minSig, .int .i64 p.nm.maxSig, .int .i64 p.nm.exp] 3)))
  have HC : Hid (∀ i x, (nine p.nm)[i]? = some x → (W0.alloc (.cells #[.int .i64 p.nm.hash, .int .i64 p.nm.minInt, .int .i64 p.nm.minFrac, .int .i64 p.nm.maxFrac, .int .i64 p.nm.g1, .int .i64 p.nm.g2, .int .i64 p.nm.minSig, .int .i64 p.nm.maxSig, .int .i64 p.nm.exp] 3)).cell? ((⟨W0.heap.size, 0, none⟩ : Addr).add i) = some (.int .i64 x)) := fun i x hx => by
    have hb := (Blk.new W0 3 #[.int .i64 p.nm.hash, .int .i64 p.nm.minInt, .int .i64 p.nm.minFrac, .int .i64 p.nm.maxFrac, .int .i64 p.nm.g1, .int .i64 p.nm.g2, .int .i64 p.nm.minSig, .int .i64 p.nm.maxSig, .int .i64 p.nm.exp]).cell i
    rw [show (⟨W0.heap.size, 0, none⟩ : Addr).add i = ⟨W0.heap.size, i, none⟩ by unfold Addr.add; split <;> simp_all, hb]
    have : (#[.int .i64 p.nm.hash, .int .i64 p.nm.minInt, .int .i64 p.nm.minFrac, .int .i64 p.nm.maxFrac, .int .i64 p.nm.g1, .int .i64 p.nm.g2, .int .i64 p.nm.minSig, .int .i64 p.nm.maxSig, .int .i64 p.nm.exp] : Array Value) = ((nine p.nm).map (Value.int .i64)).toArray := rfl
    rw [this]; simp [hx]
  go_upto_region 2 with fail
  clear k5 k6 k7 k8 k9 k10 k11 k12 k13 H0
  change Code.wp _ _ _ _ (W0.alloc (.cells #[.int .i64 p.nm.hash, .int .i64 p.nm.minInt, .int .i64 p.nm.minFrac, .int .i64 p.nm.maxFrac, .int .i64 p.nm.g1, .int .i64 p.nm.g2, .int .i64 p.nm.minSig, .int .i64 p.nm.maxSig, .int .i64 p.nm.exp] 3))
  generalize W0.alloc (.cells #[.int .i64 p.nm.hash, .int .i64 p.nm.minInt, .int .i64 p.nm.minFrac, .int .i64 p.nm.maxFrac, .int .i64 p.nm.g1, .int .i64 p.nm.g2, .int .i64 p.nm.minSig, .int .i64 p.nm.maxSig, .int .i64 p.nm.exp] 3) = W1 at *
  generalize (⟨W0.heap.size, 0, none⟩ : Addr) = ad at *
  have HN9 : Hid ((nine p.nm).length = 9) := rfl
  obtain ⟨gs, hgs⟩ : ∃ y, nine p.nm = y := ⟨_, rfl⟩
  rw [hgs] at HC HRP HSP HN9
  clear hgs
  go_wp2_with fail
  go_loopg [4] 9 (fun kq v4 wr => ∃ k : Nat, v4 = .int .i64 k ∧ Hid (kq + k = 9) ∧ Hid ((gs.take k).all okN = true) ∧ wr = W1)
  case atStart => exact ⟨0, rfl, rfl, by simp [Hid], rfl⟩
  case round =>
    obtain ⟨k, rfl, HK, HE, rfl⟩ := hrel
    by_cases hk : k < gs.length
    · have e1 := HC.out k gs[k] (List.getElem?_eq_getElem hk)
      have hk9 : k < 9 := by have := HN9.out; omega
      have hk2 : (k : Int) < 9 := by omega
      have hk3 : decide ((k : Int) < 9) = true := by simpa using hk2
      cases hb : okN gs[k] with
      | true =>
        have HE2 : Hid ((gs.take (k + 1)).all okN = true) := by
          rw [Hid, List.take_add_one, List.all_append, HE.out, List.getElem?_eq_getElem hk]; simp [hb]
        obtain ⟨ha, hc⟩ := ok_not hb
        clear hb
        generalize gs[k] = x at *
        clear hk
        go_wp2_with fail
        go_roundg (9 - (k + 1))
        case measure => have := HK.out; omega
        case rel => exact ⟨k + 1, by simp, by show _ = _; omega, HE2, rfl⟩
      | false =>
        have HF : Hid (rightP p = false) := by
          have : gs.all okN = false := by
            rw [List.all_eq_false]
            exact ⟨gs[k], List.getElem_mem hk, by simp [hb]⟩
          rw [Hid, HRP.out, this]; simp
        have hx : decide (gs[k] < 0) = true ∨ (decide (gs[k] < 0) = false ∧ decide (40 < gs[k]) = true) := by
          simp only [okN, Bool.and_eq_false_iff, decide_eq_false_iff_not] at hb
          simp; omega
        clear hb
        generalize gs[k] = x at *
        clear hk
        rcases hx with ha | ⟨ha, hc⟩
        · go_wp2_with fail
          go_ret
          exact ⟨by rw [HF.out]; rfl, H1.out.gr⟩
        · go_wp2_with fail
          go_ret
          exact ⟨by rw [HF.out]; rfl, H1.out.gr⟩
    · have HA : Hid (gs.all okN = true) := by
        have := HE.out
        rwa [show k = gs.length by have := HK.out; have := HN9.out; omega, List.take_length] at this
      have hk9 : k = 9 := by have := HK.out; have := HN9.out; omega
      subst hk9
      clear HE HC hk
      rw [HA.out, Bool.true_and] at HRP HSP
      have k0 : _ = some (Value.slice A1 p.pre.length c1) := H1.out.blk.cell 0
      have k15 : _ = some (Value.int .i32 p.pad) := H1.out.blk.cell 15
      go_upto_region 8 with (first
        | (go_at_call 20; refine (CI.out _).mono ?_; rintro e w2 ⟨rfl, hg⟩; have H2 := Lib.hid (H1.out.grown hg); clear hg))
      clear k0 k15
      generalize isRune p.pad = b5 at *
      go_cut [6] (fun v wx => v = .bool ((p.pre.all fun t => isRune t.r) && (p.suf.all fun t => isRune t.r)) ∧ Hid (TI w wx (ptCells (.slice A1 p.pre.length c1) (.slice A2 p.suf.length c2) (.slice A3 p.npre.length c3) (.slice A4 p.nsuf.length c4) p)))
      case first =>
        have q0 : _ = some (Value.slice A1 p.pre.length c1) := H2.out.blk.cell 0
        cases hq : p.pre.all fun t => isRune t.r with
        | false =>
          rw [hq] at C1
          have HQ0 := Lib.hid hq
          clear hq
          go_wp2_with (first
            | (go_at_call 21; refine (C1.out _ (by exact H2.out.gr)).mono ?_; rintro e w3 ⟨rfl, hg⟩; have H3 := Lib.hid (H2.out.grown hg); clear hg))
          go_meet
          exact ⟨by rw [HQ0.out]; rfl, H3⟩
        | true =>
          rw [hq] at C1
          have HQ0 := Lib.hid hq
          clear hq
          go_wp2_with (first
            | (go_at_call_of 21 (Value.slice A1 p.pre.length c1); refine (C1.out _ (by exact H2.out.gr)).mono ?_; rintro e w3 ⟨rfl, hg⟩; have H3 := Lib.hid (H2.out.grown hg); have q1 : _ = some (Value.slice A2 p.suf.length c2) := H3.out.blk.cell 1; clear hg)
            | (go_at_call_of 21 (Value.slice A2 p.suf.length c2); refine (C2.out _ (by exact H3.out.gr)).mono ?_; rintro e w4 ⟨rfl, hg⟩; have H4 := Lib.hid (H3.out.grown hg); clear hg))
          go_meet
          exact ⟨by rw [HQ0.out, Bool.true_and], H4⟩
      case rest =>
        obtain ⟨rfl, H5⟩ := hcut
        generalize ((p.pre.all fun t => isRune t.r) && (p.suf.all fun t => isRune t.r)) = x6 at *
        clear H2 C1 C2
        go_upto_region 9 with fail
        go_cut [7] (fun v wx => v = .bool ((p.npre.all fun t => isRune t.r) && (p.nsuf.all fun t => isRune t.r)) ∧ Hid (TI w wx (ptCells (.slice A1 p.pre.length c1) (.slice A2 p.suf.length c2) (.slice A3 p.npre.length c3) (.slice A4 p.nsuf.length c4) p)))
        case first =>
          have q0 : _ = some (Value.slice A3 p.npre.length c3) := H5.out.blk.cell 2
          cases hq : p.npre.all fun t => isRune t.r with
          | false =>
            rw [hq] at C3
            have HQ0 := Lib.hid hq
            clear hq
            go_wp2_with (first
              | (go_at_call 21; refine (C3.out _ (by exact H5.out.gr)).mono ?_; rintro e w3 ⟨rfl, hg⟩; have H3 := Lib.hid (H5.out.grown hg); clear hg))
            go_meet
            exact ⟨by rw [HQ0.out]; rfl, H3⟩
          | true =>
            rw [hq] at C3
            have HQ0 := Lib.hid hq
            clear hq
            go_wp2_with (first
              | (go_at_call_of 21 (Value.slice A3 p.npre.length c3); refine (C3.out _ (by exact H5.out.gr)).mono ?_; rintro e w3 ⟨rfl, hg⟩; have H3 := Lib.hid (H5.out.grown hg); have q1 : _ = some (Value.slice A4 p.nsuf.length c4) := H3.out.blk.cell 3; clear hg)
              | (go_at_call_of 21 (Value.slice A4 p.nsuf.length c4); refine (C4.out _ (by exact H3.out.gr)).mono ?_; rintro e w4 ⟨rfl, hg⟩; have H4 := Lib.hid (H3.out.grown hg); clear hg))
            go_meet
            exact ⟨by rw [HQ0.out, Bool.true_and], H4⟩
        case rest =>
          obtain ⟨rfl, H6⟩ := hcut
          generalize ((p.npre.all fun t => isRune t.r) && (p.nsuf.all fun t => isRune t.r)) = x7 at *
          clear H5 C3 C4
          cases hs : (b5 && x6 && x7) with
          | false =>
            have HF : Hid (rightP p = false) := by rw [Hid, HRP.out, hs]; rfl
            have hor : b5 = false ∨ (b5 = true ∧ x6 = false) ∨ (b5 = true ∧ x6 = true ∧ x7 = false) := by revert hs; cases b5 <;> cases x6 <;> cases x7 <;> simp
            clear hs
            rcases hor with rfl | ⟨rfl, rfl⟩ | ⟨rfl, rfl, rfl⟩
            · go_wp2_with fail
              go_ret
              exact ⟨by rw [HF.out]; rfl, H6.out.gr⟩
            · go_wp2_with fail
              go_ret
              exact ⟨by rw [HF.out]; rfl, H6.out.gr⟩
            · go_wp2_with fail
              go_ret
              exact ⟨by rw [HF.out]; rfl, H6.out.gr⟩
          | true =>
            have HR : Hid (rightP p = decide (parseL (textR p) = some p)) := by rw [Hid, HRP.out, hs]; rfl
            have hsm : smallP p = true := by rw [HSP.out, hs]
            have C14 : Hid (∀ W, w.grownBy W none → Calls Try.prog 14 #[.agg (ptCells (.slice A1 p.pre.length c1) (.slice A2 p.suf.length c2) (.slice A3 p.npre.length c3) (.slice A4 p.nsuf.length c4) p)] W fun e w' => e = .returned (.string (strOf (textR p))) ∧ W.grownBy w' none) := fun W hg => textR_ref W _ p (HPV2.out W hg) hsm HLN.out
            have C22 : Hid (∀ W, Calls Try.prog 22 #[.string (strOf (textR p))] W fun e w' => ParseV (parseL (textR p)) e w' ∧ W.grownBy w' none) := fun W => parse_ref W _ (textR_rune p hsm) (textR_le p hsm HLN.out)
            have hb3 : b5 = true ∧ x6 = true ∧ x7 = true := by revert hs; cases b5 <;> cases x6 <;> cases x7 <;> simp
            obtain ⟨rfl, rfl, rfl⟩ := hb3
            clear hs hsm HSP HRP
            cases ho : parseL (textR p) with
            | none =>
              rw [ho] at C22 HR
              have HRF : Hid (rightP p = false) := by rw [Hid, HR.out]; rfl
              clear ho
              go_wp2_with (first
                | (refine wpList_load_mid rfl 24 _ rfl w.heap.size 0 rfl (ptCells (.slice A1 p.pre.length c1) (.slice A2 p.suf.length c2) (.slice A3 p.npre.length c3) (.slice A4 p.nsuf.length c4) p).toList _ (by exact row_range H6.out.blk) Try.underlying24 rfl (info24c _ _ _ _ _) ?_)
                | (go_at_call 14; refine (C14.out _ (by exact H6.out.gr)).mono ?_; rintro e w7 ⟨rfl, hg⟩; have H7 := Lib.hid (H6.out.grown hg); clear hg)
                | (go_at_call 22; refine (C22.out _).mono ?_; go_must (rintro e w8 ⟨⟨u4, at4, code, rfl, hcode, v1, v2, v3, v4, rfl, z1, z2, z3, z4⟩, hg⟩; obtain ⟨Z1, d1, rfl, -⟩ := z1; obtain ⟨Z2, d2, rfl, -⟩ := z2; obtain ⟨Z3, d3, rfl, -⟩ := z3; obtain ⟨Z4, d4, rfl, -⟩ := z4; have H8 := Lib.hid (H7.out.grown hg); have hcode2 := beq_false_of_ne hcode; have HB := Lib.hid (Blk.new w8 24 zCells); clear hg hcode))
                | (refine wpList_store_row rfl 24 _ _ rfl w8.heap.size _ rfl rfl 24 zCells HB.out (by exact info24) (by rfl) (by simp [ptCells, Value.oneCell']) ?_))
              go_ret
              refine ⟨by rw [HRF.out]; rfl, only_row (only_alloc H8.out.gr _) (.inr H8.out.gr.size) _⟩
            | some q =>
              rw [ho] at C22 HR
              have HRF : Hid (rightP p = decide (p = q)) := by
                rw [Hid, HR.out]
                by_cases h : p = q
                · simp [h]
                · have h2 : ¬ q = p := fun e => h e.symm
                  simp [h, h2]
              clear ho
              go_wp2_with (first
                | (refine wpList_load_mid rfl 24 _ rfl w.heap.size 0 rfl (ptCells (.slice A1 p.pre.length c1) (.slice A2 p.suf.length c2) (.slice A3 p.npre.length c3) (.slice A4 p.nsuf.length c4) p).toList _ (by exact row_range H6.out.blk) Try.underlying24 rfl (info24c _ _ _ _ _) ?_)
                | (go_at_call 14; refine (C14.out _ (by exact H6.out.gr)).mono ?_; rintro e w7 ⟨rfl, hg⟩; have H7 := Lib.hid (H6.out.grown hg); clear hg)
                | (go_at_call 22; refine (C22.out _).mono ?_; rintro e w8 ⟨⟨u4, rfl, hq⟩, hg⟩; have HQ := Lib.hid hq; obtain ⟨v1, v2, v3, v4, rfl, z1, z2, z3, z4⟩ := hq; obtain ⟨B1, d1, rfl, -⟩ := z1; obtain ⟨B2, d2, rfl, -⟩ := z2; obtain ⟨B3, d3, rfl, -⟩ := z3; obtain ⟨B4, d4, rfl, -⟩ := z4; have H8 := Lib.hid (H7.out.grown hg); have HB := Lib.hid (Blk.new w8 24 zCells); clear hg)
                | (refine wpList_store_row rfl 24 _ _ rfl w8.heap.size _ rfl rfl 24 zCells HB.out (by exact info24) (by rfl) (by simp [ptCells, Value.oneCell']) ?_)
                | (refine wpList_load_wanted (by rfl) 24 _ (by rfl) w.heap.size 0 (by rfl) (ptCells (.slice A1 p.pre.length c1) (.slice A2 p.suf.length c2) (.slice A3 p.npre.length c3) (.slice A4 p.nsuf.length c4) p).toList _ (by exact row_range (blk_far H8.out.blk (H8.out.blk.lt))) Try.underlying24 rfl (info24c _ _ _ _ _) ?_)
                | (refine wpList_load_wanted (by rfl) 24 _ (by rfl) w8.heap.size 0 (by rfl) (ptCells (.slice B1 q.pre.length d1) (.slice B2 q.suf.length d2) (.slice B3 q.npre.length d3) (.slice B4 q.nsuf.length d4) q).toList _ (by exact row_range (HB.out.row _)) Try.underlying24 rfl (info24c _ _ _ _ _) ?_)
                | (go_at_call 12; refine (same_ref _ _ _ p q (HPV2.out _ (only_row (only_alloc H8.out.gr _) (.inr H8.out.gr.size) _)) (HQ.out.grown (only_row (only_alloc (only_refl w8 none) _) (.inr (Nat.le_refl _)) _)) (Nat.le_trans HLN.out (by decide))).mono ?_; rintro e w9 ⟨rfl, hg⟩; have HG5 := Lib.hid (only_trans (only_row (only_alloc H8.out.gr _) (.inr H8.out.gr.size) _) hg); clear hg))
              go_ret
              exact ⟨by rw [HRF.out]; rfl, HG5.out⟩
  end Go.Proofs.Ytdbcdgojbegakaa

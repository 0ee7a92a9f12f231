/-
The reference's Number.
-/
import Derived.Test.YtdbcdgojbegakaaV9
import Derived.Deep.DeepCutAuto
namespace Go.Proofs.Ytdbcdgojbegakaa
open Go.RowKit

/-- Does a comma stand behind the digit of this place (counted from the end)? -/
def CmR (p : Nm) (k : Nat) : Prop := 0 < p.g1 ∧ ((k : Int) = p.g1 ∨ (p.g1 < (k : Int) ∧ 0 < p.g2 ∧ ((k : Int) - p.g1) % p.g2 = 0))
instance (p : Nm) (k : Nat) : Decidable (CmR p k) := by unfold CmR; infer_instance
/-- The places' text, as the reference writes it. -/
def placesR (p : Nm) : Nat → List Int
  | 0 => []
  | k + 1 => (if (k : Int) < p.minInt then 48 else 35) :: (if CmR p k then 44 :: placesR p k else placesR p k)
/-- A number's text, as the reference writes it. -/
def numR (p : Nm) : List Int :=
  List.replicate p.minSig.toNat 64 ++ List.replicate (p.maxSig - p.minSig).toNat 35 ++ placesR p (p.hash + p.minInt).toNat ++
  (if 0 < p.maxFrac then 46 :: (List.replicate p.minFrac.toNat 48 ++ List.replicate (p.maxFrac - p.minFrac).toNat 35) else []) ++
  (if 0 < p.exp then 69 :: ((if p.expPlus then [43] else []) ++ List.replicate p.exp.toNat 48) else [])
theorem placesR_eq (p : Nm) (h : 0 < p.g1 → 0 < p.g2) : ∀ k, placesR p k = placesT p k
  | 0 => rfl
  | k + 1 => by
    have hc : CmR p k ↔ (0 < p.g1 ∧ p.g1 < (k + 1 : Nat) ∧ ((k : Int) - p.g1) % (max p.g2 1) = 0) := by
      unfold CmR
      constructor
      · rintro ⟨a, b⟩
        have hg := h a
        rw [show max p.g2 1 = p.g2 by omega]
        rcases b with b | b
        · exact ⟨a, by omega, by rw [b, Int.sub_self]; exact Int.zero_emod _⟩
        · exact ⟨a, by omega, b.2.2⟩
      · rintro ⟨a, b, c⟩
        have hg := h a
        rw [show max p.g2 1 = p.g2 by omega] at c
        refine ⟨a, ?_⟩
        by_cases e : (k : Int) = p.g1
        · exact .inl e
        · exact .inr ⟨by omega, hg, c⟩
    have hd : ((k : Int) < p.minInt) ↔ ¬ (p.minInt < (k + 1 : Nat)) := by omega
    simp only [placesR, placesT, placesR_eq p h k]
    by_cases e1 : (k : Int) < p.minInt <;> by_cases e2 : CmR p k
    · rw [if_pos e1, if_neg (hd.1 e1), if_pos e2, if_pos (hc.1 e2)]
    · rw [if_pos e1, if_neg (hd.1 e1), if_neg e2, if_neg (fun x => e2 (hc.2 x))]
    · rw [if_neg e1, if_pos (show p.minInt < ((k + 1 : Nat) : Int) by omega), if_pos e2, if_pos (hc.1 e2)]
    · rw [if_neg e1, if_pos (show p.minInt < ((k + 1 : Nat) : Int) by omega), if_neg e2, if_neg (fun x => e2 (hc.2 x))]
theorem numR_eq (p : Nm) (h : 0 < p.g1 → 0 < p.g2) : numR p = numT p := by unfold numR numT; rw [placesR_eq p h]
theorem placesR_le (p : Nm) : ∀ k, (placesR p k).length ≤ 2 * k
  | 0 => by simp [placesR]
  | k + 1 => by
    have := placesR_le p k
    simp only [placesR, List.length_cons]
    split <;> simp <;> omega
theorem numR_le (p : Nm) (hs : smallNm p = true) : (numR p).length ≤ 500 := by
  simp only [smallNm, List.all_cons, List.all_nil, Bool.and_true, Bool.and_eq_true, decide_eq_true_eq] at hs
  have := placesR_le p (p.hash + p.minInt).toNat
  unfold numR
  simp only [List.length_append, List.length_replicate]
  split <;> split <;> (try split) <;> simp <;> omega

theorem times_lit (c : Int) (s : ByteArray) (hs : strOf [c] = s) (h1 : s.size = 1) (n : Int) (hn : n ≤ 1000) (w : World) :
    Calls Try.prog 34 #[.string s, .int .i64 n] w fun e w' => e = .returned (.string (strOf (List.replicate n.toNat c))) ∧ w.grownBy w' none := by
  have := times_ref c n hn (by rw [hs]; exact h1) w
  rw [hs] at this
  exact this

set_option maxRecDepth 100000 in
set_option maxHeartbeats 40000000 in
theorem number_ref (w : World) (A1 A2 A3 A4 : Option Addr) (n1 n2 n3 n4 c1 c2 c3 c4 : Nat) (p : Pt) (hs : smallNm p.nm = true) :
    Calls Try.prog 16 #[.agg (ptCells (.slice A1 n1 c1) (.slice A2 n2 c2) (.slice A3 n3 c3) (.slice A4 n4 c4) p)] w fun e w' => e = .returned (.string (strOf (numR p.nm))) ∧ w.grownBy w' none := by
  have HT0 : Hid (numR p.nm = numR p.nm) := rfl
  simp only [smallNm, List.all_cons, List.all_nil, Bool.and_true, Bool.and_eq_true, decide_eq_true_eq] at hs
  obtain ⟨⟨a1, b1⟩, ⟨a2, b2⟩, ⟨a3, b3⟩, ⟨a4, b4⟩, ⟨a5, b5⟩, ⟨a6, b6⟩, ⟨a7, b7⟩, ⟨a8, b8⟩, ⟨a9, b9⟩⟩ := hs
  have H0 := Lib.hid (TI.new w (ptCells (.slice A1 n1 c1) (.slice A2 n2 c2) (.slice A3 n3 c3) (.slice A4 n4 c4) p))
  have R64 := Lib.hid (times_lit 64 _ s64 (by decide))
  have R35 := Lib.hid (times_lit 35 _ s35 (by decide))
  have R48 := Lib.hid (times_lit 48 _ s48 (by decide))
  have s44 : strOf [44] = ⟨#[44]⟩ := by decide +kernel
  have s69 : strOf [69] = ⟨#[69]⟩ := by decide +kernel
  have S44 := Lib.hid s44
  have S69 := Lib.hid s69
  clear s44 s69
  obtain ⟨T, hT⟩ : ∃ T : Nat, (T : Int) = p.nm.hash + p.nm.minInt := ⟨(p.nm.hash + p.nm.minInt).toNat, by omega⟩
  have HTT := Lib.hid hT
  have HTN : Hid ((p.nm.hash + p.nm.minInt).toNat = T) := by show _ = _; omega
  have HPL := Lib.hid (placesR_le p.nm)
  clear hT
  have HCE : Hid (∀ W, TI w W (ptCells (.slice A1 n1 c1) (.slice A2 n2 c2) (.slice A3 n3 c3) (.slice A4 n4 c4) p) → W.cell? ⟨w.heap.size, 5, none⟩ = some (.int .i64 p.nm.hash) ∧ W.cell? ⟨w.heap.size, 6, none⟩ = some (.int .i64 p.nm.minInt) ∧ W.cell? ⟨w.heap.size, 9, none⟩ = some (.int .i64 p.nm.g1) ∧ W.cell? ⟨w.heap.size, 10, none⟩ = some (.int .i64 p.nm.g2)) :=
    fun W h => ⟨h.blk.cell 5, h.blk.cell 6, h.blk.cell 9, h.blk.cell 10⟩
  have HCF : Hid (∀ W, TI w W (ptCells (.slice A1 n1 c1) (.slice A2 n2 c2) (.slice A3 n3 c3) (.slice A4 n4 c4) p) → W.cell? ⟨w.heap.size, 7, none⟩ = some (.int .i64 p.nm.minFrac) ∧ W.cell? ⟨w.heap.size, 8, none⟩ = some (.int .i64 p.nm.maxFrac) ∧ W.cell? ⟨w.heap.size, 11, none⟩ = some (.int .i64 p.nm.minSig) ∧ W.cell? ⟨w.heap.size, 12, none⟩ = some (.int .i64 p.nm.maxSig) ∧ W.cell? ⟨w.heap.size, 13, none⟩ = some (.int .i64 p.nm.exp) ∧ W.cell? ⟨w.heap.size, 14, none⟩ = some (.bool p.nm.expPlus)) :=
    fun W h => ⟨h.blk.cell 7, h.blk.cell 8, h.blk.cell 11, h.blk.cell 12, h.blk.cell 13, h.blk.cell 14⟩
  generalize hcs : ptCells (.slice A1 n1 c1) (.slice A2 n2 c2) (.slice A3 n3 c3) (.slice A4 n4 c4) p = cs at *
  clear hcs
  go_enter Try.func16, Try.ntmps16
  go_wp2_with fail
  go_loopg [3, 4] T (fun kq v3 v4 wr => ∃ k : Nat, v4 = .int .i64 k ∧ v3 = .string (strOf (placesR p.nm k)) ∧ Hid (kq + k = T) ∧ Hid (TI w wr cs))
  case atStart => exact ⟨0, rfl, rfl, rfl, H0⟩
  case round =>
    obtain ⟨k, rfl, rfl, HK, HN⟩ := hrel
    obtain ⟨e5, e6, e9, e10⟩ := HCE.out _ HN.out
    have HPk := HPL.out k
    have hk120 : k ≤ 80 := by have := HK.out; have := HTT.out; omega
    by_cases hk : k < T
    · have hk2 : (k : Int) < p.nm.hash + p.nm.minInt := by have := HTT.out; omega
      have c44 := cat_any [44] (placesR p.nm k) (by simp; omega)
      have c48 := cat_any [48] (placesR p.nm k) (by simp; omega)
      have c35 := cat_any [35] (placesR p.nm k) (by simp; omega)
      have c4844 := cat_any [48] ([44] ++ placesR p.nm k) (by simp; omega)
      have c3544 := cat_any [35] ([44] ++ placesR p.nm k) (by simp; omega)
      rw [S44.out] at c44
      rw [s48] at c48 c4844
      rw [s35] at c35 c3544
      simp only [List.cons_append, List.nil_append] at c44 c48 c35 c4844 c3544
      clear hk HPk

      by_cases hg : 0 < p.nm.g1
      · have hgA : decide (0 < p.nm.g1) = true := by simpa using hg
        by_cases he : (k : Int) = p.nm.g1
        · have HC : Hid (CmR p.nm k) := ⟨hg, .inl he⟩
          have heb : (((k : Int)) == p.nm.g1) = true := by simpa using he
          clear he
          by_cases hm : (k : Int) < p.nm.minInt
          · have HP2 : Hid (placesR p.nm (k + 1) = 48 :: 44 :: placesR p.nm k) := by simp only [Hid, placesR]; rw [if_pos hm, if_pos HC.out]
            clear HC
            go_wp2_with fail
            go_roundg (T - (k + 1))
            case measure => have := HK.out; have := HTT.out; omega
            case rel => exact ⟨k + 1, by simp, by rw [HP2.out], by show _ = _; have := HK.out; have := HTT.out; omega, HN⟩
          · have HP2 : Hid (placesR p.nm (k + 1) = 35 :: 44 :: placesR p.nm k) := by simp only [Hid, placesR]; rw [if_neg hm, if_pos HC.out]
            clear HC
            go_wp2_with fail
            go_roundg (T - (k + 1))
            case measure => have := HK.out; have := HTT.out; omega
            case rel => exact ⟨k + 1, by simp, by rw [HP2.out], by show _ = _; have := HK.out; have := HTT.out; omega, HN⟩
        · have heb : (((k : Int)) == p.nm.g1) = false := by simpa using he
          by_cases hgt : p.nm.g1 < (k : Int)
          · by_cases hg2 : 0 < p.nm.g2
            ·
              have hw1 : IntKind.i64.wrap ((k : Int) - p.nm.g1) = (k : Int) - p.nm.g1 := by rw [IntKind.wrap_i64]; omega
              by_cases hr : ((k : Int) - p.nm.g1) % p.nm.g2 = 0
              · have HC : Hid (CmR p.nm k) := ⟨hg, .inr ⟨hgt, hg2, hr⟩⟩
                have hr2 : (((k : Int) - p.nm.g1) % p.nm.g2 == 0) = true := by simpa using hr
                have hr3 : (((k : Int) - p.nm.g1).tmod p.nm.g2 == 0) = true := by rw [Int.tmod_eq_emod_of_nonneg (by omega)]; exact hr2
                clear hr he
                by_cases hm : (k : Int) < p.nm.minInt
                · have HP2 : Hid (placesR p.nm (k + 1) = 48 :: 44 :: placesR p.nm k) := by simp only [Hid, placesR]; rw [if_pos hm, if_pos HC.out]
                  clear HC
                  go_wp2_with fail
                  go_roundg (T - (k + 1))
                  case measure => have := HK.out; have := HTT.out; omega
                  case rel => exact ⟨k + 1, by simp, by rw [HP2.out], by show _ = _; have := HK.out; have := HTT.out; omega, HN⟩
                · have HP2 : Hid (placesR p.nm (k + 1) = 35 :: 44 :: placesR p.nm k) := by simp only [Hid, placesR]; rw [if_neg hm, if_pos HC.out]
                  clear HC
                  go_wp2_with fail
                  go_roundg (T - (k + 1))
                  case measure => have := HK.out; have := HTT.out; omega
                  case rel => exact ⟨k + 1, by simp, by rw [HP2.out], by show _ = _; have := HK.out; have := HTT.out; omega, HN⟩
              · have HC : Hid (¬ CmR p.nm k) := fun x => by rcases x.2 with y | y; exact he y; exact hr y.2.2
                have hr2 : (((k : Int) - p.nm.g1) % p.nm.g2 == 0) = false := by simpa using hr
                have hr3 : (((k : Int) - p.nm.g1).tmod p.nm.g2 == 0) = false := by rw [Int.tmod_eq_emod_of_nonneg (by omega)]; exact hr2
                clear hr he
                by_cases hm : (k : Int) < p.nm.minInt
                · have HP2 : Hid (placesR p.nm (k + 1) = 48 :: placesR p.nm k) := by simp only [Hid, placesR]; rw [if_pos hm, if_neg HC.out]
                  clear HC
                  go_wp2_with fail
                  go_roundg (T - (k + 1))
                  case measure => have := HK.out; have := HTT.out; omega
                  case rel => exact ⟨k + 1, by simp, by rw [HP2.out], by show _ = _; have := HK.out; have := HTT.out; omega, HN⟩
                · have HP2 : Hid (placesR p.nm (k + 1) = 35 :: placesR p.nm k) := by simp only [Hid, placesR]; rw [if_neg hm, if_neg HC.out]
                  clear HC
                  go_wp2_with fail
                  go_roundg (T - (k + 1))
                  case measure => have := HK.out; have := HTT.out; omega
                  case rel => exact ⟨k + 1, by simp, by rw [HP2.out], by show _ = _; have := HK.out; have := HTT.out; omega, HN⟩
            · have HC : Hid (¬ CmR p.nm k) := fun x => by rcases x.2 with y | y; exact he y; exact hg2 y.2.1
              clear he
              by_cases hm : (k : Int) < p.nm.minInt
              · have HP2 : Hid (placesR p.nm (k + 1) = 48 :: placesR p.nm k) := by simp only [Hid, placesR]; rw [if_pos hm, if_neg HC.out]
                clear HC
                go_wp2_with fail
                go_roundg (T - (k + 1))
                case measure => have := HK.out; have := HTT.out; omega
                case rel => exact ⟨k + 1, by simp, by rw [HP2.out], by show _ = _; have := HK.out; have := HTT.out; omega, HN⟩
              · have HP2 : Hid (placesR p.nm (k + 1) = 35 :: placesR p.nm k) := by simp only [Hid, placesR]; rw [if_neg hm, if_neg HC.out]
                clear HC
                go_wp2_with fail
                go_roundg (T - (k + 1))
                case measure => have := HK.out; have := HTT.out; omega
                case rel => exact ⟨k + 1, by simp, by rw [HP2.out], by show _ = _; have := HK.out; have := HTT.out; omega, HN⟩
          · have HC : Hid (¬ CmR p.nm k) := fun x => by rcases x.2 with y | y; exact he y; exact hgt y.1
            clear he
            by_cases hm : (k : Int) < p.nm.minInt
            · have HP2 : Hid (placesR p.nm (k + 1) = 48 :: placesR p.nm k) := by simp only [Hid, placesR]; rw [if_pos hm, if_neg HC.out]
              clear HC
              go_wp2_with fail
              go_roundg (T - (k + 1))
              case measure => have := HK.out; have := HTT.out; omega
              case rel => exact ⟨k + 1, by simp, by rw [HP2.out], by show _ = _; have := HK.out; have := HTT.out; omega, HN⟩
            · have HP2 : Hid (placesR p.nm (k + 1) = 35 :: placesR p.nm k) := by simp only [Hid, placesR]; rw [if_neg hm, if_neg HC.out]
              clear HC
              go_wp2_with fail
              go_roundg (T - (k + 1))
              case measure => have := HK.out; have := HTT.out; omega
              case rel => exact ⟨k + 1, by simp, by rw [HP2.out], by show _ = _; have := HK.out; have := HTT.out; omega, HN⟩
      · have hgA : decide (0 < p.nm.g1) = false := by simpa using hg
        have HC : Hid (¬ CmR p.nm k) := fun x => hg x.1
        by_cases hm : (k : Int) < p.nm.minInt
        · have HP2 : Hid (placesR p.nm (k + 1) = 48 :: placesR p.nm k) := by simp only [Hid, placesR]; rw [if_pos hm, if_neg HC.out]
          clear HC
          go_wp2_with fail
          go_roundg (T - (k + 1))
          case measure => have := HK.out; have := HTT.out; omega
          case rel => exact ⟨k + 1, by simp, by rw [HP2.out], by show _ = _; have := HK.out; have := HTT.out; omega, HN⟩
        · have HP2 : Hid (placesR p.nm (k + 1) = 35 :: placesR p.nm k) := by simp only [Hid, placesR]; rw [if_neg hm, if_neg HC.out]
          clear HC
          go_wp2_with fail
          go_roundg (T - (k + 1))
          case measure => have := HK.out; have := HTT.out; omega
          case rel => exact ⟨k + 1, by simp, by rw [HP2.out], by show _ = _; have := HK.out; have := HTT.out; omega, HN⟩
    · have hkT : k = T := by have := HK.out; omega
      have hk2 : ¬ ((k : Int) < p.nm.hash + p.nm.minInt) := by have := HTT.out; omega
      have HT1 : Hid (numR p.nm = (List.replicate p.nm.minSig.toNat 64 ++ List.replicate (p.nm.maxSig - p.nm.minSig).toNat 35 ++ placesR p.nm k) ++
          (if 0 < p.nm.maxFrac then 46 :: (List.replicate p.nm.minFrac.toNat 48 ++ List.replicate (p.nm.maxFrac - p.nm.minFrac).toNat 35) else []) ++
          (if 0 < p.nm.exp then 69 :: ((if p.nm.expPlus then [43] else []) ++ List.replicate p.nm.exp.toNat 48) else [])) := by rw [Hid, numR, HTN.out, hkT]
      clear hkT hk HK
      obtain ⟨e7, e8, e11, e12, e13, e14⟩ := HCF.out _ HN.out
      go_upto_region 10 with fail
      clear e5 e6 e9 e10 hk2
      have hwr : IntKind.i64.wrap (p.nm.maxSig - p.nm.minSig) = p.nm.maxSig - p.nm.minSig := by rw [IntKind.wrap_i64]; omega
      have cat1 := cat_any (List.replicate p.nm.minSig.toNat 64) (List.replicate (p.nm.maxSig - p.nm.minSig).toNat 35) (by simp; omega)
      have cat2 := cat_any (List.replicate p.nm.minSig.toNat 64 ++ List.replicate (p.nm.maxSig - p.nm.minSig).toNat 35) (placesR p.nm k) (by simp; omega)
      go_cut [3] (fun v3 wx => v3 = .string (strOf (List.replicate p.nm.minSig.toNat 64 ++ List.replicate (p.nm.maxSig - p.nm.minSig).toNat 35 ++ placesR p.nm k)) ∧ Hid (TI w wx cs))
      case first =>
        go_region_held3 (fun w' => w'.cell? ⟨w.heap.size, 11, none⟩ = some (.int .i64 p.nm.minSig) ∧ w'.cell? ⟨w.heap.size, 12, none⟩ = some (.int .i64 p.nm.maxSig)) (first | assumption | go_keep)
          (first
            | (go_at_call_of 34 (Value.string ⟨#[64]⟩); refine (R64.out p.nm.minSig (by omega) _).mono ?_; rintro e wa ⟨rfl, hg⟩; have HN1 := Lib.hid (HN.out.grown (only_from hg rfl rfl rfl rfl)); obtain ⟨-, -, q1, q2, -⟩ := HCF.out _ HN1.out; clear hg)
            | (go_at_call_of 34 (Value.string ⟨#[35]⟩); refine (R35.out (p.nm.maxSig - p.nm.minSig) (by omega) _).mono ?_; rintro e wb ⟨rfl, hg⟩; have HN2 := Lib.hid (HN1.out.grown (only_from hg rfl rfl rfl rfl)); obtain ⟨-, -, q3, q4, -⟩ := HCF.out _ HN2.out; clear hg))
        all_goals (go_wp2_with fail; go_meet; exact ⟨by first | rfl | (rw [List.append_assoc]), HN2.out.same rfl rfl rfl rfl⟩)
      case rest =>
        obtain ⟨rfl, HA⟩ := hcut
        have HL : Hid ((List.replicate p.nm.minSig.toNat (64 : Int) ++ List.replicate (p.nm.maxSig - p.nm.minSig).toNat 35 ++ placesR p.nm k).length ≤ 300) := by simp only [Hid, List.length_append, List.length_replicate]; omega
        clear cat1 cat2 HN e7 e8 e11 e12 e13 e14 hwr HPk
        generalize List.replicate p.nm.minSig.toNat (64 : Int) ++ List.replicate (p.nm.maxSig - p.nm.minSig).toNat 35 ++ placesR p.nm k = X at *
        obtain ⟨e7, e8, -, -, -, -⟩ := HCF.out _ HA.out
        by_cases hf : 0 < p.nm.maxFrac
        · have HT2 : Hid (numR p.nm = (X ++ (46 :: (List.replicate p.nm.minFrac.toNat 48 ++ List.replicate (p.nm.maxFrac - p.nm.minFrac).toNat 35))) ++ (if 0 < p.nm.exp then 69 :: ((if p.nm.expPlus then [43] else []) ++ List.replicate p.nm.exp.toNat 48) else [])) := by rw [Hid, HT1.out, if_pos hf]
          have hwr : IntKind.i64.wrap (p.nm.maxFrac - p.nm.minFrac) = p.nm.maxFrac - p.nm.minFrac := by rw [IntKind.wrap_i64]; omega
          have hX := HL.out
          have cat1 := cat_any X [46] (by simp; omega)
          have cat2 := cat_any (X ++ [46]) (List.replicate p.nm.minFrac.toNat 48) (by simp; omega)
          have cat3 := cat_any (X ++ 46 :: List.replicate p.nm.minFrac.toNat 48) (List.replicate (p.nm.maxFrac - p.nm.minFrac).toNat 35) (by simp; omega)
          rw [s46] at cat1
          simp only [List.append_assoc, List.cons_append, List.nil_append] at cat1 cat2 cat3
          clear hX
          go_upto_region 12 with fail
          go_cut [3] (fun v3 wx => v3 = .string (strOf (X ++ (46 :: (List.replicate p.nm.minFrac.toNat 48 ++ List.replicate (p.nm.maxFrac - p.nm.minFrac).toNat 35)))) ∧ Hid (TI w wx cs))
          case first =>
            go_region_held3 (fun w' => w'.cell? ⟨w.heap.size, 7, none⟩ = some (.int .i64 p.nm.minFrac) ∧ w'.cell? ⟨w.heap.size, 8, none⟩ = some (.int .i64 p.nm.maxFrac)) (first | assumption | go_keep)
              (first
                | (go_at_call_of 34 (Value.string ⟨#[48]⟩); refine (R48.out p.nm.minFrac (by omega) _).mono ?_; rintro e wa ⟨rfl, hg⟩; have HN1 := Lib.hid (HA.out.grown (only_from hg rfl rfl rfl rfl)); obtain ⟨q1, q2, -⟩ := HCF.out _ HN1.out; clear hg)
                | (go_at_call_of 34 (Value.string ⟨#[35]⟩); refine (R35.out (p.nm.maxFrac - p.nm.minFrac) (by omega) _).mono ?_; rintro e wb ⟨rfl, hg⟩; have HN2 := Lib.hid (HN1.out.grown (only_from hg rfl rfl rfl rfl)); obtain ⟨q3, q4, -⟩ := HCF.out _ HN2.out; clear hg))
            all_goals (go_wp2_with fail; go_meet; exact ⟨rfl, HN2.out.same rfl rfl rfl rfl⟩)
          case rest =>
            obtain ⟨rfl, HB⟩ := hcut
            have HLX : Hid ((X ++ (46 :: (List.replicate p.nm.minFrac.toNat 48 ++ List.replicate (p.nm.maxFrac - p.nm.minFrac).toNat 35))).length ≤ 500) := by have := HL.out; simp only [Hid, List.length_append, List.length_cons, List.length_replicate]; omega
            clear cat1 cat2 cat3 hwr e7 e8 HA HT1 HL
            generalize X ++ (46 :: (List.replicate p.nm.minFrac.toNat (48 : Int) ++ List.replicate (p.nm.maxFrac - p.nm.minFrac).toNat 35)) = Y at *
            obtain ⟨-, -, -, -, e13, e14⟩ := HCF.out _ HB.out
            by_cases he : 0 < p.nm.exp
            · have hX := HLX.out
              have c69 := cat_any Y [69] (by simp; omega)
              have c43 := cat_any (Y ++ [69]) [43] (by simp; omega)
              have cr := cat_any (Y ++ [69]) (List.replicate p.nm.exp.toNat 48) (by simp; omega)
              have cr2 := cat_any (Y ++ [69, 43]) (List.replicate p.nm.exp.toNat 48) (by simp; omega)
              rw [S69.out] at c69
              rw [s43] at c43
              simp only [List.append_assoc, List.cons_append, List.nil_append] at c69 c43 cr cr2
              clear hX
              cases hp : p.nm.expPlus with
              | true =>
                have HF : Hid (numR p.nm = Y ++ 69 :: 43 :: List.replicate p.nm.exp.toNat 48) := by rw [Hid, HT2.out, if_pos he, hp]; simp
                rw [hp] at e14
                have HCF2 : Hid (∀ W, TI w W cs → W.cell? ⟨w.heap.size, 13, none⟩ = some (.int .i64 p.nm.exp) ∧ True) := fun W h => ⟨(HCF.out W h).2.2.2.2.1, trivial⟩
                clear hp HCF HCE
                go_wp2_with (first
                  | (go_at_call 34; refine (R48.out p.nm.exp (by omega) _).mono ?_; rintro e wa ⟨rfl, hg⟩; have HZ := Lib.hid (HB.out.grown hg); clear hg))
                go_ret
                exact ⟨by rw [HF.out]; first | rfl | simp, HZ.out.gr⟩
              | false =>
                have HF : Hid (numR p.nm = Y ++ 69 :: List.replicate p.nm.exp.toNat 48) := by rw [Hid, HT2.out, if_pos he, hp]; simp
                rw [hp] at e14
                have HCF2 : Hid (∀ W, TI w W cs → W.cell? ⟨w.heap.size, 13, none⟩ = some (.int .i64 p.nm.exp) ∧ True) := fun W h => ⟨(HCF.out W h).2.2.2.2.1, trivial⟩
                clear hp HCF HCE
                go_wp2_with (first
                  | (go_at_call 34; refine (R48.out p.nm.exp (by omega) _).mono ?_; rintro e wa ⟨rfl, hg⟩; have HZ := Lib.hid (HB.out.grown hg); clear hg))
                go_ret
                exact ⟨by rw [HF.out]; first | rfl | simp, HZ.out.gr⟩
            · have HF : Hid (numR p.nm = Y) := by rw [Hid, HT2.out, if_neg he]; simp
              go_wp2_with fail
              go_ret
              exact ⟨by rw [HF.out]; rfl, HB.out.gr⟩
        · have HT2 : Hid (numR p.nm = X ++ (if 0 < p.nm.exp then 69 :: ((if p.nm.expPlus then [43] else []) ++ List.replicate p.nm.exp.toNat 48) else [])) := by rw [Hid, HT1.out, if_neg hf]; simp
          have HLX : Hid (X.length ≤ 500) := by have := HL.out; show _ ≤ _; omega
          obtain ⟨-, -, -, -, e13, e14⟩ := HCF.out _ HA.out
          by_cases he : 0 < p.nm.exp
          · have hX := HLX.out
            have c69 := cat_any X [69] (by simp; omega)
            have c43 := cat_any (X ++ [69]) [43] (by simp; omega)
            have cr := cat_any (X ++ [69]) (List.replicate p.nm.exp.toNat 48) (by simp; omega)
            have cr2 := cat_any (X ++ [69, 43]) (List.replicate p.nm.exp.toNat 48) (by simp; omega)
            rw [S69.out] at c69
            rw [s43] at c43
            simp only [List.append_assoc, List.cons_append, List.nil_append] at c69 c43 cr cr2
            clear hX
            cases hp : p.nm.expPlus with
            | true =>
              have HF : Hid (numR p.nm = X ++ 69 :: 43 :: List.replicate p.nm.exp.toNat 48) := by rw [Hid, HT2.out, if_pos he, hp]; simp
              rw [hp] at e14
              have HCF2 : Hid (∀ W, TI w W cs → W.cell? ⟨w.heap.size, 13, none⟩ = some (.int .i64 p.nm.exp) ∧ True) := fun W h => ⟨(HCF.out W h).2.2.2.2.1, trivial⟩
              clear hp HCF HCE
              go_wp2_with (first
                | (go_at_call 34; refine (R48.out p.nm.exp (by omega) _).mono ?_; rintro e wa ⟨rfl, hg⟩; have HZ := Lib.hid (HA.out.grown hg); clear hg))
              go_ret
              exact ⟨by rw [HF.out]; first | rfl | simp, HZ.out.gr⟩
            | false =>
              have HF : Hid (numR p.nm = X ++ 69 :: List.replicate p.nm.exp.toNat 48) := by rw [Hid, HT2.out, if_pos he, hp]; simp
              rw [hp] at e14
              have HCF2 : Hid (∀ W, TI w W cs → W.cell? ⟨w.heap.size, 13, none⟩ = some (.int .i64 p.nm.exp) ∧ True) := fun W h => ⟨(HCF.out W h).2.2.2.2.1, trivial⟩
              clear hp HCF HCE
              go_wp2_with (first
                | (go_at_call 34; refine (R48.out p.nm.exp (by omega) _).mono ?_; rintro e wa ⟨rfl, hg⟩; have HZ := Lib.hid (HA.out.grown hg); clear hg))
              go_ret
              exact ⟨by rw [HF.out]; first | rfl | simp, HZ.out.gr⟩
          · have HF : Hid (numR p.nm = X) := by rw [Hid, HT2.out, if_neg he]; simp
            go_wp2_with fail
            go_ret
            exact ⟨by rw [HF.out]; rfl, HA.out.gr⟩
end Go.Proofs.Ytdbcdgojbegakaa

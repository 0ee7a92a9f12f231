/-
The reference's second half.
-/
import Derived.Test.YtdbcdgojbegakaaVG
import Derived.Test.YtdbcdgojbegakaaR8
namespace Go.Proofs.Ytdbcdgojbegakaa
open Go.RowKit
set_option linter.unusedSimpArgs false
set_option linter.unusedVariables false

/-- The second half: the negative's affixes, and where it stops. -/
def snd2 (n : Nat) (a : List Tk × List Int) (u : List Int) : Option (List Tk × List Tk × Nat) := (affixL u).map fun b => (a.1, b.1, n - b.2.length)
def snd1 (nr : List Int) (n : Nat) (a : List Tk × List Int) : Option (List Tk × List Tk × Nat) := (againL nr a.2).bind fun u => snd2 n a u
def sndL (l nr : List Int) (i : Nat) : Option (List Tk × List Tk × Nat) := (affixL (l.drop i)).bind fun a => snd1 nr l.length a

/-- What the reference's second half hands back. -/
def SndV (v1 v2 : Value) (p : Pt) (o : Option (List Tk × List Tk × Nat)) (e : Ending) (w' : World) : Prop :=
  match o with
  | some x => ∃ v3 v4, e = .returned (.tuple #[.agg (ptCells v1 v2 v3 v4 { p with neg := true }), .int .i64 (x.2.2 : Int), .bool true]) ∧ TT w' v3 x.1 ∧ TT w' v4 x.2.1
  | none => ∃ A3 n3 c3 A4 n4 c4 a, e = .returned (.tuple #[.agg (ptCells v1 v2 (.slice A3 n3 c3) (.slice A4 n4 c4) { p with neg := true }), .int .i64 a, .bool false])

theorem SI.same {w W W' : World} {cs ds : Array Value} (h : SI w W cs ds) (e1 : W'.heap = W.heap) (e2 : W'.os = W.os) (e3 : W'.tape = W.tape) (e4 : W'.output = W.output) : SI w W' cs ds := h.grown (only_same (only_refl W none) e1 e2 e3 e4)
theorem again_suf : ∀ (nr l u : List Int), againL nr l = some u → ∃ j, l.drop j = u
  | [], l, u, h => by injection h with h; subst h; exact ⟨0, rfl⟩
  | _ :: _, [], u, h => by cases h
  | c :: nr, d :: t, u, h => by
    simp only [againL] at h
    split at h
    · obtain ⟨j, hj⟩ := again_suf nr t u h
      exact ⟨j + 1, hj⟩
    · cases h

set_option maxRecDepth 100000 in
set_option maxHeartbeats 16000000 in
theorem second_ref (w : World) (A1 A2 : Option Addr) (n1 n2 c1 c2 : Nat) (p : Pt) (A : Option Addr) (cap : Nat) (l : List Int) (i fr to_ : Nat) (hl : RL w A l) (hcap : l.length ≤ cap) (hlen : l.length ≤ 120) (hi : i ≤ l.length) (hft : fr ≤ to_) (htl : to_ ≤ l.length)
    (hnn : ∀ c ∈ l, 0 ≤ c) :
    Calls Try.prog 40 #[.agg (ptCells (.slice A1 n1 c1) (.slice A2 n2 c2) (.slice none 0 0) (.slice none 0 0) p), .slice A l.length cap, .int .i64 i, .int .i64 fr, .int .i64 to_] w fun e w' =>
      SndV (.slice A1 n1 c1) (.slice A2 n2 c2) p (sndL l ((l.drop fr).take (to_ - fr)) i) e w' ∧ w.grownBy w' none := by
  have H0 : Hid (SI w ((w.alloc (.cells (ptCells (.slice A1 n1 c1) (.slice A2 n2 c2) (.slice none 0 0) (.slice none 0 0) p) 24)).alloc (.cells zCells 24)) (ptCells (.slice A1 n1 c1) (.slice A2 n2 c2) (.slice none 0 0) (.slice none 0 0) p) zCells) := SI.new w _ _
  have CAT : Hid (∀ W, w.grownBy W none → ∀ j : Nat, Calls Try.prog 39 #[.slice A l.length cap, .int .i64 j] W fun e w' => e = .returned (.int .i32 (atL (l.drop j))) ∧ W.grownBy w' none) := fun W hW j => at_ref W A cap l (hl.grown hW (by simp)) hcap (by omega) j
  have CA : Hid (∀ W, w.grownBy W none → ∀ (i : Nat) (_ : i ≤ l.length) (o : Option (List Tk × List Int)) (_ : affixL (l.drop i) = o), Calls Try.prog 64 #[.slice A l.length cap, .int .i64 i] W fun e w' => AffW l o e w' ∧ W.grownBy w' none) := fun W hW i hi o ho => ho ▸ affix_ref2 W A cap l (hl.grown hW (by simp)) hcap (by omega) i hi
  have HRL := Lib.hid hl
  have HNN := Lib.hid hnn
  have HLN := Lib.hid hlen
  have HFT := Lib.hid hft
  have HTL := Lib.hid htl
  obtain ⟨nr, hnr⟩ : ∃ y, (l.drop fr).take (to_ - fr) = y := ⟨_, rfl⟩
  have HNR := Lib.hid hnr
  rw [hnr]
  clear hl hcap hlen hnn hnr hft htl
  have Q0 : Hid (sndL l nr i = (affixL (l.drop i)).bind fun a => snd1 nr l.length a) := rfl
  go_enter Try.func40, Try.ntmps40
  go_upto_region 1 with fail
  change Code.wp _ _ _ _ ((w.alloc (.cells (ptCells (.slice A1 n1 c1) (.slice A2 n2 c2) (.slice none 0 0) (.slice none 0 0) p) 24)).alloc (.cells zCells 24))
  generalize (w.alloc (.cells (ptCells (.slice A1 n1 c1) (.slice A2 n2 c2) (.slice none 0 0) (.slice none 0 0) p) 24)).alloc (.cells zCells 24) = Wz at *
  have e4 : Wz.cell? ⟨w.heap.size, 4, none⟩ = some (.bool p.neg) := H0.out.b1.cell 4
  have f4 : Wz.frozen? ⟨w.heap.size, 4, none⟩ = false := H0.out.b1.frozen 4
  go_upto_region 2 with fail
  have HB : Hid (SI w (Wz.setCell ⟨w.heap.size, 4, none⟩ (.bool true)) (ptCells (.slice A1 n1 c1) (.slice A2 n2 c2) (.slice none 0 0) (.slice none 0 0) { p with neg := true }) zCells) := H0.out.set1 4 (.bool true)
  clear H0 e4 f4
  change Code.wp _ _ _ _ (Wz.setCell ⟨w.heap.size, 4, none⟩ (.bool true))
  generalize Wz.setCell ⟨w.heap.size, 4, none⟩ (.bool true) = W0 at *
  cases hp1 : affixL (l.drop i) with
  | none =>
    have HE : Hid (sndL l nr i = none) := by rw [Q0.out, hp1]; rfl
    have C : Hid (∀ W, w.grownBy W none → Calls Try.prog 64 #[.slice A l.length cap, .int .i64 (i : Int)] W fun e w' => (∃ A n c a, e = .returned (.tuple #[.slice A n c, .int .i64 a, .bool false])) ∧ W.grownBy w' none) := fun W hW => by
      exact CA.out W hW i hi _ hp1
    clear hp1 CA CAT hi
    go_wp2_with (first
      | (go_at_call 64; refine (C.out _ (by exact HB.out.gr)).mono ?_; rintro e w1 ⟨⟨Ax, nx, cx, a, rfl⟩, hg⟩; have H1 := Lib.hid (HB.out.grown hg); clear hg)
      | (refine wpList_load_mid rfl 24 _ rfl w.heap.size 0 rfl (ptCells (.slice A1 n1 c1) (.slice A2 n2 c2) (.slice none 0 0) (.slice none 0 0) { p with neg := true }).toList _ (by exact row_range H1.out.b1) Try.underlying24 rfl (info24c _ _ _ _ _) ?_)
      | (refine wpList_store_row rfl 24 _ _ rfl (w.heap.size + 1) _ rfl rfl 24 zCells H1.out.b2 (by exact info24) (by rfl) (by simp [ptCells, Value.oneCell']) ?_))
    refine bodyPost_ret (ret24 rfl _ _ (w.heap.size + 1) _ rfl (H1.out.row2 _).b2 rfl) rfl ?_
    refine ⟨?_, (H1.out.row2 _).gr⟩
    rw [HE.out]
    exact ⟨_, _, _, _, _, _, _, rfl⟩
  | some q1 =>
    obtain ⟨k1, hk1⟩ : ∃ k, l.length - q1.2.length = k := ⟨_, rfl⟩
    have hd1 : l.drop k1 = q1.2 := by rw [← hk1]; exact suf_len (affixL_suf hp1)
    have HL1 : k1 ≤ l.length := by omega
    have Q1 : Hid (sndL l nr i = (againL nr (l.drop k1)).bind fun u => snd2 l.length q1 u) := by rw [Q0.out, hp1, Option.bind_some, hd1]; rfl
    have C : Hid (∀ W, w.grownBy W none → Calls Try.prog 64 #[.slice A l.length cap, .int .i64 (i : Int)] W fun e w' => (∃ v, e = .returned (.tuple #[v, .int .i64 (k1 : Int), .bool true]) ∧ TT w' v q1.1) ∧ W.grownBy w' none) := fun W hW => by
      have := CA.out W hW i hi _ hp1
      refine this.mono fun e w' h => ⟨?_, h.2⟩
      obtain ⟨v, h1, h2⟩ := h.1
      rw [hk1] at h1
      exact ⟨v, h1, h2⟩
    clear hp1 hk1 hd1 hi
    go_upto_region 6 with (first
      | (go_at_call 64; refine (C.out _ (by exact HB.out.gr)).mono ?_; rintro e w1 ⟨⟨v, rfl, hT⟩, hg⟩; obtain ⟨A3, c3, rfl⟩ := hT.form; have T1 := Lib.hid hT; have H1 := Lib.hid (HB.out.grown hg); have ec := H1.out.b1.cell 2; have fc := H1.out.b1.frozen 2; clear hg hT))
    have H2 : Hid (SI w (w1.setCell ⟨w.heap.size, 2, none⟩ (.slice A3 q1.1.length c3)) (ptCells (.slice A1 n1 c1) (.slice A2 n2 c2) (.slice A3 q1.1.length c3) (.slice none 0 0) { p with neg := true }) zCells) := H1.out.set1 2 (.slice A3 q1.1.length c3)
    have T2 : Hid (TT (w1.setCell ⟨w.heap.size, 2, none⟩ (.slice A3 q1.1.length c3)) (.slice A3 q1.1.length c3) q1.1) := T1.out.set_ H1.out.b1 2 (.slice A3 q1.1.length c3)
    clear H1 T1 ec fc C HB Q0
    change Code.wp _ _ _ _ (w1.setCell ⟨w.heap.size, 2, none⟩ (.slice A3 q1.1.length c3))
    generalize w1.setCell ⟨w.heap.size, 2, none⟩ (.slice A3 q1.1.length c3) = W2 at *
    go_wp2_with fail
    go_loopg [14, 16] (to_ - fr) (fun kq v14 v16 wr => ∃ (k x : Nat), v14 = .int .i64 k ∧ v16 = .int .i64 x ∧ Hid (kq + x = to_) ∧ Hid (k ≤ l.length) ∧ Hid (againL nr (l.drop k1) = againL ((l.drop x).take (to_ - x)) (l.drop k)) ∧ Hid (SI w wr (ptCells (.slice A1 n1 c1) (.slice A2 n2 c2) (.slice A3 q1.1.length c3) (.slice none 0 0) { p with neg := true }) zCells) ∧ Hid (TT wr (.slice A3 q1.1.length c3) q1.1))
    case atStart => exact ⟨k1, fr, rfl, rfl, by have := HFT.out; show _ = _; omega, HL1, by rw [HNR.out]; rfl, H2, T2⟩
    case round =>
      obtain ⟨k, x, rfl, rfl, HK, HKL, HQ, HS, HT⟩ := hrel
      have hkq := HK.out
      by_cases hx : x < to_
      · have hxl : x < l.length := by have := HTL.out; omega
        obtain ⟨c, hc⟩ : ∃ c, l[x]? = some c := ⟨_, List.getElem?_eq_getElem hxl⟩
        have hsp : (l.drop x).take (to_ - x) = c :: (l.drop (x + 1)).take (to_ - (x + 1)) := by
          have h1 : l.drop x = c :: l.drop (x + 1) := by
            rw [List.drop_eq_getElem_cons hxl]
            have : l[x] = c := by rw [List.getElem?_eq_getElem hxl] at hc; injection hc
            rw [this]
          rw [h1, show to_ - x = (to_ - (x + 1)) + 1 by omega, List.take_succ_cons]
        have hc0 : 0 ≤ c := HNN.out c (List.mem_of_getElem? hc)
        obtain ⟨ad, hA, hcell⟩ := (HRL.out.grown HS.out.gr (by simp)) x c hc
        subst hA
        have hx2 : decide ((x : Int) < (to_ : Int)) = true := by simpa using hx
        have hxi : (x : Int) < (l.length : Int) := by omega
        have hlen := HLN.out
        have CK : Hid (∀ W, w.grownBy W none → Calls Try.prog 39 #[.slice (some ad) l.length cap, .int .i64 (k : Int)] W fun e w' => e = .returned (.int .i32 (atL (l.drop k))) ∧ W.grownBy w' none) := fun W hW => CAT.out W hW k
        by_cases hat : atL (l.drop k) = c
        · obtain ⟨t, ht⟩ := atL_head hat (by omega)
          have HQ2 : Hid (againL nr (l.drop k1) = againL ((l.drop (x + 1)).take (to_ - (x + 1))) (l.drop (k + 1))) := by rw [HQ.out, hsp, ht, againL_yes, (drop_cons ht).2.2]; rfl
          have HKL2 : Hid (k + 1 ≤ l.length) := (drop_cons ht).1
          rw [hat] at CK
          have hk120 : k + 1 ≤ 120 := by have := HKL2.out; omega
          clear hat ht hsp hc hkq
          go_upto_region 9 with fail
          go_region_held3 (fun w' => w'.cell? (ad.add x) = some (.int .i32 c)) (first | assumption | go_keep)
            (first
              | (go_at_call 39; refine (CK.out _ ?_).mono ?_; exact only_same HS.out.gr rfl rfl rfl rfl; rintro e wa ⟨rfl, hg⟩; have HS2 := Lib.hid (HS.out.grown (only_from hg rfl rfl rfl rfl)); have HT2 := Lib.hid (HT.out.grown (only_from hg rfl rfl rfl rfl)); have q1c := (only_from hg rfl rfl rfl rfl : World.grownBy _ _ none).cell hcell (by simp); clear hg))
          all_goals (
            go_wp2_with fail
            go_roundg (gk - 1)
            case measure => have := HK.out; omega
            case rel => exact ⟨k + 1, x + 1, by go_num, by go_num, by have := HK.out; show _ = _; omega, HKL2, HQ2, HS2.out.same rfl rfl rfl rfl, HT2.out.grown (only_same (only_refl _ none) rfl rfl rfl rfl)⟩)
        · have HE : Hid (sndL l nr i = none) := by
            rw [Q1.out, HQ.out, hsp, againL_no (by
              intro hh
              apply hat
              cases hd : l.drop k with
              | nil => rw [hd] at hh; cases hh
              | cons d t => rw [hd] at hh; injection hh)]
            rfl
          have hatb : (atL (l.drop k) == c) = false := by simpa using hat
          have hatb2 : (atL (l.drop k) != c) = true := by simpa using hat
          have HK1 := HKL.out
          clear hat hsp hc hkq
          go_upto_region 9 with fail
          go_region_held3 (fun w' => w'.cell? (ad.add x) = some (.int .i32 c)) (first | assumption | go_keep)
            (first
              | (go_at_call 39; refine (CK.out _ ?_).mono ?_; exact only_same HS.out.gr rfl rfl rfl rfl; rintro e wa ⟨rfl, hg⟩; have HS2 := Lib.hid (HS.out.grown (only_from hg rfl rfl rfl rfl)); have q1c := (only_from hg rfl rfl rfl rfl : World.grownBy _ _ none).cell hcell (by simp); clear hg))
          all_goals (
            go_wp2_with (first
              | (refine wpList_load_mid rfl 24 _ rfl w.heap.size 0 rfl (ptCells (.slice A1 n1 c1) (.slice A2 n2 c2) (.slice A3 q1.1.length c3) (.slice none 0 0) { p with neg := true }).toList _ (by exact row_range (show SI w _ _ _ from HS2.out.same rfl rfl rfl rfl).b1) Try.underlying24 rfl (info24c _ _ _ _ _) ?_)
              | (refine wpList_store_row rfl 24 _ _ rfl (w.heap.size + 1) _ rfl rfl 24 zCells (show SI w _ _ _ from HS2.out.same rfl rfl rfl rfl).b2 (by exact info24) (by rfl) (by simp [ptCells, Value.oneCell']) ?_))
            refine bodyPost_ret (ret24 rfl _ _ (w.heap.size + 1) _ rfl (SI.row2 (HS2.out.same rfl rfl rfl rfl) _).b2 rfl) rfl ?_
            refine ⟨?_, (SI.row2 (HS2.out.same rfl rfl rfl rfl) _).gr⟩
            rw [HE.out]
            exact ⟨_, _, _, _, _, _, _, rfl⟩)
      · have hxe : x = to_ := by omega
        have Q2 : Hid (sndL l nr i = (affixL (l.drop k)).bind fun b => some (q1.1, b.1, l.length - b.2.length)) := by
          rw [Q1.out, HQ.out, hxe, Nat.sub_self, List.take_zero]
          show (some (l.drop k)).bind _ = _
          rw [Option.bind_some]
          unfold snd2
          cases affixL (l.drop k) <;> rfl
        have hx2 : decide ((x : Int) < (to_ : Int)) = false := by simp; omega
        have hlen := HLN.out
        have HK1 := HKL.out
        clear hkq hx
        cases hp2 : affixL (l.drop k) with
        | none =>
          have HE : Hid (sndL l nr i = none) := by rw [Q2.out, hp2]; rfl
          have C : Hid (∀ W, w.grownBy W none → Calls Try.prog 64 #[.slice A l.length cap, .int .i64 (k : Int)] W fun e w' => (∃ A n c a, e = .returned (.tuple #[.slice A n c, .int .i64 a, .bool false])) ∧ W.grownBy w' none) := fun W hW => by
            exact CA.out W hW k HKL.out _ hp2
          clear hp2 CA CAT
          go_wp2_with (first
            | (go_at_call 64; refine (C.out _ (by exact HS.out.gr)).mono ?_; rintro e w4 ⟨⟨Ax, nx, cx, a, rfl⟩, hg⟩; have H4 := Lib.hid (HS.out.grown hg); have ec := H4.out.b1.cell 3; have fc := H4.out.b1.frozen 3; clear hg)
            | (refine wpList_load_mid rfl 24 _ rfl w.heap.size 0 rfl (ptCells (.slice A1 n1 c1) (.slice A2 n2 c2) (.slice A3 q1.1.length c3) (.slice Ax nx cx) { p with neg := true }).toList _ (by exact row_range (show Blk _ _ _ (ptCells (.slice A1 n1 c1) (.slice A2 n2 c2) (.slice A3 q1.1.length c3) (.slice Ax nx cx) { p with neg := true }) from (H4.out.set1 3 (.slice Ax nx cx)).b1)) Try.underlying24 rfl (info24c _ _ _ _ _) ?_)
            | (refine wpList_store_row rfl 24 _ _ rfl (w.heap.size + 1) _ rfl rfl 24 zCells (H4.out.set1 3 (.slice Ax nx cx)).b2 (by exact info24) (by rfl) (by simp [ptCells, Value.oneCell']) ?_))
          refine bodyPost_ret (ret24 rfl _ _ (w.heap.size + 1) _ rfl ((H4.out.set1 3 (.slice Ax nx cx)).row2 _).b2 rfl) rfl ?_
          refine ⟨?_, ((H4.out.set1 3 (.slice Ax nx cx)).row2 _).gr⟩
          rw [HE.out]
          exact ⟨_, _, _, _, _, _, _, rfl⟩
        | some q2 =>
          obtain ⟨k2, hk2⟩ : ∃ k, l.length - q2.2.length = k := ⟨_, rfl⟩
          have HE : Hid (sndL l nr i = some (q1.1, q2.1, k2)) := by rw [Q2.out, hp2, ← hk2]; rfl
          have C : Hid (∀ W, w.grownBy W none → Calls Try.prog 64 #[.slice A l.length cap, .int .i64 (k : Int)] W fun e w' => (∃ v, e = .returned (.tuple #[v, .int .i64 (k2 : Int), .bool true]) ∧ TT w' v q2.1) ∧ W.grownBy w' none) := fun W hW => by
            have := CA.out W hW k HKL.out _ hp2
            refine this.mono fun e w' h => ⟨?_, h.2⟩
            obtain ⟨v, h1, h2⟩ := h.1
            rw [hk2] at h1
            exact ⟨v, h1, h2⟩
          clear hp2 hk2 CA CAT
          go_wp2_with (first
            | (go_at_call 64; refine (C.out _ (by exact HS.out.gr)).mono ?_; rintro e w4 ⟨⟨v, rfl, hT⟩, hg⟩; obtain ⟨A4, c4, rfl⟩ := hT.form; have T4 := Lib.hid hT; have T3 := Lib.hid (HT.out.grown hg); have H4 := Lib.hid (HS.out.grown hg); have ec := H4.out.b1.cell 3; have fc := H4.out.b1.frozen 3; clear hg hT)
            | (refine wpList_load_mid rfl 24 _ rfl w.heap.size 0 rfl (ptCells (.slice A1 n1 c1) (.slice A2 n2 c2) (.slice A3 q1.1.length c3) (.slice A4 q2.1.length c4) { p with neg := true }).toList _ (by exact row_range (show Blk _ _ _ (ptCells (.slice A1 n1 c1) (.slice A2 n2 c2) (.slice A3 q1.1.length c3) (.slice A4 q2.1.length c4) { p with neg := true }) from (H4.out.set1 3 (.slice A4 q2.1.length c4)).b1)) Try.underlying24 rfl (info24c _ _ _ _ _) ?_)
            | (refine wpList_store_row rfl 24 _ _ rfl (w.heap.size + 1) _ rfl rfl 24 zCells (H4.out.set1 3 (.slice A4 q2.1.length c4)).b2 (by exact info24) (by rfl) (by simp [ptCells, Value.oneCell']) ?_))
          refine bodyPost_ret (ret24 rfl _ _ (w.heap.size + 1) _ rfl ((H4.out.set1 3 (.slice A4 q2.1.length c4)).row2 _).b2 rfl) rfl ?_
          refine ⟨?_, ((H4.out.set1 3 (.slice A4 q2.1.length c4)).row2 _).gr⟩
          rw [HE.out]
          exact ⟨(.slice A3 q1.1.length c3), (.slice A4 q2.1.length c4), rfl, (T3.out.set_ H4.out.b1 3 _).row (H4.out.set1 3 (.slice A4 q2.1.length c4)).b2 _, (T4.out.set_ H4.out.b1 3 _).row (H4.out.set1 3 (.slice A4 q2.1.length c4)).b2 _⟩
end Go.Proofs.Ytdbcdgojbegakaa

/-
The reference's pad.
-/
import Derived.Test.YtdbcdgojbegakaaVB
import Derived.Test.YtdbcdgojbegakaaV8
import Derived.Test.YtdbcdgojbegakaaRJ
import Derived.Test.YtdbcdgojbegakaaSM3
namespace Go.Proofs.Ytdbcdgojbegakaa
open Go.RowKit

theorem SI.set1 {w W : World} {cs ds : Array Value} (h : SI w W cs ds) (i : Nat) (v : Value) : SI w (W.setCell ⟨w.heap.size, i, none⟩ v) (cs.setIfInBounds i v) ds :=
  ⟨h.b1.set_ i v, h.b2.far (p := ⟨w.heap.size, i, none⟩) (by show w.heap.size + 1 ≠ w.heap.size; omega) v, only_setCell (p := ⟨w.heap.size, i, none⟩) h.gr (.inr (Nat.le_refl _)) v⟩
theorem SI.row2 {w W : World} {cs ds : Array Value} (h : SI w W cs ds) (es : Array Value) : SI w (W.setRow (w.heap.size + 1) es) cs es :=
  ⟨h.b1.grown (only_row (only_refl W (some (w.heap.size + 1))) (.inl rfl) es) (by intro e; injection e; omega), h.b2.row es, only_row h.gr (.inr (by omega)) es⟩

/-- What the reference's pad hands back. -/
def PadR (v1 v2 v3 v4 : Value) (p : Pt) (l : List Int) (o : Option ((Int × Int) × List Int)) (e : Ending) : Prop :=
  match o with
  | some q => e = .returned (.tuple #[.agg (ptCells v1 v2 v3 v4 { p with pad := q.1.1, padAt := q.1.2 }), .int .i64 ((l.length - q.2.length : Nat) : Int), .bool true])
  | none => ∃ a, e = .returned (.tuple #[.agg (ptCells v1 v2 v3 v4 p), .int .i64 a, .bool false])

theorem padL_stays {wh : Int} {pd : Int × Int} {l : List Int} (h : pd.2 ≠ 0 ∨ atL l ≠ 42) : padL wh pd l = some (pd, l) := by
  unfold padL
  by_cases a : pd.2 ≠ 0
  · rw [if_pos a]
  · rw [if_neg a]
    cases l with
    | nil => rfl
    | cons c t =>
      have : c ≠ 42 := by
        rcases h with h | h
        · exact absurd h a
        · exact h
      simp only
      rw [if_neg this]
theorem padL_end {wh : Int} {pd : Int × Int} (h : pd.2 = 0) : padL wh pd [42] = none := by
  unfold padL; rw [if_neg (by simpa using h)]; rfl
theorem padL_pad {wh : Int} {pd : Int × Int} (h : pd.2 = 0) (d : Int) (u : List Int) : padL wh pd (42 :: d :: u) = some ((d, wh), u) := by
  unfold padL; rw [if_neg (by simpa using h)]; rfl

set_option maxRecDepth 100000 in
set_option maxHeartbeats 8000000 in
theorem padP_ref (w : World) (A1 A2 A3 A4 : Option Addr) (n1 n2 n3 n4 c1 c2 c3 c4 : Nat) (p : Pt) (A : Option Addr) (cap : Nat) (l : List Int) (i : Nat) (wh : Int) (hl : RL w A l) (hcap : l.length ≤ cap) (hlen : l.length ≤ 120) (hi : i ≤ l.length) (hp : 0 ≤ p.padAt) :
    Calls Try.prog 63 #[.agg (ptCells (.slice A1 n1 c1) (.slice A2 n2 c2) (.slice A3 n3 c3) (.slice A4 n4 c4) p), .slice A l.length cap, .int .i64 i, .int .i64 wh] w fun e w' =>
      PadR (.slice A1 n1 c1) (.slice A2 n2 c2) (.slice A3 n3 c3) (.slice A4 n4 c4) p l (padL wh (p.pad, p.padAt) (l.drop i)) e ∧ w.grownBy w' none := by
  have H0 := Lib.hid (SI.new w (ptCells (.slice A1 n1 c1) (.slice A2 n2 c2) (.slice A3 n3 c3) (.slice A4 n4 c4) p) zCells)
  have HL := Lib.hid hl
  have CA : Hid (∀ W, w.grownBy W none → Calls Try.prog 39 #[.slice A l.length cap, .int .i64 i] W fun e w' => e = .returned (.int .i32 (atL (l.drop i))) ∧ W.grownBy w' none) := fun W hW => at_ref W A cap l (hl.grown hW (by simp)) hcap (by omega) i
  clear hl
  have hdl : (l.drop i).length = l.length - i := List.length_drop
  by_cases hz : p.padAt = 0
  · have hzb : decide (0 < p.padAt) = false := by simp; omega
    by_cases hat : atL (l.drop i) = 42
    · obtain ⟨t, ht⟩ : ∃ t, l.drop i = 42 :: t := by
        cases hd : l.drop i with
        | nil => rw [hd] at hat; cases hat
        | cons c t => rw [hd, atL_cons] at hat; exact ⟨t, by rw [hat]⟩
      have htl : t.length + 1 = l.length - i := by rw [← hdl, ht]; rfl
      rw [hat] at CA
      obtain ⟨h1, -, h3⟩ := drop_cons ht
      cases t with
      | nil =>
        have hge : (l.length : Int) ≤ (i : Int) + 1 := by simp at htl; omega
        have HPL : Hid (padL wh (p.pad, p.padAt) (l.drop i) = none) := by rw [Hid, ht]; exact padL_end hz
        clear hdl hat ht htl hz h1 h3
        go_enter Try.func63, Try.ntmps63
        go_upto_region 1 with fail
        change Code.wp _ _ _ _ ((w.alloc (.cells (ptCells (.slice A1 n1 c1) (.slice A2 n2 c2) (.slice A3 n3 c3) (.slice A4 n4 c4) p) 24)).alloc (.cells zCells 24))
        generalize (w.alloc (.cells (ptCells (.slice A1 n1 c1) (.slice A2 n2 c2) (.slice A3 n3 c3) (.slice A4 n4 c4) p) 24)).alloc (.cells zCells 24) = W0 at *
        have e16 : W0.cell? ⟨w.heap.size, 16, none⟩ = some (.int .i64 p.padAt) := H0.out.b1.cell 16
        go_wp2_with (first
          | (go_at_call 39; refine (CA.out _ (by exact H0.out.gr)).mono ?_; rintro e w1 ⟨rfl, hg⟩; have H1 := Lib.hid (H0.out.grown hg); clear hg)
          | (refine wpList_load_mid rfl 24 _ rfl w.heap.size 0 rfl (ptCells (.slice A1 n1 c1) (.slice A2 n2 c2) (.slice A3 n3 c3) (.slice A4 n4 c4) p).toList _ (by exact row_range H1.out.b1) Try.underlying24 rfl (info24c _ _ _ _ _) ?_)
          | (refine wpList_store_row rfl 24 _ _ rfl (w.heap.size + 1) (ptCells (.slice A1 n1 c1) (.slice A2 n2 c2) (.slice A3 n3 c3) (.slice A4 n4 c4) p) rfl rfl 24 zCells H1.out.b2 (by exact info24) (by rfl) (by simp [ptCells, Value.oneCell']) ?_))
        refine bodyPost_ret (ret24 rfl _ _ (w.heap.size + 1) _ rfl (H1.out.row2 _).b2 rfl) rfl ?_
        refine ⟨?_, (H1.out.row2 _).gr⟩
        rw [HPL.out]
        exact ⟨_, rfl⟩
      | cons d u =>
        have hlt : (i : Int) + 1 < (l.length : Int) := by simp at htl; omega
        have HPL : Hid (padL wh (p.pad, p.padAt) (l.drop i) = some ((d, wh), u)) := by rw [Hid, ht]; exact padL_pad hz d u
        have HUL : Hid (l.length - u.length = i + 2) := by show _ = _; simp at htl; omega
        have hget : l[i + 1]? = some d := by rw [← List.head?_drop, h3]; rfl
        obtain ⟨ad, rfl, hcell⟩ := HL.out (i + 1) d hget
        have HCell : Hid (w.cell? ⟨ad.block, ad.off + (i + 1), none⟩ = some (.int .i32 d)) := by rwa [show ad.add (i + 1) = ⟨ad.block, ad.off + (i + 1), none⟩ by simp [Addr.add]] at hcell
        have ht1 : ((i : Int) + 1).toNat = i + 1 := by omega
        clear hdl hat ht htl hz h1 h3 hget hcell
        go_enter Try.func63, Try.ntmps63
        go_upto_region 1 with fail
        change Code.wp _ _ _ _ ((w.alloc (.cells (ptCells (.slice A1 n1 c1) (.slice A2 n2 c2) (.slice A3 n3 c3) (.slice A4 n4 c4) p) 24)).alloc (.cells zCells 24))
        generalize (w.alloc (.cells (ptCells (.slice A1 n1 c1) (.slice A2 n2 c2) (.slice A3 n3 c3) (.slice A4 n4 c4) p) 24)).alloc (.cells zCells 24) = W0 at *
        have e16 : W0.cell? ⟨w.heap.size, 16, none⟩ = some (.int .i64 p.padAt) := H0.out.b1.cell 16
        go_wp2_with (first
          | (go_at_call 39; refine (CA.out _ (by exact H0.out.gr)).mono ?_; rintro e w1 ⟨rfl, hg⟩; have H1 := Lib.hid (H0.out.grown hg); have ec := (only_trans H0.out.gr hg).cell HCell.out (by simp); have e15 : w1.cell? ⟨w.heap.size, 15, none⟩ = some (.int .i32 p.pad) := H1.out.b1.cell 15; have f15 : w1.frozen? ⟨w.heap.size, 15, none⟩ = false := H1.out.b1.frozen 15; have e16b : w1.cell? ⟨w.heap.size, 16, none⟩ = some (.int .i64 p.padAt) := H1.out.b1.cell 16; have f16 : w1.frozen? ⟨w.heap.size, 16, none⟩ = false := H1.out.b1.frozen 16; clear hg)
          | (refine wpList_load_mid rfl 24 _ rfl w.heap.size 0 rfl (ptCells (.slice A1 n1 c1) (.slice A2 n2 c2) (.slice A3 n3 c3) (.slice A4 n4 c4) { p with pad := d, padAt := wh }).toList _ (by exact row_range (show SI w ((w1.setCell ⟨w.heap.size, 15, none⟩ (.int .i32 d)).setCell ⟨w.heap.size, 16, none⟩ (.int .i64 wh)) (ptCells (.slice A1 n1 c1) (.slice A2 n2 c2) (.slice A3 n3 c3) (.slice A4 n4 c4) { p with pad := d, padAt := wh }) zCells from (H1.out.set1 15 _).set1 16 _).b1) Try.underlying24 rfl (info24c _ _ _ _ _) ?_)
          | (refine wpList_store_row rfl 24 _ _ rfl (w.heap.size + 1) (ptCells (.slice A1 n1 c1) (.slice A2 n2 c2) (.slice A3 n3 c3) (.slice A4 n4 c4) { p with pad := d, padAt := wh }) rfl rfl 24 zCells (show SI w ((w1.setCell ⟨w.heap.size, 15, none⟩ (.int .i32 d)).setCell ⟨w.heap.size, 16, none⟩ (.int .i64 wh)) (ptCells (.slice A1 n1 c1) (.slice A2 n2 c2) (.slice A3 n3 c3) (.slice A4 n4 c4) { p with pad := d, padAt := wh }) zCells from (H1.out.set1 15 _).set1 16 _).b2 (by exact info24) (by rfl) (by simp [ptCells, Value.oneCell']) ?_))
        refine bodyPost_ret (ret24 rfl _ _ (w.heap.size + 1) _ rfl ((show SI w ((w1.setCell ⟨w.heap.size, 15, none⟩ (.int .i32 d)).setCell ⟨w.heap.size, 16, none⟩ (.int .i64 wh)) (ptCells (.slice A1 n1 c1) (.slice A2 n2 c2) (.slice A3 n3 c3) (.slice A4 n4 c4) { p with pad := d, padAt := wh }) zCells from (H1.out.set1 15 _).set1 16 _).row2 _).b2 rfl) rfl ?_
        refine ⟨?_, ((show SI w ((w1.setCell ⟨w.heap.size, 15, none⟩ (.int .i32 d)).setCell ⟨w.heap.size, 16, none⟩ (.int .i64 wh)) (ptCells (.slice A1 n1 c1) (.slice A2 n2 c2) (.slice A3 n3 c3) (.slice A4 n4 c4) { p with pad := d, padAt := wh }) zCells from (H1.out.set1 15 _).set1 16 _).row2 _).gr⟩
        rw [HPL.out]
        show _ = _
        rw [HUL.out]
        rfl
    · have HPL : Hid (padL wh (p.pad, p.padAt) (l.drop i) = some ((p.pad, p.padAt), l.drop i)) := padL_stays (.inr hat)
      have hab : (atL (l.drop i) != 42) = true := by simpa using hat
      clear hat hz
      go_enter Try.func63, Try.ntmps63
      go_upto_region 1 with fail
      change Code.wp _ _ _ _ ((w.alloc (.cells (ptCells (.slice A1 n1 c1) (.slice A2 n2 c2) (.slice A3 n3 c3) (.slice A4 n4 c4) p) 24)).alloc (.cells zCells 24))
      generalize (w.alloc (.cells (ptCells (.slice A1 n1 c1) (.slice A2 n2 c2) (.slice A3 n3 c3) (.slice A4 n4 c4) p) 24)).alloc (.cells zCells 24) = W0 at *
      have e16 : W0.cell? ⟨w.heap.size, 16, none⟩ = some (.int .i64 p.padAt) := H0.out.b1.cell 16
      go_wp2_with (first
        | (go_at_call 39; refine (CA.out _ (by exact H0.out.gr)).mono ?_; rintro e w1 ⟨rfl, hg⟩; have H1 := Lib.hid (H0.out.grown hg); clear hg)
        | (refine wpList_load_mid rfl 24 _ rfl w.heap.size 0 rfl (ptCells (.slice A1 n1 c1) (.slice A2 n2 c2) (.slice A3 n3 c3) (.slice A4 n4 c4) p).toList _ (by exact row_range H1.out.b1) Try.underlying24 rfl (info24c _ _ _ _ _) ?_)
        | (refine wpList_store_row rfl 24 _ _ rfl (w.heap.size + 1) (ptCells (.slice A1 n1 c1) (.slice A2 n2 c2) (.slice A3 n3 c3) (.slice A4 n4 c4) p) rfl rfl 24 zCells H1.out.b2 (by exact info24) (by rfl) (by simp [ptCells, Value.oneCell']) ?_))
      refine bodyPost_ret (ret24 rfl _ _ (w.heap.size + 1) _ rfl (H1.out.row2 _).b2 rfl) rfl ?_
      refine ⟨?_, (H1.out.row2 _).gr⟩
      rw [HPL.out]
      show _ = _
      rw [hdl, show l.length - (l.length - i) = i by omega]
      rfl
  · have hzb : decide (0 < p.padAt) = true := by simp; omega
    have HPL : Hid (padL wh (p.pad, p.padAt) (l.drop i) = some ((p.pad, p.padAt), l.drop i)) := padL_stays (.inl hz)
    clear hz
    go_enter Try.func63, Try.ntmps63
    go_upto_region 1 with fail
    change Code.wp _ _ _ _ ((w.alloc (.cells (ptCells (.slice A1 n1 c1) (.slice A2 n2 c2) (.slice A3 n3 c3) (.slice A4 n4 c4) p) 24)).alloc (.cells zCells 24))
    generalize (w.alloc (.cells (ptCells (.slice A1 n1 c1) (.slice A2 n2 c2) (.slice A3 n3 c3) (.slice A4 n4 c4) p) 24)).alloc (.cells zCells 24) = W0 at *
    have e16 : W0.cell? ⟨w.heap.size, 16, none⟩ = some (.int .i64 p.padAt) := H0.out.b1.cell 16
    go_wp2_with (first
      | (refine wpList_load_mid rfl 24 _ rfl w.heap.size 0 rfl (ptCells (.slice A1 n1 c1) (.slice A2 n2 c2) (.slice A3 n3 c3) (.slice A4 n4 c4) p).toList _ (by exact row_range H0.out.b1) Try.underlying24 rfl (info24c _ _ _ _ _) ?_)
      | (refine wpList_store_row rfl 24 _ _ rfl (w.heap.size + 1) (ptCells (.slice A1 n1 c1) (.slice A2 n2 c2) (.slice A3 n3 c3) (.slice A4 n4 c4) p) rfl rfl 24 zCells H0.out.b2 (by exact info24) (by rfl) (by simp [ptCells, Value.oneCell']) ?_))
    refine bodyPost_ret (ret24 rfl _ _ (w.heap.size + 1) _ rfl (H0.out.row2 _).b2 rfl) rfl ?_
    refine ⟨?_, (H0.out.row2 _).gr⟩
    rw [HPL.out]
    show _ = _
    rw [hdl, show l.length - (l.length - i) = i by omega]
    rfl
end Go.Proofs.Ytdbcdgojbegakaa

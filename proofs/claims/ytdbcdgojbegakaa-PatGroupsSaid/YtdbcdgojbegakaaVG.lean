/-
The reference's first half.
-/
import Derived.Test.YtdbcdgojbegakaaVF
namespace Go.Proofs.Ytdbcdgojbegakaa
open Go.RowKit
set_option linter.unusedSimpArgs false
set_option linter.unusedVariables false

theorem ret24f {fn : Func} {x y z u v : Tmp} (h : fn.results = #[.cell x 24, .tmp y, .tmp z, .tmp u, .tmp v]) (tmps : Array Value) (w : World) (g : Nat) (cs : Array Value) (hp : tmps.getD x undef = .pointer (some ⟨g, 0, none⟩)) (hb : Blk w g 24 cs) (hs : cs.size = 17) :
    (results fn tmps).run Try.prog w = .ok (.tuple #[.agg cs, tmps.getD y undef, tmps.getD z undef, tmps.getD u undef, tmps.getD v undef]) w := by
  have := run_loadVar_row (P := Try.prog) w g 24 24 cs (0, 0) _ hb Try.underlying24 rfl (by rw [hs]; exact info24)
  rw [Array.getD_eq_getD_getElem?] at hp
  simp [results, h, hp, asAddr, this]

/-- The result's block, and one more. -/
structure FS (w W : World) (g : Nat) (cs : Array Value) : Prop where
  b0 : Blk W w.heap.size 24 zCells
  b : Blk W g 24 cs
  gr : w.grownBy W none
  lt : w.heap.size < g
section
variable {w W W' : World} {g : Nat} {cs : Array Value}
theorem gr3 (W : World) (fs : Array Value) : W.grownBy ((W.alloc (.cells zCells 24)).setRow W.heap.size fs) none := only_row (only_alloc (only_refl W none) _) (.inr (Nat.le_refl _)) fs
theorem FS.grown (h : FS w W g cs) (hg : W.grownBy W' none) : FS w W' g cs := ⟨h.b0.grown hg (by simp), h.b.grown hg (by simp), only_trans h.gr hg, h.lt⟩
theorem FS.old3 (h : FS w W g cs) (fs : Array Value) : FS w ((W.alloc (.cells zCells 24)).setRow W.heap.size fs) g cs := h.grown (gr3 W fs)
theorem FS.first (h0 : Blk W w.heap.size 24 zCells) (hg : w.grownBy W none) (fs : Array Value) : FS w ((W.alloc (.cells zCells 24)).setRow W.heap.size fs) W.heap.size fs :=
  ⟨h0.grown (gr3 W fs) (by simp), (Blk.new W 24 zCells).row fs, only_trans hg (gr3 W fs), h0.lt⟩
theorem FS.new3 (h : FS w W g cs) (fs : Array Value) : FS w ((W.alloc (.cells zCells 24)).setRow W.heap.size fs) W.heap.size fs := FS.first h.b0 h.gr fs
theorem FS.set_ (h : FS w W g cs) (i : Nat) (v : Value) : FS w (W.setCell ⟨g, i, none⟩ v) g (cs.setIfInBounds i v) :=
  ⟨h.b0.far (p := ⟨g, i, none⟩) (Nat.ne_of_lt h.lt) v, h.b.set_ i v, only_setCell (p := ⟨g, i, none⟩) h.gr (.inr (Nat.le_of_lt h.lt)) v, h.lt⟩
end

theorem TT.row {w : World} {v : Value} {ts : List Tk} (h : TT w v ts) {g : Nat} {cs : Array Value} (hb : Blk w g 24 cs) (es : Array Value) : TT (w.setRow g es) v ts := by
  obtain ⟨⟨A, cap, e, hh, hz⟩, ht⟩ := h
  have hne : ∀ ad, A = some ad → ad.block ≠ g := by
    rintro ad rfl
    subst e
    exact (ht ad.block rfl).ne hb.typ (by decide)
  refine ⟨⟨A, cap, e, fun j t hj => ?_, hz⟩, fun k hk => ?_⟩
  · obtain ⟨ad, ea, h1, h2⟩ := hh j t hj
    have hn := hne ad ea
    have ha : ∀ n, (w.setRow g es).cell? (ad.add n) = w.cell? (ad.add n) := fun n => cell_setRow_other w g es _ (by
      have hbk : (ad.add n).block = ad.block := by unfold Addr.add; split <;> rfl
      rw [hbk]; exact hn)
    exact ⟨ad, ea, (ha _).trans h1, (ha _).trans h2⟩
  · obtain ⟨cs', fz, hc⟩ := ht k hk
    have hn : k ≠ g := (show Typ w k 34 from ⟨cs', fz, hc⟩).ne hb.typ (by decide)
    exact ⟨cs', fz, (setRow_other w g k es hn).trans hc⟩
/-- What the reference's first half hands back. -/
def FstV (o : Option Fst) (e : Ending) (w' : World) : Prop :=
  match o with
  | some x => ∃ v1 v2, e = .returned (.tuple #[.agg (ptCells v1 v2 (.slice none 0 0) (.slice none 0 0) { zPt with nm := x.nm, pad := x.pd.1, padAt := x.pd.2 }), .int .i64 (x.fr : Int), .int .i64 (x.to_ : Int), .int .i64 (x.at_ : Int), .bool true]) ∧ TT w' v1 x.pre ∧ TT w' v2 x.suf
  | none => ∃ A1 n1 c1 A2 n2 c2 p a b c, e = .returned (.tuple #[.agg (ptCells (.slice A1 n1 c1) (.slice A2 n2 c2) (.slice none 0 0) (.slice none 0 0) p), .int .i64 a, .int .i64 b, .int .i64 c, .bool false])

set_option maxRecDepth 100000 in
set_option maxHeartbeats 16000000 in
theorem first_ref (w : World) (A : Option Addr) (cap : Nat) (l : List Int) (hl : RL w A l) (hcap : l.length ≤ cap) (hlen : l.length ≤ 120) :
    Calls Try.prog 38 #[.slice A l.length cap] w fun e w' => FstV (fstL l) e w' ∧ w.grownBy w' none := by
  have G0 : Hid (Blk (w.alloc (.cells zCells 24)) w.heap.size 24 zCells ∧ w.grownBy (w.alloc (.cells zCells 24)) none) := ⟨Blk.new w 24 zCells, only_alloc (only_refl w none) _⟩
  have CP : Hid (∀ W, w.grownBy W none → ∀ A1 n1 c1 A2 n2 c2 (p : Pt) (i : Nat) (wh : Int) (_ : i ≤ l.length) (_ : 0 ≤ p.padAt) (o : Option ((Int × Int) × List Int)) (_ : padL wh (p.pad, p.padAt) (l.drop i) = o), Calls Try.prog 63 #[.agg (ptCells (.slice A1 n1 c1) (.slice A2 n2 c2) (.slice none 0 0) (.slice none 0 0) p), .slice A l.length cap, .int .i64 i, .int .i64 wh] W fun e w' =>
      PadR (.slice A1 n1 c1) (.slice A2 n2 c2) (.slice none 0 0) (.slice none 0 0) p l o e ∧ W.grownBy w' none) := fun W hW A1 n1 c1 A2 n2 c2 p i wh hi hp o ho => ho ▸ padP_ref W A1 A2 none none n1 n2 0 0 c1 c2 0 0 p A cap l i wh (hl.grown hW (by simp)) hcap hlen hi hp
  have CA : Hid (∀ W, w.grownBy W none → ∀ (i : Nat) (_ : i ≤ l.length) (o : Option (List Tk × List Int)) (_ : affixL (l.drop i) = o), Calls Try.prog 64 #[.slice A l.length cap, .int .i64 i] W fun e w' => AffW l o e w' ∧ W.grownBy w' none) := fun W hW i hi o ho => ho ▸ affix_ref2 W A cap l (hl.grown hW (by simp)) hcap (by omega) i hi
  have CN : Hid (∀ W, w.grownBy W none → ∀ A1 n1 c1 (p : Pt) (i : Nat) (_ : i ≤ l.length) (_ : p.nm = zNm) (o : Option (Nm × List Int)) (_ : numberL (l.drop i) = o), Calls Try.prog 65 #[.agg (ptCells (.slice A1 n1 c1) (.slice none 0 0) (.slice none 0 0) (.slice none 0 0) p), .slice A l.length cap, .int .i64 i] W fun e w' =>
      NumR (.slice A1 n1 c1) (.slice none 0 0) (.slice none 0 0) (.slice none 0 0) p l o e ∧ W.grownBy w' none) := fun W hW A1 n1 c1 p i hi hp o ho => ho ▸ numberP_ref W A1 none none none n1 0 0 0 c1 0 0 0 p A cap l i (hl.grown hW (by simp)) hcap hlen hi hp
  have Q0 : Hid (fstL l = (padL 1 (0, 0) (l.drop 0)).bind fun a => fst1 l.length a) := rfl
  have P0 : (0 : Int) ≤ 0 := Int.le_refl 0
  have HL0 : 0 ≤ l.length := Nat.zero_le _
  clear hl hcap hlen
  go_enter Try.func38, Try.ntmps38
  go_upto_region 1 with fail
  change Code.wp _ _ _ _ (w.alloc (.cells zCells 24))
  generalize w.alloc (.cells zCells 24) = W0 at *
  cases hp1 : padL 1 (0, 0) (l.drop 0) with
  | none =>
    have HE : Hid (fstL l = none) := by rw [Q0.out, hp1]; rfl
    have C : Hid (∀ W, w.grownBy W none → Calls Try.prog 63 #[.agg (ptCells (.slice none 0 0) (.slice none 0 0) (.slice none 0 0) (.slice none 0 0) zPt), .slice A l.length cap, .int .i64 0, .int .i64 1] W fun e w' => (∃ a, e = .returned (.tuple #[.agg (ptCells (.slice none 0 0) (.slice none 0 0) (.slice none 0 0) (.slice none 0 0) zPt), .int .i64 a, .bool false])) ∧ W.grownBy w' none) := fun W hW => by
      exact CP.out W hW none 0 0 none 0 0 zPt 0 1 HL0 P0 _ hp1
    clear hp1 CP CA CN
    go_wp2_with (first
      | (go_at_call 63; refine (C.out _ (by exact G0.out.2)).mono ?_; rintro e w1 ⟨⟨a, rfl⟩, hg⟩; have F1 := Lib.hid (And.intro (G0.out.1.grown hg (by simp)) (only_trans G0.out.2 hg)); have HW := Lib.hid (Blk.new w1 24 zCells); clear hg)
      | (refine wpList_load_mid rfl 24 _ rfl w1.heap.size 0 rfl (ptCells (.slice none 0 0) (.slice none 0 0) (.slice none 0 0) (.slice none 0 0) zPt).toList _ (by exact row_range (FS.first F1.out.1 F1.out.2 _).b) Try.underlying24 rfl (info24c _ _ _ _ _) ?_)
      | (refine wpList_store_row rfl 24 _ _ rfl w1.heap.size _ rfl rfl 24 zCells HW.out (by exact info24) (by rfl) (by simp [ptCells, Value.oneCell']) ?_)
      | (refine wpList_store_row rfl 24 _ _ rfl w.heap.size _ rfl rfl 24 zCells (FS.first F1.out.1 F1.out.2 _).b0 (by exact info24) (by rfl) (by simp [ptCells, Value.oneCell']) ?_))
    refine bodyPost_ret (ret24f rfl _ _ w.heap.size _ rfl ((FS.first F1.out.1 F1.out.2 _).b0.row _) rfl) rfl ?_
    refine ⟨?_, only_row (FS.first F1.out.1 F1.out.2 _).gr (.inr (Nat.le_refl _)) _⟩
    rw [HE.out]
    exact ⟨_, _, _, _, _, _, _, _, _, _, rfl⟩
  | some q1 =>
    obtain ⟨k1, hk1⟩ : ∃ k, l.length - q1.2.length = k := ⟨_, rfl⟩
    have hd1 : l.drop k1 = q1.2 := by rw [← hk1]; exact suf_len (padL_suf hp1)
    have HL1 : k1 ≤ l.length := by omega
    have P1 : 0 ≤ q1.1.2 := padL_nn hp1 (by decide) P0
    have Q1 : Hid (fstL l = (affixL (l.drop k1)).bind fun pre => fst2 l.length q1.1 pre) := by rw [Q0.out, hp1, Option.bind_some, hd1]; rfl
    have HK1 := Lib.hid hk1
    have C : Hid (∀ W, w.grownBy W none → Calls Try.prog 63 #[.agg (ptCells (.slice none 0 0) (.slice none 0 0) (.slice none 0 0) (.slice none 0 0) zPt), .slice A l.length cap, .int .i64 0, .int .i64 1] W fun e w' => e = .returned (.tuple #[.agg (ptCells (.slice none 0 0) (.slice none 0 0) (.slice none 0 0) (.slice none 0 0) { zPt with pad := q1.1.1, padAt := q1.1.2 }), .int .i64 (k1 : Int), .bool true]) ∧ W.grownBy w' none) := fun W hW => by
      have := CP.out W hW none 0 0 none 0 0 zPt 0 1 HL0 P0 _ hp1
      refine this.mono fun e w' h => ⟨?_, h.2⟩
      have h1 : e = .returned (.tuple #[.agg (ptCells (.slice none 0 0) (.slice none 0 0) (.slice none 0 0) (.slice none 0 0) { zPt with pad := q1.1.1, padAt := q1.1.2 }), .int .i64 ((l.length - q1.2.length : Nat) : Int), .bool true]) := h.1
      rw [hk1] at h1
      exact h1
    clear hp1 hk1 hd1
    go_upto_region 4 with (first
      | (go_at_call 63; refine (C.out _ (by exact G0.out.2)).mono ?_; rintro e w1 ⟨rfl, hg⟩; have F1 := Lib.hid (And.intro (G0.out.1.grown hg (by simp)) (only_trans G0.out.2 hg)); have HW := Lib.hid (Blk.new w1 24 zCells); clear hg)
      | (refine wpList_store_row rfl 24 _ _ rfl w1.heap.size _ rfl rfl 24 zCells HW.out (by exact info24) (by rfl) (by simp [ptCells, Value.oneCell']) ?_))
    have F1b : Hid (FS w ((w1.alloc (.cells zCells 24)).setRow w1.heap.size (ptCells (.slice none 0 0) (.slice none 0 0) (.slice none 0 0) (.slice none 0 0) { zPt with pad := q1.1.1, padAt := q1.1.2 })) w1.heap.size (ptCells (.slice none 0 0) (.slice none 0 0) (.slice none 0 0) (.slice none 0 0) { zPt with pad := q1.1.1, padAt := q1.1.2 })) := FS.first F1.out.1 F1.out.2 _
    clear F1 HW C G0
    change Code.wp _ _ _ _ ((w1.alloc (.cells zCells 24)).setRow w1.heap.size (ptCells (.slice none 0 0) (.slice none 0 0) (.slice none 0 0) (.slice none 0 0) { zPt with pad := q1.1.1, padAt := q1.1.2 }))
    generalize ((w1.alloc (.cells zCells 24)).setRow w1.heap.size (ptCells (.slice none 0 0) (.slice none 0 0) (.slice none 0 0) (.slice none 0 0) { zPt with pad := q1.1.1, padAt := q1.1.2 })) = W1 at *
    generalize w1.heap.size = g1 at *
    have F1 := Lib.hid F1b.out
    have Z1 := Lib.hid F1b.out
    clear F1b
    cases hp2 : affixL (l.drop k1) with
    | none =>
      have HE : Hid (fstL l = none) := by rw [Q1.out, hp2]; rfl
      have C : Hid (∀ W, w.grownBy W none → Calls Try.prog 64 #[.slice A l.length cap, .int .i64 (k1 : Int)] W fun e w' => (∃ A n c a, e = .returned (.tuple #[.slice A n c, .int .i64 a, .bool false])) ∧ W.grownBy w' none) := fun W hW => by
        exact CA.out W hW k1 HL1 _ hp2
      clear hp2 CP CA CN
      go_wp2_with (first
        | (go_at_call 64; refine (C.out _ (by exact F1.out.gr)).mono ?_; rintro e w2 ⟨⟨Ax, nx, cx, a, rfl⟩, hg⟩; have Z2 := Lib.hid (Z1.out.grown hg); clear hg)
        | (refine wpList_load_mid rfl 24 _ rfl g1 0 rfl (ptCells (.slice none 0 0) (.slice none 0 0) (.slice none 0 0) (.slice none 0 0) { zPt with pad := q1.1.1, padAt := q1.1.2 }).toList _ (by exact row_range Z2.out.b) Try.underlying24 rfl (info24c _ _ _ _ _) ?_)
        | (refine wpList_store_row rfl 24 _ _ rfl w.heap.size _ rfl rfl 24 zCells Z2.out.b0 (by exact info24) (by rfl) (by simp [ptCells, Value.oneCell']) ?_))
      refine bodyPost_ret (ret24f rfl _ _ w.heap.size _ rfl (Z2.out.b0.row _) rfl) rfl ?_
      refine ⟨?_, only_row Z2.out.gr (.inr (Nat.le_refl _)) _⟩
      rw [HE.out]
      exact ⟨_, _, _, _, _, _, _, _, _, _, rfl⟩
    | some q2 =>
      obtain ⟨k2, hk2⟩ : ∃ k, l.length - q2.2.length = k := ⟨_, rfl⟩
      have hd2 : l.drop k2 = q2.2 := by rw [← hk2]; exact suf_len (affixL_suf hp2)
      have HL2 : k2 ≤ l.length := by omega
      have Q2 : Hid (fstL l = (padL 2 q1.1 (l.drop k2)).bind fun b => fst3 l.length q2.1 b) := by rw [Q1.out, hp2, Option.bind_some, hd2]; rfl
      have C : Hid (∀ W, w.grownBy W none → Calls Try.prog 64 #[.slice A l.length cap, .int .i64 (k1 : Int)] W fun e w' => (∃ v, e = .returned (.tuple #[v, .int .i64 (k2 : Int), .bool true]) ∧ TT w' v q2.1) ∧ W.grownBy w' none) := fun W hW => by
        have := CA.out W hW k1 HL1 _ hp2
        refine this.mono fun e w' h => ⟨?_, h.2⟩
        obtain ⟨v, h1, h2⟩ := h.1
        rw [hk2] at h1
        exact ⟨v, h1, h2⟩
      clear hp2 hk2 hd2
      go_upto_region 8 with (first
        | (go_at_call 64; refine (C.out _ (by exact F1.out.gr)).mono ?_; rintro e w2 ⟨⟨v, rfl, hT⟩, hg⟩; obtain ⟨Av1, cv1, rfl⟩ := hT.form; have T1_2 := Lib.hid hT; have F2 := Lib.hid (F1.out.grown hg); have Z2 := Lib.hid (Z1.out.grown hg); have ec := F2.out.b.cell 0; have fc := F2.out.b.frozen 0; clear hg hT))
      have F2b : Hid (FS w (w2.setCell ⟨g1, 0, none⟩ (.slice Av1 q2.1.length cv1)) g1 (ptCells (.slice Av1 q2.1.length cv1) (.slice none 0 0) (.slice none 0 0) (.slice none 0 0) { zPt with pad := q1.1.1, padAt := q1.1.2 })) := F2.out.set_ 0 (.slice Av1 q2.1.length cv1)
      have T1_2b := Lib.hid (T1_2.out.set_ F2.out.b 0 (.slice Av1 q2.1.length cv1))
      clear F1 F2 Z1 Z2 C ec fc T1_2
      change Code.wp _ _ _ _ (w2.setCell ⟨g1, 0, none⟩ (.slice Av1 q2.1.length cv1))
      generalize (w2.setCell ⟨g1, 0, none⟩ (.slice Av1 q2.1.length cv1)) = W2 at *
      have F2 := Lib.hid F2b.out
      have Z2 := Lib.hid F2b.out
      clear F2b
      have T1_2 := Lib.hid T1_2b.out
      clear T1_2b
      cases hp3 : padL 2 q1.1 (l.drop k2) with
      | none =>
        have HE : Hid (fstL l = none) := by rw [Q2.out, hp3]; rfl
        have C : Hid (∀ W, w.grownBy W none → Calls Try.prog 63 #[.agg (ptCells (.slice Av1 q2.1.length cv1) (.slice none 0 0) (.slice none 0 0) (.slice none 0 0) { zPt with pad := q1.1.1, padAt := q1.1.2 }), .slice A l.length cap, .int .i64 (k2 : Int), .int .i64 2] W fun e w' => (∃ a, e = .returned (.tuple #[.agg (ptCells (.slice Av1 q2.1.length cv1) (.slice none 0 0) (.slice none 0 0) (.slice none 0 0) { zPt with pad := q1.1.1, padAt := q1.1.2 }), .int .i64 a, .bool false])) ∧ W.grownBy w' none) := fun W hW => by
          exact CP.out W hW Av1 q2.1.length cv1 none 0 0 { zPt with pad := q1.1.1, padAt := q1.1.2 } k2 2 HL2 P1 _ hp3
        clear hp3 CP CA CN
        go_wp2_with (first
          | (go_at_call 63; refine (C.out _ (by exact F2.out.gr)).mono ?_; rintro e w3 ⟨⟨a, rfl⟩, hg⟩; have F3 := Lib.hid (F2.out.grown hg); have Z3 := Lib.hid (Z2.out.grown hg); have HW := Lib.hid (Blk.new w3 24 zCells); clear hg)
          | (refine wpList_load_mid rfl 24 _ rfl g1 0 rfl (ptCells (.slice Av1 q2.1.length cv1) (.slice none 0 0) (.slice none 0 0) (.slice none 0 0) { zPt with pad := q1.1.1, padAt := q1.1.2 }).toList _ (by exact row_range F2.out.b) Try.underlying24 rfl (info24c _ _ _ _ _) ?_)
          | (refine wpList_load_mid rfl 24 _ rfl g1 0 rfl (ptCells (.slice Av1 q2.1.length cv1) (.slice none 0 0) (.slice none 0 0) (.slice none 0 0) { zPt with pad := q1.1.1, padAt := q1.1.2 }).toList _ (by exact row_range (Z3.out.old3 _).b) Try.underlying24 rfl (info24c _ _ _ _ _) ?_)
          | (refine wpList_store_row rfl 24 _ _ rfl w3.heap.size _ rfl rfl 24 zCells HW.out (by exact info24) (by rfl) (by simp [ptCells, Value.oneCell']) ?_)
          | (refine wpList_store_row rfl 24 _ _ rfl w.heap.size _ rfl rfl 24 zCells (F3.out.old3 _).b0 (by exact info24) (by rfl) (by simp [ptCells, Value.oneCell']) ?_))
        refine bodyPost_ret (ret24f rfl _ _ w.heap.size _ rfl ((F3.out.old3 _).b0.row _) rfl) rfl ?_
        refine ⟨?_, only_row (F3.out.old3 _).gr (.inr (Nat.le_refl _)) _⟩
        rw [HE.out]
        exact ⟨_, _, _, _, _, _, _, _, _, _, rfl⟩
      | some q3 =>
        obtain ⟨k3, hk3⟩ : ∃ k, l.length - q3.2.length = k := ⟨_, rfl⟩
        have hd3 : l.drop k3 = q3.2 := by rw [← hk3]; exact suf_len (padL_suf hp3)
        have HL3 : k3 ≤ l.length := by omega
        have P3 : 0 ≤ q3.1.2 := padL_nn hp3 (by decide) P1
        have Q3 : Hid (fstL l = (numberL (l.drop k3)).bind fun nm => fst4 l.length q2.1 (q3.1, l.drop k3) nm) := by rw [Q2.out, hp3, Option.bind_some, hd3]; rfl
        have HK3 := Lib.hid hk3
        have C : Hid (∀ W, w.grownBy W none → Calls Try.prog 63 #[.agg (ptCells (.slice Av1 q2.1.length cv1) (.slice none 0 0) (.slice none 0 0) (.slice none 0 0) { zPt with pad := q1.1.1, padAt := q1.1.2 }), .slice A l.length cap, .int .i64 (k2 : Int), .int .i64 2] W fun e w' => e = .returned (.tuple #[.agg (ptCells (.slice Av1 q2.1.length cv1) (.slice none 0 0) (.slice none 0 0) (.slice none 0 0) { zPt with pad := q3.1.1, padAt := q3.1.2 }), .int .i64 (k3 : Int), .bool true]) ∧ W.grownBy w' none) := fun W hW => by
          have := CP.out W hW Av1 q2.1.length cv1 none 0 0 { zPt with pad := q1.1.1, padAt := q1.1.2 } k2 2 HL2 P1 _ hp3
          refine this.mono fun e w' h => ⟨?_, h.2⟩
          have h1 : e = .returned (.tuple #[.agg (ptCells (.slice Av1 q2.1.length cv1) (.slice none 0 0) (.slice none 0 0) (.slice none 0 0) { zPt with pad := q3.1.1, padAt := q3.1.2 }), .int .i64 ((l.length - q3.2.length : Nat) : Int), .bool true]) := h.1
          rw [hk3] at h1
          exact h1
        clear hp3 hk3 hd3
        go_upto_region 11 with (first
          | (go_at_call 63; refine (C.out _ (by exact F2.out.gr)).mono ?_; rintro e w3 ⟨rfl, hg⟩; have F3 := Lib.hid (F2.out.grown hg); have Z3 := Lib.hid (Z2.out.grown hg); have T1_3 := Lib.hid (T1_2.out.grown hg); have HW := Lib.hid (Blk.new w3 24 zCells); clear hg)
          | (refine wpList_load_mid rfl 24 _ rfl g1 0 rfl (ptCells (.slice Av1 q2.1.length cv1) (.slice none 0 0) (.slice none 0 0) (.slice none 0 0) { zPt with pad := q1.1.1, padAt := q1.1.2 }).toList _ (by exact row_range F2.out.b) Try.underlying24 rfl (info24c _ _ _ _ _) ?_)
          | (refine wpList_store_row rfl 24 _ _ rfl w3.heap.size _ rfl rfl 24 zCells HW.out (by exact info24) (by rfl) (by simp [ptCells, Value.oneCell']) ?_))
        have F3b : Hid (FS w ((w3.alloc (.cells zCells 24)).setRow w3.heap.size (ptCells (.slice Av1 q2.1.length cv1) (.slice none 0 0) (.slice none 0 0) (.slice none 0 0) { zPt with pad := q3.1.1, padAt := q3.1.2 })) w3.heap.size (ptCells (.slice Av1 q2.1.length cv1) (.slice none 0 0) (.slice none 0 0) (.slice none 0 0) { zPt with pad := q3.1.1, padAt := q3.1.2 })) := F3.out.new3 _
        have Z3b : Hid (FS w ((w3.alloc (.cells zCells 24)).setRow w3.heap.size (ptCells (.slice Av1 q2.1.length cv1) (.slice none 0 0) (.slice none 0 0) (.slice none 0 0) { zPt with pad := q3.1.1, padAt := q3.1.2 })) g1 (ptCells (.slice Av1 q2.1.length cv1) (.slice none 0 0) (.slice none 0 0) (.slice none 0 0) { zPt with pad := q1.1.1, padAt := q1.1.2 })) := Z3.out.old3 _
        have T1_3b := Lib.hid (T1_3.out.grown (gr3 w3 (ptCells (.slice Av1 q2.1.length cv1) (.slice none 0 0) (.slice none 0 0) (.slice none 0 0) { zPt with pad := q3.1.1, padAt := q3.1.2 })))
        clear F2 F3 Z2 Z3 HW C T1_2 T1_3
        change Code.wp _ _ _ _ ((w3.alloc (.cells zCells 24)).setRow w3.heap.size (ptCells (.slice Av1 q2.1.length cv1) (.slice none 0 0) (.slice none 0 0) (.slice none 0 0) { zPt with pad := q3.1.1, padAt := q3.1.2 }))
        generalize ((w3.alloc (.cells zCells 24)).setRow w3.heap.size (ptCells (.slice Av1 q2.1.length cv1) (.slice none 0 0) (.slice none 0 0) (.slice none 0 0) { zPt with pad := q3.1.1, padAt := q3.1.2 })) = W3 at *
        generalize w3.heap.size = g3 at *
        have F3 := Lib.hid F3b.out
        have Z3 := Lib.hid Z3b.out
        clear F3b Z3b
        have T1_3 := Lib.hid T1_3b.out
        clear T1_3b
        cases hp4 : numberL (l.drop k3) with
        | none =>
          have HE : Hid (fstL l = none) := by rw [Q3.out, hp4]; rfl
          have C : Hid (∀ W, w.grownBy W none → Calls Try.prog 65 #[.agg (ptCells (.slice Av1 q2.1.length cv1) (.slice none 0 0) (.slice none 0 0) (.slice none 0 0) { zPt with pad := q3.1.1, padAt := q3.1.2 }), .slice A l.length cap, .int .i64 (k3 : Int)] W fun e w' => (∃ p' a, e = .returned (.tuple #[.agg (ptCells (.slice Av1 q2.1.length cv1) (.slice none 0 0) (.slice none 0 0) (.slice none 0 0) p'), .int .i64 a, .bool false])) ∧ W.grownBy w' none) := fun W hW => by
            exact CN.out W hW Av1 q2.1.length cv1 { zPt with pad := q3.1.1, padAt := q3.1.2 } k3 HL3 rfl _ hp4
          clear hp4 CP CA CN
          go_wp2_with (first
            | (go_at_call 65; refine (C.out _ (by exact F3.out.gr)).mono ?_; rintro e w4 ⟨⟨p', a, rfl⟩, hg⟩; have F4 := Lib.hid (F3.out.grown hg); have Z4 := Lib.hid (Z3.out.grown hg); have HW := Lib.hid (Blk.new w4 24 zCells); clear hg)
            | (refine wpList_load_mid rfl 24 _ rfl g3 0 rfl (ptCells (.slice Av1 q2.1.length cv1) (.slice none 0 0) (.slice none 0 0) (.slice none 0 0) { zPt with pad := q3.1.1, padAt := q3.1.2 }).toList _ (by exact row_range F3.out.b) Try.underlying24 rfl (info24c _ _ _ _ _) ?_)
            | (refine wpList_load_mid rfl 24 _ rfl g1 0 rfl (ptCells (.slice Av1 q2.1.length cv1) (.slice none 0 0) (.slice none 0 0) (.slice none 0 0) { zPt with pad := q1.1.1, padAt := q1.1.2 }).toList _ (by exact row_range (Z4.out.old3 _).b) Try.underlying24 rfl (info24c _ _ _ _ _) ?_)
            | (refine wpList_store_row rfl 24 _ _ rfl w4.heap.size _ rfl rfl 24 zCells HW.out (by exact info24) (by rfl) (by simp [ptCells, Value.oneCell']) ?_)
            | (refine wpList_store_row rfl 24 _ _ rfl w.heap.size _ rfl rfl 24 zCells (F4.out.old3 _).b0 (by exact info24) (by rfl) (by simp [ptCells, Value.oneCell']) ?_))
          refine bodyPost_ret (ret24f rfl _ _ w.heap.size _ rfl ((F4.out.old3 _).b0.row _) rfl) rfl ?_
          refine ⟨?_, only_row (F4.out.old3 _).gr (.inr (Nat.le_refl _)) _⟩
          rw [HE.out]
          exact ⟨_, _, _, _, _, _, _, _, _, _, rfl⟩
        | some q4 =>
          obtain ⟨k4, hk4⟩ : ∃ k, l.length - q4.2.length = k := ⟨_, rfl⟩
          have hd4 : l.drop k4 = q4.2 := by rw [← hk4]; exact suf_len (numberL_suf hp4)
          have HL4 : k4 ≤ l.length := by omega
          have Q4 : Hid (fstL l = (padL 3 q3.1 (l.drop k4)).bind fun c => fst5 l.length q2.1 (l.drop k3) (q4.1, l.drop k4) c) := by rw [Q3.out, hp4, Option.bind_some, hd4]; rfl
          have HK4 := Lib.hid hk4
          have C : Hid (∀ W, w.grownBy W none → Calls Try.prog 65 #[.agg (ptCells (.slice Av1 q2.1.length cv1) (.slice none 0 0) (.slice none 0 0) (.slice none 0 0) { zPt with pad := q3.1.1, padAt := q3.1.2 }), .slice A l.length cap, .int .i64 (k3 : Int)] W fun e w' => e = .returned (.tuple #[.agg (ptCells (.slice Av1 q2.1.length cv1) (.slice none 0 0) (.slice none 0 0) (.slice none 0 0) { zPt with nm := q4.1, pad := q3.1.1, padAt := q3.1.2 }), .int .i64 (k4 : Int), .bool true]) ∧ W.grownBy w' none) := fun W hW => by
            have := CN.out W hW Av1 q2.1.length cv1 { zPt with pad := q3.1.1, padAt := q3.1.2 } k3 HL3 rfl _ hp4
            refine this.mono fun e w' h => ⟨?_, h.2⟩
            have h1 : e = .returned (.tuple #[.agg (ptCells (.slice Av1 q2.1.length cv1) (.slice none 0 0) (.slice none 0 0) (.slice none 0 0) { zPt with nm := q4.1, pad := q3.1.1, padAt := q3.1.2 }), .int .i64 ((l.length - q4.2.length : Nat) : Int), .bool true]) := h.1
            rw [hk4] at h1
            exact h1
          clear hp4 hk4 hd4
          go_upto_region 14 with (first
            | (go_at_call 65; refine (C.out _ (by exact F3.out.gr)).mono ?_; rintro e w4 ⟨rfl, hg⟩; have F4 := Lib.hid (F3.out.grown hg); have Z4 := Lib.hid (Z3.out.grown hg); have T1_4 := Lib.hid (T1_3.out.grown hg); have HW := Lib.hid (Blk.new w4 24 zCells); clear hg)
            | (refine wpList_load_mid rfl 24 _ rfl g3 0 rfl (ptCells (.slice Av1 q2.1.length cv1) (.slice none 0 0) (.slice none 0 0) (.slice none 0 0) { zPt with pad := q3.1.1, padAt := q3.1.2 }).toList _ (by exact row_range F3.out.b) Try.underlying24 rfl (info24c _ _ _ _ _) ?_)
            | (refine wpList_store_row rfl 24 _ _ rfl w4.heap.size _ rfl rfl 24 zCells HW.out (by exact info24) (by rfl) (by simp [ptCells, Value.oneCell']) ?_))
          have F4b : Hid (FS w ((w4.alloc (.cells zCells 24)).setRow w4.heap.size (ptCells (.slice Av1 q2.1.length cv1) (.slice none 0 0) (.slice none 0 0) (.slice none 0 0) { zPt with nm := q4.1, pad := q3.1.1, padAt := q3.1.2 })) w4.heap.size (ptCells (.slice Av1 q2.1.length cv1) (.slice none 0 0) (.slice none 0 0) (.slice none 0 0) { zPt with nm := q4.1, pad := q3.1.1, padAt := q3.1.2 })) := F4.out.new3 _
          have Z4b : Hid (FS w ((w4.alloc (.cells zCells 24)).setRow w4.heap.size (ptCells (.slice Av1 q2.1.length cv1) (.slice none 0 0) (.slice none 0 0) (.slice none 0 0) { zPt with nm := q4.1, pad := q3.1.1, padAt := q3.1.2 })) g1 (ptCells (.slice Av1 q2.1.length cv1) (.slice none 0 0) (.slice none 0 0) (.slice none 0 0) { zPt with pad := q1.1.1, padAt := q1.1.2 })) := Z4.out.old3 _
          have T1_4b := Lib.hid (T1_4.out.grown (gr3 w4 (ptCells (.slice Av1 q2.1.length cv1) (.slice none 0 0) (.slice none 0 0) (.slice none 0 0) { zPt with nm := q4.1, pad := q3.1.1, padAt := q3.1.2 })))
          clear F3 F4 Z3 Z4 HW C T1_3 T1_4
          change Code.wp _ _ _ _ ((w4.alloc (.cells zCells 24)).setRow w4.heap.size (ptCells (.slice Av1 q2.1.length cv1) (.slice none 0 0) (.slice none 0 0) (.slice none 0 0) { zPt with nm := q4.1, pad := q3.1.1, padAt := q3.1.2 }))
          generalize ((w4.alloc (.cells zCells 24)).setRow w4.heap.size (ptCells (.slice Av1 q2.1.length cv1) (.slice none 0 0) (.slice none 0 0) (.slice none 0 0) { zPt with nm := q4.1, pad := q3.1.1, padAt := q3.1.2 })) = W4 at *
          generalize w4.heap.size = g4 at *
          have F4 := Lib.hid F4b.out
          have Z4 := Lib.hid Z4b.out
          clear F4b Z4b
          have T1_4 := Lib.hid T1_4b.out
          clear T1_4b
          cases hp5 : padL 3 q3.1 (l.drop k4) with
          | none =>
            have HE : Hid (fstL l = none) := by rw [Q4.out, hp5]; rfl
            have C : Hid (∀ W, w.grownBy W none → Calls Try.prog 63 #[.agg (ptCells (.slice Av1 q2.1.length cv1) (.slice none 0 0) (.slice none 0 0) (.slice none 0 0) { zPt with nm := q4.1, pad := q3.1.1, padAt := q3.1.2 }), .slice A l.length cap, .int .i64 (k4 : Int), .int .i64 3] W fun e w' => (∃ a, e = .returned (.tuple #[.agg (ptCells (.slice Av1 q2.1.length cv1) (.slice none 0 0) (.slice none 0 0) (.slice none 0 0) { zPt with nm := q4.1, pad := q3.1.1, padAt := q3.1.2 }), .int .i64 a, .bool false])) ∧ W.grownBy w' none) := fun W hW => by
              exact CP.out W hW Av1 q2.1.length cv1 none 0 0 { zPt with nm := q4.1, pad := q3.1.1, padAt := q3.1.2 } k4 3 HL4 P3 _ hp5
            clear hp5 CP CA CN
            go_wp2_with (first
              | (go_at_call 63; refine (C.out _ (by exact F4.out.gr)).mono ?_; rintro e w5 ⟨⟨a, rfl⟩, hg⟩; have F5 := Lib.hid (F4.out.grown hg); have Z5 := Lib.hid (Z4.out.grown hg); have HW := Lib.hid (Blk.new w5 24 zCells); clear hg)
              | (refine wpList_load_mid rfl 24 _ rfl g4 0 rfl (ptCells (.slice Av1 q2.1.length cv1) (.slice none 0 0) (.slice none 0 0) (.slice none 0 0) { zPt with nm := q4.1, pad := q3.1.1, padAt := q3.1.2 }).toList _ (by exact row_range F4.out.b) Try.underlying24 rfl (info24c _ _ _ _ _) ?_)
              | (refine wpList_load_mid rfl 24 _ rfl g1 0 rfl (ptCells (.slice Av1 q2.1.length cv1) (.slice none 0 0) (.slice none 0 0) (.slice none 0 0) { zPt with pad := q1.1.1, padAt := q1.1.2 }).toList _ (by exact row_range (Z5.out.old3 _).b) Try.underlying24 rfl (info24c _ _ _ _ _) ?_)
              | (refine wpList_store_row rfl 24 _ _ rfl w5.heap.size _ rfl rfl 24 zCells HW.out (by exact info24) (by rfl) (by simp [ptCells, Value.oneCell']) ?_)
              | (refine wpList_store_row rfl 24 _ _ rfl w.heap.size _ rfl rfl 24 zCells (F5.out.old3 _).b0 (by exact info24) (by rfl) (by simp [ptCells, Value.oneCell']) ?_))
            refine bodyPost_ret (ret24f rfl _ _ w.heap.size _ rfl ((F5.out.old3 _).b0.row _) rfl) rfl ?_
            refine ⟨?_, only_row (F5.out.old3 _).gr (.inr (Nat.le_refl _)) _⟩
            rw [HE.out]
            exact ⟨_, _, _, _, _, _, _, _, _, _, rfl⟩
          | some q5 =>
            obtain ⟨k5, hk5⟩ : ∃ k, l.length - q5.2.length = k := ⟨_, rfl⟩
            have hd5 : l.drop k5 = q5.2 := by rw [← hk5]; exact suf_len (padL_suf hp5)
            have HL5 : k5 ≤ l.length := by omega
            have P5 : 0 ≤ q5.1.2 := padL_nn hp5 (by decide) P3
            have Q5 : Hid (fstL l = (affixL (l.drop k5)).bind fun suf => fst6 l.length q2.1 (l.drop k3) (q4.1, l.drop k4) q5.1 suf) := by rw [Q4.out, hp5, Option.bind_some, hd5]; rfl
            have HK5 := Lib.hid hk5
            have C : Hid (∀ W, w.grownBy W none → Calls Try.prog 63 #[.agg (ptCells (.slice Av1 q2.1.length cv1) (.slice none 0 0) (.slice none 0 0) (.slice none 0 0) { zPt with nm := q4.1, pad := q3.1.1, padAt := q3.1.2 }), .slice A l.length cap, .int .i64 (k4 : Int), .int .i64 3] W fun e w' => e = .returned (.tuple #[.agg (ptCells (.slice Av1 q2.1.length cv1) (.slice none 0 0) (.slice none 0 0) (.slice none 0 0) { zPt with nm := q4.1, pad := q5.1.1, padAt := q5.1.2 }), .int .i64 (k5 : Int), .bool true]) ∧ W.grownBy w' none) := fun W hW => by
              have := CP.out W hW Av1 q2.1.length cv1 none 0 0 { zPt with nm := q4.1, pad := q3.1.1, padAt := q3.1.2 } k4 3 HL4 P3 _ hp5
              refine this.mono fun e w' h => ⟨?_, h.2⟩
              have h1 : e = .returned (.tuple #[.agg (ptCells (.slice Av1 q2.1.length cv1) (.slice none 0 0) (.slice none 0 0) (.slice none 0 0) { zPt with nm := q4.1, pad := q5.1.1, padAt := q5.1.2 }), .int .i64 ((l.length - q5.2.length : Nat) : Int), .bool true]) := h.1
              rw [hk5] at h1
              exact h1
            clear hp5 hk5 hd5
            go_upto_region 17 with (first
              | (go_at_call 63; refine (C.out _ (by exact F4.out.gr)).mono ?_; rintro e w5 ⟨rfl, hg⟩; have F5 := Lib.hid (F4.out.grown hg); have Z5 := Lib.hid (Z4.out.grown hg); have T1_5 := Lib.hid (T1_4.out.grown hg); have HW := Lib.hid (Blk.new w5 24 zCells); clear hg)
              | (refine wpList_load_mid rfl 24 _ rfl g4 0 rfl (ptCells (.slice Av1 q2.1.length cv1) (.slice none 0 0) (.slice none 0 0) (.slice none 0 0) { zPt with nm := q4.1, pad := q3.1.1, padAt := q3.1.2 }).toList _ (by exact row_range F4.out.b) Try.underlying24 rfl (info24c _ _ _ _ _) ?_)
              | (refine wpList_store_row rfl 24 _ _ rfl w5.heap.size _ rfl rfl 24 zCells HW.out (by exact info24) (by rfl) (by simp [ptCells, Value.oneCell']) ?_))
            have F5b : Hid (FS w ((w5.alloc (.cells zCells 24)).setRow w5.heap.size (ptCells (.slice Av1 q2.1.length cv1) (.slice none 0 0) (.slice none 0 0) (.slice none 0 0) { zPt with nm := q4.1, pad := q5.1.1, padAt := q5.1.2 })) w5.heap.size (ptCells (.slice Av1 q2.1.length cv1) (.slice none 0 0) (.slice none 0 0) (.slice none 0 0) { zPt with nm := q4.1, pad := q5.1.1, padAt := q5.1.2 })) := F5.out.new3 _
            have Z5b : Hid (FS w ((w5.alloc (.cells zCells 24)).setRow w5.heap.size (ptCells (.slice Av1 q2.1.length cv1) (.slice none 0 0) (.slice none 0 0) (.slice none 0 0) { zPt with nm := q4.1, pad := q5.1.1, padAt := q5.1.2 })) g1 (ptCells (.slice Av1 q2.1.length cv1) (.slice none 0 0) (.slice none 0 0) (.slice none 0 0) { zPt with pad := q1.1.1, padAt := q1.1.2 })) := Z5.out.old3 _
            have T1_5b := Lib.hid (T1_5.out.grown (gr3 w5 (ptCells (.slice Av1 q2.1.length cv1) (.slice none 0 0) (.slice none 0 0) (.slice none 0 0) { zPt with nm := q4.1, pad := q5.1.1, padAt := q5.1.2 })))
            clear F4 F5 Z4 Z5 HW C T1_4 T1_5
            change Code.wp _ _ _ _ ((w5.alloc (.cells zCells 24)).setRow w5.heap.size (ptCells (.slice Av1 q2.1.length cv1) (.slice none 0 0) (.slice none 0 0) (.slice none 0 0) { zPt with nm := q4.1, pad := q5.1.1, padAt := q5.1.2 }))
            generalize ((w5.alloc (.cells zCells 24)).setRow w5.heap.size (ptCells (.slice Av1 q2.1.length cv1) (.slice none 0 0) (.slice none 0 0) (.slice none 0 0) { zPt with nm := q4.1, pad := q5.1.1, padAt := q5.1.2 })) = W5 at *
            generalize w5.heap.size = g5 at *
            have F5 := Lib.hid F5b.out
            have Z5 := Lib.hid Z5b.out
            clear F5b Z5b
            have T1_5 := Lib.hid T1_5b.out
            clear T1_5b
            cases hp6 : affixL (l.drop k5) with
            | none =>
              have HE : Hid (fstL l = none) := by rw [Q5.out, hp6]; rfl
              have C : Hid (∀ W, w.grownBy W none → Calls Try.prog 64 #[.slice A l.length cap, .int .i64 (k5 : Int)] W fun e w' => (∃ A n c a, e = .returned (.tuple #[.slice A n c, .int .i64 a, .bool false])) ∧ W.grownBy w' none) := fun W hW => by
                exact CA.out W hW k5 HL5 _ hp6
              clear hp6 CP CA CN
              go_wp2_with (first
                | (go_at_call 64; refine (C.out _ (by exact F5.out.gr)).mono ?_; rintro e w6 ⟨⟨Ax, nx, cx, a, rfl⟩, hg⟩; have Z6 := Lib.hid (Z5.out.grown hg); clear hg)
                | (refine wpList_load_mid rfl 24 _ rfl g1 0 rfl (ptCells (.slice Av1 q2.1.length cv1) (.slice none 0 0) (.slice none 0 0) (.slice none 0 0) { zPt with pad := q1.1.1, padAt := q1.1.2 }).toList _ (by exact row_range Z6.out.b) Try.underlying24 rfl (info24c _ _ _ _ _) ?_)
                | (refine wpList_store_row rfl 24 _ _ rfl w.heap.size _ rfl rfl 24 zCells Z6.out.b0 (by exact info24) (by rfl) (by simp [ptCells, Value.oneCell']) ?_))
              refine bodyPost_ret (ret24f rfl _ _ w.heap.size _ rfl (Z6.out.b0.row _) rfl) rfl ?_
              refine ⟨?_, only_row Z6.out.gr (.inr (Nat.le_refl _)) _⟩
              rw [HE.out]
              exact ⟨_, _, _, _, _, _, _, _, _, _, rfl⟩
            | some q6 =>
              obtain ⟨k6, hk6⟩ : ∃ k, l.length - q6.2.length = k := ⟨_, rfl⟩
              have hd6 : l.drop k6 = q6.2 := by rw [← hk6]; exact suf_len (affixL_suf hp6)
              have HL6 : k6 ≤ l.length := by omega
              have Q6 : Hid (fstL l = (padL 4 q5.1 (l.drop k6)).bind fun d => some ⟨q2.1, q6.1, q4.1, d.1, l.length - (l.drop k3).length, l.length - (l.drop k4).length, l.length - d.2.length⟩) := by rw [Q5.out, hp6, Option.bind_some, hd6]; rfl
              have C : Hid (∀ W, w.grownBy W none → Calls Try.prog 64 #[.slice A l.length cap, .int .i64 (k5 : Int)] W fun e w' => (∃ v, e = .returned (.tuple #[v, .int .i64 (k6 : Int), .bool true]) ∧ TT w' v q6.1) ∧ W.grownBy w' none) := fun W hW => by
                have := CA.out W hW k5 HL5 _ hp6
                refine this.mono fun e w' h => ⟨?_, h.2⟩
                obtain ⟨v, h1, h2⟩ := h.1
                rw [hk6] at h1
                exact ⟨v, h1, h2⟩
              clear hp6 hk6 hd6
              go_upto_region 21 with (first
                | (go_at_call 64; refine (C.out _ (by exact F5.out.gr)).mono ?_; rintro e w6 ⟨⟨v, rfl, hT⟩, hg⟩; obtain ⟨Av2, cv2, rfl⟩ := hT.form; have T2_6 := Lib.hid hT; have F6 := Lib.hid (F5.out.grown hg); have Z6 := Lib.hid (Z5.out.grown hg); have T1_6 := Lib.hid (T1_5.out.grown hg); have ec := F6.out.b.cell 1; have fc := F6.out.b.frozen 1; clear hg hT))
              have F6b : Hid (FS w (w6.setCell ⟨g5, 1, none⟩ (.slice Av2 q6.1.length cv2)) g5 (ptCells (.slice Av1 q2.1.length cv1) (.slice Av2 q6.1.length cv2) (.slice none 0 0) (.slice none 0 0) { zPt with nm := q4.1, pad := q5.1.1, padAt := q5.1.2 })) := F6.out.set_ 1 (.slice Av2 q6.1.length cv2)
              have T1_6b := Lib.hid (T1_6.out.set_ F6.out.b 1 (.slice Av2 q6.1.length cv2))
              have T2_6b := Lib.hid (T2_6.out.set_ F6.out.b 1 (.slice Av2 q6.1.length cv2))
              clear F5 F6 Z5 Z6 C ec fc T1_5 T1_6 T2_6
              change Code.wp _ _ _ _ (w6.setCell ⟨g5, 1, none⟩ (.slice Av2 q6.1.length cv2))
              generalize (w6.setCell ⟨g5, 1, none⟩ (.slice Av2 q6.1.length cv2)) = W6 at *
              have F6 := Lib.hid F6b.out
              have Z6 := Lib.hid F6b.out
              clear F6b
              have T1_6 := Lib.hid T1_6b.out
              clear T1_6b
              have T2_6 := Lib.hid T2_6b.out
              clear T2_6b
              cases hp7 : padL 4 q5.1 (l.drop k6) with
              | none =>
                have HE : Hid (fstL l = none) := by rw [Q6.out, hp7]; rfl
                have C : Hid (∀ W, w.grownBy W none → Calls Try.prog 63 #[.agg (ptCells (.slice Av1 q2.1.length cv1) (.slice Av2 q6.1.length cv2) (.slice none 0 0) (.slice none 0 0) { zPt with nm := q4.1, pad := q5.1.1, padAt := q5.1.2 }), .slice A l.length cap, .int .i64 (k6 : Int), .int .i64 4] W fun e w' => (∃ a, e = .returned (.tuple #[.agg (ptCells (.slice Av1 q2.1.length cv1) (.slice Av2 q6.1.length cv2) (.slice none 0 0) (.slice none 0 0) { zPt with nm := q4.1, pad := q5.1.1, padAt := q5.1.2 }), .int .i64 a, .bool false])) ∧ W.grownBy w' none) := fun W hW => by
                  exact CP.out W hW Av1 q2.1.length cv1 Av2 q6.1.length cv2 { zPt with nm := q4.1, pad := q5.1.1, padAt := q5.1.2 } k6 4 HL6 P5 _ hp7
                clear hp7 CP CA CN
                go_wp2_with (first
                  | (go_at_call 63; refine (C.out _ (by exact F6.out.gr)).mono ?_; rintro e w7 ⟨⟨a, rfl⟩, hg⟩; have F7 := Lib.hid (F6.out.grown hg); have Z7 := Lib.hid (Z6.out.grown hg); have HW := Lib.hid (Blk.new w7 24 zCells); clear hg)
                  | (refine wpList_load_mid rfl 24 _ rfl g5 0 rfl (ptCells (.slice Av1 q2.1.length cv1) (.slice Av2 q6.1.length cv2) (.slice none 0 0) (.slice none 0 0) { zPt with nm := q4.1, pad := q5.1.1, padAt := q5.1.2 }).toList _ (by exact row_range F6.out.b) Try.underlying24 rfl (info24c _ _ _ _ _) ?_)
                  | (refine wpList_load_mid rfl 24 _ rfl w7.heap.size 0 rfl (ptCells (.slice Av1 q2.1.length cv1) (.slice Av2 q6.1.length cv2) (.slice none 0 0) (.slice none 0 0) { zPt with nm := q4.1, pad := q5.1.1, padAt := q5.1.2 }).toList _ (by exact row_range (F7.out.new3 _).b) Try.underlying24 rfl (info24c _ _ _ _ _) ?_)
                  | (refine wpList_store_row rfl 24 _ _ rfl w7.heap.size _ rfl rfl 24 zCells HW.out (by exact info24) (by rfl) (by simp [ptCells, Value.oneCell']) ?_)
                  | (refine wpList_store_row rfl 24 _ _ rfl w.heap.size _ rfl rfl 24 zCells (F7.out.old3 _).b0 (by exact info24) (by rfl) (by simp [ptCells, Value.oneCell']) ?_))
                refine bodyPost_ret (ret24f rfl _ _ w.heap.size _ rfl ((F7.out.old3 _).b0.row _) rfl) rfl ?_
                refine ⟨?_, only_row (F7.out.old3 _).gr (.inr (Nat.le_refl _)) _⟩
                rw [HE.out]
                exact ⟨_, _, _, _, _, _, _, _, _, _, rfl⟩
              | some q7 =>
                obtain ⟨k7, hk7⟩ : ∃ k, l.length - q7.2.length = k := ⟨_, rfl⟩
                have hd7 : l.drop k7 = q7.2 := by rw [← hk7]; exact suf_len (padL_suf hp7)
                have HL7 : k7 ≤ l.length := by omega
                have P7 : 0 ≤ q7.1.2 := padL_nn hp7 (by decide) P5
                have Q7 : Hid (fstL l = some ⟨q2.1, q6.1, q4.1, q7.1, l.length - (l.drop k3).length, l.length - (l.drop k4).length, l.length - q7.2.length⟩) := by rw [Q6.out, hp7]; rfl
                have HK7 := Lib.hid hk7
                have C : Hid (∀ W, w.grownBy W none → Calls Try.prog 63 #[.agg (ptCells (.slice Av1 q2.1.length cv1) (.slice Av2 q6.1.length cv2) (.slice none 0 0) (.slice none 0 0) { zPt with nm := q4.1, pad := q5.1.1, padAt := q5.1.2 }), .slice A l.length cap, .int .i64 (k6 : Int), .int .i64 4] W fun e w' => e = .returned (.tuple #[.agg (ptCells (.slice Av1 q2.1.length cv1) (.slice Av2 q6.1.length cv2) (.slice none 0 0) (.slice none 0 0) { zPt with nm := q4.1, pad := q7.1.1, padAt := q7.1.2 }), .int .i64 (k7 : Int), .bool true]) ∧ W.grownBy w' none) := fun W hW => by
                  have := CP.out W hW Av1 q2.1.length cv1 Av2 q6.1.length cv2 { zPt with nm := q4.1, pad := q5.1.1, padAt := q5.1.2 } k6 4 HL6 P5 _ hp7
                  refine this.mono fun e w' h => ⟨?_, h.2⟩
                  have h1 : e = .returned (.tuple #[.agg (ptCells (.slice Av1 q2.1.length cv1) (.slice Av2 q6.1.length cv2) (.slice none 0 0) (.slice none 0 0) { zPt with nm := q4.1, pad := q7.1.1, padAt := q7.1.2 }), .int .i64 ((l.length - q7.2.length : Nat) : Int), .bool true]) := h.1
                  rw [hk7] at h1
                  exact h1
                clear hp7 hk7 hd7
                go_wp2_with (first
                  | (go_at_call 63; refine (C.out _ (by exact F6.out.gr)).mono ?_; rintro e w7 ⟨rfl, hg⟩; have F7 := Lib.hid (F6.out.grown hg); have Z7 := Lib.hid (Z6.out.grown hg); have T1_7 := Lib.hid (T1_6.out.grown hg); have T2_7 := Lib.hid (T2_6.out.grown hg); have HW := Lib.hid (Blk.new w7 24 zCells); clear hg)
                  | (refine wpList_load_mid rfl 24 _ rfl g5 0 rfl (ptCells (.slice Av1 q2.1.length cv1) (.slice Av2 q6.1.length cv2) (.slice none 0 0) (.slice none 0 0) { zPt with nm := q4.1, pad := q5.1.1, padAt := q5.1.2 }).toList _ (by exact row_range F6.out.b) Try.underlying24 rfl (info24c _ _ _ _ _) ?_)
                  | (refine wpList_store_row rfl 24 _ _ rfl w7.heap.size _ rfl rfl 24 zCells HW.out (by exact info24) (by rfl) (by simp [ptCells, Value.oneCell']) ?_)
                  | (refine wpList_load_mid rfl 24 _ rfl w7.heap.size 0 rfl (ptCells (.slice Av1 q2.1.length cv1) (.slice Av2 q6.1.length cv2) (.slice none 0 0) (.slice none 0 0) { zPt with nm := q4.1, pad := q7.1.1, padAt := q7.1.2 }).toList _ (by exact row_range (F7.out.new3 _).b) Try.underlying24 rfl (info24c _ _ _ _ _) ?_)
                  | (refine wpList_store_row rfl 24 _ _ rfl w.heap.size _ rfl rfl 24 zCells (F7.out.old3 _).b0 (by exact info24) (by rfl) (by simp [ptCells, Value.oneCell']) ?_))
                refine bodyPost_ret (ret24f rfl _ _ w.heap.size _ rfl ((F7.out.old3 _).b0.row _) rfl) rfl ?_
                refine ⟨?_, only_row (F7.out.old3 _).gr (.inr (Nat.le_refl _)) _⟩
                rw [Q7.out]
                refine ⟨(.slice Av1 q2.1.length cv1), (.slice Av2 q6.1.length cv2), ?_, (T1_7.out.grown (gr3 _ _)).row (F7.out.old3 _).b0 _, (T2_7.out.grown (gr3 _ _)).row (F7.out.old3 _).b0 _⟩
                rw [show l.length - (l.drop k3).length = k3 by rw [List.length_drop]; omega, show l.length - (l.drop k4).length = k4 by rw [List.length_drop]; omega, HK7.out]
                rfl
end Go.Proofs.Ytdbcdgojbegakaa

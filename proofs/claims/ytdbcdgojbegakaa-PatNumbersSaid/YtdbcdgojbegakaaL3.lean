/-
exerguelaw10.PatNumbers: the walk.
-/
import Derived.Test.YtdbcdgojbegakaaL2
namespace Go.Proofs.Ytdbcdgojbegakaa
open Go.RowKit
set_option linter.unusedSimpArgs false
set_option linter.unusedVariables false

theorem bare_tl {w W : World} {v : Value} (h : TL w v []) : TL W v [] := by
  obtain ⟨A, cap, e, -, hz⟩ := h
  exact ⟨A, cap, e, fun i t hi => by simp at hi, hz⟩
/-- Three rows. -/
structure TR (w W : World) (cs : Array Value) (g5 : Nat) (ds : Array Value) (g8 : Nat) (es : Array Value) : Prop where
  b1 : Blk W w.heap.size 24 cs
  b2 : Blk W g5 24 ds
  b3 : Blk W g8 24 es
  gr : w.grownBy W none
theorem TR.grown {w W W' : World} {cs ds es : Array Value} {g5 g8 : Nat} (h : TR w W cs g5 ds g8 es) (hg : W.grownBy W' none) : TR w W' cs g5 ds g8 es := ⟨h.b1.grown hg (by simp), h.b2.grown hg (by simp), h.b3.grown hg (by simp), only_trans h.gr hg⟩
theorem TR.same {w W W' : World} {cs ds es : Array Value} {g5 g8 : Nat} (h : TR w W cs g5 ds g8 es) (e1 : W'.heap = W.heap) (e2 : W'.os = W.os) (e3 : W'.tape = W.tape) (e4 : W'.output = W.output) : TR w W' cs g5 ds g8 es := h.grown (only_same (only_refl W none) e1 e2 e3 e4)
theorem TR.set3 {w W : World} {cs ds es : Array Value} {g5 g8 : Nat} (h : TR w W cs g5 ds g8 es) (h1 : w.heap.size < g8) (h2 : g5 < g8) (i : Nat) (v : Value) : TR w (W.setCell ⟨g8, i, none⟩ v) cs g5 ds g8 (es.setIfInBounds i v) :=
  ⟨h.b1.far (p := ⟨g8, i, none⟩) (Nat.ne_of_lt h1) v, h.b2.far (p := ⟨g8, i, none⟩) (Nat.ne_of_lt h2) v, h.b3.set_ i v, only_setCell (p := ⟨g8, i, none⟩) h.gr (.inr (Nat.le_of_lt h1)) v⟩
/-- Three rows, grown from here. -/
structure TS (w V W : World) (cs : Array Value) (g5 : Nat) (ds : Array Value) (g8 : Nat) (es : Array Value) : Prop where
  t : TR w W cs g5 ds g8 es
  gr : V.grownBy W none
theorem TS.grown {w V W W' : World} {cs ds es : Array Value} {g5 g8 : Nat} (h : TS w V W cs g5 ds g8 es) (hg : W.grownBy W' none) : TS w V W' cs g5 ds g8 es := ⟨h.t.grown hg, only_trans h.gr hg⟩
theorem TS.same {w V W W' : World} {cs ds es : Array Value} {g5 g8 : Nat} (h : TS w V W cs g5 ds g8 es) (e1 : W'.heap = W.heap) (e2 : W'.os = W.os) (e3 : W'.tape = W.tape) (e4 : W'.output = W.output) : TS w V W' cs g5 ds g8 es := h.grown (only_same (only_refl W none) e1 e2 e3 e4)
theorem bare_pat (W : World) (nm : Nm) : PatV W (.agg (ptCells (.slice none 0 0) (.slice none 0 0) (.slice none 0 0) (.slice none 0 0) (bareP nm))) (bareP nm) :=
  ⟨_, _, _, _, rfl, ⟨none, 0, rfl, fun i t h => by simp [bareP] at h, fun _ => rfl⟩, ⟨none, 0, rfl, fun i t h => by simp [bareP] at h, fun _ => rfl⟩, ⟨none, 0, rfl, fun i t h => by simp [bareP] at h, fun _ => rfl⟩, ⟨none, 0, rfl, fun i t h => by simp [bareP] at h, fun _ => rfl⟩⟩

set_option maxRecDepth 100000 in
set_option maxHeartbeats 16000000 in
theorem patNumbers_any (w : World) (A1 A2 A3 A4 : Option Addr) (c1 c2 c3 c4 : Nat) (p : Pt) (hp : PatIn w A1 A2 A3 A4 c1 c2 c3 c4 p) :
    Calls Try.prog 4 #[.agg (ptCells (.slice A1 p.pre.length c1) (.slice A2 p.suf.length c2) (.slice A3 p.npre.length c3) (.slice A4 p.nsuf.length c4) p)] w fun e w' => e = .returned (.bool true) ∧ w.grownBy w' none := by
  have CS := Lib.hid shown_any
  have CF := Lib.hid (fun W => few_any W A1 A2 A3 A4 _ _ _ _ c1 c2 c3 c4 p hp.l)
  have H0 := Lib.hid (TI.new w (ptCells (.slice A1 p.pre.length c1) (.slice A2 p.suf.length c2) (.slice A3 p.npre.length c3) (.slice A4 p.nsuf.length c4) p))
  have HP := Lib.hid hp
  clear hp
  by_cases hf : (p.pre.length : Int) + p.suf.length + p.npre.length + p.nsuf.length ≤ 300
  · have hf1 : decide ((p.pre.length : Int) + p.suf.length + p.npre.length + p.nsuf.length ≤ 300) = true := by simpa using hf
    rw [hf1] at CF
    have hl : (p.pre ++ p.suf ++ p.npre ++ p.nsuf).length ≤ 300 := by simp; omega
    have D9 : Hid (∀ W, w.grownBy W none → Calls Try.prog 9 #[.agg (ptCells (.slice A1 p.pre.length c1) (.slice A2 p.suf.length c2) (.slice A3 p.npre.length c3) (.slice A4 p.nsuf.length c4) p)] W fun e w' => e = .returned (.bool (rightP p)) ∧ W.grownBy w' none) := fun W hW => right_in HP.out hl W hW
    cases hr : rightP p with
    | false =>
      rw [hr] at D9
      clear hr
      go_enter Try.func4, Try.ntmps4
      go_upto_region 1 with fail
      generalize w.alloc (.cells (ptCells (.slice A1 p.pre.length c1) (.slice A2 p.suf.length c2) (.slice A3 p.npre.length c3) (.slice A4 p.nsuf.length c4) p) 24) = W0 at *
      go_wp2_with (first
        | (go_at_call 7; refine (CS.out _).mono ?_; rintro e w1 ⟨rfl, hg⟩; have H1 := Lib.hid (H0.out.grown hg); clear hg)
        | (go_at_call 8; refine (CF.out _).mono ?_; rintro e w2 ⟨rfl, hg⟩; have H2 := Lib.hid (H1.out.grown hg); clear hg)
        | (go_at_call 9; refine (D9.out _ (by exact H2.out.gr)).mono ?_; rintro e w3 ⟨rfl, hg⟩; have H3 := Lib.hid (H2.out.grown hg); clear hg)
        | (refine wpList_load_wanted (by rfl) 24 _ (by rfl) w.heap.size 0 (by rfl) (ptCells (.slice A1 p.pre.length c1) (.slice A2 p.suf.length c2) (.slice A3 p.npre.length c3) (.slice A4 p.nsuf.length c4) p).toList _ (by exact row_range H2.out.blk) Try.underlying24 rfl (info24c _ _ _ _ _) ?_)
        | (refine wpList_load_mid rfl 24 _ rfl w.heap.size 0 rfl (ptCells (.slice A1 p.pre.length c1) (.slice A2 p.suf.length c2) (.slice A3 p.npre.length c3) (.slice A4 p.nsuf.length c4) p).toList _ (by exact row_range H1.out.blk) Try.underlying24 rfl (info24c _ _ _ _ _) ?_))
      go_ret
      exact ⟨rfl, H3.out.gr⟩
    | true =>
      rw [hr] at D9
      obtain ⟨-, hlen, hsm, hpn⟩ := right_number hr
      have HPL := Lib.hid (And.intro (show p.pre.length ≤ 300 by omega) (show p.suf.length ≤ 300 by omega))
      have D15 : Hid (∀ W, Calls Try.prog 15 #[.agg (ptCells (.slice A1 p.pre.length c1) (.slice A2 p.suf.length c2) (.slice A3 p.npre.length c3) (.slice A4 p.nsuf.length c4) p)] W fun e w' => e = .returned (.string (strOf (numT p.nm))) ∧ W.grownBy w' none) := fun W => numT_any hsm ⟨_, _, _, rfl⟩ ⟨_, _, _, rfl⟩ ⟨_, _, _, rfl⟩ ⟨_, _, _, rfl⟩
      have D19 : Hid (∀ W, Calls Try.prog 19 #[.string (strOf (numT p.nm))] W fun e w' => (∃ (B1 B2 B3 B4 : Option Addr) (d1 d2 d3 d4 : Nat), e = .returned (.tuple #[.agg (ptCells (.slice B1 0 d1) (.slice B2 0 d2) (.slice B3 0 d3) (.slice B4 0 d4) (bareP p.nm)), .int .i64 0, .int .i64 0]) ∧ Hid (PatV w' (.agg (ptCells (.slice B1 0 d1) (.slice B2 0 d2) (.slice B3 0 d3) (.slice B4 0 d4) (bareP p.nm))) (bareP p.nm))) ∧ W.grownBy w' none) := fun W => by
        have := parse_any W (numT p.nm) (numT_rune p.nm) (by omega)
        rw [hpn] at this
        refine this.mono ?_
        rintro e w' ⟨⟨u, rfl, hu⟩, hg⟩
        refine ⟨?_, hg⟩
        have hu2 := hu
        obtain ⟨v1, v2, v3, v4, rfl, ⟨B1, d1, rfl, -⟩, ⟨B2, d2, rfl, -⟩, ⟨B3, d3, rfl, -⟩, ⟨B4, d4, rfl, -⟩⟩ := hu
        exact ⟨B1, B2, B3, B4, d1, d2, d3, d4, rfl, hu2⟩
      have HXS : Hid ((strOf (numT p.nm)).size ≤ 480) := by
        have := encL_le (numT p.nm) (numT_rune p.nm)
        show _ ≤ _
        rw [strOf_size]; omega
      have D12 : Hid (∀ W B1 B2 B3 B4 d1 d2 d3 d4, PatV W (.agg (ptCells (.slice B1 0 d1) (.slice B2 0 d2) (.slice B3 0 d3) (.slice B4 0 d4) (bareP p.nm))) (bareP p.nm) → Calls Try.prog 12 #[.agg (ptCells (.slice B1 0 d1) (.slice B2 0 d2) (.slice B3 0 d3) (.slice B4 0 d4) (bareP p.nm)), .agg (ptCells (.slice none 0 0) (.slice none 0 0) (.slice none 0 0) (.slice none 0 0) (bareP p.nm))] W fun e w' => e = .returned (.bool true) ∧ W.grownBy w' none) := fun W B1 B2 B3 B4 d1 d2 d3 d4 hu => by
        have := same_ref W _ _ _ _ hu (bare_pat W p.nm) (by simp [bareP])
        rwa [decide_eq_true rfl] at this
      have D17 : Hid (∀ W B1 B2 B3 B4 d1 d2 d3 d4, PatV W (.agg (ptCells (.slice B1 0 d1) (.slice B2 0 d2) (.slice B3 0 d3) (.slice B4 0 d4) (bareP p.nm))) (bareP p.nm) → Calls Try.prog 17 #[.agg (ptCells (.slice B1 0 d1) (.slice B2 0 d2) (.slice B3 0 d3) (.slice B4 0 d4) (bareP p.nm))] W fun e w' => e = .returned (.int .i64 ((strOf (numT p.nm)).size : Int)) ∧ W.grownBy w' none) := fun W B1 B2 B3 B4 d1 d2 d3 d4 hu => by
        have := width_any W _ _ hu hsm (by simp [bareP])
        have e : (((strOf (numT (bareP p.nm).nm)).size : Int) + (bareP p.nm).pre.length + (bareP p.nm).suf.length) = ((strOf (numT p.nm)).size : Int) := by simp [bareP]
        rwa [e] at this
      have D18 : Hid (∀ W, w.grownBy W none → Calls Try.prog 17 #[.agg (ptCells (.slice A1 p.pre.length c1) (.slice A2 p.suf.length c2) (.slice A3 p.npre.length c3) (.slice A4 p.nsuf.length c4) p)] W fun e w' => e = .returned (.int .i64 (((strOf (numT p.nm)).size : Int) + p.pre.length + p.suf.length)) ∧ W.grownBy w' none) := fun W hW => width_any W _ p (HP.out.pat.grown hW) hsm hl
      clear hr hsm hpn hlen hl hf hf1 HP
      generalize strOf (numT p.nm) = X at *
      go_enter Try.func4, Try.ntmps4
      go_upto_region 1 with fail
      generalize w.alloc (.cells (ptCells (.slice A1 p.pre.length c1) (.slice A2 p.suf.length c2) (.slice A3 p.npre.length c3) (.slice A4 p.nsuf.length c4) p) 24) = W0 at *
      go_upto_region 7 with (first
        | (go_at_call 7; refine (CS.out _).mono ?_; rintro e w1 ⟨rfl, hg⟩; have H1 := Lib.hid (H0.out.grown hg); clear hg)
        | (go_at_call 8; refine (CF.out _).mono ?_; rintro e w2 ⟨rfl, hg⟩; have H2 := Lib.hid (H1.out.grown hg); clear hg)
        | (go_at_call 9; refine (D9.out _ (by exact H2.out.gr)).mono ?_; rintro e w3 ⟨rfl, hg⟩; have H3 := Lib.hid (H2.out.grown hg); clear hg)
        | (refine wpList_load_wanted (by rfl) 24 _ (by rfl) w.heap.size 0 (by rfl) (ptCells (.slice A1 p.pre.length c1) (.slice A2 p.suf.length c2) (.slice A3 p.npre.length c3) (.slice A4 p.nsuf.length c4) p).toList _ (by exact row_range H2.out.blk) Try.underlying24 rfl (info24c _ _ _ _ _) ?_)
        | (refine wpList_load_mid rfl 24 _ rfl w.heap.size 0 rfl (ptCells (.slice A1 p.pre.length c1) (.slice A2 p.suf.length c2) (.slice A3 p.npre.length c3) (.slice A4 p.nsuf.length c4) p).toList _ (by exact row_range H1.out.blk) Try.underlying24 rfl (info24c _ _ _ _ _) ?_)
        | (go_at_call 15; refine (D15.out _).mono ?_; rintro e w4 ⟨rfl, hg⟩; have H4 := Lib.hid (H3.out.grown hg); clear hg)
        | (go_at_call 19; refine (D19.out _).mono ?_; rintro e w5 ⟨⟨B1, B2, B3, B4, d1, d2, d3, d4, rfl, hu⟩, hg⟩; have HU := Lib.hid hu.out; have H5 := Lib.hid (H4.out.grown hg); have HW := Lib.hid (Blk.new w5 24 zCells); have HSZ : ((w5.alloc (.cells zCells 24)).setRow w5.heap.size (ptCells (.slice B1 0 d1) (.slice B2 0 d2) (.slice B3 0 d3) (.slice B4 0 d4) (bareP p.nm))).heap.size = w5.heap.size + 1 := (by simp); have HB2 : Hid (Blk (((w5.alloc (.cells zCells 24)).setRow w5.heap.size (ptCells (.slice B1 0 d1) (.slice B2 0 d2) (.slice B3 0 d3) (.slice B4 0 d4) (bareP p.nm))).alloc (.cells zCells 24)) (w5.heap.size + 1) 24 zCells) := (by rw [← HSZ]; exact Blk.new _ 24 zCells); clear hu hg)
        | (refine wpList_store_row rfl 24 _ _ rfl w5.heap.size _ rfl rfl 24 zCells HW.out (by exact info24) (by rfl) (by simp [ptCells, Value.oneCell']) ?_)
        | (refine wpList_load_mid rfl 24 _ rfl w.heap.size 0 rfl (ptCells (.slice A1 p.pre.length c1) (.slice A2 p.suf.length c2) (.slice A3 p.npre.length c3) (.slice A4 p.nsuf.length c4) p).toList _ (by exact row_range H3.out.blk) Try.underlying24 rfl (info24c _ _ _ _ _) ?_)
        | (refine wpList_load_mid rfl 24 _ rfl w.heap.size 0 rfl (ptCells (.slice A1 p.pre.length c1) (.slice A2 p.suf.length c2) (.slice A3 p.npre.length c3) (.slice A4 p.nsuf.length c4) p).toList _ (by exact row_range (H5.out.blk.grown (gr3 w5 (ptCells (.slice B1 0 d1) (.slice B2 0 d2) (.slice B3 0 d3) (.slice B4 0 d4) (bareP p.nm))) (by simp))) Try.underlying24 rfl (info24c _ _ _ _ _) ?_)
        | (refine wpList_store_row rfl 24 _ _ rfl (w5.heap.size + 1) _ rfl rfl 24 zCells HB2.out (by exact info24) (by rfl) (by simp [ptCells, Value.oneCell']) ?_))
      have T6 : Hid (TR w ((((w5.alloc (.cells zCells 24)).setRow w5.heap.size (ptCells (.slice B1 0 d1) (.slice B2 0 d2) (.slice B3 0 d3) (.slice B4 0 d4) (bareP p.nm))).alloc (.cells zCells 24)).setRow ((w5.alloc (.cells zCells 24)).setRow w5.heap.size (ptCells (.slice B1 0 d1) (.slice B2 0 d2) (.slice B3 0 d3) (.slice B4 0 d4) (bareP p.nm))).heap.size (ptCells (.slice A1 p.pre.length c1) (.slice A2 p.suf.length c2) (.slice A3 p.npre.length c3) (.slice A4 p.nsuf.length c4) p)) (ptCells (.slice A1 p.pre.length c1) (.slice A2 p.suf.length c2) (.slice A3 p.npre.length c3) (.slice A4 p.nsuf.length c4) p) w5.heap.size (ptCells (.slice B1 0 d1) (.slice B2 0 d2) (.slice B3 0 d3) (.slice B4 0 d4) (bareP p.nm)) (((w5.alloc (.cells zCells 24)).setRow w5.heap.size (ptCells (.slice B1 0 d1) (.slice B2 0 d2) (.slice B3 0 d3) (.slice B4 0 d4) (bareP p.nm))).heap.size) (ptCells (.slice A1 p.pre.length c1) (.slice A2 p.suf.length c2) (.slice A3 p.npre.length c3) (.slice A4 p.nsuf.length c4) p)) := by
        have g1 : w5.grownBy ((w5.alloc (.cells zCells 24)).setRow w5.heap.size (ptCells (.slice B1 0 d1) (.slice B2 0 d2) (.slice B3 0 d3) (.slice B4 0 d4) (bareP p.nm))) none := gr3 w5 (ptCells (.slice B1 0 d1) (.slice B2 0 d2) (.slice B3 0 d3) (.slice B4 0 d4) (bareP p.nm))
        have g2 : World.grownBy ((w5.alloc (.cells zCells 24)).setRow w5.heap.size (ptCells (.slice B1 0 d1) (.slice B2 0 d2) (.slice B3 0 d3) (.slice B4 0 d4) (bareP p.nm))) ((((w5.alloc (.cells zCells 24)).setRow w5.heap.size (ptCells (.slice B1 0 d1) (.slice B2 0 d2) (.slice B3 0 d3) (.slice B4 0 d4) (bareP p.nm))).alloc (.cells zCells 24)).setRow ((w5.alloc (.cells zCells 24)).setRow w5.heap.size (ptCells (.slice B1 0 d1) (.slice B2 0 d2) (.slice B3 0 d3) (.slice B4 0 d4) (bareP p.nm))).heap.size (ptCells (.slice A1 p.pre.length c1) (.slice A2 p.suf.length c2) (.slice A3 p.npre.length c3) (.slice A4 p.nsuf.length c4) p)) none := gr3 _ (ptCells (.slice A1 p.pre.length c1) (.slice A2 p.suf.length c2) (.slice A3 p.npre.length c3) (.slice A4 p.nsuf.length c4) p)
        exact ⟨(H5.out.blk.grown g1 (by simp)).grown g2 (by simp), (HW.out.row _).grown g2 (by simp), (Blk.new _ 24 zCells).row _, only_trans (only_trans H5.out.gr g1) g2⟩
      have HU6 : Hid (PatV ((((w5.alloc (.cells zCells 24)).setRow w5.heap.size (ptCells (.slice B1 0 d1) (.slice B2 0 d2) (.slice B3 0 d3) (.slice B4 0 d4) (bareP p.nm))).alloc (.cells zCells 24)).setRow ((w5.alloc (.cells zCells 24)).setRow w5.heap.size (ptCells (.slice B1 0 d1) (.slice B2 0 d2) (.slice B3 0 d3) (.slice B4 0 d4) (bareP p.nm))).heap.size (ptCells (.slice A1 p.pre.length c1) (.slice A2 p.suf.length c2) (.slice A3 p.npre.length c3) (.slice A4 p.nsuf.length c4) p)) (.agg (ptCells (.slice B1 0 d1) (.slice B2 0 d2) (.slice B3 0 d3) (.slice B4 0 d4) (bareP p.nm))) (bareP p.nm)) := (HU.out.grown (gr3 w5 (ptCells (.slice B1 0 d1) (.slice B2 0 d2) (.slice B3 0 d3) (.slice B4 0 d4) (bareP p.nm)))).grown (gr3 _ (ptCells (.slice A1 p.pre.length c1) (.slice A2 p.suf.length c2) (.slice A3 p.npre.length c3) (.slice A4 p.nsuf.length c4) p))
      have hlt2 : w5.heap.size < ((w5.alloc (.cells zCells 24)).setRow w5.heap.size (ptCells (.slice B1 0 d1) (.slice B2 0 d2) (.slice B3 0 d3) (.slice B4 0 d4) (bareP p.nm))).heap.size := (HW.out.row (ptCells (.slice B1 0 d1) (.slice B2 0 d2) (.slice B3 0 d3) (.slice B4 0 d4) (bareP p.nm))).lt
      have hlt1 : w.heap.size < ((w5.alloc (.cells zCells 24)).setRow w5.heap.size (ptCells (.slice B1 0 d1) (.slice B2 0 d2) (.slice B3 0 d3) (.slice B4 0 d4) (bareP p.nm))).heap.size := (H5.out.blk.grown (gr3 w5 (ptCells (.slice B1 0 d1) (.slice B2 0 d2) (.slice B3 0 d3) (.slice B4 0 d4) (bareP p.nm))) (by simp)).lt
      clear CS CF D9 D15 D19 H0 H1 H2 H3 H4 H5 HU HW
      rw [HSZ] at T6 HU6 hlt1 hlt2
      clear HSZ HB2
      change Code.wp _ _ _ _ ((((w5.alloc (.cells zCells 24)).setRow w5.heap.size (ptCells (.slice B1 0 d1) (.slice B2 0 d2) (.slice B3 0 d3) (.slice B4 0 d4) (bareP p.nm))).alloc (.cells zCells 24)).setRow (w5.heap.size + 1) (ptCells (.slice A1 p.pre.length c1) (.slice A2 p.suf.length c2) (.slice A3 p.npre.length c3) (.slice A4 p.nsuf.length c4) p))
      generalize (((w5.alloc (.cells zCells 24)).setRow w5.heap.size (ptCells (.slice B1 0 d1) (.slice B2 0 d2) (.slice B3 0 d3) (.slice B4 0 d4) (bareP p.nm))).alloc (.cells zCells 24)).setRow (w5.heap.size + 1) (ptCells (.slice A1 p.pre.length c1) (.slice A2 p.suf.length c2) (.slice A3 p.npre.length c3) (.slice A4 p.nsuf.length c4) p) = W6 at *
      generalize w5.heap.size + 1 = g8 at *
      generalize w5.heap.size = g5 at *
      have e0 : W6.cell? ⟨g8, 0, none⟩ = some (.slice A1 p.pre.length c1) := T6.out.b3.cell 0
      have f0 : W6.frozen? ⟨g8, 0, none⟩ = false := T6.out.b3.frozen 0
      have e1 : W6.cell? ⟨g8, 1, none⟩ = some (.slice A2 p.suf.length c2) := T6.out.b3.cell 1
      have f1 : W6.frozen? ⟨g8, 1, none⟩ = false := T6.out.b3.frozen 1
      have e2 : W6.cell? ⟨g8, 2, none⟩ = some (.slice A3 p.npre.length c3) := T6.out.b3.cell 2
      have f2 : W6.frozen? ⟨g8, 2, none⟩ = false := T6.out.b3.frozen 2
      have e3 : W6.cell? ⟨g8, 3, none⟩ = some (.slice A4 p.nsuf.length c4) := T6.out.b3.cell 3
      have f3 : W6.frozen? ⟨g8, 3, none⟩ = false := T6.out.b3.frozen 3
      have e4 : W6.cell? ⟨g8, 4, none⟩ = some (.bool p.neg) := T6.out.b3.cell 4
      have f4 : W6.frozen? ⟨g8, 4, none⟩ = false := T6.out.b3.frozen 4
      have e15 : W6.cell? ⟨g8, 15, none⟩ = some (.int .i32 p.pad) := T6.out.b3.cell 15
      have f15 : W6.frozen? ⟨g8, 15, none⟩ = false := T6.out.b3.frozen 15
      have e16 : W6.cell? ⟨g8, 16, none⟩ = some (.int .i64 p.padAt) := T6.out.b3.cell 16
      have f16 : W6.frozen? ⟨g8, 16, none⟩ = false := T6.out.b3.frozen 16
      go_upto_region 14 with fail
      have T8 : Hid (TR w (((((((W6.setCell ⟨g8, 0, none⟩ (.slice none 0 0)).setCell ⟨g8, 1, none⟩ (.slice none 0 0)).setCell ⟨g8, 2, none⟩ (.slice none 0 0)).setCell ⟨g8, 3, none⟩ (.slice none 0 0)).setCell ⟨g8, 4, none⟩ (.bool false)).setCell ⟨g8, 15, none⟩ (.int .i32 0)).setCell ⟨g8, 16, none⟩ (.int .i64 0)) (ptCells (.slice A1 p.pre.length c1) (.slice A2 p.suf.length c2) (.slice A3 p.npre.length c3) (.slice A4 p.nsuf.length c4) p) g5 (ptCells (.slice B1 0 d1) (.slice B2 0 d2) (.slice B3 0 d3) (.slice B4 0 d4) (bareP p.nm)) g8 (ptCells (.slice none 0 0) (.slice none 0 0) (.slice none 0 0) (.slice none 0 0) (bareP p.nm))) := (((((((T6.out.set3 hlt1 hlt2 0 (.slice none 0 0)).set3 hlt1 hlt2 1 (.slice none 0 0)).set3 hlt1 hlt2 2 (.slice none 0 0)).set3 hlt1 hlt2 3 (.slice none 0 0)).set3 hlt1 hlt2 4 (.bool false)).set3 hlt1 hlt2 15 (.int .i32 0)).set3 hlt1 hlt2 16 (.int .i64 0))
      have HU8 : Hid (PatV (((((((W6.setCell ⟨g8, 0, none⟩ (.slice none 0 0)).setCell ⟨g8, 1, none⟩ (.slice none 0 0)).setCell ⟨g8, 2, none⟩ (.slice none 0 0)).setCell ⟨g8, 3, none⟩ (.slice none 0 0)).setCell ⟨g8, 4, none⟩ (.bool false)).setCell ⟨g8, 15, none⟩ (.int .i32 0)).setCell ⟨g8, 16, none⟩ (.int .i64 0)) (.agg (ptCells (.slice B1 0 d1) (.slice B2 0 d2) (.slice B3 0 d3) (.slice B4 0 d4) (bareP p.nm))) (bareP p.nm)) := by
        obtain ⟨v1, v2, v3, v4, e, t1, t2, t3, t4⟩ := HU6.out
        exact ⟨v1, v2, v3, v4, e, bare_tl t1, bare_tl t2, bare_tl t3, bare_tl t4⟩
      clear T6 HU6 e0 f0 e1 f1 e2 f2 e3 f3 e4 f4 e15 f15 e16 f16
      change Code.wp _ _ _ _ (((((((W6.setCell ⟨g8, 0, none⟩ (.slice none 0 0)).setCell ⟨g8, 1, none⟩ (.slice none 0 0)).setCell ⟨g8, 2, none⟩ (.slice none 0 0)).setCell ⟨g8, 3, none⟩ (.slice none 0 0)).setCell ⟨g8, 4, none⟩ (.bool false)).setCell ⟨g8, 15, none⟩ (.int .i32 0)).setCell ⟨g8, 16, none⟩ (.int .i64 0))
      generalize (((((((W6.setCell ⟨g8, 0, none⟩ (.slice none 0 0)).setCell ⟨g8, 1, none⟩ (.slice none 0 0)).setCell ⟨g8, 2, none⟩ (.slice none 0 0)).setCell ⟨g8, 3, none⟩ (.slice none 0 0)).setCell ⟨g8, 4, none⟩ (.bool false)).setCell ⟨g8, 15, none⟩ (.int .i32 0)).setCell ⟨g8, 16, none⟩ (.int .i64 0)) = W8 at *
      have G12 : Hid (∀ W, W8.grownBy W none → Calls Try.prog 12 #[.agg (ptCells (.slice B1 0 d1) (.slice B2 0 d2) (.slice B3 0 d3) (.slice B4 0 d4) (bareP p.nm)), .agg (ptCells (.slice none 0 0) (.slice none 0 0) (.slice none 0 0) (.slice none 0 0) (bareP p.nm))] W fun e w' => e = .returned (.bool true) ∧ W.grownBy w' none) := fun W hW => D12.out W _ _ _ _ _ _ _ _ (HU8.out.grown hW)
      have G17 : Hid (∀ W, W8.grownBy W none → Calls Try.prog 17 #[.agg (ptCells (.slice B1 0 d1) (.slice B2 0 d2) (.slice B3 0 d3) (.slice B4 0 d4) (bareP p.nm))] W fun e w' => e = .returned (.int .i64 (X.size : Int)) ∧ W.grownBy w' none) := fun W hW => D17.out W _ _ _ _ _ _ _ _ (HU8.out.grown hW)
      have G18 : Hid (∀ W, W8.grownBy W none → Calls Try.prog 17 #[.agg (ptCells (.slice A1 p.pre.length c1) (.slice A2 p.suf.length c2) (.slice A3 p.npre.length c3) (.slice A4 p.nsuf.length c4) p)] W fun e w' => e = .returned (.int .i64 ((X.size : Int) + p.pre.length + p.suf.length)) ∧ W.grownBy w' none) := fun W hW => D18.out W (only_trans T8.out.gr hW)
      have k0 : ((ptCells (.slice A1 p.pre.length c1) (.slice A2 p.suf.length c2) (.slice A3 p.npre.length c3) (.slice A4 p.nsuf.length c4) p) : Array Value)[0]? = some (.slice A1 p.pre.length c1) := rfl
      have k1 : ((ptCells (.slice A1 p.pre.length c1) (.slice A2 p.suf.length c2) (.slice A3 p.npre.length c3) (.slice A4 p.nsuf.length c4) p) : Array Value)[1]? = some (.slice A2 p.suf.length c2) := rfl
      have hsz1 : ((ptCells (.slice A1 p.pre.length c1) (.slice A2 p.suf.length c2) (.slice A3 p.npre.length c3) (.slice A4 p.nsuf.length c4) p) : Array Value).size = 17 := rfl
      have hsz2 : ((ptCells (.slice B1 0 d1) (.slice B2 0 d2) (.slice B3 0 d3) (.slice B4 0 d4) (bareP p.nm)) : Array Value).size = 17 := rfl
      have hsz3 : ((ptCells (.slice none 0 0) (.slice none 0 0) (.slice none 0 0) (.slice none 0 0) (bareP p.nm)) : Array Value).size = 17 := rfl
      clear D12 D17 D18 HU8
      generalize ((ptCells (.slice A1 p.pre.length c1) (.slice A2 p.suf.length c2) (.slice A3 p.npre.length c3) (.slice A4 p.nsuf.length c4) p) : Array Value) = cs at *
      generalize ((ptCells (.slice B1 0 d1) (.slice B2 0 d2) (.slice B3 0 d3) (.slice B4 0 d4) (bareP p.nm)) : Array Value) = ds at *
      generalize ((ptCells (.slice none 0 0) (.slice none 0 0) (.slice none 0 0) (.slice none 0 0) (bareP p.nm)) : Array Value) = es at *
      have hics : (Try.prog.info? 24).map (·.size) = some cs.toList.length := by rw [Array.length_toList, hsz1]; exact info24
      have hids : (Try.prog.info? 24).map (·.size) = some ds.toList.length := by rw [Array.length_toList, hsz2]; exact info24
      have hies : (Try.prog.info? 24).map (·.size) = some es.toList.length := by rw [Array.length_toList, hsz3]; exact info24
      have HX := HXS.out
      have hp1 := HPL.out.1
      have hp2 := HPL.out.2
      have hw1 : IntKind.i64.wrap ((X.size : Int) + (p.pre.length : Int)) = (X.size : Int) + p.pre.length := by rw [IntKind.wrap_i64]; omega
      have hw2 : IntKind.i64.wrap ((X.size : Int) + (p.pre.length : Int) + (p.suf.length : Int)) = (X.size : Int) + p.pre.length + p.suf.length := by rw [IntKind.wrap_i64]; omega
      have Q8 : Hid (TS w W8 W8 cs g5 ds g8 es) := ⟨T8.out, only_refl W8 none⟩
      refine wp_region_held_drew (S := fun W => TS w W8 W cs g5 ds g8 es) (by kernel_rfl) (Q8.out.same rfl rfl rfl rfl) (fun _ => ?_)
      have Q8d := Lib.hid (Q8.out.same (W' := World.drew _) rfl rfl rfl rfl)
      refine wpAnyH_take (i := 0) (v := .bool true) rfl (by kernel_rfl) (by kernel_rfl) (by kernel_rfl) (fun _ _ _ h => h) (.inl ⟨by rfl, ?_⟩) Q8d.out ?_
      · intro W hW
        go_simp
      try simp only [Act.put, List.setIfInBounds_toArray, List.set_cons_zero, List.set_cons_succ, Array.toArray_toList, List.getElem_toArray, List.getElem_cons_zero, List.getElem_cons_succ]
      refine wpAnyH_take (i := 1) (v := .bool true) rfl (by kernel_rfl) (by kernel_rfl) (by kernel_rfl) (fun _ _ _ h => h) (.inl ⟨by rfl, ?_⟩) Q8d.out ?_
      · intro W hW
        go_simp
      try simp only [Act.put, List.setIfInBounds_toArray, List.set_cons_zero, List.set_cons_succ, Array.toArray_toList, List.getElem_toArray, List.getElem_cons_zero, List.getElem_cons_succ]
      refine wpAnyH_take (i := 2) (v := .int .i64 0) rfl (by kernel_rfl) (by kernel_rfl) (by kernel_rfl) (fun _ _ _ h => h) (.inl ⟨by rfl, ?_⟩) Q8d.out ?_
      · intro W hW
        go_simp
      try simp only [Act.put, List.setIfInBounds_toArray, List.set_cons_zero, List.set_cons_succ, Array.toArray_toList, List.getElem_toArray, List.getElem_cons_zero, List.getElem_cons_succ]
      refine wpAnyH_take (i := 3) (v := .bool true) rfl (by kernel_rfl) (by kernel_rfl) (by kernel_rfl) (fun _ _ _ h => h) (.inl ⟨by rfl, ?_⟩) Q8d.out ?_
      · intro W hW
        go_simp
      try simp only [Act.put, List.setIfInBounds_toArray, List.set_cons_zero, List.set_cons_succ, Array.toArray_toList, List.getElem_toArray, List.getElem_cons_zero, List.getElem_cons_succ]
      refine wpAnyH_take (i := 4) (v := .bool true) rfl (by kernel_rfl) (by kernel_rfl) (by kernel_rfl) (fun _ _ _ h => h) (.inl ⟨by rfl, ?_⟩) Q8d.out ?_
      · intro W hW
        go_simp
      try simp only [Act.put, List.setIfInBounds_toArray, List.set_cons_zero, List.set_cons_succ, Array.toArray_toList, List.getElem_toArray, List.getElem_cons_zero, List.getElem_cons_succ]
      refine wpAnyH_take (i := 5) (v := .bool true) rfl (by kernel_rfl) (by kernel_rfl) (by kernel_rfl) (fun _ _ _ h => h) (.inl ⟨by rfl, ?_⟩) Q8d.out ?_
      · intro W hW
        go_simp
      try simp only [Act.put, List.setIfInBounds_toArray, List.set_cons_zero, List.set_cons_succ, Array.toArray_toList, List.getElem_toArray, List.getElem_cons_zero, List.getElem_cons_succ]
      refine wpAnyH_take (i := 6) (v := _) rfl (by kernel_rfl) (by kernel_rfl) (by kernel_rfl) (fun _ _ _ h => h) (yieldsIf_load_mid (by rfl) 24 _ rfl g5 0 rfl ds.toList _ (fun W hW => row_range hW.t.b2) Try.underlying24 rfl hids) Q8d.out ?_
      try simp only [Act.put, List.setIfInBounds_toArray, List.set_cons_zero, List.set_cons_succ, Array.toArray_toList, List.getElem_toArray, List.getElem_cons_zero, List.getElem_cons_succ]
      refine wpAnyH_take (i := 7) (v := _) rfl (by kernel_rfl) (by kernel_rfl) (by kernel_rfl) (fun _ _ _ h => h) (yieldsIf_load_mid (by rfl) 24 _ rfl g8 0 rfl es.toList _ (fun W hW => row_range hW.t.b3) Try.underlying24 rfl hies) Q8d.out ?_
      try simp only [Act.put, List.setIfInBounds_toArray, List.set_cons_zero, List.set_cons_succ, Array.toArray_toList, List.getElem_toArray, List.getElem_cons_zero, List.getElem_cons_succ]
      refine wpAnyH_ready (rs := [8]) (by kernel_rfl) (by simp) ?_
      refine AllReadyH.cons (o := _) rfl (fun K hK => ?_) AllReadyH.nil
      go_simp
      refine (G12.out _ (Q8d.out.same rfl rfl rfl rfl).gr).mono ?_
      rintro e wx1 ⟨rfl, hg⟩
      have Q8x1 := Lib.hid (Q8d.out.grown (only_from hg rfl rfl rfl rfl))
      clear hg
      refine hK.out _ _ Q8x1.out (fun _ => ?_)
      clear hK K
      try simp only [Act.put, List.setIfInBounds_toArray, List.set_cons_zero, List.set_cons_succ, Array.toArray_toList, List.getElem_toArray, List.getElem_cons_zero, List.getElem_cons_succ]
      refine wpAnyH_take (i := 9) (v := .bool true) rfl (by kernel_rfl) (by kernel_rfl) (by kernel_rfl) (fun _ _ _ h => h) (.inl ⟨by rfl, ?_⟩) Q8x1.out ?_
      · intro W hW
        go_simp
      try simp only [Act.put, List.setIfInBounds_toArray, List.set_cons_zero, List.set_cons_succ, Array.toArray_toList, List.getElem_toArray, List.getElem_cons_zero, List.getElem_cons_succ]
      refine wpAnyH_take (i := 10) (v := .bool true) rfl (by kernel_rfl) (by kernel_rfl) (by kernel_rfl) (fun _ _ _ h => h) (.inl ⟨by rfl, ?_⟩) Q8x1.out ?_
      · intro W hW
        go_simp
      try simp only [Act.put, List.setIfInBounds_toArray, List.set_cons_zero, List.set_cons_succ, Array.toArray_toList, List.getElem_toArray, List.getElem_cons_zero, List.getElem_cons_succ]
      refine wpAnyH_take (i := 11) (v := _) rfl (by kernel_rfl) (by kernel_rfl) (by kernel_rfl) (fun _ _ _ h => h) (yieldsIf_load_mid (by rfl) 24 _ rfl g5 0 rfl ds.toList _ (fun W hW => row_range hW.t.b2) Try.underlying24 rfl hids) Q8x1.out ?_
      try simp only [Act.put, List.setIfInBounds_toArray, List.set_cons_zero, List.set_cons_succ, Array.toArray_toList, List.getElem_toArray, List.getElem_cons_zero, List.getElem_cons_succ]
      refine wpAnyH_take (i := 13) (v := .string X) rfl (by kernel_rfl) (by kernel_rfl) (by kernel_rfl) (fun _ _ _ h => h) (.inl ⟨by rfl, ?_⟩) Q8x1.out ?_
      · intro W hW
        go_simp
      try simp only [Act.put, List.setIfInBounds_toArray, List.set_cons_zero, List.set_cons_succ, Array.toArray_toList, List.getElem_toArray, List.getElem_cons_zero, List.getElem_cons_succ]
      refine wpAnyH_take (i := 14) (v := .int .i64 (X.size : Int)) rfl (by kernel_rfl) (by kernel_rfl) (by kernel_rfl) (fun _ _ _ h => h) (.inl ⟨by rfl, ?_⟩) Q8x1.out ?_
      · intro W hW
        go_simp
      try simp only [Act.put, List.setIfInBounds_toArray, List.set_cons_zero, List.set_cons_succ, Array.toArray_toList, List.getElem_toArray, List.getElem_cons_zero, List.getElem_cons_succ]
      refine wpAnyH_ready (rs := [12]) (by kernel_rfl) (by simp) ?_
      refine AllReadyH.cons (o := _) rfl (fun K hK => ?_) AllReadyH.nil
      go_simp
      refine (G17.out _ (Q8x1.out.same rfl rfl rfl rfl).gr).mono ?_
      rintro e wx2 ⟨rfl, hg⟩
      have Q8x2 := Lib.hid (Q8x1.out.grown (only_from hg rfl rfl rfl rfl))
      clear hg
      refine hK.out _ _ Q8x2.out (fun _ => ?_)
      clear hK K
      try simp only [Act.put, List.setIfInBounds_toArray, List.set_cons_zero, List.set_cons_succ, Array.toArray_toList, List.getElem_toArray, List.getElem_cons_zero, List.getElem_cons_succ]
      refine wpAnyH_take (i := 15) (v := .bool true) rfl (by kernel_rfl) (by kernel_rfl) (by kernel_rfl) (fun _ _ _ h => h) (.inl ⟨by rfl, ?_⟩) Q8x2.out ?_
      · intro W hW
        go_simp
      try simp only [Act.put, List.setIfInBounds_toArray, List.set_cons_zero, List.set_cons_succ, Array.toArray_toList, List.getElem_toArray, List.getElem_cons_zero, List.getElem_cons_succ]
      refine wpAnyH_take (i := 16) (v := .bool true) rfl (by kernel_rfl) (by kernel_rfl) (by kernel_rfl) (fun _ _ _ h => h) (.inl ⟨by rfl, ?_⟩) Q8x2.out ?_
      · intro W hW
        go_simp
      try simp only [Act.put, List.setIfInBounds_toArray, List.set_cons_zero, List.set_cons_succ, Array.toArray_toList, List.getElem_toArray, List.getElem_cons_zero, List.getElem_cons_succ]
      refine wpAnyH_take (i := 17) (v := .bool true) rfl (by kernel_rfl) (by kernel_rfl) (by kernel_rfl) (fun _ _ _ h => h) (.inl ⟨by rfl, ?_⟩) Q8x2.out ?_
      · intro W hW
        go_simp
      try simp only [Act.put, List.setIfInBounds_toArray, List.set_cons_zero, List.set_cons_succ, Array.toArray_toList, List.getElem_toArray, List.getElem_cons_zero, List.getElem_cons_succ]
      refine wpAnyH_take (i := 18) (v := _) rfl (by kernel_rfl) (by kernel_rfl) (by kernel_rfl) (fun _ _ _ h => h) (yieldsIf_load_mid (by rfl) 24 _ rfl w.heap.size 0 rfl cs.toList _ (fun W hW => row_range hW.t.b1) Try.underlying24 rfl hics) Q8x2.out ?_
      try simp only [Act.put, List.setIfInBounds_toArray, List.set_cons_zero, List.set_cons_succ, Array.toArray_toList, List.getElem_toArray, List.getElem_cons_zero, List.getElem_cons_succ]
      refine wpAnyH_take (i := 20) (v := .string X) rfl (by kernel_rfl) (by kernel_rfl) (by kernel_rfl) (fun _ _ _ h => h) (.inl ⟨by rfl, ?_⟩) Q8x2.out ?_
      · intro W hW
        go_simp
      try simp only [Act.put, List.setIfInBounds_toArray, List.set_cons_zero, List.set_cons_succ, Array.toArray_toList, List.getElem_toArray, List.getElem_cons_zero, List.getElem_cons_succ]
      refine wpAnyH_take (i := 21) (v := .int .i64 (X.size : Int)) rfl (by kernel_rfl) (by kernel_rfl) (by kernel_rfl) (fun _ _ _ h => h) (.inl ⟨by rfl, ?_⟩) Q8x2.out ?_
      · intro W hW
        go_simp
      try simp only [Act.put, List.setIfInBounds_toArray, List.set_cons_zero, List.set_cons_succ, Array.toArray_toList, List.getElem_toArray, List.getElem_cons_zero, List.getElem_cons_succ]
      refine wpAnyH_take (i := 22) (v := .pointer (some ⟨w.heap.size, 0, none⟩)) rfl (by kernel_rfl) (by kernel_rfl) (by kernel_rfl) (fun _ _ _ h => h) (.inl ⟨by rfl, ?_⟩) Q8x2.out ?_
      · intro W hW
        go_simp
      try simp only [Act.put, List.setIfInBounds_toArray, List.set_cons_zero, List.set_cons_succ, Array.toArray_toList, List.getElem_toArray, List.getElem_cons_zero, List.getElem_cons_succ]
      refine wpAnyH_take (i := 23) (v := .slice A1 p.pre.length c1) rfl (by kernel_rfl) (by kernel_rfl) (by kernel_rfl) (fun _ _ _ h => h) (.inl ⟨by rfl, ?_⟩) Q8x2.out ?_
      · intro W hW
        have hc := hW.t.b1.cell 0
        rw [k0] at hc
        go_simp
      try simp only [Act.put, List.setIfInBounds_toArray, List.set_cons_zero, List.set_cons_succ, Array.toArray_toList, List.getElem_toArray, List.getElem_cons_zero, List.getElem_cons_succ]
      refine wpAnyH_take (i := 24) (v := .int .i64 (p.pre.length : Int)) rfl (by kernel_rfl) (by kernel_rfl) (by kernel_rfl) (fun _ _ _ h => h) (.inl ⟨by rfl, ?_⟩) Q8x2.out ?_
      · intro W hW
        go_simp
      try simp only [Act.put, List.setIfInBounds_toArray, List.set_cons_zero, List.set_cons_succ, Array.toArray_toList, List.getElem_toArray, List.getElem_cons_zero, List.getElem_cons_succ]
      refine wpAnyH_take (i := 25) (v := .int .i64 ((X.size : Int) + p.pre.length)) rfl (by kernel_rfl) (by kernel_rfl) (by kernel_rfl) (fun _ _ _ h => h) (.inl ⟨by rfl, ?_⟩) Q8x2.out ?_
      · intro W hW
        go_simp
      try simp only [Act.put, List.setIfInBounds_toArray, List.set_cons_zero, List.set_cons_succ, Array.toArray_toList, List.getElem_toArray, List.getElem_cons_zero, List.getElem_cons_succ]
      refine wpAnyH_take (i := 26) (v := .pointer (some ⟨w.heap.size, 1, none⟩)) rfl (by kernel_rfl) (by kernel_rfl) (by kernel_rfl) (fun _ _ _ h => h) (.inl ⟨by rfl, ?_⟩) Q8x2.out ?_
      · intro W hW
        go_simp
      try simp only [Act.put, List.setIfInBounds_toArray, List.set_cons_zero, List.set_cons_succ, Array.toArray_toList, List.getElem_toArray, List.getElem_cons_zero, List.getElem_cons_succ]
      refine wpAnyH_take (i := 27) (v := .slice A2 p.suf.length c2) rfl (by kernel_rfl) (by kernel_rfl) (by kernel_rfl) (fun _ _ _ h => h) (.inl ⟨by rfl, ?_⟩) Q8x2.out ?_
      · intro W hW
        have hc := hW.t.b1.cell 1
        rw [k1] at hc
        go_simp
      try simp only [Act.put, List.setIfInBounds_toArray, List.set_cons_zero, List.set_cons_succ, Array.toArray_toList, List.getElem_toArray, List.getElem_cons_zero, List.getElem_cons_succ]
      refine wpAnyH_take (i := 28) (v := .int .i64 (p.suf.length : Int)) rfl (by kernel_rfl) (by kernel_rfl) (by kernel_rfl) (fun _ _ _ h => h) (.inl ⟨by rfl, ?_⟩) Q8x2.out ?_
      · intro W hW
        go_simp
      try simp only [Act.put, List.setIfInBounds_toArray, List.set_cons_zero, List.set_cons_succ, Array.toArray_toList, List.getElem_toArray, List.getElem_cons_zero, List.getElem_cons_succ]
      refine wpAnyH_take (i := 29) (v := .int .i64 ((X.size : Int) + p.pre.length + p.suf.length)) rfl (by kernel_rfl) (by kernel_rfl) (by kernel_rfl) (fun _ _ _ h => h) (.inl ⟨by rfl, ?_⟩) Q8x2.out ?_
      · intro W hW
        go_simp
      try simp only [Act.put, List.setIfInBounds_toArray, List.set_cons_zero, List.set_cons_succ, Array.toArray_toList, List.getElem_toArray, List.getElem_cons_zero, List.getElem_cons_succ]
      refine wpAnyH_ready (rs := [19]) (by kernel_rfl) (by simp) ?_
      refine AllReadyH.cons (o := _) rfl (fun K hK => ?_) AllReadyH.nil
      go_simp
      refine (G18.out _ (Q8x2.out.same rfl rfl rfl rfl).gr).mono ?_
      rintro e wx3 ⟨rfl, hg⟩
      have Q8x3 := Lib.hid (Q8x2.out.grown (only_from hg rfl rfl rfl rfl))
      clear hg
      refine hK.out _ _ Q8x3.out (fun _ => ?_)
      clear hK K
      try simp only [Act.put, List.setIfInBounds_toArray, List.set_cons_zero, List.set_cons_succ, Array.toArray_toList, List.getElem_toArray, List.getElem_cons_zero, List.getElem_cons_succ]
      refine wpAnyH_take (i := 30) (v := .bool true) rfl (by kernel_rfl) (by kernel_rfl) (by kernel_rfl) (fun _ _ _ h => h) (.inl ⟨by rfl, ?_⟩) Q8x3.out ?_
      · intro W hW
        go_simp
      try simp only [Act.put, List.setIfInBounds_toArray, List.set_cons_zero, List.set_cons_succ, Array.toArray_toList, List.getElem_toArray, List.getElem_cons_zero, List.getElem_cons_succ]
      refine wpAnyH_take (i := 31) (v := .bool true) rfl (by kernel_rfl) (by kernel_rfl) (by kernel_rfl) (fun _ _ _ h => h) (.inl ⟨by rfl, ?_⟩) Q8x3.out ?_
      · intro W hW
        go_simp
      try simp only [Act.put, List.setIfInBounds_toArray, List.set_cons_zero, List.set_cons_succ, Array.toArray_toList, List.getElem_toArray, List.getElem_cons_zero, List.getElem_cons_succ]
      refine wpAnyH_take (i := 32) (v := .bool true) rfl (by kernel_rfl) (by kernel_rfl) (by kernel_rfl) (fun _ _ _ h => h) (.inl ⟨by rfl, ?_⟩) Q8x3.out ?_
      · intro W hW
        go_simp
      try simp only [Act.put, List.setIfInBounds_toArray, List.set_cons_zero, List.set_cons_succ, Array.toArray_toList, List.getElem_toArray, List.getElem_cons_zero, List.getElem_cons_succ]
      refine wpAnyH_done (by kernel_rfl) ?_ _
      go_wp2_with fail
      go_ret
      exact ⟨rfl, Q8x3.out.t.gr⟩
  · have hf1 : decide ((p.pre.length : Int) + p.suf.length + p.npre.length + p.nsuf.length ≤ 300) = false := by simpa using hf
    rw [hf1] at CF
    go_enter Try.func4, Try.ntmps4
    go_upto_region 1 with fail
    generalize w.alloc (.cells (ptCells (.slice A1 p.pre.length c1) (.slice A2 p.suf.length c2) (.slice A3 p.npre.length c3) (.slice A4 p.nsuf.length c4) p) 24) = W0 at *
    go_wp2_with (first
      | (go_at_call 7; refine (CS.out _).mono ?_; rintro e w1 ⟨rfl, hg⟩; have H1 := Lib.hid (H0.out.grown hg); clear hg)
      | (go_at_call 8; refine (CF.out _).mono ?_; rintro e w2 ⟨rfl, hg⟩; have H2 := Lib.hid (H1.out.grown hg); clear hg)
      | (refine wpList_load_mid rfl 24 _ rfl w.heap.size 0 rfl (ptCells (.slice A1 p.pre.length c1) (.slice A2 p.suf.length c2) (.slice A3 p.npre.length c3) (.slice A4 p.nsuf.length c4) p).toList _ (by exact row_range H1.out.blk) Try.underlying24 rfl (info24c _ _ _ _ _) ?_))
    go_ret
    exact ⟨rfl, H2.out.gr⟩
end Go.Proofs.Ytdbcdgojbegakaa

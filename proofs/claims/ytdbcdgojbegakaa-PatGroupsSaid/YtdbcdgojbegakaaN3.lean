/-
pat.Text, pat.Width: a pattern's text, and how wide it is.
-/
import Derived.Test.YtdbcdgojbegakaaN2
import Derived.Laws.Runes
namespace Go.Proofs.Ytdbcdgojbegakaa
open Go.RowKit

theorem encode_eq (r : Int) (hr : isRune r = true) : Utf8.encode r = strOf [r] := by
  have h : 0 ≤ r ∧ r ≤ 1114111 ∧ (r < 55296 ∨ 57343 < r) := by simpa [isRune, and_assoc] using hr
  have hv : Utf8.valid r = true := by simp [Utf8.valid]; omega
  have hs : strOf [r] = ⟨(Lib.encodeRune r).toArray⟩ := by simp [strOf]
  rw [hs]
  unfold Utf8.encode
  simp only [hv, if_true]
  have u : ∀ x : Int, 0 ≤ x → UInt8.ofNat x.toNat = x.toNat.toUInt8 := fun x _ => rfl
  by_cases h1 : r < 128
  · rw [if_pos (by omega), Lib.encodeRune, Lib.encodeRuneZ_one h.1 (by omega)]
    rfl
  by_cases h2 : r < 2048
  · rw [if_neg (by omega), if_pos (by omega), Lib.encodeRune, Lib.encodeRuneZ_two (by omega) (by omega)]
    have e1 : (192 + r / 64).toNat = 192 + r.toNat / 64 := by omega
    have e2 : (128 + r % 64).toNat = 128 + r.toNat % 64 := by omega
    simp only [List.map_cons, List.map_nil, e1, e2]
  by_cases h3 : r < 65536
  · rw [if_neg (by omega), if_neg (by omega), if_pos (by omega), Lib.encodeRune, Lib.encodeRuneZ_three (by omega)]
    have e1 : (224 + r / 4096).toNat = 224 + r.toNat / 4096 := by omega
    have e2 : (128 + r / 64 % 64).toNat = 128 + r.toNat / 64 % 64 := by omega
    have e3 : (128 + r % 64).toNat = 128 + r.toNat % 64 := by omega
    simp only [List.map_cons, List.map_nil, e1, e2, e3]
  · rw [if_neg (by omega), if_neg (by omega), if_neg (by omega), Lib.encodeRune, Lib.encodeRuneZ_four (by omega) (by omega)]
    have e0 : (240 + r / 262144).toNat = 240 + r.toNat / 262144 := by omega
    have e1 : (128 + r / 4096 % 64).toNat = 128 + r.toNat / 4096 % 64 := by omega
    have e2 : (128 + r / 64 % 64).toNat = 128 + r.toNat / 64 % 64 := by omega
    have e3 : (128 + r % 64).toNat = 128 + r.toNat % 64 := by omega
    simp only [List.map_cons, List.map_nil, e0, e1, e2, e3]
theorem s42 : strOf [42] = ⟨#[42]⟩ := by decide +kernel
theorem s59 : strOf [59] = ⟨#[59]⟩ := by decide +kernel
theorem s0_ : strOf [] = ⟨#[]⟩ := rfl

/-- The text of what is padded. -/
theorem pad_text (w : World) (g : Nat) (v1 v2 v3 v4 : Value) (p : Pt) (hb : Blk w g 24 (ptCells v1 v2 v3 v4 p)) (hr : isRune p.pad = true) (x : Int) :
    Calls Try.prog 26 #[.int .i64 x, .pointer (some ⟨g, 0, none⟩)] w fun e w' => e = .returned (.string (strOf (padT p x))) ∧ w' = w := by
  have c15 : w.cell? ⟨g, 15, none⟩ = some (.int .i32 p.pad) := hb.cell 15
  have c16 : w.cell? ⟨g, 16, none⟩ = some (.int .i64 p.padAt) := hb.cell 16
  have cat := cat_any [42] [p.pad] (by simp)
  rw [s42] at cat
  have he := encode_eq p.pad hr
  clear hb
  by_cases h : p.padAt = x
  · have h2 : (p.padAt != x) = false := by simp [h]
    have HT : Hid (padT p x = [42] ++ [p.pad]) := by simp [Hid, padT, h]
    clear h
    go_enter Try.func26, Try.ntmps26
    go_wp2
    go_ret
    exact ⟨by rw [HT.out]; rfl, rfl⟩
  · have h2 : (p.padAt != x) = true := by simpa using h
    have HT : Hid (padT p x = []) := by simp [Hid, padT, h]
    clear h
    go_enter Try.func26, Try.ntmps26
    go_wp2
    go_ret
    exact ⟨by rw [HT.out]; rfl, rfl⟩

/-- In the midst of a text's making: the struct's box. -/
structure TI (w W : World) (cs : Array Value) : Prop where
  blk : Blk W w.heap.size 24 cs
  gr : w.grownBy W none
theorem TI.grown {w W W' : World} {cs : Array Value} (h : TI w W cs) (hg : W.grownBy W' none) : TI w W' cs := ⟨h.blk.grown hg (by simp), only_trans h.gr hg⟩
theorem TI.same {w W W' : World} {cs : Array Value} (h : TI w W cs) (e : W'.heap = W.heap) (e1 : W'.os = W.os) (e2 : W'.tape = W.tape) (e3 : W'.output = W.output) : TI w W' cs := h.grown (only_same (only_refl W none) e e1 e2 e3)
theorem TI.new (w : World) (cs : Array Value) : TI w (w.alloc (.cells cs 24)) cs := ⟨Blk.new w 24 cs, only_alloc (only_refl _ _) _⟩
theorem TI.cells {w W : World} {A1 A2 A3 A4 : Option Addr} {n1 n2 n3 n4 c1 c2 c3 c4 : Nat} {p : Pt} (h : TI w W (ptCells (.slice A1 n1 c1) (.slice A2 n2 c2) (.slice A3 n3 c3) (.slice A4 n4 c4) p)) :
    ∀ i, W.cell? ⟨w.heap.size, i, none⟩ = (#[.slice A1 n1 c1, .slice A2 n2 c2, .slice A3 n3 c3, .slice A4 n4 c4, .bool p.neg, .int .i64 p.nm.hash, .int .i64 p.nm.minInt, .int .i64 p.nm.minFrac, .int .i64 p.nm.maxFrac, .int .i64 p.nm.g1, .int .i64 p.nm.g2,
    .int .i64 p.nm.minSig, .int .i64 p.nm.maxSig, .int .i64 p.nm.exp, .bool p.nm.expPlus, .int .i32 p.pad, .int .i64 p.padAt] : Array Value)[i]? := h.blk.cell

theorem placesT_le (p : Nm) : ∀ k, (placesT p k).length ≤ 2 * k
  | 0 => by simp [placesT]
  | k + 1 => by
    have := placesT_le p k
    simp only [placesT]
    split <;> split <;> simp <;> omega
theorem numT_le (p : Nm) (hs : smallNm p = true) : (numT p).length ≤ 500 := by
  simp only [smallNm, List.all_cons, List.all_nil, Bool.and_true, Bool.and_eq_true, decide_eq_true_eq] at hs
  have := placesT_le p (p.hash + p.minInt).toNat
  unfold numT
  split <;> split <;> (try split) <;> simp <;> omega
theorem runeOf_len (K : Int) : (runeOf K).length ≤ 1 := runeOf_le K
theorem writtenT_le : ∀ (ts : List Tk) (q : Bool), (writtenT q ts).length ≤ 2 * ts.length + 1
  | [], q => by cases q <;> simp [writtenT]
  | t :: ts, q => by
    have h1 := writtenT_le ts false
    have h2 := writtenT_le ts q
    have h3 := writtenT_le ts (isSpec t.r)
    have h4 := runeOf_le t.kind
    simp only [writtenT]
    split
    · cases q <;> simp <;> omega
    · split
      · simp; omega
      · split <;> simp <;> omega
theorem padT_le (p : Pt) (x : Int) : (padT p x).length ≤ 2 := by unfold padT; split <;> simp

set_option maxRecDepth 100000 in
set_option maxHeartbeats 40000000 in
theorem text_any (w : World) (u : Value) (p : Pt) (h : PatV w u p) (hs : smallP p = true) (hl : (p.pre ++ p.suf ++ p.npre ++ p.nsuf).length ≤ 300) :
    Calls Try.prog 13 #[u] w fun e w' => e = .returned (.string (strOf (textT p))) ∧ w.grownBy w' none := by
  obtain ⟨v1, v2, v3, v4, rfl, t1, t2, t3, t4⟩ := h
  obtain ⟨A1, c1, rfl, -⟩ := id t1
  obtain ⟨A2, c2, rfl, -⟩ := id t2
  obtain ⟨A3, c3, rfl, -⟩ := id t3
  obtain ⟨A4, c4, rfl, -⟩ := id t4
  simp only [smallP, Bool.and_eq_true] at hs
  obtain ⟨⟨hn, hp⟩, hall⟩ := hs
  have hru : ∀ ts : List Tk, (∀ t ∈ ts, t ∈ p.pre ++ p.suf ++ p.npre ++ p.nsuf) → ∀ t ∈ ts, isRune t.r = true := fun ts h t ht => List.all_eq_true.1 hall t (h t ht)
  have hlen : p.pre.length + p.suf.length + p.npre.length + p.nsuf.length ≤ 300 := by simpa using (by simp at hl; omega : _)
  have CN : Hid (∀ W, Calls Try.prog 15 #[.agg #[.slice A1 p.pre.length c1, .slice A2 p.suf.length c2, .slice A3 p.npre.length c3, .slice A4 p.nsuf.length c4, .bool p.neg, .int .i64 p.nm.hash, .int .i64 p.nm.minInt, .int .i64 p.nm.minFrac, .int .i64 p.nm.maxFrac, .int .i64 p.nm.g1, .int .i64 p.nm.g2,
    .int .i64 p.nm.minSig, .int .i64 p.nm.maxSig, .int .i64 p.nm.exp, .bool p.nm.expPlus, .int .i32 p.pad, .int .i64 p.padAt]] W fun e w' => e = .returned (.string (strOf (numT p.nm))) ∧ W.grownBy w' none) := fun W => numT_any hn ⟨_, _, _, rfl⟩ ⟨_, _, _, rfl⟩ ⟨_, _, _, rfl⟩ ⟨_, _, _, rfl⟩
  have C1 : Hid (∀ W, w.grownBy W none → Calls Try.prog 27 #[.slice A1 p.pre.length c1] W fun e w' => e = .returned (.string (strOf (writtenT false p.pre))) ∧ W.grownBy w' none) := fun W hW => written_any W _ _ (t1.grown hW) (hru _ fun t ht => by simp [ht]) (by omega)
  have C2 : Hid (∀ W, w.grownBy W none → Calls Try.prog 27 #[.slice A2 p.suf.length c2] W fun e w' => e = .returned (.string (strOf (writtenT false p.suf))) ∧ W.grownBy w' none) := fun W hW => written_any W _ _ (t2.grown hW) (hru _ fun t ht => by simp [ht]) (by omega)
  have C3 : Hid (∀ W, w.grownBy W none → Calls Try.prog 27 #[.slice A3 p.npre.length c3] W fun e w' => e = .returned (.string (strOf (writtenT false p.npre))) ∧ W.grownBy w' none) := fun W hW => written_any W _ _ (t3.grown hW) (hru _ fun t ht => by simp [ht]) (by omega)
  have C4 : Hid (∀ W, w.grownBy W none → Calls Try.prog 27 #[.slice A4 p.nsuf.length c4] W fun e w' => e = .returned (.string (strOf (writtenT false p.nsuf))) ∧ W.grownBy w' none) := fun W hW => written_any W _ _ (t4.grown hW) (hru _ fun t ht => by simp [ht]) (by omega)
  have CP := fun W (hW : TI w W (ptCells (.slice A1 p.pre.length c1) (.slice A2 p.suf.length c2) (.slice A3 p.npre.length c3) (.slice A4 p.nsuf.length c4) p)) (x : Int) => pad_text W _ _ _ _ _ p hW.blk hp x
  have P1 := Lib.hid fun W hW => CP W hW 1
  have P2 := Lib.hid fun W hW => CP W hW 2
  have P3 := Lib.hid fun W hW => CP W hW 3
  have P4 := Lib.hid fun W hW => CP W hW 4
  have l1 := padT_le p 1
  have l2 := writtenT_le p.pre false
  have l3 := padT_le p 2
  have l4 := numT_le p.nm hn
  have l5 := padT_le p 3
  have l6 := writtenT_le p.suf false
  have l7 := padT_le p 4
  have l8 := writtenT_le p.npre false
  have l9 := writtenT_le p.nsuf false
  have HT : Hid (textT p = padT p 1 ++ writtenT false p.pre ++ padT p 2 ++ numT p.nm ++ padT p 3 ++ writtenT false p.suf ++ padT p 4 ++ (if p.neg then [59] ++ writtenT false p.npre ++ numT p.nm ++ writtenT false p.nsuf else [])) := by
    rw [Hid, textT]; cases p.neg <;> simp
  clear CP
  generalize padT p 1 = X1 at *
  generalize padT p 2 = X3 at *
  generalize padT p 3 = X5 at *
  generalize padT p 4 = X7 at *
  generalize writtenT false p.pre = X2 at *
  generalize writtenT false p.suf = X6 at *
  generalize writtenT false p.npre = X8 at *
  generalize writtenT false p.nsuf = X9 at *
  generalize numT p.nm = X4 at *
  obtain ⟨Y2, y2⟩ : ∃ Y, Y = X1 ++ X2 := ⟨_, rfl⟩
  obtain ⟨Y3, y3⟩ : ∃ Y, Y = Y2 ++ X3 := ⟨_, rfl⟩
  obtain ⟨Y4, y4⟩ : ∃ Y, Y = Y3 ++ X4 := ⟨_, rfl⟩
  obtain ⟨Y5, y5⟩ : ∃ Y, Y = Y4 ++ X5 := ⟨_, rfl⟩
  obtain ⟨Y6, y6⟩ : ∃ Y, Y = Y5 ++ X6 := ⟨_, rfl⟩
  obtain ⟨Y7, y7⟩ : ∃ Y, Y = Y6 ++ X7 := ⟨_, rfl⟩
  obtain ⟨Z1, z1⟩ : ∃ Y, Y = [59] ++ X8 := ⟨_, rfl⟩
  obtain ⟨Z2, z2⟩ : ∃ Y, Y = Z1 ++ X4 := ⟨_, rfl⟩
  obtain ⟨Z3, z3⟩ : ∃ Y, Y = Z2 ++ X9 := ⟨_, rfl⟩
  obtain ⟨Z4, z4⟩ : ∃ Y, Y = Y7 ++ Z3 := ⟨_, rfl⟩
  have m2 : Y2.length = X1.length + X2.length := by rw [y2, List.length_append]
  have m3 : Y3.length = Y2.length + X3.length := by rw [y3, List.length_append]
  have m4 : Y4.length = Y3.length + X4.length := by rw [y4, List.length_append]
  have m5 : Y5.length = Y4.length + X5.length := by rw [y5, List.length_append]
  have m6 : Y6.length = Y5.length + X6.length := by rw [y6, List.length_append]
  have m7 : Y7.length = Y6.length + X7.length := by rw [y7, List.length_append]
  have m8 : Z1.length = X8.length + 1 := by rw [z1, List.length_append, Nat.add_comm]; rfl
  have m9 : Z2.length = Z1.length + X4.length := by rw [z2, List.length_append]
  have m10 : Z3.length = Z2.length + X9.length := by rw [z3, List.length_append]
  have cat1 := cat_any X1 X2 (by omega)
  have cat2 := cat_any Y2 X3 (by omega)
  have cat3 := cat_any Y3 X4 (by omega)
  have cat4 := cat_any Y4 X5 (by omega)
  have cat5 := cat_any Y5 X6 (by omega)
  have cat6 := cat_any Y6 X7 (by omega)
  have catA := cat_any [59] X8 (by simp; omega)
  have catB := cat_any Z1 X4 (by omega)
  have catC := cat_any Z2 X9 (by omega)
  have catD := cat_any Y7 Z3 (by omega)
  rw [← y2] at cat1
  rw [← y3] at cat2
  rw [← y4] at cat3
  rw [← y5] at cat4
  rw [← y6] at cat5
  rw [← y7] at cat6
  rw [s59, ← z1] at catA
  rw [← z2] at catB
  rw [← z3] at catC
  rw [← z4] at catD
  have HT2 : Hid (textT p = if p.neg then Z4 else Y7) := by
    rw [Hid, HT.out, z4, z3, z2, z1, y7, y6, y5, y4, y3, y2]
    cases p.neg <;> simp
  clear y2 y3 y4 y5 y6 y7 z1 z2 z3 z4 m2 m3 m4 m5 m6 m7 m8 m9 m10 HT
  have H0 := Lib.hid (TI.new w (ptCells (.slice A1 p.pre.length c1) (.slice A2 p.suf.length c2) (.slice A3 p.npre.length c3) (.slice A4 p.nsuf.length c4) p))
  clear l1 l2 l3 l4 l5 l6 l7 l8 l9 hru hall hn hp t1 t2 t3 t4 hl hlen
  go_enter Try.func13, Try.ntmps13
  go_upto_region 2 with fail
  go_cut [4] (fun v4 wx => v4 = .string (strOf Y7) ∧ Hid (TI w wx (ptCells (.slice A1 p.pre.length c1) (.slice A2 p.suf.length c2) (.slice A3 p.npre.length c3) (.slice A4 p.nsuf.length c4) p)))
  case first =>
   as_aux_lemma =>
    have hc := H0.out.cells
    go_region_held3 (fun w' => ∀ i, w'.cell? ⟨w.heap.size, i, none⟩ = (#[.slice A1 p.pre.length c1, .slice A2 p.suf.length c2, .slice A3 p.npre.length c3, .slice A4 p.nsuf.length c4, .bool p.neg, .int .i64 p.nm.hash, .int .i64 p.nm.minInt, .int .i64 p.nm.minFrac, .int .i64 p.nm.maxFrac, .int .i64 p.nm.g1, .int .i64 p.nm.g2,
    .int .i64 p.nm.minSig, .int .i64 p.nm.maxSig, .int .i64 p.nm.exp, .bool p.nm.expPlus, .int .i32 p.pad, .int .i64 p.padAt] : Array Value)[i]?) (first | assumption | go_keep)
      (first
        | (go_at_call_of 26 (Value.int .i64 1); refine (P1.out _ ?_).mono ?_; exact H0.out.same rfl rfl rfl rfl; rintro e w1 ⟨rfl, rfl⟩)
        | (go_at_call_of 27 (Value.slice A1 p.pre.length c1); refine (C1.out _ ?_).mono ?_; exact only_same H0.out.gr rfl rfl rfl rfl; rintro e w1 ⟨rfl, hg⟩; have H1 := Lib.hid (H0.out.grown (only_from hg rfl rfl rfl rfl)); have q1 := H1.out.cells; clear hg)
        | (go_at_call_of 26 (Value.int .i64 2); refine (P2.out _ ?_).mono ?_; exact H1.out.same rfl rfl rfl rfl; rintro e w1 ⟨rfl, rfl⟩)
        | (go_at_call 15; refine (CN.out _).mono ?_; rintro e w2 ⟨rfl, hg⟩; have H2 := Lib.hid (H1.out.grown (only_from hg rfl rfl rfl rfl)); have q2 := H2.out.cells; clear hg)
        | (go_at_call_of 26 (Value.int .i64 3); refine (P3.out _ ?_).mono ?_; exact H2.out.same rfl rfl rfl rfl; rintro e w1 ⟨rfl, rfl⟩)
        | (go_at_call_of 27 (Value.slice A2 p.suf.length c2); refine (C2.out _ ?_).mono ?_; exact only_same H2.out.gr rfl rfl rfl rfl; rintro e w3 ⟨rfl, hg⟩; have H3 := Lib.hid (H2.out.grown (only_from hg rfl rfl rfl rfl)); have q3 := H3.out.cells; clear hg)
        | (go_at_call_of 26 (Value.int .i64 4); refine (P4.out _ ?_).mono ?_; exact H3.out.same rfl rfl rfl rfl; rintro e w1 ⟨rfl, rfl⟩))
    all_goals (go_wp2_with fail; go_meet; exact ⟨rfl, H3.out.same rfl rfl rfl rfl⟩)
  case rest =>
    clear H0 P1 P2 P3 P4 C1 C2 cat1 cat2 cat3 cat4 cat5 cat6
    obtain ⟨rfl, HA⟩ := hcut
    cases hneg : p.neg with
    | false =>
      have e4 : _ = some (Value.bool p.neg) := HA.out.blk.cell 4
      rw [hneg] at e4 HT2
      go_wp2_with fail
      go_ret
      exact ⟨by rw [HT2.out]; rfl, HA.out.gr⟩
    | true =>
      have e4 : _ = some (Value.bool p.neg) := HA.out.blk.cell 4
      rw [hneg] at e4 HT2
      go_upto_region 4 with fail
      go_cut [4] (fun v4 wx => v4 = .string (strOf Z4) ∧ Hid (TI w wx (ptCells (.slice A1 p.pre.length c1) (.slice A2 p.suf.length c2) (.slice A3 p.npre.length c3) (.slice A4 p.nsuf.length c4) p)))
      case first =>
       as_aux_lemma =>
        clear e4 hneg
        have hc := HA.out.cells
        go_region_held3 (fun w' => ∀ i, w'.cell? ⟨w.heap.size, i, none⟩ = (#[.slice A1 p.pre.length c1, .slice A2 p.suf.length c2, .slice A3 p.npre.length c3, .slice A4 p.nsuf.length c4, .bool p.neg, .int .i64 p.nm.hash, .int .i64 p.nm.minInt, .int .i64 p.nm.minFrac, .int .i64 p.nm.maxFrac, .int .i64 p.nm.g1, .int .i64 p.nm.g2, .int .i64 p.nm.minSig, .int .i64 p.nm.maxSig, .int .i64 p.nm.exp, .bool p.nm.expPlus, .int .i32 p.pad, .int .i64 p.padAt] : Array Value)[i]?) (first | assumption | go_keep)
          (first
            | (go_at_call_of 27 (Value.slice A3 p.npre.length c3); refine (C3.out _ ?_).mono ?_; exact only_same HA.out.gr rfl rfl rfl rfl; rintro e w1 ⟨rfl, hg⟩; have H1 := Lib.hid (HA.out.grown (only_from hg rfl rfl rfl rfl)); have q1 := H1.out.cells; clear hg)
            | (go_at_call 15; refine (CN.out _).mono ?_; rintro e w2 ⟨rfl, hg⟩; have H2 := Lib.hid (H1.out.grown (only_from hg rfl rfl rfl rfl)); have q2 := H2.out.cells; clear hg)
            | (go_at_call_of 27 (Value.slice A4 p.nsuf.length c4); refine (C4.out _ ?_).mono ?_; exact only_same H2.out.gr rfl rfl rfl rfl; rintro e w3 ⟨rfl, hg⟩; have H3 := Lib.hid (H2.out.grown (only_from hg rfl rfl rfl rfl)); have q3 := H3.out.cells; clear hg))
        all_goals (go_wp2_with fail; go_meet; exact ⟨rfl, H3.out.same rfl rfl rfl rfl⟩)
      case rest =>
        obtain ⟨rfl, HB⟩ := hcut
        go_wp2_with fail
        go_ret
        exact ⟨by rw [HT2.out]; rfl, HB.out.gr⟩
end Go.Proofs.Ytdbcdgojbegakaa

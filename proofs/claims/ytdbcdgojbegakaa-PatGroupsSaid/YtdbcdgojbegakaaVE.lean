/-
The reference's number, read.
-/
import Derived.Test.YtdbcdgojbegakaaVD
namespace Go.Proofs.Ytdbcdgojbegakaa
open Go.RowKit
set_option linter.unusedSimpArgs false

/-- What the reference's number hands back. -/
def NumR (v1 v2 v3 v4 : Value) (p : Pt) (l : List Int) (o : Option (Nm × List Int)) (e : Ending) : Prop :=
  match o with
  | some q => e = .returned (.tuple #[.agg (ptCells v1 v2 v3 v4 { p with nm := q.1 }), .int .i64 ((l.length - q.2.length : Nat) : Int), .bool true])
  | none => ∃ p' a, e = .returned (.tuple #[.agg (ptCells v1 v2 v3 v4 p'), .int .i64 a, .bool false])

theorem runL_le (c : Int) : ∀ l : List Int, runLen c l ≤ l.length
  | [] => Nat.le_refl _
  | d :: t => by
    simp only [runLen]
    split
    · have := runL_le c t; simp; omega
    · simp
theorem drop_len {l r : List Int} {j : Nat} (h : l.drop j = r) : l.drop (l.length - r.length) = r := by
  have hr : r.length = l.length - j := by rw [← h, List.length_drop]
  rcases Nat.lt_or_ge l.length j with h1 | h1
  · have : r = [] := by rw [← h]; exact List.drop_of_length_le (by omega)
    subst this
    simp
  · rw [hr, show l.length - (l.length - j) = j by omega]; exact h
theorem placesL_suf : ∀ (l : List Int) (h m n : Int) (gs : List Int) (q : (Int × Int × Int × Int) × List Int), placesL h m n gs l = some q → ∃ j, l.drop j = q.2
  | [], h, m, n, gs, q, hq => by
    simp only [placesL] at hq
    split at hq
    · cases hq
    · injection hq with hq; subst hq; exact ⟨0, rfl⟩
  | c :: t, h, m, n, gs, q, hq => by
    simp only [placesL] at hq
    split at hq
    · obtain ⟨j, hj⟩ := placesL_suf t _ _ _ _ q hq; exact ⟨j + 1, hj⟩
    · split at hq
      · obtain ⟨j, hj⟩ := placesL_suf t _ _ _ _ q hq; exact ⟨j + 1, hj⟩
      · split at hq
        · split at hq
          · cases hq
          · obtain ⟨j, hj⟩ := placesL_suf t _ _ _ _ q hq; exact ⟨j + 1, hj⟩
        · split at hq
          · cases hq
          · injection hq with hq; subst hq; exact ⟨0, rfl⟩

/-- What the reference's places hands back, in parts. -/
def PlaB (p : Pt) (l : List Int) (o : Option ((Int × Int × Int × Int) × List Int)) (p' : Pt) (a : Int) (b : Bool) : Prop :=
  match o with
  | some q => p' = { p with nm := { p.nm with hash := q.1.1, minInt := q.1.2.1, g1 := q.1.2.2.1, g2 := q.1.2.2.2 } } ∧ a = ((l.length - q.2.length : Nat) : Int) ∧ b = true
  | none => b = false
theorem plaB_of {v1 v2 v3 v4 : Value} {p : Pt} {l : List Int} {o : Option ((Int × Int × Int × Int) × List Int)} {e : Ending} (h : PlaR v1 v2 v3 v4 p l o e) : ∃ p' a b, e = .returned (.tuple #[.agg (ptCells v1 v2 v3 v4 p'), .int .i64 a, .bool b]) ∧ Hid (PlaB p l o p' a b) := by
  cases o with
  | none => obtain ⟨p', a, e⟩ := h; exact ⟨p', a, false, e, rfl⟩
  | some q => exact ⟨_, _, true, h, rfl, rfl, rfl⟩
theorem SI.row1 {w W : World} {cs ds : Array Value} (h : SI w W cs ds) (es : Array Value) : SI w (W.setRow w.heap.size es) es ds :=
  ⟨h.b1.row es, h.b2.grown (only_row (only_refl W (some w.heap.size)) (.inl rfl) es) (by intro e; injection e; omega), only_row h.gr (.inr (Nat.le_refl _)) es⟩
theorem SI.new3 {w W : World} {cs ds : Array Value} (h : SI w W cs ds) (es fs : Array Value) : SI w ((W.alloc (.cells es 24)).setRow W.heap.size fs) cs ds ∧ Blk ((W.alloc (.cells es 24)).setRow W.heap.size fs) W.heap.size 24 fs :=
  ⟨h.grown (only_row (only_alloc (only_refl W none) _) (.inr (Nat.le_refl _)) fs), (Blk.new W 24 es).row fs⟩

/-- What is left to read when the exponent comes. -/
def NumE (l : List Int) (i : Nat) (k : Nat) (nm : Nm) : Prop :=
  k ≤ l.length ∧ nm.exp = 0 ∧ nm.expPlus = false ∧ numberL (l.drop i) = (expL (l.drop k)).map fun e => ({ nm with expPlus := e.1.1, exp := e.1.2 }, e.2)
theorem numE_sig {l : List Int} {i n m : Nat} (hi : i ≤ l.length) (hn : runLen 64 (l.drop i) = n) (h0 : 0 < n) (hm : runLen 35 (l.drop (i + n)) = m) : NumE l i (i + n + m) { zNm with minSig := n, maxSig := (n : Int) + m } := by
  have h1 := runL_le 64 (l.drop i)
  have h2 := runL_le 35 (l.drop (i + n))
  rw [hn, List.length_drop] at h1
  rw [hm, List.length_drop] at h2
  refine ⟨by omega, rfl, rfl, ?_⟩
  simp only [numberL, hn]
  rw [if_pos h0, List.drop_drop, hm, List.drop_drop, Option.bind_some]
  push_cast
  rfl
theorem numE_none {l : List Int} {i : Nat} (hn : runLen 64 (l.drop i) = 0) (hp : placesL 0 0 0 [] (l.drop i) = none) : numberL (l.drop i) = none := by
  simp only [numberL, hn, hp]; rfl
theorem numE_whole {l : List Int} {i k : Nat} {q : (Int × Int × Int × Int) × List Int} (hi : i ≤ l.length) (hn : runLen 64 (l.drop i) = 0) (hp : placesL 0 0 0 [] (l.drop i) = some q) (hk : l.length - q.2.length = k) (hd : l.drop k = q.2) (hat : atL (l.drop k) ≠ 46) :
    NumE l i k { zNm with hash := q.1.1, minInt := q.1.2.1, g1 := q.1.2.2.1, g2 := q.1.2.2.2 } := by
  refine ⟨by omega, rfl, rfl, ?_⟩
  have hf : fracL q.2 = some ((0, 0), q.2) := by
    rw [← hd]
    cases h : l.drop k with
    | nil => rfl
    | cons c t =>
      rw [h, atL_cons] at hat
      simp only [fracL]; rw [if_neg hat]
  simp only [numberL, hn, hp]
  rw [if_neg (by omega)]
  simp only [Option.bind_some, hf, Option.map_some]
  rw [hd]
  rfl
theorem numE_frac {l : List Int} {i k a b : Nat} {q : (Int × Int × Int × Int) × List Int} (hi : i ≤ l.length) (hn : runLen 64 (l.drop i) = 0) (hp : placesL 0 0 0 [] (l.drop i) = some q) (hd : l.drop k = q.2) (hat : atL (l.drop k) = 46)
    (ha : runLen 48 (l.drop (k + 1)) = a) (hb : runLen 35 (l.drop (k + 1 + a)) = b) (h0 : 0 < a + b) :
    NumE l i (k + 1 + a + b) { zNm with hash := q.1.1, minInt := q.1.2.1, g1 := q.1.2.2.1, g2 := q.1.2.2.2, minFrac := a, maxFrac := (a : Int) + b } := by
  obtain ⟨t, ht⟩ := atL_head hat (by decide)
  have hlt := (drop_cons ht).1
  have h3 := (drop_cons ht).2.2
  have h1 := runL_le 48 (l.drop (k + 1))
  have h2 := runL_le 35 (l.drop (k + 1 + a))
  rw [ha, List.length_drop] at h1
  rw [hb, List.length_drop] at h2
  refine ⟨by omega, rfl, rfl, ?_⟩
  have hf : fracL q.2 = some (((a : Int), ((a + b : Nat) : Int)), l.drop (k + 1 + a + b)) := by
    rw [← hd, ht]
    simp only [fracL, if_true, ← h3, ha, List.drop_drop, hb]
    rw [if_neg (by omega)]
  simp only [numberL, hn, hp]
  rw [if_neg (by omega)]
  simp only [Option.bind_some, hf, Option.map_some]
  push_cast
  rfl
theorem numE_bad {l : List Int} {i k a b : Nat} {q : (Int × Int × Int × Int) × List Int} (hn : runLen 64 (l.drop i) = 0) (hp : placesL 0 0 0 [] (l.drop i) = some q) (hd : l.drop k = q.2) (hat : atL (l.drop k) = 46)
    (ha : runLen 48 (l.drop (k + 1)) = a) (hb : runLen 35 (l.drop (k + 1 + a)) = b) (h0 : a + b = 0) : numberL (l.drop i) = none := by
  obtain ⟨t, ht⟩ := atL_head hat (by decide)
  have h3 := (drop_cons ht).2.2
  have hf : fracL q.2 = none := by
    rw [← hd, ht]
    simp only [fracL, if_true, ← h3, ha, List.drop_drop, hb]
    rw [if_pos h0]
  simp only [numberL, hn, hp]
  rw [if_neg (by omega)]
  simp only [Option.bind_some, hf, Option.map_none, Option.bind_none]
theorem numE_noexp {l : List Int} {i k : Nat} {nm : Nm} (h : NumE l i k nm) (hat : atL (l.drop k) ≠ 69) : numberL (l.drop i) = some (nm, l.drop k) ∧ l.length - (l.drop k).length = k := by
  obtain ⟨h1, h2, h3, h4⟩ := h
  refine ⟨?_, by rw [List.length_drop]; omega⟩
  have he : expL (l.drop k) = some ((false, 0), l.drop k) := by
    cases h : l.drop k with
    | nil => rfl
    | cons c t =>
      rw [h, atL_cons] at hat
      simp only [expL]; rw [if_neg hat]
  rw [h4, he, Option.map_some]
  show some (_, _) = _
  rw [← h2, ← h3]
theorem numE_exp {l : List Int} {i k : Nat} {nm : Nm} (h : NumE l i k nm) (hat : atL (l.drop k) = 69) (b : Bool) (hb : decide (atL (l.drop (k + 1)) = 43) = b) (e : Nat) (he : runLen 48 (l.drop (k + 1 + b.toNat)) = e) :
    numberL (l.drop i) = if e = 0 then none else some ({ nm with expPlus := b, exp := (e : Int) }, l.drop (k + 1 + b.toNat + e)) := by
  obtain ⟨h1, h2, h3, h4⟩ := h
  obtain ⟨t, ht⟩ := atL_head hat (by decide)
  have h5 := (drop_cons ht).2.2
  have hq : decide (t.head? = some 43) = b := by
    rw [← hb, ← h5]
    cases hh : l.drop (k + 1) with
    | nil => rfl
    | cons c u => rw [atL_cons]; simp
  have hx : expL (l.drop k) = if e = 0 then none else some ((b, (e : Int)), l.drop (k + 1 + b.toNat + e)) := by
    rw [ht]
    simp only [expL, if_true, hq]
    cases b with
    | true =>
      simp only [Bool.toNat_true] at he ⊢
      rw [← h5, List.drop_drop]
      simp only [if_true]
      rw [he, List.drop_drop]
    | false =>
      simp only [Bool.toNat_false, Nat.add_zero] at he ⊢
      rw [← h5]
      simp only [Bool.false_eq_true, if_false]
      rw [he, List.drop_drop]
  rw [h4, hx]
  by_cases h0 : e = 0
  · rw [if_pos h0, if_pos h0]; rfl
  · rw [if_neg h0, if_neg h0]; rfl

set_option maxRecDepth 100000 in
set_option maxHeartbeats 16000000 in
theorem numberP_ref (w : World) (A1 A2 A3 A4 : Option Addr) (n1 n2 n3 n4 c1 c2 c3 c4 : Nat) (p : Pt) (A : Option Addr) (cap : Nat) (l : List Int) (i : Nat) (hl : RL w A l) (hcap : l.length ≤ cap) (hlen : l.length ≤ 120) (hi : i ≤ l.length)
    (hz : p.nm = zNm) :
    Calls Try.prog 65 #[.agg (ptCells (.slice A1 n1 c1) (.slice A2 n2 c2) (.slice A3 n3 c3) (.slice A4 n4 c4) p), .slice A l.length cap, .int .i64 i] w fun e w' =>
      NumR (.slice A1 n1 c1) (.slice A2 n2 c2) (.slice A3 n3 c3) (.slice A4 n4 c4) p l (numberL (l.drop i)) e ∧ w.grownBy w' none := by
  have H0 : Hid (SI w ((w.alloc (.cells (ptCells (.slice A1 n1 c1) (.slice A2 n2 c2) (.slice A3 n3 c3) (.slice A4 n4 c4) p) 24)).alloc (.cells zCells 24)) (ptCells (.slice A1 n1 c1) (.slice A2 n2 c2) (.slice A3 n3 c3) (.slice A4 n4 c4) p) zCells) := SI.new w _ _
  have CAT : Hid (∀ W, w.grownBy W none → ∀ j : Nat, Calls Try.prog 39 #[.slice A l.length cap, .int .i64 j] W fun e w' => e = .returned (.int .i32 (atL (l.drop j))) ∧ W.grownBy w' none) := fun W hW j => at_ref W A cap l (hl.grown hW (by simp)) hcap (by omega) j
  have CMN : Hid (∀ W, w.grownBy W none → ∀ (j : Nat) (_ : j ≤ 1000) (c : Int) (_ : 0 ≤ c) (n : Nat) (_ : runLen c (l.drop j) = n), Calls Try.prog 87 #[.slice A l.length cap, .int .i64 j, .int .i32 c] W fun e w' => e = .returned (.int .i64 n) ∧ W.grownBy w' none) := fun W hW j hj c hc n hn => by
    have := many_ref W A cap l (hl.grown hW (by simp)) hcap (by omega) j (by omega) c hc
    rwa [hn] at this
  have CPL : Hid (∀ W, w.grownBy W none → Calls Try.prog 88 #[.agg (ptCells (.slice A1 n1 c1) (.slice A2 n2 c2) (.slice A3 n3 c3) (.slice A4 n4 c4) p), .slice A l.length cap, .int .i64 i] W fun e w' => PlaR (.slice A1 n1 c1) (.slice A2 n2 c2) (.slice A3 n3 c3) (.slice A4 n4 c4) p l (placesL 0 0 0 [] (l.drop i)) e ∧ W.grownBy w' none) := fun W hW => places_ref W A1 A2 A3 A4 n1 n2 n3 n4 c1 c2 c3 c4 p A cap l i (hl.grown hW (by simp)) hcap hlen hi (by rw [hz]; rfl) (by rw [hz]; rfl) (by rw [hz]; rfl) (by rw [hz]; rfl)
  have HLN := Lib.hid hlen
  have HII := Lib.hid hi
  have HZ := Lib.hid hz
  obtain ⟨n, hn⟩ : ∃ n, runLen 64 (l.drop i) = n := ⟨_, rfl⟩
  have HNN := Lib.hid hn
  have hnl : n + i ≤ 120 := by have := runL_le 64 (l.drop i); rw [hn, List.length_drop] at this; omega
  have M64 : Hid (∀ W, w.grownBy W none → Calls Try.prog 87 #[.slice A l.length cap, .int .i64 i, .int .i32 64] W fun e w' => e = .returned (.int .i64 n) ∧ W.grownBy w' none) := fun W hW => CMN.out W hW i (by omega) 64 (by omega) n HNN.out
  clear hl hz hlen hi hn
  go_enter Try.func65, Try.ntmps65
  go_upto_region 1 with fail
  change Code.wp _ _ _ _ ((w.alloc (.cells (ptCells (.slice A1 n1 c1) (.slice A2 n2 c2) (.slice A3 n3 c3) (.slice A4 n4 c4) p) 24)).alloc (.cells zCells 24))
  generalize (w.alloc (.cells (ptCells (.slice A1 n1 c1) (.slice A2 n2 c2) (.slice A3 n3 c3) (.slice A4 n4 c4) p) 24)).alloc (.cells zCells 24) = W0 at *
  go_upto_if 20 with (first
    | (go_at_call 87; refine (M64.out _ (by exact H0.out.gr)).mono ?_; rintro e w1 ⟨rfl, hg⟩; have H1 := Lib.hid (H0.out.grown hg); clear hg))
  clear M64 H0
  go_cut [2] (fun v2 wx => ∃ (k : Nat) (nm : Nm), v2 = .int .i64 k ∧ Hid (SI w wx (ptCells (.slice A1 n1 c1) (.slice A2 n2 c2) (.slice A3 n3 c3) (.slice A4 n4 c4) { p with nm := nm }) zCells) ∧ Hid (NumE l i k nm))
  case first =>
    by_cases h0 : 0 < n
    · have h0b : decide (0 < n) = true := by simpa using h0
      obtain ⟨m, hm⟩ : ∃ m, runLen 35 (l.drop (i + n)) = m := ⟨_, rfl⟩
      have HE := Lib.hid (numE_sig HII.out HNN.out h0 hm)
      have hml : m + n + i ≤ 120 := by have := runL_le 35 (l.drop (i + n)); rw [hm, List.length_drop] at this; have := HLN.out; omega
      have M35 : Hid (∀ W, w.grownBy W none → Calls Try.prog 87 #[.slice A l.length cap, .int .i64 ((i : Int) + (n : Int)), .int .i32 35] W fun e w' => e = .returned (.int .i64 m) ∧ W.grownBy w' none) := fun W hW => CMN.out W hW (i + n) (by omega) 35 (by omega) m hm
      clear hm CAT CMN CPL
      go_wp2_with (first
        | (go_at_call 87; refine (M35.out _ (by exact H1.out.gr)).mono ?_; rintro e w2 ⟨rfl, hg⟩; have H2 := Lib.hid (H1.out.grown hg); have e11 : w2.cell? ⟨w.heap.size, 11, none⟩ = some (.int .i64 p.nm.minSig) := H2.out.b1.cell 11; have f11 : w2.frozen? ⟨w.heap.size, 11, none⟩ = false := H2.out.b1.frozen 11; have e12 : w2.cell? ⟨w.heap.size, 12, none⟩ = some (.int .i64 p.nm.maxSig) := H2.out.b1.cell 12; have f12 : w2.frozen? ⟨w.heap.size, 12, none⟩ = false := H2.out.b1.frozen 12; clear hg))
      go_meet
      refine ⟨i + n + m, _, by push_cast; rfl, ?_, HE⟩
      have := (H2.out.set1 11 (.int .i64 n)).set1 12 (.int .i64 ((n : Int) + m))
      rw [Hid]
      have hp : ptCells (.slice A1 n1 c1) (.slice A2 n2 c2) (.slice A3 n3 c3) (.slice A4 n4 c4) { p with nm := { zNm with minSig := (n : Int), maxSig := (n : Int) + m } } = ((ptCells (.slice A1 n1 c1) (.slice A2 n2 c2) (.slice A3 n3 c3) (.slice A4 n4 c4) p).setIfInBounds 11 (.int .i64 n)).setIfInBounds 12 (.int .i64 ((n : Int) + m)) := by
        simp only [ptCells, HZ.out]; rfl
      rw [hp]
      exact this
    · have h0b : decide (0 < n) = false := by simpa using h0
      have hn0 : n = 0 := by omega
      rw [hn0] at HNN
      clear hn0
      have CP2 : Hid (∀ W, w.grownBy W none → Calls Try.prog 88 #[.agg (ptCells (.slice A1 n1 c1) (.slice A2 n2 c2) (.slice A3 n3 c3) (.slice A4 n4 c4) p), .slice A l.length cap, .int .i64 i] W fun e w' => (∃ p' a b, e = .returned (.tuple #[.agg (ptCells (.slice A1 n1 c1) (.slice A2 n2 c2) (.slice A3 n3 c3) (.slice A4 n4 c4) p'), .int .i64 a, .bool b]) ∧ Hid (PlaB p l (placesL 0 0 0 [] (l.drop i)) p' a b)) ∧ W.grownBy w' none) := fun W hW => (CPL.out W hW).mono fun e w' ⟨h1, h2⟩ => ⟨plaB_of h1, h2⟩
      clear CPL
      go_upto_region 7 with fail
      go_cut [11, 12, 13] (fun v11 v12 v13 wx => ∃ (g : Nat) (p' : Pt) (a : Int) (b : Bool), v11 = .pointer (some ⟨g, 0, none⟩) ∧ v12 = .int .i64 a ∧ v13 = .bool b ∧ Hid (SI w wx (ptCells (.slice A1 n1 c1) (.slice A2 n2 c2) (.slice A3 n3 c3) (.slice A4 n4 c4) p) zCells) ∧ Hid (Blk wx g 24 (ptCells (.slice A1 n1 c1) (.slice A2 n2 c2) (.slice A3 n3 c3) (.slice A4 n4 c4) p')) ∧ Hid (PlaB p l (placesL 0 0 0 [] (l.drop i)) p' a b))
      case first =>
        go_wp2_with (first
          | (refine wpList_load_mid rfl 24 _ rfl w.heap.size 0 rfl (ptCells (.slice A1 n1 c1) (.slice A2 n2 c2) (.slice A3 n3 c3) (.slice A4 n4 c4) p).toList _ (by exact row_range H1.out.b1) Try.underlying24 rfl (info24c _ _ _ _ _) ?_)
          | (go_at_call 88; (with_reducible refine (CP2.out _ (by exact H1.out.gr)).mono ?_); rintro e w2 ⟨⟨p', a, b, rfl, hb⟩, hg⟩; have HPB := hb; have H2 := Lib.hid (H1.out.grown hg); have HW := Lib.hid (Blk.new w2 24 zCells); clear hg hb)
          | (refine wpList_store_row rfl 24 _ _ rfl w2.heap.size _ rfl rfl 24 zCells HW.out (by exact info24) (by rfl) (by simp [ptCells, Value.oneCell']) ?_))
        go_meet
        exact ⟨w2.heap.size, p', a, b, rfl, rfl, rfl, (H2.out.new3 zCells _).1, (H2.out.new3 zCells _).2, HPB⟩
      case rest =>
        obtain ⟨g3, p', a', b', rfl, rfl, rfl, HS, HG, HPB⟩ := hcut
        cases hpl : placesL 0 0 0 [] (l.drop i) with
        | none =>
          have HB : Hid (numberL (l.drop i) = none) := numE_none HNN.out hpl
          have hb' : b' = false := by have := HPB.out; rw [hpl] at this; exact this
          subst hb'
          clear CP2 CAT CMN hpl H1
          go_wp2_with (first
            | (refine wpList_load_mid rfl 24 _ rfl w.heap.size 0 rfl (ptCells (.slice A1 n1 c1) (.slice A2 n2 c2) (.slice A3 n3 c3) (.slice A4 n4 c4) p).toList _ (by exact row_range HS.out.b1) Try.underlying24 rfl (info24c _ _ _ _ _) ?_)
            | (refine wpList_store_row rfl 24 _ _ rfl (w.heap.size + 1) _ rfl rfl 24 zCells HS.out.b2 (by exact info24) (by rfl) (by simp [ptCells, Value.oneCell']) ?_))
          refine bodyPost_ret (ret24 rfl _ _ (w.heap.size + 1) _ rfl (HS.out.row2 _).b2 rfl) rfl ?_
          refine ⟨?_, (HS.out.row2 _).gr⟩
          rw [HB.out]
          exact ⟨_, _, rfl⟩
        | some q =>
          obtain ⟨⟨qh, qm, q1, q2⟩, r⟩ := q
          have hpb := HPB.out
          rw [hpl] at hpb
          obtain ⟨hp', ha', hb'⟩ := hpb
          rw [HZ.out] at hp'
          subst hp' hb'
          obtain ⟨k, hk⟩ : ∃ k, l.length - r.length = k := ⟨_, rfl⟩
          simp only [hk] at ha'
          subst ha'
          have hd : l.drop k = r := by
            obtain ⟨j, hj⟩ := placesL_suf _ _ _ _ _ _ hpl
            rw [List.drop_drop] at hj
            rw [← hk]
            exact drop_len hj
          have hkl : k ≤ l.length := by omega
          have hk120 : k ≤ 120 := by have := HLN.out; omega
          have CK : Hid (∀ W, w.grownBy W none → Calls Try.prog 39 #[.slice A l.length cap, .int .i64 (k : Int)] W fun e w' => e = .returned (.int .i32 (atL (l.drop k))) ∧ W.grownBy w' none) := fun W hW => CAT.out W hW k
          obtain ⟨a, ha⟩ : ∃ a, runLen 48 (l.drop (k + 1)) = a := ⟨_, rfl⟩
          obtain ⟨b, hb⟩ : ∃ b, runLen 35 (l.drop (k + 1 + a)) = b := ⟨_, rfl⟩
          have hal : a ≤ 120 := by have := runL_le 48 (l.drop (k + 1)); rw [ha, List.length_drop] at this; have := HLN.out; omega
          have hbl : b ≤ 120 := by have := runL_le 35 (l.drop (k + 1 + a)); rw [hb, List.length_drop] at this; have := HLN.out; omega
          have M48 : Hid (∀ W, w.grownBy W none → Calls Try.prog 87 #[.slice A l.length cap, .int .i64 ((k : Int) + 1), .int .i32 48] W fun e w' => e = .returned (.int .i64 a) ∧ W.grownBy w' none) := fun W hW => CMN.out W hW (k + 1) (by omega) 48 (by omega) a ha
          have M35 : Hid (∀ W, w.grownBy W none → Calls Try.prog 87 #[.slice A l.length cap, .int .i64 ((k : Int) + 1 + (a : Int)), .int .i32 35] W fun e w' => e = .returned (.int .i64 b) ∧ W.grownBy w' none) := fun W hW => CMN.out W hW (k + 1 + a) (by omega) 35 (by omega) b hb
          have HF := Lib.hid (And.intro hpl (And.intro hk (And.intro hd (And.intro ha hb))))
          clear CP2 CAT CMN hpl H1 HPB hk hd hkl ha hb h0 h0b
          go_upto_region 12 with (first
            | (refine wpList_load_mid rfl 24 _ rfl g3 0 rfl (ptCells (.slice A1 n1 c1) (.slice A2 n2 c2) (.slice A3 n3 c3) (.slice A4 n4 c4) { p with nm := { zNm with hash := qh, minInt := qm, g1 := q1, g2 := q2 } }).toList _ (by exact row_range HG.out) Try.underlying24 rfl (info24c _ _ _ _ _) ?_)
            | (refine wpList_store_row rfl 24 _ _ rfl w.heap.size _ rfl rfl 24 (ptCells (.slice A1 n1 c1) (.slice A2 n2 c2) (.slice A3 n3 c3) (.slice A4 n4 c4) p) HS.out.b1 (by exact info24) (by rfl) (by simp [ptCells, Value.oneCell']) ?_))
          have H5 : Hid (SI w (wc.setRow w.heap.size (ptCells (.slice A1 n1 c1) (.slice A2 n2 c2) (.slice A3 n3 c3) (.slice A4 n4 c4) { p with nm := { zNm with hash := qh, minInt := qm, g1 := q1, g2 := q2 } })) (ptCells (.slice A1 n1 c1) (.slice A2 n2 c2) (.slice A3 n3 c3) (.slice A4 n4 c4) { p with nm := { zNm with hash := qh, minInt := qm, g1 := q1, g2 := q2 } }) zCells) := HS.out.row1 _
          clear HS HG
          change Code.wp _ _ _ _ (wc.setRow w.heap.size (ptCells (.slice A1 n1 c1) (.slice A2 n2 c2) (.slice A3 n3 c3) (.slice A4 n4 c4) { p with nm := { zNm with hash := qh, minInt := qm, g1 := q1, g2 := q2 } }))
          generalize wc.setRow w.heap.size (ptCells (.slice A1 n1 c1) (.slice A2 n2 c2) (.slice A3 n3 c3) (.slice A4 n4 c4) { p with nm := { zNm with hash := qh, minInt := qm, g1 := q1, g2 := q2 } }) = W5 at *
          by_cases hat : atL (l.drop k) = 46
          · rw [hat] at CK
            by_cases hab : a + b = 0
            · have HB : Hid (numberL (l.drop i) = none) := numE_bad HNN.out HF.out.1 HF.out.2.2.1 hat HF.out.2.2.2.1 HF.out.2.2.2.2 hab
              have habz : ((a : Int) + (b : Int) == 0) = true := by simp; omega
              have habz2 : (a + b == 0) = true := by simpa using hab
              have HAB := Lib.hid hab
              clear hat hab
              go_wp2_with (first
                | (go_at_call 39; (with_reducible refine (CK.out _ (by exact H5.out.gr)).mono ?_); rintro e w3 ⟨rfl, hg⟩; have H6 := Lib.hid (H5.out.grown hg); clear hg)
                | (go_at_call 87; (with_reducible refine (M48.out _ (by exact H6.out.gr)).mono ?_); rintro e w4 ⟨rfl, hg⟩; have H8 := Lib.hid (H6.out.grown hg); clear hg)
                | (go_at_call 87; (with_reducible refine (M35.out _ (by exact H8.out.gr)).mono ?_); rintro e w5 ⟨rfl, hg⟩; have H7 := Lib.hid (H8.out.grown hg); have e7 : w5.cell? ⟨w.heap.size, 7, none⟩ = some (.int .i64 0) := H7.out.b1.cell 7; have f7 : w5.frozen? ⟨w.heap.size, 7, none⟩ = false := H7.out.b1.frozen 7; have e8 : w5.cell? ⟨w.heap.size, 8, none⟩ = some (.int .i64 0) := H7.out.b1.cell 8; have f8 : w5.frozen? ⟨w.heap.size, 8, none⟩ = false := H7.out.b1.frozen 8; clear hg)
                | (refine wpList_load_mid rfl 24 _ rfl w.heap.size 0 rfl (ptCells (.slice A1 n1 c1) (.slice A2 n2 c2) (.slice A3 n3 c3) (.slice A4 n4 c4) { p with nm := { zNm with hash := qh, minInt := qm, g1 := q1, g2 := q2, minFrac := (a : Int), maxFrac := (a : Int) + b } }).toList _ (by exact row_range (show Blk _ _ _ (ptCells (.slice A1 n1 c1) (.slice A2 n2 c2) (.slice A3 n3 c3) (.slice A4 n4 c4) { p with nm := { zNm with hash := qh, minInt := qm, g1 := q1, g2 := q2, minFrac := (a : Int), maxFrac := (a : Int) + b } }) from ((H7.out.set1 7 (.int .i64 a)).set1 8 (.int .i64 ((a : Int) + b))).b1)) Try.underlying24 rfl (info24c _ _ _ _ _) ?_)
                | (refine wpList_store_row rfl 24 _ _ rfl (w.heap.size + 1) _ rfl rfl 24 zCells ((H7.out.set1 7 (.int .i64 a)).set1 8 (.int .i64 ((a : Int) + b))).b2 (by exact info24) (by rfl) (by simp [ptCells, Value.oneCell']) ?_))
              refine bodyPost_ret (ret24 rfl _ _ (w.heap.size + 1) _ rfl (((H7.out.set1 7 (.int .i64 a)).set1 8 (.int .i64 ((a : Int) + b))).row2 _).b2 rfl) rfl ?_
              refine ⟨?_, (((H7.out.set1 7 (.int .i64 a)).set1 8 (.int .i64 ((a : Int) + b))).row2 _).gr⟩
              rw [HB.out]
              exact ⟨{ p with nm := { zNm with hash := qh, minInt := qm, g1 := q1, g2 := q2, minFrac := (a : Int), maxFrac := (a : Int) + b } }, _, rfl⟩
            · have HE : Hid (NumE l i (k + 1 + a + b) { zNm with hash := qh, minInt := qm, g1 := q1, g2 := q2, minFrac := (a : Int), maxFrac := (a : Int) + b }) := numE_frac HII.out HNN.out HF.out.1 HF.out.2.2.1 hat HF.out.2.2.2.1 HF.out.2.2.2.2 (by omega)
              have habz : ((a : Int) + (b : Int) == 0) = false := by simp; omega
              have habz2 : (a + b == 0) = false := by simpa using hab
              clear hat hab
              go_wp2_with (first
                | (go_at_call 39; (with_reducible refine (CK.out _ (by exact H5.out.gr)).mono ?_); rintro e w3 ⟨rfl, hg⟩; have H6 := Lib.hid (H5.out.grown hg); clear hg)
                | (go_at_call 87; (with_reducible refine (M48.out _ (by exact H6.out.gr)).mono ?_); rintro e w4 ⟨rfl, hg⟩; have H8 := Lib.hid (H6.out.grown hg); clear hg)
                | (go_at_call 87; (with_reducible refine (M35.out _ (by exact H8.out.gr)).mono ?_); rintro e w5 ⟨rfl, hg⟩; have H7 := Lib.hid (H8.out.grown hg); have e7 : w5.cell? ⟨w.heap.size, 7, none⟩ = some (.int .i64 0) := H7.out.b1.cell 7; have f7 : w5.frozen? ⟨w.heap.size, 7, none⟩ = false := H7.out.b1.frozen 7; have e8 : w5.cell? ⟨w.heap.size, 8, none⟩ = some (.int .i64 0) := H7.out.b1.cell 8; have f8 : w5.frozen? ⟨w.heap.size, 8, none⟩ = false := H7.out.b1.frozen 8; clear hg))
              go_meet
              refine ⟨k + 1 + a + b, _, by push_cast; rfl, ?_, HE⟩
              exact ((H7.out.set1 7 (.int .i64 a)).set1 8 (.int .i64 ((a : Int) + b)))
          · have HE : Hid (NumE l i k { zNm with hash := qh, minInt := qm, g1 := q1, g2 := q2 }) := numE_whole HII.out HNN.out HF.out.1 HF.out.2.1 HF.out.2.2.1 hat
            have hab : (atL (l.drop k) == 46) = false := by simpa using hat
            clear hat
            go_wp2_with (first
                | (go_at_call 39; (with_reducible refine (CK.out _ (by exact H5.out.gr)).mono ?_); rintro e w3 ⟨rfl, hg⟩; have H6 := Lib.hid (H5.out.grown hg); clear hg)
                | (go_at_call 87; (with_reducible refine (M48.out _ (by exact H6.out.gr)).mono ?_); rintro e w4 ⟨rfl, hg⟩; have H8 := Lib.hid (H6.out.grown hg); clear hg)
                | (go_at_call 87; (with_reducible refine (M35.out _ (by exact H8.out.gr)).mono ?_); rintro e w5 ⟨rfl, hg⟩; have H7 := Lib.hid (H8.out.grown hg); have e7 : w5.cell? ⟨w.heap.size, 7, none⟩ = some (.int .i64 0) := H7.out.b1.cell 7; have f7 : w5.frozen? ⟨w.heap.size, 7, none⟩ = false := H7.out.b1.frozen 7; have e8 : w5.cell? ⟨w.heap.size, 8, none⟩ = some (.int .i64 0) := H7.out.b1.cell 8; have f8 : w5.frozen? ⟨w.heap.size, 8, none⟩ = false := H7.out.b1.frozen 8; clear hg))
            go_meet
            exact ⟨k, _, rfl, H6, HE⟩
  case rest =>
    obtain ⟨k, nm, rfl, HS, HE⟩ := hcut
    have hk120 : k ≤ 120 := by have := HE.out.1; have := HLN.out; omega
    have CK : Hid (∀ W, w.grownBy W none → Calls Try.prog 39 #[.slice A l.length cap, .int .i64 (k : Int)] W fun e w' => e = .returned (.int .i32 (atL (l.drop k))) ∧ W.grownBy w' none) := fun W hW => CAT.out W hW k
    have CK1 : Hid (∀ W, w.grownBy W none → Calls Try.prog 39 #[.slice A l.length cap, .int .i64 ((k : Int) + 1)] W fun e w' => e = .returned (.int .i32 (atL (l.drop (k + 1)))) ∧ W.grownBy w' none) := fun W hW => CAT.out W hW (k + 1)
    by_cases hat : atL (l.drop k) = 69
    · rw [hat] at CK
      clear CAT CPL H1
      by_cases hb : atL (l.drop (k + 1)) = 43
      · rw [hb] at CK1
        obtain ⟨e0, he⟩ : ∃ e0, runLen 48 (l.drop (k + 1 + 1)) = e0 := ⟨_, rfl⟩
        have hel : e0 ≤ 120 ∧ (e0 ≠ 0 → k + 1 + 1 + e0 ≤ l.length) := by have := runL_le 48 (l.drop (k + 1 + 1)); rw [he, List.length_drop] at this; have := HLN.out; omega
        have HX := Lib.hid (numE_exp HE.out hat true (by simpa using hb) e0 he)
        have HKX : Hid (e0 ≠ 0 → ((l.length - (l.drop (k + 1 + true.toNat + e0)).length : Nat) : Int) = (k : Int) + 1 + 1 + e0) := by intro h; have := hel.2 h; rw [List.length_drop]; simp only [Bool.toNat_true]; omega
        have M48 : Hid (∀ W, w.grownBy W none → Calls Try.prog 87 #[.slice A l.length cap, .int .i64 ((k : Int) + 1 + 1), .int .i32 48] W fun e w' => e = .returned (.int .i64 e0) ∧ W.grownBy w' none) := fun W hW => CMN.out W hW (k + 1 + 1) (by omega) 48 (by omega) e0 he
        have he120 := hel.1
        clear CMN hat hb he hel HE
        go_upto_region 27 with (first
          | (go_at_call 39; (with_reducible refine (CK.out _ (by exact HS.out.gr)).mono ?_); rintro e w3 ⟨rfl, hg⟩; have H6 := Lib.hid (HS.out.grown hg); clear hg)
          | (go_at_call 39; (with_reducible refine (CK1.out _ (by exact H6.out.gr)).mono ?_); rintro e w4 ⟨rfl, hg⟩; have H7 := Lib.hid (H6.out.grown hg); have e14 : w4.cell? ⟨w.heap.size, 14, none⟩ = some (.bool nm.expPlus) := H7.out.b1.cell 14; have f14 : w4.frozen? ⟨w.heap.size, 14, none⟩ = false := H7.out.b1.frozen 14; clear hg)
          | (go_at_call 87; (with_reducible refine (M48.out _ (by exact (H7.out.set1 14 (.bool true)).gr)).mono ?_); rintro e w5 ⟨rfl, hg⟩; have H8 := Lib.hid ((H7.out.set1 14 (.bool true)).grown hg); have e13 : w5.cell? ⟨w.heap.size, 13, none⟩ = some (.int .i64 nm.exp) := H8.out.b1.cell 13; have f13 : w5.frozen? ⟨w.heap.size, 13, none⟩ = false := H8.out.b1.frozen 13; clear hg))
        have HT : Hid (SI w _ (ptCells (.slice A1 n1 c1) (.slice A2 n2 c2) (.slice A3 n3 c3) (.slice A4 n4 c4) { p with nm := { nm with expPlus := true, exp := (e0 : Int) } }) zCells) := H8.out.set1 13 (.int .i64 e0)
        clear HS H6 H7 H8 e13 f13 e14 f14
        generalize hW5 : (w5.setCell ⟨w.heap.size, 13, none⟩ (.int .i64 e0) : World) = W5 at *
        clear hW5
        have hsz : ((ptCells (.slice A1 n1 c1) (.slice A2 n2 c2) (.slice A3 n3 c3) (.slice A4 n4 c4) { p with nm := { nm with expPlus := true, exp := (e0 : Int) } }) : Array Value).size = 17 := rfl
        have hone : ((ptCells (.slice A1 n1 c1) (.slice A2 n2 c2) (.slice A3 n3 c3) (.slice A4 n4 c4) { p with nm := { nm with expPlus := true, exp := (e0 : Int) } }) : Array Value).all (·.oneCell') = true := by simp [ptCells, Value.oneCell']
        have k13 : ((ptCells (.slice A1 n1 c1) (.slice A2 n2 c2) (.slice A3 n3 c3) (.slice A4 n4 c4) { p with nm := { nm with expPlus := true, exp := (e0 : Int) } }) : Array Value)[13]? = some (.int .i64 e0) := rfl
        obtain ⟨cs5, hcs5⟩ : ∃ y, y = ((ptCells (.slice A1 n1 c1) (.slice A2 n2 c2) (.slice A3 n3 c3) (.slice A4 n4 c4) { p with nm := { nm with expPlus := true, exp := (e0 : Int) } }) : Array Value) := ⟨_, rfl⟩
        have HCS := Lib.hid hcs5
        rw [← hcs5] at HT hsz hone k13
        clear hcs5
        have hinfo : (Try.prog.info? 24).map (·.size) = some cs5.toList.length := by rw [Array.length_toList, hsz]; exact info24
        have HSD : SI w W5.drew cs5 zCells := HT.out.grown (only_drew (only_refl W5 none))
        have hwr : IntKind.i64.wrap ((k : Int) + 1 + 1 + (e0 : Int)) = (k : Int) + 1 + 1 + (e0 : Int) := by rw [IntKind.wrap_i64]; omega
        refine wp_region_held_drew (S := fun W => ∃ ds, SI w W cs5 ds) (by kernel_rfl) ⟨_, HSD⟩ (fun _ => ?_)
        refine wpAnyH_take (i := 0) rfl (by kernel_rfl) (by kernel_rfl) (by kernel_rfl) (fun _ _ _ h => h) (yieldsIf_load_mid (by rfl) 24 _ rfl w.heap.size 0 rfl cs5.toList _ (fun W hW => by obtain ⟨ds, hd⟩ := hW; exact row_range hd.b1) Try.underlying24 rfl hinfo) ⟨_, HSD⟩ ?_
        try simp only [Act.put, List.setIfInBounds_toArray, List.set_cons_zero, List.set_cons_succ, Array.toArray_toList, List.getElem_toArray, List.getElem_cons_zero, List.getElem_cons_succ]
        refine wpAnyH_take (i := 1) (v := .int .i64 ((k : Int) + 1 + 1)) rfl (by kernel_rfl) (by kernel_rfl) (by kernel_rfl) (fun _ _ _ h => h) (.inl ⟨by rfl, ?_⟩) ⟨_, HSD⟩ ?_
        · intro W hW
          go_simp
        try simp only [Act.put, List.setIfInBounds_toArray, List.set_cons_zero, List.set_cons_succ, Array.toArray_toList, List.getElem_toArray, List.getElem_cons_zero, List.getElem_cons_succ]
        refine wpAnyH_take (i := 2) (v := .pointer (some ⟨w.heap.size, 13, none⟩)) rfl (by kernel_rfl) (by kernel_rfl) (by kernel_rfl) (fun _ _ _ h => h) (.inl ⟨by rfl, ?_⟩) ⟨_, HSD⟩ ?_
        · intro W hW
          go_simp
        try simp only [Act.put, List.setIfInBounds_toArray, List.set_cons_zero, List.set_cons_succ, Array.toArray_toList, List.getElem_toArray, List.getElem_cons_zero, List.getElem_cons_succ]
        refine wpAnyH_take (i := 3) (v := .int .i64 e0) rfl (by kernel_rfl) (by kernel_rfl) (by kernel_rfl) (fun _ _ _ h => h) (.inl ⟨by rfl, ?_⟩) ⟨_, HSD⟩ ?_
        · intro W hW
          obtain ⟨ds, hd⟩ := hW
          have hc := hd.b1.cell 13
          rw [k13] at hc
          go_simp
        try simp only [Act.put, List.setIfInBounds_toArray, List.set_cons_zero, List.set_cons_succ, Array.toArray_toList, List.getElem_toArray, List.getElem_cons_zero, List.getElem_cons_succ]
        refine wpAnyH_take (i := 4) (v := .int .i64 ((k : Int) + 1 + 1 + (e0 : Int))) rfl (by kernel_rfl) (by kernel_rfl) (by kernel_rfl) (fun _ _ _ h => h) (.inl ⟨by rfl, ?_⟩) ⟨_, HSD⟩ ?_
        · intro W hW
          go_simp
        try simp only [Act.put, List.setIfInBounds_toArray, List.set_cons_zero, List.set_cons_succ, Array.toArray_toList, List.getElem_toArray, List.getElem_cons_zero, List.getElem_cons_succ]
        refine wpAnyH_take (i := 5) (v := .pointer (some ⟨w.heap.size, 13, none⟩)) rfl (by kernel_rfl) (by kernel_rfl) (by kernel_rfl) (fun _ _ _ h => h) (.inl ⟨by rfl, ?_⟩) ⟨_, HSD⟩ ?_
        · intro W hW
          go_simp
        try simp only [Act.put, List.setIfInBounds_toArray, List.set_cons_zero, List.set_cons_succ, Array.toArray_toList, List.getElem_toArray, List.getElem_cons_zero, List.getElem_cons_succ]
        refine wpAnyH_take (i := 6) (v := .int .i64 e0) rfl (by kernel_rfl) (by kernel_rfl) (by kernel_rfl) (fun _ _ _ h => h) (.inl ⟨by rfl, ?_⟩) ⟨_, HSD⟩ ?_
        · intro W hW
          obtain ⟨ds, hd⟩ := hW
          have hc := hd.b1.cell 13
          rw [k13] at hc
          go_simp
        try simp only [Act.put, List.setIfInBounds_toArray, List.set_cons_zero, List.set_cons_succ, Array.toArray_toList, List.getElem_toArray, List.getElem_cons_zero, List.getElem_cons_succ]
        refine wpAnyH_take (i := 7) (v := .bool (decide (0 < e0))) rfl (by kernel_rfl) (by kernel_rfl) (by kernel_rfl) (fun _ _ _ h => h) (.inl ⟨by rfl, ?_⟩) ⟨_, HSD⟩ ?_
        · intro W hW
          go_simp
        try simp only [Act.put, List.setIfInBounds_toArray, List.set_cons_zero, List.set_cons_succ, Array.toArray_toList, List.getElem_toArray, List.getElem_cons_zero, List.getElem_cons_succ]
        refine wpAnyH_ready (rs := [8]) (by kernel_rfl) (by simp) ?_
        refine AllReadyH.cons (o := _) rfl (fun K hK => ?_) AllReadyH.nil
        rw [if_pos (by rfl)]
        refine wp_store_row 24 _ _ rfl (w.heap.size + 1) cs5 rfl rfl 24 zCells HSD.b2 (by rw [hsz]; exact info24) (by rw [hsz]; rfl) hone ?_
        refine hK.out _ _ ⟨_, HSD.row2 cs5⟩ (fun _ => ?_)
        clear hK K
        try simp only [Act.put, List.setIfInBounds_toArray, List.set_cons_zero, List.set_cons_succ, Array.toArray_toList, List.getElem_toArray, List.getElem_cons_zero, List.getElem_cons_succ]
        refine wpAnyH_take (i := 9) (v := .int .i64 ((k : Int) + 1 + 1 + (e0 : Int))) rfl (by kernel_rfl) (by kernel_rfl) (by kernel_rfl) (fun _ _ _ h => h) (.inl ⟨by rfl, ?_⟩) ⟨_, HSD.row2 cs5⟩ ?_
        · intro W hW
          go_simp
        try simp only [Act.put, List.setIfInBounds_toArray, List.set_cons_zero, List.set_cons_succ, Array.toArray_toList, List.getElem_toArray, List.getElem_cons_zero, List.getElem_cons_succ]
        refine wpAnyH_take (i := 10) (v := .bool (decide (0 < e0))) rfl (by kernel_rfl) (by kernel_rfl) (by kernel_rfl) (fun _ _ _ h => h) (.inl ⟨by rfl, ?_⟩) ⟨_, HSD.row2 cs5⟩ ?_
        · intro W hW
          go_simp
        try simp only [Act.put, List.setIfInBounds_toArray, List.set_cons_zero, List.set_cons_succ, Array.toArray_toList, List.getElem_toArray, List.getElem_cons_zero, List.getElem_cons_succ]
        refine wpAnyH_done (by kernel_rfl) ?_ _
        go_wp2_with fail
        refine bodyPost_ret (ret24 rfl _ _ (w.heap.size + 1) _ rfl (HSD.row2 cs5).b2 hsz) rfl ?_
        refine ⟨?_, (HSD.row2 cs5).gr⟩
        rw [HX.out, HCS.out]
        by_cases hz : e0 = 0
        · rw [if_pos hz]
          have hd0 : decide (0 < e0) = false := by simp; omega
          refine ⟨{ p with nm := { nm with expPlus := true, exp := (e0 : Int) } }, (k : Int) + 1 + 1 + (e0 : Int), ?_⟩
          show _ = Ending.returned (.tuple #[_, _, .bool false])
          rw [← hd0]
          rfl
        · rw [if_neg hz]
          have hd0 : decide (0 < e0) = true := by simp; omega
          show _ = Ending.returned (.tuple #[_, .int .i64 ((l.length - (l.drop _).length : Nat) : Int), .bool true])
          rw [HKX.out hz, ← hd0]
          rfl
      · have hb2 : (atL (l.drop (k + 1)) == 43) = false := by simpa using hb
        obtain ⟨e0, he⟩ : ∃ e0, runLen 48 (l.drop (k + 1)) = e0 := ⟨_, rfl⟩
        have hel : e0 ≤ 120 ∧ (e0 ≠ 0 → k + 1 + e0 ≤ l.length) := by have := runL_le 48 (l.drop (k + 1)); rw [he, List.length_drop] at this; have := HLN.out; omega
        have HX := Lib.hid (numE_exp HE.out hat false (by simpa using hb) e0 he)
        have HKX : Hid (e0 ≠ 0 → ((l.length - (l.drop (k + 1 + false.toNat + e0)).length : Nat) : Int) = (k : Int) + 1 + e0) := by intro h; have := hel.2 h; rw [List.length_drop]; simp only [Bool.toNat_false]; omega
        have HNP : Hid (({ p with nm := { nm with expPlus := false, exp := (e0 : Int) } } : Pt) = { p with nm := { nm with exp := (e0 : Int) } }) := by
          show _ = ({ p with nm := { nm with expPlus := nm.expPlus, exp := (e0 : Int) } } : Pt)
          rw [HE.out.2.2.1]
        have M48 : Hid (∀ W, w.grownBy W none → Calls Try.prog 87 #[.slice A l.length cap, .int .i64 ((k : Int) + 1), .int .i32 48] W fun e w' => e = .returned (.int .i64 e0) ∧ W.grownBy w' none) := fun W hW => CMN.out W hW (k + 1) (by omega) 48 (by omega) e0 he
        have he120 := hel.1
        clear CMN hat hb he hel HE
        go_upto_region 27 with (first
          | (go_at_call 39; (with_reducible refine (CK.out _ (by exact HS.out.gr)).mono ?_); rintro e w3 ⟨rfl, hg⟩; have H6 := Lib.hid (HS.out.grown hg); clear hg)
          | (go_at_call 39; (with_reducible refine (CK1.out _ (by exact H6.out.gr)).mono ?_); rintro e w4 ⟨rfl, hg⟩; have H7 := Lib.hid (H6.out.grown hg); clear hg)
          | (go_at_call 87; (with_reducible refine (M48.out _ (by exact H7.out.gr)).mono ?_); rintro e w5 ⟨rfl, hg⟩; have H8 := Lib.hid (H7.out.grown hg); have e13 : w5.cell? ⟨w.heap.size, 13, none⟩ = some (.int .i64 nm.exp) := H8.out.b1.cell 13; have f13 : w5.frozen? ⟨w.heap.size, 13, none⟩ = false := H8.out.b1.frozen 13; clear hg))
        have HT : Hid (SI w _ (ptCells (.slice A1 n1 c1) (.slice A2 n2 c2) (.slice A3 n3 c3) (.slice A4 n4 c4) { p with nm := { nm with exp := (e0 : Int) } }) zCells) := H8.out.set1 13 (.int .i64 e0)
        clear HS H6 H7 H8 e13 f13
        generalize hW5 : (w5.setCell ⟨w.heap.size, 13, none⟩ (.int .i64 e0) : World) = W5 at *
        clear hW5
        have hsz : ((ptCells (.slice A1 n1 c1) (.slice A2 n2 c2) (.slice A3 n3 c3) (.slice A4 n4 c4) { p with nm := { nm with exp := (e0 : Int) } }) : Array Value).size = 17 := rfl
        have hone : ((ptCells (.slice A1 n1 c1) (.slice A2 n2 c2) (.slice A3 n3 c3) (.slice A4 n4 c4) { p with nm := { nm with exp := (e0 : Int) } }) : Array Value).all (·.oneCell') = true := by simp [ptCells, Value.oneCell']
        have k13 : ((ptCells (.slice A1 n1 c1) (.slice A2 n2 c2) (.slice A3 n3 c3) (.slice A4 n4 c4) { p with nm := { nm with exp := (e0 : Int) } }) : Array Value)[13]? = some (.int .i64 e0) := rfl
        obtain ⟨cs5, hcs5⟩ : ∃ y, y = ((ptCells (.slice A1 n1 c1) (.slice A2 n2 c2) (.slice A3 n3 c3) (.slice A4 n4 c4) { p with nm := { nm with exp := (e0 : Int) } }) : Array Value) := ⟨_, rfl⟩
        have HCS := Lib.hid hcs5
        rw [← hcs5] at HT hsz hone k13
        clear hcs5
        have hinfo : (Try.prog.info? 24).map (·.size) = some cs5.toList.length := by rw [Array.length_toList, hsz]; exact info24
        have HSD : SI w W5.drew cs5 zCells := HT.out.grown (only_drew (only_refl W5 none))
        have hwr : IntKind.i64.wrap ((k : Int) + 1 + (e0 : Int)) = (k : Int) + 1 + (e0 : Int) := by rw [IntKind.wrap_i64]; omega
        refine wp_region_held_drew (S := fun W => ∃ ds, SI w W cs5 ds) (by kernel_rfl) ⟨_, HSD⟩ (fun _ => ?_)
        refine wpAnyH_take (i := 0) rfl (by kernel_rfl) (by kernel_rfl) (by kernel_rfl) (fun _ _ _ h => h) (yieldsIf_load_mid (by rfl) 24 _ rfl w.heap.size 0 rfl cs5.toList _ (fun W hW => by obtain ⟨ds, hd⟩ := hW; exact row_range hd.b1) Try.underlying24 rfl hinfo) ⟨_, HSD⟩ ?_
        try simp only [Act.put, List.setIfInBounds_toArray, List.set_cons_zero, List.set_cons_succ, Array.toArray_toList, List.getElem_toArray, List.getElem_cons_zero, List.getElem_cons_succ]
        refine wpAnyH_take (i := 1) (v := .int .i64 ((k : Int) + 1)) rfl (by kernel_rfl) (by kernel_rfl) (by kernel_rfl) (fun _ _ _ h => h) (.inl ⟨by rfl, ?_⟩) ⟨_, HSD⟩ ?_
        · intro W hW
          go_simp
        try simp only [Act.put, List.setIfInBounds_toArray, List.set_cons_zero, List.set_cons_succ, Array.toArray_toList, List.getElem_toArray, List.getElem_cons_zero, List.getElem_cons_succ]
        refine wpAnyH_take (i := 2) (v := .pointer (some ⟨w.heap.size, 13, none⟩)) rfl (by kernel_rfl) (by kernel_rfl) (by kernel_rfl) (fun _ _ _ h => h) (.inl ⟨by rfl, ?_⟩) ⟨_, HSD⟩ ?_
        · intro W hW
          go_simp
        try simp only [Act.put, List.setIfInBounds_toArray, List.set_cons_zero, List.set_cons_succ, Array.toArray_toList, List.getElem_toArray, List.getElem_cons_zero, List.getElem_cons_succ]
        refine wpAnyH_take (i := 3) (v := .int .i64 e0) rfl (by kernel_rfl) (by kernel_rfl) (by kernel_rfl) (fun _ _ _ h => h) (.inl ⟨by rfl, ?_⟩) ⟨_, HSD⟩ ?_
        · intro W hW
          obtain ⟨ds, hd⟩ := hW
          have hc := hd.b1.cell 13
          rw [k13] at hc
          go_simp
        try simp only [Act.put, List.setIfInBounds_toArray, List.set_cons_zero, List.set_cons_succ, Array.toArray_toList, List.getElem_toArray, List.getElem_cons_zero, List.getElem_cons_succ]
        refine wpAnyH_take (i := 4) (v := .int .i64 ((k : Int) + 1 + (e0 : Int))) rfl (by kernel_rfl) (by kernel_rfl) (by kernel_rfl) (fun _ _ _ h => h) (.inl ⟨by rfl, ?_⟩) ⟨_, HSD⟩ ?_
        · intro W hW
          go_simp
        try simp only [Act.put, List.setIfInBounds_toArray, List.set_cons_zero, List.set_cons_succ, Array.toArray_toList, List.getElem_toArray, List.getElem_cons_zero, List.getElem_cons_succ]
        refine wpAnyH_take (i := 5) (v := .pointer (some ⟨w.heap.size, 13, none⟩)) rfl (by kernel_rfl) (by kernel_rfl) (by kernel_rfl) (fun _ _ _ h => h) (.inl ⟨by rfl, ?_⟩) ⟨_, HSD⟩ ?_
        · intro W hW
          go_simp
        try simp only [Act.put, List.setIfInBounds_toArray, List.set_cons_zero, List.set_cons_succ, Array.toArray_toList, List.getElem_toArray, List.getElem_cons_zero, List.getElem_cons_succ]
        refine wpAnyH_take (i := 6) (v := .int .i64 e0) rfl (by kernel_rfl) (by kernel_rfl) (by kernel_rfl) (fun _ _ _ h => h) (.inl ⟨by rfl, ?_⟩) ⟨_, HSD⟩ ?_
        · intro W hW
          obtain ⟨ds, hd⟩ := hW
          have hc := hd.b1.cell 13
          rw [k13] at hc
          go_simp
        try simp only [Act.put, List.setIfInBounds_toArray, List.set_cons_zero, List.set_cons_succ, Array.toArray_toList, List.getElem_toArray, List.getElem_cons_zero, List.getElem_cons_succ]
        refine wpAnyH_take (i := 7) (v := .bool (decide (0 < e0))) rfl (by kernel_rfl) (by kernel_rfl) (by kernel_rfl) (fun _ _ _ h => h) (.inl ⟨by rfl, ?_⟩) ⟨_, HSD⟩ ?_
        · intro W hW
          go_simp
        try simp only [Act.put, List.setIfInBounds_toArray, List.set_cons_zero, List.set_cons_succ, Array.toArray_toList, List.getElem_toArray, List.getElem_cons_zero, List.getElem_cons_succ]
        refine wpAnyH_ready (rs := [8]) (by kernel_rfl) (by simp) ?_
        refine AllReadyH.cons (o := _) rfl (fun K hK => ?_) AllReadyH.nil
        rw [if_pos (by rfl)]
        refine wp_store_row 24 _ _ rfl (w.heap.size + 1) cs5 rfl rfl 24 zCells HSD.b2 (by rw [hsz]; exact info24) (by rw [hsz]; rfl) hone ?_
        refine hK.out _ _ ⟨_, HSD.row2 cs5⟩ (fun _ => ?_)
        clear hK K
        try simp only [Act.put, List.setIfInBounds_toArray, List.set_cons_zero, List.set_cons_succ, Array.toArray_toList, List.getElem_toArray, List.getElem_cons_zero, List.getElem_cons_succ]
        refine wpAnyH_take (i := 9) (v := .int .i64 ((k : Int) + 1 + (e0 : Int))) rfl (by kernel_rfl) (by kernel_rfl) (by kernel_rfl) (fun _ _ _ h => h) (.inl ⟨by rfl, ?_⟩) ⟨_, HSD.row2 cs5⟩ ?_
        · intro W hW
          go_simp
        try simp only [Act.put, List.setIfInBounds_toArray, List.set_cons_zero, List.set_cons_succ, Array.toArray_toList, List.getElem_toArray, List.getElem_cons_zero, List.getElem_cons_succ]
        refine wpAnyH_take (i := 10) (v := .bool (decide (0 < e0))) rfl (by kernel_rfl) (by kernel_rfl) (by kernel_rfl) (fun _ _ _ h => h) (.inl ⟨by rfl, ?_⟩) ⟨_, HSD.row2 cs5⟩ ?_
        · intro W hW
          go_simp
        try simp only [Act.put, List.setIfInBounds_toArray, List.set_cons_zero, List.set_cons_succ, Array.toArray_toList, List.getElem_toArray, List.getElem_cons_zero, List.getElem_cons_succ]
        refine wpAnyH_done (by kernel_rfl) ?_ _
        go_wp2_with fail
        refine bodyPost_ret (ret24 rfl _ _ (w.heap.size + 1) _ rfl (HSD.row2 cs5).b2 hsz) rfl ?_
        refine ⟨?_, (HSD.row2 cs5).gr⟩
        rw [HX.out, HCS.out]
        by_cases hz : e0 = 0
        · rw [if_pos hz]
          have hd0 : decide (0 < e0) = false := by simp; omega
          refine ⟨{ p with nm := { nm with exp := (e0 : Int) } }, (k : Int) + 1 + (e0 : Int), ?_⟩
          show _ = Ending.returned (.tuple #[_, _, .bool false])
          rw [← hd0]
          rfl
        · rw [if_neg hz]
          have hd0 : decide (0 < e0) = true := by simp; omega
          show _ = Ending.returned (.tuple #[_, .int .i64 ((l.length - (l.drop _).length : Nat) : Int), .bool true])
          rw [HKX.out hz, ← hd0, HNP.out]
          rfl
    · have HX := Lib.hid (numE_noexp HE.out hat)
      have hab : (atL (l.drop k) == 69) = false := by simpa using hat
      have hab2 : (atL (l.drop k) != 69) = true := by simpa using hat
      clear hat CAT CPL H1 CMN CK1
      go_wp2_with (first
        | (go_at_call 39; (with_reducible refine (CK.out _ (by exact HS.out.gr)).mono ?_); rintro e w3 ⟨rfl, hg⟩; have H6 := Lib.hid (HS.out.grown hg); clear hg)
        | (refine wpList_load_mid rfl 24 _ rfl w.heap.size 0 rfl (ptCells (.slice A1 n1 c1) (.slice A2 n2 c2) (.slice A3 n3 c3) (.slice A4 n4 c4) { p with nm := nm }).toList _ (by exact row_range H6.out.b1) Try.underlying24 rfl (info24c _ _ _ _ _) ?_)
        | (refine wpList_store_row rfl 24 _ _ rfl (w.heap.size + 1) _ rfl rfl 24 zCells H6.out.b2 (by exact info24) (by rfl) (by simp [ptCells, Value.oneCell']) ?_))
      refine bodyPost_ret (ret24 rfl _ _ (w.heap.size + 1) _ rfl (H6.out.row2 _).b2 rfl) rfl ?_
      refine ⟨?_, (H6.out.row2 _).gr⟩
      rw [HX.out.1]
      show _ = Ending.returned (.tuple #[_, .int .i64 ((l.length - (l.drop k).length : Nat) : Int), .bool true])
      rw [HX.out.2]
      rfl
end Go.Proofs.Ytdbcdgojbegakaa

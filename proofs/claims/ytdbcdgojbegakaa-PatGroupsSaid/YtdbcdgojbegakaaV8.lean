/-
The reference's Toks and Same.
-/
import Derived.Test.YtdbcdgojbegakaaV7
import Derived.Test.YtdbcdgojbegakaaE2
namespace Go.Proofs.Ytdbcdgojbegakaa
open Go.RowKit

set_option maxRecDepth 100000 in
set_option maxHeartbeats 4000000 in
theorem toks_ref (w : World) (v1 v2 : Value) (a b : List Tk) (h1 : TL w v1 a) (h2 : TL w v2 b) (ha : a.length ≤ 400) :
    Calls Try.prog 25 #[v1, v2] w fun e w' => e = .returned (.bool (decide (a = b))) ∧ w.grownBy w' none := by
  obtain ⟨A1, c1, rfl, n1⟩ := h1.nth
  obtain ⟨A2, c2, rfl, n2⟩ := h2.nth
  clear h1 h2
  by_cases hn : a.length = b.length
  · have hn2 : ((a.length : Int) != (b.length : Int)) = false := by simp [hn]
    have HN := Lib.hid hn
    have N2 := Lib.hid n2
    have N1 := Lib.hid n1
    clear n1 n2 hn
    go_enter Try.func25, Try.ntmps25
    go_wp2_with fail
    go_loopg [5] a.length (fun kq v5 wr => ∃ k : Nat, v5 = .int .i64 k ∧ Hid (kq + k = a.length) ∧ Hid (a.take k = b.take k) ∧ Hid (w.grownBy wr none))
    case atStart => exact ⟨0, rfl, rfl, by simp [Hid], only_refl _ _⟩
    case round =>
      obtain ⟨k, rfl, HK, HE, HG⟩ := hrel
      by_cases hk : k < a.length
      · obtain ⟨ad1, rfl, d1, d2⟩ := N1.out k hk
        obtain ⟨ad2, rfl, d3, d4⟩ := N2.out k (by have := HN.out; omega)
        have e1 := HG.out.cell d1 (by simp)
        have e2 := HG.out.cell d2 (by simp)
        have e3 := HG.out.cell d3 (by simp)
        have e4 := HG.out.cell d4 (by simp)
        have hkb : k < b.length := by have := HN.out; omega
        have hk2 : (k : Int) < (a.length : Int) := by omega
        have hk3 : (k : Int) < (b.length : Int) := by omega
        clear d1 d2 d3 d4
        have hgd := tk_guard
        have hne := tk_neq a[k] b[k]
        by_cases he : a[k] = b[k]
        · have hd : decide (a[k] ≠ b[k]) = false := by simpa using he
          have HE2 : Hid (a.take (k + 1) = b.take (k + 1)) := by
            rw [Hid, List.take_add_one, List.take_add_one, HE.out, List.getElem?_eq_getElem hk, List.getElem?_eq_getElem hkb, he]
          rw [hd] at hne
          clear he hd
          go_wp2_with fail
          go_quiet (fail)
          go_wp2_with fail
          go_roundg (a.length - (k + 1))
          case measure => have := HK.out; omega
          case rel => exact ⟨k + 1, by simp, by show _ = _; omega, HE2, only_drewN HG.out _⟩
        · have hd : decide (a[k] ≠ b[k]) = true := by simpa using he
          have HF : Hid (a ≠ b) := fun e => he (by simp only [e])
          rw [hd] at hne
          clear he hd
          go_wp2_with fail
          go_quiet (fail)
          go_wp2_with fail
          go_ret
          exact ⟨by have := HF.out; simp [this], only_drewN HG.out _⟩
      · have hkn : k = a.length := by have := HK.out; omega
        have HF : Hid (a = b) := by
          have := HE.out
          rw [hkn, List.take_length, HN.out, List.take_length] at this
          exact this
        have hk2 : ¬ ((k : Int) < (a.length : Int)) := by omega
        clear hkn
        go_wp2_with fail
        go_ret
        exact ⟨by have := HF.out; simp [this], HG.out⟩
  · have hn2 : ((a.length : Int) != (b.length : Int)) = true := by simp; omega
    have HN := Lib.hid hn
    clear n1 n2 hn
    go_enter Try.func25, Try.ntmps25
    go_wp2_with fail
    go_ret
    refine ⟨?_, only_refl _ _⟩
    have : ¬ a = b := fun e => HN.out (by rw [e])
    simp [this]

theorem same_eq2 (p q : Pt) : ((decide (p.pre = q.pre) && decide (p.suf = q.suf)) && (decide (p.npre = q.npre) && decide (p.nsuf = q.nsuf)) && !(p.neg != q.neg) && !(p.pad != q.pad) && !(p.padAt != q.padAt) && !(p.nm.expPlus != q.nm.expPlus) &&
    (((p.nm.hash == q.nm.hash) && (p.nm.minInt == q.nm.minInt) && (p.nm.g1 == q.nm.g1) && (p.nm.g2 == q.nm.g2)) && (p.nm.minFrac == q.nm.minFrac) && (p.nm.maxFrac == q.nm.maxFrac) && (p.nm.minSig == q.nm.minSig) && (p.nm.maxSig == q.nm.maxSig) && (p.nm.exp == q.nm.exp))) = decide (p = q) := by
  rw [Bool.eq_iff_iff]
  simp only [Bool.and_eq_true, decide_eq_true_eq, beq_iff_eq, Bool.not_eq_true', bne_eq_false_iff_eq]
  obtain ⟨a1, a2, a3, a4, a5, ⟨b1, b2, b3, b4, b5, b6, b7, b8, b9, b10⟩, a6, a7⟩ := p
  obtain ⟨c1, c2, c3, c4, c5, ⟨d1, d2, d3, d4, d5, d6, d7, d8, d9, d10⟩, c6, c7⟩ := q
  simp only [Pt.mk.injEq, Nm.mk.injEq]
  constructor
  · rintro ⟨⟨⟨⟨⟨⟨⟨h1, h2⟩, ⟨h3, h4⟩⟩, h5⟩, h6⟩, h7⟩, h8⟩, ⟨⟨⟨⟨⟨⟨⟨⟨i1, i2⟩, i3⟩, i4⟩, j1⟩, j2⟩, j3⟩, j4⟩, j5⟩⟩
    exact ⟨h1, h2, h3, h4, h5, ⟨i1, i2, j1, j2, i3, i4, j3, j4, j5, h8⟩, h6, h7⟩
  · rintro ⟨h1, h2, h3, h4, h5, ⟨i1, i2, j1, j2, i3, i4, j3, j4, j5, h8⟩, h6, h7⟩
    exact ⟨⟨⟨⟨⟨⟨⟨h1, h2⟩, ⟨h3, h4⟩⟩, h5⟩, h6⟩, h7⟩, h8⟩, ⟨⟨⟨⟨⟨⟨⟨⟨i1, i2⟩, i3⟩, i4⟩, j1⟩, j2⟩, j3⟩, j4⟩, j5⟩⟩

set_option maxRecDepth 100000 in
set_option maxHeartbeats 40000000 in
theorem same_ref (w : World) (u v : Value) (p q : Pt) (h : PatV w u p) (k : PatV w v q) (hl : (p.pre ++ p.suf ++ p.npre ++ p.nsuf).length ≤ 400) :
    Calls Try.prog 12 #[u, v] w fun e w' => e = .returned (.bool (decide (p = q))) ∧ w.grownBy w' none := by
  obtain ⟨v1, v2, v3, v4, rfl, t1, t2, t3, t4⟩ := h
  obtain ⟨A1, A1c, rfl, -⟩ := id t1
  obtain ⟨A2, A2c, rfl, -⟩ := id t2
  obtain ⟨A3, A3c, rfl, -⟩ := id t3
  obtain ⟨A4, A4c, rfl, -⟩ := id t4
  obtain ⟨v1, v2, v3, v4, rfl, s1, s2, s3, s4⟩ := k
  obtain ⟨B1, B1c, rfl, -⟩ := id s1
  obtain ⟨B2, B2c, rfl, -⟩ := id s2
  obtain ⟨B3, B3c, rfl, -⟩ := id s3
  obtain ⟨B4, B4c, rfl, -⟩ := id s4
  have hlen : p.pre.length + p.suf.length + p.npre.length + p.nsuf.length ≤ 400 := by simpa using (by simp at hl; omega : _)
  have HQ := Lib.hid (same_eq2 p q)
  have C1 : Hid (∀ W, w.grownBy W none → Calls Try.prog 25 #[.slice A1 p.pre.length A1c, .slice B1 q.pre.length B1c] W fun e w' => e = .returned (.bool (decide (p.pre = q.pre))) ∧ W.grownBy w' none) := fun W hW => toks_ref W _ _ _ _ (t1.grown hW) (s1.grown hW) (by omega)
  have C2 : Hid (∀ W, w.grownBy W none → Calls Try.prog 25 #[.slice A2 p.suf.length A2c, .slice B2 q.suf.length B2c] W fun e w' => e = .returned (.bool (decide (p.suf = q.suf))) ∧ W.grownBy w' none) := fun W hW => toks_ref W _ _ _ _ (t2.grown hW) (s2.grown hW) (by omega)
  have C3 : Hid (∀ W, w.grownBy W none → Calls Try.prog 25 #[.slice A3 p.npre.length A3c, .slice B3 q.npre.length B3c] W fun e w' => e = .returned (.bool (decide (p.npre = q.npre))) ∧ W.grownBy w' none) := fun W hW => toks_ref W _ _ _ _ (t3.grown hW) (s3.grown hW) (by omega)
  have C4 : Hid (∀ W, w.grownBy W none → Calls Try.prog 25 #[.slice A4 p.nsuf.length A4c, .slice B4 q.nsuf.length B4c] W fun e w' => e = .returned (.bool (decide (p.nsuf = q.nsuf))) ∧ W.grownBy w' none) := fun W hW => toks_ref W _ _ _ _ (t4.grown hW) (s4.grown hW) (by omega)
  have S0 := Lib.hid (SI.new w (ptCells (.slice A1 p.pre.length A1c) (.slice A2 p.suf.length A2c) (.slice A3 p.npre.length A3c) (.slice A4 p.nsuf.length A4c) p) (ptCells (.slice B1 q.pre.length B1c) (.slice B2 q.suf.length B2c) (.slice B3 q.npre.length B3c) (.slice B4 q.nsuf.length B4c) q))
  clear t1 t2 t3 t4 s1 s2 s3 s4 hl hlen
  generalize decide (p.pre = q.pre) = d1 at *
  generalize decide (p.suf = q.suf) = d2 at *
  generalize decide (p.npre = q.npre) = d3 at *
  generalize decide (p.nsuf = q.nsuf) = d4 at *
  have HC1 : Hid (∀ W, SI w W (ptCells (.slice A1 p.pre.length A1c) (.slice A2 p.suf.length A2c) (.slice A3 p.npre.length A3c) (.slice A4 p.nsuf.length A4c) p) (ptCells (.slice B1 q.pre.length B1c) (.slice B2 q.suf.length B2c) (.slice B3 q.npre.length B3c) (.slice B4 q.nsuf.length B4c) q) → W.cell? ⟨w.heap.size, 0, none⟩ = some (.slice A1 p.pre.length A1c) ∧ W.cell? ⟨w.heap.size, 1, none⟩ = some (.slice A2 p.suf.length A2c) ∧ W.cell? ⟨w.heap.size + 1, 0, none⟩ = some (.slice B1 q.pre.length B1c) ∧ W.cell? ⟨w.heap.size + 1, 1, none⟩ = some (.slice B2 q.suf.length B2c)) := fun W h => ⟨h.b1.cell 0, h.b1.cell 1, h.b2.cell 0, h.b2.cell 1⟩
  have HC2 : Hid (∀ W, SI w W (ptCells (.slice A1 p.pre.length A1c) (.slice A2 p.suf.length A2c) (.slice A3 p.npre.length A3c) (.slice A4 p.nsuf.length A4c) p) (ptCells (.slice B1 q.pre.length B1c) (.slice B2 q.suf.length B2c) (.slice B3 q.npre.length B3c) (.slice B4 q.nsuf.length B4c) q) → W.cell? ⟨w.heap.size, 2, none⟩ = some (.slice A3 p.npre.length A3c) ∧ W.cell? ⟨w.heap.size, 3, none⟩ = some (.slice A4 p.nsuf.length A4c) ∧ W.cell? ⟨w.heap.size + 1, 2, none⟩ = some (.slice B3 q.npre.length B3c) ∧ W.cell? ⟨w.heap.size + 1, 3, none⟩ = some (.slice B4 q.nsuf.length B4c)) := fun W h => ⟨h.b1.cell 2, h.b1.cell 3, h.b2.cell 2, h.b2.cell 3⟩
  have HC3 : Hid (∀ W, SI w W (ptCells (.slice A1 p.pre.length A1c) (.slice A2 p.suf.length A2c) (.slice A3 p.npre.length A3c) (.slice A4 p.nsuf.length A4c) p) (ptCells (.slice B1 q.pre.length B1c) (.slice B2 q.suf.length B2c) (.slice B3 q.npre.length B3c) (.slice B4 q.nsuf.length B4c) q) → W.cell? ⟨w.heap.size, 4, none⟩ = some (.bool p.neg) ∧ W.cell? ⟨w.heap.size, 15, none⟩ = some (.int .i32 p.pad) ∧ W.cell? ⟨w.heap.size, 16, none⟩ = some (.int .i64 p.padAt) ∧ W.cell? ⟨w.heap.size, 14, none⟩ = some (.bool p.nm.expPlus) ∧ W.cell? ⟨w.heap.size + 1, 4, none⟩ = some (.bool q.neg) ∧ W.cell? ⟨w.heap.size + 1, 15, none⟩ = some (.int .i32 q.pad) ∧ W.cell? ⟨w.heap.size + 1, 16, none⟩ = some (.int .i64 q.padAt) ∧ W.cell? ⟨w.heap.size + 1, 14, none⟩ = some (.bool q.nm.expPlus)) := fun W h => ⟨h.b1.cell 4, h.b1.cell 15, h.b1.cell 16, h.b1.cell 14, h.b2.cell 4, h.b2.cell 15, h.b2.cell 16, h.b2.cell 14⟩
  have HC5 : Hid (∀ W, SI w W (ptCells (.slice A1 p.pre.length A1c) (.slice A2 p.suf.length A2c) (.slice A3 p.npre.length A3c) (.slice A4 p.nsuf.length A4c) p) (ptCells (.slice B1 q.pre.length B1c) (.slice B2 q.suf.length B2c) (.slice B3 q.npre.length B3c) (.slice B4 q.nsuf.length B4c) q) → W.cell? ⟨w.heap.size, 5, none⟩ = some (.int .i64 p.nm.hash) ∧ W.cell? ⟨w.heap.size, 6, none⟩ = some (.int .i64 p.nm.minInt) ∧ W.cell? ⟨w.heap.size, 9, none⟩ = some (.int .i64 p.nm.g1) ∧ W.cell? ⟨w.heap.size, 10, none⟩ = some (.int .i64 p.nm.g2) ∧ W.cell? ⟨w.heap.size + 1, 5, none⟩ = some (.int .i64 q.nm.hash) ∧ W.cell? ⟨w.heap.size + 1, 6, none⟩ = some (.int .i64 q.nm.minInt) ∧ W.cell? ⟨w.heap.size + 1, 9, none⟩ = some (.int .i64 q.nm.g1) ∧ W.cell? ⟨w.heap.size + 1, 10, none⟩ = some (.int .i64 q.nm.g2)) := fun W h => ⟨h.b1.cell 5, h.b1.cell 6, h.b1.cell 9, h.b1.cell 10, h.b2.cell 5, h.b2.cell 6, h.b2.cell 9, h.b2.cell 10⟩
  have HC6 : Hid (∀ W, SI w W (ptCells (.slice A1 p.pre.length A1c) (.slice A2 p.suf.length A2c) (.slice A3 p.npre.length A3c) (.slice A4 p.nsuf.length A4c) p) (ptCells (.slice B1 q.pre.length B1c) (.slice B2 q.suf.length B2c) (.slice B3 q.npre.length B3c) (.slice B4 q.nsuf.length B4c) q) → W.cell? ⟨w.heap.size, 7, none⟩ = some (.int .i64 p.nm.minFrac) ∧ W.cell? ⟨w.heap.size, 8, none⟩ = some (.int .i64 p.nm.maxFrac) ∧ W.cell? ⟨w.heap.size, 11, none⟩ = some (.int .i64 p.nm.minSig) ∧ W.cell? ⟨w.heap.size, 12, none⟩ = some (.int .i64 p.nm.maxSig) ∧ W.cell? ⟨w.heap.size, 13, none⟩ = some (.int .i64 p.nm.exp) ∧ W.cell? ⟨w.heap.size + 1, 7, none⟩ = some (.int .i64 q.nm.minFrac) ∧ W.cell? ⟨w.heap.size + 1, 8, none⟩ = some (.int .i64 q.nm.maxFrac) ∧ W.cell? ⟨w.heap.size + 1, 11, none⟩ = some (.int .i64 q.nm.minSig) ∧ W.cell? ⟨w.heap.size + 1, 12, none⟩ = some (.int .i64 q.nm.maxSig) ∧ W.cell? ⟨w.heap.size + 1, 13, none⟩ = some (.int .i64 q.nm.exp)) := fun W h => ⟨h.b1.cell 7, h.b1.cell 8, h.b1.cell 11, h.b1.cell 12, h.b1.cell 13, h.b2.cell 7, h.b2.cell 8, h.b2.cell 11, h.b2.cell 12, h.b2.cell 13⟩
  obtain ⟨k0, k1, m0, m1⟩ := HC1.out _ S0.out
  go_enter Try.func12, Try.ntmps12
  go_upto_region 1 with fail
  generalize (w.alloc (.cells (ptCells (.slice A1 p.pre.length A1c) (.slice A2 p.suf.length A2c) (.slice A3 p.npre.length A3c) (.slice A4 p.nsuf.length A4c) p) 24)).alloc (.cells (ptCells (.slice B1 q.pre.length B1c) (.slice B2 q.suf.length B2c) (.slice B3 q.npre.length B3c) (.slice B4 q.nsuf.length B4c) q) 24) = W0 at *
  go_cut [5] (fun v5 wx => v5 = .bool (d1 && d2) ∧ Hid (SI w wx (ptCells (.slice A1 p.pre.length A1c) (.slice A2 p.suf.length A2c) (.slice A3 p.npre.length A3c) (.slice A4 p.nsuf.length A4c) p) (ptCells (.slice B1 q.pre.length B1c) (.slice B2 q.suf.length B2c) (.slice B3 q.npre.length B3c) (.slice B4 q.nsuf.length B4c) q)))
  case first =>
    cases d1 with
    | false =>
      go_wp2_with (first
        | (go_at_call_of 25 (Value.slice A1 p.pre.length A1c); refine (C1.out _ ?_).mono ?_; exact S0.out.gr; rintro e w1 ⟨rfl, hg⟩; have T1 := Lib.hid (S0.out.grown hg); obtain ⟨k0, k1, m0, m1⟩ := HC1.out _ T1.out; clear hg))
      go_meet
      exact ⟨rfl, T1⟩
    | true =>
      go_wp2_with (first
        | (go_at_call_of 25 (Value.slice A1 p.pre.length A1c); refine (C1.out _ ?_).mono ?_; exact S0.out.gr; rintro e w1 ⟨rfl, hg⟩; have T1 := Lib.hid (S0.out.grown hg); obtain ⟨k0, k1, m0, m1⟩ := HC1.out _ T1.out; clear hg)
        | (go_at_call_of 25 (Value.slice A2 p.suf.length A2c); refine (C2.out _ ?_).mono ?_; exact T1.out.gr; rintro e w2 ⟨rfl, hg⟩; have T2 := Lib.hid (T1.out.grown hg); obtain ⟨k0, k1, m0, m1⟩ := HC1.out _ T2.out; clear hg))
      go_meet
      exact ⟨by simp, T2⟩
  case rest =>
    obtain ⟨rfl, HA⟩ := hcut
    clear C1 C2 S0 k0 m0 k1 m1
    obtain ⟨k2, k3, m2, m3⟩ := HC2.out _ HA.out
    generalize (d1 && d2) = E1 at *
    go_upto_region 2 with fail
    go_cut [6] (fun v6 wx => v6 = .bool (d3 && d4) ∧ Hid (SI w wx (ptCells (.slice A1 p.pre.length A1c) (.slice A2 p.suf.length A2c) (.slice A3 p.npre.length A3c) (.slice A4 p.nsuf.length A4c) p) (ptCells (.slice B1 q.pre.length B1c) (.slice B2 q.suf.length B2c) (.slice B3 q.npre.length B3c) (.slice B4 q.nsuf.length B4c) q)))
    case first =>
      cases d3 with
      | false =>
        go_wp2_with (first
          | (go_at_call_of 25 (Value.slice A3 p.npre.length A3c); refine (C3.out _ ?_).mono ?_; exact HA.out.gr; rintro e w3 ⟨rfl, hg⟩; have T1 := Lib.hid (HA.out.grown hg); obtain ⟨k2, k3, m2, m3⟩ := HC2.out _ T1.out; clear hg))
        go_meet
        exact ⟨rfl, T1⟩
      | true =>
        go_wp2_with (first
          | (go_at_call_of 25 (Value.slice A3 p.npre.length A3c); refine (C3.out _ ?_).mono ?_; exact HA.out.gr; rintro e w3 ⟨rfl, hg⟩; have T1 := Lib.hid (HA.out.grown hg); obtain ⟨k2, k3, m2, m3⟩ := HC2.out _ T1.out; clear hg)
          | (go_at_call_of 25 (Value.slice A4 p.nsuf.length A4c); refine (C4.out _ ?_).mono ?_; exact T1.out.gr; rintro e w4 ⟨rfl, hg⟩; have T2 := Lib.hid (T1.out.grown hg); obtain ⟨k2, k3, m2, m3⟩ := HC2.out _ T2.out; clear hg))
        go_meet
        exact ⟨by simp, T2⟩
    case rest =>
      obtain ⟨rfl, HB⟩ := hcut
      clear C3 C4 HA k2 m2 k3 m3
      obtain ⟨k4, k15, k16, k14, m4, m15, m16, m14⟩ := HC3.out _ HB.out
      generalize (d3 && d4) = E2 at *
      cases E1 with
      | false =>
        go_wp2_with fail
        go_ret
        exact ⟨by rw [← HQ.out]; simp, HB.out.gr⟩
      | true =>
        cases E2 with
        | false =>
          go_wp2_with fail
          go_ret
          exact ⟨by rw [← HQ.out]; simp, HB.out.gr⟩
        | true =>
          have HQ2 : Hid (decide (p = q) = (!((p.neg != q.neg) || (p.pad != q.pad) || (p.padAt != q.padAt) || (p.nm.expPlus != q.nm.expPlus)) && (((p.nm.hash == q.nm.hash) && (p.nm.minInt == q.nm.minInt) && (p.nm.g1 == q.nm.g1) && (p.nm.g2 == q.nm.g2)) && (p.nm.minFrac == q.nm.minFrac) && (p.nm.maxFrac == q.nm.maxFrac) && (p.nm.minSig == q.nm.minSig) && (p.nm.maxSig == q.nm.maxSig) && (p.nm.exp == q.nm.exp)))) := by
            rw [Hid, ← HQ.out]
            cases (p.neg != q.neg) <;> cases (p.pad != q.pad) <;> cases (p.padAt != q.padAt) <;> cases (p.nm.expPlus != q.nm.expPlus) <;> simp
          clear HQ
          go_upto_region 3 with fail
          go_cut [65] (fun v65 wx => v65 = .bool ((p.neg != q.neg) || (p.pad != q.pad) || (p.padAt != q.padAt) || (p.nm.expPlus != q.nm.expPlus)) ∧ Hid (SI w wx (ptCells (.slice A1 p.pre.length A1c) (.slice A2 p.suf.length A2c) (.slice A3 p.npre.length A3c) (.slice A4 p.nsuf.length A4c) p) (ptCells (.slice B1 q.pre.length B1c) (.slice B2 q.suf.length B2c) (.slice B3 q.npre.length B3c) (.slice B4 q.nsuf.length B4c) q)))
          case first =>
            go_wp2_with fail
            all_goals (go_meet; exact ⟨by first | (simp [*]; done) | (simp [*, bne]; done), HB⟩)
          case rest =>
            obtain ⟨rfl, HC⟩ := hcut
            clear HB
            generalize ((p.neg != q.neg) || (p.pad != q.pad) || (p.padAt != q.padAt) || (p.nm.expPlus != q.nm.expPlus)) = E4 at *
            cases E4 with
            | true =>
              go_wp2_with fail
              go_ret
              exact ⟨by rw [HQ2.out]; simp, HC.out.gr⟩
            | false =>
              go_upto_region 5 with fail
              clear k4 m4 k15 m15 k16 m16 k14 m14
              obtain ⟨k5, k6, k9, k10, m5, m6, m9, m10⟩ := HC5.out _ HC.out
              go_cut [7] (fun v7 wx => v7 = .bool ((p.nm.hash == q.nm.hash) && (p.nm.minInt == q.nm.minInt) && (p.nm.g1 == q.nm.g1) && (p.nm.g2 == q.nm.g2)) ∧ Hid (SI w wx (ptCells (.slice A1 p.pre.length A1c) (.slice A2 p.suf.length A2c) (.slice A3 p.npre.length A3c) (.slice A4 p.nsuf.length A4c) p) (ptCells (.slice B1 q.pre.length B1c) (.slice B2 q.suf.length B2c) (.slice B3 q.npre.length B3c) (.slice B4 q.nsuf.length B4c) q)))
              case first =>
                cases g0 : (p.nm.hash == q.nm.hash) with
                | false =>
                  go_wp2_with fail
                  go_meet
                  exact ⟨by rw [g0]; rfl, HC⟩
                | true =>
                  cases g1 : (p.nm.minInt == q.nm.minInt) with
                  | false =>
                    go_wp2_with fail
                    go_meet
                    exact ⟨by rw [g0, g1]; rfl, HC⟩
                  | true =>
                    cases g2 : (p.nm.g1 == q.nm.g1) with
                    | false =>
                      go_wp2_with fail
                      go_meet
                      exact ⟨by rw [g0, g1, g2]; rfl, HC⟩
                    | true =>
                      go_wp2_with fail
                      go_meet
                      exact ⟨by rw [g0, g1, g2]; rfl, HC⟩
              case rest =>
                obtain ⟨rfl, HD⟩ := hcut
                clear HC k5 m5 k6 m6 k9 m9 k10 m10
                obtain ⟨k7, k8, k11, k12, k13, m7, m8, m11, m12, m13⟩ := HC6.out _ HD.out
                generalize ((p.nm.hash == q.nm.hash) && (p.nm.minInt == q.nm.minInt) && (p.nm.g1 == q.nm.g1) && (p.nm.g2 == q.nm.g2)) = E3 at *
                cases E3 with
                | false =>
                  go_wp2_with fail
                  go_ret
                  exact ⟨by rw [HQ2.out]; simp, HD.out.gr⟩
                | true =>
                  cases g0 : (p.nm.minFrac == q.nm.minFrac) with
                  | false =>
                    rw [g0] at HQ2
                    go_wp2_with fail
                    go_ret
                    exact ⟨by rw [HQ2.out]; simp, HD.out.gr⟩
                  | true =>
                    rw [g0] at HQ2
                    cases g1 : (p.nm.maxFrac == q.nm.maxFrac) with
                    | false =>
                      rw [g1] at HQ2
                      go_wp2_with fail
                      go_ret
                      exact ⟨by rw [HQ2.out]; simp, HD.out.gr⟩
                    | true =>
                      rw [g1] at HQ2
                      cases g2 : (p.nm.minSig == q.nm.minSig) with
                      | false =>
                        rw [g2] at HQ2
                        go_wp2_with fail
                        go_ret
                        exact ⟨by rw [HQ2.out]; simp, HD.out.gr⟩
                      | true =>
                        rw [g2] at HQ2
                        cases g3 : (p.nm.maxSig == q.nm.maxSig) with
                        | false =>
                          rw [g3] at HQ2
                          go_wp2_with fail
                          go_ret
                          exact ⟨by rw [HQ2.out]; simp, HD.out.gr⟩
                        | true =>
                          rw [g3] at HQ2
                          go_wp2_with fail
                          go_ret
                          exact ⟨by rw [HQ2.out]; simp, HD.out.gr⟩
end Go.Proofs.Ytdbcdgojbegakaa

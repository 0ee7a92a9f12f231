/-
pat.Same: are two patterns the same?
-/
import Derived.Test.YtdbcdgojbegakaaE1
import Derived.Deep.DeepCutAuto
namespace Go.Proofs.Ytdbcdgojbegakaa
open Go.RowKit

/-- In the midst of Same: the two boxes. -/
structure SI (w W : World) (cs ds : Array Value) : Prop where
  b1 : Blk W w.heap.size 24 cs
  b2 : Blk W (w.heap.size + 1) 24 ds
  gr : w.grownBy W none
theorem SI.grown {w W W' : World} {cs ds : Array Value} (h : SI w W cs ds) (hg : W.grownBy W' none) : SI w W' cs ds := ⟨h.b1.grown hg (by simp), h.b2.grown hg (by simp), only_trans h.gr hg⟩
theorem SI.new (w : World) (cs ds : Array Value) : SI w ((w.alloc (.cells cs 24)).alloc (.cells ds 24)) cs ds := by
  have h2 := Blk.new (w.alloc (.cells cs 24)) 24 ds
  rw [show (w.alloc (.cells cs 24)).heap.size = w.heap.size + 1 by simp] at h2
  exact ⟨(Blk.new w 24 cs).alloc _, h2, only_alloc (only_alloc (only_refl _ _) _) _⟩

theorem same_eq (p q : Pt) : (((decide (p.pre = q.pre) && decide (p.suf = q.suf) && decide (p.npre = q.npre) && decide (p.nsuf = q.nsuf) && (p.neg == q.neg)) && ((p.nm.hash == q.nm.hash) && (p.nm.minInt == q.nm.minInt) && (p.nm.minFrac == q.nm.minFrac) && (p.nm.maxFrac == q.nm.maxFrac) && (p.nm.g1 == q.nm.g1) && (p.nm.g2 == q.nm.g2))) &&
    (p.nm.minSig == q.nm.minSig) && (p.nm.maxSig == q.nm.maxSig) && (p.nm.exp == q.nm.exp) && (p.nm.expPlus == q.nm.expPlus) && (p.pad == q.pad) && (p.padAt == q.padAt)) = decide (p = q) := by
  rw [Bool.eq_iff_iff]
  simp only [Bool.and_eq_true, decide_eq_true_eq, beq_iff_eq]
  obtain ⟨a1, a2, a3, a4, a5, ⟨b1, b2, b3, b4, b5, b6, b7, b8, b9, b10⟩, a6, a7⟩ := p
  obtain ⟨c1, c2, c3, c4, c5, ⟨d1, d2, d3, d4, d5, d6, d7, d8, d9, d10⟩, c6, c7⟩ := q
  simp only [Pt.mk.injEq, Nm.mk.injEq]
  constructor
  · rintro ⟨⟨⟨⟨⟨⟨⟨⟨⟨⟨⟨h1, h2⟩, h3⟩, h4⟩, h5⟩, ⟨⟨⟨⟨⟨i1, i2⟩, i3⟩, i4⟩, i5⟩, i6⟩⟩, j1⟩, j2⟩, j3⟩, j4⟩, j5⟩, j6⟩
    exact ⟨h1, h2, h3, h4, h5, ⟨i1, i2, i3, i4, i5, i6, j1, j2, j3, j4⟩, j5, j6⟩
  · rintro ⟨h1, h2, h3, h4, h5, ⟨i1, i2, i3, i4, i5, i6, j1, j2, j3, j4⟩, j5, j6⟩
    exact ⟨⟨⟨⟨⟨⟨⟨⟨⟨⟨⟨h1, h2⟩, h3⟩, h4⟩, h5⟩, ⟨⟨⟨⟨⟨i1, i2⟩, i3⟩, i4⟩, i5⟩, i6⟩⟩, j1⟩, j2⟩, j3⟩, j4⟩, j5⟩, j6⟩

set_option maxRecDepth 100000 in
set_option maxHeartbeats 40000000 in
theorem same_any (w : World) (u v : Value) (p q : Pt) (h : PatV w u p) (k : PatV w v q) (hl : (p.pre ++ p.suf ++ p.npre ++ p.nsuf).length ≤ 400) :
    Calls Try.prog 11 #[u, v] w fun e w' => e = .returned (.bool (decide (p = q))) ∧ w.grownBy w' none := by
  obtain ⟨v1, v2, v3, v4, rfl, t1, t2, t3, t4⟩ := h
  obtain ⟨A1, A1c, rfl, -⟩ := id t1
  obtain ⟨A2, A2c, rfl, -⟩ := id t2
  obtain ⟨A3, A3c, rfl, -⟩ := id t3
  obtain ⟨A4, A4c, rfl, -⟩ := id t4
  obtain ⟨v1, v2, v3, v4, rfl, s1, s2, s3, s4⟩ := k
  obtain ⟨B1, B1c, rfl, -⟩ := id s1
  obtain ⟨B2, B2c, rfl, -⟩ := id s2
  obtain ⟨B3, B3c, rfl, -⟩ := id s3
  obtain ⟨B4, B4c, rfl, -⟩ := id s4
  have hlen : p.pre.length + p.suf.length + p.npre.length + p.nsuf.length ≤ 400 := by simpa using (by simp at hl; omega : _)
  have HQ := Lib.hid (same_eq p q)
  have C1 : Hid (∀ W, w.grownBy W none → Calls Try.prog 24 #[.slice A1 p.pre.length A1c, .slice B1 q.pre.length B1c] W fun e w' => e = .returned (.bool (decide (p.pre = q.pre))) ∧ W.grownBy w' none) := fun W hW => equal_any W _ _ _ _ (t1.grown hW) (s1.grown hW) (by omega)
  have C2 : Hid (∀ W, w.grownBy W none → Calls Try.prog 24 #[.slice A2 p.suf.length A2c, .slice B2 q.suf.length B2c] W fun e w' => e = .returned (.bool (decide (p.suf = q.suf))) ∧ W.grownBy w' none) := fun W hW => equal_any W _ _ _ _ (t2.grown hW) (s2.grown hW) (by omega)
  have C3 : Hid (∀ W, w.grownBy W none → Calls Try.prog 24 #[.slice A3 p.npre.length A3c, .slice B3 q.npre.length B3c] W fun e w' => e = .returned (.bool (decide (p.npre = q.npre))) ∧ W.grownBy w' none) := fun W hW => equal_any W _ _ _ _ (t3.grown hW) (s3.grown hW) (by omega)
  have C4 : Hid (∀ W, w.grownBy W none → Calls Try.prog 24 #[.slice A4 p.nsuf.length A4c, .slice B4 q.nsuf.length B4c] W fun e w' => e = .returned (.bool (decide (p.nsuf = q.nsuf))) ∧ W.grownBy w' none) := fun W hW => equal_any W _ _ _ _ (t4.grown hW) (s4.grown hW) (by omega)
  have S0 := Lib.hid (SI.new w (ptCells (.slice A1 p.pre.length A1c) (.slice A2 p.suf.length A2c) (.slice A3 p.npre.length A3c) (.slice A4 p.nsuf.length A4c) p) (ptCells (.slice B1 q.pre.length B1c) (.slice B2 q.suf.length B2c) (.slice B3 q.npre.length B3c) (.slice B4 q.nsuf.length B4c) q))
  clear t1 t2 t3 t4 s1 s2 s3 s4 hl hlen
  generalize decide (p.pre = q.pre) = d1 at *
  generalize decide (p.suf = q.suf) = d2 at *
  generalize decide (p.npre = q.npre) = d3 at *
  generalize decide (p.nsuf = q.nsuf) = d4 at *
  have HC1 : Hid (∀ W, SI w W (ptCells (.slice A1 p.pre.length A1c) (.slice A2 p.suf.length A2c) (.slice A3 p.npre.length A3c) (.slice A4 p.nsuf.length A4c) p) (ptCells (.slice B1 q.pre.length B1c) (.slice B2 q.suf.length B2c) (.slice B3 q.npre.length B3c) (.slice B4 q.nsuf.length B4c) q) → W.cell? ⟨w.heap.size, 0, none⟩ = some (.slice A1 p.pre.length A1c) ∧ W.cell? ⟨w.heap.size, 1, none⟩ = some (.slice A2 p.suf.length A2c) ∧ W.cell? ⟨w.heap.size, 2, none⟩ = some (.slice A3 p.npre.length A3c) ∧ W.cell? ⟨w.heap.size, 3, none⟩ = some (.slice A4 p.nsuf.length A4c) ∧ W.cell? ⟨w.heap.size, 4, none⟩ = some (.bool p.neg) ∧ W.cell? ⟨w.heap.size + 1, 0, none⟩ = some (.slice B1 q.pre.length B1c) ∧ W.cell? ⟨w.heap.size + 1, 1, none⟩ = some (.slice B2 q.suf.length B2c) ∧ W.cell? ⟨w.heap.size + 1, 2, none⟩ = some (.slice B3 q.npre.length B3c) ∧ W.cell? ⟨w.heap.size + 1, 3, none⟩ = some (.slice B4 q.nsuf.length B4c) ∧ W.cell? ⟨w.heap.size + 1, 4, none⟩ = some (.bool q.neg)) := fun W h => ⟨h.b1.cell 0, h.b1.cell 1, h.b1.cell 2, h.b1.cell 3, h.b1.cell 4, h.b2.cell 0, h.b2.cell 1, h.b2.cell 2, h.b2.cell 3, h.b2.cell 4⟩
  have HC2 : Hid (∀ W, SI w W (ptCells (.slice A1 p.pre.length A1c) (.slice A2 p.suf.length A2c) (.slice A3 p.npre.length A3c) (.slice A4 p.nsuf.length A4c) p) (ptCells (.slice B1 q.pre.length B1c) (.slice B2 q.suf.length B2c) (.slice B3 q.npre.length B3c) (.slice B4 q.nsuf.length B4c) q) → W.cell? ⟨w.heap.size, 5, none⟩ = some (.int .i64 p.nm.hash) ∧ W.cell? ⟨w.heap.size, 6, none⟩ = some (.int .i64 p.nm.minInt) ∧ W.cell? ⟨w.heap.size, 7, none⟩ = some (.int .i64 p.nm.minFrac) ∧ W.cell? ⟨w.heap.size, 8, none⟩ = some (.int .i64 p.nm.maxFrac) ∧ W.cell? ⟨w.heap.size, 9, none⟩ = some (.int .i64 p.nm.g1) ∧ W.cell? ⟨w.heap.size, 10, none⟩ = some (.int .i64 p.nm.g2) ∧ W.cell? ⟨w.heap.size + 1, 5, none⟩ = some (.int .i64 q.nm.hash) ∧ W.cell? ⟨w.heap.size + 1, 6, none⟩ = some (.int .i64 q.nm.minInt) ∧ W.cell? ⟨w.heap.size + 1, 7, none⟩ = some (.int .i64 q.nm.minFrac) ∧ W.cell? ⟨w.heap.size + 1, 8, none⟩ = some (.int .i64 q.nm.maxFrac) ∧ W.cell? ⟨w.heap.size + 1, 9, none⟩ = some (.int .i64 q.nm.g1) ∧ W.cell? ⟨w.heap.size + 1, 10, none⟩ = some (.int .i64 q.nm.g2)) := fun W h => ⟨h.b1.cell 5, h.b1.cell 6, h.b1.cell 7, h.b1.cell 8, h.b1.cell 9, h.b1.cell 10, h.b2.cell 5, h.b2.cell 6, h.b2.cell 7, h.b2.cell 8, h.b2.cell 9, h.b2.cell 10⟩
  have HC3 : Hid (∀ W, SI w W (ptCells (.slice A1 p.pre.length A1c) (.slice A2 p.suf.length A2c) (.slice A3 p.npre.length A3c) (.slice A4 p.nsuf.length A4c) p) (ptCells (.slice B1 q.pre.length B1c) (.slice B2 q.suf.length B2c) (.slice B3 q.npre.length B3c) (.slice B4 q.nsuf.length B4c) q) → W.cell? ⟨w.heap.size, 11, none⟩ = some (.int .i64 p.nm.minSig) ∧ W.cell? ⟨w.heap.size, 12, none⟩ = some (.int .i64 p.nm.maxSig) ∧ W.cell? ⟨w.heap.size, 13, none⟩ = some (.int .i64 p.nm.exp) ∧ W.cell? ⟨w.heap.size, 14, none⟩ = some (.bool p.nm.expPlus) ∧ W.cell? ⟨w.heap.size, 15, none⟩ = some (.int .i32 p.pad) ∧ W.cell? ⟨w.heap.size, 16, none⟩ = some (.int .i64 p.padAt) ∧ W.cell? ⟨w.heap.size + 1, 11, none⟩ = some (.int .i64 q.nm.minSig) ∧ W.cell? ⟨w.heap.size + 1, 12, none⟩ = some (.int .i64 q.nm.maxSig) ∧ W.cell? ⟨w.heap.size + 1, 13, none⟩ = some (.int .i64 q.nm.exp) ∧ W.cell? ⟨w.heap.size + 1, 14, none⟩ = some (.bool q.nm.expPlus) ∧ W.cell? ⟨w.heap.size + 1, 15, none⟩ = some (.int .i32 q.pad) ∧ W.cell? ⟨w.heap.size + 1, 16, none⟩ = some (.int .i64 q.padAt)) := fun W h => ⟨h.b1.cell 11, h.b1.cell 12, h.b1.cell 13, h.b1.cell 14, h.b1.cell 15, h.b1.cell 16, h.b2.cell 11, h.b2.cell 12, h.b2.cell 13, h.b2.cell 14, h.b2.cell 15, h.b2.cell 16⟩
  obtain ⟨k0, k1, k2, k3, k4, m0, m1, m2, m3, m4⟩ := HC1.out _ S0.out
  go_enter Try.func11, Try.ntmps11
  go_upto_region 1 with fail
  generalize (w.alloc (.cells (ptCells (.slice A1 p.pre.length A1c) (.slice A2 p.suf.length A2c) (.slice A3 p.npre.length A3c) (.slice A4 p.nsuf.length A4c) p) 24)).alloc (.cells (ptCells (.slice B1 q.pre.length B1c) (.slice B2 q.suf.length B2c) (.slice B3 q.npre.length B3c) (.slice B4 q.nsuf.length B4c) q) 24) = W0 at *
  go_cut [5] (fun v5 wx => v5 = .bool (d1 && d2 && d3 && d4 && (p.neg == q.neg)) ∧ Hid (SI w wx (ptCells (.slice A1 p.pre.length A1c) (.slice A2 p.suf.length A2c) (.slice A3 p.npre.length A3c) (.slice A4 p.nsuf.length A4c) p) (ptCells (.slice B1 q.pre.length B1c) (.slice B2 q.suf.length B2c) (.slice B3 q.npre.length B3c) (.slice B4 q.nsuf.length B4c) q)))
  case first =>
    cases d1 with
    | false =>
      go_wp2_with (first
        | (go_at_call_of 24 (Value.slice A1 p.pre.length A1c); refine (C1.out _ ?_).mono ?_; exact S0.out.gr; rintro e w1 ⟨rfl, hg⟩; have S1 := Lib.hid (S0.out.grown hg); obtain ⟨k0, k1, k2, k3, k4, m0, m1, m2, m3, m4⟩ := HC1.out _ S1.out; clear hg))
      go_meet
      exact ⟨rfl, S1⟩
    | true =>
      cases d2 with
      | false =>
        go_wp2_with (first
          | (go_at_call_of 24 (Value.slice A1 p.pre.length A1c); refine (C1.out _ ?_).mono ?_; exact S0.out.gr; rintro e w1 ⟨rfl, hg⟩; have S1 := Lib.hid (S0.out.grown hg); obtain ⟨k0, k1, k2, k3, k4, m0, m1, m2, m3, m4⟩ := HC1.out _ S1.out; clear hg)
          | (go_at_call_of 24 (Value.slice A2 p.suf.length A2c); refine (C2.out _ ?_).mono ?_; exact S1.out.gr; rintro e w2 ⟨rfl, hg⟩; have S2 := Lib.hid (S1.out.grown hg); obtain ⟨k0, k1, k2, k3, k4, m0, m1, m2, m3, m4⟩ := HC1.out _ S2.out; clear hg))
        go_meet
        exact ⟨rfl, S2⟩
      | true =>
        cases d3 with
        | false =>
          go_wp2_with (first
            | (go_at_call_of 24 (Value.slice A1 p.pre.length A1c); refine (C1.out _ ?_).mono ?_; exact S0.out.gr; rintro e w1 ⟨rfl, hg⟩; have S1 := Lib.hid (S0.out.grown hg); obtain ⟨k0, k1, k2, k3, k4, m0, m1, m2, m3, m4⟩ := HC1.out _ S1.out; clear hg)
            | (go_at_call_of 24 (Value.slice A2 p.suf.length A2c); refine (C2.out _ ?_).mono ?_; exact S1.out.gr; rintro e w2 ⟨rfl, hg⟩; have S2 := Lib.hid (S1.out.grown hg); obtain ⟨k0, k1, k2, k3, k4, m0, m1, m2, m3, m4⟩ := HC1.out _ S2.out; clear hg)
            | (go_at_call_of 24 (Value.slice A3 p.npre.length A3c); refine (C3.out _ ?_).mono ?_; exact S2.out.gr; rintro e w3 ⟨rfl, hg⟩; have S3 := Lib.hid (S2.out.grown hg); obtain ⟨k0, k1, k2, k3, k4, m0, m1, m2, m3, m4⟩ := HC1.out _ S3.out; clear hg))
          go_meet
          exact ⟨rfl, S3⟩
        | true =>
          cases d4 with
          | false =>
            go_wp2_with (first
              | (go_at_call_of 24 (Value.slice A1 p.pre.length A1c); refine (C1.out _ ?_).mono ?_; exact S0.out.gr; rintro e w1 ⟨rfl, hg⟩; have S1 := Lib.hid (S0.out.grown hg); obtain ⟨k0, k1, k2, k3, k4, m0, m1, m2, m3, m4⟩ := HC1.out _ S1.out; clear hg)
              | (go_at_call_of 24 (Value.slice A2 p.suf.length A2c); refine (C2.out _ ?_).mono ?_; exact S1.out.gr; rintro e w2 ⟨rfl, hg⟩; have S2 := Lib.hid (S1.out.grown hg); obtain ⟨k0, k1, k2, k3, k4, m0, m1, m2, m3, m4⟩ := HC1.out _ S2.out; clear hg)
              | (go_at_call_of 24 (Value.slice A3 p.npre.length A3c); refine (C3.out _ ?_).mono ?_; exact S2.out.gr; rintro e w3 ⟨rfl, hg⟩; have S3 := Lib.hid (S2.out.grown hg); obtain ⟨k0, k1, k2, k3, k4, m0, m1, m2, m3, m4⟩ := HC1.out _ S3.out; clear hg)
              | (go_at_call_of 24 (Value.slice A4 p.nsuf.length A4c); refine (C4.out _ ?_).mono ?_; exact S3.out.gr; rintro e w4 ⟨rfl, hg⟩; have S4 := Lib.hid (S3.out.grown hg); obtain ⟨k0, k1, k2, k3, k4, m0, m1, m2, m3, m4⟩ := HC1.out _ S4.out; clear hg))
            go_meet
            exact ⟨rfl, S4⟩
          | true =>
            go_wp2_with (first
              | (go_at_call_of 24 (Value.slice A1 p.pre.length A1c); refine (C1.out _ ?_).mono ?_; exact S0.out.gr; rintro e w1 ⟨rfl, hg⟩; have S1 := Lib.hid (S0.out.grown hg); obtain ⟨k0, k1, k2, k3, k4, m0, m1, m2, m3, m4⟩ := HC1.out _ S1.out; clear hg)
              | (go_at_call_of 24 (Value.slice A2 p.suf.length A2c); refine (C2.out _ ?_).mono ?_; exact S1.out.gr; rintro e w2 ⟨rfl, hg⟩; have S2 := Lib.hid (S1.out.grown hg); obtain ⟨k0, k1, k2, k3, k4, m0, m1, m2, m3, m4⟩ := HC1.out _ S2.out; clear hg)
              | (go_at_call_of 24 (Value.slice A3 p.npre.length A3c); refine (C3.out _ ?_).mono ?_; exact S2.out.gr; rintro e w3 ⟨rfl, hg⟩; have S3 := Lib.hid (S2.out.grown hg); obtain ⟨k0, k1, k2, k3, k4, m0, m1, m2, m3, m4⟩ := HC1.out _ S3.out; clear hg)
              | (go_at_call_of 24 (Value.slice A4 p.nsuf.length A4c); refine (C4.out _ ?_).mono ?_; exact S3.out.gr; rintro e w4 ⟨rfl, hg⟩; have S4 := Lib.hid (S3.out.grown hg); obtain ⟨k0, k1, k2, k3, k4, m0, m1, m2, m3, m4⟩ := HC1.out _ S4.out; clear hg))
            go_meet
            exact ⟨rfl, S4⟩
  case rest =>
    obtain ⟨rfl, HA⟩ := hcut
    clear C1 C2 C3 C4 S0 k0 m0 k1 m1 k2 m2 k3 m3 k4 m4
    obtain ⟨k5, k6, k7, k8, k9, k10, m5, m6, m7, m8, m9, m10⟩ := HC2.out _ HA.out
    generalize (d1 && d2 && d3 && d4 && (p.neg == q.neg)) = E1 at *
    go_upto_region 2 with fail
    go_cut [6] (fun v6 wx => v6 = .bool ((p.nm.hash == q.nm.hash) && (p.nm.minInt == q.nm.minInt) && (p.nm.minFrac == q.nm.minFrac) && (p.nm.maxFrac == q.nm.maxFrac) && (p.nm.g1 == q.nm.g1) && (p.nm.g2 == q.nm.g2)) ∧ Hid (SI w wx (ptCells (.slice A1 p.pre.length A1c) (.slice A2 p.suf.length A2c) (.slice A3 p.npre.length A3c) (.slice A4 p.nsuf.length A4c) p) (ptCells (.slice B1 q.pre.length B1c) (.slice B2 q.suf.length B2c) (.slice B3 q.npre.length B3c) (.slice B4 q.nsuf.length B4c) q)))
    case first =>
      cases g0 : (p.nm.hash == q.nm.hash) with
      | false =>
        go_wp2_with fail
        go_meet
        exact ⟨by rw [g0]; rfl, HA⟩
      | true =>
        cases g1 : (p.nm.minInt == q.nm.minInt) with
        | false =>
          go_wp2_with fail
          go_meet
          exact ⟨by rw [g0, g1]; rfl, HA⟩
        | true =>
          cases g2 : (p.nm.minFrac == q.nm.minFrac) with
          | false =>
            go_wp2_with fail
            go_meet
            exact ⟨by rw [g0, g1, g2]; rfl, HA⟩
          | true =>
            cases g3 : (p.nm.maxFrac == q.nm.maxFrac) with
            | false =>
              go_wp2_with fail
              go_meet
              exact ⟨by rw [g0, g1, g2, g3]; rfl, HA⟩
            | true =>
              cases g4 : (p.nm.g1 == q.nm.g1) with
              | false =>
                go_wp2_with fail
                go_meet
                exact ⟨by rw [g0, g1, g2, g3, g4]; rfl, HA⟩
              | true =>
                go_wp2_with fail
                go_meet
                exact ⟨by rw [g0, g1, g2, g3, g4]; rfl, HA⟩
    case rest =>
      obtain ⟨rfl, HB⟩ := hcut
      clear HA k5 m5 k6 m6 k7 m7 k8 m8 k9 m9 k10 m10
      obtain ⟨k11, k12, k13, k14, k15, k16, m11, m12, m13, m14, m15, m16⟩ := HC3.out _ HB.out
      generalize ((p.nm.hash == q.nm.hash) && (p.nm.minInt == q.nm.minInt) && (p.nm.minFrac == q.nm.minFrac) && (p.nm.maxFrac == q.nm.maxFrac) && (p.nm.g1 == q.nm.g1) && (p.nm.g2 == q.nm.g2)) = E2 at *
      cases E1 with
      | false =>
        go_wp2_with fail
        go_ret
        exact ⟨by rw [← HQ.out]; rfl, HB.out.gr⟩
      | true =>
        cases E2 with
        | false =>
          go_wp2_with fail
          go_ret
          exact ⟨by rw [← HQ.out]; rfl, HB.out.gr⟩
        | true =>
          cases g0 : (p.nm.minSig == q.nm.minSig) with
          | false =>
            rw [g0] at HQ
            go_wp2_with fail
            go_ret
            exact ⟨by rw [← HQ.out]; rfl, HB.out.gr⟩
          | true =>
            rw [g0] at HQ
            cases g1 : (p.nm.maxSig == q.nm.maxSig) with
            | false =>
              rw [g1] at HQ
              go_wp2_with fail
              go_ret
              exact ⟨by rw [← HQ.out]; rfl, HB.out.gr⟩
            | true =>
              rw [g1] at HQ
              cases g2 : (p.nm.exp == q.nm.exp) with
              | false =>
                rw [g2] at HQ
                go_wp2_with fail
                go_ret
                exact ⟨by rw [← HQ.out]; rfl, HB.out.gr⟩
              | true =>
                rw [g2] at HQ
                cases g3 : (p.nm.expPlus == q.nm.expPlus) with
                | false =>
                  rw [g3] at HQ
                  go_wp2_with fail
                  go_ret
                  exact ⟨by rw [← HQ.out]; rfl, HB.out.gr⟩
                | true =>
                  rw [g3] at HQ
                  cases g4 : (p.pad == q.pad) with
                  | false =>
                    rw [g4] at HQ
                    go_wp2_with fail
                    go_ret
                    exact ⟨by rw [← HQ.out]; rfl, HB.out.gr⟩
                  | true =>
                    rw [g4] at HQ
                    go_wp2_with fail
                    go_ret
                    exact ⟨by rw [← HQ.out]; rfl, HB.out.gr⟩
end Go.Proofs.Ytdbcdgojbegakaa

/-
pat.small: are a pattern's numbers such that it has a text?
-/
import Derived.Test.YtdbcdgojbegakaaSM2
import Derived.Test.YtdbcdgojbegakaaN3
namespace Go.Proofs.Ytdbcdgojbegakaa
open Go.RowKit

def nums (p : Nm) : List Int := [p.hash, p.minInt, p.minFrac, p.maxFrac, p.g1, p.g2, p.minSig, p.maxSig, p.exp]
theorem small_eq (p : Pt) : smallP p = (!(nums p.nm).any badN && isRune p.pad && !((p.pre ++ p.suf ++ p.npre ++ p.nsuf).any fun t => !isRune t.r)) := by
  have h1 : smallNm p.nm = !(nums p.nm).any badN := by
    simp only [smallNm, nums, List.all_cons, List.all_nil, List.any_cons, List.any_nil, badN]
    rw [Bool.eq_iff_iff]
    simp
  rw [smallP, h1]
  congr 1
  rw [List.all_eq_not_any_not]

set_option maxRecDepth 100000 in
set_option maxHeartbeats 4000000 in
theorem small_any (w : World) (u : Value) (p : Pt) (h : PatV w u p) (hl : (p.pre ++ p.suf ++ p.npre ++ p.nsuf).length ≤ 300) :
    Calls Try.prog 23 #[u] w fun e w' => e = .returned (.bool (smallP p)) ∧ w.grownBy w' none := by
  obtain ⟨v1, v2, v3, v4, rfl, t1, t2, t3, t4⟩ := h
  have T := Lib.hid (And.intro t1 (And.intro t2 (And.intro t3 t4)))
  obtain ⟨A1, c1, rfl, -⟩ := id t1
  obtain ⟨A2, c2, rfl, -⟩ := id t2
  obtain ⟨A3, c3, rfl, -⟩ := id t3
  obtain ⟨A4, c4, rfl, -⟩ := id t4
  have hlen : p.pre.length + p.suf.length + p.npre.length + p.nsuf.length ≤ 300 := by simpa using (by simp at hl; omega : _)
  have HS := Lib.hid (small_eq p)
  have H0 := Lib.hid (TI.new w (ptCells (.slice A1 p.pre.length c1) (.slice A2 p.suf.length c2) (.slice A3 p.npre.length c3) (.slice A4 p.nsuf.length c4) p))
  have C41 : Hid (∀ W : World, Calls Try.prog 41 #[.slice (some ⟨W.heap.size, 0, none⟩) 9 9, .func (.func 42) #[] #[]] (W.alloc (.cells #[.int .i64 p.nm.hash, .int .i64 p.nm.minInt, .int .i64 p.nm.minFrac, .int .i64 p.nm.maxFrac, .int .i64 p.nm.g1, .int .i64 p.nm.g2, .int .i64 p.nm.minSig, .int .i64 p.nm.maxSig, .int .i64 p.nm.exp] 3)) fun e w' =>
      e = .returned (.bool ((nums p.nm).any badN)) ∧ w' = (W.alloc (.cells #[.int .i64 p.nm.hash, .int .i64 p.nm.minInt, .int .i64 p.nm.minFrac, .int .i64 p.nm.maxFrac, .int .i64 p.nm.g1, .int .i64 p.nm.g2, .int .i64 p.nm.minSig, .int .i64 p.nm.maxSig, .int .i64 p.nm.exp] 3))) := fun W =>
    has_num _ ⟨W.heap.size, 0, none⟩ (nums p.nm) 9 (by simp [nums]) (fun i x hx => by
      have hb := (Blk.new W 3 #[.int .i64 p.nm.hash, .int .i64 p.nm.minInt, .int .i64 p.nm.minFrac, .int .i64 p.nm.maxFrac, .int .i64 p.nm.g1, .int .i64 p.nm.g2, .int .i64 p.nm.minSig, .int .i64 p.nm.maxSig, .int .i64 p.nm.exp]).cell i
      rw [show (⟨W.heap.size, 0, none⟩ : Addr).add i = ⟨W.heap.size, i, none⟩ by unfold Addr.add; split <;> simp_all, hb]
      have : (#[.int .i64 p.nm.hash, .int .i64 p.nm.minInt, .int .i64 p.nm.minFrac, .int .i64 p.nm.maxFrac, .int .i64 p.nm.g1, .int .i64 p.nm.g2, .int .i64 p.nm.minSig, .int .i64 p.nm.maxSig, .int .i64 p.nm.exp] : Array Value) = ((nums p.nm).map (Value.int .i64)).toArray := rfl
      rw [this]; simp [hx])
  have C43 := Lib.hid (is_rune p.pad)
  have HLEN := Lib.hid hlen
  clear t1 t2 t3 t4 hl hlen
  go_enter Try.func23, Try.ntmps23
  go_upto_region 1 with fail
  generalize w.alloc (.cells (ptCells (.slice A1 p.pre.length c1) (.slice A2 p.suf.length c2) (.slice A3 p.npre.length c3) (.slice A4 p.nsuf.length c4) p) 24) = W0 at *
  have k5 : W0.cell? ⟨w.heap.size, 5, none⟩ = some (.int .i64 p.nm.hash) := H0.out.blk.cell 5
  have k6 : W0.cell? ⟨w.heap.size, 6, none⟩ = some (.int .i64 p.nm.minInt) := H0.out.blk.cell 6
  have k7 : W0.cell? ⟨w.heap.size, 7, none⟩ = some (.int .i64 p.nm.minFrac) := H0.out.blk.cell 7
  have k8 : W0.cell? ⟨w.heap.size, 8, none⟩ = some (.int .i64 p.nm.maxFrac) := H0.out.blk.cell 8
  have k9 : W0.cell? ⟨w.heap.size, 9, none⟩ = some (.int .i64 p.nm.g1) := H0.out.blk.cell 9
  have k10 : W0.cell? ⟨w.heap.size, 10, none⟩ = some (.int .i64 p.nm.g2) := H0.out.blk.cell 10
  have k11 : W0.cell? ⟨w.heap.size, 11, none⟩ = some (.int .i64 p.nm.minSig) := H0.out.blk.cell 11
  have k12 : W0.cell? ⟨w.heap.size, 12, none⟩ = some (.int .i64 p.nm.maxSig) := H0.out.blk.cell 12
  have k13 : W0.cell? ⟨w.heap.size, 13, none⟩ = some (.int .i64 p.nm.exp) := H0.out.blk.cell 13
  have H1 := Lib.hid (H0.out.grown (only_alloc (only_refl W0 none) (.cells #[.int .i64 p.nm.hash, .int .i64 p.nm.minInt, .int .i64 p.nm.minFrac, .int .i64 p.nm.maxFrac, .int .i64 p.nm.g1, .int .i64 p.nm.g2, .int .i64 p.nm.minSig, .int .i64 p.nm.maxSig, .int .i64 p.nm.exp] 3)))
  go_upto_region 2 with fail
  have C := C41.out W0
  clear C41 k5 k6 k7 k8 k9 k10 k11 k12 k13
  generalize W0.alloc (.cells #[.int .i64 p.nm.hash, .int .i64 p.nm.minInt, .int .i64 p.nm.minFrac, .int .i64 p.nm.maxFrac, .int .i64 p.nm.g1, .int .i64 p.nm.g2, .int .i64 p.nm.minSig, .int .i64 p.nm.maxSig, .int .i64 p.nm.exp] 3) = W1 at *
  have D41 := Lib.hid C
  clear C
  have k0 : W1.cell? ⟨w.heap.size, 0, none⟩ = some (.slice A1 p.pre.length c1) := H1.out.blk.cell 0
  have k1 : W1.cell? ⟨w.heap.size, 1, none⟩ = some (.slice A2 p.suf.length c2) := H1.out.blk.cell 1
  have k2 : W1.cell? ⟨w.heap.size, 2, none⟩ = some (.slice A3 p.npre.length c3) := H1.out.blk.cell 2
  have k3 : W1.cell? ⟨w.heap.size, 3, none⟩ = some (.slice A4 p.nsuf.length c4) := H1.out.blk.cell 3
  have k15 : W1.cell? ⟨w.heap.size, 15, none⟩ = some (.int .i32 p.pad) := H1.out.blk.cell 15
  have C45 : Hid (Calls Try.prog 45 #[.slice (some ⟨W1.heap.size, 0, none⟩) 4 4] (W1.alloc (.cells #[.slice A1 p.pre.length c1, .slice A2 p.suf.length c2, .slice A3 p.npre.length c3, .slice A4 p.nsuf.length c4] 22)) fun e w' => ∃ v, e = .returned v ∧ TL w' v (p.pre ++ p.suf ++ p.npre ++ p.nsuf) ∧ w.grownBy w' none) := by
    have hg : w.grownBy (W1.alloc (.cells #[.slice A1 p.pre.length c1, .slice A2 p.suf.length c2, .slice A3 p.npre.length c3, .slice A4 p.nsuf.length c4] 22)) none := only_alloc H1.out.gr _
    refine (concat_any _ W1.heap.size _ _ _ _ _ _ _ _ (Blk.new W1 22 _) (T.out.1.grown hg) (T.out.2.1.grown hg) (T.out.2.2.1.grown hg) (T.out.2.2.2.grown hg) HLEN.out).mono ?_
    rintro e w' ⟨v, rfl, ht, hg2⟩
    exact ⟨v, rfl, ht, only_trans hg hg2⟩
  generalize (nums p.nm).any badN = b1 at *
  cases b1 with
  | true =>
    go_wp2_with (go_at_call 41; refine D41.out.mono ?_; rintro e w2 ⟨rfl, rfl⟩)
    go_ret
    exact ⟨by rw [HS.out]; rfl, H1.out.gr⟩
  | false =>
    generalize isRune p.pad = b2 at *
    cases b2 with
    | false =>
      go_wp2_with (first
        | (go_at_call 41; refine D41.out.mono ?_; rintro e w2 ⟨rfl, rfl⟩)
        | (go_at_call 43; refine (C43.out _).mono ?_; rintro e w2 ⟨rfl, rfl⟩))
      go_ret
      exact ⟨by rw [HS.out]; rfl, H1.out.gr⟩
    | true =>
      go_wp2_with (first
        | (go_at_call 41; refine D41.out.mono ?_; rintro e w2 ⟨rfl, rfl⟩)
        | (go_at_call 43; refine (C43.out _).mono ?_; rintro e w2 ⟨rfl, rfl⟩)
        | (go_at_call 45; refine C45.out.mono ?_; rintro e w3 ⟨v, rfl, ht, hg⟩; have HT := Lib.hid ht; have HG := Lib.hid hg; clear ht hg)
        | (go_at_call 44; refine (has_tok _ _ _ (by exact HT.out) (by have := HLEN.out; simp; omega)).mono ?_; rintro e w4 ⟨rfl, hg⟩; have HG4 := Lib.hid (only_trans HG.out hg); clear hg))
      go_ret
      exact ⟨by rw [HS.out]; simp, HG4.out⟩
end Go.Proofs.Ytdbcdgojbegakaa

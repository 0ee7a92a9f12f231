/-
pat.Right: is a pattern right?
pat.Right: is a pattern right? The walk.
-/
import Derived.Test.YtdbcdgojbegakaaSM3
import Derived.Test.YtdbcdgojbegakaaE2
namespace Go.Proofs.Ytdbcdgojbegakaa
open Go.RowKit

theorem placesT_rune (p : Nm) : ∀ k, ∀ r ∈ placesT p k, isRune r = true
  | 0, r, h => by simp [placesT] at h
  | k + 1, r, h => by
    have ih := placesT_rune p k r
    have h1 : isRune 35 = true := by decide
    have h2 : isRune 48 = true := by decide
    have h3 : isRune 44 = true := by decide
    simp only [placesT] at h
    rcases List.mem_cons.1 h with h | h
    · split at h <;> subst h <;> assumption
    · split at h
      · rcases List.mem_cons.1 h with h | h
        · subst h; exact h3
        · exact ih h
      · exact ih h
theorem rep_rune {c : Int} (hc : isRune c = true) (n : Nat) : ∀ r ∈ List.replicate n c, isRune r = true := fun r h => by rw [List.eq_of_mem_replicate h]; exact hc
theorem numT_rune (p : Nm) : ∀ r ∈ numT p, isRune r = true := by
  intro r h
  have h1 : isRune 35 = true := by decide
  have h2 : isRune 48 = true := by decide
  have h3 : isRune 64 = true := by decide
  have h4 : isRune 46 = true := by decide
  have h5 : isRune 69 = true := by decide
  have h6 : isRune 43 = true := by decide
  simp only [numT, List.mem_append] at h
  rcases h with (((h | h) | h) | h) | h
  · exact rep_rune h3 _ r h
  · exact rep_rune h1 _ r h
  · exact placesT_rune p _ r h
  · split at h
    · rcases List.mem_cons.1 h with h | h
      · subst h; exact h4
      · rcases List.mem_append.1 h with h | h
        · exact rep_rune h2 _ r h
        · exact rep_rune h1 _ r h
    · cases h
  · split at h
    · rcases List.mem_cons.1 h with h | h
      · subst h; exact h5
      · rcases List.mem_append.1 h with h | h
        · split at h
          · rw [List.mem_singleton.1 h]; exact h6
          · cases h
        · exact rep_rune h2 _ r h
    · cases h
theorem writtenT_rune : ∀ (ts : List Tk) (q : Bool), (∀ t ∈ ts, isRune t.r = true) → ∀ r ∈ writtenT q ts, isRune r = true
  | [], q, _, r, h => by
    cases q
    · simp [writtenT] at h
    · simp [writtenT] at h; subst h; decide
  | t :: ts, q, ht, r, h => by
    have h39 : isRune 39 = true := by decide
    have hts : ∀ t ∈ ts, isRune t.r = true := fun x hx => ht x (by simp [hx])
    simp only [writtenT] at h
    split at h
    · rcases List.mem_append.1 h with h | h
      · rcases List.mem_append.1 h with h | h
        · split at h
          · rw [List.mem_singleton.1 h]; exact h39
          · cases h
        · unfold runeOf at h
          split at h
          · rw [List.mem_singleton.1 h]; decide
          · split at h
            · rw [List.mem_singleton.1 h]; decide
            · split at h
              · rw [List.mem_singleton.1 h]; decide
              · split at h
                · rw [List.mem_singleton.1 h]; decide
                · cases h
      · exact writtenT_rune ts _ hts r h
    · split at h
      · rcases List.mem_cons.1 h with h | h
        · subst h; exact h39
        · rcases List.mem_cons.1 h with h | h
          · subst h; exact h39
          · exact writtenT_rune ts _ hts r h
      · rcases List.mem_append.1 h with h | h
        · split at h
          · rw [List.mem_singleton.1 h]; exact h39
          · cases h
        · rcases List.mem_cons.1 h with h | h
          · subst h; exact ht t (by simp)
          · exact writtenT_rune ts _ hts r h
theorem padT_rune (p : Pt) (x : Int) (hp : isRune p.pad = true) : ∀ r ∈ padT p x, isRune r = true := by
  intro r h
  unfold padT at h
  split at h
  · simp at h
    rcases h with rfl | rfl
    · decide
    · exact hp
  · cases h
theorem textT_rune (p : Pt) (hs : smallP p = true) : ∀ r ∈ textT p, isRune r = true := by
  simp only [smallP, Bool.and_eq_true] at hs
  obtain ⟨⟨_, hp⟩, hall⟩ := hs
  have hru : ∀ ts : List Tk, (∀ t ∈ ts, t ∈ p.pre ++ p.suf ++ p.npre ++ p.nsuf) → ∀ t ∈ ts, isRune t.r = true := fun ts h t ht => List.all_eq_true.1 hall t (h t ht)
  intro r h
  simp only [textT, List.mem_append] at h
  rcases h with ((((((h | h) | h) | h) | h) | h) | h) | h
  · exact padT_rune p _ hp r h
  · exact writtenT_rune _ _ (hru _ fun t ht => by simp [ht]) r h
  · exact padT_rune p _ hp r h
  · exact numT_rune _ r h
  · exact padT_rune p _ hp r h
  · exact writtenT_rune _ _ (hru _ fun t ht => by simp [ht]) r h
  · exact padT_rune p _ hp r h
  · split at h
    · rcases List.mem_cons.1 h with h | h
      · subst h; decide
      · rcases List.mem_append.1 h with h | h
        · rcases List.mem_append.1 h with h | h
          · exact writtenT_rune _ _ (hru _ fun t ht => by simp [ht]) r h
          · exact numT_rune _ r h
        · exact writtenT_rune _ _ (hru _ fun t ht => by simp [ht]) r h
    · cases h
theorem textT_le (p : Pt) (hs : smallP p = true) (hl : (p.pre ++ p.suf ++ p.npre ++ p.nsuf).length ≤ 300) : (textT p).length ≤ 8192 := by
  simp only [smallP, Bool.and_eq_true] at hs
  have l1 := padT_le p 1
  have l2 := writtenT_le p.pre false
  have l3 := padT_le p 2
  have l4 := numT_le p.nm hs.1.1
  have l5 := padT_le p 3
  have l6 := writtenT_le p.suf false
  have l7 := padT_le p 4
  have l8 := writtenT_le p.npre false
  have l9 := writtenT_le p.nsuf false
  simp only [List.length_append] at hl
  unfold textT
  split <;> simp <;> omega
end Go.Proofs.Ytdbcdgojbegakaa
namespace Go.Proofs.Ytdbcdgojbegakaa
open Go.RowKit

theorem row_range {w : World} {g : Nat} {t : TypeId} {cs : Array Value} (h : Blk w g t cs) : w.rangeAt g 0 cs.toList := fun j v hj => by
  rw [h.cell (0 + j), ← Array.getElem?_toList, Nat.zero_add]; exact hj

theorem wpList_load_wanted {P : Program} {ops : Array Oper} {a : Act} {w : World} {Q : Exit → Act → World → Prop} {rest : List Oper} {op : Oper} (hw : Region.wanted op (yielded ops a.tmps) = true) (ty : TypeId) (x : Operand) (ho : op.op = .load ty x)
    (b o : Nat) (hx : a.eval x = .pointer (some ⟨b, o, none⟩)) (cs : List Value) (d : TypeDesc) (hc : w.rangeAt b o cs)
    (hu : P.underlying ty = some d) (hd : d.isRow = true) (hi : (P.info? ty).map (·.size) = some cs.length)
    (h : wpList P ops Q rest (a.put op.dst (.agg cs.toArray)) w) : wpList P ops Q (op :: rest) a w :=
  wpList_step fun _ hK => by
    rw [if_pos hw]
    exact wp_load_mid ty x ho b o hx cs d hc hu hd hi (hK _ _ h)
theorem blk_far {w4 : World} {g : Nat} {t : TypeId} {cs ds es : Array Value} (h : Blk w4 g t cs) (hlt : g < w4.heap.size) : Blk ((w4.alloc (.cells es 24)).setRow w4.heap.size ds) g t cs := by
  show _ = _
  rw [setRow_other _ _ _ _ (by omega)]
  exact h.alloc _

set_option maxRecDepth 100000 in
set_option maxHeartbeats 40000000 in
theorem right_any (w : World) (u : Value) (p : Pt) (h : PatV w u p) (hl : (p.pre ++ p.suf ++ p.npre ++ p.nsuf).length ≤ 300) :
    Calls Try.prog 10 #[u] w fun e w' => e = .returned (.bool (rightP p)) ∧ w.grownBy w' none := by
  have HPV := Lib.hid h
  obtain ⟨v1, v2, v3, v4, rfl, t1, t2, t3, t4⟩ := h
  obtain ⟨A1, A1c, rfl, -⟩ := id t1
  obtain ⟨A2, A2c, rfl, -⟩ := id t2
  obtain ⟨A3, A3c, rfl, -⟩ := id t3
  obtain ⟨A4, A4c, rfl, -⟩ := id t4
  have HLN := Lib.hid hl
  have H0 := Lib.hid (TI.new w (ptCells (.slice A1 p.pre.length A1c) (.slice A2 p.suf.length A2c) (.slice A3 p.npre.length A3c) (.slice A4 p.nsuf.length A4c) p))
  have HPV2 : Hid (∀ W, w.grownBy W none → PatV W (.agg (ptCells (.slice A1 p.pre.length A1c) (.slice A2 p.suf.length A2c) (.slice A3 p.npre.length A3c) (.slice A4 p.nsuf.length A4c) p)) p) := fun W hg => HPV.out.grown hg
  clear t1 t2 t3 t4 hl
  go_enter Try.func10, Try.ntmps10
  go_upto_region 1 with fail
  generalize w.alloc (.cells (ptCells (.slice A1 p.pre.length A1c) (.slice A2 p.suf.length A2c) (.slice A3 p.npre.length A3c) (.slice A4 p.nsuf.length A4c) p) 24) = W0 at *
  have C23 := Lib.hid (small_any W0 _ p (HPV2.out _ H0.out.gr) HLN.out)
  cases hs : smallP p with
  | false =>
    have HR : Hid (rightP p = false) := by simp [Hid, rightP, hs]
    rw [hs] at C23
    clear hs
    go_wp2_with (first
      | (refine wpList_load_mid rfl 24 _ rfl w.heap.size 0 rfl (ptCells (.slice A1 p.pre.length A1c) (.slice A2 p.suf.length A2c) (.slice A3 p.npre.length A3c) (.slice A4 p.nsuf.length A4c) p).toList _ (by exact row_range H0.out.blk) Try.underlying24 rfl (info24c _ _ _ _ _) ?_)
      | (go_at_call 23; refine C23.out.mono ?_; rintro e w2 ⟨rfl, hg⟩; have HG := Lib.hid (only_trans H0.out.gr hg); clear hg))
    go_ret
    exact ⟨by rw [HR.out]; rfl, HG.out⟩
  | true =>
    have HR : Hid (rightP p = decide (parseL (textT p) = some p)) := by simp [Hid, rightP, hs]
    have C13 : Hid (∀ W, w.grownBy W none → Calls Try.prog 13 #[.agg (ptCells (.slice A1 p.pre.length A1c) (.slice A2 p.suf.length A2c) (.slice A3 p.npre.length A3c) (.slice A4 p.nsuf.length A4c) p)] W fun e w' => e = .returned (.string (strOf (textT p))) ∧ W.grownBy w' none) := fun W hg => text_any W _ p (HPV2.out _ hg) hs HLN.out
    have C19 : Hid (∀ W, Calls Try.prog 19 #[.string (strOf (textT p))] W fun e w' => ParseV (parseL (textT p)) e w' ∧ W.grownBy w' none) := fun W => parse_any W _ (textT_rune p hs) (textT_le p hs HLN.out)
    rw [hs] at C23
    clear hs
    go_wp2_with (first
      | (refine wpList_load_mid rfl 24 _ rfl w.heap.size 0 rfl (ptCells (.slice A1 p.pre.length A1c) (.slice A2 p.suf.length A2c) (.slice A3 p.npre.length A3c) (.slice A4 p.nsuf.length A4c) p).toList _ (by exact row_range H0.out.blk) Try.underlying24 rfl (info24c _ _ _ _ _) ?_)
      | (refine wpList_load_mid rfl 24 _ rfl w.heap.size 0 rfl (ptCells (.slice A1 p.pre.length A1c) (.slice A2 p.suf.length A2c) (.slice A3 p.npre.length A3c) (.slice A4 p.nsuf.length A4c) p).toList _ (by exact row_range H2.out.blk) Try.underlying24 rfl (info24c _ _ _ _ _) ?_)
      | (go_at_call 23; refine C23.out.mono ?_; rintro e w2 ⟨rfl, hg⟩; have H2 := Lib.hid (H0.out.grown hg); clear hg)
      | (go_at_call 13; refine (C13.out _ (by exact H2.out.gr)).mono ?_; rintro e w3 ⟨rfl, hg⟩; have H3 := Lib.hid (H2.out.grown hg); clear hg))
    cases ho : parseL (textT p) with
    | none =>
      rw [ho] at C19 HR
      have HRF : Hid (rightP p = false) := by rw [Hid, HR.out]; rfl
      go_wp2_with (first
        | (go_at_call 19; refine (C19.out _).mono ?_; go_must (rintro e w4 ⟨⟨u4, at4, code, rfl, hcode, v1, v2, v3, v4, rfl, z1, z2, z3, z4⟩, hg⟩; obtain ⟨Z1, d1, rfl, -⟩ := z1; obtain ⟨Z2, d2, rfl, -⟩ := z2; obtain ⟨Z3, d3, rfl, -⟩ := z3; obtain ⟨Z4, d4, rfl, -⟩ := z4; have H4 := Lib.hid (H3.out.grown hg); have hcode2 := beq_false_of_ne hcode; have HB := Lib.hid (Blk.new w4 24 zCells); clear hg hcode))
        | (refine wpList_store_row rfl 24 _ _ rfl w4.heap.size _ rfl rfl 24 zCells HB.out (by exact info24) (by rfl) (by simp [ptCells, Value.oneCell']) ?_))
      go_ret
      refine ⟨by rw [HRF.out]; rfl, only_row (only_alloc H4.out.gr _) (.inr H4.out.gr.size) _⟩
    | some q =>
      rw [ho] at C19 HR
      have HRF : Hid (rightP p = decide (p = q)) := by
        rw [Hid, HR.out]
        by_cases h : p = q
        · simp [h]
        · have h2 : ¬ q = p := fun e => h e.symm
          simp [h, h2]
      go_wp2_with (first
        | (go_at_call 19; refine (C19.out _).mono ?_; rintro e w4 ⟨⟨u4, rfl, hq⟩, hg⟩; have HQ := Lib.hid hq; obtain ⟨v1, v2, v3, v4, rfl, z1, z2, z3, z4⟩ := hq; obtain ⟨B1, B1c, rfl, -⟩ := z1; obtain ⟨B2, B2c, rfl, -⟩ := z2; obtain ⟨B3, B3c, rfl, -⟩ := z3; obtain ⟨B4, B4c, rfl, -⟩ := z4; have H4 := Lib.hid (H3.out.grown hg); have HB := Lib.hid (Blk.new w4 24 zCells); clear hg)
        | (refine wpList_store_row rfl 24 _ _ rfl w4.heap.size _ rfl rfl 24 zCells HB.out (by exact info24) (by rfl) (by simp [ptCells, Value.oneCell']) ?_)
        | (refine wpList_load_wanted (by rfl) 24 _ (by rfl) w.heap.size 0 (by rfl) (ptCells (.slice A1 p.pre.length A1c) (.slice A2 p.suf.length A2c) (.slice A3 p.npre.length A3c) (.slice A4 p.nsuf.length A4c) p).toList _ (by exact row_range (blk_far H4.out.blk (H4.out.blk.lt))) Try.underlying24 rfl (info24c _ _ _ _ _) ?_)
        | (refine wpList_load_wanted (by rfl) 24 _ (by rfl) w4.heap.size 0 (by rfl) (ptCells (.slice B1 q.pre.length B1c) (.slice B2 q.suf.length B2c) (.slice B3 q.npre.length B3c) (.slice B4 q.nsuf.length B4c) q).toList _ (by exact row_range (HB.out.row _)) Try.underlying24 rfl (info24c _ _ _ _ _) ?_)
        | (go_at_call 11; refine (same_any _ _ _ p q (HPV2.out _ (only_row (only_alloc H4.out.gr _) (.inr H4.out.gr.size) _)) (HQ.out.grown (only_row (only_alloc (only_refl w4 none) _) (.inr (Nat.le_refl _)) _)) (Nat.le_trans HLN.out (by decide))).mono ?_; rintro e w5 ⟨rfl, hg⟩; have HG5 := Lib.hid (only_trans (only_row (only_alloc H4.out.gr _) (.inr H4.out.gr.size) _) hg); clear hg))
      go_ret
      exact ⟨by rw [HRF.out]; rfl, HG5.out⟩
end Go.Proofs.Ytdbcdgojbegakaa

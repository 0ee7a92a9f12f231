/-
The pattern reader's number.
-/
import Derived.Test.YtdbcdgojbegakaaR6
import Derived.Deep.RegionWith
namespace Go.Proofs.Ytdbcdgojbegakaa
open Go.RowKit

/-- What a number's reading comes to. -/
def NPost (rb : Nat) (A : Option Addr) (cap : Nat) (l : List Int) (s : RS) (o : Option (Nm × List Int)) (e : Ending) (w' : World) : Prop :=
  match o with
  | none => Wrong e
  | some q => e = .returned (.tuple #[]) ∧ ∃ k, l.drop k = q.2 ∧ Rd w' rb A cap l { s with at_ := k, nm := q.1 }

theorem head_cons {l : List Int} {c : Int} (h : l.head? = some c) : ∃ t, l = c :: t := by
  cases l with
  | nil => cases h
  | cons d t => simp at h; exact ⟨t, by rw [h]⟩
theorem expL_no {l : List Int} (h : l.head? ≠ some 69) : expL l = some ((false, 0), l) := by
  cases l with
  | nil => rfl
  | cons c t => simp at h; simp [expL, h]
theorem expL_plus (u : List Int) : expL (69 :: 43 :: u) = if runLen 48 u = 0 then none else some ((true, (runLen 48 u : Int)), u.drop (runLen 48 u)) := by simp [expL]
theorem expL_bare {t : List Int} (h : t.head? ≠ some 43) : expL (69 :: t) = if runLen 48 t = 0 then none else some ((false, (runLen 48 t : Int)), t.drop (runLen 48 t)) := by
  simp [expL, h]
theorem fracL_no {l : List Int} (h : l.head? ≠ some 46) : fracL l = some ((0, 0), l) := by
  cases l with
  | nil => rfl
  | cons c t => simp at h; simp [fracL, h]
theorem fracL_yes (t : List Int) : fracL (46 :: t) = if runLen 48 t + runLen 35 (t.drop (runLen 48 t)) = 0 then none else
    some (((runLen 48 t : Int), ((runLen 48 t + runLen 35 (t.drop (runLen 48 t)) : Nat) : Int)), (t.drop (runLen 48 t)).drop (runLen 35 (t.drop (runLen 48 t)))) := rfl

section
variable {w : World} {rb : Nat} {A : Option Addr} {cap : Nat} {l : List Int} {s : RS}

set_option maxRecDepth 100000 in
set_option maxHeartbeats 4000000 in
theorem number_any (h : Rd w rb A cap l s) (hz : s.nm = zNm) :
    Calls Try.prog 82 #[.pointer (some ⟨rb, 0, none⟩)] w fun e w' =>
      NPost rb A cap l s (numberL (l.drop s.at_)) e w' ∧ w.grownBy w' (some rb) := by
  have HL := Lib.hid h.len
  have H := Lib.hid h
  have HZ := Lib.hid hz
  clear h hz
  go_enter Try.func82, Try.ntmps82
  go_wp2_with fail
  refine (count_any H.out 64).mono ?_
  rintro e W1 ⟨rfl, hr1, hg1⟩
  have H1 := Lib.hid hr1
  have G1 := Lib.hid hg1
  have c13 := hr1.c13
  have f1 := hr1.frozen
  clear hr1 hg1
  have HN : Hid (numberL (l.drop s.at_) = (if 0 < runLen 64 (l.drop s.at_) then some ({ zNm with minSig := (runLen 64 (l.drop s.at_) : Nat), maxSig := ((runLen 64 (l.drop s.at_) + runLen 35 ((l.drop s.at_).drop (runLen 64 (l.drop s.at_))) : Nat) : Int) }, ((l.drop s.at_).drop (runLen 64 (l.drop s.at_))).drop (runLen 35 ((l.drop s.at_).drop (runLen 64 (l.drop s.at_)))))
    else (placesL 0 0 0 [] (l.drop s.at_)).bind fun q => (fracL q.2).map fun f => ({ zNm with hash := q.1.1, minInt := q.1.2.1, g1 := q.1.2.2.1, g2 := q.1.2.2.2, minFrac := f.1.1, maxFrac := f.1.2 }, f.2)).bind fun q =>
      (expL q.2).map fun e => ({ q.1 with expPlus := e.1.1, exp := e.1.2 }, e.2)) := rfl
  have hnle : runLen 64 (l.drop s.at_) ≤ 120 := Nat.le_trans (runLen_le _ _) (by have := HL.out; simp; omega)
  generalize hn : runLen 64 (l.drop s.at_) = n at *
  by_cases hn0 : 0 < n
  · have hnb : decide (0 < n) = true := by simpa using hn0
    have hnb2 : decide ((0 : Int) < (n : Int)) = true := by simp; omega
    have HN1 := Lib.hid hn
    have HN0 := Lib.hid hn0
    clear hn
    go_wp2_with fail
    have H2 := Lib.hid (H1.out.set_ 13 (.int .i64 n) (s' := { s with at_ := s.at_ + n, nm := { s.nm with minSig := n } }) rfl H1.out.le)
    have G2 := Lib.hid (only_setCell (p := ⟨rb, 13, none⟩) G1.out (.inl rfl) (.int .i64 (n : Int)))
    clear H1 G1 c13 f1
    refine (count_any H2.out 35).mono ?_
    rintro e W3 ⟨rfl, hr3, hg3⟩
    have H3 := Lib.hid hr3
    have G3 := Lib.hid (only_trans G2.out hg3)
    have c14 := hr3.c14
    have f3 := hr3.frozen
    clear hr3 hg3 H2 G2
    have HM : Hid (List.drop (RS.at_ { s with at_ := s.at_ + n, nm := { s.nm with minSig := n } }) l = (l.drop s.at_).drop n) := by show List.drop (s.at_ + n) l = _; rw [List.drop_drop]
    have hmle : runLen 35 (List.drop (RS.at_ { s with at_ := s.at_ + n, nm := { s.nm with minSig := n } }) l) ≤ 120 := Nat.le_trans (runLen_le _ _) (by have := HL.out; simp; omega)
    generalize hm : runLen 35 (List.drop (RS.at_ { s with at_ := s.at_ + n, nm := { s.nm with minSig := n } }) l) = m at *
    have HM2 := Lib.hid hm
    clear hm
    go_wp2_with fail
    have H4 := Lib.hid (H3.out.set_ 14 (.int .i64 ((n : Int) + m)) (s' := { s with at_ := s.at_ + n + m, nm := { s.nm with minSig := n, maxSig := (n : Int) + m } }) rfl H3.out.le)
    have G4 := Lib.hid (only_setCell (p := ⟨rb, 14, none⟩) G3.out (.inl rfl) (.int .i64 ((n : Int) + m)))
    have HQ : Hid (numberL (l.drop s.at_) = (expL (l.drop (s.at_ + n + m))).map fun e => ({ ({ s.nm with minSig := (n : Int), maxSig := (n : Int) + m } : Nm) with expPlus := e.1.1, exp := e.1.2 }, e.2)) := by
      have h1 := HN.out
      rw [if_pos HN0.out] at h1
      rw [h1, ← HM.out, HM2.out, HM.out, HZ.out, List.drop_drop, List.drop_drop]
      show _ = _
      rw [Nat.add_assoc]
      rfl
    have HX : Hid (({ s.nm with minSig := (n : Int), maxSig := (n : Int) + m } : Nm).exp = 0 ∧ ({ s.nm with minSig := (n : Int), maxSig := (n : Int) + m } : Nm).expPlus = false) := by rw [HZ.out]; exact ⟨rfl, rfl⟩
    generalize (s.at_ + n + m) = k at *
    generalize ({ s.nm with minSig := (n : Int), maxSig := (n : Int) + m } : Nm) = nm1 at *
    generalize (W3.setCell ⟨rb, 14, none⟩ (.int .i64 ((n : Int) + m))) = W at *
    by_cases hE : (l.drop k).head? = some 69
    · obtain ⟨t, ht⟩ := head_cons hE
      have HT := Lib.hid ht
      clear hE ht
      refine (has_yes H4.out HT.out).mono ?_
      rintro e W5 ⟨rfl, hr5, hg5⟩
      have H5 := Lib.hid hr5
      have G5 := Lib.hid (only_trans G4.out hg5)
      have HT5 : Hid (l.drop (k + 1) = t) := drop_succ HT.out
      clear hr5 hg5
      go_wp2_with fail
      by_cases hp : t.head? = some 43
      · obtain ⟨u, hu⟩ := head_cons hp
        subst hu
        clear hp
        refine (has_yes H5.out HT5.out).mono ?_
        rintro e W6 ⟨rfl, hr6, hg6⟩
        have H6 := Lib.hid hr6
        have G6 := Lib.hid (only_trans G5.out hg6)
        have c16 := hr6.c16
        have f6 := hr6.frozen
        clear hr6 hg6
        go_wp2_with fail
        have H7 := Lib.hid (H6.out.set_ 16 (.bool true) (s' := { s with at_ := k + 1 + 1, nm := { nm1 with expPlus := true } }) rfl H6.out.le)
        have G7 := Lib.hid (only_setCell (p := ⟨rb, 16, none⟩) G6.out (.inl rfl) (.bool true))
        have HQ2 : Hid (numberL (l.drop s.at_) = if runLen 48 (l.drop (k + 1 + 1)) = 0 then none else some ({ nm1 with expPlus := true, exp := (runLen 48 (l.drop (k + 1 + 1)) : Int) }, l.drop (k + 1 + 1 + runLen 48 (l.drop (k + 1 + 1))))) := by
          rw [HQ.out, HT.out, expL_plus, ← drop_succ HT5.out]
          show Option.map _ _ = _
          split <;> simp
        refine (count_any (by exact H7.out) 48).mono ?_
        rintro e W8 ⟨he0, hr8, hg8⟩
        have he : e = .returned (.int .i64 (runLen 48 (l.drop (k + 1 + 1)) : Nat)) := he0
        have H8 : Hid (Rd W8 rb A cap l { s with at_ := k + 1 + 1 + runLen 48 (l.drop (k + 1 + 1)), nm := { nm1 with expPlus := true } }) := hr8
        have G8 := Lib.hid (only_trans G7.out hg8)
        have c15 : W8.cell? ⟨rb, 15, none⟩ = some (.int .i64 nm1.exp) := hr8.c15
        have c1 : W8.cell? ⟨rb, 1, none⟩ = some (.int .i64 ((k + 1 + 1 + runLen 48 (l.drop (k + 1 + 1)) : Nat) : Int)) := hr8.c1
        have f8 := hr8.frozen
        clear hr8 hg8 he0
        have hele : runLen 48 (l.drop (k + 1 + 1)) ≤ 120 := Nat.le_trans (runLen_le _ _) (by have := HL.out; simp; omega)
        generalize runLen 48 (l.drop (k + 1 + 1)) = x at *
        subst he
        by_cases hx : x = 0
        · subst hx
          go_wp2_with fail
          refine ⟨rfl, ?_, only_setCell (p := ⟨rb, 15, none⟩) G8.out (.inl rfl) _⟩
          have h2 : numberL (l.drop s.at_) = none := by simpa using HQ2.out
          rw [h2]
          exact ⟨_, rfl⟩
        · have hxb : ((x : Int) == 0) = false := by simpa using hx
          have h2 := HQ2.out
          rw [if_neg hx] at h2
          have HQ3 := Lib.hid h2
          clear hx h2 HQ2
          go_wp2_with fail
          go_end0
          refine ⟨?_, only_setCell (p := ⟨rb, 15, none⟩) G8.out (.inl rfl) _⟩
          rw [HQ3.out]
          exact ⟨rfl, k + 1 + 1 + x, rfl, H8.out.set_ 15 _ rfl H8.out.le⟩
      · have HP := Lib.hid hp
        clear hp
        refine (has_no H5.out (by rw [show List.drop (RS.at_ { s with at_ := k + 1, nm := nm1 }) l = t from HT5.out]; exact HP.out)).mono ?_
        rintro e W6 ⟨rfl, hr6, hg6⟩
        have H6 := Lib.hid hr6
        have G6 := Lib.hid (only_trans G5.out hg6)
        have c16 := hr6.c16
        have f6 := hr6.frozen
        clear hr6 hg6
        go_wp2_with fail
        have H7 := Lib.hid (H6.out.set_ 16 (.bool false) (s' := { s with at_ := k + 1, nm := { nm1 with expPlus := false } }) rfl H6.out.le)
        have G7 := Lib.hid (only_setCell (p := ⟨rb, 16, none⟩) G6.out (.inl rfl) (.bool false))
        have HQ2 : Hid (numberL (l.drop s.at_) = if runLen 48 (l.drop (k + 1)) = 0 then none else some ({ nm1 with expPlus := false, exp := (runLen 48 (l.drop (k + 1)) : Int) }, l.drop (k + 1 + runLen 48 (l.drop (k + 1))))) := by
          rw [HQ.out, HT.out, expL_bare HP.out, ← HT5.out]
          show Option.map _ _ = _
          split <;> simp
        refine (count_any (by exact H7.out) 48).mono ?_
        rintro e W8 ⟨he0, hr8, hg8⟩
        have he : e = .returned (.int .i64 (runLen 48 (l.drop (k + 1)) : Nat)) := he0
        have H8 : Hid (Rd W8 rb A cap l { s with at_ := k + 1 + runLen 48 (l.drop (k + 1)), nm := { nm1 with expPlus := false } }) := hr8
        have G8 := Lib.hid (only_trans G7.out hg8)
        have c15 : W8.cell? ⟨rb, 15, none⟩ = some (.int .i64 nm1.exp) := hr8.c15
        have c1 : W8.cell? ⟨rb, 1, none⟩ = some (.int .i64 ((k + 1 + runLen 48 (l.drop (k + 1)) : Nat) : Int)) := hr8.c1
        have f8 := hr8.frozen
        clear hr8 hg8 he0
        have hele : runLen 48 (l.drop (k + 1)) ≤ 120 := Nat.le_trans (runLen_le _ _) (by have := HL.out; simp; omega)
        generalize runLen 48 (l.drop (k + 1)) = x at *
        subst he
        by_cases hx : x = 0
        · subst hx
          go_wp2_with fail
          refine ⟨rfl, ?_, only_setCell (p := ⟨rb, 15, none⟩) G8.out (.inl rfl) _⟩
          have h2 : numberL (l.drop s.at_) = none := by simpa using HQ2.out
          rw [h2]
          exact ⟨_, rfl⟩
        · have hxb : ((x : Int) == 0) = false := by simpa using hx
          have h2 := HQ2.out
          rw [if_neg hx] at h2
          have HQ3 := Lib.hid h2
          clear hx h2 HQ2
          go_wp2_with fail
          go_end0
          refine ⟨?_, only_setCell (p := ⟨rb, 15, none⟩) G8.out (.inl rfl) _⟩
          rw [HQ3.out]
          exact ⟨rfl, k + 1 + x, rfl, H8.out.set_ 15 _ rfl H8.out.le⟩
    · have HE := Lib.hid hE
      clear hE
      refine (has_no H4.out HE.out).mono ?_
      rintro e W5 ⟨rfl, hr5, hg5⟩
      have H5 := Lib.hid hr5
      have G5 := Lib.hid (only_trans G4.out hg5)
      clear hr5 hg5
      go_wp2_with fail
      go_end0
      have HE2 : numberL (l.drop s.at_) = some (nm1, l.drop k) := by
        rw [HQ.out, expL_no HE.out]
        show some (({ nm1 with expPlus := false, exp := 0 } : Nm), l.drop k) = _
        rw [← HX.out.1, ← HX.out.2]
      refine ⟨?_, G5.out⟩
      rw [HE2]
      exact ⟨rfl, k, rfl, H5.out⟩
  · have hn1 : n = 0 := by omega
    subst hn1
    have H1b : Hid (Rd W1 rb A cap l s) := H1.out
    have HN2 : Hid (numberL (l.drop s.at_) = ((placesL 0 0 0 [] (l.drop s.at_)).bind fun q => (fracL q.2).map fun f => (({ zNm with hash := q.1.1, minInt := q.1.2.1, g1 := q.1.2.2.1, g2 := q.1.2.2.2, minFrac := f.1.1, maxFrac := f.1.2 } : Nm), f.2)).bind fun q =>
      (expL q.2).map fun e => ({ q.1 with expPlus := e.1.1, exp := e.1.2 }, e.2)) := HN.out
    clear HN hn H1 c13 f1 hnle hn0
    go_wp2_with fail
    have hz := HZ.out
    cases hp : placesL 0 0 0 [] (l.drop s.at_) with
    | none =>
      have HQ : Hid (numberL (l.drop s.at_) = none) := by rw [HN2.out, hp]; rfl
      have C := places_any H1b.out (by rw [hz]; rfl) (by rw [hz]; rfl) (by rw [hz]; rfl) (by rw [hz]; rfl)
      rw [hp] at C
      clear hp hz
      refine C.mono ?_
      clear C
      rintro e W3 ⟨⟨x, rfl⟩, hg3⟩
      have G3 := Lib.hid (only_trans G1.out hg3)
      clear hg3
      go_wp2_with fail
      exact ⟨rfl, by rw [HQ.out]; exact ⟨_, rfl⟩, G3.out⟩
    | some q =>
      have C := places_any H1b.out (by rw [hz]; rfl) (by rw [hz]; rfl) (by rw [hz]; rfl) (by rw [hz]; rfl)
      rw [hp] at C
      have HQ0 : Hid (numberL (l.drop s.at_) = ((fracL q.2).map fun f => (({ zNm with hash := q.1.1, minInt := q.1.2.1, g1 := q.1.2.2.1, g2 := q.1.2.2.2, minFrac := f.1.1, maxFrac := f.1.2 } : Nm), f.2)).bind fun q =>
        (expL q.2).map fun e => ({ q.1 with expPlus := e.1.1, exp := e.1.2 }, e.2)) := by rw [HN2.out, hp]; rfl
      clear hp hz HN2
      refine C.mono ?_
      clear C
      rintro e W3 ⟨⟨rfl, k0, hk0, hr3⟩, hg3⟩
      have H3 := Lib.hid hr3
      have G3 := Lib.hid (only_trans G1.out hg3)
      have HK0 := Lib.hid hk0
      clear hr3 hg3 hk0
      go_wp2_with fail
      by_cases h46 : (l.drop k0).head? = some 46
      · obtain ⟨t, ht⟩ := head_cons h46
        have HT := Lib.hid ht
        clear h46 ht
        refine (has_yes H3.out HT.out).mono ?_
        rintro e W4 ⟨rfl, hr4, hg4⟩
        have H4 := Lib.hid hr4
        have G4 := Lib.hid (only_trans G3.out hg4)
        have HT4 : Hid (l.drop (k0 + 1) = t) := drop_succ HT.out
        clear hr4 hg4
        go_wp2_with fail
        refine (count_any H4.out 48).mono ?_
        rintro e W5 ⟨he0, hr5, hg5⟩
        have he : e = .returned (.int .i64 (runLen 48 t : Nat)) := by rw [← HT4.out]; exact he0
        have hr5b : Rd W5 rb A cap l { s with at_ := k0 + 1 + runLen 48 (l.drop (k0 + 1)), nm := { s.nm with hash := q.1.1, minInt := q.1.2.1, g1 := q.1.2.2.1, g2 := q.1.2.2.2 } } := hr5
        rw [HT4.out] at hr5b
        have H5 := Lib.hid hr5b
        have G5 := Lib.hid (only_trans G4.out hg5)
        have c9 : W5.cell? ⟨rb, 9, none⟩ = some (.int .i64 s.nm.minFrac) := hr5.c9
        have f5 := hr5.frozen
        clear hr5 hg5 he0 hr5b
        have hale : runLen 48 t ≤ 120 := Nat.le_trans (runLen_le _ _) (by rw [← HT4.out]; have := HL.out; simp; omega)
        have HDR : Hid (l.drop (k0 + 1 + runLen 48 t) = t.drop (runLen 48 t)) := by rw [← List.drop_drop, HT4.out]; rfl
        have HFR : Hid (fracL q.2 = if runLen 48 t + runLen 35 (t.drop (runLen 48 t)) = 0 then none else
          some (((runLen 48 t : Int), ((runLen 48 t + runLen 35 (t.drop (runLen 48 t)) : Nat) : Int)), (t.drop (runLen 48 t)).drop (runLen 35 (t.drop (runLen 48 t))))) := by rw [← HK0.out, HT.out, fracL_yes]; rfl
        generalize ha : runLen 48 t = a at *
        subst he
        clear ha
        go_wp2_with fail
        have H6 := Lib.hid (H5.out.set_ 9 (.int .i64 a) (s' := { s with at_ := k0 + 1 + a, nm := { s.nm with hash := q.1.1, minInt := q.1.2.1, g1 := q.1.2.2.1, g2 := q.1.2.2.2, minFrac := a } }) rfl H5.out.le)
        have G6 := Lib.hid (only_setCell (p := ⟨rb, 9, none⟩) G5.out (.inl rfl) (.int .i64 (a : Int)))
        have d9 := H6.out.c9
        have d10 := H6.out.c10
        have fd := H6.out.frozen
        have hble : runLen 35 (t.drop a) ≤ 120 := Nat.le_trans (runLen_le _ _) (by rw [← HDR.out]; have := HL.out; simp; omega)
        have C : ∀ W, Rd W rb A cap l { s with at_ := k0 + 1 + a, nm := { s.nm with hash := q.1.1, minInt := q.1.2.1, g1 := q.1.2.2.1, g2 := q.1.2.2.2, minFrac := a } } → Calls Try.prog 93 #[.pointer (some ⟨rb, 0, none⟩), .int .i32 35] W fun e w' =>
            e = .returned (.int .i64 (runLen 35 (t.drop a) : Nat)) ∧ Rd w' rb A cap l { s with at_ := k0 + 1 + a + runLen 35 (t.drop a), nm := { s.nm with hash := q.1.1, minInt := q.1.2.1, g1 := q.1.2.2.1, g2 := q.1.2.2.2, minFrac := a } } ∧ W.grownBy w' (some rb) := by
          intro W hW
          have h1 := count_any hW 35
          rw [show List.drop (RS.at_ { s with at_ := k0 + 1 + a, nm := { s.nm with hash := q.1.1, minInt := q.1.2.1, g1 := q.1.2.2.1, g2 := q.1.2.2.2, minFrac := a } }) l = t.drop a from HDR.out] at h1
          exact h1
        have HDB : Hid (l.drop (k0 + 1 + a + runLen 35 (t.drop a)) = (t.drop a).drop (runLen 35 (t.drop a))) := by rw [← List.drop_drop, HDR.out]; rfl
        generalize runLen 35 (t.drop a) = b at *
        have CH := Lib.hid C
        clear C
        go_region_with (go_at_call 93; refine (CH.out _ (by exact H6.out.heap rfl)).mono ?_; rintro e W7 ⟨rfl, hr7, hg7⟩; have H7 := Lib.hid hr7; have G7 := Lib.hid hg7; have e9 := hr7.c9; have e10 := hr7.c10; have e1 := hr7.c1; have f7 := hr7.frozen; clear hr7 hg7)
        all_goals
          have G7b := Lib.hid (only_trans G6.out (only_from G7.out rfl rfl rfl rfl))
          have H8 := Lib.hid (H7.out.set_ 10 (.int .i64 ((a : Int) + b)) (s' := { s with at_ := k0 + 1 + a + b, nm := ({ s.nm with hash := q.1.1, minInt := q.1.2.1, g1 := q.1.2.2.1, g2 := q.1.2.2.2, minFrac := a, maxFrac := (a : Int) + b } : Nm) }) rfl H7.out.le)
          have G8 := Lib.hid (only_setCell (p := ⟨rb, 10, none⟩) G7b.out (.inl rfl) (.int .i64 ((a : Int) + b)))
          by_cases hab : a + b = 0
          · have hab1 : a = 0 := by omega
            have hab2 : b = 0 := by omega
            have HQ : Hid (numberL (l.drop s.at_) = none) := by rw [HQ0.out, HFR.out, if_pos hab]; rfl
            subst hab1 hab2
            clear hab
            go_wp2_with fail
            refine ⟨rfl, ?_, G8.out⟩
            rw [HQ.out]
            exact ⟨_, rfl⟩
          · have habb : ((a : Int) + b == 0) = false := by simp; omega
            have h2 := HFR.out
            rw [if_neg hab] at h2
            have HF2 := Lib.hid h2
            clear hab h2 HFR
            go_wp2_with fail
            have HX : Hid (({ s.nm with hash := q.1.1, minInt := q.1.2.1, g1 := q.1.2.2.1, g2 := q.1.2.2.2, minFrac := a, maxFrac := (a : Int) + b } : Nm).exp = 0 ∧ ({ s.nm with hash := q.1.1, minInt := q.1.2.1, g1 := q.1.2.2.1, g2 := q.1.2.2.2, minFrac := a, maxFrac := (a : Int) + b } : Nm).expPlus = false) := by rw [HZ.out]; exact ⟨rfl, rfl⟩
            have HQ : Hid (numberL (l.drop s.at_) = (expL (l.drop (k0 + 1 + a + b))).map fun e => ({ ({ s.nm with hash := q.1.1, minInt := q.1.2.1, g1 := q.1.2.2.1, g2 := q.1.2.2.2, minFrac := a, maxFrac := (a : Int) + b } : Nm) with expPlus := e.1.1, exp := e.1.2 }, e.2)) := by
              rw [HQ0.out, HF2.out, HZ.out, HDB.out]
              rfl
            have H4 := H8
            have G4 := G8
            clear H8 G8
            generalize (k0 + 1 + a + b) = k at *
            generalize ({ s.nm with hash := q.1.1, minInt := q.1.2.1, g1 := q.1.2.2.1, g2 := q.1.2.2.2, minFrac := a, maxFrac := (a : Int) + b } : Nm) = nm1 at *
            generalize (W7.setCell ⟨rb, 10, none⟩ (.int .i64 ((a : Int) + b))) = W at *
            by_cases hE : (l.drop k).head? = some 69
            · obtain ⟨t, ht⟩ := head_cons hE
              have HT := Lib.hid ht
              clear hE ht
              refine (has_yes H4.out HT.out).mono ?_
              rintro e W5 ⟨rfl, hr5, hg5⟩
              have H5 := Lib.hid hr5
              have G5 := Lib.hid (only_trans G4.out hg5)
              have HT5 : Hid (l.drop (k + 1) = t) := drop_succ HT.out
              clear hr5 hg5
              go_wp2_with fail
              by_cases hp : t.head? = some 43
              · obtain ⟨u, hu⟩ := head_cons hp
                subst hu
                clear hp
                refine (has_yes H5.out HT5.out).mono ?_
                rintro e W6 ⟨rfl, hr6, hg6⟩
                have H6 := Lib.hid hr6
                have G6 := Lib.hid (only_trans G5.out hg6)
                have c16 := hr6.c16
                have f6 := hr6.frozen
                clear hr6 hg6
                go_wp2_with fail
                have H7 := Lib.hid (H6.out.set_ 16 (.bool true) (s' := { s with at_ := k + 1 + 1, nm := { nm1 with expPlus := true } }) rfl H6.out.le)
                have G7 := Lib.hid (only_setCell (p := ⟨rb, 16, none⟩) G6.out (.inl rfl) (.bool true))
                have HQ2 : Hid (numberL (l.drop s.at_) = if runLen 48 (l.drop (k + 1 + 1)) = 0 then none else some ({ nm1 with expPlus := true, exp := (runLen 48 (l.drop (k + 1 + 1)) : Int) }, l.drop (k + 1 + 1 + runLen 48 (l.drop (k + 1 + 1))))) := by
                  rw [HQ.out, HT.out, expL_plus, ← drop_succ HT5.out]
                  show Option.map _ _ = _
                  split <;> simp
                refine (count_any (by exact H7.out) 48).mono ?_
                rintro e W8 ⟨he0, hr8, hg8⟩
                have he : e = .returned (.int .i64 (runLen 48 (l.drop (k + 1 + 1)) : Nat)) := he0
                have H8 : Hid (Rd W8 rb A cap l { s with at_ := k + 1 + 1 + runLen 48 (l.drop (k + 1 + 1)), nm := { nm1 with expPlus := true } }) := hr8
                have G8 := Lib.hid (only_trans G7.out hg8)
                have c15 : W8.cell? ⟨rb, 15, none⟩ = some (.int .i64 nm1.exp) := hr8.c15
                have c1 : W8.cell? ⟨rb, 1, none⟩ = some (.int .i64 ((k + 1 + 1 + runLen 48 (l.drop (k + 1 + 1)) : Nat) : Int)) := hr8.c1
                have f8 := hr8.frozen
                clear hr8 hg8 he0
                have hele : runLen 48 (l.drop (k + 1 + 1)) ≤ 120 := Nat.le_trans (runLen_le _ _) (by have := HL.out; simp; omega)
                generalize runLen 48 (l.drop (k + 1 + 1)) = x at *
                subst he
                by_cases hx : x = 0
                · subst hx
                  go_wp2_with fail
                  refine ⟨rfl, ?_, only_setCell (p := ⟨rb, 15, none⟩) G8.out (.inl rfl) _⟩
                  have h2 : numberL (l.drop s.at_) = none := by simpa using HQ2.out
                  rw [h2]
                  exact ⟨_, rfl⟩
                · have hxb : ((x : Int) == 0) = false := by simpa using hx
                  have h2 := HQ2.out
                  rw [if_neg hx] at h2
                  have HQ3 := Lib.hid h2
                  clear hx h2 HQ2
                  go_wp2_with fail
                  go_end0
                  refine ⟨?_, only_setCell (p := ⟨rb, 15, none⟩) G8.out (.inl rfl) _⟩
                  rw [HQ3.out]
                  exact ⟨rfl, k + 1 + 1 + x, rfl, H8.out.set_ 15 _ rfl H8.out.le⟩
              · have HP := Lib.hid hp
                clear hp
                refine (has_no H5.out (by rw [show List.drop (RS.at_ { s with at_ := k + 1, nm := nm1 }) l = t from HT5.out]; exact HP.out)).mono ?_
                rintro e W6 ⟨rfl, hr6, hg6⟩
                have H6 := Lib.hid hr6
                have G6 := Lib.hid (only_trans G5.out hg6)
                have c16 := hr6.c16
                have f6 := hr6.frozen
                clear hr6 hg6
                go_wp2_with fail
                have H7 := Lib.hid (H6.out.set_ 16 (.bool false) (s' := { s with at_ := k + 1, nm := { nm1 with expPlus := false } }) rfl H6.out.le)
                have G7 := Lib.hid (only_setCell (p := ⟨rb, 16, none⟩) G6.out (.inl rfl) (.bool false))
                have HQ2 : Hid (numberL (l.drop s.at_) = if runLen 48 (l.drop (k + 1)) = 0 then none else some ({ nm1 with expPlus := false, exp := (runLen 48 (l.drop (k + 1)) : Int) }, l.drop (k + 1 + runLen 48 (l.drop (k + 1))))) := by
                  rw [HQ.out, HT.out, expL_bare HP.out, ← HT5.out]
                  show Option.map _ _ = _
                  split <;> simp
                refine (count_any (by exact H7.out) 48).mono ?_
                rintro e W8 ⟨he0, hr8, hg8⟩
                have he : e = .returned (.int .i64 (runLen 48 (l.drop (k + 1)) : Nat)) := he0
                have H8 : Hid (Rd W8 rb A cap l { s with at_ := k + 1 + runLen 48 (l.drop (k + 1)), nm := { nm1 with expPlus := false } }) := hr8
                have G8 := Lib.hid (only_trans G7.out hg8)
                have c15 : W8.cell? ⟨rb, 15, none⟩ = some (.int .i64 nm1.exp) := hr8.c15
                have c1 : W8.cell? ⟨rb, 1, none⟩ = some (.int .i64 ((k + 1 + runLen 48 (l.drop (k + 1)) : Nat) : Int)) := hr8.c1
                have f8 := hr8.frozen
                clear hr8 hg8 he0
                have hele : runLen 48 (l.drop (k + 1)) ≤ 120 := Nat.le_trans (runLen_le _ _) (by have := HL.out; simp; omega)
                generalize runLen 48 (l.drop (k + 1)) = x at *
                subst he
                by_cases hx : x = 0
                · subst hx
                  go_wp2_with fail
                  refine ⟨rfl, ?_, only_setCell (p := ⟨rb, 15, none⟩) G8.out (.inl rfl) _⟩
                  have h2 : numberL (l.drop s.at_) = none := by simpa using HQ2.out
                  rw [h2]
                  exact ⟨_, rfl⟩
                · have hxb : ((x : Int) == 0) = false := by simpa using hx
                  have h2 := HQ2.out
                  rw [if_neg hx] at h2
                  have HQ3 := Lib.hid h2
                  clear hx h2 HQ2
                  go_wp2_with fail
                  go_end0
                  refine ⟨?_, only_setCell (p := ⟨rb, 15, none⟩) G8.out (.inl rfl) _⟩
                  rw [HQ3.out]
                  exact ⟨rfl, k + 1 + x, rfl, H8.out.set_ 15 _ rfl H8.out.le⟩
            · have HE := Lib.hid hE
              clear hE
              refine (has_no H4.out HE.out).mono ?_
              rintro e W5 ⟨rfl, hr5, hg5⟩
              have H5 := Lib.hid hr5
              have G5 := Lib.hid (only_trans G4.out hg5)
              clear hr5 hg5
              go_wp2_with fail
              go_end0
              have HE2 : numberL (l.drop s.at_) = some (nm1, l.drop k) := by
                rw [HQ.out, expL_no HE.out]
                show some (({ nm1 with expPlus := false, exp := 0 } : Nm), l.drop k) = _
                rw [← HX.out.1, ← HX.out.2]
              refine ⟨?_, G5.out⟩
              rw [HE2]
              exact ⟨rfl, k, rfl, H5.out⟩
      · have HE := Lib.hid h46
        clear h46
        refine (has_no H3.out HE.out).mono ?_
        rintro e W ⟨rfl, hr4, hg4⟩
        have H4 := Lib.hid hr4
        have G4 := Lib.hid (only_trans G3.out hg4)
        clear hr4 hg4
        go_wp2_with fail
        have HX : Hid (({ s.nm with hash := q.1.1, minInt := q.1.2.1, g1 := q.1.2.2.1, g2 := q.1.2.2.2 } : Nm).exp = 0 ∧ ({ s.nm with hash := q.1.1, minInt := q.1.2.1, g1 := q.1.2.2.1, g2 := q.1.2.2.2 } : Nm).expPlus = false) := by rw [HZ.out]; exact ⟨rfl, rfl⟩
        have HQ : Hid (numberL (l.drop s.at_) = (expL (l.drop k0)).map fun e => ({ ({ s.nm with hash := q.1.1, minInt := q.1.2.1, g1 := q.1.2.2.1, g2 := q.1.2.2.2 } : Nm) with expPlus := e.1.1, exp := e.1.2 }, e.2)) := by
          rw [HQ0.out, ← HK0.out, fracL_no HE.out, HZ.out]
          rfl
        generalize k0 = k at *
        generalize ({ s.nm with hash := q.1.1, minInt := q.1.2.1, g1 := q.1.2.2.1, g2 := q.1.2.2.2 } : Nm) = nm1 at *
        by_cases hE : (l.drop k).head? = some 69
        · obtain ⟨t, ht⟩ := head_cons hE
          have HT := Lib.hid ht
          clear hE ht
          refine (has_yes H4.out HT.out).mono ?_
          rintro e W5 ⟨rfl, hr5, hg5⟩
          have H5 := Lib.hid hr5
          have G5 := Lib.hid (only_trans G4.out hg5)
          have HT5 : Hid (l.drop (k + 1) = t) := drop_succ HT.out
          clear hr5 hg5
          go_wp2_with fail
          by_cases hp : t.head? = some 43
          · obtain ⟨u, hu⟩ := head_cons hp
            subst hu
            clear hp
            refine (has_yes H5.out HT5.out).mono ?_
            rintro e W6 ⟨rfl, hr6, hg6⟩
            have H6 := Lib.hid hr6
            have G6 := Lib.hid (only_trans G5.out hg6)
            have c16 := hr6.c16
            have f6 := hr6.frozen
            clear hr6 hg6
            go_wp2_with fail
            have H7 := Lib.hid (H6.out.set_ 16 (.bool true) (s' := { s with at_ := k + 1 + 1, nm := { nm1 with expPlus := true } }) rfl H6.out.le)
            have G7 := Lib.hid (only_setCell (p := ⟨rb, 16, none⟩) G6.out (.inl rfl) (.bool true))
            have HQ2 : Hid (numberL (l.drop s.at_) = if runLen 48 (l.drop (k + 1 + 1)) = 0 then none else some ({ nm1 with expPlus := true, exp := (runLen 48 (l.drop (k + 1 + 1)) : Int) }, l.drop (k + 1 + 1 + runLen 48 (l.drop (k + 1 + 1))))) := by
              rw [HQ.out, HT.out, expL_plus, ← drop_succ HT5.out]
              show Option.map _ _ = _
              split <;> simp
            refine (count_any (by exact H7.out) 48).mono ?_
            rintro e W8 ⟨he0, hr8, hg8⟩
            have he : e = .returned (.int .i64 (runLen 48 (l.drop (k + 1 + 1)) : Nat)) := he0
            have H8 : Hid (Rd W8 rb A cap l { s with at_ := k + 1 + 1 + runLen 48 (l.drop (k + 1 + 1)), nm := { nm1 with expPlus := true } }) := hr8
            have G8 := Lib.hid (only_trans G7.out hg8)
            have c15 : W8.cell? ⟨rb, 15, none⟩ = some (.int .i64 nm1.exp) := hr8.c15
            have c1 : W8.cell? ⟨rb, 1, none⟩ = some (.int .i64 ((k + 1 + 1 + runLen 48 (l.drop (k + 1 + 1)) : Nat) : Int)) := hr8.c1
            have f8 := hr8.frozen
            clear hr8 hg8 he0
            have hele : runLen 48 (l.drop (k + 1 + 1)) ≤ 120 := Nat.le_trans (runLen_le _ _) (by have := HL.out; simp; omega)
            generalize runLen 48 (l.drop (k + 1 + 1)) = x at *
            subst he
            by_cases hx : x = 0
            · subst hx
              go_wp2_with fail
              refine ⟨rfl, ?_, only_setCell (p := ⟨rb, 15, none⟩) G8.out (.inl rfl) _⟩
              have h2 : numberL (l.drop s.at_) = none := by simpa using HQ2.out
              rw [h2]
              exact ⟨_, rfl⟩
            · have hxb : ((x : Int) == 0) = false := by simpa using hx
              have h2 := HQ2.out
              rw [if_neg hx] at h2
              have HQ3 := Lib.hid h2
              clear hx h2 HQ2
              go_wp2_with fail
              go_end0
              refine ⟨?_, only_setCell (p := ⟨rb, 15, none⟩) G8.out (.inl rfl) _⟩
              rw [HQ3.out]
              exact ⟨rfl, k + 1 + 1 + x, rfl, H8.out.set_ 15 _ rfl H8.out.le⟩
          · have HP := Lib.hid hp
            clear hp
            refine (has_no H5.out (by rw [show List.drop (RS.at_ { s with at_ := k + 1, nm := nm1 }) l = t from HT5.out]; exact HP.out)).mono ?_
            rintro e W6 ⟨rfl, hr6, hg6⟩
            have H6 := Lib.hid hr6
            have G6 := Lib.hid (only_trans G5.out hg6)
            have c16 := hr6.c16
            have f6 := hr6.frozen
            clear hr6 hg6
            go_wp2_with fail
            have H7 := Lib.hid (H6.out.set_ 16 (.bool false) (s' := { s with at_ := k + 1, nm := { nm1 with expPlus := false } }) rfl H6.out.le)
            have G7 := Lib.hid (only_setCell (p := ⟨rb, 16, none⟩) G6.out (.inl rfl) (.bool false))
            have HQ2 : Hid (numberL (l.drop s.at_) = if runLen 48 (l.drop (k + 1)) = 0 then none else some ({ nm1 with expPlus := false, exp := (runLen 48 (l.drop (k + 1)) : Int) }, l.drop (k + 1 + runLen 48 (l.drop (k + 1))))) := by
              rw [HQ.out, HT.out, expL_bare HP.out, ← HT5.out]
              show Option.map _ _ = _
              split <;> simp
            refine (count_any (by exact H7.out) 48).mono ?_
            rintro e W8 ⟨he0, hr8, hg8⟩
            have he : e = .returned (.int .i64 (runLen 48 (l.drop (k + 1)) : Nat)) := he0
            have H8 : Hid (Rd W8 rb A cap l { s with at_ := k + 1 + runLen 48 (l.drop (k + 1)), nm := { nm1 with expPlus := false } }) := hr8
            have G8 := Lib.hid (only_trans G7.out hg8)
            have c15 : W8.cell? ⟨rb, 15, none⟩ = some (.int .i64 nm1.exp) := hr8.c15
            have c1 : W8.cell? ⟨rb, 1, none⟩ = some (.int .i64 ((k + 1 + runLen 48 (l.drop (k + 1)) : Nat) : Int)) := hr8.c1
            have f8 := hr8.frozen
            clear hr8 hg8 he0
            have hele : runLen 48 (l.drop (k + 1)) ≤ 120 := Nat.le_trans (runLen_le _ _) (by have := HL.out; simp; omega)
            generalize runLen 48 (l.drop (k + 1)) = x at *
            subst he
            by_cases hx : x = 0
            · subst hx
              go_wp2_with fail
              refine ⟨rfl, ?_, only_setCell (p := ⟨rb, 15, none⟩) G8.out (.inl rfl) _⟩
              have h2 : numberL (l.drop s.at_) = none := by simpa using HQ2.out
              rw [h2]
              exact ⟨_, rfl⟩
            · have hxb : ((x : Int) == 0) = false := by simpa using hx
              have h2 := HQ2.out
              rw [if_neg hx] at h2
              have HQ3 := Lib.hid h2
              clear hx h2 HQ2
              go_wp2_with fail
              go_end0
              refine ⟨?_, only_setCell (p := ⟨rb, 15, none⟩) G8.out (.inl rfl) _⟩
              rw [HQ3.out]
              exact ⟨rfl, k + 1 + x, rfl, H8.out.set_ 15 _ rfl H8.out.le⟩
        · have HE := Lib.hid hE
          clear hE
          refine (has_no H4.out HE.out).mono ?_
          rintro e W5 ⟨rfl, hr5, hg5⟩
          have H5 := Lib.hid hr5
          have G5 := Lib.hid (only_trans G4.out hg5)
          clear hr5 hg5
          go_wp2_with fail
          go_end0
          have HE2 : numberL (l.drop s.at_) = some (nm1, l.drop k) := by
            rw [HQ.out, expL_no HE.out]
            show some (({ nm1 with expPlus := false, exp := 0 } : Nm), l.drop k) = _
            rw [← HX.out.1, ← HX.out.2]
          refine ⟨?_, G5.out⟩
          rw [HE2]
          exact ⟨rfl, k, rfl, H5.out⟩
end
end Go.Proofs.Ytdbcdgojbegakaa

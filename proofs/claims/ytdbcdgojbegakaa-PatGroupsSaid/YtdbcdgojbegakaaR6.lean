/-
The pattern reader's places ahead of the point.
-/
import Derived.Test.YtdbcdgojbegakaaR5
namespace Go.Proofs.Ytdbcdgojbegakaa
open Go.RowKit

theorem placesL_nil (h m n : Int) (gs : List Int) : placesL h m n gs [] = if h + m = 0 then none else some ((h, m, (groupsOf gs n).1, (groupsOf gs n).2), []) := rfl
theorem placesL_hash (h n : Int) {m : Int} (gs : List Int) (t : List Int) (hm : m = 0) : placesL h m n gs (35 :: t) = placesL (h + 1) m (n + 1) gs t := by simp [placesL, hm]
theorem placesL_zero (h m n : Int) (gs : List Int) (t : List Int) : placesL h m n gs (48 :: t) = placesL h (m + 1) (n + 1) gs t := by simp [placesL]
theorem placesL_bad {h m n : Int} {gs : List Int} {t : List Int} (hn : 0 < n) (hc : commaAt m t = true) (hb : 1 < gs.length ∧ gs[1]? ≠ some n) : placesL h m n gs (44 :: t) = none := by
  simp only [placesL]
  rw [if_neg (by rintro ⟨_, h⟩; revert h; decide), if_neg (by decide), if_pos ⟨hn, by decide, hc⟩, if_pos hb]
theorem placesL_comma {h m n : Int} {gs : List Int} {t : List Int} (hn : 0 < n) (hc : commaAt m t = true) (hb : ¬ (1 < gs.length ∧ gs[1]? ≠ some n)) : placesL h m n gs (44 :: t) = placesL h m 0 (gs ++ [n]) t := by
  conv => lhs; simp only [placesL]
  rw [if_neg (by rintro ⟨_, h⟩; revert h; decide), if_neg (by decide), if_pos ⟨hn, by decide, hc⟩, if_neg hb]
/-- The places are at an end. -/
def Ends (m n : Int) (r : List Int) : Prop := (m = 0 → r.head? ≠ some 35) ∧ r.head? ≠ some 48 ∧ (0 < n → r.head? = some 44 → commaAt m (r.drop 1) = false)
theorem placesL_end {h m n : Int} {gs : List Int} {r : List Int} (he : Ends m n r) : placesL h m n gs r = if h + m = 0 then none else some ((h, m, (groupsOf gs n).1, (groupsOf gs n).2), r) := by
  cases r with
  | nil => rfl
  | cons c t =>
    obtain ⟨h1, h2, h3⟩ := he
    simp only [List.head?_cons, List.drop_one, List.tail_cons] at h1 h2 h3
    conv => lhs; simp only [placesL]
    rw [if_neg (by rintro ⟨a, b⟩; exact h1 a (by rw [b])), if_neg (by intro b; exact h2 (by rw [b])), if_neg (by rintro ⟨a, b, c⟩; rw [h3 a (by rw [b])] at c; cases c)]

/-- What the places' reading comes to. -/
def PPost (rb : Nat) (A : Option Addr) (cap : Nat) (l : List Int) (s : RS) (o : Option ((Int × Int × Int × Int) × List Int)) (e : Ending) (w' : World) : Prop :=
  match o with
  | none => Wrong e
  | some q => e = .returned (.tuple #[]) ∧ ∃ k, l.drop k = q.2 ∧ Rd w' rb A cap l { s with at_ := k, nm := { s.nm with hash := q.1.1, minInt := q.1.2.1, g1 := q.1.2.2.1, g2 := q.1.2.2.2 } }

section
variable {w : World} {rb : Nat} {A : Option Addr} {cap : Nat} {l : List Int} {s : RS}

/-- What a round of the places hands on. -/
def PRel (w : World) (rb : Nat) (A : Option Addr) (cap : Nat) (l : List Int) (s : RS) (k : Nat) (h m : Int) (gs : List Int) (gv : Value) (wr : World) : Prop :=
  Rd wr rb A cap l { s with at_ := k, nm := { s.nm with hash := h, minInt := m } } ∧ Blk wr w.heap.size 36 #[gv] ∧ OwnI wr w.heap.size gv gs ∧ But w.heap.size rb w wr
theorem PRel.grown {wr w' : World} {k k' : Nat} {h m : Int} {gs : List Int} {gv : Value} (H : PRel w rb A cap l s k h m gs gv wr) (hg : wr.grownBy w' (some rb))
    (hr : Rd w' rb A cap l { s with at_ := k', nm := { s.nm with hash := h, minInt := m } }) : PRel w rb A cap l s k' h m gs gv w' := by
  obtain ⟨h1, h2, h3, h4⟩ := H
  exact ⟨hr, h2.grown hg (by intro e; exact h2.typ.ne h1.blk.typ (by decide) (by injection e)), h3.grown hg (h1.far (by decide)), h4.trans (But.of_only hg h4.size fun k hk => .inl (by injection hk with hk; exact hk.symm))⟩
theorem PRel.set_ {wr : World} {k : Nat} {h m h' m' : Int} {gs : List Int} {gv : Value} (H : PRel w rb A cap l s k h m gs gv wr) (i : Nat) (u : Value)
    (e : (RS.cells (.slice A l.length cap) { s with at_ := k, nm := { s.nm with hash := h, minInt := m } }).setIfInBounds i u = RS.cells (.slice A l.length cap) { s with at_ := k, nm := { s.nm with hash := h', minInt := m' } }) :
    PRel w rb A cap l s k h' m' gs gv (wr.setCell ⟨rb, i, none⟩ u) := by
  obtain ⟨h1, h2, h3, h4⟩ := H
  have hg : wr.grownBy (wr.setCell ⟨rb, i, none⟩ u) (some rb) := only_setCell (p := ⟨rb, i, none⟩) (only_refl wr _) (.inl rfl) _
  exact ⟨h1.set_ i u e h1.le, h2.grown hg (by intro e; exact h2.typ.ne h1.blk.typ (by decide) (by injection e)), h3.grown hg (h1.far (by decide)), h4.trans (But.of_only hg h4.size fun k hk => .inl (by injection hk with hk; exact hk.symm))⟩
theorem PRel.heap {wr w' : World} {k : Nat} {h m : Int} {gs : List Int} {gv : Value} (H : PRel w rb A cap l s k h m gs gv wr) (e : w'.heap = wr.heap) (e1 : w'.os = wr.os) (e2 : w'.tape = wr.tape) (e3 : w'.output = wr.output) :
    PRel w rb A cap l s k h m gs gv w' := by
  obtain ⟨h1, h2, h3, h4⟩ := H
  exact ⟨h1.heap e, by unfold Blk; rw [e]; exact h2, h3.heap e, h4.heap e e1 e2 e3⟩

set_option maxRecDepth 100000 in
set_option maxHeartbeats 4000000 in
theorem places_any (h : Rd w rb A cap l s) (z1 : s.nm.hash = 0) (z2 : s.nm.minInt = 0) (z3 : s.nm.g1 = 0) (z4 : s.nm.g2 = 0) :
    Calls Try.prog 94 #[.pointer (some ⟨rb, 0, none⟩)] w fun e w' =>
      PPost rb A cap l s (placesL 0 0 0 [] (l.drop s.at_)) e w' ∧ w.grownBy w' (some rb) := by
  have HL := Lib.hid h.len
  have H := Lib.hid h
  have HZ := Lib.hid (And.intro z3 z4)
  have H0 : Hid (PRel w rb A cap l s s.at_ 0 0 [] (.slice none 0 0) (w.alloc (.cells #[.slice none 0 0] 36))) := by
    refine ⟨?_, Blk.new w 36 _, OwnI.nil_ _ _, But.of_only (only_alloc (only_refl w none) _) (Nat.le_refl _) fun k hk => by cases hk⟩
    have e : ({ s with at_ := s.at_, nm := { s.nm with hash := 0, minInt := 0 } } : RS) = s := by
      obtain ⟨at_, pre, suf, npre, nsuf, neg, ⟨a1, a2, a3, a4, a5, a6, a7, a8, a9, a10⟩, pad, padAt⟩ := s
      simp only at z1 z2
      simp [z1, z2]
    rw [e]
    exact h.alloc _
  clear h z1 z2 z3 z4
  go_enter Try.func94, Try.ntmps94
  go_wp2_with fail
  go_loopg [3] (121 - s.at_) (fun kq v3 wr => ∃ (k : Nat) (h m n : Int) (gs : List Int) (gv : Value), v3 = .int .i64 n ∧ Hid (kq = 121 - k) ∧ Hid (PRel w rb A cap l s k h m gs gv wr) ∧ Hid (placesL 0 0 0 [] (l.drop s.at_) = placesL h m n gs (l.drop k)) ∧
    Hid (0 ≤ h ∧ 0 ≤ m ∧ 0 ≤ n ∧ h ≤ k ∧ m ≤ k ∧ n ≤ k ∧ gs.length ≤ k))
  case atStart => exact ⟨s.at_, 0, 0, 0, [], _, rfl, rfl, H0, rfl, ⟨by omega, by omega, by omega, by omega, by omega, by omega, Nat.zero_le _⟩⟩
  case round =>
    clear H0
    obtain ⟨k, h, m, n, gs, gv, rfl, HK, HR, HQ, HN⟩ := hrel
    obtain ⟨b1, b2, b3, b4, b5, b6, b7⟩ := HN.out
    have c8 := HR.out.1.c8
    have c7 := HR.out.1.c7
    have hf := HR.out.1.frozen
    have hk1 : k ≤ 120 := Nat.le_trans HR.out.1.le HR.out.1.len
    by_cases hm : m = 0
    · have hmb : (m == 0) = true := by simpa using hm
      have HM := Lib.hid hm
      clear hm
      by_cases hc35 : (l.drop k).head? = some 35
      · obtain ⟨t, ht⟩ : ∃ t, l.drop k = 35 :: t := by
          cases hl : l.drop k with
          | nil => rw [hl] at hc35; cases hc35
          | cons d t => rw [hl] at hc35; simp at hc35; exact ⟨t, by rw [hc35]⟩
        have hlt := (HR.out.1.rl.drop ht).1
        have HQ2 : Hid (placesL 0 0 0 [] (l.drop s.at_) = placesL (h + 1) m (n + 1) gs (l.drop (k + 1))) := by
          rw [HQ.out, ht, placesL_hash _ _ _ _ HM.out, drop_succ ht]; rfl
        have hk2 : k < 120 := Nat.lt_of_lt_of_le hlt HL.out
        have HT := Lib.hid ht
        clear ht hc35
        go_wp2_with fail
        refine (has_yes HR.out.1 HT.out).mono ?_
        rintro e W2 ⟨rfl, hr2, hg2⟩
        have H2 := Lib.hid (HR.out.grown hg2 hr2)
        have d7 := hr2.c7
        have df := hr2.frozen
        clear hr2 hg2 hlt
        go_wp2_with fail
        have H3 := Lib.hid (H2.out.set_ (h' := h + 1) (m' := m) 7 (.int .i64 (h + 1)) rfl)
        go_roundg (120 - k)
        case measure => have := HK.out; omega
        case rel => exact ⟨k + 1, h + 1, m, n + 1, gs, gv, by go_num, by show _ = _; omega, H3, HQ2, ⟨by omega, by omega, by omega, by omega, by omega, by omega, by omega⟩⟩
      · have H35 := Lib.hid hc35
        clear hc35
        go_wp2_with fail
        refine (has_no HR.out.1 H35.out).mono ?_
        rintro e W1 ⟨rfl, hr1, hg1⟩
        have H1 := Lib.hid (HR.out.grown hg1 hr1)
        have HE35 : Hid (m = 0 → (l.drop k).head? ≠ some 35) := fun _ => H35.out
        clear hr1 hg1
        go_wp2_with fail
        by_cases hc48 : (l.drop k).head? = some 48
        · skip
          obtain ⟨t, ht⟩ : ∃ t, l.drop k = 48 :: t := by
            cases hl : l.drop k with
            | nil => rw [hl] at hc48; cases hc48
            | cons d t => rw [hl] at hc48; simp at hc48; exact ⟨t, by rw [hc48]⟩
          have hlt := (H1.out.1.rl.drop ht).1
          have HQ2 : Hid (placesL 0 0 0 [] (l.drop s.at_) = placesL h (m + 1) (n + 1) gs (l.drop (k + 1))) := by
            rw [HQ.out, ht, placesL_zero, drop_succ ht]; rfl
          have hk2 : k < 120 := Nat.lt_of_lt_of_le hlt HL.out
          refine (has_yes H1.out.1 ht).mono ?_
          rintro e W2 ⟨rfl, hr2, hg2⟩
          have H2 := Lib.hid (H1.out.grown hg2 hr2)
          have d8 := hr2.c8
          have df := hr2.frozen
          clear hr2 hg2 ht hlt hc48
          go_wp2_with fail
          have H3 := Lib.hid (H2.out.set_ (h' := h) (m' := m + 1) 8 (.int .i64 (m + 1)) rfl)
          go_roundg (120 - k)
          case measure => have := HK.out; omega
          case rel => exact ⟨k + 1, h, m + 1, n + 1, gs, gv, by go_num, by show _ = _; omega, H3, HQ2, ⟨by omega, by omega, by omega, by omega, by omega, by omega, by omega⟩⟩
        · skip
          have H48 := Lib.hid hc48
          clear hc48
          refine (has_no H1.out.1 H48.out).mono ?_
          rintro e W2 ⟨rfl, hr2, hg2⟩
          have H2 := Lib.hid (H1.out.grown hg2 hr2)
          have d0 := hr2.c0
          have d1 := hr2.c1
          have d7 := hr2.c7
          have d8 := hr2.c8
          have dg : W2.cell? ⟨w.heap.size, 0, none⟩ = some gv := H2.out.2.1.cell 0
          clear hr2 hg2
          go_wp2_with fail
          by_cases hn : 0 < n
          · have hnb : decide (0 < n) = true := by simpa using hn
            cases hl : l.drop k with
            | nil =>
              have HNO : Hid ((l.drop k).head? ≠ some 44) := by show _ ≠ _; rw [hl]; simp
              have HYES : Hid True := trivial
              have HE : Hid (Ends m n (l.drop k)) := ⟨HE35.out, H48.out, fun _ e => absurd e HNO.out⟩
              clear hl
              have hr3 := H2.out.1
              go_quiet ((go_at_call 91; first | exact Calls.quiet_of (is_no (hr3.drewN _) HNO.out) | exact Calls.quiet_of (is_yes (hr3.drewN _) HYES.out)))
              go_wp2_with fail
              by_cases hz : h + m = 0
              · have hzb : (h + m == 0) = true := by simpa using hz
                have HE2 : Hid (placesL 0 0 0 [] (l.drop s.at_) = none) := by rw [HQ.out, placesL_end HE.out, if_pos hz]; rfl
                clear hz
                go_quiet (fail)
                go_wp2_with fail
                exact ⟨rfl, by rw [HE2.out]; exact ⟨_, rfl⟩, only_drewN (H2.out.2.2.2.only (Nat.le_refl _)) _⟩
              · have hzb : (h + m == 0) = false := by simpa using hz
                have HE2 : Hid (placesL 0 0 0 [] (l.drop s.at_) = some ((h, m, (groupsOf gs n).1, (groupsOf gs n).2), l.drop k)) := by rw [HQ.out, placesL_end HE.out, if_neg hz]; rfl
                clear hz
                go_quiet (fail)
                go_wp2_with fail
                refine (grouped_any (s := { s with at_ := k, nm := { s.nm with hash := h, minInt := m } }) (by exact H2.out.1.heap rfl) (by exact H2.out.2.2.1.heap rfl) n HZ.out.1 HZ.out.2 (by omega)).mono ?_
                rintro e W4 ⟨rfl, hr4, hg4⟩
                have HR4 := Lib.hid hr4
                have HG4 := Lib.hid hg4
                clear hr4 hg4
                go_wp2_with fail
                refine bodyPost_ret (results_none rfl _ _ _) rfl ?_
                refine ⟨?_, only_trans ((H2.out.2.2.2).only (Nat.le_refl _)) (only_from HG4.out rfl rfl rfl rfl)⟩
                rw [HE2.out]
                exact ⟨rfl, k, rfl, HR4.out⟩
            | cons c t =>
              by_cases hc : c = 44
              · subst hc
                have hlt := (H2.out.1.rl.drop hl).1
                cases ht : t with
                | nil =>
                  subst ht
                  have HNO : Hid True := trivial
                  have HYES := Lib.hid hl
                  have HE : Hid (Ends m n (l.drop k)) := ⟨HE35.out, H48.out, fun _ _ => by rw [hl]; rfl⟩
                  have hge : l.length ≤ k + 1 := List.drop_eq_nil_iff.1 (drop_succ hl)
                  generalize l.length = len at *
                  have hgeb : decide (k + 1 < len) = false := by simpa using hge
                  have hgeb2 : decide ((k : Int) + 1 < (len : Int)) = false := by simp; omega
                  clear hl
                  have hr3 := H2.out.1
                  go_quiet ((go_at_call 91; first | exact Calls.quiet_of (is_no (hr3.drewN _) HNO.out) | exact Calls.quiet_of (is_yes (hr3.drewN _) HYES.out)))
                  go_wp2_with fail
                  by_cases hz : h + m = 0
                  · have hzb : (h + m == 0) = true := by simpa using hz
                    have HE2 : Hid (placesL 0 0 0 [] (l.drop s.at_) = none) := by rw [HQ.out, placesL_end HE.out, if_pos hz]; rfl
                    clear hz
                    go_quiet (fail)
                    go_wp2_with fail
                    exact ⟨rfl, by rw [HE2.out]; exact ⟨_, rfl⟩, only_drewN (H2.out.2.2.2.only (Nat.le_refl _)) _⟩
                  · have hzb : (h + m == 0) = false := by simpa using hz
                    have HE2 : Hid (placesL 0 0 0 [] (l.drop s.at_) = some ((h, m, (groupsOf gs n).1, (groupsOf gs n).2), l.drop k)) := by rw [HQ.out, placesL_end HE.out, if_neg hz]; rfl
                    clear hz
                    go_quiet (fail)
                    go_wp2_with fail
                    refine (grouped_any (s := { s with at_ := k, nm := { s.nm with hash := h, minInt := m } }) (by exact H2.out.1.heap rfl) (by exact H2.out.2.2.1.heap rfl) n HZ.out.1 HZ.out.2 (by omega)).mono ?_
                    rintro e W4 ⟨rfl, hr4, hg4⟩
                    have HR4 := Lib.hid hr4
                    have HG4 := Lib.hid hg4
                    clear hr4 hg4
                    go_wp2_with fail
                    refine bodyPost_ret (results_none rfl _ _ _) rfl ?_
                    refine ⟨?_, only_trans ((H2.out.2.2.2).only (Nat.le_refl _)) (only_from HG4.out rfl rfl rfl rfl)⟩
                    rw [HE2.out]
                    exact ⟨rfl, k, rfl, HR4.out⟩
                | cons d u =>
                  subst ht
                  have hd2 := drop_succ hl
                  have hk2 : k + 1 < 120 := Nat.lt_of_lt_of_le (H2.out.1.rl.drop hd2).1 HL.out
                  obtain ⟨hlt2, ad, rfl, hr⟩ := H2.out.1.rl.drop hd2
                  have hr1 : W2.cell? ⟨ad.block, ad.off + (k + 1), none⟩ = some (.int .i32 d) := by simpa [Addr.add] using hr
                  have hz1 : (0 : Int) ≤ (k : Int) + 1 := by omega
                  have hadd : ad.add (k + 1) = ⟨ad.block, ad.off + (k + 1), none⟩ := by simp [Addr.add]
                  have HYES := Lib.hid hl
                  generalize hlen : l.length = len at *
                  have hltb : decide (k + 1 < len) = true := by simpa using hlt2
                  have hltb2 : decide ((k : Int) + 1 < (len : Int)) = true := by simp; omega
                  have HLEN := Lib.hid hlen
                  by_cases hcm : commaAt m (d :: u) = true
                  · have HNO : Hid True := trivial
                    have HCM := Lib.hid hcm
                    have HL2 := Lib.hid hl
                    have HD2 := Lib.hid hd2
                    have hdd : d = 48 ∨ (d = 35 ∧ m = 0) := by simpa [commaAt] using hcm
                    clear hcm hl hlen hd2 hr
                    rcases hdd with rfl | ⟨rfl, hm2⟩
                    · skip
                      have hr3 := H2.out.1
                      go_quiet ((go_at_call 91; first | exact Calls.quiet_of (is_yes (hr3.drewN _) HYES.out)))
                      go_wp2_with fail
                      by_cases hb : 1 < gs.length ∧ gs[1]? ≠ some n
                      · have HE2 : Hid (placesL 0 0 0 [] (l.drop s.at_) = none) := by rw [HQ.out, HL2.out, placesL_bad hn HCM.out hb]; rfl
                        refine (comma_stop (s := { s with at_ := k, nm := { s.nm with hash := h, minInt := m } }) (by exact H2.out.1.heap rfl) (by exact H2.out.2.1) (by exact H2.out.2.2.1.heap rfl) n hb.1 hb.2 (by omega)).mono ?_
                        rintro e W4 ⟨⟨x, rfl⟩, rfl⟩
                        clear hb
                        go_wp2_with fail
                        exact ⟨rfl, by rw [HE2.out]; exact ⟨_, rfl⟩, only_drewN (H2.out.2.2.2.only (Nat.le_refl _)) _⟩
                      · have HQ2 : Hid (placesL 0 0 0 [] (l.drop s.at_) = placesL h m 0 (gs ++ [n]) (l.drop (k + 1))) := by rw [HQ.out, HL2.out, placesL_comma hn HCM.out hb, HD2.out]; rfl
                        refine (comma_goes (s := { s with at_ := k, nm := { s.nm with hash := h, minInt := m } }) (by exact H2.out.1.heap rfl) (by exact H2.out.2.1) (by exact H2.out.2.2.1.heap rfl) (Nat.le_refl _) n hb (by omega) (by show k < l.length; have := HLEN.out; omega)).mono ?_
                        rintro e W4 ⟨rfl, hr4, ⟨gv4, hb4, ho4⟩, ht4⟩
                        have H4 : Hid (PRel w rb _ cap l s (k + 1) h m (gs ++ [n]) gv4 W4) := ⟨hr4, hb4, ho4, H2.out.2.2.2.trans ⟨ht4.os, ht4.tape, ht4.output, ht4.size, ht4.block⟩⟩
                        clear hb hr4 hb4 ho4 ht4
                        go_wp2_with fail
                        go_roundg (120 - k)
                        case measure => have := HK.out; omega
                        case rel => exact ⟨k + 1, h, m, 0, gs ++ [n], gv4, rfl, by show _ = _; omega, H4, HQ2, ⟨by omega, by omega, by omega, by omega, by omega, by omega, by simp; omega⟩⟩
                    · skip
                      have hr3 := H2.out.1
                      go_quiet ((go_at_call 91; first | exact Calls.quiet_of (is_yes (hr3.drewN _) HYES.out)))
                      go_wp2_with fail
                      by_cases hb : 1 < gs.length ∧ gs[1]? ≠ some n
                      · have HE2 : Hid (placesL 0 0 0 [] (l.drop s.at_) = none) := by rw [HQ.out, HL2.out, placesL_bad hn HCM.out hb]; rfl
                        refine (comma_stop (s := { s with at_ := k, nm := { s.nm with hash := h, minInt := m } }) (by exact H2.out.1.heap rfl) (by exact H2.out.2.1) (by exact H2.out.2.2.1.heap rfl) n hb.1 hb.2 (by omega)).mono ?_
                        rintro e W4 ⟨⟨x, rfl⟩, rfl⟩
                        clear hb
                        go_wp2_with fail
                        exact ⟨rfl, by rw [HE2.out]; exact ⟨_, rfl⟩, only_drewN (H2.out.2.2.2.only (Nat.le_refl _)) _⟩
                      · have HQ2 : Hid (placesL 0 0 0 [] (l.drop s.at_) = placesL h m 0 (gs ++ [n]) (l.drop (k + 1))) := by rw [HQ.out, HL2.out, placesL_comma hn HCM.out hb, HD2.out]; rfl
                        refine (comma_goes (s := { s with at_ := k, nm := { s.nm with hash := h, minInt := m } }) (by exact H2.out.1.heap rfl) (by exact H2.out.2.1) (by exact H2.out.2.2.1.heap rfl) (Nat.le_refl _) n hb (by omega) (by show k < l.length; have := HLEN.out; omega)).mono ?_
                        rintro e W4 ⟨rfl, hr4, ⟨gv4, hb4, ho4⟩, ht4⟩
                        have H4 : Hid (PRel w rb _ cap l s (k + 1) h m (gs ++ [n]) gv4 W4) := ⟨hr4, hb4, ho4, H2.out.2.2.2.trans ⟨ht4.os, ht4.tape, ht4.output, ht4.size, ht4.block⟩⟩
                        clear hb hr4 hb4 ho4 ht4
                        go_wp2_with fail
                        go_roundg (120 - k)
                        case measure => have := HK.out; omega
                        case rel => exact ⟨k + 1, h, m, 0, gs ++ [n], gv4, rfl, by show _ = _; omega, H4, HQ2, ⟨by omega, by omega, by omega, by omega, by omega, by omega, by simp; omega⟩⟩
                  · have HNO : Hid True := trivial
                    have HE : Hid (Ends m n (l.drop k)) := ⟨HE35.out, H48.out, fun _ _ => by rw [hl]; simpa using hcm⟩
                    have hd48 : (d == 48) = false := by
                      simp [commaAt] at hcm; simpa using hcm.1
                    have hd35 : (d == 35) = false ∨ ((d == 35) = true ∧ (m == 0) = false) := by
                      simp [commaAt] at hcm
                      by_cases hx : d = 35
                      · exact .inr ⟨by simpa using hx, by simpa using hcm.2 hx⟩
                      · exact .inl (by simpa using hx)
                    clear hcm hl hlen hd2 hr
                    rcases hd35 with hd35 | ⟨hd35, hm2⟩
                    · skip
                      have hr3 := H2.out.1
                      go_quiet ((go_at_call 91; first | exact Calls.quiet_of (is_no (hr3.drewN _) HNO.out) | exact Calls.quiet_of (is_yes (hr3.drewN _) HYES.out)))
                      go_wp2_with fail
                      by_cases hz : h + m = 0
                      · have hzb : (h + m == 0) = true := by simpa using hz
                        have HE2 : Hid (placesL 0 0 0 [] (l.drop s.at_) = none) := by rw [HQ.out, placesL_end HE.out, if_pos hz]; rfl
                        clear hz
                        go_quiet (fail)
                        go_wp2_with fail
                        exact ⟨rfl, by rw [HE2.out]; exact ⟨_, rfl⟩, only_drewN (H2.out.2.2.2.only (Nat.le_refl _)) _⟩
                      · have hzb : (h + m == 0) = false := by simpa using hz
                        have HE2 : Hid (placesL 0 0 0 [] (l.drop s.at_) = some ((h, m, (groupsOf gs n).1, (groupsOf gs n).2), l.drop k)) := by rw [HQ.out, placesL_end HE.out, if_neg hz]; rfl
                        clear hz
                        go_quiet (fail)
                        go_wp2_with fail
                        refine (grouped_any (s := { s with at_ := k, nm := { s.nm with hash := h, minInt := m } }) (by exact H2.out.1.heap rfl) (by exact H2.out.2.2.1.heap rfl) n HZ.out.1 HZ.out.2 (by omega)).mono ?_
                        rintro e W4 ⟨rfl, hr4, hg4⟩
                        have HR4 := Lib.hid hr4
                        have HG4 := Lib.hid hg4
                        clear hr4 hg4
                        go_wp2_with fail
                        refine bodyPost_ret (results_none rfl _ _ _) rfl ?_
                        refine ⟨?_, only_trans ((H2.out.2.2.2).only (Nat.le_refl _)) (only_from HG4.out rfl rfl rfl rfl)⟩
                        rw [HE2.out]
                        exact ⟨rfl, k, rfl, HR4.out⟩
                    · skip
                      exact absurd (hmb.symm.trans hm2) (by decide)
              · have HNO : Hid ((l.drop k).head? ≠ some 44) := by show _ ≠ _; rw [hl]; simpa using hc
                have HYES : Hid True := trivial
                have HE : Hid (Ends m n (l.drop k)) := ⟨HE35.out, H48.out, fun _ e => absurd e HNO.out⟩
                clear hl hc
                have hr3 := H2.out.1
                go_quiet ((go_at_call 91; first | exact Calls.quiet_of (is_no (hr3.drewN _) HNO.out) | exact Calls.quiet_of (is_yes (hr3.drewN _) HYES.out)))
                go_wp2_with fail
                by_cases hz : h + m = 0
                · have hzb : (h + m == 0) = true := by simpa using hz
                  have HE2 : Hid (placesL 0 0 0 [] (l.drop s.at_) = none) := by rw [HQ.out, placesL_end HE.out, if_pos hz]; rfl
                  clear hz
                  go_quiet (fail)
                  go_wp2_with fail
                  exact ⟨rfl, by rw [HE2.out]; exact ⟨_, rfl⟩, only_drewN (H2.out.2.2.2.only (Nat.le_refl _)) _⟩
                · have hzb : (h + m == 0) = false := by simpa using hz
                  have HE2 : Hid (placesL 0 0 0 [] (l.drop s.at_) = some ((h, m, (groupsOf gs n).1, (groupsOf gs n).2), l.drop k)) := by rw [HQ.out, placesL_end HE.out, if_neg hz]; rfl
                  clear hz
                  go_quiet (fail)
                  go_wp2_with fail
                  refine (grouped_any (s := { s with at_ := k, nm := { s.nm with hash := h, minInt := m } }) (by exact H2.out.1.heap rfl) (by exact H2.out.2.2.1.heap rfl) n HZ.out.1 HZ.out.2 (by omega)).mono ?_
                  rintro e W4 ⟨rfl, hr4, hg4⟩
                  have HR4 := Lib.hid hr4
                  have HG4 := Lib.hid hg4
                  clear hr4 hg4
                  go_wp2_with fail
                  refine bodyPost_ret (results_none rfl _ _ _) rfl ?_
                  refine ⟨?_, only_trans ((H2.out.2.2.2).only (Nat.le_refl _)) (only_from HG4.out rfl rfl rfl rfl)⟩
                  rw [HE2.out]
                  exact ⟨rfl, k, rfl, HR4.out⟩
          · have hnb : decide (0 < n) = false := by simpa using hn
            have HNO : Hid True := trivial
            have HYES : Hid True := trivial
            have HE : Hid (Ends m n (l.drop k)) := ⟨HE35.out, H48.out, fun e _ => absurd e hn⟩
            clear hn
            have hr3 := H2.out.1
            go_quiet ((go_at_call 91; first | exact Calls.quiet_of (is_no (hr3.drewN _) HNO.out) | exact Calls.quiet_of (is_yes (hr3.drewN _) HYES.out)))
            go_wp2_with fail
            by_cases hz : h + m = 0
            · have hzb : (h + m == 0) = true := by simpa using hz
              have HE2 : Hid (placesL 0 0 0 [] (l.drop s.at_) = none) := by rw [HQ.out, placesL_end HE.out, if_pos hz]; rfl
              clear hz
              go_quiet (fail)
              go_wp2_with fail
              exact ⟨rfl, by rw [HE2.out]; exact ⟨_, rfl⟩, only_drewN (H2.out.2.2.2.only (Nat.le_refl _)) _⟩
            · have hzb : (h + m == 0) = false := by simpa using hz
              have HE2 : Hid (placesL 0 0 0 [] (l.drop s.at_) = some ((h, m, (groupsOf gs n).1, (groupsOf gs n).2), l.drop k)) := by rw [HQ.out, placesL_end HE.out, if_neg hz]; rfl
              clear hz
              go_quiet (fail)
              go_wp2_with fail
              refine (grouped_any (s := { s with at_ := k, nm := { s.nm with hash := h, minInt := m } }) (by exact H2.out.1.heap rfl) (by exact H2.out.2.2.1.heap rfl) n HZ.out.1 HZ.out.2 (by omega)).mono ?_
              rintro e W4 ⟨rfl, hr4, hg4⟩
              have HR4 := Lib.hid hr4
              have HG4 := Lib.hid hg4
              clear hr4 hg4
              go_wp2_with fail
              refine bodyPost_ret (results_none rfl _ _ _) rfl ?_
              refine ⟨?_, only_trans ((H2.out.2.2.2).only (Nat.le_refl _)) (only_from HG4.out rfl rfl rfl rfl)⟩
              rw [HE2.out]
              exact ⟨rfl, k, rfl, HR4.out⟩
    · have hmb : (m == 0) = false := by simpa using hm
      have HE35 : Hid (m = 0 → (l.drop k).head? ≠ some 35) := fun e => absurd e hm
      have H1 := HR
      clear hm
      go_wp2_with fail
      by_cases hc48 : (l.drop k).head? = some 48
      · skip
        obtain ⟨t, ht⟩ : ∃ t, l.drop k = 48 :: t := by
          cases hl : l.drop k with
          | nil => rw [hl] at hc48; cases hc48
          | cons d t => rw [hl] at hc48; simp at hc48; exact ⟨t, by rw [hc48]⟩
        have hlt := (H1.out.1.rl.drop ht).1
        have HQ2 : Hid (placesL 0 0 0 [] (l.drop s.at_) = placesL h (m + 1) (n + 1) gs (l.drop (k + 1))) := by
          rw [HQ.out, ht, placesL_zero, drop_succ ht]; rfl
        have hk2 : k < 120 := Nat.lt_of_lt_of_le hlt HL.out
        refine (has_yes H1.out.1 ht).mono ?_
        rintro e W2 ⟨rfl, hr2, hg2⟩
        have H2 := Lib.hid (H1.out.grown hg2 hr2)
        have d8 := hr2.c8
        have df := hr2.frozen
        clear hr2 hg2 ht hlt hc48
        go_wp2_with fail
        have H3 := Lib.hid (H2.out.set_ (h' := h) (m' := m + 1) 8 (.int .i64 (m + 1)) rfl)
        go_roundg (120 - k)
        case measure => have := HK.out; omega
        case rel => exact ⟨k + 1, h, m + 1, n + 1, gs, gv, by go_num, by show _ = _; omega, H3, HQ2, ⟨by omega, by omega, by omega, by omega, by omega, by omega, by omega⟩⟩
      · skip
        have H48 := Lib.hid hc48
        clear hc48
        refine (has_no H1.out.1 H48.out).mono ?_
        rintro e W2 ⟨rfl, hr2, hg2⟩
        have H2 := Lib.hid (H1.out.grown hg2 hr2)
        have d0 := hr2.c0
        have d1 := hr2.c1
        have d7 := hr2.c7
        have d8 := hr2.c8
        have dg : W2.cell? ⟨w.heap.size, 0, none⟩ = some gv := H2.out.2.1.cell 0
        clear hr2 hg2
        go_wp2_with fail
        by_cases hn : 0 < n
        · have hnb : decide (0 < n) = true := by simpa using hn
          cases hl : l.drop k with
          | nil =>
            have HNO : Hid ((l.drop k).head? ≠ some 44) := by show _ ≠ _; rw [hl]; simp
            have HYES : Hid True := trivial
            have HE : Hid (Ends m n (l.drop k)) := ⟨HE35.out, H48.out, fun _ e => absurd e HNO.out⟩
            clear hl
            have hr3 := H2.out.1
            go_quiet ((go_at_call 91; first | exact Calls.quiet_of (is_no (hr3.drewN _) HNO.out) | exact Calls.quiet_of (is_yes (hr3.drewN _) HYES.out)))
            go_wp2_with fail
            by_cases hz : h + m = 0
            · have hzb : (h + m == 0) = true := by simpa using hz
              have HE2 : Hid (placesL 0 0 0 [] (l.drop s.at_) = none) := by rw [HQ.out, placesL_end HE.out, if_pos hz]; rfl
              clear hz
              go_quiet (fail)
              go_wp2_with fail
              exact ⟨rfl, by rw [HE2.out]; exact ⟨_, rfl⟩, only_drewN (H2.out.2.2.2.only (Nat.le_refl _)) _⟩
            · have hzb : (h + m == 0) = false := by simpa using hz
              have HE2 : Hid (placesL 0 0 0 [] (l.drop s.at_) = some ((h, m, (groupsOf gs n).1, (groupsOf gs n).2), l.drop k)) := by rw [HQ.out, placesL_end HE.out, if_neg hz]; rfl
              clear hz
              go_quiet (fail)
              go_wp2_with fail
              refine (grouped_any (s := { s with at_ := k, nm := { s.nm with hash := h, minInt := m } }) (by exact H2.out.1.heap rfl) (by exact H2.out.2.2.1.heap rfl) n HZ.out.1 HZ.out.2 (by omega)).mono ?_
              rintro e W4 ⟨rfl, hr4, hg4⟩
              have HR4 := Lib.hid hr4
              have HG4 := Lib.hid hg4
              clear hr4 hg4
              go_wp2_with fail
              refine bodyPost_ret (results_none rfl _ _ _) rfl ?_
              refine ⟨?_, only_trans ((H2.out.2.2.2).only (Nat.le_refl _)) (only_from HG4.out rfl rfl rfl rfl)⟩
              rw [HE2.out]
              exact ⟨rfl, k, rfl, HR4.out⟩
          | cons c t =>
            by_cases hc : c = 44
            · subst hc
              have hlt := (H2.out.1.rl.drop hl).1
              cases ht : t with
              | nil =>
                subst ht
                have HNO : Hid True := trivial
                have HYES := Lib.hid hl
                have HE : Hid (Ends m n (l.drop k)) := ⟨HE35.out, H48.out, fun _ _ => by rw [hl]; rfl⟩
                have hge : l.length ≤ k + 1 := List.drop_eq_nil_iff.1 (drop_succ hl)
                generalize l.length = len at *
                have hgeb : decide (k + 1 < len) = false := by simpa using hge
                have hgeb2 : decide ((k : Int) + 1 < (len : Int)) = false := by simp; omega
                clear hl
                have hr3 := H2.out.1
                go_quiet ((go_at_call 91; first | exact Calls.quiet_of (is_no (hr3.drewN _) HNO.out) | exact Calls.quiet_of (is_yes (hr3.drewN _) HYES.out)))
                go_wp2_with fail
                by_cases hz : h + m = 0
                · have hzb : (h + m == 0) = true := by simpa using hz
                  have HE2 : Hid (placesL 0 0 0 [] (l.drop s.at_) = none) := by rw [HQ.out, placesL_end HE.out, if_pos hz]; rfl
                  clear hz
                  go_quiet (fail)
                  go_wp2_with fail
                  exact ⟨rfl, by rw [HE2.out]; exact ⟨_, rfl⟩, only_drewN (H2.out.2.2.2.only (Nat.le_refl _)) _⟩
                · have hzb : (h + m == 0) = false := by simpa using hz
                  have HE2 : Hid (placesL 0 0 0 [] (l.drop s.at_) = some ((h, m, (groupsOf gs n).1, (groupsOf gs n).2), l.drop k)) := by rw [HQ.out, placesL_end HE.out, if_neg hz]; rfl
                  clear hz
                  go_quiet (fail)
                  go_wp2_with fail
                  refine (grouped_any (s := { s with at_ := k, nm := { s.nm with hash := h, minInt := m } }) (by exact H2.out.1.heap rfl) (by exact H2.out.2.2.1.heap rfl) n HZ.out.1 HZ.out.2 (by omega)).mono ?_
                  rintro e W4 ⟨rfl, hr4, hg4⟩
                  have HR4 := Lib.hid hr4
                  have HG4 := Lib.hid hg4
                  clear hr4 hg4
                  go_wp2_with fail
                  refine bodyPost_ret (results_none rfl _ _ _) rfl ?_
                  refine ⟨?_, only_trans ((H2.out.2.2.2).only (Nat.le_refl _)) (only_from HG4.out rfl rfl rfl rfl)⟩
                  rw [HE2.out]
                  exact ⟨rfl, k, rfl, HR4.out⟩
              | cons d u =>
                subst ht
                have hd2 := drop_succ hl
                have hk2 : k + 1 < 120 := Nat.lt_of_lt_of_le (H2.out.1.rl.drop hd2).1 HL.out
                obtain ⟨hlt2, ad, rfl, hr⟩ := H2.out.1.rl.drop hd2
                have hr1 : W2.cell? ⟨ad.block, ad.off + (k + 1), none⟩ = some (.int .i32 d) := by simpa [Addr.add] using hr
                have hz1 : (0 : Int) ≤ (k : Int) + 1 := by omega
                have hadd : ad.add (k + 1) = ⟨ad.block, ad.off + (k + 1), none⟩ := by simp [Addr.add]
                have HYES := Lib.hid hl
                generalize hlen : l.length = len at *
                have hltb : decide (k + 1 < len) = true := by simpa using hlt2
                have hltb2 : decide ((k : Int) + 1 < (len : Int)) = true := by simp; omega
                have HLEN := Lib.hid hlen
                by_cases hcm : commaAt m (d :: u) = true
                · have HNO : Hid True := trivial
                  have HCM := Lib.hid hcm
                  have HL2 := Lib.hid hl
                  have HD2 := Lib.hid hd2
                  have hdd : d = 48 ∨ (d = 35 ∧ m = 0) := by simpa [commaAt] using hcm
                  clear hcm hl hlen hd2 hr
                  rcases hdd with rfl | ⟨rfl, hm2⟩
                  · skip
                    have hr3 := H2.out.1
                    go_quiet ((go_at_call 91; first | exact Calls.quiet_of (is_yes (hr3.drewN _) HYES.out)))
                    go_wp2_with fail
                    by_cases hb : 1 < gs.length ∧ gs[1]? ≠ some n
                    · have HE2 : Hid (placesL 0 0 0 [] (l.drop s.at_) = none) := by rw [HQ.out, HL2.out, placesL_bad hn HCM.out hb]; rfl
                      refine (comma_stop (s := { s with at_ := k, nm := { s.nm with hash := h, minInt := m } }) (by exact H2.out.1.heap rfl) (by exact H2.out.2.1) (by exact H2.out.2.2.1.heap rfl) n hb.1 hb.2 (by omega)).mono ?_
                      rintro e W4 ⟨⟨x, rfl⟩, rfl⟩
                      clear hb
                      go_wp2_with fail
                      exact ⟨rfl, by rw [HE2.out]; exact ⟨_, rfl⟩, only_drewN (H2.out.2.2.2.only (Nat.le_refl _)) _⟩
                    · have HQ2 : Hid (placesL 0 0 0 [] (l.drop s.at_) = placesL h m 0 (gs ++ [n]) (l.drop (k + 1))) := by rw [HQ.out, HL2.out, placesL_comma hn HCM.out hb, HD2.out]; rfl
                      refine (comma_goes (s := { s with at_ := k, nm := { s.nm with hash := h, minInt := m } }) (by exact H2.out.1.heap rfl) (by exact H2.out.2.1) (by exact H2.out.2.2.1.heap rfl) (Nat.le_refl _) n hb (by omega) (by show k < l.length; have := HLEN.out; omega)).mono ?_
                      rintro e W4 ⟨rfl, hr4, ⟨gv4, hb4, ho4⟩, ht4⟩
                      have H4 : Hid (PRel w rb _ cap l s (k + 1) h m (gs ++ [n]) gv4 W4) := ⟨hr4, hb4, ho4, H2.out.2.2.2.trans ⟨ht4.os, ht4.tape, ht4.output, ht4.size, ht4.block⟩⟩
                      clear hb hr4 hb4 ho4 ht4
                      go_wp2_with fail
                      go_roundg (120 - k)
                      case measure => have := HK.out; omega
                      case rel => exact ⟨k + 1, h, m, 0, gs ++ [n], gv4, rfl, by show _ = _; omega, H4, HQ2, ⟨by omega, by omega, by omega, by omega, by omega, by omega, by simp; omega⟩⟩
                  · skip
                    exact absurd hm2 (by simpa using hmb)
                · have HNO : Hid True := trivial
                  have HE : Hid (Ends m n (l.drop k)) := ⟨HE35.out, H48.out, fun _ _ => by rw [hl]; simpa using hcm⟩
                  have hd48 : (d == 48) = false := by
                    simp [commaAt] at hcm; simpa using hcm.1
                  have hd35 : (d == 35) = false ∨ ((d == 35) = true ∧ (m == 0) = false) := by
                    simp [commaAt] at hcm
                    by_cases hx : d = 35
                    · exact .inr ⟨by simpa using hx, by simpa using hcm.2 hx⟩
                    · exact .inl (by simpa using hx)
                  clear hcm hl hlen hd2 hr
                  rcases hd35 with hd35 | ⟨hd35, hm2⟩
                  · skip
                    have hr3 := H2.out.1
                    go_quiet ((go_at_call 91; first | exact Calls.quiet_of (is_no (hr3.drewN _) HNO.out) | exact Calls.quiet_of (is_yes (hr3.drewN _) HYES.out)))
                    go_wp2_with fail
                    by_cases hz : h + m = 0
                    · have hzb : (h + m == 0) = true := by simpa using hz
                      have HE2 : Hid (placesL 0 0 0 [] (l.drop s.at_) = none) := by rw [HQ.out, placesL_end HE.out, if_pos hz]; rfl
                      clear hz
                      go_quiet (fail)
                      go_wp2_with fail
                      exact ⟨rfl, by rw [HE2.out]; exact ⟨_, rfl⟩, only_drewN (H2.out.2.2.2.only (Nat.le_refl _)) _⟩
                    · have hzb : (h + m == 0) = false := by simpa using hz
                      have HE2 : Hid (placesL 0 0 0 [] (l.drop s.at_) = some ((h, m, (groupsOf gs n).1, (groupsOf gs n).2), l.drop k)) := by rw [HQ.out, placesL_end HE.out, if_neg hz]; rfl
                      clear hz
                      go_quiet (fail)
                      go_wp2_with fail
                      refine (grouped_any (s := { s with at_ := k, nm := { s.nm with hash := h, minInt := m } }) (by exact H2.out.1.heap rfl) (by exact H2.out.2.2.1.heap rfl) n HZ.out.1 HZ.out.2 (by omega)).mono ?_
                      rintro e W4 ⟨rfl, hr4, hg4⟩
                      have HR4 := Lib.hid hr4
                      have HG4 := Lib.hid hg4
                      clear hr4 hg4
                      go_wp2_with fail
                      refine bodyPost_ret (results_none rfl _ _ _) rfl ?_
                      refine ⟨?_, only_trans ((H2.out.2.2.2).only (Nat.le_refl _)) (only_from HG4.out rfl rfl rfl rfl)⟩
                      rw [HE2.out]
                      exact ⟨rfl, k, rfl, HR4.out⟩
                  · skip
                    have hr3 := H2.out.1
                    go_quiet ((go_at_call 91; first | exact Calls.quiet_of (is_no (hr3.drewN _) HNO.out) | exact Calls.quiet_of (is_yes (hr3.drewN _) HYES.out)))
                    go_wp2_with fail
                    by_cases hz : h + m = 0
                    · have hzb : (h + m == 0) = true := by simpa using hz
                      have HE2 : Hid (placesL 0 0 0 [] (l.drop s.at_) = none) := by rw [HQ.out, placesL_end HE.out, if_pos hz]; rfl
                      clear hz
                      go_quiet (fail)
                      go_wp2_with fail
                      exact ⟨rfl, by rw [HE2.out]; exact ⟨_, rfl⟩, only_drewN (H2.out.2.2.2.only (Nat.le_refl _)) _⟩
                    · have hzb : (h + m == 0) = false := by simpa using hz
                      have HE2 : Hid (placesL 0 0 0 [] (l.drop s.at_) = some ((h, m, (groupsOf gs n).1, (groupsOf gs n).2), l.drop k)) := by rw [HQ.out, placesL_end HE.out, if_neg hz]; rfl
                      clear hz
                      go_quiet (fail)
                      go_wp2_with fail
                      refine (grouped_any (s := { s with at_ := k, nm := { s.nm with hash := h, minInt := m } }) (by exact H2.out.1.heap rfl) (by exact H2.out.2.2.1.heap rfl) n HZ.out.1 HZ.out.2 (by omega)).mono ?_
                      rintro e W4 ⟨rfl, hr4, hg4⟩
                      have HR4 := Lib.hid hr4
                      have HG4 := Lib.hid hg4
                      clear hr4 hg4
                      go_wp2_with fail
                      refine bodyPost_ret (results_none rfl _ _ _) rfl ?_
                      refine ⟨?_, only_trans ((H2.out.2.2.2).only (Nat.le_refl _)) (only_from HG4.out rfl rfl rfl rfl)⟩
                      rw [HE2.out]
                      exact ⟨rfl, k, rfl, HR4.out⟩
            · have HNO : Hid ((l.drop k).head? ≠ some 44) := by show _ ≠ _; rw [hl]; simpa using hc
              have HYES : Hid True := trivial
              have HE : Hid (Ends m n (l.drop k)) := ⟨HE35.out, H48.out, fun _ e => absurd e HNO.out⟩
              clear hl hc
              have hr3 := H2.out.1
              go_quiet ((go_at_call 91; first | exact Calls.quiet_of (is_no (hr3.drewN _) HNO.out) | exact Calls.quiet_of (is_yes (hr3.drewN _) HYES.out)))
              go_wp2_with fail
              by_cases hz : h + m = 0
              · have hzb : (h + m == 0) = true := by simpa using hz
                have HE2 : Hid (placesL 0 0 0 [] (l.drop s.at_) = none) := by rw [HQ.out, placesL_end HE.out, if_pos hz]; rfl
                clear hz
                go_quiet (fail)
                go_wp2_with fail
                exact ⟨rfl, by rw [HE2.out]; exact ⟨_, rfl⟩, only_drewN (H2.out.2.2.2.only (Nat.le_refl _)) _⟩
              · have hzb : (h + m == 0) = false := by simpa using hz
                have HE2 : Hid (placesL 0 0 0 [] (l.drop s.at_) = some ((h, m, (groupsOf gs n).1, (groupsOf gs n).2), l.drop k)) := by rw [HQ.out, placesL_end HE.out, if_neg hz]; rfl
                clear hz
                go_quiet (fail)
                go_wp2_with fail
                refine (grouped_any (s := { s with at_ := k, nm := { s.nm with hash := h, minInt := m } }) (by exact H2.out.1.heap rfl) (by exact H2.out.2.2.1.heap rfl) n HZ.out.1 HZ.out.2 (by omega)).mono ?_
                rintro e W4 ⟨rfl, hr4, hg4⟩
                have HR4 := Lib.hid hr4
                have HG4 := Lib.hid hg4
                clear hr4 hg4
                go_wp2_with fail
                refine bodyPost_ret (results_none rfl _ _ _) rfl ?_
                refine ⟨?_, only_trans ((H2.out.2.2.2).only (Nat.le_refl _)) (only_from HG4.out rfl rfl rfl rfl)⟩
                rw [HE2.out]
                exact ⟨rfl, k, rfl, HR4.out⟩
        · have hnb : decide (0 < n) = false := by simpa using hn
          have HNO : Hid True := trivial
          have HYES : Hid True := trivial
          have HE : Hid (Ends m n (l.drop k)) := ⟨HE35.out, H48.out, fun e _ => absurd e hn⟩
          clear hn
          have hr3 := H2.out.1
          go_quiet ((go_at_call 91; first | exact Calls.quiet_of (is_no (hr3.drewN _) HNO.out) | exact Calls.quiet_of (is_yes (hr3.drewN _) HYES.out)))
          go_wp2_with fail
          by_cases hz : h + m = 0
          · have hzb : (h + m == 0) = true := by simpa using hz
            have HE2 : Hid (placesL 0 0 0 [] (l.drop s.at_) = none) := by rw [HQ.out, placesL_end HE.out, if_pos hz]; rfl
            clear hz
            go_quiet (fail)
            go_wp2_with fail
            exact ⟨rfl, by rw [HE2.out]; exact ⟨_, rfl⟩, only_drewN (H2.out.2.2.2.only (Nat.le_refl _)) _⟩
          · have hzb : (h + m == 0) = false := by simpa using hz
            have HE2 : Hid (placesL 0 0 0 [] (l.drop s.at_) = some ((h, m, (groupsOf gs n).1, (groupsOf gs n).2), l.drop k)) := by rw [HQ.out, placesL_end HE.out, if_neg hz]; rfl
            clear hz
            go_quiet (fail)
            go_wp2_with fail
            refine (grouped_any (s := { s with at_ := k, nm := { s.nm with hash := h, minInt := m } }) (by exact H2.out.1.heap rfl) (by exact H2.out.2.2.1.heap rfl) n HZ.out.1 HZ.out.2 (by omega)).mono ?_
            rintro e W4 ⟨rfl, hr4, hg4⟩
            have HR4 := Lib.hid hr4
            have HG4 := Lib.hid hg4
            clear hr4 hg4
            go_wp2_with fail
            refine bodyPost_ret (results_none rfl _ _ _) rfl ?_
            refine ⟨?_, only_trans ((H2.out.2.2.2).only (Nat.le_refl _)) (only_from HG4.out rfl rfl rfl rfl)⟩
            rw [HE2.out]
            exact ⟨rfl, k, rfl, HR4.out⟩
end
end Go.Proofs.Ytdbcdgojbegakaa

/-
The pattern reader's quoted: what is in quotes, behind the first one.
-/
import Derived.Test.YtdbcdgojbegakaaR2
namespace Go.Proofs.Ytdbcdgojbegakaa
open Go.RowKit

/-- What an affix's reading comes to: a row of pieces of the call's own and the place behind; or a panic of the reader's. -/
def QPost (B : Nat) (rb : Nat) (A : Option Addr) (cap : Nat) (l : List Int) (s : RS) (o : Option (List Tk × List Int)) (e : Ending) (w' : World) : Prop :=
  match o with
  | none => Wrong e
  | some q => ∃ v k, e = .returned v ∧ OwnT w' B v q.1 ∧ l.drop k = q.2 ∧ Rd w' rb A cap l { s with at_ := k }

theorem quotedL_plain {c : Int} (t : List Int) (h : c ≠ 39) : quotedL (c :: t) = (quotedL t).map fun p => (⟨0, c⟩ :: p.1, p.2) := by
  rw [quotedL.eq_def]; simp [h]
theorem quotedL_two (t : List Int) : quotedL (39 :: 39 :: t) = (quotedL t).map fun p => (⟨0, 39⟩ :: p.1, p.2) := by
  rw [quotedL.eq_def]; simp
theorem quotedL_end {t : List Int} (h : t.head? ≠ some 39) : quotedL (39 :: t) = some ([], t) := by
  rw [quotedL.eq_def]
  cases t with
  | nil => simp
  | cons d u => simp at h; simp [h]
theorem quotedL_nil : quotedL [] = none := by rw [quotedL.eq_def]

theorem map_app {ts : List Tk} {t : Tk} {o : Option (List Tk × List Int)} :
    (o.map fun p => ((t :: p.1, p.2) : List Tk × List Int)).map (fun p => ((ts ++ p.1, p.2) : List Tk × List Int)) = o.map fun p => (ts ++ [t] ++ p.1, p.2) := by
  cases o <;> simp

section
variable {w : World} {rb : Nat} {A : Option Addr} {cap : Nat} {l : List Int} {s : RS}

set_option maxHeartbeats 400000 in
theorem quoted_two (h : Rd w rb A cap l s) (fr : Int) {t : List Int} (hd : l.drop s.at_ = 39 :: t) :
    Calls Try.prog 92 #[.pointer (some ⟨rb, 0, none⟩), .int .i64 fr] w fun e w' =>
      (∃ v, e = .returned v ∧ OwnT w' w.heap.size v [⟨0, 39⟩] ∧ Rd w' rb A cap l { s with at_ := s.at_ + 1 }) ∧ w.grownBy w' (some rb) := by
  have C := Lib.hid (has_yes h hd)
  clear h hd
  go_enter Try.func92, Try.ntmps92
  go_wp2_with (go_at_call 83; refine (C.out).mono ?_; rintro e w' ⟨rfl, hr2, hg2⟩; have HR2 := Lib.hid hr2; have HG2 := Lib.hid hg2; clear hr2 hg2)
  go_ret
  exact ⟨⟨_, rfl, OwnT.new _ _ ⟨0, 39⟩ HG2.out.size, HR2.out.alloc _⟩, only_alloc HG2.out _⟩

set_option maxRecDepth 100000 in
set_option maxHeartbeats 800000 in
theorem quoted_any (h : Rd w rb A cap l s) (fr : Int) (hd : (l.drop s.at_).head? ≠ some 39) :
    Calls Try.prog 92 #[.pointer (some ⟨rb, 0, none⟩), .int .i64 fr] w fun e w' =>
      QPost w.heap.size rb A cap l s (quotedL (l.drop s.at_)) e w' ∧ w.grownBy w' (some rb) := by
  have C := Lib.hid (has_no h hd)
  have HL := Lib.hid h.len
  clear h hd
  go_enter Try.func92, Try.ntmps92
  go_wp2_with (go_at_call 83; refine (C.out).mono ?_; rintro e w' ⟨rfl, hr2, hg2⟩; have HR2 := Lib.hid hr2; have HG2 := Lib.hid hg2; clear hr2 hg2)
  go_loopg [5] (121 - s.at_) (fun kq v5 wr => ∃ (k : Nat) (ts : List Tk), Hid (kq = 121 - k) ∧ Hid (ts.length ≤ k) ∧ Hid (OwnT wr w.heap.size v5 ts) ∧ Hid (Rd wr rb A cap l { s with at_ := k }) ∧ Hid (w.grownBy wr (some rb)) ∧
    Hid (quotedL (l.drop s.at_) = (quotedL (l.drop k)).map fun p => (ts ++ p.1, p.2)))
  case atStart =>
    exact ⟨s.at_, [], rfl, Nat.zero_le _, OwnT.nil_ _ _, HR2, HG2, by show _ = _; simp⟩
  case round =>
    obtain ⟨k, ts, HK, HT, HO, HR, HG, HQ⟩ := hrel
    clear HR2 HG2
    have hk1 := HR.out.le
    have hk2 := HR.out.len
    have h0 := HR.out.c0
    have h1 := HR.out.c1
    have hf := HR.out.frozen 1
    cases hl : l.drop k with
    | nil =>
      have hge : l.length ≤ k := List.drop_eq_nil_iff.1 hl
      have HE : Hid (quotedL (l.drop s.at_) = none) := by rw [HQ.out, hl, quotedL_nil]; rfl
      generalize hn : l.length = n at *
      have hge2 : decide (k < n) = false := by simpa using hge
      clear hn hl
      go_wp2
      go_quiet (fail)
      go_wp2
      refine ⟨rfl, ?_, ?_⟩
      · rw [HE.out]; exact ⟨_, rfl⟩
      · exact only_drewN HG.out _
    | cons c t =>
      obtain ⟨hlt, ad, rfl, hr⟩ := HR.out.rl.drop hl
      have hne2 : ¬ ad.block = rb := fun e => HR.out.ne _ rfl (by rw [e])
      have HS : Hid (Rd (wr.setCell ⟨rb, 1, none⟩ (.int .i64 ((k : Int) + 1))) rb (some ad) cap l { s with at_ := k + 1 }) := HR.out.set_ 1 _ rfl hlt
      have HGS : Hid (w.grownBy (wr.setCell ⟨rb, 1, none⟩ (.int .i64 ((k : Int) + 1))) (some rb)) := only_setCell (p := ⟨rb, 1, none⟩) HG.out (.inl rfl) _
      have HOS : Hid (OwnT (wr.setCell ⟨rb, 1, none⟩ (.int .i64 ((k : Int) + 1))) w.heap.size u5 ts) := HO.out.set_ (HR.out.far (by decide)) 1 _
      have hd2 := Lib.hid (drop_succ hl)
      generalize hn0 : l.length = n at *
      have hlt2 : decide (k < n) = true := by simpa using hlt
      by_cases hc : c = 39
      · subst hc
        have hcb : ((39 : Int) == 39) = true := rfl
        by_cases hh : t.head? = some 39
        · obtain ⟨u, rfl⟩ : ∃ u, t = 39 :: u := by
            cases t with
            | nil => cases hh
            | cons d u => simp at hh; exact ⟨u, by rw [hh]⟩
          have HQ2 : Hid (quotedL (l.drop s.at_) = (quotedL (l.drop (k + 1 + 1))).map fun p => ((ts ++ [⟨0, 39⟩]) ++ p.1, p.2)) := by
            rw [HQ.out, hl, quotedL_two, map_app, drop_succ hd2.out]; rfl
          have hk3 : k + 1 < 120 := Nat.lt_of_lt_of_le (HR.out.rl.drop hd2.out).1 HR.out.len
          clear hl hn0 hh
          go_wp2
          go_quiet (fail)
          go_wp2
          go_quiet (fail)
          go_wp2_with (first
            | (go_at_call 83; go_must (refine (has_yes (s := { s with at_ := k + 1 }) (c := 39) (t := u) (by exact HS.out.heap rfl) (by exact hd2.out)).mono ?_; rintro e w' ⟨rfl, hr2, hg2⟩; have HR2 := Lib.hid hr2; have HG2 := Lib.hid hg2; clear hr2 hg2))
            | (at_builtin; go_must (refine wpList_append_tk _ rfl (.tmp 46) (.tmp 49) rfl w.heap.size u5 ts 0 39 rfl (by exact HOS.out.grown (only_from HG2.out rfl rfl rfl rfl) (HS.out.far (by decide))) _ rfl rfl (by have := HT.out; omega) (by exact Nat.le_trans HG.out.size (by have := HG2.out.size; rw [size_setCell] at this; exact this)) ?_); intro v' w' hown hgr))
          have HO2 := HOS.out.grown (only_from HG2.out rfl rfl rfl rfl) (HS.out.far (by decide))
          obtain ⟨hr3, hg3⟩ := step_tk hgr HR2.out HO2 (only_trans HGS.out (only_from HG2.out rfl rfl rfl rfl)) (Nat.le_refl _)
          go_roundg (119 - k)
          case measure => have := HK.out; omega
          case rel => exact ⟨k + 1 + 1, ts ++ [⟨0, 39⟩], by show _ = _; omega, by have := HT.out; show _ ≤ _; simp; omega, Lib.hid hown, Lib.hid hr3, Lib.hid hg3, HQ2⟩
        · have HE : Hid (quotedL (l.drop s.at_) = some (ts, l.drop (k + 1))) := by
            rw [HQ.out, hl, quotedL_end hh, hd2.out]; simp [Hid]
          have HH := Lib.hid hh
          clear hl hn0 hh
          go_wp2
          go_quiet (fail)
          go_wp2
          go_quiet (fail)
          go_wp2_with (go_at_call 83; go_must (refine (has_no (s := { s with at_ := k + 1 }) (c := 39) (by exact HS.out.heap rfl) (by rw [show List.drop (RS.at_ { s with at_ := k + 1 }) l = t from hd2.out]; exact HH.out)).mono ?_; rintro e w' ⟨rfl, hr2, hg2⟩; have HR2 := Lib.hid hr2; have HG2 := Lib.hid hg2; clear hr2 hg2))
          go_ret
          refine ⟨?_, only_trans HGS.out (only_from HG2.out rfl rfl rfl rfl)⟩
          rw [HE.out]
          refine ⟨_, k + 1, rfl, ?_, rfl, HR2.out⟩
          exact HOS.out.grown (only_from HG2.out rfl rfl rfl rfl) (HS.out.far (by decide))
      · have hcb : (c == 39) = false := by simpa using hc
        have HQ2 : Hid (quotedL (l.drop s.at_) = (quotedL (l.drop (k + 1))).map fun p => ((ts ++ [⟨0, c⟩]) ++ p.1, p.2)) := by
          rw [HQ.out, hl, quotedL_plain _ hc, map_app, hd2.out]; rfl
        clear hl hc hn0
        go_wp2
        go_quiet (fail)
        go_wp2
        go_quiet (fail)
        go_wp2_with (at_builtin; go_must (refine wpList_append_tk _ rfl (.tmp 46) (.tmp 49) rfl w.heap.size u5 ts 0 c rfl (by exact HOS.out.heap rfl) _ rfl (size_setCell _ _ _).symm (by have := HT.out; omega) (by rw [size_setCell]; exact HG.out.size) ?_); intro v' w' hown hgr)
        obtain ⟨hr3, hg3⟩ := step_tk hgr (HS.out.heap rfl) (HOS.out.heap rfl) (only_same HGS.out rfl rfl rfl rfl) (Nat.le_refl _)
        go_roundg (120 - k)
        case measure => have := HK.out; omega
        case rel => exact ⟨k + 1, ts ++ [⟨0, c⟩], by show _ = _; omega, by have := HT.out; show _ ≤ _; simp; omega, Lib.hid hown, Lib.hid hr3, Lib.hid hg3, HQ2⟩
end
end Go.Proofs.Ytdbcdgojbegakaa

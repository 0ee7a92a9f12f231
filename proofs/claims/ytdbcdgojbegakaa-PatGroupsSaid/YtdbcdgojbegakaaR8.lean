/-
The pattern reader's again: a number that was read, once more.
-/
import Derived.Test.YtdbcdgojbegakaaR7
namespace Go.Proofs.Ytdbcdgojbegakaa
open Go.RowKit

/-- What an again comes to. -/
def APost (rb : Nat) (A : Option Addr) (cap : Nat) (l : List Int) (s : RS) (o : Option (List Int)) (e : Ending) (w' : World) : Prop :=
  match o with
  | none => Wrong e
  | some u => e = .returned (.tuple #[]) ∧ ∃ k, l.drop k = u ∧ Rd w' rb A cap l { s with at_ := k }

theorem againL_no {c : Int} {u r : List Int} (h : r.head? ≠ some c) : againL (c :: u) r = none := by
  cases r with
  | nil => rfl
  | cons d t => simp at h; simp [againL, h]
theorem againL_yes (c : Int) (u t : List Int) : againL (c :: u) (c :: t) = againL u t := by simp [againL]

section
variable {w : World} {rb : Nat} {A : Option Addr} {cap : Nat} {l : List Int} {s : RS}

set_option maxRecDepth 100000 in
set_option maxHeartbeats 1000000 in
theorem again_any (h : Rd w rb A cap l s) {A2 : Option Addr} {cap2 : Nat} {nr : List Int} (hr : RL w A2 nr) (ht : ∀ ad, A2 = some ad → Typ w ad.block 21) (hn : nr.length ≤ 120) :
    Calls Try.prog 84 #[.pointer (some ⟨rb, 0, none⟩), .slice A2 nr.length cap2] w fun e w' =>
      APost rb A cap l s (againL nr (l.drop s.at_)) e w' ∧ w.grownBy w' (some rb) := by
  have H := Lib.hid h
  have HRL := Lib.hid hr
  have HTY := Lib.hid ht
  have HNE : Hid (∀ ad, A2 = some ad → some ad.block ≠ some rb) := fun ad e e' => (ht ad e).ne h.blk.typ (by decide) (by injection e')
  clear h hr ht
  go_enter Try.func84, Try.ntmps84
  go_wp2_with fail
  go_loopg [8] (nr.length) (fun kq v8 wr => ∃ (i k : Nat), v8 = .int .i64 i ∧ Hid (kq + i = nr.length) ∧ Hid (Rd wr rb A cap l { s with at_ := k }) ∧ Hid (w.grownBy wr (some rb)) ∧ Hid (againL nr (l.drop s.at_) = againL (nr.drop i) (l.drop k)))
  case atStart => exact ⟨0, s.at_, rfl, by show _ = _; omega, H, only_refl w _, rfl⟩
  case round =>
    obtain ⟨i, k, rfl, HK, HR, HG, HQ⟩ := hrel
    have hkq := HK.out
    cases hl : nr.drop i with
    | nil =>
      have hge : nr.length ≤ i := List.drop_eq_nil_iff.1 hl
      have HE : Hid (againL nr (l.drop s.at_) = some (l.drop k)) := by rw [HQ.out, hl]; rfl
      clear hl
      have hi : i = nr.length := by omega
      generalize hnn : nr.length = n at *
      clear hnn hkq
      subst hi
      go_wp2_with fail
      go_end0
      refine ⟨?_, HG.out⟩
      rw [HE.out]
      exact ⟨rfl, k, rfl, HR.out⟩
    | cons c t =>
      have hlt : i < nr.length := by
        have := congrArg List.length hl
        simp at this
        omega
      have hc : nr[i]? = some c := by
        have : (nr.drop i)[0]? = some c := by rw [hl]; rfl
        simpa using this
      obtain ⟨ad, rfl, hcell⟩ := (HRL.out.grown HG.out HNE.out) i c hc
      have hd := drop_succ hl
      have HL := Lib.hid hl
      have HD := Lib.hid hd
      clear hc hl hd
      generalize hnn : nr.length = n at *
      have HNN := Lib.hid hnn
      clear hnn hkq
      by_cases hh : (l.drop k).head? = some c
      · obtain ⟨u, hu⟩ := head_cons hh
        have HU := Lib.hid hu
        clear hh hu
        have HQ2 : Hid (againL nr (l.drop s.at_) = againL (nr.drop (i + 1)) (l.drop (k + 1))) := by rw [HQ.out, HL.out, HU.out, againL_yes, HD.out, drop_succ HU.out]; rfl
        go_wp2_with fail
        refine (has_yes HR.out HU.out).mono ?_
        rintro e W ⟨rfl, hr2, hg2⟩
        have HR2 := Lib.hid hr2
        have HG2 := Lib.hid (only_trans HG.out hg2)
        clear hr2 hg2
        go_wp2_with fail
        go_roundg (gk - 1)
        case measure => have := HK.out; omega
        case rel => exact ⟨i + 1, k + 1, by go_num, by have := HK.out; show _ = _; omega, HR2, HG2, HQ2⟩
      · have HH := Lib.hid hh
        clear hh
        have HE : Hid (againL nr (l.drop s.at_) = none) := by rw [HQ.out, HL.out, againL_no HH.out]; rfl
        go_wp2_with fail
        refine (has_no HR.out HH.out).mono ?_
        rintro e W ⟨rfl, hr2, hg2⟩
        have HG2 := Lib.hid (only_trans HG.out hg2)
        have c1 := hr2.c1
        clear hr2 hg2
        go_wp2_with fail
        refine ⟨rfl, ?_, HG2.out⟩
        rw [HE.out]
        exact ⟨_, rfl⟩
end
end Go.Proofs.Ytdbcdgojbegakaa

/-
The reference's written, padded.
-/
import Derived.Test.YtdbcdgojbegakaaV7
import Derived.Test.YtdbcdgojbegakaaE1
import Derived.Test.YtdbcdgojbegakaaN3
namespace Go.Proofs.Ytdbcdgojbegakaa
open Go.RowKit

theorem s39 : strOf [39] = ⟨#[39]⟩ := by decide +kernel
theorem s43 : strOf [43] = ⟨#[43]⟩ := by decide +kernel
theorem s45 : strOf [45] = ⟨#[45]⟩ := by decide +kernel
theorem s37 : strOf [37] = ⟨#[37]⟩ := by decide +kernel

set_option maxRecDepth 100000 in
set_option maxHeartbeats 40000000 in
theorem written_ref (w : World) (v : Value) (ts : List Tk) (h : TL w v ts) (hr : ∀ t ∈ ts, isRune t.r = true) (hl : ts.length ≤ 300) :
    Calls Try.prog 29 #[v] w fun e w' => e = .returned (.string (strOf (writtenT false ts))) ∧ w.grownBy w' none := by
  obtain ⟨A1, c1, rfl, n1⟩ := h.nth
  have N1 := Lib.hid n1
  have HR := Lib.hid hr
  have HL := Lib.hid (writtenT_le ts false)
  have CT := Lib.hid text_ref
  have CS := Lib.hid special_ref
  have HT := Lib.hid (text_ref 164 (by decide))
  clear n1 hr h
  go_enter Try.func29, Try.ntmps29
  go_wp2_with fail
  go_loopg [3, 4, 5] ts.length (fun kq v3 v4 v5 wr => ∃ (k : Nat) (S : List Int) (q : Bool), v5 = .int .i64 k ∧ v3 = .string (strOf S) ∧ v4 = .bool q ∧ Hid (kq + k = ts.length) ∧ Hid (writtenT false ts = S ++ writtenT q (ts.drop k)) ∧ Hid (w.grownBy wr none))
  case atStart => exact ⟨0, [], false, rfl, rfl, rfl, rfl, rfl, only_refl _ _⟩
  case round =>
    obtain ⟨k, S, q, rfl, rfl, rfl, HK, HE, HG⟩ := hrel
    have HSL : Hid (S.length ≤ 2 * ts.length + 1) := by
      have h1 := congrArg List.length HE.out
      have h2 := HL.out
      rw [List.length_append] at h1
      show _ ≤ _
      omega
    by_cases hk : k < ts.length
    · obtain ⟨ad1, rfl, d1, d2⟩ := N1.out k hk
      have e1 := HG.out.cell d1 (by simp)
      have e2 := HG.out.cell d2 (by simp)
      have hk2 : (k : Int) < (ts.length : Int) := by omega
      have hdr : Hid (ts.drop k = ts[k] :: ts.drop (k + 1)) := List.drop_eq_getElem_cons hk
      have hrk := Lib.hid (HR.out ts[k] (List.getElem_mem hk))
      have hkind : Hid (ts[k].kind = ts[k].kind) := rfl
      clear d1 d2
      generalize ts[k] = t at *
      obtain ⟨K, r⟩ := t
      simp only at e1 e2
      have hS : S.length ≤ 2 * ts.length + 1 := HSL.out
      have cq := cat_any S [39] (by simp; omega)
      have cr := cat_any S [r] (by simp; omega)
      have cqr := cat_any (S ++ [39]) [r] (by simp; omega)
      have crq := cat_any (S ++ [r]) [39] (by simp; omega)
      rw [s39] at cq crq
      clear hS

      by_cases hK : K = 0
      · have kb : (K == 0) = true := by simp [hK]
        have KZ := Lib.hid hK
        clear hK
        by_cases hR : r = 39
        · have rb : (r == 39) = true := by simp [hR]
          have RZ := Lib.hid hR
          clear hR
          have HE2 : Hid (writtenT false ts = (S ++ [r, 39]) ++ writtenT q (ts.drop (k + 1))) := by
            rw [Hid, HE.out, hdr.out]
            simp only [writtenT]
            rw [if_neg (by simp [KZ.out]), if_pos RZ.out, RZ.out]; simp
          clear HE
          go_wp2_with (first
            | (go_at_call 52; refine (CS.out r _).mono ?_; rintro e wa ⟨rfl, hg⟩; have HG2 := Lib.hid (only_trans HG.out hg); have e1 := hg.cell e1 (by simp); have e2 := hg.cell e2 (by simp); clear hg)
            | (go_at_call_of 51 (Value.int .i32 r); refine (CT.out r hrk.out _).mono ?_; rintro e wb ⟨rfl, hg⟩; have HG3 := Lib.hid (only_trans HG2.out hg); have e1 := hg.cell e1 (by simp); have e2 := hg.cell e2 (by simp); clear hg)
            | (go_at_call_of 51 (Value.int .i32 164); refine (HT.out _).mono ?_; rintro e wb ⟨rfl, hg⟩; have HG3 := Lib.hid (only_trans HG2.out hg); clear hg))
          go_roundg (ts.length - (k + 1))
          case measure => have := HK.out; omega
          case rel => exact ⟨k + 1, _, _, by simp, rfl, rfl, by show _ = _; omega, HE2, by first | exact HG3 | exact HG2⟩
        · have rb : (r == 39) = false := by simpa using hR
          have RZ := Lib.hid hR
          clear hR
          cases hsp : isSpec r with
          | false =>
            have SZ := Lib.hid hsp
            have CS2 : Hid (∀ w, Calls Try.prog 52 #[.int .i32 r] w fun e w' => e = .returned (.bool false) ∧ w.grownBy w' none) := fun w => by have := CS.out r w; rwa [hsp] at this
            clear hsp CS
            have CS := CS2
            cases q with
            | false =>
              have HE2 : Hid (writtenT false ts = (S ++ [r]) ++ writtenT false (ts.drop (k + 1))) := by
                rw [Hid, HE.out, hdr.out]
                simp only [writtenT]
                rw [if_neg (by simp [KZ.out]), if_neg RZ.out, SZ.out]; simp
              clear HE
              go_wp2_with (first
                | (go_at_call 52; refine (CS.out _).mono ?_; rintro e wa ⟨rfl, hg⟩; have HG2 := Lib.hid (only_trans HG.out hg); have e1 := hg.cell e1 (by simp); have e2 := hg.cell e2 (by simp); clear hg)
                | (go_at_call_of 51 (Value.int .i32 r); refine (CT.out r hrk.out _).mono ?_; rintro e wb ⟨rfl, hg⟩; have HG3 := Lib.hid (only_trans HG2.out hg); have e1 := hg.cell e1 (by simp); have e2 := hg.cell e2 (by simp); clear hg)
                | (go_at_call_of 51 (Value.int .i32 164); refine (HT.out _).mono ?_; rintro e wb ⟨rfl, hg⟩; have HG3 := Lib.hid (only_trans HG2.out hg); clear hg))
              go_roundg (ts.length - (k + 1))
              case measure => have := HK.out; omega
              case rel => exact ⟨k + 1, _, _, by simp, rfl, rfl, by show _ = _; omega, HE2, by first | exact HG3 | exact HG2⟩
            | true =>
              have HE2 : Hid (writtenT false ts = (S ++ [39, r]) ++ writtenT false (ts.drop (k + 1))) := by
                rw [Hid, HE.out, hdr.out]
                simp only [writtenT]
                rw [if_neg (by simp [KZ.out]), if_neg RZ.out, SZ.out]; simp
              clear HE
              go_wp2_with (first
                | (go_at_call 52; refine (CS.out _).mono ?_; rintro e wa ⟨rfl, hg⟩; have HG2 := Lib.hid (only_trans HG.out hg); have e1 := hg.cell e1 (by simp); have e2 := hg.cell e2 (by simp); clear hg)
                | (go_at_call_of 51 (Value.int .i32 r); refine (CT.out r hrk.out _).mono ?_; rintro e wb ⟨rfl, hg⟩; have HG3 := Lib.hid (only_trans HG2.out hg); have e1 := hg.cell e1 (by simp); have e2 := hg.cell e2 (by simp); clear hg)
                | (go_at_call_of 51 (Value.int .i32 164); refine (HT.out _).mono ?_; rintro e wb ⟨rfl, hg⟩; have HG3 := Lib.hid (only_trans HG2.out hg); clear hg))
              go_roundg (ts.length - (k + 1))
              case measure => have := HK.out; omega
              case rel => exact ⟨k + 1, _, _, by simp, rfl, rfl, by show _ = _; omega, HE2, by first | exact HG3 | exact HG2⟩
          | true =>
            have SZ := Lib.hid hsp
            have CS2 : Hid (∀ w, Calls Try.prog 52 #[.int .i32 r] w fun e w' => e = .returned (.bool true) ∧ w.grownBy w' none) := fun w => by have := CS.out r w; rwa [hsp] at this
            clear hsp CS
            have CS := CS2
            cases q with
            | false =>
              have HE2 : Hid (writtenT false ts = (S ++ [39, r]) ++ writtenT true (ts.drop (k + 1))) := by
                rw [Hid, HE.out, hdr.out]
                simp only [writtenT]
                rw [if_neg (by simp [KZ.out]), if_neg RZ.out, SZ.out]; simp
              clear HE
              go_wp2_with (first
                | (go_at_call 52; refine (CS.out _).mono ?_; rintro e wa ⟨rfl, hg⟩; have HG2 := Lib.hid (only_trans HG.out hg); have e1 := hg.cell e1 (by simp); have e2 := hg.cell e2 (by simp); clear hg)
                | (go_at_call_of 51 (Value.int .i32 r); refine (CT.out r hrk.out _).mono ?_; rintro e wb ⟨rfl, hg⟩; have HG3 := Lib.hid (only_trans HG2.out hg); have e1 := hg.cell e1 (by simp); have e2 := hg.cell e2 (by simp); clear hg)
                | (go_at_call_of 51 (Value.int .i32 164); refine (HT.out _).mono ?_; rintro e wb ⟨rfl, hg⟩; have HG3 := Lib.hid (only_trans HG2.out hg); clear hg))
              go_roundg (ts.length - (k + 1))
              case measure => have := HK.out; omega
              case rel => exact ⟨k + 1, _, _, by simp, rfl, rfl, by show _ = _; omega, HE2, by first | exact HG3 | exact HG2⟩
            | true =>
              have HE2 : Hid (writtenT false ts = (S ++ [r]) ++ writtenT true (ts.drop (k + 1))) := by
                rw [Hid, HE.out, hdr.out]
                simp only [writtenT]
                rw [if_neg (by simp [KZ.out]), if_neg RZ.out, SZ.out]; simp
              clear HE
              go_wp2_with (first
                | (go_at_call 52; refine (CS.out _).mono ?_; rintro e wa ⟨rfl, hg⟩; have HG2 := Lib.hid (only_trans HG.out hg); have e1 := hg.cell e1 (by simp); have e2 := hg.cell e2 (by simp); clear hg)
                | (go_at_call_of 51 (Value.int .i32 r); refine (CT.out r hrk.out _).mono ?_; rintro e wb ⟨rfl, hg⟩; have HG3 := Lib.hid (only_trans HG2.out hg); have e1 := hg.cell e1 (by simp); have e2 := hg.cell e2 (by simp); clear hg)
                | (go_at_call_of 51 (Value.int .i32 164); refine (HT.out _).mono ?_; rintro e wb ⟨rfl, hg⟩; have HG3 := Lib.hid (only_trans HG2.out hg); clear hg))
              go_roundg (ts.length - (k + 1))
              case measure => have := HK.out; omega
              case rel => exact ⟨k + 1, _, _, by simp, rfl, rfl, by show _ = _; omega, HE2, by first | exact HG3 | exact HG2⟩
      · have kb : (K == 0) = false := by simpa using hK
        have KZ := Lib.hid hK
        clear hK
        cases q with
        | false =>
          by_cases n1 : K = 1
          · have RO : Hid (runeOf K = [45]) := by rw [Hid, n1]; rfl
            have kb1 : (K == 1) = true := by simp [n1]
            clear n1
            have hS : S.length ≤ 2 * ts.length + 1 := HSL.out
            have ck := cat_any (S) [45] (by simp; omega)
            rw [s45] at ck
            clear hS
            have HE2 : Hid (writtenT false ts = (S ++ [45]) ++ writtenT false (ts.drop (k + 1))) := by
              rw [Hid, HE.out, hdr.out]
              simp only [writtenT]
              rw [if_pos KZ.out, RO.out]; simp
            clear HE
            go_wp2_with (first
              | (go_at_call 52; refine (CS.out r _).mono ?_; rintro e wa ⟨rfl, hg⟩; have HG2 := Lib.hid (only_trans HG.out hg); have e1 := hg.cell e1 (by simp); have e2 := hg.cell e2 (by simp); clear hg)
              | (go_at_call_of 51 (Value.int .i32 r); refine (CT.out r hrk.out _).mono ?_; rintro e wb ⟨rfl, hg⟩; have HG3 := Lib.hid (only_trans HG2.out hg); have e1 := hg.cell e1 (by simp); have e2 := hg.cell e2 (by simp); clear hg)
              | (go_at_call_of 51 (Value.int .i32 164); refine (HT.out _).mono ?_; rintro e wb ⟨rfl, hg⟩; have HG3 := Lib.hid (only_trans HG2.out hg); clear hg))
            go_roundg (ts.length - (k + 1))
            case measure => have := HK.out; omega
            case rel => exact ⟨k + 1, _, _, by simp, rfl, rfl, by show _ = _; omega, HE2, by first | exact HG3 | exact HG2⟩
          by_cases n2 : K = 2
          · have RO : Hid (runeOf K = [43]) := by rw [Hid, n2]; rfl
            have kb1 : (K == 1) = false := by simp [n2]
            have kb2 : (K == 2) = true := by simp [n2]
            clear n2
            have hS : S.length ≤ 2 * ts.length + 1 := HSL.out
            have ck := cat_any (S) [43] (by simp; omega)
            rw [s43] at ck
            clear hS
            have HE2 : Hid (writtenT false ts = (S ++ [43]) ++ writtenT false (ts.drop (k + 1))) := by
              rw [Hid, HE.out, hdr.out]
              simp only [writtenT]
              rw [if_pos KZ.out, RO.out]; simp
            clear HE
            go_wp2_with (first
              | (go_at_call 52; refine (CS.out r _).mono ?_; rintro e wa ⟨rfl, hg⟩; have HG2 := Lib.hid (only_trans HG.out hg); have e1 := hg.cell e1 (by simp); have e2 := hg.cell e2 (by simp); clear hg)
              | (go_at_call_of 51 (Value.int .i32 r); refine (CT.out r hrk.out _).mono ?_; rintro e wb ⟨rfl, hg⟩; have HG3 := Lib.hid (only_trans HG2.out hg); have e1 := hg.cell e1 (by simp); have e2 := hg.cell e2 (by simp); clear hg)
              | (go_at_call_of 51 (Value.int .i32 164); refine (HT.out _).mono ?_; rintro e wb ⟨rfl, hg⟩; have HG3 := Lib.hid (only_trans HG2.out hg); clear hg))
            go_roundg (ts.length - (k + 1))
            case measure => have := HK.out; omega
            case rel => exact ⟨k + 1, _, _, by simp, rfl, rfl, by show _ = _; omega, HE2, by first | exact HG3 | exact HG2⟩
          by_cases n3 : K = 3
          · have RO : Hid (runeOf K = [37]) := by rw [Hid, n3]; rfl
            have kb1 : (K == 1) = false := by simp [n3]
            have kb2 : (K == 2) = false := by simp [n3]
            have kb3 : (K == 3) = true := by simp [n3]
            clear n3
            have hS : S.length ≤ 2 * ts.length + 1 := HSL.out
            have ck := cat_any (S) [37] (by simp; omega)
            rw [s37] at ck
            clear hS
            have HE2 : Hid (writtenT false ts = (S ++ [37]) ++ writtenT false (ts.drop (k + 1))) := by
              rw [Hid, HE.out, hdr.out]
              simp only [writtenT]
              rw [if_pos KZ.out, RO.out]; simp
            clear HE
            go_wp2_with (first
              | (go_at_call 52; refine (CS.out r _).mono ?_; rintro e wa ⟨rfl, hg⟩; have HG2 := Lib.hid (only_trans HG.out hg); have e1 := hg.cell e1 (by simp); have e2 := hg.cell e2 (by simp); clear hg)
              | (go_at_call_of 51 (Value.int .i32 r); refine (CT.out r hrk.out _).mono ?_; rintro e wb ⟨rfl, hg⟩; have HG3 := Lib.hid (only_trans HG2.out hg); have e1 := hg.cell e1 (by simp); have e2 := hg.cell e2 (by simp); clear hg)
              | (go_at_call_of 51 (Value.int .i32 164); refine (HT.out _).mono ?_; rintro e wb ⟨rfl, hg⟩; have HG3 := Lib.hid (only_trans HG2.out hg); clear hg))
            go_roundg (ts.length - (k + 1))
            case measure => have := HK.out; omega
            case rel => exact ⟨k + 1, _, _, by simp, rfl, rfl, by show _ = _; omega, HE2, by first | exact HG3 | exact HG2⟩
          by_cases n4 : K = 4
          · have RO : Hid (runeOf K = [164]) := by rw [Hid, n4]; rfl
            have kb1 : (K == 1) = false := by simp [n4]
            have kb2 : (K == 2) = false := by simp [n4]
            have kb3 : (K == 3) = false := by simp [n4]
            have kb4 : (K == 4) = true := by simp [n4]
            clear n4
            have hS : S.length ≤ 2 * ts.length + 1 := HSL.out
            have ck := cat_any (S) [164] (by simp; omega)
            clear hS
            have HE2 : Hid (writtenT false ts = (S ++ [164]) ++ writtenT false (ts.drop (k + 1))) := by
              rw [Hid, HE.out, hdr.out]
              simp only [writtenT]
              rw [if_pos KZ.out, RO.out]; simp
            clear HE
            go_wp2_with (first
              | (go_at_call 52; refine (CS.out r _).mono ?_; rintro e wa ⟨rfl, hg⟩; have HG2 := Lib.hid (only_trans HG.out hg); have e1 := hg.cell e1 (by simp); have e2 := hg.cell e2 (by simp); clear hg)
              | (go_at_call_of 51 (Value.int .i32 r); refine (CT.out r hrk.out _).mono ?_; rintro e wb ⟨rfl, hg⟩; have HG3 := Lib.hid (only_trans HG2.out hg); have e1 := hg.cell e1 (by simp); have e2 := hg.cell e2 (by simp); clear hg)
              | (go_at_call_of 51 (Value.int .i32 164); refine (HT.out _).mono ?_; rintro e wb ⟨rfl, hg⟩; have HG3 := Lib.hid (only_trans HG2.out hg); clear hg))
            go_roundg (ts.length - (k + 1))
            case measure => have := HK.out; omega
            case rel => exact ⟨k + 1, _, _, by simp, rfl, rfl, by show _ = _; omega, HE2, by first | exact HG3 | exact HG2⟩
          have RO : Hid (runeOf K = []) := by rw [Hid, runeOf, if_neg n1, if_neg n2, if_neg n3, if_neg n4]
          have kb1 : (K == 1) = false := by simpa using n1
          have kb2 : (K == 2) = false := by simpa using n2
          have kb3 : (K == 3) = false := by simpa using n3
          have kb4 : (K == 4) = false := by simpa using n4
          clear n1 n2 n3 n4
          have HE2 : Hid (writtenT false ts = (S) ++ writtenT false (ts.drop (k + 1))) := by
            rw [Hid, HE.out, hdr.out]
            simp only [writtenT]
            rw [if_pos KZ.out, RO.out]; simp
          clear HE
          go_wp2_with (first
            | (go_at_call 52; refine (CS.out r _).mono ?_; rintro e wa ⟨rfl, hg⟩; have HG2 := Lib.hid (only_trans HG.out hg); have e1 := hg.cell e1 (by simp); have e2 := hg.cell e2 (by simp); clear hg)
            | (go_at_call_of 51 (Value.int .i32 r); refine (CT.out r hrk.out _).mono ?_; rintro e wb ⟨rfl, hg⟩; have HG3 := Lib.hid (only_trans HG2.out hg); have e1 := hg.cell e1 (by simp); have e2 := hg.cell e2 (by simp); clear hg)
            | (go_at_call_of 51 (Value.int .i32 164); refine (HT.out _).mono ?_; rintro e wb ⟨rfl, hg⟩; have HG3 := Lib.hid (only_trans HG2.out hg); clear hg))
          go_roundg (ts.length - (k + 1))
          case measure => have := HK.out; omega
          case rel => exact ⟨k + 1, _, _, by simp, rfl, rfl, by show _ = _; omega, HE2, by first | exact HG3 | exact HG2⟩
        | true =>
          by_cases n1 : K = 1
          · have RO : Hid (runeOf K = [45]) := by rw [Hid, n1]; rfl
            have kb1 : (K == 1) = true := by simp [n1]
            clear n1
            have hS : S.length ≤ 2 * ts.length + 1 := HSL.out
            have ck := cat_any (S ++ [39]) [45] (by simp; omega)
            rw [s45] at ck
            clear hS
            have HE2 : Hid (writtenT false ts = (S ++ [39, 45]) ++ writtenT false (ts.drop (k + 1))) := by
              rw [Hid, HE.out, hdr.out]
              simp only [writtenT]
              rw [if_pos KZ.out, RO.out]; simp
            clear HE
            go_wp2_with (first
              | (go_at_call 52; refine (CS.out r _).mono ?_; rintro e wa ⟨rfl, hg⟩; have HG2 := Lib.hid (only_trans HG.out hg); have e1 := hg.cell e1 (by simp); have e2 := hg.cell e2 (by simp); clear hg)
              | (go_at_call_of 51 (Value.int .i32 r); refine (CT.out r hrk.out _).mono ?_; rintro e wb ⟨rfl, hg⟩; have HG3 := Lib.hid (only_trans HG2.out hg); have e1 := hg.cell e1 (by simp); have e2 := hg.cell e2 (by simp); clear hg)
              | (go_at_call_of 51 (Value.int .i32 164); refine (HT.out _).mono ?_; rintro e wb ⟨rfl, hg⟩; have HG3 := Lib.hid (only_trans HG2.out hg); clear hg))
            go_roundg (ts.length - (k + 1))
            case measure => have := HK.out; omega
            case rel => exact ⟨k + 1, _, _, by simp, rfl, rfl, by show _ = _; omega, HE2, by first | exact HG3 | exact HG2⟩
          by_cases n2 : K = 2
          · have RO : Hid (runeOf K = [43]) := by rw [Hid, n2]; rfl
            have kb1 : (K == 1) = false := by simp [n2]
            have kb2 : (K == 2) = true := by simp [n2]
            clear n2
            have hS : S.length ≤ 2 * ts.length + 1 := HSL.out
            have ck := cat_any (S ++ [39]) [43] (by simp; omega)
            rw [s43] at ck
            clear hS
            have HE2 : Hid (writtenT false ts = (S ++ [39, 43]) ++ writtenT false (ts.drop (k + 1))) := by
              rw [Hid, HE.out, hdr.out]
              simp only [writtenT]
              rw [if_pos KZ.out, RO.out]; simp
            clear HE
            go_wp2_with (first
              | (go_at_call 52; refine (CS.out r _).mono ?_; rintro e wa ⟨rfl, hg⟩; have HG2 := Lib.hid (only_trans HG.out hg); have e1 := hg.cell e1 (by simp); have e2 := hg.cell e2 (by simp); clear hg)
              | (go_at_call_of 51 (Value.int .i32 r); refine (CT.out r hrk.out _).mono ?_; rintro e wb ⟨rfl, hg⟩; have HG3 := Lib.hid (only_trans HG2.out hg); have e1 := hg.cell e1 (by simp); have e2 := hg.cell e2 (by simp); clear hg)
              | (go_at_call_of 51 (Value.int .i32 164); refine (HT.out _).mono ?_; rintro e wb ⟨rfl, hg⟩; have HG3 := Lib.hid (only_trans HG2.out hg); clear hg))
            go_roundg (ts.length - (k + 1))
            case measure => have := HK.out; omega
            case rel => exact ⟨k + 1, _, _, by simp, rfl, rfl, by show _ = _; omega, HE2, by first | exact HG3 | exact HG2⟩
          by_cases n3 : K = 3
          · have RO : Hid (runeOf K = [37]) := by rw [Hid, n3]; rfl
            have kb1 : (K == 1) = false := by simp [n3]
            have kb2 : (K == 2) = false := by simp [n3]
            have kb3 : (K == 3) = true := by simp [n3]
            clear n3
            have hS : S.length ≤ 2 * ts.length + 1 := HSL.out
            have ck := cat_any (S ++ [39]) [37] (by simp; omega)
            rw [s37] at ck
            clear hS
            have HE2 : Hid (writtenT false ts = (S ++ [39, 37]) ++ writtenT false (ts.drop (k + 1))) := by
              rw [Hid, HE.out, hdr.out]
              simp only [writtenT]
              rw [if_pos KZ.out, RO.out]; simp
            clear HE
            go_wp2_with (first
              | (go_at_call 52; refine (CS.out r _).mono ?_; rintro e wa ⟨rfl, hg⟩; have HG2 := Lib.hid (only_trans HG.out hg); have e1 := hg.cell e1 (by simp); have e2 := hg.cell e2 (by simp); clear hg)
              | (go_at_call_of 51 (Value.int .i32 r); refine (CT.out r hrk.out _).mono ?_; rintro e wb ⟨rfl, hg⟩; have HG3 := Lib.hid (only_trans HG2.out hg); have e1 := hg.cell e1 (by simp); have e2 := hg.cell e2 (by simp); clear hg)
              | (go_at_call_of 51 (Value.int .i32 164); refine (HT.out _).mono ?_; rintro e wb ⟨rfl, hg⟩; have HG3 := Lib.hid (only_trans HG2.out hg); clear hg))
            go_roundg (ts.length - (k + 1))
            case measure => have := HK.out; omega
            case rel => exact ⟨k + 1, _, _, by simp, rfl, rfl, by show _ = _; omega, HE2, by first | exact HG3 | exact HG2⟩
          by_cases n4 : K = 4
          · have RO : Hid (runeOf K = [164]) := by rw [Hid, n4]; rfl
            have kb1 : (K == 1) = false := by simp [n4]
            have kb2 : (K == 2) = false := by simp [n4]
            have kb3 : (K == 3) = false := by simp [n4]
            have kb4 : (K == 4) = true := by simp [n4]
            clear n4
            have hS : S.length ≤ 2 * ts.length + 1 := HSL.out
            have ck := cat_any (S ++ [39]) [164] (by simp; omega)
            clear hS
            have HE2 : Hid (writtenT false ts = (S ++ [39, 164]) ++ writtenT false (ts.drop (k + 1))) := by
              rw [Hid, HE.out, hdr.out]
              simp only [writtenT]
              rw [if_pos KZ.out, RO.out]; simp
            clear HE
            go_wp2_with (first
              | (go_at_call 52; refine (CS.out r _).mono ?_; rintro e wa ⟨rfl, hg⟩; have HG2 := Lib.hid (only_trans HG.out hg); have e1 := hg.cell e1 (by simp); have e2 := hg.cell e2 (by simp); clear hg)
              | (go_at_call_of 51 (Value.int .i32 r); refine (CT.out r hrk.out _).mono ?_; rintro e wb ⟨rfl, hg⟩; have HG3 := Lib.hid (only_trans HG2.out hg); have e1 := hg.cell e1 (by simp); have e2 := hg.cell e2 (by simp); clear hg)
              | (go_at_call_of 51 (Value.int .i32 164); refine (HT.out _).mono ?_; rintro e wb ⟨rfl, hg⟩; have HG3 := Lib.hid (only_trans HG2.out hg); clear hg))
            go_roundg (ts.length - (k + 1))
            case measure => have := HK.out; omega
            case rel => exact ⟨k + 1, _, _, by simp, rfl, rfl, by show _ = _; omega, HE2, by first | exact HG3 | exact HG2⟩
          have RO : Hid (runeOf K = []) := by rw [Hid, runeOf, if_neg n1, if_neg n2, if_neg n3, if_neg n4]
          have kb1 : (K == 1) = false := by simpa using n1
          have kb2 : (K == 2) = false := by simpa using n2
          have kb3 : (K == 3) = false := by simpa using n3
          have kb4 : (K == 4) = false := by simpa using n4
          clear n1 n2 n3 n4
          have HE2 : Hid (writtenT false ts = (S ++ [39]) ++ writtenT false (ts.drop (k + 1))) := by
            rw [Hid, HE.out, hdr.out]
            simp only [writtenT]
            rw [if_pos KZ.out, RO.out]; simp
          clear HE
          go_wp2_with (first
            | (go_at_call 52; refine (CS.out r _).mono ?_; rintro e wa ⟨rfl, hg⟩; have HG2 := Lib.hid (only_trans HG.out hg); have e1 := hg.cell e1 (by simp); have e2 := hg.cell e2 (by simp); clear hg)
            | (go_at_call_of 51 (Value.int .i32 r); refine (CT.out r hrk.out _).mono ?_; rintro e wb ⟨rfl, hg⟩; have HG3 := Lib.hid (only_trans HG2.out hg); have e1 := hg.cell e1 (by simp); have e2 := hg.cell e2 (by simp); clear hg)
            | (go_at_call_of 51 (Value.int .i32 164); refine (HT.out _).mono ?_; rintro e wb ⟨rfl, hg⟩; have HG3 := Lib.hid (only_trans HG2.out hg); clear hg))
          go_roundg (ts.length - (k + 1))
          case measure => have := HK.out; omega
          case rel => exact ⟨k + 1, _, _, by simp, rfl, rfl, by show _ = _; omega, HE2, by first | exact HG3 | exact HG2⟩
    · have hkn : k = ts.length := by have := HK.out; omega
      have hk2 : ¬ ((k : Int) < (ts.length : Int)) := by omega
      have HF : Hid (writtenT false ts = S ++ writtenT q []) := by rw [Hid, HE.out, hkn, List.drop_length]
      have hS : S.length ≤ 2 * ts.length + 1 := HSL.out
      have cq := cat_any S [39] (by simp; omega)
      rw [s39] at cq
      clear hkn hS HE
      cases q with
      | false =>
        go_wp2_with fail
        go_ret
        exact ⟨by rw [HF.out]; simp [writtenT], HG.out⟩
      | true =>
        go_wp2_with fail
        go_ret
        exact ⟨by rw [HF.out]; simp [writtenT], HG.out⟩
end Go.Proofs.Ytdbcdgojbegakaa

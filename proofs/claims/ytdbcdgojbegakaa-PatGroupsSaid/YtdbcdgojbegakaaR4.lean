/-
The pattern reader's affix.
-/
import Derived.Test.YtdbcdgojbegakaaR3
import Derived.Test.YtdbcdgojbegakaaS2
namespace Go.Proofs.Ytdbcdgojbegakaa
open Go.RowKit

/-- The signs' map lies in block g. -/
def SM (w : World) (g : Nat) : Prop := w.heap[g]? = some (.map signEs 4)
theorem SM.lt {w : World} {g : Nat} (h : SM w g) : g < w.heap.size := (Array.getElem?_eq_some_iff.1 h).1
theorem SM.grown {w w' : World} {g : Nat} {row : Option Nat} (h : SM w g) (hg : w.grownBy w' row) (hn : some g ≠ row) : SM w' g := (hg.block g h.lt hn).trans h
theorem SM.ne_typ {w : World} {g b : Nat} {e : TypeId} (h : SM w g) (k : Typ w b e) : g ≠ b := by
  rintro rfl
  obtain ⟨cs, fz, k⟩ := k
  rw [h] at k
  injection k with k
  cases k
theorem SM.ne_own {w : World} {g : Nat} {B : Nat} {v : Value} {ts : List Tk} (h : SM w g) (k : OwnT w B v ts) : some g ≠ v.ownBlock := by
  rcases k.2 with ⟨rfl, _⟩ | ⟨b, cap, cur, rfl, _, hh, _⟩
  · simp [Value.ownBlock]
  · intro e
    have : b = g := by simpa [Value.ownBlock] using e.symm
    exact h.ne_typ ⟨cur, (0, 0), hh⟩ this.symm
theorem SM.alloc {w : World} {g : Nat} (h : SM w g) (o : Obj) : SM (w.alloc o) g := (Below.heap_alloc w o g h.lt).trans h
theorem SM.heap {w w' : World} {g : Nat} (h : SM w g) (e : w'.heap = w.heap) : SM w' g := by unfold SM; rw [e]; exact h
theorem SM.look {w : World} {g : Nat} (h : SM w g) (c : Int) (n : Nat) : (Instr.lookup 78 (.map (some g)) (.int .i32 c) true).run Try.prog (w.drewN n) = .ok (.tuple #[.int .i64 (signOf c), .bool (signOf c != 0)]) (w.drewN n) :=
  run_sign _ g c h

theorem map_app2 {ts q : List Tk} {o : Option (List Tk × List Int)} :
    (o.map fun p => ((q ++ p.1, p.2) : List Tk × List Int)).map (fun p => ((ts ++ p.1, p.2) : List Tk × List Int)) = o.map fun p => ((ts ++ q) ++ p.1, p.2) := by
  cases o <;> simp

section
variable {w : World} {rb : Nat} {A : Option Addr} {cap : Nat} {l : List Int} {s : RS}

/-- Behind an append of a piece: all that the round hands on. -/
theorem append_step {W1 w' : World} {B g k : Nat} {v : Value} {ts : List Tk} {o : Obj} (hgr : (W1.alloc o).grownBy w' v.ownBlock) (hB : B = w.heap.size)
    (hR : Rd W1 rb A cap l { s with at_ := k }) (hO : OwnT W1 B v ts) (hG : w.grownBy W1 (some rb)) (hM : SM W1 g) :
    Hid (Rd w' rb A cap l { s with at_ := k }) ∧ Hid (w.grownBy w' (some rb)) ∧ Hid (SM w' g) ∧ w'.cell? ⟨rb, 1, none⟩ = some (.int .i64 k) ∧ w'.frozen? ⟨rb, 1, none⟩ = false := by
  obtain ⟨h1, h2⟩ := step_tk hgr hR hO hG (by omega)
  exact ⟨h1, h2, (hM.alloc o).grown hgr ((hM.alloc o).ne_own (hO.alloc o)), h1.c1, h1.frozen 1⟩
theorem append_step2 {W1 w' : World} {B g k : Nat} {v : Value} {ts : List Tk} (hgr : W1.grownBy w' v.ownBlock) (hB : w.heap.size ≤ B)
    (hR : Rd W1 rb A cap l { s with at_ := k }) (hO : OwnT W1 B v ts) (hG : w.grownBy W1 (some rb)) (hM : SM W1 g) :
    Hid (Rd w' rb A cap l { s with at_ := k }) ∧ Hid (w.grownBy w' (some rb)) ∧ Hid (SM w' g) :=
  ⟨hR.grown hgr (hO.far (by decide)) (hO.far (by decide)), only_own hG hO hB hgr, hM.grown hgr (hM.ne_own hO)⟩
/-- The step over a rune: all that the round hands on. -/
theorem over_step {w' : World} {B g k : Nat} {v : Value} {ts : List Tk} (hR : Rd w' rb A cap l { s with at_ := k }) (hG : w.grownBy w' (some rb)) (hM : SM w' g) (hO : OwnT w' B v ts) (hk : k < l.length) :
    Hid (OwnT (w'.setCell ⟨rb, 1, none⟩ (.int .i64 ((k : Int) + 1))) B v ts) ∧ Hid (Rd (w'.setCell ⟨rb, 1, none⟩ (.int .i64 ((k : Int) + 1))) rb A cap l { s with at_ := k + 1 }) ∧
      Hid (w.grownBy (w'.setCell ⟨rb, 1, none⟩ (.int .i64 ((k : Int) + 1))) (some rb)) ∧ Hid (SM (w'.setCell ⟨rb, 1, none⟩ (.int .i64 ((k : Int) + 1))) g) :=
  have hs : w'.grownBy (w'.setCell ⟨rb, 1, none⟩ (.int .i64 ((k : Int) + 1))) (some rb) := only_setCell (p := ⟨rb, 1, none⟩) (only_refl w' _) (.inl rfl) _
  ⟨hO.set_ (hR.far (by decide)) 1 _, hR.set_ 1 _ rfl hk, only_trans hG hs, hM.grown hs (by intro e; exact hM.ne_typ hR.blk.typ (by injection e))⟩

set_option maxRecDepth 100000 in
set_option maxHeartbeats 1600000 in
theorem affix_any (h : Rd w rb A cap l s) :
    Calls Try.prog 81 #[.pointer (some ⟨rb, 0, none⟩)] w fun e w' =>
      QPost w.heap.size rb A cap l s (affixL (l.drop s.at_)) e w' ∧ w.grownBy w' (some rb) := by
  have HL := Lib.hid h.len
  have H := Lib.hid h
  clear h
  go_enter Try.func81, Try.ntmps81
  go_wp2_with (go_at_call 48; refine (signs_any _).mono ?_; rintro e w' ⟨rfl, rfl⟩)
  go_loopg [4] (121 - s.at_) (fun kq v4 wr => ∃ (k : Nat) (ts : List Tk), Hid (kq = 121 - k) ∧ Hid (ts.length ≤ k) ∧ Hid (OwnT wr w.heap.size v4 ts) ∧ Hid (Rd wr rb A cap l { s with at_ := k }) ∧ Hid (w.grownBy wr (some rb)) ∧
    Hid (SM wr w.heap.size) ∧ Hid (affixL (l.drop s.at_) = (affixL (l.drop k)).map fun p => (ts ++ p.1, p.2)))
  case atStart =>
    exact ⟨s.at_, [], rfl, Nat.zero_le _, OwnT.nil_ _ _, Lib.hid (H.out.alloc _), Lib.hid (only_alloc (only_refl w _) _), heap_alloc_new w _, by show _ = _; simp⟩
  case round =>
    obtain ⟨k, ts, HK, HT, HO, HR, HG, HM, HQ⟩ := hrel
    have hk1 := HR.out.le
    have hk2 := HR.out.len
    have h0 := HR.out.c0
    have h1 := HR.out.c1
    have hf := HR.out.frozen 1
    cases hl : l.drop k with
    | nil =>
      have hge : l.length ≤ k := List.drop_eq_nil_iff.1 hl
      have HE : Hid (affixL (l.drop s.at_) = some (ts, l.drop k)) := by rw [HQ.out, hl, affixL_nil]; simp [Hid]
      generalize hn : l.length = n at *
      have hge2 : decide (k < n) = false := by simpa using hge
      clear hn hl
      go_wp2
      go_quiet (fail)
      go_wp2
      go_ret
      refine ⟨?_, only_drewN HG.out _⟩
      rw [HE.out]
      exact ⟨_, k, rfl, HO.out.heap rfl, rfl, HR.out.drewN _⟩
    | cons c t =>
      obtain ⟨hlt, ad, rfl, hr⟩ := HR.out.rl.drop hl
      have hne2 : ¬ ad.block = rb := fun e => HR.out.ne _ rfl (by rw [e])
      have HS : Hid (Rd (wr.setCell ⟨rb, 1, none⟩ (.int .i64 ((k : Int) + 1))) rb (some ad) cap l { s with at_ := k + 1 }) := HR.out.set_ 1 _ rfl hlt
      have HGS : Hid (w.grownBy (wr.setCell ⟨rb, 1, none⟩ (.int .i64 ((k : Int) + 1))) (some rb)) := only_setCell (p := ⟨rb, 1, none⟩) HG.out (.inl rfl) _
      have HOS : Hid (OwnT (wr.setCell ⟨rb, 1, none⟩ (.int .i64 ((k : Int) + 1))) w.heap.size u4 ts) := HO.out.set_ (HR.out.far (by decide)) 1 _
      have hd2 := Lib.hid (drop_succ hl)
      have hlk := HM.out.look c
      generalize hn0 : l.length = n at *
      have hlt2 : decide (k < n) = true := by simpa using hlt
      by_cases hs : signOf c = 0
      · have hsb : (signOf c != 0) = false := by simpa using hs
        by_cases hc : c = 39
        · subst hc
          have hcb : ((39 : Int) == 39) = true := rfl
          by_cases hh : t.head? = some 39
          · obtain ⟨u, rfl⟩ : ∃ u, t = 39 :: u := by
              cases t with
              | nil => cases hh
              | cons d u => simp at hh; exact ⟨u, by rw [hh]⟩
            have HQ2 : Hid (affixL (l.drop s.at_) = (affixL (l.drop (k + 1 + 1))).map fun p => ((ts ++ [⟨0, 39⟩]) ++ p.1, p.2)) := by
              rw [HQ.out, hl, affixL_two, map_app, drop_succ hd2.out]; rfl
            have hk3 : k + 1 < 120 := Nat.lt_of_lt_of_le (HR.out.rl.drop hd2.out).1 HR.out.len
            generalize signOf 39 = sg at *
            clear hl hn0 hh hs
            go_wp2
            go_quiet (fail)
            go_wp2
            go_quiet (fail)
            go_wp2_with (first
              | (go_at_call 92; go_must (refine (quoted_two (s := { s with at_ := k + 1 }) (by exact HS.out.heap rfl) _ (t := u) (by exact hd2.out)).mono ?_; rintro e w' ⟨⟨v2, rfl, ho2, hr2⟩, hg2⟩; have HO2 := Lib.hid ho2; have HR2 := Lib.hid hr2; have HG2 := Lib.hid hg2; clear ho2 hr2 hg2))
              | (at_builtin; go_must (refine wpList_append_tks _ rfl (.tmp 57) (.tmp 64) rfl w.heap.size _ u4 v2 ts [⟨0, 39⟩] rfl (by exact HOS.out.grown (only_from HG2.out rfl rfl rfl rfl) (HS.out.far (by decide))) rfl HO2.out (by have := HT.out; simp; omega) (by have := HG2.out.size; rw [size_setCell] at this; exact Nat.le_trans HG.out.size this) ?_); intro v' w' hown hgr))
            obtain ⟨p2, p3, p4⟩ := append_step2 hgr (Nat.le_refl w.heap.size) HR2.out (HOS.out.grown (only_from HG2.out rfl rfl rfl rfl) (HS.out.far (by decide))) (only_trans HGS.out (only_from HG2.out rfl rfl rfl rfl))
              ((HM.out.grown (only_setCell (p := ⟨rb, 1, none⟩) (only_refl wr _) (.inl rfl) _) (by intro e; exact HM.out.ne_typ HR.out.blk.typ (by injection e))).grown (only_from HG2.out rfl rfl rfl rfl) (by intro e; exact HM.out.ne_typ HR.out.blk.typ (by injection e)))
            go_roundg (119 - k)
            case measure => have := HK.out; omega
            case rel => exact ⟨k + 1 + 1, ts ++ [⟨0, 39⟩], by show _ = _; omega, by have := HT.out; show _ ≤ _; simp; omega, Lib.hid hown, p2, p3, p4, HQ2⟩
          · have C := fun (W : World) (hW : Rd W rb (some ad) cap l { s with at_ := k + 1 }) (fr : Int) => Lib.hid (quoted_any hW fr (by rw [show List.drop (RS.at_ { s with at_ := k + 1 }) l = t from hd2.out]; exact hh))
            cases hq : quotedL t with
            | none =>
              have HE : Hid (affixL (l.drop s.at_) = none) := by rw [HQ.out, hl, affixL_quote hh, hq]; rfl
              have HQL := Lib.hid hq
              generalize signOf 39 = sg at *
              clear hl hn0 hh hs hq
              go_wp2
              go_quiet (fail)
              go_wp2
              go_quiet (fail)
              go_wp2_with (go_at_call 92; go_must (refine ((C _ (by exact HS.out.heap rfl) _).out).mono ?_; rintro e w' ⟨hq2, hg2⟩; rw [show List.drop (RS.at_ { s with at_ := k + 1 }) l = t from hd2.out, HQL.out] at hq2; obtain ⟨x, rfl⟩ := hq2; have HG2 := Lib.hid hg2; clear hg2))
              exact ⟨rfl, by rw [HE.out]; exact ⟨_, rfl⟩, only_trans HGS.out (only_from HG2.out rfl rfl rfl rfl)⟩
            | some q =>
              have HQ2 : Hid (∀ k', l.drop k' = q.2 → affixL (l.drop s.at_) = (affixL (l.drop k')).map fun p => ((ts ++ q.1) ++ p.1, p.2)) := by
                intro k' hk'
                rw [HQ.out, hl, affixL_quote hh, hq, hk']
                exact map_app2
              have HLE : Hid (q.1.length + q.2.length ≤ t.length) := quotedL_sum _ t (Nat.le_refl _) q hq
              have HQL := Lib.hid hq
              generalize signOf 39 = sg at *
              have HT1 : Hid (t.length + (k + 1) = n) := by
                have := congrArg List.length hd2.out
                simp at this
                show _ = _
                omega
              have HN := Lib.hid hn0
              clear hl hn0 hh hs hq
              go_wp2
              go_quiet (fail)
              go_wp2
              go_quiet (fail)
              go_wp2_with (first
                | (go_at_call 92; go_must (refine ((C _ (by exact HS.out.heap rfl) _).out).mono ?_; rintro e w' ⟨hq2, hg2⟩; rw [show List.drop (RS.at_ { s with at_ := k + 1 }) l = t from hd2.out, HQL.out] at hq2; obtain ⟨v2, k2, rfl, ho2, hk3, hr2⟩ := hq2; have HG2 := Lib.hid hg2; have HO2 := Lib.hid ho2; have HK3 := Lib.hid hk3; have HR2 := Lib.hid hr2; clear hg2 ho2 hk3 hr2))
                | (at_builtin; go_must (refine wpList_append_tks _ rfl (.tmp 57) (.tmp 64) rfl w.heap.size _ u4 v2 ts q.1 rfl (by exact HOS.out.grown (only_from HG2.out rfl rfl rfl rfl) (HS.out.far (by decide))) rfl HO2.out (by have := HT.out; have := HLE.out; have := HT1.out; omega) (by have := HG2.out.size; rw [size_setCell] at this; exact Nat.le_trans HG.out.size this) ?_); intro v' w' hown hgr))
              obtain ⟨p2, p3, p4⟩ := append_step2 hgr (Nat.le_refl w.heap.size) HR2.out (HOS.out.grown (only_from HG2.out rfl rfl rfl rfl) (HS.out.far (by decide))) (only_trans HGS.out (only_from HG2.out rfl rfl rfl rfl))
                ((HM.out.grown (only_setCell (p := ⟨rb, 1, none⟩) (only_refl wr _) (.inl rfl) _) (by intro e; exact HM.out.ne_typ HR.out.blk.typ (by injection e))).grown (only_from HG2.out rfl rfl rfl rfl) (by intro e; exact HM.out.ne_typ HR.out.blk.typ (by injection e)))
              have hk4 : k2 + q.2.length = l.length := by
                have h5 := congrArg List.length HK3.out
                have h6 := HR2.out.le
                simp at h5 h6
                omega
              have hk5 : k < k2 ∧ q.1.length + k ≤ k2 := by
                have := HLE.out; have := HT1.out; have := HN.out
                omega
              go_roundg (121 - k2)
              case measure => have := HK.out; have h6 : k2 ≤ l.length := HR2.out.le; have := HR2.out.len; omega
              case rel => exact ⟨k2, ts ++ q.1, rfl, by have := HT.out; show _ ≤ _; simp; omega, Lib.hid hown, p2, p3, p4, HQ2.out k2 HK3.out⟩
        · have hcb : (c == 39) = false := by simpa using hc
          by_cases hp : isSpec c = true
          · have HE : Hid (affixL (l.drop s.at_) = some (ts, l.drop k)) := by rw [HQ.out, hl, affixL_spec t hs hc hp]; simp [Hid]
            have C := fun W => Lib.hid (isSpecial_any W c)
            rw [hp] at C
            generalize signOf c = sg at *
            clear hl hs hn0 hc hp
            go_wp2
            go_quiet (fail)
            go_wp2
            go_quiet (fail)
            go_wp2_with (go_at_call 50; go_must (refine (C _).out.mono ?_; rintro e w' ⟨rfl, hg2⟩; have HG2 := Lib.hid hg2; clear hg2))
            go_ret
            refine ⟨?_, only_trans HG.out (only_of_none (only_from (a' := wr) HG2.out rfl rfl rfl rfl) _)⟩
            rw [HE.out]
            exact ⟨_, k, rfl, HO.out.grown (only_from HG2.out rfl rfl rfl rfl) (Far.none_ _ _), rfl, HR.out.grown (only_from HG2.out rfl rfl rfl rfl) (Far.none_ _ _) (Far.none_ _ _)⟩
          · have hp2 : isSpec c = false := by simpa using hp
            have HQ2 : Hid (affixL (l.drop s.at_) = (affixL (l.drop (k + 1))).map fun p => ((ts ++ [⟨0, c⟩]) ++ p.1, p.2)) := by
              rw [HQ.out, hl, affixL_plain t hs hc hp2, map_app, hd2.out]; rfl
            have C := fun W => Lib.hid (isSpecial_any W c)
            rw [hp2] at C
            generalize signOf c = sg at *
            have HN := Lib.hid hn0
            clear hl hs hn0 hc hp hp2
            go_wp2
            go_quiet (fail)
            go_wp2
            go_quiet (fail)
            go_wp2_with (first
              | (go_at_call 50; go_must (refine (C _).out.mono ?_; rintro e w' ⟨rfl, hg2⟩; have HG2 := Lib.hid hg2; clear hg2))
              | (at_builtin; go_must (refine wpList_append_tk _ rfl (.tmp 35) (.tmp 38) rfl w.heap.size u4 ts 0 c rfl (by exact HO.out.grown (only_from HG2.out rfl rfl rfl rfl) (Far.none_ _ _)) _ rfl rfl (by have := HT.out; omega) (by exact Nat.le_trans HG.out.size HG2.out.size) ?_); intro v2 w2 hown hgr; obtain ⟨HR3, HG3, HM3, e1, e2⟩ := append_step (k := k) hgr rfl (HR.out.grown (only_from HG2.out rfl rfl rfl rfl) (Far.none_ _ _) (Far.none_ _ _)) (HO.out.grown (only_from HG2.out rfl rfl rfl rfl) (Far.none_ _ _)) (only_trans HG.out (only_of_none (only_from (a' := wr) HG2.out rfl rfl rfl rfl) _)) (HM.out.grown (only_from HG2.out rfl rfl rfl rfl) (by simp)); have HO3 := Lib.hid hown; clear hgr hown))
            obtain ⟨o1, o2, o3, o4⟩ := over_step HR3.out HG3.out HM3.out HO3.out (HN.out ▸ hlt)
            go_roundg (120 - k)
            case measure => have := HK.out; omega
            case rel => exact ⟨k + 1, ts ++ [⟨0, c⟩], by show _ = _; omega, by have := HT.out; show _ ≤ _; simp; omega, o1, o2, o3, o4, HQ2⟩
      · have hsb : (signOf c != 0) = true := by simpa using hs
        have HQ2 : Hid (affixL (l.drop s.at_) = (affixL (l.drop (k + 1))).map fun p => ((ts ++ [⟨signOf c, 0⟩]) ++ p.1, p.2)) := by
          rw [HQ.out, hl, affixL_sign _ hs, map_app, hd2.out]; rfl
        generalize signOf c = sg at *
        have HN := Lib.hid hn0
        clear hl hs hn0
        go_wp2
        go_quiet (fail)
        go_wp2
        go_quiet (fail)
        go_wp2_with (at_builtin; go_must (refine wpList_append_tk _ rfl (.tmp 42) (.tmp 45) rfl w.heap.size u4 ts sg 0 rfl (by exact HO.out.heap rfl) _ rfl rfl (by have := HT.out; omega) (by exact HG.out.size) ?_); intro v' w' hown hgr; obtain ⟨HR3, HG3, HM3, e1, e2⟩ := append_step (k := k) hgr rfl (HR.out.heap rfl) (HO.out.heap rfl) (only_same HG.out rfl rfl rfl rfl) (HM.out.heap rfl); have HO3 := Lib.hid hown; clear hgr hown)
        obtain ⟨o1, o2, o3, o4⟩ := over_step HR3.out HG3.out HM3.out HO3.out (HN.out ▸ hlt)
        go_roundg (120 - k)
        case measure => have := HK.out; omega
        case rel => exact ⟨k + 1, ts ++ [⟨sg, 0⟩], by show _ = _; omega, by have := HT.out; show _ ≤ _; simp; omega, o1, o2, o3, o4, HQ2⟩
end
end Go.Proofs.Ytdbcdgojbegakaa

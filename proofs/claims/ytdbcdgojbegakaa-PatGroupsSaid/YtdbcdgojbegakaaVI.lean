/-
The reference's Parse.
-/
import Derived.Test.YtdbcdgojbegakaaVH
namespace Go.Proofs.Ytdbcdgojbegakaa
open Go.RowKit
set_option linter.unusedSimpArgs false
set_option linter.unusedVariables false

theorem suf_le {l r : List Int} (h : ∃ j, l.drop j = r) : r.length ≤ l.length := by
  obtain ⟨j, rfl⟩ := h
  rw [List.length_drop]; omega
theorem fst_le {l : List Int} {x : Fst} (h : fstL l = some x) : x.fr ≤ x.to_ ∧ x.to_ ≤ l.length ∧ x.at_ ≤ l.length := by
  unfold fstL at h
  obtain ⟨a, h1, h⟩ := Option.bind_eq_some_iff.1 h
  obtain ⟨b, h2, h⟩ := Option.bind_eq_some_iff.1 h
  obtain ⟨c, h3, h⟩ := Option.bind_eq_some_iff.1 h
  obtain ⟨d, h4, h⟩ := Option.bind_eq_some_iff.1 h
  obtain ⟨e, h5, h⟩ := Option.bind_eq_some_iff.1 h
  obtain ⟨f, h6, h⟩ := Option.bind_eq_some_iff.1 h
  obtain ⟨g, h7, h⟩ := Option.bind_eq_some_iff.1 h
  injection h with h
  subst h
  have := suf_le (numberL_suf h4)
  refine ⟨?_, ?_, ?_⟩
  · show l.length - c.2.length ≤ l.length - d.2.length; omega
  · show l.length - d.2.length ≤ l.length; omega
  · show l.length - g.2.length ≤ l.length; omega
theorem snd_le {l nr : List Int} {i : Nat} {y : List Tk × List Tk × Nat} (h : sndL l nr i = some y) : y.2.2 ≤ l.length := by
  unfold sndL at h
  obtain ⟨a, h1, h⟩ := Option.bind_eq_some_iff.1 h
  obtain ⟨b, h2, h⟩ := Option.bind_eq_some_iff.1 h
  obtain ⟨c, h3, h⟩ := Option.map_eq_some_iff.1 h
  subst h
  show l.length - c.2.length ≤ l.length
  omega
theorem snd_whole (l : List Int) (pre suf : List Tk) (nm : Nm) (nr : List Int) (pd : Int × Int) (i : Nat) :
    whole7 pre suf nm nr (pd, 59 :: l.drop i) = (sndL l nr i).bind fun y => if y.2.2 = l.length then some ⟨pre, suf, y.1, y.2.1, true, nm, pd.1, pd.2⟩ else none := by
  unfold whole7 sndL
  simp only [if_true]
  cases h1 : affixL (l.drop i) with
  | none => rfl
  | some a =>
    simp only [Option.bind_some, whole8, snd1]
    cases h2 : againL nr a.2 with
    | none => rfl
    | some u =>
      simp only [Option.bind_some, whole9, snd2]
      cases h3 : affixL u with
      | none => rfl
      | some b =>
        simp only [Option.bind_some, Option.map_some]
        have hb : b.2.length ≤ l.length := suf_le (suf_trans (suf_trans (suf_trans ⟨i, rfl⟩ (affixL_suf h1)) (again_suf _ _ _ h2)) (affixL_suf h3))
        by_cases hz : b.2 = []
        · rw [if_pos hz, if_pos (by rw [hz]; rfl)]
        · have : 0 < b.2.length := List.length_pos_iff.2 hz
          rw [if_neg hz, if_neg (by omega)]

theorem decode_str_ref (w : World) (rs : List Int) (hr : ∀ r ∈ rs, isRune r = true) (hl : rs.length ≤ 8192) (cap : Nat) (hcap : (strOf rs).size ≤ cap) (fz : Nat × Nat) :
    Calls Try.prog 37 #[.slice (some ⟨w.heap.size + 1, 0, none⟩) (strOf rs).size cap] ((w.alloc (.cells zCells 24)).alloc (.cells (bytesRow (strOf rs) cap) 5 fz)).drew fun e w' =>
      (∃ A c, e = .returned (.tuple #[.slice A rs.length c, .int .i64 0, .int .i64 0]) ∧ Hid (RL w' A rs) ∧ Hid (rs.length ≤ c)) ∧ w.grownBy w' none ∧ Blk w' w.heap.size 24 zCells := by
  rw [strOf_size] at hcap ⊢
  have h1 := heap_alloc_new (w.alloc (.cells zCells 24)) (.cells (bytesRow (strOf rs) cap) 5 fz)
  rw [show (w.alloc (.cells zCells 24)).heap.size = w.heap.size + 1 by simp] at h1
  have g1 : w.grownBy ((w.alloc (.cells zCells 24)).alloc (.cells (bytesRow (strOf rs) cap) 5 fz)).drew none := only_drew (only_alloc (only_alloc (only_refl _ _) _) _)
  refine (decode_ref ((w.alloc (.cells zCells 24)).alloc (.cells (bytesRow (strOf rs) cap) 5 fz)).drew (some ⟨w.heap.size + 1, 0, none⟩) cap rs (bytes_BL _ rs cap _ fz h1) hcap hr (by have := encL_le rs hr; omega)).mono ?_
  rintro e w' ⟨⟨A', c', rfl, h2, h3⟩, hg⟩
  exact ⟨⟨A', c', rfl, h2, h3⟩, only_trans g1 hg, Blk.grown (w := ((w.alloc (.cells zCells 24)).alloc (.cells (bytesRow (strOf rs) cap) 5 fz)).drew) ((Blk.new w 24 zCells).alloc _) hg (by simp)⟩

/-- What stands when the first half is read. -/
def MidB (rs : List Int) (W : World) (v1 v2 : Value) (p : Pt) (a b c : Int) (ok : Bool) : Prop :=
  match fstL rs with
  | none => ok = false
  | some x => ok = true ∧ p = { zPt with nm := x.nm, pad := x.pd.1, padAt := x.pd.2 } ∧ a = (x.fr : Int) ∧ b = (x.to_ : Int) ∧ c = (x.at_ : Int) ∧ TT W v1 x.pre ∧ TT W v2 x.suf
theorem MidB.grown {rs : List Int} {W W' : World} {v1 v2 : Value} {p : Pt} {a b c : Int} {ok : Bool} (h : MidB rs W v1 v2 p a b c ok) (hg : W.grownBy W' none) : MidB rs W' v1 v2 p a b c ok := by
  unfold MidB at h ⊢
  cases hf : fstL rs with
  | none => rw [hf] at h; exact h
  | some x =>
    rw [hf] at h
    obtain ⟨m1, m2, m3, m4, m5, t1, t2⟩ := h
    exact ⟨m1, m2, m3, m4, m5, t1.grown hg, t2.grown hg⟩
/-- Does a negative follow? -/
def tstL (rs : List Int) : Bool := match fstL rs with | none => false | some x => atL (rs.drop x.at_) == 59
/-- What stands when all is read. -/
def EndB (rs : List Int) (W : World) (v1 v2 v3 v4 : Value) (p : Pt) (a : Int) (ok : Bool) : Prop :=
  (ok = false ∧ wholeL rs = none) ∨ (ok = true ∧ ∃ k : Nat, a = (k : Int) ∧ k ≤ rs.length ∧ (k < rs.length → wholeL rs = none) ∧ (rs.length ≤ k → wholeL rs = some p ∧ TT W v1 p.pre ∧ TT W v2 p.suf ∧ TT W v3 p.npre ∧ TT W v4 p.nsuf))

set_option maxRecDepth 100000 in
set_option maxHeartbeats 16000000 in
theorem parse_ref (w : World) (rs : List Int) (hr : ∀ r ∈ rs, isRune r = true) (hl : rs.length ≤ 8192) :
    Calls Try.prog 22 #[.string (strOf rs)] w fun e w' => ParseV (parseL rs) e w' ∧ w.grownBy w' none := by
  have hcv2 := fun w s => run_bytes_of_string (P := Try.prog) w 9 46 5 s Try.underlying9 Try.underlying46 Try.underlying5
  have HD := Lib.hid (decode_str_ref w rs hr hl)
  have HGE := Lib.hid (grownCap_ge)
  have HNN : Hid (∀ c ∈ rs, 0 ≤ c) := fun c hc => by
    have := hr c hc
    simp only [isRune, Bool.and_eq_true, Bool.or_eq_true, decide_eq_true_eq] at this
    omega
  clear hr hl
  go_enter Try.func22, Try.ntmps22
  go_wp2_with fail
  generalize hcap : grownCap _ (strOf rs).size 0 5 = cap
  have hc2 : (strOf rs).size ≤ cap := by rw [← hcap]; exact HGE.out _ _ _ _
  refine (HD.out cap hc2 _).mono ?_
  rintro e w2 ⟨⟨A5, cap5, rfl, HR5, HC5⟩, hg, hb⟩
  have HG := Lib.hid hg
  have HB := Lib.hid hb
  clear hg hb hcap hc2 HGE HD
  by_cases hl : 120 < rs.length
  · have HP : Hid (parseL rs = none) := by simp [Hid, parseL, hl]
    have hl2 : decide ((120 : Int) < (rs.length : Int)) = true := by simp; omega
    go_wp2_with (refine wpList_store_row rfl 24 _ _ rfl w.heap.size zCells rfl rfl 24 zCells HB.out (by exact info24) (by rfl) (by simp [zCells, ptCells, Value.oneCell']) ?_)
    refine bodyPost_ret (ret24 rfl _ _ w.heap.size zCells rfl (HB.out.row _) rfl) rfl ?_
    refine ⟨?_, only_row HG.out (.inr (Nat.le_refl _)) _⟩
    rw [HP.out]
    exact ⟨_, _, _, rfl, by decide, zPat _⟩
  · have hl2 : decide ((120 : Int) < (rs.length : Int)) = false := by simp; omega
    have CF : Hid (Calls Try.prog 38 #[.slice A5 rs.length cap5] w2 fun e w' => FstV (fstL rs) e w' ∧ w2.grownBy w' none) := first_ref w2 A5 cap5 rs HR5.out HC5.out (by omega)
    have HLN : Hid (rs.length ≤ 120) := by show _ ≤ _; omega
    clear hl
    go_upto_region 6 with fail
    go_cut [8, 9, 10, 11, 12] (fun v8 v9 v10 v11 v12 wx => ∃ (g : Nat) (A1 : Option Addr) (n1 c1 : Nat) (A2 : Option Addr) (n2 c2 : Nat) (p : Pt) (a b c : Int) (ok : Bool), v8 = .pointer (some ⟨g, 0, none⟩) ∧ v9 = .int .i64 a ∧ v10 = .int .i64 b ∧ v11 = .int .i64 c ∧ v12 = .bool ok ∧ Hid (FS w wx g (ptCells (.slice A1 n1 c1) (.slice A2 n2 c2) (.slice none 0 0) (.slice none 0 0) p)) ∧ Hid (w2.grownBy wx none) ∧ Hid (MidB rs wx (.slice A1 n1 c1) (.slice A2 n2 c2) p a b c ok))
    case first =>
      have C2 : Hid (Calls Try.prog 38 #[.slice A5 rs.length cap5] w2 fun e w' => (∃ (A1 : Option Addr) (n1 c1 : Nat) (A2 : Option Addr) (n2 c2 : Nat) (p : Pt) (a b c : Int) (ok : Bool), e = .returned (.tuple #[.agg (ptCells (.slice A1 n1 c1) (.slice A2 n2 c2) (.slice none 0 0) (.slice none 0 0) p), .int .i64 a, .int .i64 b, .int .i64 c, .bool ok]) ∧ MidB rs w' (.slice A1 n1 c1) (.slice A2 n2 c2) p a b c ok) ∧ w2.grownBy w' none) := by
        refine CF.out.mono ?_
        rintro e w' ⟨h, hg⟩
        refine ⟨?_, hg⟩
        unfold MidB
        cases hf : fstL rs with
        | none =>
          rw [hf] at h
          obtain ⟨A1, n1, c1, A2, n2, c2, p, a, b, c, rfl⟩ := h
          exact ⟨A1, n1, c1, A2, n2, c2, p, a, b, c, false, rfl, rfl⟩
        | some x =>
          rw [hf] at h
          obtain ⟨v1, v2, rfl, t1, t2⟩ := h
          obtain ⟨A1, c1, rfl⟩ := t1.form
          obtain ⟨A2, c2, rfl⟩ := t2.form
          exact ⟨A1, _, c1, A2, _, c2, _, _, _, _, true, rfl, rfl, rfl, rfl, rfl, rfl, t1, t2⟩
      clear CF
      go_wp2_with (first
        | (go_at_call 38; refine C2.out.mono ?_; rintro e w3 ⟨⟨A1, n1, c1, A2, n2, c2, p, a, b, c, ok, rfl, hm⟩, hg⟩; have HM := Lib.hid hm; have G3 := Lib.hid hg; have B3 := Lib.hid (HB.out.grown hg (by simp)); have HW := Lib.hid (Blk.new w3 24 zCells); clear hm hg)
        | (refine wpList_store_row rfl 24 _ _ rfl w3.heap.size _ rfl rfl 24 zCells HW.out (by exact info24) (by rfl) (by simp [ptCells, zCells, Value.oneCell']) ?_))
      go_meet
      refine ⟨w3.heap.size, A1, n1, c1, A2, n2, c2, p, a, b, c, ok, rfl, rfl, rfl, rfl, rfl, FS.first B3.out (only_trans HG.out G3.out) _, only_trans G3.out (gr3 _ _), ?_⟩
      exact HM.out.grown (gr3 _ _)
    case rest =>
      obtain ⟨g8, A1, n1, c1, A2, n2, c2, p, a, b, c, ok, rfl, rfl, rfl, rfl, rfl, HF, HG2, HM⟩ := hcut
      clear CF HB HG
      go_upto_region 7 with fail
      go_cut [45] (fun v45 wx => ∃ bb : Bool, v45 = .bool bb ∧ Hid (bb = tstL rs) ∧ Hid (FS w wx g8 (ptCells (.slice A1 n1 c1) (.slice A2 n2 c2) (.slice none 0 0) (.slice none 0 0) p)) ∧ Hid (w2.grownBy wx none) ∧ Hid (MidB rs wx (.slice A1 n1 c1) (.slice A2 n2 c2) p a b c ok))
      case first =>
        cases hf : fstL rs with
        | none =>
          have hm := HM.out
          rw [MidB, hf] at hm
          subst hm
          have HT : Hid (false = tstL rs) := by rw [Hid, tstL, hf]
          clear hf
          go_wp2_with fail
          go_meet
          exact ⟨false, rfl, HT, HF, HG2, HM⟩
        | some x =>
          have hm := HM.out
          rw [MidB, hf] at hm
          have hok := hm.1
          have hc := hm.2.2.2.2.1
          subst hok hc
          have HT : Hid ((atL (rs.drop x.at_) == 59) = tstL rs) := by rw [Hid, tstL, hf]
          have CK : Hid (∀ W, w2.grownBy W none → Calls Try.prog 39 #[.slice A5 rs.length cap5, .int .i64 (x.at_ : Int)] W fun e w' => e = .returned (.int .i32 (atL (rs.drop x.at_))) ∧ W.grownBy w' none) := fun W hW => at_ref W A5 cap5 rs (HR5.out.grown hW (by simp)) HC5.out (by have := HLN.out; omega) x.at_
          clear hf hm
          go_wp2_with (first
            | (go_at_call 39; refine (CK.out _ (by exact HG2.out)).mono ?_; rintro e w4 ⟨rfl, hg⟩; have HF4 := Lib.hid (HF.out.grown hg); have HG4 := Lib.hid (only_trans HG2.out hg); have HM4 := Lib.hid (HM.out.grown hg); clear hg))
          go_meet
          exact ⟨_, rfl, HT, HF4, HG4, HM4⟩
      case rest =>
       obtain ⟨bb, rfl, HT, HF, HG2, HM⟩ := hcut
       go_upto_if 45 with fail
       go_cut [8, 11, 12] (fun v8 v11 v12 wx => ∃ (B1 : Option Addr) (m1 d1 : Nat) (B2 : Option Addr) (m2 d2 : Nat) (B3 : Option Addr) (m3 d3 : Nat) (B4 : Option Addr) (m4 d4 : Nat) (q : Pt) (a : Int) (ok : Bool), v8 = .pointer (some ⟨g8, 0, none⟩) ∧ v11 = .int .i64 a ∧ v12 = .bool ok ∧ Hid (FS w wx g8 (ptCells (.slice B1 m1 d1) (.slice B2 m2 d2) (.slice B3 m3 d3) (.slice B4 m4 d4) q)) ∧ Hid (EndB rs wx (.slice B1 m1 d1) (.slice B2 m2 d2) (.slice B3 m3 d3) (.slice B4 m4 d4) q a ok))
       case first =>
         cases hf : fstL rs with
         | none =>
           have hm := HM.out
           rw [MidB, hf] at hm
           subst hm
           have hb : bb = false := by rw [HT.out, tstL, hf]
           subst hb
           have HE : Hid (wholeL rs = none) := by rw [Hid, whole_fst, hf]; rfl
           clear hf HM
           go_wp2_with fail
           go_meet
           exact ⟨_, _, _, _, _, _, none, 0, 0, none, 0, 0, p, _, _, rfl, rfl, rfl, HF, .inl ⟨rfl, HE.out⟩⟩
         | some x =>
           have hm := HM.out
           rw [MidB, hf] at hm
           obtain ⟨rfl, rfl, rfl, rfl, rfl, t1, t2⟩ := hm
           have T1 := Lib.hid t1
           have T2 := Lib.hid t2
           obtain ⟨l1, l2, l3⟩ := fst_le hf
           have HQ : Hid (wholeL rs = whole7 x.pre x.suf x.nm ((rs.drop x.fr).take (x.to_ - x.fr)) (x.pd, rs.drop x.at_)) := by rw [Hid, whole_fst, hf]; rfl
           have hbb : bb = (atL (rs.drop x.at_) == 59) := by rw [HT.out, tstL, hf]
           clear hf HM t1 t2 HT
           by_cases hat : atL (rs.drop x.at_) = 59
           · obtain ⟨t, ht⟩ := atL_head hat (by decide)
             have h3 := drop_cons ht
             have HQ2 : Hid (wholeL rs = (sndL rs ((rs.drop x.fr).take (x.to_ - x.fr)) (x.at_ + 1)).bind fun y => if y.2.2 = rs.length then some ⟨x.pre, x.suf, y.1, y.2.1, true, x.nm, x.pd.1, x.pd.2⟩ else none) := by rw [Hid, HQ.out, ht, ← h3.2.2]; exact snd_whole _ _ _ _ _ _ _
             have C40 : Hid (∀ W, w2.grownBy W none → Calls Try.prog 40 #[.agg (ptCells (.slice A1 n1 c1) (.slice A2 n2 c2) (.slice none 0 0) (.slice none 0 0) { zPt with nm := x.nm, pad := x.pd.1, padAt := x.pd.2 }), .slice A5 rs.length cap5, .int .i64 ((x.at_ : Int) + 1), .int .i64 (x.fr : Int), .int .i64 (x.to_ : Int)] W fun e w' =>
                 (∃ (A3 : Option Addr) (n3 c3 : Nat) (A4 : Option Addr) (n4 c4 : Nat) (a : Int) (ok : Bool), e = .returned (.tuple #[.agg (ptCells (.slice A1 n1 c1) (.slice A2 n2 c2) (.slice A3 n3 c3) (.slice A4 n4 c4) { zPt with nm := x.nm, pad := x.pd.1, padAt := x.pd.2, neg := true }), .int .i64 a, .bool ok]) ∧
                   ((ok = false ∧ wholeL rs = none) ∨ (ok = true ∧ ∃ y : List Tk × List Tk × Nat, a = (y.2.2 : Int) ∧ y.2.2 ≤ rs.length ∧ TT w' (.slice A3 n3 c3) y.1 ∧ TT w' (.slice A4 n4 c4) y.2.1 ∧ wholeL rs = if y.2.2 = rs.length then some ⟨x.pre, x.suf, y.1, y.2.1, true, x.nm, x.pd.1, x.pd.2⟩ else none))) ∧ W.grownBy w' none) := fun W hW => by
               have := second_ref W A1 A2 n1 n2 c1 c2 { zPt with nm := x.nm, pad := x.pd.1, padAt := x.pd.2 } A5 cap5 rs (x.at_ + 1) x.fr x.to_ (HR5.out.grown hW (by simp)) HC5.out HLN.out h3.1 l1 l2 HNN.out
               refine this.mono ?_
               rintro e w' ⟨h, hg⟩
               refine ⟨?_, hg⟩
               have hq := HQ2.out
               cases hs : sndL rs ((rs.drop x.fr).take (x.to_ - x.fr)) (x.at_ + 1) with
               | none =>
                 rw [hs] at h hq
                 obtain ⟨A3, n3, c3, A4, n4, c4, a, rfl⟩ := h
                 exact ⟨A3, n3, c3, A4, n4, c4, a, false, rfl, .inl ⟨rfl, hq⟩⟩
               | some y =>
                 rw [hs] at h hq
                 obtain ⟨v3, v4, rfl, t3, t4⟩ := h
                 obtain ⟨A3, c3, rfl⟩ := t3.form
                 obtain ⟨A4, c4, rfl⟩ := t4.form
                 exact ⟨A3, _, c3, A4, _, c4, _, true, rfl, .inr ⟨rfl, y, rfl, snd_le hs, t3, t4, hq⟩⟩
             rw [hat] at hbb
             subst hbb
             have hk120 : x.at_ + 1 ≤ 120 := by have := HLN.out; omega
             clear hat ht h3 HQ HQ2
             go_wp2_with (first
               | (refine wpList_load_mid rfl 24 _ rfl g8 0 rfl (ptCells (.slice A1 n1 c1) (.slice A2 n2 c2) (.slice none 0 0) (.slice none 0 0) { zPt with nm := x.nm, pad := x.pd.1, padAt := x.pd.2 }).toList _ (by exact row_range HF.out.b) Try.underlying24 rfl (info24c _ _ _ _ _) ?_)
               | (go_at_call 40; refine (C40.out _ (by exact HG2.out)).mono ?_; rintro e w5 ⟨⟨A3, n3, c3, A4, n4, c4, a, ok, rfl, hs⟩, hg⟩; have HSN := Lib.hid hs; have HF5 := Lib.hid (HF.out.grown hg); have Y1 := Lib.hid (T1.out.grown hg); have Y2 := Lib.hid (T2.out.grown hg); have HW := Lib.hid (Blk.new w5 24 zCells); clear hs hg)
               | (refine wpList_store_row rfl 24 _ _ rfl w5.heap.size _ rfl rfl 24 zCells HW.out (by exact info24) (by rfl) (by simp [ptCells, zCells, Value.oneCell']) ?_)
               | (refine wpList_load_mid rfl 24 _ rfl w5.heap.size 0 rfl (ptCells (.slice A1 n1 c1) (.slice A2 n2 c2) (.slice A3 n3 c3) (.slice A4 n4 c4) { zPt with nm := x.nm, pad := x.pd.1, padAt := x.pd.2, neg := true }).toList _ (by exact row_range (HF5.out.new3 _).b) Try.underlying24 rfl (info24c _ _ _ _ _) ?_)
               | (refine wpList_store_row rfl 24 _ _ rfl g8 _ rfl rfl 24 (ptCells (.slice A1 n1 c1) (.slice A2 n2 c2) (.slice none 0 0) (.slice none 0 0) { zPt with nm := x.nm, pad := x.pd.1, padAt := x.pd.2 }) (HF5.out.old3 _).b (by exact info24) (by rfl) (by simp [ptCells, zCells, Value.oneCell']) ?_))
             go_meet
             have F6 := HF5.out.old3 (ptCells (.slice A1 n1 c1) (.slice A2 n2 c2) (.slice A3 n3 c3) (.slice A4 n4 c4) { zPt with nm := x.nm, pad := x.pd.1, padAt := x.pd.2, neg := true })
             have F7 : FS w (((w5.alloc (.cells zCells 24)).setRow w5.heap.size (ptCells (.slice A1 n1 c1) (.slice A2 n2 c2) (.slice A3 n3 c3) (.slice A4 n4 c4) { zPt with nm := x.nm, pad := x.pd.1, padAt := x.pd.2, neg := true })).setRow g8 (ptCells (.slice A1 n1 c1) (.slice A2 n2 c2) (.slice A3 n3 c3) (.slice A4 n4 c4) { zPt with nm := x.nm, pad := x.pd.1, padAt := x.pd.2, neg := true })) g8 (ptCells (.slice A1 n1 c1) (.slice A2 n2 c2) (.slice A3 n3 c3) (.slice A4 n4 c4) { zPt with nm := x.nm, pad := x.pd.1, padAt := x.pd.2, neg := true }) := ⟨F6.b0.grown (only_row (only_refl _ (some g8)) (.inl rfl) _) (by intro e; injection e with e; have := F6.lt; omega), F6.b.row _, only_row F6.gr (.inr (Nat.le_of_lt F6.lt)) _, F6.lt⟩
             rcases HSN.out with ⟨rfl, hq⟩ | ⟨rfl, y, rfl, hy, t3, t4, hq⟩
             · exact ⟨A1, n1, c1, A2, n2, c2, A3, n3, c3, A4, n4, c4, { zPt with nm := x.nm, pad := x.pd.1, padAt := x.pd.2, neg := true }, _, _, rfl, rfl, rfl, F7, .inl ⟨rfl, hq⟩⟩
             · refine ⟨A1, n1, c1, A2, n2, c2, A3, n3, c3, A4, n4, c4, ⟨x.pre, x.suf, y.1, y.2.1, true, x.nm, x.pd.1, x.pd.2⟩, _, _, rfl, rfl, rfl, F7, .inr ⟨rfl, y.2.2, rfl, hy, fun hlt => by rw [hq, if_neg (by omega)], fun hge => ⟨by rw [hq, if_pos (by omega)], ?_, ?_, ?_, ?_⟩⟩⟩
               · exact (Y1.out.grown (gr3 _ _)).row F6.b _
               · exact (Y2.out.grown (gr3 _ _)).row F6.b _
               · exact (t3.grown (gr3 _ _)).row F6.b _
               · exact (t4.grown (gr3 _ _)).row F6.b _
           · have hb0 : bb = false := by rw [hbb]; simpa using hat
             subst hb0
             go_wp2_with fail
             go_meet
             refine ⟨A1, n1, c1, A2, n2, c2, none, 0, 0, none, 0, 0, ⟨x.pre, x.suf, [], [], false, x.nm, x.pd.1, x.pd.2⟩, _, _, rfl, rfl, rfl, HF, .inr ⟨rfl, x.at_, rfl, l3, fun hlt => ?_, fun hge => ⟨?_, T1.out, T2.out, TT.nil _, TT.nil _⟩⟩⟩
             · rw [HQ.out]
               cases hd : rs.drop x.at_ with
               | nil => have := List.drop_eq_nil_iff.1 hd; omega
               | cons c t =>
                 rw [hd, atL_cons] at hat
                 unfold whole7
                 simp only
                 rw [if_neg hat]
             · rw [HQ.out, List.drop_of_length_le hge]
               rfl
       case rest =>
         obtain ⟨B1, m1, d1, B2, m2, d2, B3, m3, d3, B4, m4, d4, q, a, ok, rfl, rfl, rfl, HF, HEB⟩ := hcut
         clear HM HT HG2
         have HL1 : Hid (¬ 120 < rs.length) := by have := HLN.out; show ¬ _; omega
         rcases HEB.out with ⟨rfl, hw⟩ | ⟨rfl, k, rfl, hk, h1, h2⟩
         · have HP : Hid (parseL rs = none) := by simp [Hid, parseL, HL1.out, hw]
           clear hw HEB
           go_wp2_with (refine wpList_store_row rfl 24 _ _ rfl w.heap.size zCells rfl rfl 24 zCells HF.out.b0 (by exact info24) (by rfl) (by simp [zCells, ptCells, Value.oneCell']) ?_)
           refine bodyPost_ret (ret24 rfl _ _ w.heap.size zCells rfl (HF.out.b0.row _) rfl) rfl ?_
           refine ⟨?_, only_row HF.out.gr (.inr (Nat.le_refl _)) _⟩
           rw [HP.out]
           exact ⟨_, _, _, rfl, by decide, zPat _⟩
         · by_cases hlt : k < rs.length
           · have hw := h1 hlt
             have HP : Hid (parseL rs = none) := by simp [Hid, parseL, HL1.out, hw]
             have hd : decide ((k : Int) < (rs.length : Int)) = true := by simpa using hlt
             clear hw HEB h1 h2
             go_wp2_with (refine wpList_store_row rfl 24 _ _ rfl w.heap.size zCells rfl rfl 24 zCells HF.out.b0 (by exact info24) (by rfl) (by simp [zCells, ptCells, Value.oneCell']) ?_)
             refine bodyPost_ret (ret24 rfl _ _ w.heap.size zCells rfl (HF.out.b0.row _) rfl) rfl ?_
             refine ⟨?_, only_row HF.out.gr (.inr (Nat.le_refl _)) _⟩
             rw [HP.out]
             exact ⟨_, _, _, rfl, by decide, zPat _⟩
           · obtain ⟨hw, t1, t2, t3, t4⟩ := h2 (by omega)
             have HT4 := Lib.hid (And.intro t1 (And.intro t2 (And.intro t3 t4)))
             have hd : decide ((k : Int) < (rs.length : Int)) = false := by simp; omega
             obtain ⟨hb1, hb2, hb3⟩ := wholeL_bound hw
             have hln := HLN.out
             have hwr : IntKind.i64.wrap (q.nm.hash + q.nm.minInt) = q.nm.hash + q.nm.minInt := by rw [IntKind.wrap_i64]; omega
             have e5 : wc.cell? ⟨g8, 5, none⟩ = some (.int .i64 q.nm.hash) := HF.out.b.cell 5
             have e6 : wc.cell? ⟨g8, 6, none⟩ = some (.int .i64 q.nm.minInt) := HF.out.b.cell 6
             have e8 : wc.cell? ⟨g8, 8, none⟩ = some (.int .i64 q.nm.maxFrac) := HF.out.b.cell 8
             have e12 : wc.cell? ⟨g8, 12, none⟩ = some (.int .i64 q.nm.maxSig) := HF.out.b.cell 12
             have e13 : wc.cell? ⟨g8, 13, none⟩ = some (.int .i64 q.nm.exp) := HF.out.b.cell 13
             clear HEB h1 h2 t1 t2 t3 t4
             by_cases z0 : 40 < q.nm.hash + q.nm.minInt
             · have HP : Hid (parseL rs = none) := by simp [Hid, parseL, HL1.out, hw, z0]
               have ek0 : decide (40 < q.nm.hash + q.nm.minInt) = true := by simpa using z0
               clear hw z0
               go_wp2_with (refine wpList_store_row rfl 24 _ _ rfl w.heap.size zCells rfl rfl 24 zCells HF.out.b0 (by exact info24) (by rfl) (by simp [zCells, ptCells, Value.oneCell']) ?_)
               refine bodyPost_ret (ret24 rfl _ _ w.heap.size zCells rfl (HF.out.b0.row _) rfl) rfl ?_
               refine ⟨?_, only_row HF.out.gr (.inr (Nat.le_refl _)) _⟩
               rw [HP.out]
               exact ⟨_, _, _, rfl, by decide, zPat _⟩
             · have ek0 : decide (40 < q.nm.hash + q.nm.minInt) = false := by simpa using z0
               by_cases z1 : 40 < q.nm.maxFrac
               · have HP : Hid (parseL rs = none) := by simp [Hid, parseL, HL1.out, hw, z1]
                 have ek1 : decide (40 < q.nm.maxFrac) = true := by simpa using z1
                 clear hw z0 z1
                 go_wp2_with (refine wpList_store_row rfl 24 _ _ rfl w.heap.size zCells rfl rfl 24 zCells HF.out.b0 (by exact info24) (by rfl) (by simp [zCells, ptCells, Value.oneCell']) ?_)
                 refine bodyPost_ret (ret24 rfl _ _ w.heap.size zCells rfl (HF.out.b0.row _) rfl) rfl ?_
                 refine ⟨?_, only_row HF.out.gr (.inr (Nat.le_refl _)) _⟩
                 rw [HP.out]
                 exact ⟨_, _, _, rfl, by decide, zPat _⟩
               · have ek1 : decide (40 < q.nm.maxFrac) = false := by simpa using z1
                 by_cases z2 : 40 < q.nm.maxSig
                 · have HP : Hid (parseL rs = none) := by simp [Hid, parseL, HL1.out, hw, z2]
                   have ek2 : decide (40 < q.nm.maxSig) = true := by simpa using z2
                   clear hw z0 z1 z2
                   go_wp2_with (refine wpList_store_row rfl 24 _ _ rfl w.heap.size zCells rfl rfl 24 zCells HF.out.b0 (by exact info24) (by rfl) (by simp [zCells, ptCells, Value.oneCell']) ?_)
                   refine bodyPost_ret (ret24 rfl _ _ w.heap.size zCells rfl (HF.out.b0.row _) rfl) rfl ?_
                   refine ⟨?_, only_row HF.out.gr (.inr (Nat.le_refl _)) _⟩
                   rw [HP.out]
                   exact ⟨_, _, _, rfl, by decide, zPat _⟩
                 · have ek2 : decide (40 < q.nm.maxSig) = false := by simpa using z2
                   by_cases z3 : 40 < q.nm.exp
                   · have HP : Hid (parseL rs = none) := by simp [Hid, parseL, HL1.out, hw, z3]
                     have ek3 : decide (40 < q.nm.exp) = true := by simpa using z3
                     clear hw z0 z1 z2 z3
                     go_wp2_with (refine wpList_store_row rfl 24 _ _ rfl w.heap.size zCells rfl rfl 24 zCells HF.out.b0 (by exact info24) (by rfl) (by simp [zCells, ptCells, Value.oneCell']) ?_)
                     refine bodyPost_ret (ret24 rfl _ _ w.heap.size zCells rfl (HF.out.b0.row _) rfl) rfl ?_
                     refine ⟨?_, only_row HF.out.gr (.inr (Nat.le_refl _)) _⟩
                     rw [HP.out]
                     exact ⟨_, _, _, rfl, by decide, zPat _⟩
                   · have ek3 : decide (40 < q.nm.exp) = false := by simpa using z3
                     have HP : Hid (parseL rs = some q) := by simp [Hid, parseL, HL1.out, hw, z0, z1, z2, z3]
                     clear hw z0 z1 z2 z3
                     go_wp2_with (first
                       | (refine wpList_load_mid rfl 24 _ rfl g8 0 rfl (ptCells (.slice B1 m1 d1) (.slice B2 m2 d2) (.slice B3 m3 d3) (.slice B4 m4 d4) q).toList _ (by exact row_range HF.out.b) Try.underlying24 rfl (info24c _ _ _ _ _) ?_)
                       | (refine wpList_store_row rfl 24 _ _ rfl w.heap.size (ptCells (.slice B1 m1 d1) (.slice B2 m2 d2) (.slice B3 m3 d3) (.slice B4 m4 d4) q) rfl rfl 24 zCells HF.out.b0 (by exact info24) (by rfl) (by simp [ptCells, Value.oneCell']) ?_))
                     refine bodyPost_ret (ret24 rfl _ _ w.heap.size (ptCells (.slice B1 m1 d1) (.slice B2 m2 d2) (.slice B3 m3 d3) (.slice B4 m4 d4) q) rfl (HF.out.b0.row _) rfl) rfl ?_
                     refine ⟨?_, only_row HF.out.gr (.inr (Nat.le_refl _)) _⟩
                     rw [HP.out]
                     exact ⟨_, rfl, _, _, _, _, rfl, (HT4.out.1.row HF.out.b0 _).1, (HT4.out.2.1.row HF.out.b0 _).1, (HT4.out.2.2.1.row HF.out.b0 _).1, (HT4.out.2.2.2.row HF.out.b0 _).1⟩
end Go.Proofs.Ytdbcdgojbegakaa

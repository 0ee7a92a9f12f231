/-
The reference's places.
-/
import Derived.Test.YtdbcdgojbegakaaVC
import Derived.Test.YtdbcdgojbegakaaR6
namespace Go.Proofs.Ytdbcdgojbegakaa
open Go.RowKit

/-- What the reference's places hands back. -/
def PlaR (v1 v2 v3 v4 : Value) (p : Pt) (l : List Int) (o : Option ((Int × Int × Int × Int) × List Int)) (e : Ending) : Prop :=
  match o with
  | some q => e = .returned (.tuple #[.agg (ptCells v1 v2 v3 v4 { p with nm := { p.nm with hash := q.1.1, minInt := q.1.2.1, g1 := q.1.2.2.1, g2 := q.1.2.2.2 } }), .int .i64 ((l.length - q.2.length : Nat) : Int), .bool true])
  | none => ∃ p' a, e = .returned (.tuple #[.agg (ptCells v1 v2 v3 v4 p'), .int .i64 a, .bool false])

/-- What a round of the reference's places hands on. -/
structure QRel (w wr : World) (cs : Array Value) (gs : List Int) (gv : Value) : Prop where
  si : SI w wr cs zCells
  ow : OwnI wr (w.heap.size + 2) gv gs
theorem QRel.grown {w wr w' : World} {cs : Array Value} {gs : List Int} {gv : Value} (h : QRel w wr cs gs gv) (hg : wr.grownBy w' none) : QRel w w' cs gs gv :=
  ⟨h.si.grown hg, h.ow.grown hg (Far.none_ _ _)⟩
theorem QRel.set1 {w wr : World} {cs : Array Value} {gs : List Int} {gv : Value} (h : QRel w wr cs gs gv) (i : Nat) (u : Value) : QRel w (wr.setCell ⟨w.heap.size, i, none⟩ u) (cs.setIfInBounds i u) gs gv :=
  ⟨h.si.set1 i u, h.ow.grown (only_setCell (p := ⟨w.heap.size, i, none⟩) (only_refl wr (some w.heap.size)) (.inl rfl) u) (h.si.b1.far1 (by decide))⟩
theorem QRel.app {w wr w' : World} {cs : Array Value} {gs gs' : List Int} {gv gv' : Value} {ob : Obj} (h : QRel w wr cs gs gv) (ho : OwnI w' (w.heap.size + 2) gv' gs') (hg : (wr.alloc ob).grownBy w' gv.ownBlock) : QRel w w' cs gs' gv' := by
  have s2 : SI w (wr.alloc ob) cs zCells := h.si.grown (only_alloc (only_refl wr none) ob)
  have o2 := h.ow.alloc ob
  have f := o2.far (show (3 : Nat) ≠ 24 by decide)
  exact ⟨⟨s2.b1.grown hg (f.ne s2.b1.typ), s2.b2.grown hg (f.ne s2.b2.typ), only_own s2.gr o2 (by omega) hg⟩, ho⟩

theorem commaAt_eq (m : Int) (t : List Int) : commaAt m t = ((atL t == 48) || (atL t == 35) && (m == 0)) := by
  unfold commaAt
  cases t with
  | nil => simp [atL]
  | cons c t => simp [atL]
theorem atL_head {l : List Int} {c : Int} (h : atL l = c) (hc : c ≠ -1) : ∃ t, l = c :: t := by
  cases l with
  | nil => exact absurd h.symm hc
  | cons d t => exact ⟨t, by rw [atL_cons] at h; rw [h]⟩
theorem atL_ne {l : List Int} {c : Int} (h : (atL l == c) = false) : l.head? ≠ some c := by
  cases l with
  | nil => simp
  | cons d t => simpa [atL] using h

theorem groupsOf_0 {gs : List Int} (n : Int) (h : gs.length = 0) : groupsOf gs n = (0, 0) := by
  cases gs with
  | nil => rfl
  | cons a t => cases h
theorem groupsOf_1 {gs : List Int} (n : Int) (h : gs.length = 1) : groupsOf gs n = (n, n) := by
  match gs, h with
  | [a], _ => rfl
theorem groupsOf_2 {gs : List Int} (n : Int) {x : Int} (h : gs[1]? = some x) : groupsOf gs n = (n, x) := by
  match gs, h with
  | a :: b :: t, h => injection h with h; subst h; rfl

set_option maxRecDepth 100000 in
set_option maxHeartbeats 16000000 in
theorem places_ref (w : World) (A1 A2 A3 A4 : Option Addr) (n1 n2 n3 n4 c1 c2 c3 c4 : Nat) (p : Pt) (A : Option Addr) (cap : Nat) (l : List Int) (i : Nat) (hl : RL w A l) (hcap : l.length ≤ cap) (hlen : l.length ≤ 120) (hi : i ≤ l.length)
    (z1 : p.nm.hash = 0) (z2 : p.nm.minInt = 0) (z3 : p.nm.g1 = 0) (z4 : p.nm.g2 = 0) :
    Calls Try.prog 88 #[.agg (ptCells (.slice A1 n1 c1) (.slice A2 n2 c2) (.slice A3 n3 c3) (.slice A4 n4 c4) p), .slice A l.length cap, .int .i64 i] w fun e w' =>
      PlaR (.slice A1 n1 c1) (.slice A2 n2 c2) (.slice A3 n3 c3) (.slice A4 n4 c4) p l (placesL 0 0 0 [] (l.drop i)) e ∧ w.grownBy w' none := by
  have hp0 : p = { p with nm := { p.nm with hash := 0, minInt := 0 } } := by
    obtain ⟨a1, a2, a3, a4, a5, ⟨b1, b2, b3, b4, b5, b6, b7, b8, b9, b10⟩, a6, a7⟩ := p
    simp only at z1 z2
    simp [z1, z2]
  have H0 : Hid (QRel w ((w.alloc (.cells (ptCells (.slice A1 n1 c1) (.slice A2 n2 c2) (.slice A3 n3 c3) (.slice A4 n4 c4) p) 24)).alloc (.cells zCells 24)) (ptCells (.slice A1 n1 c1) (.slice A2 n2 c2) (.slice A3 n3 c3) (.slice A4 n4 c4) { p with nm := { p.nm with hash := 0, minInt := 0 } }) [] (.slice none 0 0)) :=
    ⟨by rw [← hp0]; exact SI.new w _ _, OwnI.nil_ _ _⟩
  have HZ := Lib.hid (And.intro z3 z4)
  have CAT : Hid (∀ W, w.grownBy W none → ∀ j : Nat, Calls Try.prog 39 #[.slice A l.length cap, .int .i64 j] W fun e w' => e = .returned (.int .i32 (atL (l.drop j))) ∧ W.grownBy w' none) := fun W hW j => at_ref W A cap l (hl.grown hW (by simp)) hcap (by omega) j
  have HLN := Lib.hid hlen
  have HII := Lib.hid hi
  clear hl hp0 z1 z2 z3 z4 hlen hi
  go_enter Try.func88, Try.ntmps88
  go_upto_block 0 with fail
  change Code.wp _ _ _ _ ((w.alloc (.cells (ptCells (.slice A1 n1 c1) (.slice A2 n2 c2) (.slice A3 n3 c3) (.slice A4 n4 c4) p) 24)).alloc (.cells zCells 24))
  generalize (w.alloc (.cells (ptCells (.slice A1 n1 c1) (.slice A2 n2 c2) (.slice A3 n3 c3) (.slice A4 n4 c4) p) 24)).alloc (.cells zCells 24) = W0 at *
  go_wp2_with fail
  go_loopg [2, 9, 10] (121 - i) (fun kq v2 v9 v10 wr => ∃ (k : Nat) (h m n : Int) (gs : List Int), v2 = .int .i64 k ∧ v10 = .int .i64 n ∧ Hid (kq = 121 - k) ∧ Hid (QRel w wr (ptCells (.slice A1 n1 c1) (.slice A2 n2 c2) (.slice A3 n3 c3) (.slice A4 n4 c4) { p with nm := { p.nm with hash := h, minInt := m } }) gs v9) ∧ Hid (placesL 0 0 0 [] (l.drop i) = placesL h m n gs (l.drop k)) ∧
    Hid (0 ≤ h ∧ 0 ≤ m ∧ 0 ≤ n ∧ h ≤ k ∧ m ≤ k ∧ n ≤ k ∧ gs.length ≤ k ∧ k ≤ l.length))
  case atStart => exact ⟨i, 0, 0, 0, [], rfl, rfl, rfl, H0, rfl, ⟨by omega, by omega, by omega, by omega, by omega, by omega, Nat.zero_le _, HII.out⟩⟩
  case round =>
    clear H0
    obtain ⟨k, h, m, n, gs, rfl, rfl, HK, HR, HQ, HN⟩ := hrel
    obtain ⟨b1, b2, b3, b4, b5, b6, b7, b8⟩ := HN.out
    have hk1 : k ≤ 120 := Nat.le_trans b8 HLN.out
    have C1 : Hid (∀ W, w.grownBy W none → Calls Try.prog 39 #[.slice A l.length cap, .int .i64 (k : Int)] W fun e w' => e = .returned (.int .i32 (atL (l.drop k))) ∧ W.grownBy w' none) := fun W hW => CAT.out W hW k
    have C2 : Hid (∀ W, w.grownBy W none → Calls Try.prog 39 #[.slice A l.length cap, .int .i64 ((k : Int) + 1)] W fun e w' => e = .returned (.int .i32 (atL (l.drop (k + 1)))) ∧ W.grownBy w' none) := fun W hW => CAT.out W hW (k + 1)
    obtain ⟨r, hr⟩ : ∃ r, atL (l.drop k) = r := ⟨_, rfl⟩
    obtain ⟨nx, hnx⟩ : ∃ r, atL (l.drop (k + 1)) = r := ⟨_, rfl⟩
    rw [hr] at C1
    rw [hnx] at C2
    have HRr := Lib.hid hr
    have HNx := Lib.hid hnx
    clear hr hnx
    obtain ⟨gA, gcap, hgv, hgc⟩ := HR.out.ow.form
    subst hgv
    go_upto_region 5 with (first
      | (go_at_call 39; with_reducible refine (C1.out _ (by exact HR.out.si.gr)).mono ?_; rintro e w1 ⟨rfl, hg⟩; have H1 := Lib.hid (HR.out.grown hg); clear hg)
      | (go_at_call 39; with_reducible refine (C2.out _ (by exact H1.out.si.gr)).mono ?_; rintro e w2 ⟨rfl, hg⟩; have H2 := Lib.hid (H1.out.grown hg); clear hg))
    clear C1 C2 HR H1
    have e5 : w2.cell? ⟨w.heap.size, 5, none⟩ = some (.int .i64 h) := H2.out.si.b1.cell 5
    have f5 : w2.frozen? ⟨w.heap.size, 5, none⟩ = false := H2.out.si.b1.frozen 5
    have e6 : w2.cell? ⟨w.heap.size, 6, none⟩ = some (.int .i64 m) := H2.out.si.b1.cell 6
    have f6 : w2.frozen? ⟨w.heap.size, 6, none⟩ = false := H2.out.si.b1.frozen 6
    have hgc2 : ∀ i x, gs[i]? = some x → ∃ g, gA = some ⟨g, 0, none⟩ ∧ w2.cell? ⟨g, i, none⟩ = some (.int .i64 x) := by
      obtain ⟨A', cap', e', hh⟩ := H2.out.ow.form
      injection e' with e1 e2 e3
      subst e1
      exact hh
    have HGC := Lib.hid hgc2
    clear hgc hgc2
    go_cut [26] (fun v26 wx => v26 = .bool ((r == 35) && (m == 0)) ∧ wx = w2)
    case first =>
      cases g : (r == 35) with
      | false =>
        go_wp2_with fail
        go_meet
        exact ⟨by rw [g]; rfl, rfl⟩
      | true =>
        go_wp2_with fail
        go_meet
        exact ⟨by rw [g]; rfl, rfl⟩
    case rest =>
      obtain ⟨rfl, rfl⟩ := hcut
      cases hc1 : ((r == 35) && (m == 0)) with
      | true =>
        have hr35 : r = 35 := by simp at hc1; exact hc1.1
        have hm0 : m = 0 := by simp at hc1; exact hc1.2
        obtain ⟨t, ht⟩ := atL_head (HRr.out.trans hr35) (by decide)
        have HD := Lib.hid (drop_cons ht)
        have hlt := HD.out.1
        have HQ2 : Hid (placesL 0 0 0 [] (l.drop i) = placesL (h + 1) m (n + 1) gs (l.drop (k + 1))) := by
          rw [Hid, HQ.out, ht, placesL_hash _ _ _ _ hm0, HD.out.2.2]
        clear hr35 hm0 ht hc1
        go_wp2_with fail
        go_roundg (120 - k)
        case measure => have := HK.out; omega
        case rel => exact ⟨k + 1, h + 1, m, n + 1, gs, by go_num, by go_num, by show _ = _; omega, H2.out.set1 5 (.int .i64 (h + 1)), HQ2, ⟨by omega, by omega, by omega, by omega, by omega, by omega, by omega, by omega⟩⟩
      | false =>
        cases hc2 : (r == 48) with
        | true =>
          have hr48 : r = 48 := by simpa using hc2
          obtain ⟨t, ht⟩ := atL_head (HRr.out.trans hr48) (by decide)
          have HD := Lib.hid (drop_cons ht)
          have hlt := HD.out.1
          have HQ2 : Hid (placesL 0 0 0 [] (l.drop i) = placesL h (m + 1) (n + 1) gs (l.drop (k + 1))) := by
            rw [Hid, HQ.out, ht, placesL_zero, HD.out.2.2]
          clear hr48 ht hc1
          go_wp2_with fail
          go_roundg (120 - k)
          case measure => have := HK.out; omega
          case rel => exact ⟨k + 1, h, m + 1, n + 1, gs, by go_num, by go_num, by show _ = _; omega, H2.out.set1 6 (.int .i64 (m + 1)), HQ2, ⟨by omega, by omega, by omega, by omega, by omega, by omega, by omega, by omega⟩⟩
        | false =>
          have HC1 := Lib.hid hc1
          have HC2 := Lib.hid hc2
          clear hc1
          go_upto_region 13 with fail
          clear hc2
          go_cut [63] (fun v63 wx => v63 = .bool ((r == 44) && decide (0 < n) && ((nx == 48) || (nx == 35) && (m == 0))) ∧ wx = wc)
          case first =>
            cases g : (r == 44) with
            | false =>
              go_wp2_with fail
              go_meet
              exact ⟨by rw [g]; rfl, rfl⟩
            | true =>
              cases g1 : decide (0 < n) with
              | false =>
                go_wp2_with fail
                go_meet
                exact ⟨by rw [g, g1]; rfl, rfl⟩
              | true =>
                cases g2 : (nx == 48) with
                | true =>
                  go_wp2_with fail
                  go_meet
                  exact ⟨by rw [g, g1, g2]; rfl, rfl⟩
                | false =>
                  cases g3 : (nx == 35) with
                  | true =>
                    go_wp2_with fail
                    go_meet
                    exact ⟨by rw [g, g1, g2, g3]; rfl, rfl⟩
                  | false =>
                    go_wp2_with fail
                    go_meet
                    exact ⟨by rw [g, g1, g2, g3]; rfl, rfl⟩
          case rest =>
            obtain ⟨rfl, rfl⟩ := hcut
            cases hc3 : ((r == 44) && decide (0 < n) && ((nx == 48) || (nx == 35) && (m == 0))) with
            | true =>
              have hx : r = 44 ∧ 0 < n ∧ ((nx == 48) || (nx == 35) && (m == 0)) = true := by
                simp only [Bool.and_eq_true, beq_iff_eq, decide_eq_true_eq] at hc3
                exact ⟨hc3.1.1, hc3.1.2, hc3.2⟩
              obtain ⟨t, ht⟩ := atL_head (HRr.out.trans hx.1) (by decide)
              have HD := Lib.hid (drop_cons ht)
              have hlt := HD.out.1
              have hca : commaAt m t = true := by rw [commaAt_eq, ← HD.out.2.2, HNx.out]; exact hx.2.2
              have HCA := Lib.hid (And.intro hx.2.1 (And.intro hca ht))
              clear hx hca ht
              by_cases hbad : 1 < gs.length ∧ gs[1]? ≠ some n
              · obtain ⟨h1, h2⟩ := hbad
                obtain ⟨g, rfl, hcell⟩ := HGC.out 1 gs[1] (List.getElem?_eq_getElem h1)
                have HB : Hid (placesL 0 0 0 [] (l.drop i) = none) := by rw [Hid, HQ.out, HCA.out.2.2]; exact placesL_bad HCA.out.1 HCA.out.2.1 ⟨h1, h2⟩
                have hne : (gs[1] != n) = true := by simp only [bne_iff_ne]; intro e; exact h2 (by rw [List.getElem?_eq_getElem h1, e])
                have hd2 : decide ((2 : Int) ≤ (gs.length : Int)) = true := by simp; omega
                have hi1 : (1 : Int) < (gs.length : Int) := by omega
                generalize gs[1] = x at *
                clear h2 hlt
                go_wp2_with (first
                  | (refine wpList_load_mid rfl 24 _ rfl w.heap.size 0 rfl (ptCells (.slice A1 n1 c1) (.slice A2 n2 c2) (.slice A3 n3 c3) (.slice A4 n4 c4) { p with nm := { p.nm with hash := h, minInt := m } }).toList _ (by exact row_range H2.out.si.b1) Try.underlying24 rfl (info24c _ _ _ _ _) ?_)
                  | (refine wpList_store_row rfl 24 _ _ rfl (w.heap.size + 1) _ rfl rfl 24 zCells H2.out.si.b2 (by exact info24) (by rfl) (by simp [ptCells, Value.oneCell']) ?_))
                refine bodyPost_ret (ret24 rfl _ _ (w.heap.size + 1) _ rfl (H2.out.si.row2 _).b2 rfl) rfl ?_
                refine ⟨?_, (H2.out.si.row2 _).gr⟩
                rw [HB.out]
                exact ⟨_, _, rfl⟩
              · have HQ2 : Hid (placesL 0 0 0 [] (l.drop i) = placesL h m 0 (gs ++ [n]) (l.drop (k + 1))) := by
                  rw [Hid, HQ.out, HCA.out.2.2, placesL_comma HCA.out.1 HCA.out.2.1 hbad, HD.out.2.2]
                have HLE : Hid (w.heap.size + 2 ≤ wc.heap.size) := H2.out.si.b2.lt
                have HGL : Hid (gs.length ≤ 120) := by show _ ≤ _; omega
                by_cases h1 : 1 < gs.length
                · obtain ⟨g, rfl, hcell⟩ := HGC.out 1 gs[1] (List.getElem?_eq_getElem h1)
                  have hne : (gs[1] != n) = false := by
                    have h3 : gs[1]? = some n := Classical.byContradiction fun hh => hbad ⟨h1, hh⟩
                    rw [List.getElem?_eq_getElem h1] at h3
                    injection h3 with h3
                    simp [h3]
                  have hd2 : decide ((2 : Int) ≤ (gs.length : Int)) = true := by simp; omega
                  have hi1 : (1 : Int) < (gs.length : Int) := by omega
                  clear hbad
                  generalize gs[1] = x at *
                  go_wp2_with (first
                    | (refine wpList_append_int _ rfl _ _ rfl (w.heap.size + 2) _ gs n rfl (by exact H2.out.ow) _ rfl rfl (by have := HGL.out; omega) (by have := HLE.out; omega) ?_; intro v' w' hown hgr; have H3 := Lib.hid (H2.out.app hown hgr); clear hown hgr))
                  go_roundg (120 - k)
                  case measure => have := HK.out; omega
                  case rel => exact ⟨k + 1, h, m, 0, gs ++ [n], by go_num, rfl, by show _ = _; omega, H3, HQ2, ⟨by omega, by omega, by omega, by omega, by omega, by omega, by rw [List.length_append]; simp; omega, by omega⟩⟩
                · have hd2 : decide ((2 : Int) ≤ (gs.length : Int)) = false := by simp; omega
                  clear hbad
                  go_wp2_with (first
                    | (refine wpList_append_int _ rfl _ _ rfl (w.heap.size + 2) _ gs n rfl (by exact H2.out.ow) _ rfl rfl (by have := HGL.out; omega) (by have := HLE.out; omega) ?_; intro v' w' hown hgr; have H3 := Lib.hid (H2.out.app hown hgr); clear hown hgr))
                  go_roundg (120 - k)
                  case measure => have := HK.out; omega
                  case rel => exact ⟨k + 1, h, m, 0, gs ++ [n], by go_num, rfl, by show _ = _; omega, H3, HQ2, ⟨by omega, by omega, by omega, by omega, by omega, by omega, by rw [List.length_append]; simp; omega, by omega⟩⟩
            | false =>
              have HE : Hid (placesL 0 0 0 [] (l.drop i) = if h + m = 0 then none else some ((h, m, (groupsOf gs n).1, (groupsOf gs n).2), l.drop k)) := by
                rw [Hid, HQ.out]
                refine placesL_end ⟨?_, ?_, ?_⟩
                · intro hm hh
                  have : r = 35 := by rw [← HRr.out]; cases hd : l.drop k with
                    | nil => rw [hd] at hh; cases hh
                    | cons d t => rw [hd] at hh; injection hh
                  have h9 := HC1.out
                  rw [this, hm] at h9
                  exact absurd h9 (by decide)
                · exact atL_ne (by rw [HRr.out]; exact HC2.out)
                · intro hn hh
                  have hr : r = 44 := by rw [← HRr.out]; cases hd : l.drop k with
                    | nil => rw [hd] at hh; cases hh
                    | cons d t => rw [hd] at hh; injection hh
                  rw [List.drop_drop, commaAt_eq, HNx.out]
                  have := hc3
                  rw [hr, decide_eq_true hn] at this
                  simpa using this
              have HKL : Hid (l.length - (l.drop k).length = k) := by rw [Hid, List.length_drop]; omega
              have hwr : IntKind.i64.wrap (h + m) = h + m := by rw [IntKind.wrap_i64]; omega
              clear hc3 HC1 HC2 HQ HNx HRr CAT HII
              rcases Nat.lt_or_ge 1 gs.length with hg | hg
              · obtain ⟨g, rfl, hcell⟩ := HGC.out 1 gs[1] (List.getElem?_eq_getElem hg)
                have HG2 := Lib.hid (groupsOf_2 n (List.getElem?_eq_getElem hg))
                have hA : ((gs.length : Int) == 1) = false := by simp; omega
                have hB : decide ((1 : Int) < (gs.length : Int)) = true := by simp; omega
                have hi1 : (1 : Int) < (gs.length : Int) := by omega
                generalize gs[1] = x at *
                have e9 : wc.cell? ⟨w.heap.size, 9, none⟩ = some (.int .i64 p.nm.g1) := H2.out.si.b1.cell 9
                have f9 : wc.frozen? ⟨w.heap.size, 9, none⟩ = false := H2.out.si.b1.frozen 9
                have e10 : wc.cell? ⟨w.heap.size, 10, none⟩ = some (.int .i64 p.nm.g2) := H2.out.si.b1.cell 10
                have f10 : wc.frozen? ⟨w.heap.size, 10, none⟩ = false := H2.out.si.b1.frozen 10
                have hgw : ¬ w.heap.size = g := by
                  intro e
                  exact (H2.out.ow.typ (k := g) rfl).ne H2.out.si.b1.typ (by decide) e.symm
                go_upto_region 25 with fail
                have HS : Hid (SI w _ (ptCells (.slice A1 n1 c1) (.slice A2 n2 c2) (.slice A3 n3 c3) (.slice A4 n4 c4) { p with nm := { p.nm with hash := h, minInt := m, g1 := n, g2 := x } }) zCells) := (H2.out.si.set1 9 (.int .i64 n)).set1 10 (.int .i64 x)
                clear H2 e5 e6 f5 f6
                generalize hW5 : ((wc.setCell ⟨w.heap.size, 9, none⟩ (.int .i64 n)).setCell ⟨w.heap.size, 10, none⟩ (.int .i64 x) : World) = W5 at *
                clear hW5
                have hsz : ((ptCells (.slice A1 n1 c1) (.slice A2 n2 c2) (.slice A3 n3 c3) (.slice A4 n4 c4) { p with nm := { p.nm with hash := h, minInt := m, g1 := n, g2 := x } }) : Array Value).size = 17 := rfl
                have hone : ((ptCells (.slice A1 n1 c1) (.slice A2 n2 c2) (.slice A3 n3 c3) (.slice A4 n4 c4) { p with nm := { p.nm with hash := h, minInt := m, g1 := n, g2 := x } }) : Array Value).all (·.oneCell') = true := by simp [ptCells, Value.oneCell']
                have k5 : ((ptCells (.slice A1 n1 c1) (.slice A2 n2 c2) (.slice A3 n3 c3) (.slice A4 n4 c4) { p with nm := { p.nm with hash := h, minInt := m, g1 := n, g2 := x } }) : Array Value)[5]? = some (.int .i64 h) := rfl
                have k6 : ((ptCells (.slice A1 n1 c1) (.slice A2 n2 c2) (.slice A3 n3 c3) (.slice A4 n4 c4) { p with nm := { p.nm with hash := h, minInt := m, g1 := n, g2 := x } }) : Array Value)[6]? = some (.int .i64 m) := rfl
                obtain ⟨cs5, hcs5⟩ : ∃ y, y = ((ptCells (.slice A1 n1 c1) (.slice A2 n2 c2) (.slice A3 n3 c3) (.slice A4 n4 c4) { p with nm := { p.nm with hash := h, minInt := m, g1 := n, g2 := x } }) : Array Value) := ⟨_, rfl⟩
                have HCS := Lib.hid hcs5
                rw [← hcs5] at HS hsz hone k5 k6
                clear hcs5
                have hinfo : (Try.prog.info? 24).map (·.size) = some cs5.toList.length := by rw [Array.length_toList, hsz]; exact info24
                have HSD : SI w W5.drew cs5 zCells := HS.out.grown (only_drew (only_refl W5 none))
                refine wp_region_held_drew (S := fun W => ∃ ds, SI w W cs5 ds) (by kernel_rfl) ⟨_, HSD⟩ (fun _ => ?_)
                refine wpAnyH_take (i := 0) rfl (by kernel_rfl) (by kernel_rfl) (by kernel_rfl) (fun _ _ _ h => h) (yieldsIf_load_mid (by rfl) 24 _ rfl w.heap.size 0 rfl cs5.toList _ (fun W hW => by obtain ⟨ds, hd⟩ := hW; exact row_range hd.b1) Try.underlying24 rfl hinfo) ⟨_, HSD⟩ ?_
                try simp only [Act.put, List.setIfInBounds_toArray, List.set_cons_zero, List.set_cons_succ, Array.toArray_toList, List.getElem_toArray, List.getElem_cons_zero, List.getElem_cons_succ]
                refine wpAnyH_take (i := 1) (v := .int .i64 (k : Int)) rfl (by kernel_rfl) (by kernel_rfl) (by kernel_rfl) (fun _ _ _ h => h) (.inl ⟨by rfl, ?_⟩) ⟨_, HSD⟩ ?_
                · intro W hW
                  go_simp
                try simp only [Act.put, List.setIfInBounds_toArray, List.set_cons_zero, List.set_cons_succ, Array.toArray_toList, List.getElem_toArray, List.getElem_cons_zero, List.getElem_cons_succ]
                refine wpAnyH_take (i := 2) (v := .pointer (some ⟨w.heap.size, 5, none⟩)) rfl (by kernel_rfl) (by kernel_rfl) (by kernel_rfl) (fun _ _ _ h => h) (.inl ⟨by rfl, ?_⟩) ⟨_, HSD⟩ ?_
                · intro W hW
                  go_simp
                try simp only [Act.put, List.setIfInBounds_toArray, List.set_cons_zero, List.set_cons_succ, Array.toArray_toList, List.getElem_toArray, List.getElem_cons_zero, List.getElem_cons_succ]
                refine wpAnyH_take (i := 3) (v := .int .i64 h) rfl (by kernel_rfl) (by kernel_rfl) (by kernel_rfl) (fun _ _ _ h => h) (.inl ⟨by rfl, ?_⟩) ⟨_, HSD⟩ ?_
                · intro W hW
                  obtain ⟨ds, hd⟩ := hW
                  have hc := hd.b1.cell 5
                  rw [k5] at hc
                  go_simp
                try simp only [Act.put, List.setIfInBounds_toArray, List.set_cons_zero, List.set_cons_succ, Array.toArray_toList, List.getElem_toArray, List.getElem_cons_zero, List.getElem_cons_succ]
                refine wpAnyH_take (i := 4) (v := .pointer (some ⟨w.heap.size, 6, none⟩)) rfl (by kernel_rfl) (by kernel_rfl) (by kernel_rfl) (fun _ _ _ h => h) (.inl ⟨by rfl, ?_⟩) ⟨_, HSD⟩ ?_
                · intro W hW
                  go_simp
                try simp only [Act.put, List.setIfInBounds_toArray, List.set_cons_zero, List.set_cons_succ, Array.toArray_toList, List.getElem_toArray, List.getElem_cons_zero, List.getElem_cons_succ]
                refine wpAnyH_take (i := 5) (v := .int .i64 m) rfl (by kernel_rfl) (by kernel_rfl) (by kernel_rfl) (fun _ _ _ h => h) (.inl ⟨by rfl, ?_⟩) ⟨_, HSD⟩ ?_
                · intro W hW
                  obtain ⟨ds, hd⟩ := hW
                  have hc := hd.b1.cell 6
                  rw [k6] at hc
                  go_simp
                try simp only [Act.put, List.setIfInBounds_toArray, List.set_cons_zero, List.set_cons_succ, Array.toArray_toList, List.getElem_toArray, List.getElem_cons_zero, List.getElem_cons_succ]
                refine wpAnyH_take (i := 6) (v := .int .i64 (h + m)) rfl (by kernel_rfl) (by kernel_rfl) (by kernel_rfl) (fun _ _ _ h => h) (.inl ⟨by rfl, ?_⟩) ⟨_, HSD⟩ ?_
                · intro W hW
                  go_simp
                try simp only [Act.put, List.setIfInBounds_toArray, List.set_cons_zero, List.set_cons_succ, Array.toArray_toList, List.getElem_toArray, List.getElem_cons_zero, List.getElem_cons_succ]
                refine wpAnyH_take (i := 7) (v := .bool (decide (0 < h + m))) rfl (by kernel_rfl) (by kernel_rfl) (by kernel_rfl) (fun _ _ _ h => h) (.inl ⟨by rfl, ?_⟩) ⟨_, HSD⟩ ?_
                · intro W hW
                  go_simp
                try simp only [Act.put, List.setIfInBounds_toArray, List.set_cons_zero, List.set_cons_succ, Array.toArray_toList, List.getElem_toArray, List.getElem_cons_zero, List.getElem_cons_succ]
                refine wpAnyH_ready (rs := [8]) (by kernel_rfl) (by simp) ?_
                refine AllReadyH.cons (o := _) rfl (fun K hK => ?_) AllReadyH.nil
                rw [if_pos (by rfl)]
                refine wp_store_row 24 _ _ rfl (w.heap.size + 1) cs5 rfl rfl 24 zCells HSD.b2 (by rw [hsz]; exact info24) (by rw [hsz]; rfl) hone ?_
                refine hK.out _ _ ⟨_, HSD.row2 cs5⟩ (fun _ => ?_)
                clear hK K
                try simp only [Act.put, List.setIfInBounds_toArray, List.set_cons_zero, List.set_cons_succ, Array.toArray_toList, List.getElem_toArray, List.getElem_cons_zero, List.getElem_cons_succ]
                refine wpAnyH_take (i := 9) (v := .int .i64 (k : Int)) rfl (by kernel_rfl) (by kernel_rfl) (by kernel_rfl) (fun _ _ _ h => h) (.inl ⟨by rfl, ?_⟩) ⟨_, HSD.row2 cs5⟩ ?_
                · intro W hW
                  go_simp
                try simp only [Act.put, List.setIfInBounds_toArray, List.set_cons_zero, List.set_cons_succ, Array.toArray_toList, List.getElem_toArray, List.getElem_cons_zero, List.getElem_cons_succ]
                refine wpAnyH_take (i := 10) (v := .bool (decide (0 < h + m))) rfl (by kernel_rfl) (by kernel_rfl) (by kernel_rfl) (fun _ _ _ h => h) (.inl ⟨by rfl, ?_⟩) ⟨_, HSD.row2 cs5⟩ ?_
                · intro W hW
                  go_simp
                try simp only [Act.put, List.setIfInBounds_toArray, List.set_cons_zero, List.set_cons_succ, Array.toArray_toList, List.getElem_toArray, List.getElem_cons_zero, List.getElem_cons_succ]
                refine wpAnyH_done (by kernel_rfl) ?_ _
                go_wp2_with fail
                refine bodyPost_ret (ret24 rfl _ _ (w.heap.size + 1) _ rfl (HSD.row2 cs5).b2 hsz) rfl ?_
                refine ⟨?_, (HSD.row2 cs5).gr⟩
                rw [HE.out, HCS.out]
                by_cases hz : h + m = 0
                · rw [if_pos hz]
                  have hd0 : decide (0 < h + m) = false := by simp; omega
                  refine ⟨{ p with nm := { p.nm with hash := h, minInt := m, g1 := n, g2 := x } }, k, ?_⟩
                  show _ = Ending.returned (.tuple #[_, _, .bool false])
                  rw [← hd0]
                  rfl
                · rw [if_neg hz]
                  have hd0 : decide (0 < h + m) = true := by simp; omega
                  show _ = Ending.returned (.tuple #[_, .int .i64 ((l.length - (l.drop k).length : Nat) : Int), .bool true])
                  rw [HKL.out, ← hd0, HG2.out]
                  rfl
              · rcases Nat.lt_or_ge 0 gs.length with hg0 | hg0
                · have HG2 := Lib.hid (groupsOf_1 (gs := gs) n (by omega))
                  have hA : ((gs.length : Int) == 1) = true := by simp; omega
                  have hB : decide ((1 : Int) < (gs.length : Int)) = false := by simp; omega
                  have e9 : wc.cell? ⟨w.heap.size, 9, none⟩ = some (.int .i64 p.nm.g1) := H2.out.si.b1.cell 9
                  have f9 : wc.frozen? ⟨w.heap.size, 9, none⟩ = false := H2.out.si.b1.frozen 9
                  have e10 : wc.cell? ⟨w.heap.size, 10, none⟩ = some (.int .i64 p.nm.g2) := H2.out.si.b1.cell 10
                  have f10 : wc.frozen? ⟨w.heap.size, 10, none⟩ = false := H2.out.si.b1.frozen 10
                  go_upto_region 25 with fail
                  have HS : Hid (SI w _ (ptCells (.slice A1 n1 c1) (.slice A2 n2 c2) (.slice A3 n3 c3) (.slice A4 n4 c4) { p with nm := { p.nm with hash := h, minInt := m, g1 := n, g2 := n } }) zCells) := (H2.out.si.set1 9 (.int .i64 n)).set1 10 (.int .i64 n)
                  clear H2 e5 e6 f5 f6
                  generalize hW5 : ((wc.setCell ⟨w.heap.size, 9, none⟩ (.int .i64 n)).setCell ⟨w.heap.size, 10, none⟩ (.int .i64 n) : World) = W5 at *
                  clear hW5
                  have hsz : ((ptCells (.slice A1 n1 c1) (.slice A2 n2 c2) (.slice A3 n3 c3) (.slice A4 n4 c4) { p with nm := { p.nm with hash := h, minInt := m, g1 := n, g2 := n } }) : Array Value).size = 17 := rfl
                  have hone : ((ptCells (.slice A1 n1 c1) (.slice A2 n2 c2) (.slice A3 n3 c3) (.slice A4 n4 c4) { p with nm := { p.nm with hash := h, minInt := m, g1 := n, g2 := n } }) : Array Value).all (·.oneCell') = true := by simp [ptCells, Value.oneCell']
                  have k5 : ((ptCells (.slice A1 n1 c1) (.slice A2 n2 c2) (.slice A3 n3 c3) (.slice A4 n4 c4) { p with nm := { p.nm with hash := h, minInt := m, g1 := n, g2 := n } }) : Array Value)[5]? = some (.int .i64 h) := rfl
                  have k6 : ((ptCells (.slice A1 n1 c1) (.slice A2 n2 c2) (.slice A3 n3 c3) (.slice A4 n4 c4) { p with nm := { p.nm with hash := h, minInt := m, g1 := n, g2 := n } }) : Array Value)[6]? = some (.int .i64 m) := rfl
                  obtain ⟨cs5, hcs5⟩ : ∃ y, y = ((ptCells (.slice A1 n1 c1) (.slice A2 n2 c2) (.slice A3 n3 c3) (.slice A4 n4 c4) { p with nm := { p.nm with hash := h, minInt := m, g1 := n, g2 := n } }) : Array Value) := ⟨_, rfl⟩
                  have HCS := Lib.hid hcs5
                  rw [← hcs5] at HS hsz hone k5 k6
                  clear hcs5
                  have hinfo : (Try.prog.info? 24).map (·.size) = some cs5.toList.length := by rw [Array.length_toList, hsz]; exact info24
                  have HSD : SI w W5.drew cs5 zCells := HS.out.grown (only_drew (only_refl W5 none))
                  refine wp_region_held_drew (S := fun W => ∃ ds, SI w W cs5 ds) (by kernel_rfl) ⟨_, HSD⟩ (fun _ => ?_)
                  refine wpAnyH_take (i := 0) rfl (by kernel_rfl) (by kernel_rfl) (by kernel_rfl) (fun _ _ _ h => h) (yieldsIf_load_mid (by rfl) 24 _ rfl w.heap.size 0 rfl cs5.toList _ (fun W hW => by obtain ⟨ds, hd⟩ := hW; exact row_range hd.b1) Try.underlying24 rfl hinfo) ⟨_, HSD⟩ ?_
                  try simp only [Act.put, List.setIfInBounds_toArray, List.set_cons_zero, List.set_cons_succ, Array.toArray_toList, List.getElem_toArray, List.getElem_cons_zero, List.getElem_cons_succ]
                  refine wpAnyH_take (i := 1) (v := .int .i64 (k : Int)) rfl (by kernel_rfl) (by kernel_rfl) (by kernel_rfl) (fun _ _ _ h => h) (.inl ⟨by rfl, ?_⟩) ⟨_, HSD⟩ ?_
                  · intro W hW
                    go_simp
                  try simp only [Act.put, List.setIfInBounds_toArray, List.set_cons_zero, List.set_cons_succ, Array.toArray_toList, List.getElem_toArray, List.getElem_cons_zero, List.getElem_cons_succ]
                  refine wpAnyH_take (i := 2) (v := .pointer (some ⟨w.heap.size, 5, none⟩)) rfl (by kernel_rfl) (by kernel_rfl) (by kernel_rfl) (fun _ _ _ h => h) (.inl ⟨by rfl, ?_⟩) ⟨_, HSD⟩ ?_
                  · intro W hW
                    go_simp
                  try simp only [Act.put, List.setIfInBounds_toArray, List.set_cons_zero, List.set_cons_succ, Array.toArray_toList, List.getElem_toArray, List.getElem_cons_zero, List.getElem_cons_succ]
                  refine wpAnyH_take (i := 3) (v := .int .i64 h) rfl (by kernel_rfl) (by kernel_rfl) (by kernel_rfl) (fun _ _ _ h => h) (.inl ⟨by rfl, ?_⟩) ⟨_, HSD⟩ ?_
                  · intro W hW
                    obtain ⟨ds, hd⟩ := hW
                    have hc := hd.b1.cell 5
                    rw [k5] at hc
                    go_simp
                  try simp only [Act.put, List.setIfInBounds_toArray, List.set_cons_zero, List.set_cons_succ, Array.toArray_toList, List.getElem_toArray, List.getElem_cons_zero, List.getElem_cons_succ]
                  refine wpAnyH_take (i := 4) (v := .pointer (some ⟨w.heap.size, 6, none⟩)) rfl (by kernel_rfl) (by kernel_rfl) (by kernel_rfl) (fun _ _ _ h => h) (.inl ⟨by rfl, ?_⟩) ⟨_, HSD⟩ ?_
                  · intro W hW
                    go_simp
                  try simp only [Act.put, List.setIfInBounds_toArray, List.set_cons_zero, List.set_cons_succ, Array.toArray_toList, List.getElem_toArray, List.getElem_cons_zero, List.getElem_cons_succ]
                  refine wpAnyH_take (i := 5) (v := .int .i64 m) rfl (by kernel_rfl) (by kernel_rfl) (by kernel_rfl) (fun _ _ _ h => h) (.inl ⟨by rfl, ?_⟩) ⟨_, HSD⟩ ?_
                  · intro W hW
                    obtain ⟨ds, hd⟩ := hW
                    have hc := hd.b1.cell 6
                    rw [k6] at hc
                    go_simp
                  try simp only [Act.put, List.setIfInBounds_toArray, List.set_cons_zero, List.set_cons_succ, Array.toArray_toList, List.getElem_toArray, List.getElem_cons_zero, List.getElem_cons_succ]
                  refine wpAnyH_take (i := 6) (v := .int .i64 (h + m)) rfl (by kernel_rfl) (by kernel_rfl) (by kernel_rfl) (fun _ _ _ h => h) (.inl ⟨by rfl, ?_⟩) ⟨_, HSD⟩ ?_
                  · intro W hW
                    go_simp
                  try simp only [Act.put, List.setIfInBounds_toArray, List.set_cons_zero, List.set_cons_succ, Array.toArray_toList, List.getElem_toArray, List.getElem_cons_zero, List.getElem_cons_succ]
                  refine wpAnyH_take (i := 7) (v := .bool (decide (0 < h + m))) rfl (by kernel_rfl) (by kernel_rfl) (by kernel_rfl) (fun _ _ _ h => h) (.inl ⟨by rfl, ?_⟩) ⟨_, HSD⟩ ?_
                  · intro W hW
                    go_simp
                  try simp only [Act.put, List.setIfInBounds_toArray, List.set_cons_zero, List.set_cons_succ, Array.toArray_toList, List.getElem_toArray, List.getElem_cons_zero, List.getElem_cons_succ]
                  refine wpAnyH_ready (rs := [8]) (by kernel_rfl) (by simp) ?_
                  refine AllReadyH.cons (o := _) rfl (fun K hK => ?_) AllReadyH.nil
                  rw [if_pos (by rfl)]
                  refine wp_store_row 24 _ _ rfl (w.heap.size + 1) cs5 rfl rfl 24 zCells HSD.b2 (by rw [hsz]; exact info24) (by rw [hsz]; rfl) hone ?_
                  refine hK.out _ _ ⟨_, HSD.row2 cs5⟩ (fun _ => ?_)
                  clear hK K
                  try simp only [Act.put, List.setIfInBounds_toArray, List.set_cons_zero, List.set_cons_succ, Array.toArray_toList, List.getElem_toArray, List.getElem_cons_zero, List.getElem_cons_succ]
                  refine wpAnyH_take (i := 9) (v := .int .i64 (k : Int)) rfl (by kernel_rfl) (by kernel_rfl) (by kernel_rfl) (fun _ _ _ h => h) (.inl ⟨by rfl, ?_⟩) ⟨_, HSD.row2 cs5⟩ ?_
                  · intro W hW
                    go_simp
                  try simp only [Act.put, List.setIfInBounds_toArray, List.set_cons_zero, List.set_cons_succ, Array.toArray_toList, List.getElem_toArray, List.getElem_cons_zero, List.getElem_cons_succ]
                  refine wpAnyH_take (i := 10) (v := .bool (decide (0 < h + m))) rfl (by kernel_rfl) (by kernel_rfl) (by kernel_rfl) (fun _ _ _ h => h) (.inl ⟨by rfl, ?_⟩) ⟨_, HSD.row2 cs5⟩ ?_
                  · intro W hW
                    go_simp
                  try simp only [Act.put, List.setIfInBounds_toArray, List.set_cons_zero, List.set_cons_succ, Array.toArray_toList, List.getElem_toArray, List.getElem_cons_zero, List.getElem_cons_succ]
                  refine wpAnyH_done (by kernel_rfl) ?_ _
                  go_wp2_with fail
                  refine bodyPost_ret (ret24 rfl _ _ (w.heap.size + 1) _ rfl (HSD.row2 cs5).b2 hsz) rfl ?_
                  refine ⟨?_, (HSD.row2 cs5).gr⟩
                  rw [HE.out, HCS.out]
                  by_cases hz : h + m = 0
                  · rw [if_pos hz]
                    have hd0 : decide (0 < h + m) = false := by simp; omega
                    refine ⟨{ p with nm := { p.nm with hash := h, minInt := m, g1 := n, g2 := n } }, k, ?_⟩
                    show _ = Ending.returned (.tuple #[_, _, .bool false])
                    rw [← hd0]
                    rfl
                  · rw [if_neg hz]
                    have hd0 : decide (0 < h + m) = true := by simp; omega
                    show _ = Ending.returned (.tuple #[_, .int .i64 ((l.length - (l.drop k).length : Nat) : Int), .bool true])
                    rw [HKL.out, ← hd0, HG2.out]
                    rfl
                · have HG2 := Lib.hid (groupsOf_0 (gs := gs) n (by omega))
                  have hA : ((gs.length : Int) == 1) = false := by simp; omega
                  have hB : decide ((1 : Int) < (gs.length : Int)) = false := by simp; omega
                  have HP : Hid (({ p with nm := { p.nm with hash := h, minInt := m } } : Pt) = { p with nm := { p.nm with hash := h, minInt := m, g1 := 0, g2 := 0 } }) := by
                    show ({ p with nm := { p.nm with hash := h, minInt := m, g1 := p.nm.g1, g2 := p.nm.g2 } } : Pt) = _
                    rw [HZ.out.1, HZ.out.2]
                  go_upto_region 25 with fail
                  have HS : Hid (SI w _ (ptCells (.slice A1 n1 c1) (.slice A2 n2 c2) (.slice A3 n3 c3) (.slice A4 n4 c4) { p with nm := { p.nm with hash := h, minInt := m } }) zCells) := H2.out.si
                  clear H2 e5 e6 f5 f6
                  generalize hW5 : (wc : World) = W5 at *
                  clear hW5
                  have hsz : ((ptCells (.slice A1 n1 c1) (.slice A2 n2 c2) (.slice A3 n3 c3) (.slice A4 n4 c4) { p with nm := { p.nm with hash := h, minInt := m } }) : Array Value).size = 17 := rfl
                  have hone : ((ptCells (.slice A1 n1 c1) (.slice A2 n2 c2) (.slice A3 n3 c3) (.slice A4 n4 c4) { p with nm := { p.nm with hash := h, minInt := m } }) : Array Value).all (·.oneCell') = true := by simp [ptCells, Value.oneCell']
                  have k5 : ((ptCells (.slice A1 n1 c1) (.slice A2 n2 c2) (.slice A3 n3 c3) (.slice A4 n4 c4) { p with nm := { p.nm with hash := h, minInt := m } }) : Array Value)[5]? = some (.int .i64 h) := rfl
                  have k6 : ((ptCells (.slice A1 n1 c1) (.slice A2 n2 c2) (.slice A3 n3 c3) (.slice A4 n4 c4) { p with nm := { p.nm with hash := h, minInt := m } }) : Array Value)[6]? = some (.int .i64 m) := rfl
                  obtain ⟨cs5, hcs5⟩ : ∃ y, y = ((ptCells (.slice A1 n1 c1) (.slice A2 n2 c2) (.slice A3 n3 c3) (.slice A4 n4 c4) { p with nm := { p.nm with hash := h, minInt := m } }) : Array Value) := ⟨_, rfl⟩
                  have HCS := Lib.hid hcs5
                  rw [← hcs5] at HS hsz hone k5 k6
                  clear hcs5
                  have hinfo : (Try.prog.info? 24).map (·.size) = some cs5.toList.length := by rw [Array.length_toList, hsz]; exact info24
                  have HSD : SI w W5.drew cs5 zCells := HS.out.grown (only_drew (only_refl W5 none))
                  refine wp_region_held_drew (S := fun W => ∃ ds, SI w W cs5 ds) (by kernel_rfl) ⟨_, HSD⟩ (fun _ => ?_)
                  refine wpAnyH_take (i := 0) rfl (by kernel_rfl) (by kernel_rfl) (by kernel_rfl) (fun _ _ _ h => h) (yieldsIf_load_mid (by rfl) 24 _ rfl w.heap.size 0 rfl cs5.toList _ (fun W hW => by obtain ⟨ds, hd⟩ := hW; exact row_range hd.b1) Try.underlying24 rfl hinfo) ⟨_, HSD⟩ ?_
                  try simp only [Act.put, List.setIfInBounds_toArray, List.set_cons_zero, List.set_cons_succ, Array.toArray_toList, List.getElem_toArray, List.getElem_cons_zero, List.getElem_cons_succ]
                  refine wpAnyH_take (i := 1) (v := .int .i64 (k : Int)) rfl (by kernel_rfl) (by kernel_rfl) (by kernel_rfl) (fun _ _ _ h => h) (.inl ⟨by rfl, ?_⟩) ⟨_, HSD⟩ ?_
                  · intro W hW
                    go_simp
                  try simp only [Act.put, List.setIfInBounds_toArray, List.set_cons_zero, List.set_cons_succ, Array.toArray_toList, List.getElem_toArray, List.getElem_cons_zero, List.getElem_cons_succ]
                  refine wpAnyH_take (i := 2) (v := .pointer (some ⟨w.heap.size, 5, none⟩)) rfl (by kernel_rfl) (by kernel_rfl) (by kernel_rfl) (fun _ _ _ h => h) (.inl ⟨by rfl, ?_⟩) ⟨_, HSD⟩ ?_
                  · intro W hW
                    go_simp
                  try simp only [Act.put, List.setIfInBounds_toArray, List.set_cons_zero, List.set_cons_succ, Array.toArray_toList, List.getElem_toArray, List.getElem_cons_zero, List.getElem_cons_succ]
                  refine wpAnyH_take (i := 3) (v := .int .i64 h) rfl (by kernel_rfl) (by kernel_rfl) (by kernel_rfl) (fun _ _ _ h => h) (.inl ⟨by rfl, ?_⟩) ⟨_, HSD⟩ ?_
                  · intro W hW
                    obtain ⟨ds, hd⟩ := hW
                    have hc := hd.b1.cell 5
                    rw [k5] at hc
                    go_simp
                  try simp only [Act.put, List.setIfInBounds_toArray, List.set_cons_zero, List.set_cons_succ, Array.toArray_toList, List.getElem_toArray, List.getElem_cons_zero, List.getElem_cons_succ]
                  refine wpAnyH_take (i := 4) (v := .pointer (some ⟨w.heap.size, 6, none⟩)) rfl (by kernel_rfl) (by kernel_rfl) (by kernel_rfl) (fun _ _ _ h => h) (.inl ⟨by rfl, ?_⟩) ⟨_, HSD⟩ ?_
                  · intro W hW
                    go_simp
                  try simp only [Act.put, List.setIfInBounds_toArray, List.set_cons_zero, List.set_cons_succ, Array.toArray_toList, List.getElem_toArray, List.getElem_cons_zero, List.getElem_cons_succ]
                  refine wpAnyH_take (i := 5) (v := .int .i64 m) rfl (by kernel_rfl) (by kernel_rfl) (by kernel_rfl) (fun _ _ _ h => h) (.inl ⟨by rfl, ?_⟩) ⟨_, HSD⟩ ?_
                  · intro W hW
                    obtain ⟨ds, hd⟩ := hW
                    have hc := hd.b1.cell 6
                    rw [k6] at hc
                    go_simp
                  try simp only [Act.put, List.setIfInBounds_toArray, List.set_cons_zero, List.set_cons_succ, Array.toArray_toList, List.getElem_toArray, List.getElem_cons_zero, List.getElem_cons_succ]
                  refine wpAnyH_take (i := 6) (v := .int .i64 (h + m)) rfl (by kernel_rfl) (by kernel_rfl) (by kernel_rfl) (fun _ _ _ h => h) (.inl ⟨by rfl, ?_⟩) ⟨_, HSD⟩ ?_
                  · intro W hW
                    go_simp
                  try simp only [Act.put, List.setIfInBounds_toArray, List.set_cons_zero, List.set_cons_succ, Array.toArray_toList, List.getElem_toArray, List.getElem_cons_zero, List.getElem_cons_succ]
                  refine wpAnyH_take (i := 7) (v := .bool (decide (0 < h + m))) rfl (by kernel_rfl) (by kernel_rfl) (by kernel_rfl) (fun _ _ _ h => h) (.inl ⟨by rfl, ?_⟩) ⟨_, HSD⟩ ?_
                  · intro W hW
                    go_simp
                  try simp only [Act.put, List.setIfInBounds_toArray, List.set_cons_zero, List.set_cons_succ, Array.toArray_toList, List.getElem_toArray, List.getElem_cons_zero, List.getElem_cons_succ]
                  refine wpAnyH_ready (rs := [8]) (by kernel_rfl) (by simp) ?_
                  refine AllReadyH.cons (o := _) rfl (fun K hK => ?_) AllReadyH.nil
                  rw [if_pos (by rfl)]
                  refine wp_store_row 24 _ _ rfl (w.heap.size + 1) cs5 rfl rfl 24 zCells HSD.b2 (by rw [hsz]; exact info24) (by rw [hsz]; rfl) hone ?_
                  refine hK.out _ _ ⟨_, HSD.row2 cs5⟩ (fun _ => ?_)
                  clear hK K
                  try simp only [Act.put, List.setIfInBounds_toArray, List.set_cons_zero, List.set_cons_succ, Array.toArray_toList, List.getElem_toArray, List.getElem_cons_zero, List.getElem_cons_succ]
                  refine wpAnyH_take (i := 9) (v := .int .i64 (k : Int)) rfl (by kernel_rfl) (by kernel_rfl) (by kernel_rfl) (fun _ _ _ h => h) (.inl ⟨by rfl, ?_⟩) ⟨_, HSD.row2 cs5⟩ ?_
                  · intro W hW
                    go_simp
                  try simp only [Act.put, List.setIfInBounds_toArray, List.set_cons_zero, List.set_cons_succ, Array.toArray_toList, List.getElem_toArray, List.getElem_cons_zero, List.getElem_cons_succ]
                  refine wpAnyH_take (i := 10) (v := .bool (decide (0 < h + m))) rfl (by kernel_rfl) (by kernel_rfl) (by kernel_rfl) (fun _ _ _ h => h) (.inl ⟨by rfl, ?_⟩) ⟨_, HSD.row2 cs5⟩ ?_
                  · intro W hW
                    go_simp
                  try simp only [Act.put, List.setIfInBounds_toArray, List.set_cons_zero, List.set_cons_succ, Array.toArray_toList, List.getElem_toArray, List.getElem_cons_zero, List.getElem_cons_succ]
                  refine wpAnyH_done (by kernel_rfl) ?_ _
                  go_wp2_with fail
                  refine bodyPost_ret (ret24 rfl _ _ (w.heap.size + 1) _ rfl (HSD.row2 cs5).b2 hsz) rfl ?_
                  refine ⟨?_, (HSD.row2 cs5).gr⟩
                  rw [HE.out, HCS.out]
                  by_cases hz : h + m = 0
                  · rw [if_pos hz]
                    have hd0 : decide (0 < h + m) = false := by simp; omega
                    refine ⟨{ p with nm := { p.nm with hash := h, minInt := m } }, k, ?_⟩
                    show _ = Ending.returned (.tuple #[_, _, .bool false])
                    rw [← hd0]
                    rfl
                  · rw [if_neg hz]
                    have hd0 : decide (0 < h + m) = true := by simp; omega
                    show _ = Ending.returned (.tuple #[_, .int .i64 ((l.length - (l.drop k).length : Nat) : Int), .bool true])
                    rw [HKL.out, ← hd0, HG2.out, HP.out]
                    rfl
end Go.Proofs.Ytdbcdgojbegakaa

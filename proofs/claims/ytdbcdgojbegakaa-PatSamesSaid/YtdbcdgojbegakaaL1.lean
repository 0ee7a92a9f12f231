/-
exerguelaw10.PatSames: the walk.
-/
import Derived.Test.YtdbcdgojbegakaaSH
import Derived.Test.YtdbcdgojbegakaaFW
import Derived.Test.YtdbcdgojbegakaaL0
namespace Go.Proofs.Ytdbcdgojbegakaa
open Go.RowKit

set_option maxRecDepth 100000 in
set_option maxHeartbeats 40000000 in
theorem patSames_any (w : World) (u : Value) (p : Pt) (h : PatV w u p) (t : Tk) (k : Int) (hk : 0 ≤ k ∧ k < 256) (hl : p.pre.length ≤ 1000000000000000000 ∧ p.suf.length ≤ 1000000000000000000 ∧ p.npre.length ≤ 1000000000000000000 ∧ p.nsuf.length ≤ 1000000000000000000) :
    Calls Try.prog 6 #[u, .agg #[.int .i64 t.kind, .int .i32 t.r], .int .u8 k] w fun e w' => e = .returned (.bool true) ∧ w.grownBy w' none := by
  have HPV := Lib.hid h
  obtain ⟨v1, v2, v3, v4, rfl, t1, t2, t3, t4⟩ := h
  obtain ⟨A1, c1, rfl, -⟩ := id t1
  obtain ⟨A2, c2, rfl, -⟩ := id t2
  obtain ⟨A3, c3, rfl, -⟩ := id t3
  obtain ⟨A4, c4, rfl, -⟩ := id t4
  have CS := Lib.hid shown_any
  have CF := Lib.hid (fun W => few_any W A1 A2 A3 A4 _ _ _ _ c1 c2 c3 c4 p hl)
  have HTL := Lib.hid (And.intro t1 (And.intro t2 (And.intro t3 t4)))
  clear t1 t2 t3 t4
  by_cases hf : (p.pre.length : Int) + p.suf.length + p.npre.length + p.nsuf.length ≤ 300
  · have hf2 : decide ((p.pre.length : Int) + p.suf.length + p.npre.length + p.nsuf.length ≤ 300) = true := by simpa using hf
    rw [hf2] at CF
    go_enter Try.func6, Try.ntmps6
    go_upto_region 1 with fail
    have H0 : Hid (TI w ((w.alloc (.cells (ptCells (.slice A1 p.pre.length c1) (.slice A2 p.suf.length c2) (.slice A3 p.npre.length c3) (.slice A4 p.nsuf.length c4) p) 24)).alloc (.cells #[.int .i64 t.kind, .int .i32 t.r] 34)) (ptCells (.slice A1 p.pre.length c1) (.slice A2 p.suf.length c2) (.slice A3 p.npre.length c3) (.slice A4 p.nsuf.length c4) p)) := (TI.new w _).grown (only_alloc (only_refl _ _) _)
    have T0 : Hid (Blk ((w.alloc (.cells (ptCells (.slice A1 p.pre.length c1) (.slice A2 p.suf.length c2) (.slice A3 p.npre.length c3) (.slice A4 p.nsuf.length c4) p) 24)).alloc (.cells #[.int .i64 t.kind, .int .i32 t.r] 34)) (w.heap.size + 1) 34 #[.int .i64 t.kind, .int .i32 t.r]) := by
      have := Blk.new (w.alloc (.cells (ptCells (.slice A1 p.pre.length c1) (.slice A2 p.suf.length c2) (.slice A3 p.npre.length c3) (.slice A4 p.nsuf.length c4) p) 24)) 34 #[.int .i64 t.kind, .int .i32 t.r]
      rw [show (w.alloc (.cells (ptCells (.slice A1 p.pre.length c1) (.slice A2 p.suf.length c2) (.slice A3 p.npre.length c3) (.slice A4 p.nsuf.length c4) p) 24)).heap.size = w.heap.size + 1 by simp] at this
      exact this
    generalize (w.alloc (.cells (ptCells (.slice A1 p.pre.length c1) (.slice A2 p.suf.length c2) (.slice A3 p.npre.length c3) (.slice A4 p.nsuf.length c4) p) 24)).alloc (.cells #[.int .i64 t.kind, .int .i32 t.r] 34) = W0 at *
    go_upto_region 5 with (first
      | (go_at_call 7; refine (CS.out _).mono ?_; rintro e w1 ⟨rfl, hg⟩; have H1 := Lib.hid (H0.out.grown hg); have T1 := Lib.hid (T0.out.grown hg (by simp)); clear hg)
      | (go_at_call 8; refine (CF.out _).mono ?_; rintro e w2 ⟨rfl, hg⟩; have H2 := Lib.hid (H1.out.grown hg); have T2 := Lib.hid (T1.out.grown hg (by simp)); have HB := Lib.hid (Blk.new w2 24 zCells); clear hg)
      | (refine wpList_load_mid rfl 24 _ rfl w.heap.size 0 rfl (ptCells (.slice A1 p.pre.length c1) (.slice A2 p.suf.length c2) (.slice A3 p.npre.length c3) (.slice A4 p.nsuf.length c4) p).toList _ (by exact row_range H2.out.blk) Try.underlying24 rfl (info24c _ _ _ _ _) ?_)
      | (refine wpList_load_mid rfl 24 _ rfl w.heap.size 0 rfl (ptCells (.slice A1 p.pre.length c1) (.slice A2 p.suf.length c2) (.slice A3 p.npre.length c3) (.slice A4 p.nsuf.length c4) p).toList _ (by exact row_range H1.out.blk) Try.underlying24 rfl (info24c _ _ _ _ _) ?_)
      | (refine wpList_store_row rfl 24 _ _ rfl w2.heap.size (ptCells (.slice A1 p.pre.length c1) (.slice A2 p.suf.length c2) (.slice A3 p.npre.length c3) (.slice A4 p.nsuf.length c4) p) rfl rfl 24 zCells HB.out (by exact info24) (by rfl) (by simp [ptCells, Value.oneCell']) ?_))
    have HM : Hid (w.heap.size + 2 ≤ w2.heap.size) := T2.out.lt
    have G3 : Hid (w.grownBy ((w2.alloc (.cells zCells 24)).setRow w2.heap.size (ptCells (.slice A1 p.pre.length c1) (.slice A2 p.suf.length c2) (.slice A3 p.npre.length c3) (.slice A4 p.nsuf.length c4) p)) none) := only_row (only_alloc H2.out.gr _) (.inr H2.out.gr.size) _
    have B3 : Hid (Blk ((w2.alloc (.cells zCells 24)).setRow w2.heap.size (ptCells (.slice A1 p.pre.length c1) (.slice A2 p.suf.length c2) (.slice A3 p.npre.length c3) (.slice A4 p.nsuf.length c4) p)) w.heap.size 24 (ptCells (.slice A1 p.pre.length c1) (.slice A2 p.suf.length c2) (.slice A3 p.npre.length c3) (.slice A4 p.nsuf.length c4) p)) := blk_far H2.out.blk H2.out.blk.lt
    have T3 : Hid (Blk ((w2.alloc (.cells zCells 24)).setRow w2.heap.size (ptCells (.slice A1 p.pre.length c1) (.slice A2 p.suf.length c2) (.slice A3 p.npre.length c3) (.slice A4 p.nsuf.length c4) p)) (w.heap.size + 1) 34 #[.int .i64 t.kind, .int .i32 t.r]) := blk_far T2.out T2.out.lt
    have Q3 : Hid (Blk ((w2.alloc (.cells zCells 24)).setRow w2.heap.size (ptCells (.slice A1 p.pre.length c1) (.slice A2 p.suf.length c2) (.slice A3 p.npre.length c3) (.slice A4 p.nsuf.length c4) p)) w2.heap.size 24 (ptCells (.slice A1 p.pre.length c1) (.slice A2 p.suf.length c2) (.slice A3 p.npre.length c3) (.slice A4 p.nsuf.length c4) p)) := HB.out.row _
    clear H0 T0 H1 T1 H2 T2 HB CS CF
    change Code.wp _ _ _ _ ((w2.alloc (.cells zCells 24)).setRow w2.heap.size (ptCells (.slice A1 p.pre.length c1) (.slice A2 p.suf.length c2) (.slice A3 p.npre.length c3) (.slice A4 p.nsuf.length c4) p))
    generalize (w2.alloc (.cells zCells 24)).setRow w2.heap.size (ptCells (.slice A1 p.pre.length c1) (.slice A2 p.suf.length c2) (.slice A3 p.npre.length c3) (.slice A4 p.nsuf.length c4) p) = W3 at *
    generalize w2.heap.size = m at *
    have hl2 : (p.pre ++ p.suf ++ p.npre ++ p.nsuf).length ≤ 400 := by simp; omega
    obtain ⟨hk0, hk1⟩ := hk
    have E3 : Hid (AtS w W3 m (ptCells (.slice A1 p.pre.length c1) (.slice A2 p.suf.length c2) (.slice A3 p.npre.length c3) (.slice A4 p.nsuf.length c4) p) t) := ⟨G3.out, B3.out, Q3.out, T3.out⟩
    go_upto_block 0 with fail
    go_cut [] (fun wx => Hid (NewQ w wx m (ptCells (.slice A1 p.pre.length c1) (.slice A2 p.suf.length c2) (.slice A3 p.npre.length c3) (.slice A4 p.nsuf.length c4) p) p))
    case first =>
      by_cases h0 : k % 8 = 0
      · as_aux_lemma =>
         have hb0 : ((k % 8) == 0) = true := by simp [h0]
         clear h0
         go_upto_region 7 with fail
         have kc : W3.cell? ⟨w.heap.size, 0, none⟩ = some (.slice A1 p.pre.length c1) := B3.out.cell 0
         have tc0 : W3.cell? ⟨w.heap.size + 1, 0, none⟩ = some (.int .i64 t.kind) := T3.out.cell 0
         have tc1 : W3.cell? ⟨w.heap.size + 1, 1, none⟩ = some (.int .i32 t.r) := T3.out.cell 1
         have hlen : p.pre.length ≤ 300 := by omega
         have HMW : Hid (m < W3.heap.size) := Q3.out.lt
         have hB3 : w.heap.size + 2 ≤ W3.heap.size := by have := HMW.out; have := HM.out; omega
         have hm1 : w.heap.size ≠ m := by have := HM.out; omega
         have hm2 : w.heap.size + 1 ≠ m := by have := HM.out; omega
         go_region_held3 (fun w' => w'.cell? ⟨w.heap.size, 0, none⟩ = some (.slice A1 p.pre.length c1) ∧ w'.cell? ⟨w.heap.size + 1, 0, none⟩ = some (.int .i64 t.kind) ∧ w'.cell? ⟨w.heap.size + 1, 1, none⟩ = some (.int .i32 t.r)) (first | assumption | (exact ⟨set_far q4 hm1, set_far q5 hm2, set_far q6 hm2⟩) | (exact ⟨q4, q5, q6⟩) | (exact ⟨q1, q2, q3⟩) | go_keep)
                   (first
                    | (refine step_append_tl rfl _ _ rfl (w.heap.size + 2) (.slice (some ⟨W3.heap.size, 0, none⟩) 0 0) (.slice A1 p.pre.length c1) [] p.pre rfl rfl ?_ ?_ ?_ ?_ ?_
                       · exact (own_new hB3).heap rfl
                       · exact HTL.out.1.grown (only_same (only_alloc G3.out (.cells #[] 34)) rfl rfl rfl rfl)
                       · show 0 + p.pre.length ≤ 65536; omega
                       · simp; omega
                       intro v1 wa ho hg
                       have EA := Lib.hid (AtS.grow2 hg (E3.out.alloc (.cells #[] 34)) rfl rfl rfl rfl (own_new hB3))
                       have OA := Lib.hid (show OwnT wa (w.heap.size + 2) v1 p.pre from ho)
                       have q1 : wa.cell? ⟨w.heap.size, 0, none⟩ = some (.slice A1 p.pre.length c1) := EA.out.bp.cell 0
                       have q2 : wa.cell? ⟨w.heap.size + 1, 0, none⟩ = some (.int .i64 t.kind) := EA.out.bt.cell 0
                       have q3 : wa.cell? ⟨w.heap.size + 1, 1, none⟩ = some (.int .i32 t.r) := EA.out.bt.cell 1
                       clear ho hg)
                    | (refine step_append_tl rfl _ _ rfl (w.heap.size + 2) (.slice (some ⟨W3.heap.size, 0, none⟩) 0 0) (.slice A1 p.pre.length c1) [] p.pre rfl rfl ?_ ?_ ?_ ?_ ?_
                       · exact ((own_new hB3).alloc (.cells #[.int .i64 t.kind, .int .i32 t.r] 34)).heap rfl
                       · exact HTL.out.1.grown (only_same (only_alloc (only_alloc G3.out (.cells #[] 34)) (.cells #[.int .i64 t.kind, .int .i32 t.r] 34)) rfl rfl rfl rfl)
                       · show 0 + p.pre.length ≤ 65536; omega
                       · simp; omega
                       intro v1 wa ho hg
                       have EA := Lib.hid (AtS.grow2 hg ((E3.out.alloc (.cells #[] 34)).alloc (.cells #[.int .i64 t.kind, .int .i32 t.r] 34)) rfl rfl rfl rfl ((own_new hB3).alloc (.cells #[.int .i64 t.kind, .int .i32 t.r] 34)))
                       have OA := Lib.hid (show OwnT wa (w.heap.size + 2) v1 p.pre from ho)
                       have BB : Hid (Blk wa (W3.heap.size + 1) 34 #[.int .i64 t.kind, .int .i32 t.r]) := blk_grown2 hg (blk_new1 W3 (.cells #[] 34) 34 #[.int .i64 t.kind, .int .i32 t.r]) rfl (own_ne1 _)
                       have q1 : wa.cell? ⟨w.heap.size, 0, none⟩ = some (.slice A1 p.pre.length c1) := EA.out.bp.cell 0
                       have q2 : wa.cell? ⟨w.heap.size + 1, 0, none⟩ = some (.int .i64 t.kind) := EA.out.bt.cell 0
                       have q3 : wa.cell? ⟨w.heap.size + 1, 1, none⟩ = some (.int .i32 t.r) := EA.out.bt.cell 1
                       clear ho hg)
                    | (refine step_append_tl rfl _ _ rfl (w.heap.size + 2) (.slice (some ⟨W3.heap.size + 1, 0, none⟩) 0 0) (.slice A1 p.pre.length c1) [] p.pre rfl rfl ?_ ?_ ?_ ?_ ?_
                       · exact (own_new1 hB3 (.cells #[.int .i64 t.kind, .int .i32 t.r] 34)).heap rfl
                       · exact HTL.out.1.grown (only_same (only_alloc (only_alloc G3.out (.cells #[.int .i64 t.kind, .int .i32 t.r] 34)) (.cells #[] 34)) rfl rfl rfl rfl)
                       · show 0 + p.pre.length ≤ 65536; omega
                       · simp; omega
                       intro v1 wa ho hg
                       have EA := Lib.hid (AtS.grow2 hg ((E3.out.alloc (.cells #[.int .i64 t.kind, .int .i32 t.r] 34)).alloc (.cells #[] 34)) rfl rfl rfl rfl (own_new1 hB3 (.cells #[.int .i64 t.kind, .int .i32 t.r] 34)))
                       have OA := Lib.hid (show OwnT wa (w.heap.size + 2) v1 p.pre from ho)
                       have BC : Hid (Blk wa W3.heap.size 34 #[.int .i64 t.kind, .int .i32 t.r]) := blk_grown2 hg ((Blk.new W3 34 #[.int .i64 t.kind, .int .i32 t.r]).alloc (.cells #[] 34)) rfl (own_ne2 _)
                       have q1 : wa.cell? ⟨w.heap.size, 0, none⟩ = some (.slice A1 p.pre.length c1) := EA.out.bp.cell 0
                       have q2 : wa.cell? ⟨w.heap.size + 1, 0, none⟩ = some (.int .i64 t.kind) := EA.out.bt.cell 0
                       have q3 : wa.cell? ⟨w.heap.size + 1, 1, none⟩ = some (.int .i32 t.r) := EA.out.bt.cell 1
                       clear ho hg)
                    | (refine step_append_tl rfl _ _ rfl (w.heap.size + 2) v1 (.slice (some ⟨wa.heap.size, 0, none⟩) 1 1) p.pre [t] rfl rfl ?_ ?_ ?_ ?_ ?_
                       · exact (OA.out.alloc (.cells #[.int .i64 t.kind, .int .i32 t.r] 34)).heap rfl
                       · exact (TL.one (Blk.new wa 34 #[.int .i64 t.kind, .int .i32 t.r])).heap rfl
                       · show p.pre.length + 1 ≤ 65536; omega
                       · have := EA.out.bt.lt; simp; omega
                       intro v2 wb ho hg
                       have EB := Lib.hid (AtS.grow2 hg (EA.out.alloc (.cells #[.int .i64 t.kind, .int .i32 t.r] 34)) rfl rfl rfl rfl (OA.out.alloc (.cells #[.int .i64 t.kind, .int .i32 t.r] 34)))
                       obtain ⟨X, cx, ev, -⟩ := id ho.lies
                       rw [List.length_append] at ev
                       subst ev
                       have OB := Lib.hid ho
                       have q4 : wb.cell? ⟨w.heap.size, 0, none⟩ = some (.slice A1 p.pre.length c1) := EB.out.bp.cell 0
                       have q5 : wb.cell? ⟨w.heap.size + 1, 0, none⟩ = some (.int .i64 t.kind) := EB.out.bt.cell 0
                       have q6 : wb.cell? ⟨w.heap.size + 1, 1, none⟩ = some (.int .i32 t.r) := EB.out.bt.cell 1
                       have mc : wb.cell? ⟨m, 0, none⟩ = some (.slice A1 p.pre.length c1) := EB.out.bq.cell 0
                       have mf : wb.frozen? ⟨m, 0, none⟩ = false := EB.out.bq.frozen 0
                       clear ho hg)
                    | (refine step_append_tl rfl _ _ rfl (w.heap.size + 2) v1 (.slice (some ⟨W3.heap.size + 1, 0, none⟩) 1 1) p.pre [t] rfl rfl ?_ ?_ ?_ ?_ ?_
                       · exact (OA.out).heap rfl
                       · exact (TL.one BB.out).heap rfl
                       · show p.pre.length + 1 ≤ 65536; omega
                       · have := EA.out.bt.lt; simp; omega
                       intro v2 wb ho hg
                       have EB := Lib.hid (AtS.grow2 hg EA.out rfl rfl rfl rfl (OA.out))
                       obtain ⟨X, cx, ev, -⟩ := id ho.lies
                       rw [List.length_append] at ev
                       subst ev
                       have OB := Lib.hid ho
                       have q4 : wb.cell? ⟨w.heap.size, 0, none⟩ = some (.slice A1 p.pre.length c1) := EB.out.bp.cell 0
                       have q5 : wb.cell? ⟨w.heap.size + 1, 0, none⟩ = some (.int .i64 t.kind) := EB.out.bt.cell 0
                       have q6 : wb.cell? ⟨w.heap.size + 1, 1, none⟩ = some (.int .i32 t.r) := EB.out.bt.cell 1
                       have mc : wb.cell? ⟨m, 0, none⟩ = some (.slice A1 p.pre.length c1) := EB.out.bq.cell 0
                       have mf : wb.frozen? ⟨m, 0, none⟩ = false := EB.out.bq.frozen 0
                       clear ho hg)
                    | (refine step_append_tl rfl _ _ rfl (w.heap.size + 2) v1 (.slice (some ⟨W3.heap.size, 0, none⟩) 1 1) p.pre [t] rfl rfl ?_ ?_ ?_ ?_ ?_
                       · exact (OA.out).heap rfl
                       · exact (TL.one BC.out).heap rfl
                       · show p.pre.length + 1 ≤ 65536; omega
                       · have := EA.out.bt.lt; simp; omega
                       intro v2 wb ho hg
                       have EB := Lib.hid (AtS.grow2 hg EA.out rfl rfl rfl rfl (OA.out))
                       obtain ⟨X, cx, ev, -⟩ := id ho.lies
                       rw [List.length_append] at ev
                       subst ev
                       have OB := Lib.hid ho
                       have q4 : wb.cell? ⟨w.heap.size, 0, none⟩ = some (.slice A1 p.pre.length c1) := EB.out.bp.cell 0
                       have q5 : wb.cell? ⟨w.heap.size + 1, 0, none⟩ = some (.int .i64 t.kind) := EB.out.bt.cell 0
                       have q6 : wb.cell? ⟨w.heap.size + 1, 1, none⟩ = some (.int .i32 t.r) := EB.out.bt.cell 1
                       have mc : wb.cell? ⟨m, 0, none⟩ = some (.slice A1 p.pre.length c1) := EB.out.bq.cell 0
                       have mf : wb.frozen? ⟨m, 0, none⟩ = false := EB.out.bq.frozen 0
                       clear ho hg))
         all_goals
           have HQ : Hid (NewQ w (wb.setCell ⟨m, 0, none⟩ (.slice X (p.pre.length + 1) cx)) m (ptCells (.slice A1 p.pre.length c1) (.slice A2 p.suf.length c2) (.slice A3 p.npre.length c3) (.slice A4 p.nsuf.length c4) p) p) := by
             refine ⟨.slice X (p.pre.length + 1) cx, .slice A2 p.suf.length c2, .slice A3 p.npre.length c3, .slice A4 p.nsuf.length c4, { p with pre := p.pre ++ [t] }, ?_, ?_, ?_⟩
             · intro e
               have := congrArg (fun x : Pt => x.pre.length) e
               simp at this
             · show ((p.pre ++ [t]) ++ p.suf ++ p.npre ++ p.nsuf).length ≤ 400
               simp only [List.length_append, List.length_singleton] at hl2 ⊢
               omega
             · exact EB.out.put HM.out OB.out rfl (fun wx hg ht => ⟨_, _, _, _, rfl, ht, HTL.out.2.1.grown hg, HTL.out.2.2.1.grown hg, HTL.out.2.2.2.grown hg⟩)
           go_wp2_with fail
           go_meet
           exact HQ
      by_cases h1 : k % 8 = 1
      · as_aux_lemma =>
         have hb0 : ((k % 8) == 0) = false := by simp [h1]
         have hb1 : ((k % 8) == 1) = true := by simp [h1]
         clear h1
         go_upto_region 9 with fail
         have kc : W3.cell? ⟨w.heap.size, 3, none⟩ = some (.slice A4 p.nsuf.length c4) := B3.out.cell 3
         have tc0 : W3.cell? ⟨w.heap.size + 1, 0, none⟩ = some (.int .i64 t.kind) := T3.out.cell 0
         have tc1 : W3.cell? ⟨w.heap.size + 1, 1, none⟩ = some (.int .i32 t.r) := T3.out.cell 1
         have hlen : p.nsuf.length ≤ 300 := by omega
         have HMW : Hid (m < W3.heap.size) := Q3.out.lt
         have hB3 : w.heap.size + 2 ≤ W3.heap.size := by have := HMW.out; have := HM.out; omega
         have hm1 : w.heap.size ≠ m := by have := HM.out; omega
         have hm2 : w.heap.size + 1 ≠ m := by have := HM.out; omega
         go_region_held3 (fun w' => w'.cell? ⟨w.heap.size, 3, none⟩ = some (.slice A4 p.nsuf.length c4) ∧ w'.cell? ⟨w.heap.size + 1, 0, none⟩ = some (.int .i64 t.kind) ∧ w'.cell? ⟨w.heap.size + 1, 1, none⟩ = some (.int .i32 t.r)) (first | assumption | (exact ⟨set_far q4 hm1, set_far q5 hm2, set_far q6 hm2⟩) | (exact ⟨q4, q5, q6⟩) | (exact ⟨q1, q2, q3⟩) | go_keep)
                   (first
                    | (refine step_append_tl rfl _ _ rfl (w.heap.size + 2) (.slice (some ⟨W3.heap.size, 0, none⟩) 0 0) (.slice A4 p.nsuf.length c4) [] p.nsuf rfl rfl ?_ ?_ ?_ ?_ ?_
                       · exact (own_new hB3).heap rfl
                       · exact HTL.out.2.2.2.grown (only_same (only_alloc G3.out (.cells #[] 34)) rfl rfl rfl rfl)
                       · show 0 + p.nsuf.length ≤ 65536; omega
                       · simp; omega
                       intro v1 wa ho hg
                       have EA := Lib.hid (AtS.grow2 hg (E3.out.alloc (.cells #[] 34)) rfl rfl rfl rfl (own_new hB3))
                       have OA := Lib.hid (show OwnT wa (w.heap.size + 2) v1 p.nsuf from ho)
                       have q1 : wa.cell? ⟨w.heap.size, 3, none⟩ = some (.slice A4 p.nsuf.length c4) := EA.out.bp.cell 3
                       have q2 : wa.cell? ⟨w.heap.size + 1, 0, none⟩ = some (.int .i64 t.kind) := EA.out.bt.cell 0
                       have q3 : wa.cell? ⟨w.heap.size + 1, 1, none⟩ = some (.int .i32 t.r) := EA.out.bt.cell 1
                       clear ho hg)
                    | (refine step_append_tl rfl _ _ rfl (w.heap.size + 2) (.slice (some ⟨W3.heap.size, 0, none⟩) 0 0) (.slice A4 p.nsuf.length c4) [] p.nsuf rfl rfl ?_ ?_ ?_ ?_ ?_
                       · exact ((own_new hB3).alloc (.cells #[.int .i64 t.kind, .int .i32 t.r] 34)).heap rfl
                       · exact HTL.out.2.2.2.grown (only_same (only_alloc (only_alloc G3.out (.cells #[] 34)) (.cells #[.int .i64 t.kind, .int .i32 t.r] 34)) rfl rfl rfl rfl)
                       · show 0 + p.nsuf.length ≤ 65536; omega
                       · simp; omega
                       intro v1 wa ho hg
                       have EA := Lib.hid (AtS.grow2 hg ((E3.out.alloc (.cells #[] 34)).alloc (.cells #[.int .i64 t.kind, .int .i32 t.r] 34)) rfl rfl rfl rfl ((own_new hB3).alloc (.cells #[.int .i64 t.kind, .int .i32 t.r] 34)))
                       have OA := Lib.hid (show OwnT wa (w.heap.size + 2) v1 p.nsuf from ho)
                       have BB : Hid (Blk wa (W3.heap.size + 1) 34 #[.int .i64 t.kind, .int .i32 t.r]) := blk_grown2 hg (blk_new1 W3 (.cells #[] 34) 34 #[.int .i64 t.kind, .int .i32 t.r]) rfl (own_ne1 _)
                       have q1 : wa.cell? ⟨w.heap.size, 3, none⟩ = some (.slice A4 p.nsuf.length c4) := EA.out.bp.cell 3
                       have q2 : wa.cell? ⟨w.heap.size + 1, 0, none⟩ = some (.int .i64 t.kind) := EA.out.bt.cell 0
                       have q3 : wa.cell? ⟨w.heap.size + 1, 1, none⟩ = some (.int .i32 t.r) := EA.out.bt.cell 1
                       clear ho hg)
                    | (refine step_append_tl rfl _ _ rfl (w.heap.size + 2) (.slice (some ⟨W3.heap.size + 1, 0, none⟩) 0 0) (.slice A4 p.nsuf.length c4) [] p.nsuf rfl rfl ?_ ?_ ?_ ?_ ?_
                       · exact (own_new1 hB3 (.cells #[.int .i64 t.kind, .int .i32 t.r] 34)).heap rfl
                       · exact HTL.out.2.2.2.grown (only_same (only_alloc (only_alloc G3.out (.cells #[.int .i64 t.kind, .int .i32 t.r] 34)) (.cells #[] 34)) rfl rfl rfl rfl)
                       · show 0 + p.nsuf.length ≤ 65536; omega
                       · simp; omega
                       intro v1 wa ho hg
                       have EA := Lib.hid (AtS.grow2 hg ((E3.out.alloc (.cells #[.int .i64 t.kind, .int .i32 t.r] 34)).alloc (.cells #[] 34)) rfl rfl rfl rfl (own_new1 hB3 (.cells #[.int .i64 t.kind, .int .i32 t.r] 34)))
                       have OA := Lib.hid (show OwnT wa (w.heap.size + 2) v1 p.nsuf from ho)
                       have BC : Hid (Blk wa W3.heap.size 34 #[.int .i64 t.kind, .int .i32 t.r]) := blk_grown2 hg ((Blk.new W3 34 #[.int .i64 t.kind, .int .i32 t.r]).alloc (.cells #[] 34)) rfl (own_ne2 _)
                       have q1 : wa.cell? ⟨w.heap.size, 3, none⟩ = some (.slice A4 p.nsuf.length c4) := EA.out.bp.cell 3
                       have q2 : wa.cell? ⟨w.heap.size + 1, 0, none⟩ = some (.int .i64 t.kind) := EA.out.bt.cell 0
                       have q3 : wa.cell? ⟨w.heap.size + 1, 1, none⟩ = some (.int .i32 t.r) := EA.out.bt.cell 1
                       clear ho hg)
                    | (refine step_append_tl rfl _ _ rfl (w.heap.size + 2) v1 (.slice (some ⟨wa.heap.size, 0, none⟩) 1 1) p.nsuf [t] rfl rfl ?_ ?_ ?_ ?_ ?_
                       · exact (OA.out.alloc (.cells #[.int .i64 t.kind, .int .i32 t.r] 34)).heap rfl
                       · exact (TL.one (Blk.new wa 34 #[.int .i64 t.kind, .int .i32 t.r])).heap rfl
                       · show p.nsuf.length + 1 ≤ 65536; omega
                       · have := EA.out.bt.lt; simp; omega
                       intro v2 wb ho hg
                       have EB := Lib.hid (AtS.grow2 hg (EA.out.alloc (.cells #[.int .i64 t.kind, .int .i32 t.r] 34)) rfl rfl rfl rfl (OA.out.alloc (.cells #[.int .i64 t.kind, .int .i32 t.r] 34)))
                       obtain ⟨X, cx, ev, -⟩ := id ho.lies
                       rw [List.length_append] at ev
                       subst ev
                       have OB := Lib.hid ho
                       have q4 : wb.cell? ⟨w.heap.size, 3, none⟩ = some (.slice A4 p.nsuf.length c4) := EB.out.bp.cell 3
                       have q5 : wb.cell? ⟨w.heap.size + 1, 0, none⟩ = some (.int .i64 t.kind) := EB.out.bt.cell 0
                       have q6 : wb.cell? ⟨w.heap.size + 1, 1, none⟩ = some (.int .i32 t.r) := EB.out.bt.cell 1
                       have mc : wb.cell? ⟨m, 3, none⟩ = some (.slice A4 p.nsuf.length c4) := EB.out.bq.cell 3
                       have mf : wb.frozen? ⟨m, 3, none⟩ = false := EB.out.bq.frozen 3
                       clear ho hg)
                    | (refine step_append_tl rfl _ _ rfl (w.heap.size + 2) v1 (.slice (some ⟨W3.heap.size + 1, 0, none⟩) 1 1) p.nsuf [t] rfl rfl ?_ ?_ ?_ ?_ ?_
                       · exact (OA.out).heap rfl
                       · exact (TL.one BB.out).heap rfl
                       · show p.nsuf.length + 1 ≤ 65536; omega
                       · have := EA.out.bt.lt; simp; omega
                       intro v2 wb ho hg
                       have EB := Lib.hid (AtS.grow2 hg EA.out rfl rfl rfl rfl (OA.out))
                       obtain ⟨X, cx, ev, -⟩ := id ho.lies
                       rw [List.length_append] at ev
                       subst ev
                       have OB := Lib.hid ho
                       have q4 : wb.cell? ⟨w.heap.size, 3, none⟩ = some (.slice A4 p.nsuf.length c4) := EB.out.bp.cell 3
                       have q5 : wb.cell? ⟨w.heap.size + 1, 0, none⟩ = some (.int .i64 t.kind) := EB.out.bt.cell 0
                       have q6 : wb.cell? ⟨w.heap.size + 1, 1, none⟩ = some (.int .i32 t.r) := EB.out.bt.cell 1
                       have mc : wb.cell? ⟨m, 3, none⟩ = some (.slice A4 p.nsuf.length c4) := EB.out.bq.cell 3
                       have mf : wb.frozen? ⟨m, 3, none⟩ = false := EB.out.bq.frozen 3
                       clear ho hg)
                    | (refine step_append_tl rfl _ _ rfl (w.heap.size + 2) v1 (.slice (some ⟨W3.heap.size, 0, none⟩) 1 1) p.nsuf [t] rfl rfl ?_ ?_ ?_ ?_ ?_
                       · exact (OA.out).heap rfl
                       · exact (TL.one BC.out).heap rfl
                       · show p.nsuf.length + 1 ≤ 65536; omega
                       · have := EA.out.bt.lt; simp; omega
                       intro v2 wb ho hg
                       have EB := Lib.hid (AtS.grow2 hg EA.out rfl rfl rfl rfl (OA.out))
                       obtain ⟨X, cx, ev, -⟩ := id ho.lies
                       rw [List.length_append] at ev
                       subst ev
                       have OB := Lib.hid ho
                       have q4 : wb.cell? ⟨w.heap.size, 3, none⟩ = some (.slice A4 p.nsuf.length c4) := EB.out.bp.cell 3
                       have q5 : wb.cell? ⟨w.heap.size + 1, 0, none⟩ = some (.int .i64 t.kind) := EB.out.bt.cell 0
                       have q6 : wb.cell? ⟨w.heap.size + 1, 1, none⟩ = some (.int .i32 t.r) := EB.out.bt.cell 1
                       have mc : wb.cell? ⟨m, 3, none⟩ = some (.slice A4 p.nsuf.length c4) := EB.out.bq.cell 3
                       have mf : wb.frozen? ⟨m, 3, none⟩ = false := EB.out.bq.frozen 3
                       clear ho hg))
         all_goals
           have HQ : Hid (NewQ w (wb.setCell ⟨m, 3, none⟩ (.slice X (p.nsuf.length + 1) cx)) m (ptCells (.slice A1 p.pre.length c1) (.slice A2 p.suf.length c2) (.slice A3 p.npre.length c3) (.slice A4 p.nsuf.length c4) p) p) := by
             refine ⟨.slice A1 p.pre.length c1, .slice A2 p.suf.length c2, .slice A3 p.npre.length c3, .slice X (p.nsuf.length + 1) cx, { p with nsuf := p.nsuf ++ [t] }, ?_, ?_, ?_⟩
             · intro e
               have := congrArg (fun x : Pt => x.nsuf.length) e
               simp at this
             · show (p.pre ++ p.suf ++ p.npre ++ (p.nsuf ++ [t])).length ≤ 400
               simp only [List.length_append, List.length_singleton] at hl2 ⊢
               omega
             · exact EB.out.put HM.out OB.out rfl (fun wx hg ht => ⟨_, _, _, _, rfl, HTL.out.1.grown hg, HTL.out.2.1.grown hg, HTL.out.2.2.1.grown hg, ht⟩)
           go_wp2_with fail
           go_meet
           exact HQ
      by_cases h2 : k % 8 = 2
      · as_aux_lemma =>
         have kc : W3.cell? ⟨w.heap.size, 6, none⟩ = some (.int .i64 p.nm.minInt) := B3.out.cell 6
         have mc : W3.cell? ⟨m, 6, none⟩ = some (.int .i64 p.nm.minInt) := Q3.out.cell 6
         have mf : W3.frozen? ⟨m, 6, none⟩ = false := Q3.out.frozen 6
         have hb0 : ((k % 8) == 0) = false := by simp [h2]
         have hb1 : ((k % 8) == 1) = false := by simp [h2]
         have hb2 : ((k % 8) == 2) = true := by simp [h2]
         clear h2
         have HQ : Hid (NewQ w (W3.setCell ⟨m, 6, none⟩ (.int .i64 (wrap64 (p.nm.minInt + 1)))) m (ptCells (.slice A1 p.pre.length c1) (.slice A2 p.suf.length c2) (.slice A3 p.npre.length c3) (.slice A4 p.nsuf.length c4) p) p) := by
           refine ⟨.slice A1 p.pre.length c1, .slice A2 p.suf.length c2, .slice A3 p.npre.length c3, .slice A4 p.nsuf.length c4, { p with nm := { p.nm with minInt := wrap64 (p.nm.minInt + 1) } }, ?_, hl2, ?_⟩
           · intro e
             have := congrArg (fun x : Pt => x.nm.minInt) e
             simp only at this
             exact wrap_ne _ this
           · exact E3.out.put1 HM.out rfl (fun wx hg => ⟨_, _, _, _, rfl, HTL.out.1.grown hg, HTL.out.2.1.grown hg, HTL.out.2.2.1.grown hg, HTL.out.2.2.2.grown hg⟩)
         go_wp2_with fail
         go_meet
         exact HQ
      by_cases h3 : k % 8 = 3
      · as_aux_lemma =>
         have kc : W3.cell? ⟨w.heap.size, 10, none⟩ = some (.int .i64 p.nm.g2) := B3.out.cell 10
         have mc : W3.cell? ⟨m, 10, none⟩ = some (.int .i64 p.nm.g2) := Q3.out.cell 10
         have mf : W3.frozen? ⟨m, 10, none⟩ = false := Q3.out.frozen 10
         have hb0 : ((k % 8) == 0) = false := by simp [h3]
         have hb1 : ((k % 8) == 1) = false := by simp [h3]
         have hb2 : ((k % 8) == 2) = false := by simp [h3]
         have hb3 : ((k % 8) == 3) = true := by simp [h3]
         clear h3
         have HQ : Hid (NewQ w (W3.setCell ⟨m, 10, none⟩ (.int .i64 (wrap64 (p.nm.g2 + 1)))) m (ptCells (.slice A1 p.pre.length c1) (.slice A2 p.suf.length c2) (.slice A3 p.npre.length c3) (.slice A4 p.nsuf.length c4) p) p) := by
           refine ⟨.slice A1 p.pre.length c1, .slice A2 p.suf.length c2, .slice A3 p.npre.length c3, .slice A4 p.nsuf.length c4, { p with nm := { p.nm with g2 := wrap64 (p.nm.g2 + 1) } }, ?_, hl2, ?_⟩
           · intro e
             have := congrArg (fun x : Pt => x.nm.g2) e
             simp only at this
             exact wrap_ne _ this
           · exact E3.out.put1 HM.out rfl (fun wx hg => ⟨_, _, _, _, rfl, HTL.out.1.grown hg, HTL.out.2.1.grown hg, HTL.out.2.2.1.grown hg, HTL.out.2.2.2.grown hg⟩)
         go_wp2_with fail
         go_meet
         exact HQ
      by_cases h4 : k % 8 = 4
      · as_aux_lemma =>
         have kc : W3.cell? ⟨w.heap.size, 4, none⟩ = some (.bool p.neg) := B3.out.cell 4
         have mc : W3.cell? ⟨m, 4, none⟩ = some (.bool p.neg) := Q3.out.cell 4
         have mf : W3.frozen? ⟨m, 4, none⟩ = false := Q3.out.frozen 4
         have hb0 : ((k % 8) == 0) = false := by simp [h4]
         have hb1 : ((k % 8) == 1) = false := by simp [h4]
         have hb2 : ((k % 8) == 2) = false := by simp [h4]
         have hb3 : ((k % 8) == 3) = false := by simp [h4]
         have hb4 : ((k % 8) == 4) = true := by simp [h4]
         clear h4
         have HQ : Hid (NewQ w (W3.setCell ⟨m, 4, none⟩ (.bool (!p.neg))) m (ptCells (.slice A1 p.pre.length c1) (.slice A2 p.suf.length c2) (.slice A3 p.npre.length c3) (.slice A4 p.nsuf.length c4) p) p) := by
           refine ⟨.slice A1 p.pre.length c1, .slice A2 p.suf.length c2, .slice A3 p.npre.length c3, .slice A4 p.nsuf.length c4, { p with neg := !p.neg }, ?_, hl2, ?_⟩
           · intro e
             have := congrArg (fun x : Pt => x.neg) e
             simp only at this
             cases hh : p.neg <;> rw [hh] at this <;> cases this
           · exact E3.out.put1 HM.out rfl (fun wx hg => ⟨_, _, _, _, rfl, HTL.out.1.grown hg, HTL.out.2.1.grown hg, HTL.out.2.2.1.grown hg, HTL.out.2.2.2.grown hg⟩)
         go_wp2_with fail
         go_meet
         exact HQ
      by_cases h5 : k % 8 = 5
      · as_aux_lemma =>
         have kc : W3.cell? ⟨w.heap.size, 15, none⟩ = some (.int .i32 p.pad) := B3.out.cell 15
         have mc : W3.cell? ⟨m, 15, none⟩ = some (.int .i32 p.pad) := Q3.out.cell 15
         have mf : W3.frozen? ⟨m, 15, none⟩ = false := Q3.out.frozen 15
         have hb0 : ((k % 8) == 0) = false := by simp [h5]
         have hb1 : ((k % 8) == 1) = false := by simp [h5]
         have hb2 : ((k % 8) == 2) = false := by simp [h5]
         have hb3 : ((k % 8) == 3) = false := by simp [h5]
         have hb4 : ((k % 8) == 4) = false := by simp [h5]
         have hb5 : ((k % 8) == 5) = true := by simp [h5]
         clear h5
         have HQ : Hid (NewQ w (W3.setCell ⟨m, 15, none⟩ (.int .i32 (wrap32 (p.pad + 1)))) m (ptCells (.slice A1 p.pre.length c1) (.slice A2 p.suf.length c2) (.slice A3 p.npre.length c3) (.slice A4 p.nsuf.length c4) p) p) := by
           refine ⟨.slice A1 p.pre.length c1, .slice A2 p.suf.length c2, .slice A3 p.npre.length c3, .slice A4 p.nsuf.length c4, { p with pad := wrap32 (p.pad + 1) }, ?_, hl2, ?_⟩
           · intro e
             have := congrArg (fun x : Pt => x.pad) e
             simp only at this
             exact wrap32_ne _ this
           · exact E3.out.put1 HM.out rfl (fun wx hg => ⟨_, _, _, _, rfl, HTL.out.1.grown hg, HTL.out.2.1.grown hg, HTL.out.2.2.1.grown hg, HTL.out.2.2.2.grown hg⟩)
         go_wp2_with fail
         go_meet
         exact HQ
      by_cases h6 : k % 8 = 6
      · as_aux_lemma =>
         have kc : W3.cell? ⟨w.heap.size, 12, none⟩ = some (.int .i64 p.nm.maxSig) := B3.out.cell 12
         have mc : W3.cell? ⟨m, 12, none⟩ = some (.int .i64 p.nm.maxSig) := Q3.out.cell 12
         have mf : W3.frozen? ⟨m, 12, none⟩ = false := Q3.out.frozen 12
         have hb0 : ((k % 8) == 0) = false := by simp [h6]
         have hb1 : ((k % 8) == 1) = false := by simp [h6]
         have hb2 : ((k % 8) == 2) = false := by simp [h6]
         have hb3 : ((k % 8) == 3) = false := by simp [h6]
         have hb4 : ((k % 8) == 4) = false := by simp [h6]
         have hb5 : ((k % 8) == 5) = false := by simp [h6]
         have hb6 : ((k % 8) == 6) = true := by simp [h6]
         clear h6
         have HQ : Hid (NewQ w (W3.setCell ⟨m, 12, none⟩ (.int .i64 (wrap64 (p.nm.maxSig + 1)))) m (ptCells (.slice A1 p.pre.length c1) (.slice A2 p.suf.length c2) (.slice A3 p.npre.length c3) (.slice A4 p.nsuf.length c4) p) p) := by
           refine ⟨.slice A1 p.pre.length c1, .slice A2 p.suf.length c2, .slice A3 p.npre.length c3, .slice A4 p.nsuf.length c4, { p with nm := { p.nm with maxSig := wrap64 (p.nm.maxSig + 1) } }, ?_, hl2, ?_⟩
           · intro e
             have := congrArg (fun x : Pt => x.nm.maxSig) e
             simp only at this
             exact wrap_ne _ this
           · exact E3.out.put1 HM.out rfl (fun wx hg => ⟨_, _, _, _, rfl, HTL.out.1.grown hg, HTL.out.2.1.grown hg, HTL.out.2.2.1.grown hg, HTL.out.2.2.2.grown hg⟩)
         go_wp2_with fail
         go_meet
         exact HQ
      by_cases h7 : k % 8 = 7
      · as_aux_lemma =>
         have kc : W3.cell? ⟨w.heap.size, 14, none⟩ = some (.bool p.nm.expPlus) := B3.out.cell 14
         have mc : W3.cell? ⟨m, 14, none⟩ = some (.bool p.nm.expPlus) := Q3.out.cell 14
         have mf : W3.frozen? ⟨m, 14, none⟩ = false := Q3.out.frozen 14
         have hb0 : ((k % 8) == 0) = false := by simp [h7]
         have hb1 : ((k % 8) == 1) = false := by simp [h7]
         have hb2 : ((k % 8) == 2) = false := by simp [h7]
         have hb3 : ((k % 8) == 3) = false := by simp [h7]
         have hb4 : ((k % 8) == 4) = false := by simp [h7]
         have hb5 : ((k % 8) == 5) = false := by simp [h7]
         have hb6 : ((k % 8) == 6) = false := by simp [h7]
         have hb7 : ((k % 8) == 7) = true := by simp [h7]
         clear h7
         have HQ : Hid (NewQ w (W3.setCell ⟨m, 14, none⟩ (.bool (!p.nm.expPlus))) m (ptCells (.slice A1 p.pre.length c1) (.slice A2 p.suf.length c2) (.slice A3 p.npre.length c3) (.slice A4 p.nsuf.length c4) p) p) := by
           refine ⟨.slice A1 p.pre.length c1, .slice A2 p.suf.length c2, .slice A3 p.npre.length c3, .slice A4 p.nsuf.length c4, { p with nm := { p.nm with expPlus := !p.nm.expPlus } }, ?_, hl2, ?_⟩
           · intro e
             have := congrArg (fun x : Pt => x.nm.expPlus) e
             simp only at this
             cases hh : p.nm.expPlus <;> rw [hh] at this <;> cases this
           · exact E3.out.put1 HM.out rfl (fun wx hg => ⟨_, _, _, _, rfl, HTL.out.1.grown hg, HTL.out.2.1.grown hg, HTL.out.2.2.1.grown hg, HTL.out.2.2.2.grown hg⟩)
         go_wp2_with fail
         go_meet
         exact HQ
      exfalso
      omega
    case rest =>
      clear B3 T3 Q3 G3 E3
      obtain ⟨X1, X2, X3, X4, q, ne, hlq, hq⟩ := hcut
      have BX := Lib.hid hq.bx
      have QX := Lib.hid hq.qx
      have GX := Lib.hid hq.gx
      have SPP : Hid (∀ W, w.grownBy W none → Calls Try.prog 11 #[.agg (ptCells (.slice A1 p.pre.length c1) (.slice A2 p.suf.length c2) (.slice A3 p.npre.length c3) (.slice A4 p.nsuf.length c4) p), .agg (ptCells (.slice A1 p.pre.length c1) (.slice A2 p.suf.length c2) (.slice A3 p.npre.length c3) (.slice A4 p.nsuf.length c4) p)] W fun e w' => e = .returned (.bool true) ∧ W.grownBy w' none) := fun W hg => by
        have := same_any W _ _ p p (HPV.out.grown hg) (HPV.out.grown hg) hl2
        simpa using this
      have SPQ : Hid (∀ W, wc.grownBy W none → Calls Try.prog 11 #[.agg (ptCells (.slice A1 p.pre.length c1) (.slice A2 p.suf.length c2) (.slice A3 p.npre.length c3) (.slice A4 p.nsuf.length c4) p), .agg (ptCells X1 X2 X3 X4 q)] W fun e w' => e = .returned (.bool false) ∧ W.grownBy w' none) := fun W hg => by
        have := same_any W _ _ p _ (HPV.out.grown (only_trans GX.out hg)) (hq.px.grown hg) hl2
        rw [decide_eq_false ne] at this
        exact this
      have SQP : Hid (∀ W, wc.grownBy W none → Calls Try.prog 11 #[.agg (ptCells X1 X2 X3 X4 q), .agg (ptCells (.slice A1 p.pre.length c1) (.slice A2 p.suf.length c2) (.slice A3 p.npre.length c3) (.slice A4 p.nsuf.length c4) p)] W fun e w' => e = .returned (.bool false) ∧ W.grownBy w' none) := fun W hg => by
        have := same_any W _ _ _ p (hq.px.grown hg) (HPV.out.grown (only_trans GX.out hg)) hlq
        rw [decide_eq_false (fun e => ne e.symm)] at this
        exact this
      clear hl2 hlq ne hq
      go_wp2_with (first
        | (refine wpList_load_cells (by rfl) _ (by rfl) w.heap.size (by rfl) (ptCells (.slice A1 p.pre.length c1) (.slice A2 p.suf.length c2) (.slice A3 p.npre.length c3) (.slice A4 p.nsuf.length c4) p) (by rfl) (by exact BX.out) ?_)
        | (refine wpList_load_cells (by rfl) _ (by rfl) w.heap.size (by rfl) (ptCells (.slice A1 p.pre.length c1) (.slice A2 p.suf.length c2) (.slice A3 p.npre.length c3) (.slice A4 p.nsuf.length c4) p) (by rfl) (by exact Ba.out) ?_)
        | (refine wpList_load_cells (by rfl) _ (by rfl) w.heap.size (by rfl) (ptCells (.slice A1 p.pre.length c1) (.slice A2 p.suf.length c2) (.slice A3 p.npre.length c3) (.slice A4 p.nsuf.length c4) p) (by rfl) (by exact Bb.out) ?_)
        | (refine wpList_load_cells (by rfl) _ (by rfl) m (by rfl) (ptCells X1 X2 X3 X4 q) (by rfl) (by exact QX.out) ?_)
        | (refine wpList_load_cells (by rfl) _ (by rfl) m (by rfl) (ptCells X1 X2 X3 X4 q) (by rfl) (by exact Qa.out) ?_)
        | (refine wpList_load_cells (by rfl) _ (by rfl) m (by rfl) (ptCells X1 X2 X3 X4 q) (by rfl) (by exact Qb.out) ?_)
        | (go_at_call 11; with_reducible refine (SPP.out wc (by exact GX.out)).mono ?_; rintro e wa ⟨rfl, hg⟩; have Ba := Lib.hid (BX.out.grown hg (by simp)); have Qa := Lib.hid (QX.out.grown hg (by simp)); have Ga := Lib.hid hg; clear hg)
        | (go_at_call 11; with_reducible refine (SPQ.out wa (by exact Ga.out)).mono ?_; rintro e wb ⟨rfl, hg⟩; have Bb := Lib.hid (Ba.out.grown hg (by simp)); have Qb := Lib.hid (Qa.out.grown hg (by simp)); have Gb := Lib.hid (only_trans Ga.out hg); clear hg)
        | (go_at_call 11; with_reducible refine (SQP.out wb (by exact Gb.out)).mono ?_; rintro e wd ⟨rfl, hg⟩; have Gc := Lib.hid (only_trans Gb.out hg); clear hg))
      go_ret
      exact ⟨rfl, only_trans GX.out Gc.out⟩
  · have hf2 : decide ((p.pre.length : Int) + p.suf.length + p.npre.length + p.nsuf.length ≤ 300) = false := by simpa using hf
    rw [hf2] at CF
    go_enter Try.func6, Try.ntmps6
    go_upto_region 1 with fail
    have H0 : Hid (TI w ((w.alloc (.cells (ptCells (.slice A1 p.pre.length c1) (.slice A2 p.suf.length c2) (.slice A3 p.npre.length c3) (.slice A4 p.nsuf.length c4) p) 24)).alloc (.cells #[.int .i64 t.kind, .int .i32 t.r] 34)) (ptCells (.slice A1 p.pre.length c1) (.slice A2 p.suf.length c2) (.slice A3 p.npre.length c3) (.slice A4 p.nsuf.length c4) p)) := (TI.new w _).grown (only_alloc (only_refl _ _) _)
    generalize (w.alloc (.cells (ptCells (.slice A1 p.pre.length c1) (.slice A2 p.suf.length c2) (.slice A3 p.npre.length c3) (.slice A4 p.nsuf.length c4) p) 24)).alloc (.cells #[.int .i64 t.kind, .int .i32 t.r] 34) = W0 at *
    go_wp2_with (first
      | (go_at_call 7; refine (CS.out _).mono ?_; rintro e w1 ⟨rfl, hg⟩; have H1 := Lib.hid (H0.out.grown hg); clear hg)
      | (go_at_call 8; refine (CF.out _).mono ?_; rintro e w2 ⟨rfl, hg⟩; have H2 := Lib.hid (H1.out.grown hg); clear hg)
      | (refine wpList_load_mid rfl 24 _ rfl w.heap.size 0 rfl (ptCells (.slice A1 p.pre.length c1) (.slice A2 p.suf.length c2) (.slice A3 p.npre.length c3) (.slice A4 p.nsuf.length c4) p).toList _ (by exact row_range H1.out.blk) Try.underlying24 rfl (info24c _ _ _ _ _) ?_))
    go_ret
    exact ⟨rfl, H2.out.gr⟩
end Go.Proofs.Ytdbcdgojbegakaa

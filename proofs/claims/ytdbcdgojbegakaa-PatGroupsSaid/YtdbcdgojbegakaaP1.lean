/-
pat.Parse: a text's pattern.
-/
import Derived.Test.YtdbcdgojbegakaaRA
import Derived.Test.YtdbcdgojbegakaaU3
import Derived.Laws.IdiomStrings
import Derived.Deep.MidRow
namespace Go.Proofs.Ytdbcdgojbegakaa
open Go.RowKit

/-- A text of runes. -/
def strOf (rs : List Int) : ByteArray := ⟨(rs.flatMap Lib.encodeRune).toArray⟩
theorem strOf_data (rs : List Int) : (strOf rs).data.toList = (encL rs).map fun x => x.toNat.toUInt8 := by
  simp only [strOf, encL, List.map_flatMap]
  rfl
theorem strOf_size (rs : List Int) : (strOf rs).size = (encL rs).length := by
  show (strOf rs).data.size = _
  rw [← Array.length_toList, strOf_data]; simp
theorem encL_byte (rs : List Int) : ∀ x ∈ encL rs, 0 ≤ x ∧ x < 256 := by
  intro x hx
  obtain ⟨r, _, h⟩ := List.mem_flatMap.1 hx
  exact Lib.encodeRuneZ_byte r x h
theorem strOf_append (a b : List Int) : strOf (a ++ b) = strOf a ++ strOf b := by
  apply ByteArray.ext
  simp [strOf, ByteArray.data_append]

/-- A row of pieces that lies somewhere. -/
def TL (w : World) (v : Value) (ts : List Tk) : Prop := ∃ A cap, v = .slice A ts.length cap ∧ (∀ i t, ts[i]? = some t → ∃ ad, A = some ad ∧ w.cell? (ad.add (i * 2)) = some (.int .i64 t.kind) ∧ w.cell? (ad.add (i * 2 + 1)) = some (.int .i32 t.r)) ∧ (A = none → cap = 0)
theorem TL.grown {w w' : World} {v : Value} {ts : List Tk} (h : TL w v ts) (hg : w.grownBy w' none) : TL w' v ts := by
  obtain ⟨A, cap, e, hh, hz⟩ := h
  refine ⟨A, cap, e, fun i t hi => ?_, hz⟩
  obtain ⟨ad, ea, h1, h2⟩ := hh i t hi
  exact ⟨ad, ea, hg.cell h1 (by simp), hg.cell h2 (by simp)⟩
theorem TL.heap {w w' : World} {v : Value} {ts : List Tk} (h : TL w v ts) (e : w'.heap = w.heap) : TL w' v ts := by
  obtain ⟨A, cap, ev, hh, hz⟩ := h
  refine ⟨A, cap, ev, fun i t hi => ?_, hz⟩
  obtain ⟨ad, ea, h1, h2⟩ := hh i t hi
  refine ⟨ad, ea, ?_, ?_⟩
  · rw [← h1]; simp only [World.cell?, e]
  · rw [← h2]; simp only [World.cell?, e]
theorem tkCells_at : ∀ (ts : List Tk) (i : Nat) (t : Tk), ts[i]? = some t → (tkCells ts)[i * 2]? = some (.int .i64 t.kind) ∧ (tkCells ts)[i * 2 + 1]? = some (.int .i32 t.r)
  | [], i, t, h => by simp at h
  | x :: xs, 0, t, h => by simp at h; subst h; simp [tkCells]
  | x :: xs, i + 1, t, h => by
    have := tkCells_at xs i t (by simpa using h)
    rw [show tkCells (x :: xs) = .int .i64 x.kind :: .int .i32 x.r :: tkCells xs from rfl, show (i + 1) * 2 = i * 2 + 1 + 1 by omega]
    simpa using this
theorem OwnT.lies {w : World} {B : Nat} {v : Value} {ts : List Tk} (h : OwnT w B v ts) : TL w v ts := by
  rcases h.2 with ⟨hv, hn⟩ | ⟨g, cap, cur, hv, hg, hh, hnc, hcm, hcs, hct⟩
  · have := List.eq_nil_of_length_eq_zero hn
    subst this
    exact ⟨none, 0, hv, fun i t hi => by simp at hi, fun _ => rfl⟩
  · refine ⟨_, cap, hv, fun i t hi => ⟨_, rfl, ?_, ?_⟩, fun e => by cases e⟩
    all_goals
      have hl : i < ts.length := (List.getElem?_eq_some_iff.1 hi).1
      rw [show ∀ j, (⟨g, 0, none⟩ : Addr).add j = ⟨g, j, none⟩ from fun j => by unfold Addr.add; split <;> simp_all, cell_of_row w g _ cur 34 (0, 0) hh]
    · have h1 : (tkCells ts)[i * 2]? = some (.int .i64 t.kind) := (tkCells_at _ _ _ hi).1
      rw [← hct, List.getElem?_take, if_pos (by omega)] at h1
      simpa using h1
    · have h1 : (tkCells ts)[i * 2 + 1]? = some (.int .i32 t.r) := (tkCells_at _ _ _ hi).2
      rw [← hct, List.getElem?_take, if_pos (by omega)] at h1
      simpa using h1

/-- A pattern's cells, its four rows given. -/
def ptCells (v1 v2 v3 v4 : Value) (p : Pt) : Array Value :=
  #[v1, v2, v3, v4, .bool p.neg, .int .i64 p.nm.hash, .int .i64 p.nm.minInt, .int .i64 p.nm.minFrac, .int .i64 p.nm.maxFrac, .int .i64 p.nm.g1, .int .i64 p.nm.g2,
    .int .i64 p.nm.minSig, .int .i64 p.nm.maxSig, .int .i64 p.nm.exp, .bool p.nm.expPlus, .int .i32 p.pad, .int .i64 p.padAt]
/-- A pattern as a value. -/
def PatV (w : World) (u : Value) (p : Pt) : Prop := ∃ v1 v2 v3 v4, u = .agg (ptCells v1 v2 v3 v4 p) ∧ TL w v1 p.pre ∧ TL w v2 p.suf ∧ TL w v3 p.npre ∧ TL w v4 p.nsuf
theorem PatV.grown {w w' : World} {u : Value} {p : Pt} (h : PatV w u p) (hg : w.grownBy w' none) : PatV w' u p := by
  obtain ⟨v1, v2, v3, v4, e, h1, h2, h3, h4⟩ := h
  exact ⟨v1, v2, v3, v4, e, h1.grown hg, h2.grown hg, h3.grown hg, h4.grown hg⟩

/-- What Parse answers. -/
def ParseV (o : Option Pt) (e : Ending) (w' : World) : Prop :=
  match o with
  | none => ∃ u at_ code, e = .returned (.tuple #[u, .int .i64 at_, .int .i64 code]) ∧ code ≠ 0 ∧ PatV w' u zPt
  | some p => ∃ u, e = .returned (.tuple #[u, .int .i64 0, .int .i64 0]) ∧ PatV w' u p

theorem bytes_BL (w : World) (rs : List Int) (cap : Nat) (g : Nat) (fz : Nat × Nat) (h : w.heap[g]? = some (.cells (bytesRow (strOf rs) cap) 5 fz)) : BL w (some ⟨g, 0, none⟩) (encL rs) := by
  intro i c hc
  refine ⟨_, rfl, ?_⟩
  rw [show (⟨g, 0, none⟩ : Addr).add i = ⟨g, i, none⟩ by unfold Addr.add; split <;> simp_all, cell_of_row w g i _ 5 fz h]
  have hl : i < (encL rs).length := (List.getElem?_eq_some_iff.1 hc).1
  have hb := encL_byte rs c (List.mem_of_getElem? hc)
  rw [bytesRow, Array.getElem?_append_left (by rw [Array.size_map]; show i < (strOf rs).size; rw [strOf_size]; exact hl), Array.getElem?_map, ← Array.getElem?_toList, strOf_data, List.getElem?_map, hc]
  simp
  omega

def zCells : Array Value := ptCells (.slice none 0 0) (.slice none 0 0) (.slice none 0 0) (.slice none 0 0) zPt
theorem zPat (w : World) : PatV w (.agg zCells) zPt :=
  ⟨_, _, _, _, rfl, ⟨none, 0, rfl, fun i t h => by simp [zPt] at h, fun _ => rfl⟩, ⟨none, 0, rfl, fun i t h => by simp [zPt] at h, fun _ => rfl⟩, ⟨none, 0, rfl, fun i t h => by simp [zPt] at h, fun _ => rfl⟩, ⟨none, 0, rfl, fun i t h => by simp [zPt] at h, fun _ => rfl⟩⟩

theorem encL_le (rs : List Int) (hr : ∀ r ∈ rs, isRune r = true) : (encL rs).length ≤ 4 * rs.length := by
  induction rs with
  | nil => simp [encL]
  | cons r rs ih =>
    have h1 := ih fun x hx => hr x (by simp [hx])
    have h2 := (enc_pos r (hr r (by simp))).2
    rw [encL_cons]; simp; omega

theorem decode_str (w : World) (rs : List Int) (hr : ∀ r ∈ rs, isRune r = true) (hl : rs.length ≤ 8192) (cap : Nat) (hcap : (strOf rs).size ≤ cap) (fz : Nat × Nat) :
    Calls Try.prog 35 #[.slice (some ⟨w.heap.size + 1, 0, none⟩) (strOf rs).size cap] ((w.alloc (.cells zCells 24)).alloc (.cells (bytesRow (strOf rs) cap) 5 fz)).drew fun e w' =>
      ∃ v, e = .returned (.tuple #[v, .int .i64 0, .int .i64 0]) ∧ OwnR w' w.heap.size v rs ∧ w.grownBy w' none ∧ Blk w' w.heap.size 24 zCells := by
  rw [strOf_size] at hcap ⊢
  have h1 := heap_alloc_new (w.alloc (.cells zCells 24)) (.cells (bytesRow (strOf rs) cap) 5 fz)
  rw [show (w.alloc (.cells zCells 24)).heap.size = w.heap.size + 1 by simp] at h1
  have g1 : w.grownBy ((w.alloc (.cells zCells 24)).alloc (.cells (bytesRow (strOf rs) cap) 5 fz)).drew none := only_drew (only_alloc (only_alloc (only_refl _ _) _) _)
  refine (decode_any ((w.alloc (.cells zCells 24)).alloc (.cells (bytesRow (strOf rs) cap) 5 fz)).drew (some ⟨w.heap.size + 1, 0, none⟩) cap rs hr (bytes_BL _ rs cap _ fz h1) (fun ad e => by injection e with e; subst e; exact ⟨_, _, h1⟩) hcap (by have := encL_le rs hr; omega)).mono ?_
  rintro e w' ⟨v, rfl, ho, hg⟩
  refine ⟨v, rfl, ?_, only_trans g1 hg, ?_⟩
  · refine ⟨ho.1, ?_⟩
    rcases ho.2 with h' | ⟨g, cap, cur, hv, hg, r⟩
    · exact .inl h'
    · refine .inr ⟨g, cap, cur, hv, ?_, r⟩
      have := g1.size
      omega
  · exact Blk.grown (w := ((w.alloc (.cells zCells 24)).alloc (.cells (bytesRow (strOf rs) cap) 5 fz)).drew) ((Blk.new w 24 zCells).alloc _) hg (by simp)

theorem placesL_bound : ∀ (l : List Int) (h m n : Int) (gs : List Int) (q : (Int × Int × Int × Int) × List Int), placesL h m n gs l = some q → h ≤ q.1.1 ∧ m ≤ q.1.2.1 ∧ q.1.1 + q.1.2.1 ≤ h + m + l.length
  | [], h, m, n, gs, q, hq => by
    simp only [placesL] at hq
    split at hq
    · cases hq
    · injection hq with hq; subst hq; simp
  | c :: t, h, m, n, gs, q, hq => by
    simp only [placesL] at hq
    split at hq
    · have := placesL_bound t _ _ _ _ q hq; simp; omega
    · split at hq
      · have := placesL_bound t _ _ _ _ q hq; simp; omega
      · split at hq
        · split at hq
          · cases hq
          · have := placesL_bound t _ _ _ _ q hq; simp; omega
        · split at hq
          · cases hq
          · injection hq with hq; subst hq; simp; omega
theorem numberL_bound {l : List Int} {q : Nm × List Int} (h : numberL l = some q) : 0 ≤ q.1.hash ∧ 0 ≤ q.1.minInt ∧ q.1.hash + q.1.minInt ≤ l.length := by
  simp only [numberL] at h
  obtain ⟨a, ha, h2⟩ := Option.bind_eq_some_iff.1 h
  obtain ⟨e, he, rfl⟩ := Option.map_eq_some_iff.1 h2
  split at ha
  · injection ha with ha
    subst ha
    simp [zNm]
  · obtain ⟨p, hp, h5⟩ := Option.bind_eq_some_iff.1 ha
    obtain ⟨f, hf, rfl⟩ := Option.map_eq_some_iff.1 h5
    have := placesL_bound _ _ _ _ _ _ hp
    simp only
    omega
theorem padL_le {wh : Int} {pd : Int × Int} {l : List Int} {q : (Int × Int) × List Int} (h : padL wh pd l = some q) : q.2.length ≤ l.length := by
  simp only [padL] at h
  split at h
  · injection h with h; subst h; simp
  · split at h
    · injection h with h; subst h; simp
    · split at h
      · split at h
        · cases h
        · injection h with h; subst h; simp; omega
      · injection h with h; subst h; simp
theorem affixF_le : ∀ (n : Nat) (l : List Int) (q : List Tk × List Int), affixF n l = some q → q.2.length ≤ l.length
  | 0, _, _, h => by simp [affixF] at h
  | n + 1, [], q, h => by simp [affixF] at h; subst h; simp
  | n + 1, c :: t, q, h => by
    simp only [affixF] at h
    split at h
    · obtain ⟨p, hp, rfl⟩ := Option.map_eq_some_iff.1 h
      have := affixF_le n _ p hp; simp; omega
    · split at h
      · split at h
        · obtain ⟨p, hp, rfl⟩ := Option.map_eq_some_iff.1 h
          have := affixF_le n _ p hp; simp at this ⊢; omega
        · obtain ⟨a, ha, h2⟩ := Option.bind_eq_some_iff.1 h
          obtain ⟨p, hp, rfl⟩ := Option.map_eq_some_iff.1 h2
          have := affixF_le n _ p hp
          have := quotedL_le _ t (Nat.le_refl _) a ha
          simp; omega
      · split at h
        · injection h with h; subst h; simp
        · obtain ⟨p, hp, rfl⟩ := Option.map_eq_some_iff.1 h
          have := affixF_le n _ p hp; simp; omega
theorem affixL_le {l : List Int} {q : List Tk × List Int} (h : affixL l = some q) : q.2.length ≤ l.length := affixF_le _ l q h
theorem wholeL_num {l : List Int} {p : Pt} (h : wholeL l = some p) : ∃ u q, numberL u = some q ∧ u.length ≤ l.length ∧ p.nm = q.1 := by
  obtain ⟨a, ha, h1⟩ := Option.bind_eq_some_iff.1 h
  obtain ⟨pre, hpre, h2⟩ := Option.bind_eq_some_iff.1 h1
  obtain ⟨b, hb, h3⟩ := Option.bind_eq_some_iff.1 h2
  obtain ⟨nm, hnm, h4⟩ := Option.bind_eq_some_iff.1 h3
  obtain ⟨c, hc, h5⟩ := Option.bind_eq_some_iff.1 h4
  obtain ⟨suf, hsuf, h6⟩ := Option.bind_eq_some_iff.1 h5
  obtain ⟨d, hd, h7⟩ := Option.bind_eq_some_iff.1 h6
  have l1 := padL_le ha
  have l2 := affixL_le hpre
  have l3 := padL_le hb
  refine ⟨b.2, nm, hnm, by omega, ?_⟩
  simp only [whole7] at h7
  split at h7
  · injection h7 with h7; rw [← h7]
  · split at h7
    · obtain ⟨npre, hnp, h8⟩ := Option.bind_eq_some_iff.1 h7
      obtain ⟨u, hu, h9⟩ := Option.bind_eq_some_iff.1 h8
      obtain ⟨nsuf, hns, h10⟩ := Option.bind_eq_some_iff.1 h9
      split at h10
      · injection h10 with h10; rw [← h10]
      · cases h10
    · cases h7
theorem wholeL_bound {l : List Int} {p : Pt} (h : wholeL l = some p) : 0 ≤ p.nm.hash ∧ 0 ≤ p.nm.minInt ∧ p.nm.hash + p.nm.minInt ≤ l.length := by
  obtain ⟨u, q, h1, h2, h3⟩ := wholeL_num h
  have := numberL_bound h1
  rw [h3]
  omega

theorem info24 : (Try.prog.info? 24).map (·.size) = some 17 := by kernel_rfl
theorem info61 : (Try.prog.info? 61).map (·.size) = some 19 := by kernel_rfl
theorem ret24 {fn : Func} {x y z : Tmp} (h : fn.results = #[.cell x 24, .tmp y, .tmp z]) (tmps : Array Value) (w : World) (g : Nat) (cs : Array Value) (hp : tmps.getD x undef = .pointer (some ⟨g, 0, none⟩)) (hb : Blk w g 24 cs) (hs : cs.size = 17) :
    (results fn tmps).run Try.prog w = .ok (.tuple #[.agg cs, tmps.getD y undef, tmps.getD z undef]) w := by
  have := run_loadVar_row (P := Try.prog) w g 24 24 cs (0, 0) _ hb Try.underlying24 rfl (by rw [hs]; exact info24)
  rw [Array.getD_eq_getD_getElem?] at hp
  simp [results, h, hp, asAddr, this]
theorem Blk.row {w : World} {g : Nat} {t : TypeId} {cs : Array Value} (h : Blk w g t cs) (cs' : Array Value) : Blk (w.setRow g cs') g t cs' := setRow_heap w g cs cs' t (0, 0) h
theorem only_row {a w : World} {row : Option Nat} (h : a.grownBy w row) {g : Nat} (hp : some g = row ∨ a.heap.size ≤ g) (cs : Array Value) : a.grownBy (w.setRow g cs) row :=
  ⟨h.os, h.tape, h.output, by rw [setRow_size]; exact h.size, fun i hi hne => by
    rw [setRow_other w g i cs (fun e => by subst e; rcases hp with hp | hp; exact hne hp; omega)]
    exact h.block i hi hne⟩

theorem run_max_int4 (ts : Array TypeId) (t : TypeId) (x y z u : Int) (w : World) : (Builtin.max_ ts t #[.int .i64 x, .int .i64 y, .int .i64 z, .int .i64 u]).run Try.prog w = .ok (.int .i64 (max (max (max x y) z) u)) w := by
  have hm : ∀ a b : Int, (if b > a then b else a) = max a b := fun a b => by split <;> omega
  simp only [← hm]
  simp [Builtin.max_, Builtin.max2]
theorem Rd.range {w : World} {rb : Nat} {A : Option Addr} {cap : Nat} {l : List Int} {k : Nat} {v1 v2 v3 v4 : Value} {p : Pt} (h : Rd w rb A cap l ⟨k, v1, v2, v3, v4, p.neg, p.nm, p.pad, p.padAt⟩) : w.rangeAt rb 2 (ptCells v1 v2 v3 v4 p).toList := by
  intro j v hj
  rw [h.blk.cell (2 + j), ← Array.getElem?_toList, Nat.add_comm]
  exact hj
theorem info24c (v1 v2 v3 v4 : Value) (p : Pt) : (Try.prog.info? 24).map (·.size) = some (ptCells v1 v2 v3 v4 p).toList.length := info24
def rs0 : RS := ⟨0, .slice none 0 0, .slice none 0 0, .slice none 0 0, .slice none 0 0, false, zNm, 0, 0⟩
theorem read_new (w w2 : World) (A : Option Addr) (cap : Nat) (rs : List Int) (hg : w.grownBy w2 none) (hb : Blk w2 w.heap.size 24 zCells) (hrl : RL w2 A rs) (hty : ∀ ad, A = some ad → Typ w2 ad.block 21) (hl : rs.length ≤ 120) (hcap : rs.length ≤ cap) :
    Calls Try.prog 36 #[.pointer (some ⟨w2.heap.size, 0, none⟩)] (w2.alloc (.cells (rs0.cells (.slice A rs.length cap)) 61)) fun e w' =>
      RPost (w2.heap.size + 1) w2.heap.size A cap rs (wholeL rs) e w' ∧ w.grownBy w' none ∧ Blk w' w.heap.size 24 zCells := by
  have hr : Rd (w2.alloc (.cells (rs0.cells (.slice A rs.length cap)) 61)) w2.heap.size A cap rs rs0 :=
    ⟨heap_alloc_new w2 _, hrl.grown (only_alloc (only_refl w2 none) _) (by simp), fun ad e => (hty ad e).grown (only_alloc (only_refl w2 none) _) (by simp), hl, Nat.zero_le _⟩
  refine (read_any hr hcap).mono ?_
  rintro e w' ⟨hp, hg2⟩
  rw [show (w2.alloc (.cells (rs0.cells (.slice A rs.length cap)) 61)).heap.size = w2.heap.size + 1 by simp] at hp
  refine ⟨hp, only_new (only_alloc hg _) hg2 hg.size, (hb.alloc _).grown hg2 ?_⟩
  have := hb.lt
  intro e; injection e; omega

set_option maxRecDepth 100000 in
set_option maxHeartbeats 1600000 in
theorem parse_any (w : World) (rs : List Int) (hr : ∀ r ∈ rs, isRune r = true) (hl : rs.length ≤ 8192) :
    Calls Try.prog 19 #[.string (strOf rs)] w fun e w' => ParseV (parseL rs) e w' ∧ w.grownBy w' none := by
  have hcv2 := fun w s => run_bytes_of_string (P := Try.prog) w 9 46 5 s Try.underlying9 Try.underlying46 Try.underlying5
  have hmx4 := run_max_int4
  have HD := Lib.hid (decode_str w rs hr hl)
  have HGE := Lib.hid (grownCap_ge)
  clear hr hl
  go_enter Try.func19, Try.ntmps19
  go_wp2_with fail
  generalize hcap : grownCap _ (strOf rs).size 0 5 = cap
  have hc2 : (strOf rs).size ≤ cap := by rw [← hcap]; exact HGE.out _ _ _ _
  refine (HD.out cap hc2 _).mono ?_
  rintro e w2 ⟨v5, rfl, ho, hg, hb⟩
  obtain ⟨A5, cap5, rfl, hle5, hrl5, hty5⟩ := ho.form
  have HG := Lib.hid hg
  have HB := Lib.hid hb
  have HR5 := Lib.hid hrl5
  have HT5 := Lib.hid hty5
  have HC5 := Lib.hid hle5
  have b2 := hb.cell
  have f2 := hb.frozen
  clear hg hb hrl5 hty5 hle5 ho hcap hc2 HGE HD
  by_cases hl : 120 < rs.length
  · have HP : Hid (parseL rs = none) := by simp [Hid, parseL, hl]
    have hl2 : decide ((120 : Int) < (rs.length : Int)) = true := by simp; omega
    go_wp2_with (refine wpList_store_row rfl 24 _ _ rfl w.heap.size _ rfl rfl 24 zCells HB.out (by exact info24) (by rfl) (by simp [Value.oneCell']) ?_)
    refine bodyPost_ret (ret24 rfl _ _ w.heap.size zCells rfl (HB.out.row _) rfl) rfl ?_
    refine ⟨?_, only_row HG.out (.inr (Nat.le_refl _)) _⟩
    rw [HP.out]
    exact ⟨_, _, _, rfl, by decide, zPat _⟩
  · have hl2 : decide ((120 : Int) < (rs.length : Int)) = false := by simp; omega
    have C0 := read_new w w2 A5 cap5 rs HG.out HB.out HR5.out HT5.out (by omega) HC5.out
    cases hw : wholeL rs with
    | none =>
      have HP : Hid (parseL rs = none) := by simp [Hid, parseL, hl, hw]
      rw [hw] at C0
      have C := Lib.hid C0
      clear C0 hw hl HR5 HT5 HC5
      go_wp2_with (first
        | (go_at_call 36; refine C.out.mono ?_; rintro e w3 ⟨⟨x, rfl⟩, hg3, hb3⟩; have HG3 := Lib.hid hg3; have HB3 := Lib.hid hb3; clear hg3 hb3)
        | (refine wpList_store_row rfl 24 _ _ rfl w.heap.size _ rfl rfl 24 zCells HB3.out (by exact info24) (by rfl) (by simp [Value.oneCell']) ?_))
      refine bodyPost_ret (ret24 rfl _ _ w.heap.size zCells rfl (HB3.out.row _) rfl) rfl ?_
      refine ⟨?_, only_row HG3.out (.inr (Nat.le_refl _)) _⟩
      rw [HP.out]
      exact ⟨_, _, _, rfl, by decide, zPat _⟩
    | some p =>
      rw [hw] at C0
      have HPB : Hid (0 ≤ p.nm.hash ∧ p.nm.hash ≤ 120 ∧ 0 ≤ p.nm.minInt ∧ p.nm.minInt ≤ 120) := by have := wholeL_bound hw; show _ ∧ _; omega
      obtain ⟨hb1, hb2, hb3, hb4⟩ := HPB.out
      have C := Lib.hid C0
      clear C0 HR5 HT5 HC5
      by_cases hbig : 40 < p.nm.hash + p.nm.minInt ∨ 40 < p.nm.maxFrac ∨ 40 < p.nm.maxSig ∨ 40 < p.nm.exp
      · have HP : Hid (parseL rs = none) := by simp [Hid, parseL, hl, hw, hbig]
        have hmx : decide (40 < max (p.nm.hash + p.nm.minInt) (max p.nm.maxFrac (max p.nm.maxSig p.nm.exp))) = true := by simp; omega
        clear hbig hw hl
        go_wp2_with (first
          | (go_at_call 36; refine C.out.mono ?_; rintro e w3 ⟨⟨rfl, k, v1, v2, v3, v4, hR, o1, o2, o3, o4⟩, hg3, hb3⟩; have d5 := hR.c7; have d6 := hR.c8; have d8 := hR.c10; have d12 := hR.c14; have d13 := hR.c15; have HG3 := Lib.hid hg3; have HB3 := Lib.hid hb3; have HR := Lib.hid hR; clear hg3 hb3 hR o1 o2 o3 o4))
        go_quiet (fail)
        go_wp2_with (refine wpList_store_row rfl 24 _ _ rfl w.heap.size _ rfl rfl 24 zCells (HB3.out.drewN _) (by exact info24) (by rfl) (by simp [Value.oneCell']) ?_)
        refine bodyPost_ret (ret24 rfl _ _ w.heap.size zCells rfl ((HB3.out.drewN _).row _) rfl) rfl ?_
        refine ⟨?_, only_row (only_drewN HG3.out _) (.inr (Nat.le_refl _)) _⟩
        rw [HP.out]
        exact ⟨_, _, _, rfl, by decide, zPat _⟩
      · have HP : Hid (parseL rs = some p) := by simp [Hid, parseL, hl, hw, hbig]
        have hmx : decide (40 < max (p.nm.hash + p.nm.minInt) (max p.nm.maxFrac (max p.nm.maxSig p.nm.exp))) = false := by simp; omega
        clear hbig hw hl
        go_wp2_with (first
          | (go_at_call 36; refine C.out.mono ?_; rintro e w3 ⟨⟨rfl, k, v1, v2, v3, v4, hR, o1, o2, o3, o4⟩, hg3, hb3⟩; have d5 := hR.c7; have d6 := hR.c8; have d8 := hR.c10; have d12 := hR.c14; have d13 := hR.c15; have HG3 := Lib.hid hg3; have HB3 := Lib.hid hb3; have HR := Lib.hid hR; have HO := Lib.hid (And.intro o1 (And.intro o2 (And.intro o3 o4))); clear hg3 hb3 hR o1 o2 o3 o4))
        go_quiet (fail)
        have HONE : Hid ((ptCells v1 v2 v3 v4 p).all (·.oneCell') = true) := by
          obtain ⟨a1, c1, rfl⟩ := HO.out.1.form
          obtain ⟨a2, c2, rfl⟩ := HO.out.2.1.form
          obtain ⟨a3, c3, rfl⟩ := HO.out.2.2.1.form
          obtain ⟨a4, c4, rfl⟩ := HO.out.2.2.2.form
          simp [Hid, ptCells, Value.oneCell']
        clear d5 d6 d8 d12 d13
        go_wp2_with (first
          | (refine wpList_store_row rfl 24 _ _ rfl w.heap.size (ptCells v1 v2 v3 v4 p) rfl rfl 24 zCells (HB3.out.drewN _) info24 (by rfl) (by exact HONE.out) ?_)
          | (refine wpList_load_mid rfl 24 _ rfl w2.heap.size 2 rfl (ptCells v1 v2 v3 v4 p).toList _ (by exact (HR.out.drewN _).range) Try.underlying24 rfl (info24c _ _ _ _ _) ?_))
        refine bodyPost_ret (ret24 rfl _ _ w.heap.size (ptCells v1 v2 v3 v4 p) rfl ((HB3.out.drewN _).row _) rfl) rfl ?_
        refine ⟨?_, only_row (only_drewN HG3.out _) (.inr (Nat.le_refl _)) _⟩
        rw [HP.out]
        obtain ⟨o1, o2, o3, o4⟩ := HO.out
        have g1 : w3.grownBy ((w3.drewN nq).setRow w.heap.size (ptCells v1 v2 v3 v4 p)) (some w.heap.size) := only_row (only_drewN (only_refl _ _) _) (.inl rfl) _
        have hf : Far w3 (some w.heap.size) 34 := HB3.out.far1 (by decide)
        exact ⟨_, rfl, v1, v2, v3, v4, rfl, (o1.grown g1 hf).lies, (o2.grown g1 hf).lies, (o3.grown g1 hf).lies, (o4.grown g1 hf).lies⟩
end Go.Proofs.Ytdbcdgojbegakaa

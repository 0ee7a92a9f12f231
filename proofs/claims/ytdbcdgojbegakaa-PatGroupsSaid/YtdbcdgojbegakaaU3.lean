/-
utf.Decode: a text's bytes are the runes of the text.
-/
import Derived.Test.YtdbcdgojbegakaaU2
import Derived.Test.YtdbcdgojbegakaaR5
namespace Go.Proofs.Ytdbcdgojbegakaa
open Go.RowKit

/-- The bytes of a list of runes. -/
def encL (rs : List Int) : List Int := rs.flatMap Lib.encodeRuneZ
theorem encL_append (a b : List Int) : encL (a ++ b) = encL a ++ encL b := by simp [encL]
theorem encL_cons (r : Int) (b : List Int) : encL (r :: b) = Lib.encodeRuneZ r ++ encL b := by simp [encL]

/-- A row of runes that the call owns. -/
def OwnR (w : World) (B : Nat) (v : Value) (gs : List Int) : Prop := w.ownsRow B 21 1 v gs.length (gs.map (.int .i32))
theorem OwnR.nil_ (w : World) (B : Nat) : OwnR w B (.slice none 0 0) [] := World.ownsRow_nil w B 21 1
theorem OwnR.typ {w : World} {B : Nat} {v : Value} {gs : List Int} (h : OwnR w B v gs) {k : Nat} (hk : v.ownBlock = some k) : Typ w k 21 := by
  rcases h.2 with ⟨rfl, _⟩ | ⟨g, cap, cur, rfl, _, hh, _⟩
  · simp [Value.ownBlock] at hk
  · have : g = k := by simpa [Value.ownBlock] using hk
    subst this
    exact ⟨cur, (0, 0), hh⟩
theorem OwnR.grown {w w' : World} {B : Nat} {v : Value} {gs : List Int} {row : Option Nat} (h : OwnR w B v gs) (hg : w.grownBy w' row) (hf : Far w row 21) : OwnR w' B v gs := by
  refine World.ownsRow.kept h hg ?_
  rcases hv : v.ownBlock with _ | k
  · exact .inl rfl
  · exact .inr (hf.ne (h.typ hv))
theorem OwnR.far {w : World} {B : Nat} {v : Value} {gs : List Int} (h : OwnR w B v gs) {e : TypeId} (he : (21 : Nat) ≠ e) : Far w v.ownBlock e := far_own h he
theorem OwnR.heap {w w' : World} {B : Nat} {v : Value} {gs : List Int} (h : OwnR w B v gs) (e : w'.heap = w.heap) : OwnR w' B v gs := by
  refine ⟨h.1, ?_⟩
  rw [e]
  exact h.2
theorem OwnR.alloc {w : World} {B : Nat} {v : Value} {gs : List Int} (h : OwnR w B v gs) (o : Obj) : OwnR (w.alloc o) B v gs := World.ownsRow.alloc h o
theorem OwnR.form {w : World} {B : Nat} {v : Value} {gs : List Int} (h : OwnR w B v gs) :
    ∃ A cap, v = .slice A gs.length cap ∧ gs.length ≤ cap ∧ RL w A gs ∧ ∀ ad, A = some ad → Typ w ad.block 21 := by
  rcases h.2 with ⟨hv, hn⟩ | ⟨g, cap, cur, hv, hg, hh, hnc, hcm, hcs, hct⟩
  · have := List.eq_nil_of_length_eq_zero hn
    subst this
    exact ⟨none, 0, hv, by simp, fun i x hx => by simp at hx, fun ad e => by cases e⟩
  · refine ⟨_, cap, hv, hnc, fun i x hx => ⟨_, rfl, ?_⟩, fun ad e => ?_⟩
    · have hl : i < gs.length := (List.getElem?_eq_some_iff.1 hx).1
      have h1 : (gs.map (Value.int .i32))[i]? = some (.int .i32 x) := by simp [hx]
      rw [← hct, List.getElem?_take, if_pos (by omega)] at h1
      have e : (⟨g, 0, none⟩ : Addr).add i = ⟨g, i, none⟩ := by unfold Addr.add; split <;> simp_all
      rw [e, cell_of_row w g i cur 21 (0, 0) hh]
      simpa using h1
    · injection e with e
      subst e
      exact ⟨cur, (0, 0), hh⟩

/-- append of one rune, laid in a new block, onto a row of the call's own. -/
theorem wpList_append_rune {ops : Array Oper} {rest : List Oper} {o : Oper} {a : Act} {Q : Exit → Act → World → Prop} (w0 : World) (hgd : o.guard = none) (s x : Operand)
    (ho : o.op = .call { callee := .builtin .append, args := #[s, x], argTypes := #[56, 56] }) (B : Nat) (v : Value) (gs : List Int) (n : Int)
    (hs : a.eval s = v) (hown : OwnR w0 B v gs) (g : Nat) (hx : a.eval x = .slice (some ⟨g, 0, none⟩) 1 1) (hg : g = w0.heap.size) (hlen : gs.length ≤ 65536) (hB : B ≤ w0.heap.size)
    (h : ∀ v' w', OwnR w' B v' (gs ++ [n]) → (w0.alloc (.cells #[.int .i32 n] 21)).grownBy w' v.ownBlock → wpList Try.prog ops Q rest (a.put o.dst v') w') :
    wpList Try.prog ops Q (o :: rest) a (w0.alloc (.cells #[.int .i32 n] 21)) := by
  subst hg
  obtain ⟨i0, hi, hz0, hz1, hz2⟩ := info_parts info21
  refine wpList_append_own _ hgd s x 56 ho B 21 i0 _ 1 4 Try.underlying56 hi hz0 hz1 hz2 rfl (by decide) v gs.length (gs.map (.int .i32)) hs (World.ownsRow.alloc hown _) ⟨w0.heap.size, 0, none⟩ 1 1
    [.int .i32 n] hx rfl (cell_one_new _ _ _) (by simp [Value.oneCell']) (by simp only [maxLen]; omega) (by omega) (by simp; omega) ?_
  intro v' w' h1 h2 _
  refine h v' w' ?_ h2
  show w'.ownsRow B 21 1 v' (gs ++ [n]).length ((gs ++ [n]).map (.int .i32))
  rw [List.map_append, List.length_append]
  exact h1

theorem enc_pos (r : Int) (hr : isRune r = true) : 0 < (Lib.encodeRuneZ r).length ∧ (Lib.encodeRuneZ r).length ≤ 4 := by
  obtain ⟨c, ts, u0, he, _, _, _, _, _, _, _, hl⟩ := enc_split r hr
  rw [he]; simp; omega

theorem BL.drop {w : World} {ad : Addr} {l m : List Int} (h : BL w (some ad) (l ++ m)) : BL w (some (ad.add l.length)) m := by
  intro i c hc
  obtain ⟨ad', e, hh⟩ := h (l.length + i) c (by rw [List.getElem?_append_right (by omega)]; simpa using hc)
  injection e with e
  subst e
  exact ⟨_, rfl, by rw [add_of_add]; exact hh⟩
theorem BL.grown {w w' : World} {A : Option Addr} {l : List Int} {row : Option Nat} (h : BL w A l) (hg : w.grownBy w' row) (hne : ∀ ad, A = some ad → some ad.block ≠ row) : BL w' A l := by
  intro i c hc
  obtain ⟨ad, e, hh⟩ := h i c hc
  exact ⟨ad, e, hg.cell hh (by rw [block_of_add]; exact hne ad e)⟩

set_option maxRecDepth 100000 in
set_option maxHeartbeats 800000 in
theorem decode_any (w : World) (A : Option Addr) (cap : Nat) (rs : List Int) (hr : ∀ r ∈ rs, isRune r = true) (hb : BL w A (encL rs)) (ht : ∀ ad, A = some ad → Typ w ad.block 5) (hn : (encL rs).length ≤ cap) (hl : (encL rs).length ≤ 65536) :
    Calls Try.prog 35 #[.slice A (encL rs).length cap] w fun e w' => ∃ v, e = .returned (.tuple #[v, .int .i64 0, .int .i64 0]) ∧ OwnR w' w.heap.size v rs ∧ w.grownBy w' none := by
  have HC : Hid (∀ (a : List Int) (r : Int) (b : List Int) (W : World) (ad : Addr), rs = a ++ r :: b → A = some ad → w.grownBy W none → Calls Try.prog 58 #[.slice (some (ad.add (encL a).length)) ((encL rs).length - (encL a).length) (cap - (encL a).length)] W fun e w' => e = .returned (.tuple #[.int .i32 r, .int .i64 ((Lib.encodeRuneZ r).length : Nat)]) ∧ W.grownBy w' none) := by
    intro a r b W ad e hA hg
    subst e
    have hb2 := hb.grown hg (by intro ad e; simp)
    rw [hA, encL_append, encL_cons] at hb2
    have := first_any W (some (ad.add (encL a).length)) (cap - (encL a).length) r (encL b) (hr r (by simp)) hb2.drop (by rw [encL_append, encL_cons] at hn; simp at hn ⊢; omega) (by rw [encL_append, encL_cons] at hl; simp at hl ⊢; omega)
    rw [show (encL (a ++ r :: b)).length - (encL a).length = (Lib.encodeRuneZ r ++ encL b).length by rw [encL_append, encL_cons]; simp]
    exact this
  have HR := Lib.hid hr
  have HA : Hid (0 < (encL rs).length → ∃ ad, A = some ad) := by
    intro h
    obtain ⟨ad, e, _⟩ := hb 0 (encL rs)[0] (List.getElem?_eq_getElem h)
    exact ⟨ad, e⟩
  have HAL0 : Hid (∀ a b, rs = a ++ b → a.length ≤ 65536) := by
    intro a b e
    have h1 : ∀ rs : List Int, (∀ r ∈ rs, isRune r = true) → rs.length ≤ (encL rs).length := by
      intro rs
      induction rs with
      | nil => intro _; simp
      | cons x xs ih =>
        intro hx
        have := ih fun r h => hx r (by simp [h])
        have := (enc_pos x (hx x (by simp))).1
        rw [encL_cons]; simp; omega
    have h2 := h1 rs hr
    rw [e] at h2 hl
    simp at h2 hl
    omega
  have HW := Lib.hid (Nat.le_refl w.heap.size)
  generalize hm : (encL rs).length = m at *
  have HM := Lib.hid hm
  clear hr hb hm ht
  go_enter Try.func35, Try.ntmps35
  go_wp2_with fail
  go_loopg [5, 6] m (fun kq v5 v6 wr => ∃ (a b : List Int), rs = a ++ b ∧ v6 = .int .i64 (encL a).length ∧ Hid (kq + (encL a).length = m) ∧ Hid (OwnR wr w.heap.size v5 a) ∧ Hid (w.grownBy wr none))
  case atStart => exact ⟨[], rs, rfl, rfl, by simp [Hid, encL], OwnR.nil_ _ _, only_refl _ _⟩
  case round =>
    obtain ⟨a, b, hab, rfl, HK, HO, HG⟩ := hrel
    have hk := HK.out
    match b, hab with
    | [], hab =>
      have hab2 : rs = a := by simpa using hab
      subst hab2
      have hm2 : (encL rs).length = m := HM.out
      rw [hm2] at hk ⊢
      obtain ⟨A5, cap5, rfl, _⟩ := HO.out.form
      have HG2 := HG
      have HO2 := HO
      clear HM HK HA HC
      go_wp2
      go_ret3
      exact ⟨_, rfl, HO2.out, HG2.out⟩
    | r :: b, hab =>
      obtain ⟨A5, cap5, rfl, _⟩ := HO.out.form
      have hp := enc_pos r (HR.out r (by rw [hab]; simp))
      have hm2 : (encL a).length + ((Lib.encodeRuneZ r).length + (encL b).length) = m := by rw [← HM.out, hab, encL_append, encL_cons]; simp
      obtain ⟨ad, rfl⟩ := HA.out (by omega)
      have C := fun W hW => HC.out a r b W ad hab rfl hW
      have HC2 := Lib.hid C
      have HAB := Lib.hid hab
      clear C HC HA hab
      have HE : Hid ((encL (a ++ [r])).length = (encL a).length + (Lib.encodeRuneZ r).length) := by rw [encL_append]; simp [Hid, encL]
      generalize he : (encL a).length = e at *
      generalize hq : (Lib.encodeRuneZ r).length = q at *
      go_wp2_with fail
      have hlo : (e : Int) ≤ (m : Int) := by omega
      have hq0 : ((q : Int) == 0) = false := by simp; omega
      have HAL : Hid (a.length ≤ 65536) := HAL0.out a (r :: b) HAB.out
      go_wp2_with (first
        | (go_at_call 58; refine (HC2.out _ HG.out).mono ?_; rintro e2 w2 ⟨rfl, hg2⟩; have HG2 := Lib.hid (only_trans HG.out hg2); have HO2 := Lib.hid (HO.out.grown hg2 (Far.none_ _ _)); clear hg2)
        | (at_builtin; go_must (refine wpList_append_rune _ rfl (.tmp 23) (.tmp 25) rfl w.heap.size (.slice A5 a.length cap5) a r rfl (by exact HO2.out) _ rfl rfl (by exact HAL.out) (by exact HG2.out.size) ?_); intro v3 w3 hown hgr; have HG3 := Lib.hid (only_own (only_alloc HG2.out _) (HO2.out.alloc _) (Nat.le_refl _) hgr); have HO3 := Lib.hid hown; clear hgr hown))
      go_roundg (gk - q)
      case measure => have := HK.out; omega
      case rel => exact ⟨a ++ [r], b, by rw [HAB.out]; simp, by rw [HE.out]; rfl, by have := HE.out; have := HK.out; show _ = _; omega, HO3, HG3⟩

end Go.Proofs.Ytdbcdgojbegakaa

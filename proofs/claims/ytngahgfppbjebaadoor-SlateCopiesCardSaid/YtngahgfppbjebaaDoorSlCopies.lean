/-
  The law SlateCopies, walked.
-/
import Derived.Test.YtngahgfppbjebaaDoorSlBack
namespace Go.Proofs.YtngahgfppbjebaaDoor
open Go.RowKit
set_option linter.unusedVariables false
set_option linter.unusedSimpArgs false

/-- A slate with its results, a copy of it, both with what the document has. -/
structure CopyW (w0 w : World) (b1 g1 : Nat) (v1 : Value) (l1 : List Itm) (A1 : Option Addr) (b2 g2 : Nat) (v2 : Value) (l2 : List Itm) (A2 : Option Addr) : Prop where
  only : Only (Hi w0.heap.size) w0 w
  s1 : DoInv w w b1 g1 v1 v1 l1 A1 A1
  s2 : DoInv w w b2 g2 v2 v2 l2 A2 A2
  lb1 : w0.heap.size ≤ b1
  lg1 : w0.heap.size ≤ g1
  lb2 : w0.heap.size ≤ b2
  lg2 : w0.heap.size ≤ g2
  ne : g1 ≠ g2
  n12 : v1.ownBlock ≠ some g2
  n21 : v2.ownBlock ≠ some g1
  nv : ∀ j, v1.ownBlock = some j → v2.ownBlock ≠ some j
  na12 : NotAt A1 g2
  na21 : NotAt A2 g1
  nv12 : ∀ j, v2.ownBlock = some j → NotAt A1 j
  nv21 : ∀ j, v1.ownBlock = some j → NotAt A2 j
theorem DoInv.keep {w wr w2 : World} {base g : Nat} {v0 v : Value} {its : List Itm} {A0 A : Option Addr} (h : DoInv w wr base g v0 v its A0 A) (ho : Only Nob wr w2) : DoInv w2 w2 base g v v its A A := (h.nob ho).again
section
variable {w0 w w2 : World} {b1 g1 b2 g2 : Nat} {v1 v2 : Value} {l1 l2 : List Itm} {A1 A2 : Option Addr}
theorem CopyW.nob (h : CopyW w0 w b1 g1 v1 l1 A1 b2 g2 v2 l2 A2) (ho : Only Nob w w2) : CopyW w0 w2 b1 g1 v1 l1 A1 b2 g2 v2 l2 A2 :=
  ⟨h.only.hi0 ho, h.s1.keep ho, h.s2.keep ho, h.lb1, h.lg1, h.lb2, h.lg2, h.ne, h.n12, h.n21, h.nv, h.na12, h.na21, h.nv12, h.nv21⟩
theorem CopyW.swap (h : CopyW w0 w b1 g1 v1 l1 A1 b2 g2 v2 l2 A2) : CopyW w0 w b2 g2 v2 l2 A2 b1 g1 v1 l1 A1 :=
  ⟨h.only, h.s2, h.s1, h.lb2, h.lg2, h.lb1, h.lg1, fun e => h.ne e.symm, h.n21, h.n12, fun j h1 h2 => h.nv j h2 h1, h.na21, h.na12, h.nv21, h.nv12⟩
/-- More asks of the first one. -/
theorem CopyW.more {v3 : Value} {l3 : List Itm} {A0 A3 : Option Addr} (h : CopyW w0 w b1 g1 v1 l1 A1 b2 g2 v2 l2 A2) (k : DoInv w w2 b1 g1 v1 v3 l3 A0 A3) (hA : A0 = A1 ∨ A0 = A2) : CopyW w0 w2 b1 g1 v3 l3 A3 b2 g2 v2 l2 A2 := by
  have hs2 := h.s2.both.sl.cell.lt
  have hv2 : ∀ j, v2.ownBlock = some j → j < w.heap.size := fun j hj => (h.s2.both.sl.own_lt hj).2
  have hb1 := h.lb1
  have hS : ∀ j, j = g1 ∨ v1.ownBlock = some j → w0.heap.size ≤ j := by
    rintro j (hj | hj)
    · rw [hj]; exact h.lg1
    · have := (h.s1.both.sl.own_lt hj).1
      omega
  refine ⟨h.only.hi k.only hS, k.again, h.s2.other k.only ?_ ?_ ?_ ?_, h.lb1, h.lg1, h.lb2, h.lg2, h.ne, ?_, h.n21, ?_, ?_, h.na21, ?_, ?_⟩
  · rintro (e | e)
    · exact h.ne e.symm
    · exact h.n12 e
  · rintro j hj (e | e)
    · subst e; exact h.n21 hj
    · exact h.nv j e hj
  · rintro j (e | e)
    · subst e; exact h.na21
    · exact h.nv21 j e
  · rintro (e | e)
    · exact h.s1.low.1 e.symm
    · exact h.s1.low.2 _ e rfl
  · intro e
    rcases k.own with h1 | h1
    · exact h.n12 (h1 ▸ e)
    · have := h1 _ e; omega
  · intro j hj e
    rcases k.own with h1 | h1
    · exact h.nv j (h1 ▸ hj) e
    · have := h1 _ hj
      have := hv2 j e
      omega
  · intro ad e he
    rcases k.fresh with h1 | h1
    · rw [h1] at e
      rcases hA with h2 | h2
      · exact h.na12 ad (h2 ▸ e) he
      · exact h.s2.both.apart1 ad (h2 ▸ e) he
    · have := h1 _ e; omega
  · intro j hj ad e he
    rcases k.fresh with h1 | h1
    · rw [h1] at e
      rcases hA with h2 | h2
      · exact h.nv12 j hj ad (h2 ▸ e) he
      · exact h.s2.both.apart2 j hj ad (h2 ▸ e) he
    · have := h1 _ e
      have := hv2 j hj
      omega
  · intro j hj ad e he
    rcases k.own with h1 | h1
    · exact h.nv21 j (h1 ▸ hj) ad e he
    · have := h1 _ hj
      have := h.s2.both.live ad e
      omega
end
theorem CopyW.start {W w w2 : World} {b g g2 : Nat} {v v2 : Value} {l : List Itm} {A : Option Addr} (h : DoInv w w b g v v l A A) (hw : Only (Hi W.heap.size) W w) (hb : W.heap.size ≤ b) (hg : W.heap.size ≤ g) (hs : Sl w2 w.heap.size g2 v2 l) (hg2 : w.heap.size ≤ g2) (ho : Only Nob w w2) :
    CopyW W w2 b g v l A w.heap.size g2 v2 l A := by
  have hgl := h.both.sl.cell.lt
  have hown : ∀ j, v.ownBlock = some j → j < w.heap.size := fun j hj => (h.both.sl.own_lt hj).2
  have hown2 : ∀ j, v2.ownBlock = some j → w.heap.size ≤ j := fun j hj => (hs.own_lt hj).1
  have hlive : ∀ j, w.heap.size ≤ j → NotAt A j := fun j hj ad e he => by
    have := h.both.live ad e
    omega
  have hp := h.tab.lt
  refine ⟨hw.hi0 ho, h.keep ho, ⟨⟨hs, h.both.items.nob ho, h.both.room, h.both.ok, hlive _ hg2, fun j hj => hlive _ (hown2 j hj), fun ad e => Nat.lt_of_lt_of_le (h.both.live ad e) ho.size⟩, Only.refl _ _, .inl rfl, .inl rfl, h.tab.nob ho, ho.size, ?_, ?_⟩, hb, hg, hw.size, Nat.le_trans hw.size hg2, ?_, ?_, ?_, ?_, hlive _ hg2, h.both.apart1, fun j hj => hlive _ (hown2 j hj), h.both.apart2⟩
  · omega
  · intro j hj
    have := hown2 j hj
    omega
  · omega
  · intro e
    have := hown _ e
    omega
  · intro e
    have := hown2 _ e
    omega
  · intro j h1 h2
    have := hown _ h1
    have := hown2 _ h2
    omega
/-- The end: one slate. -/
def EndW (w0 w : World) (b g : Nat) (l : List Itm) : Prop := ∃ v, Sl w b g v l ∧ Only (Hi w0.heap.size) w0 w ∧ Pow10 w ∧ (g ≠ 4 ∧ ∀ j, v.ownBlock = some j → j ≠ 4) ∧ w0.heap.size ≤ g ∧ w0.heap.size ≤ b ∧ b ≤ w.heap.size
/-- .. with one result more, perhaps. -/
def MidW (w0 w : World) (b g : Nat) (l : List Itm) : Prop := ∃ l', EndW w0 w b g l' ∧ l'.take l.length = l ∧ l.length ≤ l'.length ∧ l'.length ≤ 17
theorem EndW.nob {w0 w w2 : World} {b g : Nat} {l : List Itm} (h : EndW w0 w b g l) (ho : Only Nob w w2) : EndW w0 w2 b g l := by
  obtain ⟨v, h1, h2, h3, h4, h5, h6, h7⟩ := h
  exact ⟨v, h1.nob ho, h2.hi0 ho, h3.nob ho, h4, h5, h6, Nat.le_trans h7 ho.size⟩
theorem EndW.step {w0 w w2 : World} {b g : Nat} {v v2 : Value} {l l2 : List Itm} (h1 : Sl w b g v l) (h2 : Only (Hi w0.heap.size) w0 w) (h3 : Pow10 w) (h4 : g ≠ 4 ∧ ∀ j, v.ownBlock = some j → j ≠ 4) (h5 : w0.heap.size ≤ g) (h6 : w0.heap.size ≤ b) (h7 : b ≤ w.heap.size)
    (k1 : Sl w2 b g v2 l2) (k2 : Only (fun j => j = g ∨ v.ownBlock = some j) w w2) (k3 : v2.ownBlock = v.ownBlock ∨ ∀ j, v2.ownBlock = some j → w.heap.size ≤ j) : EndW w0 w2 b g l2 := by
  refine ⟨v2, k1, h2.hi k2 ?_, h3.only k2 ?_, ⟨h4.1, ?_⟩, h5, h6, Nat.le_trans h7 k2.size⟩
  · rintro j (hj | hj)
    · omega
    · have := (h1.own_lt hj).1
      omega
  · rintro (e | e)
    · exact h4.1 e.symm
    · exact h4.2 _ e rfl
  · intro j hj
    rcases k3 with e | e
    · exact h4.2 j (e ▸ hj)
    · have := e j hj
      have := h3.lt
      omega
theorem endW_len (w0 w : World) (b g n : Nat) (l : List Itm) (h : EndW w0 w b g l) (hn : l.length = n) (hl : n ≤ 16) : Calls Tryd.prog 26 #[.pointer (some ⟨g, 0, none⟩)] w fun e w' => e = .returned (.int .i64 (n : Int)) ∧ EndW w0 w' b g l := by
  subst hn
  have h' := h
  obtain ⟨v, h1, _⟩ := h'
  refine (len_any w b g v l h1 (by omega)).mono ?_
  rintro e w' ⟨h2, rfl⟩
  exact ⟨h2, h⟩
theorem endW_text (w0 w : World) (b g : Nat) (l : List Itm) (h : EndW w0 w b g l) (hl : l.length ≤ 16) (hok : ∀ x ∈ l, x.ok) : Calls Tryd.prog 23 #[.pointer (some ⟨g, 0, none⟩)] w fun e w' => e = .returned (.string ⟨(textI l).toArray⟩) ∧ EndW w0 w' b g l := by
  have h' := h
  obtain ⟨v, h1, _, h3, _⟩ := h'
  exact (text_any w b g v l h1 (by omega) hok h3).mono fun e w' ⟨k1, k2⟩ => ⟨k1, h.nob k2⟩
theorem endW_add (w0 w : World) (b g : Nat) (l : List Itm) (h : EndW w0 w b g l) (hl : l.length ≤ 16) : Calls Tryd.prog 16 #[.pointer (some ⟨g, 0, none⟩), .int .u64 5] w fun e w' => ∃ bb, e = .returned (.bool bb) ∧ MidW w0 w' b g l := by
  have h' := h
  obtain ⟨v, h1, h2, h3, h4, h5, h6, h7⟩ := h'
  refine (addNum_any w b g v l 5 h1 (by omega) h7).mono ?_
  rintro e w' (⟨x, hx, hr, v', rfl, k2, k3, k4⟩ | ⟨hr, rfl, k3⟩)
  · injection hx with hx
    subst hx
    refine ⟨_, rfl, l ++ [.num 5], EndW.step h1 h2 h3 h4 h5 h6 h7 k2 k3 ?_, by simp, by simp, by simp; omega⟩
    rcases k4 with k4 | ⟨k, hk1, hk2⟩
    · exact .inl k4
    · refine .inr fun j hj => ?_
      rw [hk1] at hj
      injection hj with hj
      omega
  · exact ⟨_, rfl, l, h.nob k3, by simp, by simp, by omega⟩
theorem midW_cut (w0 w : World) (b g n : Nat) (l : List Itm) (h : MidW w0 w b g l) (hn : l.length = n) (hl : n ≤ 16) : Calls Tryd.prog 32 #[.pointer (some ⟨g, 0, none⟩), .int .i64 (n : Int)] w fun e w' => e = .returned (.tuple #[]) ∧ EndW w0 w' b g l := by
  subst hn
  obtain ⟨l', ⟨v, h1, h2, h3, h4, h5, h6, h7⟩, ht, hle, h17⟩ := h
  refine (cut_any h1 (by omega) h7 (l.length : Int)).mono ?_
  rintro e w' ⟨v2, rfl, k1, k2, k3⟩
  rw [show min ((l.length : Nat) : Int).toNat l'.length = l.length by simp; omega, ht] at k1
  exact ⟨rfl, EndW.step h1 h2 h3 h4 h5 h6 h7 k1 (k2.mono fun _ _ h => .inl h) (.inr k3)⟩
theorem CopyW.fin {w0 w : World} {b1 g1 b2 g2 : Nat} {v1 v2 : Value} {l1 l2 : List Itm} {A1 A2 : Option Addr} (h : CopyW w0 w b1 g1 v1 l1 A1 b2 g2 v2 l2 A2) : EndW w0 w b1 g1 l1 :=
  ⟨v1, h.s1.both.sl, h.only, h.s1.tab, h.s1.low, h.lg1, h.lb1, h.s1.big⟩
set_option maxRecDepth 100000 in
set_option maxHeartbeats 4000000 in
theorem slate_copies (W : World) (A : Option Addr) (len cap : Nat) (hq : Asks W W.heap.size A len) (B : Option Addr) (len2 cap2 : Nat) (hq2 : Asks W W.heap.size B len2) (C : Option Addr) (len3 cap3 : Nat) (hq3 : Asks W W.heap.size C len3) (htab : Pow10 W) :
    Calls Tryd.prog 7 #[.slice A len cap, .slice B len2 cap2, .slice C len3 cap3] W fun e w' => e = .returned (.bool true) ∧ Below W.heap.size W w' := by
  have HQ := hide hq
  have HQ2 := hide hq2
  have HQ3 := hide hq3
  have HT := hide htab
  clear hq hq2 hq3 htab
  have HD1 : Hid (∀ w1, Only Nob W w1 → Calls Tryd.prog 29 #[.pointer (some ⟨w1.heap.size, 0, none⟩), .slice none 0 0, .slice A len cap] (w1.alloc (.cells #[.slice none 0 0] 77)) fun e w3 => ∃ A3 n3 c3 its v3, e = .returned (.tuple #[.slice A3 n3 c3, .bool true]) ∧ its.length = n3 ∧ n3 ≤ c3 ∧ Only (Hi W.heap.size) W w3 ∧
      DoInv w3 w3 (w1.heap.size + 1) w1.heap.size v3 v3 its A3 A3) := hide fun w1 ho1 => by
    have ht1 := HT.out.nob ho1
    have hz := ho1.size
    have hW : Only Nob W (w1.alloc (.cells #[.slice none 0 0] 77)) := ho1.alloc _
    refine (do_any _ (w1.heap.size + 1) w1.heap.size _ [] none 0 0 W.heap.size A len cap (DoInv.start ht1) rfl (Nat.le_refl _) (HQ.out.below hW.new) (by omega) hz).mono ?_
    rintro e w3 ⟨A3, n3, c3, its, v3, rfl, hn3, hc3, hI3⟩
    refine ⟨A3, n3, c3, its, v3, rfl, hn3, hc3, ?_, hI3.again⟩
    refine (hW.mono (fun _ _ h => h.elim)).hi hI3.only ?_
    rintro j (h | h)
    · omega
    · cases h
  go_enter Tryd.func7, Tryd.ntmps7
  go_wp2_with (first
    | (go_at_call 3; refine (slate_runs W HT.out).mono ?_; rintro e w1 ⟨rfl, ho1⟩; have HO1 := hide ho1; clear ho1)
    | (go_at_call 15; refine (new_any _).mono ?_; rintro e w2 ⟨rfl, rfl⟩)
    | (go_at_call 29; refine (HD1.out w1 HO1.out).mono ?_; rintro e w3 ⟨A3, n3, c3, its, v3, rfl, hn3, hc3, ho3, hi3⟩; have HN3 := hide hn3; have HC3 := hide hc3; have HO3 := hide ho3; have HI3 := hide hi3; clear hn3 hc3 ho3 hi3 HD1)
    | (go_at_call 30; refine (copy_any HI3.out.both.sl (Nat.le_trans HI3.out.both.room (by decide))).mono ?_; rintro e w4 ⟨gk, vk, rfl, hgk, hsk, hok⟩; have HC := hide (CopyW.start HI3.out HO3.out (Nat.le_succ_of_le HO1.out.size) HO1.out.size hsk hgk hok); clear hgk hsk hok)
    | (go_at_call 24; refine (same_any HC.out.s2.both.sl HC.out.s1.both.sl (Nat.le_trans HC.out.s2.both.room (by decide)) (Nat.le_trans HC.out.s1.both.room (by decide))).mono ?_; rintro e w5 ⟨hE, q, rfl⟩; rw [decide_eq_true rfl] at hE; subst hE; have HC5 := hide (HC.out.nob ((Only.refl Nob _).drewN q)); clear HC)
    | (go_at_call 29; refine (do_any _ w3.heap.size gk vk its A3 n3 c3 W.heap.size B len2 cap2 HC5.out.s2 HN3.out HC3.out (HQ2.out.below HC5.out.only.hiBelow) HC5.out.lb2 HC5.out.lg2).mono ?_; rintro e w6 ⟨A6, n6, c6, its6, v6, rfl, hn6, hc6, hI6⟩; have HC6 := hide (HC5.out.swap.more hI6 (.inl rfl)).swap; have HN6 := hide hn6; clear hn6 hc6 hI6 HC5)
    | (go_at_call 29; refine (do_any _ (w1.heap.size + 1) w1.heap.size v3 its A3 n3 c3 W.heap.size C len3 cap3 HC6.out.s1 HN3.out HC3.out (HQ3.out.below HC6.out.only.hiBelow) HC6.out.lb1 HC6.out.lg1).mono ?_; rintro e w7 ⟨A7, n7, c7, its7, v7, rfl, hn7, hc7, hI7⟩; have HC7 := hide (HC6.out.more hI7 (.inl rfl)); have HN7 := hide hn7; clear hn7 hc7 hI7 HC6)
    | (go_at_call 31; refine (same13_any _ (w1.heap.size + 1) w1.heap.size v7 its7 A7 n7 c7 HC8.out.s1.both.sl HC8.out.s1.both.items HN7.out (by have := HN7.out; have := HC8.out.s1.both.room; omega) HC8.out.s1.both.ok HC8.out.s1.tab).mono ?_; rintro e w9 ⟨rfl, ho9⟩; have HE := hide (HC8.out.nob ho9).fin; clear ho9)
    | (go_at_call 31; refine (same13_any _ w3.heap.size gk v6 its6 A6 n6 c6 HC7.out.s2.both.sl HC7.out.s2.both.items HN6.out (by have := HN6.out; have := HC7.out.s2.both.room; omega) HC7.out.s2.both.ok HC7.out.s2.tab).mono ?_; rintro e w8 ⟨rfl, ho8⟩; have HC8 := hide (HC7.out.nob ho8); clear ho8))
  have HOK : Hid (∀ x ∈ its7, x.ok) := hide HC7.out.s1.both.ok
  have H16 : Hid (its7.length ≤ 16) := hide HC7.out.s1.both.room
  have h16 : n7 ≤ 16 := by have := HN7.out; have := H16.out; omega
  have HTX : Hid (∀ W1, EndW W W1 (w1.heap.size + 1) w1.heap.size its7 → Calls Tryd.prog 23 #[.pointer (some ⟨w1.heap.size, 0, none⟩)] W1 fun e w' => e = .returned (.string ⟨(textI its7).toArray⟩) ∧ EndW W w' (w1.heap.size + 1) w1.heap.size its7) := hide fun W1 h => endW_text W W1 _ _ its7 h H16.out HOK.out
  clear HC7 HC8
  generalize (⟨(textI its7).toArray⟩ : ByteArray) = S7 at *
  have hs7 : (S7.toList == S7.toList) = true := by simp
  go_wp2_with (first
    | (go_at_call 26; refine (endW_len W _ _ _ n7 its7 HE.out HN7.out h16).mono ?_; rintro e w10 ⟨rfl, he⟩; clear HE; have HE := hide he; clear he)
    | (go_at_call 23; refine (HTX.out _ HE.out).mono ?_; rintro e w10 ⟨rfl, he⟩; clear HE; have HE := hide he; clear he)
    | (go_at_call 16; refine (endW_add W _ _ _ its7 HE.out H16.out).mono ?_; rintro e w10 ⟨bb, rfl, he⟩; clear HE; have HM := hide he; clear he)
    | (go_at_call 32; refine (midW_cut W _ _ _ n7 its7 HM.out HN7.out h16).mono ?_; rintro e w10 ⟨rfl, he⟩; have HE := hide he; clear he))
  go_ret
  obtain ⟨_, _, ho, _⟩ := HE.out
  exact ⟨rfl, ho.hiBelow⟩
end Go.Proofs.YtngahgfppbjebaaDoor

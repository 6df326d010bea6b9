/-
  The laws SlateBack and SlateCopies: what is known of slates beside one another.
-/
import Derived.Test.YtngahgfppbjebaaDoorSlPlays
import Derived.Test.YtngahgfppbjebaaDoorSlateRead
namespace Go.Proofs.YtngahgfppbjebaaDoor
open Go.RowKit
set_option linter.unusedVariables false
set_option linter.unusedSimpArgs false

/-- Old blocks may not have turned, nor those below B. -/
def Hi (B : Nat) : Nat → Prop := fun j => B ≤ j
theorem Only.hi {B : Nat} {S : Nat → Prop} {w w1 w2 : World} (h : Only (Hi B) w w1) (ho : Only S w1 w2) (hs : ∀ j, S j → B ≤ j) : Only (Hi B) w w2 := h.trans (ho.mono (fun k _ hk => hs k hk))
theorem Only.hi0 {B : Nat} {w w1 w2 : World} (h : Only (Hi B) w w1) (ho : Only Nob w1 w2) : Only (Hi B) w w2 := h.hi ho (fun _ h => h.elim)
theorem Only.hiBelow {w w1 : World} (h : Only (Hi w.heap.size) w w1) : Below w.heap.size w w1 := h.below (Nat.le_refl _) (fun _ h => h)
/-- The asks go on from here. -/
theorem DoInv.again {w wr : World} {base g : Nat} {v0 v : Value} {its : List Itm} {A0 A : Option Addr} (h : DoInv w wr base g v0 v its A0 A) : DoInv wr wr base g v v its A A :=
  ⟨h.both, Only.refl _ _, .inl rfl, .inl rfl, h.tab, h.big, h.low⟩
/-- Writes elsewhere. -/
theorem DoInv.other {S : Nat → Prop} {w wr w2 : World} {base g : Nat} {v0 v : Value} {its : List Itm} {A0 A : Option Addr} (h : DoInv w wr base g v0 v its A0 A) (ho : Only S wr w2) (hg : ¬ S g) (hv : ∀ j, v.ownBlock = some j → ¬ S j) (hA : ∀ j, S j → NotAt A j) (hp : ¬ S 4) :
    DoInv w2 w2 base g v v its A A :=
  ⟨⟨h.both.sl.only ho hg hv, h.both.items.only ho hA, h.both.room, h.both.ok, h.both.apart1, h.both.apart2, fun ad e => Nat.lt_of_lt_of_le (h.both.live ad e) ho.size⟩, Only.refl _ _, .inl rfl, .inl rfl, h.tab.only ho hp, Nat.le_trans h.big ho.size, h.low⟩
theorem text_bytes (l m : List Itm) (hl : ∀ x ∈ l, x.ok) (hm : ∀ x ∈ m, x.ok) : ((⟨(textI l).toArray⟩ : ByteArray).toList == (⟨(textI m).toArray⟩ : ByteArray).toList) = decide (l = m) := by
  rw [ByteArray.toList_eq, ByteArray.toList_eq]
  by_cases h : l = m
  · subst h
    simp
  · rw [decide_eq_false h]
    simp only [List.toList_toArray, beq_eq_false_iff_ne, ne_eq]
    exact fun e => h (textI_inj hl hm e)
/-- Two slates, a third one read of the first one's text. -/
structure BackW (w0 w : World) (b1 g1 : Nat) (v1 : Value) (l1 : List Itm) (b2 g2 : Nat) (v2 : Value) (l2 : List Itm) : Prop where
  only : Only (Hi w0.heap.size) w0 w
  s1 : Sl w b1 g1 v1 l1
  s2 : Sl w b2 g2 v2 l2
  tab : Pow10 w
theorem BackW.nob {w0 w w2 : World} {b1 g1 : Nat} {v1 : Value} {l1 : List Itm} {b2 g2 : Nat} {v2 : Value} {l2 : List Itm} (h : BackW w0 w b1 g1 v1 l1 b2 g2 v2 l2) (ho : Only Nob w w2) : BackW w0 w2 b1 g1 v1 l1 b2 g2 v2 l2 :=
  ⟨h.only.hi0 ho, h.s1.nob ho, h.s2.nob ho, h.tab.nob ho⟩
theorem BackW.drewN {w0 w : World} {b1 g1 : Nat} {v1 : Value} {l1 : List Itm} {b2 g2 : Nat} {v2 : Value} {l2 : List Itm} (h : BackW w0 w b1 g1 v1 l1 b2 g2 v2 l2) (q : Nat) : BackW w0 (w.drewN q) b1 g1 v1 l1 b2 g2 v2 l2 :=
  ⟨h.only.drewN q, ⟨h.s1.cell, h.s1.row, h.s1.apart⟩, ⟨h.s2.cell, h.s2.row, h.s2.apart⟩, h.tab⟩
theorem dec_comm (l m : List Itm) : decide (l = m) = decide (m = l) := by
  by_cases h : l = m
  · subst h; rfl
  · rw [decide_eq_false h, decide_eq_false (fun e => h e.symm)]
/-- Behind the first asks. -/
structure Back1 (W w1 w3 : World) (A3 : Option Addr) (its : List Itm) (v3 : Value) : Prop where
  only : Only (Hi W.heap.size) W w3
  s1 : DoInv w3 w3 (w1.heap.size + 1) w1.heap.size v3 v3 its A3 A3
  s2 : DoInv w3 w3 (w1.heap.size + 1 + 1) (w1.heap.size + 1) (.slice none 0 0) (.slice none 0 0) [] none none
  own : ∀ j, v3.ownBlock = some j → w1.heap.size + 1 + 1 ≤ j
  res : ∀ j, j ≤ w1.heap.size + 1 → NotAt A3 j
def Back1P (W w1 : World) (e : Ending) (w3 : World) : Prop := ∃ A3 n3 c3 its v3, e = .returned (.tuple #[.slice A3 n3 c3, .bool true]) ∧ Back1 W w1 w3 A3 its v3
def Back2P (W w1 : World) (v3 : Value) (its : List Itm) (e : Ending) (w4 : World) : Prop := ∃ A4 n4 c4 its2 v4, e = .returned (.tuple #[.slice A4 n4 c4, .bool true]) ∧
  (BackW W w4 (w1.heap.size + 1) w1.heap.size v3 its (w1.heap.size + 1 + 1) (w1.heap.size + 1) v4 its2 ∧ (its.length ≤ 16 ∧ ∀ x ∈ its, x.ok) ∧ (its2.length ≤ 16 ∧ ∀ x ∈ its2, x.ok))
theorem two_slates {w1 w3 : World} {v3 : Value} {its : List Itm} {A3 : Option Addr} (ht1 : Pow10 w1) (hI3 : DoInv ((w1.alloc (.cells #[.slice none 0 0] 77)).alloc (.cells #[.slice none 0 0] 77)) w3 (w1.heap.size + 1) w1.heap.size (.slice none 0 0) v3 its none A3) :
    DoInv w3 w3 (w1.heap.size + 1 + 1) (w1.heap.size + 1) (.slice none 0 0) (.slice none 0 0) [] none none := by
  have hp := ht1.lt
  have hs2 := DoInv.start (w := w1.alloc (.cells #[.slice none 0 0] 77)) (ht1.nob ((Only.refl Nob _).alloc _))
  rw [World.size_alloc] at hs2
  refine hs2.other hI3.only ?_ (fun j h => by cases h) (fun j h ad e => by cases e) ?_
  · rintro (h | h)
    · omega
    · cases h
  · rintro (h | h)
    · omega
    · cases h
theorem back1 (W : World) (A : Option Addr) (len cap : Nat) (hq : Asks W W.heap.size A len) (htab : Pow10 W) (w1 : World) (ho1 : Only Nob W w1) :
    Calls Tryd.prog 29 #[.pointer (some ⟨w1.heap.size, 0, none⟩), .slice none 0 0, .slice A len cap] ((w1.alloc (.cells #[.slice none 0 0] 77)).alloc (.cells #[.slice none 0 0] 77)) (Back1P W w1) := by
  have ht1 := htab.nob ho1
  have hz := ho1.size
  have hs1 := ((DoInv.start ht1).nob ((Only.refl Nob _).alloc (.cells #[.slice none 0 0] 77))).again
  have hW : Only Nob W ((w1.alloc (.cells #[.slice none 0 0] 77)).alloc (.cells #[.slice none 0 0] 77)) := (ho1.alloc _).alloc _
  have hasks := hq.below hW.new
  refine (do_any _ (w1.heap.size + 1) w1.heap.size _ [] none 0 0 W.heap.size A len cap hs1 rfl (Nat.le_refl _) hasks (by omega) hz).mono ?_
  rintro e w3 ⟨A3, n3, c3, its, v3, rfl, hn3, hc3, hI3⟩
  refine ⟨A3, n3, c3, its, v3, rfl, ?_, hI3.again, two_slates ht1 hI3, ?_, ?_⟩
  · refine (hW.mono (fun _ _ h => h.elim)).hi hI3.only ?_
    rintro j (h | h)
    · omega
    · cases h
  · intro j hj
    rcases hI3.own with h | h
    · rw [h] at hj; cases hj
    · have := h j hj
      rw [World.size_alloc, World.size_alloc] at this
      exact this
  · intro j hj ad e
    rcases hI3.fresh with h | h
    · rw [h] at e; cases e
    · have := h ad e
      rw [World.size_alloc, World.size_alloc] at this
      omega
theorem back2 (W : World) (B : Option Addr) (len2 cap2 : Nat) (hq2 : Asks W W.heap.size B len2) (htab : Pow10 W) (w1 w3 : World) (A3 : Option Addr) (its : List Itm) (v3 : Value) (ho1 : Only Nob W w1) (h : Back1 W w1 w3 A3 its v3) :
    Calls Tryd.prog 29 #[.pointer (some ⟨w1.heap.size + 1, 0, none⟩), .slice none 0 0, .slice B len2 cap2] w3 (Back2P W w1 v3 its) := by
  obtain ⟨hW, hI3, hs, hv3, hA3⟩ := h
  have hz := ho1.size
  have hp := (htab.nob ho1).lt
  refine (do_any _ (w1.heap.size + 1 + 1) (w1.heap.size + 1) _ [] none 0 0 W.heap.size B len2 cap2 hs rfl (Nat.le_refl _) (hq2.below hW.hiBelow) (by omega) (by omega)).mono ?_
  rintro e w4 ⟨A4, n4, c4, its2, v4, rfl, hn4, hc4, hI4⟩
  have hk := hI3.other hI4.only (by
      rintro (h | h)
      · omega
      · cases h) (fun j hj => by
      have := hv3 j hj
      rintro (h | h)
      · omega
      · cases h) (fun j hj => by
      rcases hj with h | h
      · exact hA3 j (by omega)
      · cases h) (by
      rintro (h | h)
      · omega
      · cases h)
  refine ⟨A4, n4, c4, its2, v4, rfl, ⟨hW.hi hI4.only ?_, hk.both.sl, hI4.both.sl, hI4.tab⟩, ⟨hk.both.room, hk.both.ok⟩, hI4.both.room, hI4.both.ok⟩
  rintro j (h | h)
  · omega
  · cases h
set_option maxRecDepth 100000 in
set_option maxHeartbeats 4000000 in
theorem slate_back (W : World) (A : Option Addr) (len cap : Nat) (hq : Asks W W.heap.size A len) (B : Option Addr) (len2 cap2 : Nat) (hq2 : Asks W W.heap.size B len2) (htab : Pow10 W) :
    Calls Tryd.prog 6 #[.slice A len cap, .slice B len2 cap2] W fun e w' => e = .returned (.bool true) ∧ Below W.heap.size W w' := by
  have HT := hide htab
  have HD1 := hide (back1 W A len cap hq htab)
  have HD2 := hide (back2 W B len2 cap2 hq2 htab)
  clear hq hq2 htab
  go_enter Tryd.func6, Tryd.ntmps6
  go_wp2_with (first
    | (go_at_call 3; refine (slate_runs W HT.out).mono ?_; rintro e w1 ⟨rfl, ho1⟩; have HO1 := hide ho1; clear ho1)
    | (go_at_call 15; refine (new_any _).mono ?_; rintro e w2 ⟨rfl, rfl⟩))
  refine (HD1.out w1 HO1.out).mono ?_
  rintro e w3 ⟨A3, n3, c3, its, v3, rfl, h3⟩
  have H3 := hide h3
  clear h3 HD1
  go_wp2_with fail
  refine (HD2.out w1 w3 A3 its v3 HO1.out H3.out).mono ?_
  rintro e w4 ⟨A4, n4, c4, its2, v4, rfl, hb, h16, h162⟩
  have HB := hide hb
  have H16 := hide h16
  have H162 := hide h162
  clear hb h16 h162 HD2
  have HX1 : Hid (∀ W1, BackW W W1 (w1.heap.size + 1) w1.heap.size v3 its (w1.heap.size + 1 + 1) (w1.heap.size + 1) v4 its2 → Calls Tryd.prog 23 #[.pointer (some ⟨w1.heap.size, 0, none⟩)] W1 fun e w' => e = .returned (.string ⟨(textI its).toArray⟩) ∧ BackW W w' (w1.heap.size + 1) w1.heap.size v3 its (w1.heap.size + 1 + 1) (w1.heap.size + 1) v4 its2) :=
    hide fun W1 h => (text_any W1 _ _ _ its h.s1 (by have := H16.out.1; omega) H16.out.2 h.tab).mono fun e w' ⟨h1, h2⟩ => ⟨h1, h.nob h2⟩
  have HX2 : Hid (∀ W1, BackW W W1 (w1.heap.size + 1) w1.heap.size v3 its (w1.heap.size + 1 + 1) (w1.heap.size + 1) v4 its2 → Calls Tryd.prog 23 #[.pointer (some ⟨w1.heap.size + 1, 0, none⟩)] W1 fun e w' => e = .returned (.string ⟨(textI its2).toArray⟩) ∧ BackW W w' (w1.heap.size + 1) w1.heap.size v3 its (w1.heap.size + 1 + 1) (w1.heap.size + 1) v4 its2) :=
    hide fun W1 h => (text_any W1 _ _ _ its2 h.s2 (by have := H162.out.1; omega) H162.out.2 h.tab).mono fun e w' ⟨h1, h2⟩ => ⟨h1, h.nob h2⟩
  have HRD : Hid (∀ W1, BackW W W1 (w1.heap.size + 1) w1.heap.size v3 its (w1.heap.size + 1 + 1) (w1.heap.size + 1) v4 its2 → Calls Tryd.prog 21 #[.string ⟨(textI its).toArray⟩] W1 fun e w' => ∃ g v, e = .returned (.tuple #[.pointer (some ⟨g, 0, none⟩), .bool true]) ∧ BackW W w' (w1.heap.size + 1) w1.heap.size v3 its (w1.heap.size + 1 + 1) (w1.heap.size + 1) v4 its2 ∧ ∃ b, Sl w' b g v its) :=
    hide fun W1 h => by
      have h1 := textI_len its H16.out.2
      have h2 := H16.out.1
      have := readAll_any ⟨(textI its).toArray⟩ (by show (textI its).toArray.size ≤ _; simp; omega) W1
      rw [show (⟨(textI its).toArray⟩ : ByteArray).data.toList = textI its by simp, readS_text its H16.out.2 H16.out.1] at this
      refine this.mono ?_
      rintro e w' ⟨ho, g, v, rfl, hs, _⟩
      exact ⟨g, v, rfl, h.nob ho, _, hs⟩
  have HSR : Hid (∀ W1 g v b, BackW W W1 (w1.heap.size + 1) w1.heap.size v3 its (w1.heap.size + 1 + 1) (w1.heap.size + 1) v4 its2 → Sl W1 b g v its → Calls Tryd.prog 24 #[.pointer (some ⟨g, 0, none⟩), .pointer (some ⟨w1.heap.size, 0, none⟩)] W1 fun e w' => e = .returned (.bool true) ∧ BackW W w' (w1.heap.size + 1) w1.heap.size v3 its (w1.heap.size + 1 + 1) (w1.heap.size + 1) v4 its2) :=
    hide fun W1 g v b h hs => by
      have := same_any hs h.s1 (by have := H16.out.1; omega) (by have := H16.out.1; omega)
      rw [decide_eq_true rfl] at this
      refine this.mono ?_
      rintro e w' ⟨h1, q, rfl⟩
      exact ⟨h1, h.drewN q⟩
  have HS12 : Hid (∀ W1, BackW W W1 (w1.heap.size + 1) w1.heap.size v3 its (w1.heap.size + 1 + 1) (w1.heap.size + 1) v4 its2 → Calls Tryd.prog 24 #[.pointer (some ⟨w1.heap.size, 0, none⟩), .pointer (some ⟨w1.heap.size + 1, 0, none⟩)] W1 fun e w' => e = .returned (.bool (decide (its = its2))) ∧ BackW W w' (w1.heap.size + 1) w1.heap.size v3 its (w1.heap.size + 1 + 1) (w1.heap.size + 1) v4 its2) :=
    hide fun W1 h => by
      refine (same_any h.s1 h.s2 (by have := H16.out.1; omega) (by have := H162.out.1; omega)).mono ?_
      rintro e w' ⟨h1, q, rfl⟩
      exact ⟨h1, h.drewN q⟩
  have HS21 : Hid (∀ W1, BackW W W1 (w1.heap.size + 1) w1.heap.size v3 its (w1.heap.size + 1 + 1) (w1.heap.size + 1) v4 its2 → Calls Tryd.prog 24 #[.pointer (some ⟨w1.heap.size + 1, 0, none⟩), .pointer (some ⟨w1.heap.size, 0, none⟩)] W1 fun e w' => e = .returned (.bool (decide (its = its2))) ∧ BackW W w' (w1.heap.size + 1) w1.heap.size v3 its (w1.heap.size + 1 + 1) (w1.heap.size + 1) v4 its2) :=
    hide fun W1 h => by
      rw [dec_comm its its2]
      refine (same_any h.s2 h.s1 (by have := H162.out.1; omega) (by have := H16.out.1; omega)).mono ?_
      rintro e w' ⟨h1, q, rfl⟩
      exact ⟨h1, h.drewN q⟩
  have htx := text_bytes its its2 H16.out.2 H162.out.2
  clear H16 H162 HT H3 HO1
  generalize (⟨(textI its).toArray⟩ : ByteArray) = S1 at *
  generalize (⟨(textI its2).toArray⟩ : ByteArray) = S2 at *
  generalize decide (its = its2) = D at *
  cases D
  all_goals
    go_wp2_with (first
      | (go_at_call 23; with_reducible refine (HX1.out _ HB.out).mono ?_; rintro e w5 ⟨rfl, hb⟩; clear HB; have HB := hide hb; clear hb)
      | (go_at_call 23; with_reducible refine (HX2.out _ HB.out).mono ?_; rintro e w5 ⟨rfl, hb⟩; clear HB; have HB := hide hb; clear hb)
      | (go_at_call 21; refine (HRD.out _ HB.out).mono ?_; rintro e w6 ⟨g6, v6, rfl, hb, b6, hs6⟩; clear HB; have HB := hide hb; have HS6 := hide hs6; clear hb hs6)
      | (go_at_call 24; with_reducible refine (HS12.out _ HB.out).mono ?_; rintro e w5 ⟨rfl, hb⟩; clear HB; have HB := hide hb; clear hb)
      | (go_at_call 24; with_reducible refine (HS21.out _ HB.out).mono ?_; rintro e w5 ⟨rfl, hb⟩; clear HB; have HB := hide hb; clear hb)
      | (go_at_call 24; with_reducible refine (HSR.out _ _ _ _ HB.out HS6.out).mono ?_; rintro e w5 ⟨rfl, hb⟩; clear HB; have HB := hide hb; clear hb))
    go_ret
    exact ⟨rfl, HB.out.only.hiBelow⟩
end Go.Proofs.YtngahgfppbjebaaDoor

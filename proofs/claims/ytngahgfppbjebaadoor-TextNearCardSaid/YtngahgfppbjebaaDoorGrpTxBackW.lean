/-
  Plain: a drawn program has a text. No walk in sight.
  The law TextBack, walked.
-/
import Derived.Test.YtngahgfppbjebaaDoorGrpTxPrintE
import Derived.Test.YtngahgfppbjebaaDoorGrpMakeLaw
import Derived.Test.YtngahgfppbjebaaDoorGrpOpenProg
import Derived.Test.YtngahgfppbjebaaDoorGrpTxRuns
import Derived.Test.YtngahgfppbjebaaDoorTxSame
import Derived.Test.YtngahgfppbjebaaDoorMake
import Derived.Deep.RegionWith
namespace Go.Proofs.YtngahgfppbjebaaDoor
open Go.RowKit Go.Lib
set_option linter.unusedVariables false
set_option linter.unusedSimpArgs false

def nOk (x : PIns) : Prop := 0 ≤ x.n ∧ x.n < 18446744073709551616
def NsOk (l : List PIns) : Prop := ∀ x ∈ l, nOk x
theorem NsOk.app {l r : List PIns} (h : NsOk l) (h2 : NsOk r) : NsOk (l ++ r) := fun x hx => (List.mem_append.1 hx).elim (h x) (h2 x)
theorem NsOk.one {x : PIns} (h : nOk x) : NsOk [x] := fun y hy => by
  simp at hy
  subst hy
  exact h
theorem NsOk.two {x y : PIns} (h : nOk x) (h2 : nOk y) : NsOk [x, y] := (NsOk.one h).app (NsOk.one h2)
theorem nOk_zero {op a b c : Int} : nOk ⟨op, a, b, c, 0⟩ := ⟨Int.le_refl _, show (0 : Int) < 18446744073709551616 by decide⟩
theorem nOk_ite {p : Prop} [Decidable p] {y z : PIns} (h1 : nOk y) (h2 : nOk z) : nOk (if p then y else z) := by
  split
  · exact h1
  · exact h2
theorem simple_n {x : PIns} (h : nOk x) : nOk (simpleP x) := by
  obtain ⟨op, a, b, c, n⟩ := x
  unfold simpleP
  generalize winB _ 0 19 = w
  generalize winB _ 0 6 = q1
  generalize winB _ 0 6 = q2
  generalize winB _ 6 15 = q3
  unfold simpleAt
  have h1 : (0 : Int) ≤ n := h.1
  have h2 : n < 18446744073709551616 := h.2
  have hx : ∀ op a b c : Int, nOk ⟨op, a, b, c, n⟩ := fun _ _ _ _ => ⟨h1, h2⟩
  have hx2 : ∀ op a b c : Int, nOk ⟨op, a, b, c, n % 20⟩ := fun _ _ _ _ => ⟨show 0 ≤ n % 20 by omega, show n % 20 < 18446744073709551616 by omega⟩
  repeat' (first | exact hx _ _ _ _ | exact hx2 _ _ _ _ | exact nOk_zero | refine nOk_ite ?_ ?_)
theorem shut_n {l : List PIns} {st : List Int} (h : NsOk l) : NsOk (shutP l st).1 := by
  cases st with
  | nil => exact h
  | cons x r =>
    by_cases h1 : x = 14
    · rw [shutP_open l r h1]; exact h.app (NsOk.one nOk_zero)
    · by_cases h2 : x = 17
      · rw [shutP_either l r h2]; exact h.app (NsOk.one nOk_zero)
      · rw [shutP_done l r h1 h2]; exact h.app (NsOk.one nOk_zero)
theorem make_n (w : Int) (calm : Bool) (l : List PIns) (st : List Int) (k : PIns) (h : NsOk l) (hk : nOk k) : NsOk (makeAt w calm l st k).1 := by
  unfold makeAt
  have hs := simple_n hk
  repeat' split
  all_goals first
    | exact shut_n h
    | exact h.app (NsOk.one nOk_zero)
    | exact h.app (NsOk.two nOk_zero nOk_zero)
    | exact h.app (NsOk.two nOk_zero hs)
    | exact h.app (NsOk.two hs nOk_zero)
    | exact h.app (NsOk.one hs)
theorem makeL_n (most : Int) (calm : Bool) : ∀ (ks l : List PIns) (st : List Int), NsOk l → (∀ x ∈ ks, nOk x) → NsOk (makeL most calm ks l st).1
  | [], l, st, h, _ => h
  | k :: r, l, st, h, hk => by
    rw [makeL]
    split
    · exact h
    · exact makeL_n most calm r _ _ (make_n _ _ _ _ _ h (hk k (by simp))) (fun x hx => hk x (List.mem_cons_of_mem _ hx))
theorem close_n : ∀ (st : List Int), NsOk (closeOf st)
  | [] => fun x hx => by simp [closeOf] at hx
  | x :: st => by
    rw [closeOf]
    refine NsOk.app ?_ (close_n st)
    repeat' split
    · exact NsOk.one nOk_zero
    · exact NsOk.two nOk_zero nOk_zero
    · exact NsOk.one nOk_zero
theorem makeP_n (most : Int) (calm : Bool) (ks : List PIns) (hk : ∀ x ∈ ks, nOk x) : NsOk (makeP most calm ks) := by
  unfold makeP
  split
  · exact NsOk.one ⟨by decide, by decide⟩
  · unfold makeQ
    exact (makeL_n most calm ks [] [] (fun x hx => by simp at hx) hk).app (close_n _)
/-- A drawn program has a text. -/
theorem made_prints (most : Int) (calm : Bool) (ks : List PIns) (hm : most ≤ 40) (hk : ∀ x ∈ ks, InsWf x.op x.a x.b x.c x.n) : Prints (makeP most calm ks) ∧ makeP most calm ks ≠ [] := by
  obtain ⟨hg, h0, h40⟩ := makeP_good most calm ks hm
  have hn := makeP_n most calm ks (fun x hx => by
    have := (hk x hx).2.2.2.2
    exact ⟨this.1, by omega⟩)
  generalize makeP most calm ks = l at *
  refine ⟨⟨h40, fun x hx => ?_, hn⟩, List.length_pos_iff.1 h0⟩
  obtain ⟨i, hi, rfl⟩ := List.getElem_of_mem hx
  have e : l.getD i PIns.none = l[i] := by rw [List.getD_eq_getElem?_getD, List.getElem?_eq_getElem hi]; rfl
  have hf := (err_zero (hg.fine i hi)).1
  unfold illP
  rw [e] at hf
  rw [hf]
  have hj := hg.jumps i hi
  unfold opOf at hj
  rw [e] at hj
  cases hb : jumpsB (l[i]).op with
  | false => rfl
  | true =>
    have := (hj hb).2.1
    simp
    omega
theorem cellsKeep : Tryd.prog.cellsOf 123 = 5 := by kernel_rfl
set_option maxRecDepth 100000 in
theorem open_keep {H : Type} {enc : TypeId × Value → H} {w : World} {v : Value} {d : DataW H} {ps : List MemPlace} {b0 : Nat} (hv : Value.okWide Tryd.prog w .any b0 64 v)
    (h : DataW.Trod enc Tryd.prog w 0 (fun _ => true) true 64 v d ps) : ∃ A len cap, v = .slice A len cap ∧ ProgArg w A len :=
  open_five Tryd.underlying64 Tryd.underlying123 rfl rfl rfl rfl rfl (by kernel_rfl) cellsKeep hv h
end Go.Proofs.YtngahgfppbjebaaDoor
namespace Go.Proofs.YtngahgfppbjebaaDoor
open Go.RowKit Go.Lib
set_option linter.unusedVariables false
set_option linter.unusedSimpArgs false

theorem made_any (W : World) (A : Option Addr) (len cap : Nat) (ks : List PIns) (hl : ks.length = len) (hm : len ≤ maxLen) (hp : ProgIn W W.heap.size A ks) (hw : ∀ x ∈ ks, InsWf x.op x.a x.b x.c x.n) (w : World) (ho : Only Nob W w) :
    Calls Tryd.prog 37 #[.slice A len cap, .int .i64 40, .bool false] w (MakePost w (makeP 40 false ks)) := by
  subst hl
  exact make_any w A cap ks 40 false ((hp.keep ho.new).more ho.size) hm hw (by decide)
/-- A drawn program in memory. -/
structure Drawn (w : World) (A : Option Addr) (n : Nat) (l : List PIns) : Prop where
  len : l.length = n
  few : n ≤ 40
  pos : l ≠ []
  prints : Prints l
  lies : ProgIn w w.heap.size A l
theorem Drawn.nob {w w' : World} {A : Option Addr} {n : Nat} {l : List PIns} (h : Drawn w A n l) (ho : Only Nob w w') : Drawn w' A n l := ⟨h.len, h.few, h.pos, h.prints, (h.lies.keep ho.new).more ho.size⟩
theorem drawn_of {w w' : World} {ks : List PIns} {e : Ending} (h : MakePost w (makeP 40 false ks) e w') (hw : ∀ x ∈ ks, InsWf x.op x.a x.b x.c x.n) : ∃ A n cap, e = .returned (.agg #[.slice A n cap]) ∧ Only Nob w w' ∧ Drawn w' A n (makeP 40 false ks) := by
  obtain ⟨v, rfl, hr, ho⟩ := h
  obtain ⟨A, cap, rfl, hi⟩ := hr.lies
  obtain ⟨hp, hne⟩ := made_prints 40 false ks (by decide) hw
  exact ⟨A, _, cap, rfl, ho, rfl, hp.len, hne, hp, hi⟩
theorem print_drawn {w W : World} {A : Option Addr} {n cap : Nat} {l : List PIns} (h : Drawn w A n l) (ho : Only Nob w W) (ht : Tabs W) : Calls Tryd.prog 34 #[.agg #[.slice A n cap]] W fun e w' => e = .returned (.string ⟨(printP l).toArray⟩) ∧ Only Nob W w' := by
  have h2 := h.nob ho
  rw [← h.len]
  exact print_any W.heap.size l A cap W h2.lies (Nat.le_refl _) (by have := h.prints.len; omega) h.prints.n ht.pow
theorem two_boxes {w3 w : World} (B1 : Option Addr) (n1 c1 : Nat) (B2 : Option Addr) (n2 c2 : Nat) (h : Only Nob ((w3.alloc (.cells #[.slice B1 n1 c1] 55)).alloc (.cells #[.slice B2 n2 c2] 55)).drew w) :
    w.cell? ⟨w3.heap.size, 0, none⟩ = some (.slice B1 n1 c1) ∧ w.cell? ⟨w3.heap.size + 1, 0, none⟩ = some (.slice B2 n2 c2) ∧ w3.heap.size < w.heap.size ∧ w3.heap.size + 1 < w.heap.size := by
  have k1 : Blk w w3.heap.size 55 #[.slice B1 n1 c1] := Blk.only (((Blk.new w3 _ _).alloc _).drew) h (fun h => h)
  have k2 : Blk w (w3.heap.size + 1) 55 #[.slice B2 n2 c2] := Blk.only ((Blk.new' (by simp)).drew) h (fun h => h)
  exact ⟨k1.cell 0, k2.cell 0, k1.lt, k2.lt⟩
theorem print_eq {p q : List PIns} (hp : Prints p) (hq : Prints q) : (printP p == printP q) = eqL p q := by
  cases he : eqL p q with
  | true =>
    rw [eqL_iff.1 he]
    simp
  | false =>
    rw [beq_eq_false_iff_ne]
    intro e
    have := print_inj hp hq e
    rw [eqL_iff.2 this] at he
    cases he
theorem same_pp (w : World) (p : List PIns) (A C : Option Addr) (ca cb : Nat) {B : Nat} (ha : ProgIn w B A p) (hb : ProgIn w w.heap.size C p) (hB : B ≤ w.heap.size) (hn : p.length ≤ 40) :
    Calls Tryd.prog 39 #[.slice A p.length ca, .slice C p.length cb] w fun e w' => e = .returned (.bool true) ∧ Only Nob w w' := by
  have := same_ins w p p A C ca cb w.heap.size (ha.more hB) hb (Nat.le_refl _) (by omega) (by omega)
  rwa [eqL_iff.2 rfl] at this
set_option maxRecDepth 100000 in
set_option maxHeartbeats 8000000 in
theorem text_back (W : World) (A : Option Addr) (len cap : Nat) (hq : ProgArg W A len) (A2 : Option Addr) (len2 cap2 : Nat) (hq2 : ProgArg W A2 len2) (ht : Tabs W) :
    Calls Tryd.prog 12 #[.slice A len cap, .slice A2 len2 cap2] W fun e w' => e = .returned (.bool true) ∧ Below W.heap.size W w' := by
  obtain ⟨ks, h1, h2, h3, h4⟩ := hq
  obtain ⟨ks2, g1, g2, g3, g4⟩ := hq2
  have HM1 := hide (made_any W A len cap ks h1 h2 h3 h4)
  have HM2 := hide (made_any W A2 len2 cap2 ks2 g1 g2 g3 g4)
  have HD1 : Hid (∀ w e w', MakePost w (makeP 40 false ks) e w' → _) := hide (fun w e w' h => drawn_of h h4)
  have HD2 : Hid (∀ w e w', MakePost w (makeP 40 false ks2) e w' → _) := hide (fun w e w' h => drawn_of h g4)
  have HR := hide (text_runs W ht)
  have HT := hide ht
  clear h1 h2 h3 h4 g1 g2 g3 g4 ht
  generalize makeP 40 false ks = p at *
  generalize makeP 40 false ks2 = q at *
  go_enter Tryd.func12, Tryd.ntmps12
  have tok1 : True := trivial
  go_upto_region 4 with (first
    | (go_at_call 8; refine HR.out.mono ?_; rintro e w1 ⟨rfl, ho1⟩; have HO1 := hide ho1; clear ho1)
    | (go_at_call 37; clear tok1; refine (HM1.out _ HO1.out).mono ?_; intro e w2 hm; obtain ⟨B1, n1, c1, rfl, ho2, hd1⟩ := HD1.out _ _ _ hm; obtain rfl := hd1.len; have HO2 := hide (HO1.out.trans ho2); have HR1 := hide hd1; clear ho2 hd1 hm)
    | (go_at_call 37; refine (HM2.out _ HO2.out).mono ?_; intro e w3 hm; obtain ⟨B2, n2, c2, rfl, ho3, hd2⟩ := HD2.out _ _ _ hm; obtain rfl := hd2.len; have HO3 := hide (HO2.out.trans ho3); have HR2 := hide hd2; have HR1' := hide (HR1.out.nob ho3); clear ho3 hd2 hm))
  have HP1 := hide (fun w (h : Only Nob w3 w) => print_drawn (cap := c1) HR1'.out h (HT.out.nob (HO3.out.trans h)))
  have HP2 := hide (fun w (h : Only Nob w3 w) => print_drawn (cap := c2) HR2.out h (HT.out.nob (HO3.out.trans h)))
  have HX : Hid (Only Nob w3 ((w3.alloc (.cells #[.slice B1 p.length c1] 55)).alloc (.cells #[.slice B2 q.length c2] 55)).drew) := hide (((Only.refl _ _).alloc _).alloc _).drew
  have HC := hide (fun w (h : Only Nob ((w3.alloc (.cells #[.slice B1 p.length c1] 55)).alloc (.cells #[.slice B2 q.length c2] 55)).drew w) => two_boxes B1 p.length c1 B2 q.length c2 h)
  go_cut [7, 8] from 19 to 22 (fun s t wx => s = .string ⟨(printP p).toArray⟩ ∧ t = .string ⟨(printP q).toArray⟩ ∧ Only Nob ((w3.alloc (.cells #[.slice B1 p.length c1] 55)).alloc (.cells #[.slice B2 q.length c2] 55)).drew wx)
  case first =>
    have tok2 : True := trivial
    go_region_with (first
      | (go_at_call 34; clear tok2; refine (HP1.out _ HX.out).mono ?_; rintro e w4 ⟨rfl, ho4⟩; obtain ⟨c5, c6, l5, l6⟩ := HC.out _ ho4; have HO4 := hide ho4; clear ho4)
      | (go_at_call 34; refine (HP2.out _ (HX.out.trans HO4.out)).mono ?_; rintro e w5 ⟨rfl, ho5⟩; obtain ⟨c5, c6, l5, l6⟩ := HC.out _ (HO4.out.trans ho5); have HO5 := hide (HO4.out.trans ho5); clear ho5))
    all_goals
      go_wp2_with fail
      go_meet
      exact ⟨rfl, rfl, HO5.out⟩
  case rest =>
    obtain ⟨rfl, rfl, ho5⟩ := hcut
    obtain ⟨c5, c6, l5, l6⟩ := HC.out _ ho5
    have HO5 := hide (HX.out.trans ho5)
    have hbp := HR1.out.prints.bytes
    have hbq := HR2.out.prints.bytes
    have HPA : Hid (∀ w, Tabs w → Calls Tryd.prog 33 #[.string ⟨(printP p).toArray⟩] w (ParsePost w (p, 0, 0, 0))) := hide (fun w h => by
      have := parse_any ⟨(printP p).toArray⟩ (by have := hbp.2.1; simp [ByteArray.size]; omega) w h.utf
      rwa [show (⟨(printP p).toArray⟩ : ByteArray).data.toList = printP p by simp, parse_print HR1.out.prints] at this)
    have HT5 := hide (HT.out.nob (HO3.out.trans HO5.out))
    have hp40 := HR1.out.prints.len
    have hq40 := HR2.out.prints.len
    have HNE := hide (hbp.2.2 HR1.out.pos)
    have HEQ := hide (print_eq HR1.out.prints HR2.out.prints)
    clear hbp hbq ho5
    have tok3 : True := trivial
    go_wp2_with (first
      | (go_at_call 33; refine (HPA.out _ HT5.out).mono ?_; rintro e w6 ⟨v6, rfl, hr6, ho6⟩; obtain ⟨A6, c9, rfl, hi6⟩ := hr6.lies; have d5 := (ho6.cell (p := ⟨w3.heap.size, 0, none⟩) l5 (fun h => h)).trans c5; have d6 := (ho6.cell (p := ⟨w3.heap.size + 1, 0, none⟩) l6 (fun h => h)).trans c6; have l7 := Nat.lt_of_lt_of_le l5 ho6.size; have l8 := Nat.lt_of_lt_of_le l6 ho6.size; have HO6 := hide (HO5.out.trans ho6); have HI6 := hide hi6; clear hr6 ho6 hi6)
      | (go_at_call 39; clear tok3; refine (same_pp _ p _ _ _ _ (HI6.out.keep (((Only.refl Nob _).alloc _)).new) ((HR1'.out.nob (HO6.out.alloc _)).lies) ?h1 ?h2).mono ?_; rotate_left 2; rintro e w7 ⟨rfl, ho7⟩; have ho67 := (Only.alloc (Only.refl Nob w6) _).trans ho7; have e5 := (ho67.cell (p := ⟨w3.heap.size, 0, none⟩) l7 (fun h => h)).trans d5; have e6 := (ho67.cell (p := ⟨w3.heap.size + 1, 0, none⟩) l8 (fun h => h)).trans d6; have m7 := Nat.lt_of_lt_of_le l7 ho67.size; have m8 := Nat.lt_of_lt_of_le l8 ho67.size; have HO7 := hide (HO6.out.trans ho67); clear ho7 ho67)
      | (go_at_call 39; refine (same_ins _ p q _ _ _ _ _ (HR1'.out.nob HO7.out).lies (HR2.out.nob HO7.out).lies ?h5 ?h6 ?h7).mono ?_; rotate_left 3; rintro e w8 ⟨rfl, ho8⟩; have HO8 := hide (HO7.out.trans ho8); clear ho8))
    case h1 => simp
    case h2 => omega
    case h5 => exact Nat.le_refl _
    case h6 => omega
    case h7 => omega
    have hB : (!(printP p).isEmpty && (printP p == printP q) == eqL p q) = true := by
      rw [HEQ.out]
      have : (printP p).isEmpty = false := by simpa using HNE.out
      rw [this]
      simp
    go_ret
    exact ⟨by rw [hB]; rfl, (HO3.out.trans HO8.out).new⟩
end Go.Proofs.YtngahgfppbjebaaDoor

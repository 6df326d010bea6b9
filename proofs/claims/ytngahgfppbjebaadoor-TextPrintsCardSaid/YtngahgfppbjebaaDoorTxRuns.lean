/-
  The law TextRuns, walked.
-/
import Derived.Test.YtngahgfppbjebaaDoorGrpTxParse
import Derived.Test.YtngahgfppbjebaaDoorTxPrint
namespace Go.Proofs.YtngahgfppbjebaaDoor
open Go.RowKit Go.Lib
set_option linter.unusedVariables false
set_option linter.unusedSimpArgs false

/-- The listed tables that are read. -/
structure Tabs (w : World) : Prop where
  pow : Pow10 w
  utf : Utf8Tabs 2 3 w
theorem Tabs.nob {w w' : World} (h : Tabs w) (ho : Only Nob w w') : Tabs w' := ⟨h.pow.nob ho, Utf8Tabs_only h.utf ho⟩
theorem runes_asc : ∀ (l : List UInt8), (∀ b ∈ l, b.toNat < 128) → runesL l = l.map fun b => (b.toNat, false)
  | [], _ => runesL_nil
  | b :: t, h => by
    rw [runesL_ascii b t (h b (by simp)), runes_asc t (fun c hc => h c (List.mem_cons_of_mem _ hc))]
    rfl
def runS1 : List UInt8 := [97, 58, 32, 122, 101, 114, 111, 32, 114, 49, 32, 98, 10, 106, 117, 109, 112, 32, 97, 32, 59, 32, 97, 103, 97, 105, 110, 10, 98, 58]
def runS2 : List UInt8 := [10, 32, 115, 101, 116, 32, 114, 49, 32, 48, 48, 55]
def allAsc (l : List UInt8) : Bool := l.all fun b => decide (b.toNat < 128)
theorem runes_all {l : List UInt8} (h : allAsc l = true) : runesL l = l.map fun b => (b.toNat, false) := runes_asc l (fun b hb => of_decide_eq_true ((List.all_eq_true.1 h) b hb))
def runNames (l : List (List UInt8 × List Rn)) : Bool := l.all fun e => decide (runesL e.1 = e.2)
/-- A name's runes, where all is one byte. -/
def nameA (s : List UInt8) : Bool := nameL (s.map fun b => (b.toNat, false))
theorem name_asc {s : List UInt8} (h : allAsc s = true) : nameP s = nameA s := by
  unfold nameP nameA
  rw [runes_all h]
theorem run_one : parseP runS1 = ([⟨13, 1, 0, 2, 0⟩, ⟨12, 0, 0, 0, 0⟩], 0, 0, 0) := by
  have ha : nameP [97] = true := by rw [name_asc (by decide)]; decide +kernel
  have hb : nameP [98] = true := by rw [name_asc (by decide)]; decide +kernel
  refine parse_of (by decide) ?_
  have hf : flatL runS1 = [[([97, 58], false), ([122, 101, 114, 111], false), ([114, 49], false), ([98], false)], [([106, 117, 109, 112], false), ([97], false)], [([98, 58], false)]] := by
    unfold flatL
    rw [runes_all (by decide)]
    decide +kernel
  rw [hf]
  have e1 : lineE PS.start.er [([97, 58], false), ([122, 101, 114, 111], false), ([114, 49], false), ([98], false)] = some ⟨[⟨13, 1, 0, 0, 0⟩], [([97], 0)], [(0, [98])]⟩ := by
    rw [lineE, if_pos (by decide)]
    have : (([97, 58] : List UInt8), false).1.dropLast = [97] := rfl
    rw [this, ha, if_neg (by decide)]
    have hz : instrE { PS.start.er with labels := PS.start.er.labels ++ [([97], PS.start.er.l.length)] } [([122, 101, 114, 111], false), ([114, 49], false), ([98], false)] = fieldsE ⟨[], [([97], 0)], []⟩ [97, 106] [([114, 49], false), ([98], false)] ⟨13, 0, 0, 0, 0⟩ [] := by kernel_rfl
    rw [hz, fieldsE_cons _ _ _ _ _ _ ⟨13, 1, 0, 0, 0⟩ _ (by rw [fp97]; kernel_rfl) (by decide), fieldsE_j _ _ _ _ _ ⟨13, 1, 0, 0, 0⟩ _ (by show (if nameP [98] = true then _ else _) = _; rw [hb, if_pos rfl])]
    rfl
  have e2 : lineE ⟨[⟨13, 1, 0, 0, 0⟩], [([97], 0)], [(0, [98])]⟩ [([106, 117, 109, 112], false), ([97], false)] = some ⟨[⟨13, 1, 0, 0, 0⟩, ⟨12, 0, 0, 0, 0⟩], [([97], 0)], [(0, [98]), (1, [97])]⟩ := by
    rw [lineE, if_neg (by decide)]
    have hz : instrE ⟨[⟨13, 1, 0, 0, 0⟩], [([97], 0)], [(0, [98])]⟩ [([106, 117, 109, 112], false), ([97], false)] = fieldsE ⟨[⟨13, 1, 0, 0, 0⟩], [([97], 0)], [(0, [98])]⟩ [106] [([97], false)] ⟨12, 0, 0, 0, 0⟩ [(0, [98])] := by kernel_rfl
    rw [hz, fieldsE_j _ _ _ _ _ ⟨12, 0, 0, 0, 0⟩ _ (by show (if nameP [97] = true then _ else _) = _; rw [ha, if_pos rfl])]
    rfl
  have e3 : lineE ⟨[⟨13, 1, 0, 0, 0⟩, ⟨12, 0, 0, 0, 0⟩], [([97], 0)], [(0, [98]), (1, [97])]⟩ [([98, 58], false)] = some ⟨[⟨13, 1, 0, 0, 0⟩, ⟨12, 0, 0, 0, 0⟩], [([97], 0), ([98], 2)], [(0, [98]), (1, [97])]⟩ := by
    rw [lineE, if_pos (by decide)]
    have : (([98, 58] : List UInt8), false).1.dropLast = [98] := rfl
    rw [this, hb, if_neg (by decide)]
    rfl
  unfold parseE
  rw [linesE, e1, Option.bind_some, linesE, e2, Option.bind_some, linesE, e3, Option.bind_some, linesE, Option.bind_some]
  show resE [([97], 0), ([98], 2)] [(0, [98]), (1, [97])] [⟨13, 1, 0, 0, 0⟩, ⟨12, 0, 0, 0, 0⟩] = some [⟨13, 1, 0, 2, 0⟩, ⟨12, 0, 0, 0, 0⟩]
  kernel_rfl
theorem lineW_of {l : List Rn} {ws : List Wd} (h : wordsR l = ws) : wordsR l = ws := h
theorem run_two : parseP runS2 = ([], 2, 9, 12) := by
  unfold parseP
  rw [if_neg (by decide), runes_all (by decide)]
  kernel_rfl
theorem run_print : printP [⟨20, 0, 0, 0, 0⟩] = [114, 101, 116, 114, 121, 10] := by kernel_rfl
theorem progIn_one (w : World) (x : PIns) {n : Nat} (hn : w.heap.size = n) : ProgIn (w.alloc (.cells #[.int .i64 x.op, .int .i64 x.a, .int .i64 x.b, .int .i64 x.c, .int .u64 x.n] 60)) (w.alloc (.cells #[.int .i64 x.op, .int .i64 x.a, .int .i64 x.b, .int .i64 x.c, .int .u64 x.n] 60)).heap.size (some ⟨n, 0, none⟩) [x] := by
  subst hn
  intro _
  have hk := Blk.new w 60 #[.int .i64 x.op, .int .i64 x.a, .int .i64 x.b, .int .i64 x.c, .int .u64 x.n]
  refine ⟨_, 0, rfl, hk.lt, fun k y hy => ?_⟩
  match k, hy with
  | 0, hy =>
    simp at hy
    subst hy
    exact ⟨hk.cell 0, hk.cell 1, hk.cell 2, hk.cell 3, hk.cell 4⟩
  | k + 1, hy => simp at hy
set_option maxRecDepth 100000 in
set_option maxHeartbeats 4000000 in
theorem text_runs (w : World) (ht : Tabs w) : Calls Tryd.prog 8 #[] w fun e w' => e = .returned (.bool true) ∧ Only Nob w w' := by
  have HT := hide ht
  have hp1 := parse_any ⟨runS1.toArray⟩ (by decide) w ht.utf
  rw [show (⟨runS1.toArray⟩ : ByteArray).data.toList = runS1 from rfl, run_one] at hp1
  have HP1 := hide hp1
  have HP2 : Hid (∀ W, Tabs W → Calls Tryd.prog 33 #[.string ⟨runS2.toArray⟩] W (ParsePost W ([], 2, 9, 12))) := hide (fun W h => by
    have h2 := parse_any ⟨runS2.toArray⟩ (by decide) W h.utf
    rw [show (⟨runS2.toArray⟩ : ByteArray).data.toList = runS2 from rfl, run_two] at h2
    exact h2)
  have HPR : Hid (∀ (W : World) (A : Option Addr), ProgIn W W.heap.size A [⟨20, 0, 0, 0, 0⟩] → Tabs W → Calls Tryd.prog 34 #[.agg #[.slice A 1 1]] W fun e w' => e = .returned (.string ⟨#[114, 101, 116, 114, 121, 10]⟩) ∧ Only Nob W w') := hide (fun W A h ht => by
    have h3 := print_any W.heap.size [⟨20, 0, 0, 0, 0⟩] A 1 W h (Nat.le_refl _) (by decide) (by intro x hx; simp at hx; subst hx; decide) ht.pow
    rw [run_print] at h3
    exact h3)
  clear ht hp1
  go_enter Tryd.func8, Tryd.ntmps8
  have tok1 : True := trivial
  go_wp2_with (first
    | (go_at_call 33; clear tok1; refine HP1.out.mono ?_; rintro e w1 ⟨v1, rfl, hr1, ho1⟩; obtain ⟨A1, cap1, rfl, hi1⟩ := hr1.lies; obtain ⟨b1, o1, rfl, hb1, hat⟩ := hi1 (by simp); have hk1 := Blk.new w1 55 #[.slice (some ⟨b1, o1, none⟩) 2 cap1]; have HK1 := hide hk1; have HAT := hide hat; have HO1 := hide (ho1.alloc (.cells #[.slice (some ⟨b1, o1, none⟩) 2 cap1] 55)); have HOA := hide (Only.alloc (Only.refl Nob w1) (.cells #[.slice (some ⟨b1, o1, none⟩) 2 cap1] 55)); clear ho1 hr1 hi1 hat hk1)
    | (go_at_call 33; refine (HP2.out _ (HT.out.nob HO1.out)).mono ?_; rintro e w2 ⟨v2, rfl, hr2, ho2⟩; obtain ⟨A2, cap2, rfl, hi2⟩ := hr2.lies; have hoo := HOA.out.trans ho2; obtain ⟨p0, p1, p2, p3, p4⟩ := (HAT.out 0 _ rfl).keep (hoo.below (Nat.le_refl _) (fun _ h => h.elim)) hb1; obtain ⟨q0, q1, q2, q3, q4⟩ := (HAT.out 1 _ rfl).keep (hoo.below (Nat.le_refl _) (fun _ h => h.elim)) hb1; have hk2 := HK1.out.only ho2 (fun h => h); have c0 := hk2.cell 0; have cl := hk2.lt; simp at c0 p0 p1 p2 p3 p4 q0 q1 q2 q3 q4; have hb2 := Nat.lt_of_lt_of_le hb1 hoo.size; have HO2 := hide (HO1.out.trans ho2); clear hr2 ho2 hoo hk2 hi2)
    | (go_at_call 34; refine (HPR.out _ _ ?hpi ?htb).mono ?_; rotate_left 2; rintro e w3 ⟨rfl, ho3⟩; have HO3 := hide ho3; clear ho3))
  case hpi => exact progIn_one _ ⟨20, 0, 0, 0, 0⟩ (by simp)
  case htb => exact HT.out.nob ((HO2.out.alloc _).alloc _)
  go_ret
  exact ⟨rfl, ((HO2.out.alloc _).alloc _).trans HO3.out⟩
end Go.Proofs.YtngahgfppbjebaaDoor

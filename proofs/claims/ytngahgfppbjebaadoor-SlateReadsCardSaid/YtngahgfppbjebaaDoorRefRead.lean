/-
  The contract of the document's 'Read'.
-/
import Derived.Test.YtngahgfppbjebaaDoorRefWords
import Derived.Test.YtngahgfppbjebaaDoorRefNum
import Derived.Test.YtngahgfppbjebaaDoorRefItems
namespace Go.Proofs.YtngahgfppbjebaaDoor
open Go.RowKit
set_option linter.unusedVariables false
set_option linter.unusedSimpArgs false

theorem wordsOf_len (s : List UInt8) (w : List UInt8) (h : w ∈ wordsOf s) : w.length ≤ s.length := by
  have key : ∀ (s : List UInt8) (w : List UInt8), w ∈ wordsB s → w.length ≤ s.length := by
    intro s
    induction s with
    | nil =>
      intro w h
      have : w = [] := by simpa [wordsB] using h
      subst this; simp
    | cons b l ih =>
      intro w h
      by_cases hb : b = 32
      · subst hb
        rw [wordsB_hit] at h
        rcases List.mem_cons.1 h with h | h
        · subst h; simp
        · have := ih w h; simp; omega
      · cases hw : wordsB l with
        | nil => exact absurd hw (wordsB_ne l)
        | cons u r =>
          rw [wordsB_miss hb hw] at h
          rcases List.mem_cons.1 h with h | h
          · subst h
            have := ih u (by rw [hw]; simp)
            simp; omega
          · have := ih w (by rw [hw]; simp [h])
            simp; omega
  unfold wordsOf at h
  split at h
  · cases h
  · exact key s w h
theorem rl_eq_false {a : ByteArray} {k : List UInt8} (h : a.data.toList ≠ k) : (a.toList == k) = false := by
  rw [beq_eq_false_iff_ne, ByteArray.toList_eq]
  exact h
theorem rl_eq_true {a : ByteArray} {k : List UInt8} (h : a.data.toList = k) : (a.toList == k) = true := by
  rw [beq_iff_eq, ByteArray.toList_eq]
  exact h
theorem infoItem : (Tryd.prog.info? 94).map (fun i => (i.zero, i.size, i.bytes)) = some (some (.agg #[.int .i64 0, .int .u64 0]), 2, 16) := by kernel_rfl
theorem rowCells_snoc (l : List Itm) (x : Itm) : rowCells (l ++ [x]) = rowCells l ++ itmCells x := by simp [rowCells]
theorem itm_cells_one (x : Itm) : ∀ u ∈ (#[Value.int .i64 (sortI x), .int .u64 (numI x)] : Array Value).toList, u.oneCell' = true := by
  intro u hu
  simp at hu
  rcases hu with rfl | rfl <;> rfl
theorem strs_at {wr : World} {base b cap n : Nat} {ws : List (List UInt8)} (h : wr.ownsRow base 9 1 (.slice (some ⟨b, 0, none⟩) n cap) n (ws.map strV)) (hn : ws.length = n) {k : Nat} (hk : k < ws.length) : wr.cell? ⟨b, k, none⟩ = some (.string (⟨ws[k].toArray⟩)) := by
  have hr := World.ownsRow.cellAt h k (by omega)
  rw [List.getElem?_map, List.getElem?_eq_getElem hk, Option.map_some] at hr
  exact hr
/-- What a round stands on: the words lie; those ahead of k have been read. -/
structure RRInv (w w1 wr : World) (ws : List (List UInt8)) (k : Nat) (A : Option Addr) (n cap : Nat) (l : List Itm) : Prop where
  le : k ≤ ws.length
  row : wr.ownsRow w1.heap.size 94 2 (.slice A n cap) n (rowCells l)
  len : n = k
  only : Only (fun j => w1.heap.size ≤ j) w1 wr
  read : readAll (ws.take k) = some l
theorem RRInv.size {w w1 wr : World} {ws : List (List UInt8)} {k n cap : Nat} {A : Option Addr} {l : List Itm} (h : RRInv w w1 wr ws k A n cap l) : w1.heap.size ≤ wr.heap.size := h.only.size
theorem RRInv.more {w w1 wr w2 w3 : World} {ws : List (List UInt8)} {k n cap cap' : Nat} {A A' : Option Addr} {l : List Itm} {x : Itm} (h : RRInv w w1 wr ws k A n cap l) (hk : k < ws.length) (hx : readW ws[k] = some x) (ho : Only Nob wr w2)
    (hr : w3.ownsRow w1.heap.size 94 2 (.slice A' (n + 1) cap') (n + 1) (rowCells l ++ (#[Value.int .i64 (sortI x), .int .u64 (numI x)] : Array Value).toList)) (ho2 : Only (fun j => w1.heap.size ≤ j) w2 w3) : RRInv w w1 w3 ws (k + 1) A' (n + 1) cap' (l ++ [x]) := by
  refine ⟨hk, ?_, by rw [h.len], (h.only.trans (ho.mono (fun _ _ h => h.elim))).trans ho2, ?_⟩
  · rw [rowCells_snoc]
    exact hr
  · rw [List.take_add_one, List.getElem?_eq_getElem hk]
    show readAll (ws.take k ++ [ws[k]]) = _
    rw [readAll_snoc, h.read, hx]
    rfl
theorem ownsRow_of_only {w1 wr : World} {base : Nat} {e : TypeId} {size : Nat} {v : Value} {n : Nat} {xs : List Value} (h : w1.ownsRow base e size v n xs) (ho : Only (fun j => w1.heap.size ≤ j) w1 wr) : wr.ownsRow base e size v n xs := by
  obtain ⟨h1, h2⟩ := h
  refine ⟨h1, ?_⟩
  rcases h2 with h2 | ⟨g, cap, cur, hv, hb, hc, hr⟩
  · exact .inl h2
  · refine .inr ⟨g, cap, cur, hv, hb, ?_, hr⟩
    have hg : g < w1.heap.size := by
      rcases Nat.lt_or_ge g w1.heap.size with h | h
      · exact h
      · rw [Array.getElem?_eq_none h] at hc; cases hc
    rw [ho.block g hg (by omega)]
    exact hc
theorem rr_prefix : ∀ {p q : List (List UInt8)}, p <+: q → readAll p = none → readAll q = none
  | p, _, ⟨r, rfl⟩, h => by
    induction p with
    | nil => cases h
    | cons a p ih =>
      simp only [List.cons_append, readAll] at h ⊢
      cases ha : readW a with
      | none => rfl
      | some x =>
        rw [ha] at h
        simp only [Option.bind_some] at h ⊢
        cases hp : readAll p with
        | none => rw [ih hp]; rfl
        | some l => rw [hp] at h; cases h
theorem rr_bad {w w1 wr : World} {ws : List (List UInt8)} {k n cap : Nat} {A : Option Addr} {l : List Itm} {o : Option Itm} (h : RRInv w w1 wr ws k A n cap l) (hk : k < ws.length) (hx : readW ws[k] = none) : readAll ws = none := by
  refine rr_prefix (List.take_prefix (k + 1) ws) ?_
  rw [List.take_add_one, List.getElem?_eq_getElem hk]
  show readAll (ws.take k ++ [ws[k]]) = _
  rw [readAll_snoc, h.read, hx]
  rfl
theorem rr_at {w w1 wr : World} {base : Nat} {A0 : Option Addr} {ws : List (List UInt8)} {k n cap cap0 : Nat} {A : Option Addr} {l : List Itm} (h0 : w1.ownsRow base 9 1 (.slice A0 ws.length cap0) ws.length (ws.map strV)) (hI : RRInv w w1 wr ws k A n cap l) (hk : k < ws.length) :
    ∃ (b : Nat) (sb : ByteArray), A0 = some ⟨b, 0, none⟩ ∧ sb.data.toList ∈ ws ∧ wr.cell? ⟨b, k, none⟩ = some (.string sb) ∧ (readW sb.data.toList = none → readAll ws = none) ∧
      (∀ (x : Itm) (w2 w3 : World) (A' : Option Addr) (cap' : Nat), readW sb.data.toList = some x → Only Nob wr w2 → w3.ownsRow w1.heap.size 94 2 (.slice A' (n + 1) cap') (n + 1) (rowCells l ++ (#[Value.int .i64 (sortI x), .int .u64 (numI x)] : Array Value).toList) →
        Only (fun j => w1.heap.size ≤ j) w2 w3 → RRInv w w1 w3 ws (k + 1) A' (n + 1) cap' (l ++ [x])) := by
  have hrow := ownsRow_of_only h0 hI.only
  rcases hrow.2 with ⟨h1, h2⟩ | ⟨b, cap', cur, hv, _⟩
  · omega
  · injection hv with hv
    subst hv
    have hc := strs_at hrow rfl hk
    exact ⟨b, ⟨ws[k].toArray⟩, rfl, List.getElem_mem hk, hc, fun h => rr_bad (o := none) hI hk h, fun x w2 w3 A' cap' hx h2 h3 h4 => hI.more hk hx h2 h3 h4⟩
/-- What 'Read' gives. -/
def RReadPost (w : World) (o : Option (List Itm)) (e : Ending) (w' : World) : Prop := Only Nob w w' ∧ match o with
  | some l => ∃ A cap, e = .returned (.tuple #[.slice A l.length cap, .bool true]) ∧ ItemsIn w' A l ∧ ∀ k, k < w.heap.size → NotAt A k
  | none => e = .returned (.tuple #[.slice none 0 0, .bool false])

set_option maxRecDepth 100000 in
set_option maxHeartbeats 2000000 in
theorem rread_any (s : ByteArray) (hs : s.size ≤ 100000000) (w : World) : Calls Tryd.prog 48 #[.string s] w (RReadPost w (readS s.data.toList)) := by
  have HW := hide (rwords_any s hs w)
  unfold readS
  generalize hws : wordsOf s.data.toList = ws at HW ⊢
  by_cases h16 : ws.length ≤ 16
  · rw [if_pos h16]
    go_enter Tryd.func48, Tryd.ntmps48
    go_wp2_with (go_at_call 74; refine (HW.out).mono ?_; rintro e w1 ⟨A0, cap0, rfl, hrow, ho1⟩; have HR0 := hide hrow; have HO1 := hide ho1; clear hrow ho1)
    have hn16 : ¬ ((16 : Int) < (ws.length : Int)) := by omega
    go_loopw [5, 6] (fun v i wr => ∃ (k n cap : Nat) (A : Option Addr) (l : List Itm), v = .slice A n cap ∧ i = .int .i64 (k : Int) ∧ RRInv w w1 wr ws k A n cap l) (fun _ i _ => ws.length - (intOf i).toNat)
    case atStart => exact ⟨0, 0, 0, none, [], rfl, rfl, Nat.zero_le _, World.ownsRow_nil _ _ _ _, rfl, Only.refl _ _, rfl⟩
    case round =>
      obtain ⟨k, n, cap, A, l, rfl, rfl, hI⟩ := hrel
      have HI := hide hI
      have hle := hI.le
      have hnk := hI.len
      have HSZ := hide hI.size
      have HNB : Hid (n ≤ 1000000000) := hide (by omega)
      by_cases hk : k < ws.length
      · obtain ⟨b, sb, rfl, hmem, hc, hbad, hmore⟩ := rr_at HR0.out hI hk
        have hss : sb.size ≤ 1000000000 := by
          have h1 : sb.data.toList.length = sb.size := by simp
          have h2 := wordsOf_len _ _ (hws ▸ hmem)
          have h3 : s.data.toList.length = s.size := by simp
          omega
        have HB := hide hbad
        have HM := hide hmore
        have HNM := hide (rnumber_any sb hss 18446744073709551615 (by decide) wr)
        unfold RNumPost at HNM
        have hkI : (k : Int) < (ws.length : Int) := by omega
        clear hI hnk hle hss hmem hbad hmore hws
        by_cases h1 : sb.data.toList = bNone
        · have e1 : (sb.toList == ([110, 111, 110, 101] : List UInt8)) = true := rl_eq_true h1
          have HX : Hid (readW sb.data.toList = some .nothing) := hide (by rw [h1]; rfl)
          clear h1
          go_wp2_with (at_builtin; refine wpList_push rfl _ _ rfl Tryd.underlying45 infoItem rfl (by decide) (by decide) HI.out.row HSZ.out #[Value.int .i64 (sortI .nothing), .int .u64 (numI .nothing)] rfl (itm_cells_one .nothing) HNB.out rfl rfl ?_; intro A9 c9 w3 hr9 ho9; have HR := hide hr9; have HO := hide ho9; clear hr9 ho9)
          go_roundw
          case rel =>
            first
              | exact ⟨k + 1, n + 1, c9, A9, _, rfl, rfl, HM.out _ _ _ _ _ HX.out (Only.refl _ _) HR.out HO.out⟩
              | exact ⟨_, _, _, _, ⟨k + 1, n + 1, c9, A9, rfl, rfl, _, HM.out _ _ _ _ _ HX.out (Only.refl _ _) HR.out HO.out⟩, rfl, rfl, rfl, rfl⟩
          case measure =>
            show ws.length - ((k : Int) + 1).toNat < ws.length - (k : Int).toNat
            omega
        · have e1 : (sb.toList == ([110, 111, 110, 101] : List UInt8)) = false := rl_eq_false h1
          by_cases h2 : sb.data.toList = bYes
          · have e2 : (sb.toList == ([121, 101, 115] : List UInt8)) = true := rl_eq_true h2
            have HX : Hid (readW sb.data.toList = some (.truth true)) := hide (by rw [h2]; rfl)
            clear h1 h2
            go_wp2_with (at_builtin; refine wpList_push rfl _ _ rfl Tryd.underlying45 infoItem rfl (by decide) (by decide) HI.out.row HSZ.out #[Value.int .i64 (sortI (.truth true)), .int .u64 (numI (.truth true))] rfl (itm_cells_one (.truth true)) HNB.out rfl rfl ?_; intro A9 c9 w3 hr9 ho9; have HR := hide hr9; have HO := hide ho9; clear hr9 ho9)
            go_roundw
            case rel =>
              first
                | exact ⟨k + 1, n + 1, c9, A9, _, rfl, rfl, HM.out _ _ _ _ _ HX.out (Only.refl _ _) HR.out HO.out⟩
                | exact ⟨_, _, _, _, ⟨k + 1, n + 1, c9, A9, rfl, rfl, _, HM.out _ _ _ _ _ HX.out (Only.refl _ _) HR.out HO.out⟩, rfl, rfl, rfl, rfl⟩
            case measure =>
              show ws.length - ((k : Int) + 1).toNat < ws.length - (k : Int).toNat
              omega
          · have e2 : (sb.toList == ([121, 101, 115] : List UInt8)) = false := rl_eq_false h2
            by_cases h3 : sb.data.toList = bNo
            · have e3 : (sb.toList == ([110, 111] : List UInt8)) = true := rl_eq_true h3
              have HX : Hid (readW sb.data.toList = some (.truth false)) := hide (by rw [h3]; rfl)
              clear h1 h2 h3
              go_wp2_with (at_builtin; refine wpList_push rfl _ _ rfl Tryd.underlying45 infoItem rfl (by decide) (by decide) HI.out.row HSZ.out #[Value.int .i64 (sortI (.truth false)), .int .u64 (numI (.truth false))] rfl (itm_cells_one (.truth false)) HNB.out rfl rfl ?_; intro A9 c9 w3 hr9 ho9; have HR := hide hr9; have HO := hide ho9; clear hr9 ho9)
              go_roundw
              case rel =>
                first
                  | exact ⟨k + 1, n + 1, c9, A9, _, rfl, rfl, HM.out _ _ _ _ _ HX.out (Only.refl _ _) HR.out HO.out⟩
                  | exact ⟨_, _, _, _, ⟨k + 1, n + 1, c9, A9, rfl, rfl, _, HM.out _ _ _ _ _ HX.out (Only.refl _ _) HR.out HO.out⟩, rfl, rfl, rfl, rfl⟩
              case measure =>
                show ws.length - ((k : Int) + 1).toNat < ws.length - (k : Int).toNat
                omega
            · have e3 : (sb.toList == ([110, 111] : List UInt8)) = false := rl_eq_false h3
              have HX : Hid (readW sb.data.toList = (decMost 18446744073709551615 sb.data.toList).map .num) := hide ((if_neg h2).trans ((if_neg h3).trans (if_neg h1)))
              clear h1 h2 h3
              generalize decMost 18446744073709551615 sb.data.toList = o at HX HNM
              rcases o with _ | m
              · simp only [numOf, isNum, Option.isSome_none] at HNM
                have HBB : Hid (readAll ws = none) := hide (HB.out HX.out)
                go_wp2_with (go_at_call 75; refine (HNM.out).mono ?_; rintro e w2 ⟨rfl, rfl⟩)
                go_ret2
                exact ⟨Only.after HO1.out HI.out.only (fun k hk => .inr (Nat.le_trans HO1.out.size hk)), by rw [HBB.out]; rfl⟩
              · simp only [numOf, isNum, Option.isSome_some] at HNM
                go_wp2_with (first | (go_at_call 75; refine (HNM.out).mono ?_; rintro e w2 ⟨rfl, rfl⟩) | (at_builtin; refine wpList_push rfl _ _ rfl Tryd.underlying45 infoItem rfl (by decide) (by decide) HI.out.row HSZ.out #[Value.int .i64 (sortI (.num m)), .int .u64 (numI (.num m))] rfl (itm_cells_one (.num m)) HNB.out rfl rfl ?_; intro A9 c9 w3 hr9 ho9; have HR := hide hr9; have HO := hide ho9; clear hr9 ho9))
                go_roundw
                case rel =>
                  first
                    | exact ⟨k + 1, n + 1, c9, A9, _, rfl, rfl, HM.out _ _ _ _ _ HX.out (Only.refl _ _) HR.out HO.out⟩
                    | exact ⟨_, _, _, _, ⟨k + 1, n + 1, c9, A9, rfl, rfl, _, HM.out _ _ _ _ _ HX.out (Only.refl _ _) HR.out HO.out⟩, rfl, rfl, rfl, rfl⟩
                case measure =>
                  show ws.length - ((k : Int) + 1).toNat < ws.length - (k : Int).toNat
                  omega
      · have hk2 : k = ws.length := by omega
        have HRD : Hid (readAll ws = some l) := hide (by have := hI.read; rw [hk2, List.take_length] at this; exact this)
        have hkI : ¬ ((k : Int) < (ws.length : Int)) := by omega
        have HLN : Hid (n = l.length) := hide (by rw [(readAll_ok _ _ HRD.out).2]; omega)
        clear hI hk2 hnk hle
        go_wp2
        go_ret2
        refine ⟨Only.after HO1.out HI.out.only (fun k hk => .inr (Nat.le_trans HO1.out.size hk)), ?_⟩
        rw [HRD.out]
        refine ⟨A, cap, by rw [← HLN.out]; rfl, ItemsIn.of_own HI.out.row, fun j hj ad hA e => ?_⟩
        have hrw := HI.out.row
        rw [hA] at hrw
        have := (hrw.lt ad.block rfl).1
        have := HO1.out.size
        omega
  · rw [if_neg h16]
    have hlt : (16 : Int) < (ws.length : Int) := by omega
    clear hws
    generalize ws.length = n at hlt
    go_enter Tryd.func48, Tryd.ntmps48
    go_wp2_with (go_at_call 74; refine (HW.out).mono ?_; rintro e w1 ⟨A0, cap0, rfl, hrow, ho1⟩; have HO1 := hide ho1; clear hrow ho1)
    go_ret2
    exact ⟨HO1.out, rfl⟩
end Go.Proofs.YtngahgfppbjebaaDoor

/-
  Words in memory.
  The contract of a line's words.
-/
import Derived.Test.YtngahgfppbjebaaDoorGrpTxReg
import Derived.Test.YtngahgfppbjebaaDoorPush1
import Derived.Lib.OthersKept
import Derived.WalkSmall
import Derived.Laws.OwnMore
import Derived.Deep.RegionLaw
import Derived.Test.YtngahgfppbjebaaDoorGrpTxErase
import Derived.Test.YtngahgfppbjebaaDoorShelf
import Derived.Laws.Runes
namespace Go.Proofs.YtngahgfppbjebaaDoor
open Go.RowKit Go.Lib
set_option linter.unusedVariables false
set_option linter.unusedSimpArgs false

def wdCells (x : Wd) : List Value := [.string ⟨x.s.toArray⟩, .int .i64 (x.col : Int), .bool x.bad]
def rowWd (l : List Wd) : List Value := l.flatMap wdCells
theorem rowWd_len (l : List Wd) : (rowWd l).length = l.length * 3 := by
  induction l with
  | nil => rfl
  | cons x r ih =>
    show (wdCells x ++ rowWd r).length = _
    rw [List.length_append, ih]
    show 3 + _ = _
    simp
    omega
theorem rowWd_snoc (l : List Wd) (x : Wd) : rowWd (l ++ [x]) = rowWd l ++ wdCells x := by simp [rowWd]
theorem wdCells_one (x : Wd) : ∀ u ∈ wdCells x, u.oneCell' = true := by
  intro u hu
  simp [wdCells] at hu
  rcases hu with rfl | rfl | rfl <;> rfl
theorem infoWord : (Tryd.prog.info? 142).map (fun i => (i.zero, i.size, i.bytes)) = some (some (.agg #[.string ⟨#[]⟩, .int .i64 0, .bool false]), 3, 32) := by kernel_rfl
/-- Where a cell of the last word lies. -/
theorem rowWd_last (l : List Wd) (x : Wd) (j : Nat) (hj : j < 3) : (rowWd (l ++ [x]))[l.length * 3 + j]? = (wdCells x)[j]? := by
  rw [rowWd_snoc, List.getElem?_append_right (by rw [rowWd_len]; omega), rowWd_len]
  congr 1
  omega
theorem rowWd_set (l : List Wd) (x : Wd) (j : Nat) (hj : j < 3) (u : Value) (y : Wd) (hy : wdCells y = (wdCells x).set j u) : (rowWd (l ++ [x])).set (l.length * 3 + j) u = rowWd (l ++ [y]) := by
  rw [rowWd_snoc, rowWd_snoc, hy, ← rowWd_len, List.set_append_right _ _ (by omega)]
  congr 2
  omega
theorem row_only {S : Nat → Prop} {w w' : World} {base : Nat} {e : TypeId} {size : Nat} {v : Value} {n : Nat} {xs : List Value} (h : w.ownsRow base e size v n xs) (ho : Only S w w') (hn : ∀ k, v.ownBlock = some k → ¬ S k) :
    w'.ownsRow base e size v n xs := by
  obtain ⟨h1, h2⟩ := h
  refine ⟨h1, ?_⟩
  rcases h2 with h2 | ⟨g, cap, cur, hv, hb, hc, hr⟩
  · exact .inl h2
  · refine .inr ⟨g, cap, cur, hv, hb, ?_, hr⟩
    have hg : g < w.heap.size := by
      rcases Nat.lt_or_ge g w.heap.size with h | h
      · exact h
      · rw [Array.getElem?_eq_none h] at hc; cases hc
    rw [ho.block g hg (hn g (by rw [hv]; rfl))]
    exact hc
theorem row_succ {w : World} {base : Nat} {e : TypeId} {size : Nat} {v : Value} {n : Nat} {xs : List Value} (h : w.ownsRow base e size v (n + 1) xs) : ∃ g cap, v = .slice (some ⟨g, 0, none⟩) (n + 1) cap := by
  rcases h.2 with ⟨h1, h2⟩ | ⟨g, cap, cur, hv, _⟩
  · omega
  · exact ⟨g, cap, hv⟩
/-- What iterates over a text was moved on. -/
theorem only_iterAt (w : World) (k : Nat) (s : ByteArray) (p : Nat) : Only (fun j => j = k) w (w.iterAt k s p) :=
  ⟨rfl, rfl, rfl, by rw [iterAt_size]; exact Nat.le_refl _, fun j _ hn => iterAt_other w k j s p hn⟩
end Go.Proofs.YtngahgfppbjebaaDoor
namespace Go.Proofs.YtngahgfppbjebaaDoor
open Go.RowKit Go.Lib
set_option linter.unusedVariables false
set_option linter.unusedSimpArgs false

/-- What the words' loop stands on in memory. -/
structure WMem (w wr : World) (s : ByteArray) (k : Nat) (v : Value) (out : List Wd) : Prop where
  iter : wr.heap[w.heap.size]? = some (.stringIter s k)
  row : wr.ownsRow (w.heap.size + 1) 142 3 v out.length (rowWd out)
  only : Only Nob w wr
  size : w.heap.size + 1 ≤ wr.heap.size
def WordsTPost (w : World) (ws : List Wd) (endc : Nat) (e : Ending) (w' : World) : Prop :=
  ∃ v, e = .returned (.tuple #[v, .int .i64 (endc : Int)]) ∧ w'.ownsRow (w.heap.size + 1) 142 3 v ws.length (rowWd ws) ∧ Only Nob w w'
theorem decodeGo_at (s : ByteArray) (k : Nat) (hk : k < s.size) : decodeGo (s.extract k s.size) = Utf8.decode s k := by
  have hx : (s.extract k s.size).data.toList = s.data.toList.drop k := by
    rw [extract_data, List.take_of_length_le (by rw [List.length_drop, ← size_eq]; omega)]
  have hsz : (s.extract k s.size).size ≠ 0 := by rw [size_eq, hx, List.length_drop, ← size_eq]; omega
  unfold decodeGo
  rw [if_neg hsz, ← decodeL_drop s k, ← hx]
  rfl
theorem WMem.start (w : World) (s : ByteArray) : WMem w (w.iter s 0) s 0 (.slice none 0 0) [] :=
  ⟨World.iter_heap w s 0, World.ownsRow_nil _ _ _ _, (Only.refl _ w).alloc _, by show _ ≤ (w.alloc _).heap.size; rw [World.size_alloc]; exact Nat.le_refl _⟩
theorem WMem.next {w wr : World} {s : ByteArray} {k k' : Nat} {v : Value} {out : List Wd} (h : WMem w wr s k v out) : WMem w (wr.iterAt w.heap.size s k') s k' v out :=
  ⟨iterAt_heap _ _ _ _ _ h.iter, ownsRow_iterAt h.row (Nat.lt_succ_self _) _ _, Only.after h.only (only_iterAt _ _ _ _) (fun i hi => .inr (by omega)), by rw [iterAt_size]; exact h.size⟩
theorem WMem.nob {w wr w2 : World} {s : ByteArray} {k : Nat} {v : Value} {out : List Wd} (h : WMem w wr s k v out) (ho : Only Nob wr w2) : WMem w w2 s k v out :=
  ⟨(ho.block _ (by have := h.size; omega) (fun h => h)).trans h.iter, row_only h.row ho (fun _ _ h => h), h.only.trans ho, Nat.le_trans h.size ho.size⟩
/-- A new word. -/
theorem WMem.more {w wr w2 : World} {s : ByteArray} {k n c' : Nat} {v : Value} {A' : Option Addr} {out : List Wd} {x : Wd} (h : WMem w wr s k v out) (ho : Only (fun j => w.heap.size + 1 ≤ j) wr w2)
    (hr : w2.ownsRow (w.heap.size + 1) 142 3 (.slice A' (n + 1) c') (n + 1) (rowWd out ++ wdCells x)) (hn : out.length = n) : WMem w w2 s k (.slice A' (n + 1) c') (out ++ [x]) := by
  refine ⟨(ho.block _ (by have := h.size; omega) (fun e => by omega)).trans h.iter, ?_, Only.after h.only ho (fun i hi => .inr (by omega)), Nat.le_trans h.size ho.size⟩
  rw [rowWd_snoc, List.length_append, hn]
  exact hr
/-- The last word turned. -/
theorem WMem.turn {w wr : World} {s : ByteArray} {k n g cap : Nat} {fin : List Wd} {x y : Wd} (h : WMem w wr s k (.slice (some ⟨g, 0, none⟩) (n + 1) cap) (fin ++ [x])) (hn : fin.length = n) (j : Nat) (hj : j < 3) (u : Value) (hy : wdCells y = (wdCells x).set j u) :
    WMem w (wr.setCell ⟨g, n * 3 + j, none⟩ u) s k (.slice (some ⟨g, 0, none⟩) (n + 1) cap) (fin ++ [y]) := by
  have hg := h.row.lt g rfl
  refine ⟨?_, ?_, Only.setCell h.only (.inr (show w.heap.size ≤ g by omega)) _, Nat.le_trans h.size (by simp [World.setCell])⟩
  · exact (Below.heap_setCell wr ⟨g, n * 3 + j, none⟩ u _ (show w.heap.size ≠ g by omega)).trans h.iter
  · subst hn
    have := h.row
    rw [List.length_append, List.length_singleton] at this ⊢
    have := (World.ownsRow.stored this (fin.length * 3 + j) u).1
    rw [rowWd_set fin x j hj u y hy] at this
    exact this
theorem WMem.cells {w wr : World} {s : ByteArray} {k n g cap : Nat} {fin : List Wd} {x : Wd} (h : WMem w wr s k (.slice (some ⟨g, 0, none⟩) (n + 1) cap) (fin ++ [x])) (hn : fin.length = n) :
    wr.cell? ⟨g, n * 3, none⟩ = some (.string ⟨x.s.toArray⟩) ∧ wr.cell? ⟨g, n * 3 + 1, none⟩ = some (.int .i64 (x.col : Int)) ∧ wr.cell? ⟨g, n * 3 + 2, none⟩ = some (.bool x.bad) ∧ (∀ j, wr.frozen? ⟨g, j, none⟩ = false) := by
  subst hn
  have hr := h.row
  rw [List.length_append, List.length_singleton] at hr
  have hc : ∀ j, j < 3 → wr.cell? ⟨g, fin.length * 3 + j, none⟩ = (wdCells x)[j]? := fun j hj => by
    rw [World.ownsRow.cellAt hr (fin.length * 3 + j) (by omega), rowWd_last fin x j hj]
  exact ⟨hc 0 (by omega), hc 1 (by omega), hc 2 (by omega), fun j => World.ownsRow.frozenAt hr j⟩
theorem WMem.form {w wr : World} {s : ByteArray} {k n : Nat} {v : Value} {out : List Wd} (h : WMem w wr s k v out) (hn : out.length = n + 1) : ∃ g cap, v = .slice (some ⟨g, 0, none⟩) (n + 1) cap := by
  have hr := h.row
  rw [hn] at hr
  exact row_succ hr
theorem WMem.slice {w wr : World} {s : ByteArray} {k n : Nat} {v : Value} {out : List Wd} (h : WMem w wr s k v out) (hn : out.length = n) : ∃ A cap, v = .slice A n cap := by
  subst hn
  rcases h.row.2 with ⟨h1, h2⟩ | ⟨g, cap, cur, hv, _⟩
  · rw [h2]; exact ⟨none, 0, h1⟩
  · exact ⟨_, cap, hv⟩
theorem WMem.words {w wr : World} {s : ByteArray} {k : Nat} {v : Value} {out : List Wd} (h : WMem w wr s k v out) {e : Nat} : WordsTPost w out e (.returned (.tuple #[v, .int .i64 (e : Int)])) wr := ⟨v, rfl, h.row, h.only⟩
theorem str_app (l : List UInt8) (b : ByteArray) : (⟨(l ++ listOf b).toArray⟩ : ByteArray) = ⟨l.toArray⟩ ++ b := by
  apply ByteArray.ext
  apply Array.ext'
  simp [listOf]
theorem WMem.pos {w wr : World} {s : ByteArray} {k : Nat} {v : Value} {out : List Wd} (h : WMem w wr s k v out) : wr.iterPos w.heap.size = k := by
  unfold World.iterPos
  rw [h.iter]
theorem word_turn {w wr : World} {s : ByteArray} {k n g cap : Nat} {fin : List Wd} {c : Wd} (h : WMem w wr s k (.slice (some ⟨g, 0, none⟩) (n + 1) cap) (fin ++ [c])) (hn : fin.length = n) (r : Nat) (en : ByteArray) (he : Utf8.encode (r : Int) = en) :
    WMem w (wr.setCell ⟨g, n * 3, none⟩ (.string (⟨c.s.toArray⟩ ++ en))) s k (.slice (some ⟨g, 0, none⟩) (n + 1) cap) (fin ++ [⟨c.s ++ encB r, c.col, c.bad⟩]) := by
  refine h.turn hn 0 (by decide) _ ?_
  rw [encB_eq, he]
  show [Value.string ⟨(c.s ++ listOf en).toArray⟩, _, _] = [Value.string _, _, _]
  rw [str_app]
theorem Utf8Tabs_only {w w' : World} (h : Utf8Tabs 2 3 w) (ho : Only Nob w w') : Utf8Tabs 2 3 w' := Utf8Tabs_below h ho.new
theorem decode_str (s : ByteArray) (k : Nat) (hk : k < s.size) (w : World) (hU : Utf8Tabs 2 3 w) : Calls Tryd.prog 97 #[.string (s.extract k s.size)] w fun e w' => e = .returned (.tuple #[.int .i32 ((Utf8.decode s k).1 : Int), .int .i64 ((Utf8.decode s k).2 : Int)]) ∧ Only Nob w w' := by
  have := Tryd.utf8_DecodeRuneInString (s.extract k s.size) w hU
  rw [decodeGo_at s k hk] at this
  exact this.mono fun e w' ⟨h1, h2⟩ => ⟨h1, Only.of_new h2⟩
set_option maxRecDepth 1000000 in
set_option maxHeartbeats 4000000 in
theorem words_any (s : ByteArray) (hs : s.size ≤ 1000000) (w : World) (hU : Utf8Tabs 2 3 w) : Calls Tryd.prog 77 #[.string s] w (WordsTPost w (wordsR (runesL s.data.toList)) (endR (runesL s.data.toList))) := by
  have HU := hide hU
  clear hU
  go_enter Tryd.func77, Tryd.ntmps77
  go_wp2
  go_loopw [4, 5, 6] (fun v i c wr => ∃ (k col : Nat) (fin : List Wd) (cur : Option Wd), i = .bool cur.isSome ∧ c = .int .i64 (col : Int) ∧ WInv s k col fin cur ∧ WMem w wr s k v (fin ++ cur.toList)) (fun _ _ _ wr => s.size - wr.iterPos w.heap.size)
  case atStart => exact ⟨0, 1, [], none, rfl, rfl, WInv.start s, WMem.start w s⟩
  case round =>
    obtain ⟨k, col, fin, cur, rfl, rfl, hI, hM⟩ := hrel
    have HI := hide hI
    have HM := hide hM
    have hle := hI.le
    have hcolb := hI.colb
    have hpos : wr.iterPos w.heap.size = k := by unfold World.iterPos; rw [hM.iter]
    have hit := hM.iter
    clear hI hM
    by_cases hp : k < s.size
    · have hnx := fun ty => run_next_any_at (P := Tryd.prog) wr w.heap.size s k ty hit hp
      obtain ⟨hr1, hw1, hw2, hr⟩ := runes_at s k hp
      clear hr1
      have HD := hide (fun W h => decode_str s k hp W h)
      have HSE := hide (fun h => HI.out.semi hp h)
      have HBL := hide (fun h1 h2 => HI.out.blank hp h1 h2)
      have HGR := hide (fun h1 h2 => HI.out.grow hp h1 h2)
      have HRN : Hid ((rnAt s k).1 = (Utf8.decode s k).1 ∧ (rnAt s k).2 = (decide ((Utf8.decode s k).1 = 65533) && decide ((Utf8.decode s k).2 = 1))) := hide ⟨rfl, rfl⟩
      generalize rnAt s k = x at *
      generalize hdc : Utf8.decode s k = dc at *
      have HDC := hide hdc
      obtain ⟨r, wd⟩ := dc
      simp only at hr hw1 hw2
      clear hdc
      --ROUND
      have hx1 : x.1 = r := HRN.out.1
      by_cases h59 : r = 59
      · obtain ⟨e1, e2⟩ := HSE.out (by omega)
        have E1 := hide e1
        have E2 := hide e2
        clear e1 e2 hx1
        subst h59
        go_wp2
        go_ret2
        rw [E1.out, E2.out]
        exact (HM.out.next).words
      · have hx59 : x.1 ≠ 59 := by omega
        by_cases hb : r = 32 ∨ r = 9
        · have hbl : blankR x = true := by
            unfold blankR
            rw [hx1]
            simp only [Bool.or_eq_true, decide_eq_true_eq]
            exact hb
          have HW := hide (HBL.out hx59 hbl)
          have f59 : ((r : Int) == 59) = false := by simp; omega
          clear hbl hx59 hx1
          rcases hb with hb | hb
          all_goals
            subst hb
            go_wp2
            go_roundw
            case rel =>
              refine ⟨k + wd, col + 1, fin ++ cur.toList, none, rfl, rfl, HW.out, ?_⟩
              have := HM.out.next (k' := k + wd)
              simpa using this
            case measure =>
              rw [hpos, WMem.pos (HM.out.next (k' := k + wd))]
              omega
        · have hblank : blankR x = false := by
            unfold blankR
            rw [hx1]
            simp only [Bool.or_eq_false_iff, decide_eq_false_iff_not]
            exact ⟨fun e => hb (.inl e), fun e => hb (.inr e)⟩
          have f59 : ((r : Int) == 59) = false := by simp; omega
          have f32 : ((r : Int) == 32) = false := by simp; omega
          have f9 : ((r : Int) == 9) = false := by simp; omega
          obtain ⟨en, hen2⟩ : ∃ en : ByteArray, Utf8.encode (r : Int) = en := ⟨_, rfl⟩
          have hen : en.size ≤ 4 := hen2 ▸ encode_size_le (r : Int)
          have hconv : ∀ W, (convert 21 9 (.int .i32 (r : Int))).run Tryd.prog W = .ok (.string en) W := fun W => by
            rw [run_convert_int_string W _ _ _ _ (by kernel_rfl) Tryd.underlying9, hen2]
          have HEN := hide hen2
          clear hen2
          have HK := hide (HI.out.len)
          have HX1 := hide hx1
          clear hx1 hb
          rcases cur with _ | c
          · have hM0 : WMem w wr s k u4 fin := by simpa using HM.out
            obtain ⟨n, hn⟩ : ∃ n, fin.length = n := ⟨_, rfl⟩
            have HN := hide hn
            have hnk : n ≤ 1000000 := by have := HI.out.few; simp at this; omega
            have hwn : wrap64 (n : Int) = (n : Int) := by unfold wrap64; omega
            obtain ⟨A, cap, rfl⟩ := hM0.slice hn
            have HM1 : Hid (WMem w (wr.iterAt w.heap.size s (k + wd)) s (k + wd) (.slice A fin.length cap) fin) := hide (by rw [hn]; exact hM0.next)
            rw [hn] at HM1
            have HROW : Hid ((wr.iterAt w.heap.size s (k + wd)).ownsRow (w.heap.size + 1) 142 3 (.slice A n cap) n (rowWd fin)) := hide (by have h9 := HM1.out.row; rw [hn] at h9; exact h9)
            clear hn hM0
            by_cases hbad : r = 65533 ∧ wd = 1
            · have HG : Hid (growW none col x = ⟨[] ++ encB r, col, true⟩) := hide (by
                unfold growW
                rw [HX1.out, HRN.out.2]
                simp [hbad])
              have hr5 : ((r : Int) == 65533) = true := by simp; omega
              have hw5 : ((wd : Int) == 1) = true := by simp; omega
              clear hbad
              go_wp2_with (first | (at_builtin; refine wpList_push (w := wr.iterAt w.heap.size s (k + wd)) (base := w.heap.size + 1) (n := n) (cap := cap) (A := A) (xs := rowWd fin) rfl _ _ rfl Tryd.underlying138 infoWord rfl (by decide) (by decide) HROW.out HM1.out.size #[.string ⟨#[]⟩, .int .i64 (col : Int), .bool false] rfl (wdCells_one ⟨[], col, false⟩) (by omega) rfl rfl ?_; intro A9 c9 w2 hown ho9; have hM2 := HM1.out.more (x := ⟨[], col, false⟩) ho9 hown HN.out; obtain ⟨g, cap2, hv⟩ := hM2.form (n := n) (by simp [HN.out]); injection hv with hv1 hv2 hv3; subst hv1 hv3; have HM2 := hide hM2; clear hM2 hown ho9 hv2) | (go_at_call 97; refine (HD.out _ (Utf8Tabs_only HU.out HM2.out.only)).mono ?_; rintro e w5 ⟨rfl, ho⟩; have HM5 := hide (HM2.out.nob ho); obtain ⟨q0, q1, q2, q3⟩ := HM5.out.cells HN.out; have HM6 := hide (HM5.out.turn HN.out 2 (by decide) (.bool true) (y := ⟨[], col, true⟩) rfl); obtain ⟨q4, q5, q6, q7⟩ := HM6.out.cells HN.out; clear ho))
              go_roundw
              case rel =>
                refine ⟨k + wd, col + 1, fin, some (growW none col x), rfl, rfl, HGR.out hx59 hblank, ?_⟩
                rw [HG.out]
                exact word_turn HM6.out HN.out _ en HEN.out
              case measure =>
                have hz := WMem.pos (word_turn HM6.out HN.out _ en HEN.out)
                rw [hpos, hz]
                omega
            · have HG : Hid (growW none col x = ⟨[] ++ encB r, col, false⟩) := hide (by
                unfold growW
                rw [HX1.out, HRN.out.2]
                have : (decide (r = 65533) && decide (wd = 1)) = false := by
                  rw [Bool.and_eq_false_iff, decide_eq_false_iff_not, decide_eq_false_iff_not]
                  omega
                simp [this])
              by_cases hr5 : r = 65533
              · have hw5 : ((wd : Int) == 1) = false := by simp; omega
                have hr6 : ((r : Int) == 65533) = true := by simp; omega
                clear hr5
                go_wp2_with (first | (at_builtin; refine wpList_push (w := wr.iterAt w.heap.size s (k + wd)) (base := w.heap.size + 1) (n := n) (cap := cap) (A := A) (xs := rowWd fin) rfl _ _ rfl Tryd.underlying138 infoWord rfl (by decide) (by decide) HROW.out HM1.out.size #[.string ⟨#[]⟩, .int .i64 (col : Int), .bool false] rfl (wdCells_one ⟨[], col, false⟩) (by omega) rfl rfl ?_; intro A9 c9 w2 hown ho9; have hM2 := HM1.out.more (x := ⟨[], col, false⟩) ho9 hown HN.out; obtain ⟨g, cap2, hv⟩ := hM2.form (n := n) (by simp [HN.out]); injection hv with hv1 hv2 hv3; subst hv1 hv3; have HM2 := hide hM2; clear hM2 hown ho9 hv2) | (go_at_call 97; refine (HD.out _ (Utf8Tabs_only HU.out HM2.out.only)).mono ?_; rintro e w5 ⟨rfl, ho⟩; have HM5 := hide (HM2.out.nob ho); obtain ⟨q0, q1, q2, q3⟩ := HM5.out.cells HN.out; clear ho))
                go_roundw
                case rel =>
                  refine ⟨k + wd, col + 1, fin, some (growW none col x), rfl, rfl, HGR.out hx59 hblank, ?_⟩
                  rw [HG.out]
                  exact word_turn HM5.out HN.out _ en HEN.out
                case measure =>
                  have hz := WMem.pos (word_turn HM5.out HN.out _ en HEN.out)
                  rw [hpos, hz]
                  omega
              · have hr6 : ((r : Int) == 65533) = false := by simp; omega
                go_wp2_with (first | (at_builtin; refine wpList_push (w := wr.iterAt w.heap.size s (k + wd)) (base := w.heap.size + 1) (n := n) (cap := cap) (A := A) (xs := rowWd fin) rfl _ _ rfl Tryd.underlying138 infoWord rfl (by decide) (by decide) HROW.out HM1.out.size #[.string ⟨#[]⟩, .int .i64 (col : Int), .bool false] rfl (wdCells_one ⟨[], col, false⟩) (by omega) rfl rfl ?_; intro A9 c9 w2 hown ho9; have hM2 := HM1.out.more (x := ⟨[], col, false⟩) ho9 hown HN.out; obtain ⟨g, cap2, hv⟩ := hM2.form (n := n) (by simp [HN.out]); injection hv with hv1 hv2 hv3; subst hv1 hv3; have HM2 := hide hM2; clear hM2 hown ho9 hv2) | (go_at_call 97; refine (HD.out _ (Utf8Tabs_only HU.out HM2.out.only)).mono ?_; rintro e w5 ⟨rfl, ho⟩; have HM5 := hide (HM2.out.nob ho); obtain ⟨q0, q1, q2, q3⟩ := HM5.out.cells HN.out; clear ho))
                go_roundw
                case rel =>
                  refine ⟨k + wd, col + 1, fin, some (growW none col x), rfl, rfl, HGR.out hx59 hblank, ?_⟩
                  rw [HG.out]
                  exact word_turn HM5.out HN.out _ en HEN.out
                case measure =>
                  have hz := WMem.pos (word_turn HM5.out HN.out _ en HEN.out)
                  rw [hpos, hz]
                  omega
          · have HM1 := hide (HM.out.next (k' := k + wd))
            obtain ⟨n, hn⟩ : ∃ n, fin.length = n := ⟨_, rfl⟩
            have HN := hide hn
            have hnk : n ≤ 1000000 := by have := HI.out.few; simp at this; omega
            have hwn : wrap64 (n : Int) = (n : Int) := by unfold wrap64; omega
            obtain ⟨g, cap, rfl⟩ := HM.out.form (n := n) (by simp [hn])
            have hcs : (⟨c.s.toArray⟩ : ByteArray).size ≤ 4000000 := by
              have := HK.out c rfl
              show c.s.toArray.size ≤ _
              rw [List.size_toArray]
              omega
            clear hn
            by_cases hbad : r = 65533 ∧ wd = 1
            · have HG : Hid (growW (some c) col x = ⟨c.s ++ encB r, c.col, true⟩) := hide (by
                unfold growW
                rw [HX1.out, HRN.out.2]
                simp [hbad])
              have hr5 : ((r : Int) == 65533) = true := by simp; omega
              have hw5 : ((wd : Int) == 1) = true := by simp; omega
              clear hbad
              go_wp2_with (first | (go_at_call 97; refine (HD.out _ (Utf8Tabs_only HU.out HM1.out.only)).mono ?_; rintro e w5 ⟨rfl, ho⟩; have HM5 := hide (HM1.out.nob ho); obtain ⟨q0, q1, q2, q3⟩ := HM5.out.cells HN.out; have HM6 := hide (HM5.out.turn HN.out 2 (by decide) (.bool true) (y := { c with bad := true }) rfl); obtain ⟨q4, q5, q6, q7⟩ := HM6.out.cells HN.out; clear ho))
              go_roundw
              case rel =>
                refine ⟨k + wd, col + 1, fin, some (growW (some c) col x), rfl, rfl, HGR.out hx59 hblank, ?_⟩
                rw [HG.out]
                exact word_turn HM6.out HN.out _ en HEN.out
              case measure =>
                have hz := WMem.pos (word_turn HM6.out HN.out _ en HEN.out)
                rw [hpos, hz]
                omega
            · have HG : Hid (growW (some c) col x = ⟨c.s ++ encB r, c.col, c.bad⟩) := hide (by
                unfold growW
                rw [HX1.out, HRN.out.2]
                have : (decide (r = 65533) && decide (wd = 1)) = false := by
                  rw [Bool.and_eq_false_iff, decide_eq_false_iff_not, decide_eq_false_iff_not]
                  omega
                simp [this])
              by_cases hr5 : r = 65533
              · have hw5 : ((wd : Int) == 1) = false := by simp; omega
                have hr6 : ((r : Int) == 65533) = true := by simp; omega
                clear hr5
                go_wp2_with (first | (go_at_call 97; refine (HD.out _ (Utf8Tabs_only HU.out HM1.out.only)).mono ?_; rintro e w5 ⟨rfl, ho⟩; have HM5 := hide (HM1.out.nob ho); obtain ⟨q0, q1, q2, q3⟩ := HM5.out.cells HN.out; clear ho))
                go_roundw
                case rel =>
                  refine ⟨k + wd, col + 1, fin, some (growW (some c) col x), rfl, rfl, HGR.out hx59 hblank, ?_⟩
                  rw [HG.out]
                  exact word_turn HM5.out HN.out _ en HEN.out
                case measure =>
                  have hz := WMem.pos (word_turn HM5.out HN.out _ en HEN.out)
                  rw [hpos, hz]
                  omega
              · have hr6 : ((r : Int) == 65533) = false := by simp; omega
                go_wp2_with (first | (go_at_call 97; refine (HD.out _ (Utf8Tabs_only HU.out HM1.out.only)).mono ?_; rintro e w5 ⟨rfl, ho⟩; have HM5 := hide (HM1.out.nob ho); obtain ⟨q0, q1, q2, q3⟩ := HM5.out.cells HN.out; clear ho))
                go_roundw
                case rel =>
                  refine ⟨k + wd, col + 1, fin, some (growW (some c) col x), rfl, rfl, HGR.out hx59 hblank, ?_⟩
                  rw [HG.out]
                  exact word_turn HM5.out HN.out _ en HEN.out
                case measure =>
                  have hz := WMem.pos (word_turn HM5.out HN.out _ en HEN.out)
                  rw [hpos, hz]
                  omega
    · have hnx := fun ty => run_next_end_at (P := Tryd.prog) wr w.heap.size s k ty hit hp
      have HF := hide (HI.out.fin_ hp)
      go_wp2
      go_ret2
      rw [HF.out.1, HF.out.2]
      exact HM.out.words
end Go.Proofs.YtngahgfppbjebaaDoor

/-
  The text of a slate.
-/
import Derived.Test.YtngahgfppbjebaaDoorSlateKeep
import Derived.Deep.OwnRows
namespace Go.Proofs.YtngahgfppbjebaaDoor
open Go.RowKit Go.Deep
set_option linter.unusedVariables false
set_option linter.unusedSimpArgs false

def strItm (x : Itm) : Value := .string ⟨(itmW x).toArray⟩
/-- The row of words, of which k are written. -/
def wordCells (l : List Itm) (k : Nat) : Array Value := ((l.take k).map strItm ++ List.replicate (l.length - k) (Value.string ⟨#[]⟩)).toArray
theorem wordCells_start (l : List Itm) : wordCells l 0 = Array.replicate l.length (Value.string ⟨#[]⟩) := by simp [wordCells]
theorem wordCells_step (l : List Itm) (k : Nat) (hk : k < l.length) : (wordCells l k).setIfInBounds k (strItm l[k]) = wordCells l (k + 1) := by
  apply Array.toList_inj.1
  rw [Array.toList_setIfInBounds]
  unfold wordCells
  simp only [List.map_take]
  rw [List.take_add_one, List.getElem?_map, List.getElem?_eq_getElem hk]
  have e : l.length - k = (l.length - (k + 1)) + 1 := by omega
  have hlen : ((l.map strItm).take k).length = k := by simp; omega
  rw [e, List.replicate_succ, List.set_append_right _ _ (by omega), hlen]
  simp
theorem wordCells_at (l : List Itm) (k : Nat) (hk : k < l.length) : (wordCells l k)[k]? = some (Value.string ⟨#[]⟩) := by
  unfold wordCells
  have hlen : ((l.take k).map strItm).length = k := by simp; omega
  simp only [List.getElem?_toArray]
  rw [List.getElem?_append_right (by omega), hlen, Nat.sub_self, List.getElem?_replicate, if_pos (by omega)]
theorem wordCells_done (l : List Itm) (j : Nat) (x : ByteArray) (h : (l.map fun x => (⟨(itmW x).toArray⟩ : ByteArray))[j]? = some x) : (wordCells l l.length)[j]? = some (.string x) := by
  unfold wordCells
  rw [List.take_length, Nat.sub_self]
  simp only [List.replicate_zero, List.append_nil, List.getElem?_toArray]
  rw [List.getElem?_map] at h ⊢
  cases hx : l[j]? with
  | none => rw [hx] at h; cases h
  | some y =>
    rw [hx] at h
    injection h with h
    rw [← h]
    rfl
theorem madeCells_one (z : Value) (n : Nat) : madeCells #[z] n = Array.replicate n z := by
  apply Array.ext
  · simp [size_madeCells]
  · intro i h1 h2
    have : i % 1 = 0 := Nat.mod_one i
    simp [madeCells, this]
structure TextInv (w wr : World) (base g : Nat) (v : Value) (l : List Itm) (B k : Nat) : Prop where
  le : k ≤ l.length
  row : Blk wr B 9 (wordCells l k)
  new : w.heap.size ≤ B
  only : Only Nob w wr
  sl : Sl wr base g v l
  tab : Pow10 wr

theorem infoStr : (Tryd.prog.info? 9).map (fun i => (i.zero, i.size, i.bytes)) = some (some (.string ⟨#[]⟩), 1, 16) := by kernel_rfl
set_option maxRecDepth 100000 in
theorem text_any (w : World) (base g : Nat) (v : Value) (l : List Itm) (h : Sl w base g v l) (hl : l.length ≤ 1000) (hok : ∀ x ∈ l, x.ok) (htab : Pow10 w) :
    Calls Tryd.prog 23 #[.pointer (some ⟨g, 0, none⟩)] w fun e w' => e = .returned (.string ⟨(textI l).toArray⟩) ∧ Only Nob w w' := by
  obtain ⟨A, cap, rfl⟩ := h.form
  have hc := h.cell.cell 0
  simp at hc
  have hgl := h.cell.lt
  have HO : Hid (∀ j, (Value.slice A l.length cap).ownBlock = some j → j < w.heap.size) := hide (fun j hj => (h.own_lt hj).2)
  have H := hide h
  have HT := hide htab
  have HL := hide hok
  obtain ⟨n, hn⟩ : ∃ n, l.length = n := ⟨_, rfl⟩
  rw [hn] at hc H hl HO
  clear h htab hok
  have hmk := fun w => run_make_row' (P := Tryd.prog) 86 9 (.string ⟨#[]⟩) 16 Tryd.underlying86 infoStr rfl .i64 .i64 n (by omega) (by omega) w
  go_enter Tryd.func23, Tryd.ntmps23
  go_wp2
  go_loopw [17] (fun i wr => ∃ k : Nat, i = .int .i64 (k : Int) ∧ TextInv w wr base g (.slice A n cap) l w.heap.size k) (fun i _ => n - (intOf i).toNat)
  case atStart =>
    refine ⟨0, rfl, Nat.zero_le _, ?_, Nat.le_refl _, (Only.refl _ _).alloc _, H.out.nob ((Only.refl _ _).alloc _), HT.out.nob ((Only.refl _ _).alloc _)⟩
    rw [wordCells_start, hn]
    rw [← madeCells_one]
    exact Blk.new w 9 (madeCells #[.string ⟨#[]⟩] n)
  case round =>
    obtain ⟨k, rfl, hI⟩ := hrel
    have hBlt := hI.row.lt
    by_cases hk : k < n
    · have hkl : k < l.length := by omega
      rcases hI.sl.row.2 with ⟨h1, h2⟩ | ⟨b, cap', cur, hv, _⟩
      · omega
      · injection hv with hv hv2 hv3
        clear hv2 hv3
        subst hv
        have hrow := hI.sl.row
        rw [hn] at hrow
        have hr := World.ownsRow.cellAt hrow k (by omega)
        rw [List.getElem?_map, List.getElem?_eq_getElem hkl, Option.map_some] at hr
        have HW := hide (word_any l[k] (HL.out _ (List.getElem_mem hkl)) wr hI.tab)
        have HS := hide (wordCells_step l k hkl)
        unfold strItm at HS
        have ha := wordCells_at l k hkl
        have HI := hide hI
        have hkI : (k : Int) < (n : Int) := by omega
        clear hI
        generalize itemV l[k] = xv at *
        generalize itmW l[k] = wd at *
        have HKL := hide hkl
        have HN := hide hn
        clear hrow hkl hn
        go_wp2_with (go_at_call 45; refine (HW.out).mono ?_; rintro e w2 ⟨rfl, h1⟩; have hb2 := HI.out.row.only h1 (fun h => h); have hc2 := (hb2.cell k).trans ha; have hf2 := hb2.frozen k; have HB2 := hide hb2; have H1 := hide h1; clear h1 hb2)
        go_roundw
        case rel =>
          refine ⟨k + 1, rfl, HKL.out, ?_, HI.out.new, ?_, ?_, ?_⟩
          · have := HB2.out.set_ k (.string ⟨wd.toArray⟩)
            rw [HS.out] at this
            exact this
          · exact (HI.out.only.trans H1.out).setCell (p := ⟨w.heap.size, k, none⟩) (.inr (Nat.le_refl _)) _
          · exact ((HI.out.sl.nob H1.out).only (Only.setCell (S := fun j => j = w.heap.size) (p := ⟨w.heap.size, k, none⟩) ((Only.refl _ _)) (.inl rfl) _) (by omega) (fun j hj => Nat.ne_of_lt (HO.out j hj)))
          · exact (HI.out.tab.nob H1.out).only (Only.setCell (S := fun j => j = w.heap.size) (p := ⟨w.heap.size, k, none⟩) (Only.refl _ _) (.inl rfl) _) (by have := HT.out.lt; omega)
        case measure =>
          show n - ((k : Int) + 1).toNat < n - (k : Int).toNat
          omega
    · have hkn : k = n := by have := hI.le; omega
      subst hkn
      have HJ : Hid (Calls Tryd.prog 46 #[.slice (some ⟨w.heap.size, 0, none⟩) k k, .string ⟨#[32]⟩] wr fun e w' => e = .returned (.string ⟨(textI l).toArray⟩) ∧ Only Nob wr w') := hide (by
        have hlen := textI_len l HL.out
        have e : (l.map fun x => (⟨(itmW x).toArray⟩ : ByteArray)).map (·.data.toList) = l.map itmW := by simp
        have hj := Tryd.strings_Join w.heap.size 0 k (l.map fun x => (⟨(itmW x).toArray⟩ : ByteArray)) ⟨#[32]⟩ wr (fun j x hx => by
            rw [Nat.zero_add, hI.row.cell, ← hn]
            exact wordCells_done l j x hx) hBlt (by simp; omega) (by simp; omega) (by rw [e]; unfold textI at hlen; simp; omega)
        rw [e, List.length_map, hn] at hj
        exact hj.mono fun e w' ⟨h1, h2⟩ => ⟨h1, Only.of_new h2⟩)
      have HI := hide hI
      clear hI hn
      go_wp2_with (go_at_call 46; refine (HJ.out).mono ?_; rintro e w2 ⟨rfl, h1⟩; have H1 := hide h1; clear h1)
      go_ret
      exact ⟨rfl, HI.out.only.trans H1.out⟩
end Go.Proofs.YtngahgfppbjebaaDoor

/-
  The builder's writers, at this program.
-/
import Derived.Test.YtngahgfppbjebaaDoorTxTold
import Derived.Test.YtngahgfppbjebaaDoorShelf
import Derived.Shelf.Strings.BuilderK
namespace Go.Proofs.YtngahgfppbjebaaDoor
open Go.RowKit Go.Lib
set_option linter.unusedVariables false
set_option linter.unusedSimpArgs false

/-- The builder at a block holds these bytes. -/
def BuiltAt (w : World) (b : Nat) (l : List UInt8) : Prop := Lib.IsBuilderF 113 5 b b (Lib.byteCells l) w
/-- A writer's frame: the blocks below it, and those above it that are no bytes. -/
def Wrote (w w' : World) (b : Nat) : Prop := Below b w w' ∧ Lib.OthersKept 5 (some b) w w'
theorem check_any (b : Nat) (bs : List Value) (w : World) (h : Lib.IsBuilderF 113 5 b b bs w) : Calls Tryd.prog 85 #[.pointer (some ⟨b, 0, none⟩)] w fun e w' => e = .returned (.tuple #[]) ∧ Lib.BuilderAtF 113 5 b b (.pointer (some ⟨b, 0, none⟩)) bs w' ∧ Below b w w' ∧ Lib.OthersKept 5 (some b) w w' :=
  Any.Builder_copyCheck_k (P := Tryd.prog) (ρ := Tryd.lays165_ren) { Tryd.lays165 with } Tryd.Builder_Extra_165.toX72 b b bs w h
set_option maxHeartbeats 2000000 in
set_option maxRecDepth 100000 in
theorem writeString_any (b : Nat) (l : List UInt8) (s : ByteArray) (w : World) (h : BuiltAt w b l) (hl : l.length + s.size ≤ 1000000000) : Calls Tryd.prog 55 #[.pointer (some ⟨b, 0, none⟩), .string s] w fun e w' => e = .returned (.tuple #[.int .i64 s.size, .nilIface]) ∧ BuiltAt w' b (l ++ s.data.toList) ∧ Wrote w w' b := by
  obtain ⟨i0, hi, hz0, hz1, hz2⟩ := info_parts Tryd.Builder_Extra_165.infoByte
  have hbc : (Lib.byteCells l).length = l.length := by simp [Lib.byteCells]
  have HB := hide h
  clear h
  go_enter Tryd.func55, Tryd.ntmps55
  go_wp2_with (go_at_call 85; refine (check_any b _ _ HB.out).mono ?_)
  rintro e w1 ⟨rfl, h1, hb1, hk1⟩
  have hltb := h1.lt
  obtain ⟨hB, v, hbk, hown, hne⟩ := h1
  have c0 : w1.cell? ⟨b, 0, none⟩ = some (.pointer (some ⟨b, 0, none⟩)) := by rw [Lib.cell_of_heap hbk]; rfl
  have c1 : w1.cell? ⟨b, 1, none⟩ = some v := by rw [Lib.cell_of_heap hbk]; rfl
  go_wp2_with (at_builtin; refine Lib.wpList_append_own_stringF _ rfl _ _ 39 9 rfl b 5 i0 Tryd.underlying39 Tryd.underlying9 hi hz0 hz1 hz2 _ _ _ rfl hown s rfl ?c3 ?c4 ?c5 ?_)
  case c3 => unfold maxLen; omega
  case c4 => omega
  case c5 => have := hb1.size; omega
  intro v' w2 hown' hgrow _
  have hlt : b < w1.heap.size := by
    rcases Nat.lt_or_ge b w1.heap.size with h' | h'
    · exact h'
    · simp [Array.getElem?_eq_none h'] at hbk
  have hb2 : w2.heap[b]? = some (.cells #[.pointer (some ⟨b, 0, none⟩), v] 113 (0, 0)) := by
    rw [hgrow.block b hlt (fun e => hne e.symm)]
    exact hbk
  have d0 : w2.cell? ⟨b, 0, none⟩ = some (.pointer (some ⟨b, 0, none⟩)) := by rw [Lib.cell_of_heap hb2]; rfl
  have d1 : w2.cell? ⟨b, 1, none⟩ = some v := by rw [Lib.cell_of_heap hb2]; rfl
  have f1 : w2.frozen? ⟨b, 1, none⟩ = false := Lib.frozen_of_heap hb2 1
  obtain ⟨ao, n', cap, rfl⟩ : ∃ ao n' cap, v' = .slice ao n' cap := by
    rcases hown'.2 with ⟨hv, _⟩ | ⟨g, cap, cur, fz, hv, _⟩
    · exact ⟨_, _, _, hv⟩
    · exact ⟨_, _, _, hv⟩
  go_wp2
  go_ret2
  refine ⟨rfl, .inr ?_, ?_, (hk1.grown hgrow (Lib.ownsRowF_kind hown)).setCell ⟨b, 1, none⟩ rfl _⟩
  · have := Lib.BuilderAtF.put (T := 113) (e := 5) hB hb2 (bs' := Lib.byteCells l ++ Lib.strCells s) (by rw [List.length_append, Lib.strCells_length, hbc]; exact hown') Tryd.Builder_Extra_165.neB5
    have e9 : Lib.byteCells (l ++ s.data.toList) = Lib.byteCells l ++ Lib.strCells s := by simp [Lib.byteCells, Lib.strCells]
    rw [e9]
    exact this
  · exact (hb1.grown hgrow (by have := hb1.size; omega) (fun k hk => (hown.lt k hk).1)).setCell (p := ⟨b, 1, none⟩) hB _
set_option maxHeartbeats 2000000 in
set_option maxRecDepth 100000 in
theorem writeByte_any (b : Nat) (l : List UInt8) (c : UInt8) (w : World) (h : BuiltAt w b l) (hl : l.length + 1 ≤ 1000000000) : Calls Tryd.prog 59 #[.pointer (some ⟨b, 0, none⟩), .int .u8 (c.toNat : Int)] w fun e w' => e = .returned .nilIface ∧ BuiltAt w' b (l ++ [c]) ∧ Wrote w w' b := by
  obtain ⟨i0, hi, hz0, hz1, hz2⟩ := info_parts Tryd.Builder_Extra_165.infoByte
  have hbc : (Lib.byteCells l).length = l.length := by simp [Lib.byteCells]
  have HB := hide h
  clear h
  go_enter Tryd.func59, Tryd.ntmps59
  go_wp2_with (go_at_call 85; refine (check_any b _ _ HB.out).mono ?_)
  rintro e w1 ⟨rfl, h1, hb1, hk1⟩
  have hltb := h1.lt
  obtain ⟨hB, v, hbk, hown, hne⟩ := h1
  have c0 : w1.cell? ⟨b, 0, none⟩ = some (.pointer (some ⟨b, 0, none⟩)) := by rw [Lib.cell_of_heap hbk]; rfl
  have c1 : w1.cell? ⟨b, 1, none⟩ = some v := by rw [Lib.cell_of_heap hbk]; rfl
  go_wp2_with (at_builtin; refine wpList_append_ownF _ rfl _ _ 39 rfl b 5 i0 (.int .u8 0) 1 1 Tryd.underlying39 hi hz0 hz1 hz2 rfl (by decide) _ _ _ rfl (hown.alloc _) ⟨w1.heap.size, 0, none⟩ 1 1 [.int .u8 (c.toNat : Int)] rfl rfl ?c1 ?c2 ?c3 ?c4 ?c5 ?_)
  case c1 =>
    intro j u hj
    match j, hj with
    | 0, hj => simp at hj; subst hj; simp [Addr.add]
  case c2 => intro u hu; simp at hu; subst hu; rfl
  case c3 => unfold maxLen; omega
  case c4 => omega
  case c5 => have := hb1.size; simp; omega
  intro v' w2 hown' hgrow _
  have hb2 : w2.heap[b]? = some (.cells #[.pointer (some ⟨b, 0, none⟩), v] 113 (0, 0)) := by
    rw [hgrow.block b (by simp; omega) (fun e => hne e.symm), Lib.alloc_old w1 _ b hltb]
    exact hbk
  have d0 : w2.cell? ⟨b, 0, none⟩ = some (.pointer (some ⟨b, 0, none⟩)) := by rw [Lib.cell_of_heap hb2]; rfl
  have d1 : w2.cell? ⟨b, 1, none⟩ = some v := by rw [Lib.cell_of_heap hb2]; rfl
  have f1 : w2.frozen? ⟨b, 1, none⟩ = false := Lib.frozen_of_heap hb2 1
  obtain ⟨g, n9, cap, rfl⟩ : ∃ g n9 cap, v' = .slice (some ⟨g, 0, none⟩) n9 cap := by
    rcases hown'.2 with ⟨_, h0⟩ | ⟨g, cap, cur, fz, hv, _⟩
    · omega
    · exact ⟨g, _, cap, hv⟩
  go_wp2
  go_ret
  refine ⟨rfl, .inr ?_, ?_, ((hk1.alloc _).grown hgrow (Lib.ownsRowF_kind (hown.alloc _))).setCell ⟨b, 1, none⟩ rfl _⟩
  · have := Lib.BuilderAtF.put (T := 113) (e := 5) hB hb2 (bs' := Lib.byteCells l ++ [.int .u8 (c.toNat : Int)]) (by rw [List.length_append, hbc]; exact hown') Tryd.Builder_Extra_165.neB5
    have e9 : Lib.byteCells (l ++ [c]) = Lib.byteCells l ++ [.int .u8 (c.toNat : Int)] := by simp [Lib.byteCells]
    rw [e9]
    exact this
  · exact ((hb1.alloc (by have := hb1.size; omega) _).grown hgrow (by have := hb1.size; simp; omega) (fun k hk => (hown.lt k hk).1)).setCell (p := ⟨b, 1, none⟩) hB _
theorem string_any (b : Nat) (l : List UInt8) (w : World) (h : BuiltAt w b l) (hb : b ≤ w.heap.size) : Calls Tryd.prog 60 #[.pointer (some ⟨b, 0, none⟩)] w fun e w' => e = .returned (.string ⟨l.toArray⟩) ∧ Below b w w' :=
  (Tryd.Builder_String_any_k b b l w h hb).mono (fun e w' h => ⟨h.1, h.2.2.1⟩)
/-- 'var b strings.Builder'. -/
theorem BuiltAt.new (w : World) : BuiltAt (w.alloc (.cells #[.pointer none, .slice none 0 0] 113)) w.heap.size [] := by
  refine .inl ⟨Nat.le_refl _, .slice none 0 0, ?_, ?_, by simp [Value.ownBlock]⟩
  · exact Blk.new w _ _
  · exact ⟨rfl, .inl ⟨rfl, rfl⟩⟩
end Go.Proofs.YtngahgfppbjebaaDoor

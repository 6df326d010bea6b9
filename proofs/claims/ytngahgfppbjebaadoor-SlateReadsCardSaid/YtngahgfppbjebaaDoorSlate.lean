/-
  Contracts of package slate: what a slate is in memory; what is added; what stands at a place.
-/
import Derived.Test.YtngahgfppbjebaaDoorBase
import Derived.Test.YtngahgfppbjebaaDoorWords
import Derived.Test.YtngahgfppbjebaaDoorSlPlain
import Derived.Deep.RegionLaw
import Derived.OneCell
import Derived.Outline
namespace Go.Proofs.YtngahgfppbjebaaDoor
open Go.RowKit
set_option linter.unusedVariables false
set_option linter.unusedSimpArgs false

def itemV : Itm → Value
  | .num n => .iface 25 (.int .u64 (n : Int))
  | .truth b => .iface 4 (.bool b)
  | .nothing => .iface 80 (.agg #[])
/-- A slate at block g, its results in v's row. -/
structure Sl (w : World) (base g : Nat) (v : Value) (l : List Itm) : Prop where
  cell : Blk w g 77 #[v]
  row : w.ownsRow base 20 1 v l.length (l.map itemV)
  apart : v.ownBlock ≠ some g
theorem Sl.form {w : World} {base g : Nat} {v : Value} {l : List Itm} (h : Sl w base g v l) : ∃ A cap, v = .slice A l.length cap := by
  rcases h.row.2 with ⟨h1, h2⟩ | ⟨g, cap, cur, hv, _⟩
  · rw [h2]; exact ⟨none, 0, h1⟩
  · exact ⟨_, cap, hv⟩

theorem new_any (w : World) : Calls Tryd.prog 15 #[] w fun e w' => e = .returned (.pointer (some ⟨w.heap.size, 0, none⟩)) ∧ w' = w.alloc (.cells #[.slice none 0 0] 77) := by
  go_enter Tryd.func15, Tryd.ntmps15
  go_wp2
  go_ret
  exact ⟨rfl, rfl⟩
theorem len_any (w : World) (base g : Nat) (v : Value) (l : List Itm) (h : Sl w base g v l) (hl : l.length ≤ 1000) : Calls Tryd.prog 26 #[.pointer (some ⟨g, 0, none⟩)] w fun e w' => e = .returned (.int .i64 l.length) ∧ w = w' := by
  obtain ⟨A, cap, rfl⟩ := h.form
  have hc := h.cell.cell 0
  simp at hc
  clear h
  generalize l.length = n at *
  go_enter Tryd.func26, Tryd.ntmps26
  go_wp2
  go_ret
  exact ⟨rfl, rfl⟩
theorem at_out (w : World) (base g : Nat) (v : Value) (l : List Itm) (h : Sl w base g v l) (hl : l.length ≤ 1000) (i : Int) (hi : i < 0 ∨ (l.length : Int) ≤ i) :
    Calls Tryd.prog 42 #[.pointer (some ⟨g, 0, none⟩), .int .i64 i] w fun e w' => e = .returned .nilIface ∧ w = w' := by
  obtain ⟨A, cap, rfl⟩ := h.form
  have hc := h.cell.cell 0
  simp at hc
  clear h
  generalize l.length = n at *
  by_cases h0 : i < 0
  · clear hi
    go_enter Tryd.func42, Tryd.ntmps42
    go_wp2
    go_ret
    exact ⟨rfl, rfl⟩
  · have h1 : (n : Int) ≤ i := by omega
    clear hi
    go_enter Tryd.func42, Tryd.ntmps42
    go_wp2
    go_ret
    exact ⟨rfl, rfl⟩
theorem at_in (w : World) (base g : Nat) (v : Value) (l : List Itm) (h : Sl w base g v l) (hl : l.length ≤ 1000) (i : Nat) (hi : i < l.length) :
    Calls Tryd.prog 42 #[.pointer (some ⟨g, 0, none⟩), .int .i64 (i : Int)] w fun e w' => e = .returned (itemV l[i]) ∧ w = w' := by
  have hc := h.cell.cell 0
  simp at hc
  rcases h.row.2 with ⟨h1, h2⟩ | ⟨b, cap, cur, hv, _⟩
  · omega
  · subst hv
    have hr := World.ownsRow.cellAt h.row i (by omega)
    rw [List.getElem?_map, List.getElem?_eq_getElem hi, Option.map_some] at hr
    generalize itemV l[i] = x at *
    have hiI : (i : Int) < (l.length : Int) := by omega
    clear h
    generalize l.length = n at *
    go_enter Tryd.func42, Tryd.ntmps42
    go_wp2
    go_ret
    exact ⟨rfl, rfl⟩
theorem infoAny : (Tryd.prog.info? 20).map (fun i => (i.zero, i.size, i.bytes)) = some (some .nilIface, 1, 16) := by kernel_rfl
theorem add_full (w : World) (base g : Nat) (v : Value) (l : List Itm) (h : Sl w base g v l) (hl : l.length ≤ 1000) (hf : 16 ≤ l.length) (x : Value) :
    Calls Tryd.prog 41 #[.pointer (some ⟨g, 0, none⟩), x] w fun e w' => e = .returned (.bool false) ∧ w = w' := by
  obtain ⟨A, cap, rfl⟩ := h.form
  have hc := h.cell.cell 0
  simp at hc
  clear h
  generalize l.length = n at *
  have d1 : decide ((16 : Int) ≤ (n : Int)) = true := by simp; omega
  go_enter Tryd.func41, Tryd.ntmps41
  go_wp2
  go_ret
  exact ⟨rfl, rfl⟩
/-- What may have turned behind an 'add'. -/
def AddPost (w : World) (base g : Nat) (v : Value) (l : List Itm) (e : Ending) (w' : World) : Prop :=
  ∃ v', e = .returned (.bool true) ∧ Sl w' base g v' l ∧ Only (fun k => k = g ∨ v.ownBlock = some k) w w' ∧ (v'.ownBlock = v.ownBlock ∨ ∃ k, v'.ownBlock = some k ∧ w.heap.size ≤ k)
theorem item_one (x : Itm) : (itemV x).oneCell' = true := by cases x <;> rfl
theorem reads_item (w : World) (u : Value) (t : TypeId) : Reads (w.alloc (.cells #[u] t)) (w.heap.size + 1) 1 (some ⟨w.heap.size, 0, none⟩) 1 [u] := by
  have h := Reads.of_blk (size := 1) (n := 1) (Blk.new w t #[u]) rfl
  rw [World.size_alloc] at h
  exact h
/-- An append of one result: for a known value. -/
theorem wpList_addItem {w : World} {base n cap : Nat} {A : Option Addr} {l : List Itm} {ops : Array Oper} {rest : List Oper} {o : Oper} {a : Act} {Q : Exit → Act → World → Prop} (hgd : o.guard = none) (s x : Operand)
    (ho : o.op = .call { callee := .builtin .append, args := #[s, x], argTypes := #[75, 75] })
    {g : Nat} (h : Sl w base g (.slice A n cap) l) (hn : l.length = n) (hb : base ≤ w.heap.size) (it : Itm) (hl : n < 16)
    (hs : a.eval s = .slice A n cap) (hx : a.eval x = .slice (some ⟨w.heap.size, 0, none⟩) 1 1)
    (k : ∀ A' cap' w2, w2.ownsRow base 20 1 (.slice A' (n + 1) cap') (n + 1) ((l ++ [it]).map itemV) → (w.alloc (.cells #[itemV it] 20)).grownBy w2 (Value.slice A n cap).ownBlock →
      ((Value.slice A' (n + 1) cap').ownBlock = (Value.slice A n cap).ownBlock ∨ (Value.slice A' (n + 1) cap').ownBlock = some (w.heap.size + 1)) → Blk w2 g 77 #[.slice A n cap] → wpList Tryd.prog ops Q rest (a.put o.dst (.slice A' (n + 1) cap')) w2) :
    wpList Tryd.prog ops Q (o :: rest) a (w.alloc (.cells #[itemV it] 20)) := by
  subst hn
  obtain ⟨i0, hi, hz0, hz1, hz2⟩ := info_parts infoAny
  refine wpList_append_any _ hgd s x 75 ho base 20 i0 .nilIface 1 16 Tryd.underlying75 hi hz0 hz1 hz2 rfl (by decide) (.slice A l.length cap) l.length (l.map itemV) hs (h.row.alloc _) (w.heap.size + 1) (some ⟨w.heap.size, 0, none⟩) 1 1 [itemV it] hx (reads_item _ _ _)
    (by simpa using item_one it) (by unfold maxLen; omega) (by omega) (by simp; omega) ?_
  intro v' w2 hown hgrow hblk
  have hr : w2.ownsRow base 20 1 v' (l.length + 1) ((l ++ [it]).map itemV) := by simpa using hown
  have hv : ∃ A' cap', v' = .slice A' (l.length + 1) cap' := by
    rcases hr.2 with ⟨h1, h2⟩ | ⟨g', cap', cur, hv, _⟩
    · omega
    · exact ⟨_, cap', hv⟩
  obtain ⟨A', cap', rfl⟩ := hv
  have hb2 : Blk w2 g 77 #[.slice A l.length cap] := (hgrow.block g (by have := h.cell.lt; simp; omega) (fun e => h.apart e.symm)).trans (h.cell.alloc _)
  exact k A' cap' w2 hr hgrow (by simpa using hblk) hb2

theorem add_post {w w2 : World} {base g n cap c9 : Nat} {A A9 : Option Addr} {l : List Itm} {it : Itm} (h : Sl w base g (.slice A n cap) l) (hn : l.length = n) (hb2 : Blk w2 g 77 #[.slice A n cap])
    (hg : (w.alloc (.cells #[itemV it] 20)).grownBy w2 (Value.slice A n cap).ownBlock) (ho : w2.ownsRow base 20 1 (.slice A9 (n + 1) c9) (n + 1) ((l ++ [it]).map itemV))
    (hk : (Value.slice A9 (n + 1) c9).ownBlock = (Value.slice A n cap).ownBlock ∨ (Value.slice A9 (n + 1) c9).ownBlock = some (w.heap.size + 1)) :
    AddPost w base g (.slice A n cap) (l ++ [it]) (.returned (.bool true)) (w2.setCell ⟨g, 0, none⟩ (.slice A9 (n + 1) c9)) := by
  have hgl := h.cell.lt
  have hap : (Value.slice A9 (n + 1) c9).ownBlock ≠ some g := by
    rcases hk with e | e
    · rw [e]; exact h.apart
    · rw [e]; intro e2; injection e2; omega
  have hlen : (l ++ [it]).length = n + 1 := by simp [hn]
  refine ⟨.slice A9 (n + 1) c9, rfl, ⟨?_, ?_, hap⟩, ?_, ?_⟩
  · exact hb2.set_ 0 _
  · rw [hlen]
    exact ownsRow_setCell_other ho (fun e => hap e) _
  · refine Only.setCell ?_ (.inl (.inl rfl)) _
    refine Only.after (S' := fun k => (Value.slice A n cap).ownBlock = some k) ((Only.refl _ w).alloc _) (Only.of_grown hg (fun k hk _ => hk)) (fun i hi => .inl (.inr hi))
  · rcases hk with e | e
    · exact .inl e
    · exact .inr ⟨_, e, by omega⟩

set_option maxHeartbeats 2000000 in
theorem add_room (w : World) (base g : Nat) (v : Value) (l : List Itm) (h : Sl w base g v l) (hr : l.length < 16) (hb : base ≤ w.heap.size) (x : Itm) :
    Calls Tryd.prog 41 #[.pointer (some ⟨g, 0, none⟩), itemV x] w (AddPost w base g v (l ++ [x])) := by
  obtain ⟨A, cap, rfl⟩ := h.form
  obtain ⟨n, hn⟩ : ∃ n, l.length = n := ⟨_, rfl⟩
  rw [hn] at h hr ⊢
  have hc := h.cell.cell 0
  simp at hc
  have hg := h.cell.lt
  have H := hide h
  have Hn := hide hn
  have hn16 : n < 16 := hr
  have d1 : decide ((16 : Int) ≤ (n : Int)) = false := by simp; omega
  clear h hn hr
  rcases x with n0 | b0 | _
  all_goals
    simp only [itemV]
    go_enter Tryd.func41, Tryd.ntmps41
  · go_wp2_with (at_builtin; refine wpList_addItem rfl _ _ rfl H.out Hn.out hb (.num n0) hn16 rfl rfl ?_; intro A9 c9 w2 hown hgrow hblk hb2; have hc2 := hb2.cell 0; simp at hc2; have hf2 := hb2.frozen 0; have hg2 := hb2.lt; have HB2 := hide hb2; have HG2 := hide hgrow; have HO2 := hide hown; have HK2 := hide hblk; clear hb2 hgrow hown hblk)
    go_ret
    exact add_post H.out Hn.out HB2.out HG2.out HO2.out HK2.out
  · go_wp2_with (at_builtin; refine wpList_addItem rfl _ _ rfl H.out Hn.out hb (.truth b0) hn16 rfl rfl ?_; intro A9 c9 w2 hown hgrow hblk hb2; have hc2 := hb2.cell 0; simp at hc2; have hf2 := hb2.frozen 0; have hg2 := hb2.lt; have HB2 := hide hb2; have HG2 := hide hgrow; have HO2 := hide hown; have HK2 := hide hblk; clear hb2 hgrow hown hblk)
    go_ret
    exact add_post H.out Hn.out HB2.out HG2.out HO2.out HK2.out
  · go_wp2_with (at_builtin; refine wpList_addItem rfl _ _ rfl H.out Hn.out hb (.nothing) hn16 rfl rfl ?_; intro A9 c9 w2 hown hgrow hblk hb2; have hc2 := hb2.cell 0; simp at hc2; have hf2 := hb2.frozen 0; have hg2 := hb2.lt; have HB2 := hide hb2; have HG2 := hide hgrow; have HO2 := hide hown; have HK2 := hide hblk; clear hb2 hgrow hown hblk)
    go_ret
    exact add_post H.out Hn.out HB2.out HG2.out HO2.out HK2.out
end Go.Proofs.YtngahgfppbjebaaDoor

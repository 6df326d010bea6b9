/-
  The parser's labels: a map of the call's own, told as a list.
  The parser in memory; the field that is a jump's name.
  What 'take' stands on: the words that are left, the label that is stored.
  A field of an instruction, whichever: one contract.
-/
import Derived.Test.YtngahgfppbjebaaDoorGrpTxErase
import Derived.Test.YtngahgfppbjebaaDoorGrpWords
import Derived.Test.YtngahgfppbjebaaDoorBase
import Derived.Maps.OwnSet
import Derived.Maps.Views
import Derived.Test.YtngahgfppbjebaaDoorTxField
import Derived.Test.YtngahgfppbjebaaDoorGrpTxWords
import Derived.Deep.RegionHeld3
namespace Go.Proofs.YtngahgfppbjebaaDoor
open Go.RowKit Go.Maps Go.WideMaps
set_option linter.unusedVariables false
set_option linter.unusedSimpArgs false

theorem labKeyed : Keyed Tryd.prog 9 := string_keyed Tryd.underlying9
theorem labZero (w : World) : (zeroValue 3).run Tryd.prog w = .ok (.int .i64 0) w := by kernel_rfl
theorem wf_nat (n : Nat) (hn : n ≤ 1000000) : (Lit.int .i64 (n : Int)).wf = true := WalkArith.wf_i64 (by omega)
/-- Block gm holds just these labels. -/
def LabAt (w : World) (gm : Nat) (labels : List (List UInt8 × Nat)) : Prop :=
  ∃ (D : DataW Unit) (cnt : Nat), w.ownsMap Tryd.prog 9 (plainElem Tryd.prog 3) gm cnt D ∧ cnt ≤ labels.length ∧ (∀ s, Maps.has D (.string s) = (lookP labels s).isSome) ∧ ∀ s c, lookP labels s = some c → D.atKey (.string s) (.lit (.int .i64 0)) = .lit (.int .i64 (c : Int))
theorem LabAt.made (w : World) : LabAt (w.alloc (.map #[] 0)) w.heap.size [] :=
  ⟨_, 0, World.ownsMap_made _ _ _ _, Nat.le_refl _, fun s => rfl, fun s c h => by cases h⟩
theorem LabAt.lt {w : World} {gm : Nat} {labels : List (List UInt8 × Nat)} (h : LabAt w gm labels) : gm < w.heap.size := by
  obtain ⟨D, cnt, h1, _⟩ := h
  exact h1.lt
theorem LabAt.only {S : Nat → Prop} {w w' : World} {gm : Nat} {labels : List (List UInt8 × Nat)} (h : LabAt w gm labels) (ho : Only S w w') (hn : ¬ S gm) : LabAt w' gm labels := by
  have hlt := h.lt
  obtain ⟨D, cnt, ⟨es, clock, h1, h2⟩, h3⟩ := h
  exact ⟨D, cnt, ⟨es, clock, (ho.block gm hlt hn).trans h1, h2⟩, h3⟩
theorem LabAt.drew {w : World} {gm : Nat} {labels : List (List UInt8 × Nat)} (h : LabAt w gm labels) : LabAt w.drew gm labels := h
set_option maxRecDepth 100000 in
theorem LabAt.look {w : World} {gm : Nat} {labels : List (List UInt8 × Nat)} (h : LabAt w gm labels) (s : ByteArray) (hs : s.size ≤ maxLen) :
    ∃ c : Int, (Instr.lookup 98 (.map (some gm)) (.string s) true).run Tryd.prog w = .ok (.tuple #[.int .i64 c, .bool (lookP labels s.data.toList).isSome]) w ∧ ∀ n, lookP labels s.data.toList = some n → c = (n : Int) := by
  obtain ⟨D, cnt, h1, h2, h3, h4⟩ := h
  obtain ⟨v, ps, hrun, hv⟩ := h1.look_ok labKeyed Tryd.underlying98 (labZero w) (plainElem_int Tryd.underlying3 (by decide)) (keyOf_string_mk Tryd.underlying9 hs)
  obtain ⟨c, rfl, hc, _⟩ := plainElem_int_inv Tryd.underlying3 hv
  refine ⟨c, ?_, ?_⟩
  · rw [hrun, h3]
  · intro n hn
    have h5 := h4 _ n hn
    have h6 := congrArg Prod.fst hc
    simp only at h6
    rw [h5] at h6
    injection h6 with h6
    injection h6 with _ h6
    exact h6.symm
theorem lookP_snoc (labels : List (List UInt8 × Nat)) (s : List UInt8) (n : Nat) (t : List UInt8) (h : lookP labels s = none) : lookP (labels ++ [(s, n)]) t = if t = s then some n else lookP labels t := by
  unfold lookP at *
  rw [List.find?_append]
  by_cases ht : t = s
  · subst ht
    rw [if_pos rfl]
    cases hf : labels.find? (fun e => e.1 == t) with
    | none => simp
    | some x => rw [hf] at h; cases h
  · rw [if_neg ht]
    cases hf : labels.find? (fun e => e.1 == t) with
    | none =>
      have : (s == t) = false := by simpa using fun e => ht e.symm
      simp [this]
    | some x => simp
set_option maxRecDepth 100000 in
theorem LabAt.store {w : World} {gm : Nat} {labels : List (List UInt8 × Nat)} (h : LabAt w gm labels) (hl : labels.length ≤ 1000000) (s : ByteArray) (hs : s.size ≤ maxLen) (hno : lookP labels s.data.toList = none) (n : Nat) (hn : n ≤ 1000000) :
    ∃ w', (Instr.mapUpdate 98 (.map (some gm)) (.string s) (.int .i64 (n : Int))).run Tryd.prog w = .ok () w' ∧ LabAt w' gm (labels ++ [(s.data.toList, n)]) ∧ Only (Ob gm) w w' := by
  obtain ⟨D, cnt, h1, h2, h3, h4⟩ := h
  obtain ⟨w', hrun, h5, h6⟩ := h1.update labKeyed Tryd.underlying98 (by unfold maxLen; omega) (keyOf_string_mk Tryd.underlying9 hs) (plainElem_int Tryd.underlying3 (wf_nat n hn))
  have hM : IsMap D := by
    obtain ⟨es, clock, _, _, _, hD⟩ := h1
    exact ⟨_, hD⟩
  refine ⟨w', hrun, ⟨_, cnt + 1, h5, by rw [List.length_append]; simp; omega, ?_, ?_⟩, Only.of_grown h6 (fun k hk _ => by injection hk with hk; exact hk.symm)⟩
  · intro t
    rw [lookP_snoc _ _ _ _ hno]
    by_cases ht : t = s.data.toList
    · subst ht
      rw [if_pos rfl, has_put_same hM (by trivial)]
      rfl
    · rw [if_neg ht, has_put_other (by intro e; injection e with e; exact ht e), h3]
  · intro t c hc
    rw [lookP_snoc _ _ _ _ hno] at hc
    by_cases ht : t = s.data.toList
    · subst ht
      rw [if_pos rfl] at hc
      injection hc with hc
      subst hc
      rw [atKey_put_same hM (by trivial)]
    · rw [if_neg ht] at hc
      rw [atKey_put_other (by intro e; injection e with e; exact ht e)]
      exact h4 t c hc
end Go.Proofs.YtngahgfppbjebaaDoor
namespace Go.Proofs.YtngahgfppbjebaaDoor
open Go.RowKit
set_option linter.unusedVariables false
set_option linter.unusedSimpArgs false

def jCells (j : JP) : List Value := [.int .i64 (j.at_ : Int), .string ⟨j.s.toArray⟩, .int .i64 (j.line : Int), .int .i64 (j.col : Int)]
def rowJ (l : List JP) : List Value := l.flatMap jCells
theorem rowJ_snoc (l : List JP) (x : JP) : rowJ (l ++ [x]) = rowJ l ++ jCells x := by simp [rowJ]
theorem jCells_one (x : JP) : ∀ u ∈ jCells x, u.oneCell' = true := by
  intro u hu
  simp [jCells] at hu
  rcases hu with rfl | rfl | rfl | rfl <;> rfl
theorem infoJump : (Tryd.prog.info? 107).map (fun i => (i.zero, i.size, i.bytes)) = some (some (.agg #[.int .i64 0, .string ⟨#[]⟩, .int .i64 0, .int .i64 0]), 4, 40) := by kernel_rfl
def JRow (w : World) (base : Nat) (v : Value) (l : List JP) : Prop := w.ownsRow base 107 4 v l.length (rowJ l)
/-- The parser, at block gp; its labels at gm; its rows from base on. -/
structure PMem (w : World) (base gp gm : Nat) (vl vj : Value) (st : PS) (line : Nat) : Prop where
  cell : Blk w gp 101 #[vl, .map (some gm), vj, .int .i64 (line : Int)]
  rowl : PRow w base vl st.l
  rowj : JRow w base vj st.jumps
  lab : LabAt w gm st.labels
  gpb : gp < base
  gmb : gm < base
  ne : gm ≠ gp
  apart : ∀ k, vl.ownBlock = some k → vj.ownBlock ≠ some k
section
variable {w w' : World} {base gp gm line : Nat} {vl vj : Value} {st : PS}
theorem PMem.nob (h : PMem w base gp gm vl vj st line) (ho : Only Nob w w') : PMem w' base gp gm vl vj st line :=
  ⟨h.cell.only ho (fun h => h), row_only h.rowl ho (fun _ _ h => h), row_only h.rowj ho (fun _ _ h => h), h.lab.only ho (fun h => h), h.gpb, h.gmb, h.ne, h.apart⟩
/-- Another block of ours was written. -/
theorem PMem.other (h : PMem w base gp gm vl vj st line) {g : Nat} (ho : Only (Ob g) w w') (h1 : gp ≠ g) (h2 : gm ≠ g) (h3 : vl.ownBlock ≠ some g) (h4 : vj.ownBlock ≠ some g) : PMem w' base gp gm vl vj st line :=
  ⟨h.cell.only ho h1, row_only h.rowl ho (fun k hk e => h3 (by rw [hk]; exact congrArg some e)), row_only h.rowj ho (fun k hk e => h4 (by rw [hk]; exact congrArg some e)), h.lab.only ho h2, h.gpb, h.gmb, h.ne, h.apart⟩
theorem PMem.drew (h : PMem w base gp gm vl vj st line) : PMem w.drew base gp gm vl vj st line := h.nob ((Only.refl _ w).drew)
theorem PRow.asSlice {v : Value} {l : List PIns} (h : PRow w base v l) : ∃ A cap, v = .slice A l.length cap := by
  rcases h.2 with ⟨h1, h2⟩ | ⟨g, cap, cur, hv, _⟩
  · rw [h2]; exact ⟨none, 0, h1⟩
  · exact ⟨_, cap, hv⟩
theorem JRow.slice {v : Value} {l : List JP} (h : JRow w base v l) : ∃ A cap, v = .slice A l.length cap := by
  rcases h.2 with ⟨h1, h2⟩ | ⟨g, cap, cur, hv, _⟩
  · rw [h2]; exact ⟨none, 0, h1⟩
  · exact ⟨_, cap, hv⟩
theorem PMem.jump {W w3 : World} {v' : Value} {n : Nat} {j : JP} (h : PMem w base gp gm vl vj st line) (ho : Only Nob w W) (hn : st.jumps.length = n) (hr : w3.ownsRow base 107 4 v' (n + 1) (rowJ st.jumps ++ jCells j)) (hg : W.grownBy w3 vj.ownBlock) (hv : v'.ownBlock = vj.ownBlock ∨ v'.ownBlock = some W.heap.size) :
    PMem (w3.setCell ⟨gp, 2, none⟩ v') base gp gm vl v' { st with jumps := st.jumps ++ [j] } line ∧ Only (fun k => k = gp ∨ vj.ownBlock = some k) w (w3.setCell ⟨gp, 2, none⟩ v') ∧ (v'.ownBlock = vj.ownBlock ∨ ∀ k, v'.ownBlock = some k → w.heap.size ≤ k) := by
  have hW := h.nob ho
  have ho3 : Only (fun k => vj.ownBlock = some k) W w3 := Only.of_grown hg (fun k hk _ => hk)
  have hbl := h.rowl.lt
  have hbj := h.rowj.lt
  have hgp := h.gpb
  have hgm := h.gmb
  have hcl := h.cell.lt
  have hlm := h.lab.lt
  have hsz := ho.size
  have hsz3 := ho3.size
  have hvb : ∀ k, v'.ownBlock = some k → k ≠ gp ∧ k ≠ gm := by
    intro k hk
    rcases hv with e | e
    · rw [e] at hk
      have := (hbj k hk).1
      omega
    · rw [e] at hk
      injection hk with hk
      omega
  have hc3 := hW.cell.only ho3 (fun e => by have := (hbj _ e).1; omega)
  have hoS : Only (fun k => k = gp) w3 (w3.setCell ⟨gp, 2, none⟩ v') := Only.setCell (S := fun k => k = gp) (p := ⟨gp, 2, none⟩) (Only.refl _ _) (.inl rfl) _
  refine ⟨⟨?_, ?_, ?_, ?_, hgp, hgm, h.ne, ?_⟩, ?_, ?_⟩
  · have := hc3.set_ 2 v'
    simpa using this
  · exact row_only (row_only hW.rowl ho3 (fun k hk e => h.apart k hk e)) hoS (fun k hk e => by have := (hbl k hk).1; omega)
  · refine row_only ?_ hoS (fun k hk e => (hvb k hk).1 e)
    rw [rowJ_snoc, List.length_append, hn]
    exact hr
  · exact (hW.lab.only ho3 (fun e => by have := (hbj _ e).1; omega)).only hoS h.ne
  · intro k hk e
    rcases hv with e2 | e2
    · exact h.apart k hk (e2 ▸ e)
    · rw [e2] at e
      injection e with e
      have := (hbl k hk).2
      omega
  · refine Only.after (Only.after (S := fun k => k = gp ∨ vj.ownBlock = some k) (ho.mono (fun _ _ h => h.elim)) ho3 (fun i hi => .inl (.inr hi))) hoS (fun i hi => .inl (.inl hi))
  · rcases hv with e | e
    · exact .inl e
    · refine .inr fun k hk => ?_
      rw [e] at hk
      injection hk with hk
      omega
end
theorem PMem.grownCell {w W w3 : World} {base gp gm line : Nat} {vl vj : Value} {st : PS} (h : PMem w base gp gm vl vj st line) (ho : Only Nob w W) (hg : W.grownBy w3 vj.ownBlock) : Blk w3 gp 101 #[vl, .map (some gm), vj, .int .i64 (line : Int)] := by
  have hb := h.rowj.lt
  have hgp := h.gpb
  exact ((h.nob ho).cell).only (Only.of_grown (S := fun k => vj.ownBlock = some k) hg (fun k hk _ => hk)) (fun e => by have := (hb _ e).1; omega)
theorem reads_jump (W : World) (m line col : Nat) (s : ByteArray) : Reads (W.alloc (.cells #[.int .i64 (m : Int), .string s, .int .i64 (line : Int), .int .i64 (col : Int)] 107)) (W.heap.size + 1) 4 (some ⟨W.heap.size, 0, none⟩) 1 (jCells ⟨m, s.data.toList, line, col⟩) := by
  have h := Reads.of_blk (size := 4) (n := 1) (Blk.new W 107 #[.int .i64 (m : Int), .string s, .int .i64 (line : Int), .int .i64 (col : Int)]) rfl
  rw [World.size_alloc] at h
  exact h
def JumpPost (w : World) (base gp gm : Nat) (vl vj : Value) (st : PS) (line gx : Nat) (x : PIns) (s : List UInt8) (col : Nat) (e : Ending) (w' : World) : Prop :=
  e = .returned (.bool (nameP s)) ∧ ∃ vj', PMem w' base gp gm vl vj' { st with jumps := st.jumps ++ [⟨st.l.length, s, line, col⟩] } line ∧ InsBlk w' gx x ∧ Only (fun k => k = gp ∨ vj.ownBlock = some k) w w' ∧ (vj'.ownBlock = vj.ownBlock ∨ ∀ k, vj'.ownBlock = some k → w.heap.size ≤ k)
set_option maxRecDepth 100000 in
set_option maxHeartbeats 4000000 in
theorem field_106 (w : World) (base gp gm : Nat) (vl vj : Value) (st : PS) (line gx : Nat) (x : PIns) (s : ByteArray) (hs : s.size ≤ 1000000000) (col : Nat) (bad : Bool) (hm : PMem w base gp gm vl vj st line) (hb : base ≤ w.heap.size) (hx : InsBlk w gx x) (h1 : gx ≠ gp) (h2 : vj.ownBlock ≠ some gx) (hlen : st.jumps.length ≤ 1000) (hl : st.l.length ≤ 1000) :
    Calls Tryd.prog 82 #[.pointer (some ⟨gp, 0, none⟩), .pointer (some ⟨gx, 0, none⟩), .int .i32 106, .agg #[.string s, .int .i64 (col : Int), .bool bad]] w (JumpPost w base gp gm vl vj st line gx x s.data.toList col) := by
  have HM := hide hm
  have HX := hide hx
  have HN := hide (fun w1 => named_any s hs w1)
  obtain ⟨n, hn⟩ : ∃ n, st.jumps.length = n := ⟨_, rfl⟩
  obtain ⟨m, hmm⟩ : ∃ m, st.l.length = m := ⟨_, rfl⟩
  obtain ⟨A, cap, rfl⟩ := hm.rowj.slice
  obtain ⟨A2, cap2, rfl⟩ := hm.rowl.asSlice
  rw [hn] at HM hm h2 hlen
  rw [hmm] at HM hm hl
  have HLN := hide hn
  have HLM := hide hmm
  have HP2 := hide h2
  have hbk := hm.cell.alloc (.cells #[.string s, .int .i64 (col : Int), .bool bad] 142)
  have c0 := hbk.cell 0
  have c1 := hbk.cell 1
  have c2 := hbk.cell 2
  have c3 := hbk.cell 3
  simp at c0 c1 c2 c3
  have HBK := hide hbk
  have hgp := hm.cell.lt
  have HB := hide hb
  clear hm hx hbk hn hmm h2
  go_enter Tryd.func82, Tryd.ntmps82
  go_wp2_with fail
  obtain ⟨i0, hi, hz⟩ := Option.map_eq_some_iff.1 infoJump
  simp only [Prod.mk.injEq] at hz
  obtain ⟨hz0, hz1, hz2⟩ := hz
  have HROW : Hid (∀ W, Only Nob w W → W.ownsRow base 107 4 (.slice A n cap) n (rowJ st.jumps)) := hide (fun W ho => by have h9 := (HM.out.nob ho).rowj; unfold JRow at h9; rw [HLN.out] at h9; exact h9)
  have HL1 : Hid (n + 1 ≤ maxLen) := hide (by unfold maxLen; omega)
  have HL2 : Hid ((n + 1) * 40 ≤ 140737488355328) := hide (by omega)
  have HL3 : Hid (∀ W, Only Nob w W → base ≤ W.heap.size) := hide (fun W ho => Nat.le_trans HB.out ho.size)
  have HO2 : Hid (Only Nob w (((w.alloc (.cells #[.string s, .int .i64 (col : Int), .bool bad] 142)).alloc (.cells #[.int .i64 (m : Int), .string s, .int .i64 (line : Int), .int .i64 (col : Int)] 107)).drew)) := hide ((((Only.refl _ w).alloc _).alloc _).drew)
  have HRD : Hid (Reads (((w.alloc (.cells #[.string s, .int .i64 (col : Int), .bool bad] 142)).alloc (.cells #[.int .i64 (m : Int), .string s, .int .i64 (line : Int), .int .i64 (col : Int)] 107)).drew) (w.heap.size + 1 + 1) 4 (some ⟨w.heap.size + 1, 0, none⟩) 1 (jCells ⟨m, s.data.toList, line, col⟩)) := hide (by
    have h9 := (reads_jump (w.alloc (.cells #[.string s, .int .i64 (col : Int), .bool bad] 142)) m line col s).drew
    rw [World.size_alloc] at h9
    exact h9)
  have HBOX : Hid (Blk (((w.alloc (.cells #[.string s, .int .i64 (col : Int), .bool bad] 142)).alloc (.cells #[.int .i64 (m : Int), .string s, .int .i64 (line : Int), .int .i64 (col : Int)] 107)).drew) w.heap.size 142 #[.string s, .int .i64 (col : Int), .bool bad]) := hide (((Blk.new w _ _).alloc _).drew)
  have HOWN : Hid ((Value.slice A n cap).ownBlock ≠ some w.heap.size) := hide (fun e => by
    have h9 := HROW.out w (Only.refl _ w)
    have := (h9.lt _ e).2
    omega)
  have HS : Hid (∀ W1, Only Nob w W1 → Blk W1 w.heap.size 142 #[.string s, .int .i64 (col : Int), .bool bad] → (W1.cell? ⟨gp, 0, none⟩ = some (.slice A2 m cap2) ∧ W1.cell? ⟨gp, 3, none⟩ = some (.int .i64 (line : Int)) ∧ W1.cell? ⟨w.heap.size, 0, none⟩ = some (.string s) ∧ W1.cell? ⟨w.heap.size, 1, none⟩ = some (.int .i64 (col : Int)))) := hide (fun W1 ho h8 => by
    have h9 := HM.out.cell.only ho (fun h => h)
    exact ⟨h9.cell 0, h9.cell 3, h8.cell 0, h8.cell 1⟩)
  have HBX0 : Hid (Blk (w.alloc (.cells #[.string s, .int .i64 (col : Int), .bool bad] 142)) w.heap.size 142 #[.string s, .int .i64 (col : Int), .bool bad]) := hide (Blk.new w _ _)
  have HS0 := HS.out (w.alloc (.cells #[.string s, .int .i64 (col : Int), .bool bad] 142)).drew (((Only.refl _ w).alloc _).drew) HBX0.out.drew
  have HS1 := HS.out (((w.alloc (.cells #[.string s, .int .i64 (col : Int), .bool bad] 142)).alloc (.cells #[.int .i64 (m : Int), .string s, .int .i64 (line : Int), .int .i64 (col : Int)] 107)).drew) HO2.out HBOX.out
  clear hlen hb
  refine wp_region_noPanic ?_
  refine wp_region_held_drew (S := (fun W1 => W1.cell? ⟨gp, 0, none⟩ = some (.slice A2 m cap2) ∧ W1.cell? ⟨gp, 3, none⟩ = some (.int .i64 (line : Int)) ∧ W1.cell? ⟨w.heap.size, 0, none⟩ = some (.string s) ∧ W1.cell? ⟨w.heap.size, 1, none⟩ = some (.int .i64 (col : Int)))) (by kernel_rfl) HS0 (fun hh0 => ?_)
  refine wpAnyH_take (i := 0) (oi := { dst := some 100, op := Op.move (Operand.tmp 0), type := 97, pos := "text.go:218", after := #[], guard := none }) (v := ?_) rfl (by kernel_rfl) (by kernel_rfl) (by kernel_rfl) (fun _ _ _ h => h) (Or.inl ⟨by rfl, ?_⟩) (by assumption) ?_
  rotate_left
  · intro w hSw
    try dsimp only at hSw
    go_simp <;> (try with_reducible rfl)
  try simp only [Act.put, List.setIfInBounds_toArray, List.set_cons_zero, List.set_cons_succ]
  refine wpAnyH_take (i := 1) (oi := { dst := some 101, op := Op.move (Operand.tmp 0), type := 97, pos := "text.go:218", after := #[], guard := none }) (v := ?_) rfl (by kernel_rfl) (by kernel_rfl) (by kernel_rfl) (fun _ _ _ h => h) (Or.inl ⟨by rfl, ?_⟩) (by assumption) ?_
  rotate_left
  · intro w hSw
    try dsimp only at hSw
    go_simp <;> (try with_reducible rfl)
  try simp only [Act.put, List.setIfInBounds_toArray, List.set_cons_zero, List.set_cons_succ]
  refine wpAnyH_take (i := 2) (oi := { dst := some 102, op := Op.nilCheck (Operand.tmp 101), type := 0, pos := "text.go:218", after := #[{ on := 1, ground := Ground.data }], guard := none }) (v := ?_) rfl (by kernel_rfl) (by kernel_rfl) (by kernel_rfl) (fun _ _ _ h => h) (Or.inl ⟨by rfl, ?_⟩) (by assumption) ?_
  rotate_left
  · intro w hSw
    try dsimp only at hSw
    go_simp <;> (try with_reducible rfl)
  try simp only [Act.put, List.setIfInBounds_toArray, List.set_cons_zero, List.set_cons_succ]
  refine wpAnyH_take (i := 3) (oi := { dst := some 103, op := Op.fieldAddr 101 (Operand.tmp 102) 2, type := 0, pos := "text.go:218", after := #[{ on := 2, ground := Ground.data }], guard := none }) (v := ?_) rfl (by kernel_rfl) (by kernel_rfl) (by kernel_rfl) (fun _ _ _ h => h) (Or.inl ⟨by rfl, ?_⟩) (by assumption) ?_
  rotate_left
  · intro w hSw
    try dsimp only at hSw
    go_simp <;> (try with_reducible rfl)
  try simp only [Act.put, List.setIfInBounds_toArray, List.set_cons_zero, List.set_cons_succ]
  refine wpAnyH_take (i := 5) (oi := { dst := some 105, op := Op.move (Operand.tmp 0), type := 97, pos := "text.go:218", after := #[], guard := none }) (v := ?_) rfl (by kernel_rfl) (by kernel_rfl) (by kernel_rfl) (fun _ _ _ h => h) (Or.inl ⟨by rfl, ?_⟩) (by assumption) ?_
  rotate_left
  · intro w hSw
    try dsimp only at hSw
    go_simp <;> (try with_reducible rfl)
  try simp only [Act.put, List.setIfInBounds_toArray, List.set_cons_zero, List.set_cons_succ]
  refine wpAnyH_take (i := 6) (oi := { dst := some 106, op := Op.nilCheck (Operand.tmp 105), type := 0, pos := "text.go:218", after := #[{ on := 5, ground := Ground.data }], guard := none }) (v := ?_) rfl (by kernel_rfl) (by kernel_rfl) (by kernel_rfl) (fun _ _ _ h => h) (Or.inl ⟨by rfl, ?_⟩) (by assumption) ?_
  rotate_left
  · intro w hSw
    try dsimp only at hSw
    go_simp <;> (try with_reducible rfl)
  try simp only [Act.put, List.setIfInBounds_toArray, List.set_cons_zero, List.set_cons_succ]
  refine wpAnyH_take (i := 7) (oi := { dst := some 107, op := Op.fieldAddr 101 (Operand.tmp 106) 0, type := 0, pos := "text.go:218", after := #[{ on := 6, ground := Ground.data }], guard := none }) (v := ?_) rfl (by kernel_rfl) (by kernel_rfl) (by kernel_rfl) (fun _ _ _ h => h) (Or.inl ⟨by rfl, ?_⟩) (by assumption) ?_
  rotate_left
  · intro w hSw
    try dsimp only at hSw
    go_simp <;> (try with_reducible rfl)
  try simp only [Act.put, List.setIfInBounds_toArray, List.set_cons_zero, List.set_cons_succ]
  refine wpAnyH_take (i := 8) (oi := { dst := some 108, op := Op.load 53 (Operand.tmp 107), type := 53, pos := "text.go:218", after := #[{ on := 7, ground := Ground.data }], guard := none }) (v := ?_) rfl (by kernel_rfl) (by kernel_rfl) (by kernel_rfl) (fun _ _ _ h => h) (Or.inl ⟨by rfl, ?_⟩) (by assumption) ?_
  rotate_left
  · intro w hSw
    try dsimp only at hSw
    go_simp <;> (try with_reducible rfl)
  try simp only [Act.put, List.setIfInBounds_toArray, List.set_cons_zero, List.set_cons_succ]
  refine wpAnyH_take (i := 9) (oi := { dst := some 109, op := Op.call { callee := Callee.builtin Builtin.len, args := #[Operand.tmp 108], argTypes := #[53] }, type := 3, pos := "text.go:218", after := #[{ on := 8, ground := Ground.data }], guard := none }) (v := ?_) rfl (by kernel_rfl) (by kernel_rfl) (by kernel_rfl) (fun _ _ _ h => h) (Or.inl ⟨by rfl, ?_⟩) (by assumption) ?_
  rotate_left
  · intro w hSw
    try dsimp only at hSw
    go_simp <;> (try with_reducible rfl)
  try simp only [Act.put, List.setIfInBounds_toArray, List.set_cons_zero, List.set_cons_succ]
  refine wpAnyH_take (i := 10) (oi := { dst := some 110, op := Op.fieldAddr 142 (Operand.tmp 7) 0, type := 0, pos := "text.go:218", after := #[], guard := none }) (v := ?_) rfl (by kernel_rfl) (by kernel_rfl) (by kernel_rfl) (fun _ _ _ h => h) (Or.inl ⟨by rfl, ?_⟩) (by assumption) ?_
  rotate_left
  · intro w hSw
    try dsimp only at hSw
    go_simp <;> (try with_reducible rfl)
  try simp only [Act.put, List.setIfInBounds_toArray, List.set_cons_zero, List.set_cons_succ]
  refine wpAnyH_take (i := 11) (oi := { dst := some 111, op := Op.load 9 (Operand.tmp 110), type := 9, pos := "text.go:218", after := #[{ on := 10, ground := Ground.data }], guard := none }) (v := ?_) rfl (by kernel_rfl) (by kernel_rfl) (by kernel_rfl) (fun _ _ _ h => h) (Or.inl ⟨by rfl, ?_⟩) (by assumption) ?_
  rotate_left
  · intro w hSw
    try dsimp only at hSw
    go_simp <;> (try with_reducible rfl)
  try simp only [Act.put, List.setIfInBounds_toArray, List.set_cons_zero, List.set_cons_succ]
  refine wpAnyH_take (i := 12) (oi := { dst := some 112, op := Op.move (Operand.tmp 0), type := 97, pos := "text.go:218", after := #[], guard := none }) (v := ?_) rfl (by kernel_rfl) (by kernel_rfl) (by kernel_rfl) (fun _ _ _ h => h) (Or.inl ⟨by rfl, ?_⟩) (by assumption) ?_
  rotate_left
  · intro w hSw
    try dsimp only at hSw
    go_simp <;> (try with_reducible rfl)
  try simp only [Act.put, List.setIfInBounds_toArray, List.set_cons_zero, List.set_cons_succ]
  refine wpAnyH_take (i := 13) (oi := { dst := some 113, op := Op.nilCheck (Operand.tmp 112), type := 0, pos := "text.go:218", after := #[{ on := 12, ground := Ground.data }], guard := none }) (v := ?_) rfl (by kernel_rfl) (by kernel_rfl) (by kernel_rfl) (fun _ _ _ h => h) (Or.inl ⟨by rfl, ?_⟩) (by assumption) ?_
  rotate_left
  · intro w hSw
    try dsimp only at hSw
    go_simp <;> (try with_reducible rfl)
  try simp only [Act.put, List.setIfInBounds_toArray, List.set_cons_zero, List.set_cons_succ]
  refine wpAnyH_take (i := 14) (oi := { dst := some 114, op := Op.fieldAddr 101 (Operand.tmp 113) 3, type := 0, pos := "text.go:218", after := #[{ on := 13, ground := Ground.data }], guard := none }) (v := ?_) rfl (by kernel_rfl) (by kernel_rfl) (by kernel_rfl) (fun _ _ _ h => h) (Or.inl ⟨by rfl, ?_⟩) (by assumption) ?_
  rotate_left
  · intro w hSw
    try dsimp only at hSw
    go_simp <;> (try with_reducible rfl)
  try simp only [Act.put, List.setIfInBounds_toArray, List.set_cons_zero, List.set_cons_succ]
  refine wpAnyH_take (i := 15) (oi := { dst := some 115, op := Op.load 3 (Operand.tmp 114), type := 3, pos := "text.go:218", after := #[{ on := 14, ground := Ground.data }], guard := none }) (v := ?_) rfl (by kernel_rfl) (by kernel_rfl) (by kernel_rfl) (fun _ _ _ h => h) (Or.inl ⟨by rfl, ?_⟩) (by assumption) ?_
  rotate_left
  · intro w hSw
    try dsimp only at hSw
    go_simp <;> (try with_reducible rfl)
  try simp only [Act.put, List.setIfInBounds_toArray, List.set_cons_zero, List.set_cons_succ]
  refine wpAnyH_take (i := 16) (oi := { dst := some 116, op := Op.fieldAddr 142 (Operand.tmp 7) 1, type := 0, pos := "text.go:218", after := #[], guard := none }) (v := ?_) rfl (by kernel_rfl) (by kernel_rfl) (by kernel_rfl) (fun _ _ _ h => h) (Or.inl ⟨by rfl, ?_⟩) (by assumption) ?_
  rotate_left
  · intro w hSw
    try dsimp only at hSw
    go_simp <;> (try with_reducible rfl)
  try simp only [Act.put, List.setIfInBounds_toArray, List.set_cons_zero, List.set_cons_succ]
  refine wpAnyH_take (i := 17) (oi := { dst := some 117, op := Op.load 3 (Operand.tmp 116), type := 3, pos := "text.go:218", after := #[{ on := 16, ground := Ground.data }], guard := none }) (v := ?_) rfl (by kernel_rfl) (by kernel_rfl) (by kernel_rfl) (fun _ _ _ h => h) (Or.inl ⟨by rfl, ?_⟩) (by assumption) ?_
  rotate_left
  · intro w hSw
    try dsimp only at hSw
    go_simp <;> (try with_reducible rfl)
  try simp only [Act.put, List.setIfInBounds_toArray, List.set_cons_zero, List.set_cons_succ]
  refine wpAnyH_take (i := 18) (oi := { dst := some 118, op := Op.build 107 #[(0, Operand.tmp 109), (1, Operand.tmp 111), (2, Operand.tmp 115), (3, Operand.tmp 117)], type := 107, pos := "text.go:218", after := #[{ on := 9, ground := Ground.data }, { on := 11, ground := Ground.data }, { on := 15, ground := Ground.data }, { on := 17, ground := Ground.data }], guard := none }) (v := ?_) rfl (by kernel_rfl) (by kernel_rfl) (by kernel_rfl) (fun _ _ _ h => h) (Or.inl ⟨by rfl, ?_⟩) (by assumption) ?_
  rotate_left
  · intro w hSw
    try dsimp only at hSw
    go_simp <;> (try with_reducible rfl)
  try simp only [Act.put, List.setIfInBounds_toArray, List.set_cons_zero, List.set_cons_succ]
  refine wpAnyH_ready (rs := [4, 19]) (by kernel_rfl) (by simp) ?_
  refine AllReadyH.cons (o := { dst := some 104, op := Op.load 99 (Operand.tmp 103), type := 99, pos := "text.go:218", after := #[{ on := 3, ground := Ground.data }], guard := none }) rfl (fun K hK => ?_) (AllReadyH.cons (o := { dst := some 119, op := Op.buildSlice 99 1 #[(0, Operand.tmp 118)], type := 99, pos := "text.go:218", after := #[{ on := 18, ground := Ground.data }], guard := none }) rfl (fun K hK => ?_) AllReadyH.nil)
  · go_simp
    first | (refine hK.out _ _ ?_ (fun hh1 => ?_)) | (go_wp2_with fail; refine hK.out _ _ ?_ (fun hh1 => ?_))
    · exact HS0
    clear hK K
    try simp only [Act.put, List.setIfInBounds_toArray, List.set_cons_zero, List.set_cons_succ]
    refine wpAnyH_ready (rs := [19]) (by kernel_rfl) (by simp) ?_
    refine AllReadyH.cons (o := { dst := some 119, op := Op.buildSlice 99 1 #[(0, Operand.tmp 118)], type := 99, pos := "text.go:218", after := #[{ on := 18, ground := Ground.data }], guard := none }) rfl (fun K hK => ?_) AllReadyH.nil
    go_simp
    first | (refine hK.out _ _ ?_ (fun hh2 => ?_)) | (go_wp2_with fail; refine hK.out _ _ ?_ (fun hh2 => ?_))
    · exact HS1
    clear hK K
    try simp only [Act.put, List.setIfInBounds_toArray, List.set_cons_zero, List.set_cons_succ]
    refine wpAnyH_ready (rs := [20]) (by kernel_rfl) (by simp) ?_
    refine AllReadyH.cons (o := { dst := some 120, op := Op.call { callee := Callee.builtin Builtin.append, args := #[Operand.tmp 104, Operand.tmp 119], argTypes := #[99, 99] }, type := 99, pos := "text.go:218", after := #[{ on := 4, ground := Ground.data }, { on := 19, ground := Ground.data }], guard := none }) rfl (fun K hK => ?_) AllReadyH.nil
    refine step_append_any _ rfl _ _ 99 rfl base 107 i0 (.agg #[.int .i64 0, .string ⟨#[]⟩, .int .i64 0, .int .i64 0]) 4 40 Tryd.underlying99 hi hz0 hz1 hz2 rfl (by decide) (.slice A n cap) n (rowJ st.jumps) rfl (HROW.out _ HO2.out) (w.heap.size + 1 + 1) (some ⟨w.heap.size + 1, 0, none⟩) 1 1 (jCells ⟨m, s.data.toList, line, col⟩) rfl HRD.out (jCells_one _) HL1.out HL2.out (HL3.out _ HO2.out) ?_
    intro v' w3 hown hgrow hblk
    obtain ⟨g9, c9, rfl⟩ := row_succ hown
    have hb3 := HM.out.grownCell HO2.out hgrow
    have q2 := hb3.cell 2
    have f2 := hb3.frozen 2
    simp at q2
    have HJ := hide (HM.out.jump HO2.out HLN.out hown hgrow hblk)
    have hxk := (Blk.only HX.out HO2.out (fun h => h)).only (Only.of_grown (S := fun k => (Value.slice A n cap).ownBlock = some k) hgrow (fun k hk _ => hk)) HP2.out
    have hbx := (HBOX.out).only (Only.of_grown (S := fun k => (Value.slice A n cap).ownBlock = some k) hgrow (fun k hk _ => hk)) HOWN.out
    have q5 := hbx.cell 0
    simp at q5
    have hs3 : w3.cell? ⟨gp, 0, none⟩ = some (.slice A2 m cap2) ∧ w3.cell? ⟨gp, 3, none⟩ = some (.int .i64 (line : Int)) ∧ w3.cell? ⟨w.heap.size, 0, none⟩ = some (.string s) ∧ w3.cell? ⟨w.heap.size, 1, none⟩ = some (.int .i64 (col : Int)) := ⟨hb3.cell 0, hb3.cell 3, hbx.cell 0, hbx.cell 1⟩
    have hs4 : (w3.setCell ⟨gp, 2, none⟩ (.slice (some ⟨g9, 0, none⟩) (n + 1) c9)).cell? ⟨gp, 0, none⟩ = some (.slice A2 m cap2) ∧ (w3.setCell ⟨gp, 2, none⟩ (.slice (some ⟨g9, 0, none⟩) (n + 1) c9)).cell? ⟨gp, 3, none⟩ = some (.int .i64 (line : Int)) ∧ (w3.setCell ⟨gp, 2, none⟩ (.slice (some ⟨g9, 0, none⟩) (n + 1) c9)).cell? ⟨w.heap.size, 0, none⟩ = some (.string s) ∧ (w3.setCell ⟨gp, 2, none⟩ (.slice (some ⟨g9, 0, none⟩) (n + 1) c9)).cell? ⟨w.heap.size, 1, none⟩ = some (.int .i64 (col : Int)) := ⟨HJ.out.1.cell.cell 0, HJ.out.1.cell.cell 3, (hbx.far (p := ⟨gp, 2, none⟩) (Nat.ne_of_gt hgp) _).cell 0, (hbx.far (p := ⟨gp, 2, none⟩) (Nat.ne_of_gt hgp) _).cell 1⟩
    have HXK := hide hxk
    clear hown hgrow hblk hb3 hxk hbx
    refine hK.out _ _ ?_ (fun hh3 => ?_)
    · exact hs3
    clear hK K
    try simp only [Act.put, List.setIfInBounds_toArray, List.set_cons_zero, List.set_cons_succ]
    refine wpAnyH_take (i := 21) (oi := { dst := some 121, op := Op.nilCheck (Operand.tmp 100), type := 0, pos := "text.go:218", after := #[{ on := 0, ground := Ground.data }, { on := 0, ground := Ground.phase }, { on := 1, ground := Ground.phase }, { on := 2, ground := Ground.phase }, { on := 3, ground := Ground.phase }, { on := 4, ground := Ground.phase }, { on := 5, ground := Ground.phase }, { on := 6, ground := Ground.phase }, { on := 7, ground := Ground.phase }, { on := 8, ground := Ground.phase }, { on := 9, ground := Ground.phase }, { on := 10, ground := Ground.phase }, { on := 11, ground := Ground.phase }, { on := 12, ground := Ground.phase }, { on := 13, ground := Ground.phase }, { on := 14, ground := Ground.phase }, { on := 15, ground := Ground.phase }, { on := 16, ground := Ground.phase }, { on := 17, ground := Ground.phase }, { on := 18, ground := Ground.phase }, { on := 19, ground := Ground.phase }, { on := 20, ground := Ground.phase }], guard := none }) (v := ?_) rfl (by kernel_rfl) (by kernel_rfl) (by kernel_rfl) (fun _ _ _ h => h) (Or.inl ⟨by rfl, ?_⟩) (by assumption) ?_
    rotate_left
    · intro w hSw
      try dsimp only at hSw
      go_simp <;> (try with_reducible rfl)
    try simp only [Act.put, List.setIfInBounds_toArray, List.set_cons_zero, List.set_cons_succ]
    refine wpAnyH_take (i := 22) (oi := { dst := some 122, op := Op.fieldAddr 101 (Operand.tmp 121) 2, type := 0, pos := "text.go:218", after := #[{ on := 21, ground := Ground.data }, { on := 0, ground := Ground.phase }, { on := 1, ground := Ground.phase }, { on := 2, ground := Ground.phase }, { on := 3, ground := Ground.phase }, { on := 4, ground := Ground.phase }, { on := 5, ground := Ground.phase }, { on := 6, ground := Ground.phase }, { on := 7, ground := Ground.phase }, { on := 8, ground := Ground.phase }, { on := 9, ground := Ground.phase }, { on := 10, ground := Ground.phase }, { on := 11, ground := Ground.phase }, { on := 12, ground := Ground.phase }, { on := 13, ground := Ground.phase }, { on := 14, ground := Ground.phase }, { on := 15, ground := Ground.phase }, { on := 16, ground := Ground.phase }, { on := 17, ground := Ground.phase }, { on := 18, ground := Ground.phase }, { on := 19, ground := Ground.phase }, { on := 20, ground := Ground.phase }], guard := none }) (v := ?_) rfl (by kernel_rfl) (by kernel_rfl) (by kernel_rfl) (fun _ _ _ h => h) (Or.inl ⟨by rfl, ?_⟩) (by assumption) ?_
    rotate_left
    · intro w hSw
      try dsimp only at hSw
      go_simp <;> (try with_reducible rfl)
    try simp only [Act.put, List.setIfInBounds_toArray, List.set_cons_zero, List.set_cons_succ]
    refine wpAnyH_ready (rs := [23]) (by kernel_rfl) (by simp) ?_
    refine AllReadyH.cons (o := { dst := none, op := Op.store 99 (Operand.tmp 122) (Operand.tmp 120), type := 0, pos := "text.go:218", after := #[{ on := 22, ground := Ground.data }, { on := 20, ground := Ground.data }, { on := 20, ground := Ground.chain }, { on := 0, ground := Ground.phase }, { on := 1, ground := Ground.phase }, { on := 2, ground := Ground.phase }, { on := 3, ground := Ground.phase }, { on := 4, ground := Ground.phase }, { on := 5, ground := Ground.phase }, { on := 6, ground := Ground.phase }, { on := 7, ground := Ground.phase }, { on := 8, ground := Ground.phase }, { on := 9, ground := Ground.phase }, { on := 10, ground := Ground.phase }, { on := 11, ground := Ground.phase }, { on := 12, ground := Ground.phase }, { on := 13, ground := Ground.phase }, { on := 14, ground := Ground.phase }, { on := 15, ground := Ground.phase }, { on := 16, ground := Ground.phase }, { on := 17, ground := Ground.phase }, { on := 18, ground := Ground.phase }, { on := 19, ground := Ground.phase }, { on := 20, ground := Ground.phase }], guard := none }) rfl (fun K hK => ?_) AllReadyH.nil
    go_simp
    first | (refine hK.out _ _ ?_ (fun hh4 => ?_)) | (go_wp2_with fail; refine hK.out _ _ ?_ (fun hh4 => ?_))
    · exact hs4
    clear hK K
    try simp only [Act.put, List.setIfInBounds_toArray, List.set_cons_zero, List.set_cons_succ]
    refine wpAnyH_done (by kernel_rfl) ?_ _
    refine NoPanic.normal ?_
    go_wp2_with (go_at_call 80; refine (HN.out _).mono ?_; rintro e w4 ⟨rfl, ho⟩; have HO4 := hide ho; clear ho)
    go_ret
    obtain ⟨k1, k2, k3⟩ := HJ.out
    unfold JumpPost
    rw [HLM.out, HLN.out]
    refine ⟨rfl, _, k1.nob HO4.out, ?_, k2.trans (HO4.out.mono (fun _ _ h => h.elim)), k3⟩
    exact ((HXK.out).far h1 _).only HO4.out (fun h => h)
  · go_simp
    first | (refine hK.out _ _ ?_ (fun hh1 => ?_)) | (go_wp2_with fail; refine hK.out _ _ ?_ (fun hh1 => ?_))
    · exact HS1
    clear hK K
    try simp only [Act.put, List.setIfInBounds_toArray, List.set_cons_zero, List.set_cons_succ]
    refine wpAnyH_ready (rs := [4]) (by kernel_rfl) (by simp) ?_
    refine AllReadyH.cons (o := { dst := some 104, op := Op.load 99 (Operand.tmp 103), type := 99, pos := "text.go:218", after := #[{ on := 3, ground := Ground.data }], guard := none }) rfl (fun K hK => ?_) AllReadyH.nil
    go_simp
    first | (refine hK.out _ _ ?_ (fun hh2 => ?_)) | (go_wp2_with fail; refine hK.out _ _ ?_ (fun hh2 => ?_))
    · exact HS1
    clear hK K
    try simp only [Act.put, List.setIfInBounds_toArray, List.set_cons_zero, List.set_cons_succ]
    refine wpAnyH_ready (rs := [20]) (by kernel_rfl) (by simp) ?_
    refine AllReadyH.cons (o := { dst := some 120, op := Op.call { callee := Callee.builtin Builtin.append, args := #[Operand.tmp 104, Operand.tmp 119], argTypes := #[99, 99] }, type := 99, pos := "text.go:218", after := #[{ on := 4, ground := Ground.data }, { on := 19, ground := Ground.data }], guard := none }) rfl (fun K hK => ?_) AllReadyH.nil
    refine step_append_any _ rfl _ _ 99 rfl base 107 i0 (.agg #[.int .i64 0, .string ⟨#[]⟩, .int .i64 0, .int .i64 0]) 4 40 Tryd.underlying99 hi hz0 hz1 hz2 rfl (by decide) (.slice A n cap) n (rowJ st.jumps) rfl (HROW.out _ HO2.out) (w.heap.size + 1 + 1) (some ⟨w.heap.size + 1, 0, none⟩) 1 1 (jCells ⟨m, s.data.toList, line, col⟩) rfl HRD.out (jCells_one _) HL1.out HL2.out (HL3.out _ HO2.out) ?_
    intro v' w3 hown hgrow hblk
    obtain ⟨g9, c9, rfl⟩ := row_succ hown
    have hb3 := HM.out.grownCell HO2.out hgrow
    have q2 := hb3.cell 2
    have f2 := hb3.frozen 2
    simp at q2
    have HJ := hide (HM.out.jump HO2.out HLN.out hown hgrow hblk)
    have hxk := (Blk.only HX.out HO2.out (fun h => h)).only (Only.of_grown (S := fun k => (Value.slice A n cap).ownBlock = some k) hgrow (fun k hk _ => hk)) HP2.out
    have hbx := (HBOX.out).only (Only.of_grown (S := fun k => (Value.slice A n cap).ownBlock = some k) hgrow (fun k hk _ => hk)) HOWN.out
    have q5 := hbx.cell 0
    simp at q5
    have hs3 : w3.cell? ⟨gp, 0, none⟩ = some (.slice A2 m cap2) ∧ w3.cell? ⟨gp, 3, none⟩ = some (.int .i64 (line : Int)) ∧ w3.cell? ⟨w.heap.size, 0, none⟩ = some (.string s) ∧ w3.cell? ⟨w.heap.size, 1, none⟩ = some (.int .i64 (col : Int)) := ⟨hb3.cell 0, hb3.cell 3, hbx.cell 0, hbx.cell 1⟩
    have hs4 : (w3.setCell ⟨gp, 2, none⟩ (.slice (some ⟨g9, 0, none⟩) (n + 1) c9)).cell? ⟨gp, 0, none⟩ = some (.slice A2 m cap2) ∧ (w3.setCell ⟨gp, 2, none⟩ (.slice (some ⟨g9, 0, none⟩) (n + 1) c9)).cell? ⟨gp, 3, none⟩ = some (.int .i64 (line : Int)) ∧ (w3.setCell ⟨gp, 2, none⟩ (.slice (some ⟨g9, 0, none⟩) (n + 1) c9)).cell? ⟨w.heap.size, 0, none⟩ = some (.string s) ∧ (w3.setCell ⟨gp, 2, none⟩ (.slice (some ⟨g9, 0, none⟩) (n + 1) c9)).cell? ⟨w.heap.size, 1, none⟩ = some (.int .i64 (col : Int)) := ⟨HJ.out.1.cell.cell 0, HJ.out.1.cell.cell 3, (hbx.far (p := ⟨gp, 2, none⟩) (Nat.ne_of_gt hgp) _).cell 0, (hbx.far (p := ⟨gp, 2, none⟩) (Nat.ne_of_gt hgp) _).cell 1⟩
    have HXK := hide hxk
    clear hown hgrow hblk hb3 hxk hbx
    refine hK.out _ _ ?_ (fun hh3 => ?_)
    · exact hs3
    clear hK K
    try simp only [Act.put, List.setIfInBounds_toArray, List.set_cons_zero, List.set_cons_succ]
    refine wpAnyH_take (i := 21) (oi := { dst := some 121, op := Op.nilCheck (Operand.tmp 100), type := 0, pos := "text.go:218", after := #[{ on := 0, ground := Ground.data }, { on := 0, ground := Ground.phase }, { on := 1, ground := Ground.phase }, { on := 2, ground := Ground.phase }, { on := 3, ground := Ground.phase }, { on := 4, ground := Ground.phase }, { on := 5, ground := Ground.phase }, { on := 6, ground := Ground.phase }, { on := 7, ground := Ground.phase }, { on := 8, ground := Ground.phase }, { on := 9, ground := Ground.phase }, { on := 10, ground := Ground.phase }, { on := 11, ground := Ground.phase }, { on := 12, ground := Ground.phase }, { on := 13, ground := Ground.phase }, { on := 14, ground := Ground.phase }, { on := 15, ground := Ground.phase }, { on := 16, ground := Ground.phase }, { on := 17, ground := Ground.phase }, { on := 18, ground := Ground.phase }, { on := 19, ground := Ground.phase }, { on := 20, ground := Ground.phase }], guard := none }) (v := ?_) rfl (by kernel_rfl) (by kernel_rfl) (by kernel_rfl) (fun _ _ _ h => h) (Or.inl ⟨by rfl, ?_⟩) (by assumption) ?_
    rotate_left
    · intro w hSw
      try dsimp only at hSw
      go_simp <;> (try with_reducible rfl)
    try simp only [Act.put, List.setIfInBounds_toArray, List.set_cons_zero, List.set_cons_succ]
    refine wpAnyH_take (i := 22) (oi := { dst := some 122, op := Op.fieldAddr 101 (Operand.tmp 121) 2, type := 0, pos := "text.go:218", after := #[{ on := 21, ground := Ground.data }, { on := 0, ground := Ground.phase }, { on := 1, ground := Ground.phase }, { on := 2, ground := Ground.phase }, { on := 3, ground := Ground.phase }, { on := 4, ground := Ground.phase }, { on := 5, ground := Ground.phase }, { on := 6, ground := Ground.phase }, { on := 7, ground := Ground.phase }, { on := 8, ground := Ground.phase }, { on := 9, ground := Ground.phase }, { on := 10, ground := Ground.phase }, { on := 11, ground := Ground.phase }, { on := 12, ground := Ground.phase }, { on := 13, ground := Ground.phase }, { on := 14, ground := Ground.phase }, { on := 15, ground := Ground.phase }, { on := 16, ground := Ground.phase }, { on := 17, ground := Ground.phase }, { on := 18, ground := Ground.phase }, { on := 19, ground := Ground.phase }, { on := 20, ground := Ground.phase }], guard := none }) (v := ?_) rfl (by kernel_rfl) (by kernel_rfl) (by kernel_rfl) (fun _ _ _ h => h) (Or.inl ⟨by rfl, ?_⟩) (by assumption) ?_
    rotate_left
    · intro w hSw
      try dsimp only at hSw
      go_simp <;> (try with_reducible rfl)
    try simp only [Act.put, List.setIfInBounds_toArray, List.set_cons_zero, List.set_cons_succ]
    refine wpAnyH_ready (rs := [23]) (by kernel_rfl) (by simp) ?_
    refine AllReadyH.cons (o := { dst := none, op := Op.store 99 (Operand.tmp 122) (Operand.tmp 120), type := 0, pos := "text.go:218", after := #[{ on := 22, ground := Ground.data }, { on := 20, ground := Ground.data }, { on := 20, ground := Ground.chain }, { on := 0, ground := Ground.phase }, { on := 1, ground := Ground.phase }, { on := 2, ground := Ground.phase }, { on := 3, ground := Ground.phase }, { on := 4, ground := Ground.phase }, { on := 5, ground := Ground.phase }, { on := 6, ground := Ground.phase }, { on := 7, ground := Ground.phase }, { on := 8, ground := Ground.phase }, { on := 9, ground := Ground.phase }, { on := 10, ground := Ground.phase }, { on := 11, ground := Ground.phase }, { on := 12, ground := Ground.phase }, { on := 13, ground := Ground.phase }, { on := 14, ground := Ground.phase }, { on := 15, ground := Ground.phase }, { on := 16, ground := Ground.phase }, { on := 17, ground := Ground.phase }, { on := 18, ground := Ground.phase }, { on := 19, ground := Ground.phase }, { on := 20, ground := Ground.phase }], guard := none }) rfl (fun K hK => ?_) AllReadyH.nil
    go_simp
    first | (refine hK.out _ _ ?_ (fun hh4 => ?_)) | (go_wp2_with fail; refine hK.out _ _ ?_ (fun hh4 => ?_))
    · exact hs4
    clear hK K
    try simp only [Act.put, List.setIfInBounds_toArray, List.set_cons_zero, List.set_cons_succ]
    refine wpAnyH_done (by kernel_rfl) ?_ _
    refine NoPanic.normal ?_
    go_wp2_with (go_at_call 80; refine (HN.out _).mono ?_; rintro e w4 ⟨rfl, ho⟩; have HO4 := hide ho; clear ho)
    go_ret
    obtain ⟨k1, k2, k3⟩ := HJ.out
    unfold JumpPost
    rw [HLM.out, HLN.out]
    refine ⟨rfl, _, k1.nob HO4.out, ?_, k2.trans (HO4.out.mono (fun _ _ h => h.elim)), k3⟩
    exact ((HXK.out).far h1 _).only HO4.out (fun h => h)
end Go.Proofs.YtngahgfppbjebaaDoor
namespace Go.Proofs.YtngahgfppbjebaaDoor
open Go.RowKit
set_option linter.unusedVariables false
set_option linter.unusedSimpArgs false

def WdAt (w : World) (b o : Nat) (x : Wd) : Prop := w.cell? ⟨b, o, none⟩ = some (.string ⟨x.s.toArray⟩) ∧ w.cell? ⟨b, o + 1, none⟩ = some (.int .i64 (x.col : Int)) ∧ w.cell? ⟨b, o + 2, none⟩ = some (.bool x.bad)
/-- A slice of words, in a block from lo on, below hi. -/
def WsAt (w : World) (lo hi : Nat) (A : Option Addr) (ws : List Wd) : Prop := ws ≠ [] → ∃ b o, A = some ⟨b, o, none⟩ ∧ lo ≤ b ∧ b < hi ∧ b < w.heap.size ∧ ∀ k x, ws[k]? = some x → WdAt w b (o + k * 3) x
/-- A row that lies elsewhere. -/
def Away (v : Value) (lo hi : Nat) : Prop := ∀ k, v.ownBlock = some k → k < lo ∨ hi ≤ k
section
variable {w w' : World} {lo hi : Nat} {A : Option Addr} {ws : List Wd}
theorem WsAt.nil (w : World) (lo hi : Nat) (A : Option Addr) : WsAt w lo hi A [] := fun h => absurd rfl h
theorem WsAt.only {S : Nat → Prop} (h : WsAt w lo hi A ws) (ho : Only S w w') (hn : ∀ k, lo ≤ k → k < hi → ¬ S k) : WsAt w' lo hi A ws := by
  intro hne
  obtain ⟨b, o, h1, h2, h3, h4, h5⟩ := h hne
  refine ⟨b, o, h1, h2, h3, Nat.lt_of_lt_of_le h4 ho.size, fun k x hk => ?_⟩
  obtain ⟨c0, c1, c2⟩ := h5 k x hk
  have hb := hn b h2 h3
  exact ⟨(ho.cell (p := ⟨b, o + k * 3, none⟩) h4 hb).trans c0, (ho.cell (p := ⟨b, o + k * 3 + 1, none⟩) h4 hb).trans c1, (ho.cell (p := ⟨b, o + k * 3 + 2, none⟩) h4 hb).trans c2⟩
theorem WsAt.nob (h : WsAt w lo hi A ws) (ho : Only Nob w w') : WsAt w' lo hi A ws := h.only ho (fun _ _ _ h => h)
theorem WsAt.head {x : Wd} (h : WsAt w lo hi A (x :: ws)) : ∃ b o, A = some ⟨b, o, none⟩ ∧ lo ≤ b ∧ b < hi ∧ b < w.heap.size ∧ WdAt w b o x ∧ WsAt w lo hi (some ⟨b, o + 3, none⟩) ws := by
  obtain ⟨b, o, h1, h2, h3, h4, h5⟩ := h (by simp)
  refine ⟨b, o, h1, h2, h3, h4, ?_, ?_⟩
  · have := h5 0 x rfl
    simpa using this
  · intro _
    refine ⟨b, o + 3, rfl, h2, h3, h4, fun k y hk => ?_⟩
    have := h5 (k + 1) y (by simpa using hk)
    rw [show o + 3 + k * 3 = o + (k + 1) * 3 by omega]
    exact this
theorem rowWd_at : ∀ (l : List Wd) (k : Nat) (x : Wd), l[k]? = some x → ∀ j, j < 3 → (rowWd l)[k * 3 + j]? = (wdCells x)[j]?
  | [], k, x, h, j, hj => by simp at h
  | y :: r, 0, x, h, j, hj => by
    simp at h
    subst h
    show (wdCells y ++ rowWd r)[0 * 3 + j]? = _
    rw [List.getElem?_append_left (by show _ < 3; omega)]
    simp
  | y :: r, k + 1, x, h, j, hj => by
    have := rowWd_at r k x (by simpa using h) j hj
    show (wdCells y ++ rowWd r)[(k + 1) * 3 + j]? = _
    rw [List.getElem?_append_right (by show 3 ≤ _; omega), ← this]
    congr 1
    show (k + 1) * 3 + j - 3 = _
    omega
theorem WsAt.of_own {base n : Nat} {v : Value} (h : w.ownsRow base 142 3 v n (rowWd ws)) (hn : ws.length = n) : ∃ A cap, v = .slice A n cap ∧ n ≤ cap ∧ WsAt w base w.heap.size A ws := by
  subst hn
  rcases h.2 with ⟨h1, h2⟩ | ⟨g, cap, cur, hv, hb, hc, hcap, hr⟩
  · have : ws = [] := List.eq_nil_of_length_eq_zero h2
    subst this
    exact ⟨none, 0, h1, Nat.le_refl _, WsAt.nil _ _ _ _⟩
  · subst hv
    refine ⟨some ⟨g, 0, none⟩, cap, rfl, ?_, fun _ => ⟨g, 0, rfl, hb, (h.lt g rfl).2, (h.lt g rfl).2, fun k x hk => ?_⟩⟩
    · omega
    · have hlt : k < ws.length := (List.getElem?_eq_some_iff.1 hk).1
      have hcell : ∀ j, j < 3 → w.cell? ⟨g, k * 3 + j, none⟩ = (wdCells x)[j]? := fun j hj => by
        rw [World.ownsRow.cellAt h (k * 3 + j) (by omega), rowWd_at ws k x hk j hj]
      rw [Nat.zero_add]
      exact ⟨hcell 0 (by omega), hcell 1 (by omega), hcell 2 (by omega)⟩
end
theorem suffix_colon (l : List UInt8) : Go.Lib.hasSuffix l [58] = (l.getLast? == some 58) := by
  unfold Go.Lib.hasSuffix
  cases h : l.getLast? with
  | none =>
    have : l = [] := List.getLast?_eq_none_iff.1 h
    subst this
    rfl
  | some x =>
    obtain ⟨m, rfl⟩ := List.getLast?_eq_some_iff.1 h
    by_cases hx : x = 58
    · subst hx
      simp [List.isSuffixOf_iff_suffix]
    · have h1 : (some x == some (58 : UInt8)) = false := by simpa using hx
      rw [h1]
      rw [Bool.eq_false_iff]
      intro h2
      rw [List.isSuffixOf_iff_suffix] at h2
      obtain ⟨t, ht⟩ := h2
      have := congrArg List.getLast? ht
      simp at this
      exact hx this.symm
theorem trim_colon (l : List UInt8) (h : (l.getLast? == some 58) = true) : Go.Lib.trimSuffix l [58] = l.dropLast := by
  unfold Go.Lib.trimSuffix
  rw [suffix_colon, h, if_pos rfl, List.dropLast_eq_take]
  rfl
/-- A label was stored. -/
theorem PMem.label {w w3 : World} {base gp gm line : Nat} {vl vj : Value} {st : PS} {L : List (List UInt8 × Nat)} (h : PMem w base gp gm vl vj st line) (ho : Only (Ob gm) w w3) (hL : LabAt w3 gm L) : PMem w3 base gp gm vl vj { st with labels := L } line := by
  have h1 := h.rowl.lt
  have h2 := h.rowj.lt
  have h3 := h.gmb
  refine ⟨h.cell.only ho (fun e => h.ne e.symm), row_only h.rowl ho (fun k hk e => ?_), row_only h.rowj ho (fun k hk e => ?_), hL, h.gpb, h.gmb, h.ne, h.apart⟩
  · have := (h1 k hk).1
    have e2 : k = gm := e
    omega
  · have := (h2 k hk).1
    have e2 : k = gm := e
    omega
end Go.Proofs.YtngahgfppbjebaaDoor
namespace Go.Proofs.YtngahgfppbjebaaDoor
open Go.RowKit
set_option linter.unusedVariables false
set_option linter.unusedSimpArgs false

def FieldAll (w : World) (base gp gm : Nat) (vl vj : Value) (st : PS) (line gx : Nat) (x : PIns) (kd : UInt8) (s : List UInt8) (col : Nat) (e : Ending) (w' : World) : Prop :=
  match fieldP kd s x with
  | none => e = .returned (.bool false) ∧ Only (fun k => k = gx ∨ k = gp ∨ vj.ownBlock = some k) w w' ∧ ∃ vj' js', PMem w' base gp gm vl vj' { st with jumps := js' } line
  | some x' => e = .returned (.bool true) ∧ ∃ vj', PMem w' base gp gm vl vj' { st with jumps := if kd = 106 then st.jumps ++ [⟨st.l.length, s, line, col⟩] else st.jumps } line ∧ InsBlk w' gx x' ∧ Only (fun k => k = gx ∨ k = gp ∨ vj.ownBlock = some k) w w' ∧ (vj'.ownBlock = vj.ownBlock ∨ ∀ k, vj'.ownBlock = some k → w.heap.size ≤ k)
theorem FieldAll.of {w : World} {base gp gm line gx : Nat} {vl vj : Value} {st : PS} {x : PIns} {kd : UInt8} {s : List UInt8} {col : Nat} {e : Ending} {w' : World} {o : Option PIns} (hm : PMem w base gp gm vl vj st line) (h1 : gx ≠ gp) (h0 : gx ≠ gm) (h2 : vj.ownBlock ≠ some gx) (h3 : vl.ownBlock ≠ some gx) (ho : fieldP kd s x = o) (hk : kd ≠ 106) (h : FieldPost w gx o e w') :
    FieldAll w base gp gm vl vj st line gx x kd s col e w' := by
  unfold FieldAll
  rw [ho]
  obtain ⟨hon, hmt⟩ := h
  have hon2 : Only (fun k => k = gx ∨ k = gp ∨ vj.ownBlock = some k) w w' := hon.mono (fun k _ hk => .inl hk)
  rcases o with _ | x'
  · exact ⟨hmt, hon2, vj, st.jumps, hm.other hon (fun e => h1 e.symm) (fun e => h0 e.symm) h3 h2⟩
  · obtain ⟨rfl, hx⟩ := hmt
    refine ⟨rfl, vj, ?_, hx, hon2, .inl rfl⟩
    rw [if_neg hk]
    exact hm.other hon (fun e => h1 e.symm) (fun e => h0 e.symm) h3 h2
def kindSet : List UInt8 := [97, 98, 99, 112, 111, 116, 110, 119, 106]
theorem kinds_in (op : Int) : ∀ k ∈ kindsP op, k ∈ kindSet := by
  intro k hk
  unfold kindsP at hk
  repeat' split at hk
  all_goals (simp at hk; try (rcases hk with rfl | rfl | rfl); try (rcases hk with rfl | rfl); try subst hk)
  all_goals decide
theorem arrData (s : List UInt8) : (⟨s.toArray⟩ : ByteArray).data.toList = s := by simp
theorem field_all (w : World) (base gp gm : Nat) (vl vj : Value) (st : PS) (line gx : Nat) (x : PIns) (kd : UInt8) (hkd : kd ∈ kindSet) (s : List UInt8) (hs : s.length ≤ 16000) (col : Nat) (bad : Bool) (hm : PMem w base gp gm vl vj st line) (hb : base ≤ w.heap.size) (hx : InsBlk w gx x) (h1 : gx ≠ gp) (h0 : gx ≠ gm) (h2 : vj.ownBlock ≠ some gx) (h3 : vl.ownBlock ≠ some gx) (hlen : st.jumps.length ≤ 1000) (hl : st.l.length ≤ 1000) :
    Calls Tryd.prog 82 #[.pointer (some ⟨gp, 0, none⟩), .pointer (some ⟨gx, 0, none⟩), .int .i32 (kd.toNat : Int), .agg #[.string ⟨s.toArray⟩, .int .i64 (col : Int), .bool bad]] w (FieldAll w base gp gm vl vj st line gx x kd s col) := by
  have hsz : (⟨s.toArray⟩ : ByteArray).size ≤ 1000000000 := by
    show s.toArray.size ≤ _
    rw [List.size_toArray]
    omega
  simp only [kindSet, List.mem_cons, List.not_mem_nil, or_false] at hkd
  rcases hkd with rfl | rfl | rfl | rfl | rfl | rfl | rfl | rfl | rfl
  · refine (field_97 w gp gx x ⟨s.toArray⟩ hsz col bad hx).mono fun e w' h => ?_
    rw [arrData] at h
    exact FieldAll.of hm h1 h0 h2 h3 rfl (by decide) h
  · refine (field_98 w gp gx x ⟨s.toArray⟩ hsz col bad hx).mono fun e w' h => ?_
    rw [arrData] at h
    exact FieldAll.of hm h1 h0 h2 h3 rfl (by decide) h
  · refine (field_99 w gp gx x ⟨s.toArray⟩ hsz col bad hx).mono fun e w' h => ?_
    rw [arrData] at h
    exact FieldAll.of hm h1 h0 h2 h3 rfl (by decide) h
  · refine (field_112 w gp gx x ⟨s.toArray⟩ hsz col bad hx).mono fun e w' h => ?_
    rw [arrData] at h
    exact FieldAll.of hm h1 h0 h2 h3 rfl (by decide) h
  · refine (field_111 w gp gx x ⟨s.toArray⟩ hsz col bad hx).mono fun e w' h => ?_
    rw [arrData] at h
    exact FieldAll.of hm h1 h0 h2 h3 rfl (by decide) h
  · refine (field_116 w gp gx x ⟨s.toArray⟩ hsz col bad hx).mono fun e w' h => ?_
    rw [arrData] at h
    exact FieldAll.of hm h1 h0 h2 h3 rfl (by decide) h
  · refine (field_110 w gp gx x ⟨s.toArray⟩ hsz col bad hx).mono fun e w' h => ?_
    rw [arrData] at h
    exact FieldAll.of hm h1 h0 h2 h3 rfl (by decide) h
  · refine (field_119 w gp gx x ⟨s.toArray⟩ hsz col bad hx).mono fun e w' h => ?_
    exact FieldAll.of hm h1 h0 h2 h3 rfl (by decide) h
  · refine (field_106 w base gp gm vl vj st line gx x ⟨s.toArray⟩ hsz col bad hm hb hx h1 h2 hlen hl).mono fun e w' h => ?_
    rw [arrData] at h
    obtain ⟨he, vj', k1, k2, k3, k4⟩ := h
    have hon : Only (fun k => k = gx ∨ k = gp ∨ vj.ownBlock = some k) w w' := k3.mono (fun k _ hk => .inr hk)
    unfold FieldAll
    rw [show fieldP 106 s x = if nameP s then some x else none from rfl]
    cases hn : nameP s with
    | false =>
      rw [hn] at he
      exact ⟨he, hon, vj', _, k1⟩
    | true =>
      rw [hn] at he
      exact ⟨he, vj', k1, k2, hon, k4⟩
end Go.Proofs.YtngahgfppbjebaaDoor

/-
  Plain: a text's lines, rune by rune, as the reference reads them. No walk in sight.
  What the reference's Parse stands on: rows of its own, side by side.
  Plain: no word is empty.
  Plain facts on a line's words, as the reference's Parse wants them.
-/
import Derived.Test.YtngahgfppbjebaaDoorGrpTxErase
import Derived.Test.YtngahgfppbjebaaDoorTxRInstrP
import Derived.Test.YtngahgfppbjebaaDoorTxRInstr
import Derived.Test.YtngahgfppbjebaaDoorGrpTxParse
import Derived.Test.YtngahgfppbjebaaDoorGrpTxRRow
namespace Go.Proofs.YtngahgfppbjebaaDoor
open Go.Lib
set_option linter.unusedVariables false
set_option linter.unusedSimpArgs false

/-- Behind the line cur, at the rest: the lines that come. -/
def linesG (ln : Nat) (st : PS) (cur : List Rn) : List Rn → Res PS
  | [] => if cur = [] then .ok st else match lineP (ln + 1) st cur with
    | .err c e => .err (ln + 1) c e
    | .ok st' => .ok st'
  | x :: r => if x.1 = 10 then (match lineP (ln + 1) st cur with
    | .err c e => .err (ln + 1) c e
    | .ok st' => linesG (ln + 1) st' [] r) else linesG ln st (cur ++ [x]) r
theorem linesG_eq : ∀ (rest : List Rn) (ln : Nat) (st : PS) (cur : List Rn), (∀ x ∈ cur, x.1 ≠ 10) → linesG ln st cur rest = linesP ln st (linesR (cur ++ rest))
  | [], ln, st, cur, hc => by
    rw [List.append_nil, linesG]
    by_cases h : cur = []
    · rw [if_pos h, h]
      rfl
    · rw [if_neg h, linesR_one cur h hc, linesP]
      cases lineP (ln + 1) st cur with
      | err c e => rfl
      | ok st' => rfl
  | x :: r, ln, st, cur, hc => by
    rw [linesG]
    by_cases h : x.1 = 10
    · obtain ⟨x1, x2⟩ := x
      simp only at h
      subst h
      rw [if_pos rfl, linesR_cut cur r x2 hc, linesP]
      cases lineP (ln + 1) st cur with
      | err c e => rfl
      | ok st' => exact linesG_eq r (ln + 1) st' [] (fun y hy => by cases hy)
    · rw [if_neg h, linesG_eq r ln st (cur ++ [x]) (fun y hy => by
        rcases List.mem_append.1 hy with h1 | h1
        · exact hc y h1
        · simp at h1
          subst h1
          exact h), List.append_assoc]
      rfl
theorem linesG_start (rs : List Rn) : linesP 0 PS.start (linesR rs) = linesG 0 PS.start [] rs := (linesG_eq rs 0 PS.start [] (fun y hy => by cases hy)).symm
theorem linesG_nl {ln : Nat} {st : PS} {cur rest r : List Rn} {x : Rn} (hr : rest = x :: r) (hx : x.1 = 10) : linesG ln st cur rest = match lineP (ln + 1) st cur with
    | .err c e => .err (ln + 1) c e
    | .ok st' => linesG (ln + 1) st' [] r := by
  subst hr
  rw [linesG, if_pos hx]
theorem linesG_go {ln : Nat} {st : PS} {cur rest r : List Rn} {x : Rn} (hr : rest = x :: r) (hx : ¬ x.1 = 10) : linesG ln st cur rest = linesG ln st (cur ++ [x]) r := by
  subst hr
  rw [linesG, if_neg hx]
theorem linesG_last {ln : Nat} {st : PS} {cur : List Rn} (hc : cur ≠ []) : linesG ln st cur [] = match lineP (ln + 1) st cur with
    | .err c e => .err (ln + 1) c e
    | .ok st' => .ok st' := by
  rw [linesG, if_neg hc]
theorem linesG_end {ln : Nat} {st : PS} : linesG ln st [] [] = .ok st := rfl
/-- The labels' line, as the reference sees it. -/
theorem lineR_nil {line : Nat} {st : PS} {l : List Rn} (h : wordsR l = []) : lineP line st l = .ok st := by
  rw [lineP, h]
theorem lineR_lab {line : Nat} {st : PS} {l : List Rn} {w : Wd} {ws : List Wd} (h : wordsR l = w :: ws) (hl : w.s.getLast? = some 58) : lineP line st l =
    if w.bad = true ∨ nameP w.s.dropLast = false ∨ (lookP st.labels w.s.dropLast).isSome = true then .err w.col 12
    else instrP line (endR l) { st with labels := st.labels ++ [(w.s.dropLast, st.l.length)] } ws := by
  rw [lineP, h]
  dsimp only
  cases hb : w.bad with
  | true =>
    have h1 : isLabel w = false := by unfold isLabel; rw [hb]; rfl
    rw [h1]
    simp only [Bool.false_eq_true, if_false, true_or, if_true]
    rw [instrP, hb]
    rfl
  | false =>
    have h1 : isLabel w = true := by unfold isLabel; rw [hl, hb]; rfl
    rw [h1]
    generalize (lookP st.labels w.s.dropLast).isSome = b1
    generalize nameP w.s.dropLast = b2
    cases b1 <;> cases b2 <;> simp
theorem lineR_ins {line : Nat} {st : PS} {l : List Rn} {w : Wd} {ws : List Wd} (h : wordsR l = w :: ws) (hl : w.s.getLast? ≠ some 58) : lineP line st l = instrP line (endR l) st (w :: ws) := by
  rw [lineP, h]
  dsimp only
  have h1 : isLabel w = false := by unfold isLabel; simp [hl]
  simp only [h1, Bool.false_eq_true, if_false]
end Go.Proofs.YtngahgfppbjebaaDoor
namespace Go.Proofs.YtngahgfppbjebaaDoor
open Go.RowKit Go.Lib
set_option linter.unusedVariables false
set_option linter.unusedSimpArgs false

/-- A row: its elements' type and size, the slice, how many, the cells. -/
structure ARow where
  e : TypeId
  size : Nat
  v : Value
  n : Nat
  xs : List Value
/-- Rows of our own, no two in one block. -/
structure RowsAt (w : World) (base : Nat) (R : List ARow) : Prop where
  own : ∀ (i : Nat) (r : ARow), R[i]? = some r → w.ownsRow base r.e r.size r.v r.n r.xs
  apart : ∀ (i j : Nat) (r s : ARow), R[i]? = some r → R[j]? = some s → i ≠ j → ∀ k, r.v.ownBlock = some k → s.v.ownBlock ≠ some k
theorem RowsAt.only {S : Nat → Prop} {w w' : World} {base : Nat} {R : List ARow} (h : RowsAt w base R) (ho : Only S w w') (hs : ∀ k, S k → k < base) : RowsAt w' base R :=
  ⟨fun i r hr => row_only (h.own i r hr) ho (fun k hk hS => by
    have := (World.ownsRow.lt (h.own i r hr) k hk).1
    have := hs k hS
    omega), h.apart⟩
theorem RowsAt.nob {w w' : World} {base : Nat} {R : List ARow} (h : RowsAt w base R) (ho : Only Nob w w') : RowsAt w' base R := h.only ho (fun k hk => hk.elim)
/-- One row is another now, in the world behind. -/
theorem RowsAt.put {w w' : World} {base : Nat} {R : List ARow} (h : RowsAt w base R) {i : Nat} {r r' : ARow} (hi : R[i]? = some r) (hg : w.grownBy w' r.v.ownBlock) (hown : w'.ownsRow base r'.e r'.size r'.v r'.n r'.xs) (hb : r'.v.ownBlock = none ∨ r'.v.ownBlock = r.v.ownBlock ∨ ∀ k, r'.v.ownBlock = some k → w.heap.size ≤ k) : RowsAt w' base (R.set i r') := by
  have hil : i < R.length := (List.getElem?_eq_some_iff.1 hi).1
  have hset : ∀ j s, (R.set i r')[j]? = some s → (j = i ∧ s = r') ∨ (j ≠ i ∧ R[j]? = some s) := by
    intro j s hs
    by_cases hj : j = i
    · subst hj
      rw [List.getElem?_set_self hil] at hs
      injection hs with hs
      exact .inl ⟨rfl, hs.symm⟩
    · rw [List.getElem?_set_ne (fun e => hj e.symm)] at hs
      exact .inr ⟨hj, hs⟩
  have hnew : ∀ j s, R[j]? = some s → j ≠ i → ∀ k, r'.v.ownBlock = some k → s.v.ownBlock ≠ some k := by
    intro j s hs hj k hk hsk
    rcases hb with hb | hb | hb
    · rw [hb] at hk
      cases hk
    · exact h.apart j i s r hs hi hj k hsk (hb ▸ hk)
    · have h1 := hb k hk
      have h2 := (World.ownsRow.lt (h.own j s hs) k hsk).2
      omega
  refine ⟨fun j s hs => ?_, fun j1 j2 s1 s2 h1 h2 hne k hk => ?_⟩
  · rcases hset j s hs with ⟨_, rfl⟩ | ⟨hj, hs2⟩
    · exact hown
    · exact row_only (S := fun k => r.v.ownBlock = some k) (h.own j s hs2) (Only.of_grown hg (fun k hk _ => hk)) (fun k hk hS => h.apart j i s r hs2 hi hj k hk hS)
  · rcases hset j1 s1 h1 with ⟨e1, rfl⟩ | ⟨hj1, hs1⟩
    · rcases hset j2 s2 h2 with ⟨e2, rfl⟩ | ⟨hj2, hs2⟩
      · omega
      · exact hnew j2 s2 hs2 hj2 k hk
    · rcases hset j2 s2 h2 with ⟨e2, rfl⟩ | ⟨hj2, hs2⟩
      · intro hk2
        exact hnew j1 s1 hs1 hj1 k hk2 hk
      · exact h.apart j1 j2 s1 s2 hs1 hs2 hne k hk
/-- A row is let go. -/
theorem RowsAt.drop {w : World} {base : Nat} {R : List ARow} (h : RowsAt w base R) {i : Nat} {r : ARow} (hi : R[i]? = some r) : RowsAt w base (R.set i ⟨r.e, r.size, .slice none 0 0, 0, []⟩) :=
  h.put hi ⟨rfl, rfl, rfl, Nat.le_refl _, fun _ _ _ => rfl⟩ (World.ownsRow_nil _ _ _ _) (.inl rfl)
/-- One step: an append of one element onto one of the rows. -/
theorem wpList_pushR {w : World} {base bytes G n cap size : Nat} {A : Option Addr} {R : List ARow} {xs : List Value} {ops : Array Oper} {rest : List Oper} {o : Oper} {a : Act} {Q : Exit → Act → World → Prop} (hG : w.heap.size = G) (hgd : o.guard = none) (s x : Operand) {T e : TypeId}
    (ho : o.op = .call { callee := .builtin .append, args := #[s, x], argTypes := #[T, T] }) (hT : Tryd.prog.underlying T = some (.slice e)) {z : Value} (hinfo : (Tryd.prog.info? e).map (fun i => (i.zero, i.size, i.bytes)) = some (some z, size, bytes)) (hzs : z.cells.size = size) (hpos : 0 < size) (hby : bytes ≤ 1000)
    (hR : RowsAt w base R) (i : Nat) (hi : R[i]? = some ⟨e, size, .slice A n cap, n, xs⟩) (hb : base ≤ w.heap.size) (cs : Array Value) (hcs : cs.size = size) (h1 : ∀ u ∈ cs.toList, u.oneCell' = true) (hn : n ≤ 1000000000)
    (hs : a.eval s = .slice A n cap) (hx : a.eval x = .slice (some ⟨G, 0, none⟩) 1 1)
    (k : ∀ A' cap' w2, RowsAt w2 base (R.set i ⟨e, size, .slice A' (n + 1) cap', n + 1, xs ++ cs.toList⟩) → Only (fun k => (Value.slice A n cap).ownBlock = some k) w w2 → wpList Tryd.prog ops Q rest (a.put o.dst (.slice A' (n + 1) cap')) w2) :
    wpList Tryd.prog ops Q (o :: rest) a (w.alloc (.cells cs e)) := by
  subst hG
  obtain ⟨i0, hi0, hz⟩ := Option.map_eq_some_iff.1 hinfo
  simp only [Prod.mk.injEq] at hz
  obtain ⟨hz0, hz1, hz2⟩ := hz
  have hr : w.ownsRow base e size (.slice A n cap) n xs := hR.own i _ hi
  have hrd : Reads (w.alloc (.cells cs e)) (w.heap.size + 1) size (some ⟨w.heap.size, 0, none⟩) 1 cs.toList := by
    have h := Reads.of_blk (size := size) (n := 1) (Blk.new w e cs) (by omega)
    rw [World.size_alloc] at h
    exact h
  refine wpList_append_any _ hgd s x T ho base e i0 z size bytes hT hi0 hz0 hz1 hz2 hzs hpos (.slice A n cap) n xs hs (hr.alloc _) (w.heap.size + 1) (some ⟨w.heap.size, 0, none⟩) 1 1 cs.toList hx hrd h1 (by unfold maxLen; omega)
    (by
      have : (n + 1) * bytes ≤ 1000000001 * 1000 := Nat.mul_le_mul (by omega) hby
      omega) (by simp; omega) ?_
  intro v' w2 hown hgrow hblk
  have hv : ∃ A' cap', v' = .slice A' (n + 1) cap' := by
    rcases hown.2 with ⟨h1, h2⟩ | ⟨g', cap', cur, hv, _⟩
    · omega
    · exact ⟨_, cap', hv⟩
  obtain ⟨A', cap', rfl⟩ := hv
  refine k A' cap' w2 ?_ ?_
  · refine (hR.nob ((Only.refl _ w).alloc (.cells cs e))).put hi hgrow hown ?_
    rcases hblk with h2 | h2
    · exact .inr (.inl h2)
    · refine .inr (.inr (fun k hk => ?_))
      have hk2 : Value.ownBlock (.slice A' (n + 1) cap') = some k := hk
      rw [h2] at hk2
      injection hk2 with hk2
      omega
  · exact Only.after ((Only.refl _ w).alloc _) (Only.of_grown (S := fun k => (Value.slice A n cap).ownBlock = some k) hgrow (fun j hj _ => hj)) (fun i hi => .inl hi)
/-- A jump's word. -/
def jumpC (j : JP) : List Value := [.string ⟨j.s.toArray⟩, .int .i64 (j.line : Int), .int .i64 (j.col : Int), .bool false]
def outC (j : JP) : List Value := [.int .i64 (j.at_ : Int)]
/-- The six rows of the reference's Parse. -/
def rowsP (st : PS) (cur : List Rn) (nP nL nJ nR : Nat) (vP vL vJ vO vR vB : Value) : List ARow :=
  [⟨60, 5, vP, nP, progCells st.l⟩, ⟨163, 2, vL, nL, cellsG labC st.labels⟩, ⟨160, 4, vJ, nJ, cellsG jumpC st.jumps⟩, ⟨3, 1, vO, nJ, cellsG outC st.jumps⟩, ⟨21, 1, vR, nR, cellsG runeC cur⟩, ⟨4, 1, vB, nR, cellsG badC cur⟩]
theorem infoLab : (Tryd.prog.info? 163).map (fun i => (i.zero, i.size, i.bytes)) = some (some (.agg #[.string ⟨#[]⟩, .int .i64 0]), 2, 24) := by kernel_rfl
theorem infoI32 : (Tryd.prog.info? 21).map (fun i => (i.zero, i.size, i.bytes)) = some (some (.int .i32 0), 1, 4) := by kernel_rfl
theorem infoBl : (Tryd.prog.info? 4).map (fun i => (i.zero, i.size, i.bytes)) = some (some (.bool false), 1, 1) := by kernel_rfl
theorem infoI64 : (Tryd.prog.info? 3).map (fun i => (i.zero, i.size, i.bytes)) = some (some (.int .i64 0), 1, 8) := by kernel_rfl
/-- What Parse may have touched since the loop began. -/
def Sg (gp base : Nat) : Nat → Prop := fun k => k = gp ∨ base ≤ k
/-- Between two runes. -/
structure PW (w1 wr : World) (gp : Nat) (st : PS) (cur : List Rn) (nP nL nJ nR : Nat) (vP vL vJ vO vR vB : Value) : Prop where
  rows : RowsAt wr w1.heap.size (rowsP st cur nP nL nJ nR vP vL vJ vO vR vB)
  cell : Blk wr gp 55 #[vP]
  only : Only (Sg gp w1.heap.size) w1 wr
  gpb : gp < w1.heap.size
  eP : st.l.length = nP
  eL : st.labels.length = nL
  eJ : st.jumps.length = nJ
  eR : cur.length = nR
section
variable {w1 wr : World} {gp : Nat} {st : PS} {cur : List Rn} {nP nL nJ nR : Nat} {vP vL vJ vO vR vB : Value}
theorem PW.start {w1 : World} {gp : Nat} (hc : Blk w1 gp 55 #[.slice none 0 0]) : PW w1 w1 gp PS.start [] 0 0 0 0 (.slice none 0 0) (.slice none 0 0) (.slice none 0 0) (.slice none 0 0) (.slice none 0 0) (.slice none 0 0) := by
  refine ⟨⟨fun i r hr => ?_, fun i j r s hr hs hij k hk => ?_⟩, hc, Only.refl _ _, hc.lt, rfl, rfl, rfl, rfl⟩
  · have hm := List.mem_of_getElem? hr
    simp only [rowsP, List.mem_cons, List.not_mem_nil, or_false] at hm
    rcases hm with rfl | rfl | rfl | rfl | rfl | rfl <;> exact World.ownsRow_nil _ _ _ _
  · exfalso
    have hm := List.mem_of_getElem? hr
    simp only [rowsP, List.mem_cons, List.not_mem_nil, or_false] at hm
    rcases hm with rfl | rfl | rfl | rfl | rfl | rfl <;> cases hk
theorem PW.nob {W : World} (h : PW w1 wr gp st cur nP nL nJ nR vP vL vJ vO vR vB) (ho : Only Nob wr W) : PW w1 W gp st cur nP nL nJ nR vP vL vJ vO vR vB :=
  ⟨h.rows.nob ho, h.cell.only ho (fun h => h), h.only.trans (ho.mono (fun _ _ hk => hk.elim)), h.gpb, h.eP, h.eL, h.eJ, h.eR⟩
/-- The line's rows are let go. -/
theorem PW.clear (h : PW w1 wr gp st cur nP nL nJ nR vP vL vJ vO vR vB) : PW w1 wr gp st [] nP nL nJ 0 vP vL vJ vO (.slice none 0 0) (.slice none 0 0) :=
  ⟨(h.rows.drop (i := 4) rfl).drop (i := 5) rfl, h.cell, h.only, h.gpb, h.eP, h.eL, h.eJ, rfl⟩
/-- A rune joins the line. -/
theorem PW.rune {w3 : World} (h : PW w1 wr gp st cur nP nL nJ nR vP vL vJ vO vR vB) {x : Rn} {vR' vB' : Value} (ho : Only (fun k => w1.heap.size ≤ k) wr w3) (hr : RowsAt w3 w1.heap.size [⟨60, 5, vP, nP, progCells st.l⟩, ⟨163, 2, vL, nL, cellsG labC st.labels⟩, ⟨160, 4, vJ, nJ, cellsG jumpC st.jumps⟩, ⟨3, 1, vO, nJ, cellsG outC st.jumps⟩, ⟨21, 1, vR', nR + 1, cellsG runeC cur ++ [runeV x]⟩, ⟨4, 1, vB', nR + 1, cellsG badC cur ++ [badV x]⟩]) :
    PW w1 w3 gp st (cur ++ [x]) nP nL nJ (nR + 1) vP vL vJ vO vR' vB' := by
  refine ⟨?_, h.cell.only ho (fun hk => by have := h.gpb; omega), ?_, h.gpb, h.eP, h.eL, h.eJ, by rw [List.length_append, h.eR]; rfl⟩
  · unfold rowsP
    rw [cellsG_snoc, cellsG_snoc]
    exact hr
  · exact Only.trans h.only (ho.mono (fun k _ hk => .inr hk))
/-- A label. -/
theorem PW.label {w3 : World} (h : PW w1 wr gp st cur nP nL nJ nR vP vL vJ vO vR vB) {s : List UInt8} {vL' : Value} (ho : Only (fun k => w1.heap.size ≤ k) wr w3) (hr : RowsAt w3 w1.heap.size [⟨60, 5, vP, nP, progCells st.l⟩, ⟨163, 2, vL', nL + 1, cellsG labC st.labels ++ [.string ⟨s.toArray⟩, .int .i64 (nP : Int)]⟩, ⟨160, 4, vJ, nJ, cellsG jumpC st.jumps⟩, ⟨3, 1, vO, nJ, cellsG outC st.jumps⟩, ⟨21, 1, vR, nR, cellsG runeC cur⟩, ⟨4, 1, vB, nR, cellsG badC cur⟩]) :
    PW w1 w3 gp { st with labels := st.labels ++ [(s, st.l.length)] } cur nP (nL + 1) nJ nR vP vL' vJ vO vR vB := by
  refine ⟨?_, h.cell.only ho (fun hk => by have := h.gpb; omega), ?_, h.gpb, h.eP, by rw [List.length_append, h.eL]; rfl, h.eJ, h.eR⟩
  · unfold rowsP
    rw [cellsG_snoc, show labC (s, st.l.length) = [.string ⟨s.toArray⟩, .int .i64 (nP : Int)] by simp [labC, h.eP]]
    exact hr
  · exact Only.trans h.only (ho.mono (fun k _ hk => .inr hk))
/-- A jump. -/
theorem PW.jump {w3 : World} (h : PW w1 wr gp st cur nP nL nJ nR vP vL vJ vO vR vB) {j : JP} {vJ' vO' : Value} (ho : Only (fun k => w1.heap.size ≤ k) wr w3) (hr : RowsAt w3 w1.heap.size [⟨60, 5, vP, nP, progCells st.l⟩, ⟨163, 2, vL, nL, cellsG labC st.labels⟩, ⟨160, 4, vJ', nJ + 1, cellsG jumpC st.jumps ++ jumpC j⟩, ⟨3, 1, vO', nJ + 1, cellsG outC st.jumps ++ outC j⟩, ⟨21, 1, vR, nR, cellsG runeC cur⟩, ⟨4, 1, vB, nR, cellsG badC cur⟩]) :
    PW w1 w3 gp { st with jumps := st.jumps ++ [j] } cur nP nL (nJ + 1) nR vP vL vJ' vO' vR vB := by
  refine ⟨?_, h.cell.only ho (fun hk => by have := h.gpb; omega), ?_, h.gpb, h.eP, h.eL, by rw [List.length_append, h.eJ]; rfl, h.eR⟩
  · unfold rowsP
    rw [cellsG_snoc, cellsG_snoc]
    exact hr
  · exact Only.trans h.only (ho.mono (fun k _ hk => .inr hk))
/-- An instruction. -/
theorem PW.ins {w3 : World} (h : PW w1 wr gp st cur nP nL nJ nR vP vL vJ vO vR vB) {x : PIns} {vP' : Value} (ho : Only (fun k => w1.heap.size ≤ k) wr w3) (hr : RowsAt w3 w1.heap.size [⟨60, 5, vP', nP + 1, progCells st.l ++ insCells x⟩, ⟨163, 2, vL, nL, cellsG labC st.labels⟩, ⟨160, 4, vJ, nJ, cellsG jumpC st.jumps⟩, ⟨3, 1, vO, nJ, cellsG outC st.jumps⟩, ⟨21, 1, vR, nR, cellsG runeC cur⟩, ⟨4, 1, vB, nR, cellsG badC cur⟩]) :
    PW w1 (w3.setCell ⟨gp, 0, none⟩ vP') gp { st with l := st.l ++ [x] } cur (nP + 1) nL nJ nR vP' vL vJ vO vR vB := by
  have hc : Blk w3 gp 55 #[vP] := h.cell.only ho (fun hk => by have := h.gpb; omega)
  have hs : Only (fun k => k = gp) w3 (w3.setCell ⟨gp, 0, none⟩ vP') := Only.setCell (S := fun k => k = gp) (p := ⟨gp, 0, none⟩) (Only.refl _ w3) (.inl rfl) _
  refine ⟨?_, hc.set_ 0 vP', ?_, h.gpb, by rw [List.length_append, h.eP]; rfl, h.eL, h.eJ, h.eR⟩
  · unfold rowsP
    rw [show progCells (st.l ++ [x]) = progCells st.l ++ insCells x by simp [progCells]]
    exact hr.only hs (fun k hk => by have := h.gpb; omega)
  · exact Only.trans (Only.trans h.only (ho.mono (fun k _ hk => .inr hk))) (hs.mono (fun k _ hk => .inl hk))
end
/-- '[]rune(s)'. -/
theorem conv_all (w : World) (s : ByteArray) (hs : s.size ≤ 100000) : ∃ (cap : Nat) (w2 : World), (convert 9 155 (.string s)).run Tryd.prog w = .ok (.slice (some ⟨w.heap.size, 0, none⟩) (runesL s.data.toList).length cap) w2 ∧ (runesL s.data.toList).length ≤ cap ∧ SlIn runeC 1 w2 w2.heap.size (some ⟨w.heap.size, 0, none⟩) (runesL s.data.toList) ∧ Only Nob w w2 := by
  have hlen := runesL_len s.size s.data.toList (by simp)
  have hsz : (Conv.runesFrom s s.size 0 #[]).size = (runesL s.data.toList).length := by rw [runes_of]; simp
  have h := run_runes_of_string (P := Tryd.prog) w 9 155 21 s Tryd.underlying9 Tryd.underlying155 Tryd.underlying21 (by rw [hsz]; simp at hlen; omega)
  rw [hsz, runes_of] at h
  refine ⟨_, _, h, grownCap_ge _ _ _ _, fun hne => ⟨w.heap.size, 0, rfl, by simp, fun k x hk j v hj => ?_⟩, ((Only.refl _ w).drew).alloc _⟩
  have hj0 : j = 0 := by
    have := (List.getElem?_eq_some_iff.1 hj).1
    simp [runeC] at this
    omega
  subst hj0
  have hkl := (List.getElem?_eq_some_iff.1 hk).1
  have hb := Blk.new w.drew 21 (((runesL s.data.toList).map runeV).toArray ++ Array.replicate (grownCap w (runesL s.data.toList).length 0 21 - (runesL s.data.toList).length) (.int .i32 0))
  have hc := hb.cell k
  have e : (((runesL s.data.toList).map runeV).toArray ++ Array.replicate (grownCap w (runesL s.data.toList).length 0 21 - (runesL s.data.toList).length) (.int .i32 0))[k]? = some (runeV x) := by
    rw [Array.getElem?_append_left (by simpa using hkl)]
    simp [hk]
  rw [e] at hc
  rw [Nat.zero_add, Nat.mul_one, Nat.add_zero]
  simp [runeC] at hj
  rw [← hj]
  exact hc
theorem runes_max (s : ByteArray) : ∀ (n k : Nat), s.size ≤ k + n → ∀ x ∈ runesL (s.data.toList.drop k), x.1 ≤ 1114111
  | 0, k, h, x, hx => by
    rw [runes_end s k (by omega)] at hx
    cases hx
  | n + 1, k, h, x, hx => by
    by_cases hk : k < s.size
    · obtain ⟨h1, h2, h3, h4⟩ := runes_at s k hk
      rw [h1] at hx
      rcases List.mem_cons.1 hx with hx | hx
      · rw [hx]; exact h4
      · exact runes_max s n _ (by omega) x hx
    · rw [runes_end s k hk] at hx
      cases hx
/-- How the lines go on at rune k. -/
def RG (rs : List Rn) (k ln : Nat) (st : PS) (cur : List Rn) : Prop :=
  (k ≤ rs.length ∧ linesP 0 PS.start (linesR rs) = linesG ln st cur (rs.drop k)) ∨ (k = rs.length + 1 ∧ linesP 0 PS.start (linesR rs) = .ok st)
theorem RG.start (rs : List Rn) : RG rs 0 0 PS.start [] := .inl ⟨Nat.zero_le _, by rw [List.drop_zero]; exact linesG_start rs⟩
theorem RG.go {rs : List Rn} {k ln : Nat} {st : PS} {cur : List Rn} {x : Rn} (h : RG rs k ln st cur) (hx : rs[k]? = some x) (hn : ¬ x.1 = 10) : RG rs (k + 1) ln st (cur ++ [x]) := by
  have hk : k < rs.length := (List.getElem?_eq_some_iff.1 hx).1
  rcases h with ⟨h1, h2⟩ | ⟨h1, _⟩
  · exact .inl ⟨hk, by rw [h2, linesG_go (drop_some hx) hn]⟩
  · omega
/-- What a line makes of it. -/
def LN (rs : List Rn) (k ln : Nat) (q : Out PS) : Prop := match q with
  | .err c e => linesP 0 PS.start (linesR rs) = .err (ln + 1) c e
  | .ok st' => RG rs (k + 1) (ln + 1) st' []
theorem RG.nl {rs : List Rn} {k ln : Nat} {st : PS} {cur : List Rn} {x : Rn} (h : RG rs k ln st cur) (hx : rs[k]? = some x) (hn : x.1 = 10) : LN rs k ln (lineP (ln + 1) st cur) := by
  have hk : k < rs.length := (List.getElem?_eq_some_iff.1 hx).1
  rcases h with ⟨h1, h2⟩ | ⟨h1, _⟩
  · rw [linesG_nl (drop_some hx) hn] at h2
    unfold LN
    cases hq : lineP (ln + 1) st cur with
    | err c e => rw [hq] at h2; exact h2
    | ok st' => rw [hq] at h2; exact .inl ⟨hk, h2⟩
  · omega
theorem RG.last {rs : List Rn} {k ln : Nat} {st : PS} {cur : List Rn} (h : RG rs k ln st cur) (hk : k = rs.length) (hc : cur ≠ []) : LN rs k ln (lineP (ln + 1) st cur) := by
  rcases h with ⟨h1, h2⟩ | ⟨h1, _⟩
  · rw [hk, List.drop_length, linesG_last hc] at h2
    unfold LN
    cases hq : lineP (ln + 1) st cur with
    | err c e => rw [hq] at h2; exact h2
    | ok st' => rw [hq] at h2; exact .inr ⟨by omega, h2⟩
  · omega
theorem RG.empty {rs : List Rn} {k ln : Nat} {st : PS} (h : RG rs k ln st []) (hk : k = rs.length) (m : Nat) : RG rs (k + 1) m st [] := by
  rcases h with ⟨h1, h2⟩ | ⟨h1, _⟩
  · rw [hk, List.drop_length] at h2
    exact .inr ⟨by omega, h2⟩
  · omega
theorem RG.fin {rs : List Rn} {k ln : Nat} {st : PS} {cur : List Rn} (h : RG rs k ln st cur) (hk : rs.length < k) : linesP 0 PS.start (linesR rs) = .ok st := by
  rcases h with ⟨h1, _⟩ | ⟨_, h2⟩
  · omega
  · exact h2
theorem PW.cap {w1 wr : World} {gp : Nat} {st : PS} {cur : List Rn} {nP nL nJ nR cR : Nat} {AR : Option Addr} {vP vL vJ vO vB : Value} (h : PW w1 wr gp st cur nP nL nJ nR vP vL vJ vO (.slice AR nR cR) vB) : nR ≤ cR := by
  have h1 := h.rows.own 4 _ rfl
  rcases h1.2 with ⟨h2, h3⟩ | ⟨g, cap, cur, hv, _, _, hle, _⟩
  · simp only at h3
    omega
  · simp only at hv hle
    injection hv with _ _ hc
    omega
theorem PW.inR {w1 wr : World} {gp : Nat} {st : PS} {cur : List Rn} {nP nL nJ nR cR : Nat} {AR : Option Addr} {vP vL vJ vO vB : Value} (h : PW w1 wr gp st cur nP nL nJ nR vP vL vJ vO (.slice AR nR cR) vB) : SlIn runeC 1 wr wr.heap.size AR cur :=
  SlIn.of_own (fun _ => rfl) (h.rows.own 4 _ rfl) h.eR.symm
theorem PW.inB {w1 wr : World} {gp : Nat} {st : PS} {cur : List Rn} {nP nL nJ nR cB : Nat} {AB : Option Addr} {vP vL vJ vO vR : Value} (h : PW w1 wr gp st cur nP nL nJ nR vP vL vJ vO vR (.slice AB nR cB)) : SlIn badC 1 wr wr.heap.size AB cur :=
  SlIn.of_own (fun _ => rfl) (h.rows.own 5 _ rfl) h.eR.symm
theorem PW.inL {w1 wr : World} {gp : Nat} {st : PS} {cur : List Rn} {nP nL nJ nR cL : Nat} {AL : Option Addr} {vP vJ vO vR vB : Value} (h : PW w1 wr gp st cur nP nL nJ nR vP (.slice AL nL cL) vJ vO vR vB) : SlIn labC 2 wr wr.heap.size AL st.labels :=
  SlIn.of_own (fun _ => rfl) (h.rows.own 1 _ rfl) h.eL.symm
theorem PW.below {w1 wr : World} {gp : Nat} {st : PS} {cur : List Rn} {nP nL nJ nR : Nat} {vP vL vJ vO vR vB : Value} (h : PW w1 wr gp st cur nP nL nJ nR vP vL vJ vO vR vB) {b : Nat} (hb : b < w1.heap.size) (hg : b ≠ gp) (o : Nat) : wr.cell? ⟨b, o, none⟩ = w1.cell? ⟨b, o, none⟩ :=
  h.only.cell (p := ⟨b, o, none⟩) hb (fun hk => by rcases hk with hk | hk; exact hg hk; have : w1.heap.size ≤ b := hk; omega)
/-- The append of one element onto one of the rows, in a region that draws its order. -/
theorem step_pushR {w : World} {base bytes G n cap size : Nat} {A : Option Addr} {R : List ARow} {xs : List Value} {ops : Array Oper} {o : Oper} {a : Act} {K : Act → World → Prop} {Q : Exit → Act → World → Prop} {E : Prop} (hgd : o.guard = none) (s x : Operand) {T e : TypeId}
    (ho : o.op = .call { callee := .builtin .append, args := #[s, x], argTypes := #[T, T] }) (hT : Tryd.prog.underlying T = some (.slice e)) {z : Value} (hinfo : (Tryd.prog.info? e).map (fun i => (i.zero, i.size, i.bytes)) = some (some z, size, bytes)) (hzs : z.cells.size = size) (hpos : 0 < size) (hby : bytes ≤ 1000)
    (hR : RowsAt w base R) (i : Nat) (hi : R[i]? = some ⟨e, size, .slice A n cap, n, xs⟩) (hb : base ≤ w.heap.size) (cs : Array Value) (hcs : cs.size = size) (h1 : ∀ u ∈ cs.toList, u.oneCell' = true) (hn : n ≤ 1000000000)
    (hs : a.eval s = .slice A n cap) (hx : a.eval x = .slice (some ⟨G, 0, none⟩) 1 1) (hblk : Blk w G e cs)
    (k : ∀ A' cap' w2, RowsAt w2 base (R.set i ⟨e, size, .slice A' (n + 1) cap', n + 1, xs ++ cs.toList⟩) → Only (fun k => (Value.slice A n cap).ownBlock = some k) w w2 → K (a.put o.dst (.slice A' (n + 1) cap')) w2) :
    if Region.wanted o (yielded ops a.tmps) = true then Oper.wp Tryd.prog o a w K Q else E := by
  obtain ⟨i0, hi0, hz⟩ := Option.map_eq_some_iff.1 hinfo
  simp only [Prod.mk.injEq] at hz
  obtain ⟨hz0, hz1, hz2⟩ := hz
  have hr : w.ownsRow base e size (.slice A n cap) n xs := hR.own i _ hi
  have hrd : Reads w w.heap.size size (some ⟨G, 0, none⟩) 1 cs.toList := Reads.of_blk (size := size) (n := 1) hblk (by omega)
  refine step_append_any _ hgd s x T ho base e i0 z size bytes hT hi0 hz0 hz1 hz2 hzs hpos (.slice A n cap) n xs hs hr w.heap.size (some ⟨G, 0, none⟩) 1 1 cs.toList hx hrd h1 (by unfold maxLen; omega)
    (by
      have : (n + 1) * bytes ≤ 1000000001 * 1000 := Nat.mul_le_mul (by omega) hby
      omega) hb ?_
  intro v' w2 hown hgrow hbk
  have hv : ∃ A' cap', v' = .slice A' (n + 1) cap' := by
    rcases hown.2 with ⟨h1, h2⟩ | ⟨g', cap', cur, hv, _⟩
    · omega
    · exact ⟨_, cap', hv⟩
  obtain ⟨A', cap', rfl⟩ := hv
  refine k A' cap' w2 ?_ (Only.of_grown hgrow (fun k hk _ => hk))
  refine hR.put hi hgrow hown ?_
  rcases hbk with h2 | h2
  · exact .inr (.inl h2)
  · refine .inr (.inr (fun k hk => ?_))
    have hk2 : Value.ownBlock (.slice A' (n + 1) cap') = some k := hk
    rw [h2] at hk2
    injection hk2 with hk2
    omega
/-- The row's block is older than what is new. -/
theorem RowsAt.old {w : World} {base : Nat} {R : List ARow} (h : RowsAt w base R) {i : Nat} {r : ARow} (hi : R[i]? = some r) : ∀ k, r.v.ownBlock = some k → base ≤ k ∧ k < w.heap.size := World.ownsRow.lt (h.own i r hi)
/-- Between two jumps. -/
structure PV (w1 wr : World) (gp : Nat) (st : PS) (cur : List Rn) (nP nL nJ nR : Nat) (vP vL vJ vO vR vB : Value) (i : Nat) (l' : List PIns) : Prop where
  pw : PW w1 wr gp { st with l := l' } cur nP nL nJ nR vP vL vJ vO vR vB
  len : l'.length = st.l.length
  eq : resolveP st.labels st.jumps st.l = resolveP st.labels (st.jumps.drop i) l'
  le : i ≤ nJ
section
variable {w1 wr : World} {gp : Nat} {st : PS} {cur : List Rn} {nP nL nJ nR : Nat} {vP vL vJ vO vR vB : Value} {i : Nat} {l' : List PIns}
theorem PV.start (h : PW w1 wr gp st cur nP nL nJ nR vP vL vJ vO vR vB) : PV w1 wr gp st cur nP nL nJ nR vP vL vJ vO vR vB 0 st.l := ⟨h, rfl, by rw [List.drop_zero], Nat.zero_le _⟩
theorem PV.nob {W : World} (h : PV w1 wr gp st cur nP nL nJ nR vP vL vJ vO vR vB i l') (ho : Only Nob wr W) : PV w1 W gp st cur nP nL nJ nR vP vL vJ vO vR vB i l' := ⟨h.pw.nob ho, h.len, h.eq, h.le⟩
theorem PV.bad {j : JP} {r : List PIns × Nat × Nat × Nat} (h : PV w1 wr gp st cur nP nL nJ nR vP vL vJ vO vR vB i l') (hj : st.jumps[i]? = some j) (hl : lookP st.labels j.s = none) (hp : r = match resolveP st.labels st.jumps st.l with
    | .err a b c => ([], a, b, c)
    | .ok l => (l, 0, 0, 0)) : r = ([], j.line, j.col, 12) := by
  rw [hp, h.eq, drop_some hj, resolveP, hl]
theorem PV.fin {r : List PIns × Nat × Nat × Nat} (h : PV w1 wr gp st cur nP nL nJ nR vP vL vJ vO vR vB i l') (hi : nJ ≤ i) (hp : r = match resolveP st.labels st.jumps st.l with
    | .err a b c => ([], a, b, c)
    | .ok l => (l, 0, 0, 0)) : r = (l', 0, 0, 0) := by
  have := h.pw.eJ
  rw [hp, h.eq, List.drop_eq_nil_of_le (by simp only at this; omega)]
  rfl
theorem PV.put {g cap c : Nat} {j : JP} (h : PV w1 wr gp st cur nP nL nJ nR (.slice (some ⟨g, 0, none⟩) nP cap) vL vJ vO vR vB i l') (hj : st.jumps[i]? = some j) (hl : lookP st.labels j.s = some c) (hat : j.at_ < nP) :
    PV w1 (wr.setCell ⟨g, j.at_ * 5 + 3, none⟩ (.int .i64 (c : Int))) gp st cur nP nL nJ nR (.slice (some ⟨g, 0, none⟩) nP cap) vL vJ vO vR vB (i + 1) (setC l' j.at_ c) := by
  have hP := h.pw
  have hm : l'.length = nP := hP.eP
  have hg := hP.rows.old (i := 0) rfl g rfl
  have hgp := hP.gpb
  have hi : i < st.jumps.length := (List.getElem?_eq_some_iff.1 hj).1
  have hJ := hP.eJ
  have hoS : Only (fun q => q = g) wr (wr.setCell ⟨g, j.at_ * 5 + 3, none⟩ (.int .i64 (c : Int))) := Only.setCell (S := fun q => q = g) (p := ⟨g, j.at_ * 5 + 3, none⟩) (Only.refl _ _) (.inl rfl) _
  have hgr : wr.grownBy (wr.setCell ⟨g, j.at_ * 5 + 3, none⟩ (.int .i64 (c : Int))) (some g) := ⟨hoS.os, hoS.tape, hoS.output, hoS.size, fun q hq hn => hoS.block q hq (fun e => hn (by rw [e]))⟩
  have h9 : wr.ownsRow w1.heap.size 60 5 (.slice (some ⟨g, 0, none⟩) nP cap) nP (progCells l') := hP.rows.own 0 _ rfl
  have h8 := (World.ownsRow.stored h9 (j.at_ * 5 + 3) (.int .i64 (c : Int))).1
  rw [← progCells_setC l' j.at_ c (by omega)] at h8
  refine ⟨⟨?_, hP.cell.only hoS (by omega), Only.trans hP.only (hoS.mono (fun q _ hq => .inr (by show w1.heap.size ≤ q; rw [hq]; exact hg.1))), hgp, by rw [setC_len]; exact hm, hP.eL, hP.eJ, hP.eR⟩, by rw [setC_len]; exact h.len, ?_, by simp only at hJ; omega⟩
  · exact hP.rows.put (i := 0) (r' := ⟨60, 5, .slice (some ⟨g, 0, none⟩) nP cap, nP, progCells (setC l' j.at_ c)⟩) rfl hgr h8 (.inr (.inl rfl))
  · rw [h.eq, drop_some hj, resolveP, hl]
end
theorem row_slice {w : World} {base : Nat} {e : TypeId} {size n : Nat} {v : Value} {xs : List Value} (h : w.ownsRow base e size v n xs) : ∃ A cap, v = .slice A n cap := by
  rcases h.2 with ⟨h1, h2⟩ | ⟨g, cap, cur, hv, _⟩
  · exact ⟨none, 0, by rw [h1, h2]⟩
  · exact ⟨_, cap, hv⟩
section
variable {w1 wr : World} {gp : Nat} {st : PS} {cur : List Rn} {nP nL nJ nR cJ cO : Nat} {AJ AO : Option Addr} {vP vL vJ vO vR vB : Value}
theorem PW.sliceP (h : PW w1 wr gp st cur nP nL nJ nR vP vL vJ vO vR vB) : ∃ A cap, vP = .slice A nP cap := row_slice (h.rows.own 0 _ rfl)
theorem PW.inJ (h : PW w1 wr gp st cur nP nL nJ nR vP vL (.slice AJ nJ cJ) vO vR vB) : SlIn jumpC 4 wr wr.heap.size AJ st.jumps := SlIn.of_own (fun _ => rfl) (h.rows.own 2 _ rfl) h.eJ.symm
theorem PW.inO (h : PW w1 wr gp st cur nP nL nJ nR vP vL vJ (.slice AO nJ cO) vR vB) : SlIn outC 1 wr wr.heap.size AO st.jumps := SlIn.of_own (fun _ => rfl) (h.rows.own 3 _ rfl) h.eJ.symm
end
theorem PV.done {w w1 wr : World} {gp : Nat} {st : PS} {cur : List Rn} {nP nL nJ nR : Nat} {vP vL vJ vO vR vB : Value} {i : Nat} {l' : List PIns} {r : List PIns × Nat × Nat × Nat} (h : PV w1 wr gp st cur nP nL nJ nR vP vL vJ vO vR vB i l') (ho : Only Nob w w1) (hgp : w.heap.size < gp) (hr : r = (l', 0, 0, 0)) (v : Value) : ParsePost w r (.returned (.tuple #[.agg #[vP], .int .i64 0, .int .i64 0, .int .i64 0])) (wr.setCell ⟨w.heap.size, 0, none⟩ v) := by
  subst hr
  have hw := ho.size
  have hgb := h.pw.gpb
  have hoS : Only (fun q => q = w.heap.size) wr (wr.setCell ⟨w.heap.size, 0, none⟩ v) := Only.setCell (S := fun q => q = w.heap.size) (p := ⟨w.heap.size, 0, none⟩) (Only.refl _ _) (.inl rfl) _
  have h1 : Only Nob w wr := Only.after ho h.pw.only (fun q hq => .inr (by rcases hq with hq | hq; omega; have : w1.heap.size ≤ q := hq; omega))
  refine ⟨vP, rfl, ?_, Only.after h1 hoS (fun q hq => .inr (by omega))⟩
  have hrow := (h.pw.rows.only hoS (fun k hk => by omega)).own 0 _ rfl
  simp only at hrow
  have e : l'.length = nP := h.pw.eP
  unfold PRow
  simp only
  rw [e]
  refine ⟨hrow.1, ?_⟩
  rcases hrow.2 with h2 | ⟨g, cap', cur', h2, h3, h4⟩
  · exact .inl h2
  · exact .inr ⟨g, cap', cur', h2, Nat.le_trans hw h3, h4⟩
end Go.Proofs.YtngahgfppbjebaaDoor
namespace Go.Proofs.YtngahgfppbjebaaDoor
open Go.RowKit Go.Lib
set_option linter.unusedVariables false
set_option linter.unusedSimpArgs false

theorem encode_size_ge (i : Int) : 1 ≤ (Utf8.encode i).size := by
  unfold Utf8.encode
  simp only
  repeat' split
  all_goals simp [ByteArray.size]
theorem listOf_ne (b : ByteArray) (h : 1 ≤ b.size) : listOf b ≠ [] := by
  intro e
  have h2 : (listOf b).length = 0 := by rw [e]; rfl
  have h3 : (listOf b).length = b.size := by simp [listOf]
  omega
theorem encB_ne (r : Nat) : encB r ≠ [] := by
  rw [encB_eq]
  exact listOf_ne _ (encode_size_ge _)
theorem wordsG_ne : ∀ (l : List Rn) (cur : Option Wd) (col : Nat), (∀ w, cur = some w → w.s ≠ []) → ∀ x ∈ wordsG cur col l, x.s ≠ []
  | [], cur, col, hc, x, hx => by
    rw [wordsG] at hx
    cases cur with
    | none => cases hx
    | some w =>
      simp at hx
      subst hx
      exact hc _ rfl
  | y :: r, cur, col, hc, x, hx => by
    rw [wordsG] at hx
    split at hx
    · rcases List.mem_append.1 hx with h | h
      · cases cur with
        | none => cases h
        | some w =>
          simp at h
          subst h
          exact hc _ rfl
      · exact wordsG_ne r none (col + 1) (fun w h => by cases h) x h
    · refine wordsG_ne r _ (col + 1) (fun w h => ?_) x hx
      injection h with h
      subst h
      unfold growW
      cases cur with
      | none => simpa using encB_ne y.1
      | some w => simp [encB_ne]
theorem wordsR_ne (rs : List Rn) : ∀ x ∈ wordsR rs, x.s ≠ [] := wordsG_ne _ none 1 (fun w h => by cases h)
/-- A string's last byte. -/
theorem idx_last (sy : ByteArray) (h : 0 < sy.size) : ∃ lb : UInt8, sy.data.toList.getLast? = some lb ∧ ∀ W, (Instr.index 9 (.string sy) (.int .i64 ((sy.size : Int) - 1))).run Tryd.prog W = .ok (.int .u8 (lb.toNat : Int)) W := by
  have hl : sy.data.toList.length = sy.size := by simp
  have hlt : sy.size - 1 < sy.size := by omega
  refine ⟨sy[sy.size - 1]'hlt, ?_, fun W => ?_⟩
  · rw [List.getLast?_eq_getElem?, hl, List.getElem?_eq_getElem (by omega)]
    rfl
  · rw [run_index_string (P := Tryd.prog) W 9 sy .i64 ((sy.size : Int) - 1) Tryd.underlying9, dif_pos ⟨by omega, by omega⟩]
    have e : ((sy.size : Int) - 1).toNat = sy.size - 1 := by omega
    simp only [e]
end Go.Proofs.YtngahgfppbjebaaDoor
namespace Go.Proofs.YtngahgfppbjebaaDoor
open Go.Lib
set_option linter.unusedVariables false
set_option linter.unusedSimpArgs false

theorem wordsG_count : ∀ (l : List Rn) (cur : Option Wd) (col : Nat), (wordsG cur col l).length ≤ cur.toList.length + l.length
  | [], cur, col => by simp [wordsG]
  | x :: r, cur, col => by
    rw [wordsG]
    split
    · have := wordsG_count r none (col + 1)
      simp only [List.length_append, List.length_cons, Option.toList_none, List.length_nil] at this ⊢
      omega
    · have := wordsG_count r (some (growW cur col x)) (col + 1)
      simp only [List.length_cons, Option.toList_some, List.length_nil] at this ⊢
      cases cur <;> simp <;> omega
theorem wordsR_count (l : List Rn) : (wordsR l).length ≤ l.length := by
  have h1 := wordsG_count (bodyR l) none 1
  have h2 := bodyR_len l
  unfold wordsR
  simp at h1
  omega
theorem endR_le (l : List Rn) : endR l ≤ l.length + 1 := by
  have h2 := bodyR_len l
  unfold endR
  omega
theorem fieldsQ_err {line endc n : Nat} : ∀ (ks : List UInt8) (ws : List Wd) (x : PIns) (js : List JP) (c er : Nat), fieldsQ line endc n ks ws x js = .err c er → er = 12
  | [], [], x, js, c, er, h => by rw [fieldsQ] at h; cases h
  | [], w :: ws, x, js, c, er, h => by rw [fieldsQ] at h; injection h with _ h; exact h.symm
  | k :: ks, [], x, js, c, er, h => by rw [fieldsQ] at h; injection h with _ h; exact h.symm
  | k :: ks, w :: ws, x, js, c, er, h => by
    rw [fieldsQ] at h
    split at h
    · injection h with _ h; exact h.symm
    · split at h
      · injection h with _ h; exact h.symm
      · exact fieldsQ_err ks ws _ _ c er h
theorem instrQ_err {line endc n : Nat} {w : Wd} {ws : List Wd} {c er : Nat} (h : instrQ line endc n (w :: ws) = .err c er) : er = 4 ∨ er = 12 := by
  rw [instrQ] at h
  split at h
  · injection h with _ h; exact .inr h.symm
  · split at h
    · injection h with _ h; exact .inl h.symm
    · exact .inr (fieldsQ_err _ _ _ _ _ _ h)
theorem fieldsQ_js {line endc n : Nat} : ∀ (ks : List UInt8) (ws : List Wd) (x x' : PIns) (js js' : List JP), fieldsQ line endc n ks ws x js = .ok (x', js') → ∃ t, js' = js ++ t ∧ t.length = ks.count 106 ∧ ∀ j ∈ t, j.at_ = n ∧ j.line = line ∧ ∃ w ∈ ws, w.s = j.s
  | [], [], x, x', js, js', h => by
    rw [fieldsQ] at h
    injection h with h
    injection h with _ h
    exact ⟨[], by simp [h], rfl, fun j hj => by cases hj⟩
  | [], w :: ws, x, x', js, js', h => by rw [fieldsQ] at h; cases h
  | k :: ks, [], x, x', js, js', h => by rw [fieldsQ] at h; cases h
  | k :: ks, w :: ws, x, x', js, js', h => by
    rw [fieldsQ] at h
    split at h
    · cases h
    · split at h
      · cases h
      · obtain ⟨t, h1, h2, h3⟩ := fieldsQ_js ks ws _ x' _ js' h
        by_cases hk : k = 106
        · rw [if_pos hk] at h1
          refine ⟨⟨n, w.s, line, w.col⟩ :: t, by rw [h1, List.append_assoc]; rfl, by rw [List.length_cons, h2, hk]; simp, ?_⟩
          intro j hj
          rcases List.mem_cons.1 hj with rfl | hj
          · exact ⟨rfl, rfl, w, List.mem_cons_self, rfl⟩
          · obtain ⟨a, b, y, hy, e⟩ := h3 j hj
            exact ⟨a, b, y, List.mem_cons_of_mem _ hy, e⟩
        · rw [if_neg hk] at h1
          refine ⟨t, h1, by rw [h2, List.count_cons_of_ne hk], ?_⟩
          intro j hj
          obtain ⟨a, b, y, hy, e⟩ := h3 j hj
          exact ⟨a, b, y, List.mem_cons_of_mem _ hy, e⟩
theorem kinds_one (op : Int) : (kindsP op).count 106 ≤ 1 := by
  unfold kindsP
  repeat' split
  all_goals decide
/-- An instruction's jump: none, or one. -/
theorem instrQ_js {line endc n : Nat} {w : Wd} {ws : List Wd} {x : PIns} {js : List JP} (h : instrQ line endc n (w :: ws) = .ok (x, js)) (hne : ∀ y ∈ ws, y.s ≠ []) : js = [] ∨ ∃ s c, js = [⟨n, s, line, c⟩] ∧ s ≠ [] := by
  rw [instrQ] at h
  split at h
  · cases h
  · split at h
    · cases h
    · obtain ⟨t, h1, h2, h3⟩ := fieldsQ_js _ _ _ _ _ _ h
      rw [List.nil_append] at h1
      subst h1
      have hk := kinds_one (numOf nameList ⟨w.s.toArray⟩)
      cases js with
      | nil => exact .inl rfl
      | cons j r =>
        cases r with
        | nil =>
          obtain ⟨a, b, y, hy, e⟩ := h3 j List.mem_cons_self
          refine .inr ⟨j.s, j.col, ?_, by rw [← e]; exact hne y hy⟩
          rw [← a, ← b]
        | cons j2 r2 =>
          simp only [List.length_cons] at h2
          omega
/-- The state behind a label. -/
theorem PSok.lab {st : PS} {n : Nat} (h : PSok st n) (s : List UInt8) : PSok { st with labels := st.labels ++ [(s, st.l.length)] } (n + 1) := by
  refine ⟨h.few, h.jumps, ?_, h.at_, ?_⟩
  · have := h.labels
    simp only [List.length_append, List.length_cons, List.length_nil]
    omega
  · intro e he
    rcases List.mem_append.1 he with h1 | h1
    · exact h.labat e h1
    · simp only [List.mem_cons, List.not_mem_nil, or_false] at h1
      rw [h1]
      exact h.few
theorem PSok.more {st : PS} {n : Nat} (h : PSok st n) : PSok st (n + 1) := ⟨h.few, h.jumps, Nat.le_succ_of_le h.labels, h.at_, h.labat⟩
theorem drop_last (sy : ByteArray) (h : 0 < sy.size) : (sy.extract 0 (sy.size - 1)).data.toList = sy.data.toList.dropLast := by
  have hl : sy.data.toList.length = sy.size := by simp
  simp
  try rw [List.dropLast_eq_take, hl]
theorem drop_last_size (sy : ByteArray) (h : 0 < sy.size) : (sy.extract 0 (sy.size - 1)).size ≤ sy.size := by
  simp
theorem SlIn.off {α : Type} {f : α → List Value} {c : Nat} {S : Nat → Prop} {w w' : World} {A : Option Addr} {l : List α} (h : SlIn f c w w.heap.size A l) (ho : Only S w w') (hA : ∀ b o, A = some ⟨b, o, none⟩ → ¬ S b) : SlIn f c w' w'.heap.size A l := fun hn => by
  obtain ⟨b, o, h1, h2, h3⟩ := h hn
  exact ⟨b, o, h1, Nat.lt_of_lt_of_le h2 ho.size, fun k x hk j v hj => (ho.cell (p := ⟨b, o + k * c + j, none⟩) h2 (hA b o h1)).trans (h3 k x hk j v hj)⟩
theorem find_neg (labs : List (List UInt8 × Nat)) (s : List UInt8) (h : lookP labs s = none) : findI labs s = -1 := by unfold findI; rw [h]
theorem find_pos (labs : List (List UInt8 × Nat)) (s : List UInt8) {c : Nat} (h : lookP labs s = some c) : findI labs s = (c : Int) := by unfold findI; rw [h]
end Go.Proofs.YtngahgfppbjebaaDoor

/-
  What Parse's two loops stand on.
  The contract of Parse.
-/
import Derived.Test.YtngahgfppbjebaaDoorGrpTxTake
import Derived.Test.YtngahgfppbjebaaDoorTxCut
namespace Go.Proofs.YtngahgfppbjebaaDoor
open Go.RowKit Go.Lib
set_option linter.unusedVariables false
set_option linter.unusedSimpArgs false

theorem fieldsP_err {line endc : Nat} {st : PS} : ∀ (ks : List UInt8) (ws : List Wd) (x : PIns) (js : List JP) (c er : Nat), fieldsP line endc st ks ws x js = .err c er → er = 12
  | [], [], x, js, c, er, h => by rw [fieldsP] at h; cases h
  | [], w :: ws, x, js, c, er, h => by rw [fieldsP] at h; injection h with _ h; exact h.symm
  | k :: ks, [], x, js, c, er, h => by rw [fieldsP] at h; injection h with _ h; exact h.symm
  | k :: ks, w :: ws, x, js, c, er, h => by
    rw [fieldsP] at h
    split at h
    · injection h with _ h; exact h.symm
    · split at h
      · injection h with _ h; exact h.symm
      · exact fieldsP_err ks ws _ _ c er h
theorem instrP_err {line endc : Nat} {st : PS} {ws : List Wd} {c er : Nat} (h : instrP line endc st ws = .err c er) : er = 12 ∨ er = 4 := by
  cases ws with
  | nil => simp only [instrP] at h; cases h
  | cons w r =>
    simp only [instrP] at h
    split at h
    · injection h with _ h; exact .inl h.symm
    · split at h
      · injection h with _ h; exact .inr h.symm
      · exact .inl (fieldsP_err _ _ _ _ _ _ h)
theorem lineP_err {line : Nat} {st : PS} {rs : List Rn} {c er : Nat} (h : lineP line st rs = .err c er) : er = 12 ∨ er = 4 := by
  unfold lineP at h
  split at h
  · cases h
  · split at h
    · split at h
      · injection h with _ h; exact .inl h.symm
      · exact instrP_err h
    · exact instrP_err h
theorem PMem.setLine {w : World} {base gp gm line : Nat} {vl vj : Value} {st : PS} (h : PMem w base gp gm vl vj st line) (l' : Nat) : PMem (w.setCell ⟨gp, 3, none⟩ (.int .i64 (l' : Int))) base gp gm vl vj st l' := by
  have hbl := h.rowl.lt
  have hbj := h.rowj.lt
  have hgp := h.gpb
  have hoS : Only (fun k => k = gp) w (w.setCell ⟨gp, 3, none⟩ (.int .i64 (l' : Int))) := Only.setCell (S := fun k => k = gp) (p := ⟨gp, 3, none⟩) (Only.refl _ _) (.inl rfl) _
  refine ⟨?_, row_only h.rowl hoS (fun k hk e => by have := (hbl k hk).1; omega), row_only h.rowj hoS (fun k hk e => by have := (hbj k hk).1; omega), h.lab.only hoS h.ne, h.gpb, h.gmb, h.ne, h.apart⟩
  have := h.cell.set_ 3 (.int .i64 (l' : Int))
  simpa using this
/-- Every jump's name is of a line's length. -/
def JSok (js : List JP) : Prop := ∀ j ∈ js, j.s.length ≤ 16000
theorem fieldsP_js {line endc : Nat} {st : PS} : ∀ (ks : List UInt8) (ws : List Wd) (x : PIns) (js : List JP) (st' : PS), fieldsP line endc st ks ws x js = .ok st' → JSok js → (∀ y ∈ ws, y.s.length ≤ 16000) → JSok st'.jumps
  | [], [], x, js, st', h, hj, hw => by
    rw [fieldsP] at h
    injection h with h
    subst h
    exact hj
  | [], w :: ws, x, js, st', h, hj, hw => by
    rw [fieldsP] at h
    cases h
  | k :: ks, [], x, js, st', h, hj, hw => by
    rw [fieldsP] at h
    cases h
  | k :: ks, w :: ws, x, js, st', h, hj, hw => by
    rw [fieldsP] at h
    split at h
    · cases h
    · split at h
      · cases h
      · rename_i x' hx
        refine fieldsP_js ks ws x' _ st' h ?_ (fun y hy => hw y (List.mem_cons_of_mem _ hy))
        intro j hjm
        split at hjm
        · rcases List.mem_append.1 hjm with h1 | h1
          · exact hj j h1
          · simp at h1
            subst h1
            exact hw w (List.mem_cons_self ..)
        · exact hj j hjm
theorem instrP_js {line endc : Nat} {st st' : PS} {ws : List Wd} (h : instrP line endc st ws = .ok st') (hs : JSok st.jumps) (hw : ∀ y ∈ ws, y.s.length ≤ 16000) : JSok st'.jumps := by
  cases ws with
  | nil =>
    simp only [instrP] at h
    injection h with h
    subst h
    exact hs
  | cons w r =>
    simp only [instrP] at h
    split at h
    · cases h
    · split at h
      · cases h
      · exact fieldsP_js _ _ _ _ _ h hs (fun y hy => hw y (List.mem_cons_of_mem _ hy))
theorem lineP_js {line : Nat} {st st' : PS} {rs : List Rn} (h : lineP line st rs = .ok st') (hs : JSok st.jumps) (hw : ∀ y ∈ wordsR rs, y.s.length ≤ 16000) : JSok st'.jumps := by
  unfold lineP at h
  split at h
  · injection h with h
    subst h
    exact hs
  · rename_i w ws hws
    rw [hws] at hw
    split at h
    · split at h
      · cases h
      · exact instrP_js (st := { st with labels := _ }) h hs (fun y hy => hw y (List.mem_cons_of_mem _ hy))
    · exact instrP_js h hs hw
def lenV : Value → Nat
  | .string b => b.size
  | _ => 0
/-- Between two lines. -/
structure PL (w wr : World) (s : List UInt8) (rem : List UInt8) (k : Nat) (st : PS) (vl vj : Value) : Prop where
  mem : PMem wr (w.heap.size + 1 + 1 + 1) (w.heap.size + 1 + 1) (w.heap.size + 1) vl vj st k
  ok : PSok st k
  eq : linesP 0 PS.start (linesR (runesL s)) = linesP k st (linesR (runesL rem))
  len : k + rem.length ≤ 4000
  only : Only Nob w wr
  res : Blk wr w.heap.size 55 #[.slice none 0 0]
  js : JSok st.jumps
section
variable {w wr : World} {s rem : List UInt8} {k : Nat} {st : PS} {vl vj : Value}
theorem PL.next {la lt : List UInt8} {W2 : World} {st' : PS} {vl' vj' : Value} (h : PL w wr s rem k st vl vj) (hne : rem ≠ []) (hnl : Nl rem la lt) (hl : lineP (k + 1) st (runesL la) = .ok st') (ho : Only (fun j => w.heap.size + 1 ≤ j) wr W2) (hm : PMem W2 (w.heap.size + 1 + 1 + 1) (w.heap.size + 1 + 1) (w.heap.size + 1) vl' vj' st' (k + 1)) : PL w W2 s lt (k + 1) st' vl' vj' := by
  refine ⟨hm, lineP_ok hl h.ok, ?_, ?_, Only.after h.only ho (fun i hi => .inr (by omega)), h.res.only ho (by omega), lineP_js hl h.js (fun x hx => ?_)⟩
  · rw [h.eq, lines_nl hne hnl, linesP, hl]
  · have := (hnl.len hne).2
    have := h.len
    omega
  · have h1 := wordsR_len _ x hx
    have h2 := runesL_len _ la (Nat.le_refl _)
    have h3 := (hnl.len hne).1
    have h4 := h.len
    omega
theorem PL.bad {la lt : List UInt8} {c er : Nat} (h : PL w wr s rem k st vl vj) (hne : rem ≠ []) (hnl : Nl rem la lt) (hl : lineP (k + 1) st (runesL la) = .err c er) (hs : s.length ≤ 4000) : parseP s = ([], k + 1, c, er) := by
  unfold parseP
  rw [if_neg (by omega), h.eq, lines_nl hne hnl, linesP, hl]
theorem PL.fin (h : PL w wr s [] k st vl vj) (hs : s.length ≤ 4000) : parseP s = match resolveP st.labels st.jumps st.l with
    | .err a b c => ([], a, b, c)
    | .ok l => (l, 0, 0, 0) := by
  unfold parseP
  rw [if_neg (by omega), h.eq, runesL_nil]
  rfl
end
theorem PL.start (w : World) (s : List UInt8) (hs : s.length ≤ 4000) : PL w (((w.alloc (.cells #[.slice none 0 0] 55)).alloc (.map #[] 0)).alloc (.cells #[.slice none 0 0, .map (some (w.heap.size + 1)), .slice none 0 0, .int .i64 0] 101)) s s 0 PS.start (.slice none 0 0) (.slice none 0 0) := by
  refine ⟨⟨?_, World.ownsRow_nil _ _ _ _, World.ownsRow_nil _ _ _ _, ?_, by omega, by omega, by omega, fun k h => by cases h⟩, PSok.start, rfl, by omega, (((Only.refl _ w).alloc _).alloc _).alloc _, ((Blk.new w _ _).alloc _).alloc _, fun j h => by cases h⟩
  · exact Blk.new' (by simp)
  · have h := LabAt.made (w.alloc (.cells #[.slice none 0 0] 55))
    rw [World.size_alloc] at h
    exact h.only (S := Nob) ((Only.refl _ _).alloc _) (fun h => h)
theorem ts_new {w wr W2 : World} (h : Only (TS (w.heap.size + 1 + 1 + 1) (w.heap.size + 1 + 1) (w.heap.size + 1)) wr W2) : Only (fun j => w.heap.size + 1 ≤ j) wr W2 := h.mono (by
  rintro j _ (e | e | e)
  · show w.heap.size + 1 ≤ j; omega
  · show w.heap.size + 1 ≤ j; omega
  · show w.heap.size + 1 ≤ j; omega)
theorem PMem.setLine' {w : World} {base gp gm line : Nat} {vl vj : Value} {st : PS} (h : PMem w base gp gm vl vj st line) : PMem (w.setCell ⟨gp, 3, none⟩ (.int .i64 ((line : Int) + 1))) base gp gm vl vj st (line + 1) := h.setLine (line + 1)
def ParsePost (w : World) (r : List PIns × Nat × Nat × Nat) (e : Ending) (w' : World) : Prop :=
  ∃ v, e = .returned (.tuple #[.agg #[v], .int .i64 (r.2.1 : Int), .int .i64 (r.2.2.1 : Int), .int .i64 (r.2.2.2 : Int)]) ∧ PRow w' w.heap.size v r.1 ∧ Only Nob w w'
theorem ParsePost.bad {w w' : World} {r : List PIns × Nat × Nat × Nat} {a b c : Nat} (h : r = ([], a, b, c)) (ho : Only Nob w w') : ParsePost w r (.returned (.tuple #[.agg #[.slice none 0 0], .int .i64 (a : Int), .int .i64 (b : Int), .int .i64 (c : Int)])) w' := by
  subst h
  exact ⟨_, rfl, World.ownsRow_nil _ _ _ _, ho⟩
theorem rowJ_at : ∀ (l : List JP) (k : Nat) (x : JP), l[k]? = some x → ∀ j, j < 4 → (rowJ l)[k * 4 + j]? = (jCells x)[j]?
  | [], k, x, h, j, hj => by simp at h
  | y :: r, 0, x, h, j, hj => by
    simp at h
    subst h
    show (jCells y ++ rowJ r)[0 * 4 + j]? = _
    rw [List.getElem?_append_left (by show _ < 4; omega)]
    simp
  | y :: r, k + 1, x, h, j, hj => by
    have := rowJ_at r k x (by simpa using h) j hj
    show (jCells y ++ rowJ r)[(k + 1) * 4 + j]? = _
    rw [List.getElem?_append_right (by show 4 ≤ _; omega), ← this]
    congr 1
    show (k + 1) * 4 + j - 4 = _
    omega
theorem progCells_setC : ∀ (l : List PIns) (k c : Nat), k < l.length → progCells (setC l k c) = (progCells l).set (k * 5 + 3) (.int .i64 (c : Int))
  | [], k, c, h => by simp at h
  | x :: r, 0, c, h => rfl
  | x :: r, k + 1, c, h => by
    have ih := progCells_setC r k c (by simpa using h)
    have e1 : setC (x :: r) (k + 1) c = x :: setC r k c := rfl
    rw [e1]
    show insCells x ++ progCells (setC r k c) = (insCells x ++ progCells r).set _ _
    rw [ih, List.set_append_right _ _ (by show 5 ≤ _; omega)]
    congr 2
    show k * 5 + 3 = (k + 1) * 5 + 3 - 5
    omega
theorem setC_len (l : List PIns) (k c : Nat) : (setC l k c).length = l.length := by simp [setC]
/-- Between two jumps. -/
structure PJ (w wr : World) (k : Nat) (st : PS) (vl vj : Value) (i : Nat) (l' : List PIns) : Prop where
  mem : PMem wr (w.heap.size + 1 + 1 + 1) (w.heap.size + 1 + 1) (w.heap.size + 1) vl vj { st with l := l' } k
  len : l'.length = st.l.length
  eq : resolveP st.labels st.jumps st.l = resolveP st.labels (st.jumps.drop i) l'
  only : Only Nob w wr
  res : Blk wr w.heap.size 55 #[.slice none 0 0]
  le : i ≤ st.jumps.length
theorem row_some {w : World} {base : Nat} {e : TypeId} {size n cap : Nat} {A : Option Addr} {xs : List Value} (h : w.ownsRow base e size (.slice A n cap) n xs) (hn : 0 < n) : ∃ g, A = some ⟨g, 0, none⟩ := by
  rcases h.2 with ⟨_, h2⟩ | ⟨g, cap', cur, hv, _⟩
  · omega
  · injection hv with hv
    exact ⟨g, hv⟩
theorem PJ.start {w wr : World} {s : List UInt8} {k : Nat} {st : PS} {vl vj : Value} (h : PL w wr s [] k st vl vj) : PJ w wr k st vl vj 0 st.l := ⟨h.mem, rfl, by rw [List.drop_zero], h.only, h.res, Nat.zero_le _⟩
section
variable {w wr : World} {k : Nat} {st : PS} {vl vj : Value} {i : Nat} {l' : List PIns}
theorem PJ.nob {W : World} (h : PJ w wr k st vl vj i l') (ho : Only Nob wr W) : PJ w W k st vl vj i l' := ⟨h.mem.nob ho, h.len, h.eq, h.only.trans ho, h.res.only ho (fun h => h), h.le⟩
/-- A jump's place was laid. -/
theorem PJ.next {j : JP} {c g m cap : Nat} (h : PJ w wr k st (.slice (some ⟨g, 0, none⟩) m cap) vj i l') (hi : i < st.jumps.length) (hj : st.jumps[i] = j) (hl : lookP st.labels j.s = some c) (hat : j.at_ < l'.length) (hm : l'.length = m) :
    PJ w (wr.setCell ⟨g, j.at_ * 5 + 3, none⟩ (.int .i64 (c : Int))) k st (.slice (some ⟨g, 0, none⟩) m cap) vj (i + 1) (setC l' j.at_ c) := by
  have hg := h.mem.rowl.lt g rfl
  have hoS : Only (fun q => q = g) wr (wr.setCell ⟨g, j.at_ * 5 + 3, none⟩ (.int .i64 (c : Int))) := Only.setCell (S := fun q => q = g) (p := ⟨g, j.at_ * 5 + 3, none⟩) (Only.refl _ _) (.inl rfl) _
  have hne := h.mem.ne
  have hap := h.mem.apart g rfl
  refine ⟨⟨h.mem.cell.only hoS (by omega), ?_, row_only h.mem.rowj hoS (fun q hq e => by subst e; exact hap hq), h.mem.lab.only hoS (by omega), h.mem.gpb, h.mem.gmb, h.mem.ne, h.mem.apart⟩, ?_, ?_, Only.after h.only hoS (fun q hq => .inr (by omega)), h.res.only hoS (by omega), hi⟩
  · have h9 : wr.ownsRow (w.heap.size + 1 + 1 + 1) 60 5 (.slice (some ⟨g, 0, none⟩) m cap) m (progCells l') := by
      have := h.mem.rowl
      unfold PRow at this
      rw [show ({ st with l := l' } : PS).l = l' from rfl, hm] at this
      exact this
    have h8 := (World.ownsRow.stored h9 (j.at_ * 5 + 3) (.int .i64 (c : Int))).1
    rw [← progCells_setC l' j.at_ c hat] at h8
    show (wr.setCell _ _).ownsRow _ _ 5 _ (setC l' j.at_ c).length (progCells (setC l' j.at_ c))
    rw [setC_len, hm]
    exact h8
  · show (setC l' j.at_ c).length = _
    rw [setC_len, h.len]
  · rw [h.eq, List.drop_eq_getElem_cons hi, hj, resolveP, hl]
theorem PJ.bad {j : JP} {s : List UInt8} (h : PJ w wr k st vl vj i l') (hi : i < st.jumps.length) (hj : st.jumps[i] = j) (hl : lookP st.labels j.s = none) (hp : parseP s = match resolveP st.labels st.jumps st.l with
    | .err a b c => ([], a, b, c)
    | .ok l => (l, 0, 0, 0)) : parseP s = ([], j.line, j.col, 12) := by
  rw [hp, h.eq, List.drop_eq_getElem_cons hi, hj, resolveP, hl]
theorem PJ.fin {s : List UInt8} (h : PJ w wr k st vl vj i l') (hi : ¬ i < st.jumps.length) (hp : parseP s = match resolveP st.labels st.jumps st.l with
    | .err a b c => ([], a, b, c)
    | .ok l => (l, 0, 0, 0)) : parseP s = (l', 0, 0, 0) := by
  rw [hp, h.eq, List.drop_eq_nil_of_le (by omega), resolveP]
theorem PRow.low {W : World} {a b : Nat} {v : Value} {l : List PIns} (h : PRow W b v l) (hab : a ≤ b) : PRow W a v l := by
  refine ⟨h.1, ?_⟩
  rcases h.2 with h | ⟨g, cap', cur, h1, h2, h3⟩
  · exact .inl h
  · exact .inr ⟨g, cap', cur, h1, Nat.le_trans hab h2, h3⟩
/-- The end, well. -/
theorem PJ.done {r : List PIns × Nat × Nat × Nat} {v : Value} (h : PJ w wr k st vl vj i l') (hr : r = (l', 0, 0, 0)) : ParsePost w r (.returned (.tuple #[.agg #[vl], .int .i64 0, .int .i64 0, .int .i64 0])) (wr.setCell ⟨w.heap.size, 0, none⟩ v) := by
  subst hr
  have hoS : Only (fun q => q = w.heap.size) wr (wr.setCell ⟨w.heap.size, 0, none⟩ v) := Only.setCell (S := fun q => q = w.heap.size) (p := ⟨w.heap.size, 0, none⟩) (Only.refl _ _) (.inl rfl) _
  refine ⟨vl, rfl, ?_, Only.after h.only hoS (fun q hq => .inr (by omega))⟩
  exact PRow.low (row_only h.mem.rowl hoS (fun q hq e => by have := (h.mem.rowl.lt q hq).1; omega)) (by omega)
/-- The jump at a place, in memory. -/
theorem PJ.jump {g n cap : Nat} (h : PJ w wr k st vl (.slice (some ⟨g, 0, none⟩) n cap) i l') (hn : st.jumps.length = n) (hi : i < n) : ∃ j, st.jumps[i]'(by omega) = j ∧ wr.cell? ⟨g, i * 4, none⟩ = some (.int .i64 (j.at_ : Int)) ∧ wr.cell? ⟨g, i * 4 + 1, none⟩ = some (.string ⟨j.s.toArray⟩) ∧ wr.cell? ⟨g, i * 4 + 2, none⟩ = some (.int .i64 (j.line : Int)) ∧ wr.cell? ⟨g, i * 4 + 3, none⟩ = some (.int .i64 (j.col : Int)) := by
  subst hn
  have hr : wr.ownsRow _ 107 4 (.slice (some ⟨g, 0, none⟩) st.jumps.length cap) st.jumps.length (rowJ st.jumps) := h.mem.rowj
  have hc : ∀ q, q < 4 → wr.cell? ⟨g, i * 4 + q, none⟩ = (jCells (st.jumps[i]'hi))[q]? := fun q hq => by
    rw [World.ownsRow.cellAt hr (i * 4 + q) (by omega), rowJ_at st.jumps i _ (List.getElem?_eq_getElem hi) q hq]
  exact ⟨_, rfl, hc 0 (by omega), hc 1 (by omega), hc 2 (by omega), hc 3 (by omega)⟩
end
end Go.Proofs.YtngahgfppbjebaaDoor
namespace Go.Proofs.YtngahgfppbjebaaDoor
open Go.RowKit Go.Lib
set_option linter.unusedVariables false
set_option linter.unusedSimpArgs false

set_option maxRecDepth 100000 in
set_option maxHeartbeats 8000000 in
theorem parse_any (s : ByteArray) (hs : s.size ≤ 100000) (w : World) (hU : Utf8Tabs 2 3 w) : Calls Tryd.prog 33 #[.string s] w (ParsePost w (parseP s.data.toList)) := by
  have hsl : s.data.toList.length = s.size := by simp
  have hmm := @run_makeMap Tryd.prog
  by_cases h4 : 4000 < s.size
  · have HP : Hid (parseP s.data.toList = ([], 1, 1, 4)) := hide (by unfold parseP; rw [if_pos (by omega)])
    clear hsl
    go_enter Tryd.func33, Tryd.ntmps33
    go_wp2
    have hk := Blk.new w 55 #[.slice none 0 0]
    have c0 := hk.cell 0
    simp at c0
    exact bodyPost_ret (by simp [results, Tryd.results33, go_sem, c0]; try rfl) rfl (ParsePost.bad HP.out ((Only.refl _ w).alloc _))
  · have HU := hide hU
    have HS : Hid (s.data.toList.length ≤ 4000) := hide (by omega)
    have hS4 : s.size ≤ 4000 := by omega
    clear hU hsl
    go_enter Tryd.func33, Tryd.ntmps33
    go_wp2
    go_loopw [0] (fun sv wr => ∃ (rem : ByteArray) (k : Nat) (st : PS) (vl vj : Value), sv = .string rem ∧ PL w wr s.data.toList rem.data.toList k st vl vj) (fun sv _ => lenV sv)
    case atStart => exact ⟨s, 0, PS.start, _, _, rfl, PL.start w s.data.toList HS.out⟩
    case round =>
      obtain ⟨rem, k, st, vl, vj, rfl, hP⟩ := hrel
      have HP := hide hP
      have hremz : rem.data.toList.length = rem.size := by simp
      have hlen := hP.len
      have g3 := hP.mem.cell.cell 3
      simp at g3
      have f3 := hP.mem.cell.frozen 3
      have hgl := hP.mem.cell.lt
      clear hP
      by_cases hz : rem.size = 0
      · have hs0 : rem = ⟨#[]⟩ := by
          cases rem with
          | mk a => have : a = #[] := Array.eq_empty_of_size_eq_zero hz; rw [this]
        subst hs0
        have HFIN := hide (HP.out.fin HS.out)
        have HOK := hide HP.out.ok
        have hPJ := PJ.start HP.out
        obtain ⟨n, hn⟩ : ∃ n, st.jumps.length = n := ⟨_, rfl⟩
        obtain ⟨m, hmm2⟩ : ∃ m, st.l.length = m := ⟨_, rfl⟩
        obtain ⟨Aj, capj, rfl⟩ := HP.out.mem.rowj.slice
        obtain ⟨Al, capl, rfl⟩ := HP.out.mem.rowl.asSlice
        rw [hn, hmm2] at hPJ
        have HPJ := hide hPJ
        have g2 := hPJ.mem.cell.cell 2
        simp at g2
        have HN := hide hn
        have HMM := hide hmm2
        have hn200 : n ≤ 200 := by have h1 := HOK.out.jumps; have h2 := HOK.out.few; omega
        clear hz hremz hPJ hn hmm2 g3 f3
        go_wp2_with fail
        go_loopw [59] (fun iv wq => ∃ (i : Nat) (l' : List PIns), iv = .int .i64 (i : Int) ∧ PJ w wq k st (.slice Al m capl) (.slice Aj n capj) i l') (fun iv _ => n - (RowKit.intOf iv).toNat)
        case atStart => exact ⟨0, st.l, rfl, HPJ.out⟩
        case round =>
          obtain ⟨i, l', rfl, hJ⟩ := hrel
          have HJ := hide hJ
          have hcell := hJ.mem.cell
          have c0 := hcell.cell 0
          have c1 := hcell.cell 1
          have c2 := hcell.cell 2
          simp at c0 c1 c2
          have hgq := hcell.lt
          have hile : i ≤ n := by have := hJ.le; rw [HN.out] at this; exact this
          clear hcell
          by_cases hi : i < n
          · have hiI : (i : Int) < (n : Int) := by omega
            have hrj := hJ.mem.rowj
            unfold JRow at hrj
            rw [show ({ st with l := l' } : PS).jumps = st.jumps from rfl, HN.out] at hrj
            obtain ⟨gj, rfl⟩ := row_some hrj (by omega)
            obtain ⟨j, hj, p0, p1, p2, p3⟩ := hJ.jump HN.out hi
            have hgj := (hrj.lt gj rfl).2
            have hLab := hJ.mem.lab
            have r5 := hJ.res.cell 0
            have r7 := hJ.res.lt
            have r6 := hJ.res.frozen 0
            simp at r5
            clear hrj hJ
            have hjs : j.s.length ≤ 16000 := HP.out.js j (by rw [← hj]; exact List.getElem_mem _)
            have hat : j.at_ < m := by
              have := HOK.out.at_ j (by rw [← hj]; exact List.getElem_mem _)
              rw [HMM.out] at this
              exact this
            have hsz : (⟨j.s.toArray⟩ : ByteArray).size ≤ maxLen := by
              show j.s.toArray.size ≤ _
              rw [List.size_toArray]
              unfold maxLen
              omega
            have HO1 := hide ((Only.refl Nob wr).alloc (.cells #[.int .i64 (j.at_ : Int), .string ⟨j.s.toArray⟩, .int .i64 (j.line : Int), .int .i64 (j.col : Int)] 107))
            have HJ1 := hide (HJ.out.nob HO1.out)
            obtain ⟨cl, hlk, hcl⟩ := (LabAt.drew HJ1.out.mem.lab).look ⟨j.s.toArray⟩ hsz
            have HCL := hide hcl
            have HJJ := hide hj
            clear hLab hjs hcl hj
            cases hlp : lookP st.labels j.s with
            | none =>
              have hlk2 : (lookP st.labels (⟨j.s.toArray⟩ : ByteArray).data.toList).isSome = false := by
                show (lookP st.labels j.s).isSome = false
                rw [hlp]; rfl
              have HLP := hide hlp
              rw [hlk2] at hlk
              clear hlk2 hlp
              go_upto_region 14 with fail
              go_region
              all_goals (go_upto_region 16 with fail)
              all_goals go_region
              all_goals (go_wp2_with fail)
              all_goals
                refine bodyPost_ret (by simp [results, Tryd.results33, go_sem, r5, r7]; try rfl) rfl (ParsePost.bad (HJ.out.bad (by rw [HN.out]; exact hi) HJJ.out HLP.out HFIN.out) ?_)
                repeat' (first | (with_reducible exact HJ.out.only) | (with_reducible refine Only.drew ?_) | (with_reducible refine Only.alloc ?_ _) | (refine Only.setCell (S := Nob) ?_ (.inr (Nat.le_refl _)) _))
            | some c =>
              have hlk2 : (lookP st.labels (⟨j.s.toArray⟩ : ByteArray).data.toList).isSome = true := by
                show (lookP st.labels j.s).isSome = true
                rw [hlp]; rfl
              have hcc : cl = (c : Int) := HCL.out c hlp
              subst hcc
              have HLP := hide hlp
              rw [hlk2] at hlk
              clear hlk2 hlp
              have hl' : l'.length = m := HJ.out.len.trans HMM.out
              have hrl := HJ.out.mem.rowl
              unfold PRow at hrl
              rw [show ({ st with l := l' } : PS).l = l' from rfl, hl'] at hrl
              obtain ⟨gl, rfl⟩ := row_some hrl (by omega)
              have hgl2 := (hrl.lt gl rfl).2
              obtain ⟨v3, q3⟩ : ∃ v3, wr.cell? ⟨gl, j.at_ * 5 + 3, none⟩ = some v3 := ⟨_, (World.ownsRow.cellAt hrl (j.at_ * 5 + 3) (by omega)).trans (List.getElem?_eq_getElem (by rw [progCells_len]; omega))⟩
              have f3 := World.ownsRow.frozenAt hrl (j.at_ * 5 + 3)
              have hatI : (j.at_ : Int) < (m : Int) := by omega
              have HNX := hide (HJ.out.next (by rw [HN.out]; exact hi) HJJ.out HLP.out (by omega) hl')
              clear hrl
              go_upto_region 14 with fail
              go_region
              all_goals (go_upto_region 17 with fail)
              all_goals go_region
              all_goals (go_wp2_with fail)
              all_goals go_roundw
              case rel => exact ⟨i + 1, _, by simp, HNX.out.nob ((((Only.refl Nob _).alloc _).drew).drew)⟩
              case measure =>
                show n - ((i : Int) + 1).toNat < n - ((i : Int)).toNat
                omega
          · have hiI : ¬ (i : Int) < (n : Int) := by omega
            have HPF : Hid (parseP s.data.toList = (l', 0, 0, 0)) := hide (hJ.fin (by rw [HN.out]; exact hi) HFIN.out)
            have r5 := hJ.res.cell 0
            have r7 := hJ.res.lt
            have r6 := hJ.res.frozen 0
            simp at r5
            clear hJ
            go_wp2_with fail
            refine bodyPost_ret (by simp [results, Tryd.results33, go_sem, r5, r7, c0]; try rfl) rfl (PJ.done HJ.out HPF.out)
      · have hne : rem.data.toList ≠ [] := by
          intro e
          rw [e] at hremz
          exact hz hremz.symm
        have hne2 : rem.toList.isEmpty = false := by
          rw [ByteArray.toList_eq]
          cases h : rem.data.toList with
          | nil => exact absurd h hne
          | cons => rfl
        have HNE := hide hne
        have hr4 : rem.size ≤ 4000 := by omega
        have HC := hide (fun W => cut_nl rem (by omega) W)
        have HREM := hide hremz
        clear hremz hne hz
        go_upto_region 7 with (go_at_call 51; refine (HC.out _).mono ?_; rintro e w2 ⟨la, lt, f, rfl, hnl, ho2⟩; have HNL := hide hnl; have HO2 := hide ho2; have g9 := (ho2.cell (p := ⟨w.heap.size + 1 + 1, 3, none⟩) hgl (fun h => h)).trans g3; have f9 := (ho2.frozen (p := ⟨w.heap.size + 1 + 1, 3, none⟩) hgl (fun h => h)).trans f3; clear hnl ho2)
        have hlt := HNL.out.len HNE.out
        have hk4 : k ≤ 4000 := by omega
        have hla : la.size ≤ 4000 := by
          have h1 := hlt.1
          have h2 : la.data.toList.length = la.size := by simp
          have h3 := HREM.out
          omega
        have HMS : Hid (lt.size < rem.size) := hide (by
          have h1 := hlt.2
          have h2 : lt.data.toList.length = lt.size := by simp
          have h3 := HREM.out
          omega)
        have HOKS := hide HP.out.ok
        have HM2 := hide ((HP.out.mem.nob HO2.out).setLine')
        have HO3 : Hid (Only Nob w (w2.setCell ⟨w.heap.size + 1 + 1, 3, none⟩ (.int .i64 ((k : Int) + 1)))) := hide (Only.setCell (S := Nob) (HP.out.only.trans HO2.out) (.inr (by show w.heap.size ≤ w.heap.size + 1 + 1; omega)) _)
        have HO4 : Hid (Only (fun j => w.heap.size + 1 ≤ j) wr (w2.setCell ⟨w.heap.size + 1 + 1, 3, none⟩ (.int .i64 ((k : Int) + 1)))) := hide (Only.setCell (S := fun j => w.heap.size + 1 ≤ j) (HO2.out.mono (fun _ _ h => h.elim)) (.inl (by show w.heap.size + 1 ≤ w.heap.size + 1 + 1; omega)) _)
        have hbs : w.heap.size + 1 + 1 + 1 ≤ (w2.setCell ⟨w.heap.size + 1 + 1, 3, none⟩ (.int .i64 ((k : Int) + 1))).heap.size := HM2.out.cell.lt
        have HT := hide (take_any (w2.setCell ⟨w.heap.size + 1 + 1, 3, none⟩ (.int .i64 ((k : Int) + 1))) (w.heap.size + 1 + 1 + 1) (w.heap.size + 1 + 1) (w.heap.size + 1) vl vj st (k + 1) la hla HM2.out hbs (Utf8Tabs_only HU.out HO3.out) (by have := HOKS.out.few; omega) (by have := HOKS.out.jumps; have := HOKS.out.few; omega) (by have := HOKS.out.labels; omega))
        unfold TakePost at HT
        clear hlt hbs hla
        cases hl : lineP (k + 1) st (runesL la.data.toList) with
        | ok st' =>
          rw [hl] at HT
          have HLN := hide hl
          clear hl
          go_wp2_with (go_at_call 52; refine (HT.out).mono ?_; rintro e w3 ⟨ho3, rfl, vl', vj', hm3⟩; have HO5 := hide ho3; have HM3 := hide hm3; clear ho3 hm3)
          go_roundw
          case rel => exact ⟨lt, k + 1, st', vl', vj', rfl, HP.out.next HNE.out HNL.out HLN.out (HO4.out.trans (ts_new HO5.out)) HM3.out⟩
          case measure => exact HMS.out
        | err c er =>
          rw [hl] at HT
          have HLN := hide hl
          have her := lineP_err hl
          have her0 : ((er : Int) == 0) = false := by simp; omega
          have her1 : ((er : Int) != 0) = true := by simp; omega
          have HPB : Hid (parseP s.data.toList = ([], k + 1, c, er)) := hide (HP.out.bad HNE.out HNL.out hl HS.out)
          clear hl her
          go_wp2_with (go_at_call 52; refine (HT.out).mono ?_; rintro e w3 ⟨ho3, rfl, vl', vj', st', hm3⟩; have HO5 := hide ho3; have g5 := hm3.cell.cell 3; simp at g5; have HR3 := hide (HP.out.res.only (HO4.out.trans (ts_new ho3)) (by show ¬ (w.heap.size + 1 ≤ w.heap.size); omega)); have r5 := HR3.out.cell 0; have r6 := HR3.out.frozen 0; have r7 := HR3.out.lt; simp at r5; clear ho3 hm3)
          have HO6 : Hid (Only Nob w w3) := hide (Only.after HP.out.only (HO4.out.trans (ts_new HO5.out)) (fun i hi => .inr (by omega)))
          go_region
          all_goals
            go_wp2_with fail
            refine bodyPost_ret (by simp [results, Tryd.results33, go_sem, r5, r7]; try rfl) rfl (ParsePost.bad HPB.out ?_)
            repeat' (first | (with_reducible exact HO6.out) | (with_reducible refine Only.drew ?_) | (refine Only.setCell (S := Nob) ?_ (.inr (Nat.le_refl _)) _))
end Go.Proofs.YtngahgfppbjebaaDoor

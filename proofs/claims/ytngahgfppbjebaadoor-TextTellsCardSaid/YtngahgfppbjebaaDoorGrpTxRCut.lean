/-
  The contract of the reference's runes: which of a text's runes are wrong bytes.
  What the reference's cut stands on.
  The contract of the reference's cut: a line's words.
-/
import Derived.Test.YtngahgfppbjebaaDoorGrpTxRRow
import Derived.Test.YtngahgfppbjebaaDoorGrpTxTake
import Derived.Laws.Cover4
import Derived.Deep.Cut
import Derived.Deep.CutRange
import Derived.Deep.CutBlock
namespace Go.Proofs.YtngahgfppbjebaaDoor
open Go.RowKit Go.Lib
set_option linter.unusedVariables false
set_option linter.unusedSimpArgs false

def runeC (x : Rn) : List Value := [runeV x]
def badC (x : Rn) : List Value := [badV x]
theorem infoBool1 : (Tryd.prog.info? 4).map (fun i => (i.zero, i.size, i.bytes)) = some (some (.bool false), 1, 1) := by kernel_rfl
/-- Between two runes. -/
structure RU (w wr : World) (s : ByteArray) (k j : Nat) (v : Value) : Prop where
  iter : wr.heap[w.heap.size]? = some (.stringIter s k)
  le : k ≤ s.size
  few : j ≤ k
  row : wr.ownsRow (w.heap.size + 1) 4 1 v j (cellsG badC ((runesL s.data.toList).take j))
  rest : (runesL s.data.toList).drop j = runesL (s.data.toList.drop k)
  len : j ≤ (runesL s.data.toList).length
  only : Only Nob w wr
theorem RU.start (w : World) (s : ByteArray) : RU w (w.iter s 0) s 0 0 (.slice none 0 0) :=
  ⟨World.iter_heap _ _ _, Nat.zero_le _, Nat.le_refl _, World.ownsRow_nil _ _ _ _, by simp, Nat.zero_le _, (Only.refl _ w).alloc _⟩
theorem RU.next {w wr w2 : World} {s : ByteArray} {k j : Nat} {v v' : Value} (h : RU w wr s k j v) (hk : k < s.size) (b : Bool) (hb : b = (rnAt s k).2)
    (hr : w2.ownsRow (w.heap.size + 1) 4 1 v' (j + 1) (cellsG badC ((runesL s.data.toList).take j) ++ [.bool b])) (ho : Only (fun i => w.heap.size + 1 ≤ i) (wr.iterAt w.heap.size s (k + (Utf8.decode s k).2)) w2) : RU w w2 s (k + (Utf8.decode s k).2) (j + 1) v' := by
  obtain ⟨h1, h2, h3, _⟩ := runes_at s k hk
  have hrest := h.rest
  rw [h1] at hrest
  have hjl : j < (runesL s.data.toList).length := by
    rcases Nat.lt_or_ge j (runesL s.data.toList).length with hlt | hge
    · exact hlt
    · rw [List.drop_eq_nil_of_le hge] at hrest
      cases hrest
  rw [List.drop_eq_getElem_cons hjl] at hrest
  injection hrest with hr1 hr2
  have hon := only_iter1 wr w.heap.size s (k + (Utf8.decode s k).2)
  have hgl : w.heap.size < wr.heap.size := (Array.getElem?_eq_some_iff.1 h.iter).1
  have hit := iterAt_heap wr w.heap.size s k (k + (Utf8.decode s k).2) h.iter
  have hgl2 : w.heap.size < (wr.iterAt w.heap.size s (k + (Utf8.decode s k).2)).heap.size := (Array.getElem?_eq_some_iff.1 hit).1
  refine ⟨(ho.block _ hgl2 (by omega)).trans hit, h3, by have := h.few; omega, ?_, hr2, hjl, ?_⟩
  · rw [List.take_succ_eq_append_getElem hjl, cellsG_snoc, hr1]
    subst hb
    exact hr
  · exact Only.after (Only.after h.only hon (fun i (hi : i = w.heap.size) => .inr (by omega))) ho (fun i hi => .inr (by omega))
theorem RU.pos {w wr : World} {s : ByteArray} {k j : Nat} {v : Value} (h : RU w wr s k j v) : wr.iterPos w.heap.size = k := by
  unfold World.iterPos
  rw [h.iter]
theorem ext_three (s : ByteArray) (k : Nat) (h : k + 3 ≤ s.size) : (s.data.toList.drop k).take 3 = [239, 191, 189] ↔ s.extract k (k + 3) = ⟨#[239, 191, 189]⟩ := by
  have e : (s.extract k (k + 3)).data.toList = (s.data.toList.drop k).take 3 := by
    rw [ByteArray.data_extract, Array.toList_extract]
    simp [List.extract]
  constructor
  · intro h1
    rw [← e] at h1
    apply ByteArray.ext
    apply Array.ext'
    exact h1
  · intro h1
    rw [← e, h1]
set_option maxHeartbeats 2000000 in
set_option maxRecDepth 100000 in
theorem runes_any (s : ByteArray) (hs : s.size ≤ 1000000) (w : World) : Calls Tryd.prog 88 #[.string s] w fun e w' => ∃ A cap, e = .returned (.slice A (runesL s.data.toList).length cap) ∧ SlIn badC 1 w' w'.heap.size A (runesL s.data.toList) ∧ Only Nob w w' := by
  go_enter Tryd.func88, Tryd.ntmps88
  go_wp2
  go_loopw [3] (fun v wr => ∃ (k j cap : Nat) (A : Option Addr), v = .slice A j cap ∧ RU w wr s k j (.slice A j cap)) (fun _ wr => s.size - wr.iterPos w.heap.size)
  case atStart => exact ⟨0, 0, 0, none, rfl, RU.start w s⟩
  case round =>
    obtain ⟨k, j, cap, A, rfl, hU⟩ := hrel
    have HU := hide hU
    have hit := hU.iter
    have hpos : wr.iterPos w.heap.size = k := by unfold World.iterPos; rw [hit]
    have hjk := hU.few
    have hle := hU.le
    clear hU
    by_cases hk : k < s.size
    · have hnx := fun ty => run_next_any_at (P := Tryd.prog) wr w.heap.size s k ty hit hk
      obtain ⟨_, hw1, hw2, hr⟩ := runes_at s k hk
      have HBR := hide (bad_rune s k hk)
      have HNX := hide (fun (w2 : World) (v' : Value) (b : Bool) (hb : b = (rnAt s k).2) h1 h2 => HU.out.next (w2 := w2) (v' := v') hk b hb h1 h2)
      have HK := hide hk
      unfold rnAt at HBR HNX
      have hx3 := ext_three s k
      generalize hdc : Utf8.decode s k = dc at *
      obtain ⟨r, wd⟩ := dc
      simp only at hr hw1 hw2 HBR HNX
      have HRI : Hid ((wr.iterAt w.heap.size s (k + wd)).ownsRow (w.heap.size + 1) 4 1 (.slice A j cap) j (cellsG badC ((runesL s.data.toList).take j))) := hide (row_only HU.out.row (only_iter1 wr w.heap.size s (k + wd)) (fun g hg e => by
        have h1 := (HU.out.row.lt g hg).1
        have e2 : g = w.heap.size := e
        omega))
      have HSZ : Hid (w.heap.size + 1 ≤ (wr.iterAt w.heap.size s (k + wd)).heap.size) := hide (by
        have hgl : w.heap.size < wr.heap.size := (Array.getElem?_eq_some_iff.1 hit).1
        rw [iterAt_size]
        omega)
      have HJ9 : Hid (j ≤ 1000000000) := hide (by omega)
      have HR := hide hr
      clear hdc
      by_cases h3 : r = 65533
      · have b1 : ((r : Int) == 65533) = true := by rw [h3]; rfl
        by_cases h4 : k + 3 ≤ s.size
        · have h4I : (k : Int) + 3 ≤ (s.size : Int) := by omega
          have h5I : (k : Int) ≤ (k : Int) + 3 := by omega
          cases h6 : ((s.extract k (k + 3)).toList == [239, 191, 189]) with
          | true =>
            have HB : Hid (false = (decide (r = 65533) && decide (wd = 1))) := hide (by
              rw [HBR.out, decide_eq_true h3, decide_eq_true h4]
              have h7 : s.extract k (k + 3) = ⟨#[239, 191, 189]⟩ := by
                rw [beq_iff_eq, ByteArray.toList_eq] at h6
                apply ByteArray.ext
                apply Array.ext'
                exact h6
              rw [decide_eq_true ((hx3 h4).2 h7)]
              rfl)
            have HON1 : Hid (∀ u ∈ (#[Value.bool false] : Array Value).toList, u.oneCell' = true) := hide (by simp [Value.oneCell'])
            clear hx3 h3
            go_wp2_with (first
              | (at_builtin; refine wpList_push (w := wr.iterAt w.heap.size s (k + wd)) (base := w.heap.size + 1) (n := j) (cap := cap) (A := A) (xs := cellsG badC ((runesL s.data.toList).take j)) rfl _ _ rfl Tryd.underlying129 infoBool1 rfl (by decide) (by decide) HRI.out HSZ.out #[.bool false] rfl HON1.out HJ9.out rfl rfl ?_; intro A6 c6 w2 hown hon2; have HOW := hide hown; have HO2 := hide hon2; clear hown hon2))
            have HN := HNX.out w2 _ false HB.out HOW.out HO2.out
            refine ⟨⟨k + wd, j + 1, c6, A6, rfl, HN⟩, ?_⟩
            rw [HN.pos, hpos]
            omega
          | false =>
            have HB : Hid (true = (decide (r = 65533) && decide (wd = 1))) := hide (by
              rw [HBR.out, decide_eq_true h3, decide_eq_true h4]
              have h7 : ¬ s.extract k (k + 3) = ⟨#[239, 191, 189]⟩ := by
                intro e
                rw [e, ByteArray.toList_eq] at h6
                simp at h6
              rw [decide_eq_false (fun h => h7 ((hx3 h4).1 h))]
              rfl)
            have HON1 : Hid (∀ u ∈ (#[Value.bool true] : Array Value).toList, u.oneCell' = true) := hide (by simp [Value.oneCell'])
            clear hx3 h3
            go_wp2_with (first
              | (at_builtin; refine wpList_push (w := wr.iterAt w.heap.size s (k + wd)) (base := w.heap.size + 1) (n := j) (cap := cap) (A := A) (xs := cellsG badC ((runesL s.data.toList).take j)) rfl _ _ rfl Tryd.underlying129 infoBool1 rfl (by decide) (by decide) HRI.out HSZ.out #[.bool true] rfl HON1.out HJ9.out rfl rfl ?_; intro A6 c6 w2 hown hon2; have HOW := hide hown; have HO2 := hide hon2; clear hown hon2))
            have HN := HNX.out w2 _ true HB.out HOW.out HO2.out
            refine ⟨⟨k + wd, j + 1, c6, A6, rfl, HN⟩, ?_⟩
            rw [HN.pos, hpos]
            omega
        · have h4I : ¬ (k : Int) + 3 ≤ (s.size : Int) := by omega
          have HB : Hid (true = (decide (r = 65533) && decide (wd = 1))) := hide (by
            rw [HBR.out, decide_eq_true h3, decide_eq_false h4]
            rfl)
          have HON1 : Hid (∀ u ∈ (#[Value.bool true] : Array Value).toList, u.oneCell' = true) := hide (by simp [Value.oneCell'])
          clear hx3 h3
          go_wp2_with (first
            | (at_builtin; refine wpList_push (w := wr.iterAt w.heap.size s (k + wd)) (base := w.heap.size + 1) (n := j) (cap := cap) (A := A) (xs := cellsG badC ((runesL s.data.toList).take j)) rfl _ _ rfl Tryd.underlying129 infoBool1 rfl (by decide) (by decide) HRI.out HSZ.out #[.bool true] rfl HON1.out HJ9.out rfl rfl ?_; intro A6 c6 w2 hown hon2; have HOW := hide hown; have HO2 := hide hon2; clear hown hon2))
          have HN := HNX.out w2 _ true HB.out HOW.out HO2.out
          refine ⟨⟨k + wd, j + 1, c6, A6, rfl, HN⟩, ?_⟩
          rw [HN.pos, hpos]
          omega
      · have b1 : ((r : Int) == 65533) = false := by rw [beq_eq_false_iff_ne]; omega
        have HB : Hid (false = (decide (r = 65533) && decide (wd = 1))) := hide (by rw [decide_eq_false h3]; rfl)
        have HON1 : Hid (∀ u ∈ (#[Value.bool false] : Array Value).toList, u.oneCell' = true) := hide (by simp [Value.oneCell'])
        clear hx3 h3
        go_wp2_with (first
          | (at_builtin; refine wpList_push (w := wr.iterAt w.heap.size s (k + wd)) (base := w.heap.size + 1) (n := j) (cap := cap) (A := A) (xs := cellsG badC ((runesL s.data.toList).take j)) rfl _ _ rfl Tryd.underlying129 infoBool1 rfl (by decide) (by decide) HRI.out HSZ.out #[.bool false] rfl HON1.out HJ9.out rfl rfl ?_; intro A6 c6 w2 hown hon2; have HOW := hide hown; have HO2 := hide hon2; clear hown hon2))
        have HN := HNX.out w2 _ false HB.out HOW.out HO2.out
        refine ⟨⟨k + wd, j + 1, c6, A6, rfl, HN⟩, ?_⟩
        rw [HN.pos, hpos]
        omega
    · have hnx := fun ty => run_next_end_at (P := Tryd.prog) wr w.heap.size s k ty hit hk
      have HE : Hid (j = (runesL s.data.toList).length) := hide (by
        have h1 := HU.out.rest
        rw [runes_end s k hk] at h1
        have h2 := congrArg List.length h1
        have h3 := HU.out.len
        rw [List.length_drop] at h2
        simp at h2
        omega)
      have HT : Hid ((runesL s.data.toList).take j = runesL s.data.toList) := hide (by rw [HE.out, List.take_length])
      go_wp2_with fail
      go_ret
      have r1 : wr.ownsRow (w.heap.size + 1) 4 1 (.slice A j cap) j (cellsG badC (runesL s.data.toList)) := by
        have h1 := HU.out.row
        rw [HT.out] at h1
        exact h1
      have r2 := SlIn.of_own (f := badC) (fun _ => rfl) r1 HE.out
      exact ⟨A, cap, by rw [← HE.out]; rfl, r2, HU.out.only⟩
end Go.Proofs.YtngahgfppbjebaaDoor
namespace Go.Proofs.YtngahgfppbjebaaDoor
open Go.RowKit Go.Lib
set_option linter.unusedVariables false
set_option linter.unusedSimpArgs false

/-- A word's cells. -/
def wordC (line : Int) (x : Wd) : List Value := [.string ⟨x.s.toArray⟩, .int .i64 line, .int .i64 (x.col : Int), .bool x.bad]
theorem infoRWord : (Tryd.prog.info? 160).map (fun i => (i.zero, i.size, i.bytes)) = some (some (.agg #[.string ⟨#[]⟩, .int .i64 0, .int .i64 0, .bool false]), 4, 40) := by kernel_rfl
theorem wordC_one (line : Int) (x : Wd) : ∀ u ∈ wordC line x, u.oneCell' = true := by
  intro u hu
  simp [wordC] at hu
  rcases hu with rfl | rfl | rfl | rfl <;> rfl
def CutPost (w : World) (rs : List Rn) (line : Int) (e : Ending) (w' : World) : Prop :=
  ∃ A n cap, e = .returned (.tuple #[.slice A n cap, .int .i64 (endR rs : Int)]) ∧ n = (wordsR rs).length ∧ n ≤ cap ∧ SlIn (wordC line) 4 w' w'.heap.size A (wordsR rs) ∧ Only Nob w w' ∧ ∀ b o, A = some ⟨b, o, none⟩ → w.heap.size ≤ b
theorem body_pre (rs : List Rn) : ∃ t, rs = bodyR rs ++ t := ⟨rs.dropWhile _, (List.takeWhile_append_dropWhile).symm⟩
theorem body_at {rs : List Rn} {k : Nat} (hk : k < (bodyR rs).length) : rs[k]? = some (bodyR rs)[k] := by
  obtain ⟨t, ht⟩ := body_pre rs
  conv => lhs; rw [ht]
  rw [List.getElem?_append_left hk, List.getElem?_eq_getElem hk]
theorem body_le (rs : List Rn) : (bodyR rs).length ≤ rs.length := by
  obtain ⟨t, ht⟩ := body_pre rs
  have := congrArg List.length ht
  rw [List.length_append] at this
  omega
theorem body_step {rs : List Rn} {k : Nat} {x : Rn} (hx : rs[k]? = some x) (h : (bodyR rs).length = k + (bodyR (rs.drop k)).length) : if x.1 = 59 then (bodyR rs).length = k else (bodyR rs).length = (k + 1) + (bodyR (rs.drop (k + 1))).length := by
  obtain ⟨hk, rfl⟩ := List.getElem?_eq_some_iff.1 hx
  rw [List.drop_eq_getElem_cons hk] at h
  split
  · rename_i h2
    rw [body_semi _ _ h2] at h
    simpa using h
  · rename_i h2
    rw [body_go _ _ h2, List.length_cons] at h
    omega
/-- Between two words. -/
structure CU (w wr : World) (rs : List Rn) (line : Int) (k n : Nat) (v : Value) (ws : List Wd) : Prop where
  row : wr.ownsRow w.heap.size 160 4 v n (cellsG (wordC line) ws)
  len : ws.length = n
  le : k ≤ (bodyR rs).length + 1
  few : n ≤ k
  eq : wordsR rs = ws ++ wordsG none (k + 1) ((bodyR rs).drop k)
  only : Only Nob w wr
theorem CU.start (w : World) (rs : List Rn) (line : Int) : CU w w rs line 0 0 (.slice none 0 0) [] := ⟨World.ownsRow_nil _ _ _ _, rfl, Nat.zero_le _, Nat.le_refl _, by rw [List.drop_zero]; rfl, Only.refl _ _⟩
theorem CU.blank {w wr : World} {rs : List Rn} {line : Int} {k n : Nat} {v : Value} {ws : List Wd} {x : Rn} (h : CU w wr rs line k n v ws) (hk : k < (bodyR rs).length) (hx : rs[k]? = some x) (hb : blankR x = true) : CU w wr rs line (k + 1) n v ws := by
  have h1 := body_at hk
  rw [hx] at h1
  injection h1 with h1
  refine ⟨h.row, h.len, by omega, by have := h.few; omega, ?_, h.only⟩
  rw [h.eq, List.drop_eq_getElem_cons hk, ← h1, words_skip x _ _ hb]
/-- Within a word: from k up to q. -/
structure CW (w wr w2 : World) (rs : List Rn) (line : Int) (k q : Nat) (bd : Bool) : Prop where
  blk : Blk w2 wr.heap.size 160 #[.string ⟨#[]⟩, .int .i64 line, .int .i64 ((k : Int) + 1), .bool bd]
  only : Only Nob wr w2
  lo : k ≤ q
  hi : q ≤ (bodyR rs).length
  all : ∀ y ∈ ((bodyR rs).drop k).take (q - k), blankR y = false
  any : bd = (((bodyR rs).drop k).take (q - k)).any (·.2)
theorem CW.start (w wr : World) (rs : List Rn) (line : Int) (k : Nat) (hk : k < (bodyR rs).length) : CW w wr (wr.alloc (.cells #[.string ⟨#[]⟩, .int .i64 line, .int .i64 ((k : Int) + 1), .bool false] 160)) rs line k k false :=
  ⟨Blk.new _ _ _, (Only.refl _ wr).alloc _, Nat.le_refl _, by omega, by simp, by simp⟩
theorem seg_next {l : List Rn} {k q : Nat} {x : Rn} (hkq : k ≤ q) (hx : l[q]? = some x) : (l.drop k).take (q + 1 - k) = (l.drop k).take (q - k) ++ [x] := by
  have e : q + 1 - k = (q - k) + 1 := by omega
  have h1 : (l.drop k)[q - k]? = some x := by rw [List.getElem?_drop, show k + (q - k) = q by omega, hx]
  obtain ⟨h2, h3⟩ := List.getElem?_eq_some_iff.1 h1
  rw [e, List.take_succ_eq_append_getElem h2, h3]
theorem CW.next {w wr w2 : World} {rs : List Rn} {line : Int} {k q : Nat} {bd : Bool} {x : Rn} (h : CW w wr w2 rs line k q bd) (hq : q < (bodyR rs).length) (hx : rs[q]? = some x) (hb : blankR x = false) : CW w wr (w2.setCell ⟨wr.heap.size, 3, none⟩ (.bool (bd || x.2))) rs line k (q + 1) (bd || x.2) := by
  have h1 := body_at hq
  rw [hx] at h1
  injection h1 with h1
  have hxb : (bodyR rs)[q]? = some x := by rw [List.getElem?_eq_getElem hq, h1]
  have hs := seg_next h.lo hxb
  refine ⟨?_, h.only.setCell (.inr (Nat.le_refl _)) _, by have := h.lo; omega, hq, ?_, ?_⟩
  · have := h.blk.set_ 3 (.bool (bd || x.2))
    exact this
  · rw [hs]
    intro y hy
    rcases List.mem_append.1 hy with hy | hy
    · exact h.all y hy
    · simp at hy
      subst hy
      exact hb
  · rw [hs, List.any_append, ← h.any]
    simp
/-- A word is over. -/
theorem CU.word {w wr w2 w3 : World} {rs : List Rn} {line : Int} {k q n : Nat} {v v' : Value} {ws : List Wd} {bd : Bool} {sb : ByteArray} (h : CU w wr rs line k n v ws) (hw : CW w wr w2 rs line k q bd) (hkq : k < q) (hend : ∀ y, rs[q]? = some y → q < (bodyR rs).length → blankR y = true)
    (hsb : sb.data.toList = (((bodyR rs).drop k).take (q - k)).flatMap (fun y => encB y.1))
    (hr : w3.ownsRow w.heap.size 160 4 v' (n + 1) (cellsG (wordC line) ws ++ [.string sb, .int .i64 line, .int .i64 ((k : Int) + 1), .bool bd])) (ho : Only Nob w w3) : CU w w3 rs line (q + 1) (n + 1) v' (ws ++ [⟨sb.data.toList, k + 1, bd⟩]) := by
  have hm : k < (bodyR rs).length := by have := hw.hi; omega
  refine ⟨?_, by rw [List.length_append, h.len]; rfl, by have := hw.hi; omega, by have := h.few; omega, ?_, ho⟩
  · rw [cellsG_snoc]
    have e : wordC line ⟨sb.data.toList, k + 1, bd⟩ = [.string sb, .int .i64 line, .int .i64 ((k : Int) + 1), .bool bd] := by simp [wordC]
    rw [e]
    exact hr
  · have hall := hw.all
    have hany := hw.any
    have hcut : (bodyR rs).drop k = ((bodyR rs).drop k).take (q - k) ++ (bodyR rs).drop q := by
      conv => lhs; rw [← List.take_append_drop (q - k) ((bodyR rs).drop k)]
      rw [List.drop_drop, show k + (q - k) = q by omega]
    have hsl : (((bodyR rs).drop k).take (q - k)).length = q - k := by
      rw [List.length_take, List.length_drop]
      have := hw.hi
      omega
    have hhead : ∀ y, ((bodyR rs).drop q).head? = some y → blankR y = true := by
      intro y hy
      rw [List.head?_drop] at hy
      have hql : q < (bodyR rs).length := (List.getElem?_eq_some_iff.1 hy).1
      have h2 := body_at hql
      rw [List.getElem?_eq_getElem hql] at hy
      injection hy with hy
      exact hend y (by rw [h2, hy]) hql
    rw [h.eq, hcut, List.append_assoc]
    congr 1
    generalize hseg : ((bodyR rs).drop k).take (q - k) = seg at *
    cases seg with
    | nil =>
      simp at hsl
      omega
    | cons y seg =>
      rw [words_first y seg (k + 1) _ (hall y (by simp)) (fun z hz => hall z (List.mem_cons_of_mem _ hz)) hhead, ← hsb, ← hany, hsl]
      rw [List.cons_append, List.nil_append]
      congr 1
      have e : k + 1 + (q - k) = q + 1 := by omega
      rw [e]
      cases hr2 : (bodyR rs).drop q with
      | nil =>
        have : (bodyR rs).drop (q + 1) = [] := by
          have h4 := congrArg List.length hr2
          rw [List.length_drop] at h4
          simp at h4
          rw [List.drop_eq_nil_of_le (by omega)]
        rw [this]
        rfl
      | cons z r =>
        have hz := hhead z (by rw [hr2]; rfl)
        have hd : (bodyR rs).drop (q + 1) = r := by
          rw [← List.drop_drop (i := 1) (j := q), hr2]
          rfl
        rw [words_skip z r _ hz, hd]
theorem CU.fin {w wr : World} {rs : List Rn} {line : Int} {k n cap : Nat} {A : Option Addr} {ws : List Wd} (h : CU w wr rs line k n (.slice A n cap) ws) (hk : ¬ k < (bodyR rs).length) : CutPost w rs line (.returned (.tuple #[.slice A n cap, .int .i64 (((bodyR rs).length : Int) + 1)])) wr := by
  have he : wordsR rs = ws := by
    rw [h.eq, List.drop_eq_nil_of_le (by omega)]
    simp [wordsG]
  have hc : n ≤ cap := by
    rcases h.row.2 with ⟨h1, h2⟩ | ⟨g, cap', cur, hv, _, _, hn, _⟩
    · omega
    · injection hv with _ _ hv
      omega
  have hr := h.row
  refine ⟨A, n, cap, by simp [endR], by rw [he, h.len], hc, ?_, h.only, fun b o e => (hr.lt b (by rw [e]; rfl)).1⟩
  rw [he]
  exact SlIn.of_own (fun _ => rfl) hr h.len.symm
theorem CU.row2 {w wr w2 : World} {rs : List Rn} {line : Int} {k q n : Nat} {v : Value} {ws : List Wd} {bd : Bool} (h : CU w wr rs line k n v ws) (hw : CW w wr w2 rs line k q bd) (u : Value) : (w2.setCell ⟨wr.heap.size, 0, none⟩ u).ownsRow w.heap.size 160 4 v n (cellsG (wordC line) ws) :=
  row_only h.row ((hw.only.mono (fun _ _ h => h.elim)).setCell (S := fun j => j = wr.heap.size) (.inl rfl) u) (fun g hg e => by
    have h1 := (h.row.lt g hg).2
    have e2 : g = wr.heap.size := e
    omega)
theorem CU.size2 {w wr w2 : World} {rs : List Rn} {line : Int} {k q n : Nat} {v : Value} {ws : List Wd} {bd : Bool} (h : CU w wr rs line k n v ws) (hw : CW w wr w2 rs line k q bd) (u : Value) : w.heap.size ≤ (w2.setCell ⟨wr.heap.size, 0, none⟩ u).heap.size := by
  have h1 := h.only.size
  have h2 := (hw.only.setCell (p := ⟨wr.heap.size, 0, none⟩) (.inr (Nat.le_refl _)) u).size
  omega
theorem CU.only2 {w wr w2 w3 : World} {rs : List Rn} {line : Int} {k q n : Nat} {v : Value} {ws : List Wd} {bd : Bool} {u : Value} (h : CU w wr rs line k n v ws) (hw : CW w wr w2 rs line k q bd) (ho : Only (fun j => w.heap.size ≤ j) (w2.setCell ⟨wr.heap.size, 0, none⟩ u) w3) : Only Nob w w3 :=
  Only.after (h.only.trans (hw.only.setCell (p := ⟨wr.heap.size, 0, none⟩) (.inr (Nat.le_refl _)) u)) ho (fun i hi => .inr hi)
theorem word_one (sb : ByteArray) (line k : Int) (bd : Bool) : ∀ u ∈ (#[Value.string sb, .int .i64 line, .int .i64 k, .bool bd] : Array Value).toList, u.oneCell' = true := by
  intro u hu
  simp at hu
  rcases hu with rfl | rfl | rfl | rfl <;> rfl
theorem wpList_pushG {w : World} {base n cap size bytes G : Nat} {A : Option Addr} {xs : List Value} {ops : Array Oper} {rest : List Oper} {o : Oper} {a : Act} {Q : Exit → Act → World → Prop} (hG : w.heap.size = G) (hgd : o.guard = none) (s x : Operand) {T e : TypeId}
    (ho : o.op = .call { callee := .builtin .append, args := #[s, x], argTypes := #[T, T] }) (hT : Tryd.prog.underlying T = some (.slice e)) {z : Value} (hinfo : (Tryd.prog.info? e).map (fun i => (i.zero, i.size, i.bytes)) = some (some z, size, bytes)) (hzs : z.cells.size = size) (hpos : 0 < size) (hby : bytes ≤ 1000)
    (hr : w.ownsRow base e size (.slice A n cap) n xs) (hb : base ≤ w.heap.size) (cs : Array Value) (hcs : cs.size = size) (h1 : ∀ u ∈ cs.toList, u.oneCell' = true) (hn : n ≤ 1000000000)
    (hs : a.eval s = .slice A n cap) (hx : a.eval x = .slice (some ⟨G, 0, none⟩) 1 1)
    (k : ∀ A' cap' w2, w2.ownsRow base e size (.slice A' (n + 1) cap') (n + 1) (xs ++ cs.toList) → Only (fun k => base ≤ k) w w2 → wpList Tryd.prog ops Q rest (a.put o.dst (.slice A' (n + 1) cap')) w2) :
    wpList Tryd.prog ops Q (o :: rest) a (w.alloc (.cells cs e)) := by
  subst hG
  exact wpList_push hgd s x ho hT hinfo hzs hpos hby hr hb cs hcs h1 hn hs hx k
/-- 'string(l[k:q])'. -/
theorem seg_conv {w : World} {B g o : Nat} {rs : List Rn} {k q cap : Nat} (h : SlIn runeC 1 w B (some ⟨g, o, none⟩) rs) (hkq : k < q) (hq : q ≤ (bodyR rs).length) :
    ∃ sb : ByteArray, (convert 155 9 (.slice (some ⟨g, o + k, none⟩) (q - k) cap)).run Tryd.prog w = .ok (.string sb) w ∧ sb.data.toList = (((bodyR rs).drop k).take (q - k)).flatMap (fun y => encB y.1) ∧ sb.size ≤ 4 * (q - k) := by
  have hsl : (((bodyR rs).drop k).take (q - k)).length = q - k := by
    rw [List.length_take, List.length_drop]
    omega
  have hr := run_convert_runes (P := Tryd.prog) w 155 9 21 ⟨g, o + k, none⟩ (q - k) cap ((((bodyR rs).drop k).take (q - k)).map fun x => (x.1 : Int)) (by rw [List.length_map, hsl]; exact Nat.le_refl _) Tryd.underlying155 Tryd.underlying21 Tryd.underlying9 (fun j hj => by
    rw [List.length_map, hsl] at hj
    have hkj : k + j < (bodyR rs).length := by omega
    obtain ⟨b, o', e1, _, hc⟩ := h.at_ (body_at hkj)
    injection e1 with e1
    injection e1 with e1 e2 _
    subst e1 e2
    have c0 := hc 0 _ rfl
    have ea : (⟨g, o + k, none⟩ : Addr).add j = ⟨g, o + (k + j) * 1 + 0, none⟩ := by
      unfold Addr.add
      by_cases hz : j = 0
      · subst hz; simp
      · simp [hz]
        omega
    rw [ea, c0]
    have hg : ((((bodyR rs).drop k).take (q - k)).map fun x => (x.1 : Int)).getD j 0 = ((bodyR rs)[k + j].1 : Int) := by
      rw [List.getD_eq_getElem?_getD, List.getElem?_map, List.getElem?_take, if_pos hj, List.getElem?_drop, List.getElem?_eq_getElem hkj]
      rfl
    rw [hg]
    rfl)
  refine ⟨_, hr, ?_, ?_⟩
  · rw [List.take_of_length_le (by rw [List.length_map, hsl]; exact Nat.le_refl _)]
    exact runes_bytes _
  · have := runesBytes_size_le ((((((bodyR rs).drop k).take (q - k)).map fun x => (x.1 : Int))).take (q - k))
    rw [List.length_take, List.length_map, hsl] at this
    omega
end Go.Proofs.YtngahgfppbjebaaDoor
namespace Go.Proofs.YtngahgfppbjebaaDoor
open Go.RowKit Go.Lib
set_option linter.unusedVariables false
set_option linter.unusedSimpArgs false

set_option maxHeartbeats 8000000 in
set_option maxRecDepth 100000 in
theorem cut_any (rs : List Rn) (line : Int) (A B : Option Addr) (n capA capB : Nat) (w : World) (hl : rs.length = n) (hn : n ≤ 100000) (hcap : n ≤ capA) (hA : SlIn runeC 1 w w.heap.size A rs) (hB : SlIn badC 1 w w.heap.size B rs) (hr : ∀ x ∈ rs, x.1 ≤ 1114111) :
    Calls Tryd.prog 89 #[.slice A n capA, .slice B n capB, .int .i64 line] w (CutPost w rs line) := by
  have HA := hide hA
  have HB := hide hB
  have HL := hide hl
  have HRR := hide hr
  have HST : Hid (∀ k x, rs[k]? = some x → (bodyR rs).length = k + (bodyR (rs.drop k)).length → if x.1 = 59 then (bodyR rs).length = k else (bodyR rs).length = (k + 1) + (bodyR (rs.drop (k + 1))).length) := hide (fun k x h1 h2 => body_step h1 h2)
  have HFIN := hide (fun (wr : World) (k n cap : Nat) (A : Option Addr) (ws : List Wd) (h : CU w wr rs line k n (.slice A n cap) ws) (hk : ¬ k < (bodyR rs).length) => h.fin hk)
  have HBL := hide (body_le rs)
  have HAT : Hid (∀ k, k < (bodyR rs).length → rs[k]? = some ((bodyR rs).getD k (0, false))) := hide (fun k hk => by
    rw [body_at hk, List.getD_eq_getElem?_getD, List.getElem?_eq_getElem hk]
    rfl)
  clear hA hB hl hr
  go_enter Tryd.func89, Tryd.ntmps89
  go_upto_block 0 with fail
  go_cut [8, 9] from 16 to 27 (fun e i wx => e = .int .i64 ((bodyR rs).length : Int) ∧ wx = w)
  case first =>
    go_wp2_with fail
    go_loopw [8, 9] (fun e i wr => ∃ k : Nat, e = .int .i64 (n : Int) ∧ i = .int .i64 (k : Int) ∧ k ≤ n ∧ wr = w ∧ Hid ((bodyR rs).length = k + (bodyR (rs.drop k)).length)) (fun _ i _ => n - (RowKit.intOf i).toNat)
    case atStart => exact ⟨0, rfl, rfl, Nat.zero_le _, rfl, by unfold Hid; rw [List.drop_zero]; omega⟩
    case round =>
      obtain ⟨k, rfl, rfl, hk, rfl, hb⟩ := hrel
      by_cases hlt : k < n
      · have hkI : (k : Int) < (n : Int) := by omega
        obtain ⟨x, hx⟩ : ∃ x, rs[k]? = some x := ⟨_, List.getElem?_eq_getElem (by have := HL.out; omega)⟩
        obtain ⟨g, o, rfl, hg, hc⟩ := HA.out.at_ hx
        have c0 := hc 0 _ rfl
        simp only [Nat.add_zero, Nat.mul_one, runeV] at c0
        have hst := HST.out k x hx hb.out
        by_cases h59 : x.1 = 59
        · rw [if_pos h59] at hst
          have h59b : ((x.1 : Int) == 59) = true := by rw [h59]; rfl
          have HE := hide hst
          clear hst hc hb
          go_wp2_with fail
          go_meet
          exact ⟨by rw [HE.out], rfl⟩
        · rw [if_neg h59] at hst
          have h59b : ((x.1 : Int) == 59) = false := by rw [beq_eq_false_iff_ne]; omega
          have HE := hide hst
          clear hst hc hb
          go_wp2_with fail
          refine ⟨⟨k + 1, rfl, by simp, by omega, by simp, HE⟩, ?_⟩
          simp [RowKit.intOf]
          omega
      · have hkI : ¬ (k : Int) < (n : Int) := by omega
        have HE : Hid ((bodyR rs).length = k) := hide (by
          have h1 := hb.out
          rw [List.drop_eq_nil_of_le (by have := HL.out; omega)] at h1
          exact h1.trans (Nat.add_zero _))
        have hkn : k = n := by omega
        clear hb
        go_wp2_with fail
        go_meet
        exact ⟨by rw [HE.out, hkn], rfl⟩
  case rest =>
    obtain ⟨rfl, hw⟩ := hcut
    subst hw
    obtain ⟨m, hm⟩ : ∃ m, (bodyR rs).length = m := ⟨_, rfl⟩
    have HM := hide hm
    have hmn : m ≤ n := by have h1 := HBL.out; have h2 := HL.out; omega
    rw [hm]
    clear hm
    go_wp2_with fail
    go_loopw [10, 11] (fun v i wr => ∃ (k n5 c5 : Nat) (A5 : Option Addr) (ws : List Wd), v = .slice A5 n5 c5 ∧ i = .int .i64 (k : Int) ∧ CU wc wr rs line k n5 (.slice A5 n5 c5) ws) (fun _ i _ => m + 1 - (RowKit.intOf i).toNat)
    case atStart => exact ⟨0, 0, 0, none, [], rfl, rfl, CU.start wc rs line⟩
    case round =>
      obtain ⟨k, n5, c5, A5, ws, rfl, rfl, hC⟩ := hrel
      have HC := hide hC
      have hkle := hC.le
      have hnk := hC.few
      have hsz := hC.only.size
      clear hC
      by_cases hlt : k < m
      · have hkI : (k : Int) < (m : Int) := by omega
        have hkn : (k : Int) < (n : Int) := by omega
        have hkb : k < (bodyR rs).length := by have := HM.out; omega
        have hx := HAT.out k hkb
        generalize (bodyR rs).getD k (0, false) = x at hx
        obtain ⟨g, o, rfl, hg, hc⟩ := (HA.out.keep HC.out.only.new).at_ hx
        have c0 := hc 0 _ rfl
        simp only [Nat.add_zero, Nat.mul_one, runeV] at c0
        have hgw : g < wr.heap.size := by omega
        have HX := hide hx
        have HKB := hide hkb
        clear hx hkb hc
        by_cases h32 : x.1 = 32
        · have b32 : ((x.1 : Int) == 32) = true := by rw [h32]; rfl
          have HN := hide (HC.out.blank HKB.out HX.out (by simp [blankR, h32]))
          go_wp2_with fail
          refine ⟨⟨k + 1, n5, c5, A5, ws, rfl, by simp, HN.out⟩, ?_⟩
          simp [RowKit.intOf]
          omega
        · have b32 : ((x.1 : Int) == 32) = false := by rw [beq_eq_false_iff_ne]; omega
          by_cases h9 : x.1 = 9
          · have b9 : ((x.1 : Int) == 9) = true := by rw [h9]; rfl
            have HN := hide (HC.out.blank HKB.out HX.out (by simp [blankR, h9]))
            go_wp2_with fail
            refine ⟨⟨k + 1, n5, c5, A5, ws, rfl, by simp, HN.out⟩, ?_⟩
            simp [RowKit.intOf]
            omega
          · have b9 : ((x.1 : Int) == 9) = false := by rw [beq_eq_false_iff_ne]; omega
            have HNB : Hid (blankR x = false) := hide (by simp [blankR, h32, h9])
            have HW0 := hide (CW.start wc wr rs line k HKB.out)
            go_upto_block 4 with fail
            go_cut [13] from 50 to 77 (fun qv w2 => ∃ (q : Nat) (bd : Bool), qv = .int .i64 (q : Int) ∧ CW wc wr w2 rs line k q bd ∧ k < q ∧ Hid (∀ y, rs[q]? = some y → q < (bodyR rs).length → blankR y = true))
            case first =>
              go_wp2_with fail
              go_loopw [13] (fun qv w2 => ∃ (q : Nat) (bd : Bool), qv = .int .i64 (q : Int) ∧ CW wc wr w2 rs line k q bd) (fun qv _ => m - (RowKit.intOf qv).toNat)
              case atStart => exact ⟨k, false, rfl, HW0.out⟩
              case round =>
                obtain ⟨q, bd, rfl, hW⟩ := hrel
                have HW := hide hW
                have hlo := hW.lo
                have hhi := hW.hi
                have z3 := hW.blk.cell 3
                have zl := hW.blk.lt
                have zf := hW.blk.frozen 3
                simp at z3
                clear hW
                by_cases hq : q < m
                · have hqI : (q : Int) < (m : Int) := by omega
                  have hqn : (q : Int) < (n : Int) := by omega
                  have hqb : q < (bodyR rs).length := by have := HM.out; omega
                  have hy := HAT.out q hqb
                  generalize (bodyR rs).getD q (0, false) = y at hy
                  have HON := hide (HC.out.only.trans HW.out.only)
                  obtain ⟨g2, o2, e2, hg2, hc2⟩ := (HA.out.keep HON.out.new).at_ hy
                  injection e2 with e2
                  injection e2 with e2 e3 _
                  subst e2 e3
                  obtain ⟨g3, o3, rfl, hg3, hc3⟩ := (HB.out.keep HON.out.new).at_ hy
                  have d0 := hc2 0 _ rfl
                  have d1 := hc3 0 _ rfl
                  simp only [Nat.add_zero, Nat.mul_one, runeV, badV] at d0 d1
                  have hsz2 := HON.out.size
                  have hgw2 : g < wr.heap.size := by omega
                  have hgw3 : g3 < wr.heap.size := by omega
                  have HY := hide hy
                  have HQB := hide hqb
                  have hkq : y.1 = 32 ∨ y.1 = 9 → k < q := by
                    intro h
                    rcases Nat.lt_or_ge k q with h1 | h1
                    · exact h1
                    · exfalso
                      have e : q = k := by omega
                      rw [e, HX.out] at hy
                      injection hy with hy
                      rw [hy] at h32 h9
                      rcases h with h | h
                      · exact h32 h
                      · exact h9 h
                  clear hy hqb hc2 hc3 hsz2
                  by_cases y32 : y.1 = 32
                  · have q32 : ((y.1 : Int) != 32) = false := by rw [y32]; rfl
                    have q32b : ((y.1 : Int) == 32) = true := by rw [y32]; rfl
                    have HKQ := hide (hkq (.inl y32))
                    have HBY : Hid (∀ y, rs[q]? = some y → q < (bodyR rs).length → blankR y = true) := hide (fun z hz _ => by
                      rw [HY.out] at hz
                      injection hz with hz
                      simp [blankR, ← hz, y32])
                    clear hkq
                    go_wp2_with fail
                    go_meet
                    exact ⟨q, bd, rfl, HW.out, HKQ.out, HBY.out⟩
                  · have q32 : ((y.1 : Int) != 32) = true := by rw [bne_iff_ne]; omega
                    have q32b : ((y.1 : Int) == 32) = false := by rw [beq_eq_false_iff_ne]; omega
                    by_cases y9 : y.1 = 9
                    · have q9 : ((y.1 : Int) != 9) = false := by rw [y9]; rfl
                      have q9b : ((y.1 : Int) == 9) = true := by rw [y9]; rfl
                      have HKQ := hide (hkq (.inr y9))
                      have HBY : Hid (∀ y, rs[q]? = some y → q < (bodyR rs).length → blankR y = true) := hide (fun z hz _ => by
                        rw [HY.out] at hz
                        injection hz with hz
                        simp [blankR, ← hz, y9])
                      clear hkq
                      go_wp2_with fail
                      go_meet
                      exact ⟨q, bd, rfl, HW.out, HKQ.out, HBY.out⟩
                    · have q9 : ((y.1 : Int) != 9) = true := by rw [bne_iff_ne]; omega
                      have q9b : ((y.1 : Int) == 9) = false := by rw [beq_eq_false_iff_ne]; omega
                      have HN := hide (HW.out.next HQB.out HY.out (by simp [blankR, y32, y9]))
                      clear hkq
                      cases bd with
                      | true =>
                        go_wp2_with fail
                        refine ⟨⟨q + 1, _, by simp, HN.out⟩, ?_⟩
                        simp [RowKit.intOf]
                        omega
                      | false =>
                        go_wp2_with fail
                        refine ⟨⟨q + 1, _, by simp, HN.out⟩, ?_⟩
                        simp [RowKit.intOf]
                        omega
                · have hqI : ¬ (q : Int) < (m : Int) := by omega
                  have HKQ : Hid (k < q) := hide (by omega)
                  have HBY : Hid (∀ y, rs[q]? = some y → q < (bodyR rs).length → blankR y = true) := hide (fun z _ hz => by
                    have := HM.out
                    omega)
                  go_wp2_with fail
                  go_meet
                  exact ⟨q, bd, rfl, HW.out, HKQ.out, HBY.out⟩
            case rest =>
              obtain ⟨q, bd, rfl, hW, hkq, hend⟩ := hcut
              have HW := hide hW
              have hhi := hW.hi
              have z0 := hW.blk.cell 0
              have z1 := hW.blk.cell 1
              have z2 := hW.blk.cell 2
              have z3 := hW.blk.cell 3
              have zl := hW.blk.lt
              have zf := hW.blk.frozen 0
              simp at z0 z1 z2 z3
              have hqm : q ≤ m := by have := HM.out; omega
              have hkc : k < capA := by omega
              have hqc : q ≤ capA := by omega
              have HON := hide (HC.out.only.trans hW.only)
              obtain ⟨sb, hcv, hsb, hsz9⟩ := seg_conv (cap := capA - k) (HA.out.keep HON.out.new) hkq hhi
              have HSB := hide hsb
              have HKQ := hide hkq
              have HEND := hend
              clear hW hsb hhi hkq hend
              have hsl9 : sb.size ≤ 400000 := by omega
              have hkq9 : k ≤ q := by have := HKQ.out; omega
              have hkq8 : (k : Int) ≤ (q : Int) := by omega
              have HRW := hide (HC.out.row2 HW.out (.string sb))
              have HSZ := hide (HC.out.size2 HW.out (.string sb))
              have HN9 : Hid (n5 ≤ 1000000000) := hide (by omega)
              have HO1 := hide (word_one sb line ((k : Int) + 1) bd)
              go_wp2_with (first
                | (at_builtin; refine wpList_pushG (World.size_setCell _ _ _) rfl _ _ rfl Tryd.underlying154 infoRWord rfl (by decide) (by decide) HRW.out HSZ.out #[.string sb, .int .i64 line, .int .i64 ((k : Int) + 1), .bool bd] rfl HO1.out HN9.out rfl rfl ?_; intro A6 c6 w3 hown hon2; have HOW := hide hown; have HO2 := hide hon2; clear hown hon2))
              have HNX := HC.out.word HW.out HKQ.out HEND.out HSB.out HOW.out (HC.out.only2 HW.out HO2.out)
              refine ⟨⟨q + 1, n5 + 1, c6, A6, _, rfl, by simp, HNX⟩, ?_⟩
              have := HKQ.out
              simp [RowKit.intOf]
              omega
      · have hkI : ¬ (k : Int) < (m : Int) := by omega
        have HF := hide (HFIN.out wr k n5 c5 A5 ws HC.out (by have := HM.out; omega))
        rw [HM.out] at HF
        go_wp2_with fail
        go_ret2
        exact HF.out
end Go.Proofs.YtngahgfppbjebaaDoor

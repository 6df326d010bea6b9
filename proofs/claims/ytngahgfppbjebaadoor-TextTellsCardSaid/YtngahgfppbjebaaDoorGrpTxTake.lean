/-
  What 'take' gives; what its loop over the fields stands on.
  The contract of a line: 'take'.
-/
import Derived.Test.YtngahgfppbjebaaDoorGrpTxFAll
import Derived.Deep.Cut
import Derived.Deep.CutRange
import Derived.Deep.CutBlock
import Derived.Deep.DeepCutAuto
namespace Go.Proofs.YtngahgfppbjebaaDoor
open Go.RowKit Go.Lib
set_option linter.unusedVariables false
set_option linter.unusedSimpArgs false

def TS (base gp gm : Nat) : Nat → Prop := fun k => k = gp ∨ k = gm ∨ base ≤ k
def TakePost (w : World) (base gp gm : Nat) (st : PS) (line : Nat) (rs : List Rn) (e : Ending) (w' : World) : Prop := Only (TS base gp gm) w w' ∧ match lineP line st rs with
  | .ok st' => e = .returned (.tuple #[.int .i64 0, .int .i64 0]) ∧ ∃ vl' vj', PMem w' base gp gm vl' vj' st' line
  | .err c er => e = .returned (.tuple #[.int .i64 (c : Int), .int .i64 (er : Int)]) ∧ ∃ vl' vj' st', PMem w' base gp gm vl' vj' st' line
/-- Behind the label: the words that are left, what is known. -/
structure Lab2 (w wx : World) (base gp gm : Nat) (vl vj : Value) (st : PS) (line : Nat) (rs : List Rn) (lo hi : Nat) (A : Option Addr) (ws : List Wd) (st2 : PS) : Prop where
  words : WsAt wx lo hi A ws
  mem : PMem wx base gp gm vl vj st2 line
  l : st2.l = st.l
  jumps : st2.jumps = st.jumps
  eq : lineP line st rs = instrP line (endR rs) st2 ws
  only : Only (TS base gp gm) w wx
  size : hi ≤ wx.heap.size
  lens : ∀ y ∈ ws, y.s.length ≤ 16000
theorem instrP_bad {line endc : Nat} {st : PS} {x : Wd} {r : List Wd} (h : x.bad = true ∨ isOf nameList ⟨x.s.toArray⟩ = false) : instrP line endc st (x :: r) = .err x.col 12 := by
  rcases h with h | h <;> simp [instrP, h]
theorem instrP_full {line endc : Nat} {st : PS} {x : Wd} {r : List Wd} (h1 : x.bad = false) (h2 : isOf nameList ⟨x.s.toArray⟩ = true) (h : 40 ≤ st.l.length) : instrP line endc st (x :: r) = .err x.col 4 := by
  simp [instrP, h1, h2, h]
theorem instrP_go {line endc : Nat} {st : PS} {x : Wd} {r : List Wd} (h1 : x.bad = false) (h2 : isOf nameList ⟨x.s.toArray⟩ = true) (h : ¬ 40 ≤ st.l.length) : instrP line endc st (x :: r) = fieldsP line endc st (kindsP (numOf nameList ⟨x.s.toArray⟩)) r ⟨numOf nameList ⟨x.s.toArray⟩, 0, 0, 0, 0⟩ st.jumps := by
  simp only [instrP, h1, h2, Bool.false_or, Bool.not_true, Bool.false_eq_true, if_false, if_neg h]
theorem op_range (s : ByteArray) : 0 ≤ numOf nameList s ∧ numOf nameList s ≤ 23 := by
  have h := fold_num nameList_ok nameList_len (by decide +kernel) s
  have h2 := lastOf_range nameList s 23
  rw [h.1] at h2
  exact h2
def labOf : List Wd → Bool
  | [] => false
  | x :: _ => isLabel x
theorem lineP_none {line : Nat} {st : PS} {rs : List Rn} (h : labOf (wordsR rs) = false) : lineP line st rs = instrP line (endR rs) st (wordsR rs) := by
  unfold lineP
  cases hw : wordsR rs with
  | nil => rfl
  | cons x r =>
    rw [hw] at h
    have h2 : isLabel x = false := h
    simp [h2]
theorem lineP_dup {line : Nat} {st : PS} {rs : List Rn} {x : Wd} {r : List Wd} (hw : wordsR rs = x :: r) (hx : isLabel x = true) (h : (lookP st.labels x.s.dropLast).isSome = true ∨ nameP x.s.dropLast = false) : lineP line st rs = .err x.col 12 := by
  unfold lineP
  rw [hw]
  simp only [hx, if_true]
  rcases h with h | h <;> simp [h]
theorem lineP_lab {line : Nat} {st : PS} {rs : List Rn} {x : Wd} {r : List Wd} (hw : wordsR rs = x :: r) (hx : isLabel x = true) (h1 : (lookP st.labels x.s.dropLast).isSome = false) (h2 : nameP x.s.dropLast = true) :
    lineP line st rs = instrP line (endR rs) { st with labels := st.labels ++ [(x.s.dropLast, st.l.length)] } r := by
  unfold lineP
  rw [hw]
  simp only [hx, if_true]
  simp [h1, h2]
theorem TakePost.bad {w w' : World} {base gp gm line c er : Nat} {vl' vj' : Value} {st st' : PS} {rs : List Rn} (h : lineP line st rs = .err c er) (ho : Only (TS base gp gm) w w') (hm : PMem w' base gp gm vl' vj' st' line) : TakePost w base gp gm st line rs (.returned (.tuple #[.int .i64 (c : Int), .int .i64 (er : Int)])) w' := by
  unfold TakePost
  rw [h]
  exact ⟨ho, rfl, vl', vj', st', hm⟩
theorem TakePost.fin {w w' : World} {base gp gm line : Nat} {vl' vj' : Value} {st st' : PS} {rs : List Rn} (h : lineP line st rs = .ok st') (ho : Only (TS base gp gm) w w') (hm : PMem w' base gp gm vl' vj' st' line) : TakePost w base gp gm st line rs (.returned (.tuple #[.int .i64 0, .int .i64 0])) w' := by
  unfold TakePost
  rw [h]
  exact ⟨ho, rfl, vl', vj', hm⟩
theorem only_ts {w w' : World} {base gp gm : Nat} (h : Only Nob w w') : Only (TS base gp gm) w w' := h.mono (fun _ _ h => h.elim)
theorem arr_le {l : List UInt8} (h : l.length ≤ 16000) : (⟨l.toArray⟩ : ByteArray).size ≤ 9223372036854775807 := by
  show l.toArray.size ≤ _
  rw [List.size_toArray]
  omega

/-- Between two fields. -/
structure FL (w wr : World) (base gp gm gx gi : Nat) (vl : Value) (st2 : PS) (line : Nat) (rs : List Rn) (st : PS) (lo hi : Nat) (ks : List UInt8) (k : Nat) (A3 : Option Addr) (ws3 : List Wd) (x3 : PIns) (js : List JP) (vj3 : Value) : Prop where
  iter : wr.heap[gi]? = some (.stringIter ⟨ks.toArray⟩ k)
  le : k ≤ ks.length
  words : WsAt wr lo hi A3 ws3
  mem : PMem wr base gp gm vl vj3 { st2 with jumps := js } line
  xb : InsBlk wr gx x3
  eq : lineP line st rs = fieldsP line (endR rs) st2 (ks.drop k) ws3 x3 js
  only : Only (TS base gp gm) w wr
  own : ∀ j, vj3.ownBlock = some j → j < lo ∨ gi < j
  lens : ∀ y ∈ ws3, y.s.length ≤ 16000
  few : js.length ≤ st2.jumps.length + k
/-- What stands fast. -/
structure FF (w : World) (base gp gm gx gi : Nat) (vl : Value) (lo hi : Nat) : Prop where
  fb : base ≤ w.heap.size
  fl : lo = w.heap.size + 1
  fh : hi ≤ gx
  fi : gi = gx + 1
  flh : lo ≤ hi
  fgp : gp < base
  fgm : gm < base
  fvl : ∀ k, vl.ownBlock = some k → k < lo
section
variable {w wr : World} {base gp gm gx gi : Nat} {vl : Value} {st2 st : PS} {line : Nat} {rs : List Rn} {lo hi : Nat} {ks : List UInt8} {k : Nat} {A3 : Option Addr} {ws3 : List Wd} {x3 : PIns} {js : List JP} {vj3 : Value}
theorem only_iter1 (W : World) (g : Nat) (S : ByteArray) (p : Nat) : Only (fun j => j = g) W (W.iterAt g S p) := only_iterAt W g S p
/-- Behind the rune: the iterator's block alone has turned. -/
theorem FL.moved (h : FL w wr base gp gm gx gi vl st2 line rs st lo hi ks k A3 ws3 x3 js vj3) (f : FF w base gp gm gx gi vl lo hi) (p : Nat) :
    WsAt (wr.iterAt gi ⟨ks.toArray⟩ p) lo hi A3 ws3 ∧ PMem (wr.iterAt gi ⟨ks.toArray⟩ p) base gp gm vl vj3 { st2 with jumps := js } line ∧ InsBlk (wr.iterAt gi ⟨ks.toArray⟩ p) gx x3 ∧ Only (TS base gp gm) w (wr.iterAt gi ⟨ks.toArray⟩ p) ∧ (wr.iterAt gi ⟨ks.toArray⟩ p).heap[gi]? = some (.stringIter ⟨ks.toArray⟩ p) ∧ base ≤ (wr.iterAt gi ⟨ks.toArray⟩ p).heap.size ∧ gi < (wr.iterAt gi ⟨ks.toArray⟩ p).heap.size := by
  have ho := only_iter1 wr gi ⟨ks.toArray⟩ p
  obtain ⟨f1, f2, f3, f4, f5, f6, f7, f8⟩ := f
  have hgl : gi < wr.heap.size := (Array.getElem?_eq_some_iff.1 h.iter).1
  refine ⟨h.words.only ho (fun j _ h2 e => by omega), h.mem.other ho (by omega) (by omega) (fun e => by have := f8 _ e; omega) (fun e => by have := h.own _ e; omega), Blk.only h.xb ho (by omega), h.only.trans (ho.mono (fun j _ e => .inr (.inr (by have e2 : j = gi := e; omega)))), iterAt_heap _ _ _ _ _ h.iter, ?_, ?_⟩
  · rw [iterAt_size]; omega
  · rw [iterAt_size]; exact hgl
/-- A field was read. -/
theorem FL.round {W2 : World} {y : Wd} {r3 : List Wd} {x' : PIns} {vj' : Value} {A4 : Option Addr} (h : FL w wr base gp gm gx gi vl st2 line rs st lo hi ks k A3 (y :: r3) x3 js vj3) (f : FF w base gp gm gx gi vl lo hi) (hk : k < ks.length) (hbad : y.bad = false) (hf : fieldP ks[k] y.s x3 = some x')
    (ho : Only (fun j => j = gx ∨ j = gp ∨ vj3.ownBlock = some j) (wr.iterAt gi ⟨ks.toArray⟩ (k + 1)) W2) (hm : PMem W2 base gp gm vl vj' { st2 with jumps := if ks[k] = 106 then js ++ [⟨st2.l.length, y.s, line, y.col⟩] else js } line) (hx : InsBlk W2 gx x')
    (hown : vj'.ownBlock = vj3.ownBlock ∨ ∀ j, vj'.ownBlock = some j → (wr.iterAt gi ⟨ks.toArray⟩ (k + 1)).heap.size ≤ j) (hA : WsAt wr lo hi A4 r3) :
    FL w W2 base gp gm gx gi vl st2 line rs st lo hi ks (k + 1) A4 r3 x' (if ks[k] = 106 then js ++ [⟨st2.l.length, y.s, line, y.col⟩] else js) vj' := by
  obtain ⟨_, m2, m3, m4, m5, m6, m7⟩ := h.moved f (k + 1)
  have hoi := only_iter1 wr gi ⟨ks.toArray⟩ (k + 1)
  have hro := h.own
  obtain ⟨f1, f2, f3, f4, f5, f6, f7, f8⟩ := f
  have hns : ∀ j, lo ≤ j → j < hi → ¬ (j = gx ∨ j = gp ∨ vj3.ownBlock = some j) := by
    rintro j h1 h2 (e | e | e)
    · omega
    · omega
    · have := hro j e; omega
  refine ⟨?_, hk, (hA.only hoi (fun j _ h2 e => by omega)).only ho hns, hm, hx, ?_, m4.trans (ho.mono ?_), ?_, fun z hz => h.lens z (List.mem_cons_of_mem _ hz), ?_⟩
  · refine (ho.block gi m7 ?_).trans m5
    rintro (e | e | e)
    · omega
    · omega
    · have := hro gi e; omega
  · rw [h.eq, List.drop_eq_getElem_cons hk, fieldsP]
    simp only [hbad, hf, Bool.false_eq_true, if_false]
  · rintro j hj (e | e | e)
    · exact .inr (.inr (by omega))
    · exact .inl e
    · have := (h.mem.rowj.lt j e).1
      exact .inr (.inr this)
  · intro j hj
    rcases hown with e | e
    · exact hro j (e ▸ hj)
    · have := e j hj
      omega
  · have := h.few
    split
    · rw [List.length_append]
      simp
      omega
    · omega
theorem FL.pos (h : FL w wr base gp gm gx gi vl st2 line rs st lo hi ks k A3 ws3 x3 js vj3) : wr.iterPos gi = k := by
  unfold World.iterPos
  rw [h.iter]
theorem FL.noneLeft (h : FL w wr base gp gm gx gi vl st2 line rs st lo hi ks k A3 [] x3 js vj3) (hk : k < ks.length) : lineP line st rs = .err (endR rs) 12 := by
  rw [h.eq, List.drop_eq_getElem_cons hk, fieldsP]
theorem FL.bad {y : Wd} {r3 : List Wd} (h : FL w wr base gp gm gx gi vl st2 line rs st lo hi ks k A3 (y :: r3) x3 js vj3) (hk : k < ks.length) (hb : y.bad = true) : lineP line st rs = .err y.col 12 := by
  rw [h.eq, List.drop_eq_getElem_cons hk, fieldsP, if_pos hb]
theorem FL.wrong {y : Wd} {r3 : List Wd} (h : FL w wr base gp gm gx gi vl st2 line rs st lo hi ks k A3 (y :: r3) x3 js vj3) (hk : k < ks.length) (hf : fieldP ks[k] y.s x3 = Option.none) : lineP line st rs = .err y.col 12 := by
  rw [h.eq, List.drop_eq_getElem_cons hk, fieldsP]
  simp only [hf]
  split <;> rfl
theorem FL.more {y : Wd} {r3 : List Wd} (h : FL w wr base gp gm gx gi vl st2 line rs st lo hi ks k A3 (y :: r3) x3 js vj3) (hk : ¬ k < ks.length) : lineP line st rs = .err y.col 12 := by
  rw [h.eq, List.drop_eq_nil_of_le (by omega), fieldsP]
theorem FL.done (h : FL w wr base gp gm gx gi vl st2 line rs st lo hi ks k A3 [] x3 js vj3) (hk : ¬ k < ks.length) : lineP line st rs = .ok ⟨st2.l ++ [x3], st2.labels, js⟩ := by
  rw [h.eq, List.drop_eq_nil_of_le (by omega), fieldsP]
end
theorem kinds_len (op : Int) : (kindsP op).length ≤ 3 := by
  unfold kindsP
  repeat' split
  all_goals decide
theorem FL.start {w wc w2 : World} {base gp gm : Nat} {vl vj : Value} {st2 st : PS} {line : Nat} {rs : List Rn} {lo hi : Nat} {ks : List UInt8} {A3 : Option Addr} {ws3 : List Wd} {x : PIns} (f : FF w base gp gm w2.heap.size (w2.heap.size + 1) vl lo hi)
    (hw : WsAt (w2.alloc (.cells #[.int .i64 x.op, .int .i64 x.a, .int .i64 x.b, .int .i64 x.c, .int .u64 x.n] 60)) lo hi A3 ws3) (hm : PMem wc base gp gm vl vj st2 line) (hon : Only (TS base gp gm) w wc) (ho : Only Nob wc w2) (heq : lineP line st rs = fieldsP line (endR rs) st2 ks ws3 x st2.jumps)
    (hvj : ∀ j, vj.ownBlock = some j → j < lo) (hlens : ∀ y ∈ ws3, y.s.length ≤ 16000) :
    FL w ((w2.alloc (.cells #[.int .i64 x.op, .int .i64 x.a, .int .i64 x.b, .int .i64 x.c, .int .u64 x.n] 60)).iter ⟨ks.toArray⟩ 0) base gp gm w2.heap.size (w2.heap.size + 1) vl st2 line rs st lo hi ks 0 A3 ws3 x st2.jumps vj := by
  have hi0 := World.iter_heap (w2.alloc (.cells #[.int .i64 x.op, .int .i64 x.a, .int .i64 x.b, .int .i64 x.c, .int .u64 x.n] 60)) ⟨ks.toArray⟩ 0
  rw [World.size_alloc] at hi0
  have hoi : Only Nob (w2.alloc (.cells #[.int .i64 x.op, .int .i64 x.a, .int .i64 x.b, .int .i64 x.c, .int .u64 x.n] 60)) ((w2.alloc (.cells #[.int .i64 x.op, .int .i64 x.a, .int .i64 x.b, .int .i64 x.c, .int .u64 x.n] 60)).iter ⟨ks.toArray⟩ 0) := (Only.refl _ _).alloc _
  have ho2 := (ho.alloc (.cells #[.int .i64 x.op, .int .i64 x.a, .int .i64 x.b, .int .i64 x.c, .int .u64 x.n] 60)).trans hoi
  exact ⟨hi0, Nat.zero_le _, hw.nob hoi, hm.nob ho2, Blk.only (Blk.new _ _ _) hoi (fun h => h), by rw [List.drop_zero]; exact heq, hon.trans (only_ts ho2), fun j hj => .inl (hvj j hj), hlens, by omega⟩
theorem decode_kind {ks : List UInt8} (hks : ∀ x ∈ ks, x ∈ kindSet) (k : Nat) (hk : k < ks.length) : Utf8.decode ⟨ks.toArray⟩ k = ((ks[k]).toNat, 1) := by
  have h1 := decodeL_drop ⟨ks.toArray⟩ k
  rw [← h1]
  show decodeL (ks.drop k) = _
  rw [List.drop_eq_getElem_cons hk]
  refine decodeL_ascii _ _ ?_
  have := hks _ (List.getElem_mem hk)
  generalize ks[k] = b at *
  simp only [kindSet, List.mem_cons, List.not_mem_nil, or_false] at this
  rcases this with rfl | rfl | rfl | rfl | rfl | rfl | rfl | rfl | rfl <;> decide
theorem PMem.pushL {w W w3 : World} {base gp gm line : Nat} {vl vj : Value} {st : PS} {v' : Value} {n : Nat} {x : PIns} (h : PMem w base gp gm vl vj st line) (ho : Only Nob w W) (hn : st.l.length = n) (hr : w3.ownsRow base 60 5 v' (n + 1) (progCells st.l ++ insCells x)) (hg : W.grownBy w3 vl.ownBlock) (hv : v'.ownBlock = vl.ownBlock ∨ v'.ownBlock = some W.heap.size) :
    PMem (w3.setCell ⟨gp, 0, none⟩ v') base gp gm v' vj { st with l := st.l ++ [x] } line ∧ Only (fun k => k = gp ∨ vl.ownBlock = some k) w (w3.setCell ⟨gp, 0, none⟩ v') := by
  have hW := h.nob ho
  have ho3 : Only (fun k => vl.ownBlock = some k) W w3 := Only.of_grown hg (fun k hk _ => hk)
  have hbl := h.rowl.lt
  have hbj := h.rowj.lt
  have hgp := h.gpb
  have hgm := h.gmb
  have hcl := h.cell.lt
  have hlm := h.lab.lt
  have hsz := ho.size
  have hsz3 := ho3.size
  have hvb : ∀ k, v'.ownBlock = some k → k ≠ gp ∧ k ≠ gm := by
    intro k hk
    rcases hv with e | e
    · rw [e] at hk
      have := (hbl k hk).1
      omega
    · rw [e] at hk
      injection hk with hk
      omega
  have hc3 := hW.cell.only ho3 (fun e => by have := (hbl _ e).1; omega)
  have hoS : Only (fun k => k = gp) w3 (w3.setCell ⟨gp, 0, none⟩ v') := Only.setCell (S := fun k => k = gp) (p := ⟨gp, 0, none⟩) (Only.refl _ _) (.inl rfl) _
  refine ⟨⟨?_, ?_, ?_, ?_, hgp, hgm, h.ne, ?_⟩, ?_⟩
  · have := hc3.set_ 0 v'
    simpa using this
  · refine row_only ?_ hoS (fun k hk e => (hvb k hk).1 e)
    show w3.ownsRow base _ 5 v' (st.l ++ [x]).length (progCells (st.l ++ [x]))
    rw [show progCells (st.l ++ [x]) = progCells st.l ++ insCells x by simp [progCells], List.length_append, hn]
    exact hr
  · exact row_only (row_only hW.rowj ho3 (fun k hk e => h.apart k e hk)) hoS (fun k hk e => by have := (hbj k hk).1; omega)
  · exact (hW.lab.only ho3 (fun e => by have := (hbl _ e).1; omega)).only hoS h.ne
  · intro k hk e
    rcases hv with e2 | e2
    · exact h.apart k (e2 ▸ hk) e
    · rw [e2] at hk
      injection hk with hk
      have := (hbj k e).2
      omega
  · exact Only.after (Only.after (S := fun k => k = gp ∨ vl.ownBlock = some k) (ho.mono (fun _ _ h => h.elim)) ho3 (fun i hi => .inl (.inr hi))) hoS (fun i hi => .inl (.inl hi))
theorem PMem.grownCellL {w W w3 : World} {base gp gm line : Nat} {vl vj : Value} {st : PS} (h : PMem w base gp gm vl vj st line) (ho : Only Nob w W) (hg : W.grownBy w3 vl.ownBlock) : Blk w3 gp 101 #[vl, .map (some gm), vj, .int .i64 (line : Int)] := by
  have hb := h.rowl.lt
  have hgp := h.gpb
  exact ((h.nob ho).cell).only (Only.of_grown (S := fun k => vl.ownBlock = some k) hg (fun k hk _ => hk)) (fun e => by have := (hb _ e).1; omega)
theorem reads_insD (W : World) (x : PIns) : Reads ((W.alloc (.cells #[.int .i64 x.op, .int .i64 x.a, .int .i64 x.b, .int .i64 x.c, .int .u64 x.n] 60)).drew) (W.heap.size + 1) 5 (some ⟨W.heap.size, 0, none⟩) 1 (insCells x) := by
  have h := Reads.of_blk (size := 5) (n := 1) (Blk.new W 60 #[.int .i64 x.op, .int .i64 x.a, .int .i64 x.b, .int .i64 x.c, .int .u64 x.n]) rfl
  rw [World.size_alloc] at h
  exact h.drew
end Go.Proofs.YtngahgfppbjebaaDoor
namespace Go.Proofs.YtngahgfppbjebaaDoor
open Go.RowKit Go.Lib
set_option linter.unusedVariables false
set_option linter.unusedSimpArgs false

set_option maxRecDepth 100000 in
set_option maxHeartbeats 8000000 in
theorem take_any (w : World) (base gp gm : Nat) (vl vj : Value) (st : PS) (line : Nat) (s : ByteArray) (hs : s.size ≤ 4000) (hm : PMem w base gp gm vl vj st line) (hb : base ≤ w.heap.size) (hU : Utf8Tabs 2 3 w) (hl : st.l.length ≤ 1000) (hj : st.jumps.length ≤ 900) (hlab : st.labels.length ≤ 10000) :
    Calls Tryd.prog 52 #[.pointer (some ⟨gp, 0, none⟩), .string s] w (TakePost w base gp gm st line (runesL s.data.toList)) := by
  obtain ⟨m, hmm⟩ : ∃ m, st.l.length = m := ⟨_, rfl⟩
  obtain ⟨Al, capl, rfl⟩ := hm.rowl.asSlice
  rw [hmm] at hm hl
  have HLM := hide hmm
  have HM := hide hm
  have HB := hide hb
  have hgp := hm.cell.lt
  have HW := hide (words_any s (by omega) w hU)
  clear hU hm hmm
  have HRL : Hid ((runesL s.data.toList).length ≤ 4000) := hide (by have := runesL_len _ s.data.toList (Nat.le_refl _); simp at this; omega)
  generalize runesL s.data.toList = rs at *
  have HLEN : Hid (∀ x ∈ wordsR rs, x.s.length ≤ 16000) := hide (fun x hx => by have := wordsR_len rs x hx; have := HRL.out; omega)
  go_enter Tryd.func52, Tryd.ntmps52
  go_upto_region 2 with (go_at_call 77; refine (HW.out).mono ?_; rintro e w1 ⟨v1, rfl, hr1, ho1⟩; have HO1 := hide ho1; have HR1 := hide hr1; clear ho1 hr1)
  obtain ⟨n, hn⟩ : ∃ n, (wordsR rs).length = n := ⟨_, rfl⟩
  have hr1 := HR1.out
  rw [hn] at hr1
  obtain ⟨A, cap, rfl, hnc, hws⟩ := WsAt.of_own hr1 hn
  have HN := hide hn
  have HWS := hide hws
  clear hn hws hr1
  go_cut [37] (fun b wx => b = .bool (labOf (wordsR rs)) ∧ wx = w1)
  case first =>
    cases hwd : wordsR rs with
    | nil =>
      have hn0 : n = 0 := by rw [← HN.out, hwd]; rfl
      subst hn0
      go_wp2_with fail
      go_meet
      case rel => exact ⟨by rw [hwd]; rfl, rfl⟩
    | cons x r =>
      have hnI : (0 : Int) < (n : Int) := by
        have := HN.out
        rw [hwd] at this
        simp at this
        omega
      have hn1 : 0 < n := by omega
      have hw9 := HWS.out
      rw [hwd] at hw9
      obtain ⟨b, o, rfl, hb1, hb2, hb3, ⟨q0, q1, q2⟩, _⟩ := hw9.head
      have HSF := hide (fun W => Tryd.strings_HasSuffix ⟨x.s.toArray⟩ ⟨#[58]⟩ W (arr_le (HLEN.out x (by rw [hwd]; simp))))
      obtain ⟨xs, xc, xb⟩ := x
      simp only at q0 q1 q2 HSF
      cases xb
      · go_wp2_with (go_at_call 78; refine (HSF.out _).mono ?_; rintro e w2 ⟨rfl, rfl⟩)
        go_meet
        case rel =>
          refine ⟨?_, rfl⟩
          rw [hwd]
          show Value.bool (hasSuffix xs [58]) = Value.bool (!false && (xs.getLast? == some 58))
          rw [suffix_colon]
          rfl
      · go_wp2_with fail
        go_meet
        case rel => exact ⟨by rw [hwd]; rfl, rfl⟩
  obtain ⟨rfl, hwx⟩ := hcut
  replace hwx := hwx.symm
  subst hwx
  go_upto_if 37 with fail
  go_cut [6] (fun v wx => ∃ A2 n2 cap2 ws2 st2, v = .slice A2 n2 cap2 ∧ ws2.length = n2 ∧ n2 ≤ cap2 ∧ Lab2 w wx base gp gm (.slice Al m capl) vj st line rs (w.heap.size + 1) w1.heap.size A2 ws2 st2)
  case first =>
    cases hlb : labOf (wordsR rs) with
    | false =>
      go_wp2_with fail
      go_meet
      case rel => exact ⟨A, n, cap, wordsR rs, st, rfl, HN.out, hnc, ⟨HWS.out, HM.out.nob HO1.out, rfl, rfl, lineP_none hlb, only_ts HO1.out, Nat.le_refl _, HLEN.out⟩⟩
    | true =>
      cases hwd : wordsR rs with
      | nil => rw [hwd] at hlb; cases hlb
      | cons x r =>
        have hw9 := HWS.out
        rw [hwd] at hw9 hlb
        have hisl : isLabel x = true := hlb
        obtain ⟨b, o, rfl, hb1, hb2, hb3, ⟨q0, q1, q2⟩, hrest⟩ := hw9.head
        have hlast : (x.s.getLast? == some 58) = true := by
          unfold isLabel at hisl
          rw [Bool.and_eq_true] at hisl
          exact hisl.2
        have hn1 : n = r.length + 1 := by rw [← HN.out, hwd]; rfl
        have hnI : (0 : Int) < (n : Int) := by omega
        have hx16 : x.s.length ≤ 16000 := HLEN.out x (by rw [hwd]; simp)
        have HTR := hide (fun W => Tryd.strings_TrimSuffix ⟨x.s.toArray⟩ ⟨#[58]⟩ W (arr_le hx16))
        have hsz : (⟨x.s.dropLast.toArray⟩ : ByteArray).size ≤ 16000 := by
          show x.s.dropLast.toArray.size ≤ _
          rw [List.size_toArray, List.length_dropLast]
          omega
        have HNM := hide (fun W => named_any ⟨x.s.dropLast.toArray⟩ (by omega) W)
        have HTX : Hid ((⟨(trimSuffix x.s [58]).toArray⟩ : ByteArray) = ⟨x.s.dropLast.toArray⟩) := hide (by rw [trim_colon _ hlast])
        obtain ⟨nb, hnb⟩ : ∃ nb : ByteArray, (⟨x.s.dropLast.toArray⟩ : ByteArray) = nb := ⟨_, rfl⟩
        have HNB : Hid (nb.data.toList = x.s.dropLast) := hide (by rw [← hnb])
        rw [hnb] at HTX hsz HNM
        rw [HTX.out] at HTR
        clear hnb HTX
        obtain ⟨cl, hlk, _⟩ := (HM.out.nob HO1.out).lab.look nb (by unfold maxLen; omega)
        have g0 := (HM.out.nob HO1.out).cell.cell 0
        have g1 := (HM.out.nob HO1.out).cell.cell 1
        simp at g0 g1
        have hgp1 : gp < w1.heap.size := Nat.lt_of_lt_of_le hgp HO1.out.size
        have HRS := hide hrest
        have HX := hide hisl
        have HWD := hide hwd
        have HN1 := hide hn1
        have hcap1 : 1 ≤ n := by omega
        clear hlast hx16 hw9 hrest hlb hisl hwd hn1
        by_cases hdup : (lookP st.labels nb.data.toList).isSome = true
        · rw [hdup] at hlk
          have HD := hide hdup
          clear hdup
          go_wp2_with (go_at_call 79; refine (HTR.out _).mono ?_; rintro e w2 ⟨rfl, hw2⟩; replace hw2 := hw2.symm; subst hw2)
          go_ret2
          exact TakePost.bad (lineP_dup HWD.out HX.out (.inl (by rw [← HNB.out]; exact HD.out))) (only_ts HO1.out) (HM.out.nob HO1.out)
        · have hdup2 : (lookP st.labels nb.data.toList).isSome = false := by simpa using hdup
          rw [hdup2] at hlk
          have HD := hide hdup2
          clear hdup hdup2
          cases hnm : nameP nb.data.toList with
          | false =>
            rw [hnm] at HNM
            have HNA := hide hnm
            clear hnm
            go_wp2_with (first
              | (go_at_call 79; refine (HTR.out _).mono ?_; rintro e w2 ⟨rfl, hw2⟩; replace hw2 := hw2.symm; subst hw2)
              | (go_at_call 80; refine (HNM.out _).mono ?_; rintro e w2 ⟨rfl, ho2⟩; have HO2 := hide ho2; have q9 := (ho2.cell (p := ⟨b, o + 1, none⟩) hb3 (fun h => h)).trans q1; clear ho2))
            go_ret2
            exact TakePost.bad (lineP_dup HWD.out HX.out (.inr (by rw [← HNB.out]; exact HNA.out))) (only_ts (HO1.out.trans HO2.out)) (HM.out.nob (HO1.out.trans HO2.out))
          | true =>
            rw [hnm] at HNM
            have HNA := hide hnm
            have HNO : Hid (lookP st.labels nb.data.toList = none) := hide (by have := HD.out; rw [Option.isSome_eq_false_iff, Option.isNone_iff_eq_none] at this; exact this)
            clear hnm
            have HST := hide (fun W (ho : Only Nob w1 W) => ((HM.out.nob (HO1.out.trans ho)).lab.drew).store (by omega) nb (by unfold maxLen; omega) HNO.out m (by omega))
            go_wp2_with (first
              | (go_at_call 79; refine (HTR.out _).mono ?_; rintro e w2 ⟨rfl, hw2⟩; replace hw2 := hw2.symm; subst hw2)
              | (go_at_call 80; refine (HNM.out _).mono ?_; rintro e w2 ⟨rfl, ho2⟩; have g3 := (ho2.cell (p := ⟨gp, 0, none⟩) hgp1 (fun h => h)).trans g0; have g4 := (ho2.cell (p := ⟨gp, 1, none⟩) hgp1 (fun h => h)).trans g1; obtain ⟨w3, hup, hlab3, ho3⟩ := HST.out w2 ho2; have HO2 := hide ho2; have HL3 := hide hlab3; have HO3 := hide ho3; clear ho2 hlab3 ho3))
            have HWA : Hid (∀ A2, (A2 = some ⟨b, o + 3, none⟩ ∨ cap = 1) → WsAt w1 (w.heap.size + 1) w1.heap.size A2 r) := hide (fun A2 h => by
              rcases h with h | h
              · rw [h]; exact HRS.out
              · have hr : r = [] := List.eq_nil_of_length_eq_zero (by have := HN1.out; omega)
                rw [hr]
                exact WsAt.nil _ _ _ _)
            have HFIN : Hid (∀ A2, (A2 = some ⟨b, o + 3, none⟩ ∨ cap = 1) → Lab2 w w3 base gp gm (.slice Al m capl) vj st line rs (w.heap.size + 1) w1.heap.size A2 r { st with labels := st.labels ++ [(nb.data.toList, m)] }) := hide (fun A2 h => by
              have hgm := HM.out.gmb
              refine ⟨((HWA.out A2 h).nob (HO2.out.drew)).only HO3.out (fun k h1 h2 e => ?_), ((HM.out.nob (HO1.out.trans HO2.out)).drew).label HO3.out HL3.out, rfl, rfl, ?_, ?_, Nat.le_trans HO2.out.size HO3.out.size, fun y hy => HLEN.out y (by rw [HWD.out]; exact List.mem_cons_of_mem _ hy)⟩
              · have e2 : k = gm := e
                omega
              · rw [lineP_lab HWD.out HX.out (by rw [← HNB.out]; exact HD.out) (by rw [← HNB.out]; exact HNA.out), HNB.out, HLM.out]
              · exact (only_ts (HO1.out.trans HO2.out.drew)).trans (HO3.out.mono (fun k _ hk => .inr (.inl hk))))
            have HR2 : Hid (r.length = n - 1 ∧ n - 1 ≤ cap - 1 ∧ (cap = 1 → n - 1 ≤ 0)) := hide (by have := HN1.out; omega)
            go_region
            all_goals go_wp2_with fail
            all_goals go_meet
            all_goals
              first
                | exact ⟨_, n - 1, cap - 1, r, _, rfl, HR2.out.1, HR2.out.2.1, HFIN.out _ (.inl rfl)⟩
                | exact ⟨_, n - 1, 0, r, _, rfl, HR2.out.1, HR2.out.2.2 (by assumption), HFIN.out _ (.inr (by assumption))⟩
  case rest =>
    obtain ⟨A2, n2, cap2, ws2, st2, rfl, hn2, hnc2, hL⟩ := hcut
    have HL := hide hL
    cases ws2 with
    | nil =>
      have hz : n2 = 0 := by rw [← hn2]; rfl
      subst hz
      clear hL hn2
      go_wp2_with fail
      go_ret2
      exact TakePost.fin (HL.out.eq) HL.out.only HL.out.mem
    | cons x r =>
      have hn1 : n2 = r.length + 1 := by rw [← hn2]; rfl
      have hnI : ((n2 : Int) == 0) = false := by simp; omega
      obtain ⟨b, o, rfl, hb1, hb2, hb3, ⟨q0, q1, q2⟩, hrest⟩ := hL.words.head
      have HOP := hide (fun W => op_any ⟨x.s.toArray⟩ W)
      obtain ⟨nb, hnb⟩ : ∃ nb : ByteArray, (⟨x.s.toArray⟩ : ByteArray) = nb := ⟨_, rfl⟩
      have HNB := hide hnb
      have HOR := hide (op_range nb)
      rw [hnb] at q0 HOP
      have g0 := hL.mem.cell.cell 0
      simp at g0
      have hgpc : gp < wc.heap.size := hL.mem.cell.lt
      have HRS := hide hrest
      have HN2 := hide hn1
      have HN1 : Hid (1 ≤ n2) := hide (by omega)
      clear hnb hL hrest hn1 hn2
      cases hok : isOf nameList nb with
      | false =>
        rw [hok] at HOP
        have HOK := hide hok
        clear hok
        go_wp2_with (go_at_call 81; refine (HOP.out _).mono ?_; rintro e w2 ⟨rfl, hw2⟩; have ho2 : Only Nob wc w2 := (by rw [hw2]; exact (Only.refl _ _).alloc _); clear hw2; have q9 := (ho2.cell (p := ⟨b, o + 1, none⟩) hb3 (fun h => h)).trans q1; have HO2 := hide ho2; clear ho2)
        go_ret2
        exact TakePost.bad (HL.out.eq.trans (instrP_bad (.inr (by rw [HNB.out]; exact HOK.out)))) (HL.out.only.trans (only_ts HO2.out)) (HL.out.mem.nob HO2.out)
      | true =>
        rw [hok] at HOP
        have HOK := hide hok
        clear hok
        obtain ⟨xs, xc, xb⟩ := x
        simp only at q0 q1 q2 HNB
        cases xb with
        | true =>
          go_wp2_with (go_at_call 81; refine (HOP.out _).mono ?_; rintro e w2 ⟨rfl, hw2⟩; have ho2 : Only Nob wc w2 := (by rw [hw2]; exact (Only.refl _ _).alloc _); clear hw2; have q9 := (ho2.cell (p := ⟨b, o + 1, none⟩) hb3 (fun h => h)).trans q1; have q8 := (ho2.cell (p := ⟨b, o + 2, none⟩) hb3 (fun h => h)).trans q2; have HO2 := hide ho2; clear ho2)
          go_ret2
          exact TakePost.bad (HL.out.eq.trans (instrP_bad (.inl rfl))) (HL.out.only.trans (only_ts HO2.out)) (HL.out.mem.nob HO2.out)
        | false =>
          by_cases h40 : 40 ≤ m
          · have h40b : decide ((40 : Int) ≤ (m : Int)) = true := by simp; omega
            go_wp2_with (go_at_call 81; refine (HOP.out _).mono ?_; rintro e w2 ⟨rfl, hw2⟩; have ho2 : Only Nob wc w2 := (by rw [hw2]; exact (Only.refl _ _).alloc _); clear hw2; have q9 := (ho2.cell (p := ⟨b, o + 1, none⟩) hb3 (fun h => h)).trans q1; have q8 := (ho2.cell (p := ⟨b, o + 2, none⟩) hb3 (fun h => h)).trans q2; have g9 := (ho2.cell (p := ⟨gp, 0, none⟩) hgpc (fun h => h)).trans g0; have HO2 := hide ho2; clear ho2)
            go_ret2
            exact TakePost.bad (HL.out.eq.trans (instrP_full rfl (by rw [HNB.out]; exact HOK.out) (by rw [HL.out.l, HLM.out]; exact h40))) (HL.out.only.trans (only_ts HO2.out)) (HL.out.mem.nob HO2.out)
          · have h40b : decide ((40 : Int) ≤ (m : Int)) = false := by simp; omega
            have HEQ : Hid (lineP line st rs = fieldsP line (endR rs) st2 (kindsP (numOf nameList nb)) r ⟨numOf nameList nb, 0, 0, 0, 0⟩ st2.jumps) := hide (by
              rw [HL.out.eq, instrP_go rfl (by rw [HNB.out]; exact HOK.out) (by rw [HL.out.l, HLM.out]; exact h40), HNB.out])
            have HFI := hide (fun W => tfields_any (numOf nameList nb) HOR.out.1 HOR.out.2 W)
            generalize numOf nameList nb = op at *
            go_upto_region 17 with (go_at_call 81; refine (HOP.out _).mono ?_; rintro e w2 ⟨rfl, hw2⟩; have ho2 : Only Nob wc w2 := (by rw [hw2]; exact (Only.refl _ _).alloc _); clear hw2; have q8 := (ho2.cell (p := ⟨b, o + 2, none⟩) hb3 (fun h => h)).trans q2; have g9 := (ho2.cell (p := ⟨gp, 0, none⟩) hgpc (fun h => h)).trans g0; have HO2 := hide ho2; clear ho2)
            have HO3 : Hid (Only Nob wc (w2.alloc (.cells #[.int .i64 op, .int .i64 0, .int .i64 0, .int .i64 0, .int .u64 0] 60))) := hide (HO2.out.alloc _)
            go_cut [6] (fun v wx => (∃ A3 cap3, v = .slice A3 r.length cap3 ∧ r.length ≤ cap3 ∧ WsAt wx (w.heap.size + 1) w1.heap.size A3 r) ∧ wx = w2.alloc (.cells #[.int .i64 op, .int .i64 0, .int .i64 0, .int .i64 0, .int .u64 0] 60))
            case first =>
              have hn9 := HN1.out
              go_wp2_with fail
              all_goals go_meet
              all_goals
                have e9 := HN2.out
                have e8 : n2 - 1 = r.length := by omega
                rw [e8]
                first
                  | exact ⟨⟨_, cap2 - 1, rfl, by omega, HRS.out.nob HO3.out⟩, rfl⟩
                  | exact ⟨⟨_, 0, rfl, by omega, (show r = [] from List.eq_nil_of_length_eq_zero (by omega)) ▸ WsAt.nil _ _ _ _⟩, rfl⟩
            case rest =>
              obtain ⟨⟨A3, cap3, rfl, hc3, hw3⟩, hwx⟩ := hcut
              subst hwx
              have HW3 := hide hw3
              clear hw3
              go_wp2_with (go_at_call 57; refine (HFI.out _).mono ?_; rintro e w3 ⟨rfl, hw3⟩; replace hw3 := hw3.symm; subst hw3)
              have HKS : Hid (∀ y ∈ kindsP op, y ∈ kindSet) := hide (kinds_in op)
              have HKL : Hid ((kindsP op).length ≤ 3) := hide (kinds_len op)
              have HFF : Hid (FF w base gp gm w2.heap.size (w2.heap.size + 1) (.slice Al m capl) (w.heap.size + 1) w1.heap.size) := hide ⟨HB.out, rfl, Nat.le_trans HL.out.size HO2.out.size, rfl, by omega, HM.out.gpb, HM.out.gmb, fun k hk => by have := (HM.out.rowl.lt k hk).2; omega⟩
              have HVJ : Hid (∀ j, vj.ownBlock = some j → j < w.heap.size + 1) := hide (fun j hj => by have := (HM.out.rowj.lt j hj).2; omega)
              have HLS : Hid (∀ y ∈ r, y.s.length ≤ 16000) := hide (fun y hy => HL.out.lens y (List.mem_cons_of_mem _ hy))
              generalize kindsP op = ks at *
              go_loopw [6] (fun v wr => ∃ (k n3 cap3 : Nat) (A3 : Option Addr) (ws3 : List Wd) (x3 : PIns) (js : List JP) (vj3 : Value), v = .slice A3 n3 cap3 ∧ ws3.length = n3 ∧ n3 ≤ cap3 ∧ FL w wr base gp gm w2.heap.size (w2.heap.size + 1) (.slice Al m capl) st2 line rs st (w.heap.size + 1) w1.heap.size ks k A3 ws3 x3 js vj3) (fun _ wr => ks.length - wr.iterPos (w2.heap.size + 1))
              case atStart =>
                exact ⟨0, r.length, cap3, A3, r, ⟨op, 0, 0, 0, 0⟩, st2.jumps, vj, rfl, rfl, hc3, FL.start (x := ⟨op, 0, 0, 0, 0⟩) HFF.out HW3.out HL.out.mem HL.out.only HO2.out HEQ.out HVJ.out HLS.out⟩
              case round =>
                obtain ⟨k, n3, cap9, A9, ws3, x3, js, vj3, rfl, hn3, hc9, hF⟩ := hrel
                have HF := hide hF
                have hit := hF.iter
                have hpos : wr.iterPos (w2.heap.size + 1) = k := by unfold World.iterPos; rw [hit]
                have hgi : w2.heap.size + 1 < wr.heap.size := (Array.getElem?_eq_some_iff.1 hit).1
                clear hF
                by_cases hk : k < ks.length
                · have hksz : k < (⟨ks.toArray⟩ : ByteArray).size := by show k < ks.toArray.size; rw [List.size_toArray]; exact hk
                  have hnx := fun ty => run_next_any_at (P := Tryd.prog) wr (w2.heap.size + 1) ⟨ks.toArray⟩ k ty hit hksz
                  rw [decode_kind HKS.out k hk] at hnx
                  obtain ⟨mv1, mv2, mv3, mv4, mv5, mv6, mv7⟩ := HF.out.moved HFF.out (k + 1)
                  have HMV := hide (show Only (TS base gp gm) w (wr.iterAt (w2.heap.size + 1) ⟨ks.toArray⟩ (k + 1)) from mv4)
                  have HMP := hide mv2
                  have HWK := hide hk
                  cases ws3 with
                  | nil =>
                    have hz : n3 = 0 := by rw [← hn3]; rfl
                    subst hz
                    clear hn3 mv1 mv2 mv3 mv4 mv5 mv6 mv7
                    go_wp2_with fail
                    go_ret2
                    exact TakePost.bad (HF.out.noneLeft HWK.out) HMV.out HMP.out
                  | cons y r3 =>
                    have hz : n3 = r3.length + 1 := by rw [← hn3]; rfl
                    have hn0 : ((n3 : Int) == 0) = false := by simp; omega
                    have hnI3 : (0 : Int) < (n3 : Int) := by omega
                    have hn13 : 1 ≤ n3 := by omega
                    obtain ⟨b3, o3, rfl, hb31, hb32, hb33, ⟨p0, p1, p2⟩, _⟩ := mv1.head
                    obtain ⟨b3', o3', e3, _, _, _, _, htl⟩ := HF.out.words.head
                    injection e3 with e3
                    injection e3 with e31 e32 _
                    subst e31 e32
                    have HTL := hide htl
                    have HZ := hide hz
                    clear htl hn3
                    obtain ⟨ys, yc, yb⟩ := y
                    simp only at p0 p1 p2
                    cases yb with
                    | true =>
                      clear mv1 mv2 mv3 mv4 mv5 mv6 mv7 hz
                      go_wp2_with fail
                      go_ret2
                      exact TakePost.bad (HF.out.bad HWK.out rfl) HMV.out HMP.out
                    | false =>
                      have hgx1 : w2.heap.size ≠ gp := by have := HFF.out.fgp; have := HFF.out.fb; have := HFF.out.fh; have := HFF.out.flh; have := HFF.out.fl; omega
                      have hgx2 : w2.heap.size ≠ gm := by have := HFF.out.fgm; have := HFF.out.fb; have := HFF.out.fh; have := HFF.out.flh; have := HFF.out.fl; omega
                      have hgx3 : vj3.ownBlock ≠ some w2.heap.size := fun e => by have := HF.out.own _ e; have := HFF.out.fh; have := HFF.out.flh; omega
                      have hgx4 : (Value.slice Al m capl).ownBlock ≠ some w2.heap.size := fun e => by have := HFF.out.fvl _ e; have := HFF.out.fh; have := HFF.out.flh; omega
                      have HFA := hide (field_all _ base gp gm (.slice Al m capl) vj3 { st2 with jumps := js } line w2.heap.size x3 ks[k] (HKS.out _ (List.getElem_mem hk)) ys (HF.out.lens ⟨ys, yc, false⟩ (by simp)) yc false mv2 mv6 mv3 hgx1 hgx2 hgx3 hgx4 (by have h1 := HF.out.few; have h2 : st2.jumps = st.jumps := HL.out.jumps; have h3 := HKL.out; show js.length ≤ 1000; rw [h2] at h1; omega) (by show st2.l.length ≤ 1000; rw [HL.out.l, HLM.out]; exact hl))
                      have HNE : Hid (¬ (b3 = w2.heap.size ∨ b3 = gp ∨ vj3.ownBlock = some b3)) := hide (by
                        rintro (e | e | e)
                        · have := HFF.out.fh; omega
                        · have := HFF.out.fgp; have := HFF.out.fb; omega
                        · have := HF.out.own _ e; have := HFF.out.fh; omega)
                      unfold FieldAll at HFA
                      cases hfp : fieldP ks[k] ys x3 with
                      | none =>
                        rw [hfp] at HFA
                        have HFP := hide hfp
                        clear hfp mv1 mv2 mv3 mv4 mv5 mv6 mv7 hz
                        go_wp2_with (go_at_call 82; refine (HFA.out).mono ?_; rintro e w5 ⟨rfl, ho5, vj9, js9, hm9⟩; have HM9 := hide hm9; clear hm9; have p9 := (ho5.cell (p := ⟨b3, o3 + 1, none⟩) hb33 HNE.out).trans p1; have HO5 := hide ho5; clear ho5)
                        go_ret2
                        refine TakePost.bad (HF.out.wrong HWK.out HFP.out) (HMV.out.trans (HO5.out.mono ?_)) HM9.out
                        rintro j _ (e | e | e)
                        · have := HFF.out.fb; have := HFF.out.fh; have := HFF.out.flh; have := HFF.out.fl; exact .inr (.inr (by omega))
                        · exact .inl e
                        · exact .inr (.inr (HF.out.mem.rowj.lt j e).1)
                      | some x' =>
                        rw [hfp] at HFA
                        have HFP := hide hfp
                        clear hfp mv1 mv2 mv3 mv4 mv5 mv6 mv7 hz
                        go_wp2_with (go_at_call 82; refine (HFA.out).mono ?_; rintro e w5 ⟨rfl, vj', k1, k2, k3, k4⟩; have K1 := hide k1; have K2 := hide k2; have K3 := hide k3; have K4 := hide k4; clear k1 k2 k3 k4)
                        all_goals
                          have hz2 := HZ.out
                          have e8 : n3 - 1 = r3.length := by omega
                          have hA : WsAt wr (w.heap.size + 1) w1.heap.size (if cap9 = 1 then some ⟨b3, o3, none⟩ else some ⟨b3, o3 + 3, none⟩) r3 := by
                            split
                            · have hr : r3 = [] := List.eq_nil_of_length_eq_zero (by omega)
                              rw [hr]
                              exact WsAt.nil _ _ _ _
                            · exact HTL.out
                          have HR := HF.out.round HFF.out HWK.out rfl HFP.out K3.out K1.out K2.out K4.out hA
                          rw [e8]
                          refine ⟨⟨k + 1, r3.length, cap9 - 1, _, r3, x', _, vj', rfl, rfl, by omega, HR⟩, ?_⟩
                          rw [hpos, HR.pos]
                          omega
                · have hksz : ¬ k < (⟨ks.toArray⟩ : ByteArray).size := by
                    intro h
                    apply hk
                    have h2 : (⟨ks.toArray⟩ : ByteArray).size = ks.length := by
                      show ks.toArray.size = _
                      rw [List.size_toArray]
                    omega
                  have hnx := fun ty => run_next_end_at (P := Tryd.prog) wr (w2.heap.size + 1) ⟨ks.toArray⟩ k ty hit hksz
                  have HWK := hide hk
                  cases ws3 with
                  | cons y r3 =>
                    have hz : n3 = r3.length + 1 := by rw [← hn3]; rfl
                    have hnI3 : (0 : Int) < (n3 : Int) := by omega
                    have hn13 : 1 ≤ n3 := by omega
                    obtain ⟨b3, o3, rfl, hb31, hb32, hb33, ⟨p0, p1, p2⟩, _⟩ := HF.out.words.head
                    clear hn3 hz
                    go_wp2_with fail
                    go_ret2
                    exact TakePost.bad (HF.out.more HWK.out) HF.out.only HF.out.mem
                  | nil =>
                    have hz : n3 = 0 := by rw [← hn3]; rfl
                    subst hz
                    clear hn3
                    go_upto_region 28 with fail
                    obtain ⟨i0, hi, hz⟩ := Option.map_eq_some_iff.1 infoIns
                    simp only [Prod.mk.injEq] at hz
                    obtain ⟨hz0, hz1, hz2⟩ := hz
                    have hbk := HF.out.mem.cell
                    have c0 := hbk.cell 0
                    simp at c0
                    have hgw : gp < wr.heap.size := hbk.lt
                    have HMM : Hid (st2.l.length = m) := hide (by rw [HL.out.l, HLM.out])
                    have HXB := hide HF.out.xb
                    have HS : Hid (∀ W1, Only Nob wr W1 → (W1.cell? ⟨w2.heap.size, 0, none⟩ = some (.int .i64 x3.op) ∧ W1.cell? ⟨w2.heap.size, 1, none⟩ = some (.int .i64 x3.a) ∧ W1.cell? ⟨w2.heap.size, 2, none⟩ = some (.int .i64 x3.b) ∧ W1.cell? ⟨w2.heap.size, 3, none⟩ = some (.int .i64 x3.c) ∧ W1.cell? ⟨w2.heap.size, 4, none⟩ = some (.int .u64 x3.n))) := hide (fun W1 ho => by
                      have h9 := Blk.only HXB.out ho (fun h => h)
                      exact ⟨h9.cell 0, h9.cell 1, h9.cell 2, h9.cell 3, h9.cell 4⟩)
                    have HO8 : Hid (Only Nob wr ((wr.alloc (.cells #[.int .i64 x3.op, .int .i64 x3.a, .int .i64 x3.b, .int .i64 x3.c, .int .u64 x3.n] 60)).drew)) := hide (((Only.refl _ wr).alloc _).drew)
                    have HS0 := HS.out wr.drew ((Only.refl _ wr).drew)
                    have HS1 := HS.out ((wr.alloc (.cells #[.int .i64 x3.op, .int .i64 x3.a, .int .i64 x3.b, .int .i64 x3.c, .int .u64 x3.n] 60)).drew) HO8.out
                    have HROW : Hid (((wr.alloc (.cells #[.int .i64 x3.op, .int .i64 x3.a, .int .i64 x3.b, .int .i64 x3.c, .int .u64 x3.n] 60)).drew).ownsRow base 60 5 (.slice Al m capl) m (progCells st2.l)) := hide (by have h9 := (HF.out.mem.nob HO8.out).rowl; unfold PRow at h9; rw [show ({ st2 with jumps := js } : PS).l = st2.l from rfl, HMM.out] at h9; exact h9)
                    have HL1 : Hid (m + 1 ≤ maxLen) := hide (by unfold maxLen; omega)
                    have HL2 : Hid ((m + 1) * 40 ≤ 140737488355328) := hide (by omega)
                    have HL3 : Hid (base ≤ ((wr.alloc (.cells #[.int .i64 x3.op, .int .i64 x3.a, .int .i64 x3.b, .int .i64 x3.c, .int .u64 x3.n] 60)).drew).heap.size) := hide (by have h9 := HO8.out.size; have := HFF.out.fb; have := HF.out.only.size; omega)
                    have HRD := hide (reads_insD wr x3)
                    have HGX : Hid (¬ ((Value.slice Al m capl).ownBlock = some w2.heap.size)) := hide (fun e => by have := HFF.out.fvl _ e; have := HFF.out.fh; have := HFF.out.flh; omega)
                    have HGX2 : Hid (w2.heap.size ≠ gp) := hide (by have := HFF.out.fgp; have := HFF.out.fb; have := HFF.out.fh; have := HFF.out.flh; have := HFF.out.fl; omega)
                    clear hbk
                    refine wp_region_noPanic ?_
                    refine wp_region_held_drew (S := (fun W1 => W1.cell? ⟨w2.heap.size, 0, none⟩ = some (.int .i64 x3.op) ∧ W1.cell? ⟨w2.heap.size, 1, none⟩ = some (.int .i64 x3.a) ∧ W1.cell? ⟨w2.heap.size, 2, none⟩ = some (.int .i64 x3.b) ∧ W1.cell? ⟨w2.heap.size, 3, none⟩ = some (.int .i64 x3.c) ∧ W1.cell? ⟨w2.heap.size, 4, none⟩ = some (.int .u64 x3.n))) (by kernel_rfl) HS0 (fun hh0 => ?_)
                    refine wpAnyH_take (i := 0) (oi := { dst := some 147, op := Op.move (Operand.tmp 0), type := 97, pos := "text.go:194", after := #[], guard := none }) (v := ?_) rfl (by kernel_rfl) (by kernel_rfl) (by kernel_rfl) (fun _ _ _ h => h) (Or.inl ⟨by rfl, ?_⟩) (by assumption) ?_
                    rotate_left
                    · intro w hSw
                      try dsimp only at hSw
                      go_simp <;> (try with_reducible rfl)
                    try simp only [Act.put, List.setIfInBounds_toArray, List.set_cons_zero, List.set_cons_succ]
                    refine wpAnyH_take (i := 1) (oi := { dst := some 148, op := Op.move (Operand.tmp 0), type := 97, pos := "text.go:194", after := #[], guard := none }) (v := ?_) rfl (by kernel_rfl) (by kernel_rfl) (by kernel_rfl) (fun _ _ _ h => h) (Or.inl ⟨by rfl, ?_⟩) (by assumption) ?_
                    rotate_left
                    · intro w hSw
                      try dsimp only at hSw
                      go_simp <;> (try with_reducible rfl)
                    try simp only [Act.put, List.setIfInBounds_toArray, List.set_cons_zero, List.set_cons_succ]
                    refine wpAnyH_take (i := 2) (oi := { dst := some 149, op := Op.nilCheck (Operand.tmp 148), type := 0, pos := "text.go:194", after := #[{ on := 1, ground := Ground.data }], guard := none }) (v := ?_) rfl (by kernel_rfl) (by kernel_rfl) (by kernel_rfl) (fun _ _ _ h => h) (Or.inl ⟨by rfl, ?_⟩) (by assumption) ?_
                    rotate_left
                    · intro w hSw
                      try dsimp only at hSw
                      go_simp <;> (try with_reducible rfl)
                    try simp only [Act.put, List.setIfInBounds_toArray, List.set_cons_zero, List.set_cons_succ]
                    refine wpAnyH_take (i := 3) (oi := { dst := some 150, op := Op.fieldAddr 101 (Operand.tmp 149) 0, type := 0, pos := "text.go:194", after := #[{ on := 2, ground := Ground.data }], guard := none }) (v := ?_) rfl (by kernel_rfl) (by kernel_rfl) (by kernel_rfl) (fun _ _ _ h => h) (Or.inl ⟨by rfl, ?_⟩) (by assumption) ?_
                    rotate_left
                    · intro w hSw
                      try dsimp only at hSw
                      go_simp <;> (try with_reducible rfl)
                    try simp only [Act.put, List.setIfInBounds_toArray, List.set_cons_zero, List.set_cons_succ]
                    refine wpAnyH_take (i := 5) (oi := { dst := some 152, op := Op.load 60 (Operand.tmp 13), type := 60, pos := "text.go:194", after := #[], guard := none }) (v := ?_) rfl (by kernel_rfl) (by kernel_rfl) (by kernel_rfl) (fun _ _ _ h => h) (Or.inl ⟨by rfl, ?_⟩) (by assumption) ?_
                    rotate_left
                    · intro w hSw
                      try dsimp only at hSw
                      go_simp <;> (try with_reducible rfl)
                    try simp only [Act.put, List.setIfInBounds_toArray, List.set_cons_zero, List.set_cons_succ]
                    refine wpAnyH_ready (rs := [4, 6]) (by kernel_rfl) (by simp) ?_
                    refine AllReadyH.cons (o := { dst := some 151, op := Op.load 53 (Operand.tmp 150), type := 53, pos := "text.go:194", after := #[{ on := 3, ground := Ground.data }], guard := none }) rfl (fun K hK => ?_) (AllReadyH.cons (o := { dst := some 153, op := Op.buildSlice 53 1 #[(0, Operand.tmp 152)], type := 53, pos := "text.go:194", after := #[{ on := 5, ground := Ground.data }], guard := none }) rfl (fun K hK => ?_) AllReadyH.nil)
                    · go_simp
                      first | (refine hK.out _ _ ?_ (fun hh1 => ?_)) | (go_wp2_with fail; refine hK.out _ _ ?_ (fun hh1 => ?_))
                      · exact HS0
                      clear hK K
                      try simp only [Act.put, List.setIfInBounds_toArray, List.set_cons_zero, List.set_cons_succ]
                      refine wpAnyH_ready (rs := [6]) (by kernel_rfl) (by simp) ?_
                      refine AllReadyH.cons (o := { dst := some 153, op := Op.buildSlice 53 1 #[(0, Operand.tmp 152)], type := 53, pos := "text.go:194", after := #[{ on := 5, ground := Ground.data }], guard := none }) rfl (fun K hK => ?_) AllReadyH.nil
                      go_simp
                      first | (refine hK.out _ _ ?_ (fun hh2 => ?_)) | (go_wp2_with fail; refine hK.out _ _ ?_ (fun hh2 => ?_))
                      · exact HS1
                      clear hK K
                      try simp only [Act.put, List.setIfInBounds_toArray, List.set_cons_zero, List.set_cons_succ]
                      refine wpAnyH_ready (rs := [7]) (by kernel_rfl) (by simp) ?_
                      refine AllReadyH.cons (o := { dst := some 154, op := Op.call { callee := Callee.builtin Builtin.append, args := #[Operand.tmp 151, Operand.tmp 153], argTypes := #[53, 53] }, type := 53, pos := "text.go:194", after := #[{ on := 4, ground := Ground.data }, { on := 6, ground := Ground.data }], guard := none }) rfl (fun K hK => ?_) AllReadyH.nil
                      refine step_append_any _ rfl _ _ 53 rfl base 60 i0 (.agg #[.int .i64 0, .int .i64 0, .int .i64 0, .int .i64 0, .int .u64 0]) 5 40 Tryd.underlying53 hi hz0 hz1 hz2 rfl (by decide) (.slice Al m capl) m (progCells st2.l) rfl HROW.out (wr.heap.size + 1) (some ⟨wr.heap.size, 0, none⟩) 1 1 (insCells x3) rfl HRD.out (ins_one x3) HL1.out HL2.out HL3.out ?_
                      intro v' w7 hown hgrow hblk
                      obtain ⟨g9, c9, rfl⟩ := row_succ hown
                      have hb3' := HF.out.mem.grownCellL HO8.out hgrow
                      have q2 := hb3'.cell 0
                      have f2 := hb3'.frozen 0
                      simp at q2
                      have HJ := hide (HF.out.mem.pushL HO8.out (x := x3) HMM.out hown hgrow hblk)
                      have hxk := (Blk.only HXB.out HO8.out (fun h => h)).only (Only.of_grown (S := fun k => (Value.slice Al m capl).ownBlock = some k) hgrow (fun k hk _ => hk)) HGX.out
                      have hs3 : w7.cell? ⟨w2.heap.size, 0, none⟩ = some (.int .i64 x3.op) ∧ w7.cell? ⟨w2.heap.size, 1, none⟩ = some (.int .i64 x3.a) ∧ w7.cell? ⟨w2.heap.size, 2, none⟩ = some (.int .i64 x3.b) ∧ w7.cell? ⟨w2.heap.size, 3, none⟩ = some (.int .i64 x3.c) ∧ w7.cell? ⟨w2.heap.size, 4, none⟩ = some (.int .u64 x3.n) := ⟨hxk.cell 0, hxk.cell 1, hxk.cell 2, hxk.cell 3, hxk.cell 4⟩
                      have hxf := hxk.far (p := ⟨gp, 0, none⟩) HGX2.out (.slice (some ⟨g9, 0, none⟩) (m + 1) c9)
                      have hs4 : (w7.setCell ⟨gp, 0, none⟩ (.slice (some ⟨g9, 0, none⟩) (m + 1) c9)).cell? ⟨w2.heap.size, 0, none⟩ = some (.int .i64 x3.op) ∧ (w7.setCell ⟨gp, 0, none⟩ (.slice (some ⟨g9, 0, none⟩) (m + 1) c9)).cell? ⟨w2.heap.size, 1, none⟩ = some (.int .i64 x3.a) ∧ (w7.setCell ⟨gp, 0, none⟩ (.slice (some ⟨g9, 0, none⟩) (m + 1) c9)).cell? ⟨w2.heap.size, 2, none⟩ = some (.int .i64 x3.b) ∧ (w7.setCell ⟨gp, 0, none⟩ (.slice (some ⟨g9, 0, none⟩) (m + 1) c9)).cell? ⟨w2.heap.size, 3, none⟩ = some (.int .i64 x3.c) ∧ (w7.setCell ⟨gp, 0, none⟩ (.slice (some ⟨g9, 0, none⟩) (m + 1) c9)).cell? ⟨w2.heap.size, 4, none⟩ = some (.int .u64 x3.n) := ⟨hxf.cell 0, hxf.cell 1, hxf.cell 2, hxf.cell 3, hxf.cell 4⟩
                      clear hown hgrow hblk hb3' hxk hxf
                      refine hK.out _ _ ?_ (fun hh3 => ?_)
                      · exact hs3
                      clear hK K
                      try simp only [Act.put, List.setIfInBounds_toArray, List.set_cons_zero, List.set_cons_succ]
                      refine wpAnyH_take (i := 8) (oi := { dst := some 155, op := Op.nilCheck (Operand.tmp 147), type := 0, pos := "text.go:194", after := #[{ on := 0, ground := Ground.data }, { on := 0, ground := Ground.phase }, { on := 1, ground := Ground.phase }, { on := 2, ground := Ground.phase }, { on := 3, ground := Ground.phase }, { on := 4, ground := Ground.phase }, { on := 5, ground := Ground.phase }, { on := 6, ground := Ground.phase }, { on := 7, ground := Ground.phase }], guard := none }) (v := ?_) rfl (by kernel_rfl) (by kernel_rfl) (by kernel_rfl) (fun _ _ _ h => h) (Or.inl ⟨by rfl, ?_⟩) (by assumption) ?_
                      rotate_left
                      · intro w hSw
                        try dsimp only at hSw
                        go_simp <;> (try with_reducible rfl)
                      try simp only [Act.put, List.setIfInBounds_toArray, List.set_cons_zero, List.set_cons_succ]
                      refine wpAnyH_take (i := 9) (oi := { dst := some 156, op := Op.fieldAddr 101 (Operand.tmp 155) 0, type := 0, pos := "text.go:194", after := #[{ on := 8, ground := Ground.data }, { on := 0, ground := Ground.phase }, { on := 1, ground := Ground.phase }, { on := 2, ground := Ground.phase }, { on := 3, ground := Ground.phase }, { on := 4, ground := Ground.phase }, { on := 5, ground := Ground.phase }, { on := 6, ground := Ground.phase }, { on := 7, ground := Ground.phase }], guard := none }) (v := ?_) rfl (by kernel_rfl) (by kernel_rfl) (by kernel_rfl) (fun _ _ _ h => h) (Or.inl ⟨by rfl, ?_⟩) (by assumption) ?_
                      rotate_left
                      · intro w hSw
                        try dsimp only at hSw
                        go_simp <;> (try with_reducible rfl)
                      try simp only [Act.put, List.setIfInBounds_toArray, List.set_cons_zero, List.set_cons_succ]
                      refine wpAnyH_ready (rs := [10]) (by kernel_rfl) (by simp) ?_
                      refine AllReadyH.cons (o := { dst := none, op := Op.store 53 (Operand.tmp 156) (Operand.tmp 154), type := 0, pos := "text.go:194", after := #[{ on := 9, ground := Ground.data }, { on := 7, ground := Ground.data }, { on := 7, ground := Ground.chain }, { on := 0, ground := Ground.phase }, { on := 1, ground := Ground.phase }, { on := 2, ground := Ground.phase }, { on := 3, ground := Ground.phase }, { on := 4, ground := Ground.phase }, { on := 5, ground := Ground.phase }, { on := 6, ground := Ground.phase }, { on := 7, ground := Ground.phase }], guard := none }) rfl (fun K hK => ?_) AllReadyH.nil
                      go_simp
                      first | (refine hK.out _ _ ?_ (fun hh4 => ?_)) | (go_wp2_with fail; refine hK.out _ _ ?_ (fun hh4 => ?_))
                      · exact hs4
                      clear hK K
                      try simp only [Act.put, List.setIfInBounds_toArray, List.set_cons_zero, List.set_cons_succ]
                      refine wpAnyH_done (by kernel_rfl) ?_ _
                      refine NoPanic.normal ?_
                      go_wp2_with fail
                      go_ret2
                      obtain ⟨k1, k2⟩ := HJ.out
                      refine TakePost.fin (HF.out.done HWK.out) (HF.out.only.trans (k2.mono ?_)) k1
                      rintro j _ (e | e)
                      · exact .inl e
                      · exact .inr (.inr (HF.out.mem.rowl.lt j e).1)
                    · go_simp
                      first | (refine hK.out _ _ ?_ (fun hh1 => ?_)) | (go_wp2_with fail; refine hK.out _ _ ?_ (fun hh1 => ?_))
                      · exact HS1
                      clear hK K
                      try simp only [Act.put, List.setIfInBounds_toArray, List.set_cons_zero, List.set_cons_succ]
                      refine wpAnyH_ready (rs := [4]) (by kernel_rfl) (by simp) ?_
                      refine AllReadyH.cons (o := { dst := some 151, op := Op.load 53 (Operand.tmp 150), type := 53, pos := "text.go:194", after := #[{ on := 3, ground := Ground.data }], guard := none }) rfl (fun K hK => ?_) AllReadyH.nil
                      go_simp
                      first | (refine hK.out _ _ ?_ (fun hh2 => ?_)) | (go_wp2_with fail; refine hK.out _ _ ?_ (fun hh2 => ?_))
                      · exact HS1
                      clear hK K
                      try simp only [Act.put, List.setIfInBounds_toArray, List.set_cons_zero, List.set_cons_succ]
                      refine wpAnyH_ready (rs := [7]) (by kernel_rfl) (by simp) ?_
                      refine AllReadyH.cons (o := { dst := some 154, op := Op.call { callee := Callee.builtin Builtin.append, args := #[Operand.tmp 151, Operand.tmp 153], argTypes := #[53, 53] }, type := 53, pos := "text.go:194", after := #[{ on := 4, ground := Ground.data }, { on := 6, ground := Ground.data }], guard := none }) rfl (fun K hK => ?_) AllReadyH.nil
                      refine step_append_any _ rfl _ _ 53 rfl base 60 i0 (.agg #[.int .i64 0, .int .i64 0, .int .i64 0, .int .i64 0, .int .u64 0]) 5 40 Tryd.underlying53 hi hz0 hz1 hz2 rfl (by decide) (.slice Al m capl) m (progCells st2.l) rfl HROW.out (wr.heap.size + 1) (some ⟨wr.heap.size, 0, none⟩) 1 1 (insCells x3) rfl HRD.out (ins_one x3) HL1.out HL2.out HL3.out ?_
                      intro v' w7 hown hgrow hblk
                      obtain ⟨g9, c9, rfl⟩ := row_succ hown
                      have hb3' := HF.out.mem.grownCellL HO8.out hgrow
                      have q2 := hb3'.cell 0
                      have f2 := hb3'.frozen 0
                      simp at q2
                      have HJ := hide (HF.out.mem.pushL HO8.out (x := x3) HMM.out hown hgrow hblk)
                      have hxk := (Blk.only HXB.out HO8.out (fun h => h)).only (Only.of_grown (S := fun k => (Value.slice Al m capl).ownBlock = some k) hgrow (fun k hk _ => hk)) HGX.out
                      have hs3 : w7.cell? ⟨w2.heap.size, 0, none⟩ = some (.int .i64 x3.op) ∧ w7.cell? ⟨w2.heap.size, 1, none⟩ = some (.int .i64 x3.a) ∧ w7.cell? ⟨w2.heap.size, 2, none⟩ = some (.int .i64 x3.b) ∧ w7.cell? ⟨w2.heap.size, 3, none⟩ = some (.int .i64 x3.c) ∧ w7.cell? ⟨w2.heap.size, 4, none⟩ = some (.int .u64 x3.n) := ⟨hxk.cell 0, hxk.cell 1, hxk.cell 2, hxk.cell 3, hxk.cell 4⟩
                      have hxf := hxk.far (p := ⟨gp, 0, none⟩) HGX2.out (.slice (some ⟨g9, 0, none⟩) (m + 1) c9)
                      have hs4 : (w7.setCell ⟨gp, 0, none⟩ (.slice (some ⟨g9, 0, none⟩) (m + 1) c9)).cell? ⟨w2.heap.size, 0, none⟩ = some (.int .i64 x3.op) ∧ (w7.setCell ⟨gp, 0, none⟩ (.slice (some ⟨g9, 0, none⟩) (m + 1) c9)).cell? ⟨w2.heap.size, 1, none⟩ = some (.int .i64 x3.a) ∧ (w7.setCell ⟨gp, 0, none⟩ (.slice (some ⟨g9, 0, none⟩) (m + 1) c9)).cell? ⟨w2.heap.size, 2, none⟩ = some (.int .i64 x3.b) ∧ (w7.setCell ⟨gp, 0, none⟩ (.slice (some ⟨g9, 0, none⟩) (m + 1) c9)).cell? ⟨w2.heap.size, 3, none⟩ = some (.int .i64 x3.c) ∧ (w7.setCell ⟨gp, 0, none⟩ (.slice (some ⟨g9, 0, none⟩) (m + 1) c9)).cell? ⟨w2.heap.size, 4, none⟩ = some (.int .u64 x3.n) := ⟨hxf.cell 0, hxf.cell 1, hxf.cell 2, hxf.cell 3, hxf.cell 4⟩
                      clear hown hgrow hblk hb3' hxk hxf
                      refine hK.out _ _ ?_ (fun hh3 => ?_)
                      · exact hs3
                      clear hK K
                      try simp only [Act.put, List.setIfInBounds_toArray, List.set_cons_zero, List.set_cons_succ]
                      refine wpAnyH_take (i := 8) (oi := { dst := some 155, op := Op.nilCheck (Operand.tmp 147), type := 0, pos := "text.go:194", after := #[{ on := 0, ground := Ground.data }, { on := 0, ground := Ground.phase }, { on := 1, ground := Ground.phase }, { on := 2, ground := Ground.phase }, { on := 3, ground := Ground.phase }, { on := 4, ground := Ground.phase }, { on := 5, ground := Ground.phase }, { on := 6, ground := Ground.phase }, { on := 7, ground := Ground.phase }], guard := none }) (v := ?_) rfl (by kernel_rfl) (by kernel_rfl) (by kernel_rfl) (fun _ _ _ h => h) (Or.inl ⟨by rfl, ?_⟩) (by assumption) ?_
                      rotate_left
                      · intro w hSw
                        try dsimp only at hSw
                        go_simp <;> (try with_reducible rfl)
                      try simp only [Act.put, List.setIfInBounds_toArray, List.set_cons_zero, List.set_cons_succ]
                      refine wpAnyH_take (i := 9) (oi := { dst := some 156, op := Op.fieldAddr 101 (Operand.tmp 155) 0, type := 0, pos := "text.go:194", after := #[{ on := 8, ground := Ground.data }, { on := 0, ground := Ground.phase }, { on := 1, ground := Ground.phase }, { on := 2, ground := Ground.phase }, { on := 3, ground := Ground.phase }, { on := 4, ground := Ground.phase }, { on := 5, ground := Ground.phase }, { on := 6, ground := Ground.phase }, { on := 7, ground := Ground.phase }], guard := none }) (v := ?_) rfl (by kernel_rfl) (by kernel_rfl) (by kernel_rfl) (fun _ _ _ h => h) (Or.inl ⟨by rfl, ?_⟩) (by assumption) ?_
                      rotate_left
                      · intro w hSw
                        try dsimp only at hSw
                        go_simp <;> (try with_reducible rfl)
                      try simp only [Act.put, List.setIfInBounds_toArray, List.set_cons_zero, List.set_cons_succ]
                      refine wpAnyH_ready (rs := [10]) (by kernel_rfl) (by simp) ?_
                      refine AllReadyH.cons (o := { dst := none, op := Op.store 53 (Operand.tmp 156) (Operand.tmp 154), type := 0, pos := "text.go:194", after := #[{ on := 9, ground := Ground.data }, { on := 7, ground := Ground.data }, { on := 7, ground := Ground.chain }, { on := 0, ground := Ground.phase }, { on := 1, ground := Ground.phase }, { on := 2, ground := Ground.phase }, { on := 3, ground := Ground.phase }, { on := 4, ground := Ground.phase }, { on := 5, ground := Ground.phase }, { on := 6, ground := Ground.phase }, { on := 7, ground := Ground.phase }], guard := none }) rfl (fun K hK => ?_) AllReadyH.nil
                      go_simp
                      first | (refine hK.out _ _ ?_ (fun hh4 => ?_)) | (go_wp2_with fail; refine hK.out _ _ ?_ (fun hh4 => ?_))
                      · exact hs4
                      clear hK K
                      try simp only [Act.put, List.setIfInBounds_toArray, List.set_cons_zero, List.set_cons_succ]
                      refine wpAnyH_done (by kernel_rfl) ?_ _
                      refine NoPanic.normal ?_
                      go_wp2_with fail
                      go_ret2
                      obtain ⟨k1, k2⟩ := HJ.out
                      refine TakePost.fin (HF.out.done HWK.out) (HF.out.only.trans (k2.mono ?_)) k1
                      rintro j _ (e | e)
                      · exact .inl e
                      · exact .inr (.inr (HF.out.mem.rowl.lt j e).1)
end Go.Proofs.YtngahgfppbjebaaDoor

/-
  What 'take' gives; what its loop over the fields stands on.
-/
import Derived.Test.YtngahgfppbjebaaDoorTxFAll
namespace Go.Proofs.YtngahgfppbjebaaDoor
open Go.RowKit Go.Lib
set_option linter.unusedVariables false
set_option linter.unusedSimpArgs false

def TS (base gp gm : Nat) : Nat → Prop := fun k => k = gp ∨ k = gm ∨ base ≤ k
def TakePost (w : World) (base gp gm : Nat) (st : PS) (line : Nat) (rs : List Rn) (e : Ending) (w' : World) : Prop := Only (TS base gp gm) w w' ∧ match lineP line st rs with
  | .ok st' => e = .returned (.tuple #[.int .i64 0, .int .i64 0]) ∧ ∃ vl' vj', PMem w' base gp gm vl' vj' st' line
  | .err c er => e = .returned (.tuple #[.int .i64 (c : Int), .int .i64 (er : Int)]) ∧ ∃ vl' vj' st', PMem w' base gp gm vl' vj' st' line
/-- Behind the label: the words that are left, what is known. -/
structure Lab2 (w wx : World) (base gp gm : Nat) (vl vj : Value) (st : PS) (line : Nat) (rs : List Rn) (lo hi : Nat) (A : Option Addr) (ws : List Wd) (st2 : PS) : Prop where
  words : WsAt wx lo hi A ws
  mem : PMem wx base gp gm vl vj st2 line
  l : st2.l = st.l
  jumps : st2.jumps = st.jumps
  eq : lineP line st rs = instrP line (endR rs) st2 ws
  only : Only (TS base gp gm) w wx
  size : hi ≤ wx.heap.size
  lens : ∀ y ∈ ws, y.s.length ≤ 16000
theorem instrP_bad {line endc : Nat} {st : PS} {x : Wd} {r : List Wd} (h : x.bad = true ∨ isOf nameList ⟨x.s.toArray⟩ = false) : instrP line endc st (x :: r) = .err x.col 12 := by
  rcases h with h | h <;> simp [instrP, h]
theorem instrP_full {line endc : Nat} {st : PS} {x : Wd} {r : List Wd} (h1 : x.bad = false) (h2 : isOf nameList ⟨x.s.toArray⟩ = true) (h : 40 ≤ st.l.length) : instrP line endc st (x :: r) = .err x.col 4 := by
  simp [instrP, h1, h2, h]
theorem instrP_go {line endc : Nat} {st : PS} {x : Wd} {r : List Wd} (h1 : x.bad = false) (h2 : isOf nameList ⟨x.s.toArray⟩ = true) (h : ¬ 40 ≤ st.l.length) : instrP line endc st (x :: r) = fieldsP line endc st (kindsP (numOf nameList ⟨x.s.toArray⟩)) r ⟨numOf nameList ⟨x.s.toArray⟩, 0, 0, 0, 0⟩ st.jumps := by
  simp only [instrP, h1, h2, Bool.false_or, Bool.not_true, Bool.false_eq_true, if_false, if_neg h]
theorem op_range (s : ByteArray) : 0 ≤ numOf nameList s ∧ numOf nameList s ≤ 23 := by
  have h := fold_num nameList_ok nameList_len (by decide +kernel) s
  have h2 := lastOf_range nameList s 23
  rw [h.1] at h2
  exact h2
def labOf : List Wd → Bool
  | [] => false
  | x :: _ => isLabel x
theorem lineP_none {line : Nat} {st : PS} {rs : List Rn} (h : labOf (wordsR rs) = false) : lineP line st rs = instrP line (endR rs) st (wordsR rs) := by
  unfold lineP
  cases hw : wordsR rs with
  | nil => rfl
  | cons x r =>
    rw [hw] at h
    have h2 : isLabel x = false := h
    simp [h2]
theorem lineP_dup {line : Nat} {st : PS} {rs : List Rn} {x : Wd} {r : List Wd} (hw : wordsR rs = x :: r) (hx : isLabel x = true) (h : (lookP st.labels x.s.dropLast).isSome = true ∨ nameP x.s.dropLast = false) : lineP line st rs = .err x.col 12 := by
  unfold lineP
  rw [hw]
  simp only [hx, if_true]
  rcases h with h | h <;> simp [h]
theorem lineP_lab {line : Nat} {st : PS} {rs : List Rn} {x : Wd} {r : List Wd} (hw : wordsR rs = x :: r) (hx : isLabel x = true) (h1 : (lookP st.labels x.s.dropLast).isSome = false) (h2 : nameP x.s.dropLast = true) :
    lineP line st rs = instrP line (endR rs) { st with labels := st.labels ++ [(x.s.dropLast, st.l.length)] } r := by
  unfold lineP
  rw [hw]
  simp only [hx, if_true]
  simp [h1, h2]
theorem TakePost.bad {w w' : World} {base gp gm line c er : Nat} {vl' vj' : Value} {st st' : PS} {rs : List Rn} (h : lineP line st rs = .err c er) (ho : Only (TS base gp gm) w w') (hm : PMem w' base gp gm vl' vj' st' line) : TakePost w base gp gm st line rs (.returned (.tuple #[.int .i64 (c : Int), .int .i64 (er : Int)])) w' := by
  unfold TakePost
  rw [h]
  exact ⟨ho, rfl, vl', vj', st', hm⟩
theorem TakePost.fin {w w' : World} {base gp gm line : Nat} {vl' vj' : Value} {st st' : PS} {rs : List Rn} (h : lineP line st rs = .ok st') (ho : Only (TS base gp gm) w w') (hm : PMem w' base gp gm vl' vj' st' line) : TakePost w base gp gm st line rs (.returned (.tuple #[.int .i64 0, .int .i64 0])) w' := by
  unfold TakePost
  rw [h]
  exact ⟨ho, rfl, vl', vj', hm⟩
theorem only_ts {w w' : World} {base gp gm : Nat} (h : Only Nob w w') : Only (TS base gp gm) w w' := h.mono (fun _ _ h => h.elim)
theorem arr_le {l : List UInt8} (h : l.length ≤ 16000) : (⟨l.toArray⟩ : ByteArray).size ≤ 9223372036854775807 := by
  show l.toArray.size ≤ _
  rw [List.size_toArray]
  omega

/-- Between two fields. -/
structure FL (w wr : World) (base gp gm gx gi : Nat) (vl : Value) (st2 : PS) (line : Nat) (rs : List Rn) (st : PS) (lo hi : Nat) (ks : List UInt8) (k : Nat) (A3 : Option Addr) (ws3 : List Wd) (x3 : PIns) (js : List JP) (vj3 : Value) : Prop where
  iter : wr.heap[gi]? = some (.stringIter ⟨ks.toArray⟩ k)
  le : k ≤ ks.length
  words : WsAt wr lo hi A3 ws3
  mem : PMem wr base gp gm vl vj3 { st2 with jumps := js } line
  xb : InsBlk wr gx x3
  eq : lineP line st rs = fieldsP line (endR rs) st2 (ks.drop k) ws3 x3 js
  only : Only (TS base gp gm) w wr
  own : ∀ j, vj3.ownBlock = some j → j < lo ∨ gi < j
  lens : ∀ y ∈ ws3, y.s.length ≤ 16000
  few : js.length ≤ st2.jumps.length + k
/-- What stands fast. -/
structure FF (w : World) (base gp gm gx gi : Nat) (vl : Value) (lo hi : Nat) : Prop where
  fb : base ≤ w.heap.size
  fl : lo = w.heap.size + 1
  fh : hi ≤ gx
  fi : gi = gx + 1
  flh : lo ≤ hi
  fgp : gp < base
  fgm : gm < base
  fvl : ∀ k, vl.ownBlock = some k → k < lo
section
variable {w wr : World} {base gp gm gx gi : Nat} {vl : Value} {st2 st : PS} {line : Nat} {rs : List Rn} {lo hi : Nat} {ks : List UInt8} {k : Nat} {A3 : Option Addr} {ws3 : List Wd} {x3 : PIns} {js : List JP} {vj3 : Value}
theorem only_iter1 (W : World) (g : Nat) (S : ByteArray) (p : Nat) : Only (fun j => j = g) W (W.iterAt g S p) := only_iterAt W g S p
/-- Behind the rune: the iterator's block alone has turned. -/
theorem FL.moved (h : FL w wr base gp gm gx gi vl st2 line rs st lo hi ks k A3 ws3 x3 js vj3) (f : FF w base gp gm gx gi vl lo hi) (p : Nat) :
    WsAt (wr.iterAt gi ⟨ks.toArray⟩ p) lo hi A3 ws3 ∧ PMem (wr.iterAt gi ⟨ks.toArray⟩ p) base gp gm vl vj3 { st2 with jumps := js } line ∧ InsBlk (wr.iterAt gi ⟨ks.toArray⟩ p) gx x3 ∧ Only (TS base gp gm) w (wr.iterAt gi ⟨ks.toArray⟩ p) ∧ (wr.iterAt gi ⟨ks.toArray⟩ p).heap[gi]? = some (.stringIter ⟨ks.toArray⟩ p) ∧ base ≤ (wr.iterAt gi ⟨ks.toArray⟩ p).heap.size ∧ gi < (wr.iterAt gi ⟨ks.toArray⟩ p).heap.size := by
  have ho := only_iter1 wr gi ⟨ks.toArray⟩ p
  obtain ⟨f1, f2, f3, f4, f5, f6, f7, f8⟩ := f
  have hgl : gi < wr.heap.size := (Array.getElem?_eq_some_iff.1 h.iter).1
  refine ⟨h.words.only ho (fun j _ h2 e => by omega), h.mem.other ho (by omega) (by omega) (fun e => by have := f8 _ e; omega) (fun e => by have := h.own _ e; omega), Blk.only h.xb ho (by omega), h.only.trans (ho.mono (fun j _ e => .inr (.inr (by have e2 : j = gi := e; omega)))), iterAt_heap _ _ _ _ _ h.iter, ?_, ?_⟩
  · rw [iterAt_size]; omega
  · rw [iterAt_size]; exact hgl
/-- A field was read. -/
theorem FL.round {W2 : World} {y : Wd} {r3 : List Wd} {x' : PIns} {vj' : Value} {A4 : Option Addr} (h : FL w wr base gp gm gx gi vl st2 line rs st lo hi ks k A3 (y :: r3) x3 js vj3) (f : FF w base gp gm gx gi vl lo hi) (hk : k < ks.length) (hbad : y.bad = false) (hf : fieldP ks[k] y.s x3 = some x')
    (ho : Only (fun j => j = gx ∨ j = gp ∨ vj3.ownBlock = some j) (wr.iterAt gi ⟨ks.toArray⟩ (k + 1)) W2) (hm : PMem W2 base gp gm vl vj' { st2 with jumps := if ks[k] = 106 then js ++ [⟨st2.l.length, y.s, line, y.col⟩] else js } line) (hx : InsBlk W2 gx x')
    (hown : vj'.ownBlock = vj3.ownBlock ∨ ∀ j, vj'.ownBlock = some j → (wr.iterAt gi ⟨ks.toArray⟩ (k + 1)).heap.size ≤ j) (hA : WsAt wr lo hi A4 r3) :
    FL w W2 base gp gm gx gi vl st2 line rs st lo hi ks (k + 1) A4 r3 x' (if ks[k] = 106 then js ++ [⟨st2.l.length, y.s, line, y.col⟩] else js) vj' := by
  obtain ⟨_, m2, m3, m4, m5, m6, m7⟩ := h.moved f (k + 1)
  have hoi := only_iter1 wr gi ⟨ks.toArray⟩ (k + 1)
  have hro := h.own
  obtain ⟨f1, f2, f3, f4, f5, f6, f7, f8⟩ := f
  have hns : ∀ j, lo ≤ j → j < hi → ¬ (j = gx ∨ j = gp ∨ vj3.ownBlock = some j) := by
    rintro j h1 h2 (e | e | e)
    · omega
    · omega
    · have := hro j e; omega
  refine ⟨?_, hk, (hA.only hoi (fun j _ h2 e => by omega)).only ho hns, hm, hx, ?_, m4.trans (ho.mono ?_), ?_, fun z hz => h.lens z (List.mem_cons_of_mem _ hz), ?_⟩
  · refine (ho.block gi m7 ?_).trans m5
    rintro (e | e | e)
    · omega
    · omega
    · have := hro gi e; omega
  · rw [h.eq, List.drop_eq_getElem_cons hk, fieldsP]
    simp only [hbad, hf, Bool.false_eq_true, if_false]
  · rintro j hj (e | e | e)
    · exact .inr (.inr (by omega))
    · exact .inl e
    · have := (h.mem.rowj.lt j e).1
      exact .inr (.inr this)
  · intro j hj
    rcases hown with e | e
    · exact hro j (e ▸ hj)
    · have := e j hj
      omega
  · have := h.few
    split
    · rw [List.length_append]
      simp
      omega
    · omega
theorem FL.pos (h : FL w wr base gp gm gx gi vl st2 line rs st lo hi ks k A3 ws3 x3 js vj3) : wr.iterPos gi = k := by
  unfold World.iterPos
  rw [h.iter]
theorem FL.noneLeft (h : FL w wr base gp gm gx gi vl st2 line rs st lo hi ks k A3 [] x3 js vj3) (hk : k < ks.length) : lineP line st rs = .err (endR rs) 12 := by
  rw [h.eq, List.drop_eq_getElem_cons hk, fieldsP]
theorem FL.bad {y : Wd} {r3 : List Wd} (h : FL w wr base gp gm gx gi vl st2 line rs st lo hi ks k A3 (y :: r3) x3 js vj3) (hk : k < ks.length) (hb : y.bad = true) : lineP line st rs = .err y.col 12 := by
  rw [h.eq, List.drop_eq_getElem_cons hk, fieldsP, if_pos hb]
theorem FL.wrong {y : Wd} {r3 : List Wd} (h : FL w wr base gp gm gx gi vl st2 line rs st lo hi ks k A3 (y :: r3) x3 js vj3) (hk : k < ks.length) (hf : fieldP ks[k] y.s x3 = Option.none) : lineP line st rs = .err y.col 12 := by
  rw [h.eq, List.drop_eq_getElem_cons hk, fieldsP]
  simp only [hf]
  split <;> rfl
theorem FL.more {y : Wd} {r3 : List Wd} (h : FL w wr base gp gm gx gi vl st2 line rs st lo hi ks k A3 (y :: r3) x3 js vj3) (hk : ¬ k < ks.length) : lineP line st rs = .err y.col 12 := by
  rw [h.eq, List.drop_eq_nil_of_le (by omega), fieldsP]
theorem FL.done (h : FL w wr base gp gm gx gi vl st2 line rs st lo hi ks k A3 [] x3 js vj3) (hk : ¬ k < ks.length) : lineP line st rs = .ok ⟨st2.l ++ [x3], st2.labels, js⟩ := by
  rw [h.eq, List.drop_eq_nil_of_le (by omega), fieldsP]
end
theorem kinds_len (op : Int) : (kindsP op).length ≤ 3 := by
  unfold kindsP
  repeat' split
  all_goals decide
theorem FL.start {w wc w2 : World} {base gp gm : Nat} {vl vj : Value} {st2 st : PS} {line : Nat} {rs : List Rn} {lo hi : Nat} {ks : List UInt8} {A3 : Option Addr} {ws3 : List Wd} {x : PIns} (f : FF w base gp gm w2.heap.size (w2.heap.size + 1) vl lo hi)
    (hw : WsAt (w2.alloc (.cells #[.int .i64 x.op, .int .i64 x.a, .int .i64 x.b, .int .i64 x.c, .int .u64 x.n] 60)) lo hi A3 ws3) (hm : PMem wc base gp gm vl vj st2 line) (hon : Only (TS base gp gm) w wc) (ho : Only Nob wc w2) (heq : lineP line st rs = fieldsP line (endR rs) st2 ks ws3 x st2.jumps)
    (hvj : ∀ j, vj.ownBlock = some j → j < lo) (hlens : ∀ y ∈ ws3, y.s.length ≤ 16000) :
    FL w ((w2.alloc (.cells #[.int .i64 x.op, .int .i64 x.a, .int .i64 x.b, .int .i64 x.c, .int .u64 x.n] 60)).iter ⟨ks.toArray⟩ 0) base gp gm w2.heap.size (w2.heap.size + 1) vl st2 line rs st lo hi ks 0 A3 ws3 x st2.jumps vj := by
  have hi0 := World.iter_heap (w2.alloc (.cells #[.int .i64 x.op, .int .i64 x.a, .int .i64 x.b, .int .i64 x.c, .int .u64 x.n] 60)) ⟨ks.toArray⟩ 0
  rw [World.size_alloc] at hi0
  have hoi : Only Nob (w2.alloc (.cells #[.int .i64 x.op, .int .i64 x.a, .int .i64 x.b, .int .i64 x.c, .int .u64 x.n] 60)) ((w2.alloc (.cells #[.int .i64 x.op, .int .i64 x.a, .int .i64 x.b, .int .i64 x.c, .int .u64 x.n] 60)).iter ⟨ks.toArray⟩ 0) := (Only.refl _ _).alloc _
  have ho2 := (ho.alloc (.cells #[.int .i64 x.op, .int .i64 x.a, .int .i64 x.b, .int .i64 x.c, .int .u64 x.n] 60)).trans hoi
  exact ⟨hi0, Nat.zero_le _, hw.nob hoi, hm.nob ho2, Blk.only (Blk.new _ _ _) hoi (fun h => h), by rw [List.drop_zero]; exact heq, hon.trans (only_ts ho2), fun j hj => .inl (hvj j hj), hlens, by omega⟩
theorem decode_kind {ks : List UInt8} (hks : ∀ x ∈ ks, x ∈ kindSet) (k : Nat) (hk : k < ks.length) : Utf8.decode ⟨ks.toArray⟩ k = ((ks[k]).toNat, 1) := by
  have h1 := decodeL_drop ⟨ks.toArray⟩ k
  rw [← h1]
  show decodeL (ks.drop k) = _
  rw [List.drop_eq_getElem_cons hk]
  refine decodeL_ascii _ _ ?_
  have := hks _ (List.getElem_mem hk)
  generalize ks[k] = b at *
  simp only [kindSet, List.mem_cons, List.not_mem_nil, or_false] at this
  rcases this with rfl | rfl | rfl | rfl | rfl | rfl | rfl | rfl | rfl <;> decide
theorem PMem.pushL {w W w3 : World} {base gp gm line : Nat} {vl vj : Value} {st : PS} {v' : Value} {n : Nat} {x : PIns} (h : PMem w base gp gm vl vj st line) (ho : Only Nob w W) (hn : st.l.length = n) (hr : w3.ownsRow base 60 5 v' (n + 1) (progCells st.l ++ insCells x)) (hg : W.grownBy w3 vl.ownBlock) (hv : v'.ownBlock = vl.ownBlock ∨ v'.ownBlock = some W.heap.size) :
    PMem (w3.setCell ⟨gp, 0, none⟩ v') base gp gm v' vj { st with l := st.l ++ [x] } line ∧ Only (fun k => k = gp ∨ vl.ownBlock = some k) w (w3.setCell ⟨gp, 0, none⟩ v') := by
  have hW := h.nob ho
  have ho3 : Only (fun k => vl.ownBlock = some k) W w3 := Only.of_grown hg (fun k hk _ => hk)
  have hbl := h.rowl.lt
  have hbj := h.rowj.lt
  have hgp := h.gpb
  have hgm := h.gmb
  have hcl := h.cell.lt
  have hlm := h.lab.lt
  have hsz := ho.size
  have hsz3 := ho3.size
  have hvb : ∀ k, v'.ownBlock = some k → k ≠ gp ∧ k ≠ gm := by
    intro k hk
    rcases hv with e | e
    · rw [e] at hk
      have := (hbl k hk).1
      omega
    · rw [e] at hk
      injection hk with hk
      omega
  have hc3 := hW.cell.only ho3 (fun e => by have := (hbl _ e).1; omega)
  have hoS : Only (fun k => k = gp) w3 (w3.setCell ⟨gp, 0, none⟩ v') := Only.setCell (S := fun k => k = gp) (p := ⟨gp, 0, none⟩) (Only.refl _ _) (.inl rfl) _
  refine ⟨⟨?_, ?_, ?_, ?_, hgp, hgm, h.ne, ?_⟩, ?_⟩
  · have := hc3.set_ 0 v'
    simpa using this
  · refine row_only ?_ hoS (fun k hk e => (hvb k hk).1 e)
    show w3.ownsRow base _ 5 v' (st.l ++ [x]).length (progCells (st.l ++ [x]))
    rw [show progCells (st.l ++ [x]) = progCells st.l ++ insCells x by simp [progCells], List.length_append, hn]
    exact hr
  · exact row_only (row_only hW.rowj ho3 (fun k hk e => h.apart k e hk)) hoS (fun k hk e => by have := (hbj k hk).1; omega)
  · exact (hW.lab.only ho3 (fun e => by have := (hbl _ e).1; omega)).only hoS h.ne
  · intro k hk e
    rcases hv with e2 | e2
    · exact h.apart k (e2 ▸ hk) e
    · rw [e2] at hk
      injection hk with hk
      have := (hbj k e).2
      omega
  · exact Only.after (Only.after (S := fun k => k = gp ∨ vl.ownBlock = some k) (ho.mono (fun _ _ h => h.elim)) ho3 (fun i hi => .inl (.inr hi))) hoS (fun i hi => .inl (.inl hi))
theorem PMem.grownCellL {w W w3 : World} {base gp gm line : Nat} {vl vj : Value} {st : PS} (h : PMem w base gp gm vl vj st line) (ho : Only Nob w W) (hg : W.grownBy w3 vl.ownBlock) : Blk w3 gp 101 #[vl, .map (some gm), vj, .int .i64 (line : Int)] := by
  have hb := h.rowl.lt
  have hgp := h.gpb
  exact ((h.nob ho).cell).only (Only.of_grown (S := fun k => vl.ownBlock = some k) hg (fun k hk _ => hk)) (fun e => by have := (hb _ e).1; omega)
theorem reads_insD (W : World) (x : PIns) : Reads ((W.alloc (.cells #[.int .i64 x.op, .int .i64 x.a, .int .i64 x.b, .int .i64 x.c, .int .u64 x.n] 60)).drew) (W.heap.size + 1) 5 (some ⟨W.heap.size, 0, none⟩) 1 (insCells x) := by
  have h := Reads.of_blk (size := 5) (n := 1) (Blk.new W 60 #[.int .i64 x.op, .int .i64 x.a, .int .i64 x.b, .int .i64 x.c, .int .u64 x.n]) rfl
  rw [World.size_alloc] at h
  exact h.drew
end Go.Proofs.YtngahgfppbjebaaDoor

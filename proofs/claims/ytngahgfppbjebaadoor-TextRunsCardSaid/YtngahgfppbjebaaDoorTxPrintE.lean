/-
  What the printer's round stands on.
-/
import Derived.Test.YtngahgfppbjebaaDoorTxBack3
import Derived.Test.YtngahgfppbjebaaDoorTxTakeD
import Derived.Lib.OthersKept
namespace Go.Proofs.YtngahgfppbjebaaDoor
open Go.RowKit Go.Lib
set_option linter.unusedVariables false
set_option linter.unusedSimpArgs false

theorem BuilderAtF.nob {w w' : World} {T e : TypeId} {B b : Nat} {p : Value} {bs : List Value} (h : Lib.BuilderAtF T e B b p bs w) (ho : Only Nob w w') : Lib.BuilderAtF T e B b p bs w' := by
  have hlt := h.lt
  obtain ⟨hB, v, hb, hown, hne⟩ := h
  refine ⟨hB, v, (ho.block b hlt (fun h => h)).trans hb, ⟨hown.1, ?_⟩, hne⟩
  rcases hown.2 with h | ⟨g, cap, cur, fz, hv, hbg, hg, r⟩
  · exact .inl h
  · have hgl : g < w.heap.size := (Array.getElem?_eq_some_iff.1 hg).1
    exact .inr ⟨g, cap, cur, fz, hv, hbg, (ho.block g hgl (fun h => h)).trans hg, r⟩
theorem BuiltAt.nob {w w' : World} {b : Nat} {l : List UInt8} (h : BuiltAt w b l) (ho : Only Nob w w') : BuiltAt w' b l := by
  rcases h with h | h
  · exact .inl (BuilderAtF.nob h ho)
  · exact .inr (BuilderAtF.nob h ho)
/-- Within a round: the instruction at n8, the builder at bb holds t. -/
structure PR (w : World) (bb n8 : Nat) (wx : World) (l : List PIns) (A : Option Addr) (cap : Nat) (x : PIns) (t : List UInt8) : Prop where
  built : BuiltAt wx bb t
  marks : Blk wx (w.heap.size + 1) 109 (marksV l l.length)
  box : Blk wx w.heap.size 55 #[.slice A l.length cap]
  ins : Blk wx n8 60 #[.int .i64 x.op, .int .i64 x.a, .int .i64 x.b, .int .i64 x.c, .int .u64 x.n]
  only : Only Nob w wx
  far : w.heap.size + 1 < bb
  lt : bb < n8
section
variable {w wx W : World} {bb n8 : Nat} {l : List PIns} {A : Option Addr} {cap : Nat} {x : PIns} {t t' : List UInt8}
theorem PR.nob (h : PR w bb n8 wx l A cap x t) (ho : Only Nob wx W) : PR w bb n8 W l A cap x t :=
  ⟨h.built.nob ho, h.marks.only ho (fun h => h), h.box.only ho (fun h => h), h.ins.only ho (fun h => h), h.only.trans ho, h.far, h.lt⟩
theorem PR.wrote (h : PR w bb n8 wx l A cap x t) (hw : Wrote wx W bb) (hb : BuiltAt W bb t') : PR w bb n8 W l A cap x t' := by
  have hlt := h.lt
  have hfar := h.far
  have hbl := h.built.lt
  exact ⟨hb, h.marks.below hw.1 hfar, h.box.below hw.1 (by omega), hw.blk h.ins (by omega) (by decide), hw.only h.only (by omega), hfar, hlt⟩
theorem PR.start {k : Nat} (h : PQ w bb wx l A cap k t) (x : PIns) : PR w bb wx.heap.size (wx.alloc (.cells #[.int .i64 x.op, .int .i64 x.a, .int .i64 x.b, .int .i64 x.c, .int .u64 x.n] 60)) l A cap x t := by
  have ho : Only Nob wx (wx.alloc (.cells #[.int .i64 x.op, .int .i64 x.a, .int .i64 x.b, .int .i64 x.c, .int .u64 x.n] 60)) := (Only.refl _ wx).alloc _
  exact ⟨h.built.nob ho, h.marks.only ho (fun h => h), h.box.only ho (fun h => h), Blk.new _ _ _, h.only.trans ho, h.far, h.lt⟩
/-- Between two fields of an instruction. -/
structure PF (w : World) (bb n8 gi : Nat) (wx : World) (l : List PIns) (A : Option Addr) (cap : Nat) (x : PIns) (t : List UInt8) (ks : List UInt8) (k : Nat) : Prop where
  pr : PR w bb n8 wx l A cap x (t ++ (ks.take k).flatMap fun q => 32 :: toldP x q)
  iter : wx.heap[gi]? = some (.stringIter ⟨ks.toArray⟩ k)
  le : k ≤ ks.length
  gi : n8 < gi
theorem PF.start (h : PR w bb n8 wx l A cap x t) (ks : List UInt8) : PF w bb n8 wx.heap.size (wx.iter ⟨ks.toArray⟩ 0) l A cap x t ks 0 := by
  have hn := h.ins.lt
  refine ⟨?_, World.iter_heap _ _ _, Nat.zero_le _, hn⟩
  have := h.nob (W := wx.iter ⟨ks.toArray⟩ 0) ((Only.refl _ _).alloc _)
  simpa using this
theorem PF.pos {gi k : Nat} {ks : List UInt8} (h : PF w bb n8 gi wx l A cap x t ks k) : wx.iterPos gi = k := by
  unfold World.iterPos
  rw [h.iter]
/-- Behind the rune. -/
theorem PF.moved {gi k : Nat} {ks : List UInt8} (h : PF w bb n8 gi wx l A cap x t ks k) (p : Nat) : PR w bb n8 (wx.iterAt gi ⟨ks.toArray⟩ p) l A cap x (t ++ (ks.take k).flatMap fun q => 32 :: toldP x q) ∧ (wx.iterAt gi ⟨ks.toArray⟩ p).heap[gi]? = some (.stringIter ⟨ks.toArray⟩ p) := by
  have ho := only_iter1 wx gi ⟨ks.toArray⟩ p
  obtain ⟨⟨h1, h2, h3, h4, h5, h6, h7⟩, hit, hle, hgi⟩ := h
  refine ⟨⟨?_, h2.only ho (by omega), h3.only ho (by omega), h4.only ho (by omega), ?_, h6, h7⟩, iterAt_heap _ _ _ _ _ hit⟩
  · rcases h1 with h1 | h1
    · exact .inl (h1.iterAt hit p)
    · exact .inr (h1.iterAt hit p)
  · exact Only.after h5 ho (fun i (hi : i = gi) => .inr (by have := h2.lt; omega))
/-- A field was written. -/
theorem PF.next {gi k : Nat} {ks : List UInt8} {W2 : World} (h : PF w bb n8 gi wx l A cap x t ks k) (hk : k < ks.length) (ho : Only Nob (wx.iterAt gi ⟨ks.toArray⟩ (k + 1)) W2) (hw : Wrote W2 W bb) (hb : BuiltAt W bb (t ++ ((ks.take k).flatMap fun q => 32 :: toldP x q) ++ (32 :: toldP x ks[k]))) :
    PF w bb n8 gi W l A cap x t ks (k + 1) := by
  obtain ⟨m1, m2⟩ := h.moved (k + 1)
  have hgl : gi < (wx.iterAt gi ⟨ks.toArray⟩ (k + 1)).heap.size := (Array.getElem?_eq_some_iff.1 m2).1
  have hgi := h.gi
  have hlt := h.pr.lt
  refine ⟨?_, ?_, hk, hgi⟩
  · have := (m1.nob ho).wrote hw hb
    have e : t ++ ((ks.take k).flatMap fun q => 32 :: toldP x q) ++ (32 :: toldP x ks[k]) = t ++ ((ks.take (k + 1)).flatMap fun q => 32 :: toldP x q) := by
      rw [List.take_succ_eq_append_getElem hk, List.flatMap_append, List.append_assoc]
      simp
    rw [e] at this
    exact this
  · have h9 := (ho.block gi hgl (fun h => h)).trans m2
    exact hw.2 gi _ h9 (fun e => by injection e with e; omega) (fun c fz e => by cases e)
/-- The round is over. -/
theorem PQ.next {k : Nat} (h : PQ w bb wx l A cap k t) (hk : k < l.length) (hx : l.getD k PIns.none = x) (hm : mayP x = true) (hn : 0 ≤ x.n ∧ x.n < 18446744073709551616) (h40 : l.length ≤ 40) {n9 : Nat} (hr : PR w bb n9 W l A cap x (t ++ labelP l k 32 ++ insP x)) : PQ w bb W l A cap (k + 1) (t ++ labelP l k 32 ++ insP x) := by
  obtain ⟨a1, a2, a3, a4, a5, a6, a7⟩ := hr
  have e : l.drop k = x :: l.drop (k + 1) := by
    rw [List.drop_eq_getElem_cons hk, ← hx, List.getD_eq_getElem?_getD, List.getElem?_eq_getElem hk]
    rfl
  refine ⟨a1, a2, a3, a5, ?_, ?_, a6, a1.lt⟩
  · rw [h.eq, e, linesOfP]
    simp
  · have h1 := (lab_bytes l k 32 (.inl rfl) (by omega)).2
    have h2 := (ins_bytes x hm hn).2.1
    have h3 := h.short
    rw [List.length_append, List.length_append]
    omega
/-- The loop's relation, told by the round's fact. -/
def PFof (_ : Hid (PR w bb n8 wx l A cap x t)) (ks : List UInt8) (wq : World) : Prop := ∃ j, PF w bb n8 wx.heap.size wq l A cap x t ks j
def PFleft (_ : Hid (PR w bb n8 wx l A cap x t)) (ks : List UInt8) (wq : World) : Nat := ks.length - wq.iterPos wx.heap.size
theorem PFof.start (h : Hid (PR w bb n8 wx l A cap x t)) (ks : List UInt8) : PFof h ks (wx.iter ⟨ks.toArray⟩ 0) := ⟨0, PF.start h.out ks⟩
theorem PF.left {j : Nat} {ks : List UInt8} {wq : World} {h : Hid (PR w bb n8 wx l A cap x t)} (hF : PF w bb n8 wx.heap.size wq l A cap x t ks j) : PFleft h ks wq = ks.length - j := by
  unfold PFleft
  rw [hF.pos]
/-- What of an instruction the printer needs. -/
structure XF (x : PIns) (ks : List UInt8) : Prop where
  kinds : kindsP x.op = ks
  may : mayP x = true
  n : 0 ≤ x.n ∧ x.n < 18446744073709551616
  small : Small x
  kind : ∀ y ∈ ks, y ∈ kindSet
  len : ∀ y ∈ ks, (toldP x y).length ≤ 21
  few : ks.length ≤ 3
  name : (atList nameList x.op).size ≤ 12
theorem xf_of (hm : mayP x = true) (hn : 0 ≤ x.n ∧ x.n < 18446744073709551616) : XF x (kindsP x.op) := by
  refine ⟨rfl, hm, hn, (small_of_may hm hn).1, kinds_in x.op, fun y hy => (told_len hm hn hy).2, kinds_len x.op, ?_⟩
  have := (word_fact (m := 23) names_word nameList_len (may_f hm).op).len
  simpa using this
theorem XF.tail {ks : List UInt8} (h : XF x ks) (j : Nat) : ((ks.take j).flatMap fun q => 32 :: toldP x q).length ≤ 66 := by
  have hl : ∀ (ks : List UInt8), (∀ k ∈ ks, (toldP x k).length ≤ 21) → (ks.flatMap fun k => 32 :: toldP x k).length ≤ 22 * ks.length := by
    intro ks
    induction ks with
    | nil => intro _; simp
    | cons k ks ih =>
      intro h
      rw [List.flatMap_cons, List.length_append, List.length_cons, List.length_cons]
      have := ih (fun q hq => h q (List.mem_cons_of_mem _ hq))
      have := h k (by simp)
      omega
  have h1 := hl (ks.take j) (fun k hk => h.len k (List.mem_of_mem_take hk))
  have h2 := h.few
  rw [List.length_take] at h1
  omega
theorem label_is {l : List PIns} {k : Nat} (h : marked l k = true) : labelP l k 32 = 108 :: decDigits k ++ [58, 32] := by unfold labelP; rw [if_pos h]
theorem label_no {l : List PIns} {k : Nat} (h : marked l k = false) : labelP l k 32 = [] := by unfold labelP; rw [if_neg (by simp [h])]
theorem ins_end {ks : List UInt8} (hx : XF x ks) (t lab : List UInt8) : t ++ lab ++ (atList nameList x.op).data.toList ++ ((ks.take ks.length).flatMap fun q => 32 :: toldP x q) ++ [10] = t ++ lab ++ insP x := by
  rw [List.take_length]
  unfold insP insWords
  rw [hx.kinds]
  simp
end
end Go.Proofs.YtngahgfppbjebaaDoor

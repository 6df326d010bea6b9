/-
  The law's 'same': a slate and the document's results, place for place.
-/
import Derived.Test.YtngahgfppbjebaaDoorSlateText
import Derived.Test.YtngahgfppbjebaaDoorRefText
import Derived.Shelf.SlSortCmp.QuietGrown
namespace Go.Proofs.YtngahgfppbjebaaDoor
open Go.RowKit Go.Sort
set_option linter.unusedVariables false
set_option linter.unusedSimpArgs false
set_option maxRecDepth 100000 in
theorem none_alloc (w : World) (base g : Nat) (v : Value) (l : List Itm) (h : Sl w base g v l) (hl : l.length ≤ 1000) (i : Int) :
    Calls Tryd.prog 22 #[.pointer (some ⟨g, 0, none⟩), .int .i64 i] w fun e w' => e = .returned (.bool (noneOfItm (itmAt l i))) ∧ ∃ o, w' = w.alloc o := by
  have HC := hide (at_any w base g v l h hl i)
  clear h hl
  generalize itmAt l i = o at HC ⊢
  rcases o with _ | ⟨n | b | _⟩
  all_goals
    replace HC := HC.out
    simp only [itmV, itemV] at HC
    have HC1 := hide HC
    clear HC
    simp only [numOfItm, truthOfItm, noneOfItm]
    have a0 := @asO0
    have aN := @asON
    have aT := @asOT
    have aO := @asOO
    go_enter Tryd.func22, Tryd.ntmps22
    go_wp2_with (go_at_call 42; refine (HC1.out).mono ?_; rintro e w2 ⟨rfl, rfl⟩)
    go_ret
    exact ⟨rfl, _, rfl⟩
theorem nob_grow (w : World) (n : Nat) (os : Array Obj) : Only Nob w (grow (w.drewN n) os) := Only.of_new (Lib.below_grow _ w (Nat.le_refl _) n os)
/-- What stands in x. -/
def sortO : Option Itm → Int
  | some x => sortI x
  | none => 0
def numO : Option Itm → Int
  | some x => numI x
  | none => 0
/-- What holds at the head of a round. -/
structure SameInv (w wr : World) (base g : Nat) (v : Value) (l : List Itm) (A : Option Addr) : Prop where
  only : Only Nob w wr
  sl : Sl wr base g v l
  items : ItemsIn wr A l
  tab : Pow10 wr
theorem abstract_wps {P : Program} {c : Code} {Q : Exit → Act → World → Prop} {a : Act} {w : World} (I : World → Prop) (hI : I w) (h : ∀ w', I w' → Code.wp P c Q a w') : Code.wp P c Q a w := h w hI
/-- The walk of a region that only reads, behind a wall (so that no tactic computes its guards). -/
structure WQ (P : Program) (ops : Array Oper) (C : World → Prop) (Q : Act → Prop) (l : List Oper) (a : Act) : Prop where
  out : wpQuiet P ops C Q l a
theorem WQ.off {P : Program} {ops : Array Oper} {C : World → Prop} {Q : Act → Prop} {a : Act} {o : Oper} {rest : List Oper} (h : Region.wanted o (yielded ops a.tmps) = false) (k : WQ P ops C Q rest (a.put o.dst undef)) : WQ P ops C Q (o :: rest) a :=
  ⟨wpQuiet_step fun K hK => by rw [h]; exact hK _ k.out⟩
theorem WQ.val {P : Program} {ops : Array Oper} {C : World → Prop} {Q : Act → Prop} {a : Act} {o : Oper} {rest : List Oper} (h : Region.wanted o (yielded ops a.tmps) = true) {v v2 : Value} (hr : ∀ w, (execOp a.eval o).run P w = .ok (.value v2) w) (hv : v2 = v)
    (k : WQ P ops C Q rest (a.put o.dst v)) : WQ P ops C Q (o :: rest) a :=
  ⟨wpQuiet_step fun K hK => by
    rw [h]
    refine ⟨v, fun w _ => ?_, hK _ k.out⟩
    unfold Oper.quietAt
    rw [hr w]
    exact ⟨rfl, hv⟩⟩
theorem WQ.call {P : Program} {ops : Array Oper} {C : World → Prop} {Q : Act → Prop} {a : Act} {o : Oper} {rest : List Oper} (h : Region.wanted o (yielded ops a.tmps) = true) {f : FuncId} {args : Array Value} {v : Value} (hr : ∀ w, (execOp a.eval o).run P w = .ok (.enter f args) w)
    (hc : ∀ w, C w → Calls P f args w fun e w'' => e = .returned v ∧ C w'') (k : WQ P ops C Q rest (a.put o.dst v)) : WQ P ops C Q (o :: rest) a :=
  ⟨wpQuiet_step fun K hK => by
    rw [h]
    refine ⟨v, fun w hw => ?_, hK _ k.out⟩
    unfold Oper.quietAt
    rw [hr w]
    exact ⟨rfl, hc w hw⟩⟩
theorem WQ.load3 {ops : Array Oper} {W : World} {Q : Act → Prop} {a : Act} {o : Oper} {rest : List Oper} (h : Region.wanted o (yielded ops a.tmps) = true) {x : Operand} (ho : o.op = .load 3 x) {p : Addr} (hx : a.eval x = .pointer (some p)) {v : Value}
    (hc : ∀ n os, (grow (W.drewN n) os).cell? p = some v) (k : WQ Tryd.prog ops (fun w' => ∃ p : GrownBy, w' = grow (W.drewN p.n) p.os) Q rest (a.put o.dst v)) : WQ Tryd.prog ops (fun w' => ∃ p : GrownBy, w' = grow (W.drewN p.n) p.os) Q (o :: rest) a :=
  ⟨wpQuiet_step fun K hK => by
    rw [h]
    refine ⟨v, ?_, hK _ k.out⟩
    rintro _ ⟨⟨n, os⟩, rfl⟩
    unfold Oper.quietAt execOp
    simp only [ho]
    rw [hx]
    simp [go_sem, hc n os, Oper.quietUpon]⟩
theorem WQ.load25 {ops : Array Oper} {W : World} {Q : Act → Prop} {a : Act} {o : Oper} {rest : List Oper} (h : Region.wanted o (yielded ops a.tmps) = true) {x : Operand} (ho : o.op = .load 25 x) {p : Addr} (hx : a.eval x = .pointer (some p)) {v : Value}
    (hc : ∀ n os, (grow (W.drewN n) os).cell? p = some v) (k : WQ Tryd.prog ops (fun w' => ∃ p : GrownBy, w' = grow (W.drewN p.n) p.os) Q rest (a.put o.dst v)) : WQ Tryd.prog ops (fun w' => ∃ p : GrownBy, w' = grow (W.drewN p.n) p.os) Q (o :: rest) a :=
  ⟨wpQuiet_step fun K hK => by
    rw [h]
    refine ⟨v, ?_, hK _ k.out⟩
    rintro _ ⟨⟨n, os⟩, rfl⟩
    unfold Oper.quietAt execOp
    simp only [ho]
    rw [hx]
    simp [go_sem, hc n os, Oper.quietUpon]⟩
theorem wq_region {P : Program} {id : Nat} {Q : Exit → Act → World → Prop} {a : Act} {w : World} {l : List Oper} (hm : P.follows .mixedOrders = true) (hB : Region.lexB .any l.toArray = true)
    (h : WQ P l.toArray (fun w' => ∃ p : GrownBy, w' = grow (w.drewN p.n) p.os) (fun a' => ∀ w', (∃ p : GrownBy, w' = grow (w.drewN p.n) p.os) → Q .normal a' w') l a) : (Code.region id l.toArray true).wp P Q a w :=
  wp_region_quiet_grown hm hB h.out
theorem WQ.nil {P : Program} {ops : Array Oper} {C : World → Prop} {Q : Act → Prop} {a : Act} (h : Q a) : WQ P ops C Q [] a := ⟨h⟩
theorem neq_self (m : Nat) : Value.bool (!((m : Int) == (m : Int))) = .bool false := by simp
theorem SameInv.keep {w wr W : World} {base g : Nat} {v : Value} {l : List Itm} {A : Option Addr} (h : SameInv w wr base g v l A) (ho : Only Nob wr W) : SameInv w W base g v l A := ⟨h.only.trans ho, h.sl.nob ho, h.items.nob ho, h.tab.nob ho⟩
theorem itmAt_in {l : List Itm} {k : Nat} (hk : k < l.length) : itmAt l (k : Int) = some l[k] := by
  unfold itmAt
  rw [if_pos (by omega)]
  simp [hk]
theorem itmAt_out {l : List Itm} {i : Int} (h : i < 0 ∨ (l.length : Int) ≤ i) : itmAt l i = none := by
  unfold itmAt
  split
  · exact List.getElem?_eq_none (by omega)
  · rfl
set_option maxRecDepth 100000 in
set_option maxHeartbeats 8000000 in
theorem same13_any (w : World) (base g : Nat) (v : Value) (l : List Itm) (A : Option Addr) (n cap : Nat) (h : Sl w base g v l) (hi : ItemsIn w A l) (hn : l.length = n) (hl : n ≤ 1000) (hok : ∀ x ∈ l, x.ok) (htab : Pow10 w) :
    Calls Tryd.prog 31 #[.pointer (some ⟨g, 0, none⟩), .slice A n cap] w fun e w' => e = .returned (.bool true) ∧ Only Nob w w' := by
  have H := hide h
  have HI := hide hi
  have HN := hide hn
  have HK := hide hok
  have HT := hide htab
  clear h hi hn hok htab
  have hmx : Tryd.prog.follows .mixedOrders = true := by kernel_rfl
  go_enter Tryd.func31, Tryd.ntmps31
  go_wp2
  go_loopw [5] (fun i wr => ∃ k : Nat, i = .int .i64 ((k : Int) - 1) ∧ k ≤ n + 2 ∧ SameInv w wr base g v l A) (fun i _ => (n + 1 - intOf i).toNat)
  case atStart => exact ⟨0, rfl, by omega, Only.refl _ _, H.out, HI.out, HT.out⟩
  case round =>
    obtain ⟨k, rfl, hk, hS⟩ := hrel
    have HS := hide hS
    clear hS
    have HL : Hid (l.length ≤ 1000) := hide (by rw [HN.out]; exact hl)
    by_cases h0 : k = 0
    · subst h0
      have HO : Hid (itmAt l (-1) = none) := hide (itmAt_out (.inl (by omega)))
      have HNU := hide (fun (W : World) (h : Only Nob wr W) => num_any W base g v l (HS.out.sl.nob h) HL.out (-1))
      have HTR := hide (fun (W : World) (h : Only Nob wr W) => truth_any W base g v l (HS.out.sl.nob h) HL.out (-1))
      have HNO := hide (fun (W : World) (h : Only Nob wr W) => none_alloc W base g v l (HS.out.sl.nob h) HL.out (-1))
      rw [HO.out] at HNU HTR HNO
      simp only [numOfItm, truthOfItm, noneOfItm] at HNU HTR HNO
      go_wp2_with (first
        | (go_at_call 19; refine (HNU.out _ ((Only.refl _ wr).alloc _)).mono ?_; rintro e w2 ⟨rfl, rfl⟩)
        | (go_at_call 20; refine (HTR.out _ ((Only.refl _ wr).alloc _)).mono ?_; rintro e w2 ⟨rfl, rfl⟩))
      refine abstract_wps (fun W1 => Only Nob wr W1 ∧ Blk W1 wr.heap.size 94 #[.int .i64 0, .int .u64 0]) ⟨(Only.refl _ wr).alloc _, Blk.new _ _ _⟩ ?_
      rintro W1 ⟨ho1, hb1⟩
      have hx0 : ∀ n os, (grow (W1.drewN n) os).cell? ⟨wr.heap.size, 0, none⟩ = some (.int .i64 0) := cell_grown hb1.lt (hb1.cell 0)
      have hx1 : ∀ n os, (grow (W1.drewN n) os).cell? ⟨wr.heap.size, 1, none⟩ = some (.int .u64 0) := cell_grown hb1.lt (hb1.cell 1)
      have HW := hide ho1
      clear ho1 hb1
      refine wq_region hmx (by kernel_rfl) ?_
      refine WQ.val (by kernel_rfl) (v := (.bool false)) (fun _ => by kernel_rfl) (rfl) ?_
      refine WQ.val (by kernel_rfl) (v := (.pointer (some ⟨wr.heap.size, 0, none⟩))) (fun _ => by kernel_rfl) (rfl) ?_
      refine WQ.load3 (by kernel_rfl) (x := .tmp 43) (by kernel_rfl) (p := ⟨wr.heap.size, 0, none⟩) (by kernel_rfl) hx0 ?_
      refine WQ.val (by kernel_rfl) (v := (.bool false)) (fun _ => by kernel_rfl) (rfl) ?_
      refine WQ.val (by kernel_rfl) (v := (.bool false)) (fun _ => by kernel_rfl) (rfl) ?_
      refine WQ.val (by kernel_rfl) (v := (.bool false)) (fun _ => by kernel_rfl) (rfl) ?_
      refine WQ.val (by kernel_rfl) (v := (.bool false)) (fun _ => by kernel_rfl) (rfl) ?_
      refine WQ.val (by kernel_rfl) (v := (.bool false)) (fun _ => by kernel_rfl) (rfl) ?_
      refine WQ.off (by kernel_rfl) ?_
      refine WQ.off (by kernel_rfl) ?_
      refine WQ.off (by kernel_rfl) ?_
      refine WQ.off (by kernel_rfl) ?_
      refine WQ.off (by kernel_rfl) ?_
      refine WQ.off (by kernel_rfl) ?_
      refine WQ.off (by kernel_rfl) ?_
      refine WQ.off (by kernel_rfl) ?_
      refine WQ.off (by kernel_rfl) ?_
      refine WQ.off (by kernel_rfl) ?_
      refine WQ.off (by kernel_rfl) ?_
      refine WQ.off (by kernel_rfl) ?_
      refine WQ.val (by kernel_rfl) (v := (.bool false)) (fun _ => by kernel_rfl) (rfl) ?_
      refine WQ.val (by kernel_rfl) (v := (.bool false)) (fun _ => by kernel_rfl) (rfl) ?_
      refine WQ.val (by kernel_rfl) (v := (.bool false)) (fun _ => by kernel_rfl) (rfl) ?_
      refine WQ.val (by kernel_rfl) (v := (.bool false)) (fun _ => by kernel_rfl) (rfl) ?_
      refine WQ.val (by kernel_rfl) (v := (.bool true)) (fun _ => by kernel_rfl) (rfl) ?_
      refine WQ.val (by kernel_rfl) (v := (.bool true)) (fun _ => by kernel_rfl) (rfl) ?_
      refine WQ.val (by kernel_rfl) (v := (.int .u64 0)) (fun _ => by kernel_rfl) (rfl) ?_
      refine WQ.val (by kernel_rfl) (v := (.bool false)) (fun _ => by kernel_rfl) (rfl) ?_
      refine WQ.val (by kernel_rfl) (v := (.bool false)) (fun _ => by kernel_rfl) (rfl) ?_
      refine WQ.val (by kernel_rfl) (v := (.bool false)) (fun _ => by kernel_rfl) (rfl) ?_
      refine WQ.val (by kernel_rfl) (v := (.bool false)) (fun _ => by kernel_rfl) (rfl) ?_
      refine WQ.val (by kernel_rfl) (v := (.bool false)) (fun _ => by kernel_rfl) (rfl) ?_
      refine WQ.val (by kernel_rfl) (v := (.pointer (some ⟨wr.heap.size, 0, none⟩))) (fun _ => by kernel_rfl) (rfl) ?_
      refine WQ.load3 (by kernel_rfl) (x := .tmp 74) (by kernel_rfl) (p := ⟨wr.heap.size, 0, none⟩) (by kernel_rfl) hx0 ?_
      refine WQ.val (by kernel_rfl) (v := (.bool false)) (fun _ => by kernel_rfl) (rfl) ?_
      refine WQ.val (by kernel_rfl) (v := (.bool false)) (fun _ => by kernel_rfl) (rfl) ?_
      refine WQ.val (by kernel_rfl) (v := (.bool false)) (fun _ => by kernel_rfl) (rfl) ?_
      refine WQ.val (by kernel_rfl) (v := (.bool false)) (fun _ => by kernel_rfl) (rfl) ?_
      refine WQ.val (by kernel_rfl) (v := (.bool false)) (fun _ => by kernel_rfl) (rfl) ?_
      refine WQ.val (by kernel_rfl) (v := (.pointer (some ⟨wr.heap.size, 0, none⟩))) (fun _ => by kernel_rfl) (rfl) ?_
      refine WQ.load3 (by kernel_rfl) (x := .tmp 81) (by kernel_rfl) (p := ⟨wr.heap.size, 0, none⟩) (by kernel_rfl) hx0 ?_
      refine WQ.val (by kernel_rfl) (v := (.bool false)) (fun _ => by kernel_rfl) (rfl) ?_
      refine WQ.val (by kernel_rfl) (v := (.bool false)) (fun _ => by kernel_rfl) (rfl) ?_
      refine WQ.off (by kernel_rfl) ?_
      refine WQ.off (by kernel_rfl) ?_
      refine WQ.off (by kernel_rfl) ?_
      refine WQ.val (by kernel_rfl) (v := (.bool false)) (fun _ => by kernel_rfl) (rfl) ?_
      refine WQ.val (by kernel_rfl) (v := (.bool false)) (fun _ => by kernel_rfl) (rfl) ?_
      refine WQ.val (by kernel_rfl) (v := (.bool false)) (fun _ => by kernel_rfl) (rfl) ?_
      refine WQ.val (by kernel_rfl) (v := (.bool false)) (fun _ => by kernel_rfl) (rfl) ?_
      refine WQ.val (by kernel_rfl) (v := (.pointer (some ⟨g, 0, none⟩))) (fun _ => by kernel_rfl) (rfl) ?_
      refine WQ.val (by kernel_rfl) (v := (.int .i64 (-1))) (fun _ => by kernel_rfl) (rfl) ?_
      refine WQ.call (by kernel_rfl) (f := 22) (args := #[.pointer (some ⟨g, 0, none⟩), .int .i64 (-1)]) (v := (.bool false)) (fun _ => by kernel_rfl) (by rintro _ ⟨⟨nn, os⟩, rfl⟩; exact Calls.grown_of ((HNO.out _ (HW.out.trans (nob_grow _ _ _))).mono (by rintro e w4 ⟨rfl, o4, rfl⟩; exact ⟨rfl, 0, #[o4], by rw [World.drewN_zero, alloc_eq_grow]⟩))) ?_
      refine WQ.val (by kernel_rfl) (v := (.pointer (some ⟨wr.heap.size, 0, none⟩))) (fun _ => by kernel_rfl) (rfl) ?_
      refine WQ.load3 (by kernel_rfl) (x := .tmp 95) (by kernel_rfl) (p := ⟨wr.heap.size, 0, none⟩) (by kernel_rfl) hx0 ?_
      refine WQ.val (by kernel_rfl) (v := (.bool false)) (fun _ => by kernel_rfl) (rfl) ?_
      refine WQ.val (by kernel_rfl) (v := (.bool false)) (fun _ => by kernel_rfl) (rfl) ?_
      refine WQ.val (by kernel_rfl) (v := (.bool false)) (fun _ => by kernel_rfl) (rfl) ?_
      refine WQ.nil ?_
      rintro _ ⟨⟨nq, osq⟩, rfl⟩
      have HG : Hid (Only Nob wr (grow (W1.drewN nq) osq)) := hide (HW.out.trans (nob_grow _ _ _))
      dsimp only
      generalize grow (W1.drewN nq) osq = W2 at HG ⊢
      clear hx0 hx1 HW HNU HTR HNO
      try simp only [Act.put, List.setIfInBounds_toArray, List.set_cons_zero, List.set_cons_succ]
      go_wp2
      go_roundw
      case rel =>
        first
          | exact ⟨1, (by first | rfl | (congr 1; omega)), by omega, HS.out.keep HG.out⟩
          | exact ⟨_, _, _, _, _, _, ⟨1, (by first | rfl | (congr 1; omega)), by omega, HS.out.keep HG.out⟩, rfl⟩
      case measure => (show (n + 1 - (0 : Int)).toNat < (n + 1 - (-1 : Int)).toNat; omega)
    · obtain ⟨j, rfl⟩ : ∃ j, k = j + 1 := ⟨k - 1, by omega⟩
      have ei : (((j + 1 : Nat) : Int) - 1) = (j : Int) := by omega
      rw [ei]
      clear h0 ei
      by_cases hjn : j < n
      · have hjl : j < l.length := by have := HN.out; omega
        obtain ⟨b, o, rfl, hb, hi⟩ := HS.out.items.at_ hjl
        obtain ⟨hi1, hi2⟩ := hi
        have HO := hide (itmAt_in hjl)
        have hjI : (j : Int) < (n : Int) := by omega
        have hj0 : (0 : Int) ≤ (j : Int) := by omega
        generalize l[j] = x at *
        clear hjl
        rcases x with m | t | _
        · simp only [sortI, numI] at hi1 hi2
          have HM := hide (fun (W : World) (h : Only Nob wr W) => must_any W base g v l (HS.out.sl.nob h) HL.out (j : Int) m HO.out)
          have HNU := hide (fun (W : World) (h : Only Nob wr W) => num_any W base g v l (HS.out.sl.nob h) HL.out (j : Int))
          have HTR := hide (fun (W : World) (h : Only Nob wr W) => truth_any W base g v l (HS.out.sl.nob h) HL.out (j : Int))
          have HNO := hide (fun (W : World) (h : Only Nob wr W) => none_alloc W base g v l (HS.out.sl.nob h) HL.out (j : Int))
          rw [HO.out] at HNU HTR HNO
          simp only [numOfItm, truthOfItm, noneOfItm] at HNU HTR HNO
          go_wp2_with (first
            | (go_at_call 19; refine (HNU.out _ ((Only.refl _ wr).alloc _)).mono ?_; rintro e w2 ⟨rfl, rfl⟩)
            | (go_at_call 20; refine (HTR.out _ ((Only.refl _ wr).alloc _)).mono ?_; rintro e w2 ⟨rfl, rfl⟩))
          refine abstract_wps (fun W1 => Only Nob wr W1 ∧ Blk W1 wr.heap.size 94 #[.int .i64 1, .int .u64 (m : Int)]) ⟨(Only.refl _ wr).alloc _, Blk.new _ _ _⟩ ?_
          rintro W1 ⟨ho1, hb1⟩
          have hx0 : ∀ n os, (grow (W1.drewN n) os).cell? ⟨wr.heap.size, 0, none⟩ = some (.int .i64 1) := cell_grown hb1.lt (hb1.cell 0)
          have hx1 : ∀ n os, (grow (W1.drewN n) os).cell? ⟨wr.heap.size, 1, none⟩ = some (.int .u64 (m : Int)) := cell_grown hb1.lt (hb1.cell 1)
          have HW := hide ho1
          clear ho1 hb1
          refine wq_region hmx (by kernel_rfl) ?_
          refine WQ.val (by kernel_rfl) (v := (.bool true)) (fun _ => by kernel_rfl) (rfl) ?_
          refine WQ.val (by kernel_rfl) (v := (.pointer (some ⟨wr.heap.size, 0, none⟩))) (fun _ => by kernel_rfl) (rfl) ?_
          refine WQ.load3 (by kernel_rfl) (x := .tmp 43) (by kernel_rfl) (p := ⟨wr.heap.size, 0, none⟩) (by kernel_rfl) hx0 ?_
          refine WQ.val (by kernel_rfl) (v := (.bool true)) (fun _ => by kernel_rfl) (rfl) ?_
          refine WQ.val (by kernel_rfl) (v := (.bool false)) (fun _ => by kernel_rfl) (rfl) ?_
          refine WQ.val (by kernel_rfl) (v := (.bool false)) (fun _ => by kernel_rfl) (rfl) ?_
          refine WQ.val (by kernel_rfl) (v := (.bool true)) (fun _ => by kernel_rfl) (rfl) ?_
          refine WQ.val (by kernel_rfl) (v := (.bool true)) (fun _ => by kernel_rfl) (rfl) ?_
          refine WQ.val (by kernel_rfl) (v := (.int .u64 (m : Int))) (fun _ => by kernel_rfl) (rfl) ?_
          refine WQ.val (by kernel_rfl) (v := (.pointer (some ⟨wr.heap.size, 1, none⟩))) (fun _ => by kernel_rfl) (rfl) ?_
          refine WQ.load25 (by kernel_rfl) (x := .tmp 51) (by kernel_rfl) (p := ⟨wr.heap.size, 1, none⟩) (by kernel_rfl) hx1 ?_
          refine WQ.val (by kernel_rfl) (v := (.bool false)) (v2 := .bool (!((m : Int) == (m : Int)))) (fun _ => by kernel_rfl) (neq_self m) ?_
          refine WQ.val (by kernel_rfl) (v := (.bool false)) (fun _ => by kernel_rfl) (rfl) ?_
          refine WQ.val (by kernel_rfl) (v := (.pointer (some ⟨g, 0, none⟩))) (fun _ => by kernel_rfl) (rfl) ?_
          refine WQ.val (by kernel_rfl) (v := (.int .i64 (j : Int))) (fun _ => by kernel_rfl) (rfl) ?_
          refine WQ.call (by kernel_rfl) (f := 25) (args := #[.pointer (some ⟨g, 0, none⟩), .int .i64 (j : Int)]) (v := .int .u64 (m : Int)) (fun _ => by kernel_rfl) (by rintro _ ⟨⟨nn, os⟩, rfl⟩; exact Calls.grown_of ((HM.out _ (HW.out.trans (nob_grow _ _ _))).mono (by rintro e w4 ⟨rfl, rfl⟩; exact ⟨rfl, 0, #[], by rw [World.drewN_zero, grow_empty]⟩))) ?_
          refine WQ.val (by kernel_rfl) (v := (.pointer (some ⟨wr.heap.size, 1, none⟩))) (fun _ => by kernel_rfl) (rfl) ?_
          refine WQ.load25 (by kernel_rfl) (x := .tmp 58) (by kernel_rfl) (p := ⟨wr.heap.size, 1, none⟩) (by kernel_rfl) hx1 ?_
          refine WQ.val (by kernel_rfl) (v := (.bool false)) (v2 := .bool (!((m : Int) == (m : Int)))) (fun _ => by kernel_rfl) (neq_self m) ?_
          refine WQ.val (by kernel_rfl) (v := (.bool false)) (fun _ => by kernel_rfl) (rfl) ?_
          refine WQ.val (by kernel_rfl) (v := (.bool false)) (fun _ => by kernel_rfl) (rfl) ?_
          refine WQ.val (by kernel_rfl) (v := (.bool false)) (fun _ => by kernel_rfl) (rfl) ?_
          refine WQ.val (by kernel_rfl) (v := (.bool false)) (fun _ => by kernel_rfl) (rfl) ?_
          refine WQ.val (by kernel_rfl) (v := (.bool true)) (fun _ => by kernel_rfl) (rfl) ?_
          refine WQ.val (by kernel_rfl) (v := (.bool false)) (fun _ => by kernel_rfl) (rfl) ?_
          refine WQ.val (by kernel_rfl) (v := (.bool false)) (fun _ => by kernel_rfl) (rfl) ?_
          refine WQ.off (by kernel_rfl) ?_
          refine WQ.off (by kernel_rfl) ?_
          refine WQ.val (by kernel_rfl) (v := (.bool false)) (fun _ => by kernel_rfl) (rfl) ?_
          refine WQ.val (by kernel_rfl) (v := (.bool false)) (fun _ => by kernel_rfl) (rfl) ?_
          refine WQ.val (by kernel_rfl) (v := (.bool false)) (fun _ => by kernel_rfl) (rfl) ?_
          refine WQ.val (by kernel_rfl) (v := (.bool false)) (fun _ => by kernel_rfl) (rfl) ?_
          refine WQ.val (by kernel_rfl) (v := (.pointer (some ⟨wr.heap.size, 0, none⟩))) (fun _ => by kernel_rfl) (rfl) ?_
          refine WQ.load3 (by kernel_rfl) (x := .tmp 74) (by kernel_rfl) (p := ⟨wr.heap.size, 0, none⟩) (by kernel_rfl) hx0 ?_
          refine WQ.val (by kernel_rfl) (v := (.bool false)) (fun _ => by kernel_rfl) (rfl) ?_
          refine WQ.val (by kernel_rfl) (v := (.bool false)) (fun _ => by kernel_rfl) (rfl) ?_
          refine WQ.val (by kernel_rfl) (v := (.bool false)) (fun _ => by kernel_rfl) (rfl) ?_
          refine WQ.val (by kernel_rfl) (v := (.bool false)) (fun _ => by kernel_rfl) (rfl) ?_
          refine WQ.val (by kernel_rfl) (v := (.bool false)) (fun _ => by kernel_rfl) (rfl) ?_
          refine WQ.val (by kernel_rfl) (v := (.pointer (some ⟨wr.heap.size, 0, none⟩))) (fun _ => by kernel_rfl) (rfl) ?_
          refine WQ.load3 (by kernel_rfl) (x := .tmp 81) (by kernel_rfl) (p := ⟨wr.heap.size, 0, none⟩) (by kernel_rfl) hx0 ?_
          refine WQ.val (by kernel_rfl) (v := (.bool false)) (fun _ => by kernel_rfl) (rfl) ?_
          refine WQ.val (by kernel_rfl) (v := (.bool false)) (fun _ => by kernel_rfl) (rfl) ?_
          refine WQ.off (by kernel_rfl) ?_
          refine WQ.off (by kernel_rfl) ?_
          refine WQ.off (by kernel_rfl) ?_
          refine WQ.val (by kernel_rfl) (v := (.bool false)) (fun _ => by kernel_rfl) (rfl) ?_
          refine WQ.val (by kernel_rfl) (v := (.bool false)) (fun _ => by kernel_rfl) (rfl) ?_
          refine WQ.val (by kernel_rfl) (v := (.bool false)) (fun _ => by kernel_rfl) (rfl) ?_
          refine WQ.val (by kernel_rfl) (v := (.bool false)) (fun _ => by kernel_rfl) (rfl) ?_
          refine WQ.val (by kernel_rfl) (v := (.pointer (some ⟨g, 0, none⟩))) (fun _ => by kernel_rfl) (rfl) ?_
          refine WQ.val (by kernel_rfl) (v := (.int .i64 (j : Int))) (fun _ => by kernel_rfl) (rfl) ?_
          refine WQ.call (by kernel_rfl) (f := 22) (args := #[.pointer (some ⟨g, 0, none⟩), .int .i64 (j : Int)]) (v := (.bool false)) (fun _ => by kernel_rfl) (by rintro _ ⟨⟨nn, os⟩, rfl⟩; exact Calls.grown_of ((HNO.out _ (HW.out.trans (nob_grow _ _ _))).mono (by rintro e w4 ⟨rfl, o4, rfl⟩; exact ⟨rfl, 0, #[o4], by rw [World.drewN_zero, alloc_eq_grow]⟩))) ?_
          refine WQ.val (by kernel_rfl) (v := (.pointer (some ⟨wr.heap.size, 0, none⟩))) (fun _ => by kernel_rfl) (rfl) ?_
          refine WQ.load3 (by kernel_rfl) (x := .tmp 95) (by kernel_rfl) (p := ⟨wr.heap.size, 0, none⟩) (by kernel_rfl) hx0 ?_
          refine WQ.val (by kernel_rfl) (v := (.bool false)) (fun _ => by kernel_rfl) (rfl) ?_
          refine WQ.val (by kernel_rfl) (v := (.bool false)) (fun _ => by kernel_rfl) (rfl) ?_
          refine WQ.val (by kernel_rfl) (v := (.bool false)) (fun _ => by kernel_rfl) (rfl) ?_
          refine WQ.nil ?_
          rintro _ ⟨⟨nq, osq⟩, rfl⟩
          have HG : Hid (Only Nob wr (grow (W1.drewN nq) osq)) := hide (HW.out.trans (nob_grow _ _ _))
          dsimp only
          generalize grow (W1.drewN nq) osq = W2 at HG ⊢
          clear hx0 hx1 HW HNU HTR HNO HM
          try simp only [Act.put, List.setIfInBounds_toArray, List.set_cons_zero, List.set_cons_succ]
          go_wp2
          go_roundw
          case rel =>
            first
              | exact ⟨j + 2, (by first | rfl | (congr 1; omega)), by omega, HS.out.keep HG.out⟩
              | exact ⟨_, _, _, _, _, _, ⟨j + 2, (by first | rfl | (congr 1; omega)), by omega, HS.out.keep HG.out⟩, rfl⟩
          case measure => (show ((n : Int) + 1 - ((j : Int) + 1)).toNat < ((n : Int) + 1 - (j : Int)).toNat; omega)
        · cases t
          · simp only [sortI, numI, if_true, if_false, Bool.false_eq_true] at hi1 hi2
            have HNU := hide (fun (W : World) (h : Only Nob wr W) => num_any W base g v l (HS.out.sl.nob h) HL.out (j : Int))
            have HTR := hide (fun (W : World) (h : Only Nob wr W) => truth_any W base g v l (HS.out.sl.nob h) HL.out (j : Int))
            have HNO := hide (fun (W : World) (h : Only Nob wr W) => none_alloc W base g v l (HS.out.sl.nob h) HL.out (j : Int))
            rw [HO.out] at HNU HTR HNO
            simp only [numOfItm, truthOfItm, noneOfItm] at HNU HTR HNO
            go_wp2_with (first
              | (go_at_call 19; refine (HNU.out _ ((Only.refl _ wr).alloc _)).mono ?_; rintro e w2 ⟨rfl, rfl⟩)
              | (go_at_call 20; refine (HTR.out _ ((Only.refl _ wr).alloc _)).mono ?_; rintro e w2 ⟨rfl, rfl⟩))
            refine abstract_wps (fun W1 => Only Nob wr W1 ∧ Blk W1 wr.heap.size 94 #[.int .i64 2, .int .u64 0]) ⟨(Only.refl _ wr).alloc _, Blk.new _ _ _⟩ ?_
            rintro W1 ⟨ho1, hb1⟩
            have hx0 : ∀ n os, (grow (W1.drewN n) os).cell? ⟨wr.heap.size, 0, none⟩ = some (.int .i64 2) := cell_grown hb1.lt (hb1.cell 0)
            have hx1 : ∀ n os, (grow (W1.drewN n) os).cell? ⟨wr.heap.size, 1, none⟩ = some (.int .u64 0) := cell_grown hb1.lt (hb1.cell 1)
            have HW := hide ho1
            clear ho1 hb1
            refine wq_region hmx (by kernel_rfl) ?_
            refine WQ.val (by kernel_rfl) (v := (.bool false)) (fun _ => by kernel_rfl) (rfl) ?_
            refine WQ.val (by kernel_rfl) (v := (.pointer (some ⟨wr.heap.size, 0, none⟩))) (fun _ => by kernel_rfl) (rfl) ?_
            refine WQ.load3 (by kernel_rfl) (x := .tmp 43) (by kernel_rfl) (p := ⟨wr.heap.size, 0, none⟩) (by kernel_rfl) hx0 ?_
            refine WQ.val (by kernel_rfl) (v := (.bool false)) (fun _ => by kernel_rfl) (rfl) ?_
            refine WQ.val (by kernel_rfl) (v := (.bool false)) (fun _ => by kernel_rfl) (rfl) ?_
            refine WQ.val (by kernel_rfl) (v := (.bool false)) (fun _ => by kernel_rfl) (rfl) ?_
            refine WQ.val (by kernel_rfl) (v := (.bool false)) (fun _ => by kernel_rfl) (rfl) ?_
            refine WQ.val (by kernel_rfl) (v := (.bool false)) (fun _ => by kernel_rfl) (rfl) ?_
            refine WQ.off (by kernel_rfl) ?_
            refine WQ.off (by kernel_rfl) ?_
            refine WQ.off (by kernel_rfl) ?_
            refine WQ.off (by kernel_rfl) ?_
            refine WQ.off (by kernel_rfl) ?_
            refine WQ.off (by kernel_rfl) ?_
            refine WQ.off (by kernel_rfl) ?_
            refine WQ.off (by kernel_rfl) ?_
            refine WQ.off (by kernel_rfl) ?_
            refine WQ.off (by kernel_rfl) ?_
            refine WQ.off (by kernel_rfl) ?_
            refine WQ.off (by kernel_rfl) ?_
            refine WQ.val (by kernel_rfl) (v := (.bool false)) (fun _ => by kernel_rfl) (rfl) ?_
            refine WQ.val (by kernel_rfl) (v := (.bool false)) (fun _ => by kernel_rfl) (rfl) ?_
            refine WQ.val (by kernel_rfl) (v := (.bool false)) (fun _ => by kernel_rfl) (rfl) ?_
            refine WQ.val (by kernel_rfl) (v := (.bool false)) (fun _ => by kernel_rfl) (rfl) ?_
            refine WQ.val (by kernel_rfl) (v := (.bool true)) (fun _ => by kernel_rfl) (rfl) ?_
            refine WQ.val (by kernel_rfl) (v := (.bool true)) (fun _ => by kernel_rfl) (rfl) ?_
            refine WQ.val (by kernel_rfl) (v := (.int .u64 0)) (fun _ => by kernel_rfl) (rfl) ?_
            refine WQ.val (by kernel_rfl) (v := (.bool false)) (fun _ => by kernel_rfl) (rfl) ?_
            refine WQ.val (by kernel_rfl) (v := (.bool false)) (fun _ => by kernel_rfl) (rfl) ?_
            refine WQ.val (by kernel_rfl) (v := (.bool false)) (fun _ => by kernel_rfl) (rfl) ?_
            refine WQ.val (by kernel_rfl) (v := (.bool false)) (fun _ => by kernel_rfl) (rfl) ?_
            refine WQ.val (by kernel_rfl) (v := (.bool true)) (fun _ => by kernel_rfl) (rfl) ?_
            refine WQ.val (by kernel_rfl) (v := (.pointer (some ⟨wr.heap.size, 0, none⟩))) (fun _ => by kernel_rfl) (rfl) ?_
            refine WQ.load3 (by kernel_rfl) (x := .tmp 74) (by kernel_rfl) (p := ⟨wr.heap.size, 0, none⟩) (by kernel_rfl) hx0 ?_
            refine WQ.val (by kernel_rfl) (v := (.bool true)) (fun _ => by kernel_rfl) (rfl) ?_
            refine WQ.val (by kernel_rfl) (v := (.bool false)) (fun _ => by kernel_rfl) (rfl) ?_
            refine WQ.val (by kernel_rfl) (v := (.bool false)) (fun _ => by kernel_rfl) (rfl) ?_
            refine WQ.val (by kernel_rfl) (v := (.bool false)) (fun _ => by kernel_rfl) (rfl) ?_
            refine WQ.val (by kernel_rfl) (v := (.bool false)) (fun _ => by kernel_rfl) (rfl) ?_
            refine WQ.val (by kernel_rfl) (v := (.pointer (some ⟨wr.heap.size, 0, none⟩))) (fun _ => by kernel_rfl) (rfl) ?_
            refine WQ.load3 (by kernel_rfl) (x := .tmp 81) (by kernel_rfl) (p := ⟨wr.heap.size, 0, none⟩) (by kernel_rfl) hx0 ?_
            refine WQ.val (by kernel_rfl) (v := (.bool true)) (fun _ => by kernel_rfl) (rfl) ?_
            refine WQ.val (by kernel_rfl) (v := (.bool true)) (fun _ => by kernel_rfl) (rfl) ?_
            refine WQ.val (by kernel_rfl) (v := (.pointer (some ⟨wr.heap.size, 1, none⟩))) (fun _ => by kernel_rfl) (rfl) ?_
            refine WQ.load25 (by kernel_rfl) (x := .tmp 85) (by kernel_rfl) (p := ⟨wr.heap.size, 1, none⟩) (by kernel_rfl) hx1 ?_
            refine WQ.val (by kernel_rfl) (v := (.bool false)) (fun _ => by kernel_rfl) (rfl) ?_
            refine WQ.val (by kernel_rfl) (v := (.bool false)) (fun _ => by kernel_rfl) (rfl) ?_
            refine WQ.val (by kernel_rfl) (v := (.bool false)) (fun _ => by kernel_rfl) (rfl) ?_
            refine WQ.val (by kernel_rfl) (v := (.bool false)) (fun _ => by kernel_rfl) (rfl) ?_
            refine WQ.val (by kernel_rfl) (v := (.bool false)) (fun _ => by kernel_rfl) (rfl) ?_
            refine WQ.val (by kernel_rfl) (v := (.pointer (some ⟨g, 0, none⟩))) (fun _ => by kernel_rfl) (rfl) ?_
            refine WQ.val (by kernel_rfl) (v := (.int .i64 (j : Int))) (fun _ => by kernel_rfl) (rfl) ?_
            refine WQ.call (by kernel_rfl) (f := 22) (args := #[.pointer (some ⟨g, 0, none⟩), .int .i64 (j : Int)]) (v := (.bool false)) (fun _ => by kernel_rfl) (by rintro _ ⟨⟨nn, os⟩, rfl⟩; exact Calls.grown_of ((HNO.out _ (HW.out.trans (nob_grow _ _ _))).mono (by rintro e w4 ⟨rfl, o4, rfl⟩; exact ⟨rfl, 0, #[o4], by rw [World.drewN_zero, alloc_eq_grow]⟩))) ?_
            refine WQ.val (by kernel_rfl) (v := (.pointer (some ⟨wr.heap.size, 0, none⟩))) (fun _ => by kernel_rfl) (rfl) ?_
            refine WQ.load3 (by kernel_rfl) (x := .tmp 95) (by kernel_rfl) (p := ⟨wr.heap.size, 0, none⟩) (by kernel_rfl) hx0 ?_
            refine WQ.val (by kernel_rfl) (v := (.bool false)) (fun _ => by kernel_rfl) (rfl) ?_
            refine WQ.val (by kernel_rfl) (v := (.bool false)) (fun _ => by kernel_rfl) (rfl) ?_
            refine WQ.val (by kernel_rfl) (v := (.bool false)) (fun _ => by kernel_rfl) (rfl) ?_
            refine WQ.nil ?_
            rintro _ ⟨⟨nq, osq⟩, rfl⟩
            have HG : Hid (Only Nob wr (grow (W1.drewN nq) osq)) := hide (HW.out.trans (nob_grow _ _ _))
            dsimp only
            generalize grow (W1.drewN nq) osq = W2 at HG ⊢
            clear hx0 hx1 HW HNU HTR HNO
            try simp only [Act.put, List.setIfInBounds_toArray, List.set_cons_zero, List.set_cons_succ]
            go_wp2
            go_roundw
            case rel =>
              first
                | exact ⟨j + 2, (by first | rfl | (congr 1; omega)), by omega, HS.out.keep HG.out⟩
                | exact ⟨_, _, _, _, _, _, ⟨j + 2, (by first | rfl | (congr 1; omega)), by omega, HS.out.keep HG.out⟩, rfl⟩
            case measure => (show ((n : Int) + 1 - ((j : Int) + 1)).toNat < ((n : Int) + 1 - (j : Int)).toNat; omega)
          · simp only [sortI, numI, if_true, if_false, Bool.false_eq_true] at hi1 hi2
            have HNU := hide (fun (W : World) (h : Only Nob wr W) => num_any W base g v l (HS.out.sl.nob h) HL.out (j : Int))
            have HTR := hide (fun (W : World) (h : Only Nob wr W) => truth_any W base g v l (HS.out.sl.nob h) HL.out (j : Int))
            have HNO := hide (fun (W : World) (h : Only Nob wr W) => none_alloc W base g v l (HS.out.sl.nob h) HL.out (j : Int))
            rw [HO.out] at HNU HTR HNO
            simp only [numOfItm, truthOfItm, noneOfItm] at HNU HTR HNO
            go_wp2_with (first
              | (go_at_call 19; refine (HNU.out _ ((Only.refl _ wr).alloc _)).mono ?_; rintro e w2 ⟨rfl, rfl⟩)
              | (go_at_call 20; refine (HTR.out _ ((Only.refl _ wr).alloc _)).mono ?_; rintro e w2 ⟨rfl, rfl⟩))
            refine abstract_wps (fun W1 => Only Nob wr W1 ∧ Blk W1 wr.heap.size 94 #[.int .i64 2, .int .u64 1]) ⟨(Only.refl _ wr).alloc _, Blk.new _ _ _⟩ ?_
            rintro W1 ⟨ho1, hb1⟩
            have hx0 : ∀ n os, (grow (W1.drewN n) os).cell? ⟨wr.heap.size, 0, none⟩ = some (.int .i64 2) := cell_grown hb1.lt (hb1.cell 0)
            have hx1 : ∀ n os, (grow (W1.drewN n) os).cell? ⟨wr.heap.size, 1, none⟩ = some (.int .u64 1) := cell_grown hb1.lt (hb1.cell 1)
            have HW := hide ho1
            clear ho1 hb1
            refine wq_region hmx (by kernel_rfl) ?_
            refine WQ.val (by kernel_rfl) (v := (.bool false)) (fun _ => by kernel_rfl) (rfl) ?_
            refine WQ.val (by kernel_rfl) (v := (.pointer (some ⟨wr.heap.size, 0, none⟩))) (fun _ => by kernel_rfl) (rfl) ?_
            refine WQ.load3 (by kernel_rfl) (x := .tmp 43) (by kernel_rfl) (p := ⟨wr.heap.size, 0, none⟩) (by kernel_rfl) hx0 ?_
            refine WQ.val (by kernel_rfl) (v := (.bool false)) (fun _ => by kernel_rfl) (rfl) ?_
            refine WQ.val (by kernel_rfl) (v := (.bool false)) (fun _ => by kernel_rfl) (rfl) ?_
            refine WQ.val (by kernel_rfl) (v := (.bool false)) (fun _ => by kernel_rfl) (rfl) ?_
            refine WQ.val (by kernel_rfl) (v := (.bool false)) (fun _ => by kernel_rfl) (rfl) ?_
            refine WQ.val (by kernel_rfl) (v := (.bool false)) (fun _ => by kernel_rfl) (rfl) ?_
            refine WQ.off (by kernel_rfl) ?_
            refine WQ.off (by kernel_rfl) ?_
            refine WQ.off (by kernel_rfl) ?_
            refine WQ.off (by kernel_rfl) ?_
            refine WQ.off (by kernel_rfl) ?_
            refine WQ.off (by kernel_rfl) ?_
            refine WQ.off (by kernel_rfl) ?_
            refine WQ.off (by kernel_rfl) ?_
            refine WQ.off (by kernel_rfl) ?_
            refine WQ.off (by kernel_rfl) ?_
            refine WQ.off (by kernel_rfl) ?_
            refine WQ.off (by kernel_rfl) ?_
            refine WQ.val (by kernel_rfl) (v := (.bool false)) (fun _ => by kernel_rfl) (rfl) ?_
            refine WQ.val (by kernel_rfl) (v := (.bool false)) (fun _ => by kernel_rfl) (rfl) ?_
            refine WQ.val (by kernel_rfl) (v := (.bool false)) (fun _ => by kernel_rfl) (rfl) ?_
            refine WQ.val (by kernel_rfl) (v := (.bool false)) (fun _ => by kernel_rfl) (rfl) ?_
            refine WQ.val (by kernel_rfl) (v := (.bool true)) (fun _ => by kernel_rfl) (rfl) ?_
            refine WQ.val (by kernel_rfl) (v := (.bool true)) (fun _ => by kernel_rfl) (rfl) ?_
            refine WQ.val (by kernel_rfl) (v := (.int .u64 0)) (fun _ => by kernel_rfl) (rfl) ?_
            refine WQ.val (by kernel_rfl) (v := (.bool false)) (fun _ => by kernel_rfl) (rfl) ?_
            refine WQ.val (by kernel_rfl) (v := (.bool false)) (fun _ => by kernel_rfl) (rfl) ?_
            refine WQ.val (by kernel_rfl) (v := (.bool false)) (fun _ => by kernel_rfl) (rfl) ?_
            refine WQ.val (by kernel_rfl) (v := (.bool false)) (fun _ => by kernel_rfl) (rfl) ?_
            refine WQ.val (by kernel_rfl) (v := (.bool true)) (fun _ => by kernel_rfl) (rfl) ?_
            refine WQ.val (by kernel_rfl) (v := (.pointer (some ⟨wr.heap.size, 0, none⟩))) (fun _ => by kernel_rfl) (rfl) ?_
            refine WQ.load3 (by kernel_rfl) (x := .tmp 74) (by kernel_rfl) (p := ⟨wr.heap.size, 0, none⟩) (by kernel_rfl) hx0 ?_
            refine WQ.val (by kernel_rfl) (v := (.bool true)) (fun _ => by kernel_rfl) (rfl) ?_
            refine WQ.val (by kernel_rfl) (v := (.bool false)) (fun _ => by kernel_rfl) (rfl) ?_
            refine WQ.val (by kernel_rfl) (v := (.bool false)) (fun _ => by kernel_rfl) (rfl) ?_
            refine WQ.val (by kernel_rfl) (v := (.bool false)) (fun _ => by kernel_rfl) (rfl) ?_
            refine WQ.val (by kernel_rfl) (v := (.bool true)) (fun _ => by kernel_rfl) (rfl) ?_
            refine WQ.val (by kernel_rfl) (v := (.pointer (some ⟨wr.heap.size, 0, none⟩))) (fun _ => by kernel_rfl) (rfl) ?_
            refine WQ.load3 (by kernel_rfl) (x := .tmp 81) (by kernel_rfl) (p := ⟨wr.heap.size, 0, none⟩) (by kernel_rfl) hx0 ?_
            refine WQ.val (by kernel_rfl) (v := (.bool true)) (fun _ => by kernel_rfl) (rfl) ?_
            refine WQ.val (by kernel_rfl) (v := (.bool true)) (fun _ => by kernel_rfl) (rfl) ?_
            refine WQ.val (by kernel_rfl) (v := (.pointer (some ⟨wr.heap.size, 1, none⟩))) (fun _ => by kernel_rfl) (rfl) ?_
            refine WQ.load25 (by kernel_rfl) (x := .tmp 85) (by kernel_rfl) (p := ⟨wr.heap.size, 1, none⟩) (by kernel_rfl) hx1 ?_
            refine WQ.val (by kernel_rfl) (v := (.bool true)) (fun _ => by kernel_rfl) (rfl) ?_
            refine WQ.val (by kernel_rfl) (v := (.bool true)) (fun _ => by kernel_rfl) (rfl) ?_
            refine WQ.val (by kernel_rfl) (v := (.bool false)) (fun _ => by kernel_rfl) (rfl) ?_
            refine WQ.val (by kernel_rfl) (v := (.bool false)) (fun _ => by kernel_rfl) (rfl) ?_
            refine WQ.val (by kernel_rfl) (v := (.bool false)) (fun _ => by kernel_rfl) (rfl) ?_
            refine WQ.val (by kernel_rfl) (v := (.pointer (some ⟨g, 0, none⟩))) (fun _ => by kernel_rfl) (rfl) ?_
            refine WQ.val (by kernel_rfl) (v := (.int .i64 (j : Int))) (fun _ => by kernel_rfl) (rfl) ?_
            refine WQ.call (by kernel_rfl) (f := 22) (args := #[.pointer (some ⟨g, 0, none⟩), .int .i64 (j : Int)]) (v := (.bool false)) (fun _ => by kernel_rfl) (by rintro _ ⟨⟨nn, os⟩, rfl⟩; exact Calls.grown_of ((HNO.out _ (HW.out.trans (nob_grow _ _ _))).mono (by rintro e w4 ⟨rfl, o4, rfl⟩; exact ⟨rfl, 0, #[o4], by rw [World.drewN_zero, alloc_eq_grow]⟩))) ?_
            refine WQ.val (by kernel_rfl) (v := (.pointer (some ⟨wr.heap.size, 0, none⟩))) (fun _ => by kernel_rfl) (rfl) ?_
            refine WQ.load3 (by kernel_rfl) (x := .tmp 95) (by kernel_rfl) (p := ⟨wr.heap.size, 0, none⟩) (by kernel_rfl) hx0 ?_
            refine WQ.val (by kernel_rfl) (v := (.bool false)) (fun _ => by kernel_rfl) (rfl) ?_
            refine WQ.val (by kernel_rfl) (v := (.bool false)) (fun _ => by kernel_rfl) (rfl) ?_
            refine WQ.val (by kernel_rfl) (v := (.bool false)) (fun _ => by kernel_rfl) (rfl) ?_
            refine WQ.nil ?_
            rintro _ ⟨⟨nq, osq⟩, rfl⟩
            have HG : Hid (Only Nob wr (grow (W1.drewN nq) osq)) := hide (HW.out.trans (nob_grow _ _ _))
            dsimp only
            generalize grow (W1.drewN nq) osq = W2 at HG ⊢
            clear hx0 hx1 HW HNU HTR HNO
            try simp only [Act.put, List.setIfInBounds_toArray, List.set_cons_zero, List.set_cons_succ]
            go_wp2
            go_roundw
            case rel =>
              first
                | exact ⟨j + 2, (by first | rfl | (congr 1; omega)), by omega, HS.out.keep HG.out⟩
                | exact ⟨_, _, _, _, _, _, ⟨j + 2, (by first | rfl | (congr 1; omega)), by omega, HS.out.keep HG.out⟩, rfl⟩
            case measure => (show ((n : Int) + 1 - ((j : Int) + 1)).toNat < ((n : Int) + 1 - (j : Int)).toNat; omega)
        · simp only [sortI, numI] at hi1 hi2
          have HNU := hide (fun (W : World) (h : Only Nob wr W) => num_any W base g v l (HS.out.sl.nob h) HL.out (j : Int))
          have HTR := hide (fun (W : World) (h : Only Nob wr W) => truth_any W base g v l (HS.out.sl.nob h) HL.out (j : Int))
          have HNO := hide (fun (W : World) (h : Only Nob wr W) => none_alloc W base g v l (HS.out.sl.nob h) HL.out (j : Int))
          rw [HO.out] at HNU HTR HNO
          simp only [numOfItm, truthOfItm, noneOfItm] at HNU HTR HNO
          go_wp2_with (first
            | (go_at_call 19; refine (HNU.out _ ((Only.refl _ wr).alloc _)).mono ?_; rintro e w2 ⟨rfl, rfl⟩)
            | (go_at_call 20; refine (HTR.out _ ((Only.refl _ wr).alloc _)).mono ?_; rintro e w2 ⟨rfl, rfl⟩))
          refine abstract_wps (fun W1 => Only Nob wr W1 ∧ Blk W1 wr.heap.size 94 #[.int .i64 3, .int .u64 0]) ⟨(Only.refl _ wr).alloc _, Blk.new _ _ _⟩ ?_
          rintro W1 ⟨ho1, hb1⟩
          have hx0 : ∀ n os, (grow (W1.drewN n) os).cell? ⟨wr.heap.size, 0, none⟩ = some (.int .i64 3) := cell_grown hb1.lt (hb1.cell 0)
          have hx1 : ∀ n os, (grow (W1.drewN n) os).cell? ⟨wr.heap.size, 1, none⟩ = some (.int .u64 0) := cell_grown hb1.lt (hb1.cell 1)
          have HW := hide ho1
          clear ho1 hb1
          refine wq_region hmx (by kernel_rfl) ?_
          refine WQ.val (by kernel_rfl) (v := (.bool false)) (fun _ => by kernel_rfl) (rfl) ?_
          refine WQ.val (by kernel_rfl) (v := (.pointer (some ⟨wr.heap.size, 0, none⟩))) (fun _ => by kernel_rfl) (rfl) ?_
          refine WQ.load3 (by kernel_rfl) (x := .tmp 43) (by kernel_rfl) (p := ⟨wr.heap.size, 0, none⟩) (by kernel_rfl) hx0 ?_
          refine WQ.val (by kernel_rfl) (v := (.bool false)) (fun _ => by kernel_rfl) (rfl) ?_
          refine WQ.val (by kernel_rfl) (v := (.bool false)) (fun _ => by kernel_rfl) (rfl) ?_
          refine WQ.val (by kernel_rfl) (v := (.bool false)) (fun _ => by kernel_rfl) (rfl) ?_
          refine WQ.val (by kernel_rfl) (v := (.bool false)) (fun _ => by kernel_rfl) (rfl) ?_
          refine WQ.val (by kernel_rfl) (v := (.bool false)) (fun _ => by kernel_rfl) (rfl) ?_
          refine WQ.off (by kernel_rfl) ?_
          refine WQ.off (by kernel_rfl) ?_
          refine WQ.off (by kernel_rfl) ?_
          refine WQ.off (by kernel_rfl) ?_
          refine WQ.off (by kernel_rfl) ?_
          refine WQ.off (by kernel_rfl) ?_
          refine WQ.off (by kernel_rfl) ?_
          refine WQ.off (by kernel_rfl) ?_
          refine WQ.off (by kernel_rfl) ?_
          refine WQ.off (by kernel_rfl) ?_
          refine WQ.off (by kernel_rfl) ?_
          refine WQ.off (by kernel_rfl) ?_
          refine WQ.val (by kernel_rfl) (v := (.bool false)) (fun _ => by kernel_rfl) (rfl) ?_
          refine WQ.val (by kernel_rfl) (v := (.bool false)) (fun _ => by kernel_rfl) (rfl) ?_
          refine WQ.val (by kernel_rfl) (v := (.bool false)) (fun _ => by kernel_rfl) (rfl) ?_
          refine WQ.val (by kernel_rfl) (v := (.bool false)) (fun _ => by kernel_rfl) (rfl) ?_
          refine WQ.val (by kernel_rfl) (v := (.bool true)) (fun _ => by kernel_rfl) (rfl) ?_
          refine WQ.val (by kernel_rfl) (v := (.bool true)) (fun _ => by kernel_rfl) (rfl) ?_
          refine WQ.val (by kernel_rfl) (v := (.int .u64 0)) (fun _ => by kernel_rfl) (rfl) ?_
          refine WQ.val (by kernel_rfl) (v := (.bool false)) (fun _ => by kernel_rfl) (rfl) ?_
          refine WQ.val (by kernel_rfl) (v := (.bool false)) (fun _ => by kernel_rfl) (rfl) ?_
          refine WQ.val (by kernel_rfl) (v := (.bool false)) (fun _ => by kernel_rfl) (rfl) ?_
          refine WQ.val (by kernel_rfl) (v := (.bool false)) (fun _ => by kernel_rfl) (rfl) ?_
          refine WQ.val (by kernel_rfl) (v := (.bool false)) (fun _ => by kernel_rfl) (rfl) ?_
          refine WQ.val (by kernel_rfl) (v := (.pointer (some ⟨wr.heap.size, 0, none⟩))) (fun _ => by kernel_rfl) (rfl) ?_
          refine WQ.load3 (by kernel_rfl) (x := .tmp 74) (by kernel_rfl) (p := ⟨wr.heap.size, 0, none⟩) (by kernel_rfl) hx0 ?_
          refine WQ.val (by kernel_rfl) (v := (.bool false)) (fun _ => by kernel_rfl) (rfl) ?_
          refine WQ.val (by kernel_rfl) (v := (.bool false)) (fun _ => by kernel_rfl) (rfl) ?_
          refine WQ.val (by kernel_rfl) (v := (.bool false)) (fun _ => by kernel_rfl) (rfl) ?_
          refine WQ.val (by kernel_rfl) (v := (.bool false)) (fun _ => by kernel_rfl) (rfl) ?_
          refine WQ.val (by kernel_rfl) (v := (.bool false)) (fun _ => by kernel_rfl) (rfl) ?_
          refine WQ.val (by kernel_rfl) (v := (.pointer (some ⟨wr.heap.size, 0, none⟩))) (fun _ => by kernel_rfl) (rfl) ?_
          refine WQ.load3 (by kernel_rfl) (x := .tmp 81) (by kernel_rfl) (p := ⟨wr.heap.size, 0, none⟩) (by kernel_rfl) hx0 ?_
          refine WQ.val (by kernel_rfl) (v := (.bool false)) (fun _ => by kernel_rfl) (rfl) ?_
          refine WQ.val (by kernel_rfl) (v := (.bool false)) (fun _ => by kernel_rfl) (rfl) ?_
          refine WQ.off (by kernel_rfl) ?_
          refine WQ.off (by kernel_rfl) ?_
          refine WQ.off (by kernel_rfl) ?_
          refine WQ.val (by kernel_rfl) (v := (.bool false)) (fun _ => by kernel_rfl) (rfl) ?_
          refine WQ.val (by kernel_rfl) (v := (.bool false)) (fun _ => by kernel_rfl) (rfl) ?_
          refine WQ.val (by kernel_rfl) (v := (.bool false)) (fun _ => by kernel_rfl) (rfl) ?_
          refine WQ.val (by kernel_rfl) (v := (.bool false)) (fun _ => by kernel_rfl) (rfl) ?_
          refine WQ.val (by kernel_rfl) (v := (.pointer (some ⟨g, 0, none⟩))) (fun _ => by kernel_rfl) (rfl) ?_
          refine WQ.val (by kernel_rfl) (v := (.int .i64 (j : Int))) (fun _ => by kernel_rfl) (rfl) ?_
          refine WQ.call (by kernel_rfl) (f := 22) (args := #[.pointer (some ⟨g, 0, none⟩), .int .i64 (j : Int)]) (v := (.bool true)) (fun _ => by kernel_rfl) (by rintro _ ⟨⟨nn, os⟩, rfl⟩; exact Calls.grown_of ((HNO.out _ (HW.out.trans (nob_grow _ _ _))).mono (by rintro e w4 ⟨rfl, o4, rfl⟩; exact ⟨rfl, 0, #[o4], by rw [World.drewN_zero, alloc_eq_grow]⟩))) ?_
          refine WQ.val (by kernel_rfl) (v := (.pointer (some ⟨wr.heap.size, 0, none⟩))) (fun _ => by kernel_rfl) (rfl) ?_
          refine WQ.load3 (by kernel_rfl) (x := .tmp 95) (by kernel_rfl) (p := ⟨wr.heap.size, 0, none⟩) (by kernel_rfl) hx0 ?_
          refine WQ.val (by kernel_rfl) (v := (.bool true)) (fun _ => by kernel_rfl) (rfl) ?_
          refine WQ.val (by kernel_rfl) (v := (.bool false)) (fun _ => by kernel_rfl) (rfl) ?_
          refine WQ.val (by kernel_rfl) (v := (.bool false)) (fun _ => by kernel_rfl) (rfl) ?_
          refine WQ.nil ?_
          rintro _ ⟨⟨nq, osq⟩, rfl⟩
          have HG : Hid (Only Nob wr (grow (W1.drewN nq) osq)) := hide (HW.out.trans (nob_grow _ _ _))
          dsimp only
          generalize grow (W1.drewN nq) osq = W2 at HG ⊢
          clear hx0 hx1 HW HNU HTR HNO
          try simp only [Act.put, List.setIfInBounds_toArray, List.set_cons_zero, List.set_cons_succ]
          go_wp2
          go_roundw
          case rel =>
            first
              | exact ⟨j + 2, (by first | rfl | (congr 1; omega)), by omega, HS.out.keep HG.out⟩
              | exact ⟨_, _, _, _, _, _, ⟨j + 2, (by first | rfl | (congr 1; omega)), by omega, HS.out.keep HG.out⟩, rfl⟩
          case measure => (show ((n : Int) + 1 - ((j : Int) + 1)).toNat < ((n : Int) + 1 - (j : Int)).toNat; omega)
      · by_cases hjn2 : j = n
        · subst hjn2
          have HO : Hid (itmAt l (j : Int) = none) := hide (itmAt_out (.inr (by have := HN.out; omega)))
          have hj0 : (0 : Int) ≤ (j : Int) := by omega
          have HNU := hide (fun (W : World) (h : Only Nob wr W) => num_any W base g v l (HS.out.sl.nob h) HL.out (j : Int))
          have HTR := hide (fun (W : World) (h : Only Nob wr W) => truth_any W base g v l (HS.out.sl.nob h) HL.out (j : Int))
          have HNO := hide (fun (W : World) (h : Only Nob wr W) => none_alloc W base g v l (HS.out.sl.nob h) HL.out (j : Int))
          rw [HO.out] at HNU HTR HNO
          simp only [numOfItm, truthOfItm, noneOfItm] at HNU HTR HNO
          go_wp2_with (first
            | (go_at_call 19; refine (HNU.out _ ((Only.refl _ wr).alloc _)).mono ?_; rintro e w2 ⟨rfl, rfl⟩)
            | (go_at_call 20; refine (HTR.out _ ((Only.refl _ wr).alloc _)).mono ?_; rintro e w2 ⟨rfl, rfl⟩))
          refine abstract_wps (fun W1 => Only Nob wr W1 ∧ Blk W1 wr.heap.size 94 #[.int .i64 0, .int .u64 0]) ⟨(Only.refl _ wr).alloc _, Blk.new _ _ _⟩ ?_
          rintro W1 ⟨ho1, hb1⟩
          have hx0 : ∀ n os, (grow (W1.drewN n) os).cell? ⟨wr.heap.size, 0, none⟩ = some (.int .i64 0) := cell_grown hb1.lt (hb1.cell 0)
          have hx1 : ∀ n os, (grow (W1.drewN n) os).cell? ⟨wr.heap.size, 1, none⟩ = some (.int .u64 0) := cell_grown hb1.lt (hb1.cell 1)
          have HW := hide ho1
          clear ho1 hb1
          refine wq_region hmx (by kernel_rfl) ?_
          refine WQ.val (by kernel_rfl) (v := (.bool false)) (fun _ => by kernel_rfl) (rfl) ?_
          refine WQ.val (by kernel_rfl) (v := (.pointer (some ⟨wr.heap.size, 0, none⟩))) (fun _ => by kernel_rfl) (rfl) ?_
          refine WQ.load3 (by kernel_rfl) (x := .tmp 43) (by kernel_rfl) (p := ⟨wr.heap.size, 0, none⟩) (by kernel_rfl) hx0 ?_
          refine WQ.val (by kernel_rfl) (v := (.bool false)) (fun _ => by kernel_rfl) (rfl) ?_
          refine WQ.val (by kernel_rfl) (v := (.bool false)) (fun _ => by kernel_rfl) (rfl) ?_
          refine WQ.val (by kernel_rfl) (v := (.bool false)) (fun _ => by kernel_rfl) (rfl) ?_
          refine WQ.val (by kernel_rfl) (v := (.bool false)) (fun _ => by kernel_rfl) (rfl) ?_
          refine WQ.val (by kernel_rfl) (v := (.bool false)) (fun _ => by kernel_rfl) (rfl) ?_
          refine WQ.off (by kernel_rfl) ?_
          refine WQ.off (by kernel_rfl) ?_
          refine WQ.off (by kernel_rfl) ?_
          refine WQ.off (by kernel_rfl) ?_
          refine WQ.off (by kernel_rfl) ?_
          refine WQ.off (by kernel_rfl) ?_
          refine WQ.off (by kernel_rfl) ?_
          refine WQ.off (by kernel_rfl) ?_
          refine WQ.off (by kernel_rfl) ?_
          refine WQ.off (by kernel_rfl) ?_
          refine WQ.off (by kernel_rfl) ?_
          refine WQ.off (by kernel_rfl) ?_
          refine WQ.val (by kernel_rfl) (v := (.bool false)) (fun _ => by kernel_rfl) (rfl) ?_
          refine WQ.val (by kernel_rfl) (v := (.bool false)) (fun _ => by kernel_rfl) (rfl) ?_
          refine WQ.val (by kernel_rfl) (v := (.bool false)) (fun _ => by kernel_rfl) (rfl) ?_
          refine WQ.val (by kernel_rfl) (v := (.bool false)) (fun _ => by kernel_rfl) (rfl) ?_
          refine WQ.val (by kernel_rfl) (v := (.bool true)) (fun _ => by kernel_rfl) (rfl) ?_
          refine WQ.val (by kernel_rfl) (v := (.bool true)) (fun _ => by kernel_rfl) (rfl) ?_
          refine WQ.val (by kernel_rfl) (v := (.int .u64 0)) (fun _ => by kernel_rfl) (rfl) ?_
          refine WQ.val (by kernel_rfl) (v := (.bool false)) (fun _ => by kernel_rfl) (rfl) ?_
          refine WQ.val (by kernel_rfl) (v := (.bool false)) (fun _ => by kernel_rfl) (rfl) ?_
          refine WQ.val (by kernel_rfl) (v := (.bool false)) (fun _ => by kernel_rfl) (rfl) ?_
          refine WQ.val (by kernel_rfl) (v := (.bool false)) (fun _ => by kernel_rfl) (rfl) ?_
          refine WQ.val (by kernel_rfl) (v := (.bool false)) (fun _ => by kernel_rfl) (rfl) ?_
          refine WQ.val (by kernel_rfl) (v := (.pointer (some ⟨wr.heap.size, 0, none⟩))) (fun _ => by kernel_rfl) (rfl) ?_
          refine WQ.load3 (by kernel_rfl) (x := .tmp 74) (by kernel_rfl) (p := ⟨wr.heap.size, 0, none⟩) (by kernel_rfl) hx0 ?_
          refine WQ.val (by kernel_rfl) (v := (.bool false)) (fun _ => by kernel_rfl) (rfl) ?_
          refine WQ.val (by kernel_rfl) (v := (.bool false)) (fun _ => by kernel_rfl) (rfl) ?_
          refine WQ.val (by kernel_rfl) (v := (.bool false)) (fun _ => by kernel_rfl) (rfl) ?_
          refine WQ.val (by kernel_rfl) (v := (.bool false)) (fun _ => by kernel_rfl) (rfl) ?_
          refine WQ.val (by kernel_rfl) (v := (.bool false)) (fun _ => by kernel_rfl) (rfl) ?_
          refine WQ.val (by kernel_rfl) (v := (.pointer (some ⟨wr.heap.size, 0, none⟩))) (fun _ => by kernel_rfl) (rfl) ?_
          refine WQ.load3 (by kernel_rfl) (x := .tmp 81) (by kernel_rfl) (p := ⟨wr.heap.size, 0, none⟩) (by kernel_rfl) hx0 ?_
          refine WQ.val (by kernel_rfl) (v := (.bool false)) (fun _ => by kernel_rfl) (rfl) ?_
          refine WQ.val (by kernel_rfl) (v := (.bool false)) (fun _ => by kernel_rfl) (rfl) ?_
          refine WQ.off (by kernel_rfl) ?_
          refine WQ.off (by kernel_rfl) ?_
          refine WQ.off (by kernel_rfl) ?_
          refine WQ.val (by kernel_rfl) (v := (.bool false)) (fun _ => by kernel_rfl) (rfl) ?_
          refine WQ.val (by kernel_rfl) (v := (.bool false)) (fun _ => by kernel_rfl) (rfl) ?_
          refine WQ.val (by kernel_rfl) (v := (.bool false)) (fun _ => by kernel_rfl) (rfl) ?_
          refine WQ.val (by kernel_rfl) (v := (.bool false)) (fun _ => by kernel_rfl) (rfl) ?_
          refine WQ.val (by kernel_rfl) (v := (.pointer (some ⟨g, 0, none⟩))) (fun _ => by kernel_rfl) (rfl) ?_
          refine WQ.val (by kernel_rfl) (v := (.int .i64 (j : Int))) (fun _ => by kernel_rfl) (rfl) ?_
          refine WQ.call (by kernel_rfl) (f := 22) (args := #[.pointer (some ⟨g, 0, none⟩), .int .i64 (j : Int)]) (v := (.bool false)) (fun _ => by kernel_rfl) (by rintro _ ⟨⟨nn, os⟩, rfl⟩; exact Calls.grown_of ((HNO.out _ (HW.out.trans (nob_grow _ _ _))).mono (by rintro e w4 ⟨rfl, o4, rfl⟩; exact ⟨rfl, 0, #[o4], by rw [World.drewN_zero, alloc_eq_grow]⟩))) ?_
          refine WQ.val (by kernel_rfl) (v := (.pointer (some ⟨wr.heap.size, 0, none⟩))) (fun _ => by kernel_rfl) (rfl) ?_
          refine WQ.load3 (by kernel_rfl) (x := .tmp 95) (by kernel_rfl) (p := ⟨wr.heap.size, 0, none⟩) (by kernel_rfl) hx0 ?_
          refine WQ.val (by kernel_rfl) (v := (.bool false)) (fun _ => by kernel_rfl) (rfl) ?_
          refine WQ.val (by kernel_rfl) (v := (.bool false)) (fun _ => by kernel_rfl) (rfl) ?_
          refine WQ.val (by kernel_rfl) (v := (.bool false)) (fun _ => by kernel_rfl) (rfl) ?_
          refine WQ.nil ?_
          rintro _ ⟨⟨nq, osq⟩, rfl⟩
          have HG : Hid (Only Nob wr (grow (W1.drewN nq) osq)) := hide (HW.out.trans (nob_grow _ _ _))
          dsimp only
          generalize grow (W1.drewN nq) osq = W2 at HG ⊢
          clear hx0 hx1 HW HNU HTR HNO
          try simp only [Act.put, List.setIfInBounds_toArray, List.set_cons_zero, List.set_cons_succ]
          go_wp2
          go_roundw
          case rel =>
            first
              | exact ⟨j + 2, (by first | rfl | (congr 1; omega)), by omega, HS.out.keep HG.out⟩
              | exact ⟨_, _, _, _, _, _, ⟨j + 2, (by first | rfl | (congr 1; omega)), by omega, HS.out.keep HG.out⟩, rfl⟩
          case measure => (show ((j : Int) + 1 - ((j : Int) + 1)).toNat < ((j : Int) + 1 - (j : Int)).toNat; omega)
        · have hj2 : j = n + 1 := by omega
          subst hj2
          have HLN := hide (len_any wr base g v l HS.out.sl HL.out)
          rw [HN.out] at HLN
          have HTX := hide (text_any wr base g v l HS.out.sl HL.out HK.out HS.out.tab)
          have HRT := hide (fun (W : World) (ho : Only Nob wr W) => rtext_any W A n cap l (HS.out.items.nob ho) HN.out HL.out HK.out)
          clear hk hjn hjn2
          go_wp2_with (first
            | (go_at_call 26; refine (HLN.out).mono ?_; rintro e w2 ⟨rfl, rfl⟩)
            | (go_at_call 23; refine (HTX.out).mono ?_; rintro e w2 ⟨rfl, ho2⟩; have HO2 := hide ho2; clear ho2)
            | (go_at_call 50; refine (HRT.out _ HO2.out).mono ?_; rintro e w3 ⟨rfl, ho3⟩; have HO3 := hide ho3; clear ho3))
          go_ret
          exact ⟨by rfl, (HS.out.only.trans HO2.out).trans HO3.out⟩
end Go.Proofs.YtngahgfppbjebaaDoor

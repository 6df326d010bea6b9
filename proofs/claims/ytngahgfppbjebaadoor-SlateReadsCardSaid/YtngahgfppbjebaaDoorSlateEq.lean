/-
  Contracts of package slate: Same; Copy; Cut.
-/
import Derived.Test.YtngahgfppbjebaaDoorSlateKeep
import Derived.KernelRfl
import Derived.BigQuiet
import Derived.Deep.RegionWith
namespace Go.Proofs.YtngahgfppbjebaaDoor
open Go.RowKit
set_option linter.unusedVariables false
set_option linter.unusedSimpArgs false

def sameI (x y : Itm) : Bool := match x, y with
  | .num n, .num m => (n : Int) == (m : Int)
  | .truth a, .truth b => a == b
  | .nothing, .nothing => true
  | _, _ => false
theorem sameI_eq (x y : Itm) : sameI x y = decide (x = y) := by
  rcases x with n | a | _ <;> rcases y with m | b | _
  · by_cases h : n = m
    · subst h; simp [sameI]
    · have h2 : ¬ ((n : Int) = (m : Int)) := by omega
      have e1 : ((n : Int) == (m : Int)) = false := beq_eq_false_iff_ne.2 h2
      have e2 : decide (Itm.num n = Itm.num m) = false := by simp [h]
      rw [e2]
      exact e1
  all_goals first | rfl | simp [sameI]
  cases a <;> cases b <;> rfl
theorem neqNN (n m : Int) (w : World) : (binOp .neq 20 (.iface 25 (.int .u64 n)) (.iface 25 (.int .u64 m))).run Tryd.prog w = .ok (.bool (!(n == m))) w := by kernel_rfl
theorem neqTT (n m : Bool) (w : World) : (binOp .neq 20 (.iface 4 (.bool n)) (.iface 4 (.bool m))).run Tryd.prog w = .ok (.bool (!(n == m))) w := by cases n <;> cases m <;> kernel_rfl
theorem neqOO (w : World) : (binOp .neq 20 (.iface 80 (.agg #[])) (.iface 80 (.agg #[]))).run Tryd.prog w = .ok (.bool false) w := by kernel_rfl
theorem neqNT (n : Int) (m : Bool) (w : World) : (binOp .neq 20 (.iface 25 (.int .u64 n)) (.iface 4 (.bool m))).run Tryd.prog w = .ok (.bool true) w := by kernel_rfl
theorem neqTN (n : Int) (m : Bool) (w : World) : (binOp .neq 20 (.iface 4 (.bool m)) (.iface 25 (.int .u64 n))).run Tryd.prog w = .ok (.bool true) w := by kernel_rfl
theorem neqNO (n : Int) (w : World) : (binOp .neq 20 (.iface 25 (.int .u64 n)) (.iface 80 (.agg #[]))).run Tryd.prog w = .ok (.bool true) w := by kernel_rfl
theorem neqON (n : Int) (w : World) : (binOp .neq 20 (.iface 80 (.agg #[])) (.iface 25 (.int .u64 n))).run Tryd.prog w = .ok (.bool true) w := by kernel_rfl
theorem neqTO (n : Bool) (w : World) : (binOp .neq 20 (.iface 4 (.bool n)) (.iface 80 (.agg #[]))).run Tryd.prog w = .ok (.bool true) w := by kernel_rfl
theorem neqOT (n : Bool) (w : World) : (binOp .neq 20 (.iface 80 (.agg #[])) (.iface 4 (.bool n))).run Tryd.prog w = .ok (.bool true) w := by kernel_rfl
theorem guardItm (x y : Itm) (op : BinOp) (a b : Operand) (w : World) : (eqGuard op 20 a b (itemV x) (itemV y)).run Tryd.prog w = .ok () w := by
  rcases x with n | n | _ <;> rcases y with m | m | _ <;> cases op <;> kernel_rfl
theorem neqItm : NeqAt Tryd.prog 20 itemV sameI := by
  refine ⟨fun x y w => ?_, fun op a b x y w => guardItm x y op a b w⟩
  rcases x with n | n | _ <;> rcases y with m | m | _
  · exact neqNN n m w
  · exact neqNT n m w
  · exact neqNO n w
  · exact neqTN m n w
  · exact neqTT n m w
  · exact neqTO n w
  · exact neqON m w
  · exact neqOT m w
  · exact neqOO w
instance : Inhabited Itm := ⟨.nothing⟩
theorem allEq_eq : ∀ (l m : List Itm), Lib.allEq sameI l m = decide (l = m)
  | [], [] => by simp [Lib.allEq]
  | [], _ :: _ => by simp [Lib.allEq]
  | _ :: _, [] => by simp [Lib.allEq]
  | x :: l, y :: m => by
    simp only [Lib.allEq, sameI_eq, allEq_eq l m]
    by_cases h1 : x = y <;> by_cases h2 : l = m <;> simp [h1, h2]
theorem row_cells {w : World} {base b cap : Nat} {l : List Itm} (h : w.ownsRow base 20 1 (.slice (some ⟨b, 0, none⟩) l.length cap) l.length (l.map itemV)) (j : Nat) (hj : j < l.length) :
    w.cell? ⟨b, 0 + j, none⟩ = some (itemV l[j]!) := by
  have hr := World.ownsRow.cellAt h j (by omega)
  rw [List.getElem?_map, List.getElem?_eq_getElem hj, Option.map_some] at hr
  rw [Nat.zero_add, hr, getElem!_pos l j hj]
theorem equal_nil (A B : Option Addr) (n m d c : Nat) (hn : n ≤ 1000) (hm : m ≤ 1000) (h0 : n = 0 ∨ m = 0) (w : World) :
    Calls Tryd.prog 47 #[.slice A n c, .slice B m d] w fun e w' => e = .returned (.bool (decide (n = m))) ∧ w = w' := by
  by_cases h : n = m
  · obtain ⟨rfl, rfl⟩ : n = 0 ∧ m = 0 := by omega
    go_enter Tryd.func47, Tryd.ntmps47
    go_wp2
    refine wp_loop_rounds 1 ?_
    rw [rounds_succ]
    go_wp2
    go_ret
    exact ⟨rfl, rfl⟩
  · have d1 : decide ((n : Int) = (m : Int)) = false := by simp; omega
    have d2 : ((n : Int) == (m : Int)) = false := by simp; omega
    go_enter Tryd.func47, Tryd.ntmps47
    go_wp2
    go_ret
    exact ⟨by simp [h], rfl⟩
theorem equal_any {w : World} {b1 b2 g1 g2 : Nat} {u v : Value} {l m : List Itm} (h1 : Sl w b1 g1 u l) (h2 : Sl w b2 g2 v m) (hl : l.length ≤ 1000) (hm : m.length ≤ 1000) :
    Calls Tryd.prog 47 #[u, v] w fun e w' => e = .returned (.bool (decide (l = m))) ∧ ∃ q, w' = w.drewN q := by
  have key : ∀ {A B : Option Addr} {c d : Nat}, u = .slice A l.length c → v = .slice B m.length d → (l.length = 0 ∨ m.length = 0) →
      Calls Tryd.prog 47 #[u, v] w fun e w' => e = .returned (.bool (decide (l = m))) ∧ ∃ q, w' = w.drewN q := by
    intro A B c d e1 e2 h0
    rw [e1, e2]
    refine (equal_nil A B l.length m.length d c hl hm h0 w).mono fun e w' ⟨h3, h4⟩ => ⟨?_, 0, by rw [← h4]; simp [World.drewN_zero]⟩
    rw [h3]
    congr 2
    by_cases h : l = m
    · subst h; simp
    · have : ¬ l.length = m.length := fun e => by
        rcases h0 with h0 | h0
        · have e3 : l = [] := List.eq_nil_of_length_eq_zero h0
          have e4 : m = [] := List.eq_nil_of_length_eq_zero (by omega)
          exact h (by rw [e3, e4])
        · have e3 : l = [] := List.eq_nil_of_length_eq_zero (by omega)
          have e4 : m = [] := List.eq_nil_of_length_eq_zero h0
          exact h (by rw [e3, e4])
      simp [h, this]
  rcases h1.row.2 with ⟨e1, n1⟩ | ⟨a, c, cur, e1, _⟩
  · obtain ⟨B, d, e2⟩ := h2.form
    exact key (A := none) (c := 0) (by rw [e1, n1]) e2 (.inl n1)
  · rcases h2.row.2 with ⟨e2, n2⟩ | ⟨b, d, cur2, e2, _⟩
    · obtain ⟨B, d, e3⟩ := h1.form
      exact key (B := none) (d := 0) e1 (by rw [e2, n2]) (.inr n2)
    · have r1 := h1.row
      have r2 := h2.row
      rw [e1] at r1 ⊢
      rw [e2] at r2 ⊢
      refine (AnyE.slices_Equal Tryd.lEqual itemV sameI neqItm a 0 l.length c b 0 m.length d l m w (Nat.le_refl _) (Nat.le_refl _) (by omega) (by omega) (row_cells r1) (row_cells r2)).mono fun e w' ⟨h3, h4⟩ => ⟨?_, h4⟩
      rw [h3, List.take_length, List.take_length, allEq_eq]
theorem same_any {w : World} {b1 b2 g1 g2 : Nat} {u v : Value} {l m : List Itm} (h1 : Sl w b1 g1 u l) (h2 : Sl w b2 g2 v m) (hl : l.length ≤ 1000) (hm : m.length ≤ 1000) :
    Calls Tryd.prog 24 #[.pointer (some ⟨g1, 0, none⟩), .pointer (some ⟨g2, 0, none⟩)] w fun e w' => e = .returned (.bool (decide (l = m))) ∧ ∃ q, w' = w.drewN q := by
  have hc1 := h1.cell.cell 0
  have hc2 := h2.cell.cell 0
  simp at hc1 hc2
  have HC : Hid (∀ n, Calls Tryd.prog 47 #[u, v] (w.drewN n) fun e w'' => e = .returned (.bool (decide (l = m))) ∧ ∃ q, w'' = w.drewN q) := hide fun n =>
    (equal_any (w := w.drewN n) ⟨h1.cell, h1.row, h1.apart⟩ ⟨h2.cell, h2.row, h2.apart⟩ hl hm).mono fun e w' ⟨h3, q, h4⟩ => ⟨h3, n + q, by rw [h4, World.drewN_drewN]⟩
  clear h1 h2
  generalize decide (l = m) = r at *
  go_enter Tryd.func24, Tryd.ntmps24
  go_wp2
  go_quiet ((go_at_call 47; exact HC.out _))
  go_wp2
  go_ret
  exact ⟨rfl, _, rfl⟩

/-- What slices.Clone gives. -/
def ClonePost (w : World) (l : List Itm) (e : Ending) (w' : World) : Prop := ∃ v', e = .returned v' ∧ w'.ownsRow w.heap.size 20 1 v' l.length (l.map itemV) ∧ Only Nob w w'
set_option maxRecDepth 100000 in
theorem clone_cells {w : World} {l : List Itm} (b n c : Nat) (hn : l.length = n) (hl : l.length ≤ 1000) (hc : ∀ j (x : Itm), l[j]? = some x → w.cell? ⟨b, 0 + j, none⟩ = some (itemV x)) :
    Calls Tryd.prog 49 #[.slice (some ⟨b, 0, none⟩) n c] w (ClonePost w l) := by
  subst hn
  obtain ⟨i0, hi, hz0, hz1, hz2⟩ := info_parts infoAny
  refine (AnyE.slices_Clone Tryd.lClone i0 .nilIface 1 16 hi hz0 hz1 hz2 rfl (by decide) Tryd.sizeOf20 b 0 l.length c (l.map itemV) w (by simp) (by unfold maxLen; omega) (by omega) ?_ ?_).mono fun e w' ⟨v', h1, h2, _, h3⟩ => ⟨v', h1, h2, Only.of_new h3⟩
  · intro j u hu
    rw [List.getElem?_map] at hu
    cases hx : l[j]? with
    | none => rw [hx] at hu; cases hu
    | some x =>
      rw [hx] at hu
      injection hu with hu
      rw [← hu]
      exact hc j x hx
  · intro u hu
    obtain ⟨x, _, rfl⟩ := List.mem_map.1 hu
    exact item_one x
theorem clone_none (w : World) (n c : Nat) (hn : n = 0) : Calls Tryd.prog 49 #[.slice none n c] w (ClonePost w []) :=
  (AnyE.slices_Clone_nil Tryd.lClone n c w).mono fun e w' ⟨h1, h2⟩ => ⟨.slice none 0 0, h1, World.ownsRow_nil _ _ _ _, by rw [h2]; exact Only.refl _ _⟩
/-- The first k results of a slate's row, cloned. -/
theorem clone_take {w : World} {base g : Nat} {A : Option Addr} {n cap c : Nat} {l : List Itm} (h : Sl w base g (.slice A n cap) l) (hn : l.length = n) (hl : l.length ≤ 1000) (k : Nat) (hk : k ≤ n) :
    Calls Tryd.prog 49 #[.slice A k c] w (ClonePost w (l.take k)) := by
  subst hn
  rcases h.row.2 with ⟨e1, n1⟩ | ⟨a, c1, cur, e1, _⟩
  · injection e1 with e1 e2
    subst e1
    have hk0 : k = 0 := by omega
    subst hk0
    exact clone_none w 0 c rfl
  · have e2 := e1
    injection e1 with e1
    subst e1
    refine clone_cells a k c (by simp; omega) (by simp; omega) ?_
    intro j x hx
    have hj : j < k := by
      rcases Nat.lt_or_ge j k with h | h
      · exact h
      · rw [List.getElem?_take, if_neg (by omega)] at hx; cases hx
    rw [List.getElem?_take, if_pos hj] at hx
    have hr := World.ownsRow.cellAt h.row j (by omega)
    rw [List.getElem?_map, hx, Option.map_some] at hr
    rw [Nat.zero_add]
    exact hr
/-- What Copy gives. -/
def CopyPost (w : World) (l : List Itm) (e : Ending) (w' : World) : Prop := ∃ g' v', e = .returned (.pointer (some ⟨g', 0, none⟩)) ∧ w.heap.size ≤ g' ∧ Sl w' w.heap.size g' v' l ∧ Only Nob w w'
theorem copy_post {w w2 : World} {v' : Value} {l : List Itm} (h : w2.ownsRow w.heap.size 20 1 v' l.length (l.map itemV)) (ho : Only Nob w w2) :
    CopyPost w l (.returned (.pointer (some ⟨w2.heap.size, 0, none⟩))) (w2.alloc (.cells #[v'] 77)) :=
  ⟨w2.heap.size, v', rfl, ho.size, ⟨Blk.new _ _ _, h.alloc _, fun e => by have := (h.lt _ e).2; omega⟩, ho.alloc _⟩
theorem copy_any {w : World} {base g : Nat} {v : Value} {l : List Itm} (h : Sl w base g v l) (hl : l.length ≤ 1000) :
    Calls Tryd.prog 30 #[.pointer (some ⟨g, 0, none⟩)] w (CopyPost w l) := by
  obtain ⟨A, cap, rfl⟩ := h.form
  have hc := h.cell.cell 0
  simp at hc
  have HC := hide (clone_take (c := cap) h rfl hl l.length (Nat.le_refl _))
  rw [List.take_length] at HC
  clear h
  obtain ⟨n, hn⟩ : ∃ n, l.length = n := ⟨_, rfl⟩
  rw [hn] at hc HC
  clear hn hl
  go_enter Tryd.func30, Tryd.ntmps30
  go_wp2_with (go_at_call 49; refine (HC.out).mono ?_; rintro e w2 ⟨v', rfl, h1, h2⟩; have hv : ∃ A' n' c', v' = .slice A' n' c' := (by rcases h1.2 with ⟨q, _⟩ | ⟨_, _, _, q, _⟩ <;> exact ⟨_, _, _, q⟩); obtain ⟨A', n', c', rfl⟩ := hv; have H1 := hide h1; have H2 := hide h2; clear h1 h2)
  go_ret
  exact copy_post H1.out H2.out
/-- What Cut leaves. -/
def CutPost (w : World) (base g : Nat) (l : List Itm) (e : Ending) (w' : World) : Prop := ∃ v', e = .returned (.tuple #[]) ∧ Sl w' base g v' l ∧ Only (fun k => k = g) w w' ∧ (∀ k, v'.ownBlock = some k → w.heap.size ≤ k)
theorem ownsRow_base {w : World} {B B' : Nat} {e : TypeId} {size : Nat} {v : Value} {n : Nat} {xs : List Value} (h : w.ownsRow B e size v n xs) (hB : B' ≤ B) : w.ownsRow B' e size v n xs := by
  obtain ⟨h1, h2⟩ := h
  refine ⟨h1, ?_⟩
  rcases h2 with h2 | ⟨g, cap, cur, hv, hb, hr⟩
  · exact .inl h2
  · exact .inr ⟨g, cap, cur, hv, by omega, hr⟩
theorem cut_post {w w2 : World} {base g : Nat} {u v : Value} {l m : List Itm} (h : Sl w base g u l) (hb : base ≤ w.heap.size) (h1 : w2.ownsRow w.drew.heap.size 20 1 v m.length (m.map itemV)) (h2 : Only Nob w.drew w2) (hk : Blk w2 g 77 #[u]) :
    CutPost w base g m (.returned (.tuple #[])) (w2.setCell ⟨g, 0, none⟩ v) := by
  have h1' : w2.ownsRow w.heap.size 20 1 v m.length (m.map itemV) := h1
  have h2' : Only Nob w w2 := ⟨h2.os, h2.tape, h2.output, h2.size, h2.block⟩
  have hg := h.cell.lt
  have hap : v.ownBlock ≠ some g := fun e => by have := (h1'.lt _ e).1; omega
  refine ⟨v, rfl, ⟨?_, ?_, hap⟩, ?_, fun k hk => (h1'.lt k hk).1⟩
  · have := hk.set_ 0 v
    simpa using this
  · exact ownsRow_setCell_other (ownsRow_base h1' hb) (fun e => hap e) _
  · exact Only.setCell (S := fun k => k = g) (p := ⟨g, 0, none⟩) (h2'.mono (fun k _ hk => hk.elim)) (.inl rfl) _
set_option maxHeartbeats 2000000 in
theorem cut_any {w : World} {base g : Nat} {v : Value} {l : List Itm} (h : Sl w base g v l) (hl : l.length ≤ 1000) (hb : base ≤ w.heap.size) (i : Int) :
    Calls Tryd.prog 32 #[.pointer (some ⟨g, 0, none⟩), .int .i64 i] w (CutPost w base g (l.take (min i.toNat l.length))) := by
  obtain ⟨A, cap, rfl⟩ := h.form
  have hc := h.cell.cell 0
  simp at hc
  have hk : ∃ k : Nat, min i.toNat l.length = k ∧ max (0 : Int) (min i (l.length : Int)) = (k : Int) ∧ k ≤ l.length := ⟨_, rfl, by omega, by omega⟩
  obtain ⟨k, hk1, hk2, hk3⟩ := hk
  rw [hk1]
  have hcap : l.length ≤ cap := by
    rcases h.row.2 with ⟨h1, h2⟩ | ⟨b, cap', cur, hv, _, _, hcp, _⟩
    · rw [h2]; omega
    · injection hv with _ _ hv; omega
  have HC : Hid (∀ c, Calls Tryd.prog 49 #[.slice A k c] w.drew (ClonePost w.drew (l.take k))) := hide (fun c => clone_take (w := w.drew) (c := c) (base := base) (g := g) (cap := cap) ⟨h.cell, h.row, h.apart⟩ rfl hl k hk3)
  have hf := h.cell.frozen 0
  have HB : Hid (Blk w.drew g 77 #[.slice A l.length cap]) := hide h.cell
  have H := hide h
  clear h hk1
  obtain ⟨n, hn⟩ : ∃ n, l.length = n := ⟨_, rfl⟩
  rw [hn] at hc hk2 hk3 hcap H HB
  go_enter Tryd.func32, Tryd.ntmps32
  go_wp2
  go_region_with (go_at_call 49; refine ((HC.out _)).mono ?_; rintro e w2 ⟨v', rfl, h1, h2⟩; have hv : ∃ A' n' c', v' = .slice A' n' c' := (by rcases h1.2 with ⟨q, _⟩ | ⟨_, _, _, q, _⟩ <;> exact ⟨_, _, _, q⟩); obtain ⟨A', n', c', rfl⟩ := hv; have hb2 := HB.out.only h2 (fun h => h); have hc2 := hb2.cell 0; simp at hc2; have hf2 := hb2.frozen 0; have HB2 := hide hb2; have H1 := hide h1; have H2 := hide h2; clear h1 h2 hb2)
  all_goals
    go_end0
    exact cut_post H.out hb H1.out H2.out HB2.out
end Go.Proofs.YtngahgfppbjebaaDoor

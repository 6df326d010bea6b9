/-
  Two rows that grow side by side; the contract of the draws' 'shut'.
-/
import Derived.Test.YtngahgfppbjebaaDoorGrpOpenProg
import Derived.Test.YtngahgfppbjebaaDoorSimple
import Derived.Deep.RegionLaw
namespace Go.Proofs.YtngahgfppbjebaaDoor
open Go.RowKit
set_option linter.unusedVariables false
set_option linter.unusedSimpArgs false

/-- Two slices that share no block. -/
def Apart (v u : Value) : Prop := ∀ g, v.ownBlock = some g → u.ownBlock ≠ some g
theorem Stack.keepS {S : Nat → Prop} {w w' : World} {base : Nat} {u : Value} {st : List Int} (h : Stack w base u st) (ho : Only S w w') (hs : ∀ g, u.ownBlock = some g → ¬ S g) : Stack w' base u st := by
  refine ⟨h.1, ?_⟩
  rcases h.2 with h1 | ⟨g, cap, cur, hv, hg, hh, r⟩
  · exact .inl h1
  · refine .inr ⟨g, cap, cur, hv, hg, (ho.block g ?_ (hs g (by rw [hv]; rfl))).trans hh, r⟩
    rcases Nat.lt_or_ge g w.heap.size with hlt | hge
    · exact hlt
    · rw [Array.getElem?_eq_none hge] at hh; cases hh
theorem PRow.keepS {S : Nat → Prop} {w w' : World} {base : Nat} {u : Value} {l : List PIns} (h : PRow w base u l) (ho : Only S w w') (hs : ∀ g, u.ownBlock = some g → ¬ S g) : PRow w' base u l := by
  refine ⟨h.1, ?_⟩
  rcases h.2 with h1 | ⟨g, cap, cur, hv, hg, hh, r⟩
  · exact .inl h1
  · refine .inr ⟨g, cap, cur, hv, hg, (ho.block g ?_ (hs g (by rw [hv]; rfl))).trans hh, r⟩
    rcases Nat.lt_or_ge g w.heap.size with hlt | hge
    · exact hlt
    · rw [Array.getElem?_eq_none hge] at hh; cases hh
theorem Stack.lt_own {w : World} {base : Nat} {u : Value} {st : List Int} (h : Stack w base u st) {g : Nat} (hg : u.ownBlock = some g) : g < w.heap.size := by
  rcases h.2 with ⟨h1, _⟩ | ⟨g', cap, cur, hv, _, hh, _⟩
  · subst h1
    simp [Value.ownBlock] at hg
  · subst hv
    simp [Value.ownBlock] at hg
    subst hg
    rcases Nat.lt_or_ge g' w.heap.size with hlt | hge
    · exact hlt
    · rw [Array.getElem?_eq_none hge] at hh; cases hh
theorem PRow.lt_own {w : World} {base : Nat} {u : Value} {l : List PIns} (h : PRow w base u l) {g : Nat} (hg : u.ownBlock = some g) : g < w.heap.size := by
  rcases h.2 with ⟨h1, _⟩ | ⟨g', cap, cur, hv, _, hh, _⟩
  · subst h1
    simp [Value.ownBlock] at hg
  · subst hv
    simp [Value.ownBlock] at hg
    subst hg
    rcases Nat.lt_or_ge g' w.heap.size with hlt | hge
    · exact hlt
    · rw [Array.getElem?_eq_none hge] at hh; cases hh

/-- Behind an append of instructions: the other row stays. -/
theorem grown_stack {w w' : World} {base : Nat} {v v' u : Value} {st : List Int} (hg : w.grownBy w' v.ownBlock) (hu : Stack w base u st) (ha : Apart v u) (hv : v'.ownBlock = v.ownBlock ∨ v'.ownBlock = some w.heap.size) :
    Stack w' base u st ∧ Apart v' u := by
  refine ⟨hu.keepS (S := fun k => v.ownBlock = some k) (Only.of_grown hg fun k hk _ => hk) (fun g h1 h2 => ha g h2 h1), fun g h1 h2 => ?_⟩
  rcases hv with hv | hv
  · exact ha g (hv ▸ h1) h2
  · have := hu.lt_own h2
    rw [hv] at h1
    injection h1
    omega
theorem grown_prow {w w' : World} {base : Nat} {v u u' : Value} {l : List PIns} (hg : w.grownBy w' u.ownBlock) (hv : PRow w base v l) (ha : Apart v u) (hu : u'.ownBlock = u.ownBlock ∨ u'.ownBlock = some w.heap.size) :
    PRow w' base v l ∧ Apart v u' := by
  refine ⟨hv.keepS (S := fun k => u.ownBlock = some k) (Only.of_grown hg fun k hk _ => hk) (fun g h1 h2 => ha g h1 h2), fun g h1 h2 => ?_⟩
  rcases hu with hu | hu
  · exact ha g h1 (hu ▸ h2)
  · have := hv.lt_own h1
    rw [hu] at h2
    injection h2
    omega
theorem Stack.grown {w w' : World} {base : Nat} {v : Value} {st : List Int} (h : Stack w base v st) (hg : w.grownBy w' v.ownBlock) (hb : base ≤ w.heap.size) : Below base w w' := below_grown h hg hb

/-- 'shut': what is open inmost is closed. -/
def shutP (l : List PIns) : List Int → List PIns × List Int
  | [] => (l, [])
  | x :: st => if x = 14 then (l ++ [⟨15, 0, 0, 0, 0⟩], st) else if x = 17 then (l ++ [⟨18, 0, 0, 0, 0⟩], 18 :: st) else (l ++ [⟨19, 0, 0, 0, 0⟩], st)
theorem shutP_open (l : List PIns) (r : List Int) {x : Int} (h : x = 14) : shutP l (x :: r) = (l ++ [⟨15, 0, 0, 0, 0⟩], r) := if_pos h
theorem shutP_either (l : List PIns) (r : List Int) {x : Int} (h : x = 17) : shutP l (x :: r) = (l ++ [⟨18, 0, 0, 0, 0⟩], 18 :: r) := by
  subst h
  rfl
theorem shutP_done (l : List PIns) (r : List Int) {x : Int} (h : x ≠ 14) (h2 : x ≠ 17) : shutP l (x :: r) = (l ++ [⟨19, 0, 0, 0, 0⟩], r) := (if_neg h).trans (if_neg h2)

def RowsPost (w : World) (base : Nat) (l : List PIns) (st : List Int) (e : Ending) (w' : World) : Prop :=
  ∃ v u, e = .returned (.tuple #[v, u]) ∧ PRow w' base v l ∧ Stack w' base u st ∧ Apart v u ∧ Below base w w'

theorem reads_ins (w : World) (x : PIns) (t : TypeId) : Reads (w.alloc (.cells #[.int .i64 x.op, .int .i64 x.a, .int .i64 x.b, .int .i64 x.c, .int .u64 x.n] t)) (w.heap.size + 1) 5 (some ⟨w.heap.size, 0, none⟩) 1 (insCells x) := by
  have h := Reads.of_blk (size := 5) (n := 1) (Blk.new w t #[.int .i64 x.op, .int .i64 x.a, .int .i64 x.b, .int .i64 x.c, .int .u64 x.n]) rfl
  rw [World.size_alloc] at h
  exact h

theorem ints_one (l : List Int) : ∀ u ∈ ints l, u.oneCell' = true := by
  intro u hu
  simp [ints] at hu
  obtain ⟨a, _, rfl⟩ := hu
  rfl
theorem own_alloc {w : World} {base size n : Nat} {e : TypeId} {v : Value} {xs : List Value} (h : w.ownsRow base e size v n xs) (o : Obj) : (w.alloc o).ownsRow base e size v n xs := by
  refine ⟨h.1, ?_⟩
  rcases h.2 with h1 | ⟨g, cap, cur, hv, hg, hh, r⟩
  · exact .inl h1
  · refine .inr ⟨g, cap, cur, hv, hg, (Below.heap_alloc w o g ?_).trans hh, r⟩
    rcases Nat.lt_or_ge g w.heap.size with hlt | hge
    · exact hlt
    · rw [Array.getElem?_eq_none hge] at hh; cases hh
theorem own_grown {w w' : World} {base size n : Nat} {e : TypeId} {v : Value} {xs : List Value} (h : w.ownsRow base e size v n xs) (hg : w.grownBy w' v.ownBlock) (hb : base ≤ w.heap.size) : Below base w w' := by
  refine (Only.of_grown (S := fun k => base ≤ k) hg ?_).below hb (fun k h => h)
  intro k hk _
  rcases h.2 with ⟨h1, _⟩ | ⟨g, cap, cur, hv, hg', _⟩
  · subst h1
    simp [Value.ownBlock] at hk
  · subst hv
    simp [Value.ownBlock] at hk
    omega
theorem reads_int (w : World) (x : Int) (t : TypeId) : Reads (w.alloc (.cells #[.int .i64 x] t)) (w.heap.size + 1) 1 (some ⟨w.heap.size, 0, none⟩) 1 [.int .i64 x] := by
  have h := Reads.of_blk (size := 1) (n := 1) (Blk.new w t #[.int .i64 x]) rfl
  rw [World.size_alloc] at h
  exact h

set_option maxHeartbeats 1000000 in
theorem shut_open (base g vcap : Nat) (v : Value) (l : List PIns) (x : Int) (st : List Int) (w : World) (hv : PRow w base v l) (hu : Stack w base (.slice (some ⟨g, 0, none⟩) (st.length + 1) vcap) (x :: st)) (ha : Apart v (.slice (some ⟨g, 0, none⟩) (st.length + 1) vcap)) (hl : l.length ≤ 1000) (hs : st.length ≤ 1000) (hb : base ≤ w.heap.size) (hc : st.length + 1 ≤ vcap) (hc2 : vcap ≤ maxLen) (hx : x = 14) :
    Calls Tryd.prog 63 #[v, .slice (some ⟨g, 0, none⟩) (st.length + 1) vcap] w (RowsPost w base (l ++ [⟨15, 0, 0, 0, 0⟩]) st) := by
  subst hx
  obtain ⟨i0, hi, hz0, hz1, hz2⟩ := info_parts infoIns
  have htop := hu.top rfl
  have HV := hide hv
  have HU := hide hu
  have HA := hide ha
  have HL := hide hl
  have hgl : g < w.heap.size := hu.lt_own rfl
  have hmx : st.length + 1 ≤ maxLen := Nat.le_trans hc hc2
  have hmc : st.length ≤ vcap := by omega
  have hmcI : (st.length : Int) ≤ (vcap : Int) := by omega
  unfold maxLen at hmx hc2
  clear hv hu ha hl
  generalize hlen : st.length = m at *
  have Hlen := hide hlen
  clear hlen
  go_enter Tryd.func63, Tryd.ntmps63
  go_wp2_with fail
  go_region_law (first
    | (refine step_append_any _ rfl _ _ 53 rfl base 60 i0 (.agg #[.int .i64 0, .int .i64 0, .int .i64 0, .int .i64 0, .int .u64 0]) 5 40 Tryd.underlying53 hi hz0 hz1 hz2 rfl (by decide) _ _ _ rfl (HV.out.alloc _) (w.heap.size + 1) (some ⟨w.heap.size, 0, none⟩) 1 1 (insCells ⟨15, 0, 0, 0, 0⟩) rfl (reads_ins _ ⟨15, 0, 0, 0, 0⟩ _) (ins_one _) (by have := HL.out; unfold maxLen; omega) (by have := HL.out; omega) (by simp; omega) ?_; intro v' w3 hown' hgrow3 hblk3))
  all_goals
    go_wp2
    go_ret2
    have hpop : Stack (w.alloc (.cells #[.int .i64 15, .int .i64 0, .int .i64 0, .int .i64 0, .int .u64 0] 60)) base (.slice (some ⟨g, 0, none⟩) st.length vcap) st := by
      have h9 := HU.out
      rw [← Hlen.out] at h9
      exact h9.pop.alloc _
    rw [Hlen.out] at hpop
    obtain ⟨h7, h8⟩ := grown_stack (v' := v') hgrow3 hpop (fun q h1 h2 => HA.out q h1 (by simpa [Value.ownBlock] using h2)) hblk3
    exact ⟨_, _, rfl, PRow.push hown', h7, h8, ((Below.alloc (Below.refl _ _) hb _).drew).trans (PRow.grown (HV.out.alloc _).drew hgrow3 (by simp; omega))⟩

set_option maxHeartbeats 1000000 in
theorem shut_done (base g vcap : Nat) (v : Value) (l : List PIns) (x : Int) (st : List Int) (w : World) (hv : PRow w base v l) (hu : Stack w base (.slice (some ⟨g, 0, none⟩) (st.length + 1) vcap) (x :: st)) (ha : Apart v (.slice (some ⟨g, 0, none⟩) (st.length + 1) vcap)) (hl : l.length ≤ 1000) (hs : st.length ≤ 1000) (hb : base ≤ w.heap.size) (hc : st.length + 1 ≤ vcap) (hc2 : vcap ≤ maxLen) (hx : (x == 14) = false) (hx2 : (x == 17) = false) :
    Calls Tryd.prog 63 #[v, .slice (some ⟨g, 0, none⟩) (st.length + 1) vcap] w (RowsPost w base (l ++ [⟨19, 0, 0, 0, 0⟩]) st) := by

  obtain ⟨i0, hi, hz0, hz1, hz2⟩ := info_parts infoIns
  have htop := hu.top rfl
  have HV := hide hv
  have HU := hide hu
  have HA := hide ha
  have HL := hide hl
  have hgl : g < w.heap.size := hu.lt_own rfl
  have hmx : st.length + 1 ≤ maxLen := Nat.le_trans hc hc2
  have hmc : st.length ≤ vcap := by omega
  have hmcI : (st.length : Int) ≤ (vcap : Int) := by omega
  unfold maxLen at hmx hc2
  clear hv hu ha hl
  generalize hlen : st.length = m at *
  have Hlen := hide hlen
  clear hlen
  go_enter Tryd.func63, Tryd.ntmps63
  go_wp2_with fail
  go_region_law (first
    | (refine step_append_any _ rfl _ _ 53 rfl base 60 i0 (.agg #[.int .i64 0, .int .i64 0, .int .i64 0, .int .i64 0, .int .u64 0]) 5 40 Tryd.underlying53 hi hz0 hz1 hz2 rfl (by decide) _ _ _ rfl (HV.out.alloc _) (w.heap.size + 1) (some ⟨w.heap.size, 0, none⟩) 1 1 (insCells ⟨19, 0, 0, 0, 0⟩) rfl (reads_ins _ ⟨19, 0, 0, 0, 0⟩ _) (ins_one _) (by have := HL.out; unfold maxLen; omega) (by have := HL.out; omega) (by simp; omega) ?_; intro v' w3 hown' hgrow3 hblk3))
  all_goals
    go_wp2
    go_ret2
    have hpop : Stack (w.alloc (.cells #[.int .i64 19, .int .i64 0, .int .i64 0, .int .i64 0, .int .u64 0] 60)) base (.slice (some ⟨g, 0, none⟩) st.length vcap) st := by
      have h9 := HU.out
      rw [← Hlen.out] at h9
      exact h9.pop.alloc _
    rw [Hlen.out] at hpop
    obtain ⟨h7, h8⟩ := grown_stack (v' := v') hgrow3 hpop (fun q h1 h2 => HA.out q h1 (by simpa [Value.ownBlock] using h2)) hblk3
    exact ⟨_, _, rfl, PRow.push hown', h7, h8, ((Below.alloc (Below.refl _ _) hb _).drew).trans (PRow.grown (HV.out.alloc _).drew hgrow3 (by simp; omega))⟩


set_option maxHeartbeats 1000000 in
theorem shut_either (base g vcap : Nat) (v : Value) (l : List PIns) (x : Int) (st : List Int) (w : World) (hv : PRow w base v l) (hu : Stack w base (.slice (some ⟨g, 0, none⟩) (st.length + 1) vcap) (x :: st)) (ha : Apart v (.slice (some ⟨g, 0, none⟩) (st.length + 1) vcap)) (hl : l.length ≤ 1000) (hs : st.length ≤ 1000) (hb : base ≤ w.heap.size) (hc : st.length + 1 ≤ vcap) (hc2 : vcap ≤ maxLen) (hx : x = 17) :
    Calls Tryd.prog 63 #[v, .slice (some ⟨g, 0, none⟩) (st.length + 1) vcap] w (RowsPost w base (l ++ [⟨18, 0, 0, 0, 0⟩]) (18 :: st)) := by
  subst hx
  obtain ⟨j0, hj, hy0, hy1, hy2⟩ := info_parts infoInt
  have HST := hide hu.pop
  obtain ⟨i0, hi, hz0, hz1, hz2⟩ := info_parts infoIns
  have htop := hu.top rfl
  have HV := hide hv
  have HU := hide hu
  have HA := hide ha
  have HL := hide hl
  have hgl : g < w.heap.size := hu.lt_own rfl
  have hmx : st.length + 1 ≤ maxLen := Nat.le_trans hc hc2
  have hmc : st.length ≤ vcap := by omega
  have hmcI : (st.length : Int) ≤ (vcap : Int) := by omega
  unfold maxLen at hmx hc2
  clear hv hu ha hl
  generalize hlen : st.length = m at *
  have Hlen := hide hlen
  clear hlen
  have hrd : Hid (Reads w w.heap.size 1 (some ⟨g, 0, none⟩) m (ints st.reverse)) := by
    have h9 := HST.out
    unfold Stack at h9
    rw [Hlen.out] at h9
    exact Reads.of_own h9
  have hm1000 : m ≤ 1000 := by omega
  have tok1 : True := trivial
  have tok2 : True := trivial
  go_enter Tryd.func63, Tryd.ntmps63
  go_wp2_with (first
    | (at_builtin; have _t := tok1; refine wpList_append_any _ rfl _ _ 121 rfl base 3 j0 (.int .i64 0) 1 8 Tryd.underlying121 hj hy0 hy1 hy2 rfl (by decide) (.slice none 0 0) 0 [] rfl ⟨by simp, .inl ⟨rfl, rfl⟩⟩ w.heap.size (some ⟨g, 0, none⟩) m vcap (ints st.reverse) rfl hrd.out (ints_one _) (by unfold maxLen; omega) (by omega) (by omega) ?_; intro v1 w1 hown1 hgrow1 hblk1; clear tok1)
    | (at_builtin; have _t := tok2; refine wpList_append_any _ rfl _ _ 121 rfl base 3 j0 (.int .i64 0) 1 8 Tryd.underlying121 hj hy0 hy1 hy2 rfl (by decide) _ _ _ rfl (show World.ownsRow (w1.alloc _) base 3 1 v1 (0 + m) ([] ++ ints st.reverse) from own_alloc hown1 _) (w1.heap.size + 1) (some ⟨w1.heap.size, 0, none⟩) 1 1 [.int .i64 18] rfl (reads_int _ 18 _) (by simp [Value.oneCell']) (by unfold maxLen; omega) (by omega) (by have := hgrow1.size; simp; omega) ?_; intro v2 w2 hown2 hgrow2 hblk2; clear tok2)
    | (at_builtin; refine wpList_append_any _ rfl _ _ 53 rfl base 60 i0 (.agg #[.int .i64 0, .int .i64 0, .int .i64 0, .int .i64 0, .int .u64 0]) 5 40 Tryd.underlying53 hi hz0 hz1 hz2 rfl (by decide) _ _ _ rfl ((((HV.out.keepS (Only.of_grown (S := Nob) hgrow1 (fun k hk _ => by simp [Value.ownBlock] at hk)) (fun _ _ h => h)).alloc _).keepS (Only.of_grown (S := fun k => v1.ownBlock = some k) hgrow2 (fun k hk _ => hk)) (fun q h1 h2 => absurd (HV.out.lt_own h1) (by rcases hblk1 with h5 | h5 <;> rw [h5] at h2 <;> simp [Value.ownBlock] at h2; omega))).alloc _) (w2.heap.size + 1) (some ⟨w2.heap.size, 0, none⟩) 1 1 (insCells ⟨18, 0, 0, 0, 0⟩) rfl (reads_ins _ ⟨18, 0, 0, 0, 0⟩ _) (ins_one _) (by have := HL.out; unfold maxLen; omega) (by have := HL.out; omega) (by have := hgrow1.size; have := hgrow2.size; simp at *; omega) ?_; intro v' w3 hown' hgrow3 hblk3))
  go_ret2
  have hs1 := hgrow1.size
  have hs2 : w1.heap.size + 1 ≤ w2.heap.size := by have := hgrow2.size; simpa using this
  have hst2 : Stack w2 base v2 (18 :: st) := by
    refine Stack.push ?_
    rw [Hlen.out]
    simpa using hown2
  have hfar : ∀ q, v.ownBlock = some q → v2.ownBlock ≠ some q := by
    intro q h1 h2
    have h3 := HV.out.lt_own h1
    have hk2 : v2.ownBlock = v1.ownBlock ∨ v2.ownBlock = some (w1.heap.size + 1) := by
      have := hblk2
      rw [World.size_alloc] at this
      exact this
    have hk1 : v1.ownBlock = none ∨ v1.ownBlock = some w.heap.size := hblk1
    rcases hk2 with h4 | h4
    · rw [h4] at h2
      rcases hk1 with h5 | h5
      · rw [h5] at h2
        cases h2
      · rw [h5] at h2
        injection h2
        omega
    · rw [h4] at h2
      injection h2
      omega
  obtain ⟨h7, h8⟩ := grown_stack (v' := v') hgrow3 (hst2.alloc _) hfar hblk3
  have hb1 : Below base w w1 := (Only.of_grown (S := Nob) hgrow1 (fun k hk _ => by simp [Value.ownBlock] at hk)).below hb (fun _ h => h.elim)
  have hb2 : Below base w1 w2 := (Below.alloc (Below.refl _ _) (Nat.le_trans hb hs1) _).trans (own_grown (own_alloc hown1 _) hgrow2 (by simp; omega))
  have hb3 : Below base w2 w3 := (Below.alloc (Below.refl _ _) (by omega) _).trans ((Only.of_grown (S := fun k => base ≤ k) hgrow3 (fun k hk _ => HV.out.base hk)).below (by simp; omega) (fun _ h => h))
  exact ⟨_, _, rfl, PRow.push hown', h7, h8, hb1.trans (hb2.trans hb3)⟩

theorem shut_any (base : Nat) (v u : Value) (l : List PIns) (st : List Int) (w : World) (hv : PRow w base v l) (hu : Stack w base u st) (ha : Apart v u) (hne : st ≠ []) (hl : l.length ≤ 1000) (hs : st.length ≤ 1000) (hb : base ≤ w.heap.size) :
    Calls Tryd.prog 63 #[v, u] w (RowsPost w base (shutP l st).1 (shutP l st).2) := by
  cases st with
  | nil => exact absurd rfl hne
  | cons x r =>
    rcases hu.form with ⟨h0, _⟩ | ⟨g, vcap, hu', _, _, hc, hc2⟩
    · cases h0
    · subst hu'
      have hr : r.length ≤ 1000 := by simp at hs; omega
      by_cases h1 : x = 14
      · rw [shutP_open l r h1]
        exact shut_open base g vcap v l x r w hv hu ha hl hr hb hc hc2 h1
      · by_cases h2 : x = 17
        · rw [shutP_either l r h2]
          exact shut_either base g vcap v l x r w hv hu ha hl hr hb hc hc2 h2
        · rw [shutP_done l r h1 h2]
          exact shut_done base g vcap v l x r w hv hu ha hl hr hb hc hc2 (by simpa using h1) (by simpa using h2)
end Go.Proofs.YtngahgfppbjebaaDoor

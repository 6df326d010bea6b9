/-
  The contract of check's wrong: why an instruction may not stand where it does.
-/
import Derived.Test.YtpdjhkidalafpaaBehind
import Derived.Test.YtpdjhkidalafpaaCodeMay
import Derived.Deep.RegionWith
namespace Go.Proofs.Ytpdjhkidalafpaa
open Go.RowKit
set_option linter.unusedVariables false
set_option linter.unusedSimpArgs false

set_option maxHeartbeats 1000000 in
theorem wrong_may (base B : Nat) (v : Value) (st : List Int) (x : PIns) (w : World) (A : Option Addr) (cap : Nat) (l : List PIns) (h : Stack w base v st) (hl : st.length < 1000) (hp : ProgIn w B A l) (hB : B ≤ w.heap.size)
    (hn : l.length ≤ 1000) (hst : ∀ t ∈ st, 0 ≤ t ∧ t < (l.length : Int)) (h1 : mayB x.op x.a x.b x.c x.n = false) :
    Calls Try.prog 34 #[.agg #[.slice A l.length cap], v, .agg #[.int .i64 x.op, .int .i64 x.a, .int .i64 x.b, .int .i64 x.c, .int .u64 x.n]] w fun e w' => e = .returned (.int .i64 8) ∧ Only Nob w w' := by
  have HS := hide h
  have HP := hide hp
  clear h hp
  go_enter Try.func34, Try.ntmps34
  go_wp2_with (first
    | (go_at_call 15; refine (may_any _ _ _ _ _ _).mono ?_; rintro e wA ⟨rfl, hoA⟩; have hon : Only Nob w wA := Only.trans (Only.alloc (Only.alloc (Only.refl _ _) _) _) hoA; have HSA := hide (HS.out.only hon); have HPA := hide (HP.out.keep (below_nob hon hB)); have kp := ((Blk.new w 37 #[.slice A l.length cap]).alloc (.cells #[.int .i64 x.op, .int .i64 x.a, .int .i64 x.b, .int .i64 x.c, .int .u64 x.n] 28)).only hoA (fun h => h); have kx := (Blk.new (w.alloc (.cells #[.slice A l.length cap] 37)) 28 #[.int .i64 x.op, .int .i64 x.a, .int .i64 x.b, .int .i64 x.c, .int .u64 x.n]).only hoA (fun h => h); have hsz : w.heap.size + 1 < wA.heap.size := Nat.lt_of_lt_of_le (by simp) hoA.size; have hsz2 : w.heap.size < wA.heap.size := Nat.lt_of_succ_lt hsz; simp only [World.size_alloc] at kx; have kp0 := kp.one; have kpf := kp.frozen; obtain ⟨kx0, kx1, kx2, kx3, kx4⟩ := kx.five; have kxf := kx.frozen))
  all_goals
    go_ret
    refine ⟨rfl, ?_⟩
    repeat' (first | (with_reducible exact Only.refl _ _) | (with_reducible exact hon) | (with_reducible refine Only.trans ?_ hoB) | (with_reducible refine Only.drewN ?_ _) | (with_reducible refine Only.drew ?_))

set_option maxHeartbeats 1000000 in
theorem wrong_ends (base B : Nat) (v : Value) (st : List Int) (x : PIns) (w : World) (A : Option Addr) (cap : Nat) (l : List PIns) (h : Stack w base v st) (hl : st.length < 1000) (hp : ProgIn w B A l) (hB : B ≤ w.heap.size)
    (hn : l.length ≤ 1000) (hst : ∀ t ∈ st, 0 ≤ t ∧ t < (l.length : Int)) (h1 : mayB x.op x.a x.b x.c x.n = true) (h2 : decide (0 < endsI x.op) = true) (h3 : (opAt l st != endsI x.op) = true) :
    Calls Try.prog 34 #[.agg #[.slice A l.length cap], v, .agg #[.int .i64 x.op, .int .i64 x.a, .int .i64 x.b, .int .i64 x.c, .int .u64 x.n]] w fun e w' => e = .returned (.int .i64 12) ∧ Only Nob w w' := by
  have HS := hide h
  have HP := hide hp
  clear h hp
  go_enter Try.func34, Try.ntmps34
  go_wp2_with (first
    | (go_at_call 15; refine (may_any _ _ _ _ _ _).mono ?_; rintro e wA ⟨rfl, hoA⟩; have hon : Only Nob w wA := Only.trans (Only.alloc (Only.alloc (Only.refl _ _) _) _) hoA; have HSA := hide (HS.out.only hon); have HPA := hide (HP.out.keep (below_nob hon hB)); have kp := ((Blk.new w 37 #[.slice A l.length cap]).alloc (.cells #[.int .i64 x.op, .int .i64 x.a, .int .i64 x.b, .int .i64 x.c, .int .u64 x.n] 28)).only hoA (fun h => h); have kx := (Blk.new (w.alloc (.cells #[.slice A l.length cap] 37)) 28 #[.int .i64 x.op, .int .i64 x.a, .int .i64 x.b, .int .i64 x.c, .int .u64 x.n]).only hoA (fun h => h); have hsz : w.heap.size + 1 < wA.heap.size := Nat.lt_of_lt_of_le (by simp) hoA.size; have hsz2 : w.heap.size < wA.heap.size := Nat.lt_of_succ_lt hsz; simp only [World.size_alloc] at kx; have kp0 := kp.one; have kpf := kp.frozen; obtain ⟨kx0, kx1, kx2, kx3, kx4⟩ := kx.five; have kxf := kx.frozen))
  go_region_with (first
    | (go_at_call 39; refine (ends_any _ _).mono ?_; rintro e w1 ⟨rfl, rfl⟩)
    | (go_at_call 45; refine (stackop_any base B v st _ A cap l HSA.out.drew (by omega) HPA.out.drew (Nat.le_trans hB hon.size) hn hst).mono ?_; rintro e wB ⟨rfl, hoB⟩; have kxB := (kx.drew).only hoB (fun h => h); have kpB := (kp.drew).only hoB (fun h => h); have kpB0 := kpB.one; have kpBf := kpB.frozen; obtain ⟨kxB0, kxB1, kxB2, kxB3, kxB4⟩ := kxB.five; have kxBf := kxB.frozen))
  all_goals
    go_wp2
    go_ret
    refine ⟨rfl, ?_⟩
    repeat' (first | (with_reducible exact Only.refl _ _) | (with_reducible exact hon) | (with_reducible refine Only.trans ?_ hoB) | (with_reducible refine Only.drewN ?_ _) | (with_reducible refine Only.drew ?_))

set_option maxHeartbeats 1000000 in
theorem wrong_fit (base B : Nat) (v : Value) (st : List Int) (x : PIns) (w : World) (A : Option Addr) (cap : Nat) (l : List PIns) (h : Stack w base v st) (hl : st.length < 1000) (hp : ProgIn w B A l) (hB : B ≤ w.heap.size)
    (hn : l.length ≤ 1000) (hst : ∀ t ∈ st, 0 ≤ t ∧ t < (l.length : Int)) (h1 : mayB x.op x.a x.b x.c x.n = true) (h2 : decide (0 < endsI x.op) = true) (h3 : (opAt l st != endsI x.op) = false) (h4 : (x.op == 16) = false) (h5 : beginsB x.op = false) :
    Calls Try.prog 34 #[.agg #[.slice A l.length cap], v, .agg #[.int .i64 x.op, .int .i64 x.a, .int .i64 x.b, .int .i64 x.c, .int .u64 x.n]] w fun e w' => e = .returned (.int .i64 0) ∧ Only Nob w w' := by
  have HS := hide h
  have HP := hide hp
  clear h hp
  go_enter Try.func34, Try.ntmps34
  go_wp2_with (first
    | (go_at_call 15; refine (may_any _ _ _ _ _ _).mono ?_; rintro e wA ⟨rfl, hoA⟩; have hon : Only Nob w wA := Only.trans (Only.alloc (Only.alloc (Only.refl _ _) _) _) hoA; have HSA := hide (HS.out.only hon); have HPA := hide (HP.out.keep (below_nob hon hB)); have kp := ((Blk.new w 37 #[.slice A l.length cap]).alloc (.cells #[.int .i64 x.op, .int .i64 x.a, .int .i64 x.b, .int .i64 x.c, .int .u64 x.n] 28)).only hoA (fun h => h); have kx := (Blk.new (w.alloc (.cells #[.slice A l.length cap] 37)) 28 #[.int .i64 x.op, .int .i64 x.a, .int .i64 x.b, .int .i64 x.c, .int .u64 x.n]).only hoA (fun h => h); have hsz : w.heap.size + 1 < wA.heap.size := Nat.lt_of_lt_of_le (by simp) hoA.size; have hsz2 : w.heap.size < wA.heap.size := Nat.lt_of_succ_lt hsz; simp only [World.size_alloc] at kx; have kp0 := kp.one; have kpf := kp.frozen; obtain ⟨kx0, kx1, kx2, kx3, kx4⟩ := kx.five; have kxf := kx.frozen))
  go_region_with (first
    | (go_at_call 39; refine (ends_any _ _).mono ?_; rintro e w1 ⟨rfl, rfl⟩)
    | (go_at_call 45; refine (stackop_any base B v st _ A cap l HSA.out.drew (by omega) HPA.out.drew (Nat.le_trans hB hon.size) hn hst).mono ?_; rintro e wB ⟨rfl, hoB⟩; have kxB := (kx.drew).only hoB (fun h => h); have kpB := (kp.drew).only hoB (fun h => h); have kpB0 := kpB.one; have kpBf := kpB.frozen; obtain ⟨kxB0, kxB1, kxB2, kxB3, kxB4⟩ := kxB.five; have kxBf := kxB.frozen))
  all_goals
    go_wp2_with (go_at_call 46; refine (begins_any _ _).mono ?_; rintro e w1 ⟨rfl, rfl⟩)
    go_ret
    refine ⟨rfl, ?_⟩
    repeat' (first | (with_reducible exact Only.refl _ _) | (with_reducible exact hon) | (with_reducible refine Only.trans ?_ hoB) | (with_reducible refine Only.drewN ?_ _) | (with_reducible refine Only.drew ?_))

set_option maxHeartbeats 1000000 in
theorem wrong_undo (base B : Nat) (v : Value) (st : List Int) (x : PIns) (w : World) (A : Option Addr) (cap : Nat) (l : List PIns) (h : Stack w base v st) (hl : st.length < 1000) (hp : ProgIn w B A l) (hB : B ≤ w.heap.size)
    (hn : l.length ≤ 1000) (hst : ∀ t ∈ st, 0 ≤ t ∧ t < (l.length : Int)) (h1 : mayB x.op x.a x.b x.c x.n = true) (h2 : decide (0 < endsI x.op) = false) (h4 : (x.op == 16) = true) (h3 : (opAt l st != 14) = true) :
    Calls Try.prog 34 #[.agg #[.slice A l.length cap], v, .agg #[.int .i64 x.op, .int .i64 x.a, .int .i64 x.b, .int .i64 x.c, .int .u64 x.n]] w fun e w' => e = .returned (.int .i64 12) ∧ Only Nob w w' := by
  have HS := hide h
  have HP := hide hp
  clear h hp
  go_enter Try.func34, Try.ntmps34
  go_wp2_with (first
    | (go_at_call 15; refine (may_any _ _ _ _ _ _).mono ?_; rintro e wA ⟨rfl, hoA⟩; have hon : Only Nob w wA := Only.trans (Only.alloc (Only.alloc (Only.refl _ _) _) _) hoA; have HSA := hide (HS.out.only hon); have HPA := hide (HP.out.keep (below_nob hon hB)); have kp := ((Blk.new w 37 #[.slice A l.length cap]).alloc (.cells #[.int .i64 x.op, .int .i64 x.a, .int .i64 x.b, .int .i64 x.c, .int .u64 x.n] 28)).only hoA (fun h => h); have kx := (Blk.new (w.alloc (.cells #[.slice A l.length cap] 37)) 28 #[.int .i64 x.op, .int .i64 x.a, .int .i64 x.b, .int .i64 x.c, .int .u64 x.n]).only hoA (fun h => h); have hsz : w.heap.size + 1 < wA.heap.size := Nat.lt_of_lt_of_le (by simp) hoA.size; have hsz2 : w.heap.size < wA.heap.size := Nat.lt_of_succ_lt hsz; simp only [World.size_alloc] at kx; have kp0 := kp.one; have kpf := kp.frozen; obtain ⟨kx0, kx1, kx2, kx3, kx4⟩ := kx.five; have kxf := kx.frozen))
  go_quiet ((go_at_call 39; exact quiet_left (ends_any _ _)))
  go_wp2_with (first
    | (go_at_call 45; refine (stackop_any base B v st _ A cap l (HSA.out.drewN _) (by omega) (HPA.out.drewN _) (Nat.le_trans hB hon.size) hn hst).mono ?_; rintro e wB ⟨rfl, hoB⟩; have kxB := (kx.drewN _).only hoB (fun h => h); have kpB := (kp.drewN _).only hoB (fun h => h); have kpB0 := kpB.one; have kpBf := kpB.frozen; obtain ⟨kxB0, kxB1, kxB2, kxB3, kxB4⟩ := kxB.five; have kxBf := kxB.frozen))
  all_goals
    go_ret
    refine ⟨rfl, ?_⟩
    repeat' (first | (with_reducible exact Only.refl _ _) | (with_reducible exact hon) | (with_reducible refine Only.trans ?_ hoB) | (with_reducible refine Only.drewN ?_ _) | (with_reducible refine Only.drew ?_))

set_option maxHeartbeats 1000000 in
theorem wrong_undoes (base B : Nat) (v : Value) (st : List Int) (x : PIns) (w : World) (A : Option Addr) (cap : Nat) (l : List PIns) (h : Stack w base v st) (hl : st.length < 1000) (hp : ProgIn w B A l) (hB : B ≤ w.heap.size)
    (hn : l.length ≤ 1000) (hst : ∀ t ∈ st, 0 ≤ t ∧ t < (l.length : Int)) (h1 : mayB x.op x.a x.b x.c x.n = true) (h2 : decide (0 < endsI x.op) = false) (h4 : (x.op == 16) = true) (h3 : (opAt l st != 14) = false) (h5 : beginsB x.op = false) :
    Calls Try.prog 34 #[.agg #[.slice A l.length cap], v, .agg #[.int .i64 x.op, .int .i64 x.a, .int .i64 x.b, .int .i64 x.c, .int .u64 x.n]] w fun e w' => e = .returned (.int .i64 0) ∧ Only Nob w w' := by
  have HS := hide h
  have HP := hide hp
  clear h hp
  go_enter Try.func34, Try.ntmps34
  go_wp2_with (first
    | (go_at_call 15; refine (may_any _ _ _ _ _ _).mono ?_; rintro e wA ⟨rfl, hoA⟩; have hon : Only Nob w wA := Only.trans (Only.alloc (Only.alloc (Only.refl _ _) _) _) hoA; have HSA := hide (HS.out.only hon); have HPA := hide (HP.out.keep (below_nob hon hB)); have kp := ((Blk.new w 37 #[.slice A l.length cap]).alloc (.cells #[.int .i64 x.op, .int .i64 x.a, .int .i64 x.b, .int .i64 x.c, .int .u64 x.n] 28)).only hoA (fun h => h); have kx := (Blk.new (w.alloc (.cells #[.slice A l.length cap] 37)) 28 #[.int .i64 x.op, .int .i64 x.a, .int .i64 x.b, .int .i64 x.c, .int .u64 x.n]).only hoA (fun h => h); have hsz : w.heap.size + 1 < wA.heap.size := Nat.lt_of_lt_of_le (by simp) hoA.size; have hsz2 : w.heap.size < wA.heap.size := Nat.lt_of_succ_lt hsz; simp only [World.size_alloc] at kx; have kp0 := kp.one; have kpf := kp.frozen; obtain ⟨kx0, kx1, kx2, kx3, kx4⟩ := kx.five; have kxf := kx.frozen))
  go_quiet ((go_at_call 39; exact quiet_left (ends_any _ _)))
  go_wp2_with (first
    | (go_at_call 45; refine (stackop_any base B v st _ A cap l (HSA.out.drewN _) (by omega) (HPA.out.drewN _) (Nat.le_trans hB hon.size) hn hst).mono ?_; rintro e wB ⟨rfl, hoB⟩; have kxB := (kx.drewN _).only hoB (fun h => h); have kpB := (kp.drewN _).only hoB (fun h => h); have kpB0 := kpB.one; have kpBf := kpB.frozen; obtain ⟨kxB0, kxB1, kxB2, kxB3, kxB4⟩ := kxB.five; have kxBf := kxB.frozen)
    | (go_at_call 46; refine (begins_any _ _).mono ?_; rintro e w1 ⟨rfl, rfl⟩))
  all_goals
    go_ret
    refine ⟨rfl, ?_⟩
    repeat' (first | (with_reducible exact Only.refl _ _) | (with_reducible exact hon) | (with_reducible refine Only.trans ?_ hoB) | (with_reducible refine Only.drewN ?_ _) | (with_reducible refine Only.drew ?_))

set_option maxHeartbeats 1000000 in
theorem wrong_deep (base B : Nat) (v : Value) (st : List Int) (x : PIns) (w : World) (A : Option Addr) (cap : Nat) (l : List PIns) (h : Stack w base v st) (hl : st.length < 1000) (hp : ProgIn w B A l) (hB : B ≤ w.heap.size)
    (hn : l.length ≤ 1000) (hst : ∀ t ∈ st, 0 ≤ t ∧ t < (l.length : Int)) (h1 : mayB x.op x.a x.b x.c x.n = true) (h2 : decide (0 < endsI x.op) = false) (h4 : (x.op == 16) = false) (h5 : beginsB x.op = true) (h6 : 5 ≤ st.length) :
    Calls Try.prog 34 #[.agg #[.slice A l.length cap], v, .agg #[.int .i64 x.op, .int .i64 x.a, .int .i64 x.b, .int .i64 x.c, .int .u64 x.n]] w fun e w' => e = .returned (.int .i64 9) ∧ Only Nob w w' := by
  have HS := hide h
  have HP := hide hp
  clear h hp
  rcases HS.out.form with ⟨h7, hv⟩ | ⟨g, vcap, hv, _, _, hv1, hv2⟩
  · exfalso
    subst h7
    simp at h6
  · subst hv
    have d6 : decide ((5 : Int) ≤ st.length) = true := by simp; omega
    go_enter Try.func34, Try.ntmps34
    go_wp2_with (first
      | (go_at_call 15; refine (may_any _ _ _ _ _ _).mono ?_; rintro e wA ⟨rfl, hoA⟩; have hon : Only Nob w wA := Only.trans (Only.alloc (Only.alloc (Only.refl _ _) _) _) hoA; have HSA := hide (HS.out.only hon); have HPA := hide (HP.out.keep (below_nob hon hB)); have kp := ((Blk.new w 37 #[.slice A l.length cap]).alloc (.cells #[.int .i64 x.op, .int .i64 x.a, .int .i64 x.b, .int .i64 x.c, .int .u64 x.n] 28)).only hoA (fun h => h); have kx := (Blk.new (w.alloc (.cells #[.slice A l.length cap] 37)) 28 #[.int .i64 x.op, .int .i64 x.a, .int .i64 x.b, .int .i64 x.c, .int .u64 x.n]).only hoA (fun h => h); have hsz : w.heap.size + 1 < wA.heap.size := Nat.lt_of_lt_of_le (by simp) hoA.size; have hsz2 : w.heap.size < wA.heap.size := Nat.lt_of_succ_lt hsz; simp only [World.size_alloc] at kx; have kp0 := kp.one; have kpf := kp.frozen; obtain ⟨kx0, kx1, kx2, kx3, kx4⟩ := kx.five; have kxf := kx.frozen))
    go_quiet ((go_at_call 39; exact quiet_left (ends_any _ _)))
    go_wp2_with (first
      | (go_at_call 46; refine (begins_any _ _).mono ?_; rintro e w1 ⟨rfl, rfl⟩))
    all_goals
      go_ret
      refine ⟨rfl, ?_⟩
      repeat' (first | (with_reducible exact Only.refl _ _) | (with_reducible exact hon) | (with_reducible refine Only.trans ?_ hoB) | (with_reducible refine Only.drewN ?_ _) | (with_reducible refine Only.drew ?_))

set_option maxHeartbeats 1000000 in
theorem wrong_begins (base B : Nat) (v : Value) (st : List Int) (x : PIns) (w : World) (A : Option Addr) (cap : Nat) (l : List PIns) (h : Stack w base v st) (hl : st.length < 1000) (hp : ProgIn w B A l) (hB : B ≤ w.heap.size)
    (hn : l.length ≤ 1000) (hst : ∀ t ∈ st, 0 ≤ t ∧ t < (l.length : Int)) (h1 : mayB x.op x.a x.b x.c x.n = true) (h2 : decide (0 < endsI x.op) = false) (h4 : (x.op == 16) = false) (h5 : beginsB x.op = true) (h6 : st.length < 5) :
    Calls Try.prog 34 #[.agg #[.slice A l.length cap], v, .agg #[.int .i64 x.op, .int .i64 x.a, .int .i64 x.b, .int .i64 x.c, .int .u64 x.n]] w fun e w' => e = .returned (.int .i64 0) ∧ Only Nob w w' := by
  have HS := hide h
  have HP := hide hp
  clear h hp
  rcases HS.out.form with ⟨h7, hv⟩ | ⟨g, vcap, hv, _, _, hv1, hv2⟩
  · subst h7
    subst hv
    clear h6
    have hst : ∀ t ∈ ([] : List Int), 0 ≤ t ∧ t < (l.length : Int) := hst
    go_enter Try.func34, Try.ntmps34
    go_wp2_with (first
      | (go_at_call 15; refine (may_any _ _ _ _ _ _).mono ?_; rintro e wA ⟨rfl, hoA⟩; have hon : Only Nob w wA := Only.trans (Only.alloc (Only.alloc (Only.refl _ _) _) _) hoA; have HSA := hide (HS.out.only hon); have HPA := hide (HP.out.keep (below_nob hon hB)); have kp := ((Blk.new w 37 #[.slice A l.length cap]).alloc (.cells #[.int .i64 x.op, .int .i64 x.a, .int .i64 x.b, .int .i64 x.c, .int .u64 x.n] 28)).only hoA (fun h => h); have kx := (Blk.new (w.alloc (.cells #[.slice A l.length cap] 37)) 28 #[.int .i64 x.op, .int .i64 x.a, .int .i64 x.b, .int .i64 x.c, .int .u64 x.n]).only hoA (fun h => h); have hsz : w.heap.size + 1 < wA.heap.size := Nat.lt_of_lt_of_le (by simp) hoA.size; have hsz2 : w.heap.size < wA.heap.size := Nat.lt_of_succ_lt hsz; simp only [World.size_alloc] at kx; have kp0 := kp.one; have kpf := kp.frozen; obtain ⟨kx0, kx1, kx2, kx3, kx4⟩ := kx.five; have kxf := kx.frozen))
    go_quiet ((go_at_call 39; exact quiet_left (ends_any _ _)))
    go_wp2_with (first
      | (go_at_call 46; refine (begins_any _ _).mono ?_; rintro e w1 ⟨rfl, rfl⟩))
    all_goals
      go_ret
      refine ⟨rfl, ?_⟩
      repeat' (first | (with_reducible exact Only.refl _ _) | (with_reducible exact hon) | (with_reducible refine Only.trans ?_ hoB) | (with_reducible refine Only.drewN ?_ _) | (with_reducible refine Only.drew ?_))
  · subst hv
    have d6 : decide ((5 : Int) ≤ st.length) = false := by simp; omega
    go_enter Try.func34, Try.ntmps34
    go_wp2_with (first
      | (go_at_call 15; refine (may_any _ _ _ _ _ _).mono ?_; rintro e wA ⟨rfl, hoA⟩; have hon : Only Nob w wA := Only.trans (Only.alloc (Only.alloc (Only.refl _ _) _) _) hoA; have HSA := hide (HS.out.only hon); have HPA := hide (HP.out.keep (below_nob hon hB)); have kp := ((Blk.new w 37 #[.slice A l.length cap]).alloc (.cells #[.int .i64 x.op, .int .i64 x.a, .int .i64 x.b, .int .i64 x.c, .int .u64 x.n] 28)).only hoA (fun h => h); have kx := (Blk.new (w.alloc (.cells #[.slice A l.length cap] 37)) 28 #[.int .i64 x.op, .int .i64 x.a, .int .i64 x.b, .int .i64 x.c, .int .u64 x.n]).only hoA (fun h => h); have hsz : w.heap.size + 1 < wA.heap.size := Nat.lt_of_lt_of_le (by simp) hoA.size; have hsz2 : w.heap.size < wA.heap.size := Nat.lt_of_succ_lt hsz; simp only [World.size_alloc] at kx; have kp0 := kp.one; have kpf := kp.frozen; obtain ⟨kx0, kx1, kx2, kx3, kx4⟩ := kx.five; have kxf := kx.frozen))
    go_quiet ((go_at_call 39; exact quiet_left (ends_any _ _)))
    go_wp2_with (first
      | (go_at_call 46; refine (begins_any _ _).mono ?_; rintro e w1 ⟨rfl, rfl⟩))
    all_goals
      go_ret
      refine ⟨rfl, ?_⟩
      repeat' (first | (with_reducible exact Only.refl _ _) | (with_reducible exact hon) | (with_reducible refine Only.trans ?_ hoB) | (with_reducible refine Only.drewN ?_ _) | (with_reducible refine Only.drew ?_))

set_option maxHeartbeats 1000000 in
theorem wrong_plain (base B : Nat) (v : Value) (st : List Int) (x : PIns) (w : World) (A : Option Addr) (cap : Nat) (l : List PIns) (h : Stack w base v st) (hl : st.length < 1000) (hp : ProgIn w B A l) (hB : B ≤ w.heap.size)
    (hn : l.length ≤ 1000) (hst : ∀ t ∈ st, 0 ≤ t ∧ t < (l.length : Int)) (h1 : mayB x.op x.a x.b x.c x.n = true) (h2 : decide (0 < endsI x.op) = false) (h4 : (x.op == 16) = false) (h5 : beginsB x.op = false) :
    Calls Try.prog 34 #[.agg #[.slice A l.length cap], v, .agg #[.int .i64 x.op, .int .i64 x.a, .int .i64 x.b, .int .i64 x.c, .int .u64 x.n]] w fun e w' => e = .returned (.int .i64 0) ∧ Only Nob w w' := by
  have HS := hide h
  have HP := hide hp
  clear h hp
  go_enter Try.func34, Try.ntmps34
  go_wp2_with (first
    | (go_at_call 15; refine (may_any _ _ _ _ _ _).mono ?_; rintro e wA ⟨rfl, hoA⟩; have hon : Only Nob w wA := Only.trans (Only.alloc (Only.alloc (Only.refl _ _) _) _) hoA; have HSA := hide (HS.out.only hon); have HPA := hide (HP.out.keep (below_nob hon hB)); have kp := ((Blk.new w 37 #[.slice A l.length cap]).alloc (.cells #[.int .i64 x.op, .int .i64 x.a, .int .i64 x.b, .int .i64 x.c, .int .u64 x.n] 28)).only hoA (fun h => h); have kx := (Blk.new (w.alloc (.cells #[.slice A l.length cap] 37)) 28 #[.int .i64 x.op, .int .i64 x.a, .int .i64 x.b, .int .i64 x.c, .int .u64 x.n]).only hoA (fun h => h); have hsz : w.heap.size + 1 < wA.heap.size := Nat.lt_of_lt_of_le (by simp) hoA.size; have hsz2 : w.heap.size < wA.heap.size := Nat.lt_of_succ_lt hsz; simp only [World.size_alloc] at kx; have kp0 := kp.one; have kpf := kp.frozen; obtain ⟨kx0, kx1, kx2, kx3, kx4⟩ := kx.five; have kxf := kx.frozen))
  go_quiet ((go_at_call 39; exact quiet_left (ends_any _ _)))
  go_wp2_with (first
    | (go_at_call 46; refine (begins_any _ _).mono ?_; rintro e w1 ⟨rfl, rfl⟩))
  all_goals
    go_ret
    refine ⟨rfl, ?_⟩
    repeat' (first | (with_reducible exact Only.refl _ _) | (with_reducible exact hon) | (with_reducible refine Only.trans ?_ hoB) | (with_reducible refine Only.drewN ?_ _) | (with_reducible refine Only.drew ?_))

theorem wrong_any (base B : Nat) (v : Value) (st : List Int) (x : PIns) (w : World) (A : Option Addr) (cap : Nat) (l : List PIns) (h : Stack w base v st) (hl : st.length < 1000) (hp : ProgIn w B A l) (hB : B ≤ w.heap.size)
    (hn : l.length ≤ 1000) (hst : ∀ t ∈ st, 0 ≤ t ∧ t < (l.length : Int)) :
    Calls Try.prog 34 #[.agg #[.slice A l.length cap], v, .agg #[.int .i64 x.op, .int .i64 x.a, .int .i64 x.b, .int .i64 x.c, .int .u64 x.n]] w fun e w' => e = .returned (.int .i64 (wrongP l st x)) ∧ Only Nob w w' := by
  unfold wrongP mayP
  cases h1 : mayB x.op x.a x.b x.c x.n
  · exact wrong_may base B v st x w A cap l h hl hp hB hn hst h1
  · rw [if_neg (by decide)]
    by_cases h2 : 0 < endsI x.op
    · have d2 : decide (0 < endsI x.op) = true := by simpa using h2
      by_cases h3 : opAt l st = endsI x.op
      · have hop : x.op = 15 ∨ x.op = 18 ∨ x.op = 19 := by
          unfold endsI at h2
          by_cases q1 : x.op = 15
          · exact .inl q1
          · by_cases q2 : x.op = 18
            · exact .inr (.inl q2)
            · by_cases q3 : x.op = 19
              · exact .inr (.inr q3)
              · simp [q1, q2, q3] at h2
        have h4 : ¬ (x.op = 16 ∧ opAt l st ≠ 14) := by omega
        have h5 : beginsB x.op = false := by rcases hop with q | q | q <;> rw [q] <;> rfl
        rw [if_neg (by simp [h3]), if_neg h4, if_neg (by simp [h5])]
        exact wrong_fit base B v st x w A cap l h hl hp hB hn hst h1 d2 (by simpa using h3) (by simp; omega) h5
      · rw [if_pos ⟨h2, h3⟩]
        exact wrong_ends base B v st x w A cap l h hl hp hB hn hst h1 d2 (by simpa using h3)
    · have d2 : decide (0 < endsI x.op) = false := by simpa using h2
      rw [if_neg (by simp [h2])]
      by_cases h4 : x.op = 16
      · have h5 : beginsB x.op = false := by rw [h4]; rfl
        by_cases h3 : opAt l st = 14
        · rw [if_neg (by simp [h3]), if_neg (by simp [h5])]
          exact wrong_undoes base B v st x w A cap l h hl hp hB hn hst h1 d2 (by simpa using h4) (by simpa using h3) h5
        · rw [if_pos ⟨h4, h3⟩]
          exact wrong_undo base B v st x w A cap l h hl hp hB hn hst h1 d2 (by simpa using h4) (by simpa using h3)
      · rw [if_neg (by simp [h4])]
        cases h5 : beginsB x.op
        · rw [if_neg (by simp)]
          exact wrong_plain base B v st x w A cap l h hl hp hB hn hst h1 d2 (by simpa using h4) h5
        · by_cases h6 : 5 ≤ st.length
          · rw [if_pos ⟨rfl, h6⟩]
            exact wrong_deep base B v st x w A cap l h hl hp hB hn hst h1 d2 (by simpa using h4) h5 h6
          · rw [if_neg (by simp; omega)]
            exact wrong_begins base B v st x w A cap l h hl hp hB hn hst h1 d2 (by simpa using h4) h5 (by omega)
end Go.Proofs.Ytpdjhkidalafpaa

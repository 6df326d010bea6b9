/-
  Contracts of a lock read of its nine bytes, the program's and the reference's.
-/
import Derived.Test.YtpgmcmdcdkajjaaLckOps
namespace Go.Proofs.Ytpgmcmdcdkajjaa
open Go.RowKit

/-- The first k bytes as a number. -/
def ver (s : ByteArray) : Nat → Nat
  | 0 => 0
  | k + 1 => ver s k * 256 + (s.data.toList.getD k 0).toNat
/-- The ninth byte. -/
def tag (s : ByteArray) : Nat := (s.data.toList.getD 8 0).toNat
def rdH (s : ByteArray) : Bool := decide (0 < tag s)
def rdO (s : ByteArray) : Int := if 0 < tag s then (tag s : Int) - 1 else 0
def rdB (s : ByteArray) : Bool := isB (ver s 8) (rdH s) (rdO s)
def rdV (s : ByteArray) : Int := if rdB s then (ver s 8 : Int) else 0
def rdHH (s : ByteArray) : Bool := rdB s && rdH s
def rdOO (s : ByteArray) : Int := if rdB s then rdO s else 0

theorem ver_lt (s : ByteArray) : ∀ k, ver s k < 256 ^ k
  | 0 => by simp [ver]
  | k + 1 => by
    have h := ver_lt s k
    have h2 : (s.data.toList.getD k 0).toNat < 256 := UInt8.toNat_lt _
    simp only [ver, Nat.pow_succ]
    omega
theorem ver_small (s : ByteArray) (k : Nat) (hk : k < 8) : ver s k < 72057594037927936 := by
  have h := ver_lt s k
  have : 256 ^ k ≤ 256 ^ 7 := Nat.pow_le_pow_right (by omega) (by omega)
  omega
theorem getD_at (s : ByteArray) (k : Nat) (hk : k < s.size) : s[k] = s.data.toList.getD k 0 := by
  have hl : k < s.data.size := hk
  show s.data[k] = _
  rw [List.getD_eq_getElem?_getD, Array.getElem?_toList, Array.getElem?_eq_getElem hl]
  rfl
theorem or_byte (x c : Nat) (hx : x < 72057594037927936) (hc : c < 256) : bits BinOp.or IntKind.u64 (IntKind.u64.wrap ((x : Int) * 256)) (IntKind.u64.wrap (c : Int)) = ((x * 256 + c : Nat) : Int) := by
  have h1 : IntKind.u64.wrap ((x : Int) * 256) = ((x * 256 : Nat) : Int) := by rw [IntWalk.u64_in _ (by omega)]; omega
  have h2 : IntKind.u64.wrap (c : Int) = ((c : Nat) : Int) := IntWalk.u64_in _ (by omega)
  rw [h1, h2, u64_or_nat _ _ (by omega) (by omega)]
  have h3 : x * 256 ||| c = x * 256 + c := nat_join 8 _ _ (by omega) (by omega)
  rw [h3]
theorem set_drawn (W : World) (n j : Nat) (a x b c : Value) (hn : W.heap.size = n) :
    ((W.alloc (.cells #[a, b, c] 49)).drewN j).setCell ⟨n, 0, none⟩ x = (W.alloc (.cells #[x, b, c] 49)).drewN j := by
  subst hn
  show ((W.alloc (.cells #[a, b, c] 49)).setCell ⟨W.heap.size, 0, none⟩ x).drewN j = _
  rw [World.setCell_alloc_at _ _ _ _ _ rfl]
  rfl
theorem set_drawn12 (W : World) (n j : Nat) (a b c x y : Value) (hn : W.heap.size = n) :
    (((W.alloc (.cells #[a, b, c] 49)).drewN j).setCell ⟨n, 1, none⟩ x).setCell ⟨n, 2, none⟩ y = (W.alloc (.cells #[a, x, y] 49)).drewN j := by
  subst hn
  show (((W.alloc (.cells #[a, b, c] 49)).setCell ⟨W.heap.size, 1, none⟩ x).setCell ⟨W.heap.size, 2, none⟩ y).drewN j = _
  rw [World.setCell_alloc_at _ _ _ _ _ rfl, World.setCell_alloc_at _ _ _ _ _ rfl]
  rfl

theorem set_res (A : World) (n j : Nat) (a b c x y z : Value) (o1 o2 : Obj) (hn : A.heap.size = n) :
    (((((((A.alloc (.cells #[a, b, c] 49)).alloc o1).drewN j).setCell ⟨n, 0, none⟩ x).setCell ⟨n, 1, none⟩ y).setCell ⟨n, 2, none⟩ z).alloc o2) = (((A.alloc (.cells #[x, y, z] 49)).alloc o1).alloc o2).drewN j := by
  subst hn
  have h : ∀ (i : Nat) (v : Value) (cs : Array Value), ((A.alloc (.cells cs 49)).alloc o1).setCell ⟨A.heap.size, i, none⟩ v = (A.alloc (.cells (cs.setIfInBounds i v) 49)).alloc o1 := by
    intro i v cs
    simp [go_sem]
  show ((((((A.alloc (.cells #[a, b, c] 49)).alloc o1).setCell ⟨A.heap.size, 0, none⟩ x).setCell ⟨A.heap.size, 1, none⟩ y).setCell ⟨A.heap.size, 2, none⟩ z).alloc o2).drewN j = _
  rw [h, h, h]
  rfl

/-- What a Read of nine bytes leaves. -/
def ReadPost (w : World) (s : ByteArray) (e : Ending) (w' : World) : Prop :=
  ∃ j, e = .returned (.tuple #[.agg #[.int .u64 (rdV s), .bool (rdHH s), .int .i64 (rdOO s)], .bool (rdB s)]) ∧
    w' = (((w.alloc (.cells #[.int .u64 (rdV s), .bool (rdHH s), .int .i64 (rdOO s)] 49)).alloc (.cells #[.int .u64 (ver s 8), .bool (rdH s), .int .i64 (rdO s)] 49)).alloc (.cells #[.int .u64 (ver s 8), .bool (rdH s), .int .i64 (rdO s)] 49)).drewN j

theorem read_short (s : ByteArray) (w : World) (hs : s.size ≠ 9) (hm : s.size ≤ maxLen) :
    Calls Try.prog 29 #[.string s] w fun e w' => e = .returned (.tuple #[.agg #[.int .u64 0, .bool false, .int .i64 0], .bool false]) ∧ w' = w.alloc (.cells #[.int .u64 0, .bool false, .int .i64 0] 49) := by
  unfold maxLen at hm
  have hb : ((s.size : Int) != 9) = true := by
    have : (s.size : Int) ≠ 9 := by omega
    simpa using this
  clear hs
  go_enter Try.func29, Try.ntmps29
  go_wp2
  exact bodyPost_ret (by simp [results, Try.results29, go_sem]; try rfl) rfl ⟨rfl, rfl⟩

set_option maxRecDepth 100000 in
set_option maxHeartbeats 1000000 in
theorem read_nine (s : ByteArray) (w : World) (hs : s.size = 9) : Calls Try.prog 29 #[.string s] w (ReadPost w s) := by
  go_enter Try.func29, Try.ntmps29
  go_wp2
  go_loopw [10] (fun c wr => ∃ k j : Nat, k ≤ 8 ∧ c = .int .i64 k ∧ wr = ((w.alloc (.cells #[.int .u64 0, .bool false, .int .i64 0] 49)).alloc (.cells #[.int .u64 (ver s k), .bool false, .int .i64 0] 49)).drewN j) (fun c _ => 8 - (intOf c).toNat)
  case atStart => exact ⟨0, 0, by omega, rfl, rfl⟩
  case round =>
    obtain ⟨k, j, hk, rfl, rfl⟩ := hrel
    have hk9 : (k : Int) < 9 := by omega
    by_cases hlt : k < 8
    · have hx := ver_small s k hlt
      have hc : (s[k]'(by omega)).toNat < 256 := UInt8.toNat_lt _
      have hg := hide (getD_at s k (by omega))
      have hor := hide (or_byte (ver s k) (s[k]'(by omega)).toNat hx hc)
      clear hx hc
      go_wp2
      go_region
      go_wp2
      go_roundw
      case rel =>
        refine ⟨k + 1, j + 1, by omega, by go_num, ?_⟩
        rw [set_drawn _ _ _ _ _ _ _ (by simp), hor.out]
        simp only [ver, hg.out]
      case measure => simp [intOf]; omega
    · obtain rfl : k = 8 := by omega
      have hv0 : (0 : Int) ≤ (ver s 8 : Int) := Int.natCast_nonneg _
      go_wp2_with fail
      · have ht : 0 < (s[8]'(by omega)).toNat := by assumption
        have ht2 : (s[8]'(by omega)).toNat < 256 := UInt8.toNat_lt _
        have hg : (s[8]'(by omega)).toNat = tag s := by unfold tag; rw [getD_at s 8 (by omega)]
        go_region
        go_wp2_with fail
        rw [set_drawn12 _ _ _ _ _ _ _ _ (by simp)]
        simp only [hg] at ht ht2 ⊢
        have eH : rdH s = true := by simp [rdH, ht]
        have eO : rdO s = (tag s : Int) - 1 := by simp only [rdO, ht, if_true]
        generalize (tag s : Int) - 1 = T at *
        clear hg ht ht2
        rcases (by cases isB (ver s 8) true T <;> simp : isB (ver s 8) true T = true ∨ isB (ver s 8) true T = false) with hB | hB
        · have eB : rdB s = true := by unfold rdB; rw [eH, eO]; exact hB
          have e1 : rdV s = (ver s 8 : Int) := by simp [rdV, eB]
          have e2 : rdHH s = true := by simp [rdHH, eB, eH]
          have e3 : rdOO s = T := by simp [rdOO, eB, eO]
          have fin : Hid (∀ e w', e = .returned (.tuple #[.agg #[.int .u64 (ver s 8 : Int), .bool true, .int .i64 T], .bool true]) →
              w' = (((w.alloc (.cells #[.int .u64 (ver s 8 : Int), .bool true, .int .i64 T] 49)).alloc (.cells #[.int .u64 (ver s 8), .bool true, .int .i64 T] 49)).alloc (.cells #[.int .u64 (ver s 8), .bool true, .int .i64 T] 49)).drewN (j + 1) → ReadPost w s e w') := by
            intro e w' h1 h2
            refine ⟨j + 1, ?_, ?_⟩
            · rw [h1, eB, e1, e2, e3]
            · rw [h2, eH, eO, e1, e2, e3]
          clear e1 e2 e3 eB eH eO
          refine (is_any _ _ _ _).mono ?_
          rintro e w1 ⟨rfl, rfl⟩
          rw [hB]
          go_wp2_with fail
          exact bodyPost_ret (by simp [results, Try.results29, go_sem]; try rfl) rfl (fin.out _ _ rfl (set_res _ _ _ _ _ _ _ _ _ _ _ rfl))
        · have eB : rdB s = false := by unfold rdB; rw [eH, eO]; exact hB
          have e1 : rdV s = 0 := by simp [rdV, eB]
          have e2 : rdHH s = false := by simp [rdHH, eB, eH]
          have e3 : rdOO s = 0 := by simp [rdOO, eB, eO]
          have fin : Hid (∀ e w', e = .returned (.tuple #[.agg #[.int .u64 0, .bool false, .int .i64 0], .bool false]) →
              w' = (((w.alloc (.cells #[.int .u64 0, .bool false, .int .i64 0] 49)).alloc (.cells #[.int .u64 (ver s 8), .bool true, .int .i64 T] 49)).alloc (.cells #[.int .u64 (ver s 8), .bool true, .int .i64 T] 49)).drewN (j + 1) → ReadPost w s e w') := by
            intro e w' h1 h2
            refine ⟨j + 1, ?_, ?_⟩
            · rw [h1, eB, e1, e2, e3]
            · rw [h2, eH, eO, e1, e2, e3]
          clear e1 e2 e3 eB eH eO
          refine (is_any _ _ _ _).mono ?_
          rintro e w1 ⟨rfl, rfl⟩
          rw [hB]
          go_wp2_with fail
          exact bodyPost_ret (by simp [results, Try.results29, go_sem]; try rfl) rfl (fin.out _ _ rfl (set_res _ _ _ _ _ _ _ _ _ _ _ rfl))
      · have ht : ¬ 0 < tag s := by
          have hg : (s[8]'(by omega)).toNat = tag s := by unfold tag; rw [getD_at s 8 (by omega)]
          rw [← hg]
          first | assumption | (have h9 : (s[8]'(by omega)).toNat = 0 := by assumption; omega) | (have h9 : (s[8]'(by omega)).toNat ≤ 0 := by assumption; omega)
        have eH : rdH s = false := by simp [rdH]; omega
        have eO : rdO s = 0 := by simp only [rdO, ht, if_false]
        clear ht
        rcases (by cases isB (ver s 8) false 0 <;> simp : isB (ver s 8) false 0 = true ∨ isB (ver s 8) false 0 = false) with hB | hB
        · have eB : rdB s = true := by unfold rdB; rw [eH, eO]; exact hB
          have e1 : rdV s = (ver s 8 : Int) := by simp [rdV, eB]
          have e2 : rdHH s = false := by simp [rdHH, eB, eH]
          have e3 : rdOO s = 0 := by simp [rdOO, eB, eO]
          have fin : Hid (∀ e w', e = .returned (.tuple #[.agg #[.int .u64 (ver s 8 : Int), .bool false, .int .i64 0], .bool true]) →
              w' = (((w.alloc (.cells #[.int .u64 (ver s 8 : Int), .bool false, .int .i64 0] 49)).alloc (.cells #[.int .u64 (ver s 8), .bool false, .int .i64 0] 49)).alloc (.cells #[.int .u64 (ver s 8), .bool false, .int .i64 0] 49)).drewN (j) → ReadPost w s e w') := by
            intro e w' h1 h2
            refine ⟨j, ?_, ?_⟩
            · rw [h1, eB, e1, e2, e3]
            · rw [h2, eH, eO, e1, e2, e3]
          clear e1 e2 e3 eB eH eO
          refine (is_any _ _ _ _).mono ?_
          rintro e w1 ⟨rfl, rfl⟩
          rw [hB]
          go_wp2_with fail
          exact bodyPost_ret (by simp [results, Try.results29, go_sem]; try rfl) rfl (fin.out _ _ rfl (set_res _ _ _ _ _ _ _ _ _ _ _ rfl))
        · have eB : rdB s = false := by unfold rdB; rw [eH, eO]; exact hB
          have e1 : rdV s = 0 := by simp [rdV, eB]
          have e2 : rdHH s = false := by simp [rdHH, eB, eH]
          have e3 : rdOO s = 0 := by simp [rdOO, eB, eO]
          have fin : Hid (∀ e w', e = .returned (.tuple #[.agg #[.int .u64 0, .bool false, .int .i64 0], .bool false]) →
              w' = (((w.alloc (.cells #[.int .u64 0, .bool false, .int .i64 0] 49)).alloc (.cells #[.int .u64 (ver s 8), .bool false, .int .i64 0] 49)).alloc (.cells #[.int .u64 (ver s 8), .bool false, .int .i64 0] 49)).drewN (j) → ReadPost w s e w') := by
            intro e w' h1 h2
            refine ⟨j, ?_, ?_⟩
            · rw [h1, eB, e1, e2, e3]
            · rw [h2, eH, eO, e1, e2, e3]
          clear e1 e2 e3 eB eH eO
          refine (is_any _ _ _ _).mono ?_
          rintro e w1 ⟨rfl, rfl⟩
          rw [hB]
          go_wp2_with fail
          exact bodyPost_ret (by simp [results, Try.results29, go_sem]; try rfl) rfl (fin.out _ _ rfl (set_res _ _ _ _ _ _ _ _ _ _ _ rfl))

theorem ref_read_short (s : ByteArray) (w : World) (hs : s.size ≠ 9) (hm : s.size ≤ maxLen) :
    Calls Try.prog 30 #[.string s] w fun e w' => e = .returned (.tuple #[.agg #[.int .u64 0, .bool false, .int .i64 0], .bool false]) ∧ w' = w.alloc (.cells #[.int .u64 0, .bool false, .int .i64 0] 49) := by
  unfold maxLen at hm
  have hb : ((s.size : Int) != 9) = true := by
    have : (s.size : Int) ≠ 9 := by omega
    simpa using this
  clear hs
  go_enter Try.func30, Try.ntmps30
  go_wp2
  exact bodyPost_ret (by simp [results, Try.results30, go_sem]; try rfl) rfl ⟨rfl, rfl⟩

set_option maxRecDepth 100000 in
set_option maxHeartbeats 1000000 in
theorem ref_read_nine (s : ByteArray) (w : World) (hs : s.size = 9) : Calls Try.prog 30 #[.string s] w (ReadPost w s) := by
  go_enter Try.func30, Try.ntmps30
  go_wp2
  go_loopw [5] (fun c wr => ∃ k j : Nat, k ≤ 8 ∧ c = .int .i64 k ∧ wr = ((w.alloc (.cells #[.int .u64 0, .bool false, .int .i64 0] 49)).alloc (.cells #[.int .u64 (ver s k), .bool false, .int .i64 0] 49)).drewN j) (fun c _ => 8 - (intOf c).toNat)
  case atStart => exact ⟨0, 0, by omega, rfl, rfl⟩
  case round =>
    obtain ⟨k, j, hk, rfl, rfl⟩ := hrel
    have hk9 : (k : Int) < 9 := by omega
    by_cases hlt : k < 8
    · have hx := ver_small s k hlt
      have hc : (s[k]'(by omega)).toNat < 256 := UInt8.toNat_lt _
      have hg := hide (getD_at s k (by omega))
      have hor := hide (or_byte (ver s k) (s[k]'(by omega)).toNat hx hc)
      clear hx hc
      go_wp2
      go_region
      go_wp2
      go_roundw
      case rel =>
        refine ⟨k + 1, j + 1, by omega, by go_num, ?_⟩
        rw [set_drawn _ _ _ _ _ _ _ (by simp), hor.out]
        simp only [ver, hg.out]
      case measure => simp [intOf]; omega
    · obtain rfl : k = 8 := by omega
      have hv0 : (0 : Int) ≤ (ver s 8 : Int) := Int.natCast_nonneg _
      go_wp2_with fail
      · have ht : 0 < (s[8]'(by omega)).toNat := by assumption
        have ht2 : (s[8]'(by omega)).toNat < 256 := UInt8.toNat_lt _
        have hg : (s[8]'(by omega)).toNat = tag s := by unfold tag; rw [getD_at s 8 (by omega)]
        go_region
        go_wp2_with fail
        rw [set_drawn12 _ _ _ _ _ _ _ _ (by simp)]
        simp only [hg] at ht ht2 ⊢
        have eH : rdH s = true := by simp [rdH, ht]
        have eO : rdO s = (tag s : Int) - 1 := by simp only [rdO, ht, if_true]
        generalize (tag s : Int) - 1 = T at *
        clear hg ht ht2
        rcases (by cases isB (ver s 8) true T <;> simp : isB (ver s 8) true T = true ∨ isB (ver s 8) true T = false) with hB | hB
        · have eB : rdB s = true := by unfold rdB; rw [eH, eO]; exact hB
          have e1 : rdV s = (ver s 8 : Int) := by simp [rdV, eB]
          have e2 : rdHH s = true := by simp [rdHH, eB, eH]
          have e3 : rdOO s = T := by simp [rdOO, eB, eO]
          have fin : Hid (∀ e w', e = .returned (.tuple #[.agg #[.int .u64 (ver s 8 : Int), .bool true, .int .i64 T], .bool true]) →
              w' = (((w.alloc (.cells #[.int .u64 (ver s 8 : Int), .bool true, .int .i64 T] 49)).alloc (.cells #[.int .u64 (ver s 8), .bool true, .int .i64 T] 49)).alloc (.cells #[.int .u64 (ver s 8), .bool true, .int .i64 T] 49)).drewN (j + 1) → ReadPost w s e w') := by
            intro e w' h1 h2
            refine ⟨j + 1, ?_, ?_⟩
            · rw [h1, eB, e1, e2, e3]
            · rw [h2, eH, eO, e1, e2, e3]
          clear e1 e2 e3 eB eH eO
          refine (ref_is_any _ _ _ _).mono ?_
          rintro e w1 ⟨rfl, rfl⟩
          rw [hB]
          go_wp2_with fail
          exact bodyPost_ret (by simp [results, Try.results30, go_sem]; try rfl) rfl (fin.out _ _ rfl (set_res _ _ _ _ _ _ _ _ _ _ _ rfl))
        · have eB : rdB s = false := by unfold rdB; rw [eH, eO]; exact hB
          have e1 : rdV s = 0 := by simp [rdV, eB]
          have e2 : rdHH s = false := by simp [rdHH, eB, eH]
          have e3 : rdOO s = 0 := by simp [rdOO, eB, eO]
          have fin : Hid (∀ e w', e = .returned (.tuple #[.agg #[.int .u64 0, .bool false, .int .i64 0], .bool false]) →
              w' = (((w.alloc (.cells #[.int .u64 0, .bool false, .int .i64 0] 49)).alloc (.cells #[.int .u64 (ver s 8), .bool true, .int .i64 T] 49)).alloc (.cells #[.int .u64 (ver s 8), .bool true, .int .i64 T] 49)).drewN (j + 1) → ReadPost w s e w') := by
            intro e w' h1 h2
            refine ⟨j + 1, ?_, ?_⟩
            · rw [h1, eB, e1, e2, e3]
            · rw [h2, eH, eO, e1, e2, e3]
          clear e1 e2 e3 eB eH eO
          refine (ref_is_any _ _ _ _).mono ?_
          rintro e w1 ⟨rfl, rfl⟩
          rw [hB]
          go_wp2_with fail
          exact bodyPost_ret (by simp [results, Try.results30, go_sem]; try rfl) rfl (fin.out _ _ rfl (set_res _ _ _ _ _ _ _ _ _ _ _ rfl))
      · have ht : ¬ 0 < tag s := by
          have hg : (s[8]'(by omega)).toNat = tag s := by unfold tag; rw [getD_at s 8 (by omega)]
          rw [← hg]
          first | assumption | (have h9 : (s[8]'(by omega)).toNat = 0 := by assumption; omega) | (have h9 : (s[8]'(by omega)).toNat ≤ 0 := by assumption; omega)
        have eH : rdH s = false := by simp [rdH]; omega
        have eO : rdO s = 0 := by simp only [rdO, ht, if_false]
        clear ht
        rcases (by cases isB (ver s 8) false 0 <;> simp : isB (ver s 8) false 0 = true ∨ isB (ver s 8) false 0 = false) with hB | hB
        · have eB : rdB s = true := by unfold rdB; rw [eH, eO]; exact hB
          have e1 : rdV s = (ver s 8 : Int) := by simp [rdV, eB]
          have e2 : rdHH s = false := by simp [rdHH, eB, eH]
          have e3 : rdOO s = 0 := by simp [rdOO, eB, eO]
          have fin : Hid (∀ e w', e = .returned (.tuple #[.agg #[.int .u64 (ver s 8 : Int), .bool false, .int .i64 0], .bool true]) →
              w' = (((w.alloc (.cells #[.int .u64 (ver s 8 : Int), .bool false, .int .i64 0] 49)).alloc (.cells #[.int .u64 (ver s 8), .bool false, .int .i64 0] 49)).alloc (.cells #[.int .u64 (ver s 8), .bool false, .int .i64 0] 49)).drewN (j) → ReadPost w s e w') := by
            intro e w' h1 h2
            refine ⟨j, ?_, ?_⟩
            · rw [h1, eB, e1, e2, e3]
            · rw [h2, eH, eO, e1, e2, e3]
          clear e1 e2 e3 eB eH eO
          refine (ref_is_any _ _ _ _).mono ?_
          rintro e w1 ⟨rfl, rfl⟩
          rw [hB]
          go_wp2_with fail
          exact bodyPost_ret (by simp [results, Try.results30, go_sem]; try rfl) rfl (fin.out _ _ rfl (set_res _ _ _ _ _ _ _ _ _ _ _ rfl))
        · have eB : rdB s = false := by unfold rdB; rw [eH, eO]; exact hB
          have e1 : rdV s = 0 := by simp [rdV, eB]
          have e2 : rdHH s = false := by simp [rdHH, eB, eH]
          have e3 : rdOO s = 0 := by simp [rdOO, eB, eO]
          have fin : Hid (∀ e w', e = .returned (.tuple #[.agg #[.int .u64 0, .bool false, .int .i64 0], .bool false]) →
              w' = (((w.alloc (.cells #[.int .u64 0, .bool false, .int .i64 0] 49)).alloc (.cells #[.int .u64 (ver s 8), .bool false, .int .i64 0] 49)).alloc (.cells #[.int .u64 (ver s 8), .bool false, .int .i64 0] 49)).drewN (j) → ReadPost w s e w') := by
            intro e w' h1 h2
            refine ⟨j, ?_, ?_⟩
            · rw [h1, eB, e1, e2, e3]
            · rw [h2, eH, eO, e1, e2, e3]
          clear e1 e2 e3 eB eH eO
          refine (ref_is_any _ _ _ _).mono ?_
          rintro e w1 ⟨rfl, rfl⟩
          rw [hB]
          go_wp2_with fail
          exact bodyPost_ret (by simp [results, Try.results30, go_sem]; try rfl) rfl (fin.out _ _ rfl (set_res _ _ _ _ _ _ _ _ _ _ _ rfl))

end Go.Proofs.Ytpgmcmdcdkajjaa


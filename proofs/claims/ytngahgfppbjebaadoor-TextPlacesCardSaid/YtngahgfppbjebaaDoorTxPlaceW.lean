/-
  The law TextPlaces, walked.
-/
import Derived.Test.YtngahgfppbjebaaDoorTxLooseW
import Derived.Test.YtngahgfppbjebaaDoorTxPlaceP
namespace Go.Proofs.YtngahgfppbjebaaDoor
open Go.RowKit Go.Lib
set_option linter.unusedVariables false
set_option linter.unusedSimpArgs false

theorem parse_places (n m h : Nat) (rest : List UInt8) (h5 : h < 5) (hr : h = 4 → rest = []) (hlen : 5 * n + m + 16 + rest.length ≤ 4000) (S : ByteArray) (hS : S.data.toList = remsB n ++ blanksB m ++ wrgB h ++ [10] ++ rest) (w : World) (ht : Tabs w) :
    Calls Tryd.prog 33 #[.string S] w fun e w' => ∃ A cap, e = .returned (.tuple #[.agg #[.slice A 0 cap], .int .i64 ((n : Int) + 1), .int .i64 ((m : Int) + (wrgAt h : Int)), .int .i64 12]) ∧ Only Nob w w' := by
  have hb := bad_len h
  have hl : S.size ≤ 100000 := by
    have h1 := congrArg List.length hS
    simp only [List.length_append, rems_len, blanksB, List.length_replicate, List.length_singleton] at h1
    have h2 : S.data.toList.length = S.size := by simp
    omega
  have hp := parse_any S hl w ht.utf
  rw [hS, places n m h rest h5 hr hlen] at hp
  refine hp.mono ?_
  rintro e w' ⟨v, rfl, hv, ho⟩
  obtain ⟨A, cap, rfl, _⟩ := hv.lies
  exact ⟨A, cap, by simp, ho⟩
theorem name_set (w : World) : Calls Tryd.prog 40 #[.int .i64 1] w fun e w' => e = .returned (.string ⟨#[115, 101, 116]⟩) ∧ Only Nob w w' := (name_any 1 w).mono (fun e w' ⟨h1, h2⟩ => ⟨h1.trans rfl, by rw [h2]; exact (Only.refl _ _).alloc _⟩)
set_option maxRecDepth 100000 in
set_option maxHeartbeats 8000000 in
theorem text_places (W : World) (a0 a1 a3 : Int) (h0 : 0 ≤ a0 ∧ a0 ≤ 255) (h1 : 0 ≤ a1 ∧ a1 ≤ 255) (h3 : 0 ≤ a3 ∧ a3 ≤ 255) (A : Option Addr) (len cap : Nat) (hq : ProgArg W A len) (ht : Tabs W) :
    Calls Tryd.prog 14 #[.int .u8 a0, .int .u8 a1, .slice A len cap, .int .u8 a3] W fun e w' => e = .returned (.bool true) ∧ Below W.heap.size W w' := by
  obtain ⟨ks, h1', h2', h3', h4'⟩ := hq
  have HM1 := hide (made_any W A len cap ks h1' h2' h3' h4')
  have HD1 : Hid (∀ w e w', MakePost w (makeP 40 false ks) e w' → _) := hide (fun w e w' h => drawn_of h h4')
  have HR := hide (text_runs W ht)
  have HT := hide ht
  clear h1' h2' h3' h4' ht
  generalize makeP 40 false ks = p at *
  obtain ⟨n0, rfl⟩ := Int.eq_ofNat_of_zero_le h0.1
  obtain ⟨m0, rfl⟩ := Int.eq_ofNat_of_zero_le h1.1
  obtain ⟨q0, rfl⟩ := Int.eq_ofNat_of_zero_le h3.1
  go_enter Tryd.func14, Tryd.ntmps14
  go_wp2_with (first
    | (go_at_call 8; refine HR.out.mono ?_; rintro e w1 ⟨rfl, ho1⟩; have HO1 := hide ho1; clear ho1))
  obtain ⟨n, hn, hn20⟩ : ∃ n : Nat, (n0 : Int) % 20 = (n : Int) ∧ n < 20 := ⟨n0 % 20, by omega, by omega⟩
  obtain ⟨m, hm, hm30⟩ : ∃ m : Nat, (m0 : Int) % 30 = (m : Int) ∧ m < 30 := ⟨m0 % 30, by omega, by omega⟩
  rw [hn, hm]
  clear hn hm
  go_loopw [9, 12] (fun sv iv wr => ∃ (k : Nat) (sb : ByteArray), sv = .string sb ∧ iv = .int .i64 (k : Int) ∧ k ≤ n ∧ wr = w1 ∧ Hid (sb.data.toList = remsB k)) (fun _ iv _ => n - (RowKit.intOf iv).toNat)
  case atStart => exact ⟨0, ⟨#[]⟩, rfl, rfl, Nat.zero_le _, rfl, rfl⟩
  case round =>
    obtain ⟨k, sb, rfl, rfl, hk, rfl, hs⟩ := hrel
    have hsz : sb.size ≤ 100 := by
      have h1 := congrArg List.length hs.out
      rw [rems_len] at h1
      have h2 : sb.data.toList.length = sb.size := by simp
      omega
    by_cases hlt : k < n
    · have hkI : (k : Int) < (n : Int) := by omega
      go_wp2_with fail
      refine ⟨⟨k + 1, _, rfl, by simp, hlt, by simp, ?_⟩, ?_⟩
      · unfold Hid
        rw [ByteArray.data_append, Array.toList_append, hs.out]
        simp [remsB, remB]
      · simp [RowKit.intOf]; omega
    · have hkI : ¬ (k : Int) < (n : Int) := by omega
      obtain rfl : k = n := by omega
      go_wp2_with fail
      go_loopw [9, 13] (fun sv iv wr2 => ∃ (j : Nat) (sc : ByteArray), sv = .string sc ∧ iv = .int .i64 (j : Int) ∧ j ≤ m ∧ wr2 = wr ∧ Hid (sc.data.toList = remsB k ++ blanksB j)) (fun _ iv _ => m - (RowKit.intOf iv).toNat)
      case atStart => exact ⟨0, sb, rfl, rfl, Nat.zero_le _, rfl, by unfold Hid; rw [hs.out]; simp [blanksB]⟩
      case round =>
        obtain ⟨j, sc, rfl, rfl, hj, hw2, hc⟩ := hrel
        subst hw2
        have hcz : sc.size ≤ 130 := by
          have h1 := congrArg List.length hc.out
          rw [List.length_append, rems_len] at h1
          simp only [blanksB, List.length_replicate] at h1
          have h2 : sc.data.toList.length = sc.size := by simp
          omega
        by_cases hlt2 : j < m
        · have hjI : (j : Int) < (m : Int) := by omega
          go_wp2_with fail
          refine ⟨⟨j + 1, _, rfl, by simp, hlt2, by simp, ?_⟩, ?_⟩
          · unfold Hid
            rw [ByteArray.data_append, Array.toList_append, hc.out, blanksB, blanksB, List.replicate_succ']
            simp
          · simp [RowKit.intOf]; omega
        · have hjI : ¬ (j : Int) < (m : Int) := by omega
          obtain rfl : j = m := by omega
          have HC := hide hc.out
          have HO := hide (HO1.out)
          obtain ⟨q, hq, hq5⟩ : ∃ q : Nat, (q0 : Int) % 5 = (q : Int) ∧ q < 5 := ⟨q0 % 5, by omega, by omega⟩
          clear hc hs
          rcases (by omega : q = 0 ∨ q = 1 ∨ q = 2 ∨ q = 3 ∨ q = 4) with rfl | rfl | rfl | rfl | rfl
          · go_wp2_with (first
              | (go_at_call 37; refine (HM1.out _ HO.out).mono ?_; intro e w2 hm; obtain ⟨B1, n1, c1, rfl, ho2, hd1⟩ := HD1.out _ _ _ hm; obtain rfl := hd1.len; have HO2 := hide (HO.out.trans ho2); have HR1 := hide hd1; have HP1 := hide (print_drawn (cap := c1) hd1 (Only.refl Nob w2) (HT.out.nob (HO.out.trans ho2))); have hpl := hd1.prints.bytes.2.1; clear ho2 hd1 hm)
              | (go_at_call 34; refine HP1.out.mono ?_; rintro e w4 ⟨rfl, ho4⟩; have HO4 := hide (HO2.out.trans ho4); clear ho4)
              | (go_at_call 33; refine (parse_places k j 0 (printP p) (by decide) (fun h => absurd h (by decide)) ?hlen _ ?hS _ (HT.out.nob HO4.out)).mono ?_; rotate_left 2; rintro e w6 ⟨A6, c6, rfl, ho6⟩; have HO6 := hide (HO4.out.trans ho6); clear ho6)
              | (go_at_call 40; refine (name_set _).mono ?_; rintro e w7 ⟨rfl, ho7⟩; have HO7 := hide ((HO6.out.alloc _).trans ho7); clear ho7)
              )
            case hlen => omega
            case hS => simp [HC.out, wrgB, ByteArray.data_append]
            go_ret
            exact ⟨by simp [wrgAt], HO7.out.new⟩
          · go_wp2_with (first
              | (go_at_call 37; refine (HM1.out _ HO.out).mono ?_; intro e w2 hm; obtain ⟨B1, n1, c1, rfl, ho2, hd1⟩ := HD1.out _ _ _ hm; obtain rfl := hd1.len; have HO2 := hide (HO.out.trans ho2); have HR1 := hide hd1; have HP1 := hide (print_drawn (cap := c1) hd1 (Only.refl Nob w2) (HT.out.nob (HO.out.trans ho2))); have hpl := hd1.prints.bytes.2.1; clear ho2 hd1 hm)
              | (go_at_call 34; refine HP1.out.mono ?_; rintro e w4 ⟨rfl, ho4⟩; have HO4 := hide (HO2.out.trans ho4); clear ho4)
              | (go_at_call 33; refine (parse_places k j 1 (printP p) (by decide) (fun h => absurd h (by decide)) ?hlen _ ?hS _ (HT.out.nob HO4.out)).mono ?_; rotate_left 2; rintro e w6 ⟨A6, c6, rfl, ho6⟩; have HO6 := hide (HO4.out.trans ho6); clear ho6)
              | (go_at_call 40; refine (name_set _).mono ?_; rintro e w7 ⟨rfl, ho7⟩; have HO7 := hide ((HO6.out.alloc _).trans ho7); clear ho7)
              )
            case hlen => omega
            case hS => simp [HC.out, wrgB, ByteArray.data_append]
            go_ret
            exact ⟨by simp [wrgAt], HO7.out.new⟩
          · go_wp2_with (first
              | (go_at_call 37; refine (HM1.out _ HO.out).mono ?_; intro e w2 hm; obtain ⟨B1, n1, c1, rfl, ho2, hd1⟩ := HD1.out _ _ _ hm; obtain rfl := hd1.len; have HO2 := hide (HO.out.trans ho2); have HR1 := hide hd1; have HP1 := hide (print_drawn (cap := c1) hd1 (Only.refl Nob w2) (HT.out.nob (HO.out.trans ho2))); have hpl := hd1.prints.bytes.2.1; clear ho2 hd1 hm)
              | (go_at_call 34; refine HP1.out.mono ?_; rintro e w4 ⟨rfl, ho4⟩; have HO4 := hide (HO2.out.trans ho4); clear ho4)
              | (go_at_call 33; refine (parse_places k j 2 (printP p) (by decide) (fun h => absurd h (by decide)) ?hlen _ ?hS _ (HT.out.nob HO4.out)).mono ?_; rotate_left 2; rintro e w6 ⟨A6, c6, rfl, ho6⟩; have HO6 := hide (HO4.out.trans ho6); clear ho6)
              | (go_at_call 40; refine (name_set _).mono ?_; rintro e w7 ⟨rfl, ho7⟩; have HO7 := hide ((HO6.out.alloc _).trans ho7); clear ho7)
              )
            case hlen => omega
            case hS => simp [HC.out, wrgB, ByteArray.data_append]
            go_ret
            exact ⟨by simp [wrgAt], HO7.out.new⟩
          · go_wp2_with (first
              | (go_at_call 37; refine (HM1.out _ HO.out).mono ?_; intro e w2 hm; obtain ⟨B1, n1, c1, rfl, ho2, hd1⟩ := HD1.out _ _ _ hm; obtain rfl := hd1.len; have HO2 := hide (HO.out.trans ho2); have HR1 := hide hd1; have HP1 := hide (print_drawn (cap := c1) hd1 (Only.refl Nob w2) (HT.out.nob (HO.out.trans ho2))); have hpl := hd1.prints.bytes.2.1; clear ho2 hd1 hm)
              | (go_at_call 34; refine HP1.out.mono ?_; rintro e w4 ⟨rfl, ho4⟩; have HO4 := hide (HO2.out.trans ho4); clear ho4)
              | (go_at_call 33; refine (parse_places k j 3 (printP p) (by decide) (fun h => absurd h (by decide)) ?hlen _ ?hS _ (HT.out.nob HO4.out)).mono ?_; rotate_left 2; rintro e w6 ⟨A6, c6, rfl, ho6⟩; have HO6 := hide (HO4.out.trans ho6); clear ho6)
              | (go_at_call 40; refine (name_set _).mono ?_; rintro e w7 ⟨rfl, ho7⟩; have HO7 := hide ((HO6.out.alloc _).trans ho7); clear ho7)
              )
            case hlen => omega
            case hS => simp [HC.out, wrgB, ByteArray.data_append]
            go_ret
            exact ⟨by simp [wrgAt], HO7.out.new⟩
          · go_wp2_with (first
              | (go_at_call 33; refine (parse_places k j 4 [] (by decide) (fun _ => rfl) ?hlen _ ?hS _ (HT.out.nob HO.out)).mono ?_; rotate_left 2; rintro e w6 ⟨A6, c6, rfl, ho6⟩; have HO6 := hide (HO.out.trans ho6); clear ho6)
              | (go_at_call 40; refine (name_set _).mono ?_; rintro e w7 ⟨rfl, ho7⟩; have HO7 := hide ((HO6.out.alloc _).trans ho7); clear ho7)
              )
            case hlen => omega
            case hS => simp [HC.out, wrgB, ByteArray.data_append]
            go_ret
            exact ⟨by simp [wrgAt], HO7.out.new⟩
end Go.Proofs.YtngahgfppbjebaaDoor

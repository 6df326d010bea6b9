/-
  Contracts of check.Region and check.Match.
-/
import Derived.Test.YtpdjhkidalafpaaRun
namespace Go.Proofs.Ytpdjhkidalafpaa
open Go.RowKit
set_option linter.unusedVariables false
set_option linter.unusedSimpArgs false

/-- A slice of ints that was handed out: nil where it is empty. -/
def IntsOut (w : World) (v : Value) (l : List Int) : Prop := (l = [] ∧ v = .slice none 0 0) ∨ ∃ g cap, v = .slice (some ⟨g, 0, none⟩) l.length cap ∧ IntBlk w g l
def OutPost (w : World) (l : List Int) (e : Ending) (w' : World) : Prop := ∃ v, e = .returned v ∧ IntsOut w' v l ∧ Only Nob w w'
theorem IntsOut.only {w w' : World} {v : Value} {l : List Int} (h : IntsOut w v l) (ho : Only Nob w w') : IntsOut w' v l := by
  rcases h with h | ⟨g, cap, hv, hi⟩
  · exact .inl h
  · exact .inr ⟨g, cap, hv, hi.only ho (fun h => h)⟩
theorem IntsOut.drew {w : World} {v : Value} {l : List Int} (h : IntsOut w v l) : IntsOut w.drew v l := h

set_option maxHeartbeats 2000000 in
theorem region_any (B : Nat) (w : World) (A : Option Addr) (cap : Nat) (l : List PIns) (hp : ProgIn w B A l) (hB : B ≤ w.heap.size) (hn : l.length ≤ 1000) :
    Calls Try.prog 21 #[.agg #[.slice A l.length cap]] w (OutPost w (regionP l)) := by
  have HP := hide hp
  have KP := hide (Blk.new w 37 #[.slice A l.length cap])
  have HB1 : Hid (B ≤ (w.alloc (.cells #[.slice A l.length cap] 37)).heap.size) := by unfold Hid; simp; omega
  cases hok : okP l
  · have h2 : ((runP l).2 != 0) = true := by unfold okP at hok; simpa using hok
    have HQ : Hid (∀ w', Only Nob w w' → OutPost w (regionP l) (.returned (.slice none 0 0)) w') := fun w' h => ⟨_, rfl, .inl ⟨by simp [regionP, hok], rfl⟩, h⟩
    clear hp hok
    go_enter Try.func21, Try.ntmps21
    go_wp2_with (go_at_call 20; refine (run_any B _ _ cap l (HP.out.alloc hB _) HB1.out hn).mono ?_; rintro e w2 ⟨rfl, ho2⟩)
    go_ret
    exact HQ.out _ (Only.trans (Only.alloc (Only.refl _ _) _) ho2)
  · obtain ⟨_, hf, _, _, hr⟩ := runP_ok hok
    have HF := hide hf
    have h2 : (runP l).2 = 0 := by rw [hr]
    have h1 : (runP l).1 = 0 := by rw [hr]
    have HQ : Hid (∀ g w', IntBlk w' g (regionsP l) → Only Nob w w' → OutPost w (regionP l) (.returned (.slice (some ⟨g, 0, none⟩) l.length l.length)) w') := fun g w' h h3 =>
      ⟨_, rfl, .inr ⟨g, l.length, by simp [regionP, hok, regionsP_len], by simpa [regionP, hok] using h⟩, h3⟩
    clear hp hok hf hr
    go_enter Try.func21, Try.ntmps21
    go_wp2_with (first
      | (go_at_call 20; refine (run_any B _ _ cap l (HP.out.alloc hB _) HB1.out hn).mono ?_; rintro e w2 ⟨rfl, ho2⟩; have k2 := KP.out.only ho2 (fun h => h); have k20 := k2.one; have k2f := k2.frozen)
      | (go_at_call 38; refine (regions_any B _ _ cap l ((HP.out.alloc hB _).keep (below_nob ho2 HB1.out)) (Nat.le_trans HB1.out ho2.size) hn HF.out).mono ?_; rintro e w3 ⟨g, rfl, hg, hib, ho3⟩))
    go_ret
    exact HQ.out _ _ hib (Only.trans (Only.trans (Only.alloc (Only.refl _ _) _) ho2) ho3)

def fillM (n k : Nat) : List Int := List.replicate k (-1) ++ List.replicate (n - k) 0
theorem fillM_zero (n : Nat) : fillM n 0 = List.replicate n 0 := by simp [fillM]
theorem fillM_full (n : Nat) : fillM n n = List.replicate n (-1) := by simp [fillM]
theorem fillM_len {n k : Nat} (h : k ≤ n) : (fillM n k).length = n := by simp [fillM]; omega
theorem fillM_step {n k : Nat} (h : k < n) : (fillM n k).set k (-1) = fillM n (k + 1) := by
  unfold fillM
  rw [List.set_append_right _ _ (by simp)]
  obtain ⟨m, hm⟩ : ∃ m, n - k = m + 1 := ⟨n - k - 1, by omega⟩
  rw [hm, show n - (k + 1) = m by omega]
  rw [List.length_replicate, Nat.sub_self, List.replicate_succ, List.set_cons_zero, List.replicate_succ' (n := k), List.append_assoc]
  rfl
theorem endA_step_yes {l : List PIns} {k : Nat} (h : 0 < endsI (opOf l k)) : endA l (k + 1) = (endA l k).set (regAt l k).toNat k := if_pos h
theorem endA_step_no {l : List PIns} {k : Nat} (h : ¬ 0 < endsI (opOf l k)) : endA l (k + 1) = endA l k := if_neg h
theorem endB_step_yes {l : List PIns} {k : Nat} (h : opOf l k = 16) : endB l (k + 1) = (endB l k).set k ((endB l k).getD (regAt l k).toNat 0) := if_pos h
theorem endB_step_no {l : List PIns} {k : Nat} (h : opOf l k ≠ 16) : endB l (k + 1) = endB l k := if_neg h

set_option maxHeartbeats 4000000 in
theorem match_any (B : Nat) (w : World) (A : Option Addr) (cap : Nat) (l : List PIns) (hp : ProgIn w B A l) (hB : B ≤ w.heap.size) (hn : l.length ≤ 1000) :
    Calls Try.prog 22 #[.agg #[.slice A l.length cap]] w (OutPost w (matchP l)) := by
  have HP := hide hp
  have KP := hide (Blk.new w 37 #[.slice A l.length cap])
  have HB1 : Hid (B ≤ (w.alloc (.cells #[.slice A l.length cap] 37)).heap.size) := by unfold Hid; simp; omega
  cases hok : okP l
  · have h2 : ((runP l).2 != 0) = true := by unfold okP at hok; simpa using hok
    have HQ : Hid (∀ w', Only Nob w w' → OutPost w (matchP l) (.returned (.slice none 0 0)) w') := fun w' h => ⟨_, rfl, .inl ⟨by simp [matchP, hok], rfl⟩, h⟩
    clear hp hok
    go_enter Try.func22, Try.ntmps22
    go_wp2_with (go_at_call 20; refine (run_any B _ _ cap l (HP.out.alloc hB _) HB1.out hn).mono ?_; rintro e w2 ⟨rfl, ho2⟩)
    go_ret
    exact HQ.out _ (Only.trans (Only.alloc (Only.refl _ _) _) ho2)
  · obtain ⟨_, hf, _, _, hr⟩ := runP_ok hok
    have HF := hide hf
    have h2 : (runP l).2 = 0 := by rw [hr]
    have h1 : (runP l).1 = 0 := by rw [hr]
    have HQ : Hid (∀ g w', IntBlk w' g (endB l l.length) → Only Nob w w' → OutPost w (matchP l) (.returned (.slice (some ⟨g, 0, none⟩) l.length l.length)) w') := fun g w' h h3 =>
      ⟨_, rfl, .inr ⟨g, l.length, by simp [matchP, hok, endB_len], by simpa [matchP, hok] using h⟩, h3⟩
    have hmk := fun w => run_make_row' (P := Try.prog) 41 3 (.int .i64 0) 8 Try.underlying41 infoInt rfl .i64 .i64 l.length (by omega) (by omega) w
    clear hp hok hf hr
    go_enter Try.func22, Try.ntmps22
    go_wp2_with (first
      | (go_at_call 20; refine (run_any B _ _ cap l (HP.out.alloc hB _) HB1.out hn).mono ?_; rintro e w2 ⟨rfl, ho2⟩; have k2 := KP.out.only ho2 (fun h => h); have k20 := k2.one; have k2f := k2.frozen)
      | (go_at_call 38; refine (regions_any B _ _ cap l ((HP.out.alloc hB _).keep (below_nob ho2 HB1.out)) (Nat.le_trans HB1.out ho2.size) hn HF.out).mono ?_; rintro e w3 ⟨g, rfl, hg, hib, ho3⟩; have k3 := k2.only ho3 (fun h => h); have k30 := k3.one; have k3f := k3.frozen; have hk3 := k3.lt))
    have H3 : Hid (Only Nob w w3) := Only.trans (Only.trans (Only.alloc (Only.refl _ _) _) ho2) ho3
    have HP3 : Hid (ProgIn w3 B A l) := HP.out.keep (below_nob H3.out hB)
    have hgl := hib.lt
    have HG := hide hib
    have HE0 := hide (IntBlk.made w3 l.length)
    have hBk : B ≤ w.heap.size := hB
    have K3 := hide k3
    have HB0 : Hid (Below w3.heap.size w3 (w3.alloc (.cells (madeCells #[.int .i64 0] l.length) 3))) := Below.alloc (Below.refl _ _) (Nat.le_refl _) _
    clear ho2 ho3 k2 k20 k2f k3 hib hg HP KP HB1 k30 k3f
    generalize hE : w3.heap.size = E at *
    have HE := hide hE
    clear hE
    go_loopw [27] (fun c wr => ∃ k : Nat, k ≤ l.length ∧ c = .int .i64 k ∧ IntBlk wr E (fillM l.length k) ∧ Below E w3 wr) (fun c _ => l.length - (intOf c).toNat)
    case atStart => exact ⟨0, by omega, rfl, by rw [fillM_zero]; exact HE0.out, HB0.out⟩
    case round =>
      obtain ⟨k, hk, rfl, hib, hbel⟩ := hrel
      have HI := hide hib
      have HB := hide hbel
      have hEl := hib.lt
      by_cases hlt : k < l.length
      · have hc := hib.cellD 0 (k := k) (by rw [fillM_len hk]; exact hlt)
        have hcf := hib.frozen k
        have hkI : (k : Int) < (l.length : Int) := by omega
        generalize (fillM l.length k).getD k 0 = old at *
        clear hib hbel
        go_wp2
        go_roundw
        case rel => exact ⟨k + 1, by omega, by go_num, by rw [← fillM_step hlt]; exact HI.out.set_ k _, HB.out.setCell (p := ⟨E, k, none⟩) (show E ≤ E from Nat.le_refl _) _⟩
        case measure => simp [intOf]; omega
      · obtain rfl : k = l.length := by omega
        have hp0 := ((K3.out.below hbel hk3)).one
        have hpf := ((K3.out.below hbel hk3)).frozen
        have HA0 : Hid (IntBlk wr E (endA l 0)) := by
          have := HI.out
          rw [fillM_full] at this
          exact this
        clear hib hbel HI
        go_wp2
        go_loopw [37] (fun c wq => ∃ k : Nat, k ≤ l.length ∧ c = .int .i64 k ∧ IntBlk wq E (endA l k) ∧ Below E w3 wq) (fun c _ => l.length - (intOf c).toNat)
        case atStart => exact ⟨0, by omega, rfl, HA0.out, HB.out⟩
        case round =>
          clear hp0 hpf HA0 HB
          obtain ⟨k, hk, rfl, hib, hbel⟩ := hrel
          have HI := hide hib
          have HB := hide hbel
          have hEl := hib.lt
          have hp0 := ((K3.out.below hbel hk3)).one
          have hpf := ((K3.out.below hbel hk3)).frozen
          by_cases hlt : k < l.length
          · have hpr : ProgIn wr B A l := HP3.out.keep (hbel.mono (by omega))
            obtain ⟨b, o, hA, hlb, hi⟩ := hpr.at_ hlt
            subst hA
            have hGi := (HG.out.below hbel hgl).cell (regionsP_at hlt)
            have hop : (l.getD k PIns.none).op = opOf l k := rfl
            generalize l.getD k PIns.none = x at *
            obtain ⟨i0, i1, i2, i3, i4⟩ := hi
            have hblt : b < wr.heap.size := by omega
            have hkI : (k : Int) < (l.length : Int) := by omega
            have hglt : g < wr.heap.size := by omega
            have hwl : w.heap.size < wr.heap.size := by omega
            have hEw : E ≤ wr.heap.size := Nat.le_of_lt hEl
            rw [hop] at i0
            by_cases he : 0 < endsI (opOf l k)
            · obtain ⟨hr0, hrk⟩ := reg_ok (HF.out k hlt) (Or.inl he)
              have hes := hide (endA_step_yes (l := l) (k := k) he)
              obtain ⟨t, ht⟩ := Int.eq_ofNat_of_zero_le hr0
              have HT := hide ht
              rw [ht] at hGi hrk
              have htl : t < l.length := by omega
              have htI : (t : Int) < (l.length : Int) := by omega
              have hc := hib.cellD 0 (k := t) (by rw [endA_len]; exact htl)
              have hcf := hib.frozen t
              have d : decide (0 < endsI (opOf l k)) = true := by simpa using he
              generalize (endA l k).getD t 0 = old at *
              clear hib hbel hpr ht hop he hr0
              generalize opOf l k = op at *
              go_wp2_with (go_at_call 39; refine (ends_any _ _).mono ?_; rintro e w1 ⟨rfl, rfl⟩)
              go_roundw
              case rel =>
                refine ⟨k + 1, by omega, by go_num, ?_, ?_⟩
                · rw [hes.out, HT.out]
                  exact ((HI.out.set_ t _).alloc _)
                · exact (HB.out.setCell (p := ⟨E, t, none⟩) (show E ≤ E from Nat.le_refl _) _).alloc (by simp [World.setCell]; omega) _
              case measure => simp [intOf]; omega
            · have hes := hide (endA_step_no (l := l) (k := k) he)
              have d : decide (0 < endsI (opOf l k)) = false := by simpa using he
              clear hib hbel hpr hop he
              generalize opOf l k = op at *
              go_wp2_with (go_at_call 39; refine (ends_any _ _).mono ?_; rintro e w1 ⟨rfl, rfl⟩)
              go_roundw
              case rel => exact ⟨k + 1, by omega, by go_num, by rw [hes.out]; exact HI.out.alloc _, HB.out.alloc hEw _⟩
              case measure => simp [intOf]; omega
          · obtain rfl : k = l.length := by omega
            have HA0 : Hid (IntBlk wr E (endB l 0)) := HI.out
            clear hib hbel HI
            go_wp2
            go_loopw [57] (fun c wq => ∃ k : Nat, k ≤ l.length ∧ c = .int .i64 k ∧ IntBlk wq E (endB l k) ∧ Below E w3 wq) (fun c _ => l.length - (intOf c).toNat)
            case atStart => exact ⟨0, by omega, rfl, HA0.out, HB.out⟩
            case round =>
              clear hp0 hpf HA0 HB
              obtain ⟨k, hk, rfl, hib, hbel⟩ := hrel
              have HI := hide hib
              have HB := hide hbel
              have hEl := hib.lt
              have hp0 := ((K3.out.below hbel hk3)).one
              have hpf := ((K3.out.below hbel hk3)).frozen
              by_cases hlt : k < l.length
              · have hpr : ProgIn wr B A l := HP3.out.keep (hbel.mono (by omega))
                obtain ⟨b, o, hA, hlb, hi⟩ := hpr.at_ hlt
                subst hA
                have hGi := (HG.out.below hbel hgl).cell (regionsP_at hlt)
                have hop : (l.getD k PIns.none).op = opOf l k := rfl
                generalize l.getD k PIns.none = x at *
                obtain ⟨i0, i1, i2, i3, i4⟩ := hi
                have hblt : b < wr.heap.size := by omega
                have hkI : (k : Int) < (l.length : Int) := by omega
                have hglt : g < wr.heap.size := by omega
                have hwl : w.heap.size < wr.heap.size := by omega
                have hEw : E ≤ wr.heap.size := Nat.le_of_lt hEl
                rw [hop] at i0
                by_cases he : opOf l k = 16
                · obtain ⟨hr0, hrk⟩ := reg_ok (HF.out k hlt) (Or.inr he)
                  have hes := hide (endB_step_yes (l := l) (k := k) he)
                  obtain ⟨t, ht⟩ := Int.eq_ofNat_of_zero_le hr0
                  have HT := hide ht
                  rw [ht] at hGi hrk
                  have htl : t < l.length := by omega
                  have htI : (t : Int) < (l.length : Int) := by omega
                  have hc := hib.cellD 0 (k := t) (by rw [endB_len]; exact htl)
                  have hc2 := hib.cellD 0 (k := k) (by rw [endB_len]; exact hlt)
                  have hcf := hib.frozen t
                  have hcf2 := hib.frozen k
                  have d : (opOf l k == 16) = true := by simpa using he
                  generalize hold : (endB l k).getD t 0 = old at *
                  have HO := hide hold
                  generalize (endB l k).getD k 0 = old2 at *
                  clear hib hbel hpr ht hop he hr0 hold
                  generalize opOf l k = op at *
                  go_wp2
                  go_roundw
                  case rel =>
                    refine ⟨k + 1, by omega, by go_num, ?_, ?_⟩
                    · rw [hes.out, HT.out, Int.toNat_natCast, HO.out]
                      exact ((HI.out.set_ k _).alloc _)
                    · exact (HB.out.setCell (p := ⟨E, k, none⟩) (show E ≤ E from Nat.le_refl _) _).alloc (by simp [World.setCell]; omega) _
                  case measure => simp [intOf]; omega
                · have hes := hide (endB_step_no (l := l) (k := k) he)
                  have d : (opOf l k == 16) = false := by simpa using he
                  clear hib hbel hpr hop he
                  generalize opOf l k = op at *
                  go_wp2
                  go_roundw
                  case rel => exact ⟨k + 1, by omega, by go_num, by rw [hes.out]; exact HI.out.alloc _, HB.out.alloc hEw _⟩
                  case measure => simp [intOf]; omega
              · obtain rfl : k = l.length := by omega
                have HN : Hid (Only Nob w wr) := Only.trans H3.out (Only.of_below HB.out (fun k h1 h2 => by have := HE.out; omega))
                clear hib hbel
                go_wp2
                go_ret
                exact HQ.out _ _ HI.out HN.out
end Go.Proofs.Ytpdjhkidalafpaa

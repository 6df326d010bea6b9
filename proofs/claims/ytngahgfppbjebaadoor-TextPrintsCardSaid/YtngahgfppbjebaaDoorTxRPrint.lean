/-
  The contract of the reference's Print.
-/
import Derived.Test.YtngahgfppbjebaaDoorTxRPrintD
namespace Go.Proofs.YtngahgfppbjebaaDoor
open Go.RowKit Go.Lib
set_option linter.unusedVariables false
set_option linter.unusedSimpArgs false

set_option maxRecDepth 100000 in
set_option maxHeartbeats 8000000 in
theorem rprint_any (B : Nat) (l : List PIns) (A : Option Addr) (cap : Nat) (w : World) (hp : ProgIn w B A l) (hB : B ≤ w.heap.size) (hn : l.length ≤ 1000) (hN : ∀ x ∈ l, 0 ≤ x.n ∧ x.n < 18446744073709551616) (htab : TabAt w) : Calls Tryd.prog 38 #[.agg #[.slice A l.length cap]] w fun e w' => e = .returned (.string ⟨(printP l).toArray⟩) ∧ Only Nob w w' := by
  have HP := hide hp
  have HN := hide hN
  have HT := hide htab
  have hmk1 := fun w => run_make_row' (P := Tryd.prog) 129 4 (.bool false) 1 Tryd.underlying129 infoBool rfl .i64 .i64 (l.length + 1) (by omega) (by omega) w
  simp only [Int.natCast_add, Int.cast_ofNat_Int] at hmk1
  clear hp hN htab
  by_cases h40 : 40 < l.length
  · have HE : Hid (printP l = []) := hide (by unfold printP; rw [if_pos h40])
    have h40I : (40 : Int) < (l.length : Int) := by omega
    clear hmk1
    go_enter Tryd.func38, Tryd.ntmps38
    go_wp2
    go_ret
    exact ⟨by rw [HE.out]; rfl, (Only.refl _ w).alloc _⟩
  · have h40I : ¬ (40 : Int) < (l.length : Int) := by omega
    have hl40 : l.length ≤ 40 := by omega
    go_enter Tryd.func38, Tryd.ntmps38
    go_wp2
    go_loopw [4] (fun c wr => ∃ k : Nat, k ≤ l.length ∧ c = .int .i64 k ∧ RM w wr l A cap k) (fun c _ => l.length - (RowKit.intOf c).toNat)
    case atStart => exact ⟨0, by omega, rfl, RM.start w l A cap⟩
    case round =>
      clear hmk1
      obtain ⟨k, hk, rfl, hM⟩ := hrel
      have HM := hide hM
      have g0 := hM.box.cell 0
      have gl := hM.box.lt
      have gf := hM.box.frozen 0
      have ml := hM.marks.lt
      simp at g0
      clear hM
      by_cases hlt : k < l.length
      · have hkI : (k : Int) < (l.length : Int) := by omega
        obtain ⟨b, o, rfl, hlb, hi⟩ := HP.out.at_ hlt
        obtain ⟨j0, j1, j2, j3, j4⟩ := hi
        have hbw : b < w.heap.size := by omega
        have i0 := (HM.out.only.cell (p := ⟨b, o + k * 5, none⟩) hbw (fun h => h)).trans j0
        have i1 := (HM.out.only.cell (p := ⟨b, o + k * 5 + 1, none⟩) hbw (fun h => h)).trans j1
        have i2 := (HM.out.only.cell (p := ⟨b, o + k * 5 + 2, none⟩) hbw (fun h => h)).trans j2
        have i3 := (HM.out.only.cell (p := ⟨b, o + k * 5 + 3, none⟩) hbw (fun h => h)).trans j3
        have i4 := (HM.out.only.cell (p := ⟨b, o + k * 5 + 4, none⟩) hbw (fun h => h)).trans j4
        clear j0 j1 j2 j3 j4
        have hblt : b < wr.heap.size := by omega
        have HILL : Hid (illP l.length (l.getD k PIns.none) = true → printP l = []) := hide (ill_out hlt)
        have HMN : Hid (jumpsB (l.getD k PIns.none).op = false → marksR l (k + 1) = marksR l k) := hide (marksR_no hlt)
        have HMY : Hid (∀ c : Nat, jumpsB (l.getD k PIns.none).op = true → (l.getD k PIns.none).c = (c : Int) → c ≤ l.length → marksR l (k + 1) = (marksR l k).set! c (.bool true)) := hide (fun c => marksR_yes hlt)
        have HTK := hide (take_next hlt)
        unfold illP mayP at HILL
        generalize hx : l.getD k PIns.none = x at *
        obtain ⟨op, xa, xb, xc, xn⟩ := x
        simp only at *
        cases hmay : mayB op xa xb xc xn with
        | false =>
          have HE : Hid (printP l = []) := hide (HILL.out (by rw [hmay]; rfl))
          go_wp2_with (first
            | (go_at_call 66; refine (rmay_may_any _ _ _ _ _ _).mono ?_; rintro e w1 ⟨rfl, ho⟩; rw [hmay]; have HO := hide ho; clear ho))
          go_ret
          exact ⟨by rw [HE.out]; rfl, (HM.out.only.alloc _).trans HO.out⟩
        | true =>
          obtain ⟨hc0, hc40⟩ := may_c40 hmay
          obtain ⟨xc, rfl⟩ := Int.eq_ofNat_of_zero_le hc0
          cases hj : jumpsB op with
          | false =>
            have hop : ¬ (op = 12 ∨ op = 13) := by simpa [jumpsB] using hj
            have hop1 : (op == 12) = false := by rw [beq_eq_false_iff_ne]; omega
            have hop2 : (op == 13) = false := by rw [beq_eq_false_iff_ne]; omega
            have HI : Hid (illP l.length ⟨op, xa, xb, xc, xn⟩ = false) := hide (by unfold illP mayP; simp only; rw [hmay, hj]; rfl)
            have HM2 := hide (HMN.out hj)
            clear hop
            go_wp2_with (first
              | (go_at_call 66; refine (rmay_may_any _ _ _ _ _ _).mono ?_; rintro e w1 ⟨rfl, ho⟩; rw [hmay]; have hk5 := (Blk.new wr 60 #[.int .i64 op, .int .i64 xa, .int .i64 xb, .int .i64 (xc : Int), .int .u64 xn]).only ho (fun h => h); have hmk := (HM.out.marks.alloc (.cells #[.int .i64 op, .int .i64 xa, .int .i64 xb, .int .i64 (xc : Int), .int .u64 xn] 60)).only ho (fun h => h); have d0 := hk5.cell 0; simp at d0; have HMK := hide hmk; have HO := hide ho; clear ho hk5 hmk))
            refine ⟨⟨k + 1, by omega, by simp, HM.out.next (by rw [HM2.out]; exact HMK.out) ((((Only.refl _ wr).alloc _).trans HO.out).mono (fun _ _ h => h.elim)) HTK.out HI.out⟩, ?_⟩
            show l.length - ((k : Int) + 1).toNat < l.length - ((k : Int)).toNat
            omega
          | true =>
            have hop : op = 12 ∨ op = 13 := by simpa [jumpsB] using hj
            by_cases hcl : l.length < xc
            · have HE : Hid (printP l = []) := hide (HILL.out (by rw [hmay, hj]; simp; omega))
              have hclI : (l.length : Int) < (xc : Int) := by omega
              rcases hop with rfl | rfl
              all_goals
                go_wp2_with (first
                  | (go_at_call 66; refine (rmay_may_any _ _ _ _ _ _).mono ?_; rintro e w1 ⟨rfl, ho⟩; rw [hmay]; have hk5 := (Blk.new wr 60 #[.int .i64 _, .int .i64 xa, .int .i64 xb, .int .i64 (xc : Int), .int .u64 xn]).only ho (fun h => h); have hbx := (HM.out.box.alloc (.cells #[.int .i64 _, .int .i64 xa, .int .i64 xb, .int .i64 (xc : Int), .int .u64 xn] 60)).only ho (fun h => h); have d0 := hk5.cell 0; have d3 := hk5.cell 3; have d5 := hbx.cell 0; simp at d0 d3 d5; have HO := hide ho; clear ho hk5 hbx))
                go_ret
                exact ⟨by rw [HE.out]; rfl, (HM.out.only.alloc _).trans HO.out⟩
            · have hclI : ¬ (l.length : Int) < (xc : Int) := by omega
              have hc1 : xc < l.length + 1 := by omega
              have hc1I : (xc : Int) < (l.length : Int) + 1 := by omega
              have HI : Hid (illP l.length ⟨op, xa, xb, xc, xn⟩ = false) := hide (by unfold illP mayP; simp only; rw [hmay, hj]; simp; omega)
              have HM2 := hide (HMY.out xc hj rfl (by omega))
              rcases hop with rfl | rfl
              all_goals
                go_wp2_with (first
                  | (go_at_call 66; refine (rmay_may_any _ _ _ _ _ _).mono ?_; rintro e w1 ⟨rfl, ho⟩; rw [hmay]; have hk5 := (Blk.new wr 60 #[.int .i64 _, .int .i64 xa, .int .i64 xb, .int .i64 (xc : Int), .int .u64 xn]).only ho (fun h => h); have hbx := (HM.out.box.alloc (.cells #[.int .i64 _, .int .i64 xa, .int .i64 xb, .int .i64 (xc : Int), .int .u64 xn] 60)).only ho (fun h => h); have hmk := (HM.out.marks.alloc (.cells #[.int .i64 _, .int .i64 xa, .int .i64 xb, .int .i64 (xc : Int), .int .u64 xn] 60)).only ho (fun h => h); have d0 := hk5.cell 0; have d3 := hk5.cell 3; have d5 := hbx.cell 0; simp at d0 d3 d5; have ml1 := hmk.lt; have mz := hmk.frozen xc; have mc := (hmk.cell xc).trans (marksR_at l k hc1); have HMK := hide hmk; have HO := hide ho; clear ho hk5 hbx hmk))
                refine ⟨⟨k + 1, by omega, by simp, HM.out.next (by rw [HM2.out]; exact HMK.out.set_ xc _) (Only.setCell (S := fun i => i = w.heap.size + 1) ((((Only.refl _ wr).alloc _).trans HO.out).mono (fun _ _ h => h.elim)) (.inl rfl) _) HTK.out HI.out⟩, ?_⟩
                show l.length - ((k : Int) + 1).toNat < l.length - ((k : Int)).toNat
                omega
      · have hkI : ¬ (k : Int) < (l.length : Int) := by omega
        have hkl : k = l.length := by omega
        subst hkl
        have HQ0 := hide (RQ.start HM.out h40)
        go_wp2_with fail
        go_loopw [6, 7] (fun s c wq => ∃ (k : Nat) (sb : ByteArray), s = .string sb ∧ c = .int .i64 k ∧ k ≤ l.length ∧ RQ w wq l A cap k sb) (fun _ c _ => l.length - (RowKit.intOf c).toNat)
        case atStart => exact ⟨0, _, rfl, rfl, by omega, HQ0.out⟩
        case round =>
          obtain ⟨k, sb, rfl, rfl, hk2, hQ⟩ := hrel
          have HQ := hide hQ
          have g1 := hQ.rm.box.cell 0
          have gl1 := hQ.rm.box.lt
          have ml1 := hQ.rm.marks.lt
          have hsb : sb.size ≤ 8000 := by have := hQ.short; omega
          simp at g1
          by_cases hlt2 : k < l.length
          · have hkI2 : (k : Int) < (l.length : Int) := by omega
            have hkI3 : (k : Int) < (l.length : Int) + 1 := by omega
            have mk1 := (hQ.rm.marks.cell k).trans (marksR_at l l.length (by omega))
            rw [List.take_length] at mk1
            have hmem : l.getD k PIns.none ∈ l := by
              rw [List.getD_eq_getElem?_getD, List.getElem?_eq_getElem hlt2]
              exact List.getElem_mem _
            have hill := hQ.rm.well (l.getD k PIns.none) (by rw [List.take_length]; exact hmem)
            have HMAY := hide (ill_may hill).1
            have HNX := hide (HN.out _ hmem)
            have hll : (lineL (l.getD k PIns.none)).length ≤ 100 := by
              have h1 := (ins_bytes _ (ill_may hill).1 (HN.out _ hmem)).2.1
              rw [ins_line, List.length_append] at h1
              omega
            obtain ⟨b, o, rfl, hlb, hi⟩ := HP.out.at_ hlt2
            obtain ⟨j0, j1, j2, j3, j4⟩ := hi
            have hbw : b < w.heap.size := by omega
            have i0 := (HQ.out.rm.only.cell (p := ⟨b, o + k * 5, none⟩) hbw (fun h => h)).trans j0
            have i1 := (HQ.out.rm.only.cell (p := ⟨b, o + k * 5 + 1, none⟩) hbw (fun h => h)).trans j1
            have i2 := (HQ.out.rm.only.cell (p := ⟨b, o + k * 5 + 2, none⟩) hbw (fun h => h)).trans j2
            have i3 := (HQ.out.rm.only.cell (p := ⟨b, o + k * 5 + 3, none⟩) hbw (fun h => h)).trans j3
            have i4 := (HQ.out.rm.only.cell (p := ⟨b, o + k * 5 + 4, none⟩) hbw (fun h => h)).trans j4
            have HLT := hide hlt2
            have hdl := dec_len k (by omega)
            have HDK := hide (fun W => decimal_any k (by omega) W)
            have HLN := hide (fun W (h : Only Nob w W) => line_any _ HMAY.out HNX.out W (HT.out.only h))
            clear j0 j1 j2 j3 j4 hQ hill hmem
            have hblt : b < wr.heap.size := by omega
            obtain ⟨x, hx⟩ : ∃ x, l.getD k PIns.none = x := ⟨_, rfl⟩
            have HX : Hid (l.getD k PIns.none = x) := hide hx
            rw [hx] at HMAY HNX HLN i0 i1 i2 i3 i4 hll
            clear hx
            obtain ⟨op, xa, xb, xc, xn⟩ := x
            simp only at i0 i1 i2 i3 i4 HNX HLN
            have hlz : (⟨(lineL ⟨op, xa, xb, xc, xn⟩).toArray⟩ : ByteArray).size ≤ 100 := by simpa [ByteArray.size] using hll
            cases hmk : marked l k with
            | true =>
              rw [hmk] at mk1
              go_wp2_with (first
                | (go_at_call 27; refine (HDK.out _).mono ?_; rintro e w2 ⟨rfl, ho2⟩; have hq := HQ.out.rm.nob ho2; have g2 := hq.box.cell 0; have gl2 := hq.box.lt; have i0 := (ho2.cell (p := ⟨b, o + k * 5, none⟩) hblt (fun h => h)).trans i0; have i1 := (ho2.cell (p := ⟨b, o + k * 5 + 1, none⟩) hblt (fun h => h)).trans i1; have i2 := (ho2.cell (p := ⟨b, o + k * 5 + 2, none⟩) hblt (fun h => h)).trans i2; have i3 := (ho2.cell (p := ⟨b, o + k * 5 + 3, none⟩) hblt (fun h => h)).trans i3; have i4 := (ho2.cell (p := ⟨b, o + k * 5 + 4, none⟩) hblt (fun h => h)).trans i4; have hblt2 := Nat.lt_of_lt_of_le hblt ho2.size; simp at g2; have HO2 := hide ho2; clear ho2 hq)
                | (go_at_call 67; refine (HLN.out _ (HQ.out.rm.only.trans HO2.out)).mono ?_; rintro e w3 ⟨rfl, ho3⟩; have HO3 := hide (HO2.out.trans ho3); clear ho3))
              refine ⟨⟨k + 1, _, rfl, by simp, by omega, HQ.out.next HO3.out HLT.out HX.out HMAY.out HNX.out hl40 ?_⟩, ?_⟩
              · rw [label_is hmk]
                simp
              · show l.length - ((k : Int) + 1).toNat < l.length - ((k : Int)).toNat
                omega
            | false =>
              rw [hmk] at mk1
              go_wp2_with (first
                | (go_at_call 67; refine (HLN.out _ HQ.out.rm.only).mono ?_; rintro e w3 ⟨rfl, ho3⟩; have HO3 := hide ho3; clear ho3))
              refine ⟨⟨k + 1, _, rfl, by simp, by omega, HQ.out.next HO3.out HLT.out HX.out HMAY.out HNX.out hl40 ?_⟩, ?_⟩
              · rw [label_no hmk]
                simp
              · show l.length - ((k : Int) + 1).toNat < l.length - ((k : Int)).toNat
                omega
          · have hkl2 : k = l.length := by omega
            subst hkl2
            have hkI2 : ¬ (l.length : Int) < (l.length : Int) := by omega
            have mk1 := (hQ.rm.marks.cell l.length).trans (marksR_at l l.length (by omega))
            rw [List.take_length] at mk1
            clear hQ
            cases hmk : marked l l.length with
            | false =>
              rw [hmk] at mk1
              have HE : Hid (printP l = sb.data.toList) := hide (by
                have := HQ.out.eq
                rw [List.drop_length, linesOfP, labelP, hmk] at this
                simpa using this)
              go_wp2_with fail
              go_ret
              exact ⟨by rw [HE.out]; rfl, HQ.out.rm.only⟩
            | true =>
              rw [hmk] at mk1
              have hdl := dec_len l.length (by omega)
              have HE : Hid (printP l = (sb ++ ⟨#[108]⟩ ++ ⟨(decDigits l.length).toArray⟩ ++ ⟨#[58, 10]⟩).data.toList) := hide (by
                have := HQ.out.eq
                rw [List.drop_length, linesOfP, labelP, hmk] at this
                rw [this]
                simp)
              have HI := hide (fun W => decimal_any l.length (by omega) W)
              go_wp2_with (first
                | (go_at_call 27; refine (HI.out _).mono ?_; rintro e w2 ⟨rfl, ho2⟩; have HO2 := hide ho2; clear ho2))
              go_ret
              exact ⟨by rw [HE.out]; rfl, HQ.out.rm.only.trans HO2.out⟩
end Go.Proofs.YtngahgfppbjebaaDoor

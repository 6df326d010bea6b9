/-
  The contract of Print.
  The law TextRuns, walked.
-/
import Derived.Test.YtngahgfppbjebaaDoorGrpTxPrintE
import Derived.Deep.CutRange
import Derived.Test.YtngahgfppbjebaaDoorGrpTxParse
namespace Go.Proofs.YtngahgfppbjebaaDoor
open Go.RowKit Go.Lib
set_option linter.unusedVariables false
set_option linter.unusedSimpArgs false

set_option maxRecDepth 100000 in
set_option maxHeartbeats 8000000 in
theorem print_any (B : Nat) (l : List PIns) (A : Option Addr) (cap : Nat) (w : World) (hp : ProgIn w B A l) (hB : B ≤ w.heap.size) (hn : l.length ≤ 1000) (hN : ∀ x ∈ l, 0 ≤ x.n ∧ x.n < 18446744073709551616) (htab : Pow10 w) : Calls Tryd.prog 34 #[.agg #[.slice A l.length cap]] w fun e w' => e = .returned (.string ⟨(printP l).toArray⟩) ∧ Only Nob w w' := by
  have HP := hide hp
  have HN := hide hN
  have HT := hide htab
  clear hp hN htab
  by_cases h40 : 40 < l.length
  · have HE : Hid (printP l = []) := hide (by unfold printP; rw [if_pos h40])
    have h40I : (40 : Int) < (l.length : Int) := by omega
    go_enter Tryd.func34, Tryd.ntmps34
    go_wp2
    go_ret
    exact ⟨by rw [HE.out]; rfl, (Only.refl _ w).alloc _⟩
  · have h40I : ¬ (40 : Int) < (l.length : Int) := by omega
    have hl40 : l.length ≤ 40 := by omega
    go_enter Tryd.func34, Tryd.ntmps34
    go_wp2
    go_loopw [18] (fun c wr => ∃ k : Nat, k ≤ l.length ∧ c = .int .i64 k ∧ PM w wr l A cap k) (fun c _ => l.length - (RowKit.intOf c).toNat)
    case atStart => exact ⟨0, by omega, rfl, PM.start w l A cap⟩
    case round =>
      obtain ⟨k, hk, rfl, hM⟩ := hrel
      have HM := hide hM
      have g0 := hM.box.cell 0
      have gl := hM.box.lt
      have gf := hM.box.frozen 0
      have ml := hM.marks.lt
      simp at g0
      clear hM
      by_cases hlt : k < l.length
      · have hkI : (k : Int) < (l.length : Int) := by omega
        obtain ⟨b, o, rfl, hlb, hi⟩ := HP.out.at_ hlt
        obtain ⟨j0, j1, j2, j3, j4⟩ := hi
        have hbw : b < w.heap.size := by omega
        have i0 := (HM.out.only.cell (p := ⟨b, o + k * 5, none⟩) hbw (fun h => h)).trans j0
        have i1 := (HM.out.only.cell (p := ⟨b, o + k * 5 + 1, none⟩) hbw (fun h => h)).trans j1
        have i2 := (HM.out.only.cell (p := ⟨b, o + k * 5 + 2, none⟩) hbw (fun h => h)).trans j2
        have i3 := (HM.out.only.cell (p := ⟨b, o + k * 5 + 3, none⟩) hbw (fun h => h)).trans j3
        have i4 := (HM.out.only.cell (p := ⟨b, o + k * 5 + 4, none⟩) hbw (fun h => h)).trans j4
        clear j0 j1 j2 j3 j4
        have hblt : b < wr.heap.size := by omega
        have HILL : Hid (illP l.length (l.getD k PIns.none) = true → printP l = []) := hide (ill_out hlt)
        have HMN : Hid (jumpsB (l.getD k PIns.none).op = false → marksV l (k + 1) = marksV l k) := hide (marks_no hlt)
        have HMY : Hid (∀ c : Nat, jumpsB (l.getD k PIns.none).op = true → (l.getD k PIns.none).c = (c : Int) → c ≤ 40 → marksV l (k + 1) = (marksV l k).set! c (.bool true)) := hide (fun c => marks_yes hlt)
        have HTK := hide (take_next hlt)
        unfold illP mayP at HILL
        generalize hx : l.getD k PIns.none = x at *
        obtain ⟨op, xa, xb, xc, xn⟩ := x
        simp only at *
        cases hmay : mayB op xa xb xc xn with
        | false =>
          have HE : Hid (printP l = []) := hide (HILL.out (by rw [hmay]; rfl))
          go_wp2_with (first
            | (go_at_call 53; refine (may_any _ _ _ _ _ _).mono ?_; rintro e w1 ⟨rfl, ho⟩; rw [hmay]; have HO := hide ho; clear ho))
          go_ret
          exact ⟨by rw [HE.out]; rfl, (HM.out.only.alloc _).trans HO.out⟩
        | true =>
          obtain ⟨hc0, hc40⟩ := may_c40 hmay
          obtain ⟨xc, rfl⟩ := Int.eq_ofNat_of_zero_le hc0
          have hc41 : xc < 41 := by omega
          have hc41I : (xc : Int) < 41 := by omega
          cases hj : jumpsB op with
          | false =>
            have HI : Hid (illP l.length ⟨op, xa, xb, xc, xn⟩ = false) := hide (by unfold illP mayP; simp only; rw [hmay, hj]; rfl)
            have HM2 := hide (HMN.out hj)
            go_wp2_with (first
              | (go_at_call 53; refine (may_any _ _ _ _ _ _).mono ?_; rintro e w1 ⟨rfl, ho⟩; rw [hmay]; have hk5 := (Blk.new wr 60 #[.int .i64 op, .int .i64 xa, .int .i64 xb, .int .i64 (xc : Int), .int .u64 xn]).only ho (fun h => h); have hbx := (HM.out.box.alloc (.cells #[.int .i64 op, .int .i64 xa, .int .i64 xb, .int .i64 (xc : Int), .int .u64 xn] 60)).only ho (fun h => h); have hmk := (HM.out.marks.alloc (.cells #[.int .i64 op, .int .i64 xa, .int .i64 xb, .int .i64 (xc : Int), .int .u64 xn] 60)).only ho (fun h => h); have d0 := hk5.cell 0; have d3 := hk5.cell 3; have d5 := hbx.cell 0; simp at d0 d3 d5; have ml1 := hmk.lt; have mz := hmk.frozen xc; have mc := (hmk.cell xc).trans (marks_at l k hc41); have HMK := hide hmk; have HO := hide ho; clear ho hk5 hbx hmk)
              | (go_at_call 54; refine (jumps_any _ _).mono ?_; rintro e w2 ⟨rfl, hw2⟩; replace hw2 := hw2.symm; subst hw2; rw [hj]))
            go_roundw
            case rel => exact ⟨k + 1, by omega, by simp, HM.out.next (by rw [HM2.out]; exact HMK.out) ((((Only.refl _ wr).alloc _).trans HO.out).mono (fun _ _ h => h.elim)) HTK.out HI.out⟩
            case measure =>
              show l.length - ((k : Int) + 1).toNat < l.length - ((k : Int)).toNat
              omega
          | true =>
            by_cases hcl : l.length < xc
            · have HE : Hid (printP l = []) := hide (HILL.out (by rw [hmay, hj]; simp; omega))
              have hclI : (l.length : Int) < (xc : Int) := by omega
              go_wp2_with (first
                | (go_at_call 53; refine (may_any _ _ _ _ _ _).mono ?_; rintro e w1 ⟨rfl, ho⟩; rw [hmay]; have hk5 := (Blk.new wr 60 #[.int .i64 op, .int .i64 xa, .int .i64 xb, .int .i64 (xc : Int), .int .u64 xn]).only ho (fun h => h); have hbx := (HM.out.box.alloc (.cells #[.int .i64 op, .int .i64 xa, .int .i64 xb, .int .i64 (xc : Int), .int .u64 xn] 60)).only ho (fun h => h); have hmk := (HM.out.marks.alloc (.cells #[.int .i64 op, .int .i64 xa, .int .i64 xb, .int .i64 (xc : Int), .int .u64 xn] 60)).only ho (fun h => h); have d0 := hk5.cell 0; have d3 := hk5.cell 3; have d5 := hbx.cell 0; simp at d0 d3 d5; have ml1 := hmk.lt; have mz := hmk.frozen xc; have mc := (hmk.cell xc).trans (marks_at l k hc41); have HMK := hide hmk; have HO := hide ho; clear ho hk5 hbx hmk)
                | (go_at_call 54; refine (jumps_any _ _).mono ?_; rintro e w2 ⟨rfl, hw2⟩; replace hw2 := hw2.symm; subst hw2; rw [hj]))
              go_ret
              exact ⟨by rw [HE.out]; rfl, (HM.out.only.alloc _).trans HO.out⟩
            · have hclI : ¬ (l.length : Int) < (xc : Int) := by omega
              have HI : Hid (illP l.length ⟨op, xa, xb, xc, xn⟩ = false) := hide (by unfold illP mayP; simp only; rw [hmay, hj]; simp; omega)
              have HM2 := hide (HMY.out xc hj rfl (by omega))
              go_wp2_with (first
                | (go_at_call 53; refine (may_any _ _ _ _ _ _).mono ?_; rintro e w1 ⟨rfl, ho⟩; rw [hmay]; have hk5 := (Blk.new wr 60 #[.int .i64 op, .int .i64 xa, .int .i64 xb, .int .i64 (xc : Int), .int .u64 xn]).only ho (fun h => h); have hbx := (HM.out.box.alloc (.cells #[.int .i64 op, .int .i64 xa, .int .i64 xb, .int .i64 (xc : Int), .int .u64 xn] 60)).only ho (fun h => h); have hmk := (HM.out.marks.alloc (.cells #[.int .i64 op, .int .i64 xa, .int .i64 xb, .int .i64 (xc : Int), .int .u64 xn] 60)).only ho (fun h => h); have d0 := hk5.cell 0; have d3 := hk5.cell 3; have d5 := hbx.cell 0; simp at d0 d3 d5; have ml1 := hmk.lt; have mz := hmk.frozen xc; have mc := (hmk.cell xc).trans (marks_at l k hc41); have HMK := hide hmk; have HO := hide ho; clear ho hk5 hbx hmk)
                | (go_at_call 54; refine (jumps_any _ _).mono ?_; rintro e w2 ⟨rfl, hw2⟩; replace hw2 := hw2.symm; subst hw2; rw [hj]))
              go_roundw
              case rel => exact ⟨k + 1, by omega, by simp, HM.out.next (by rw [HM2.out]; exact HMK.out.set_ xc _) (Only.setCell (S := fun i => i = w.heap.size + 1) ((((Only.refl _ wr).alloc _).trans HO.out).mono (fun _ _ h => h.elim)) (.inl rfl) _) HTK.out HI.out⟩
              case measure =>
                show l.length - ((k : Int) + 1).toNat < l.length - ((k : Int)).toNat
                omega
      · have hkI : ¬ (k : Int) < (l.length : Int) := by omega
        have hkl : k = l.length := by omega
        subst hkl
        have HQ0 := hide (PQ.start HM.out h40)
        go_wp2_with fail
        go_loopw [48] (fun c wq => ∃ (k : Nat) (t : List UInt8), k ≤ l.length ∧ c = .int .i64 k ∧ PQ w wr.heap.size wq l A cap k t) (fun c _ => l.length - (RowKit.intOf c).toNat)
        case atStart => exact ⟨0, [], by omega, rfl, HQ0.out⟩
        case round =>
          obtain ⟨k, t, hk2, rfl, hQ⟩ := hrel
          have HQ := hide hQ
          have g1 := hQ.box.cell 0
          have gl1 := hQ.box.lt
          have ml1 := hQ.marks.lt
          have hbl := hQ.lt
          simp at g1
          by_cases hlt2 : k < l.length
          · have hkI2 : (k : Int) < (l.length : Int) := by omega
            have mk1 := (hQ.marks.cell k).trans (marks_at l l.length (by omega))
            rw [List.take_length] at mk1
            have hmem : l.getD k PIns.none ∈ l := by
              rw [List.getD_eq_getElem?_getD, List.getElem?_eq_getElem hlt2]
              exact List.getElem_mem _
            have hill := HM.out.well (l.getD k PIns.none) (by rw [List.take_length]; exact hmem)
            have HXF := hide (xf_of (ill_may hill).1 (HN.out _ hmem))
            have hop := (may_f (ill_may hill).1).op
            obtain ⟨b, o, rfl, hlb, hi⟩ := HP.out.at_ hlt2
            obtain ⟨j0, j1, j2, j3, j4⟩ := hi
            have hbw : b < w.heap.size := by omega
            have i0 := (HQ.out.only.cell (p := ⟨b, o + k * 5, none⟩) hbw (fun h => h)).trans j0
            have i1 := (HQ.out.only.cell (p := ⟨b, o + k * 5 + 1, none⟩) hbw (fun h => h)).trans j1
            have i2 := (HQ.out.only.cell (p := ⟨b, o + k * 5 + 2, none⟩) hbw (fun h => h)).trans j2
            have i3 := (HQ.out.only.cell (p := ⟨b, o + k * 5 + 3, none⟩) hbw (fun h => h)).trans j3
            have i4 := (HQ.out.only.cell (p := ⟨b, o + k * 5 + 4, none⟩) hbw (fun h => h)).trans j4
            have HR0 := hide (PR.start HQ.out (l.getD k PIns.none))
            have HSH : Hid (t.length ≤ 8000) := hide (by have := HQ.out.short; omega)
            have HLT := hide hlt2
            have hk41 : (k : Int) < 41 := by omega
            clear j0 j1 j2 j3 j4 hQ hill hmem
            have hblt : b < wr.heap.size := by omega
            obtain ⟨x, hx⟩ : ∃ x, l.getD k PIns.none = x := ⟨_, rfl⟩
            have HX : Hid (l.getD k PIns.none = x) := hide hx
            rw [hx] at HXF hop i0 i1 i2 i3 i4 HR0
            clear hx
            obtain ⟨op, xa, xb, xc, xn⟩ := x
            simp only at hop i0 i1 i2 i3 i4 HXF HR0
            have HFI := hide (fun W => tfields_any op (by omega) hop.2 W)
            cases hmk : marked l k with
            | true =>
              rw [hmk] at mk1
              have hdl := dec_len k (by omega)
              have HI := hide (fun W => Tryd.strconv_Itoa_small k (by omega) W)
              have tok1 : True := trivial
              go_wp2_with (first
                              | (go_at_call 56; refine (HI.out _).mono ?_; rintro e w2 ⟨rfl, hw2⟩; replace hw2 := hw2.symm; subst hw2)
                              | (go_at_call 55; clear tok1; refine (writeString_any _ _ _ _ HR0.out.built ?hln).mono ?_; rotate_left; rintro e w2 ⟨rfl, hb2, hw2⟩; have hR := HR0.out.wrote hw2 hb2; have z0 := hR.ins.cell 0; simp at z0; have zl := hR.ins.lt; have HR1 := hide hR; clear hb2 hw2 hR)
                              | (go_at_call 40; refine (name_any _ _).mono ?_; rintro e w3 ⟨rfl, rfl⟩)
                              | (go_at_call 55; refine (writeString_any _ _ _ _ ((HR1.out.nob ((Only.refl _ _).alloc _)).built) ?hln2).mono ?_; rotate_left; rintro e w4 ⟨rfl, hb4, hw4⟩; have hR := (HR1.out.nob ((Only.refl _ _).alloc _)).wrote hw4 hb4; have y0 := hR.ins.cell 0; simp at y0; have yl := hR.ins.lt; have HR2 := hide hR; clear hb4 hw4 hR)
                              | (go_at_call 57; refine (HFI.out _).mono ?_; rintro e w5 ⟨rfl, hw5⟩; subst hw5))
              case hln =>
                have : ((⟨#[108]⟩ : ByteArray) ++ ⟨(decDigits k).toArray⟩ ++ ⟨#[58, 32]⟩).size = 1 + (decDigits k).length + 2 := by simp [ByteArray.size]; omega
                have := HSH.out
                omega
              case hln2 =>
                have : ((⟨#[108]⟩ : ByteArray) ++ ⟨(decDigits k).toArray⟩ ++ ⟨#[58, 32]⟩).size = 1 + (decDigits k).length + 2 := by simp [ByteArray.size]; omega
                have := HSH.out
                have : (atList nameList op).size ≤ 12 := HXF.out.name
                simp at *
                omega
              have hls : ((⟨#[108]⟩ : ByteArray) ++ ⟨(decDigits k).toArray⟩ ++ ⟨#[58, 32]⟩).data.toList = labelP l k 32 := by rw [label_is hmk]; simp
              rw [hls] at HR2
              have HT2 : Hid ((t ++ labelP l k 32 ++ (atList nameList op).data.toList).length ≤ 9000) := hide (by
                have h1 := HSH.out
                have h2 : (atList nameList op).size ≤ 12 := HXF.out.name
                have h3 := (lab_bytes l k 32 (.inl rfl) (by omega)).2
                rw [List.length_append, List.length_append]
                have e : (atList nameList op).data.toList.length = (atList nameList op).size := by simp
                omega)
              generalize kindsP op = ks at *
              go_loopw [] (fun wq => PFof HR2 ks wq) (fun wq => PFleft HR2 ks wq)
              case atStart => exact PFof.start HR2 ks
              case round =>
                obtain ⟨j, hF⟩ := hrel
                have HF := hide hF
                have hit := hF.iter
                clear hF
                by_cases hj : j < ks.length
                · have hksz : j < (⟨ks.toArray⟩ : ByteArray).size := by show j < ks.toArray.size; rw [List.size_toArray]; exact hj
                  have hnx := fun ty => run_next_any_at (P := Tryd.prog) wr w4.heap.size ⟨ks.toArray⟩ j ty hit hksz
                  rw [decode_kind HXF.out.kind j hj] at hnx
                  obtain ⟨mv1, mv2⟩ := HF.out.moved (j + 1)
                  have z0 := mv1.ins.cell 0
                  have z1 := mv1.ins.cell 1
                  have z2 := mv1.ins.cell 2
                  have z3 := mv1.ins.cell 3
                  have z4 := mv1.ins.cell 4
                  simp at z0 z1 z2 z3 z4
                  have zl := mv1.ins.lt
                  have HMV := hide mv1
                  have HTO := hide (told_any ⟨op, xa, xb, xc, xn⟩ HXF.out.small ks[j] (HXF.out.kind _ (List.getElem_mem hj)) _ (HT.out.nob mv1.only))
                  have htl := HXF.out.len _ (List.getElem_mem hj)
                  have HJ := hide hj
                  clear mv1 mv2
                  go_wp2_with (first
                    | (go_at_call 58; refine HTO.out.mono ?_; rintro e w6 ⟨rfl, ho6⟩; have HO6 := hide ho6; clear ho6)
                    | (go_at_call 55; refine (writeString_any _ _ _ _ ((HMV.out.nob HO6.out).built) ?hl3).mono ?_; rotate_left; rintro e w7 ⟨rfl, hb7, hw7⟩; have HB7 := hide hb7; have HW7 := hide hw7; clear hb7 hw7))
                  case hl3 =>
                    have := HT2.out
                    have := HXF.out.tail j
                    rw [cons_str, List.length_append]
                    have e : (⟨(32 :: toldP ⟨op, xa, xb, xc, xn⟩ ks[j]).toArray⟩ : ByteArray).size = (toldP ⟨op, xa, xb, xc, xn⟩ ks[j]).length + 1 := by simp [ByteArray.size]
                    omega
                  have hb9 := HB7.out
                  rw [cons_str] at hb9
                  have hN := HF.out.next HJ.out HO6.out HW7.out hb9
                  refine ⟨⟨j + 1, hN⟩, ?_⟩
                  rw [hN.left, HF.out.left]
                  omega
                · have hksz : ¬ j < (⟨ks.toArray⟩ : ByteArray).size := by
                    intro h
                    apply hj
                    have h2 : (⟨ks.toArray⟩ : ByteArray).size = ks.length := by
                      show ks.toArray.size = _
                      rw [List.size_toArray]
                    omega
                  have hnx := fun ty => run_next_end_at (P := Tryd.prog) wr w4.heap.size ⟨ks.toArray⟩ j ty hit hksz
                  have hje : j = ks.length := by have := HF.out.le; omega
                  subst hje
                  obtain ⟨mv1, mv2⟩ := HF.out.moved ks.length
                  have HMV := hide mv1
                  clear mv1 mv2
                  go_wp2_with (go_at_call 59; refine (writeByte_any _ _ 10 _ HF.out.pr.built ?hl4).mono ?_; rotate_left; rintro e w8 ⟨rfl, hb8, hw8⟩; have HB8 := hide hb8; have HW8 := hide hw8; clear hb8 hw8)
                  case hl4 =>
                    have := HT2.out
                    have := HXF.out.tail ks.length
                    rw [List.length_append]
                    omega
                  have hb9 := HB8.out
                  rw [ins_end HXF.out] at hb9
                  have hR9 := HF.out.pr.wrote HW8.out hb9
                  have hQ9 := HQ.out.next HLT.out HX.out HXF.out.may HXF.out.n hl40 hR9
                  go_roundw
                  case rel => exact ⟨k + 1, _, by omega, by simp, hQ9⟩
                  case measure =>
                    show l.length - ((k : Int) + 1).toNat < l.length - ((k : Int)).toNat
                    omega
            | false =>
              rw [hmk] at mk1
              have HR1 := HR0
              go_wp2_with (first
                              | (go_at_call 40; refine (name_any _ _).mono ?_; rintro e w3 ⟨rfl, rfl⟩)
                              | (go_at_call 55; refine (writeString_any _ _ _ _ ((HR1.out.nob ((Only.refl _ _).alloc _)).built) ?hln2).mono ?_; rotate_left; rintro e w4 ⟨rfl, hb4, hw4⟩; have hR := (HR1.out.nob ((Only.refl _ _).alloc _)).wrote hw4 hb4; have y0 := hR.ins.cell 0; simp at y0; have yl := hR.ins.lt; have HR2 := hide hR; clear hb4 hw4 hR)
                              | (go_at_call 57; refine (HFI.out _).mono ?_; rintro e w5 ⟨rfl, hw5⟩; subst hw5))
              case hln2 =>
                have := HSH.out
                have : (atList nameList op).size ≤ 12 := HXF.out.name
                omega
              have hls : t = t ++ labelP l k 32 := by rw [label_no hmk]; simp
              rw [hls] at HR2
              have HT2 : Hid ((t ++ labelP l k 32 ++ (atList nameList op).data.toList).length ≤ 9000) := hide (by
                have h1 := HSH.out
                have h2 : (atList nameList op).size ≤ 12 := HXF.out.name
                have h3 := (lab_bytes l k 32 (.inl rfl) (by omega)).2
                rw [List.length_append, List.length_append]
                have e : (atList nameList op).data.toList.length = (atList nameList op).size := by simp
                omega)
              generalize kindsP op = ks at *
              go_loopw [] (fun wq => PFof HR2 ks wq) (fun wq => PFleft HR2 ks wq)
              case atStart => exact PFof.start HR2 ks
              case round =>
                obtain ⟨j, hF⟩ := hrel
                have HF := hide hF
                have hit := hF.iter
                clear hF
                by_cases hj : j < ks.length
                · have hksz : j < (⟨ks.toArray⟩ : ByteArray).size := by show j < ks.toArray.size; rw [List.size_toArray]; exact hj
                  have hnx := fun ty => run_next_any_at (P := Tryd.prog) wr w4.heap.size ⟨ks.toArray⟩ j ty hit hksz
                  rw [decode_kind HXF.out.kind j hj] at hnx
                  obtain ⟨mv1, mv2⟩ := HF.out.moved (j + 1)
                  have z0 := mv1.ins.cell 0
                  have z1 := mv1.ins.cell 1
                  have z2 := mv1.ins.cell 2
                  have z3 := mv1.ins.cell 3
                  have z4 := mv1.ins.cell 4
                  simp at z0 z1 z2 z3 z4
                  have zl := mv1.ins.lt
                  have HMV := hide mv1
                  have HTO := hide (told_any ⟨op, xa, xb, xc, xn⟩ HXF.out.small ks[j] (HXF.out.kind _ (List.getElem_mem hj)) _ (HT.out.nob mv1.only))
                  have htl := HXF.out.len _ (List.getElem_mem hj)
                  have HJ := hide hj
                  clear mv1 mv2
                  go_wp2_with (first
                    | (go_at_call 58; refine HTO.out.mono ?_; rintro e w6 ⟨rfl, ho6⟩; have HO6 := hide ho6; clear ho6)
                    | (go_at_call 55; refine (writeString_any _ _ _ _ ((HMV.out.nob HO6.out).built) ?hl3).mono ?_; rotate_left; rintro e w7 ⟨rfl, hb7, hw7⟩; have HB7 := hide hb7; have HW7 := hide hw7; clear hb7 hw7))
                  case hl3 =>
                    have := HT2.out
                    have := HXF.out.tail j
                    rw [cons_str, List.length_append]
                    have e : (⟨(32 :: toldP ⟨op, xa, xb, xc, xn⟩ ks[j]).toArray⟩ : ByteArray).size = (toldP ⟨op, xa, xb, xc, xn⟩ ks[j]).length + 1 := by simp [ByteArray.size]
                    omega
                  have hb9 := HB7.out
                  rw [cons_str] at hb9
                  have hN := HF.out.next HJ.out HO6.out HW7.out hb9
                  refine ⟨⟨j + 1, hN⟩, ?_⟩
                  rw [hN.left, HF.out.left]
                  omega
                · have hksz : ¬ j < (⟨ks.toArray⟩ : ByteArray).size := by
                    intro h
                    apply hj
                    have h2 : (⟨ks.toArray⟩ : ByteArray).size = ks.length := by
                      show ks.toArray.size = _
                      rw [List.size_toArray]
                    omega
                  have hnx := fun ty => run_next_end_at (P := Tryd.prog) wr w4.heap.size ⟨ks.toArray⟩ j ty hit hksz
                  have hje : j = ks.length := by have := HF.out.le; omega
                  subst hje
                  obtain ⟨mv1, mv2⟩ := HF.out.moved ks.length
                  have HMV := hide mv1
                  clear mv1 mv2
                  go_wp2_with (go_at_call 59; refine (writeByte_any _ _ 10 _ HF.out.pr.built ?hl4).mono ?_; rotate_left; rintro e w8 ⟨rfl, hb8, hw8⟩; have HB8 := hide hb8; have HW8 := hide hw8; clear hb8 hw8)
                  case hl4 =>
                    have := HT2.out
                    have := HXF.out.tail ks.length
                    rw [List.length_append]
                    omega
                  have hb9 := HB8.out
                  rw [ins_end HXF.out] at hb9
                  have hR9 := HF.out.pr.wrote HW8.out hb9
                  have hQ9 := HQ.out.next HLT.out HX.out HXF.out.may HXF.out.n hl40 hR9
                  go_roundw
                  case rel => exact ⟨k + 1, _, by omega, by simp, hQ9⟩
                  case measure =>
                    show l.length - ((k : Int) + 1).toNat < l.length - ((k : Int)).toNat
                    omega
          · have hkl2 : k = l.length := by omega
            subst hkl2
            have mk1 := (hQ.marks.cell l.length).trans (marks_at l l.length (by omega))
            rw [List.take_length] at mk1
            have hlI : (l.length : Int) < 41 := by omega
            clear hQ
            cases hmk : marked l l.length with
            | false =>
              rw [hmk] at mk1
              have HE : Hid (printP l = t) := hide (by
                have := HQ.out.eq
                rw [List.drop_length, linesOfP, labelP, hmk] at this
                simpa using this)
              go_wp2_with (go_at_call 60; refine (string_any _ _ _ HQ.out.built (by omega)).mono ?_; rintro e w2 ⟨rfl, hb2⟩; have HB2 := hide hb2; clear hb2)
              go_ret
              exact ⟨by rw [HE.out]; rfl, Wrote.only2 HB2.out HQ.out.only (by have := HQ.out.far; omega)⟩
            | true =>
              rw [hmk] at mk1
              have hdl := dec_len l.length (by omega)
              have hsh : t.length ≤ 8000 := by have := HQ.out.short; omega
              have HE : Hid (printP l = t ++ (108 :: decDigits l.length ++ [58, 10])) := hide (by
                have := HQ.out.eq
                rw [List.drop_length, linesOfP, labelP, hmk] at this
                exact this)
              have HI := hide (fun W => Tryd.strconv_Itoa_small l.length (by omega) W)
              go_wp2_with (first
                | (go_at_call 56; refine (HI.out _).mono ?_; rintro e w2 ⟨rfl, hw2⟩; replace hw2 := hw2.symm; subst hw2)
                | (go_at_call 55; refine (writeString_any _ _ _ _ HQ.out.built ?hln).mono ?_; rotate_left; rintro e w2 ⟨rfl, hb2, hw2⟩; have HB2 := hide hb2; have HW2 := hide hw2; clear hb2 hw2)
                | (go_at_call 60; refine (string_any _ _ _ HB2.out ?hlb).mono ?_; rotate_left; rintro e w3 ⟨rfl, hb3⟩; have HB3 := hide hb3; clear hb3))
              case hln =>
                have : ((⟨#[108]⟩ : ByteArray) ++ ⟨(decDigits l.length).toArray⟩ ++ ⟨#[58, 10]⟩).size = 1 + (decDigits l.length).length + 2 := by simp [ByteArray.size]; omega
                omega
              case hlb => exact Nat.le_of_lt HB2.out.lt
              have hls : ((⟨#[108]⟩ : ByteArray) ++ ⟨(decDigits l.length).toArray⟩ ++ ⟨#[58, 10]⟩).data.toList = 108 :: decDigits l.length ++ [58, 10] := by simp
              go_ret
              exact ⟨by rw [HE.out, ← hls]; rfl, Wrote.only2 HB3.out (HW2.out.only HQ.out.only (by have := HQ.out.far; omega)) (by have := HQ.out.far; omega)⟩
end Go.Proofs.YtngahgfppbjebaaDoor
namespace Go.Proofs.YtngahgfppbjebaaDoor
open Go.RowKit Go.Lib
set_option linter.unusedVariables false
set_option linter.unusedSimpArgs false

/-- The listed tables that are read. -/
structure Tabs (w : World) : Prop where
  pow : Pow10 w
  utf : Utf8Tabs 2 3 w
theorem Tabs.nob {w w' : World} (h : Tabs w) (ho : Only Nob w w') : Tabs w' := ⟨h.pow.nob ho, Utf8Tabs_only h.utf ho⟩
theorem runes_asc : ∀ (l : List UInt8), (∀ b ∈ l, b.toNat < 128) → runesL l = l.map fun b => (b.toNat, false)
  | [], _ => runesL_nil
  | b :: t, h => by
    rw [runesL_ascii b t (h b (by simp)), runes_asc t (fun c hc => h c (List.mem_cons_of_mem _ hc))]
    rfl
def runS1 : List UInt8 := [97, 58, 32, 122, 101, 114, 111, 32, 114, 49, 32, 98, 10, 106, 117, 109, 112, 32, 97, 32, 59, 32, 97, 103, 97, 105, 110, 10, 98, 58]
def runS2 : List UInt8 := [10, 32, 115, 101, 116, 32, 114, 49, 32, 48, 48, 55]
def allAsc (l : List UInt8) : Bool := l.all fun b => decide (b.toNat < 128)
theorem runes_all {l : List UInt8} (h : allAsc l = true) : runesL l = l.map fun b => (b.toNat, false) := runes_asc l (fun b hb => of_decide_eq_true ((List.all_eq_true.1 h) b hb))
def runNames (l : List (List UInt8 × List Rn)) : Bool := l.all fun e => decide (runesL e.1 = e.2)
/-- A name's runes, where all is one byte. -/
def nameA (s : List UInt8) : Bool := nameL (s.map fun b => (b.toNat, false))
theorem name_asc {s : List UInt8} (h : allAsc s = true) : nameP s = nameA s := by
  unfold nameP nameA
  rw [runes_all h]
theorem run_one : parseP runS1 = ([⟨13, 1, 0, 2, 0⟩, ⟨12, 0, 0, 0, 0⟩], 0, 0, 0) := by
  have ha : nameP [97] = true := by rw [name_asc (by decide)]; decide +kernel
  have hb : nameP [98] = true := by rw [name_asc (by decide)]; decide +kernel
  refine parse_of (by decide) ?_
  have hf : flatL runS1 = [[([97, 58], false), ([122, 101, 114, 111], false), ([114, 49], false), ([98], false)], [([106, 117, 109, 112], false), ([97], false)], [([98, 58], false)]] := by
    unfold flatL
    rw [runes_all (by decide)]
    decide +kernel
  rw [hf]
  have e1 : lineE PS.start.er [([97, 58], false), ([122, 101, 114, 111], false), ([114, 49], false), ([98], false)] = some ⟨[⟨13, 1, 0, 0, 0⟩], [([97], 0)], [(0, [98])]⟩ := by
    rw [lineE, if_pos (by decide)]
    have : (([97, 58] : List UInt8), false).1.dropLast = [97] := rfl
    rw [this, ha, if_neg (by decide)]
    have hz : instrE { PS.start.er with labels := PS.start.er.labels ++ [([97], PS.start.er.l.length)] } [([122, 101, 114, 111], false), ([114, 49], false), ([98], false)] = fieldsE ⟨[], [([97], 0)], []⟩ [97, 106] [([114, 49], false), ([98], false)] ⟨13, 0, 0, 0, 0⟩ [] := by kernel_rfl
    rw [hz, fieldsE_cons _ _ _ _ _ _ ⟨13, 1, 0, 0, 0⟩ _ (by rw [fp97]; kernel_rfl) (by decide), fieldsE_j _ _ _ _ _ ⟨13, 1, 0, 0, 0⟩ _ (by show (if nameP [98] = true then _ else _) = _; rw [hb, if_pos rfl])]
    rfl
  have e2 : lineE ⟨[⟨13, 1, 0, 0, 0⟩], [([97], 0)], [(0, [98])]⟩ [([106, 117, 109, 112], false), ([97], false)] = some ⟨[⟨13, 1, 0, 0, 0⟩, ⟨12, 0, 0, 0, 0⟩], [([97], 0)], [(0, [98]), (1, [97])]⟩ := by
    rw [lineE, if_neg (by decide)]
    have hz : instrE ⟨[⟨13, 1, 0, 0, 0⟩], [([97], 0)], [(0, [98])]⟩ [([106, 117, 109, 112], false), ([97], false)] = fieldsE ⟨[⟨13, 1, 0, 0, 0⟩], [([97], 0)], [(0, [98])]⟩ [106] [([97], false)] ⟨12, 0, 0, 0, 0⟩ [(0, [98])] := by kernel_rfl
    rw [hz, fieldsE_j _ _ _ _ _ ⟨12, 0, 0, 0, 0⟩ _ (by show (if nameP [97] = true then _ else _) = _; rw [ha, if_pos rfl])]
    rfl
  have e3 : lineE ⟨[⟨13, 1, 0, 0, 0⟩, ⟨12, 0, 0, 0, 0⟩], [([97], 0)], [(0, [98]), (1, [97])]⟩ [([98, 58], false)] = some ⟨[⟨13, 1, 0, 0, 0⟩, ⟨12, 0, 0, 0, 0⟩], [([97], 0), ([98], 2)], [(0, [98]), (1, [97])]⟩ := by
    rw [lineE, if_pos (by decide)]
    have : (([98, 58] : List UInt8), false).1.dropLast = [98] := rfl
    rw [this, hb, if_neg (by decide)]
    rfl
  unfold parseE
  rw [linesE, e1, Option.bind_some, linesE, e2, Option.bind_some, linesE, e3, Option.bind_some, linesE, Option.bind_some]
  show resE [([97], 0), ([98], 2)] [(0, [98]), (1, [97])] [⟨13, 1, 0, 0, 0⟩, ⟨12, 0, 0, 0, 0⟩] = some [⟨13, 1, 0, 2, 0⟩, ⟨12, 0, 0, 0, 0⟩]
  kernel_rfl
theorem lineW_of {l : List Rn} {ws : List Wd} (h : wordsR l = ws) : wordsR l = ws := h
theorem run_two : parseP runS2 = ([], 2, 9, 12) := by
  unfold parseP
  rw [if_neg (by decide), runes_all (by decide)]
  kernel_rfl
theorem run_print : printP [⟨20, 0, 0, 0, 0⟩] = [114, 101, 116, 114, 121, 10] := by kernel_rfl
theorem progIn_one (w : World) (x : PIns) {n : Nat} (hn : w.heap.size = n) : ProgIn (w.alloc (.cells #[.int .i64 x.op, .int .i64 x.a, .int .i64 x.b, .int .i64 x.c, .int .u64 x.n] 60)) (w.alloc (.cells #[.int .i64 x.op, .int .i64 x.a, .int .i64 x.b, .int .i64 x.c, .int .u64 x.n] 60)).heap.size (some ⟨n, 0, none⟩) [x] := by
  subst hn
  intro _
  have hk := Blk.new w 60 #[.int .i64 x.op, .int .i64 x.a, .int .i64 x.b, .int .i64 x.c, .int .u64 x.n]
  refine ⟨_, 0, rfl, hk.lt, fun k y hy => ?_⟩
  match k, hy with
  | 0, hy =>
    simp at hy
    subst hy
    exact ⟨hk.cell 0, hk.cell 1, hk.cell 2, hk.cell 3, hk.cell 4⟩
  | k + 1, hy => simp at hy
set_option maxRecDepth 100000 in
set_option maxHeartbeats 4000000 in
theorem text_runs (w : World) (ht : Tabs w) : Calls Tryd.prog 8 #[] w fun e w' => e = .returned (.bool true) ∧ Only Nob w w' := by
  have HT := hide ht
  have hp1 := parse_any ⟨runS1.toArray⟩ (by decide) w ht.utf
  rw [show (⟨runS1.toArray⟩ : ByteArray).data.toList = runS1 from rfl, run_one] at hp1
  have HP1 := hide hp1
  have HP2 : Hid (∀ W, Tabs W → Calls Tryd.prog 33 #[.string ⟨runS2.toArray⟩] W (ParsePost W ([], 2, 9, 12))) := hide (fun W h => by
    have h2 := parse_any ⟨runS2.toArray⟩ (by decide) W h.utf
    rw [show (⟨runS2.toArray⟩ : ByteArray).data.toList = runS2 from rfl, run_two] at h2
    exact h2)
  have HPR : Hid (∀ (W : World) (A : Option Addr), ProgIn W W.heap.size A [⟨20, 0, 0, 0, 0⟩] → Tabs W → Calls Tryd.prog 34 #[.agg #[.slice A 1 1]] W fun e w' => e = .returned (.string ⟨#[114, 101, 116, 114, 121, 10]⟩) ∧ Only Nob W w') := hide (fun W A h ht => by
    have h3 := print_any W.heap.size [⟨20, 0, 0, 0, 0⟩] A 1 W h (Nat.le_refl _) (by decide) (by intro x hx; simp at hx; subst hx; decide) ht.pow
    rw [run_print] at h3
    exact h3)
  clear ht hp1
  go_enter Tryd.func8, Tryd.ntmps8
  have tok1 : True := trivial
  go_wp2_with (first
    | (go_at_call 33; clear tok1; refine HP1.out.mono ?_; rintro e w1 ⟨v1, rfl, hr1, ho1⟩; obtain ⟨A1, cap1, rfl, hi1⟩ := hr1.lies; obtain ⟨b1, o1, rfl, hb1, hat⟩ := hi1 (by simp); have hk1 := Blk.new w1 55 #[.slice (some ⟨b1, o1, none⟩) 2 cap1]; have HK1 := hide hk1; have HAT := hide hat; have HO1 := hide (ho1.alloc (.cells #[.slice (some ⟨b1, o1, none⟩) 2 cap1] 55)); have HOA := hide (Only.alloc (Only.refl Nob w1) (.cells #[.slice (some ⟨b1, o1, none⟩) 2 cap1] 55)); clear ho1 hr1 hi1 hat hk1)
    | (go_at_call 33; refine (HP2.out _ (HT.out.nob HO1.out)).mono ?_; rintro e w2 ⟨v2, rfl, hr2, ho2⟩; obtain ⟨A2, cap2, rfl, hi2⟩ := hr2.lies; have hoo := HOA.out.trans ho2; obtain ⟨p0, p1, p2, p3, p4⟩ := (HAT.out 0 _ rfl).keep (hoo.below (Nat.le_refl _) (fun _ h => h.elim)) hb1; obtain ⟨q0, q1, q2, q3, q4⟩ := (HAT.out 1 _ rfl).keep (hoo.below (Nat.le_refl _) (fun _ h => h.elim)) hb1; have hk2 := HK1.out.only ho2 (fun h => h); have c0 := hk2.cell 0; have cl := hk2.lt; simp at c0 p0 p1 p2 p3 p4 q0 q1 q2 q3 q4; have hb2 := Nat.lt_of_lt_of_le hb1 hoo.size; have HO2 := hide (HO1.out.trans ho2); clear hr2 ho2 hoo hk2 hi2)
    | (go_at_call 34; refine (HPR.out _ _ ?hpi ?htb).mono ?_; rotate_left 2; rintro e w3 ⟨rfl, ho3⟩; have HO3 := hide ho3; clear ho3))
  case hpi => exact progIn_one _ ⟨20, 0, 0, 0, 0⟩ (by simp)
  case htb => exact HT.out.nob ((HO2.out.alloc _).alloc _)
  go_ret
  exact ⟨rfl, ((HO2.out.alloc _).alloc _).trans HO3.out⟩
end Go.Proofs.YtngahgfppbjebaaDoor

/-
  What the reference's Print stands on.
  The contract of the reference's Print.
-/
import Derived.Test.YtngahgfppbjebaaDoorGrpTxLineC
import Derived.Test.YtngahgfppbjebaaDoorGrpTxPrintE
import Derived.Deep.OwnRows
namespace Go.Proofs.YtngahgfppbjebaaDoor
open Go.RowKit Go.Lib
set_option linter.unusedVariables false
set_option linter.unusedSimpArgs false

theorem line_any (x : PIns) (hm : mayP x = true) (hn : 0 ≤ x.n ∧ x.n < 18446744073709551616) (w : World) (htab : TabAt w) : Calls Tryd.prog 67 #[.agg #[.int .i64 x.op, .int .i64 x.a, .int .i64 x.b, .int .i64 x.c, .int .u64 x.n]] w fun e w' => e = .returned (.string ⟨(lineL x).toArray⟩) ∧ Only Nob w w' := by
  obtain ⟨hs, ho⟩ := small_of_may hm hn
  obtain ⟨ha, hb, hc, hn2⟩ := hs
  obtain ⟨op, a, b, c, n⟩ := x
  simp only at *
  obtain ⟨a, rfl⟩ := Int.eq_ofNat_of_zero_le ha.1
  obtain ⟨b, rfl⟩ := Int.eq_ofNat_of_zero_le hb.1
  obtain ⟨c, rfl⟩ := Int.eq_ofNat_of_zero_le hc.1
  obtain ⟨n, rfl⟩ := Int.eq_ofNat_of_zero_le hn.1
  have ha2 : a < 100 := by omega
  have hb2 : b < 100 := by omega
  have hc2 : c < 100 := by omega
  have hn3 : n < 18446744073709551616 := by omega
  rcases (by omega : op = 1 ∨ op = 2 ∨ op = 3 ∨ op = 4 ∨ op = 5 ∨ op = 6 ∨ op = 7 ∨ op = 8 ∨ op = 9 ∨ op = 10 ∨ op = 11 ∨ op = 12 ∨ op = 13 ∨ op = 14 ∨ op = 15 ∨ op = 16 ∨ op = 17 ∨ op = 18 ∨ op = 19 ∨ op = 20 ∨ op = 21 ∨ op = 22 ∨ op = 23) with rfl | rfl | rfl | rfl | rfl | rfl | rfl | rfl | rfl | rfl | rfl | rfl | rfl | rfl | rfl | rfl | rfl | rfl | rfl | rfl | rfl | rfl | rfl
  · exact line_1 w a b c n ha2 hb2 hc2 hn3 htab
  · exact line_2 w a b c n ha2 hb2 hc2 hn3 htab
  · exact line_3 w a b c n ha2 hb2 hc2 hn3 htab
  · exact line_4 w a b c n ha2 hb2 hc2 hn3 htab
  · exact line_5 w a b c n ha2 hb2 hc2 hn3 htab
  · exact line_6 w a b c n ha2 hb2 hc2 hn3 htab
  · exact line_7 w a b c n ha2 hb2 hc2 hn3 htab
  · exact line_8 w a b c n ha2 hb2 hc2 hn3 htab
  · exact line_9 w a b c n ha2 hb2 hc2 hn3 htab
  · exact line_10 w a b c n ha2 hb2 hc2 hn3 htab
  · exact line_11 w a b c n ha2 hb2 hc2 hn3 htab
  · exact line_12 w a b c n ha2 hb2 hc2 hn3 htab
  · exact line_13 w a b c n ha2 hb2 hc2 hn3 htab
  · exact line_14 w a b c n ha2 hb2 hc2 hn3 htab
  · exact line_15 w a b c n ha2 hb2 hc2 hn3 htab
  · exact line_16 w a b c n ha2 hb2 hc2 hn3 htab
  · exact line_17 w a b c n ha2 hb2 hc2 hn3 htab
  · exact line_18 w a b c n ha2 hb2 hc2 hn3 htab
  · exact line_19 w a b c n ha2 hb2 hc2 hn3 htab
  · exact line_20 w a b c n ha2 hb2 hc2 hn3 htab
  · exact line_21 w a b c n ha2 hb2 hc2 hn3 htab
  · exact line_22 w a b c n ha2 hb2 hc2 hn3 htab
  · exact line_23 w a b c n ha2 hb2 hc2 hn3 htab
theorem ins_line (x : PIns) : insP x = lineL x ++ [10] := by unfold insP lineL; rfl
theorem infoBool : (Tryd.prog.info? 4).map (fun i => (i.zero, i.size, i.bytes)) = some (some (.bool false), 1, 1) := by kernel_rfl
/-- The marks behind k rounds. -/
def marksR (l : List PIns) (k : Nat) : Array Value := ((List.range (l.length + 1)).map fun i => Value.bool (marked (l.take k) i)).toArray
theorem marksR_at (l : List PIns) (k : Nat) {c : Nat} (h : c < l.length + 1) : (marksR l k)[c]? = some (.bool (marked (l.take k) c)) := by
  unfold marksR
  simp [h]
theorem made_bools (n : Nat) : madeCells #[.bool false] n = ((List.range n).map fun _ => Value.bool false).toArray := by
  unfold madeCells
  apply Array.ext
  · simp
  · intro i h1 h2
    simp [Nat.mod_one]
theorem marksR_zero (l : List PIns) : marksR l 0 = madeCells #[.bool false] (l.length + 1) := by
  rw [made_bools]
  unfold marksR marked
  simp
theorem marksR_no {l : List PIns} {k : Nat} (hk : k < l.length) (h : jumpsB (l.getD k PIns.none).op = false) : marksR l (k + 1) = marksR l k := by
  unfold marksR marked
  rw [take_next hk]
  simp only [List.any_append, List.any_cons, h, Bool.false_and, List.any_nil, Bool.or_false]
theorem marksR_yes {l : List PIns} {k c : Nat} (hk : k < l.length) (h : jumpsB (l.getD k PIns.none).op = true) (hc : (l.getD k PIns.none).c = (c : Int)) (h40 : c ≤ l.length) : marksR l (k + 1) = (marksR l k).set! c (.bool true) := by
  unfold marksR marked
  rw [take_next hk]
  simp only [List.any_append, List.any_cons, h, hc, Bool.true_and, List.any_nil, Bool.or_false]
  apply Array.ext
  · simp
  · intro i h1 h2
    simp at h1
    simp [List.getElem_set]
    by_cases e : c = i
    · subst e; simp
    · have e2 : ¬ ((c : Int) = (i : Int)) := by omega
      simp [e, e2]
/-- Between two rounds of the first loop. -/
structure RM (w wr : World) (l : List PIns) (A : Option Addr) (cap k : Nat) : Prop where
  marks : Blk wr (w.heap.size + 1) 4 (marksR l k)
  well : ∀ x ∈ l.take k, illP l.length x = false
  only : Only Nob w wr
  box : Blk wr w.heap.size 55 #[.slice A l.length cap]
theorem RM.start (w : World) (l : List PIns) (A : Option Addr) (cap : Nat) : RM w ((w.alloc (.cells #[.slice A l.length cap] 55)).alloc (.cells (madeCells #[.bool false] (l.length + 1)) 4)) l A cap 0 :=
  ⟨by rw [marksR_zero]; exact Blk.new' (by simp), by simp, ((Only.refl _ w).alloc _).alloc _, (Blk.new w _ _).alloc _⟩
theorem RM.nob {w wr W : World} {l : List PIns} {A : Option Addr} {cap k : Nat} (h : RM w wr l A cap k) (ho : Only Nob wr W) : RM w W l A cap k := ⟨h.marks.only ho (fun h => h), h.well, h.only.trans ho, h.box.only ho (fun h => h)⟩
theorem RM.next {w wr W : World} {l : List PIns} {A : Option Addr} {cap k : Nat} {x : PIns} (h : RM w wr l A cap k) (hb : Blk W (w.heap.size + 1) 4 (marksR l (k + 1))) (ho : Only (fun i => i = w.heap.size + 1) wr W) (ht : l.take (k + 1) = l.take k ++ [x]) (hx : illP l.length x = false) : RM w W l A cap (k + 1) := by
  refine ⟨hb, ?_, Only.after h.only ho (fun i hi => .inr (by omega)), h.box.only ho (by omega)⟩
  intro y hy
  rw [ht] at hy
  rcases List.mem_append.1 hy with h1 | h1
  · exact h.well y h1
  · simp at h1
    subst h1
    exact hx
/-- Between two rounds of the second loop. -/
structure RQ (w wq : World) (l : List PIns) (A : Option Addr) (cap k : Nat) (sb : ByteArray) : Prop where
  rm : RM w wq l A cap l.length
  eq : printP l = sb.data.toList ++ linesOfP l k (l.drop k)
  short : sb.size ≤ 200 * k
theorem RQ.start {w wr : World} {l : List PIns} {A : Option Addr} {cap : Nat} (h : RM w wr l A cap l.length) (h40 : ¬ 40 < l.length) : RQ w wr l A cap 0 ⟨#[]⟩ := by
  have hw := h.well
  rw [List.take_length] at hw
  exact ⟨h, by rw [print_well h40 hw]; rfl, by decide⟩
theorem RQ.next {w wr W : World} {l : List PIns} {A : Option Addr} {cap k : Nat} {sb sc : ByteArray} {x : PIns} (h : RQ w wr l A cap k sb) (ho : Only Nob wr W) (hk : k < l.length) (hx : l.getD k PIns.none = x) (hm : mayP x = true) (hn : 0 ≤ x.n ∧ x.n < 18446744073709551616) (h40 : l.length ≤ 40) (hs : sc.data.toList = sb.data.toList ++ labelP l k 32 ++ (lineL x ++ [10])) : RQ w W l A cap (k + 1) sc := by
  have e : l.drop k = x :: l.drop (k + 1) := by
    rw [List.drop_eq_getElem_cons hk, ← hx, List.getD_eq_getElem?_getD, List.getElem?_eq_getElem hk]
    rfl
  refine ⟨h.rm.nob ho, ?_, ?_⟩
  · rw [h.eq, e, linesOfP, hs, ins_line]
    simp
  · have h1 := (lab_bytes l k 32 (.inl rfl) (by omega)).2
    have h2 := (ins_bytes x hm hn).2.1
    have h3 := h.short
    have h4 := congrArg List.length hs
    rw [← ins_line, List.length_append, List.length_append] at h4
    have h5 : sc.data.toList.length = sc.size := by simp
    have h6 : sb.data.toList.length = sb.size := by simp
    omega
end Go.Proofs.YtngahgfppbjebaaDoor
namespace Go.Proofs.YtngahgfppbjebaaDoor
open Go.RowKit Go.Lib
set_option linter.unusedVariables false
set_option linter.unusedSimpArgs false

set_option maxRecDepth 100000 in
set_option maxHeartbeats 8000000 in
theorem rprint_any (B : Nat) (l : List PIns) (A : Option Addr) (cap : Nat) (w : World) (hp : ProgIn w B A l) (hB : B ≤ w.heap.size) (hn : l.length ≤ 1000) (hN : ∀ x ∈ l, 0 ≤ x.n ∧ x.n < 18446744073709551616) (htab : TabAt w) : Calls Tryd.prog 38 #[.agg #[.slice A l.length cap]] w fun e w' => e = .returned (.string ⟨(printP l).toArray⟩) ∧ Only Nob w w' := by
  have HP := hide hp
  have HN := hide hN
  have HT := hide htab
  have hmk1 := fun w => run_make_row' (P := Tryd.prog) 129 4 (.bool false) 1 Tryd.underlying129 infoBool rfl .i64 .i64 (l.length + 1) (by omega) (by omega) w
  simp only [Int.natCast_add, Int.cast_ofNat_Int] at hmk1
  clear hp hN htab
  by_cases h40 : 40 < l.length
  · have HE : Hid (printP l = []) := hide (by unfold printP; rw [if_pos h40])
    have h40I : (40 : Int) < (l.length : Int) := by omega
    clear hmk1
    go_enter Tryd.func38, Tryd.ntmps38
    go_wp2
    go_ret
    exact ⟨by rw [HE.out]; rfl, (Only.refl _ w).alloc _⟩
  · have h40I : ¬ (40 : Int) < (l.length : Int) := by omega
    have hl40 : l.length ≤ 40 := by omega
    go_enter Tryd.func38, Tryd.ntmps38
    go_wp2
    go_loopw [4] (fun c wr => ∃ k : Nat, k ≤ l.length ∧ c = .int .i64 k ∧ RM w wr l A cap k) (fun c _ => l.length - (RowKit.intOf c).toNat)
    case atStart => exact ⟨0, by omega, rfl, RM.start w l A cap⟩
    case round =>
      clear hmk1
      obtain ⟨k, hk, rfl, hM⟩ := hrel
      have HM := hide hM
      have g0 := hM.box.cell 0
      have gl := hM.box.lt
      have gf := hM.box.frozen 0
      have ml := hM.marks.lt
      simp at g0
      clear hM
      by_cases hlt : k < l.length
      · have hkI : (k : Int) < (l.length : Int) := by omega
        obtain ⟨b, o, rfl, hlb, hi⟩ := HP.out.at_ hlt
        obtain ⟨j0, j1, j2, j3, j4⟩ := hi
        have hbw : b < w.heap.size := by omega
        have i0 := (HM.out.only.cell (p := ⟨b, o + k * 5, none⟩) hbw (fun h => h)).trans j0
        have i1 := (HM.out.only.cell (p := ⟨b, o + k * 5 + 1, none⟩) hbw (fun h => h)).trans j1
        have i2 := (HM.out.only.cell (p := ⟨b, o + k * 5 + 2, none⟩) hbw (fun h => h)).trans j2
        have i3 := (HM.out.only.cell (p := ⟨b, o + k * 5 + 3, none⟩) hbw (fun h => h)).trans j3
        have i4 := (HM.out.only.cell (p := ⟨b, o + k * 5 + 4, none⟩) hbw (fun h => h)).trans j4
        clear j0 j1 j2 j3 j4
        have hblt : b < wr.heap.size := by omega
        have HILL : Hid (illP l.length (l.getD k PIns.none) = true → printP l = []) := hide (ill_out hlt)
        have HMN : Hid (jumpsB (l.getD k PIns.none).op = false → marksR l (k + 1) = marksR l k) := hide (marksR_no hlt)
        have HMY : Hid (∀ c : Nat, jumpsB (l.getD k PIns.none).op = true → (l.getD k PIns.none).c = (c : Int) → c ≤ l.length → marksR l (k + 1) = (marksR l k).set! c (.bool true)) := hide (fun c => marksR_yes hlt)
        have HTK := hide (take_next hlt)
        unfold illP mayP at HILL
        generalize hx : l.getD k PIns.none = x at *
        obtain ⟨op, xa, xb, xc, xn⟩ := x
        simp only at *
        cases hmay : mayB op xa xb xc xn with
        | false =>
          have HE : Hid (printP l = []) := hide (HILL.out (by rw [hmay]; rfl))
          go_wp2_with (first
            | (go_at_call 66; refine (rmay_may_any _ _ _ _ _ _).mono ?_; rintro e w1 ⟨rfl, ho⟩; rw [hmay]; have HO := hide ho; clear ho))
          go_ret
          exact ⟨by rw [HE.out]; rfl, (HM.out.only.alloc _).trans HO.out⟩
        | true =>
          obtain ⟨hc0, hc40⟩ := may_c40 hmay
          obtain ⟨xc, rfl⟩ := Int.eq_ofNat_of_zero_le hc0
          cases hj : jumpsB op with
          | false =>
            have hop : ¬ (op = 12 ∨ op = 13) := by simpa [jumpsB] using hj
            have hop1 : (op == 12) = false := by rw [beq_eq_false_iff_ne]; omega
            have hop2 : (op == 13) = false := by rw [beq_eq_false_iff_ne]; omega
            have HI : Hid (illP l.length ⟨op, xa, xb, xc, xn⟩ = false) := hide (by unfold illP mayP; simp only; rw [hmay, hj]; rfl)
            have HM2 := hide (HMN.out hj)
            clear hop
            go_wp2_with (first
              | (go_at_call 66; refine (rmay_may_any _ _ _ _ _ _).mono ?_; rintro e w1 ⟨rfl, ho⟩; rw [hmay]; have hk5 := (Blk.new wr 60 #[.int .i64 op, .int .i64 xa, .int .i64 xb, .int .i64 (xc : Int), .int .u64 xn]).only ho (fun h => h); have hmk := (HM.out.marks.alloc (.cells #[.int .i64 op, .int .i64 xa, .int .i64 xb, .int .i64 (xc : Int), .int .u64 xn] 60)).only ho (fun h => h); have d0 := hk5.cell 0; simp at d0; have HMK := hide hmk; have HO := hide ho; clear ho hk5 hmk))
            refine ⟨⟨k + 1, by omega, by simp, HM.out.next (by rw [HM2.out]; exact HMK.out) ((((Only.refl _ wr).alloc _).trans HO.out).mono (fun _ _ h => h.elim)) HTK.out HI.out⟩, ?_⟩
            show l.length - ((k : Int) + 1).toNat < l.length - ((k : Int)).toNat
            omega
          | true =>
            have hop : op = 12 ∨ op = 13 := by simpa [jumpsB] using hj
            by_cases hcl : l.length < xc
            · have HE : Hid (printP l = []) := hide (HILL.out (by rw [hmay, hj]; simp; omega))
              have hclI : (l.length : Int) < (xc : Int) := by omega
              rcases hop with rfl | rfl
              all_goals
                go_wp2_with (first
                  | (go_at_call 66; refine (rmay_may_any _ _ _ _ _ _).mono ?_; rintro e w1 ⟨rfl, ho⟩; rw [hmay]; have hk5 := (Blk.new wr 60 #[.int .i64 _, .int .i64 xa, .int .i64 xb, .int .i64 (xc : Int), .int .u64 xn]).only ho (fun h => h); have hbx := (HM.out.box.alloc (.cells #[.int .i64 _, .int .i64 xa, .int .i64 xb, .int .i64 (xc : Int), .int .u64 xn] 60)).only ho (fun h => h); have d0 := hk5.cell 0; have d3 := hk5.cell 3; have d5 := hbx.cell 0; simp at d0 d3 d5; have HO := hide ho; clear ho hk5 hbx))
                go_ret
                exact ⟨by rw [HE.out]; rfl, (HM.out.only.alloc _).trans HO.out⟩
            · have hclI : ¬ (l.length : Int) < (xc : Int) := by omega
              have hc1 : xc < l.length + 1 := by omega
              have hc1I : (xc : Int) < (l.length : Int) + 1 := by omega
              have HI : Hid (illP l.length ⟨op, xa, xb, xc, xn⟩ = false) := hide (by unfold illP mayP; simp only; rw [hmay, hj]; simp; omega)
              have HM2 := hide (HMY.out xc hj rfl (by omega))
              rcases hop with rfl | rfl
              all_goals
                go_wp2_with (first
                  | (go_at_call 66; refine (rmay_may_any _ _ _ _ _ _).mono ?_; rintro e w1 ⟨rfl, ho⟩; rw [hmay]; have hk5 := (Blk.new wr 60 #[.int .i64 _, .int .i64 xa, .int .i64 xb, .int .i64 (xc : Int), .int .u64 xn]).only ho (fun h => h); have hbx := (HM.out.box.alloc (.cells #[.int .i64 _, .int .i64 xa, .int .i64 xb, .int .i64 (xc : Int), .int .u64 xn] 60)).only ho (fun h => h); have hmk := (HM.out.marks.alloc (.cells #[.int .i64 _, .int .i64 xa, .int .i64 xb, .int .i64 (xc : Int), .int .u64 xn] 60)).only ho (fun h => h); have d0 := hk5.cell 0; have d3 := hk5.cell 3; have d5 := hbx.cell 0; simp at d0 d3 d5; have ml1 := hmk.lt; have mz := hmk.frozen xc; have mc := (hmk.cell xc).trans (marksR_at l k hc1); have HMK := hide hmk; have HO := hide ho; clear ho hk5 hbx hmk))
                refine ⟨⟨k + 1, by omega, by simp, HM.out.next (by rw [HM2.out]; exact HMK.out.set_ xc _) (Only.setCell (S := fun i => i = w.heap.size + 1) ((((Only.refl _ wr).alloc _).trans HO.out).mono (fun _ _ h => h.elim)) (.inl rfl) _) HTK.out HI.out⟩, ?_⟩
                show l.length - ((k : Int) + 1).toNat < l.length - ((k : Int)).toNat
                omega
      · have hkI : ¬ (k : Int) < (l.length : Int) := by omega
        have hkl : k = l.length := by omega
        subst hkl
        have HQ0 := hide (RQ.start HM.out h40)
        go_wp2_with fail
        go_loopw [6, 7] (fun s c wq => ∃ (k : Nat) (sb : ByteArray), s = .string sb ∧ c = .int .i64 k ∧ k ≤ l.length ∧ RQ w wq l A cap k sb) (fun _ c _ => l.length - (RowKit.intOf c).toNat)
        case atStart => exact ⟨0, _, rfl, rfl, by omega, HQ0.out⟩
        case round =>
          obtain ⟨k, sb, rfl, rfl, hk2, hQ⟩ := hrel
          have HQ := hide hQ
          have g1 := hQ.rm.box.cell 0
          have gl1 := hQ.rm.box.lt
          have ml1 := hQ.rm.marks.lt
          have hsb : sb.size ≤ 8000 := by have := hQ.short; omega
          simp at g1
          by_cases hlt2 : k < l.length
          · have hkI2 : (k : Int) < (l.length : Int) := by omega
            have hkI3 : (k : Int) < (l.length : Int) + 1 := by omega
            have mk1 := (hQ.rm.marks.cell k).trans (marksR_at l l.length (by omega))
            rw [List.take_length] at mk1
            have hmem : l.getD k PIns.none ∈ l := by
              rw [List.getD_eq_getElem?_getD, List.getElem?_eq_getElem hlt2]
              exact List.getElem_mem _
            have hill := hQ.rm.well (l.getD k PIns.none) (by rw [List.take_length]; exact hmem)
            have HMAY := hide (ill_may hill).1
            have HNX := hide (HN.out _ hmem)
            have hll : (lineL (l.getD k PIns.none)).length ≤ 100 := by
              have h1 := (ins_bytes _ (ill_may hill).1 (HN.out _ hmem)).2.1
              rw [ins_line, List.length_append] at h1
              omega
            obtain ⟨b, o, rfl, hlb, hi⟩ := HP.out.at_ hlt2
            obtain ⟨j0, j1, j2, j3, j4⟩ := hi
            have hbw : b < w.heap.size := by omega
            have i0 := (HQ.out.rm.only.cell (p := ⟨b, o + k * 5, none⟩) hbw (fun h => h)).trans j0
            have i1 := (HQ.out.rm.only.cell (p := ⟨b, o + k * 5 + 1, none⟩) hbw (fun h => h)).trans j1
            have i2 := (HQ.out.rm.only.cell (p := ⟨b, o + k * 5 + 2, none⟩) hbw (fun h => h)).trans j2
            have i3 := (HQ.out.rm.only.cell (p := ⟨b, o + k * 5 + 3, none⟩) hbw (fun h => h)).trans j3
            have i4 := (HQ.out.rm.only.cell (p := ⟨b, o + k * 5 + 4, none⟩) hbw (fun h => h)).trans j4
            have HLT := hide hlt2
            have hdl := dec_len k (by omega)
            have HDK := hide (fun W => decimal_any k (by omega) W)
            have HLN := hide (fun W (h : Only Nob w W) => line_any _ HMAY.out HNX.out W (HT.out.only h))
            clear j0 j1 j2 j3 j4 hQ hill hmem
            have hblt : b < wr.heap.size := by omega
            obtain ⟨x, hx⟩ : ∃ x, l.getD k PIns.none = x := ⟨_, rfl⟩
            have HX : Hid (l.getD k PIns.none = x) := hide hx
            rw [hx] at HMAY HNX HLN i0 i1 i2 i3 i4 hll
            clear hx
            obtain ⟨op, xa, xb, xc, xn⟩ := x
            simp only at i0 i1 i2 i3 i4 HNX HLN
            have hlz : (⟨(lineL ⟨op, xa, xb, xc, xn⟩).toArray⟩ : ByteArray).size ≤ 100 := by simpa [ByteArray.size] using hll
            cases hmk : marked l k with
            | true =>
              rw [hmk] at mk1
              go_wp2_with (first
                | (go_at_call 27; refine (HDK.out _).mono ?_; rintro e w2 ⟨rfl, ho2⟩; have hq := HQ.out.rm.nob ho2; have g2 := hq.box.cell 0; have gl2 := hq.box.lt; have i0 := (ho2.cell (p := ⟨b, o + k * 5, none⟩) hblt (fun h => h)).trans i0; have i1 := (ho2.cell (p := ⟨b, o + k * 5 + 1, none⟩) hblt (fun h => h)).trans i1; have i2 := (ho2.cell (p := ⟨b, o + k * 5 + 2, none⟩) hblt (fun h => h)).trans i2; have i3 := (ho2.cell (p := ⟨b, o + k * 5 + 3, none⟩) hblt (fun h => h)).trans i3; have i4 := (ho2.cell (p := ⟨b, o + k * 5 + 4, none⟩) hblt (fun h => h)).trans i4; have hblt2 := Nat.lt_of_lt_of_le hblt ho2.size; simp at g2; have HO2 := hide ho2; clear ho2 hq)
                | (go_at_call 67; refine (HLN.out _ (HQ.out.rm.only.trans HO2.out)).mono ?_; rintro e w3 ⟨rfl, ho3⟩; have HO3 := hide (HO2.out.trans ho3); clear ho3))
              refine ⟨⟨k + 1, _, rfl, by simp, by omega, HQ.out.next HO3.out HLT.out HX.out HMAY.out HNX.out hl40 ?_⟩, ?_⟩
              · rw [label_is hmk]
                simp
              · show l.length - ((k : Int) + 1).toNat < l.length - ((k : Int)).toNat
                omega
            | false =>
              rw [hmk] at mk1
              go_wp2_with (first
                | (go_at_call 67; refine (HLN.out _ HQ.out.rm.only).mono ?_; rintro e w3 ⟨rfl, ho3⟩; have HO3 := hide ho3; clear ho3))
              refine ⟨⟨k + 1, _, rfl, by simp, by omega, HQ.out.next HO3.out HLT.out HX.out HMAY.out HNX.out hl40 ?_⟩, ?_⟩
              · rw [label_no hmk]
                simp
              · show l.length - ((k : Int) + 1).toNat < l.length - ((k : Int)).toNat
                omega
          · have hkl2 : k = l.length := by omega
            subst hkl2
            have hkI2 : ¬ (l.length : Int) < (l.length : Int) := by omega
            have mk1 := (hQ.rm.marks.cell l.length).trans (marksR_at l l.length (by omega))
            rw [List.take_length] at mk1
            clear hQ
            cases hmk : marked l l.length with
            | false =>
              rw [hmk] at mk1
              have HE : Hid (printP l = sb.data.toList) := hide (by
                have := HQ.out.eq
                rw [List.drop_length, linesOfP, labelP, hmk] at this
                simpa using this)
              go_wp2_with fail
              go_ret
              exact ⟨by rw [HE.out]; rfl, HQ.out.rm.only⟩
            | true =>
              rw [hmk] at mk1
              have hdl := dec_len l.length (by omega)
              have HE : Hid (printP l = (sb ++ ⟨#[108]⟩ ++ ⟨(decDigits l.length).toArray⟩ ++ ⟨#[58, 10]⟩).data.toList) := hide (by
                have := HQ.out.eq
                rw [List.drop_length, linesOfP, labelP, hmk] at this
                rw [this]
                simp)
              have HI := hide (fun W => decimal_any l.length (by omega) W)
              go_wp2_with (first
                | (go_at_call 27; refine (HI.out _).mono ?_; rintro e w2 ⟨rfl, ho2⟩; have HO2 := hide ho2; clear ho2))
              go_ret
              exact ⟨by rw [HE.out]; rfl, HQ.out.rm.only.trans HO2.out⟩
end Go.Proofs.YtngahgfppbjebaaDoor

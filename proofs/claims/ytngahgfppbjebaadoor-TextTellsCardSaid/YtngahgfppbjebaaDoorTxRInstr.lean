/-
  The contract of the reference's instruction.
-/
import Derived.Test.YtngahgfppbjebaaDoorGrpTxRInstrD
import Derived.Deep.Cut
import Derived.Deep.CutRange
import Derived.Deep.CutBlock
import Derived.StillTailTactics
namespace Go.Proofs.YtngahgfppbjebaaDoor
open Go.RowKit Go.Lib
set_option linter.unusedVariables false
set_option linter.unusedSimpArgs false

set_option maxHeartbeats 8000000 in
set_option maxRecDepth 100000 in
theorem instruction_any (w : World) (htab : TabAt w) (ws : List Wd) (x0 : Wd) (r : List Wd) (hws : ws = x0 :: r) (A : Option Addr) (n cap endc nl : Nat) (line : Int) (hn : ws.length = n) (hA : SlIn (wordC line) 4 w w.heap.size A ws) (hnn : n ≤ 100000) (hnl : nl ≤ 1000) (hend : endc ≤ 1000000) (hlen : ∀ x ∈ ws, x.s.length ≤ 100000) :
    Calls Tryd.prog 92 #[.slice A n cap, .int .i64 (endc : Int), .int .i64 line, .int .i64 (nl : Int)] w (InstrPost w line (instrQ line.toNat endc nl ws)) := by
  have HA := hide hA
  have HN := hide hn
  have HTB := hide htab
  have HLEN := hide hlen
  have hx0 : ws[0]? = some x0 := by rw [hws]; rfl
  obtain ⟨b, o, rfl, hb, hc⟩ := hA.at_ hx0
  have HC := hide hc
  have HWS := hide hws
  have hn1 : 1 ≤ n := by rw [← hn, hws]; simp
  have hn1I : (0 : Int) < (n : Int) := by omega
  obtain ⟨sx, hsx⟩ : ∃ sx : ByteArray, (⟨x0.s.toArray⟩ : ByteArray) = sx := ⟨_, rfl⟩
  have HSX := hide hsx
  have c0 := hc 0 _ rfl
  have c2 := hc 2 _ rfl
  have c3 := hc 3 _ rfl
  rw [hsx] at c0
  simp only [Nat.add_zero, Nat.zero_mul] at c0 c2 c3
  obtain ⟨bd, hbd⟩ : ∃ bd, x0.bad = bd := ⟨_, rfl⟩
  have HBD := hide hbd
  rw [hbd] at c3
  obtain ⟨cl, hcl⟩ : ∃ cl, x0.col = cl := ⟨_, rfl⟩
  have HCL := hide hcl
  rw [hcl] at c2
  clear hA hn htab hlen hc hx0 hsx hbd hcl hws
  go_enter Tryd.func92, Tryd.ntmps92
  go_wp2
  go_loopw [12] (fun cv wr => ∃ k : Nat, k ≤ 23 ∧ cv = .int .i64 ((k : Int) + 1) ∧ IW w wr ⟨opW bd sx k, 0, 0, 0, 0⟩) (fun cv _ => 24 - (RowKit.intOf cv).toNat)
  case atStart => exact ⟨0, by omega, by simp, by rw [opW_zero]; exact IW.start w⟩
  case round =>
    obtain ⟨k, hk, rfl, hI⟩ := hrel
    have HI := hide hI
    have hsz := hI.only.size
    have hl11 := hI.b11.lt
    have hf11 := hI.b11.frozen 0
    have y0 := hI.b11.cell 0
    simp at y0
    have z0 := (hI.only.cell (p := ⟨b, o, none⟩) hb (fun h => h)).trans c0
    have z2 := (hI.only.cell (p := ⟨b, o + 2, none⟩) hb (fun h => h)).trans c2
    have z3 := (hI.only.cell (p := ⟨b, o + 3, none⟩) hb (fun h => h)).trans c3
    clear hI
    have hbw : b < wr.heap.size := by omega
    by_cases hlt : k < 23
    · have hkI : (k : Int) + 1 ≤ 23 := by omega
      have hop : opB ((k : Int) + 1) = true := by unfold opB; simp; omega
      have hat : atList nameList ((k : Int) + 1) = nameList.getD (k + 1) ⟨#[]⟩ := by
        unfold atList
        rw [if_pos (by omega), show ((k : Int) + 1).toNat = k + 1 by omega]
      have HROW := hide (fun W => rowOf_any ((k : Int) + 1) W)
      unfold RowPost at HROW
      rw [hop, hat] at HROW
      clear hat hop
      generalize rA ((k : Int) + 1) = ra at HROW
      generalize rB ((k : Int) + 1) = rb at HROW
      generalize rC ((k : Int) + 1) = rc at HROW
      generalize rN ((k : Int) + 1) = rn at HROW
      cases bd with
      | true =>
        generalize nameList.getD (k + 1) ⟨#[]⟩ = nm at HROW
        go_wp2_with (go_at_call 93; refine (HROW.out _).mono ?_; rintro e w2 ⟨rfl, rfl⟩)
        go_quiet (fail)
        go_wp2_with fail
        refine ⟨⟨k + 1, by omega, by simp, IW.nob (y := ⟨opW true sx (k + 1), 0, 0, 0, 0⟩) HI.out (by repeat' (first | (with_reducible refine Only.alloc ?_ _) | (with_reducible refine Only.drewN ?_ _) | (with_reducible refine Only.drew ?_) | (with_reducible exact Only.refl _ _)))⟩, ?_⟩
        simp [RowKit.intOf]
        omega
      | false =>
        by_cases hnm : nameList.getD (k + 1) ⟨#[]⟩ = sx
        · have he := str_eq_true hnm
          have HO := hide (opW_hit hnm)
          clear hnm
          generalize nameList.getD (k + 1) ⟨#[]⟩ = nm at *
          go_wp2_with (go_at_call 93; refine (HROW.out _).mono ?_; rintro e w2 ⟨rfl, rfl⟩)
          go_quiet (fail)
          have hiq : IW w (((wr.alloc (.cells #[.string nm, .int .i64 ra, .int .i64 rb, .int .i64 rc, .bool rn] 169)).alloc (.cells #[.string nm, .int .i64 ra, .int .i64 rb, .int .i64 rc, .bool rn] 169)).drewN nq) ⟨opW false sx k, 0, 0, 0, 0⟩ := IW.nob HI.out ((((Only.refl _ _).alloc _).alloc _).drewN _)
          have HIQ := hide hiq
          obtain ⟨wq, hwq⟩ : ∃ wq, wq = (((wr.alloc (.cells #[.string nm, .int .i64 ra, .int .i64 rb, .int .i64 rc, .bool rn] 169)).alloc (.cells #[.string nm, .int .i64 ra, .int .i64 rb, .int .i64 rc, .bool rn] 169)).drewN nq) := ⟨_, rfl⟩
          rw [← hwq] at hiq HIQ ⊢
          clear hwq
          have y1 := hiq.b11.cell 0
          have y2 := hiq.b11.frozen 0
          have y3 := hiq.b11.lt
          simp at y1
          clear hiq
          go_wp2_with fail
          refine ⟨⟨k + 1, by omega, by simp, by rw [HO.out]; exact IW.setOp (y := ⟨opW false sx k, 0, 0, 0, 0⟩) HIQ.out _⟩, ?_⟩
          simp [RowKit.intOf]
          omega
        · have he := str_eq_false hnm
          have HO := hide (opW_miss hnm)
          clear hnm
          generalize nameList.getD (k + 1) ⟨#[]⟩ = nm at *
          go_wp2_with (go_at_call 93; refine (HROW.out _).mono ?_; rintro e w2 ⟨rfl, rfl⟩)
          go_quiet (fail)
          go_wp2_with fail
          refine ⟨⟨k + 1, by omega, by simp, by rw [HO.out]; exact IW.nob HI.out (by repeat' (first | (with_reducible refine Only.alloc ?_ _) | (with_reducible refine Only.drewN ?_ _) | (with_reducible refine Only.drew ?_) | (with_reducible exact Only.refl _ _)))⟩, ?_⟩
          simp [RowKit.intOf]
          omega
    · have hkI : ¬ (k : Int) + 1 ≤ 23 := by omega
      have hk23 : k = 23 := by omega
      subst hk23
      clear y0
      rcases opW_end bd sx with ⟨e1, e2⟩ | ⟨e1, e2, e3, e4⟩
      · have HQ : Hid (instrQ line.toNat endc nl ws = .err cl 12) := hide (by
          rw [HWS.out, instrQ, HSX.out, HBD.out, if_pos e1, HCL.out])
        have HROW := hide (fun W => rowOf_any 0 W)
        have h0 : opB 0 = false := by decide
        unfold RowPost at HROW
        rw [h0] at HROW
        clear h0 e1
        generalize atList nameList 0 = nm at HROW
        generalize rA 0 = ra at HROW
        generalize rB 0 = rb at HROW
        generalize rC 0 = rc at HROW
        generalize rN 0 = rn at HROW
        rw [e2] at HI
        have hic := HI.out.cells
        obtain ⟨cb8_0, cb8_1, cb8_2, cb8_3, cb8_4, fb8_0, fb8_1, fb8_2, fb8_3, fb8_4, lb8, cb9_0, cb9_1, cb9_2, cb9_3, fb9_0, fb9_1, fb9_2, fb9_3, lb9, cb10_0, cb10_1, cb10_2, fb10_0, fb10_1, fb10_2, lb10, cb11_0, cb11_1, cb11_2, cb11_3, cb11_4, fb11_0, fb11_1, fb11_2, fb11_3, fb11_4, lb11⟩ := hic
        go_upto_region 10 with (go_at_call 93; refine (HROW.out _).mono ?_; rintro e w2 ⟨rfl, rfl⟩)
        go_region
        go_wp2_with fail
        exact instr_err HI.out ⟨0, 0, 0, 0, 0⟩ (ei := 12) HQ.out rfl rfl rfl rfl rfl (by unfold putW; repeat' (first | (with_reducible refine Only.alloc ?_ _) | (with_reducible refine Only.drewN ?_ _) | (with_reducible refine Only.drew ?_) | (with_reducible exact Only.refl _ _)))
      · obtain ⟨op, hop⟩ : ∃ op, numOf nameList sx = op := ⟨_, rfl⟩
        rw [hop] at e2 e3 e4
        have HOP : Hid (1 ≤ op ∧ op ≤ 23) := hide ⟨e3, e4⟩
        have HQ0 : Hid (instrQ line.toNat endc nl ws = if 40 ≤ nl then .err cl 4 else fieldsQ line.toNat endc nl (kindsP op) r ⟨op, 0, 0, 0, 0⟩ []) := hide (by
          rw [HWS.out, instrQ, HSX.out, HBD.out, e1, HCL.out, hop]
          rfl)
        rw [e2] at HI
        have HROW := hide (fun W => rowOf_any op W)
        have h0 : opB op = true := by unfold opB; simp; omega
        unfold RowPost at HROW
        rw [h0] at HROW
        have HF := hide (fun (f : Nat) (hf : f < 4) (h : kindR op f = none) => noFld_none hf h)
        have HG := hide (fun (f : Nat) (kd : UInt8) (hf : f < 4) (h : kindR op f = some kd) => noFld_some hf h)
        have HFA := hide (fun (x : PIns) (hx : x.op = op) (f : Nat) (kd : UInt8) (hk : kindR op f = some kd) (hj : kd ≠ 106) (nm s : ByteArray) (line col : Int) (bad : Bool) (hsz : s.size ≤ 1000000) (W : World) (ht : TabAt W) => rfield_any W ht x (by rw [hx]; exact HOP.out) f kd (by rw [hx]; exact hk) hj nm s line col bad hsz)
        have HFB : Hid (∀ (xa xb xc xn : Int) (f : Nat) (fi : Int) (hfi : fi = (f : Int)) (kd : UInt8) (hk : kindR op f = some kd) (hj : kd ≠ 106) (nm s : ByteArray) (line col : Int) (bad : Bool) (hsz : s.size ≤ 1000000) (p : Option PIns) (hp : (if bad = true then none else fieldP kd s.data.toList ⟨op, xa, xb, xc, xn⟩) = p) (W : World) (ht : TabAt W), Calls Tryd.prog 113 #[.agg #[.int .i64 op, .int .i64 xa, .int .i64 xb, .int .i64 xc, .int .u64 xn], .int .i64 fi, .agg #[.string nm, .int .i64 (rA op), .int .i64 (rB op), .int .i64 (rC op), .bool (rN op)], .agg #[.string s, .int .i64 line, .int .i64 col, .bool bad]] W (RFieldPost W p)) := hide (fun xa xb xc xn f fi hfi kd hk hj nm s line col bad hsz p hp W ht => by
          subst hfi hp
          exact HFA.out ⟨op, xa, xb, xc, xn⟩ rfl f kd hk hj nm s line col bad hsz W ht)
        clear HFA
        unfold noFld at HF HG
        clear h0 e1 e2 hop
        generalize atList nameList op = nm at HROW
        generalize rA op = ra at HROW HF HG HFB
        generalize rB op = rb at HROW HF HG HFB
        generalize rC op = rc at HROW HF HG HFB
        generalize rN op = rn at HROW HF HG HFB
        have hic := HI.out.cells
        obtain ⟨cb8_0, cb8_1, cb8_2, cb8_3, cb8_4, fb8_0, fb8_1, fb8_2, fb8_3, fb8_4, lb8, cb9_0, cb9_1, cb9_2, cb9_3, fb9_0, fb9_1, fb9_2, fb9_3, lb9, cb10_0, cb10_1, cb10_2, fb10_0, fb10_1, fb10_2, lb10, cb11_0, cb11_1, cb11_2, cb11_3, cb11_4, fb11_0, fb11_1, fb11_2, fb11_3, fb11_4, lb11⟩ := hic
        by_cases hn40 : 40 ≤ nl
        · have hnI : (40 : Int) ≤ (nl : Int) := by omega
          have HQ : Hid (instrQ line.toNat endc nl ws = .err cl 4) := hide (by rw [HQ0.out, if_pos hn40])
          go_upto_region 12 with (go_at_call 93; refine (HROW.out _).mono ?_; rintro e w2 ⟨rfl, rfl⟩)
          go_region
          go_wp2_with fail
          exact instr_err HI.out ⟨op, 0, 0, 0, 0⟩ (ei := 4) HQ.out rfl rfl rfl rfl rfl (by unfold putW; repeat' (first | (with_reducible refine Only.alloc ?_ _) | (with_reducible refine Only.drewN ?_ _) | (with_reducible refine Only.drew ?_) | (with_reducible exact Only.refl _ _)))
        · have hnI : ¬ (40 : Int) ≤ (nl : Int) := by omega
          have HQ : Hid (instrQ line.toNat endc nl ws = fieldsQ line.toNat endc nl (kindsFrom op 0) (ws.drop 1) ⟨op, 0, 0, 0, 0⟩ []) := hide (by rw [HQ0.out, if_neg hn40, kinds_from HOP.out, HWS.out]; rfl)
          clear HQ0
          obtain ⟨w1, hw1⟩ : ∃ w1, w1 = wr := ⟨_, rfl⟩
          subst hw1
          go_wp2_with (go_at_call 93; refine (HROW.out _).mono ?_; rintro e w2 ⟨rfl, rfl⟩)
          have hsz1 := HI.out.only.size
          have lb1 := HI.out.b11.lt
          go_loopw [18, 19] (fun c18 c19 wx => ∃ (k f : Nat) (fi xa xb xc xn : Int) (js : List JP) (s : ByteArray) (jl jc : Int) (jb : Bool), c18 = .int .i64 (k : Int) ∧ c19 = .int .i64 fi ∧ fi = (f : Int) ∧ k ≤ n ∧ f ≤ 4 ∧ IW w wx ⟨op, xa, xb, xc, xn⟩ ∧ Blk wx (w1.heap.size + 1) 169 #[.string nm, .int .i64 ra, .int .i64 rb, .int .i64 rc, .bool rn] ∧ Blk wx (w1.heap.size + 1 + 1) 160 #[.string s, .int .i64 jl, .int .i64 jc, .bool jb] ∧ JR line js s jl jc jb ∧ Hid (instrQ line.toNat endc nl ws = fieldsQ line.toNat endc nl (kindsFrom op f) (ws.drop k) ⟨op, xa, xb, xc, xn⟩ js) ∧ (f ≤ 2 → js = [])) (fun _ c19 _ => 4 - (RowKit.intOf c19).toNat)
          case atStart => exact ⟨1, 0, 0, 0, 0, 0, 0, [], ⟨#[]⟩, 0, 0, false, rfl, rfl, rfl, hn1, by omega, HI.out.nob (by repeat' (first | (with_reducible refine Only.alloc ?_ _) | (with_reducible refine Only.drewN ?_ _) | (with_reducible refine Only.drew ?_) | (with_reducible exact Only.refl _ _))), (Blk.new' (by simp)).alloc _, Blk.new' (by simp), rfl, HQ, fun _ => rfl⟩
          case round =>
            obtain ⟨k, f, fi, xa, xb, xc, xn, js, s, jl, jc, jb, rfl, rfl, hfi, hk, hf, hI, hR, hJ, hjr, hQ, hjs⟩ := hrel
            have HI2 := hide hI
            have HR2 := hide hR
            have HJ2 := hide hJ
            have HJR := hide hjr
            have HJS := hide hjs
            have HIC : Hid (∀ w2 : World, Only Nob wr w2 → IW w w2 ⟨op, xa, xb, xc, xn⟩ ∧ Blk w2 (w1.heap.size + 1) 169 #[.string nm, .int .i64 ra, .int .i64 rb, .int .i64 rc, .bool rn] ∧ Blk w2 (w1.heap.size + 1 + 1) 160 #[.string s, .int .i64 jl, .int .i64 jc, .bool jb]) := hide (fun w2 ho => ⟨hI.nob ho, hR.only ho (fun h => h), hJ.only ho (fun h => h)⟩)
            clear cb8_0 cb8_1 cb8_2 cb8_3 cb8_4 fb8_0 fb8_1 fb8_2 fb8_3 fb8_4 lb8 cb9_0 cb9_1 cb9_2 cb9_3 fb9_0 fb9_1 fb9_2 fb9_3 lb9 cb10_0 cb10_1 cb10_2 fb10_0 fb10_1 fb10_2 lb10 cb11_0 cb11_1 cb11_2 cb11_3 cb11_4 fb11_0 fb11_1 fb11_2 fb11_3 fb11_4 lb11
            have hic := hI.cells
            obtain ⟨cb8_0, cb8_1, cb8_2, cb8_3, cb8_4, fb8_0, fb8_1, fb8_2, fb8_3, fb8_4, lb8, cb9_0, cb9_1, cb9_2, cb9_3, fb9_0, fb9_1, fb9_2, fb9_3, lb9, cb10_0, cb10_1, cb10_2, fb10_0, fb10_1, fb10_2, lb10, cb11_0, cb11_1, cb11_2, cb11_3, cb11_4, fb11_0, fb11_1, fb11_2, fb11_3, fb11_4, lb11⟩ := hic
            have r0 := hR.cell 0
            have r1 := hR.cell 1
            have r2 := hR.cell 2
            have r3 := hR.cell 3
            have r4 := hR.cell 4
            have j0 := hJ.cell 0
            have j1 := hJ.cell 1
            have j2 := hJ.cell 2
            have j3 := hJ.cell 3
            have jf0 := hJ.frozen 0
            have jf1 := hJ.frozen 1
            have jf2 := hJ.frozen 2
            have jf3 := hJ.frozen 3
            have hl15 := hR.lt
            have hl17 := hJ.lt
            simp at r0 r1 r2 r3 r4 j0 j1 j2 j3
            have hwsz := hI.only.size
            have htw := HTB.out.only hI.only
            have HT2 := hide htw
            have HW : Hid (∀ y, ws[k]? = some y → wr.cell? ⟨b, o + k * 4, none⟩ = some (.string ⟨y.s.toArray⟩) ∧ wr.cell? ⟨b, o + k * 4 + 1, none⟩ = some (.int .i64 line) ∧ wr.cell? ⟨b, o + k * 4 + 2, none⟩ = some (.int .i64 (y.col : Int)) ∧ wr.cell? ⟨b, o + k * 4 + 3, none⟩ = some (.bool y.bad)) := hide (fun y hy => by
              obtain ⟨b2, o2, he, hb2, hc2⟩ := HA.out.at_ hy
              injection he with he
              injection he with he1 he2 _
              subst he1 he2
              exact ⟨(hI.only.cell (p := ⟨b, o + k * 4, none⟩) hb2 (fun h => h)).trans (hc2 0 _ rfl), (hI.only.cell (p := ⟨b, o + k * 4 + 1, none⟩) hb2 (fun h => h)).trans (hc2 1 _ rfl), (hI.only.cell (p := ⟨b, o + k * 4 + 2, none⟩) hb2 (fun h => h)).trans (hc2 2 _ rfl), (hI.only.cell (p := ⟨b, o + k * 4 + 3, none⟩) hb2 (fun h => h)).trans (hc2 3 _ rfl)⟩)
            clear hI hR hJ hjr hjs htw
            have hbw : b < wr.heap.size := by omega
            rcases (by omega : f = 0 ∨ f = 1 ∨ f = 2 ∨ f = 3 ∨ f = 4) with rfl | rfl | rfl | rfl | rfl
            · obtain rfl : fi = 0 := hfi
              have hix : ∀ W, (Instr.index 173 (.agg #[.int .i64 ra, .int .i64 rb, .int .i64 rc]) (.int .i64 0)).run Tryd.prog W = .ok (.int .i64 ra) W := fun _ => by kernel_rfl
              cases hkd : kindR op 0 with
              | none =>
                have hs : ra < 0 := by have h := HF.out 0 (by omega) hkd; simpa using h
                have HQ2 : Hid (instrQ line.toNat endc nl ws = fieldsQ line.toNat endc nl (kindsFrom op 1) (ws.drop k) ⟨op, xa, xb, xc, xn⟩ js) := hide (by rw [hQ.out, kinds_step op (show (0:Nat) < 4 by decide), hkd]; simp only [Option.toList, List.singleton_append, List.nil_append])
                clear hkd hQ
                go_wp2_with fail
                refine ⟨⟨k, 1, _, xa, xb, xc, xn, js, s, jl, jc, jb, rfl, rfl, by simp, hk, by omega, HI2.out, HR2.out, HJ2.out, HJR.out, HQ2, by intro _; exact HJS.out (by omega)⟩, ?_⟩
                simp [RowKit.intOf]
              | some kd =>
                have hs : ¬ (ra < 0) := by have h := HG.out 0 kd (by omega) hkd; simpa using h
                have hQ2 : Hid (instrQ line.toNat endc nl ws = fieldsQ line.toNat endc nl (kd :: kindsFrom op 1) (ws.drop k) ⟨op, xa, xb, xc, xn⟩ js) := hide (by rw [hQ.out, kinds_step op (show (0:Nat) < 4 by decide), hkd]; simp only [Option.toList, List.singleton_append, List.nil_append])
                have HKD := hide hkd
                clear hkd hQ
                by_cases hkn : k < n
                · have hknI : ¬ (n : Int) ≤ (k : Int) := by omega
                  have hknJ : (k : Int) < (n : Int) := by omega
                  obtain ⟨yw, hy⟩ : ∃ yw, ws[k]? = some yw := ⟨_, List.getElem?_eq_getElem (by have := HN.out; omega)⟩
                  have HDR := hide (drop_some hy)
                  obtain ⟨q0, q1, q2, q3⟩ := HW.out yw hy
                  have HYL : Hid (yw.s.length ≤ 100000) := hide (HLEN.out yw (List.mem_of_getElem? hy))
                  clear hy
                  obtain ⟨ys, yc, yb⟩ := yw
                  simp only at q0 q1 q2 q3
                  obtain ⟨sy, hsy⟩ : ∃ sy : ByteArray, (⟨ys.toArray⟩ : ByteArray) = sy := ⟨_, rfl⟩
                  have HSY : Hid (sy.data.toList = ys) := hide (by rw [← hsy])
                  have HSZ : Hid (sy.size ≤ 1000000) := hide (by have h1 := HYL.out; rw [← hsy]; simp only at h1; show ys.toArray.size ≤ _; simp; omega)
                  rw [hsy] at q0
                  clear hsy
                  rw [HDR.out] at hQ2
                  clear HDR
                  have hkj : kd ≠ 106 := fun h => by have := (kind_jump (h ▸ HKD.out)).1; omega
                  obtain ⟨p, hp⟩ : ∃ p, (if yb = true then none else fieldP kd ys ⟨op, xa, xb, xc, xn⟩) = p := ⟨_, rfl⟩
                  have HC2 : Hid (∀ W, TabAt W → Calls Tryd.prog 113 #[.agg #[.int .i64 op, .int .i64 xa, .int .i64 xb, .int .i64 xc, .int .u64 xn], .int .i64 0, .agg #[.string nm, .int .i64 ra, .int .i64 rb, .int .i64 rc, .bool rn], .agg #[.string sy, .int .i64 line, .int .i64 (yc : Int), .bool yb]] W (RFieldPost W p)) := hide (fun W ht => by
                    exact HFB.out xa xb xc xn 0 0 rfl kd HKD.out hkj nm sy line (yc : Int) yb HSZ.out p (by rw [HSY.out]; exact hp) W ht)
                  have hQ3 : Hid (instrQ line.toNat endc nl ws = match (generalizing := false) p with | none => .err yc 12 | some x2 => fieldsQ line.toNat endc nl (kindsFrom op 1) (ws.drop (k + 1)) x2 js) := hide (by rw [hQ2.out, fieldsQ_step _ _ _ _ _ _ _ _ _ hp, if_neg hkj]; cases p <;> rfl)
                  have HOPP : Hid (∀ x2, p = some x2 → x2.op = op) := hide (fun x2 h => by
                    rw [← hp] at h
                    split at h
                    · cases h
                    · exact fieldP_op h)
                  clear hp hQ2 hkj
                  cases p with
                  | none =>
                    have HQE : Hid (instrQ line.toNat endc nl ws = .err yc 12) := hide (by rw [hQ3.out])
                    clear hQ3
                    go_upto_region 28 with (go_at_call 113; refine (HC2.out _ (HT2.out.only ((Only.refl _ _).alloc _))).mono ?_; rintro e w2 hpost; obtain ⟨yo, ya, yb2, yc2, yn, rfl, ho⟩ := rfield_no hpost; clear hpost; have ho2 : Only Nob wr w2 := Only.trans ((Only.refl _ _).alloc (.cells #[.string sy, .int .i64 line, .int .i64 (yc : Int), .bool yb] 160)) ho; obtain ⟨hI4, hR4, hJ4⟩ := HIC.out w2 ho2; have HI4 := hide hI4; have HR4 := hide hR4; have HJ4 := hide hJ4; have hW4 : Blk w2 wr.heap.size 160 #[.string sy, .int .i64 line, .int .i64 (yc : Int), .bool yb] := (Blk.new wr _ _).only ho (fun h => h); have HW4 := hide hW4; have hic4 := hI4.cells; obtain ⟨cb8_0, cb8_1, cb8_2, cb8_3, cb8_4, fb8_0, fb8_1, fb8_2, fb8_3, fb8_4, lb8, cb9_0, cb9_1, cb9_2, cb9_3, fb9_0, fb9_1, fb9_2, fb9_3, lb9, cb10_0, cb10_1, cb10_2, fb10_0, fb10_1, fb10_2, lb10, cb11_0, cb11_1, cb11_2, cb11_3, cb11_4, fb11_0, fb11_1, fb11_2, fb11_3, fb11_4, lb11⟩ := hic4; have hw40 := hW4.cell 0; have hw42 := hW4.cell 2; have hw4l := hW4.lt; simp at hw40 hw42; clear hI4 hR4 hJ4 hW4 ho ho2)
                    have hI5 := HI4.out.setAll ⟨yo, ya, yb2, yc2, yn⟩
                    have hW5 := blk_far5 (b := w.heap.size + 1 + 1 + 1) HW4.out (by omega) (.int .i64 yo) (.int .i64 ya) (.int .i64 yb2) (.int .i64 yc2) (.int .u64 yn)
                    obtain ⟨w3, hw3⟩ : ∃ w3, w3 = (((((w2.setCell ⟨w.heap.size + 1 + 1 + 1, 0, none⟩ (.int .i64 yo)).setCell ⟨w.heap.size + 1 + 1 + 1, 1, none⟩ (.int .i64 ya)).setCell ⟨w.heap.size + 1 + 1 + 1, 2, none⟩ (.int .i64 yb2)).setCell ⟨w.heap.size + 1 + 1 + 1, 3, none⟩ (.int .i64 yc2)).setCell ⟨w.heap.size + 1 + 1 + 1, 4, none⟩ (.int .u64 yn)) := ⟨_, rfl⟩
                    rw [← hw3] at hI5 hW5 ⊢
                    clear hw3 hw40 hw42 hw4l HI4 HR4 HJ4 HW4
                    have HI5 := hide hI5
                    have hic5 := hI5.cells
                    obtain ⟨cb8_0, cb8_1, cb8_2, cb8_3, cb8_4, fb8_0, fb8_1, fb8_2, fb8_3, fb8_4, lb8, cb9_0, cb9_1, cb9_2, cb9_3, fb9_0, fb9_1, fb9_2, fb9_3, lb9, cb10_0, cb10_1, cb10_2, fb10_0, fb10_1, fb10_2, lb10, cb11_0, cb11_1, cb11_2, cb11_3, cb11_4, fb11_0, fb11_1, fb11_2, fb11_3, fb11_4, lb11⟩ := hic5
                    have hw50 := hW5.cell 0
                    have hw52 := hW5.cell 2
                    have hw5l := hW5.lt
                    simp at hw50 hw52
                    clear hI5 hW5
                    go_upto_region 29 with (fail)
                    go_region
                    go_wp2_with fail
                    exact instr_err HI5.out ⟨yo, ya, yb2, yc2, yn⟩ (ei := 12) HQE.out rfl rfl rfl rfl rfl (by unfold putW; repeat' (first | (with_reducible refine Only.alloc ?_ _) | (with_reducible refine Only.drewN ?_ _) | (with_reducible refine Only.drew ?_) | (with_reducible exact Only.refl _ _)))
                  | some x2 =>
                    obtain ⟨xo2, xa2, xb2, xc2, xn2⟩ := x2
                    obtain rfl : xo2 = op := HOPP.out _ rfl
                    clear HOPP
                    have HQ2 : Hid (instrQ line.toNat endc nl ws = fieldsQ line.toNat endc nl (kindsFrom xo2 1) (ws.drop (k + 1)) ⟨xo2, xa2, xb2, xc2, xn2⟩ js) := hide (by rw [hQ3.out])
                    clear hQ3
                    go_wp2_with (go_at_call 113; refine (HC2.out _ (HT2.out.only ((Only.refl _ _).alloc _))).mono ?_; rintro e w2 hpost; obtain ⟨rfl, ho⟩ := rfield_yes rfl hpost; clear hpost; have ho2 : Only Nob wr w2 := Only.trans ((Only.refl _ _).alloc (.cells #[.string sy, .int .i64 line, .int .i64 (yc : Int), .bool yb] 160)) ho; obtain ⟨hI4, hR4, hJ4⟩ := HIC.out w2 ho2; have HI4 := hide hI4; have HR4 := hide hR4; have HJ4 := hide hJ4; have hW4 : Blk w2 wr.heap.size 160 #[.string sy, .int .i64 line, .int .i64 (yc : Int), .bool yb] := (Blk.new wr _ _).only ho (fun h => h); have HW4 := hide hW4; have hic4 := hI4.cells; obtain ⟨cb8_0, cb8_1, cb8_2, cb8_3, cb8_4, fb8_0, fb8_1, fb8_2, fb8_3, fb8_4, lb8, cb9_0, cb9_1, cb9_2, cb9_3, fb9_0, fb9_1, fb9_2, fb9_3, lb9, cb10_0, cb10_1, cb10_2, fb10_0, fb10_1, fb10_2, lb10, cb11_0, cb11_1, cb11_2, cb11_3, cb11_4, fb11_0, fb11_1, fb11_2, fb11_3, fb11_4, lb11⟩ := hic4; have hw40 := hW4.cell 0; have hw42 := hW4.cell 2; have hw4l := hW4.lt; simp at hw40 hw42; clear hI4 hR4 hJ4 hW4 ho ho2)
                    refine ⟨⟨k + 1, 1, _, xa2, xb2, xc2, xn2, js, s, jl, jc, jb, by simp, rfl, by simp, by omega, by omega, HI4.out.setAll ⟨xo2, xa2, xb2, xc2, xn2⟩, blk_far5 HR4.out (by omega) _ _ _ _ _, blk_far5 HJ4.out (by omega) _ _ _ _ _, HJR.out, HQ2, by intro _; exact HJS.out (by omega)⟩, ?_⟩
                    simp [RowKit.intOf]
                · have hknI : (n : Int) ≤ (k : Int) := by omega
                  have HQE : Hid (instrQ line.toNat endc nl ws = .err endc 12) := hide (by rw [hQ2.out, List.drop_eq_nil_of_le (by have := HN.out; omega)]; rfl)
                  clear hQ2
                  go_wp2_with fail
                  exact instr_err HI2.out ⟨op, xa, xb, xc, xn⟩ (ei := 12) HQE.out rfl rfl rfl rfl rfl (by unfold putW; repeat' (first | (with_reducible refine Only.alloc ?_ _) | (with_reducible refine Only.drewN ?_ _) | (with_reducible refine Only.drew ?_) | (with_reducible exact Only.refl _ _)))
            · obtain rfl : fi = 1 := hfi
              have hix : ∀ W, (Instr.index 173 (.agg #[.int .i64 ra, .int .i64 rb, .int .i64 rc]) (.int .i64 1)).run Tryd.prog W = .ok (.int .i64 rb) W := fun _ => by kernel_rfl
              cases hkd : kindR op 1 with
              | none =>
                have hs : rb < 0 := by have h := HF.out 1 (by omega) hkd; simpa using h
                have HQ2 : Hid (instrQ line.toNat endc nl ws = fieldsQ line.toNat endc nl (kindsFrom op 2) (ws.drop k) ⟨op, xa, xb, xc, xn⟩ js) := hide (by rw [hQ.out, kinds_step op (show (1:Nat) < 4 by decide), hkd]; simp only [Option.toList, List.singleton_append, List.nil_append])
                clear hkd hQ
                go_wp2_with fail
                refine ⟨⟨k, 2, _, xa, xb, xc, xn, js, s, jl, jc, jb, rfl, rfl, by simp, hk, by omega, HI2.out, HR2.out, HJ2.out, HJR.out, HQ2, by intro _; exact HJS.out (by omega)⟩, ?_⟩
                simp [RowKit.intOf]
              | some kd =>
                have hs : ¬ (rb < 0) := by have h := HG.out 1 kd (by omega) hkd; simpa using h
                have hQ2 : Hid (instrQ line.toNat endc nl ws = fieldsQ line.toNat endc nl (kd :: kindsFrom op 2) (ws.drop k) ⟨op, xa, xb, xc, xn⟩ js) := hide (by rw [hQ.out, kinds_step op (show (1:Nat) < 4 by decide), hkd]; simp only [Option.toList, List.singleton_append, List.nil_append])
                have HKD := hide hkd
                clear hkd hQ
                by_cases hkn : k < n
                · have hknI : ¬ (n : Int) ≤ (k : Int) := by omega
                  have hknJ : (k : Int) < (n : Int) := by omega
                  obtain ⟨yw, hy⟩ : ∃ yw, ws[k]? = some yw := ⟨_, List.getElem?_eq_getElem (by have := HN.out; omega)⟩
                  have HDR := hide (drop_some hy)
                  obtain ⟨q0, q1, q2, q3⟩ := HW.out yw hy
                  have HYL : Hid (yw.s.length ≤ 100000) := hide (HLEN.out yw (List.mem_of_getElem? hy))
                  clear hy
                  obtain ⟨ys, yc, yb⟩ := yw
                  simp only at q0 q1 q2 q3
                  obtain ⟨sy, hsy⟩ : ∃ sy : ByteArray, (⟨ys.toArray⟩ : ByteArray) = sy := ⟨_, rfl⟩
                  have HSY : Hid (sy.data.toList = ys) := hide (by rw [← hsy])
                  have HSZ : Hid (sy.size ≤ 1000000) := hide (by have h1 := HYL.out; rw [← hsy]; simp only at h1; show ys.toArray.size ≤ _; simp; omega)
                  rw [hsy] at q0
                  clear hsy
                  rw [HDR.out] at hQ2
                  clear HDR
                  have hkj : kd ≠ 106 := fun h => by have := (kind_jump (h ▸ HKD.out)).1; omega
                  obtain ⟨p, hp⟩ : ∃ p, (if yb = true then none else fieldP kd ys ⟨op, xa, xb, xc, xn⟩) = p := ⟨_, rfl⟩
                  have HC2 : Hid (∀ W, TabAt W → Calls Tryd.prog 113 #[.agg #[.int .i64 op, .int .i64 xa, .int .i64 xb, .int .i64 xc, .int .u64 xn], .int .i64 1, .agg #[.string nm, .int .i64 ra, .int .i64 rb, .int .i64 rc, .bool rn], .agg #[.string sy, .int .i64 line, .int .i64 (yc : Int), .bool yb]] W (RFieldPost W p)) := hide (fun W ht => by
                    exact HFB.out xa xb xc xn 1 1 rfl kd HKD.out hkj nm sy line (yc : Int) yb HSZ.out p (by rw [HSY.out]; exact hp) W ht)
                  have hQ3 : Hid (instrQ line.toNat endc nl ws = match (generalizing := false) p with | none => .err yc 12 | some x2 => fieldsQ line.toNat endc nl (kindsFrom op 2) (ws.drop (k + 1)) x2 js) := hide (by rw [hQ2.out, fieldsQ_step _ _ _ _ _ _ _ _ _ hp, if_neg hkj]; cases p <;> rfl)
                  have HOPP : Hid (∀ x2, p = some x2 → x2.op = op) := hide (fun x2 h => by
                    rw [← hp] at h
                    split at h
                    · cases h
                    · exact fieldP_op h)
                  clear hp hQ2 hkj
                  cases p with
                  | none =>
                    have HQE : Hid (instrQ line.toNat endc nl ws = .err yc 12) := hide (by rw [hQ3.out])
                    clear hQ3
                    go_upto_region 28 with (go_at_call 113; refine (HC2.out _ (HT2.out.only ((Only.refl _ _).alloc _))).mono ?_; rintro e w2 hpost; obtain ⟨yo, ya, yb2, yc2, yn, rfl, ho⟩ := rfield_no hpost; clear hpost; have ho2 : Only Nob wr w2 := Only.trans ((Only.refl _ _).alloc (.cells #[.string sy, .int .i64 line, .int .i64 (yc : Int), .bool yb] 160)) ho; obtain ⟨hI4, hR4, hJ4⟩ := HIC.out w2 ho2; have HI4 := hide hI4; have HR4 := hide hR4; have HJ4 := hide hJ4; have hW4 : Blk w2 wr.heap.size 160 #[.string sy, .int .i64 line, .int .i64 (yc : Int), .bool yb] := (Blk.new wr _ _).only ho (fun h => h); have HW4 := hide hW4; have hic4 := hI4.cells; obtain ⟨cb8_0, cb8_1, cb8_2, cb8_3, cb8_4, fb8_0, fb8_1, fb8_2, fb8_3, fb8_4, lb8, cb9_0, cb9_1, cb9_2, cb9_3, fb9_0, fb9_1, fb9_2, fb9_3, lb9, cb10_0, cb10_1, cb10_2, fb10_0, fb10_1, fb10_2, lb10, cb11_0, cb11_1, cb11_2, cb11_3, cb11_4, fb11_0, fb11_1, fb11_2, fb11_3, fb11_4, lb11⟩ := hic4; have hw40 := hW4.cell 0; have hw42 := hW4.cell 2; have hw4l := hW4.lt; simp at hw40 hw42; clear hI4 hR4 hJ4 hW4 ho ho2)
                    have hI5 := HI4.out.setAll ⟨yo, ya, yb2, yc2, yn⟩
                    have hW5 := blk_far5 (b := w.heap.size + 1 + 1 + 1) HW4.out (by omega) (.int .i64 yo) (.int .i64 ya) (.int .i64 yb2) (.int .i64 yc2) (.int .u64 yn)
                    obtain ⟨w3, hw3⟩ : ∃ w3, w3 = (((((w2.setCell ⟨w.heap.size + 1 + 1 + 1, 0, none⟩ (.int .i64 yo)).setCell ⟨w.heap.size + 1 + 1 + 1, 1, none⟩ (.int .i64 ya)).setCell ⟨w.heap.size + 1 + 1 + 1, 2, none⟩ (.int .i64 yb2)).setCell ⟨w.heap.size + 1 + 1 + 1, 3, none⟩ (.int .i64 yc2)).setCell ⟨w.heap.size + 1 + 1 + 1, 4, none⟩ (.int .u64 yn)) := ⟨_, rfl⟩
                    rw [← hw3] at hI5 hW5 ⊢
                    clear hw3 hw40 hw42 hw4l HI4 HR4 HJ4 HW4
                    have HI5 := hide hI5
                    have hic5 := hI5.cells
                    obtain ⟨cb8_0, cb8_1, cb8_2, cb8_3, cb8_4, fb8_0, fb8_1, fb8_2, fb8_3, fb8_4, lb8, cb9_0, cb9_1, cb9_2, cb9_3, fb9_0, fb9_1, fb9_2, fb9_3, lb9, cb10_0, cb10_1, cb10_2, fb10_0, fb10_1, fb10_2, lb10, cb11_0, cb11_1, cb11_2, cb11_3, cb11_4, fb11_0, fb11_1, fb11_2, fb11_3, fb11_4, lb11⟩ := hic5
                    have hw50 := hW5.cell 0
                    have hw52 := hW5.cell 2
                    have hw5l := hW5.lt
                    simp at hw50 hw52
                    clear hI5 hW5
                    go_upto_region 29 with (fail)
                    go_region
                    go_wp2_with fail
                    exact instr_err HI5.out ⟨yo, ya, yb2, yc2, yn⟩ (ei := 12) HQE.out rfl rfl rfl rfl rfl (by unfold putW; repeat' (first | (with_reducible refine Only.alloc ?_ _) | (with_reducible refine Only.drewN ?_ _) | (with_reducible refine Only.drew ?_) | (with_reducible exact Only.refl _ _)))
                  | some x2 =>
                    obtain ⟨xo2, xa2, xb2, xc2, xn2⟩ := x2
                    obtain rfl : xo2 = op := HOPP.out _ rfl
                    clear HOPP
                    have HQ2 : Hid (instrQ line.toNat endc nl ws = fieldsQ line.toNat endc nl (kindsFrom xo2 2) (ws.drop (k + 1)) ⟨xo2, xa2, xb2, xc2, xn2⟩ js) := hide (by rw [hQ3.out])
                    clear hQ3
                    go_wp2_with (go_at_call 113; refine (HC2.out _ (HT2.out.only ((Only.refl _ _).alloc _))).mono ?_; rintro e w2 hpost; obtain ⟨rfl, ho⟩ := rfield_yes rfl hpost; clear hpost; have ho2 : Only Nob wr w2 := Only.trans ((Only.refl _ _).alloc (.cells #[.string sy, .int .i64 line, .int .i64 (yc : Int), .bool yb] 160)) ho; obtain ⟨hI4, hR4, hJ4⟩ := HIC.out w2 ho2; have HI4 := hide hI4; have HR4 := hide hR4; have HJ4 := hide hJ4; have hW4 : Blk w2 wr.heap.size 160 #[.string sy, .int .i64 line, .int .i64 (yc : Int), .bool yb] := (Blk.new wr _ _).only ho (fun h => h); have HW4 := hide hW4; have hic4 := hI4.cells; obtain ⟨cb8_0, cb8_1, cb8_2, cb8_3, cb8_4, fb8_0, fb8_1, fb8_2, fb8_3, fb8_4, lb8, cb9_0, cb9_1, cb9_2, cb9_3, fb9_0, fb9_1, fb9_2, fb9_3, lb9, cb10_0, cb10_1, cb10_2, fb10_0, fb10_1, fb10_2, lb10, cb11_0, cb11_1, cb11_2, cb11_3, cb11_4, fb11_0, fb11_1, fb11_2, fb11_3, fb11_4, lb11⟩ := hic4; have hw40 := hW4.cell 0; have hw42 := hW4.cell 2; have hw4l := hW4.lt; simp at hw40 hw42; clear hI4 hR4 hJ4 hW4 ho ho2)
                    refine ⟨⟨k + 1, 2, _, xa2, xb2, xc2, xn2, js, s, jl, jc, jb, by simp, rfl, by simp, by omega, by omega, HI4.out.setAll ⟨xo2, xa2, xb2, xc2, xn2⟩, blk_far5 HR4.out (by omega) _ _ _ _ _, blk_far5 HJ4.out (by omega) _ _ _ _ _, HJR.out, HQ2, by intro _; exact HJS.out (by omega)⟩, ?_⟩
                    simp [RowKit.intOf]
                · have hknI : (n : Int) ≤ (k : Int) := by omega
                  have HQE : Hid (instrQ line.toNat endc nl ws = .err endc 12) := hide (by rw [hQ2.out, List.drop_eq_nil_of_le (by have := HN.out; omega)]; rfl)
                  clear hQ2
                  go_wp2_with fail
                  exact instr_err HI2.out ⟨op, xa, xb, xc, xn⟩ (ei := 12) HQE.out rfl rfl rfl rfl rfl (by unfold putW; repeat' (first | (with_reducible refine Only.alloc ?_ _) | (with_reducible refine Only.drewN ?_ _) | (with_reducible refine Only.drew ?_) | (with_reducible exact Only.refl _ _)))
            · obtain rfl : fi = 2 := hfi
              have hix : ∀ W, (Instr.index 173 (.agg #[.int .i64 ra, .int .i64 rb, .int .i64 rc]) (.int .i64 2)).run Tryd.prog W = .ok (.int .i64 rc) W := fun _ => by kernel_rfl
              cases hkd : kindR op 2 with
              | none =>
                have hs : rc < 0 := by have h := HF.out 2 (by omega) hkd; simpa using h
                have HQ2 : Hid (instrQ line.toNat endc nl ws = fieldsQ line.toNat endc nl (kindsFrom op 3) (ws.drop k) ⟨op, xa, xb, xc, xn⟩ js) := hide (by rw [hQ.out, kinds_step op (show (2:Nat) < 4 by decide), hkd]; simp only [Option.toList, List.singleton_append, List.nil_append])
                clear hkd hQ
                go_wp2_with fail
                refine ⟨⟨k, 3, _, xa, xb, xc, xn, js, s, jl, jc, jb, rfl, rfl, by simp, hk, by omega, HI2.out, HR2.out, HJ2.out, HJR.out, HQ2, by omega⟩, ?_⟩
                simp [RowKit.intOf]
              | some kd =>
                have hs : ¬ (rc < 0) := by have h := HG.out 2 kd (by omega) hkd; simpa using h
                have hQ2 : Hid (instrQ line.toNat endc nl ws = fieldsQ line.toNat endc nl (kd :: kindsFrom op 3) (ws.drop k) ⟨op, xa, xb, xc, xn⟩ js) := hide (by rw [hQ.out, kinds_step op (show (2:Nat) < 4 by decide), hkd]; simp only [Option.toList, List.singleton_append, List.nil_append])
                have HKD := hide hkd
                clear hkd hQ
                by_cases hkn : k < n
                · have hknI : ¬ (n : Int) ≤ (k : Int) := by omega
                  have hknJ : (k : Int) < (n : Int) := by omega
                  obtain ⟨yw, hy⟩ : ∃ yw, ws[k]? = some yw := ⟨_, List.getElem?_eq_getElem (by have := HN.out; omega)⟩
                  have HDR := hide (drop_some hy)
                  obtain ⟨q0, q1, q2, q3⟩ := HW.out yw hy
                  have HYL : Hid (yw.s.length ≤ 100000) := hide (HLEN.out yw (List.mem_of_getElem? hy))
                  clear hy
                  obtain ⟨ys, yc, yb⟩ := yw
                  simp only at q0 q1 q2 q3
                  obtain ⟨sy, hsy⟩ : ∃ sy : ByteArray, (⟨ys.toArray⟩ : ByteArray) = sy := ⟨_, rfl⟩
                  have HSY : Hid (sy.data.toList = ys) := hide (by rw [← hsy])
                  have HSZ : Hid (sy.size ≤ 1000000) := hide (by have h1 := HYL.out; rw [← hsy]; simp only at h1; show ys.toArray.size ≤ _; simp; omega)
                  rw [hsy] at q0
                  clear hsy
                  rw [HDR.out] at hQ2
                  clear HDR
                  by_cases hkj : kd = 106
                  · subst hkj
                    have hQ3 : Hid (instrQ line.toNat endc nl ws = if yb = true ∨ nameP ys = false then .err yc 12 else fieldsQ line.toNat endc nl (kindsFrom op 3) (ws.drop (k + 1)) ⟨op, xa, xb, xc, xn⟩ (js ++ [⟨nl, ys, line.toNat, yc⟩])) := hide (by rw [hQ2.out, fieldsQ_jump])
                    clear hQ2
                    have hj12 := (kind_jump HKD.out).2
                    have HNM : Hid (∀ W, Calls Tryd.prog 90 #[.string sy] W fun e w' => e = .returned (.bool (nameP ys)) ∧ Only Nob W w') := hide (fun W => by have h := rname_any sy (by have := HSZ.out; omega) W; rw [HSY.out] at h; exact h)
                    have HJ0 : Hid (js = []) := hide (HJS.out (by omega))
                    cases yb with
                    | true =>
                      have HQE : Hid (instrQ line.toNat endc nl ws = .err yc 12) := hide (by rw [hQ3.out, if_pos (.inl rfl)])
                      clear hQ3
                      rcases hj12 with rfl | rfl
                      · go_upto_region 25 with (fail)
                        go_region
                        go_wp2_with fail
                        exact instr_err HI2.out ⟨12, xa, xb, xc, xn⟩ (ei := 12) HQE.out rfl rfl rfl rfl rfl (by unfold putW; repeat' (first | (with_reducible refine Only.alloc ?_ _) | (with_reducible refine Only.drewN ?_ _) | (with_reducible refine Only.drew ?_) | (with_reducible exact Only.refl _ _)))
                      · go_upto_region 25 with (fail)
                        go_region
                        go_wp2_with fail
                        exact instr_err HI2.out ⟨13, xa, xb, xc, xn⟩ (ei := 12) HQE.out rfl rfl rfl rfl rfl (by unfold putW; repeat' (first | (with_reducible refine Only.alloc ?_ _) | (with_reducible refine Only.drewN ?_ _) | (with_reducible refine Only.drew ?_) | (with_reducible exact Only.refl _ _)))
                    | false =>
                      cases hnm : nameP ys with
                      | false =>
                        have HQE : Hid (instrQ line.toNat endc nl ws = .err yc 12) := hide (by rw [hQ3.out, if_pos (.inr hnm)])
                        rw [hnm] at HNM
                        clear hQ3 hnm
                        rcases hj12 with rfl | rfl
                        · go_upto_region 25 with (go_at_call 90; refine (HNM.out _).mono ?_; rintro e w2 ⟨rfl, ho⟩; have ho2 : Only Nob wr w2 := Only.trans ((Only.refl _ _).alloc (.cells #[.string sy, .int .i64 line, .int .i64 (yc : Int), .bool false] 160)) ho; obtain ⟨hI4, hR4, hJ4⟩ := HIC.out w2 ho2; have HI4 := hide hI4; have HR4 := hide hR4; have HJ4 := hide hJ4; have hW4 : Blk w2 wr.heap.size 160 #[.string sy, .int .i64 line, .int .i64 (yc : Int), .bool false] := (Blk.new wr _ _).only ho (fun h => h); have HW4 := hide hW4; have hic4 := hI4.cells; obtain ⟨cb8_0, cb8_1, cb8_2, cb8_3, cb8_4, fb8_0, fb8_1, fb8_2, fb8_3, fb8_4, lb8, cb9_0, cb9_1, cb9_2, cb9_3, fb9_0, fb9_1, fb9_2, fb9_3, lb9, cb10_0, cb10_1, cb10_2, fb10_0, fb10_1, fb10_2, lb10, cb11_0, cb11_1, cb11_2, cb11_3, cb11_4, fb11_0, fb11_1, fb11_2, fb11_3, fb11_4, lb11⟩ := hic4; have hw40 := hW4.cell 0; have hw41 := hW4.cell 1; have hw42 := hW4.cell 2; have hw43 := hW4.cell 3; have hw4l := hW4.lt; have j40 := hJ4.frozen 0; have j41 := hJ4.frozen 1; have j42 := hJ4.frozen 2; have j43 := hJ4.frozen 3; have j4l := hJ4.lt; have k40 := hJ4.cell 0; have k41 := hJ4.cell 1; have k42 := hJ4.cell 2; have k43 := hJ4.cell 3; simp at hw40 hw41 hw42 hw43 k40 k41 k42 k43; clear hI4 hR4 hJ4 hW4 ho ho2)
                          go_region
                          go_wp2_with fail
                          exact instr_err HI4.out ⟨12, xa, xb, xc, xn⟩ (ei := 12) HQE.out rfl rfl rfl rfl rfl (by unfold putW; repeat' (first | (with_reducible refine Only.alloc ?_ _) | (with_reducible refine Only.drewN ?_ _) | (with_reducible refine Only.drew ?_) | (with_reducible exact Only.refl _ _)))
                        · go_upto_region 25 with (go_at_call 90; refine (HNM.out _).mono ?_; rintro e w2 ⟨rfl, ho⟩; have ho2 : Only Nob wr w2 := Only.trans ((Only.refl _ _).alloc (.cells #[.string sy, .int .i64 line, .int .i64 (yc : Int), .bool false] 160)) ho; obtain ⟨hI4, hR4, hJ4⟩ := HIC.out w2 ho2; have HI4 := hide hI4; have HR4 := hide hR4; have HJ4 := hide hJ4; have hW4 : Blk w2 wr.heap.size 160 #[.string sy, .int .i64 line, .int .i64 (yc : Int), .bool false] := (Blk.new wr _ _).only ho (fun h => h); have HW4 := hide hW4; have hic4 := hI4.cells; obtain ⟨cb8_0, cb8_1, cb8_2, cb8_3, cb8_4, fb8_0, fb8_1, fb8_2, fb8_3, fb8_4, lb8, cb9_0, cb9_1, cb9_2, cb9_3, fb9_0, fb9_1, fb9_2, fb9_3, lb9, cb10_0, cb10_1, cb10_2, fb10_0, fb10_1, fb10_2, lb10, cb11_0, cb11_1, cb11_2, cb11_3, cb11_4, fb11_0, fb11_1, fb11_2, fb11_3, fb11_4, lb11⟩ := hic4; have hw40 := hW4.cell 0; have hw41 := hW4.cell 1; have hw42 := hW4.cell 2; have hw43 := hW4.cell 3; have hw4l := hW4.lt; have j40 := hJ4.frozen 0; have j41 := hJ4.frozen 1; have j42 := hJ4.frozen 2; have j43 := hJ4.frozen 3; have j4l := hJ4.lt; have k40 := hJ4.cell 0; have k41 := hJ4.cell 1; have k42 := hJ4.cell 2; have k43 := hJ4.cell 3; simp at hw40 hw41 hw42 hw43 k40 k41 k42 k43; clear hI4 hR4 hJ4 hW4 ho ho2)
                          go_region
                          go_wp2_with fail
                          exact instr_err HI4.out ⟨13, xa, xb, xc, xn⟩ (ei := 12) HQE.out rfl rfl rfl rfl rfl (by unfold putW; repeat' (first | (with_reducible refine Only.alloc ?_ _) | (with_reducible refine Only.drewN ?_ _) | (with_reducible refine Only.drew ?_) | (with_reducible exact Only.refl _ _)))
                      | true =>
                        have HQ2 : Hid (instrQ line.toNat endc nl ws = fieldsQ line.toNat endc nl (kindsFrom op 3) (ws.drop (k + 1)) ⟨op, xa, xb, xc, xn⟩ [⟨nl, ys, line.toNat, yc⟩]) := hide (by rw [hQ3.out, if_neg (by simp [hnm]), HJ0.out]; rfl)
                        rw [hnm] at HNM
                        clear hQ3 hnm
                        rcases hj12 with rfl | rfl
                        · go_wp2_with (go_at_call 90; refine (HNM.out _).mono ?_; rintro e w2 ⟨rfl, ho⟩; have ho2 : Only Nob wr w2 := Only.trans ((Only.refl _ _).alloc (.cells #[.string sy, .int .i64 line, .int .i64 (yc : Int), .bool false] 160)) ho; obtain ⟨hI4, hR4, hJ4⟩ := HIC.out w2 ho2; have HI4 := hide hI4; have HR4 := hide hR4; have HJ4 := hide hJ4; have hW4 : Blk w2 wr.heap.size 160 #[.string sy, .int .i64 line, .int .i64 (yc : Int), .bool false] := (Blk.new wr _ _).only ho (fun h => h); have HW4 := hide hW4; have hic4 := hI4.cells; obtain ⟨cb8_0, cb8_1, cb8_2, cb8_3, cb8_4, fb8_0, fb8_1, fb8_2, fb8_3, fb8_4, lb8, cb9_0, cb9_1, cb9_2, cb9_3, fb9_0, fb9_1, fb9_2, fb9_3, lb9, cb10_0, cb10_1, cb10_2, fb10_0, fb10_1, fb10_2, lb10, cb11_0, cb11_1, cb11_2, cb11_3, cb11_4, fb11_0, fb11_1, fb11_2, fb11_3, fb11_4, lb11⟩ := hic4; have hw40 := hW4.cell 0; have hw41 := hW4.cell 1; have hw42 := hW4.cell 2; have hw43 := hW4.cell 3; have hw4l := hW4.lt; have j40 := hJ4.frozen 0; have j41 := hJ4.frozen 1; have j42 := hJ4.frozen 2; have j43 := hJ4.frozen 3; have j4l := hJ4.lt; have k40 := hJ4.cell 0; have k41 := hJ4.cell 1; have k42 := hJ4.cell 2; have k43 := hJ4.cell 3; simp at hw40 hw41 hw42 hw43 k40 k41 k42 k43; clear hI4 hR4 hJ4 hW4 ho ho2)
                          refine ⟨⟨k + 1, 3, _, xa, xb, xc, xn, [⟨nl, ys, line.toNat, yc⟩], sy, line, (yc : Int), false, by simp, rfl, by simp, by omega, by omega, HI4.out.far4 (by omega) _ _ _ _, blk_far4 HR4.out (by omega) _ _ _ _, blk_set4 HJ4.out _ _ _ _, ⟨HSY.out, rfl, rfl, rfl⟩, HQ2, by omega⟩, ?_⟩
                          simp [RowKit.intOf]
                        · go_wp2_with (go_at_call 90; refine (HNM.out _).mono ?_; rintro e w2 ⟨rfl, ho⟩; have ho2 : Only Nob wr w2 := Only.trans ((Only.refl _ _).alloc (.cells #[.string sy, .int .i64 line, .int .i64 (yc : Int), .bool false] 160)) ho; obtain ⟨hI4, hR4, hJ4⟩ := HIC.out w2 ho2; have HI4 := hide hI4; have HR4 := hide hR4; have HJ4 := hide hJ4; have hW4 : Blk w2 wr.heap.size 160 #[.string sy, .int .i64 line, .int .i64 (yc : Int), .bool false] := (Blk.new wr _ _).only ho (fun h => h); have HW4 := hide hW4; have hic4 := hI4.cells; obtain ⟨cb8_0, cb8_1, cb8_2, cb8_3, cb8_4, fb8_0, fb8_1, fb8_2, fb8_3, fb8_4, lb8, cb9_0, cb9_1, cb9_2, cb9_3, fb9_0, fb9_1, fb9_2, fb9_3, lb9, cb10_0, cb10_1, cb10_2, fb10_0, fb10_1, fb10_2, lb10, cb11_0, cb11_1, cb11_2, cb11_3, cb11_4, fb11_0, fb11_1, fb11_2, fb11_3, fb11_4, lb11⟩ := hic4; have hw40 := hW4.cell 0; have hw41 := hW4.cell 1; have hw42 := hW4.cell 2; have hw43 := hW4.cell 3; have hw4l := hW4.lt; have j40 := hJ4.frozen 0; have j41 := hJ4.frozen 1; have j42 := hJ4.frozen 2; have j43 := hJ4.frozen 3; have j4l := hJ4.lt; have k40 := hJ4.cell 0; have k41 := hJ4.cell 1; have k42 := hJ4.cell 2; have k43 := hJ4.cell 3; simp at hw40 hw41 hw42 hw43 k40 k41 k42 k43; clear hI4 hR4 hJ4 hW4 ho ho2)
                          refine ⟨⟨k + 1, 3, _, xa, xb, xc, xn, [⟨nl, ys, line.toNat, yc⟩], sy, line, (yc : Int), false, by simp, rfl, by simp, by omega, by omega, HI4.out.far4 (by omega) _ _ _ _, blk_far4 HR4.out (by omega) _ _ _ _, blk_set4 HJ4.out _ _ _ _, ⟨HSY.out, rfl, rfl, rfl⟩, HQ2, by omega⟩, ?_⟩
                          simp [RowKit.intOf]
                  · have hkj2 := kind_no_jump HKD.out hkj
                    obtain ⟨hk12, hk13⟩ := hkj2
                    have hb12 : (op == 12) = false := by rw [beq_eq_false_iff_ne]; exact hk12
                    have hb13 : (op == 13) = false := by rw [beq_eq_false_iff_ne]; exact hk13
                    obtain ⟨p, hp⟩ : ∃ p, (if yb = true then none else fieldP kd ys ⟨op, xa, xb, xc, xn⟩) = p := ⟨_, rfl⟩
                    have HC2 : Hid (∀ W, TabAt W → Calls Tryd.prog 113 #[.agg #[.int .i64 op, .int .i64 xa, .int .i64 xb, .int .i64 xc, .int .u64 xn], .int .i64 2, .agg #[.string nm, .int .i64 ra, .int .i64 rb, .int .i64 rc, .bool rn], .agg #[.string sy, .int .i64 line, .int .i64 (yc : Int), .bool yb]] W (RFieldPost W p)) := hide (fun W ht => by
                      exact HFB.out xa xb xc xn 2 2 rfl kd HKD.out hkj nm sy line (yc : Int) yb HSZ.out p (by rw [HSY.out]; exact hp) W ht)
                    have hQ3 : Hid (instrQ line.toNat endc nl ws = match (generalizing := false) p with | none => .err yc 12 | some x2 => fieldsQ line.toNat endc nl (kindsFrom op 3) (ws.drop (k + 1)) x2 js) := hide (by rw [hQ2.out, fieldsQ_step _ _ _ _ _ _ _ _ _ hp, if_neg hkj]; cases p <;> rfl)
                    have HOPP : Hid (∀ x2, p = some x2 → x2.op = op) := hide (fun x2 h => by
                      rw [← hp] at h
                      split at h
                      · cases h
                      · exact fieldP_op h)
                    clear hp hQ2 hkj
                    cases p with
                    | none =>
                      have HQE : Hid (instrQ line.toNat endc nl ws = .err yc 12) := hide (by rw [hQ3.out])
                      clear hQ3
                      go_upto_region 28 with (go_at_call 113; refine (HC2.out _ (HT2.out.only ((Only.refl _ _).alloc _))).mono ?_; rintro e w2 hpost; obtain ⟨yo, ya, yb2, yc2, yn, rfl, ho⟩ := rfield_no hpost; clear hpost; have ho2 : Only Nob wr w2 := Only.trans ((Only.refl _ _).alloc (.cells #[.string sy, .int .i64 line, .int .i64 (yc : Int), .bool yb] 160)) ho; obtain ⟨hI4, hR4, hJ4⟩ := HIC.out w2 ho2; have HI4 := hide hI4; have HR4 := hide hR4; have HJ4 := hide hJ4; have hW4 : Blk w2 wr.heap.size 160 #[.string sy, .int .i64 line, .int .i64 (yc : Int), .bool yb] := (Blk.new wr _ _).only ho (fun h => h); have HW4 := hide hW4; have hic4 := hI4.cells; obtain ⟨cb8_0, cb8_1, cb8_2, cb8_3, cb8_4, fb8_0, fb8_1, fb8_2, fb8_3, fb8_4, lb8, cb9_0, cb9_1, cb9_2, cb9_3, fb9_0, fb9_1, fb9_2, fb9_3, lb9, cb10_0, cb10_1, cb10_2, fb10_0, fb10_1, fb10_2, lb10, cb11_0, cb11_1, cb11_2, cb11_3, cb11_4, fb11_0, fb11_1, fb11_2, fb11_3, fb11_4, lb11⟩ := hic4; have hw40 := hW4.cell 0; have hw42 := hW4.cell 2; have hw4l := hW4.lt; simp at hw40 hw42; clear hI4 hR4 hJ4 hW4 ho ho2)
                      have hI5 := HI4.out.setAll ⟨yo, ya, yb2, yc2, yn⟩
                      have hW5 := blk_far5 (b := w.heap.size + 1 + 1 + 1) HW4.out (by omega) (.int .i64 yo) (.int .i64 ya) (.int .i64 yb2) (.int .i64 yc2) (.int .u64 yn)
                      obtain ⟨w3, hw3⟩ : ∃ w3, w3 = (((((w2.setCell ⟨w.heap.size + 1 + 1 + 1, 0, none⟩ (.int .i64 yo)).setCell ⟨w.heap.size + 1 + 1 + 1, 1, none⟩ (.int .i64 ya)).setCell ⟨w.heap.size + 1 + 1 + 1, 2, none⟩ (.int .i64 yb2)).setCell ⟨w.heap.size + 1 + 1 + 1, 3, none⟩ (.int .i64 yc2)).setCell ⟨w.heap.size + 1 + 1 + 1, 4, none⟩ (.int .u64 yn)) := ⟨_, rfl⟩
                      rw [← hw3] at hI5 hW5 ⊢
                      clear hw3 hw40 hw42 hw4l HI4 HR4 HJ4 HW4
                      have HI5 := hide hI5
                      have hic5 := hI5.cells
                      obtain ⟨cb8_0, cb8_1, cb8_2, cb8_3, cb8_4, fb8_0, fb8_1, fb8_2, fb8_3, fb8_4, lb8, cb9_0, cb9_1, cb9_2, cb9_3, fb9_0, fb9_1, fb9_2, fb9_3, lb9, cb10_0, cb10_1, cb10_2, fb10_0, fb10_1, fb10_2, lb10, cb11_0, cb11_1, cb11_2, cb11_3, cb11_4, fb11_0, fb11_1, fb11_2, fb11_3, fb11_4, lb11⟩ := hic5
                      have hw50 := hW5.cell 0
                      have hw52 := hW5.cell 2
                      have hw5l := hW5.lt
                      simp at hw50 hw52
                      clear hI5 hW5
                      go_upto_region 29 with (fail)
                      go_region
                      go_wp2_with fail
                      exact instr_err HI5.out ⟨yo, ya, yb2, yc2, yn⟩ (ei := 12) HQE.out rfl rfl rfl rfl rfl (by unfold putW; repeat' (first | (with_reducible refine Only.alloc ?_ _) | (with_reducible refine Only.drewN ?_ _) | (with_reducible refine Only.drew ?_) | (with_reducible exact Only.refl _ _)))
                    | some x2 =>
                      obtain ⟨xo2, xa2, xb2, xc2, xn2⟩ := x2
                      obtain rfl : xo2 = op := HOPP.out _ rfl
                      clear HOPP
                      have HQ2 : Hid (instrQ line.toNat endc nl ws = fieldsQ line.toNat endc nl (kindsFrom xo2 3) (ws.drop (k + 1)) ⟨xo2, xa2, xb2, xc2, xn2⟩ js) := hide (by rw [hQ3.out])
                      clear hQ3
                      go_wp2_with (go_at_call 113; refine (HC2.out _ (HT2.out.only ((Only.refl _ _).alloc _))).mono ?_; rintro e w2 hpost; obtain ⟨rfl, ho⟩ := rfield_yes rfl hpost; clear hpost; have ho2 : Only Nob wr w2 := Only.trans ((Only.refl _ _).alloc (.cells #[.string sy, .int .i64 line, .int .i64 (yc : Int), .bool yb] 160)) ho; obtain ⟨hI4, hR4, hJ4⟩ := HIC.out w2 ho2; have HI4 := hide hI4; have HR4 := hide hR4; have HJ4 := hide hJ4; have hW4 : Blk w2 wr.heap.size 160 #[.string sy, .int .i64 line, .int .i64 (yc : Int), .bool yb] := (Blk.new wr _ _).only ho (fun h => h); have HW4 := hide hW4; have hic4 := hI4.cells; obtain ⟨cb8_0, cb8_1, cb8_2, cb8_3, cb8_4, fb8_0, fb8_1, fb8_2, fb8_3, fb8_4, lb8, cb9_0, cb9_1, cb9_2, cb9_3, fb9_0, fb9_1, fb9_2, fb9_3, lb9, cb10_0, cb10_1, cb10_2, fb10_0, fb10_1, fb10_2, lb10, cb11_0, cb11_1, cb11_2, cb11_3, cb11_4, fb11_0, fb11_1, fb11_2, fb11_3, fb11_4, lb11⟩ := hic4; have hw40 := hW4.cell 0; have hw42 := hW4.cell 2; have hw4l := hW4.lt; simp at hw40 hw42; clear hI4 hR4 hJ4 hW4 ho ho2)
                      refine ⟨⟨k + 1, 3, _, xa2, xb2, xc2, xn2, js, s, jl, jc, jb, by simp, rfl, by simp, by omega, by omega, HI4.out.setAll ⟨xo2, xa2, xb2, xc2, xn2⟩, blk_far5 HR4.out (by omega) _ _ _ _ _, blk_far5 HJ4.out (by omega) _ _ _ _ _, HJR.out, HQ2, by omega⟩, ?_⟩
                      simp [RowKit.intOf]
                · have hknI : (n : Int) ≤ (k : Int) := by omega
                  have HQE : Hid (instrQ line.toNat endc nl ws = .err endc 12) := hide (by rw [hQ2.out, List.drop_eq_nil_of_le (by have := HN.out; omega)]; rfl)
                  clear hQ2
                  go_wp2_with fail
                  exact instr_err HI2.out ⟨op, xa, xb, xc, xn⟩ (ei := 12) HQE.out rfl rfl rfl rfl rfl (by unfold putW; repeat' (first | (with_reducible refine Only.alloc ?_ _) | (with_reducible refine Only.drewN ?_ _) | (with_reducible refine Only.drew ?_) | (with_reducible exact Only.refl _ _)))
            · obtain rfl : fi = 3 := hfi
              cases hkd : kindR op 3 with
              | none =>
                have hs : rn = false := by have h := HF.out 3 (by omega) hkd; simpa using h
                subst hs
                have HQ2 : Hid (instrQ line.toNat endc nl ws = fieldsQ line.toNat endc nl (kindsFrom op 4) (ws.drop k) ⟨op, xa, xb, xc, xn⟩ js) := hide (by rw [hQ.out, kinds_step op (show (3:Nat) < 4 by decide), hkd]; simp only [Option.toList, List.singleton_append, List.nil_append])
                clear hkd hQ
                go_wp2_with fail
                refine ⟨⟨k, 4, _, xa, xb, xc, xn, js, s, jl, jc, jb, rfl, rfl, by simp, hk, by omega, HI2.out, HR2.out, HJ2.out, HJR.out, HQ2, by omega⟩, ?_⟩
                simp [RowKit.intOf]
              | some kd =>
                have hs : ¬ (rn = false) := by have h := HG.out 3 kd (by omega) hkd; simpa using h
                have hs : rn = true := by simpa using hs
                subst hs
                have hQ2 : Hid (instrQ line.toNat endc nl ws = fieldsQ line.toNat endc nl (kd :: kindsFrom op 4) (ws.drop k) ⟨op, xa, xb, xc, xn⟩ js) := hide (by rw [hQ.out, kinds_step op (show (3:Nat) < 4 by decide), hkd]; simp only [Option.toList, List.singleton_append, List.nil_append])
                have HKD := hide hkd
                clear hkd hQ
                by_cases hkn : k < n
                · have hknI : ¬ (n : Int) ≤ (k : Int) := by omega
                  have hknJ : (k : Int) < (n : Int) := by omega
                  obtain ⟨yw, hy⟩ : ∃ yw, ws[k]? = some yw := ⟨_, List.getElem?_eq_getElem (by have := HN.out; omega)⟩
                  have HDR := hide (drop_some hy)
                  obtain ⟨q0, q1, q2, q3⟩ := HW.out yw hy
                  have HYL : Hid (yw.s.length ≤ 100000) := hide (HLEN.out yw (List.mem_of_getElem? hy))
                  clear hy
                  obtain ⟨ys, yc, yb⟩ := yw
                  simp only at q0 q1 q2 q3
                  obtain ⟨sy, hsy⟩ : ∃ sy : ByteArray, (⟨ys.toArray⟩ : ByteArray) = sy := ⟨_, rfl⟩
                  have HSY : Hid (sy.data.toList = ys) := hide (by rw [← hsy])
                  have HSZ : Hid (sy.size ≤ 1000000) := hide (by have h1 := HYL.out; rw [← hsy]; simp only at h1; show ys.toArray.size ≤ _; simp; omega)
                  rw [hsy] at q0
                  clear hsy
                  rw [HDR.out] at hQ2
                  clear HDR
                  have hkj : kd ≠ 106 := fun h => by have := (kind_jump (h ▸ HKD.out)).1; omega
                  obtain ⟨p, hp⟩ : ∃ p, (if yb = true then none else fieldP kd ys ⟨op, xa, xb, xc, xn⟩) = p := ⟨_, rfl⟩
                  have HC2 : Hid (∀ W, TabAt W → Calls Tryd.prog 113 #[.agg #[.int .i64 op, .int .i64 xa, .int .i64 xb, .int .i64 xc, .int .u64 xn], .int .i64 3, .agg #[.string nm, .int .i64 ra, .int .i64 rb, .int .i64 rc, .bool true], .agg #[.string sy, .int .i64 line, .int .i64 (yc : Int), .bool yb]] W (RFieldPost W p)) := hide (fun W ht => by
                    exact HFB.out xa xb xc xn 3 3 rfl kd HKD.out hkj nm sy line (yc : Int) yb HSZ.out p (by rw [HSY.out]; exact hp) W ht)
                  have hQ3 : Hid (instrQ line.toNat endc nl ws = match (generalizing := false) p with | none => .err yc 12 | some x2 => fieldsQ line.toNat endc nl (kindsFrom op 4) (ws.drop (k + 1)) x2 js) := hide (by rw [hQ2.out, fieldsQ_step _ _ _ _ _ _ _ _ _ hp, if_neg hkj]; cases p <;> rfl)
                  have HOPP : Hid (∀ x2, p = some x2 → x2.op = op) := hide (fun x2 h => by
                    rw [← hp] at h
                    split at h
                    · cases h
                    · exact fieldP_op h)
                  clear hp hQ2 hkj
                  cases p with
                  | none =>
                    have HQE : Hid (instrQ line.toNat endc nl ws = .err yc 12) := hide (by rw [hQ3.out])
                    clear hQ3
                    go_upto_region 28 with (go_at_call 113; refine (HC2.out _ (HT2.out.only ((Only.refl _ _).alloc _))).mono ?_; rintro e w2 hpost; obtain ⟨yo, ya, yb2, yc2, yn, rfl, ho⟩ := rfield_no hpost; clear hpost; have ho2 : Only Nob wr w2 := Only.trans ((Only.refl _ _).alloc (.cells #[.string sy, .int .i64 line, .int .i64 (yc : Int), .bool yb] 160)) ho; obtain ⟨hI4, hR4, hJ4⟩ := HIC.out w2 ho2; have HI4 := hide hI4; have HR4 := hide hR4; have HJ4 := hide hJ4; have hW4 : Blk w2 wr.heap.size 160 #[.string sy, .int .i64 line, .int .i64 (yc : Int), .bool yb] := (Blk.new wr _ _).only ho (fun h => h); have HW4 := hide hW4; have hic4 := hI4.cells; obtain ⟨cb8_0, cb8_1, cb8_2, cb8_3, cb8_4, fb8_0, fb8_1, fb8_2, fb8_3, fb8_4, lb8, cb9_0, cb9_1, cb9_2, cb9_3, fb9_0, fb9_1, fb9_2, fb9_3, lb9, cb10_0, cb10_1, cb10_2, fb10_0, fb10_1, fb10_2, lb10, cb11_0, cb11_1, cb11_2, cb11_3, cb11_4, fb11_0, fb11_1, fb11_2, fb11_3, fb11_4, lb11⟩ := hic4; have hw40 := hW4.cell 0; have hw42 := hW4.cell 2; have hw4l := hW4.lt; simp at hw40 hw42; clear hI4 hR4 hJ4 hW4 ho ho2)
                    have hI5 := HI4.out.setAll ⟨yo, ya, yb2, yc2, yn⟩
                    have hW5 := blk_far5 (b := w.heap.size + 1 + 1 + 1) HW4.out (by omega) (.int .i64 yo) (.int .i64 ya) (.int .i64 yb2) (.int .i64 yc2) (.int .u64 yn)
                    obtain ⟨w3, hw3⟩ : ∃ w3, w3 = (((((w2.setCell ⟨w.heap.size + 1 + 1 + 1, 0, none⟩ (.int .i64 yo)).setCell ⟨w.heap.size + 1 + 1 + 1, 1, none⟩ (.int .i64 ya)).setCell ⟨w.heap.size + 1 + 1 + 1, 2, none⟩ (.int .i64 yb2)).setCell ⟨w.heap.size + 1 + 1 + 1, 3, none⟩ (.int .i64 yc2)).setCell ⟨w.heap.size + 1 + 1 + 1, 4, none⟩ (.int .u64 yn)) := ⟨_, rfl⟩
                    rw [← hw3] at hI5 hW5 ⊢
                    clear hw3 hw40 hw42 hw4l HI4 HR4 HJ4 HW4
                    have HI5 := hide hI5
                    have hic5 := hI5.cells
                    obtain ⟨cb8_0, cb8_1, cb8_2, cb8_3, cb8_4, fb8_0, fb8_1, fb8_2, fb8_3, fb8_4, lb8, cb9_0, cb9_1, cb9_2, cb9_3, fb9_0, fb9_1, fb9_2, fb9_3, lb9, cb10_0, cb10_1, cb10_2, fb10_0, fb10_1, fb10_2, lb10, cb11_0, cb11_1, cb11_2, cb11_3, cb11_4, fb11_0, fb11_1, fb11_2, fb11_3, fb11_4, lb11⟩ := hic5
                    have hw50 := hW5.cell 0
                    have hw52 := hW5.cell 2
                    have hw5l := hW5.lt
                    simp at hw50 hw52
                    clear hI5 hW5
                    go_upto_region 29 with (fail)
                    go_region
                    go_wp2_with fail
                    exact instr_err HI5.out ⟨yo, ya, yb2, yc2, yn⟩ (ei := 12) HQE.out rfl rfl rfl rfl rfl (by unfold putW; repeat' (first | (with_reducible refine Only.alloc ?_ _) | (with_reducible refine Only.drewN ?_ _) | (with_reducible refine Only.drew ?_) | (with_reducible exact Only.refl _ _)))
                  | some x2 =>
                    obtain ⟨xo2, xa2, xb2, xc2, xn2⟩ := x2
                    obtain rfl : xo2 = op := HOPP.out _ rfl
                    clear HOPP
                    have HQ2 : Hid (instrQ line.toNat endc nl ws = fieldsQ line.toNat endc nl (kindsFrom xo2 4) (ws.drop (k + 1)) ⟨xo2, xa2, xb2, xc2, xn2⟩ js) := hide (by rw [hQ3.out])
                    clear hQ3
                    go_wp2_with (go_at_call 113; refine (HC2.out _ (HT2.out.only ((Only.refl _ _).alloc _))).mono ?_; rintro e w2 hpost; obtain ⟨rfl, ho⟩ := rfield_yes rfl hpost; clear hpost; have ho2 : Only Nob wr w2 := Only.trans ((Only.refl _ _).alloc (.cells #[.string sy, .int .i64 line, .int .i64 (yc : Int), .bool yb] 160)) ho; obtain ⟨hI4, hR4, hJ4⟩ := HIC.out w2 ho2; have HI4 := hide hI4; have HR4 := hide hR4; have HJ4 := hide hJ4; have hW4 : Blk w2 wr.heap.size 160 #[.string sy, .int .i64 line, .int .i64 (yc : Int), .bool yb] := (Blk.new wr _ _).only ho (fun h => h); have HW4 := hide hW4; have hic4 := hI4.cells; obtain ⟨cb8_0, cb8_1, cb8_2, cb8_3, cb8_4, fb8_0, fb8_1, fb8_2, fb8_3, fb8_4, lb8, cb9_0, cb9_1, cb9_2, cb9_3, fb9_0, fb9_1, fb9_2, fb9_3, lb9, cb10_0, cb10_1, cb10_2, fb10_0, fb10_1, fb10_2, lb10, cb11_0, cb11_1, cb11_2, cb11_3, cb11_4, fb11_0, fb11_1, fb11_2, fb11_3, fb11_4, lb11⟩ := hic4; have hw40 := hW4.cell 0; have hw42 := hW4.cell 2; have hw4l := hW4.lt; simp at hw40 hw42; clear hI4 hR4 hJ4 hW4 ho ho2)
                    refine ⟨⟨k + 1, 4, _, xa2, xb2, xc2, xn2, js, s, jl, jc, jb, by simp, rfl, by simp, by omega, by omega, HI4.out.setAll ⟨xo2, xa2, xb2, xc2, xn2⟩, blk_far5 HR4.out (by omega) _ _ _ _ _, blk_far5 HJ4.out (by omega) _ _ _ _ _, HJR.out, HQ2, by omega⟩, ?_⟩
                    simp [RowKit.intOf]
                · have hknI : (n : Int) ≤ (k : Int) := by omega
                  have HQE : Hid (instrQ line.toNat endc nl ws = .err endc 12) := hide (by rw [hQ2.out, List.drop_eq_nil_of_le (by have := HN.out; omega)]; rfl)
                  clear hQ2
                  go_wp2_with fail
                  exact instr_err HI2.out ⟨op, xa, xb, xc, xn⟩ (ei := 12) HQE.out rfl rfl rfl rfl rfl (by unfold putW; repeat' (first | (with_reducible refine Only.alloc ?_ _) | (with_reducible refine Only.drewN ?_ _) | (with_reducible refine Only.drew ?_) | (with_reducible exact Only.refl _ _)))
            · obtain rfl : fi = 4 := hfi
              by_cases hkn : k < n
              · have hknJ : (k : Int) < (n : Int) := by omega
                obtain ⟨yw, hy⟩ : ∃ yw, ws[k]? = some yw := ⟨_, List.getElem?_eq_getElem (by have := HN.out; omega)⟩
                have HDR := hide (drop_some hy)
                obtain ⟨q0, q1, q2, q3⟩ := HW.out yw hy
                have HYL : Hid (yw.s.length ≤ 100000) := hide (HLEN.out yw (List.mem_of_getElem? hy))
                clear hy
                obtain ⟨ys, yc, yb⟩ := yw
                simp only at q0 q1 q2 q3
                obtain ⟨sy, hsy⟩ : ∃ sy : ByteArray, (⟨ys.toArray⟩ : ByteArray) = sy := ⟨_, rfl⟩
                have HSY : Hid (sy.data.toList = ys) := hide (by rw [← hsy])
                have HSZ : Hid (sy.size ≤ 1000000) := hide (by have h1 := HYL.out; rw [← hsy]; simp only at h1; show ys.toArray.size ≤ _; simp; omega)
                rw [hsy] at q0
                clear hsy
                have HQE : Hid (instrQ line.toNat endc nl ws = .err yc 12) := hide (by rw [hQ.out, HDR.out]; rfl)
                clear hQ HDR
                go_upto_region 31 with (fail)
                go_region
                go_wp2_with fail
                exact instr_err HI2.out ⟨op, xa, xb, xc, xn⟩ (ei := 12) HQE.out rfl rfl rfl rfl rfl (by unfold putW; repeat' (first | (with_reducible refine Only.alloc ?_ _) | (with_reducible refine Only.drewN ?_ _) | (with_reducible refine Only.drew ?_) | (with_reducible exact Only.refl _ _)))
              · have hknJ : ¬ (k : Int) < (n : Int) := by omega
                have HQE : Hid (instrQ line.toNat endc nl ws = .ok (⟨op, xa, xb, xc, xn⟩, js)) := hide (by rw [hQ.out, List.drop_eq_nil_of_le (by have := HN.out; omega)]; rfl)
                clear hQ
                go_upto_region 32 with (fail)
                go_region
                go_wp2_with fail
                exact instr_ok HI2.out HQE.out HJR.out rfl rfl rfl rfl (by unfold putW; repeat' (first | (with_reducible refine Only.alloc ?_ _) | (with_reducible refine Only.drewN ?_ _) | (with_reducible refine Only.drew ?_) | (with_reducible exact Only.refl _ _)))
end Go.Proofs.YtngahgfppbjebaaDoor

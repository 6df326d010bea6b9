/-
  The contract of the reference's Parse.
-/
import Derived.Test.YtngahgfppbjebaaDoorGrpTxRParseQ
import Derived.Test.YtngahgfppbjebaaDoorGrpTxRCut
import Derived.Deep.Cut
import Derived.Deep.CutRange
import Derived.Deep.CutBlock
import Derived.BigQuiet
import Derived.Deep.QuietTactic
namespace Go.Proofs.YtngahgfppbjebaaDoor
open Go.RowKit Go.Lib Go.BigFrame
set_option linter.unusedVariables false
set_option linter.unusedSimpArgs false

set_option maxRecDepth 100000 in
set_option maxHeartbeats 8000000 in
theorem rparse_any (s : ByteArray) (hs : s.size ≤ 100000) (w : World) (htab : TabAt w) : Calls Tryd.prog 61 #[.string s] w (ParsePost w (parseP s.data.toList)) := by
  have hsl : s.data.toList.length = s.size := by simp
  by_cases h4 : 4000 < s.size
  · have HP : Hid (parseP s.data.toList = ([], 1, 1, 4)) := hide (by unfold parseP; rw [if_pos (by omega)])
    clear hsl
    go_enter Tryd.func61, Tryd.ntmps61
    go_wp2
    have hk := Blk.new w 55 #[.slice none 0 0]
    have c0 := hk.cell 0
    simp at c0
    exact bodyPost_ret (by simp [results, Tryd.results61, go_sem, c0]; try rfl) rfl (ParsePost.bad HP.out ((Only.refl _ w).alloc _))
  · have HS : Hid (s.size ≤ 4000) := hide (by omega)
    have hS4 : s.size ≤ 4000 := by omega
    have HTB := hide htab
    have HRU := hide (fun W => runes_any s (by omega) W)
    have HRL : Hid ((runesL s.data.toList).length ≤ 4000) := hide (by have := runesL_len s.size s.data.toList (by simp); simp at this; omega)
    have HRX : Hid (∀ x ∈ runesL s.data.toList, x.1 ≤ 1114111) := hide (by have := runes_max s s.size 0 (by omega); rw [List.drop_zero] at this; exact this)
    obtain ⟨rs, hrs⟩ : ∃ rs, runesL s.data.toList = rs := ⟨_, rfl⟩
    obtain ⟨n, hn⟩ : ∃ n, rs.length = n := ⟨_, rfl⟩
    have HN := hide hn
    obtain ⟨capR, wc, hcv, hcap, hsl2, hoc⟩ := conv_all ((w.alloc (.cells #[.slice none 0 0] 55)).alloc (.cells #[.slice none 0 0] 55)) s hs
    rw [hrs] at hcv hcap hsl2 HRU HRL HRX
    rw [hn] at hcv hcap HRU HRL
    have HRS := hide hrs
    have HSL := hide hsl2
    have HOC := hide hoc
    have HCAP := hide hcap
    clear hrs hsl2 hoc hcap hsl htab hn
    go_enter Tryd.func61, Tryd.ntmps61
    go_wp2_with (go_at_call 88; refine (HRU.out _).mono ?_; rintro e w1 ⟨AB0, cB0, rfl, hsb, hob⟩)
    have HOW : Hid (Only Nob w w1) := hide ((((Only.refl _ w).alloc _).alloc _ |>.trans HOC.out).trans hob)
    have HSB := hide hsb
    have HSR : Hid (SlIn runeC 1 w1 w1.heap.size (some ⟨w.heap.size + 1 + 1, 0, none⟩) rs) := hide (by
      have h := HSL.out.nob hob
      simpa using h)
    have HB2 : Hid (Blk w1 w.heap.size 55 #[.slice none 0 0]) := hide (((Blk.new w _ _).alloc _).only (HOC.out.trans hob) (fun h => h))
    have HB6 : Hid (Blk w1 (w.heap.size + 1) 55 #[.slice none 0 0]) := hide ((Blk.new' (by simp)).only (HOC.out.trans hob) (fun h => h))
    clear hsb hob
    go_loopw [7, 8, 9, 10, 11, 12, 15] (fun vL vJ vO c10 vR vB c15 wr => ∃ (k ln nP nL nJ nR cL cJ cO cR cB : Nat) (AL AJ AO AR AB : Option Addr) (vP : Value) (st : PS) (cur : List Rn), vL = .slice AL nL cL ∧ vJ = .slice AJ nJ cJ ∧ vO = .slice AO nJ cO ∧ c10 = .int .i64 (ln : Int) ∧ vR = .slice AR nR cR ∧ vB = .slice AB nR cB ∧ c15 = .int .i64 (k : Int) ∧ k ≤ n + 1 ∧ ln ≤ k ∧ nR ≤ k ∧ PW w1 wr (w.heap.size + 1) st cur nP nL nJ nR vP (.slice AL nL cL) (.slice AJ nJ cJ) (.slice AO nJ cO) (.slice AR nR cR) (.slice AB nR cB) ∧ PSok st ln ∧ (∀ x ∈ cur, x.1 ≤ 1114111) ∧ RG rs k ln st cur) (fun _ _ _ _ _ _ c15 _ => n + 2 - (RowKit.intOf c15).toNat)
    case atStart => exact ⟨0, 0, 0, 0, 0, 0, 0, 0, 0, 0, 0, none, none, none, none, none, _, PS.start, [], rfl, rfl, rfl, rfl, rfl, rfl, rfl, Nat.zero_le _, Nat.le_refl _, Nat.le_refl _, PW.start HB6.out, PSok.start, (fun x hx => by cases hx), RG.start rs⟩
    case round =>
      obtain ⟨k, ln, nP, nL, nJ, nR, cL, cJ, cO, cR, cB, AL, AJ, AO, AR, AB, vP, st, cur, rfl, rfl, rfl, rfl, rfl, rfl, rfl, hk, hln, hnR, hP, hok, hmax, hG⟩ := hrel
      have HP := hide hP
      have HOK := hide hok
      have HMX := hide hmax
      have HG := hide hG
      have hsz := hP.only.size
      have hgw := hP.cell.lt
      have hgf := hP.cell.frozen 0
      have hgc := hP.cell.cell 0
      simp at hgc
      have hn4 := HRL.out
      have HBW : Hid (∀ b, b < w1.heap.size → b ≠ w.heap.size + 1 → ∀ o, wr.cell? ⟨b, o, none⟩ = w1.cell? ⟨b, o, none⟩) := hide (fun b h1 h2 o => HP.out.below h1 h2 o)
      clear hP hok hmax hG
      by_cases hke : k ≤ n
      · have hkI : (k : Int) ≤ (n : Int) := by omega
        go_upto_region 15 with fail
        go_cut [49] from 33 to 191 (fun c wx => ∃ q, c = .bool q ∧ wx = wr ∧ Hid (q = true ∧ (∃ x, rs[k]? = some x ∧ ¬ x.1 = 10) ∨ q = false ∧ (k = n ∨ ∃ x, rs[k]? = some x ∧ x.1 = 10)))
        case first => as_aux_lemma =>
          by_cases hkn : k < n
          · obtain ⟨x, hx⟩ : ∃ x, rs[k]? = some x := ⟨_, List.getElem?_eq_getElem (by have := HN.out; omega)⟩
            have hknI : (k : Int) ≤ (n : Int) := by omega
            have hknJ : (k : Int) < (n : Int) := by omega
            obtain ⟨b, o, he, hb, hc⟩ := HSR.out.at_ hx
            obtain ⟨b2, o2, he2, hb2, hc2⟩ := HSB.out.at_ hx
            injection he with he
            injection he with he3 he4 _
            subst he3 he4 he2
            have HX := hide hx
            have hr0 := hc 0 _ rfl
            have hr1 := hc2 0 _ rfl
            have hne : b2 ≠ w.heap.size + 1 := by
              rintro rfl
              rw [HB6.out.cell (o2 + k * 1 + 0)] at hr1
              rcases Nat.eq_zero_or_pos (o2 + k * 1 + 0) with h0 | h0
              · rw [h0] at hr1
                cases hr1
              · rw [Array.getElem?_eq_none (by simp; omega)] at hr1
                cases hr1
            have z0 := (HBW.out _ hb (by omega) _).trans hr0
            have z1 := (HBW.out _ hb2 hne _).trans hr1
            simp only [Nat.mul_one, Nat.add_zero, Nat.zero_add, runeV, badV] at z0 z1
            obtain ⟨xc, xb⟩ := x
            simp only at z0 z1
            clear hx hc hc2 hr0 hr1
            have hbw : w.heap.size + 1 + 1 < wr.heap.size := by omega
            have hbw2 : b2 < wr.heap.size := by omega
            by_cases h10 : xc = 10
            · subst h10
              go_wp2_with fail
              go_meet
              exact ⟨false, rfl, rfl, hide (.inr ⟨rfl, .inr ⟨_, HX.out, rfl⟩⟩)⟩
            · have h10I : ¬ (xc : Int) = 10 := by omega
              have h10b : ((xc : Int) == 10) = false := by rw [beq_eq_false_iff_ne]; exact h10I
              go_wp2_with fail
              go_meet
              exact ⟨true, congrArg Value.bool (by rw [bne, h10b]; rfl), rfl, hide (.inl ⟨rfl, _, HX.out, h10⟩)⟩
          · have hkl : ¬ (k : Int) < (n : Int) := by omega
            go_wp2_with fail
            go_meet
            exact ⟨false, rfl, rfl, hide (.inr ⟨rfl, .inl (by omega)⟩)⟩
        case rest =>
          obtain ⟨qb, rfl, hw, HQB⟩ := hcut
          replace hw := hw.symm
          subst hw
          cases qb with
          | true => as_aux_lemma =>
            rcases HQB.out with ⟨_, x, hx, h10⟩ | ⟨h, _⟩
            · have hkn : k < n := by have := (List.getElem?_eq_some_iff.1 hx).1; have := HN.out; omega
              have hknI : (k : Int) ≤ (n : Int) := by omega
              have hknJ : (k : Int) < (n : Int) := by omega
              obtain ⟨b, o, he, hb, hc⟩ := HSR.out.at_ hx
              obtain ⟨b2, o2, he2, hb2, hc2⟩ := HSB.out.at_ hx
              injection he with he
              injection he with he3 he4 _
              subst he3 he4 he2
              have HX := hide hx
              have hr0 := hc 0 _ rfl
              have hr1 := hc2 0 _ rfl
              have hne : b2 ≠ w.heap.size + 1 := by
                rintro rfl
                rw [HB6.out.cell (o2 + k * 1 + 0)] at hr1
                rcases Nat.eq_zero_or_pos (o2 + k * 1 + 0) with h0 | h0
                · rw [h0] at hr1
                  cases hr1
                · rw [Array.getElem?_eq_none (by simp; omega)] at hr1
                  cases hr1
              have z0 := (HBW.out _ hb (by omega) _).trans hr0
              have z1 := (HBW.out _ hb2 hne _).trans hr1
              simp only [Nat.mul_one, Nat.add_zero, Nat.zero_add, runeV, badV] at z0 z1
              obtain ⟨xc, xb⟩ := x
              simp only at z0 z1
              clear hx hc hc2 hr0 hr1
              have hbw : w.heap.size + 1 + 1 < wr.heap.size := by omega
              have hbw2 : b2 < wr.heap.size := by omega
              have h10I : ¬ (xc : Int) = 10 := by simp only at h10; omega
              have h10b : ((xc : Int) == 10) = false := by rw [beq_eq_false_iff_ne]; exact h10I
              go_upto_region 16 with (fail)
              have HMX2 : Hid (∀ y ∈ cur ++ [(xc, xb)], y.1 ≤ 1114111) := hide (fun y hy => by
                rcases List.mem_append.1 hy with h1 | h1
                · exact HMX.out y h1
                · simp only [List.mem_cons, List.not_mem_nil, or_false] at h1
                  rw [h1]
                  exact HRX.out _ (List.mem_of_getElem? HX.out))
              have HG2 : Hid (RG rs (k + 1) ln st (cur ++ [(xc, xb)])) := hide (HG.out.go HX.out h10)
              have HNR : Hid (nR ≤ 1000000000) := hide (by have := HRL.out; omega)
              have HOWN : Hid (∀ j, (Value.slice AR nR cR).ownBlock = some j → j < wr.heap.size) := hide (fun j hj => (HP.out.rows.old (i := 4) rfl j hj).2)
              have HOWB : Hid (∀ j, (Value.slice AR nR cR).ownBlock = some j → w1.heap.size ≤ j) := hide (fun j hj => (HP.out.rows.old (i := 4) rfl j hj).1)
              have HOWB2 : Hid (∀ j, (Value.slice AB nR cB).ownBlock = some j → w1.heap.size ≤ j) := hide (fun j hj => (HP.out.rows.old (i := 5) rfl j hj).1)
              have HZB : Hid (∀ W, Only Nob wr W → w1.heap.size ≤ W.heap.size) := hide (fun W h => Nat.le_trans hsz h.size)
              have HZ6 := (fun (w6 : World) (hz : wr.heap.size ≤ w6.heap.size) (W : World) (h : Only Nob w6 W) => Nat.le_trans (Nat.le_trans hsz hz) h.size)
              have HOZ : Hid (∀ W, Only Nob wr W → Only (fun j => w1.heap.size ≤ j) wr W) := hide (fun W h => h.mono (fun _ _ hk => hk.elim))
              have HSS : Hid (∀ W, Only (fun j => w1.heap.size ≤ j) wr W → W.cell? ⟨w.heap.size + 1 + 1, k, none⟩ = some (.int .i32 (xc : Int)) ∧ W.cell? ⟨b2, o2 + k, none⟩ = some (.bool xb)) := hide (fun W h => ⟨(h.cell (p := ⟨w.heap.size + 1 + 1, k, none⟩) hbw (fun hk => by have : w1.heap.size ≤ w.heap.size + 1 + 1 := hk; omega)).trans z0, (h.cell (p := ⟨b2, o2 + k, none⟩) hbw2 (fun hk => by have : w1.heap.size ≤ b2 := hk; omega)).trans z1⟩)
              go_region_held3 (fun W => W.cell? ⟨w.heap.size + 1 + 1, k, none⟩ = some (.int .i32 (xc : Int)) ∧ W.cell? ⟨b2, o2 + k, none⟩ = some (.bool xb)) (first | (with_reducible assumption) | (exact HSS.out _ (by repeat' (first | (with_reducible assumption) | (with_reducible exact HOB.out) | (with_reducible exact HOC7.out) | (with_reducible exact HOC6.out) | (with_reducible refine Only.alloc ?_ _) | (with_reducible refine Only.drewN ?_ _) | (with_reducible refine Only.drew ?_) | (with_reducible exact Only.refl _ _))))) (first | (refine step_pushR rfl _ _ rfl Tryd.underlying155 infoI32 rfl (by decide) (by decide) (HP.out.rows.nob (by repeat' (first | (with_reducible refine Only.alloc ?_ _) | (with_reducible refine Only.drewN ?_ _) | (with_reducible refine Only.drew ?_) | (with_reducible exact Only.refl _ _)))) 4 rfl (HZB.out _ (by repeat' (first | (with_reducible refine Only.alloc ?_ _) | (with_reducible refine Only.drewN ?_ _) | (with_reducible refine Only.drew ?_) | (with_reducible exact Only.refl _ _)))) #[.int .i32 (xc : Int)] rfl (by simp [Value.oneCell']) HNR.out rfl rfl (by first | exact Blk.new' (by simp) | exact (Blk.new' (by simp)).alloc _) ?_; intro A6 c6 w6 hR6 ho6; have HR6 := hide hR6; have HKB := hide (fun (G : Nat) (e : TypeId) (cs : Array Value) (hG : wr.heap.size ≤ G) (hb : Blk _ G e cs) => hb.only ho6 (fun h => by have := HOWN.out _ h; omega)); have HOC6 : Hid (Only (fun j => w1.heap.size ≤ j) wr w6) := hide (Only.trans (HOZ.out _ (by repeat' (first | (with_reducible refine Only.alloc ?_ _) | (with_reducible refine Only.drewN ?_ _) | (with_reducible refine Only.drew ?_) | (with_reducible exact Only.refl _ _)))) (ho6.mono (fun j _ hj => (HOWB.out j hj)))); have hz6 := HOC6.out.size; clear hR6 ho6) | (refine step_pushR rfl _ _ rfl Tryd.underlying129 infoBl rfl (by decide) (by decide) (HR6.out.nob (by repeat' (first | (with_reducible refine Only.alloc ?_ _) | (with_reducible refine Only.drewN ?_ _) | (with_reducible refine Only.drew ?_) | (with_reducible exact Only.refl _ _)))) 5 rfl (HZ6 w6 hz6 _ (by repeat' (first | (with_reducible refine Only.alloc ?_ _) | (with_reducible refine Only.drewN ?_ _) | (with_reducible refine Only.drew ?_) | (with_reducible exact Only.refl _ _)))) #[.bool xb] rfl (by simp [Value.oneCell']) HNR.out rfl rfl (by first | exact Blk.new _ _ _ | exact HKB.out _ _ _ (by simp) (Blk.new' (by simp)) | exact HKB.out _ _ _ (by simp) ((Blk.new' (by simp)).alloc _)) ?_; intro A7 c7 w7 hR7 ho7; have HR7 := hide hR7; have HOC7 : Hid (Only (fun j => w1.heap.size ≤ j) wr w7) := hide (Only.trans (Only.trans HOC6.out ((fun W (h : Only Nob w6 W) => h.mono (fun _ _ hk => hk.elim)) _ (by repeat' (first | (with_reducible refine Only.alloc ?_ _) | (with_reducible refine Only.drewN ?_ _) | (with_reducible refine Only.drew ?_) | (with_reducible exact Only.refl _ _))))) (ho7.mono (fun j _ hj => (HOWB2.out j hj)))); clear hR7 ho7))
              all_goals go_wp2_with fail
              all_goals refine ⟨⟨k + 1, ln, nP, nL, nJ, nR + 1, cL, cJ, cO, c6, c7, AL, AJ, AO, A6, A7, vP, st, cur ++ [(xc, xb)], rfl, rfl, rfl, rfl, rfl, rfl, by simp, by omega, by omega, by omega, HP.out.rune (x := (xc, xb)) HOC7.out HR7.out, HOK.out, HMX2.out, HG2.out⟩, ?_⟩
              all_goals (simp [RowKit.intOf]; omega)
            · cases h
          | false =>
            have HQE : Hid (k = n ∨ ∃ x, rs[k]? = some x ∧ x.1 = 10) := hide (by
              rcases HQB.out with ⟨h, _⟩ | ⟨_, h⟩
              · cases h
              · exact h)
            go_upto_region 18 with fail
            go_cut [74] from 33 to 191 (fun c wx => ∃ q, c = .bool q ∧ wx = wr ∧ Hid (q = true ∧ k = n ∧ nR = 0 ∨ q = false ∧ ¬ (k = n ∧ nR = 0)))
            case first => as_aux_lemma =>
              by_cases hkn : k = n
              · have hkeb : ((k : Int) == (n : Int)) = true := by rw [beq_iff_eq]; omega
                have HKN := hide hkn
                clear hkn
                by_cases hcur : nR = 0
                · have hcb : ((nR : Int) == 0) = true := by rw [beq_iff_eq]; omega
                  have HCU := hide hcur
                  clear hcur
                  go_wp2_with fail
                  go_meet
                  exact ⟨true, rfl, rfl, hide (.inl ⟨rfl, HKN.out, HCU.out⟩)⟩
                · have hcb : ((nR : Int) == 0) = false := by rw [beq_eq_false_iff_ne]; omega
                  go_wp2_with fail
                  go_meet
                  exact ⟨false, rfl, rfl, hide (.inr ⟨rfl, fun h => hcur h.2⟩)⟩
              · have hkeb : ((k : Int) == (n : Int)) = false := by rw [beq_eq_false_iff_ne]; omega
                go_wp2_with fail
                go_meet
                exact ⟨false, rfl, rfl, hide (.inr ⟨rfl, fun h => hkn h.1⟩)⟩
            case rest =>
              obtain ⟨qc, rfl, hw, HQC⟩ := hcut
              replace hw := hw.symm
              subst hw
              cases qc with
              | true => as_aux_lemma =>
                rcases HQC.out with ⟨_, hkn, hcur⟩ | ⟨h, _⟩
                · have hc0 : cur = [] := List.eq_nil_of_length_eq_zero (HP.out.eR.trans hcur)
                  have HPA : Hid (parseP s.data.toList = match resolveP st.labels st.jumps st.l with
                    | .err a b c => ([], a, b, c)
                    | .ok l => (l, 0, 0, 0)) := hide (by
                    have h0 := HG.out
                    rw [hc0] at h0
                    have h1 := (h0.empty (by have := HN.out; omega) 0).fin (by have := HN.out; omega)
                    unfold parseP
                    rw [if_neg (by have := HS.out; simp; omega), HRS.out, h1]
                    rfl)
                  clear hc0
                  obtain ⟨AP, cP, rfl⟩ := HP.out.sliceP
                  go_wp2_with fail
                  go_loopw [22] (fun c22 wx => ∃ (i : Nat) (l' : List PIns), c22 = .int .i64 (i : Int) ∧ PV w1 wx (w.heap.size + 1) st cur nP nL nJ nR (.slice AP nP cP) (.slice AL nL cL) (.slice AJ nJ cJ) (.slice AO nJ cO) (.slice AR nR cR) (.slice AB nR cB) i l') (fun c22 _ => nJ - (RowKit.intOf c22).toNat)
                  case atStart => exact ⟨0, st.l, rfl, PV.start HP.out⟩
                  case round =>
                    obtain ⟨w8, hw8⟩ : ∃ w8, w8 = wr := ⟨_, rfl⟩
                    subst hw8
                    obtain ⟨i, l', rfl, hV⟩ := hrel
                    have HV := hide hV
                    have hile := hV.le
                    have hPX := hV.pw
                    have hxg := hPX.cell.lt
                    have hnJ : nJ ≤ 120 := by have := HOK.out.few; have := HOK.out.jumps; have := HP.out.eJ; omega
                    have HO8 : Hid (Only Nob w w8) := hide (Only.after HOW.out hPX.only (fun q hq => .inr (by rcases hq with hq | hq; omega; have : w1.heap.size ≤ q := hq; have := HOW.out.size; omega)))
                    have hxc := hPX.cell.cell 0
                    simp at hxc
                    have h2b : Blk w8 w.heap.size 55 #[.slice none 0 0] := HB2.out.only hPX.only (fun hk => by rcases hk with hk | hk; omega; have : w1.heap.size ≤ w.heap.size := hk; have := HOW.out.size; have := HB2.out.lt; omega)
                    have r5 := h2b.cell 0
                    have r6 := h2b.frozen 0
                    have r7 := h2b.lt
                    simp at r5
                    clear h2b
                    by_cases hi : i < nJ
                    · have hiI : (i : Int) < (nJ : Int) := by omega
                      obtain ⟨j, hj⟩ : ∃ j, st.jumps[i]? = some j := ⟨_, List.getElem?_eq_getElem (by have := HP.out.eJ; omega)⟩
                      obtain ⟨bj, oj, hAJ, hbj, hcj⟩ := hPX.inJ.at_ (show ({ st with l := l' } : PS).jumps[i]? = some j from hj)
                      obtain ⟨bo, oo, hAO, hbo, hco⟩ := hPX.inO.at_ (show ({ st with l := l' } : PS).jumps[i]? = some j from hj)
                      subst hAJ hAO
                      have p0 := hcj 0 _ rfl
                      have p1 := hcj 1 _ rfl
                      have p2 := hcj 2 _ rfl
                      have p3 := hco 0 _ rfl
                      simp only [Nat.add_zero, Nat.mul_one] at p0 p1 p2 p3
                      have hat : j.at_ < nP := by
                        have := HOK.out.at_ j (List.mem_of_getElem? hj)
                        have := HP.out.eP
                        omega
                      have hatI : (j.at_ : Int) < (nP : Int) := by omega
                      have HFI := hide (fun W (hW : Only Nob w8 W) => find_any st.labels AL nL cL ⟨j.s.toArray⟩ W HP.out.eL ((HV.out.pw.nob hW).inL) (by have := HOK.out.labels; have := HP.out.eL; omega))
                      have HJ := hide hj
                      have hrow := hPX.rows.own 0 _ rfl
                      clear hcj hco hj hPX hV
                      cases hlp : lookP st.labels j.s with
                      | none =>
                        have hfi : findI st.labels (⟨j.s.toArray⟩ : ByteArray).data.toList = -1 := by unfold findI; rw [show (⟨j.s.toArray⟩ : ByteArray).data.toList = j.s from rfl, hlp]
                        have HLP := hide hlp
                        rw [hfi] at HFI
                        clear hfi hlp hrow
                        go_upto_region 39 with (go_at_call 91; refine (HFI.out _ (by repeat' (first | (with_reducible refine Only.alloc ?_ _) | (with_reducible refine Only.drewN ?_ _) | (with_reducible refine Only.drew ?_) | (with_reducible exact Only.refl _ _)))).mono ?_; rintro e w9 ⟨rfl, rfl⟩)
                        go_region
                        all_goals (go_wp2_with fail)
                        all_goals exact bodyPost_ret (by simp [results, Tryd.results61, go_sem, r5, r7]; try rfl) rfl (ParsePost.bad (HV.out.bad HJ.out HLP.out HPA.out) ((Only.setCell (S := Nob) (p := ⟨w.heap.size, 0, none⟩) HO8.out (.inr (Nat.le_refl _)) _).drew))
                      | some c =>
                        have hfi : findI st.labels (⟨j.s.toArray⟩ : ByteArray).data.toList = (c : Int) := by unfold findI; rw [show (⟨j.s.toArray⟩ : ByteArray).data.toList = j.s from rfl, hlp]
                        have HLP := hide hlp
                        rw [hfi] at HFI
                        clear hfi hlp
                        simp only at hrow
                        obtain ⟨gl, rfl⟩ := row_some hrow (by omega)
                        have hgl2 := (hrow.lt gl rfl).2
                        have hl' : l'.length = nP := HV.out.pw.eP
                        obtain ⟨v3, q3⟩ : ∃ v3, w8.cell? ⟨gl, j.at_ * 5 + 3, none⟩ = some v3 := ⟨_, (World.ownsRow.cellAt hrow (j.at_ * 5 + 3) (by omega)).trans (List.getElem?_eq_getElem (by rw [progCells_len]; omega))⟩
                        have f3 := World.ownsRow.frozenAt hrow (j.at_ * 5 + 3)
                        have HNX := hide (HV.out.put HJ.out HLP.out hat)
                        clear hrow
                        go_upto_region 40 with (go_at_call 91; refine (HFI.out _ (by repeat' (first | (with_reducible refine Only.alloc ?_ _) | (with_reducible refine Only.drewN ?_ _) | (with_reducible refine Only.drew ?_) | (with_reducible exact Only.refl _ _)))).mono ?_; rintro e w9 ⟨rfl, rfl⟩)
                        go_region
                        all_goals (go_wp2_with fail)
                        all_goals refine ⟨⟨i + 1, _, by simp, HNX.out.nob ((Only.refl _ _).drew)⟩, ?_⟩
                        all_goals (simp [RowKit.intOf]; omega)
                    · have hiI : ¬ (i : Int) < (nJ : Int) := by omega
                      have HPF := hide (HV.out.fin (by omega) HPA.out)
                      clear hV hPX
                      go_wp2_with fail
                      exact bodyPost_ret (by simp [results, Tryd.results61, go_sem, r5, r7]; try rfl) rfl (PV.done HV.out HOW.out (by omega) HPF.out _)
                · cases h
              | false =>
                have HLN : Hid (LN rs k ln (lineP (ln + 1) st cur)) := hide (by
                  rcases HQC.out with ⟨h, _⟩ | ⟨_, hnc⟩
                  · cases h
                  · rcases HQE.out with hkn | ⟨x, hx, h10⟩
                    · exact HG.out.last (by have := HN.out; omega) (fun e => hnc ⟨hkn, by have := HP.out.eR; rw [e] at this; exact this.symm⟩)
                    · exact HG.out.nl hx h10)
                have HCUT := hide (fun W (hW : Only Nob wr W) => cut_any cur ((ln : Int) + 1) AR AB nR cR cB W HP.out.eR (by have := HRL.out; omega) ((HP.out.nob hW).cap) ((HP.out.nob hW).inR) ((HP.out.nob hW).inB) HMX.out)
                go_upto_region 21 with (go_at_call 89; refine (HCUT.out _ (by repeat' (first | (with_reducible refine Only.alloc ?_ _) | (with_reducible refine Only.drewN ?_ _) | (with_reducible refine Only.drew ?_) | (with_reducible exact Only.refl _ _)))).mono ?_; rintro e w9 ⟨AW, nW, cW, rfl, hnW, hcW, hslW, hoW, hbW⟩; have HNW := hide hnW; have HCW := hide hcW; have HSLW := hide hslW; have HOW9 := hide hoW; have HBW9 := hide hbW; have hz9 := hoW.size; clear hnW hcW hslW hoW hbW)
                obtain ⟨wl, hwl⟩ : ∃ wl, wordsR cur = wl := ⟨_, rfl⟩
                have HWL := hide hwl
                rw [hwl] at HNW HSLW
                clear hwl
                have HP9 : Hid (PW w1 w9 (w.heap.size + 1) st [] nP nL nJ 0 vP (.slice AL nL cL) (.slice AJ nJ cJ) (.slice AO nJ cO) (.slice none 0 0) (.slice none 0 0)) := hide ((HP.out.nob HOW9.out).clear)
                cases wl with
                | nil =>
                  have hnW0 : nW = 0 := HNW.out
                  subst hnW0
                  have HRG : Hid (RG rs (k + 1) (ln + 1) st []) := hide (by have h := HLN.out; rw [lineR_nil HWL.out] at h; exact h)
                  go_region
                  all_goals (go_wp2_with fail)
                  all_goals go_roundw
                  case rel => exact ⟨k + 1, ln + 1, nP, nL, nJ, 0, cL, cJ, cO, 0, 0, AL, AJ, AO, none, none, vP, st, [], rfl, rfl, rfl, by simp, rfl, rfl, by simp <;> omega, by omega, by omega, by omega, HP9.out.nob ((Only.refl _ _).drew), ⟨HOK.out.few, HOK.out.jumps, Nat.le_succ_of_le HOK.out.labels, HOK.out.at_, HOK.out.labat⟩, (fun y hy => by cases hy), HRG.out⟩
                  case measure =>
                    simp [RowKit.intOf]
                    omega
                | cons y ys =>
                  obtain ⟨nV, hnV⟩ : ∃ nV, ys.length = nV := ⟨_, rfl⟩
                  have hnW1 : nW = nV + 1 := by have := HNW.out; rw [List.length_cons, hnV] at this; exact this
                  subst hnW1
                  have hnwI : (0 : Int) < ((nV + 1 : Nat) : Int) := by omega
                  obtain ⟨bw, ow, rfl, hbw9, hcw⟩ := HSLW.out.at_ (k := 0) rfl
                  have v0 := hcw 0 _ rfl
                  have v2 := hcw 2 _ rfl
                  have v3 := hcw 3 _ rfl
                  simp only [Nat.add_zero, Nat.zero_mul] at v0 v2 v3
                  have HYNE : Hid (y.s ≠ []) := hide (wordsR_ne cur y (by rw [HWL.out]; exact List.mem_cons_self))
                  obtain ⟨ss, sc, sb⟩ := y
                  simp only at v0 v2 v3
                  obtain ⟨sy, hsy⟩ : ∃ sy : ByteArray, (⟨ss.toArray⟩ : ByteArray) = sy := ⟨_, rfl⟩
                  have HSY : Hid (sy.data.toList = ss) := hide (by rw [← hsy])
                  have hsyp : 0 < sy.size := by
                    rw [← hsy]
                    show 0 < ss.toArray.size
                    rw [List.size_toArray]
                    exact List.length_pos_iff.2 HYNE.out
                  have hsyI : (0 : Int) < (sy.size : Int) := by omega
                  rw [hsy] at v0
                  clear hcw hsy
                  obtain ⟨lb, hlb, hix⟩ := idx_last sy hsyp
                  rw [HSY.out] at hlb
                  have HLB := hide hlb
                  clear hlb
                  have hLEN : Hid (∀ y ∈ wordsR cur, y.s.length ≤ 16004) := hide (fun y hy => by have h1 := wordsR_len cur y hy; have h2 := HP.out.eR; omega)
                  have hCNT : Hid (nV + 1 ≤ 4001 ∧ endR cur ≤ 4002) := hide (by have h1 := wordsR_count cur; have h2 := HP.out.eR; have h3 := HNW.out; have h4 := endR_le cur; rw [HWL.out] at h1; simp only [List.length_cons] at h1 h3; omega)
                  have hsyL : (sy.size : Int) ≤ 16004 := by
                    have h1 := hLEN.out ⟨ss, sc, sb⟩ (by rw [HWL.out]; exact List.mem_cons_self)
                    have h2 : sy.data.toList.length = sy.size := by simp
                    rw [HSY.out] at h2
                    simp only at h1
                    omega
                  have hbwr : wr.heap.size ≤ bw := HBW9.out bw ow rfl
                  obtain ⟨lbit, hlbit⟩ : ∃ b : Bool, (b = true ↔ ss.getLast? = some 58) := ⟨decide (ss.getLast? = some 58), by simp⟩
                  have HLBIT := hide hlbit
                  clear hlbit
                  obtain ⟨sd, hsd⟩ : ∃ sd, sy.extract 0 (sy.size - 1) = sd := ⟨_, rfl⟩
                  have HSD : Hid (sd.data.toList = ss.dropLast ∧ sd.size ≤ sy.size) := hide ⟨by rw [← hsd, drop_last sy hsyp, HSY.out], by rw [← hsd]; exact drop_last_size sy hsyp⟩
                  have HSDE := hide hsd
                  clear hsd
                  have HX9 : Hid (Only (Sg (w.heap.size + 1) w1.heap.size) w1 w9) := hide (HP9.out.only)
                  obtain ⟨AP, cP, rfl⟩ := HP9.out.sliceP
                  go_cut [106] from 33 to 191 (fun c wx => c = .bool lbit ∧ Only Nob w9 wx)
                  case first => as_aux_lemma =>
                    by_cases hl58 : lb = 58
                    · have hb58 : lbit = true := HLBIT.out.2 (by rw [HLB.out, hl58])
                      subst hb58
                      have e58 : ((lb.toNat : Int) == 58) = true := by rw [hl58]; rfl
                      go_quiet (fail)
                      go_wp2_with fail
                      go_meet
                      exact ⟨rfl, (Only.refl _ _).drewN _⟩
                    · have hb58 : lbit = false := by
                        rw [← Bool.not_eq_true]
                        intro h
                        have h2 := HLBIT.out.1 h
                        rw [HLB.out] at h2
                        injection h2 with h2
                        exact hl58 h2
                      subst hb58
                      have e58 : ((lb.toNat : Int) == 58) = false := by
                        rw [beq_eq_false_iff_ne]
                        intro h
                        exact hl58 (UInt8.toNat_inj.1 (by have h3 : (lb.toNat : Int) = 58 := h; show lb.toNat = 58; omega))
                      go_quiet (fail)
                      go_wp2_with fail
                      go_meet
                      exact ⟨rfl, (Only.refl _ _).drewN _⟩
                  case rest =>
                    obtain ⟨rfl, hox⟩ := hcut
                    obtain ⟨w5, hw5⟩ : ∃ w5, w5 = wc := ⟨_, rfl⟩
                    subst hw5
                    have HO5 := hide hox
                    have gg0 := (hox.cell (p := ⟨bw, ow, none⟩) hbw9 (fun h => h)).trans v0
                    have gg2 := (hox.cell (p := ⟨bw, ow + 2, none⟩) hbw9 (fun h => h)).trans v2
                    have gg3 := (hox.cell (p := ⟨bw, ow + 3, none⟩) hbw9 (fun h => h)).trans v3
                    have hbw5 : bw < w5.heap.size := Nat.lt_of_lt_of_le hbw9 hox.size
                    have hz5 := hox.size
                    have HP5 := hide (HP9.out.nob hox)
                    have HSL5 := hide (HSLW.out.nob hox)
                    have hgp5 := HP5.out.cell.cell 0
                    have hgl5 := HP5.out.cell.lt
                    have hgf5 := HP5.out.cell.frozen 0
                    simp at hgp5
                    clear hox v0 v2 v3 hix hgc hgf
                    go_upto_if 106 with fail
                    go_cut [7, 16] from 33 to 191 (fun v7 v16 wx => ∃ (st2 : PS) (n2 c2 n6 c6 : Nat) (A2 A6 : Option Addr) (ws2 : List Wd), v7 = .slice A2 n2 c2 ∧ v16 = .slice A6 n6 c6 ∧ Hid (PW w1 wx (w.heap.size + 1) st2 [] nP n2 nJ 0 (.slice AP nP cP) (.slice A2 n2 c2) (.slice AJ nJ cJ) (.slice AO nJ cO) (.slice none 0 0) (.slice none 0 0)) ∧ Hid (SlIn (wordC ((ln : Int) + 1)) 4 wx wx.heap.size A6 ws2) ∧ Hid (ws2.length = n6 ∧ n6 ≤ 4001 ∧ ∀ y ∈ ws2, y ∈ wordsR cur) ∧ Hid (LN rs k ln (instrP (ln + 1) (endR cur) st2 ws2)) ∧ Hid (PSok st2 (ln + 1)))
                    case first => as_aux_lemma =>
                      cases lbit with
                      | false =>
                        have HL2 : Hid (LN rs k ln (instrP (ln + 1) (endR cur) st (⟨ss, sc, sb⟩ :: ys))) := hide (by
                          have h1 := HLN.out
                          rwa [lineR_ins HWL.out (fun h => by have := HLBIT.out.2 h; cases this)] at h1)
                        go_wp2_with fail
                        go_meet
                        exact ⟨st, nL, cL, nV + 1, cW, AL, some ⟨bw, ow, none⟩, ⟨ss, sc, sb⟩ :: ys, rfl, rfl, HP5, HSL5, hide ⟨by rw [List.length_cons, hnV], hCNT.out.1, fun y hy => by rw [HWL.out]; exact hy⟩, HL2, hide HOK.out.more⟩
                      | true =>
                        have HL58 := hide (HLBIT.out.1 rfl)
                        have HSDA : Hid (sd = ⟨ss.dropLast.toArray⟩) := hide (by rw [← HSD.out.1])
                        go_upto_region 22 with fail
                        go_cut [18] from 33 to 191 (fun v wx => v = .string sd ∧ ∃ m, wx = w5.drewN m)
                        case first => as_aux_lemma =>
                          have hsd0 : (0 : Int) ≤ (sy.size : Int) - 1 := by omega
                          go_quiet (fail)
                          go_wp2_with fail
                          go_meet
                          exact ⟨by rw [HSDE.out], _, rfl⟩
                        case rest =>
                          obtain ⟨rfl, m5, rfl⟩ := hcut
                          obtain ⟨nb, hnb⟩ : ∃ nb, nameP sd.data.toList = nb := ⟨_, rfl⟩
                          obtain ⟨lk, hlk⟩ : ∃ lk, lookP st.labels sd.data.toList = lk := ⟨_, rfl⟩
                          have HNMP := hide hnb
                          have HLKP := hide hlk
                          have HNM := hide (fun W => rname_any sd (by have := HSD.out.2; omega) W)
                          rw [hnb] at HNM
                          clear hnb hlk
                          have HFI := hide (fun W (hW : Only Nob w5 W) => find_any st.labels AL nL cL sd W HP5.out.eL ((HP5.out.nob hW).inL) (by have := HOK.out.labels; have := HP5.out.eL; omega))
                          go_upto_region 23 with fail
                          go_cut [132] from 33 to 191 (fun v wx => ∃ bb, v = .bool bb ∧ Hid (bb = (sb || (!nb || lk.isSome))) ∧ Only Nob w5 wx)
                          case first => as_aux_lemma =>
                            cases sb with
                            | true => as_aux_lemma =>
                              go_wp2_with fail
                              go_meet
                              exact ⟨true, rfl, hide rfl, (Only.refl _ _).drewN _⟩
                            | false => as_aux_lemma =>
                              cases nb with
                              | false =>
                                go_wp2_with ((go_at_call 90; refine (HNM.out _).mono ?_; rintro e w6 ⟨rfl, ho6⟩; have HO6 : Hid (Only Nob w5 w6) := hide (((Only.refl _ w5).drewN _).trans ho6); clear ho6))
                                go_meet
                                exact ⟨true, rfl, hide rfl, HO6.out⟩
                              | true =>
                                cases lk with
                                | none =>
                                  rw [find_neg _ _ HLKP.out] at HFI
                                  go_wp2_with (first | (go_at_call 90; refine (HNM.out _).mono ?_; rintro e w6 ⟨rfl, ho6⟩; have HO6 : Hid (Only Nob w5 w6) := hide (((Only.refl _ w5).drewN _).trans ho6); clear ho6) | (go_at_call 91; refine (HFI.out _ HO6.out).mono ?_; rintro e w8 ⟨rfl, hw8⟩; subst hw8))
                                  go_meet
                                  exact ⟨false, rfl, hide rfl, HO6.out⟩
                                | some cl =>
                                  rw [find_pos _ _ HLKP.out] at HFI
                                  go_wp2_with (first | (go_at_call 90; refine (HNM.out _).mono ?_; rintro e w6 ⟨rfl, ho6⟩; have HO6 : Hid (Only Nob w5 w6) := hide (((Only.refl _ w5).drewN _).trans ho6); clear ho6) | (go_at_call 91; refine (HFI.out _ HO6.out).mono ?_; rintro e w8 ⟨rfl, hw8⟩; subst hw8))
                                  go_meet
                                  exact ⟨true, rfl, hide rfl, HO6.out⟩
                          case rest =>
                            obtain ⟨bb, rfl, HBB, hox⟩ := hcut
                            obtain ⟨w7, hw7⟩ : ∃ w7, w7 = wc := ⟨_, rfl⟩
                            subst hw7
                            have x2 := (hox.cell (p := ⟨bw, ow + 2, none⟩) hbw5 (fun h => h)).trans gg2
                            have HP7 := hide (HP5.out.nob hox)
                            have HSL7 := hide (HSL5.out.nob hox)
                            have hbw7 : bw < w7.heap.size := Nat.lt_of_lt_of_le hbw5 hox.size
                            have hz7 := hox.size
                            have hgp7 := HP7.out.cell.cell 0
                            have hgl7 := HP7.out.cell.lt
                            have hgf7 := HP7.out.cell.frozen 0
                            simp at hgp7
                            clear hox gg0 gg2 gg3 hgp5 hgl5 hgf5
                            cases bb with
                            | true => as_aux_lemma =>
                              have HER : Hid (parseP s.data.toList = ([], ln + 1, sc, 12)) := hide (by
                                have h1 := HLN.out
                                rw [lineR_lab HWL.out HL58.out, if_pos (by
                                  have h2 := HBB.out
                                  rw [← HSD.out.1, HNMP.out, HLKP.out]
                                  cases sb <;> cases nb <;> cases lk <;> simp at h2 ⊢)] at h1
                                have h3 : linesP 0 PS.start (linesR rs) = .err (ln + 1) sc 12 := h1
                                unfold parseP
                                rw [if_neg (by have := HS.out; simp; omega), HRS.out, h3])
                              have h2b : Blk w7 w.heap.size 55 #[.slice none 0 0] := HB2.out.only HP7.out.only (fun hk => by rcases hk with hk | hk; omega; have : w1.heap.size ≤ w.heap.size := hk; have := HOW.out.size; have := HB2.out.lt; omega)
                              have r5 := h2b.cell 0
                              have r6 := h2b.frozen 0
                              have r7 := h2b.lt
                              simp at r5
                              have HO8 : Hid (Only Nob w w7) := hide (Only.after HOW.out HP7.out.only (fun q hq => .inr (by rcases hq with hq | hq; omega; have : w1.heap.size ≤ q := hq; have := HOW.out.size; omega)))
                              clear h2b
                              go_upto_region 24 with fail
                              go_region
                              all_goals (go_wp2_with fail)
                              all_goals exact bodyPost_ret (by simp [results, Tryd.results61, go_sem, r5, r7]; try rfl) rfl (ParsePost.bad HER.out ((Only.setCell (S := Nob) (p := ⟨w.heap.size, 0, none⟩) HO8.out (.inr (Nat.le_refl _)) _).drew))
                            | false => as_aux_lemma =>
                              have HL2 : Hid (LN rs k ln (instrP (ln + 1) (endR cur) { st with labels := st.labels ++ [(ss.dropLast, st.l.length)] } ys)) := hide (by
                                have h1 := HLN.out
                                rwa [lineR_lab HWL.out HL58.out, if_neg (by
                                  have h2 := HBB.out
                                  rw [← HSD.out.1, HNMP.out, HLKP.out]
                                  cases sb <;> cases nb <;> cases lk <;> simp at h2 ⊢)] at h1)
                              have HSZ : Hid (w1.heap.size ≤ w7.heap.size) := hide (by omega)
                              have HN9 : Hid (nL ≤ 1000000000) := hide (by have := HOK.out.labels; have := HP5.out.eL; omega)
                              have HO1 : Hid (∀ u ∈ (#[.string sd, .int .i64 (nP : Int)] : Array Value).toList, u.oneCell' = true) := hide (by
                                intro u hu
                                simp at hu
                                rcases hu with rfl | rfl <;> rfl)
                              have hcw : nV + 1 ≤ cW := HCW.out
                              have hcwI : (nV : Int) + 1 ≤ (cW : Int) := by omega
                              have hcwJ : (1 : Int) ≤ (nV : Int) + 1 := by omega
                              go_wp2_with (at_builtin; refine wpList_pushR rfl rfl _ _ rfl Tryd.underlying153 infoLab rfl (by decide) (by decide) HP7.out.rows 1 rfl HSZ.out #[.string sd, .int .i64 (nP : Int)] rfl HO1.out HN9.out rfl rfl ?_; intro A8 c8 w8 hR8 ho8; have HR8 := hide hR8; have HO8 := hide ho8; clear hR8 ho8)
                              all_goals go_meet
                              all_goals
                                have hPL := HP7.out.label (s := ss.dropLast) (vL' := .slice A8 (nL + 1) c8) (HO8.out.mono (fun j _ hj => (HP7.out.rows.old (i := 1) rfl j hj).1)) (by rw [← HSDA.out]; exact HR8.out)
                                have hSL8 := (SlIn.tail HSL7.out)
                                have hSL9 := (SlIn.off HSL7.out HO8.out (fun b o e hk => by
                                  injection e with e
                                  injection e with e1 e2 _
                                  have h1 := (HP9.out.rows.old (i := 1) rfl b hk).2
                                  have h2 := HP.out.rows.old (i := 1) rfl b hk
                                  omega)).tail
                                have hc : Hid (ys.length = nV ∧ nV ≤ 4001 ∧ ∀ y ∈ ys, y ∈ wordsR cur) := hide ⟨hnV, by have := hCNT.out.1; omega, fun y hy => by rw [HWL.out]; exact List.mem_cons_of_mem _ hy⟩
                                first
                                  | exact ⟨_, nL + 1, c8, nV, cW - 1, A8, some ⟨bw, ow + 4, none⟩, ys, rfl, rfl, hide hPL, hide hSL9, hc, HL2, hide (HOK.out.lab _)⟩
                                  | exact ⟨_, nL + 1, c8, nV, 0, A8, some ⟨bw, ow, none⟩, ys, rfl, rfl, hide hPL, hide (by rw [show ys = [] from List.eq_nil_of_length_eq_zero (by omega)]; exact SlIn.nil _ _ _), hc, HL2, hide (HOK.out.lab _)⟩
                    case rest =>
                      obtain ⟨st2, n2, c2, n6, c6, A2, A6, ws2, rfl, rfl, HPX, HSX, HWX, HLX, HKX⟩ := hcut
                      obtain ⟨w6, hw6⟩ : ∃ w6, w6 = wc := ⟨_, rfl⟩
                      subst hw6
                      have hgp6 := HPX.out.cell.cell 0
                      have hgl6 := HPX.out.cell.lt
                      have hgf6 := HPX.out.cell.frozen 0
                      simp at hgp6
                      have hz6 := HPX.out.only.size
                      clear gg0 gg2 gg3 hgp5 hgl5 hgf5
                      cases ws2 with
                      | nil => as_aux_lemma =>
                        have hn60 : n6 = 0 := HWX.out.1.symm
                        subst hn60
                        have HRG : Hid (RG rs (k + 1) (ln + 1) st2 []) := hide HLX.out
                        go_wp2_with fail
                        refine ⟨⟨k + 1, ln + 1, nP, n2, nJ, 0, c2, cJ, cO, 0, 0, A2, AJ, AO, none, none, .slice AP nP cP, st2, [], rfl, rfl, rfl, by simp, rfl, rfl, by simp, by omega, by omega, by omega, HPX.out, HKX.out, (fun y hy => by cases hy), HRG.out⟩, ?_⟩
                        simp [RowKit.intOf]
                        omega
                      | cons y2 ys2 =>
                        obtain ⟨n7, hn7⟩ : ∃ n7, ys2.length = n7 := ⟨_, rfl⟩
                        have hn67 : n6 = n7 + 1 := by have := HWX.out.1; rw [List.length_cons, hn7] at this; exact this.symm
                        subst hn67
                        have HN7 := hide hn7
                        clear hn7
                        have hlnT : ((ln : Int) + 1).toNat = ln + 1 := by omega
                        have hst40 : nP ≤ 40 := by have := HKX.out.few; have := HPX.out.eP; omega
                        have HTX : Hid (TabAt w6) := hide (HTB.out.only (Only.after HOW.out HPX.out.only (fun q hq => .inr (by rcases hq with hq | hq; omega; have : w1.heap.size ≤ q := hq; have := HOW.out.size; omega))))
                        have HIN := hide (instruction_any w6 HTX.out (y2 :: ys2) y2 ys2 rfl A6 (n7 + 1) c6 (endR cur) nP ((ln : Int) + 1) HWX.out.1 HSX.out (by have := HWX.out.2.1; omega) (by omega) (by have := hCNT.out.2; omega) (fun x hx => by have := hLEN.out x (HWX.out.2.2 x hx); omega))
                        rw [hlnT] at HIN
                        clear hlnT
                        obtain ⟨q, hq⟩ : ∃ q, instrQ (ln + 1) (endR cur) nP (y2 :: ys2) = q := ⟨_, rfl⟩
                        rw [hq] at HIN
                        have HIP : Hid (instrP (ln + 1) (endR cur) st2 (y2 :: ys2) = putQ st2 q) := hide (by rw [instrP_Q, HPX.out.eP, hq])
                        cases q with
                        | err c er => as_aux_lemma =>
                          have her := instrQ_err hq
                          have hek : ((er : Int) == 0) = false := by rw [beq_eq_false_iff_ne]; omega
                          have HER : Hid (parseP s.data.toList = ([], ln + 1, c, er)) := hide (by
                            have h1 := HLX.out
                            rw [HIP.out] at h1
                            have h3 : linesP 0 PS.start (linesR rs) = .err (ln + 1) c er := h1
                            unfold parseP
                            rw [if_neg (by have := HS.out; simp; omega), HRS.out, h3])
                          have h2b : Blk w6 w.heap.size 55 #[.slice none 0 0] := HB2.out.only HPX.out.only (fun hk => by rcases hk with hk | hk; omega; have : w1.heap.size ≤ w.heap.size := hk; have := HOW.out.size; have := HB2.out.lt; omega)
                          have HB6X := hide h2b
                          have HO6 : Hid (Only Nob w w6) := hide (Only.after HOW.out HPX.out.only (fun q hq => .inr (by rcases hq with hq | hq; omega; have : w1.heap.size ≤ q := hq; have := HOW.out.size; omega)))
                          clear hq her h2b
                          go_upto_region 30 with (go_at_call 92; refine HIN.out.mono ?_; rintro e w10 ⟨y, jw, jl, jc, jb, pl, pc, pe, rfl, ho10, hm⟩; obtain ⟨rfl, rfl, rfl⟩ := hm; have h2c := HB6X.out.only ho10 (fun h => h); have r5 := h2c.cell 0; have r6 := h2c.frozen 0; have r7 := h2c.lt; simp at r5; have r7a := Nat.lt_succ_of_lt r7; have r7b := Nat.lt_succ_of_lt r7a; have r7c := Nat.lt_succ_of_lt r7b; have HRES := hide (fun (o1 o2 o3 : Obj) => ((((h2c.set_ 0 (.slice none 0 0)).alloc o1).alloc o2).alloc o3).cell 0); have hgp10 := (ho10.cell (p := ⟨w.heap.size + 1, 0, none⟩) hgl6 (fun h => h)).trans hgp6; have HO10 := hide (HO6.out.trans ho10); clear ho10 h2c)
                          go_region
                          all_goals (go_wp2_with fail)
                          all_goals
                            have hres := HRES.out
                            simp only [Array.set!, Array.setIfInBounds, List.size_toArray, List.length_cons, List.length_nil, Nat.zero_lt_one, dite_true] at hres
                            exact bodyPost_ret (by simp [results, Tryd.results61, go_sem, hres]; try rfl) rfl (ParsePost.bad HER.out ((((Only.setCell (S := Nob) (p := ⟨w.heap.size, 0, none⟩) HO10.out (.inr (Nat.le_refl _)) _).alloc _).alloc _).alloc _).drew)
                        | ok p =>
                          obtain ⟨x, js⟩ := p
                          have hjs := instrQ_js hq (fun y hy => wordsR_ne cur y (HWX.out.2.2 y (List.mem_cons_of_mem _ hy)))
                          have HKN : Hid (PSok ⟨st2.l ++ [x], st2.labels, st2.jumps ++ js⟩ (ln + 1)) := hide (instrP_ok HIP.out HKX.out)
                          have HRN : Hid (RG rs (k + 1) (ln + 1) ⟨st2.l ++ [x], st2.labels, st2.jumps ++ js⟩ []) := hide (by have h1 := HLX.out; rw [HIP.out] at h1; exact h1)
                          have HJS := hide hjs
                          clear hq hjs
                          go_upto_region 28 with fail
                          go_cut [19, 20, 21] from 33 to 191 (fun v19 v20 v21 wx => ∃ (g : Nat) (jw : ByteArray) (jl jc : Int) (jb : Bool), v19 = .pointer (some ⟨g, 0, none⟩) ∧ v20 = .pointer (some ⟨g + 1, 0, none⟩) ∧ v21 = .pointer (some ⟨g + 1 + 1, 0, none⟩) ∧ w6.heap.size ≤ g ∧ Hid (Only Nob w6 wx) ∧ Hid (Blk wx g 60 #[.int .i64 x.op, .int .i64 x.a, .int .i64 x.b, .int .i64 x.c, .int .u64 x.n]) ∧ Hid (Blk wx (g + 1) 160 #[.string jw, .int .i64 jl, .int .i64 jc, .bool jb]) ∧ Hid (Blk wx (g + 1 + 1) 165 #[.int .i64 0, .int .i64 0, .int .i64 0]) ∧ Hid (js = [] ∧ jw = ⟨#[]⟩ ∨ ∃ s c, js = [⟨nP, s, ln + 1, c⟩] ∧ s ≠ [] ∧ jw = ⟨s.toArray⟩ ∧ jl = (ln : Int) + 1 ∧ jc = (c : Int) ∧ jb = false))
                          case first => as_aux_lemma =>
                            have HMM : Hid (∀ (y : PIns) (jw : ByteArray) (jl jc : Int) (jb : Bool) (pl pc pe : Int), (match (Out.ok (x, js) : Out (PIns × List JP)) with
                              | .ok (x, []) => y = x ∧ jw = ⟨#[]⟩ ∧ pl = 0 ∧ pc = 0 ∧ pe = 0
                              | .ok (x, j :: _) => y = x ∧ jw.data.toList = j.s ∧ jl = (ln : Int) + 1 ∧ jc = (j.col : Int) ∧ jb = false ∧ pl = 0 ∧ pc = 0 ∧ pe = 0
                              | .err c er => pl = (ln : Int) + 1 ∧ pc = (c : Int) ∧ pe = (er : Int)) → y = x ∧ pl = 0 ∧ pc = 0 ∧ pe = 0 ∧ (js = [] ∧ jw = ⟨#[]⟩ ∨ ∃ s c, js = [⟨nP, s, ln + 1, c⟩] ∧ s ≠ [] ∧ jw = ⟨s.toArray⟩ ∧ jl = (ln : Int) + 1 ∧ jc = (c : Int) ∧ jb = false)) := hide (by
                              intro y jw jl jc jb pl pc pe hm
                              rcases HJS.out with rfl | ⟨s, c, rfl, hs⟩
                              · obtain ⟨h1, h2, h3, h4, h5⟩ := hm
                                exact ⟨h1, h3, h4, h5, .inl ⟨rfl, h2⟩⟩
                              · obtain ⟨h1, h2, h3, h4, h5, h6, h7, h8⟩ := hm
                                have h9 : jw.data.toList = s := h2
                                exact ⟨h1, h6, h7, h8, .inr ⟨s, c, rfl, hs, by rw [← h9], h3, h4, h5⟩⟩)
                            go_wp2_with (go_at_call 92; refine HIN.out.mono ?_; rintro e w10 ⟨y, jw, jl, jc, jb, pl, pc, pe, rfl, ho10, hm⟩; obtain ⟨hy, rfl, rfl, rfl, hjw⟩ := HMM.out _ _ _ _ _ _ _ _ hm; subst y; have HJW := hide hjw; have HO10 := hide ho10; clear hm hjw ho10)
                            go_meet
                            exact ⟨w10.heap.size, jw, jl, jc, jb, rfl, by simp, by simp, HO10.out.size, hide (((HO10.out.alloc _).alloc _).alloc _), hide (((Blk.new _ _ _).alloc _).alloc _), hide ((Blk.new' (by simp)).alloc _), hide (Blk.new' (by simp)), HJW⟩
                          case rest =>
                            obtain ⟨g, jw, jl, jc, jb, rfl, rfl, rfl, hg6, HO11, HB19, HB20, HB21, HJW⟩ := hcut
                            obtain ⟨w11, hw11⟩ : ∃ w11, w11 = wc := ⟨_, rfl⟩
                            subst hw11
                            have a0 := HB19.out.cell 0
                            have a1 := HB19.out.cell 1
                            have a2 := HB19.out.cell 2
                            have a3 := HB19.out.cell 3
                            have a4 := HB19.out.cell 4
                            have hgl := HB19.out.lt
                            have hgl1 := HB20.out.lt
                            have hgl2 := HB21.out.lt
                            have q0 := HB20.out.cell 0
                            have q1 := HB20.out.cell 1
                            have q2 := HB20.out.cell 2
                            have q3 := HB20.out.cell 3
                            have p2 := HB21.out.cell 2
                            simp at a0 a1 a2 a3 a4 q0 q1 q2 q3 p2
                            have hgp11 := (HO11.out.cell (p := ⟨w.heap.size + 1, 0, none⟩) hgl6 (fun h => h)).trans hgp6
                            have hgl11 := Nat.lt_of_lt_of_le hgl6 HO11.out.size
                            have HP11 := hide (HPX.out.nob HO11.out)
                            have hz11 := HO11.out.size
                            clear hgp6 hgf6
                            go_upto_if 175 with fail
                            go_cut [8, 9] from 33 to 191 (fun v8 v9 wx => ∃ (nJ2 cJ2 cO2 : Nat) (AJ2 AO2 : Option Addr), v8 = .slice AJ2 nJ2 cJ2 ∧ v9 = .slice AO2 nJ2 cO2 ∧ Hid (PW w1 wx (w.heap.size + 1) { st2 with jumps := st2.jumps ++ js } [] nP n2 nJ2 0 (.slice AP nP cP) (.slice A2 n2 c2) (.slice AJ2 nJ2 cJ2) (.slice AO2 nJ2 cO2) (.slice none 0 0) (.slice none 0 0)) ∧ Hid (Blk wx g 60 #[.int .i64 x.op, .int .i64 x.a, .int .i64 x.b, .int .i64 x.c, .int .u64 x.n]))
                            case first => as_aux_lemma =>
                              rcases HJW.out with ⟨hj1, hj2⟩ | ⟨sj, cj, hj1, hsj, hj2, rfl, rfl, rfl⟩
                              · subst hj1 hj2
                                have hje : (⟨#[]⟩ : ByteArray).toList.isEmpty = true := by rw [ByteArray.toList_eq]; rfl
                                rw [hje]
                                go_wp2_with fail
                                go_meet
                                exact ⟨nJ, cJ, cO, AJ, AO, rfl, rfl, by rw [List.append_nil]; exact HP11, HB19⟩
                              · subst hj1 hj2
                                have hje : (⟨sj.toArray⟩ : ByteArray).toList.isEmpty = false := by
                                  rw [ByteArray.toList_eq]
                                  cases sj with
                                  | nil => exact absurd rfl hsj
                                  | cons a b => rfl
                                rw [hje]
                                have HNJ : Hid (nJ ≤ 1000000000) := hide (by have := HOK.out.few; have := HOK.out.jumps; have := HP.out.eJ; omega)
                                have HOWN : Hid (∀ j, (Value.slice AJ nJ cJ).ownBlock = some j → j < w11.heap.size) := hide (fun j hj => (HP11.out.rows.old (i := 2) rfl j hj).2)
                                have HOWB : Hid (∀ j, (Value.slice AJ nJ cJ).ownBlock = some j → w1.heap.size ≤ j ∧ j < w6.heap.size) := hide (fun j hj => HPX.out.rows.old (i := 2) rfl j hj)
                                have HOWB2 : Hid (∀ j, (Value.slice AO nJ cO).ownBlock = some j → w1.heap.size ≤ j ∧ j < w6.heap.size) := hide (fun j hj => HPX.out.rows.old (i := 3) rfl j hj)
                                have hz111 : w1.heap.size ≤ w11.heap.size := by omega
                                have HZB : Hid (∀ W, Only Nob w11 W → w1.heap.size ≤ W.heap.size) := hide (fun W h => Nat.le_trans hz111 h.size)
                                have HZ12 := (fun (w12 : World) (hz : w11.heap.size ≤ w12.heap.size) (W : World) (h : Only Nob w12 W) => Nat.le_trans (Nat.le_trans hz111 hz) h.size)
                                have HOZ : Hid (∀ W, Only Nob w11 W → Only (fun j => (w1.heap.size ≤ j ∧ j < w6.heap.size)) w11 W) := hide (fun W h => h.mono (fun _ _ hk => hk.elim))
                                have hgpw : w.heap.size + 1 < w1.heap.size := HPX.out.gpb
                                have HSS : Hid (∀ W, Only (fun j => (w1.heap.size ≤ j ∧ j < w6.heap.size)) w11 W → W.cell? ⟨g + 1, 0, none⟩ = some (.string ⟨sj.toArray⟩) ∧ W.cell? ⟨g + 1, 1, none⟩ = some (.int .i64 ((ln : Int) + 1)) ∧ W.cell? ⟨g + 1, 2, none⟩ = some (.int .i64 (cj : Int)) ∧ W.cell? ⟨g + 1, 3, none⟩ = some (.bool false) ∧ W.cell? ⟨w.heap.size + 1, 0, none⟩ = some (.slice AP nP cP)) := hide (fun W h => ⟨(h.cell (p := ⟨g + 1, 0, none⟩) hgl1 (fun hk => by have := hk.2; simp only at this; omega)).trans q0, (h.cell (p := ⟨g + 1, 1, none⟩) hgl1 (fun hk => by have := hk.2; simp only at this; omega)).trans q1, (h.cell (p := ⟨g + 1, 2, none⟩) hgl1 (fun hk => by have := hk.2; simp only at this; omega)).trans q2, (h.cell (p := ⟨g + 1, 3, none⟩) hgl1 (fun hk => by have := hk.2; simp only at this; omega)).trans q3, (h.cell (p := ⟨w.heap.size + 1, 0, none⟩) hgl11 (fun hk => by have := hk.1; simp only at this; omega)).trans hgp11⟩)
                                have HO2 := hide (word_one ⟨sj.toArray⟩ ((ln : Int) + 1) (cj : Int) false)
                                go_upto_region 32 with fail
                                go_region_held3 (fun W => W.cell? ⟨g + 1, 0, none⟩ = some (.string ⟨sj.toArray⟩) ∧ W.cell? ⟨g + 1, 1, none⟩ = some (.int .i64 ((ln : Int) + 1)) ∧ W.cell? ⟨g + 1, 2, none⟩ = some (.int .i64 (cj : Int)) ∧ W.cell? ⟨g + 1, 3, none⟩ = some (.bool false) ∧ W.cell? ⟨w.heap.size + 1, 0, none⟩ = some (.slice AP nP cP)) (first | (with_reducible assumption) | (exact HSS.out _ (by repeat' (first | (with_reducible assumption) | (with_reducible exact HOB.out) | (with_reducible exact HOC13.out) | (with_reducible exact HOC12.out) | (with_reducible refine Only.alloc ?_ _) | (with_reducible refine Only.drewN ?_ _) | (with_reducible refine Only.drew ?_) | (with_reducible exact Only.refl _ _))))) (first | (refine step_pushR rfl _ _ rfl Tryd.underlying154 infoRWord rfl (by decide) (by decide) (HP11.out.rows.nob (by repeat' (first | (with_reducible assumption) | (with_reducible refine Only.alloc ?_ _) | (with_reducible refine Only.drewN ?_ _) | (with_reducible refine Only.drew ?_) | (with_reducible exact Only.refl _ _)))) 2 rfl (HZB.out _ (by repeat' (first | (with_reducible assumption) | (with_reducible refine Only.alloc ?_ _) | (with_reducible refine Only.drewN ?_ _) | (with_reducible refine Only.drew ?_) | (with_reducible exact Only.refl _ _)))) #[.string ⟨sj.toArray⟩, .int .i64 ((ln : Int) + 1), .int .i64 (cj : Int), .bool false] rfl HO2.out HNJ.out rfl rfl (by first | exact Blk.new' (by simp) | exact (Blk.new' (by simp)).alloc _) ?_; intro A12 c12 w12 hR12 ho12; have HR12 := hide hR12; have HKB := hide (fun (G : Nat) (e : TypeId) (cs : Array Value) (hG : w11.heap.size ≤ G) (hb : Blk _ G e cs) => hb.only ho12 (fun h => by have := HOWN.out _ h; omega)); have HOC12 : Hid (Only (fun j => (w1.heap.size ≤ j ∧ j < w6.heap.size)) w11 w12) := hide (Only.trans (HOZ.out _ (by repeat' (first | (with_reducible assumption) | (with_reducible refine Only.alloc ?_ _) | (with_reducible refine Only.drewN ?_ _) | (with_reducible refine Only.drew ?_) | (with_reducible exact Only.refl _ _)))) (ho12.mono (fun j _ hj => (HOWB.out j hj)))); have hz12 := HOC12.out.size; clear hR12 ho12) | (refine step_pushR rfl _ _ rfl Tryd.underlying121 infoI64 rfl (by decide) (by decide) (HR12.out.nob (by repeat' (first | (with_reducible assumption) | (with_reducible refine Only.alloc ?_ _) | (with_reducible refine Only.drewN ?_ _) | (with_reducible refine Only.drew ?_) | (with_reducible exact Only.refl _ _)))) 3 rfl (HZ12 w12 hz12 _ (by repeat' (first | (with_reducible assumption) | (with_reducible refine Only.alloc ?_ _) | (with_reducible refine Only.drewN ?_ _) | (with_reducible refine Only.drew ?_) | (with_reducible exact Only.refl _ _)))) #[.int .i64 (nP : Int)] rfl (by simp [Value.oneCell']) HNJ.out rfl rfl (by first | exact Blk.new _ _ _ | exact HKB.out _ _ _ (by simp) (Blk.new' (by simp)) | exact HKB.out _ _ _ (by simp) ((Blk.new' (by simp)).alloc _)) ?_; intro A13 c13 w13 hR13 ho13; have HR13 := hide hR13; have HOC13 : Hid (Only (fun j => (w1.heap.size ≤ j ∧ j < w6.heap.size)) w11 w13) := hide (Only.trans (Only.trans HOC12.out ((fun W (h : Only Nob w12 W) => h.mono (fun _ _ hk => hk.elim)) _ (by repeat' (first | (with_reducible assumption) | (with_reducible refine Only.alloc ?_ _) | (with_reducible refine Only.drewN ?_ _) | (with_reducible refine Only.drew ?_) | (with_reducible exact Only.refl _ _))))) (ho13.mono (fun j _ hj => (HOWB2.out j hj)))); clear hR13 ho13))
                                all_goals go_wp2_with fail
                                all_goals go_meet
                                all_goals exact ⟨nJ + 1, c12, c13, A12, A13, rfl, rfl, hide (HP11.out.jump (j := ⟨nP, sj, ln + 1, cj⟩) (HOC13.out.mono (fun j _ hj => hj.1)) HR13.out), hide (HB19.out.only HOC13.out (fun hk => by have := hk.2; omega))⟩
                            case rest =>
                              obtain ⟨nJ2, cJ2, cO2, AJ2, AO2, rfl, rfl, HP13, HB13⟩ := hcut
                              obtain ⟨w13, hw13⟩ : ∃ w13, w13 = wc := ⟨_, rfl⟩
                              subst hw13
                              clear a0 a1 a2 a3 a4 q0 q1 q2 q3 p2 hgp11 hgl hgl1 hgl2 hgl11
                              have a0 := HB13.out.cell 0
                              have a1 := HB13.out.cell 1
                              have a2 := HB13.out.cell 2
                              have a3 := HB13.out.cell 3
                              have a4 := HB13.out.cell 4
                              have hgl := HB13.out.lt
                              simp at a0 a1 a2 a3 a4
                              have hgp13 := HP13.out.cell.cell 0
                              have hgl13 := HP13.out.cell.lt
                              simp at hgp13
                              have hz13 := HP13.out.only.size
                              have HSZ : Hid (w1.heap.size ≤ w13.heap.size) := hide hz13
                              have HN9 : Hid (nP ≤ 1000000000) := hide (by omega)
                              have HI1 : Hid (∀ u ∈ (#[.int .i64 x.op, .int .i64 x.a, .int .i64 x.b, .int .i64 x.c, .int .u64 x.n] : Array Value).toList, u.oneCell' = true) := hide (by
                                intro u hu
                                simp at hu
                                rcases hu with rfl | rfl | rfl | rfl | rfl <;> rfl)
                              have HOW9 : Hid (∀ j, (Value.slice AP nP cP).ownBlock = some j → w1.heap.size ≤ j) := hide (fun j hj => (HP13.out.rows.old (i := 0) rfl j hj).1)
                              have HGPB : Hid (w.heap.size + 1 < w1.heap.size) := hide HP13.out.gpb
                              go_wp2_with (at_builtin; refine wpList_pushR rfl rfl _ _ rfl Tryd.underlying53 infoIns rfl (by decide) (by decide) HP13.out.rows 0 rfl HSZ.out #[.int .i64 x.op, .int .i64 x.a, .int .i64 x.b, .int .i64 x.c, .int .u64 x.n] rfl HI1.out HN9.out rfl rfl ?_; intro A14 c14 w14 hR14 ho14; have HR14 := hide hR14; have HO14 := hide ho14; have hb14 := HP13.out.cell.only ho14 (fun hk => by have h1 := HOW9.out _ hk; have h2 := HGPB.out; omega); have b0 := hb14.cell 0; have b1 := hb14.frozen 0; have b2x := hb14.lt; simp at b0; clear hR14 ho14 hb14)
                              have hrow14 := HP13.out.ins (x := x) (vP' := .slice A14 (nP + 1) c14) (HO14.out.mono (fun j _ hj => HOW9.out j hj)) HR14.out
                              refine ⟨⟨k + 1, ln + 1, nP + 1, n2, nJ2, 0, c2, cJ2, cO2, 0, 0, A2, AJ2, AO2, none, none, .slice A14 (nP + 1) c14, ⟨st2.l ++ [x], st2.labels, st2.jumps ++ js⟩, [], rfl, rfl, rfl, by simp, rfl, rfl, by simp, by omega, by omega, by omega, hrow14, HKN.out, (fun y hy => by cases hy), HRN.out⟩, ?_⟩
                              simp [RowKit.intOf]
                              omega
      · as_aux_lemma =>
        have hknI : ¬ (k : Int) ≤ (n : Int) := by omega
        have HPA : Hid (parseP s.data.toList = match resolveP st.labels st.jumps st.l with
          | .err a b c => ([], a, b, c)
          | .ok l => (l, 0, 0, 0)) := hide (by
          have h1 := HG.out.fin (by have := HN.out; omega)
          unfold parseP
          rw [if_neg (by have := HS.out; simp; omega), HRS.out, h1]
          rfl)
        obtain ⟨AP, cP, rfl⟩ := HP.out.sliceP
        go_wp2_with fail
        go_loopw [22] (fun c22 wx => ∃ (i : Nat) (l' : List PIns), c22 = .int .i64 (i : Int) ∧ PV w1 wx (w.heap.size + 1) st cur nP nL nJ nR (.slice AP nP cP) (.slice AL nL cL) (.slice AJ nJ cJ) (.slice AO nJ cO) (.slice AR nR cR) (.slice AB nR cB) i l') (fun c22 _ => nJ - (RowKit.intOf c22).toNat)
        case atStart => exact ⟨0, st.l, rfl, PV.start HP.out⟩
        case round =>
          obtain ⟨w8, hw8⟩ : ∃ w8, w8 = wr := ⟨_, rfl⟩
          subst hw8
          obtain ⟨i, l', rfl, hV⟩ := hrel
          have HV := hide hV
          have hile := hV.le
          have hPX := hV.pw
          have hxg := hPX.cell.lt
          have hnJ : nJ ≤ 120 := by have := HOK.out.few; have := HOK.out.jumps; have := HP.out.eJ; omega
          have HO8 : Hid (Only Nob w w8) := hide (Only.after HOW.out hPX.only (fun q hq => .inr (by rcases hq with hq | hq; omega; have : w1.heap.size ≤ q := hq; have := HOW.out.size; omega)))
          have hxc := hPX.cell.cell 0
          simp at hxc
          have h2b : Blk w8 w.heap.size 55 #[.slice none 0 0] := HB2.out.only hPX.only (fun hk => by rcases hk with hk | hk; omega; have : w1.heap.size ≤ w.heap.size := hk; have := HOW.out.size; have := HB2.out.lt; omega)
          have r5 := h2b.cell 0
          have r6 := h2b.frozen 0
          have r7 := h2b.lt
          simp at r5
          clear h2b
          by_cases hi : i < nJ
          · have hiI : (i : Int) < (nJ : Int) := by omega
            obtain ⟨j, hj⟩ : ∃ j, st.jumps[i]? = some j := ⟨_, List.getElem?_eq_getElem (by have := HP.out.eJ; omega)⟩
            obtain ⟨bj, oj, hAJ, hbj, hcj⟩ := hPX.inJ.at_ (show ({ st with l := l' } : PS).jumps[i]? = some j from hj)
            obtain ⟨bo, oo, hAO, hbo, hco⟩ := hPX.inO.at_ (show ({ st with l := l' } : PS).jumps[i]? = some j from hj)
            subst hAJ hAO
            have p0 := hcj 0 _ rfl
            have p1 := hcj 1 _ rfl
            have p2 := hcj 2 _ rfl
            have p3 := hco 0 _ rfl
            simp only [Nat.add_zero, Nat.mul_one] at p0 p1 p2 p3
            have hat : j.at_ < nP := by
              have := HOK.out.at_ j (List.mem_of_getElem? hj)
              have := HP.out.eP
              omega
            have hatI : (j.at_ : Int) < (nP : Int) := by omega
            have HFI := hide (fun W (hW : Only Nob w8 W) => find_any st.labels AL nL cL ⟨j.s.toArray⟩ W HP.out.eL ((HV.out.pw.nob hW).inL) (by have := HOK.out.labels; have := HP.out.eL; omega))
            have HJ := hide hj
            have hrow := hPX.rows.own 0 _ rfl
            clear hcj hco hj hPX hV
            cases hlp : lookP st.labels j.s with
            | none =>
              have hfi : findI st.labels (⟨j.s.toArray⟩ : ByteArray).data.toList = -1 := by unfold findI; rw [show (⟨j.s.toArray⟩ : ByteArray).data.toList = j.s from rfl, hlp]
              have HLP := hide hlp
              rw [hfi] at HFI
              clear hfi hlp hrow
              go_upto_region 39 with (go_at_call 91; refine (HFI.out _ (by repeat' (first | (with_reducible refine Only.alloc ?_ _) | (with_reducible refine Only.drewN ?_ _) | (with_reducible refine Only.drew ?_) | (with_reducible exact Only.refl _ _)))).mono ?_; rintro e w9 ⟨rfl, rfl⟩)
              go_region
              all_goals (go_wp2_with fail)
              all_goals exact bodyPost_ret (by simp [results, Tryd.results61, go_sem, r5, r7]; try rfl) rfl (ParsePost.bad (HV.out.bad HJ.out HLP.out HPA.out) ((Only.setCell (S := Nob) (p := ⟨w.heap.size, 0, none⟩) HO8.out (.inr (Nat.le_refl _)) _).drew))
            | some c =>
              have hfi : findI st.labels (⟨j.s.toArray⟩ : ByteArray).data.toList = (c : Int) := by unfold findI; rw [show (⟨j.s.toArray⟩ : ByteArray).data.toList = j.s from rfl, hlp]
              have HLP := hide hlp
              rw [hfi] at HFI
              clear hfi hlp
              simp only at hrow
              obtain ⟨gl, rfl⟩ := row_some hrow (by omega)
              have hgl2 := (hrow.lt gl rfl).2
              have hl' : l'.length = nP := HV.out.pw.eP
              obtain ⟨v3, q3⟩ : ∃ v3, w8.cell? ⟨gl, j.at_ * 5 + 3, none⟩ = some v3 := ⟨_, (World.ownsRow.cellAt hrow (j.at_ * 5 + 3) (by omega)).trans (List.getElem?_eq_getElem (by rw [progCells_len]; omega))⟩
              have f3 := World.ownsRow.frozenAt hrow (j.at_ * 5 + 3)
              have HNX := hide (HV.out.put HJ.out HLP.out hat)
              clear hrow
              go_upto_region 40 with (go_at_call 91; refine (HFI.out _ (by repeat' (first | (with_reducible refine Only.alloc ?_ _) | (with_reducible refine Only.drewN ?_ _) | (with_reducible refine Only.drew ?_) | (with_reducible exact Only.refl _ _)))).mono ?_; rintro e w9 ⟨rfl, rfl⟩)
              go_region
              all_goals (go_wp2_with fail)
              all_goals refine ⟨⟨i + 1, _, by simp, HNX.out.nob ((Only.refl _ _).drew)⟩, ?_⟩
              all_goals (simp [RowKit.intOf]; omega)
          · have hiI : ¬ (i : Int) < (nJ : Int) := by omega
            have HPF := hide (HV.out.fin (by omega) HPA.out)
            clear hV hPX
            go_wp2_with fail
            exact bodyPost_ret (by simp [results, Tryd.results61, go_sem, r5, r7]; try rfl) rfl (PV.done HV.out HOW.out (by omega) HPF.out _)
end Go.Proofs.YtngahgfppbjebaaDoor

/-
  The contract of Parse.
-/
import Derived.Test.YtngahgfppbjebaaDoorTxParseD
namespace Go.Proofs.YtngahgfppbjebaaDoor
open Go.RowKit Go.Lib
set_option linter.unusedVariables false
set_option linter.unusedSimpArgs false

set_option maxRecDepth 100000 in
set_option maxHeartbeats 8000000 in
theorem parse_any (s : ByteArray) (hs : s.size ≤ 100000) (w : World) (hU : Utf8Tabs 2 3 w) : Calls Tryd.prog 33 #[.string s] w (ParsePost w (parseP s.data.toList)) := by
  have hsl : s.data.toList.length = s.size := by simp
  have hmm := @run_makeMap Tryd.prog
  by_cases h4 : 4000 < s.size
  · have HP : Hid (parseP s.data.toList = ([], 1, 1, 4)) := hide (by unfold parseP; rw [if_pos (by omega)])
    clear hsl
    go_enter Tryd.func33, Tryd.ntmps33
    go_wp2
    have hk := Blk.new w 55 #[.slice none 0 0]
    have c0 := hk.cell 0
    simp at c0
    exact bodyPost_ret (by simp [results, Tryd.results33, go_sem, c0]; try rfl) rfl (ParsePost.bad HP.out ((Only.refl _ w).alloc _))
  · have HU := hide hU
    have HS : Hid (s.data.toList.length ≤ 4000) := hide (by omega)
    have hS4 : s.size ≤ 4000 := by omega
    clear hU hsl
    go_enter Tryd.func33, Tryd.ntmps33
    go_wp2
    go_loopw [0] (fun sv wr => ∃ (rem : ByteArray) (k : Nat) (st : PS) (vl vj : Value), sv = .string rem ∧ PL w wr s.data.toList rem.data.toList k st vl vj) (fun sv _ => lenV sv)
    case atStart => exact ⟨s, 0, PS.start, _, _, rfl, PL.start w s.data.toList HS.out⟩
    case round =>
      obtain ⟨rem, k, st, vl, vj, rfl, hP⟩ := hrel
      have HP := hide hP
      have hremz : rem.data.toList.length = rem.size := by simp
      have hlen := hP.len
      have g3 := hP.mem.cell.cell 3
      simp at g3
      have f3 := hP.mem.cell.frozen 3
      have hgl := hP.mem.cell.lt
      clear hP
      by_cases hz : rem.size = 0
      · have hs0 : rem = ⟨#[]⟩ := by
          cases rem with
          | mk a => have : a = #[] := Array.eq_empty_of_size_eq_zero hz; rw [this]
        subst hs0
        have HFIN := hide (HP.out.fin HS.out)
        have HOK := hide HP.out.ok
        have hPJ := PJ.start HP.out
        obtain ⟨n, hn⟩ : ∃ n, st.jumps.length = n := ⟨_, rfl⟩
        obtain ⟨m, hmm2⟩ : ∃ m, st.l.length = m := ⟨_, rfl⟩
        obtain ⟨Aj, capj, rfl⟩ := HP.out.mem.rowj.slice
        obtain ⟨Al, capl, rfl⟩ := HP.out.mem.rowl.asSlice
        rw [hn, hmm2] at hPJ
        have HPJ := hide hPJ
        have g2 := hPJ.mem.cell.cell 2
        simp at g2
        have HN := hide hn
        have HMM := hide hmm2
        have hn200 : n ≤ 200 := by have h1 := HOK.out.jumps; have h2 := HOK.out.few; omega
        clear hz hremz hPJ hn hmm2 g3 f3
        go_wp2_with fail
        go_loopw [59] (fun iv wq => ∃ (i : Nat) (l' : List PIns), iv = .int .i64 (i : Int) ∧ PJ w wq k st (.slice Al m capl) (.slice Aj n capj) i l') (fun iv _ => n - (RowKit.intOf iv).toNat)
        case atStart => exact ⟨0, st.l, rfl, HPJ.out⟩
        case round =>
          obtain ⟨i, l', rfl, hJ⟩ := hrel
          have HJ := hide hJ
          have hcell := hJ.mem.cell
          have c0 := hcell.cell 0
          have c1 := hcell.cell 1
          have c2 := hcell.cell 2
          simp at c0 c1 c2
          have hgq := hcell.lt
          have hile : i ≤ n := by have := hJ.le; rw [HN.out] at this; exact this
          clear hcell
          by_cases hi : i < n
          · have hiI : (i : Int) < (n : Int) := by omega
            have hrj := hJ.mem.rowj
            unfold JRow at hrj
            rw [show ({ st with l := l' } : PS).jumps = st.jumps from rfl, HN.out] at hrj
            obtain ⟨gj, rfl⟩ := row_some hrj (by omega)
            obtain ⟨j, hj, p0, p1, p2, p3⟩ := hJ.jump HN.out hi
            have hgj := (hrj.lt gj rfl).2
            have hLab := hJ.mem.lab
            have r5 := hJ.res.cell 0
            have r7 := hJ.res.lt
            have r6 := hJ.res.frozen 0
            simp at r5
            clear hrj hJ
            have hjs : j.s.length ≤ 16000 := HP.out.js j (by rw [← hj]; exact List.getElem_mem _)
            have hat : j.at_ < m := by
              have := HOK.out.at_ j (by rw [← hj]; exact List.getElem_mem _)
              rw [HMM.out] at this
              exact this
            have hsz : (⟨j.s.toArray⟩ : ByteArray).size ≤ maxLen := by
              show j.s.toArray.size ≤ _
              rw [List.size_toArray]
              unfold maxLen
              omega
            have HO1 := hide ((Only.refl Nob wr).alloc (.cells #[.int .i64 (j.at_ : Int), .string ⟨j.s.toArray⟩, .int .i64 (j.line : Int), .int .i64 (j.col : Int)] 107))
            have HJ1 := hide (HJ.out.nob HO1.out)
            obtain ⟨cl, hlk, hcl⟩ := (LabAt.drew HJ1.out.mem.lab).look ⟨j.s.toArray⟩ hsz
            have HCL := hide hcl
            have HJJ := hide hj
            clear hLab hjs hcl hj
            cases hlp : lookP st.labels j.s with
            | none =>
              have hlk2 : (lookP st.labels (⟨j.s.toArray⟩ : ByteArray).data.toList).isSome = false := by
                show (lookP st.labels j.s).isSome = false
                rw [hlp]; rfl
              have HLP := hide hlp
              rw [hlk2] at hlk
              clear hlk2 hlp
              go_upto_region 14 with fail
              go_region
              all_goals (go_upto_region 16 with fail)
              all_goals go_region
              all_goals (go_wp2_with fail)
              all_goals
                refine bodyPost_ret (by simp [results, Tryd.results33, go_sem, r5, r7]; try rfl) rfl (ParsePost.bad (HJ.out.bad (by rw [HN.out]; exact hi) HJJ.out HLP.out HFIN.out) ?_)
                repeat' (first | (with_reducible exact HJ.out.only) | (with_reducible refine Only.drew ?_) | (with_reducible refine Only.alloc ?_ _) | (refine Only.setCell (S := Nob) ?_ (.inr (Nat.le_refl _)) _))
            | some c =>
              have hlk2 : (lookP st.labels (⟨j.s.toArray⟩ : ByteArray).data.toList).isSome = true := by
                show (lookP st.labels j.s).isSome = true
                rw [hlp]; rfl
              have hcc : cl = (c : Int) := HCL.out c hlp
              subst hcc
              have HLP := hide hlp
              rw [hlk2] at hlk
              clear hlk2 hlp
              have hl' : l'.length = m := HJ.out.len.trans HMM.out
              have hrl := HJ.out.mem.rowl
              unfold PRow at hrl
              rw [show ({ st with l := l' } : PS).l = l' from rfl, hl'] at hrl
              obtain ⟨gl, rfl⟩ := row_some hrl (by omega)
              have hgl2 := (hrl.lt gl rfl).2
              obtain ⟨v3, q3⟩ : ∃ v3, wr.cell? ⟨gl, j.at_ * 5 + 3, none⟩ = some v3 := ⟨_, (World.ownsRow.cellAt hrl (j.at_ * 5 + 3) (by omega)).trans (List.getElem?_eq_getElem (by rw [progCells_len]; omega))⟩
              have f3 := World.ownsRow.frozenAt hrl (j.at_ * 5 + 3)
              have hatI : (j.at_ : Int) < (m : Int) := by omega
              have HNX := hide (HJ.out.next (by rw [HN.out]; exact hi) HJJ.out HLP.out (by omega) hl')
              clear hrl
              go_upto_region 14 with fail
              go_region
              all_goals (go_upto_region 17 with fail)
              all_goals go_region
              all_goals (go_wp2_with fail)
              all_goals go_roundw
              case rel => exact ⟨i + 1, _, by simp, HNX.out.nob ((((Only.refl Nob _).alloc _).drew).drew)⟩
              case measure =>
                show n - ((i : Int) + 1).toNat < n - ((i : Int)).toNat
                omega
          · have hiI : ¬ (i : Int) < (n : Int) := by omega
            have HPF : Hid (parseP s.data.toList = (l', 0, 0, 0)) := hide (hJ.fin (by rw [HN.out]; exact hi) HFIN.out)
            have r5 := hJ.res.cell 0
            have r7 := hJ.res.lt
            have r6 := hJ.res.frozen 0
            simp at r5
            clear hJ
            go_wp2_with fail
            refine bodyPost_ret (by simp [results, Tryd.results33, go_sem, r5, r7, c0]; try rfl) rfl (PJ.done HJ.out HPF.out)
      · have hne : rem.data.toList ≠ [] := by
          intro e
          rw [e] at hremz
          exact hz hremz.symm
        have hne2 : rem.toList.isEmpty = false := by
          rw [ByteArray.toList_eq]
          cases h : rem.data.toList with
          | nil => exact absurd h hne
          | cons => rfl
        have HNE := hide hne
        have hr4 : rem.size ≤ 4000 := by omega
        have HC := hide (fun W => cut_nl rem (by omega) W)
        have HREM := hide hremz
        clear hremz hne hz
        go_upto_region 7 with (go_at_call 51; refine (HC.out _).mono ?_; rintro e w2 ⟨la, lt, f, rfl, hnl, ho2⟩; have HNL := hide hnl; have HO2 := hide ho2; have g9 := (ho2.cell (p := ⟨w.heap.size + 1 + 1, 3, none⟩) hgl (fun h => h)).trans g3; have f9 := (ho2.frozen (p := ⟨w.heap.size + 1 + 1, 3, none⟩) hgl (fun h => h)).trans f3; clear hnl ho2)
        have hlt := HNL.out.len HNE.out
        have hk4 : k ≤ 4000 := by omega
        have hla : la.size ≤ 4000 := by
          have h1 := hlt.1
          have h2 : la.data.toList.length = la.size := by simp
          have h3 := HREM.out
          omega
        have HMS : Hid (lt.size < rem.size) := hide (by
          have h1 := hlt.2
          have h2 : lt.data.toList.length = lt.size := by simp
          have h3 := HREM.out
          omega)
        have HOKS := hide HP.out.ok
        have HM2 := hide ((HP.out.mem.nob HO2.out).setLine')
        have HO3 : Hid (Only Nob w (w2.setCell ⟨w.heap.size + 1 + 1, 3, none⟩ (.int .i64 ((k : Int) + 1)))) := hide (Only.setCell (S := Nob) (HP.out.only.trans HO2.out) (.inr (by show w.heap.size ≤ w.heap.size + 1 + 1; omega)) _)
        have HO4 : Hid (Only (fun j => w.heap.size + 1 ≤ j) wr (w2.setCell ⟨w.heap.size + 1 + 1, 3, none⟩ (.int .i64 ((k : Int) + 1)))) := hide (Only.setCell (S := fun j => w.heap.size + 1 ≤ j) (HO2.out.mono (fun _ _ h => h.elim)) (.inl (by show w.heap.size + 1 ≤ w.heap.size + 1 + 1; omega)) _)
        have hbs : w.heap.size + 1 + 1 + 1 ≤ (w2.setCell ⟨w.heap.size + 1 + 1, 3, none⟩ (.int .i64 ((k : Int) + 1))).heap.size := HM2.out.cell.lt
        have HT := hide (take_any (w2.setCell ⟨w.heap.size + 1 + 1, 3, none⟩ (.int .i64 ((k : Int) + 1))) (w.heap.size + 1 + 1 + 1) (w.heap.size + 1 + 1) (w.heap.size + 1) vl vj st (k + 1) la hla HM2.out hbs (Utf8Tabs_only HU.out HO3.out) (by have := HOKS.out.few; omega) (by have := HOKS.out.jumps; have := HOKS.out.few; omega) (by have := HOKS.out.labels; omega))
        unfold TakePost at HT
        clear hlt hbs hla
        cases hl : lineP (k + 1) st (runesL la.data.toList) with
        | ok st' =>
          rw [hl] at HT
          have HLN := hide hl
          clear hl
          go_wp2_with (go_at_call 52; refine (HT.out).mono ?_; rintro e w3 ⟨ho3, rfl, vl', vj', hm3⟩; have HO5 := hide ho3; have HM3 := hide hm3; clear ho3 hm3)
          go_roundw
          case rel => exact ⟨lt, k + 1, st', vl', vj', rfl, HP.out.next HNE.out HNL.out HLN.out (HO4.out.trans (ts_new HO5.out)) HM3.out⟩
          case measure => exact HMS.out
        | err c er =>
          rw [hl] at HT
          have HLN := hide hl
          have her := lineP_err hl
          have her0 : ((er : Int) == 0) = false := by simp; omega
          have her1 : ((er : Int) != 0) = true := by simp; omega
          have HPB : Hid (parseP s.data.toList = ([], k + 1, c, er)) := hide (HP.out.bad HNE.out HNL.out hl HS.out)
          clear hl her
          go_wp2_with (go_at_call 52; refine (HT.out).mono ?_; rintro e w3 ⟨ho3, rfl, vl', vj', st', hm3⟩; have HO5 := hide ho3; have g5 := hm3.cell.cell 3; simp at g5; have HR3 := hide (HP.out.res.only (HO4.out.trans (ts_new ho3)) (by show ¬ (w.heap.size + 1 ≤ w.heap.size); omega)); have r5 := HR3.out.cell 0; have r6 := HR3.out.frozen 0; have r7 := HR3.out.lt; simp at r5; clear ho3 hm3)
          have HO6 : Hid (Only Nob w w3) := hide (Only.after HP.out.only (HO4.out.trans (ts_new HO5.out)) (fun i hi => .inr (by omega)))
          go_region
          all_goals
            go_wp2_with fail
            refine bodyPost_ret (by simp [results, Tryd.results33, go_sem, r5, r7]; try rfl) rfl (ParsePost.bad HPB.out ?_)
            repeat' (first | (with_reducible exact HO6.out) | (with_reducible refine Only.drew ?_) | (refine Only.setCell (S := Nob) ?_ (.inr (Nat.le_refl _)) _))
end Go.Proofs.YtngahgfppbjebaaDoor

/-
  The law's 'do', walked.
-/
import Derived.Test.YtngahgfppbjebaaDoorSlDo
import Derived.Laws.Bits
import Derived.Deep.DeepMust
import Derived.Deep.Cut
import Derived.Deep.CutRange
import Derived.Deep.CutBlock
namespace Go.Proofs.YtngahgfppbjebaaDoor
open Go.RowKit
set_option linter.unusedVariables false
set_option linter.unusedSimpArgs false

theorem ReadPost.only {w w' : World} {base g : Nat} {v : Value} {l : List Itm} {o : Option Itm} {e : Ending} (h : ReadPost w base g v l o e w') : Only (fun j => j = g ∨ v.ownBlock = some j) w w' := by
  rcases h with ⟨x, _, _, v', _, _, h3, _⟩ | ⟨_, _, h3⟩
  · exact h3
  · exact h3.mono (fun _ _ h => h.elim)
/-- The two blocks of a round, behind a call that writes the slate alone. -/
theorem two_cells {wr W w2 : World} {g : Nat} {v : Value} {q0 q1 q2 : Value} (ho : Only (fun j => j = g ∨ v.ownBlock = some j) W w2) (hns : ∀ j, wr.heap.size ≤ j → ¬ (j = g ∨ v.ownBlock = some j)) (hq : Blk W wr.heap.size 92 #[q0, q1, q2]) (hx : Blk W (wr.heap.size + 1) 94 #[.int .i64 0, .int .u64 0]) :
    (w2.cell? ⟨wr.heap.size, 0, none⟩ = some q0 ∧ w2.cell? ⟨wr.heap.size, 1, none⟩ = some q1 ∧ w2.cell? ⟨wr.heap.size, 2, none⟩ = some q2) ∧
    (w2.cell? ⟨wr.heap.size + 1, 0, none⟩ = some (.int .i64 0) ∧ w2.cell? ⟨wr.heap.size + 1, 1, none⟩ = some (.int .u64 0) ∧ w2.frozen? ⟨wr.heap.size + 1, 0, none⟩ = false ∧ w2.frozen? ⟨wr.heap.size + 1, 1, none⟩ = false) ∧ Blk w2 (wr.heap.size + 1) 94 #[.int .i64 0, .int .u64 0] := by
  have k1 := hq.only ho (hns _ (Nat.le_refl _))
  have k2 := hx.only ho (hns _ (Nat.le_succ _))
  exact ⟨⟨k1.cell 0, k1.cell 1, k1.cell 2⟩, ⟨k2.cell 0, k2.cell 1, k2.frozen 0, k2.frozen 1⟩, k2⟩
/-- Behind the switch of a round: the slate was asked to add x; x lies in its block. -/
structure Added (wr wx : World) (base g : Nat) (v : Value) (its : List Itm) (x : Itm) (bb : Bool) : Prop where
  only : Only (fun j => j = g ∨ v.ownBlock = some j) wr wx
  blk : Blk wx (wr.heap.size + 1) 94 #[.int .i64 (sortI x), .int .u64 (numI x)]
  ok : x.ok
  ways : (bb = true ∧ its.length < 16 ∧ ∃ v2, Sl wx base g v2 (its ++ [x]) ∧ (v2.ownBlock = v.ownBlock ∨ ∀ j, v2.ownBlock = some j → wr.heap.size + 2 ≤ j)) ∨ (bb = false ∧ 16 ≤ its.length ∧ Sl wx base g v its)
theorem Added.of {wr W w2 : World} {base g : Nat} {v : Value} {its : List Itm} {x : Itm} {bb : Bool} {s n : Value} (hv : Sl wr base g v its) (hW : Only Nob wr W) (hsz : wr.heap.size + 2 ≤ W.heap.size) (hx : x.ok)
    (hr : ReadPost W base g v its (some x) (.returned (.bool bb)) w2) (hk : Blk w2 (wr.heap.size + 1) 94 #[.int .i64 0, .int .u64 0]) (hs : s = .int .i64 (sortI x)) (hn : n = .int .u64 (numI x)) :
    Added wr ((w2.setCell ⟨wr.heap.size + 1, 0, none⟩ s).setCell ⟨wr.heap.size + 1, 1, none⟩ n) base g v its x bb := by
  subst hs hn
  have hgl := hv.cell.lt
  have ho2 : Only (fun j => j = wr.heap.size + 1) w2 ((w2.setCell ⟨wr.heap.size + 1, 0, none⟩ (.int .i64 (sortI x))).setCell ⟨wr.heap.size + 1, 1, none⟩ (.int .u64 (numI x))) :=
    Only.setCell (S := fun j => j = wr.heap.size + 1) (p := ⟨wr.heap.size + 1, 1, none⟩) (Only.setCell (S := fun j => j = wr.heap.size + 1) (p := ⟨wr.heap.size + 1, 0, none⟩) (Only.refl _ w2) (.inl rfl) _) (.inl rfl) _
  refine ⟨?_, ?_, hx, ?_⟩
  · refine Only.after ((hW.mono (fun _ _ h => h.elim)).trans hr.only) ho2 (fun i hi => .inr (by omega))
  · have := (hk.set_ 0 (.int .i64 (sortI x))).set_ 1 (.int .u64 (numI x))
    simpa using this
  · rcases hr with ⟨y, h1, h2, v2, h3, h4, h5, h6⟩ | ⟨h1, h2, h3⟩
    · injection h1 with h1
      subst h1
      injection h3 with h3
      injection h3 with h3
      have hf : v2.ownBlock = v.ownBlock ∨ ∀ j, v2.ownBlock = some j → wr.heap.size + 2 ≤ j := by
        rcases h6 with h6 | ⟨k, hk1, hk2⟩
        · exact .inl h6
        · refine .inr (fun j hj => ?_)
          rw [hk1] at hj
          injection hj with hj
          omega
      refine .inl ⟨h3, h2, v2, h4.only ho2 (by omega) (fun j hj e => ?_), hf⟩
      rcases hf with hf | hf
      · rw [hf] at hj
        have := (hv.own_lt hj).2
        omega
      · have := hf j hj
        omega
    · injection h2 with h2
      injection h2 with h2
      refine .inr ⟨h2, ?_, ((hv.nob hW).nob h3).only ho2 (by omega) (fun j hj e => by have := (hv.own_lt hj).2; omega)⟩
      rcases h1 with h1 | h1
      · cases h1
      · exact h1
theorem info_parts3 {P : Program} {e : TypeId} {z : Value} {s b : Nat} (h : (P.info? e).map (fun i => (i.zero, i.size, i.bytes)) = some (some z, s, b)) : ∃ i, P.info? e = some i ∧ i.zero = some z ∧ i.size = s ∧ i.bytes = b := by
  obtain ⟨i, hi, hz⟩ := Option.map_eq_some_iff.1 h
  simp only [Prod.mk.injEq] at hz
  exact ⟨i, hi, hz.1, hz.2.1, hz.2.2⟩
theorem and_one (m : Int) (h0 : 0 ≤ m) (h1 : m < 18446744073709551616) : bits .and .u64 m 1 = m % 2 := by go_bits2
theorem truth_num (m : Nat) (hm : m ≤ 18446744073709551615) : Value.int .u64 (bits BinOp.and IntKind.u64 (m : Int) 1) = .int .u64 (numI (.truth (bits BinOp.and IntKind.u64 (m : Int) 1 == 1))) := by
  rw [and_one (m : Int) (by omega) (by omega)]
  have : (m : Int) % 2 = 0 ∨ (m : Int) % 2 = 1 := by omega
  rcases this with h | h
  · rw [h]; rfl
  · rw [h]; rfl
/-- What 'do' gives. -/
def DoPost (w : World) (base g : Nat) (v0 : Value) (A0 : Option Addr) (e : Ending) (w' : World) : Prop :=
  ∃ A n cap its v, e = .returned (.tuple #[.slice A n cap, .bool true]) ∧ its.length = n ∧ n ≤ cap ∧ DoInv w w' base g v0 v its A0 A

set_option maxRecDepth 100000 in
set_option maxHeartbeats 8000000 in
theorem do_any (w : World) (base g : Nat) (v0 : Value) (its0 : List Itm) (A0 : Option Addr) (n0 cap0 : Nat) (B : Nat) (Aq : Option Addr) (len capq : Nat) (h : DoInv w w base g v0 v0 its0 A0 A0) (hn : its0.length = n0) (hnc : n0 ≤ cap0) (hq : Asks w B Aq len) (hB : B ≤ base) (hgB : B ≤ g) :
    Calls Tryd.prog 29 #[.pointer (some ⟨g, 0, none⟩), .slice A0 n0 cap0, .slice Aq len capq] w (DoPost w base g v0 A0) := by
  have H := hide h
  have HN := hide hn
  have HNC := hide hnc
  have HQ := hide hq
  have hlen := hq.1
  unfold maxLen at hlen
  have HG0 := hide hgB
  clear h hn hnc hq
  go_enter Tryd.func29, Tryd.ntmps29
  go_wp2
  go_loopw [1, 8] (fun o i wr => ∃ (k n cap : Nat) (A : Option Addr) (its : List Itm) (v : Value), o = .slice A n cap ∧ i = .int .i64 (k : Int) ∧ its.length = n ∧ n ≤ cap ∧ DoInv w wr base g v0 v its A0 A) (fun _ i _ => len - (intOf i).toNat)
  case atStart => exact ⟨0, n0, cap0, A0, its0, v0, rfl, rfl, HN.out, HNC.out, H.out⟩
  case round =>
    obtain ⟨k, n, cap, A, its, v, rfl, rfl, hn, hnc, hI⟩ := hrel
    have HI := hide hI
    have hn16 : n ≤ 16 := by rw [← hn]; exact hI.both.room
    have HN2 := hide hn
    clear hI hn
    by_cases hk : k < len ∧ k < 60
    · obtain ⟨hk1, hk2⟩ := hk
      obtain ⟨b, o, rfl, hb, kd, pl, m, h1, h2, h3, h4, h5, c0, c1, c2⟩ := HQ.out.2 k hk1
      have hbw : b < wr.heap.size := by have := HI.out.big; omega
      have hdb : Below B w wr := HI.out.only.below (Nat.le_trans hB H.out.big) (fun j hj => by
        rcases hj with hj | hj
        · have := HG0.out; omega
        · have := (H.out.both.sl.own_lt hj).1; omega)
      have d0 := (hdb.cell (p := ⟨b, o + k * 3, none⟩) hb).trans c0
      have d1 := (hdb.cell (p := ⟨b, o + k * 3 + 1, none⟩) hb).trans c1
      have d2 := (hdb.cell (p := ⟨b, o + k * 3 + 2, none⟩) hb).trans c2
      have hkI1 : (k : Int) < (len : Int) := by omega
      have hkI2 : (k : Int) < 60 := by omega
      have hgw : g < wr.heap.size := HI.out.both.sl.cell.lt
      have NS1 : Hid (∀ j, wr.heap.size ≤ j → ¬ (j = g ∨ v.ownBlock = some j)) := hide (fun j hj hs => by
        rcases hs with hs | hs
        · omega
        · have := (HI.out.both.sl.own_lt hs).2; omega)
      have HNU := hide (fun (W : World) (ho : Only Nob wr W) => addNum_any W base g v its m (HI.out.both.sl.nob ho) (by have := HI.out.both.room; omega) (Nat.le_trans HI.out.big ho.size))
      have KQ : Hid (Blk ((wr.alloc (.cells #[.int .i64 kd, .int .i64 pl, .int .u64 (m : Int)] 92)).alloc (.cells #[.int .i64 0, .int .u64 0] 94)) wr.heap.size 92 #[.int .i64 kd, .int .i64 pl, .int .u64 (m : Int)]) := hide ((Blk.new wr _ _).alloc _)
      have KX : Hid (Blk ((wr.alloc (.cells #[.int .i64 kd, .int .i64 pl, .int .u64 (m : Int)] 92)).alloc (.cells #[.int .i64 0, .int .u64 0] 94)) (wr.heap.size + 1) 94 #[.int .i64 0, .int .u64 0]) := hide (Blk.new' (by simp))
      have HTU := hide (fun (W : World) (ho : Only Nob wr W) (bt : Bool) => addTruth_any W base g v its bt (HI.out.both.sl.nob ho) (by have := HI.out.both.room; omega) (Nat.le_trans HI.out.big ho.size))
      have HNO := hide (fun (W : World) (ho : Only Nob wr W) => addNone_any W base g v its (HI.out.both.sl.nob ho) (by have := HI.out.both.room; omega) (Nat.le_trans HI.out.big ho.size))
      generalize hc : bits BinOp.and IntKind.i64 kd 7 = c
      clear c0 c1 c2 hdb
      have HON2 : Hid (Only Nob wr ((wr.alloc (.cells #[.int .i64 kd, .int .i64 pl, .int .u64 (m : Int)] 92)).alloc (.cells #[.int .i64 0, .int .u64 0] 94)).drew) := hide ((((Only.refl _ wr).alloc _).alloc _).drew)
      have HSZ2 : Hid (wr.heap.size + 2 ≤ ((wr.alloc (.cells #[.int .i64 kd, .int .i64 pl, .int .u64 (m : Int)] 92)).alloc (.cells #[.int .i64 0, .int .u64 0] 94)).drew.heap.size) := hide (by simp)
      have HON3 : Hid (Only Nob wr ((wr.alloc (.cells #[.int .i64 kd, .int .i64 pl, .int .u64 (m : Int)] 92)).alloc (.cells #[.int .i64 0, .int .u64 0] 94))) := hide (((Only.refl _ wr).alloc _).alloc _)
      have HSZ3 : Hid (wr.heap.size + 2 ≤ ((wr.alloc (.cells #[.int .i64 kd, .int .i64 pl, .int .u64 (m : Int)] 92)).alloc (.cells #[.int .i64 0, .int .u64 0] 94)).heap.size) := hide (by simp)
      have HTN : Hid (Value.int .u64 (bits BinOp.and IntKind.u64 (m : Int) 1) = .int .u64 (numI (.truth (bits BinOp.and IntKind.u64 (m : Int) 1 == 1)))) := hide (truth_num m h5)
      have HCU := hide (fun (W : World) (ho : Only Nob wr W) => cut_any (HI.out.both.sl.nob ho) (by have := HI.out.both.room; omega) (Nat.le_trans HI.out.big ho.size) pl)
      have hmm : ∃ k2 : Nat, min pl.toNat its.length = k2 ∧ min (max pl (0 : Int)) (n : Int) = (k2 : Int) ∧ k2 ≤ n := ⟨min pl.toNat its.length, rfl, by have := HN2.out; omega, by have := HN2.out; omega⟩
      obtain ⟨k2, hk2a, hk2b, hk2c⟩ := hmm
      rw [hk2a] at HCU
      have hk2d : (k2 : Int) ≤ (cap : Int) := by omega
      clear hk2a
      have HM : Hid ((Itm.num m).ok) := hide h5
      go_upto_block 2 with fail
      go_cut [1, 11] from 33 to 74 (fun oo ok wx => ∃ bb x, oo = .slice A n cap ∧ ok = .bool bb ∧ Added wr wx base g v its x bb)
      case first =>
        by_cases e0 : c = 0
        · have f0 : (c == 0) = true := by simpa using e0
          have E0 := hide e0
          clear e0
          go_wp2_with fail
          go_region_with (go_at_call 16; (first | refine (HNU.out _ (((Only.refl _ wr).alloc _).alloc _)).mono ?_ | refine (HNU.out _ ((((Only.refl _ wr).alloc _).alloc _).drew)).mono ?_); intro e w2 hr; obtain ⟨bb, rfl⟩ := hr.ret; obtain ⟨⟨u0, u1, u2⟩, ⟨y0, y1, y2, y3⟩, hkx⟩ := two_cells hr.only NS1.out KQ.out KX.out; have HKX := hide hkx; have HR := hide hr; clear hr hkx)
          all_goals
            go_wp2_with fail
            try simp only [Act.put, List.getElem_toArray, List.getElem_cons_succ, List.getElem_cons_zero, List.setIfInBounds_toArray, List.set_cons_zero, List.set_cons_succ]
            go_meet
            exact ⟨bb, .num m, rfl, rfl, Added.of HI.out.both.sl HON2.out HSZ2.out HM.out HR.out HKX.out rfl rfl⟩
        · have f0 : (c == 0) = false := by simpa using e0
          have E0 := hide e0
          clear e0
          by_cases e4 : c = 4
          · have f4 : (c == 4) = true := by simpa using e4
            have E4 := hide e4
            clear e4
            go_wp2_with fail
            go_region_with (go_at_call 16; (first | refine (HNU.out _ (((Only.refl _ wr).alloc _).alloc _)).mono ?_ | refine (HNU.out _ ((((Only.refl _ wr).alloc _).alloc _).drew)).mono ?_); intro e w2 hr; obtain ⟨bb, rfl⟩ := hr.ret; obtain ⟨⟨u0, u1, u2⟩, ⟨y0, y1, y2, y3⟩, hkx⟩ := two_cells hr.only NS1.out KQ.out KX.out; have HKX := hide hkx; have HR := hide hr; clear hr hkx)
            all_goals
              go_wp2_with fail
              try simp only [Act.put, List.getElem_toArray, List.getElem_cons_succ, List.getElem_cons_zero, List.setIfInBounds_toArray, List.set_cons_zero, List.set_cons_succ]
              go_meet
              exact ⟨bb, .num m, rfl, rfl, Added.of HI.out.both.sl HON2.out HSZ2.out HM.out HR.out HKX.out rfl rfl⟩
          · have f4 : (c == 4) = false := by simpa using e4
            have E4 := hide e4
            clear e4
            by_cases e5 : c = 5
            · have f5 : (c == 5) = true := by simpa using e5
              have E5 := hide e5
              clear e5
              go_wp2_with fail
              go_region_with (go_at_call 16; (first | refine (HNU.out _ (((Only.refl _ wr).alloc _).alloc _)).mono ?_ | refine (HNU.out _ ((((Only.refl _ wr).alloc _).alloc _).drew)).mono ?_); intro e w2 hr; obtain ⟨bb, rfl⟩ := hr.ret; obtain ⟨⟨u0, u1, u2⟩, ⟨y0, y1, y2, y3⟩, hkx⟩ := two_cells hr.only NS1.out KQ.out KX.out; have HKX := hide hkx; have HR := hide hr; clear hr hkx)
              all_goals
                go_wp2_with fail
                try simp only [Act.put, List.getElem_toArray, List.getElem_cons_succ, List.getElem_cons_zero, List.setIfInBounds_toArray, List.set_cons_zero, List.set_cons_succ]
                go_meet
                exact ⟨bb, .num m, rfl, rfl, Added.of HI.out.both.sl HON2.out HSZ2.out HM.out HR.out HKX.out rfl rfl⟩
            · have f5 : (c == 5) = false := by simpa using e5
              have E5 := hide e5
              clear e5
              by_cases e1 : c = 1
              · have f1 : (c == 1) = true := by simpa using e1
                have E1 := hide e1
                clear e1
                go_wp2_with fail
                go_region_with (go_at_call 18; (first | refine (HTU.out _ (((Only.refl _ wr).alloc _).alloc _) _).mono ?_ | refine (HTU.out _ ((((Only.refl _ wr).alloc _).alloc _).drew) _).mono ?_); intro e w2 hr; obtain ⟨bb, rfl⟩ := hr.ret; obtain ⟨⟨u0, u1, u2⟩, ⟨y0, y1, y2, y3⟩, hkx⟩ := two_cells hr.only NS1.out KQ.out KX.out; have HKX := hide hkx; have HR := hide hr; clear hr hkx)
                all_goals
                  go_wp2_with fail
                  try simp only [Act.put, List.getElem_toArray, List.getElem_cons_succ, List.getElem_cons_zero, List.setIfInBounds_toArray, List.set_cons_zero, List.set_cons_succ]
                  go_meet
                  exact ⟨bb, .truth (bits BinOp.and IntKind.u64 (m : Int) 1 == 1), rfl, rfl, Added.of HI.out.both.sl HON2.out HSZ2.out trivial HR.out HKX.out rfl HTN.out⟩
              · have f1 : (c == 1) = false := by simpa using e1
                have E1 := hide e1
                clear e1
                by_cases e6 : c = 6
                · have f6 : (c == 6) = true := by simpa using e6
                  have E6 := hide e6
                  clear e6
                  go_wp2_with fail
                  go_region_with (go_at_call 18; (first | refine (HTU.out _ (((Only.refl _ wr).alloc _).alloc _) _).mono ?_ | refine (HTU.out _ ((((Only.refl _ wr).alloc _).alloc _).drew) _).mono ?_); intro e w2 hr; obtain ⟨bb, rfl⟩ := hr.ret; obtain ⟨⟨u0, u1, u2⟩, ⟨y0, y1, y2, y3⟩, hkx⟩ := two_cells hr.only NS1.out KQ.out KX.out; have HKX := hide hkx; have HR := hide hr; clear hr hkx)
                  all_goals
                    go_wp2_with fail
                    try simp only [Act.put, List.getElem_toArray, List.getElem_cons_succ, List.getElem_cons_zero, List.setIfInBounds_toArray, List.set_cons_zero, List.set_cons_succ]
                    go_meet
                    exact ⟨bb, .truth (bits BinOp.and IntKind.u64 (m : Int) 1 == 1), rfl, rfl, Added.of HI.out.both.sl HON2.out HSZ2.out trivial HR.out HKX.out rfl HTN.out⟩
                · have f6 : (c == 6) = false := by simpa using e6
                  have E6 := hide e6
                  clear e6
                  by_cases e2 : c = 2
                  · have f2 : (c == 2) = true := by simpa using e2
                    have E2 := hide e2
                    clear e2
                    go_wp2_with (go_at_call 17; (first | refine (HNO.out _ (((Only.refl _ wr).alloc _).alloc _)).mono ?_ | refine (HNO.out _ ((((Only.refl _ wr).alloc _).alloc _).drew)).mono ?_); intro e w2 hr; obtain ⟨bb, rfl⟩ := hr.ret; obtain ⟨⟨u0, u1, u2⟩, ⟨y0, y1, y2, y3⟩, hkx⟩ := two_cells hr.only NS1.out KQ.out KX.out; have HKX := hide hkx; have HR := hide hr; clear hr hkx)
                    try simp only [Act.put, List.getElem_toArray, List.getElem_cons_succ, List.getElem_cons_zero, List.setIfInBounds_toArray, List.set_cons_zero, List.set_cons_succ]
                    go_meet
                    exact ⟨bb, .nothing, rfl, rfl, Added.of HI.out.both.sl HON3.out HSZ3.out trivial HR.out HKX.out rfl rfl⟩
                  · have f2 : (c == 2) = false := by simpa using e2
                    have E2 := hide e2
                    clear e2
                    go_wp2_with (go_at_call 32; refine (HCU.out _ (((Only.refl _ wr).alloc _).alloc _)).mono ?_; rintro e w2 ⟨v2, rfl, hs2, ho2, hf2⟩; obtain ⟨⟨u0, u1, u2⟩, ⟨y0, y1, y2, y3⟩, hkx⟩ := two_cells (ho2.mono (fun _ _ h => .inl h)) NS1.out KQ.out KX.out; have HS2 := hide hs2; have HO2 := hide ho2; have HF2 := hide hf2; clear hs2 ho2 hf2 hkx)
                    go_roundw
                    case rel => exact ⟨k + 1, k2, cap, A, its.take k2, v2, rfl, rfl, by rw [List.length_take]; have := HN2.out; omega, by omega, HI.out.cut HON3.out HO2.out HS2.out HF2.out⟩
                    case measure =>
                      show len - ((k : Int) + 1).toNat < len - (k : Int).toNat
                      omega
      case rest =>
        obtain ⟨bb, x, rfl, rfl, hA⟩ := hcut
        rcases hA.ways with ⟨rfl, hr16, v2, hs2, hf2⟩ | ⟨rfl, hr16, hs2⟩
        · have hd : decide ((n : Int) < 16) = true := by have := HN2.out; simp; omega
          have hdI : (n : Int) < 16 := by have := HN2.out; omega
          obtain ⟨i0, hi, hz0, hz1, hz2⟩ := info_parts3 infoItem
          have hA' : Added wr wc base g v its x true := hA
          have HAD := hide hA'
          have HS2 := hide hs2
          have HF2 : Hid (v2.ownBlock = v.ownBlock ∨ ∀ j, v2.ownBlock = some j → wr.heap.size ≤ j) := hide (hf2.imp id (fun h j hj => by have := h j hj; omega))
          have H16 := hide hr16
          have x0 := hA'.blk.cell 0
          have x1 := hA'.blk.cell 1
          simp at x0 x1
          have HXL := hide hA'.blk.lt
          have HRD : Hid (Reads wc wc.heap.size 2 A n (rowCells its)) := hide (by
            have h9 := (HI.out.both.items.only hA'.only (fun j hj => by
              rcases hj with hj | hj
              · rw [hj]; exact HI.out.both.apart1
              · exact HI.out.both.apart2 j hj)).reads
            rw [HN2.out] at h9
            exact h9)
          have HDR : Hid (Only Nob wc wc.drew) := hide ((Only.refl _ wc).drew)
          have HB1 : Hid (0 + n ≤ maxLen) := hide (by unfold maxLen; omega)
          have HB2 : Hid ((0 + n) * 16 ≤ 140737488355328) := hide (by omega)
          have HB3 : Hid (n + 1 ≤ maxLen) := hide (by unfold maxLen; omega)
          have HB4 : Hid ((n + 1) * 16 ≤ 140737488355328) := hide (by omega)
          have HSA : Hid (∀ o, wc.heap.size ≤ (wc.alloc o).heap.size) := hide (fun o => by simp)
          have HSB : Hid (∀ (W : World) o, W.heap.size ≤ (W.alloc o).heap.size) := hide (fun W o => by simp)
          have tok1 : True := trivial
          have tok2 : True := trivial
          clear hA hA' hs2 hf2 hr16
          go_wp2_with fail
          go_region_law (first
            | (refine step_append_any _ rfl _ _ 45 rfl wc.heap.size 94 i0 (.agg #[.int .i64 0, .int .u64 0]) 2 16 Tryd.underlying45 hi hz0 hz1 hz2 rfl (by decide) (.slice none 0 0) 0 [] rfl (World.ownsRow_nil _ _ _ _) wc.heap.size A n cap (rowCells its) rfl HRD.out (rowCells_one its) HB1.out HB2.out (Nat.le_refl _) ?_; intro v9 w3 hown hgrow hblk; obtain ⟨A9, c9, rfl, hrw, hon⟩ := app1 hown hgrow; have HRW := hide hrw; have HON : Hid (Only Nob wc w3) := hide (HDR.out.trans hon); have x0' := (HON.out.cell (p := ⟨wr.heap.size + 1, 0, none⟩) HXL.out (fun h => h)).trans x0; have x1' := (HON.out.cell (p := ⟨wr.heap.size + 1, 1, none⟩) HXL.out (fun h => h)).trans x1; clear hown hgrow hblk hrw hon)
            | (refine step_append_any _ rfl _ _ 45 rfl wc.heap.size 94 i0 (.agg #[.int .i64 0, .int .u64 0]) 2 16 Tryd.underlying45 hi hz0 hz1 hz2 rfl (by decide) (.slice none 0 0) 0 [] rfl (World.ownsRow_nil _ _ _ _) wc.heap.size A n cap (rowCells its) rfl (HRD.out.alloc (Nat.le_refl _) _) (rowCells_one its) HB1.out HB2.out (HSA.out _) ?_; intro v9 w3 hown hgrow hblk; obtain ⟨A9, c9, rfl, hrw, hon⟩ := app1 hown hgrow; have HRW := hide hrw; have HON : Hid (Only Nob wc w3) := hide (((HDR.out.alloc _).trans hon)); have HKL := hide ((Blk.new wc.drew _ _).only hon (fun h => h)); clear hown hgrow hblk hrw hon)
            | (refine step_append_any _ rfl _ _ 45 rfl wc.heap.size 94 i0 (.agg #[.int .i64 0, .int .u64 0]) 2 16 Tryd.underlying45 hi hz0 hz1 hz2 rfl (by decide) (.slice A9 n c9) n (rowCells its) rfl (HRW.out.alloc _) (w3.heap.size + 1) (some ⟨w3.heap.size, 0, none⟩) 1 1 (itmCells x) rfl (reads_lit w3 x) (itmCells_one x) HB3.out HB4.out (Nat.le_trans HON.out.size (HSB.out _ _)) ?_; intro v9 w4 hown hgrow hblk; obtain ⟨A8, c8, rfl, hc8, hrw2, hon2⟩ := app2 rfl (HRW.out.alloc _) hown (HON.out.alloc _) hgrow; have HR2 := hide hrw2; have HO2 := hide hon2; have HC8 := hide hc8; clear hown hgrow hblk hrw2 hon2 hc8)
            | (refine step_append_any _ rfl _ _ 45 rfl wc.heap.size 94 i0 (.agg #[.int .i64 0, .int .u64 0]) 2 16 Tryd.underlying45 hi hz0 hz1 hz2 rfl (by decide) (.slice A9 n c9) n (rowCells its) rfl HRW.out w3.heap.size (some ⟨wc.heap.size, 0, none⟩) 1 1 (itmCells x) rfl (Reads.of_blk (size := 2) (n := 1) HKL.out rfl) (itmCells_one x) HB3.out HB4.out HON.out.size ?_; intro v9 w4 hown hgrow hblk; obtain ⟨A8, c8, rfl, hc8, hrw2, hon2⟩ := app2 rfl HRW.out hown HON.out hgrow; have HR2 := hide hrw2; have HO2 := hide hon2; have HC8 := hide hc8; clear hown hgrow hblk hrw2 hon2 hc8))
          all_goals
            try simp only [Act.put, List.getElem_toArray, List.getElem_cons_succ, List.getElem_cons_zero, List.setIfInBounds_toArray, List.set_cons_zero, List.set_cons_succ]
            clear hi hz0 hz1 hz2
            go_wp2
            go_roundw
            case rel => exact ⟨k + 1, n + 1, c8, A8, its ++ [x], v2, rfl, rfl, by simp [HN2.out], HC8.out, HI.out.add HAD.out.only HAD.out.ok H16.out HS2.out HF2.out HR2.out HO2.out⟩
            case measure =>
              show len - ((k : Int) + 1).toNat < len - (k : Int).toNat
              omega
        · have hd : decide ((n : Int) < 16) = false := by have := HN2.out; simp; omega
          have hdI : ¬ ((n : Int) < 16) := by have := HN2.out; omega
          have HFU := hide (HI.out.full hA.only hs2)
          clear hA hs2 hr16
          go_wp2
          go_roundw
          case rel => exact ⟨k + 1, n, cap, A, its, v, rfl, rfl, HN2.out, hnc, HFU.out⟩
          case measure =>
            show len - ((k : Int) + 1).toNat < len - (k : Int).toNat
            omega
    · have HSM := hide (same13_any wr base g v its A n cap HI.out.both.sl HI.out.both.items HN2.out (by omega) HI.out.both.ok HI.out.tab)
      by_cases hk1 : k < len
      · have hk2 : ¬ k < 60 := fun h => hk ⟨hk1, h⟩
        have hkI1 : (k : Int) < (len : Int) := by omega
        have hkI2 : ¬ ((k : Int) < 60) := by omega
        clear hk
        go_wp2_with (go_at_call 31; refine (HSM.out).mono ?_; rintro e w2 ⟨rfl, ho⟩; have HO := hide ho; clear ho)
        go_ret2
        exact ⟨A, n, cap, its, v, rfl, HN2.out, hnc, HI.out.nob HO.out⟩
      · have hkI1 : ¬ ((k : Int) < (len : Int)) := by omega
        clear hk
        go_wp2_with (go_at_call 31; refine (HSM.out).mono ?_; rintro e w2 ⟨rfl, ho⟩; have HO := hide ho; clear ho)
        go_ret2
        exact ⟨A, n, cap, its, v, rfl, HN2.out, hnc, HI.out.nob HO.out⟩
end Go.Proofs.YtngahgfppbjebaaDoor

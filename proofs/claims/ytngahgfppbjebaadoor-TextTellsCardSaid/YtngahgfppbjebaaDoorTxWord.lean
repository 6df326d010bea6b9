/-
  The law's word: one of thirty-two, or a number.
-/
import Derived.Test.YtngahgfppbjebaaDoorGrpSlDec
import Derived.Test.YtngahgfppbjebaaDoorGrpWords
import Derived.Test.YtngahgfppbjebaaDoorGrpTxBuild
import Derived.Deep.Cut
import Derived.Deep.CutRange
import Derived.Deep.WholeRow
namespace Go.Proofs.YtngahgfppbjebaaDoor
open Go.RowKit Go.Lib
set_option linter.unusedVariables false
set_option linter.unusedSimpArgs false

/-- Every one of the cells is a short string. -/
def shortAt (cs : Array Value) (q : Nat) : Bool := match cs[q]? with
  | some (.string s) => decide (s.size ≤ 20)
  | _ => false
theorem short_of {cs : Array Value} {q : Nat} (h : shortAt cs q = true) : ∃ s, cs[q]? = some (.string s) ∧ s.size ≤ 20 := by
  unfold shortAt at h
  split at h
  · rename_i s hs
    exact ⟨s, hs, by simpa using h⟩
  · cases h
theorem shorts_of {cs : Array Value} (h : (List.range 32).all (shortAt cs) = true) {q : Nat} (hq : q < 32) : ∃ s, cs[q]? = some (.string s) ∧ s.size ≤ 20 := by
  rw [List.all_eq_true] at h
  exact short_of (h q (List.mem_range.2 hq))
theorem wpList_run {P : Program} {ops : Array Oper} {Q : Exit → Act → World → Prop} {a : Act} {w w' : World} {rest : List Oper} {o : Oper} {v : Value} (hg : o.guard = none) (hrun : (execOp a.eval o).run P w = .ok (.value v) w') (h : wpList P ops Q rest (a.put o.dst v) w') : wpList P ops Q (o :: rest) a w :=
  wpList_plain hg fun K hK => by
    unfold Oper.wp
    rw [hrun]
    exact hK _ _ h
theorem wpList_store_new {P : Program} {ops : Array Oper} {Q : Exit → Act → World → Prop} {a : Act} {w : World} {rest : List Oper} {op : Oper} (hgd : op.guard = none) (ty : TypeId) (x y : Operand) (ho : op.op = .store ty x y) (c c' : Array Value)
    (hx : a.eval x = .pointer (some ⟨w.heap.size, 0, none⟩)) (hy : a.eval y = .agg c') (hi : (P.info? ty).map (·.size) = some c'.size) (hs : c.size = c'.size) (h1 : c'.all (·.oneCell') = true)
    (h : wpList P ops Q rest (a.put op.dst undef) (w.alloc (.cells c' ty))) : wpList P ops Q (op :: rest) a (w.alloc (.cells c ty)) :=
  wpList_plain hgd fun K hK => by
    unfold Oper.wp execOp
    simp only [ho, hx, hy, Instr.storeAt, Instr.sureAddr, Sem.run_bind, Sem.run_pure, Result.andThen_ok, run_storeVar_new w ty c c' hi hs h1]
    exact hK _ _ h
set_option maxRecDepth 100000 in
set_option maxHeartbeats 8000000 in
/-- The array of words: laid in one block. -/
theorem word_reg {s0 s1 s2 s3 s4 s5 s6 s7 s8 s9 s10 s11 s12 s13 s14 s15 s16 s17 s18 s19 s20 s21 s22 s23 s24 s25 s26 s27 s28 s29 s30 s31 : ByteArray} {t0 t1 t2 t3 t4 t5 t6 t7 t8 t9 t10 t11 t12 t13 t14 : Value} {w : World} {Q : Exit → Act → World → Prop}
    (h : Q .normal ⟨#[t0, t1, t2, t3, t4, .pointer (some ⟨w.heap.size, 0, none⟩), .agg #[.string s0, .string s1, .string s2, .string s3, .string s4, .string s5, .string s6, .string s7, .string s8, .string s9, .string s10, .string s11, .string s12, .string s13, .string s14, .string s15, .string s16, .string s17, .string s18, .string s19, .string s20, .string s21, .string s22, .string s23, .string s24, .string s25, .string s26, .string s27, .string s28, .string s29, .string s30, .string s31], t7, t8, t9, t10, t11, t12, t13, t14], []⟩ (w.alloc (.cells #[.string s0, .string s1, .string s2, .string s3, .string s4, .string s5, .string s6, .string s7, .string s8, .string s9, .string s10, .string s11, .string s12, .string s13, .string s14, .string s15, .string s16, .string s17, .string s18, .string s19, .string s20, .string s21, .string s22, .string s23, .string s24, .string s25, .string s26, .string s27, .string s28, .string s29, .string s30, .string s31] 120))) :
    Code.wp Tryd.prog
      (Code.region 1
        #[{ dst := some 6, op := Op.build 120 #[(0, Operand.const (Value.string s0)), (1, Operand.const (Value.string s1)), (2, Operand.const (Value.string s2)), (3, Operand.const (Value.string s3)), (4, Operand.const (Value.string s4)), (5, Operand.const (Value.string s5)), (6, Operand.const (Value.string s6)), (7, Operand.const (Value.string s7)), (8, Operand.const (Value.string s8)), (9, Operand.const (Value.string s9)), (10, Operand.const (Value.string s10)), (11, Operand.const (Value.string s11)), (12, Operand.const (Value.string s12)), (13, Operand.const (Value.string s13)), (14, Operand.const (Value.string s14)), (15, Operand.const (Value.string s15)), (16, Operand.const (Value.string s16)), (17, Operand.const (Value.string s17)), (18, Operand.const (Value.string s18)), (19, Operand.const (Value.string s19)), (20, Operand.const (Value.string s20)), (21, Operand.const (Value.string s21)), (22, Operand.const (Value.string s22)), (23, Operand.const (Value.string s23)), (24, Operand.const (Value.string s24)), (25, Operand.const (Value.string s25)), (26, Operand.const (Value.string s26)), (27, Operand.const (Value.string s27)), (28, Operand.const (Value.string s28)), (29, Operand.const (Value.string s29)), (30, Operand.const (Value.string s30)), (31, Operand.const (Value.string s31))], type := 120, pos := "law.go:28", after := #[], guard := none },
          { dst := some 5, op := Op.alloc 120, type := 0, pos := "law.go:28", after := #[], guard := none },
          { dst := none, op := Op.store 120 (Operand.tmp 5) (Operand.tmp 6), type := 0, pos := "law.go:28", after := #[{ on := 1, ground := Ground.data }, { on := 0, ground := Ground.data }, { on := 0, ground := Ground.phase }, { on := 1, ground := Ground.phase }], guard := none }]
        false) Q ⟨#[t0, t1, t2, t3, t4, t5, t6, t7, t8, t9, t10, t11, t12, t13, t14], []⟩ w := by
  refine wp_region_lit ?_
  refine wpList_run (v := .agg #[.string s0, .string s1, .string s2, .string s3, .string s4, .string s5, .string s6, .string s7, .string s8, .string s9, .string s10, .string s11, .string s12, .string s13, .string s14, .string s15, .string s16, .string s17, .string s18, .string s19, .string s20, .string s21, .string s22, .string s23, .string s24, .string s25, .string s26, .string s27, .string s28, .string s29, .string s30, .string s31]) (w' := w) rfl (by kernel_rfl) ?_
  refine wpList_run (v := .pointer (some ⟨w.heap.size, 0, none⟩)) (w' := w.alloc (.cells (Array.replicate 32 (.string ⟨#[]⟩)) 120)) rfl (by kernel_rfl) ?_
  refine wpList_store_new rfl 120 _ _ rfl (Array.replicate 32 (.string ⟨#[]⟩)) #[.string s0, .string s1, .string s2, .string s3, .string s4, .string s5, .string s6, .string s7, .string s8, .string s9, .string s10, .string s11, .string s12, .string s13, .string s14, .string s15, .string s16, .string s17, .string s18, .string s19, .string s20, .string s21, .string s22, .string s23, .string s24, .string s25, .string s26, .string s27, .string s28, .string s29, .string s30, .string s31] rfl rfl (by kernel_rfl) rfl (by kernel_rfl) ?_
  exact wpList_nil h
theorem digits_short (x : Nat) (hx : x ≤ 18446744073709551615) : (decDigits x).length ≤ 20 := dec_len x (by omega)
set_option maxRecDepth 100000 in
set_option maxHeartbeats 8000000 in
theorem word_any (n x : Nat) (hn : n ≤ 255) (hx : x ≤ 18446744073709551615) (w : World) :
    Calls Tryd.prog 35 #[.int .u8 (n : Int), .int .u64 (x : Int)] w fun e w' => ∃ s : ByteArray, e = .returned (.string s) ∧ s.size ≤ 20 ∧ Only Nob w w' := by
  have HD := hide (fun W => decimal_any x hx W)
  have HX := hide (digits_short x hx)
  go_enter Tryd.func35, Tryd.ntmps35
  go_upto_region 1 with fail
  go_cut [5] from 6 to 14 (fun p wx => p = .pointer (some ⟨w.heap.size, 0, none⟩) ∧ Only Nob w wx ∧ ∃ cs, Blk wx w.heap.size 120 cs ∧ Hid ((List.range 32).all (shortAt cs) = true))
  case first =>
    refine word_reg ?_
    go_wp2_with fail
    go_meet
    exact ⟨rfl, (Only.refl _ _).alloc _, _, Blk.new _ _ _, by unfold Hid; decide⟩
  case rest =>
    obtain ⟨rfl, ho, cs, hb, hs⟩ := hcut
    have HO := hide ho
    have HB := hide hb
    by_cases h250 : 250 ≤ n
    · have h250I : (250 : Int) ≤ (n : Int) := by omega
      clear ho hb
      go_wp2_with (first | (go_at_call 27; refine (HD.out _).mono ?_; rintro e w2 ⟨rfl, ho2⟩; have HO2 := hide (HO.out.trans ho2); clear ho2))
      go_ret
      exact ⟨_, rfl, by have := HX.out; simp [ByteArray.size]; omega, HO2.out⟩
    · have h250I : ¬ (250 : Int) ≤ (n : Int) := by omega
      obtain ⟨q, hq, hq32⟩ : ∃ q : Nat, (n : Int) % 32 = (q : Int) ∧ q < 32 := ⟨n % 32, by omega, by omega⟩
      have hqI : (q : Int) < 32 := by omega
      obtain ⟨s, hcs, hss⟩ := shorts_of hs.out hq32
      have hc := (hb.cell q).trans hcs
      have hl := hb.lt
      clear ho hb hcs
      go_wp2_with fail
      go_ret
      exact ⟨_, rfl, hss, HO.out⟩
end Go.Proofs.YtngahgfppbjebaaDoor

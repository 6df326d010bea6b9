/-
  The contract of strconv.FormatUint at base 10, over the shelf's contracts of its callees.
  The words of an instruction's fields, printed.
  The builder's writers, at this program.
-/
import Derived.Test.YtngahgfppbjebaaDoorBase
import Derived.Test.YtngahgfppbjebaaDoorGrpWords
import Derived.Test.YtngahgfppbjebaaDoorGrpTxErase
import Derived.Test.YtngahgfppbjebaaDoorShelf
import Derived.Lib.AppendIntMem
import Derived.Lib.LaidTab
import Derived.Lib.SmallJoins
import Derived.Outline
import Derived.Shelf.Abstract
import Derived.Test.YtngahgfppbjebaaDoorGrpTxFAll
import Derived.Lib.ItoaLen
import Derived.Shelf.Strings.BuilderK
namespace Go.Proofs.YtngahgfppbjebaaDoor
open Go.RowKit Go.Lib Go.Sort
set_option linter.unusedVariables false
set_option linter.unusedSimpArgs false

/-- The table that numDigits reads. -/
def Pow10 (w : World) : Prop := Lib.TabIs Tryd.prog w "internal/strconv.uint64pow10" .u64 Lib.pow10Tab
theorem pow10_named : Tryd.prog.globalNamed "internal/strconv.uint64pow10" = some 4 := by kernel_rfl
theorem Pow10.block {w w' : World} (h : Pow10 w) (e : w'.heap[4]? = w.heap[4]?) : Pow10 w' := by
  unfold Pow10 Lib.TabIs World.var? at *
  rw [pow10_named] at *
  simp only [Option.bind_some] at *
  rw [e]
  exact h
theorem Pow10.lt {w : World} (h : Pow10 w) : 4 < w.heap.size := by
  unfold Pow10 Lib.TabIs World.var? at h
  rw [pow10_named] at h
  simp only [Option.bind_some] at h
  rcases Nat.lt_or_ge 4 w.heap.size with h' | h'
  · exact h'
  · rw [Array.getElem?_eq_none h'] at h; simp at h
theorem Pow10.only {S : Nat → Prop} {w w' : World} (h : Pow10 w) (ho : Only S w w') (hn : ¬ S 4) : Pow10 w' := h.block (ho.block _ h.lt hn)
theorem Pow10.nob {w w' : World} (h : Pow10 w) (ho : Only Nob w w') : Pow10 w' := h.only ho (fun h => h)

set_option maxRecDepth 1000000 in
theorem iformatUint_any (u : Nat) (hu : u < 18446744073709551616) (w : World) (htab : Pow10 w) :
    Calls Tryd.prog 99 #[.int .u64 (u : Int), .int .i64 10] w fun e w' => e = .returned (.string ⟨(decDigits u).toArray⟩) ∧ Only Nob w w' := by
  by_cases h100 : u < 100
  · go_enter Tryd.func99, Tryd.ntmps99
    go_wp2_with (go_at_call 115; refine (Tryd.internal_strconv_small u h100 _).mono ?_; rintro e w' ⟨rfl, rfl⟩)
    go_ret
    exact ⟨rfl, Only.refl _ _⟩
  · have hu1 : 1 ≤ u := by omega
    have hnd20 : Lib.nDigits u ≤ 20 := by have := Lib.numDigits_eq u hu1 hu; split at this <;> omega
    have hal : Tryd.prog.arrayLen 189 = 24 := by kernel_rfl
    have hH0 := Lib.holds_zero0 w 189 (Lib.nDigits u) (by omega)
    have hfmt := Tryd.internal_strconv_formatBase10 w.heap.size 0 24 u (Array.replicate (Lib.nDigits u) 0) (w.alloc (.cells Lib.zeros24 189)) hH0 (by rw [Array.size_replicate]; exact Lib.lt_pow_nDigits u) hu (by rw [Array.size_replicate]; omega)
    rw [Array.size_replicate] at hfmt
    have hsl : ∀ W, (Instr.sliceAt 189 (.pointer (some ⟨w.heap.size, 0, none⟩)) none (some (.int .i64 (Lib.nDigits u : Int))) none).run Tryd.prog W = .ok (.slice (some ⟨w.heap.size, 0, none⟩) (Lib.nDigits u) 24) W := fun W => by
      rw [run_sliceAt_array_h W 189 ⟨w.heap.size, 0, none⟩ (by simp [Program.arrayLen, Program.elem, Tryd.underlying189]) .i64 (Lib.nDigits u : Int) (by omega) (by rw [hal]; omega)]
      go_simp
    have HH0 := hide hH0
    have HT := hide htab
    have HN := hide (fun W h => Tryd.internal_strconv_numDigits u hu1 hu W h)
    clear hH0 hal htab
    go_enter Tryd.func99, Tryd.ntmps99
    go_wp2_with (go_at_call 116; refine (HN.out _ (Lib.tabIs_alloc HT.out _)).mono ?_; rintro e w' ⟨rfl, rfl⟩)
    refine hfmt.mono ?_
    rintro e w' ⟨rfl, k, v', dk, rfl, hF⟩
    obtain ⟨os, eo⟩ := Lib.fin_at w (.cells Lib.zeros24 189) dk k 0
    have hcv : (convert 39 9 (.slice (some ⟨w.heap.size, 0, none⟩) (Lib.nDigits u) 24)).run Tryd.prog ((putRow (fun (b : UInt8) => Value.int .u8 (b.toNat : Int)) (w.alloc (.cells Lib.zeros24 189)) w.heap.size 0 dk).drewN k)
        = .ok (.string ⟨(Lib.decDigits u).toArray⟩) ((putRow (fun (b : UInt8) => Value.int .u8 (b.toNat : Int)) (w.alloc (.cells Lib.zeros24 189)) w.heap.size 0 dk).drewN k) := by
      have h := run_convert_bytes_back (P := Tryd.prog) ((putRow (fun (b : UInt8) => Value.int .u8 (b.toNat : Int)) (w.alloc (.cells Lib.zeros24 189)) w.heap.size 0 dk).drewN k) 39 9 5 ⟨w.heap.size, 0, none⟩ 24 (Lib.decDigits u) Tryd.underlying39 Tryd.underlying5 Tryd.underlying9 (fun j hj => by
        rw [Lib.row_is_numeral hF j hj, Lib.add_plain, World.cell?_drewN]
        exact cell?_putRow (fun (b : UInt8) => Value.int .u8 (b.toNat : Int)) _ w.heap.size 0 _ dk HH0.out (by rw [hF.size, Array.size_replicate]) j (by rw [hF.size]; rw [Lib.decDigits_length] at hj; exact hj))
      rw [Lib.decDigits_length] at h
      exact h
    have HF := hide hF
    clear hF
    rw [eo] at hcv ⊢
    have hO : Hid (Only Nob w (grow (w.drewN k) os)) := hide (Only.of_new (Lib.below_grow _ w (Nat.le_refl _) k os))
    generalize grow (w.drewN k) os = W2 at eo hcv hO ⊢
    clear eo hfmt
    go_wp2
    go_ret
    exact ⟨rfl, hO.out⟩
theorem formatUint_any (u : Nat) (hu : u < 18446744073709551616) (w : World) (htab : Pow10 w) :
    Calls Tryd.prog 72 #[.int .u64 (u : Int), .int .i64 10] w fun e w' => e = .returned (.string ⟨(decDigits u).toArray⟩) ∧ Only Nob w w' := by
  have HC := hide (iformatUint_any u hu w htab)
  clear htab
  go_enter Tryd.func72, Tryd.ntmps72
  go_wp2_with (go_at_call 99; refine (HC.out).mono ?_; rintro e w2 ⟨rfl, h1⟩; have H1 := hide h1; clear h1)
  go_ret
  exact ⟨rfl, H1.out⟩
end Go.Proofs.YtngahgfppbjebaaDoor
namespace Go.Proofs.YtngahgfppbjebaaDoor
open Go.RowKit Go.Lib
set_option linter.unusedVariables false
set_option linter.unusedSimpArgs false

def toldP (x : PIns) (kd : UInt8) : List UInt8 :=
  if kd = 97 then 114 :: decDigits x.a.toNat
  else if kd = 98 then 114 :: decDigits x.b.toNat
  else if kd = 99 then 114 :: decDigits x.c.toNat
  else if kd = 112 then 114 :: decDigits x.c.toNat
  else if kd = 111 then decDigits x.c.toNat
  else if kd = 116 then decDigits x.b.toNat
  else if kd = 110 then decDigits x.n.toNat
  else if kd = 119 then (atList callList x.a).data.toList
  else 108 :: decDigits x.c.toNat
def ToldPost (w : World) (l : List UInt8) (e : Ending) (w' : World) : Prop := e = .returned (.string ⟨l.toArray⟩) ∧ Only Nob w w'
theorem cons_str (x : UInt8) (l : List UInt8) : (⟨#[x]⟩ : ByteArray) ++ ⟨l.toArray⟩ = ⟨(x :: l).toArray⟩ := by
  apply ByteArray.ext
  simp
theorem dec_len (u : Nat) (h : u < 18446744073709551616) : (decDigits u).length ≤ 20 := by rw [decDigits_length]; exact nDigits_le20 u h
theorem told_97 (w : World) (op : Int) (a b c n : Nat) (ha : a < 100) : Calls Tryd.prog 58 #[.agg #[.int .i64 op, .int .i64 (a : Int), .int .i64 (b : Int), .int .i64 (c : Int), .int .u64 (n : Int)], .int .i32 97] w (ToldPost w (114 :: decDigits a)) := by
  have HC := hide (fun (w1 : World) => Tryd.strconv_Itoa_small a ha w1)
  have hdl := dec_len a (by omega)
  go_enter Tryd.func58, Tryd.ntmps58
  go_wp2_with (go_at_call 56; refine (HC.out _).mono ?_; rintro e w2 ⟨rfl, hw2⟩; replace hw2 := hw2.symm; subst hw2)
  go_ret
  exact ⟨by rw [cons_str]; rfl, (Only.refl _ w).alloc _⟩
theorem told_98 (w : World) (op : Int) (a b c n : Nat) (hb : b < 100) : Calls Tryd.prog 58 #[.agg #[.int .i64 op, .int .i64 (a : Int), .int .i64 (b : Int), .int .i64 (c : Int), .int .u64 (n : Int)], .int .i32 98] w (ToldPost w (114 :: decDigits b)) := by
  have HC := hide (fun (w1 : World) => Tryd.strconv_Itoa_small b hb w1)
  have hdl := dec_len b (by omega)
  go_enter Tryd.func58, Tryd.ntmps58
  go_wp2_with (go_at_call 56; refine (HC.out _).mono ?_; rintro e w2 ⟨rfl, hw2⟩; replace hw2 := hw2.symm; subst hw2)
  go_ret
  exact ⟨by rw [cons_str]; rfl, (Only.refl _ w).alloc _⟩
theorem told_99 (w : World) (op : Int) (a b c n : Nat) (hc : c < 100) : Calls Tryd.prog 58 #[.agg #[.int .i64 op, .int .i64 (a : Int), .int .i64 (b : Int), .int .i64 (c : Int), .int .u64 (n : Int)], .int .i32 99] w (ToldPost w (114 :: decDigits c)) := by
  have HC := hide (fun (w1 : World) => Tryd.strconv_Itoa_small c hc w1)
  have hdl := dec_len c (by omega)
  go_enter Tryd.func58, Tryd.ntmps58
  go_wp2_with (go_at_call 56; refine (HC.out _).mono ?_; rintro e w2 ⟨rfl, hw2⟩; replace hw2 := hw2.symm; subst hw2)
  go_ret
  exact ⟨by rw [cons_str]; rfl, (Only.refl _ w).alloc _⟩
theorem told_112 (w : World) (op : Int) (a b c n : Nat) (hc : c < 100) : Calls Tryd.prog 58 #[.agg #[.int .i64 op, .int .i64 (a : Int), .int .i64 (b : Int), .int .i64 (c : Int), .int .u64 (n : Int)], .int .i32 112] w (ToldPost w (114 :: decDigits c)) := by
  have HC := hide (fun (w1 : World) => Tryd.strconv_Itoa_small c hc w1)
  have hdl := dec_len c (by omega)
  go_enter Tryd.func58, Tryd.ntmps58
  go_wp2_with (go_at_call 56; refine (HC.out _).mono ?_; rintro e w2 ⟨rfl, hw2⟩; replace hw2 := hw2.symm; subst hw2)
  go_ret
  exact ⟨by rw [cons_str]; rfl, (Only.refl _ w).alloc _⟩
theorem told_111 (w : World) (op : Int) (a b c n : Nat) (hc : c < 100) : Calls Tryd.prog 58 #[.agg #[.int .i64 op, .int .i64 (a : Int), .int .i64 (b : Int), .int .i64 (c : Int), .int .u64 (n : Int)], .int .i32 111] w (ToldPost w (decDigits c)) := by
  have HC := hide (fun (w1 : World) => Tryd.strconv_Itoa_small c hc w1)
  go_enter Tryd.func58, Tryd.ntmps58
  go_wp2_with (go_at_call 56; refine (HC.out _).mono ?_; rintro e w2 ⟨rfl, hw2⟩; replace hw2 := hw2.symm; subst hw2)
  go_ret
  exact ⟨rfl, (Only.refl _ w).alloc _⟩
theorem told_116 (w : World) (op : Int) (a b c n : Nat) (hb : b < 100) : Calls Tryd.prog 58 #[.agg #[.int .i64 op, .int .i64 (a : Int), .int .i64 (b : Int), .int .i64 (c : Int), .int .u64 (n : Int)], .int .i32 116] w (ToldPost w (decDigits b)) := by
  have HC := hide (fun (w1 : World) => Tryd.strconv_Itoa_small b hb w1)
  go_enter Tryd.func58, Tryd.ntmps58
  go_wp2_with (go_at_call 56; refine (HC.out _).mono ?_; rintro e w2 ⟨rfl, hw2⟩; replace hw2 := hw2.symm; subst hw2)
  go_ret
  exact ⟨rfl, (Only.refl _ w).alloc _⟩
theorem told_110 (w : World) (op : Int) (a b c n : Nat) (hn : n < 18446744073709551616) (htab : Pow10 w) : Calls Tryd.prog 58 #[.agg #[.int .i64 op, .int .i64 (a : Int), .int .i64 (b : Int), .int .i64 (c : Int), .int .u64 (n : Int)], .int .i32 110] w (ToldPost w (decDigits n)) := by
  have HC := hide (fun (w1 : World) (h : Only Nob w w1) => formatUint_any n hn w1 (htab.nob h))
  clear htab
  go_enter Tryd.func58, Tryd.ntmps58
  go_wp2_with (go_at_call 72; refine (HC.out _ ((Only.refl _ w).alloc _)).mono ?_; rintro e w2 ⟨rfl, ho⟩; have HO := hide ho; clear ho)
  go_ret
  exact ⟨rfl, ((Only.refl _ w).alloc _).trans HO.out⟩
theorem told_119 (w : World) (op : Int) (a b c n : Nat) : Calls Tryd.prog 58 #[.agg #[.int .i64 op, .int .i64 (a : Int), .int .i64 (b : Int), .int .i64 (c : Int), .int .u64 (n : Int)], .int .i32 119] w (ToldPost w ((atList callList (a : Int)).data.toList)) := by
  go_enter Tryd.func58, Tryd.ntmps58
  go_wp2_with (go_at_call 87; refine (call_any _ _).mono ?_; rintro e w2 ⟨rfl, rfl⟩)
  go_ret
  exact ⟨rfl, ((Only.refl _ w).alloc _).alloc _⟩
theorem told_106 (w : World) (op : Int) (a b c n : Nat) (hc : c < 100) : Calls Tryd.prog 58 #[.agg #[.int .i64 op, .int .i64 (a : Int), .int .i64 (b : Int), .int .i64 (c : Int), .int .u64 (n : Int)], .int .i32 106] w (ToldPost w (108 :: decDigits c)) := by
  have HC := hide (fun (w1 : World) => Tryd.strconv_Itoa_small c hc w1)
  have hdl := dec_len c (by omega)
  go_enter Tryd.func58, Tryd.ntmps58
  go_wp2_with (go_at_call 56; refine (HC.out _).mono ?_; rintro e w2 ⟨rfl, hw2⟩; replace hw2 := hw2.symm; subst hw2)
  go_ret
  exact ⟨by rw [cons_str]; rfl, (Only.refl _ w).alloc _⟩
/-- What an instruction's text needs of it. -/
structure Small (x : PIns) : Prop where
  a : 0 ≤ x.a ∧ x.a < 100
  b : 0 ≤ x.b ∧ x.b < 100
  c : 0 ≤ x.c ∧ x.c < 100
  n : 0 ≤ x.n ∧ x.n < 18446744073709551616
theorem told_any (x : PIns) (hx : Small x) (kd : UInt8) (hkd : kd ∈ kindSet) (w : World) (htab : Pow10 w) : Calls Tryd.prog 58 #[.agg #[.int .i64 x.op, .int .i64 x.a, .int .i64 x.b, .int .i64 x.c, .int .u64 x.n], .int .i32 (kd.toNat : Int)] w (ToldPost w (toldP x kd)) := by
  obtain ⟨op, a, b, c, n⟩ := x
  obtain ⟨⟨a0, a1⟩, ⟨b0, b1⟩, ⟨c0, c1⟩, ⟨n0, n1⟩⟩ := hx
  obtain ⟨a, rfl⟩ := Int.eq_ofNat_of_zero_le a0
  obtain ⟨b, rfl⟩ := Int.eq_ofNat_of_zero_le b0
  obtain ⟨c, rfl⟩ := Int.eq_ofNat_of_zero_le c0
  obtain ⟨n, rfl⟩ := Int.eq_ofNat_of_zero_le n0
  simp only at a1 b1 c1 n1
  simp only [kindSet, List.mem_cons, List.not_mem_nil, or_false] at hkd
  rcases hkd with rfl | rfl | rfl | rfl | rfl | rfl | rfl | rfl | rfl
  · exact told_97 w op a b c n (by omega)
  · exact told_98 w op a b c n (by omega)
  · exact told_99 w op a b c n (by omega)
  · exact told_112 w op a b c n (by omega)
  · exact told_111 w op a b c n (by omega)
  · exact told_116 w op a b c n (by omega)
  · exact told_110 w op a b c n (by omega) htab
  · exact told_119 w op a b c n
  · exact told_106 w op a b c n (by omega)
end Go.Proofs.YtngahgfppbjebaaDoor
namespace Go.Proofs.YtngahgfppbjebaaDoor
open Go.RowKit Go.Lib
set_option linter.unusedVariables false
set_option linter.unusedSimpArgs false

/-- The builder at a block holds these bytes. -/
def BuiltAt (w : World) (b : Nat) (l : List UInt8) : Prop := Lib.IsBuilderF 113 5 b b (Lib.byteCells l) w
/-- A writer's frame: the blocks below it, and those above it that are no bytes. -/
def Wrote (w w' : World) (b : Nat) : Prop := Below b w w' ∧ Lib.OthersKept 5 (some b) w w'
theorem check_any (b : Nat) (bs : List Value) (w : World) (h : Lib.IsBuilderF 113 5 b b bs w) : Calls Tryd.prog 85 #[.pointer (some ⟨b, 0, none⟩)] w fun e w' => e = .returned (.tuple #[]) ∧ Lib.BuilderAtF 113 5 b b (.pointer (some ⟨b, 0, none⟩)) bs w' ∧ Below b w w' ∧ Lib.OthersKept 5 (some b) w w' :=
  Any.Builder_copyCheck_k (P := Tryd.prog) (ρ := Tryd.lays165_ren) { Tryd.lays165 with } Tryd.Builder_Extra_165.toX72 b b bs w h
set_option maxHeartbeats 2000000 in
set_option maxRecDepth 100000 in
theorem writeString_any (b : Nat) (l : List UInt8) (s : ByteArray) (w : World) (h : BuiltAt w b l) (hl : l.length + s.size ≤ 1000000000) : Calls Tryd.prog 55 #[.pointer (some ⟨b, 0, none⟩), .string s] w fun e w' => e = .returned (.tuple #[.int .i64 s.size, .nilIface]) ∧ BuiltAt w' b (l ++ s.data.toList) ∧ Wrote w w' b := by
  obtain ⟨i0, hi, hz0, hz1, hz2⟩ := info_parts Tryd.Builder_Extra_165.infoByte
  have hbc : (Lib.byteCells l).length = l.length := by simp [Lib.byteCells]
  have HB := hide h
  clear h
  go_enter Tryd.func55, Tryd.ntmps55
  go_wp2_with (go_at_call 85; refine (check_any b _ _ HB.out).mono ?_)
  rintro e w1 ⟨rfl, h1, hb1, hk1⟩
  have hltb := h1.lt
  obtain ⟨hB, v, hbk, hown, hne⟩ := h1
  have c0 : w1.cell? ⟨b, 0, none⟩ = some (.pointer (some ⟨b, 0, none⟩)) := by rw [Lib.cell_of_heap hbk]; rfl
  have c1 : w1.cell? ⟨b, 1, none⟩ = some v := by rw [Lib.cell_of_heap hbk]; rfl
  go_wp2_with (at_builtin; refine Lib.wpList_append_own_stringF _ rfl _ _ 39 9 rfl b 5 i0 Tryd.underlying39 Tryd.underlying9 hi hz0 hz1 hz2 _ _ _ rfl hown s rfl ?c3 ?c4 ?c5 ?_)
  case c3 => unfold maxLen; omega
  case c4 => omega
  case c5 => have := hb1.size; omega
  intro v' w2 hown' hgrow _
  have hlt : b < w1.heap.size := by
    rcases Nat.lt_or_ge b w1.heap.size with h' | h'
    · exact h'
    · simp [Array.getElem?_eq_none h'] at hbk
  have hb2 : w2.heap[b]? = some (.cells #[.pointer (some ⟨b, 0, none⟩), v] 113 (0, 0)) := by
    rw [hgrow.block b hlt (fun e => hne e.symm)]
    exact hbk
  have d0 : w2.cell? ⟨b, 0, none⟩ = some (.pointer (some ⟨b, 0, none⟩)) := by rw [Lib.cell_of_heap hb2]; rfl
  have d1 : w2.cell? ⟨b, 1, none⟩ = some v := by rw [Lib.cell_of_heap hb2]; rfl
  have f1 : w2.frozen? ⟨b, 1, none⟩ = false := Lib.frozen_of_heap hb2 1
  obtain ⟨ao, n', cap, rfl⟩ : ∃ ao n' cap, v' = .slice ao n' cap := by
    rcases hown'.2 with ⟨hv, _⟩ | ⟨g, cap, cur, fz, hv, _⟩
    · exact ⟨_, _, _, hv⟩
    · exact ⟨_, _, _, hv⟩
  go_wp2
  go_ret2
  refine ⟨rfl, .inr ?_, ?_, (hk1.grown hgrow (Lib.ownsRowF_kind hown)).setCell ⟨b, 1, none⟩ rfl _⟩
  · have := Lib.BuilderAtF.put (T := 113) (e := 5) hB hb2 (bs' := Lib.byteCells l ++ Lib.strCells s) (by rw [List.length_append, Lib.strCells_length, hbc]; exact hown') Tryd.Builder_Extra_165.neB5
    have e9 : Lib.byteCells (l ++ s.data.toList) = Lib.byteCells l ++ Lib.strCells s := by simp [Lib.byteCells, Lib.strCells]
    rw [e9]
    exact this
  · exact (hb1.grown hgrow (by have := hb1.size; omega) (fun k hk => (hown.lt k hk).1)).setCell (p := ⟨b, 1, none⟩) hB _
set_option maxHeartbeats 2000000 in
set_option maxRecDepth 100000 in
theorem writeByte_any (b : Nat) (l : List UInt8) (c : UInt8) (w : World) (h : BuiltAt w b l) (hl : l.length + 1 ≤ 1000000000) : Calls Tryd.prog 59 #[.pointer (some ⟨b, 0, none⟩), .int .u8 (c.toNat : Int)] w fun e w' => e = .returned .nilIface ∧ BuiltAt w' b (l ++ [c]) ∧ Wrote w w' b := by
  obtain ⟨i0, hi, hz0, hz1, hz2⟩ := info_parts Tryd.Builder_Extra_165.infoByte
  have hbc : (Lib.byteCells l).length = l.length := by simp [Lib.byteCells]
  have HB := hide h
  clear h
  go_enter Tryd.func59, Tryd.ntmps59
  go_wp2_with (go_at_call 85; refine (check_any b _ _ HB.out).mono ?_)
  rintro e w1 ⟨rfl, h1, hb1, hk1⟩
  have hltb := h1.lt
  obtain ⟨hB, v, hbk, hown, hne⟩ := h1
  have c0 : w1.cell? ⟨b, 0, none⟩ = some (.pointer (some ⟨b, 0, none⟩)) := by rw [Lib.cell_of_heap hbk]; rfl
  have c1 : w1.cell? ⟨b, 1, none⟩ = some v := by rw [Lib.cell_of_heap hbk]; rfl
  go_wp2_with (at_builtin; refine wpList_append_ownF _ rfl _ _ 39 rfl b 5 i0 (.int .u8 0) 1 1 Tryd.underlying39 hi hz0 hz1 hz2 rfl (by decide) _ _ _ rfl (hown.alloc _) ⟨w1.heap.size, 0, none⟩ 1 1 [.int .u8 (c.toNat : Int)] rfl rfl ?c1 ?c2 ?c3 ?c4 ?c5 ?_)
  case c1 =>
    intro j u hj
    match j, hj with
    | 0, hj => simp at hj; subst hj; simp [Addr.add]
  case c2 => intro u hu; simp at hu; subst hu; rfl
  case c3 => unfold maxLen; omega
  case c4 => omega
  case c5 => have := hb1.size; simp; omega
  intro v' w2 hown' hgrow _
  have hb2 : w2.heap[b]? = some (.cells #[.pointer (some ⟨b, 0, none⟩), v] 113 (0, 0)) := by
    rw [hgrow.block b (by simp; omega) (fun e => hne e.symm), Lib.alloc_old w1 _ b hltb]
    exact hbk
  have d0 : w2.cell? ⟨b, 0, none⟩ = some (.pointer (some ⟨b, 0, none⟩)) := by rw [Lib.cell_of_heap hb2]; rfl
  have d1 : w2.cell? ⟨b, 1, none⟩ = some v := by rw [Lib.cell_of_heap hb2]; rfl
  have f1 : w2.frozen? ⟨b, 1, none⟩ = false := Lib.frozen_of_heap hb2 1
  obtain ⟨g, n9, cap, rfl⟩ : ∃ g n9 cap, v' = .slice (some ⟨g, 0, none⟩) n9 cap := by
    rcases hown'.2 with ⟨_, h0⟩ | ⟨g, cap, cur, fz, hv, _⟩
    · omega
    · exact ⟨g, _, cap, hv⟩
  go_wp2
  go_ret
  refine ⟨rfl, .inr ?_, ?_, ((hk1.alloc _).grown hgrow (Lib.ownsRowF_kind (hown.alloc _))).setCell ⟨b, 1, none⟩ rfl _⟩
  · have := Lib.BuilderAtF.put (T := 113) (e := 5) hB hb2 (bs' := Lib.byteCells l ++ [.int .u8 (c.toNat : Int)]) (by rw [List.length_append, hbc]; exact hown') Tryd.Builder_Extra_165.neB5
    have e9 : Lib.byteCells (l ++ [c]) = Lib.byteCells l ++ [.int .u8 (c.toNat : Int)] := by simp [Lib.byteCells]
    rw [e9]
    exact this
  · exact ((hb1.alloc (by have := hb1.size; omega) _).grown hgrow (by have := hb1.size; simp; omega) (fun k hk => (hown.lt k hk).1)).setCell (p := ⟨b, 1, none⟩) hB _
theorem string_any (b : Nat) (l : List UInt8) (w : World) (h : BuiltAt w b l) (hb : b ≤ w.heap.size) : Calls Tryd.prog 60 #[.pointer (some ⟨b, 0, none⟩)] w fun e w' => e = .returned (.string ⟨l.toArray⟩) ∧ Below b w w' :=
  (Tryd.Builder_String_any_k b b l w h hb).mono (fun e w' h => ⟨h.1, h.2.2.1⟩)
/-- 'var b strings.Builder'. -/
theorem BuiltAt.new (w : World) : BuiltAt (w.alloc (.cells #[.pointer none, .slice none 0 0] 113)) w.heap.size [] := by
  refine .inl ⟨Nat.le_refl _, .slice none 0 0, ?_, ?_, by simp [Value.ownBlock]⟩
  · exact Blk.new w _ _
  · exact ⟨rfl, .inl ⟨rfl, rfl⟩⟩
end Go.Proofs.YtngahgfppbjebaaDoor

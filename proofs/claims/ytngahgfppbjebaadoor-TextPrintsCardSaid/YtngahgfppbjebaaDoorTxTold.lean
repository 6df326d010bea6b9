/-
  The words of an instruction's fields, printed.
-/
import Derived.Test.YtngahgfppbjebaaDoorTxFmt
import Derived.Test.YtngahgfppbjebaaDoorGrpTxFAll
import Derived.Lib.ItoaLen
namespace Go.Proofs.YtngahgfppbjebaaDoor
open Go.RowKit Go.Lib
set_option linter.unusedVariables false
set_option linter.unusedSimpArgs false

def toldP (x : PIns) (kd : UInt8) : List UInt8 :=
  if kd = 97 then 114 :: decDigits x.a.toNat
  else if kd = 98 then 114 :: decDigits x.b.toNat
  else if kd = 99 then 114 :: decDigits x.c.toNat
  else if kd = 112 then 114 :: decDigits x.c.toNat
  else if kd = 111 then decDigits x.c.toNat
  else if kd = 116 then decDigits x.b.toNat
  else if kd = 110 then decDigits x.n.toNat
  else if kd = 119 then (atList callList x.a).data.toList
  else 108 :: decDigits x.c.toNat
def ToldPost (w : World) (l : List UInt8) (e : Ending) (w' : World) : Prop := e = .returned (.string ⟨l.toArray⟩) ∧ Only Nob w w'
theorem cons_str (x : UInt8) (l : List UInt8) : (⟨#[x]⟩ : ByteArray) ++ ⟨l.toArray⟩ = ⟨(x :: l).toArray⟩ := by
  apply ByteArray.ext
  simp
theorem dec_len (u : Nat) (h : u < 18446744073709551616) : (decDigits u).length ≤ 20 := by rw [decDigits_length]; exact nDigits_le20 u h
theorem told_97 (w : World) (op : Int) (a b c n : Nat) (ha : a < 100) : Calls Tryd.prog 58 #[.agg #[.int .i64 op, .int .i64 (a : Int), .int .i64 (b : Int), .int .i64 (c : Int), .int .u64 (n : Int)], .int .i32 97] w (ToldPost w (114 :: decDigits a)) := by
  have HC := hide (fun (w1 : World) => Tryd.strconv_Itoa_small a ha w1)
  have hdl := dec_len a (by omega)
  go_enter Tryd.func58, Tryd.ntmps58
  go_wp2_with (go_at_call 56; refine (HC.out _).mono ?_; rintro e w2 ⟨rfl, hw2⟩; replace hw2 := hw2.symm; subst hw2)
  go_ret
  exact ⟨by rw [cons_str]; rfl, (Only.refl _ w).alloc _⟩
theorem told_98 (w : World) (op : Int) (a b c n : Nat) (hb : b < 100) : Calls Tryd.prog 58 #[.agg #[.int .i64 op, .int .i64 (a : Int), .int .i64 (b : Int), .int .i64 (c : Int), .int .u64 (n : Int)], .int .i32 98] w (ToldPost w (114 :: decDigits b)) := by
  have HC := hide (fun (w1 : World) => Tryd.strconv_Itoa_small b hb w1)
  have hdl := dec_len b (by omega)
  go_enter Tryd.func58, Tryd.ntmps58
  go_wp2_with (go_at_call 56; refine (HC.out _).mono ?_; rintro e w2 ⟨rfl, hw2⟩; replace hw2 := hw2.symm; subst hw2)
  go_ret
  exact ⟨by rw [cons_str]; rfl, (Only.refl _ w).alloc _⟩
theorem told_99 (w : World) (op : Int) (a b c n : Nat) (hc : c < 100) : Calls Tryd.prog 58 #[.agg #[.int .i64 op, .int .i64 (a : Int), .int .i64 (b : Int), .int .i64 (c : Int), .int .u64 (n : Int)], .int .i32 99] w (ToldPost w (114 :: decDigits c)) := by
  have HC := hide (fun (w1 : World) => Tryd.strconv_Itoa_small c hc w1)
  have hdl := dec_len c (by omega)
  go_enter Tryd.func58, Tryd.ntmps58
  go_wp2_with (go_at_call 56; refine (HC.out _).mono ?_; rintro e w2 ⟨rfl, hw2⟩; replace hw2 := hw2.symm; subst hw2)
  go_ret
  exact ⟨by rw [cons_str]; rfl, (Only.refl _ w).alloc _⟩
theorem told_112 (w : World) (op : Int) (a b c n : Nat) (hc : c < 100) : Calls Tryd.prog 58 #[.agg #[.int .i64 op, .int .i64 (a : Int), .int .i64 (b : Int), .int .i64 (c : Int), .int .u64 (n : Int)], .int .i32 112] w (ToldPost w (114 :: decDigits c)) := by
  have HC := hide (fun (w1 : World) => Tryd.strconv_Itoa_small c hc w1)
  have hdl := dec_len c (by omega)
  go_enter Tryd.func58, Tryd.ntmps58
  go_wp2_with (go_at_call 56; refine (HC.out _).mono ?_; rintro e w2 ⟨rfl, hw2⟩; replace hw2 := hw2.symm; subst hw2)
  go_ret
  exact ⟨by rw [cons_str]; rfl, (Only.refl _ w).alloc _⟩
theorem told_111 (w : World) (op : Int) (a b c n : Nat) (hc : c < 100) : Calls Tryd.prog 58 #[.agg #[.int .i64 op, .int .i64 (a : Int), .int .i64 (b : Int), .int .i64 (c : Int), .int .u64 (n : Int)], .int .i32 111] w (ToldPost w (decDigits c)) := by
  have HC := hide (fun (w1 : World) => Tryd.strconv_Itoa_small c hc w1)
  go_enter Tryd.func58, Tryd.ntmps58
  go_wp2_with (go_at_call 56; refine (HC.out _).mono ?_; rintro e w2 ⟨rfl, hw2⟩; replace hw2 := hw2.symm; subst hw2)
  go_ret
  exact ⟨rfl, (Only.refl _ w).alloc _⟩
theorem told_116 (w : World) (op : Int) (a b c n : Nat) (hb : b < 100) : Calls Tryd.prog 58 #[.agg #[.int .i64 op, .int .i64 (a : Int), .int .i64 (b : Int), .int .i64 (c : Int), .int .u64 (n : Int)], .int .i32 116] w (ToldPost w (decDigits b)) := by
  have HC := hide (fun (w1 : World) => Tryd.strconv_Itoa_small b hb w1)
  go_enter Tryd.func58, Tryd.ntmps58
  go_wp2_with (go_at_call 56; refine (HC.out _).mono ?_; rintro e w2 ⟨rfl, hw2⟩; replace hw2 := hw2.symm; subst hw2)
  go_ret
  exact ⟨rfl, (Only.refl _ w).alloc _⟩
theorem told_110 (w : World) (op : Int) (a b c n : Nat) (hn : n < 18446744073709551616) (htab : Pow10 w) : Calls Tryd.prog 58 #[.agg #[.int .i64 op, .int .i64 (a : Int), .int .i64 (b : Int), .int .i64 (c : Int), .int .u64 (n : Int)], .int .i32 110] w (ToldPost w (decDigits n)) := by
  have HC := hide (fun (w1 : World) (h : Only Nob w w1) => formatUint_any n hn w1 (htab.nob h))
  clear htab
  go_enter Tryd.func58, Tryd.ntmps58
  go_wp2_with (go_at_call 72; refine (HC.out _ ((Only.refl _ w).alloc _)).mono ?_; rintro e w2 ⟨rfl, ho⟩; have HO := hide ho; clear ho)
  go_ret
  exact ⟨rfl, ((Only.refl _ w).alloc _).trans HO.out⟩
theorem told_119 (w : World) (op : Int) (a b c n : Nat) : Calls Tryd.prog 58 #[.agg #[.int .i64 op, .int .i64 (a : Int), .int .i64 (b : Int), .int .i64 (c : Int), .int .u64 (n : Int)], .int .i32 119] w (ToldPost w ((atList callList (a : Int)).data.toList)) := by
  go_enter Tryd.func58, Tryd.ntmps58
  go_wp2_with (go_at_call 87; refine (call_any _ _).mono ?_; rintro e w2 ⟨rfl, rfl⟩)
  go_ret
  exact ⟨rfl, ((Only.refl _ w).alloc _).alloc _⟩
theorem told_106 (w : World) (op : Int) (a b c n : Nat) (hc : c < 100) : Calls Tryd.prog 58 #[.agg #[.int .i64 op, .int .i64 (a : Int), .int .i64 (b : Int), .int .i64 (c : Int), .int .u64 (n : Int)], .int .i32 106] w (ToldPost w (108 :: decDigits c)) := by
  have HC := hide (fun (w1 : World) => Tryd.strconv_Itoa_small c hc w1)
  have hdl := dec_len c (by omega)
  go_enter Tryd.func58, Tryd.ntmps58
  go_wp2_with (go_at_call 56; refine (HC.out _).mono ?_; rintro e w2 ⟨rfl, hw2⟩; replace hw2 := hw2.symm; subst hw2)
  go_ret
  exact ⟨by rw [cons_str]; rfl, (Only.refl _ w).alloc _⟩
/-- What an instruction's text needs of it. -/
structure Small (x : PIns) : Prop where
  a : 0 ≤ x.a ∧ x.a < 100
  b : 0 ≤ x.b ∧ x.b < 100
  c : 0 ≤ x.c ∧ x.c < 100
  n : 0 ≤ x.n ∧ x.n < 18446744073709551616
theorem told_any (x : PIns) (hx : Small x) (kd : UInt8) (hkd : kd ∈ kindSet) (w : World) (htab : Pow10 w) : Calls Tryd.prog 58 #[.agg #[.int .i64 x.op, .int .i64 x.a, .int .i64 x.b, .int .i64 x.c, .int .u64 x.n], .int .i32 (kd.toNat : Int)] w (ToldPost w (toldP x kd)) := by
  obtain ⟨op, a, b, c, n⟩ := x
  obtain ⟨⟨a0, a1⟩, ⟨b0, b1⟩, ⟨c0, c1⟩, ⟨n0, n1⟩⟩ := hx
  obtain ⟨a, rfl⟩ := Int.eq_ofNat_of_zero_le a0
  obtain ⟨b, rfl⟩ := Int.eq_ofNat_of_zero_le b0
  obtain ⟨c, rfl⟩ := Int.eq_ofNat_of_zero_le c0
  obtain ⟨n, rfl⟩ := Int.eq_ofNat_of_zero_le n0
  simp only at a1 b1 c1 n1
  simp only [kindSet, List.mem_cons, List.not_mem_nil, or_false] at hkd
  rcases hkd with rfl | rfl | rfl | rfl | rfl | rfl | rfl | rfl | rfl
  · exact told_97 w op a b c n (by omega)
  · exact told_98 w op a b c n (by omega)
  · exact told_99 w op a b c n (by omega)
  · exact told_112 w op a b c n (by omega)
  · exact told_111 w op a b c n (by omega)
  · exact told_116 w op a b c n (by omega)
  · exact told_110 w op a b c n (by omega) htab
  · exact told_119 w op a b c n
  · exact told_106 w op a b c n (by omega)
end Go.Proofs.YtngahgfppbjebaaDoor

/-
  A program's text (plain).
-/
import Derived.Test.YtngahgfppbjebaaDoorTxTold
import Derived.Test.YtngahgfppbjebaaDoorCodeMay
namespace Go.Proofs.YtngahgfppbjebaaDoor
open Go.RowKit Go.Lib
set_option linter.unusedVariables false

def insWords (x : PIns) : List UInt8 := (kindsP x.op).flatMap fun k => 32 :: toldP x k
def insP (x : PIns) : List UInt8 := (atList nameList x.op).data.toList ++ insWords x ++ [10]
def marked (l : List PIns) (k : Nat) : Bool := l.any fun x => jumpsB x.op && decide (x.c = (k : Int))
def labelP (l : List PIns) (k : Nat) (c : UInt8) : List UInt8 := if marked l k then 108 :: decDigits k ++ [58, c] else []
def linesOfP (l : List PIns) : Nat → List PIns → List UInt8
  | i, [] => labelP l i 10
  | i, x :: r => labelP l i 32 ++ insP x ++ linesOfP l (i + 1) r
def illP (n : Nat) (x : PIns) : Bool := !mayP x || (jumpsB x.op && decide ((n : Int) < x.c))
def printP (l : List PIns) : List UInt8 := if 40 < l.length then [] else if l.any (illP l.length) then [] else linesOfP l 0 l
theorem small_of_may {x : PIns} (h : mayP x = true) (hn : 0 ≤ x.n ∧ x.n < 18446744073709551616) : Small x ∧ 1 ≤ x.op ∧ x.op ≤ 23 := by
  unfold mayP mayB at h
  simp only [Bool.and_eq_true] at h
  obtain ⟨⟨⟨⟨h1, h2⟩, h3⟩, h4⟩, h5⟩ := h
  have ho : 1 ≤ x.op ∧ x.op ≤ 23 := by simpa [opB] using h1
  obtain ⟨a1, a2⟩ : fAl x.op ≤ x.a ∧ x.a ≤ fAh x.op := by simpa [fitsB] using h2
  obtain ⟨b1, b2⟩ : 0 ≤ x.b ∧ x.b ≤ fBh x.op := by simpa [fitsB] using h3
  obtain ⟨c1, c2⟩ : 0 ≤ x.c ∧ x.c ≤ fCh x.op := by simpa [fitsB] using h4
  have a3 : 0 ≤ fAl x.op := by unfold fAl; split <;> omega
  have a4 : fAh x.op ≤ 12 := by unfold fAh; (repeat' split) <;> omega
  have b4 : fBh x.op ≤ 7 := by unfold fBh; (repeat' split) <;> omega
  have c4 : fCh x.op ≤ 40 := by unfold fCh; (repeat' split) <;> omega
  exact ⟨⟨⟨by omega, by omega⟩, ⟨b1, by omega⟩, ⟨c1, by omega⟩, hn⟩, ho⟩
end Go.Proofs.YtngahgfppbjebaaDoor

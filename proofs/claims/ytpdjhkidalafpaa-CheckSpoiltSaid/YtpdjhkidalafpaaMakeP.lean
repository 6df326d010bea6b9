/-
  Plain: what the draws' Prog makes. No program in sight.
-/
import Derived.Test.YtpdjhkidalafpaaShut
namespace Go.Proofs.Ytpdjhkidalafpaa
open Go.RowKit
set_option linter.unusedVariables false
set_option linter.unusedSimpArgs false

def one (n : Int) : PIns := ⟨n, 0, 0, 0, 0⟩
/-- One draw: what is added, what is open then. -/
def makeAt (w : Int) (calm : Bool) (l : List PIns) (st : List Int) (k : PIns) : List PIns × List Int :=
  if w = 20 ∧ st.length < 5 then (l ++ [one 14], 14 :: st)
  else if (w = 21 ∨ w = 22) ∧ st.length < 5 then (l ++ [one 17], 17 :: st)
  else if (w = 23 ∨ w = 24) ∧ st ≠ [] then shutP l st
  else if w = 25 ∧ st.head? = some 14 then (l ++ [one 16], st)
  else if (w = 26 ∨ w = 27) ∧ calm = false ∧ st ≠ [] then (l ++ [⟨13, winB k.a 0 6, 0, l.length + 2, 0⟩, one 20], st)
  else if w = 28 ∧ calm = false then (l ++ [⟨13, winB k.a 0 6, 0, l.length + 2, 0⟩, one 20], st)
  else if w = 29 ∧ calm = false then (l ++ [⟨13, winB k.a 0 6, 0, l.length + 2, 0⟩, one 22], st)
  else if w = 30 ∨ w = 31 then (l ++ [⟨13, winB k.b 0 6, 0, l.length + 2, 0⟩, simpleP k], st)
  else if w = 32 ∧ calm = false then (l ++ [simpleP k, ⟨13, winB k.b 0 6, 0, l.length, 0⟩], st)
  else (l ++ [simpleP k], st)
def makeL (most : Int) (calm : Bool) : List PIns → List PIns → List Int → List PIns × List Int
  | [], l, st => (l, st)
  | k :: r, l, st => if most < (l.length : Int) + 2 * st.length + 5 then (l, st) else makeL most calm r (makeAt (winB k.op 0 40) calm l st k).1 (makeAt (winB k.op 0 40) calm l st k).2
def closeOf : List Int → List PIns
  | [] => []
  | x :: st => (if x = 14 then [one 15] else if x = 17 then [one 18, one 19] else [one 19]) ++ closeOf st
def makeQ (most : Int) (calm : Bool) (ks : List PIns) : List PIns := (makeL most calm ks [] []).1 ++ closeOf (makeL most calm ks [] []).2
def makeP (most : Int) (calm : Bool) (ks : List PIns) : List PIns := if makeQ most calm ks = [] then [⟨1, 0, 0, 0, 1⟩] else makeQ most calm ks
def weight : List Int → Nat
  | [] => 0
  | x :: st => (if x = 17 then 2 else 1) + weight st
theorem weight_le (st : List Int) : weight st ≤ 2 * st.length := by
  induction st with
  | nil => exact Nat.le_refl _
  | cons x r ih =>
    simp only [weight, List.length_cons]
    split <;> omega
theorem shut_close (l : List PIns) (st : List Int) (h : st ≠ []) : (shutP l st).1 ++ closeOf (shutP l st).2 = l ++ closeOf st ∧ weight (shutP l st).2 < weight st ∧ (shutP l st).1.length = l.length + 1 := by
  cases st with
  | nil => exact absurd rfl h
  | cons x r =>
    by_cases h1 : x = 14
    · rw [shutP_open l r h1]
      subst h1
      simp [closeOf, weight, one]
    · by_cases h2 : x = 17
      · rw [shutP_either l r h2]
        subst h2
        simp [closeOf, weight, one]
      · rw [shutP_done l r h1 h2]
        simp [closeOf, weight, one, h1, h2]
theorem make_drop (most : Int) (calm : Bool) (ks l : List PIns) (st : List Int) (i : Nat) (h : i < ks.length) :
    makeL most calm (ks.drop i) l st = if most < (l.length : Int) + 2 * st.length + 5 then (l, st) else makeL most calm (ks.drop (i + 1)) (makeAt (winB (ks.getD i PIns.none).op 0 40) calm l st (ks.getD i PIns.none)).1 (makeAt (winB (ks.getD i PIns.none).op 0 40) calm l st (ks.getD i PIns.none)).2 := by
  rw [List.drop_eq_getElem_cons h, List.getD_eq_getElem?_getD, List.getElem?_eq_getElem h]
  rfl
end Go.Proofs.Ytpdjhkidalafpaa

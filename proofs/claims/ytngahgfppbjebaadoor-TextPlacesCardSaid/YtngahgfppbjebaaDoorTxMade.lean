/-
  Plain: a drawn program has a text. No walk in sight.
-/
import Derived.Test.YtngahgfppbjebaaDoorGrpTxPrintE
import Derived.Test.YtngahgfppbjebaaDoorGrpMakeLaw
import Derived.Test.YtngahgfppbjebaaDoorGrpOpenProg
namespace Go.Proofs.YtngahgfppbjebaaDoor
open Go.RowKit Go.Lib
set_option linter.unusedVariables false
set_option linter.unusedSimpArgs false

def nOk (x : PIns) : Prop := 0 ≤ x.n ∧ x.n < 18446744073709551616
def NsOk (l : List PIns) : Prop := ∀ x ∈ l, nOk x
theorem NsOk.app {l r : List PIns} (h : NsOk l) (h2 : NsOk r) : NsOk (l ++ r) := fun x hx => (List.mem_append.1 hx).elim (h x) (h2 x)
theorem NsOk.one {x : PIns} (h : nOk x) : NsOk [x] := fun y hy => by
  simp at hy
  subst hy
  exact h
theorem NsOk.two {x y : PIns} (h : nOk x) (h2 : nOk y) : NsOk [x, y] := (NsOk.one h).app (NsOk.one h2)
theorem nOk_zero {op a b c : Int} : nOk ⟨op, a, b, c, 0⟩ := ⟨Int.le_refl _, show (0 : Int) < 18446744073709551616 by decide⟩
theorem nOk_ite {p : Prop} [Decidable p] {y z : PIns} (h1 : nOk y) (h2 : nOk z) : nOk (if p then y else z) := by
  split
  · exact h1
  · exact h2
theorem simple_n {x : PIns} (h : nOk x) : nOk (simpleP x) := by
  obtain ⟨op, a, b, c, n⟩ := x
  unfold simpleP
  generalize winB _ 0 19 = w
  generalize winB _ 0 6 = q1
  generalize winB _ 0 6 = q2
  generalize winB _ 6 15 = q3
  unfold simpleAt
  have h1 : (0 : Int) ≤ n := h.1
  have h2 : n < 18446744073709551616 := h.2
  have hx : ∀ op a b c : Int, nOk ⟨op, a, b, c, n⟩ := fun _ _ _ _ => ⟨h1, h2⟩
  have hx2 : ∀ op a b c : Int, nOk ⟨op, a, b, c, n % 20⟩ := fun _ _ _ _ => ⟨show 0 ≤ n % 20 by omega, show n % 20 < 18446744073709551616 by omega⟩
  repeat' (first | exact hx _ _ _ _ | exact hx2 _ _ _ _ | exact nOk_zero | refine nOk_ite ?_ ?_)
theorem shut_n {l : List PIns} {st : List Int} (h : NsOk l) : NsOk (shutP l st).1 := by
  cases st with
  | nil => exact h
  | cons x r =>
    by_cases h1 : x = 14
    · rw [shutP_open l r h1]; exact h.app (NsOk.one nOk_zero)
    · by_cases h2 : x = 17
      · rw [shutP_either l r h2]; exact h.app (NsOk.one nOk_zero)
      · rw [shutP_done l r h1 h2]; exact h.app (NsOk.one nOk_zero)
theorem make_n (w : Int) (calm : Bool) (l : List PIns) (st : List Int) (k : PIns) (h : NsOk l) (hk : nOk k) : NsOk (makeAt w calm l st k).1 := by
  unfold makeAt
  have hs := simple_n hk
  repeat' split
  all_goals first
    | exact shut_n h
    | exact h.app (NsOk.one nOk_zero)
    | exact h.app (NsOk.two nOk_zero nOk_zero)
    | exact h.app (NsOk.two nOk_zero hs)
    | exact h.app (NsOk.two hs nOk_zero)
    | exact h.app (NsOk.one hs)
theorem makeL_n (most : Int) (calm : Bool) : ∀ (ks l : List PIns) (st : List Int), NsOk l → (∀ x ∈ ks, nOk x) → NsOk (makeL most calm ks l st).1
  | [], l, st, h, _ => h
  | k :: r, l, st, h, hk => by
    rw [makeL]
    split
    · exact h
    · exact makeL_n most calm r _ _ (make_n _ _ _ _ _ h (hk k (by simp))) (fun x hx => hk x (List.mem_cons_of_mem _ hx))
theorem close_n : ∀ (st : List Int), NsOk (closeOf st)
  | [] => fun x hx => by simp [closeOf] at hx
  | x :: st => by
    rw [closeOf]
    refine NsOk.app ?_ (close_n st)
    repeat' split
    · exact NsOk.one nOk_zero
    · exact NsOk.two nOk_zero nOk_zero
    · exact NsOk.one nOk_zero
theorem makeP_n (most : Int) (calm : Bool) (ks : List PIns) (hk : ∀ x ∈ ks, nOk x) : NsOk (makeP most calm ks) := by
  unfold makeP
  split
  · exact NsOk.one ⟨by decide, by decide⟩
  · unfold makeQ
    exact (makeL_n most calm ks [] [] (fun x hx => by simp at hx) hk).app (close_n _)
/-- A drawn program has a text. -/
theorem made_prints (most : Int) (calm : Bool) (ks : List PIns) (hm : most ≤ 40) (hk : ∀ x ∈ ks, InsWf x.op x.a x.b x.c x.n) : Prints (makeP most calm ks) ∧ makeP most calm ks ≠ [] := by
  obtain ⟨hg, h0, h40⟩ := makeP_good most calm ks hm
  have hn := makeP_n most calm ks (fun x hx => by
    have := (hk x hx).2.2.2.2
    exact ⟨this.1, by omega⟩)
  generalize makeP most calm ks = l at *
  refine ⟨⟨h40, fun x hx => ?_, hn⟩, List.length_pos_iff.1 h0⟩
  obtain ⟨i, hi, rfl⟩ := List.getElem_of_mem hx
  have e : l.getD i PIns.none = l[i] := by rw [List.getD_eq_getElem?_getD, List.getElem?_eq_getElem hi]; rfl
  have hf := (err_zero (hg.fine i hi)).1
  unfold illP
  rw [e] at hf
  rw [hf]
  have hj := hg.jumps i hi
  unfold opOf at hj
  rw [e] at hj
  cases hb : jumpsB (l[i]).op with
  | false => rfl
  | true =>
    have := (hj hb).2.1
    simp
    omega
theorem cellsKeep : Tryd.prog.cellsOf 123 = 5 := by kernel_rfl
set_option maxRecDepth 100000 in
theorem open_keep {H : Type} {enc : TypeId × Value → H} {w : World} {v : Value} {d : DataW H} {ps : List MemPlace} {b0 : Nat} (hv : Value.okWide Tryd.prog w .any b0 64 v)
    (h : DataW.Trod enc Tryd.prog w 0 (fun _ => true) true 64 v d ps) : ∃ A len cap, v = .slice A len cap ∧ ProgArg w A len :=
  open_five Tryd.underlying64 Tryd.underlying123 rfl rfl rfl rfl rfl (by kernel_rfl) cellsKeep hv h
end Go.Proofs.YtngahgfppbjebaaDoor

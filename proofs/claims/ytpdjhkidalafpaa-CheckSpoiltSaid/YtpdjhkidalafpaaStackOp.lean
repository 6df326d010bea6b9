/-
  Contracts of package check: the instruction that begins the inmost part; what is open behind an instruction.
-/
import Derived.Test.YtpdjhkidalafpaaStack
import Derived.Outline
namespace Go.Proofs.Ytpdjhkidalafpaa
open Go.RowKit
set_option linter.unusedVariables false
set_option linter.unusedSimpArgs false

set_option maxHeartbeats 1000000 in
theorem stackop_nil (base : Nat) (v : Value) (p : Value) (w : World) (h : Stack w base v []) :
    Calls Try.prog 45 #[v, .agg #[p]] w fun e w' => e = .returned (.int .i64 0) ∧ Only Nob w w' := by
  rcases h.form with ⟨_, rfl⟩ | ⟨g, cap, hv, _, _, _, hc⟩
  · go_enter Try.func45, Try.ntmps45
    go_wp2
    go_ret
    exact ⟨rfl, Only.alloc (Only.refl _ _) _⟩
  · rw [hv]
    clear h hv
    simp only [List.length_nil]
    go_enter Try.func45, Try.ntmps45
    go_wp2
    go_ret
    exact ⟨rfl, Only.alloc (Only.refl _ _) _⟩

theorem inmost_cons (base : Nat) (v : Value) (x : Int) (r : List Int) (w : World) (h : Stack w base v (x :: r)) (hl : (x :: r).length ≤ 1000) :
    Calls Try.prog 36 #[v] w fun e w' => e = .returned (.int .i64 x) ∧ w = w' := inmost_any base v (x :: r) w h hl

set_option maxHeartbeats 1000000 in
theorem stackop_cons (base B : Nat) (v : Value) (k : Nat) (r : List Int) (w : World) (A : Option Addr) (cap : Nat) (l : List PIns) (h : Stack w base v ((k : Int) :: r)) (hl : r.length < 1000) (hp : ProgIn w B A l) (hB : B ≤ w.heap.size)
    (hn : l.length ≤ 1000) (hk : k < l.length) :
    Calls Try.prog 45 #[v, .agg #[.slice A l.length cap]] w fun e w' => e = .returned (.int .i64 (opOf l k)) ∧ Only Nob w w' := by
  obtain ⟨b, o, rfl, hlt, hi⟩ := hp.at_ hk
  have hc := hi.1
  have hblt : b < w.heap.size := by omega
  have HS : Hid (Stack w base v ((k : Int) :: r)) := h
  rcases h.form with ⟨h0, _⟩ | ⟨g, vcap, hv, _, _, _, _⟩
  · cases h0
  · subst hv
    have HO : Hid ((l.getD k PIns.none).op = opOf l k) := rfl
    clear h hp hi
    simp only [List.length_cons] at HS ⊢
    generalize (l.getD k PIns.none).op = op at *
    generalize hlen : r.length = m at *
    have hlen' := hide hlen
    clear hlen
    have hd : ((m : Int) + 1 == 0) = false := by simp; omega
    have hkI : (k : Int) < (l.length : Int) := by omega
    go_enter Try.func45, Try.ntmps45
    go_wp2_with fail
    go_quiet ((go_at_call 36; exact quiet_left (inmost_cons base _ (k : Int) r _ (HS.out.alloc _) (by simp [hlen'.out]; omega))))
    go_wp2
    go_ret
    exact ⟨by rw [HO.out]; rfl, Only.drewN (Only.alloc (Only.refl _ _) _) _⟩

theorem stackop_any (base B : Nat) (v : Value) (st : List Int) (w : World) (A : Option Addr) (cap : Nat) (l : List PIns) (h : Stack w base v st) (hl : st.length < 1000) (hp : ProgIn w B A l) (hB : B ≤ w.heap.size)
    (hn : l.length ≤ 1000) (hst : ∀ t ∈ st, 0 ≤ t ∧ t < (l.length : Int)) :
    Calls Try.prog 45 #[v, .agg #[.slice A l.length cap]] w fun e w' => e = .returned (.int .i64 (opAt l st)) ∧ Only Nob w w' := by
  cases st with
  | nil => exact stackop_nil base v _ w h
  | cons x r =>
    obtain ⟨h0, h1⟩ := hst x (by simp)
    obtain ⟨k, rfl⟩ := Int.eq_ofNat_of_zero_le h0
    have hr : r.length < 1000 := by simp at hl; omega
    exact stackop_cons base B v k r w A cap l h hr hp hB hn (by omega)
end Go.Proofs.Ytpdjhkidalafpaa

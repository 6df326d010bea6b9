/-
  How a lock that came in reads.
-/
import Derived.Test.YtpgmcmdcdkajjaaOpen
namespace Go.Proofs.Ytpgmcmdcdkajjaa
open Go.ChangeShapes Go.WideShapes Go.ChangeAt Go.RowKit Go.Joins

theorem cells49 : Try.prog.cellsOf 49 = 3 := by kernel_rfl

theorem open_lock {H : Type} {enc : TypeId × Value → H} {w : World} {v : Value} {d : DataW H} {ps : List MemPlace} {b0 : Nat} (hv : Value.okWide Try.prog w .any b0 49 v)
    (h : DataW.Trod enc Try.prog w 0 (fun _ => true) true 49 v d ps) : ∃ (x : Int) (f : Bool) (o : Int), v = .agg #[.int .u64 x, .bool f, .int .i64 o] ∧ 0 ≤ x := by
  obtain ⟨c0, c1, c2, y0, y1, y2, m, rfl, rfl, rfl, h0, h1, h2⟩ := open_agg3 Try.underlying49 (by kernel_rfl) cells49 hv h
  obtain ⟨x, e0, _, wx⟩ := DataW.trod_int Try.underlying24 h0
  obtain ⟨f, e1, _⟩ := DataW.trod_bool Try.underlying4 h1
  obtain ⟨o, e2, _, wo⟩ := DataW.trod_int Try.underlying3 h2
  simp at e0 e1 e2
  subst e0 e1 e2
  have := bounds_u64 wx
  exact ⟨x, f, o, rfl, this.1⟩
end Go.Proofs.Ytpgmcmdcdkajjaa

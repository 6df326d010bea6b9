/-
  A field of an instruction, whichever: one contract.
-/
import Derived.Test.YtngahgfppbjebaaDoorTxWs
namespace Go.Proofs.YtngahgfppbjebaaDoor
open Go.RowKit
set_option linter.unusedVariables false
set_option linter.unusedSimpArgs false

def FieldAll (w : World) (base gp gm : Nat) (vl vj : Value) (st : PS) (line gx : Nat) (x : PIns) (kd : UInt8) (s : List UInt8) (col : Nat) (e : Ending) (w' : World) : Prop :=
  match fieldP kd s x with
  | none => e = .returned (.bool false) ∧ Only (fun k => k = gx ∨ k = gp ∨ vj.ownBlock = some k) w w' ∧ ∃ vj' js', PMem w' base gp gm vl vj' { st with jumps := js' } line
  | some x' => e = .returned (.bool true) ∧ ∃ vj', PMem w' base gp gm vl vj' { st with jumps := if kd = 106 then st.jumps ++ [⟨st.l.length, s, line, col⟩] else st.jumps } line ∧ InsBlk w' gx x' ∧ Only (fun k => k = gx ∨ k = gp ∨ vj.ownBlock = some k) w w' ∧ (vj'.ownBlock = vj.ownBlock ∨ ∀ k, vj'.ownBlock = some k → w.heap.size ≤ k)
theorem FieldAll.of {w : World} {base gp gm line gx : Nat} {vl vj : Value} {st : PS} {x : PIns} {kd : UInt8} {s : List UInt8} {col : Nat} {e : Ending} {w' : World} {o : Option PIns} (hm : PMem w base gp gm vl vj st line) (h1 : gx ≠ gp) (h0 : gx ≠ gm) (h2 : vj.ownBlock ≠ some gx) (h3 : vl.ownBlock ≠ some gx) (ho : fieldP kd s x = o) (hk : kd ≠ 106) (h : FieldPost w gx o e w') :
    FieldAll w base gp gm vl vj st line gx x kd s col e w' := by
  unfold FieldAll
  rw [ho]
  obtain ⟨hon, hmt⟩ := h
  have hon2 : Only (fun k => k = gx ∨ k = gp ∨ vj.ownBlock = some k) w w' := hon.mono (fun k _ hk => .inl hk)
  rcases o with _ | x'
  · exact ⟨hmt, hon2, vj, st.jumps, hm.other hon (fun e => h1 e.symm) (fun e => h0 e.symm) h3 h2⟩
  · obtain ⟨rfl, hx⟩ := hmt
    refine ⟨rfl, vj, ?_, hx, hon2, .inl rfl⟩
    rw [if_neg hk]
    exact hm.other hon (fun e => h1 e.symm) (fun e => h0 e.symm) h3 h2
def kindSet : List UInt8 := [97, 98, 99, 112, 111, 116, 110, 119, 106]
theorem kinds_in (op : Int) : ∀ k ∈ kindsP op, k ∈ kindSet := by
  intro k hk
  unfold kindsP at hk
  repeat' split at hk
  all_goals (simp at hk; try (rcases hk with rfl | rfl | rfl); try (rcases hk with rfl | rfl); try subst hk)
  all_goals decide
theorem arrData (s : List UInt8) : (⟨s.toArray⟩ : ByteArray).data.toList = s := by simp
theorem field_all (w : World) (base gp gm : Nat) (vl vj : Value) (st : PS) (line gx : Nat) (x : PIns) (kd : UInt8) (hkd : kd ∈ kindSet) (s : List UInt8) (hs : s.length ≤ 16000) (col : Nat) (bad : Bool) (hm : PMem w base gp gm vl vj st line) (hb : base ≤ w.heap.size) (hx : InsBlk w gx x) (h1 : gx ≠ gp) (h0 : gx ≠ gm) (h2 : vj.ownBlock ≠ some gx) (h3 : vl.ownBlock ≠ some gx) (hlen : st.jumps.length ≤ 1000) (hl : st.l.length ≤ 1000) :
    Calls Tryd.prog 82 #[.pointer (some ⟨gp, 0, none⟩), .pointer (some ⟨gx, 0, none⟩), .int .i32 (kd.toNat : Int), .agg #[.string ⟨s.toArray⟩, .int .i64 (col : Int), .bool bad]] w (FieldAll w base gp gm vl vj st line gx x kd s col) := by
  have hsz : (⟨s.toArray⟩ : ByteArray).size ≤ 1000000000 := by
    show s.toArray.size ≤ _
    rw [List.size_toArray]
    omega
  simp only [kindSet, List.mem_cons, List.not_mem_nil, or_false] at hkd
  rcases hkd with rfl | rfl | rfl | rfl | rfl | rfl | rfl | rfl | rfl
  · refine (field_97 w gp gx x ⟨s.toArray⟩ hsz col bad hx).mono fun e w' h => ?_
    rw [arrData] at h
    exact FieldAll.of hm h1 h0 h2 h3 rfl (by decide) h
  · refine (field_98 w gp gx x ⟨s.toArray⟩ hsz col bad hx).mono fun e w' h => ?_
    rw [arrData] at h
    exact FieldAll.of hm h1 h0 h2 h3 rfl (by decide) h
  · refine (field_99 w gp gx x ⟨s.toArray⟩ hsz col bad hx).mono fun e w' h => ?_
    rw [arrData] at h
    exact FieldAll.of hm h1 h0 h2 h3 rfl (by decide) h
  · refine (field_112 w gp gx x ⟨s.toArray⟩ hsz col bad hx).mono fun e w' h => ?_
    rw [arrData] at h
    exact FieldAll.of hm h1 h0 h2 h3 rfl (by decide) h
  · refine (field_111 w gp gx x ⟨s.toArray⟩ hsz col bad hx).mono fun e w' h => ?_
    rw [arrData] at h
    exact FieldAll.of hm h1 h0 h2 h3 rfl (by decide) h
  · refine (field_116 w gp gx x ⟨s.toArray⟩ hsz col bad hx).mono fun e w' h => ?_
    rw [arrData] at h
    exact FieldAll.of hm h1 h0 h2 h3 rfl (by decide) h
  · refine (field_110 w gp gx x ⟨s.toArray⟩ hsz col bad hx).mono fun e w' h => ?_
    rw [arrData] at h
    exact FieldAll.of hm h1 h0 h2 h3 rfl (by decide) h
  · refine (field_119 w gp gx x ⟨s.toArray⟩ hsz col bad hx).mono fun e w' h => ?_
    exact FieldAll.of hm h1 h0 h2 h3 rfl (by decide) h
  · refine (field_106 w base gp gm vl vj st line gx x ⟨s.toArray⟩ hsz col bad hm hb hx h1 h2 hlen hl).mono fun e w' h => ?_
    rw [arrData] at h
    obtain ⟨he, vj', k1, k2, k3, k4⟩ := h
    have hon : Only (fun k => k = gx ∨ k = gp ∨ vj.ownBlock = some k) w w' := k3.mono (fun k _ hk => .inr hk)
    unfold FieldAll
    rw [show fieldP 106 s x = if nameP s then some x else none from rfl]
    cases hn : nameP s with
    | false =>
      rw [hn] at he
      exact ⟨he, hon, vj', _, k1⟩
    | true =>
      rw [hn] at he
      exact ⟨he, vj', k1, k2, hon, k4⟩
end Go.Proofs.YtngahgfppbjebaaDoor

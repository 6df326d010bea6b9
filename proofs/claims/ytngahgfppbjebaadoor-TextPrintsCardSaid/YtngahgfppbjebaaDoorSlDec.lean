/-
  The contract of the document's 'Decimal'.
-/
import Derived.Test.YtngahgfppbjebaaDoorBase
import Derived.Test.YtngahgfppbjebaaDoorWords
import Derived.Test.YtngahgfppbjebaaDoorSlPlain
import Derived.Laws.OwnMore
import Derived.LoopTactic
import Derived.Outline
import Derived.Deep.DeepMust
namespace Go.Proofs.YtngahgfppbjebaaDoor
open Go.RowKit
set_option linter.unusedVariables false
set_option linter.unusedSimpArgs false

def byteV (b : UInt8) : Value := .int .u8 (b.toNat : Int)
def digU (m : Nat) : UInt8 := UInt8.ofNat (48 + m % 10)
def digV (m : Nat) : Value := .int .u8 (48 + (m : Int) % 10)
theorem byte_dig (m : Nat) : byteV (digU m) = digV m := by
  unfold byteV digV digU
  rw [(dig_of (m % 10) (by omega)).2]
  congr 1
/-- What a round stands on: the digits so far, ahead of them those of what is left. -/
structure DecInv (w wr : World) (n m : Nat) (v : Value) (bs : List UInt8) : Prop where
  row : wr.ownsRow w.heap.size 5 1 v bs.length (bs.map byteV)
  only : Only Nob w wr
  digits : ∃ tl, bs = digU m :: tl ∧ Go.Lib.decDigits n = Go.Lib.decDigits m ++ tl
  small : m ≤ 18446744073709551615
  len : bs.length ≤ 20
theorem infoByte : (Tryd.prog.info? 5).map (fun i => (i.zero, i.size, i.bytes)) = some (some (.int .u8 0), 1, 1) := by kernel_rfl
theorem byte_one (bs : List UInt8) : ∀ u ∈ bs.map byteV, u.oneCell' = true := by
  intro u hu
  obtain ⟨b, _, rfl⟩ := List.mem_map.1 hu
  rfl
theorem DecInv.form {w wr : World} {n m : Nat} {v : Value} {bs : List UInt8} (h : DecInv w wr n m v bs) : ∃ g cap, v = .slice (some ⟨g, 0, none⟩) bs.length cap ∧ w.heap.size ≤ g ∧ g < wr.heap.size ∧ bs.length ≤ cap := by
  obtain ⟨tl, e, _⟩ := h.digits
  have hpos : 0 < bs.length := by rw [e]; simp
  rcases h.row.2 with ⟨h1, h2⟩ | ⟨g, cap, cur, hv, hb, hc, hcap, _⟩
  · omega
  · refine ⟨g, cap, hv, hb, ?_, hcap⟩
    rcases Nat.lt_or_ge g wr.heap.size with h | h
    · exact h
    · rw [Array.getElem?_eq_none h] at hc; cases hc

theorem wpList_addDigit {w wr : World} {n m k : Nat} {bs : List UInt8} {ops : Array Oper} {rest : List Oper} {o : Oper} {a : Act} {Q : Exit → Act → World → Prop} (hgd : o.guard = none) (s x : Operand)
    (ho : o.op = .call { callee := .builtin .append, args := #[s, x], argTypes := #[39, 39] })
    {g cap : Nat} (h : DecInv w wr n m (.slice (some ⟨g, 0, none⟩) k cap) bs) (hk : bs.length = k) (h10 : 10 ≤ m) (hn20 : n < 10 ^ 20)
    (hs : a.eval s = .slice (some ⟨wr.heap.size, 0, none⟩) 1 1) (hx : a.eval x = .slice (some ⟨g, 0, none⟩) k cap) {dv : Value} (hdv : dv = digV (m / 10))
    (kk : ∀ g' cap' w2, DecInv w w2 n (m / 10) (.slice (some ⟨g', 0, none⟩) (k + 1) cap') (digU (m / 10) :: bs) → wpList Tryd.prog ops Q rest (a.put o.dst (.slice (some ⟨g', 0, none⟩) (k + 1) cap')) w2) :
    wpList Tryd.prog ops Q (o :: rest) a (wr.alloc (.cells #[dv] 5)) := by
  subst hk hdv
  obtain ⟨i0, hi, hz0, hz1, hz2⟩ := info_parts infoByte
  have hle := h.only.size
  have hlen := h.len
  obtain ⟨tl, etl, edig⟩ := h.digits
  have hdd : Go.Lib.decDigits m = Go.Lib.decDigits (m / 10) ++ [digU m] := decDigits_big (by omega)
  have hl20 : bs.length + 1 ≤ 20 := by
    have e2 : Go.Lib.decDigits n = Go.Lib.decDigits (m / 10) ++ bs := by rw [edig, hdd, etl]; simp
    have h3 := congrArg List.length e2
    rw [List.length_append] at h3
    have h4 := decOf_long (decOf_digits n) (by have := h.small; exact hn20)
    have h5 : 0 < (Go.Lib.decDigits (m / 10)).length := List.length_pos_iff.2 (decDigits_ne _)
    omega
  have hrow : (wr.alloc (.cells #[digV (m / 10)] 5)).ownsRow w.heap.size 5 1 (.slice (some ⟨wr.heap.size, 0, none⟩) 1 1) 1 ([digU (m / 10)].map byteV) := by
    have := World.ownsRow_lit (base := w.heap.size) (e := 5) (size := 1) wr #[digV (m / 10)] 1 hle (by decide) rfl
    simpa [byte_dig] using this
  refine wpList_append_any _ hgd s x 39 ho w.heap.size 5 i0 (.int .u8 0) 1 1 Tryd.underlying39 hi hz0 hz1 hz2 rfl (by decide) (.slice (some ⟨wr.heap.size, 0, none⟩) 1 1) 1 _ hs hrow _ (some ⟨g, 0, none⟩) bs.length cap _ hx
    (Reads.of_own (h.row.alloc _)) (byte_one bs) (by unfold maxLen; omega) (by omega) (by simp; omega) ?_
  intro v' w2 hown hgrow hblk
  have hr2 : w2.ownsRow w.heap.size 5 1 v' (bs.length + 1) ((digU (m / 10) :: bs).map byteV) := by
    have := hown
    rw [Nat.add_comm 1] at this
    simpa using this
  have hv : ∃ g' cap', v' = .slice (some ⟨g', 0, none⟩) (bs.length + 1) cap' := by
    rcases hr2.2 with ⟨h1, h2⟩ | ⟨g', cap', cur, hv, _⟩
    · omega
    · exact ⟨g', cap', hv⟩
  obtain ⟨g', cap', rfl⟩ := hv
  refine kk g' cap' w2 ⟨by simpa using hr2, ?_, ⟨bs, rfl, by rw [edig, hdd, etl]; simp⟩, by have := h.small; omega, by simpa using hl20⟩
  refine Only.after (h.only.alloc _) (Only.of_grown (S := fun k => k = wr.heap.size) hgrow (fun k hk _ => by simpa [Value.ownBlock] using hk.symm)) (fun i hi => .inr (by omega))

theorem decimal_any (n : Nat) (hn : n ≤ 18446744073709551615) (w : World) :
    Calls Tryd.prog 27 #[.int .u64 (n : Int)] w fun e w' => e = .returned (.string ⟨(Go.Lib.decDigits n).toArray⟩) ∧ Only Nob w w' := by
  have hn20 : n < 10 ^ 20 := by omega
  go_enter Tryd.func27, Tryd.ntmps27
  go_wp2
  go_loopw [0, 3] (fun m0 v wr => ∃ (m : Nat) (bs : List UInt8), m0 = .int .u64 (m : Int) ∧ DecInv w wr n m v bs) (fun m0 _ _ => (intOf m0).toNat)
  case atStart =>
    refine ⟨n, [digU n], rfl, ?_, (Only.refl _ _).alloc _, ⟨[], rfl, by simp⟩, hn, by simp⟩
    have := World.ownsRow_lit (base := w.heap.size) (e := 5) (size := 1) w #[digV n] 1 (Nat.le_refl _) (by decide) rfl
    rw [List.map_cons, List.map_nil, byte_dig]
    exact this
  case round =>
    obtain ⟨m, bs, rfl, h⟩ := hrel
    obtain ⟨g, cap, rfl, hg1, hg2, hcap⟩ := h.form
    have hm := h.small
    obtain ⟨k, hk⟩ : ∃ k, bs.length = k := ⟨_, rfl⟩
    rw [hk] at hcap h ⊢
    have H := hide h
    have HK := hide hk
    clear hk h
    by_cases h10 : 10 ≤ m
    · have d1 : decide ((10 : Int) ≤ (m : Int)) = true := by simp; omega
      have DV : Hid (Value.int .u8 (48 + (m : Int) / 10 % 10) = digV (m / 10)) := hide (by unfold digV; congr 2)
      go_wp2_with (at_builtin; go_must (refine wpList_addDigit rfl _ _ rfl H.out HK.out h10 hn20 rfl rfl DV.out ?_); intro g9 c9 w2 hI; have HI := hide hI; clear hI)
      go_roundw
      case rel => exact ⟨m / 10, _, rfl, HI.out⟩
      case measure =>
        show ((m : Int) / 10).toNat < (m : Int).toNat
        omega
    · have d1 : decide ((10 : Int) ≤ (m : Int)) = false := by simp; omega
      obtain ⟨tl, etl, edig⟩ := H.out.digits
      have hfin : Go.Lib.decDigits n = bs := by
        rw [edig, etl, decDigits_small (by omega)]
        unfold digU
        rw [Nat.mod_eq_of_lt (by omega)]
        rfl
      have hcv : (convert 39 9 (.slice (some ⟨g, 0, none⟩) k cap)).run Tryd.prog wr = .ok (.string ⟨(Go.Lib.decDigits n).toArray⟩) wr := by
        rw [hfin, ← HK.out]
        refine run_convert_bytes_back (P := Tryd.prog) wr 39 9 5 ⟨g, 0, none⟩ cap bs Tryd.underlying39 Tryd.underlying5 Tryd.underlying9 ?_
        intro j hj
        have hc := H.out.row.cells (g := g) rfl j (byteV bs[j]) (by rw [List.getElem?_map, List.getElem?_eq_getElem hj]; rfl)
        exact hc
      clear hfin edig etl
      go_wp2
      go_ret
      exact ⟨rfl, H.out.only⟩
end Go.Proofs.YtngahgfppbjebaaDoor

/-
  The contract of the document's 'Words'.
-/
import Derived.Test.YtngahgfppbjebaaDoorPush1
import Derived.Test.YtngahgfppbjebaaDoorSlPlain
import Derived.LoopTactic
import Derived.Deep.DeepMust
namespace Go.Proofs.YtngahgfppbjebaaDoor
open Go.RowKit
set_option linter.unusedVariables false
set_option linter.unusedSimpArgs false

theorem slw_app (a b : ByteArray) : (a ++ b).data.toList = a.data.toList ++ b.data.toList := by simp
theorem infoString : (Tryd.prog.info? 9).map (fun i => (i.zero, i.size, i.bytes)) = some (some (.string ⟨#[]⟩), 1, 16) := by kernel_rfl
def strV (w : List UInt8) : Value := .string ⟨w.toArray⟩
/-- A word begun, ahead of the words to come. -/
def glue (cur : List UInt8) : List (List UInt8) → List (List UInt8)
  | [] => [cur]
  | u :: r => (cur ++ u) :: r
theorem glue_hit (cur r : List UInt8) : glue cur (wordsB (32 :: r)) = cur :: glue [] (wordsB r) := by
  rw [wordsB_hit]
  cases h : wordsB r with
  | nil => exact absurd h (wordsB_ne r)
  | cons u q => simp [glue]
theorem glue_miss (cur r : List UInt8) {b : UInt8} (hb : b ≠ 32) : glue cur (wordsB (b :: r)) = glue (cur ++ [b]) (wordsB r) := by
  cases h : wordsB r with
  | nil => exact absurd h (wordsB_ne r)
  | cons u q => rw [wordsB_miss hb h]; simp [glue]
theorem glue_nil (r : List UInt8) : glue [] (wordsB r) = wordsB r := by
  cases h : wordsB r with
  | nil => exact absurd h (wordsB_ne r)
  | cons u q => simp [glue]
/-- What a round stands on. -/
structure WordsInv (w wr : World) (s : ByteArray) (k : Nat) (A : Option Addr) (n cap : Nat) (out : List (List UInt8)) (cur : ByteArray) : Prop where
  le : k ≤ s.size
  row : wr.ownsRow w.heap.size 9 1 (.slice A n cap) n (out.map strV)
  len : n = out.length
  small : n ≤ k
  curs : cur.size ≤ k
  only : Only Nob w wr
  words : wordsB s.data.toList = out ++ glue cur.data.toList (wordsB (s.data.toList.drop k))
theorem WordsInv.start (w : World) (s : ByteArray) : WordsInv w w s 0 none 0 0 [] ⟨#[]⟩ :=
  ⟨Nat.zero_le _, World.ownsRow_nil _ _ _ _, rfl, Nat.le_refl _, Nat.le_refl _, Only.refl _ _, by simp [glue_nil]⟩
theorem drop_at (s : ByteArray) (k : Nat) (h : k < s.size) : s.data.toList.drop k = s[k] :: s.data.toList.drop (k + 1) := by
  have h2 : k < s.data.toList.length := by simpa using h
  rw [List.drop_eq_getElem_cons h2]
  congr 1
theorem WordsInv.blank {w wr w2 : World} {s : ByteArray} {k n cap cap' : Nat} {A A' : Option Addr} {out : List (List UInt8)} {cur : ByteArray} (h : WordsInv w wr s k A n cap out cur) (hk : k < s.size) (hb : s[k] = 32)
    (hr : w2.ownsRow w.heap.size 9 1 (.slice A' (n + 1) cap') (n + 1) (out.map strV ++ [.string cur])) (ho : Only (fun k => w.heap.size ≤ k) wr w2) : WordsInv w w2 s (k + 1) A' (n + 1) cap' (out ++ [cur.data.toList]) ⟨#[]⟩ := by
  refine ⟨hk, ?_, by simp [h.len], by have := h.small; omega, Nat.zero_le _, Only.after h.only ho (fun i hi => .inr hi), ?_⟩
  · simpa [strV] using hr
  · rw [h.words, drop_at s k hk, hb, glue_hit]
    simp
theorem WordsInv.letter {w wr : World} {s : ByteArray} {k n cap : Nat} {A : Option Addr} {out : List (List UInt8)} {cur cur' : ByteArray} (h : WordsInv w wr s k A n cap out cur) (hk : k < s.size) (hb : s[k] ≠ 32)
    (hc : cur'.data.toList = cur.data.toList ++ [s[k]]) : WordsInv w wr s (k + 1) A n cap out cur' := by
  refine ⟨hk, h.row, h.len, by have := h.small; omega, ?_, h.only, ?_⟩
  · have h1 := congrArg List.length hc
    rw [List.length_append] at h1
    have h2 := h.curs
    simp at h1
    omega
  · rw [h.words, drop_at s k hk, glue_miss _ _ hb, hc]
def WordsPost (w : World) (ws : List (List UInt8)) (e : Ending) (w' : World) : Prop := ∃ A cap, e = .returned (.slice A ws.length cap) ∧ w'.ownsRow w.heap.size 9 1 (.slice A ws.length cap) ws.length (ws.map strV) ∧ Only Nob w w'
theorem WordsInv.done {w wr w2 : World} {s : ByteArray} {k n cap cap' : Nat} {A A' : Option Addr} {out : List (List UInt8)} {cur : ByteArray} (h : WordsInv w wr s k A n cap out cur) (hk : ¬ k < s.size)
    (hr : w2.ownsRow w.heap.size 9 1 (.slice A' (n + 1) cap') (n + 1) (out.map strV ++ [.string cur])) (ho : Only (fun k => w.heap.size ≤ k) wr w2) : WordsPost w (wordsB s.data.toList) (.returned (.slice A' (n + 1) cap')) w2 := by
  have hw := h.words
  rw [List.drop_of_length_le (by have h2 : s.data.toList.length = s.size := by simp
                                 omega)] at hw
  have e2 : glue cur.data.toList (wordsB []) = [cur.data.toList] := by simp [wordsB, glue]
  rw [e2] at hw
  have hlen : (wordsB s.data.toList).length = n + 1 := by rw [hw]; simp [h.len]
  refine ⟨A', cap', by rw [hlen], ?_, Only.after h.only ho (fun i hi => .inr hi)⟩
  rw [hlen, hw]
  simpa [strV] using hr

theorem str_one (c : ByteArray) : ∀ u ∈ (#[Value.string c] : Array Value).toList, u.oneCell' = true := by
  intro u hu
  simp at hu
  subst hu
  rfl
set_option maxRecDepth 100000 in
set_option maxHeartbeats 1000000 in
theorem rwords_any (s : ByteArray) (hs : s.size ≤ 100000000) (w : World) : Calls Tryd.prog 74 #[.string s] w (WordsPost w (wordsOf s.data.toList)) := by
  by_cases hz : s.data.toList = []
  · have he : s.toList.isEmpty = true := by rw [ByteArray.toList_eq, hz]; rfl
    have e0 : wordsOf s.data.toList = [] := if_pos hz
    rw [e0]
    clear e0 hz
    go_enter Tryd.func74, Tryd.ntmps74
    go_wp2
    go_ret
    exact ⟨none, 0, rfl, World.ownsRow_nil _ _ _ _, Only.refl _ _⟩
  · have he : s.toList.isEmpty = false := by
      rw [ByteArray.toList_eq]
      cases h : s.data.toList with
      | nil => exact absurd h hz
      | cons => rfl
    have e0 : wordsOf s.data.toList = wordsB s.data.toList := if_neg hz
    rw [e0]
    clear e0 hz
    go_enter Tryd.func74, Tryd.ntmps74
    go_wp2
    go_loopw [3, 4, 5] (fun v c i wr => ∃ (k n cap : Nat) (A : Option Addr) (out : List (List UInt8)) (cur : ByteArray), v = .slice A n cap ∧ c = .string cur ∧ i = .int .i64 (k : Int) ∧ WordsInv w wr s k A n cap out cur) (fun _ _ i _ => s.size - (intOf i).toNat)
    case atStart => exact ⟨0, 0, 0, none, [], ⟨#[]⟩, rfl, rfl, rfl, WordsInv.start w s⟩
    case round =>
      obtain ⟨k, n, cap, A, out, cur, rfl, rfl, rfl, h⟩ := hrel
      have H := hide h
      have hsm := h.small
      have hcs := h.curs
      have hws := h.only.size
      have HN : Hid (n ≤ 1000000000) := hide (by have := h.le; omega)
      clear h
      by_cases hk : k < s.size
      · by_cases hb : s[k] = 32
        · go_wp2_with (at_builtin; refine wpList_push rfl _ _ rfl Tryd.underlying86 infoString rfl (by decide) (by decide) H.out.row hws #[.string cur] rfl (str_one cur) HN.out rfl rfl ?_; intro A9 c9 w2 hr9 ho9; have HR := hide hr9; have HO := hide ho9; clear hr9 ho9)
          go_roundw
          case rel => exact ⟨k + 1, n + 1, c9, A9, _, ⟨#[]⟩, rfl, rfl, rfl, H.out.blank hk hb HR.out HO.out⟩
          case measure =>
            show s.size - ((k : Int) + 1).toNat < s.size - (k : Int).toNat
            omega
        · have hb2 : (((s[k]'hk).toNat : Int) == 32) = false := by
            rw [beq_eq_false_iff_ne]
            intro e
            exact hb (UInt8.toNat_inj.1 (by have h32 : (32 : UInt8).toNat = 32 := rfl; omega))
          have HE : Hid ((s.extract k (k + 1)).data.toList = [s[k]]) := hide (by
            rw [ByteArray.data_extract, Array.toList_extract]
            have := drop_at s k hk
            simp [List.extract, this])
          have hes : (s.extract k (k + 1)).size ≤ 1 := by rw [ByteArray.size_extract]; omega
          have hkI : (k : Int) + 1 ≤ (s.size : Int) := by omega
          have hkI2 : (k : Int) ≤ (k : Int) + 1 := by omega
          have hkN : ((k : Int) + 1).toNat = k + 1 := by omega
          go_wp2
          go_roundw
          case rel => exact ⟨k + 1, n, cap, A, out, _, rfl, rfl, rfl, H.out.letter hk hb (by rw [slw_app, HE.out])⟩
          case measure =>
            show s.size - ((k : Int) + 1).toNat < s.size - (k : Int).toNat
            omega
      · go_wp2_with (at_builtin; refine wpList_push rfl _ _ rfl Tryd.underlying86 infoString rfl (by decide) (by decide) H.out.row hws #[.string cur] rfl (str_one cur) HN.out rfl rfl ?_; intro A9 c9 w2 hr9 ho9; have HR := hide hr9; have HO := hide ho9; clear hr9 ho9)
        go_ret
        exact H.out.done hk HR.out HO.out
end Go.Proofs.YtngahgfppbjebaaDoor

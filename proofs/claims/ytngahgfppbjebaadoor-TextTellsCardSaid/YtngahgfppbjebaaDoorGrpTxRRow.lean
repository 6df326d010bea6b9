/-
  The reference's rows of runes and of bad bytes; a string's runes; plain laws of a line's words.
  Rows of the reference's structs, as a slice reads them; the contract of find.
-/
import Derived.Test.YtngahgfppbjebaaDoorGrpTxWords
import Derived.Test.YtngahgfppbjebaaDoorPush1
import Derived.Laws.IdiomStrings
import Derived.Laws.OwnMore
namespace Go.Proofs.YtngahgfppbjebaaDoor
open Go.RowKit Go.Lib
set_option linter.unusedVariables false
set_option linter.unusedSimpArgs false

def runeV (x : Rn) : Value := .int .i32 (x.1 : Int)
def badV (x : Rn) : Value := .bool x.2
/-- A string's runes, as '[]rune(s)' makes them. -/
theorem runes_from (s : ByteArray) : ∀ (n i : Nat) (acc : Array Value), s.size ≤ i + n → Conv.runesFrom s n i acc = acc ++ ((runesL (s.data.toList.drop i)).map runeV).toArray
  | 0, i, acc, h => by
    rw [runes_end s i (by omega)]
    simp [Conv.runesFrom]
  | n + 1, i, acc, h => by
    unfold Conv.runesFrom
    by_cases hi : i < s.size
    · rw [if_pos hi]
      obtain ⟨h1, h2, h3, _⟩ := runes_at s i hi
      rw [h1, List.map_cons]
      show Conv.runesFrom s n (i + (Utf8.decode s i).2) (acc.push (.int .i32 (Int.ofNat (Utf8.decode s i).1))) = _
      rw [runes_from s n _ _ (by omega)]
      apply Array.ext'
      simp [runeV, rnAt]
    · rw [if_neg hi, runes_end s i hi]
      simp
theorem runes_of (s : ByteArray) : Conv.runesFrom s s.size 0 #[] = ((runesL s.data.toList).map runeV).toArray := by
  rw [runes_from s s.size 0 #[] (by omega), List.drop_zero]
  simp
/-- The bytes EF BF BD are a rune of their own; nothing else is that rune but wrong bytes. -/
theorem bad_rune (s : ByteArray) (k : Nat) (hk : k < s.size) : (rnAt s k).2 = (decide ((rnAt s k).1 = 65533) && !(decide (k + 3 ≤ s.size) && decide ((s.data.toList.drop k).take 3 = [239, 191, 189]))) := by
  have hd := Go.Lib.decodeL_drop s k
  unfold rnAt
  rw [← hd]
  simp only
  have hl : (s.data.toList.drop k).length = s.size - k := by simp
  have hne : s.data.toList.drop k ≠ [] := fun e => by rw [e] at hl; simp at hl; omega
  have hle : k + 3 ≤ s.size ↔ 3 ≤ (s.data.toList.drop k).length := by omega
  generalize s.data.toList.drop k = l at *
  rw [show decide (k + 3 ≤ s.size) = decide (3 ≤ l.length) from decide_eq_decide.2 hle]
  by_cases h1 : (decodeL l).1 = 65533
  · rw [decide_eq_true h1]
    by_cases h2 : (decodeL l).2 = 1
    · rw [decide_eq_true h2]
      by_cases h3 : l.take 3 = [239, 191, 189]
      · exfalso
        match l, h3 with
        | a :: b :: c :: t, h3 =>
          simp at h3
          obtain ⟨rfl, rfl, rfl⟩ := h3
          have : (decodeL (239 :: 191 :: 189 :: t)).2 = 3 := by
            rw [decodeL_N]
            simp [decodeN]
          rw [this] at h2
          cases h2
      · rw [decide_eq_false h3]
        simp
    · rw [decide_eq_false h2]
      have he := Go.Lib.encode_decode l hne (fun h => h2 h.2)
      rw [h1] at he
      have he2 : encodeRune (65533 : Int) = [239, 191, 189] := by decide +kernel
      have he3 : l.take (decodeL l).2 = [239, 191, 189] := by rw [← he]; exact he2
      have hw := congrArg List.length he3
      rw [List.length_take] at hw
      have hw2 := decodeL_le l hne
      simp at hw
      have h3 : (decodeL l).2 = 3 := by omega
      rw [h3] at he3 hw2
      rw [decide_eq_true he3, decide_eq_true hw2]
      rfl
  · rw [decide_eq_false h1]
    rfl
/-- A word's runes, one behind the other. -/
theorem words_seg (seg : List Rn) : ∀ (c : Wd) (col : Nat) (rest : List Rn), (∀ x ∈ seg, blankR x = false) → (∀ x, rest.head? = some x → blankR x = true) →
    wordsG (some c) col (seg ++ rest) = ⟨c.s ++ seg.flatMap (fun x => encB x.1), c.col, c.bad || seg.any (·.2)⟩ :: wordsG none (col + seg.length) rest := by
  induction seg with
  | nil =>
    intro c col rest _ hr
    cases rest with
    | nil =>
      obtain ⟨s, cl, b⟩ := c
      simp [wordsG]
    | cons x r =>
      have hx := hr x rfl
      obtain ⟨s, cl, b⟩ := c
      rw [List.nil_append, wordsG, if_pos hx]
      simp [wordsG, hx]
  | cons x seg ih =>
    intro c col rest hs hr
    have hx := hs x (by simp)
    rw [List.cons_append, wordsG, if_neg (by simp [hx]), ih _ _ _ (fun y hy => hs y (List.mem_cons_of_mem _ hy)) hr]
    have e : col + 1 + seg.length = col + (x :: seg).length := by simp; omega
    rw [e]
    simp [growW, Bool.or_assoc]
theorem words_first (x : Rn) (seg : List Rn) (col : Nat) (rest : List Rn) (hx : blankR x = false) (hs : ∀ y ∈ seg, blankR y = false) (hr : ∀ y, rest.head? = some y → blankR y = true) :
    wordsG none col (x :: seg ++ rest) = ⟨(x :: seg).flatMap (fun y => encB y.1), col, (x :: seg).any (·.2)⟩ :: wordsG none (col + (x :: seg).length) rest := by
  rw [List.cons_append, wordsG, if_neg (by simp [hx]), words_seg seg _ _ _ hs hr]
  have e : col + 1 + seg.length = col + (x :: seg).length := by simp; omega
  rw [e]
  simp [growW]
theorem words_skip (x : Rn) (r : List Rn) (col : Nat) (hx : blankR x = true) : wordsG none col (x :: r) = wordsG none (col + 1) r := by
  rw [wordsG, if_pos hx]
  rfl
theorem runes_bytes (l : List Rn) : (runesBytes (l.map fun x => (x.1 : Int))).data.toList = l.flatMap (fun x => encB x.1) := by
  have h : ∀ (l : List Rn) (b : ByteArray), ((l.map fun x => (x.1 : Int)).foldl (fun r n => r ++ Utf8.encode n) b).data.toList = b.data.toList ++ l.flatMap (fun x => encB x.1) := by
    intro l
    induction l with
    | nil => intro b; simp
    | cons x r ih =>
      intro b
      rw [List.map_cons, List.foldl_cons, ih, List.flatMap_cons]
      rw [encB_eq, listOf_eq]
      simp
  unfold runesBytes
  rw [h]
  rfl
end Go.Proofs.YtngahgfppbjebaaDoor
namespace Go.Proofs.YtngahgfppbjebaaDoor
open Go.RowKit Go.Lib
set_option linter.unusedVariables false
set_option linter.unusedSimpArgs false

section
variable {α : Type} (f : α → List Value) (c : Nat)
/-- A slice of structs of c cells. -/
def SlIn (w : World) (B : Nat) (A : Option Addr) (l : List α) : Prop :=
  l ≠ [] → ∃ b o, A = some ⟨b, o, none⟩ ∧ b < B ∧ ∀ k x, l[k]? = some x → ∀ j v, (f x)[j]? = some v → w.cell? ⟨b, o + k * c + j, none⟩ = some v
def cellsG (l : List α) : List Value := l.flatMap f
variable {f c}
theorem cellsG_len (hf : ∀ x, (f x).length = c) (l : List α) : (cellsG f l).length = l.length * c := by
  induction l with
  | nil => simp [cellsG]
  | cons x r ih =>
    show (f x ++ cellsG f r).length = _
    rw [List.length_append, ih, hf, List.length_cons, Nat.add_mul]
    omega
theorem cellsG_at (hf : ∀ x, (f x).length = c) : ∀ (l : List α) (k : Nat) (x : α), l[k]? = some x → ∀ j, j < c → (cellsG f l)[k * c + j]? = (f x)[j]?
  | [], k, x, h, j, hj => by simp at h
  | y :: r, 0, x, h, j, hj => by
    simp at h
    subst h
    show (f y ++ cellsG f r)[0 * c + j]? = _
    rw [List.getElem?_append_left (by rw [hf]; omega)]
    simp
  | y :: r, k + 1, x, h, j, hj => by
    have := cellsG_at hf r k x (by simpa using h) j hj
    show (f y ++ cellsG f r)[(k + 1) * c + j]? = _
    have e : (k + 1) * c + j - c = k * c + j := by rw [Nat.add_mul]; omega
    rw [List.getElem?_append_right (by rw [hf, Nat.add_mul]; omega), hf, e, this]
theorem cellsG_snoc (l : List α) (x : α) : cellsG f (l ++ [x]) = cellsG f l ++ f x := by simp [cellsG]
theorem SlIn.nil (w : World) (B : Nat) (A : Option Addr) : SlIn f c w B A ([] : List α) := fun h => absurd rfl h
theorem SlIn.keep {w w' : World} {B : Nat} {A : Option Addr} {l : List α} (h : SlIn f c w B A l) (hb : Below B w w') : SlIn f c w' B A l := fun hn => by
  obtain ⟨b, o, h1, h2, h3⟩ := h hn
  exact ⟨b, o, h1, h2, fun k x hk j v hj => (hb.cell h2).trans (h3 k x hk j v hj)⟩
theorem SlIn.more {w : World} {B B' : Nat} {A : Option Addr} {l : List α} (h : SlIn f c w B A l) (hB : B ≤ B') : SlIn f c w B' A l := fun hn => by
  obtain ⟨b, o, h1, h2, h3⟩ := h hn
  exact ⟨b, o, h1, Nat.lt_of_lt_of_le h2 hB, h3⟩
theorem SlIn.nob {w w' : World} {A : Option Addr} {l : List α} (h : SlIn f c w w.heap.size A l) (ho : Only Nob w w') : SlIn f c w' w'.heap.size A l := (h.keep ho.new).more ho.size
theorem SlIn.at_ {w : World} {B : Nat} {A : Option Addr} {l : List α} (h : SlIn f c w B A l) {k : Nat} {x : α} (hk : l[k]? = some x) : ∃ b o, A = some ⟨b, o, none⟩ ∧ b < B ∧ ∀ j v, (f x)[j]? = some v → w.cell? ⟨b, o + k * c + j, none⟩ = some v := by
  obtain ⟨b, o, h1, h2, h3⟩ := h (fun e => by rw [e] at hk; simp at hk)
  exact ⟨b, o, h1, h2, h3 k x hk⟩
/-- What is behind the first. -/
theorem SlIn.tail {w : World} {B b o : Nat} {x : α} {l : List α} (h : SlIn f c w B (some ⟨b, o, none⟩) (x :: l)) : SlIn f c w B (some ⟨b, o + c, none⟩) l := fun hn => by
  obtain ⟨b', o', h1, h2, h3⟩ := h (by simp)
  injection h1 with h1
  injection h1 with h1 h4 _
  subst h1 h4
  refine ⟨_, _, rfl, h2, fun k y hk j v hj => ?_⟩
  have := h3 (k + 1) y (by simpa using hk) j v hj
  have e : o + (k + 1) * c + j = o + c + k * c + j := by rw [Nat.add_mul]; omega
  rw [e] at this
  exact this
theorem SlIn.of_own {w : World} {base n cap : Nat} {e : TypeId} {A : Option Addr} {l : List α} (hf : ∀ x, (f x).length = c) (h : w.ownsRow base e c (.slice A n cap) n (cellsG f l)) (hn : n = l.length) : SlIn f c w w.heap.size A l := fun hne => by
  subst hn
  rcases h.2 with ⟨h1, h2⟩ | ⟨g, cap', cur, hv, _, hh, _⟩
  · exact absurd (List.eq_nil_of_length_eq_zero h2) hne
  · injection hv with hv
    subst hv
    have hg : g < w.heap.size := by
      rcases Nat.lt_or_ge g w.heap.size with hlt | hge
      · exact hlt
      · rw [Array.getElem?_eq_none hge] at hh; cases hh
    refine ⟨g, 0, rfl, hg, fun k x hk j v hj => ?_⟩
    have hjl : j < c := by rw [← hf x]; exact (List.getElem?_eq_some_iff.1 hj).1
    have hkl : k < l.length := (List.getElem?_eq_some_iff.1 hk).1
    have hi : k * c + j < l.length * c := by
      have : (k + 1) * c ≤ l.length * c := Nat.mul_le_mul_right c (by omega)
      rw [Nat.add_mul] at this
      omega
    have := World.ownsRow.cellAt h (k * c + j) hi
    rw [cellsG_at hf l k x hk j hjl, hj] at this
    rw [Nat.zero_add]
    exact this
end
/-- A label's cells. -/
def labC (e : List UInt8 × Nat) : List Value := [.string ⟨e.1.toArray⟩, .int .i64 (e.2 : Int)]
def findI (labs : List (List UInt8 × Nat)) (s : List UInt8) : Int := match lookP labs s with
  | some c => (c : Int)
  | none => -1
theorem lookP_drop (labs : List (List UInt8 × Nat)) (s : List UInt8) {k : Nat} {x : List UInt8 × Nat} (hx : labs[k]? = some x) : lookP (labs.drop k) s = if x.1 = s then some x.2 else lookP (labs.drop (k + 1)) s := by
  obtain ⟨hk, rfl⟩ := List.getElem?_eq_some_iff.1 hx
  rw [List.drop_eq_getElem_cons hk]
  unfold lookP
  rw [List.find?_cons]
  by_cases h : labs[k].1 = s
  · rw [if_pos h, show (labs[k].1 == s) = true by simp [h]]
    rfl
  · rw [if_neg h, show (labs[k].1 == s) = false by simp [h]]
set_option maxHeartbeats 1000000 in
theorem find_any (labs : List (List UInt8 × Nat)) (A : Option Addr) (n cap : Nat) (s : ByteArray) (w : World) (hl : labs.length = n) (hA : SlIn labC 2 w w.heap.size A labs) (hn : n ≤ 100000) : Calls Tryd.prog 91 #[.slice A n cap, .string s] w fun e w' => e = .returned (.int .i64 (findI labs s.data.toList)) ∧ w = w' := by
  have HA := hide hA
  have HLN := hide hl
  have HF : Hid (∀ o, lookP labs s.data.toList = o → findI labs s.data.toList = match o with | some c => (c : Int) | none => -1) := hide (fun o h => by unfold findI; rw [h])
  have HD : Hid (∀ k x, labs[k]? = some x → lookP (labs.drop k) s.data.toList = if x.1 = s.data.toList then some x.2 else lookP (labs.drop (k + 1)) s.data.toList) := hide (fun k x h => lookP_drop labs _ h)
  clear hA hl
  go_enter Tryd.func91, Tryd.ntmps91
  go_wp2
  go_loopw [5] (fun c wr => ∃ k : Nat, k ≤ n ∧ c = .int .i64 (k : Int) ∧ wr = w ∧ Hid (lookP (labs.drop k) s.data.toList = lookP labs s.data.toList)) (fun c _ => n - (RowKit.intOf c).toNat)
  case atStart => exact ⟨0, by omega, rfl, rfl, rfl⟩
  case round =>
    obtain ⟨k, hk, rfl, rfl, hr⟩ := hrel
    by_cases hlt : k < n
    · have hkI : (k : Int) < (n : Int) := by omega
      have hkl : k < labs.length := by have := HLN.out; omega
      obtain ⟨x, hxk⟩ : ∃ x, labs[k]? = some x := ⟨_, List.getElem?_eq_getElem hkl⟩
      have hd := HD.out k x hxk
      rw [hr.out] at hd
      obtain ⟨b, o, rfl, hb, hcell⟩ := HA.out.at_ hxk
      have c0 := hcell 0 _ rfl
      have c1 := hcell 1 _ rfl
      simp only [Nat.add_zero] at c0
      have HDD := hide hd
      clear hd hcell hxk hkl
      obtain ⟨xs, xc⟩ := x
      simp only at c0 c1
      by_cases he : xs = s.data.toList
      · have he2 : ((⟨xs.toArray⟩ : ByteArray).toList == s.toList) = true := str_eq_true (by rw [he])
        have he3 : (⟨xs.toArray⟩ : ByteArray) = s := by rw [he]
        have HE : Hid (findI labs s.data.toList = (xc : Int)) := hide (by rw [HF.out _ HDD.out, if_pos he])
        rw [he3] at c0 he2
        clear he he3
        go_wp2
        go_ret
        exact ⟨by rw [HE.out]; rfl, rfl⟩
      · have hne : (⟨xs.toArray⟩ : ByteArray) ≠ s := fun e => he (by rw [← e])
        have he2 := str_eq_false hne
        have he3 : ¬ ((⟨xs.toArray⟩ : ByteArray) = s) := hne
        have HE : Hid (lookP (labs.drop (k + 1)) s.data.toList = lookP labs s.data.toList) := hide (by
          have := HDD.out
          rw [if_neg he] at this
          exact this.symm)
        obtain ⟨sx, hsx⟩ : ∃ sx, (⟨xs.toArray⟩ : ByteArray) = sx := ⟨_, rfl⟩
        rw [hsx] at c0 he2 he3
        clear he hne hsx
        go_wp2
        refine ⟨⟨k + 1, by omega, by simp, by simp, HE⟩, ?_⟩
        simp [RowKit.intOf]
        omega
    · have hkI : ¬ (k : Int) < (n : Int) := by omega
      have HE : Hid (findI labs s.data.toList = -1) := hide (by
        have h1 := hr.out
        rw [List.drop_eq_nil_of_le (by have := HLN.out; omega)] at h1
        rw [HF.out _ h1.symm]
        rfl)
      go_wp2
      go_ret
      exact ⟨by rw [HE.out]; rfl, rfl⟩
end Go.Proofs.YtngahgfppbjebaaDoor

/-
  The law's 'do': asks, on a slate and on the document's results.
-/
import Derived.Test.YtngahgfppbjebaaDoorSlSame
import Derived.Test.YtngahgfppbjebaaDoorSlateRd
import Derived.Test.YtngahgfppbjebaaDoorSlateEq
import Derived.Test.YtngahgfppbjebaaDoorOpenAsk
import Derived.Test.YtngahgfppbjebaaDoorRefRead
import Derived.Deep.RegionHeld3
import Derived.Deep.RegionLaw
namespace Go.Proofs.YtngahgfppbjebaaDoor
open Go.RowKit
set_option linter.unusedVariables false
set_option linter.unusedSimpArgs false

/-- A slate and a slice of results that say the same, apart from one another. -/
structure Both (w : World) (base g : Nat) (v : Value) (its : List Itm) (A : Option Addr) : Prop where
  sl : Sl w base g v its
  items : ItemsIn w A its
  room : its.length ≤ 16
  ok : ∀ x ∈ its, x.ok
  apart1 : NotAt A g
  apart2 : ∀ j, v.ownBlock = some j → NotAt A j
  live : ∀ ad, A = some ad → ad.block < w.heap.size
/-- What the asks leave. -/
structure DoInv (w wr : World) (base g : Nat) (v0 v : Value) (its : List Itm) (A0 A : Option Addr) : Prop where
  both : Both wr base g v its A
  only : Only (fun j => j = g ∨ v0.ownBlock = some j) w wr
  own : v.ownBlock = v0.ownBlock ∨ ∀ j, v.ownBlock = some j → w.heap.size ≤ j
  fresh : A = A0 ∨ ∀ ad, A = some ad → w.heap.size ≤ ad.block
  tab : Pow10 wr
  big : base ≤ wr.heap.size
  low : g ≠ 4 ∧ ∀ j, v.ownBlock = some j → j ≠ 4
/-- A step that leaves both as they say, writing the slate alone. -/
theorem DoInv.step {w wr w2 : World} {base g : Nat} {v0 v v2 : Value} {its its2 : List Itm} {A0 A A2 : Option Addr} (h : DoInv w wr base g v0 v its A0 A) (ho : Only (fun j => j = g ∨ v.ownBlock = some j) wr w2)
    (hb : Both w2 base g v2 its2 A2) (hv : v2.ownBlock = v.ownBlock ∨ ∀ j, v2.ownBlock = some j → wr.heap.size ≤ j) (hA : A2 = A ∨ ∀ ad, A2 = some ad → wr.heap.size ≤ ad.block) (hp : Pow10 w2) : DoInv w w2 base g v0 v2 its2 A0 A2 := by
  refine ⟨hb, Only.after h.only ho ?_, ?_, ?_, hp, Nat.le_trans h.big ho.size, h.low.1, ?_⟩
  · rintro i (hi | hi)
    · exact .inl (.inl hi)
    · rcases h.own with h1 | h1
      · exact .inl (.inr (h1 ▸ hi))
      · exact .inr (h1 i hi)
  · rcases hv with hv | hv
    · rcases h.own with h1 | h1
      · exact .inl (hv.trans h1)
      · exact .inr (fun j hj => h1 j (hv ▸ hj))
    · exact .inr (fun j hj => Nat.le_trans h.only.size (hv j hj))
  · rcases hA with hA | hA
    · rcases h.fresh with h1 | h1
      · exact .inl (hA.trans h1)
      · exact .inr (fun ad e => h1 ad (hA ▸ e))
    · exact .inr (fun ad e => Nat.le_trans h.only.size (hA ad e))
  · intro j hj
    rcases hv with hv | hv
    · exact h.low.2 j (hv ▸ hj)
    · have h1 := hv j hj
      have h2 := h.tab.lt
      omega
theorem DoInv.nob {w wr w2 : World} {base g : Nat} {v0 v : Value} {its : List Itm} {A0 A : Option Addr} (h : DoInv w wr base g v0 v its A0 A) (ho : Only Nob wr w2) : DoInv w w2 base g v0 v its A0 A :=
  h.step (ho.mono (fun _ _ h => h.elim)) ⟨h.both.sl.nob ho, h.both.items.nob ho, h.both.room, h.both.ok, h.both.apart1, h.both.apart2, fun ad e => Nat.lt_of_lt_of_le (h.both.live ad e) ho.size⟩ (.inl rfl) (.inl rfl) (h.tab.nob ho)
theorem DoInv.cut {w wr W w2 : World} {base g : Nat} {v0 v v2 : Value} {its : List Itm} {A0 A : Option Addr} {k : Nat} (h : DoInv w wr base g v0 v its A0 A) (hW : Only Nob wr W) (ho : Only (fun j => j = g) W w2) (hs : Sl w2 base g v2 (its.take k))
    (hf : ∀ j, v2.ownBlock = some j → W.heap.size ≤ j) : DoInv w w2 base g v0 v2 (its.take k) A0 A := by
  have ho1 : Only (fun j => j = g ∨ v.ownBlock = some j) wr w2 := (hW.mono (fun _ _ h => h.elim)).trans (ho.mono (fun _ _ h => .inl h))
  have hz := hW.size
  refine h.step ho1 ⟨hs, ?_, ?_, ?_, h.both.apart1, ?_, fun ad e => Nat.lt_of_lt_of_le (h.both.live ad e) ho1.size⟩ (.inr fun j hj => Nat.le_trans hz (hf j hj)) (.inl rfl) ?_
  · exact (h.both.items.only ho1 (fun j hj => by
      rcases hj with hj | hj
      · rw [hj]; exact h.both.apart1
      · exact h.both.apart2 j hj)).take k
  · have := h.both.room
    rw [List.length_take]
    omega
  · exact fun x hx => h.both.ok x (List.mem_of_mem_take hx)
  · intro j hj ad e he
    have h1 := h.both.live ad e
    have h2 := hf j hj
    omega
  · refine h.tab.only ho1 ?_
    have h4 := h.tab.lt
    rintro (e | e)
    · exact h.low.1 e.symm
    · exact h.low.2 _ e rfl
/-- An append of all results onto nil: a row of its own. -/
theorem app1 {B n : Nat} {W w3 : World} {its : List Itm} {v9 : Value} (hown : w3.ownsRow B 94 2 v9 (0 + n) ([] ++ rowCells its)) (hg : W.grownBy w3 (Value.slice none 0 0).ownBlock) :
    ∃ A9 c9, v9 = .slice A9 n c9 ∧ w3.ownsRow B 94 2 (.slice A9 n c9) n (rowCells its) ∧ Only Nob W w3 := by
  rw [Nat.zero_add, List.nil_append] at hown
  have ho : Only Nob W w3 := Only.of_grown hg (fun k hk _ => by simp [Value.ownBlock] at hk)
  rcases hown.2 with ⟨h1, h2⟩ | ⟨g, cap, cur, hv, _⟩
  · subst h1
    subst h2
    exact ⟨none, 0, rfl, hown, ho⟩
  · subst hv
    exact ⟨_, cap, rfl, hown, ho⟩
/-- An append of one result more. -/
theorem app2 {B n : Nat} {wc W w4 : World} {its : List Itm} {x : Itm} {A9 : Option Addr} {c9 : Nat} {v9 : Value} (hB : B = wc.heap.size) (h0 : W.ownsRow B 94 2 (.slice A9 n c9) n (rowCells its)) (hown : w4.ownsRow B 94 2 v9 (n + 1) (rowCells its ++ itmCells x)) (hW : Only Nob wc W) (hg : W.grownBy w4 (Value.slice A9 n c9).ownBlock) :
    ∃ A8 c8, v9 = .slice A8 (n + 1) c8 ∧ n + 1 ≤ c8 ∧ w4.ownsRow wc.heap.size 94 2 (.slice A8 (n + 1) c8) (n + 1) (rowCells (its ++ [x])) ∧ Only Nob wc w4 := by
  subst hB
  have ho : Only Nob wc w4 := Only.after hW (Only.of_grown (S := fun k => wc.heap.size ≤ k) hg (fun k hk _ => (h0.lt k hk).1)) (fun i hi => .inr hi)
  rcases hown.2 with ⟨h1, h2⟩ | ⟨g, cap, cur, hv, _, _, hc, _⟩
  · omega
  · subst hv
    refine ⟨_, cap, rfl, hc, ?_, ho⟩
    rw [rowCells_snoc]
    exact hown
theorem DoInv.add {w wr wc w4 : World} {base g n c8 : Nat} {v0 v v2 : Value} {its : List Itm} {x : Itm} {A0 A A8 : Option Addr} (h : DoInv w wr base g v0 v its A0 A) (ho : Only (fun j => j = g ∨ v.ownBlock = some j) wr wc) (hx : x.ok) (h16 : its.length < 16)
    (hs : Sl wc base g v2 (its ++ [x])) (hf : v2.ownBlock = v.ownBlock ∨ ∀ j, v2.ownBlock = some j → wr.heap.size ≤ j) (hr : w4.ownsRow wc.heap.size 94 2 (.slice A8 (n + 1) c8) (n + 1) (rowCells (its ++ [x]))) (ho4 : Only Nob wc w4) : DoInv w w4 base g v0 v2 (its ++ [x]) A0 A8 := by
  have hfr : ∀ ad, A8 = some ad → wc.heap.size ≤ ad.block ∧ ad.block < w4.heap.size := by
    intro ad e
    rw [e] at hr
    rcases hr.2 with ⟨h1, _⟩ | ⟨g', cap', cur', hv, hb, hc, _⟩
    · cases h1
    · injection hv with hv
      injection hv with hv
      subst hv
      exact hr.lt g' rfl
  refine h.step (ho.trans (ho4.mono (fun _ _ h => h.elim))) ⟨hs.nob ho4, ItemsIn.of_own hr, by simp; omega, ?_, ?_, ?_, fun ad e => (hfr ad e).2⟩ hf (.inr fun ad e => Nat.le_trans ho.size (hfr ad e).1) ?_
  · intro y hy
    rcases List.mem_append.1 hy with hy | hy
    · exact h.both.ok y hy
    · simp at hy; subst hy; exact hx
  · intro ad e he
    have := (hfr ad e).1
    have := hs.cell.lt
    omega
  · intro j hj ad e he
    have := (hfr ad e).1
    have := (hs.own_lt hj).2
    omega
  · refine (h.tab.only ho ?_).nob ho4
    rintro (e | e)
    · exact h.low.1 e.symm
    · exact h.low.2 _ e rfl
theorem DoInv.full {w wr wc : World} {base g : Nat} {v0 v : Value} {its : List Itm} {A0 A : Option Addr} (h : DoInv w wr base g v0 v its A0 A) (ho : Only (fun j => j = g ∨ v.ownBlock = some j) wr wc) (hs : Sl wc base g v its) : DoInv w wc base g v0 v its A0 A := by
  refine h.step ho ⟨hs, h.both.items.only ho (fun j hj => ?_), h.both.room, h.both.ok, h.both.apart1, h.both.apart2, fun ad e => Nat.lt_of_lt_of_le (h.both.live ad e) ho.size⟩ (.inl rfl) (.inl rfl) (h.tab.only ho ?_)
  · rcases hj with hj | hj
    · rw [hj]; exact h.both.apart1
    · exact h.both.apart2 j hj
  · rintro (e | e)
    · exact h.low.1 e.symm
    · exact h.low.2 _ e rfl
theorem rowCells_one (its : List Itm) : ∀ u ∈ rowCells its, u.oneCell' = true := by
  intro u hu
  obtain ⟨x, _, hx⟩ := List.mem_flatMap.1 hu
  simp [itmCells] at hx
  rcases hx with rfl | rfl <;> rfl
theorem itmCells_one (x : Itm) : ∀ u ∈ itmCells x, u.oneCell' = true := by
  intro u hu
  simp [itmCells] at hu
  rcases hu with rfl | rfl <;> rfl
theorem reads_lit (W : World) (x : Itm) : Reads (W.alloc (.cells #[.int .i64 (sortI x), .int .u64 (numI x)] 94)) (W.heap.size + 1) 2 (some ⟨W.heap.size, 0, none⟩) 1 (itmCells x) := by
  have h := Reads.of_blk (size := 2) (n := 1) (Blk.new W 94 #[.int .i64 (sortI x), .int .u64 (numI x)]) rfl
  rw [World.size_alloc] at h
  exact h
end Go.Proofs.YtngahgfppbjebaaDoor

/-
  A loop over strings.SplitSeq: what its body owes, and what holds behind it.
-/
import Derived.Test.YtngahgfppbjebaaDoorSplit
namespace Go.Proofs.YtngahgfppbjebaaDoor
open Go.RowKit Go.Shelf
set_option linter.unusedVariables false
set_option linter.unusedSimpArgs false

/-- What may turn of itself between two rounds: the iterator's box, and blocks from B0 on that are no cells. -/
def Moves (B B0 : Nat) (X Y : World) : Prop := Only (fun k => k = B ∨ (B0 ≤ k ∧ ∃ o, X.heap[k]? = some o ∧ o.isCells = false)) X Y
theorem Moves.of_box {B B0 : Nat} {X Y : World} (h : Only (Ob B) X Y) : Moves B B0 X Y := h.mono fun k _ hk => .inl hk
theorem Moves.put {B B0 : Nat} {X : World} {l : Nat} {o : Obj} (o' : Obj) (hl : B0 ≤ l) (h : X.heap[l]? = some o) (ho : o.isCells = false) : Moves B B0 X (X.putObj l o') :=
  Only.of_grown (grownBy_putObj' X l o') fun k hk _ => by cases hk; exact .inr ⟨hl, o, h, ho⟩
theorem Moves.more {B B0 : Nat} {X : World} (o : Obj) : Moves B B0 X (X.alloc o) := (Only.refl _ X).alloc o
/-- How the body of a round may be left. -/
def rangePost1 (B B0 : Nat) (I Ix : List (List UInt8) → World → Prop) (xs : List (List UInt8)) (W : World) : Exit → Act → World → Prop
  | .normal, _, W' => KeepsFrom B0 W W' ∧ KpB B W W' ∧ I xs W'
  | .ret, _, W' => KeepsFrom B0 W W' ∧ Ix xs W'
  | _, _, _ => False

theorem kp_of_put {B : Nat} {X : World} {l : Nat} {o : Obj} (hl : B + 2 < l) : KpB B X (X.putObj l o) := by
  refine ⟨World.putObj_heap_other (by omega), World.putObj_heap_other (by omega), World.putObj_heap_other (by omega)⟩
theorem KpB.trans {B : Nat} {X Y Z : World} (h : KpB B X Y) (k : KpB B Y Z) : KpB B X Z := ⟨k.1.trans h.1, k.2.1.trans h.2.1, k.2.2.trans h.2.2⟩
theorem KpB.of_only {S : Nat → Prop} {B : Nat} {X Y : World} (h : Only S X Y) (hb : B + 2 < X.heap.size) (hn : ∀ k, B ≤ k → k ≤ B + 2 → ¬ S k) : KpB B X Y :=
  ⟨h.block _ (by omega) (hn _ (by omega) (by omega)), h.block _ (by omega) (hn _ (by omega) (by omega)), h.block _ (by omega) (hn _ (by omega) (by omega))⟩
theorem Boxes.lt {w : World} {B : Nat} {s : ByteArray} (h : Boxes w B s) : B + 2 < w.heap.size := h.save.lt

theorem wpIn_range_split {n : Nat} {g : Operand} {ps : Array Tmp} {assign body : Code} {Q : Exit → Act → World → Prop} {a : Act} {w : World} {B : Nat} {s : ByteArray} (h1 : 2 ≤ n) (hs : s.size ≤ 1000000000)
    (hg : a.eval g = .func (.func 96) #[] #[.pointer (some ⟨B + 1, 0, none⟩), .pointer (some ⟨B, 0, none⟩), .pointer (some ⟨B + 2, 0, none⟩)]) (hb : Boxes w B s) (hps : ps.size = 1)
    (I Ix : List (List UInt8) → World → Prop) (hI : ∀ p X Y, I p X → Moves B w.heap.size X Y → I p Y) (hIx : ∀ p X Y, Ix p X → Moves B w.heap.size X Y → Ix p Y) (h0 : I [] w) (a₁ : List UInt8 → Act)
    (hassign : ∀ (l : Nat) (x : List UInt8) (W : World) (K : Act → World → Prop), K (a₁ x) W →
      assign.wpIn (Fence.wide.inRound l) (n - 1 - 1) Tryd.prog (Exit.then K (fun _ _ _ => False)) { tmps := (ps.zip #[Value.string (ofL x)]).foldl (fun t (p, v) => t.setIfInBounds p v) a.tmps, defers := [] } W)
    (hbody : ∀ (l : Nat) (pre : List (List UInt8)) (x : List UInt8) (W : World), I pre W → (pre ++ [x]) <+: wordsB s.data.toList → w.heap.size ≤ W.heap.size → body.wpIn (Fence.wide.inRound l) (n - 1 - 1) Tryd.prog (rangePost1 B w.heap.size I Ix (pre ++ [x]) W) (a₁ x) W)
    (hdone : ∀ (D : Nat) (W : World), w.heap.size ≤ D → I (wordsB s.data.toList) W → W.heap[D]? = some (.deferred (some [])) → Q .normal { a with defers := { target := .collected D, args := #[] } :: a.defers } W)
    (hstop : ∀ (D : Nat) (pre : List (List UInt8)) (W : World), w.heap.size ≤ D → pre <+: wordsB s.data.toList → Ix pre W → W.heap[D]? = some (.deferred (some [])) → Code.ret.wpIn Fence.wide n Tryd.prog Q { a with defers := { target := .collected D, args := #[] } :: a.defers } W) :
    (Code.rangeFunc g ps assign body).wpIn Fence.wide n Tryd.prog Q a w := by
  refine wpIn_rangeFunc ?_
  intro fn hfn
  have hB := hb.lt
  obtain ⟨rec, hrec⟩ : ∃ rec : LoopState → Option Code → Loop, rec = fun st pe => { state := st, pending := pe, fn, tmps := a.tmps, params := ps, assign, body, defers := w.heap.size } := ⟨_, rfl⟩
  obtain ⟨W1, hW1⟩ : ∃ W1, (w.alloc (.deferred (some []))).alloc (.loop (rec .ready none)) = W1 := ⟨_, rfl⟩
  have hL1 : W1.heap[w.heap.size + 1]? = some (.loop (rec .ready none)) := by
    rw [← hW1]; have := World.alloc_heap_new (w.alloc (.deferred (some []))) (.loop (rec .ready none)); rwa [World.size_alloc] at this
  have hK1 : W1.heap[w.heap.size]? = some (.deferred (some [])) := by
    rw [← hW1]; exact (Below.heap_alloc _ _ _ (by simp)).trans (World.alloc_heap_new w _)
  have hI1 : I [] W1 := by rw [← hW1]; exact hI _ _ _ (hI _ _ _ h0 (Moves.more _)) (Moves.more _)
  have hb1 : Boxes W1 B s := by
    rw [← hW1]; exact ⟨(hb.rest.alloc _).alloc _, (hb.sep.alloc _).alloc _, (hb.save.alloc _).alloc _⟩
  refine ⟨w.heap.size + 1, [{ target := .collected w.heap.size, args := #[] }], W1, { target := .fn (.func 96) #[.pointer (some ⟨B + 1, 0, none⟩), .pointer (some ⟨B, 0, none⟩), .pointer (some ⟨B + 2, 0, none⟩)], args := #[.func (.yield (w.heap.size + 1)) #[] #[]] }, W1, 96,
    #[.func (.yield (w.heap.size + 1)) #[] #[], .pointer (some ⟨B + 1, 0, none⟩), .pointer (some ⟨B, 0, none⟩), .pointer (some ⟨B + 2, 0, none⟩)], W1, ?_, ?_, ?_, ?_, fun _ => by omega, ?_⟩
  · rw [← hW1, hrec]; exact run_enterLoop_outer _ _ _ _ _
  · simp only [resolve, hg]
    simp [go_sem]
  · intro f' hf'; exact trivial
  · have eg : ∀ args w, (callFunc 96 args).run Tryd.prog w = .ok (.enter 96 args) w := enters_of Tryd.func96 (by kernel_rfl) rfl
    simp [invoke, go_sem, eg]
  · refine (split_in (n - 1) (by omega) (w.heap.size + 1) B s hs
      (fun pre W => I pre W ∧ W.heap[w.heap.size + 1]? = some (.loop (rec .ready none)) ∧ W.heap[w.heap.size]? = some (.deferred (some [])))
      (fun pre W => Ix pre W ∧ W.heap[w.heap.size + 1]? = some (.loop (rec .done (some .ret))) ∧ W.heap[w.heap.size]? = some (.deferred (some [])))
      ?_ ?_ W1 hb1 ⟨hI1, hL1, hK1⟩).mono ?_
    · rintro p X Y ⟨h2, h3, h4⟩ ho
      have l3 := (Array.getElem?_eq_some_iff.1 h3).1
      have l4 := (Array.getElem?_eq_some_iff.1 h4).1
      exact ⟨hI _ _ _ h2 (Moves.of_box ho), (ho.block _ l3 (fun e => by unfold Ob at e; omega)).trans h3, (ho.block _ l4 (fun e => by unfold Ob at e; omega)).trans h4⟩
    · rintro pre x W ⟨hi, hl, hk⟩ hpre
      have hlt : w.heap.size + 1 < W.heap.size := (Array.getElem?_eq_some_iff.1 hl).1
      have hy := run_yield (P := Tryd.prog) (args := #[Value.string (ofL x)]) hl (by rw [hrec]; exact hps.symm)
      rw [hrec] at hy
      refine ⟨fn, _, assign, body, hy, roundIn_of_wpIn hfn (hassign _ x W _ ?_)⟩
      clear hy
      refine ⟨_, run_beginRound hl (by rw [hrec]), ?_⟩
      have hl2 : (W.putObj (w.heap.size + 1) (.loop { rec .ready none with state := .busy })).heap[w.heap.size + 1]? = some (.loop { rec .ready none with state := .busy }) := World.putObj_heap_same hlt
      have hk2 : (W.putObj (w.heap.size + 1) (.loop { rec .ready none with state := .busy })).heap[w.heap.size]? = some (.deferred (some [])) := (World.putObj_heap_other (by omega)).trans hk
      have hw2 : KpB B W (W.putObj (w.heap.size + 1) (.loop { rec .ready none with state := .busy })) := kp_of_put (by omega)
      refine wpIn_mono (hbody _ pre x _ (hI _ _ _ hi (Moves.put _ (by omega) hl rfl)) hpre (by simp; omega)) ?_
      have fin : ∀ (jump : Option Code) (W3 : World), KeepsFrom w.heap.size (W.putObj (w.heap.size + 1) (.loop { rec .ready none with state := .busy })) W3 →
          (Instr.endRound (w.heap.size + 1) jump).run Tryd.prog W3 = .ok (.bool jump.isNone) (W3.putObj (w.heap.size + 1) (.loop (rec (if jump.isNone then .ready else .done) jump))) ∧
          W3.heap[w.heap.size + 1]? = some (.loop { rec .ready none with state := .busy }) ∧
          (W3.putObj (w.heap.size + 1) (.loop (rec (if jump.isNone then .ready else .done) jump))).heap[w.heap.size + 1]? = some (.loop (rec (if jump.isNone then .ready else .done) jump)) ∧
          (W3.putObj (w.heap.size + 1) (.loop (rec (if jump.isNone then .ready else .done) jump))).heap[w.heap.size]? = some (.deferred (some [])) := fun jump W3 hk3 => by
        have hl3 := hk3.same _ _ (by omega) hl2 rfl
        have := run_endRound (P := Tryd.prog) jump hl3
        rw [hrec] at this ⊢
        exact ⟨this, by rw [hrec] at hl3; exact hl3, World.putObj_heap_same (Array.getElem?_eq_some_iff.1 hl3).1, (World.putObj_heap_other (by omega)).trans (hk3.same _ _ (Nat.le_refl _) hk2 rfl)⟩
      rintro e a3 W3 hp
      cases e with
      | normal =>
        obtain ⟨hk3, hkp3, hi3⟩ := hp
        obtain ⟨hr, hl3, hl4, hk4⟩ := fin none W3 hk3
        exact ⟨_, _, hr, .inl ⟨rfl, ⟨hI _ _ _ hi3 (Moves.put _ (by omega) hl3 rfl), hl4, hk4⟩, (hw2.trans hkp3).trans (kp_of_put (by omega))⟩⟩
      | ret =>
        obtain ⟨hk3, hi3⟩ := hp
        obtain ⟨hr, hl3, hl4, hk4⟩ := fin (some .ret) W3 hk3
        exact ⟨_, _, hr, .inr ⟨rfl, hIx _ _ _ hi3 (Moves.put _ (by omega) hl3 rfl), hl4, hk4⟩⟩
      | exit id => exact hp.elim
      | goto t => exact hp.elim
      | panic ch => exact hp.elim
      | outgrown => exact hp.elim
    · rintro e W2 ⟨⟨v, rfl⟩, (⟨hi, hl, hk⟩ | ⟨pre, hpre, hi, hl, hk⟩)⟩
      · exact ⟨none, _, by have := run_endLoop (P := Tryd.prog) hl (by rw [hrec]; simp); rw [hrec] at this; exact this, hdone _ _ (Nat.le_refl _) (hI _ _ _ hi (Moves.put _ (by omega) hl rfl)) ((World.putObj_heap_other (by omega)).trans hk)⟩
      · exact ⟨some .ret, _, by have := run_endLoop (P := Tryd.prog) hl (by rw [hrec]; simp); rw [hrec] at this; exact this, hstop _ pre _ (Nat.le_refl _) hpre (hIx _ _ _ hi (Moves.put _ (by omega) hl rfl)) ((World.putObj_heap_other (by omega)).trans hk)⟩
end Go.Proofs.YtngahgfppbjebaaDoor

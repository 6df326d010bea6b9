/-
  The contract of package slate's 'Read'.
-/
import Derived.Test.YtngahgfppbjebaaDoorRange
import Derived.Test.YtngahgfppbjebaaDoorSlateRd
namespace Go.Proofs.YtngahgfppbjebaaDoor
open Go.RowKit Go.Shelf
set_option linter.unusedVariables false
set_option linter.unusedSimpArgs false
attribute [local go_sem] Oper.semAt_some

theorem splitSeq_any (s : ByteArray) (w : World) : Calls Tryd.prog 43 #[.string s, .string ⟨#[32]⟩] w fun e w' =>
    e = .returned (.func (.func 96) #[] #[.pointer (some ⟨w.heap.size + 1, 0, none⟩), .pointer (some ⟨w.heap.size, 0, none⟩), .pointer (some ⟨w.heap.size + 2, 0, none⟩)]) ∧
    w' = ((w.alloc (.cells #[.string s] 9)).alloc (.cells #[.string ⟨#[32]⟩] 9)).alloc (.cells #[.int .i64 0] 3) := by
  go_enter Tryd.func43, Tryd.ntmps43
  go_wp2
  go_ret
  exact ⟨rfl, rfl⟩
theorem Boxes.made (w : World) (s : ByteArray) : Boxes (((w.alloc (.cells #[.string s] 9)).alloc (.cells #[.string ⟨#[32]⟩] 9)).alloc (.cells #[.int .i64 0] 3)) w.heap.size s := by
  refine ⟨((Blk.new w _ _).alloc _).alloc _, (Blk.new' (by simp)).alloc _, Blk.new' (by simp)⟩
def ReadAllPost (w : World) (o : Option (List Itm)) (e : Ending) (w' : World) : Prop := Only Nob w w' ∧ match o with
  | some l => ∃ g v, e = .returned (.tuple #[.pointer (some ⟨g, 0, none⟩), .bool true]) ∧ Sl w' w.heap.size g v l ∧ w.heap.size ≤ g
  | none => e = .returned (.tuple #[.pointer none, .bool false])
/-- What holds between two rounds. -/
structure RdInv (w : World) (pre : List (List UInt8)) (W : World) : Prop where
  sl : ∃ v l, readAll pre = some l ∧ l.length ≤ 16 ∧ l.length = pre.length ∧ Sl W (w.heap.size + 7) (w.heap.size + 2) v l
  r1 : Blk W w.heap.size 22 #[.pointer none]
  r2 : Blk W (w.heap.size + 1) 4 #[.bool false]
  s : Blk W (w.heap.size + 3) 22 #[.pointer (some ⟨w.heap.size + 2, 0, none⟩)]
  only : Only Nob w W
  size : w.heap.size + 7 ≤ W.heap.size
structure RdStop (w : World) (pre : List (List UInt8)) (W : World) : Prop where
  r1 : Blk W w.heap.size 22 #[.pointer none]
  r2 : Blk W (w.heap.size + 1) 4 #[.bool false]
  only : Only Nob w W
  size : w.heap.size + 7 ≤ W.heap.size
  bad : readAll pre = none ∨ 16 < pre.length
theorem own_cells {w : World} {base : Nat} {e : TypeId} {size : Nat} {v : Value} {n : Nat} {xs : List Value} (h : w.ownsRow base e size v n xs) {k : Nat} (hk : v.ownBlock = some k) : ∃ cs t r, w.heap[k]? = some (.cells cs t r) := by
  rcases h.2 with ⟨h1, _⟩ | ⟨g, cap, cur, hv, _, hc, _⟩
  · rw [h1] at hk; cases hk
  · rw [hv] at hk
    injection hk with hk
    subst hk
    exact ⟨_, _, _, hc⟩
theorem RdInv.moves {w X Y : World} {pre : List (List UInt8)} (h : RdInv w pre X) (hm : Moves (w.heap.size + 4) (w.heap.size + 7) X Y) : RdInv w pre Y := by
  obtain ⟨v, l, h1, h2, h3, h4⟩ := h.sl
  have no : ∀ k, k < w.heap.size + 4 → ¬ (k = w.heap.size + 4 ∨ (w.heap.size + 7 ≤ k ∧ ∃ o, X.heap[k]? = some o ∧ o.isCells = false)) := by
    rintro k hk (e | ⟨e, _⟩) <;> omega
  refine ⟨⟨v, l, h1, h2, h3, h4.only hm (no _ (by omega)) ?_⟩, h.r1.only hm (no _ (by omega)), h.r2.only hm (no _ (by omega)), h.s.only hm (no _ (by omega)), ?_, Nat.le_trans h.size hm.size⟩
  · rintro k hk (e | ⟨_, o, ho, hc⟩)
    · have := (h4.own_lt hk).1; omega
    · obtain ⟨cs, t, r, hx⟩ := own_cells h4.row hk
      rw [hx] at ho
      injection ho with ho
      subst ho
      cases hc
  · refine Only.after h.only hm ?_
    rintro k (e | ⟨e, _⟩) <;> exact .inr (by omega)
theorem RdStop.moves {w X Y : World} {pre : List (List UInt8)} (h : RdStop w pre X) (hm : Moves (w.heap.size + 4) (w.heap.size + 7) X Y) : RdStop w pre Y := by
  have no : ∀ k, k < w.heap.size + 4 → ¬ (k = w.heap.size + 4 ∨ (w.heap.size + 7 ≤ k ∧ ∃ o, X.heap[k]? = some o ∧ o.isCells = false)) := by
    rintro k hk (e | ⟨e, _⟩) <;> omega
  refine ⟨h.r1.only hm (no _ (by omega)), h.r2.only hm (no _ (by omega)), ?_, Nat.le_trans h.size hm.size, h.bad⟩
  refine Only.after h.only hm ?_
  rintro k (e | ⟨e, _⟩) <;> exact .inr (by omega)

theorem abstract_wpIn {F : Fence} {n : Nat} {P : Program} {c : Code} {Q : Exit → Act → World → Prop} {a : Act} {w : World} (I : World → Prop) (hI : I w) (h : ∀ w', I w' → c.wpIn F n P Q a w') : c.wpIn F n P Q a w := h w hI
theorem rd_start (w : World) (s : ByteArray) {W : World} (hW : W = ((((((w.alloc (.cells #[.pointer none] 22)).alloc (.cells #[.bool false] 4)).alloc (.cells #[.slice none 0 0] 77)).alloc (.cells #[.pointer (some ⟨w.heap.size + 1 + 1, 0, none⟩)] 22)).alloc (.cells #[.string s] 9)).alloc (.cells #[.string ⟨#[32]⟩] 9)).alloc (.cells #[.int .i64 0] 3)) :
    Boxes W (w.heap.size + 4) s ∧ RdInv w [] W ∧ W.heap.size = w.heap.size + 7 := by
  have hsz : W.heap.size = w.heap.size + 7 := by rw [hW]; simp
  refine ⟨?_, ⟨⟨.slice none 0 0, [], rfl, by simp, rfl, ?_, World.ownsRow_nil _ _ _ _, by simp [Value.ownBlock]⟩, ?_, ?_, ?_, ?_, by omega⟩, hsz⟩
  · have h4 : ((((w.alloc (.cells #[.pointer none] 22)).alloc (.cells #[.bool false] 4)).alloc (.cells #[.slice none 0 0] 77)).alloc (.cells #[.pointer (some ⟨w.heap.size + 1 + 1, 0, none⟩)] 22)).heap.size = w.heap.size + 4 := by simp
    have := Boxes.made ((((w.alloc (.cells #[.pointer none] 22)).alloc (.cells #[.bool false] 4)).alloc (.cells #[.slice none 0 0] 77)).alloc (.cells #[.pointer (some ⟨w.heap.size + 1 + 1, 0, none⟩)] 22)) s
    rw [h4] at this
    rw [hW]
    exact this
  · rw [hW]
    exact ((((Blk.new' (by simp)).alloc _).alloc _).alloc _).alloc _
  · rw [hW]
    exact ((((((Blk.new w _ _).alloc _).alloc _).alloc _).alloc _).alloc _).alloc _
  · rw [hW]
    exact (((((Blk.new' (by simp)).alloc _).alloc _).alloc _).alloc _).alloc _
  · rw [hW]
    exact (((Blk.new' (by simp)).alloc _).alloc _).alloc _
  · rw [hW]
    exact (((((((Only.refl _ w).alloc _).alloc _).alloc _).alloc _).alloc _).alloc _).alloc _
theorem isEmpty_false {s : ByteArray} (h : s.data.toList ≠ []) : s.toList.isEmpty = false := by
  rw [ByteArray.toList_eq]
  cases hs : s.data.toList with
  | nil => exact absurd hs h
  | cons => rfl
theorem isEmpty_true {s : ByteArray} (h : s.data.toList = []) : s.toList.isEmpty = true := by
  rw [ByteArray.toList_eq, h]
  rfl
theorem readS_ne {s : List UInt8} (h : s ≠ []) : readS s = if (wordsB s).length ≤ 16 then readAll (wordsB s) else none := by
  unfold readS wordsOf
  rw [if_neg h]
theorem readAll_prefix : ∀ {p q : List (List UInt8)}, p <+: q → readAll p = none → readAll q = none
  | p, _, ⟨r, rfl⟩, h => by
    induction p with
    | nil => cases h
    | cons a p ih =>
      simp only [List.cons_append, readAll] at h ⊢
      cases ha : readW a with
      | none => rfl
      | some x =>
        rw [ha] at h
        simp only [Option.bind_some] at h ⊢
        cases hp : readAll p with
        | none => rw [ih hp]; rfl
        | some l => rw [hp] at h; cases h
theorem stop_none {s : List UInt8} {pre : List (List UInt8)} (h : s ≠ []) (hp : pre <+: wordsB s) (hb : readAll pre = none ∨ 16 < pre.length) : readS s = none := by
  rw [readS_ne h]
  rcases hb with hb | hb
  · split
    · exact readAll_prefix hp hb
    · rfl
  · have := hp.length_le
    rw [if_neg (by omega)]
theorem wordsB_len : ∀ (s : List UInt8) (w : List UInt8), w ∈ wordsB s → w.length ≤ s.length
  | [], w, h => by
    have : w = [] := by simpa [wordsB] using h
    subst this; simp
  | b :: l, w, h => by
    by_cases hb : b = 32
    · subst hb
      rw [wordsB_hit] at h
      rcases List.mem_cons.1 h with h | h
      · subst h; simp
      · have := wordsB_len l w h; simp; omega
    · cases hw : wordsB l with
      | nil => exact absurd hw (wordsB_ne l)
      | cons u r =>
        rw [wordsB_miss hb hw] at h
        rcases List.mem_cons.1 h with h | h
        · subst h
          have := wordsB_len l u (by rw [hw]; simp)
          simp; omega
        · have := wordsB_len l w (by rw [hw]; simp [h])
          simp; omega
theorem kf_of_only {S : Nat → Prop} {B0 : Nat} {X Y : World} (h : Only S X Y) (hc : ∀ k, S k → B0 ≤ k → ∃ cs t r, X.heap[k]? = some (.cells cs t r)) : KeepsFrom B0 X Y := by
  refine ⟨h.size, fun k o hB hk ho => ?_⟩
  have hlt : k < X.heap.size := by
    rcases Nat.lt_or_ge k X.heap.size with h | h
    · exact h
    · rw [Array.getElem?_eq_none h] at hk; cases hk
  by_cases hs : S k
  · obtain ⟨cs, t, r, hx⟩ := hc k hs hB
    rw [hx] at hk
    injection hk with hk
    subst hk
    cases ho
  · exact (h.block k hlt hs).trans hk
/-- The two ways of a round. -/
def RdWays (w : World) (pre : List (List UInt8)) (x : List UInt8) (W : World) (e : Ending) (W' : World) : Prop :=
    (e = .returned (.bool true) ∧ RdInv w (pre ++ [x]) W' ∧ KeepsFrom (w.heap.size + 7) W W' ∧ KpB (w.heap.size + 4) W W') ∨ (e = .returned (.bool false) ∧ (readAll (pre ++ [x]) = none ∨ 16 < (pre ++ [x]).length) ∧ RdInv w pre W' ∧ KeepsFrom (w.heap.size + 7) W W')
theorem RdWays.cells {w W W' : World} {pre : List (List UInt8)} {x : List UInt8} {e : Ending} (h : RdWays w pre x W e W') : Blk W' w.heap.size 22 #[.pointer none] ∧ Blk W' (w.heap.size + 1) 4 #[.bool false] := by
  rcases h with ⟨_, h, _⟩ | ⟨_, _, h, _⟩
  · exact ⟨h.r1, h.r2⟩
  · exact ⟨h.r1, h.r2⟩
/-- One round: what 'read' gives. -/
theorem rd_more {w W W' : World} {pre : List (List UInt8)} {x : List UInt8} {v : Value} {l : List Itm} {o : Option Itm} {e : Ending} (h : RdInv w pre W) (hl : readAll pre = some l) (hlen : l.length = pre.length) (h16 : l.length ≤ 16)
    (hv : Sl W (w.heap.size + 7) (w.heap.size + 2) v l) (hr : ReadPost W (w.heap.size + 7) (w.heap.size + 2) v l (readW x) e W') :
    RdWays w pre x W e W' := by
  rcases hr with ⟨it, h1, h2, v', h3, h4, h5, h6⟩ | ⟨h1, h2, h3⟩
  · have ho : Only (fun k => k = w.heap.size + 2 ∨ w.heap.size + 7 ≤ k) W W' := h5.mono (fun k _ hk => by
      rcases hk with hk | hk
      · exact .inl hk
      · exact .inr (hv.own_lt hk).1)
    refine .inl ⟨h3, ⟨⟨v', l ++ [it], ?_, by simp; omega, by simp [hlen], h4⟩, h.r1.only ho (by omega), h.r2.only ho (by omega), h.s.only ho (by omega), Only.after h.only ho (fun k hk => .inr (by omega)), Nat.le_trans h.size ho.size⟩, kf_of_only h5 ?_, KpB.of_only h5 (by have := h.size; omega) ?_⟩
    · rw [readAll_snoc, hl, h1]
      rfl
    · rintro k (hk | hk) hk2
      · omega
      · exact own_cells hv.row hk
    · rintro k hk1 hk2 (hk | hk)
      · omega
      · have := (hv.own_lt hk).1; omega
  · refine .inr ⟨h2, ?_, ⟨⟨v, l, hl, h16, hlen, hv.nob h3⟩, h.r1.only h3 (fun h => h), h.r2.only h3 (fun h => h), h.s.only h3 (fun h => h), h.only.trans h3, Nat.le_trans h.size h3.size⟩, kf_of_only h3 (fun _ h => h.elim)⟩
    rcases h1 with h1 | h1
    · left
      rw [readAll_snoc, hl, h1]
      rfl
    · right
      simp
      omega
theorem ownsRow_low {w : World} {B B' : Nat} {e : TypeId} {size : Nat} {v : Value} {n : Nat} {xs : List Value} (h : w.ownsRow B e size v n xs) (hB : B' ≤ B) : w.ownsRow B' e size v n xs := by
  obtain ⟨h1, h2⟩ := h
  refine ⟨h1, ?_⟩
  rcases h2 with h2 | ⟨g, cap, cur, hv, hb, hr⟩
  · exact .inl h2
  · exact .inr ⟨g, cap, cur, hv, by omega, hr⟩
/-- The function's end behind the loop: its results lie in their two cells. -/
theorem rd_end {W w : World} {tmps : Array Value} {D : Nat} {v1 v2 : Value} {R : Ending → World → Prop} (hk : W.heap[D]? = some (.deferred (some []))) (hD : w.heap.size + 7 ≤ D)
    (h1 : Blk W w.heap.size 22 #[v1]) (h2 : Blk W (w.heap.size + 1) 4 #[v2]) (ht : tmps[2]? = some (.pointer (some ⟨w.heap.size, 0, none⟩))) (ht2 : tmps[3]? = some (.pointer (some ⟨w.heap.size + 1, 0, none⟩)))
    (hR : ∀ W', Only (fun k => k = D) W W' → R (.returned (.tuple #[v1, v2])) W') :
    bodyPostM Fence.wide 6 Tryd.prog Tryd.f21 R Exit.ret { tmps := tmps, defers := [{ target := .collected D, args := #[] }] } W := by
  refine ⟨by simp, .inl ⟨_, _, rfl, run_takeDeferred hk, ?_⟩⟩
  have ho : Only (fun k => k = D) W (W.putObj D (.deferred none)) := Only.of_grown (grownBy_putObj' W D _) (fun k e _ => by cases e; rfl)
  have c1 := (h1.only ho (by omega)).cell 0
  have c2 := (h2.only ho (by omega)).cell 0
  simp at c1 c2
  refine ⟨.tuple #[v1, v2], ?_, hR _ ho⟩
  simp [results, Tryd.results21, go_sem, ht, ht2, c1, c2]
set_option maxRecDepth 100000 in
set_option maxHeartbeats 2000000 in
theorem readAll_any (s : ByteArray) (hs : s.size ≤ 1000000000) (w : World) : Calls Tryd.prog 21 #[.string s] w (ReadAllPost w (readS s.data.toList)) := by
  refine (callsIn_wide (n := 6)).1 ?_
  refine callsIn_of_wp_marks Tryd.func21 rfl trivial ?_ rfl
  simp only [Tryd.ntmps21, List.size_toArray, List.length_cons, List.length_nil, Nat.reduceAdd, Nat.reduceSub, Array.replicate_succ, Array.replicate_zero, List.push_toArray, List.append_toArray, List.nil_append, List.cons_append]
  have hfn1 : Fence.wide.fn 15 := trivial
  have hfn2 : Fence.wide.fn 43 := trivial
  have HN : ∀ W, CallsIn Fence.wide 5 Tryd.prog 15 #[] W fun e w' => e = .returned (.pointer (some ⟨W.heap.size, 0, none⟩)) ∧ w' = W.alloc (.cells #[.slice none 0 0] 77) := fun W => callsIn_wide.2 (new_any W)
  have HNH := hide HN
  have HSH := hide (fun W => callsIn_wide (n := 5).2 (splitSeq_any s W))
  clear HN
  by_cases h0 : s.data.toList = []
  · have he := isEmpty_true h0
    gi_wp2_with (gi_at_call 15; refine (HNH.out _).mono ?_; rintro e w' ⟨rfl, rfl⟩)
    refine ⟨.tuple #[.pointer (some ⟨w.heap.size + 1 + 1, 0, none⟩), .bool true], ?_, ?_⟩
    · simp [results, Tryd.results21, go_sem]
    · refine ⟨((((Only.refl _ w).alloc _).alloc _).alloc _).alloc _, ?_⟩
      rw [h0]
      refine ⟨w.heap.size + 1 + 1, .slice none 0 0, rfl, ⟨(Blk.new' (by simp)).alloc _, World.ownsRow_nil _ _ _ _, by simp [Value.ownBlock]⟩, by omega⟩
  · have he := isEmpty_false h0
    gi_wp2_with (first
      | (gi_at_call 15; refine (HNH.out _).mono ?_; rintro e w' ⟨rfl, rfl⟩)
      | (gi_at_call 43; refine (HSH.out _).mono ?_; rintro e w' ⟨rfl, rfl⟩))
    refine abstract_wpIn (fun W0 => Boxes W0 (w.heap.size + 4) s ∧ RdInv w [] W0 ∧ W0.heap.size = w.heap.size + 7) (rd_start w s rfl) ?_
    rintro W0 ⟨hb, hI, hsz⟩
    refine wpIn_range_split (B := w.heap.size + 4) (s := s) (by omega) hs rfl hb rfl (RdInv w) (RdStop w) ?_ ?_ hI
      (fun x => { tmps := #[.string s, undef, .pointer (some ⟨w.heap.size, 0, none⟩), .pointer (some ⟨w.heap.size + 1, 0, none⟩), .pointer (some ⟨w.heap.size + 1 + 1 + 1, 0, none⟩), .string (ofL x), .pointer (some ⟨w.heap.size + 1 + 1, 0, none⟩), .string s, .bool false, undef, .string s,
        .func (.func 96) #[] #[.pointer (some ⟨w.heap.size + 4 + 1, 0, none⟩), .pointer (some ⟨w.heap.size + 4, 0, none⟩), .pointer (some ⟨w.heap.size + 4 + 2, 0, none⟩)], .string (ofL x), undef, undef, undef, undef, undef], defers := [] }) ?assign ?body ?done ?stop
    · intro p X Y h hm
      rw [hsz] at hm
      exact h.moves hm
    · intro p X Y h hm
      rw [hsz] at hm
      exact h.moves hm
    case assign =>
      intro l x W K hK
      gi_wp2
      exact hK
    case body =>
      rintro l pre x W hI hpre hle
      obtain ⟨v, m, hl, h16, hlen, hv⟩ := hI.sl
      have hc1 := hI.s.cell 0
      simp at hc1
      have hx : (ofL x).size ≤ 1000000000 := by
        have hm : x ∈ wordsB s.data.toList := hpre.subset (by simp)
        have := wordsB_len _ _ hm
        have h2 : s.data.toList.length = s.size := by simp
        have h3 : (ofL x).size = x.length := by simp [ofL, ByteArray.size]
        omega
      have hfn3 : Fence.wide.fn 44 := trivial
      have HR := hide (CallsIn.inRound l (callsIn_wide (n := 6 - 1 - 1 - 1).2 (read_any W _ _ v m (ofL x) hx hv (by omega) hI.size)))
      rw [ofL_data] at HR
      have HM := hide (fun (e : Ending) (W' : World) => rd_more (x := x) (e := e) (W' := W') (o := none) hI hl hlen h16 hv)
      have HZ := hsz
      clear hI hv hl hlen h16 hpre hle hb hsz
      gi_wp2_with (gi_at_call 44; refine (HR.out).mono ?_; intro e W' hr; have hk := HM.out e W' hr; obtain ⟨k1, k2⟩ := hk.cells; have q1 := k1.cell 0; have q2 := k2.cell 0; have q3 := k1.frozen 0; have q4 := k2.frozen 0; have hz := k2.lt; simp at q1 q2; clear hr k1 k2; rcases hk with ⟨rfl, h1, h2, h3⟩ | ⟨rfl, h1, h2, h3⟩)
      · exact ⟨HZ ▸ h2, h3, h1⟩
      · refine ⟨HZ ▸ ((h3.trans ((KeepsOthers.setCell _ _ _).from _)).trans ((KeepsOthers.setCell _ _ _).from _)), ?_, ?_, ?_, ?_, h1⟩
        · have := (h2.r1.set_ 0 (.pointer none)).far (p := ⟨w.heap.size + 1, 0, none⟩) (by simp) (.bool false)
          simpa using this
        · have := (h2.r2.far (p := ⟨w.heap.size, 0, none⟩) (by simp) (.pointer none)).set_ 0 (.bool false)
          simpa using this
        · exact (h2.only.setCell (p := ⟨w.heap.size, 0, none⟩) (.inr (Nat.le_refl _)) _).setCell (p := ⟨w.heap.size + 1, 0, none⟩) (.inr (Nat.le_succ _)) _
        · simpa using h2.size
    case done =>
      intro D W hD hI hk
      obtain ⟨v, m, hl, h16, hlen, hv⟩ := hI.sl
      have hc1 := hI.s.cell 0
      have q1 := hI.r1.cell 0
      have q2 := hI.r2.cell 0
      have q3 := hI.r1.frozen 0
      have q4 := hI.r2.frozen 0
      have hz := hI.size
      simp at hc1 q1 q2
      have HI := hide hI
      have HV := hide hv
      have HK := hide hk
      have HE : Hid (readS s.data.toList = some m) := hide (by rw [readS_ne h0, if_pos (by omega), hl])
      clear hI hv hl hlen h16 hb hk
      gi_wp2
      refine rd_end (W := (W.setCell ⟨w.heap.size, 0, none⟩ (.pointer (some ⟨w.heap.size + 2, 0, none⟩))).setCell ⟨w.heap.size + 1, 0, none⟩ (.bool true)) (v1 := .pointer (some ⟨w.heap.size + 2, 0, none⟩)) (v2 := .bool true) ?_ (by omega) ?_ ?_ rfl rfl ?_
      · have e1 := (KeepsOthers.setCell (W.setCell ⟨w.heap.size, 0, none⟩ (.pointer (some ⟨w.heap.size + 2, 0, none⟩))) ⟨w.heap.size + 1, 0, none⟩ (.bool true)).same D _ ((KeepsOthers.setCell W ⟨w.heap.size, 0, none⟩ (.pointer (some ⟨w.heap.size + 2, 0, none⟩))).same D _ HK.out rfl) rfl
        exact e1
      · have := (HI.out.r1.set_ 0 (.pointer (some ⟨w.heap.size + 2, 0, none⟩))).far (p := ⟨w.heap.size + 1, 0, none⟩) (by simp) (.bool true)
        simpa using this
      · have := (HI.out.r2.far (p := ⟨w.heap.size, 0, none⟩) (by simp) (.pointer (some ⟨w.heap.size + 2, 0, none⟩))).set_ 0 (.bool true)
        simpa using this
      · intro W' ho
        have ho2 : Only (fun k => k = w.heap.size ∨ k = w.heap.size + 1 ∨ k = D) W W' := by
          refine Only.after (S' := fun k => k = D) ?_ ho (fun k hk => .inl (.inr (.inr hk)))
          exact (Only.setCell (p := ⟨w.heap.size, 0, none⟩) (Only.refl _ W) (.inl (.inl rfl)) _).setCell (p := ⟨w.heap.size + 1, 0, none⟩) (.inl (.inr (.inl rfl))) _
        refine ⟨Only.after HI.out.only ho2 (fun k hk => .inr (by rcases hk with hk | hk | hk <;> omega)), ?_⟩
        rw [HE.out]
        refine ⟨w.heap.size + 2, v, rfl, ?_, by omega⟩
        have hs2 : Sl W' (w.heap.size + 7) (w.heap.size + 2) v m := HV.out.only ho2 (by omega) (fun k hk => by
          rintro (e | e | e)
          · have := (HV.out.own_lt hk).1; omega
          · have := (HV.out.own_lt hk).1; omega
          · obtain ⟨cs, t, r, hx⟩ := own_cells HV.out.row hk
            subst e
            rw [HK.out] at hx
            cases hx)
        exact ⟨hs2.cell, ownsRow_low hs2.row (by omega), hs2.apart⟩
    case stop =>
      intro D pre W hD hpre hI hk
      have HI := hide hI
      have HK := hide hk
      have HE : Hid (readS s.data.toList = none) := hide (stop_none h0 hpre hI.bad)
      clear hI hk hb hpre
      gi_wp2
      refine rd_end (W := W) (v1 := .pointer none) (v2 := .bool false) HK.out (by omega) HI.out.r1 HI.out.r2 rfl rfl ?_
      intro W' ho
      refine ⟨Only.after HI.out.only ho (fun k hk => .inr (by omega)), ?_⟩
      rw [HE.out]
end Go.Proofs.YtngahgfppbjebaaDoor

/-
  Plain: what the draws' Prog makes. No program in sight.
  Plain: the programs that are drawn may run; their parts. No program in sight.
-/
import Derived.Test.YtngahgfppbjebaaDoorShut
namespace Go.Proofs.YtngahgfppbjebaaDoor
open Go.RowKit
set_option linter.unusedVariables false
set_option linter.unusedSimpArgs false

def one (n : Int) : PIns := ⟨n, 0, 0, 0, 0⟩
/-- One draw: what is added, what is open then. -/
def makeAt (w : Int) (calm : Bool) (l : List PIns) (st : List Int) (k : PIns) : List PIns × List Int :=
  if w = 20 ∧ st.length < 5 then (l ++ [one 14], 14 :: st)
  else if (w = 21 ∨ w = 22) ∧ st.length < 5 then (l ++ [one 17], 17 :: st)
  else if (w = 23 ∨ w = 24) ∧ st ≠ [] then shutP l st
  else if w = 25 ∧ st.head? = some 14 then (l ++ [one 16], st)
  else if (w = 26 ∨ w = 27) ∧ calm = false ∧ st ≠ [] then (l ++ [⟨13, winB k.a 0 6, 0, l.length + 2, 0⟩, one 20], st)
  else if w = 28 ∧ calm = false then (l ++ [⟨13, winB k.a 0 6, 0, l.length + 2, 0⟩, one 20], st)
  else if w = 29 ∧ calm = false then (l ++ [⟨13, winB k.a 0 6, 0, l.length + 2, 0⟩, one 22], st)
  else if w = 30 ∨ w = 31 then (l ++ [⟨13, winB k.b 0 6, 0, l.length + 2, 0⟩, simpleP k], st)
  else if w = 32 ∧ calm = false then (l ++ [simpleP k, ⟨13, winB k.b 0 6, 0, l.length, 0⟩], st)
  else (l ++ [simpleP k], st)
def makeL (most : Int) (calm : Bool) : List PIns → List PIns → List Int → List PIns × List Int
  | [], l, st => (l, st)
  | k :: r, l, st => if most < (l.length : Int) + 2 * st.length + 5 then (l, st) else makeL most calm r (makeAt (winB k.op 0 40) calm l st k).1 (makeAt (winB k.op 0 40) calm l st k).2
def closeOf : List Int → List PIns
  | [] => []
  | x :: st => (if x = 14 then [one 15] else if x = 17 then [one 18, one 19] else [one 19]) ++ closeOf st
def makeQ (most : Int) (calm : Bool) (ks : List PIns) : List PIns := (makeL most calm ks [] []).1 ++ closeOf (makeL most calm ks [] []).2
def makeP (most : Int) (calm : Bool) (ks : List PIns) : List PIns := if makeQ most calm ks = [] then [⟨1, 0, 0, 0, 1⟩] else makeQ most calm ks
def weight : List Int → Nat
  | [] => 0
  | x :: st => (if x = 17 then 2 else 1) + weight st
theorem weight_le (st : List Int) : weight st ≤ 2 * st.length := by
  induction st with
  | nil => exact Nat.le_refl _
  | cons x r ih =>
    simp only [weight, List.length_cons]
    split <;> omega
theorem shut_close (l : List PIns) (st : List Int) (h : st ≠ []) : (shutP l st).1 ++ closeOf (shutP l st).2 = l ++ closeOf st ∧ weight (shutP l st).2 < weight st ∧ (shutP l st).1.length = l.length + 1 := by
  cases st with
  | nil => exact absurd rfl h
  | cons x r =>
    by_cases h1 : x = 14
    · rw [shutP_open l r h1]
      subst h1
      simp [closeOf, weight, one]
    · by_cases h2 : x = 17
      · rw [shutP_either l r h2]
        subst h2
        simp [closeOf, weight, one]
      · rw [shutP_done l r h1 h2]
        simp [closeOf, weight, one, h1, h2]
theorem make_drop (most : Int) (calm : Bool) (ks l : List PIns) (st : List Int) (i : Nat) (h : i < ks.length) :
    makeL most calm (ks.drop i) l st = if most < (l.length : Int) + 2 * st.length + 5 then (l, st) else makeL most calm (ks.drop (i + 1)) (makeAt (winB (ks.getD i PIns.none).op 0 40) calm l st (ks.getD i PIns.none)).1 (makeAt (winB (ks.getD i PIns.none).op 0 40) calm l st (ks.getD i PIns.none)).2 := by
  rw [List.drop_eq_getElem_cons h, List.getD_eq_getElem?_getD, List.getElem?_eq_getElem h]
  rfl
end Go.Proofs.YtngahgfppbjebaaDoor
namespace Go.Proofs.YtngahgfppbjebaaDoor
set_option linter.unusedVariables false
set_option linter.unusedSimpArgs false

/-- What is open ahead of the k-th instruction, by what began it. -/
def opens (l : List PIns) (st : List Int) : List Int := st.map fun t => opOf l t.toNat
def pushS (st : List Int) (op : Int) : List Int := if op = 14 ∨ op = 17 then op :: st else if op = 18 then 18 :: st.tail else if op = 15 ∨ op = 19 then st.tail else st

theorem getD_left {l r : List PIns} {k : Nat} (h : k < l.length) : (l ++ r).getD k PIns.none = l.getD k PIns.none := by
  rw [List.getD_eq_getElem?_getD, List.getD_eq_getElem?_getD, List.getElem?_append_left h]
theorem getD_last (l : List PIns) (x : PIns) (r : List PIns) : (l ++ x :: r).getD l.length PIns.none = x := by
  rw [List.getD_eq_getElem?_getD, List.getElem?_append_right (Nat.le_refl _)]
  simp
theorem opOf_left {l r : List PIns} {k : Nat} (h : k < l.length) : opOf (l ++ r) k = opOf l k := by unfold opOf; rw [getD_left h]
theorem opOf_last (l : List PIns) (x : PIns) (r : List PIns) : opOf (l ++ x :: r) l.length = x.op := by unfold opOf; rw [getD_last]
theorem stk_left (l r : List PIns) (k : Nat) (h : k ≤ l.length) : stk (l ++ r) k = stk l k := by
  induction k with
  | zero => rfl
  | succ k ih =>
    unfold stk
    rw [ih (by omega), opOf_left (by omega)]
theorem opens_left (l r : List PIns) (k : Nat) (h : k ≤ l.length) : opens (l ++ r) (stk l k) = opens l (stk l k) := by
  unfold opens
  apply List.map_congr_left
  intro t ht
  have := stk_lt l k t ht
  exact opOf_left (by omega)
theorem opAt_opens (l : List PIns) (st : List Int) : opAt l st = (opens l st).head?.getD 0 := by
  cases st <;> rfl
theorem regAt_left (l r : List PIns) (k : Nat) (h : k ≤ l.length) : regAt (l ++ r) k = regAt l k := by unfold regAt; rw [stk_left l r k h]
theorem errAt_left (l r : List PIns) (k : Nat) (h : k < l.length) : errAt (l ++ r) k = errAt l k := by
  unfold errAt
  rw [stk_left l r k (by omega), getD_left h]
  have : opAt (l ++ r) (stk l k) = opAt l (stk l k) := by rw [opAt_opens, opAt_opens, opens_left l r k (by omega)]
  unfold wrongP
  rw [this]
theorem wrong_none {l : List PIns} {st : List Int} {x : PIns} (h1 : mayP x = true) (h2 : 0 < endsI x.op → opAt l st = endsI x.op) (h3 : x.op = 16 → opAt l st = 14) (h4 : beginsB x.op = true → st.length < 5) : wrongP l st x = 0 := by
  unfold wrongP
  rw [if_neg (by simp [h1]), if_neg (fun h => h.2 (h2 h.1)), if_neg (fun h => h.2 (h3 h.1)), if_neg (fun h => by have := h4 h.1; omega)]
theorem ends_cases {op : Int} (h : 0 < endsI op) : op = 15 ∧ endsI op = 14 ∨ op = 18 ∧ endsI op = 17 ∨ op = 19 ∧ endsI op = 18 := by
  unfold endsI at h ⊢
  by_cases h1 : op = 15
  · left; simp [h1]
  · by_cases h2 : op = 18
    · right; left; simp [h2]
    · by_cases h3 : op = 19
      · right; right; simp [h3]
      · simp [h1, h2, h3] at h
theorem begins_iff (op : Int) : beginsB op = true ↔ op = 14 ∨ op = 17 := by simp [beginsB]
theorem behind_opens {l : List PIns} {st : List Int} {k : Nat} (x : PIns) (hk : opOf l k = x.op) : opens l (behindP st k x.op) = pushS (opens l st) x.op := by
  unfold behindP tailP pushS
  by_cases h1 : x.op = 14 ∨ x.op = 17
  · have e : endsI x.op = 0 := by rcases h1 with h | h <;> rw [h] <;> decide
    rw [if_pos (by rw [(begins_iff _).2 h1]; rfl), if_pos h1, e, if_neg (by decide)]
    simp [opens, hk]
  · have b : beginsB x.op = false := by
      cases hb : beginsB x.op
      · rfl
      · exact absurd ((begins_iff _).1 hb) h1
    rw [if_neg h1, b]
    by_cases h2 : x.op = 18
    · rw [if_pos (by simp [h2]), if_pos h2, if_pos (by rw [h2]; decide)]
      simp [opens, hk, h2]
    · rw [if_neg (by simp [h2]), if_neg h2]
      by_cases h3 : x.op = 15 ∨ x.op = 19
      · rw [if_pos h3, if_pos (by rcases h3 with h | h <;> rw [h] <;> decide)]
        simp [opens]
      · rw [if_neg h3, if_neg (fun h => by rcases ends_cases h with h | h | h <;> simp_all)]

/-- Instructions so far that may stand as they do; what is open behind them. -/
structure Half (l : List PIns) (st : List Int) : Prop where
  fine : fine l l.length
  opens : opens l (stk l l.length) = st
structure Good (l : List PIns) (st : List Int) : Prop extends Half l st where
  jumps : ∀ k, k < l.length → jumpsB (opOf l k) = true → 0 ≤ (l.getD k PIns.none).c ∧ (l.getD k PIns.none).c ≤ l.length ∧ stk l (l.getD k PIns.none).c.toNat = stk l k
theorem Good.nil : Good [] [] := ⟨⟨fun _ h => by simp at h, rfl⟩, fun _ h => by simp at h⟩
theorem stk_last (l : List PIns) (x : PIns) (r : List PIns) : stk (l ++ x :: r) (l.length + 1) = behindP (stk l l.length) l.length x.op := by
  show behindP (stk (l ++ x :: r) l.length) l.length (opOf (l ++ x :: r) l.length) = _
  rw [opOf_last, stk_left l _ _ (Nat.le_refl _)]
theorem Half.push {l : List PIns} {st : List Int} {x : PIns} (h : Half l st) (hm : mayP x = true) (h1 : 0 < endsI x.op → st.head? = some (endsI x.op)) (h2 : x.op = 16 → st.head? = some 14) (h3 : beginsB x.op = true → st.length < 5) :
    Half (l ++ [x]) (pushS st x.op) := by
  have hl : (l ++ [x]).length = l.length + 1 := by simp
  refine ⟨fun j hj => ?_, ?_⟩
  · rw [hl] at hj
    rcases Nat.lt_or_ge j l.length with hlt | hge
    · rw [errAt_left l _ j hlt]
      exact h.fine j hlt
    · obtain rfl : j = l.length := by omega
      unfold errAt
      rw [stk_left l _ _ (Nat.le_refl _), getD_last]
      have e : opAt (l ++ [x]) (stk l l.length) = st.head?.getD 0 := by rw [opAt_opens, opens_left l _ _ (Nat.le_refl _), h.opens]
      have hlen : (stk l l.length).length = st.length := by rw [← h.opens]; simp [Go.Proofs.YtngahgfppbjebaaDoor.opens]
      exact wrong_none hm (fun h5 => by rw [e, h1 h5]; rfl) (fun h5 => by rw [e, h2 h5]; rfl) (fun h5 => by rw [hlen]; exact h3 h5)
  · rw [hl, stk_last, behind_opens x (opOf_last l x []), opens_left l _ _ (Nat.le_refl _), h.opens]
theorem Good.push {l : List PIns} {st : List Int} {x : PIns} (h : Good l st) (hm : mayP x = true) (h1 : 0 < endsI x.op → st.head? = some (endsI x.op)) (h2 : x.op = 16 → st.head? = some 14) (h3 : beginsB x.op = true → st.length < 5)
    (hj : jumpsB x.op = false) : Good (l ++ [x]) (pushS st x.op) := by
  refine ⟨h.toHalf.push hm h1 h2 h3, fun k hk hjk => ?_⟩
  have hl : (l ++ [x]).length = l.length + 1 := by simp
  rw [hl] at hk
  rcases Nat.lt_or_ge k l.length with hlt | hge
  · rw [opOf_left hlt] at hjk
    obtain ⟨a, b, c⟩ := h.jumps k hlt hjk
    rw [getD_left hlt]
    refine ⟨a, by rw [hl]; omega, ?_⟩
    rw [stk_left l _ _ (by omega), stk_left l _ _ (by omega)]
    exact c
  · obtain rfl : k = l.length := by omega
    rw [opOf_last, hj] at hjk
    cases hjk

/-- An instruction that neither begins, ends, leaves a part nor jumps. -/
def plainI (op : Int) : Prop := 1 ≤ op ∧ op ≤ 11 ∨ 20 ≤ op ∧ op ≤ 22
theorem plain_ends {op : Int} (h : plainI op ∨ op = 13 ∨ op = 16) : endsI op = 0 := by
  unfold plainI at h
  unfold endsI
  rw [if_neg (by omega), if_neg (by omega), if_neg (by omega)]
theorem plain_begins {op : Int} (h : plainI op ∨ op = 13 ∨ op = 16) : beginsB op = false := by
  unfold plainI at h
  cases hb : beginsB op
  · rfl
  · have := (begins_iff op).1 hb
    omega
theorem plain_push {op : Int} (h : plainI op ∨ op = 13 ∨ op = 16) (st : List Int) : pushS st op = st := by
  unfold plainI at h
  unfold pushS
  rw [if_neg (by omega), if_neg (by omega), if_neg (by omega)]
theorem plain_behind {op : Int} (h : plainI op ∨ op = 13 ∨ op = 16) (st : List Int) (k : Int) : behindP st k op = st := by
  unfold behindP tailP
  rw [plain_begins h, plain_ends h]
  unfold plainI at h
  rw [if_neg (by simp; omega), if_neg (by decide)]
theorem plain_jumps {op : Int} (h : plainI op) : jumpsB op = false := by
  unfold plainI at h
  unfold jumpsB
  simp
  omega
theorem Half.plain {l : List PIns} {st : List Int} {x : PIns} (h : Half l st) (hm : mayP x = true) (hp : plainI x.op ∨ x.op = 13) : Half (l ++ [x]) st := by
  have hp' : plainI x.op ∨ x.op = 13 ∨ x.op = 16 := by rcases hp with h | h <;> simp [h]
  have h16 : x.op ≠ 16 := by
    rcases hp with h1 | h1
    · unfold plainI at h1; omega
    · omega
  have := h.push hm (fun h => by rw [plain_ends hp'] at h; omega) (fun h => absurd h h16) (fun h => by rw [plain_begins hp'] at h; cases h)
  rwa [plain_push hp'] at this
theorem Good.plain {l : List PIns} {st : List Int} {x : PIns} (h : Good l st) (hm : mayP x = true) (hp : plainI x.op) : Good (l ++ [x]) st := by
  have hp' : plainI x.op ∨ x.op = 13 ∨ x.op = 16 := Or.inl hp
  have := h.push hm (fun h => by rw [plain_ends hp'] at h; omega) (fun h => by unfold plainI at hp; omega) (fun h => by rw [plain_begins hp'] at h; cases h) (plain_jumps hp)
  rwa [plain_push hp'] at this
theorem Good.pair {l : List PIns} {st : List Int} {x y : PIns} (h : Good l st) (hx : mayP x = true) (hy : mayP y = true)
    (hp : x.op = 13 ∧ plainI y.op ∧ x.c = (l.length : Int) + 2 ∨ plainI x.op ∧ y.op = 13 ∧ y.c = (l.length : Int)) : Good (l ++ [x, y]) st := by
  have e2 : l ++ [x, y] = (l ++ [x]) ++ [y] := by simp
  have h1 : Half (l ++ [x]) st := h.toHalf.plain hx (by rcases hp with h | h <;> simp [h.1])
  have h2 : Half (l ++ [x, y]) st := by
    rw [e2]
    exact h1.plain hy (by rcases hp with h | h <;> simp [h.2.1])
  have hx' : plainI x.op ∨ x.op = 13 ∨ x.op = 16 := by rcases hp with h | h <;> simp [h.1]
  have hy' : plainI y.op ∨ y.op = 13 ∨ y.op = 16 := by rcases hp with h | h <;> simp [h.2.1]
  have s0 : stk (l ++ [x, y]) l.length = stk l l.length := stk_left l _ _ (Nat.le_refl _)
  have s1 : stk (l ++ [x, y]) (l.length + 1) = stk l l.length := by rw [stk_last, plain_behind hx']
  have o1 : opOf (l ++ [x, y]) (l.length + 1) = y.op := by
    have := opOf_last (l ++ [x]) y []
    rw [← e2] at this
    simpa using this
  have g1 : (l ++ [x, y]).getD (l.length + 1) PIns.none = y := by simp
  have s2 : stk (l ++ [x, y]) (l.length + 2) = stk l l.length := by
    show behindP (stk (l ++ [x, y]) (l.length + 1)) ((l.length + 1 : Nat) : Int) (opOf (l ++ [x, y]) (l.length + 1)) = _
    rw [s1, o1, plain_behind hy']
  have hl : (l ++ [x, y]).length = l.length + 2 := by simp
  refine ⟨h2, fun k hk hjk => ?_⟩
  rw [hl] at hk
  rcases Nat.lt_or_ge k l.length with hlt | hge
  · rw [opOf_left hlt] at hjk
    obtain ⟨a, b, c⟩ := h.jumps k hlt hjk
    rw [getD_left hlt]
    refine ⟨a, by rw [hl]; omega, ?_⟩
    rw [stk_left l _ _ (by omega), stk_left l _ _ (by omega)]
    exact c
  · rcases (by omega : k = l.length ∨ k = l.length + 1) with rfl | rfl
    · rw [opOf_last] at hjk
      rw [getD_last, hl, s0]
      rcases hp with ⟨_, _, hc⟩ | ⟨hpx, _, _⟩
      · rw [hc]
        refine ⟨by omega, by omega, ?_⟩
        rw [show ((l.length : Int) + 2).toNat = l.length + 2 by omega, s2]
      · rw [plain_jumps hpx] at hjk
        cases hjk
    · rw [o1] at hjk
      rw [g1, hl, s1]
      rcases hp with ⟨_, hpy, _⟩ | ⟨_, _, hc⟩
      · rw [plain_jumps hpy] at hjk
        cases hjk
      · rw [hc]
        refine ⟨by omega, by omega, ?_⟩
        rw [show ((l.length : Int)).toNat = l.length by omega, s0]

/-- What is open was begun. -/
theorem stk_begun (l : List PIns) (k : Nat) : ∀ t ∈ stk l k, opOf l t.toNat = 14 ∨ opOf l t.toNat = 17 ∨ opOf l t.toNat = 18 := by
  induction k with
  | zero => intro t h; simp [stk] at h
  | succ k ih =>
    intro t h
    have ht : ∀ t ∈ tailP (stk l k) (opOf l k), opOf l t.toNat = 14 ∨ opOf l t.toNat = 17 ∨ opOf l t.toNat = 18 := by
      intro t h
      unfold tailP at h
      split at h
      · exact ih t (List.mem_of_mem_tail h)
      · exact ih t h
    unfold stk behindP at h
    split at h
    · rename_i hc
      rcases List.mem_cons.1 h with rfl | h
      · simp only [Int.toNat_natCast]
        simp [beginsB] at hc
        omega
      · exact ht t h
    · exact ht t h
theorem Half.begun {l : List PIns} {st : List Int} (h : Half l st) : ∀ x ∈ st, x = 14 ∨ x = 17 ∨ x = 18 := by
  intro x hx
  rw [← h.opens] at hx
  obtain ⟨t, ht, rfl⟩ := List.mem_map.1 hx
  exact stk_begun l l.length t ht

theorem opB_of {op : Int} (h : 1 ≤ op ∧ op ≤ 23) : opB op = true := by simp [opB, h]
theorem may_one {c : Int} (h : 14 ≤ c ∧ c ≤ 20 ∨ c = 22) : mayP (one c) = true := by
  rcases (by omega : c = 14 ∨ c = 15 ∨ c = 16 ∨ c = 17 ∨ c = 18 ∨ c = 19 ∨ c = 20 ∨ c = 22) with rfl | rfl | rfl | rfl | rfl | rfl | rfl | rfl <;> decide
theorem may_zero {a c : Int} (ha : 0 ≤ a ∧ a ≤ 6) (hc : 0 ≤ c ∧ c ≤ 40) : mayP ⟨13, a, 0, c, 0⟩ = true := by
  simp only [mayP, mayB, opB, fitsB, fAl, fAh, fBh, fCh]
  simp
  omega
theorem ite_ok {p : Prop} [Decidable p] {y z : PIns} (h1 : mayP y = true ∧ plainI y.op) (h2 : mayP z = true ∧ plainI z.op) : mayP (if p then y else z) = true ∧ plainI (if p then y else z).op := by
  split
  · exact h1
  · exact h2
theorem simple_good (x : PIns) : mayP (simpleP x) = true ∧ plainI (simpleP x).op := by
  have h0 := winB_in (n := x.op) (lo := 0) (hi := 19) (by decide)
  have h1 := winB_in (n := x.a) (lo := 0) (hi := 6) (by decide)
  have h2 := winB_in (n := x.b) (lo := 0) (hi := 6) (by decide)
  have h3 := winB_in (n := x.c) (lo := 0) (hi := 6) (by decide)
  have h4 := winB_in (n := x.c) (lo := 6) (hi := 15) (by decide)
  have h5 := winB_in (n := x.c) (lo := 0) (hi := 3) (by decide)
  have h6 := winB_in (n := x.n % 64) (lo := 0) (hi := 4) (by decide)
  unfold simpleP
  generalize winB x.op 0 19 = s at *
  generalize winB x.a 0 6 = a at *
  generalize winB x.b 0 6 = b at *
  generalize winB x.c 0 6 = c at *
  generalize winB x.c 6 15 = at_ at *
  generalize winB x.c 0 3 = d at *
  unfold simpleAt
  generalize winB (x.n % 64) 0 4 = e at *
  have k1 : mayP ⟨1, a, 0, 0, x.n⟩ = true := by simp only [mayP, mayB, opB, fitsB, fAl, fAh, fBh, fCh]; simp; omega
  have k2 : mayP ⟨1, a, 0, 0, x.n % 20⟩ = true := by simp only [mayP, mayB, opB, fitsB, fAl, fAh, fBh, fCh]; simp; omega
  have k3 : mayP ⟨2, a, b, 0, 0⟩ = true := by simp only [mayP, mayB, opB, fitsB, fAl, fAh, fBh, fCh]; simp; omega
  have k4 : mayP ⟨3 + e, a, b, c, 0⟩ = true := by
    rcases (by omega : e = 0 ∨ e = 1 ∨ e = 2 ∨ e = 3 ∨ e = 4) with rfl | rfl | rfl | rfl | rfl <;> (simp only [mayP, mayB, opB, fitsB, fAl, fAh, fBh, fCh]; simp; omega)
  have k5 : mayP ⟨8, a, 7, at_, 0⟩ = true := by simp only [mayP, mayB, opB, fitsB, fAl, fAh, fBh, fCh]; simp; omega
  have k6 : mayP ⟨9, 7, b, at_, 0⟩ = true := by simp only [mayP, mayB, opB, fitsB, fAl, fAh, fBh, fCh]; simp; omega
  have k7 : mayP ⟨8, a, b, d, 0⟩ = true := by simp only [mayP, mayB, opB, fitsB, fAl, fAh, fBh, fCh]; simp; omega
  have k8 : mayP ⟨9, a, b, d, 0⟩ = true := by simp only [mayP, mayB, opB, fitsB, fAl, fAh, fBh, fCh]; simp; omega
  have k9 : mayP ⟨10, a, b, 0, 0⟩ = true := by simp only [mayP, mayB, opB, fitsB, fAl, fAh, fBh, fCh]; simp; omega
  have k10 : mayP ⟨11, a, 0, 0, 0⟩ = true := by simp only [mayP, mayB, opB, fitsB, fAl, fAh, fBh, fCh]; simp; omega
  have k11 : mayP ⟨21, a, 0, 0, 0⟩ = true := by simp only [mayP, mayB, opB, fitsB, fAl, fAh, fBh, fCh]; simp; omega
  have p : ∀ (m q r z N : Int), (1 ≤ m ∧ m ≤ 11 ∨ 20 ≤ m ∧ m ≤ 22) → plainI (PIns.mk m q r z N).op := fun _ _ _ _ _ h => h
  refine ite_ok ⟨k1, p _ _ _ _ _ (by omega)⟩ (ite_ok ⟨k1, p _ _ _ _ _ (by omega)⟩ (ite_ok ⟨k2, p _ _ _ _ _ (by omega)⟩ (ite_ok ⟨k3, p _ _ _ _ _ (by omega)⟩ (ite_ok ⟨k4, p _ _ _ _ _ (by omega)⟩ ?_))))
  refine ite_ok ⟨k5, p _ _ _ _ _ (by omega)⟩ (ite_ok ⟨k5, p _ _ _ _ _ (by omega)⟩ (ite_ok ⟨k5, p _ _ _ _ _ (by omega)⟩ (ite_ok ⟨k6, p _ _ _ _ _ (by omega)⟩ (ite_ok ⟨k6, p _ _ _ _ _ (by omega)⟩ (ite_ok ⟨k6, p _ _ _ _ _ (by omega)⟩ ?_)))))
  exact ite_ok ⟨k7, p _ _ _ _ _ (by omega)⟩ (ite_ok ⟨k8, p _ _ _ _ _ (by omega)⟩ (ite_ok ⟨k9, p _ _ _ _ _ (by omega)⟩ (ite_ok ⟨k9, p _ _ _ _ _ (by omega)⟩ (ite_ok ⟨k10, p _ _ _ _ _ (by omega)⟩ (ite_ok ⟨k5, p _ _ _ _ _ (by omega)⟩ ⟨k11, p _ _ _ _ _ (by omega)⟩)))))

theorem make_bound (w : Int) (calm : Bool) (l : List PIns) (st : List Int) (k : PIns) (h : l.length + 2 * st.length + 5 ≤ 40) : (makeAt w calm l st k).1.length + 2 * (makeAt w calm l st k).2.length ≤ 40 := by
  unfold makeAt
  have e : st ≠ [] → (shutP l st).1.length + 2 * (shutP l st).2.length ≤ 40 := by
    intro hne
    cases st with
    | nil => exact absurd rfl hne
    | cons x r =>
      simp only [List.length_cons] at h
      by_cases h1 : x = 14
      · rw [shutP_open l r h1]; simp; omega
      · by_cases h2 : x = 17
        · rw [shutP_either l r h2]; simp; omega
        · rw [shutP_done l r h1 h2]; simp; omega
  split
  · simp; omega
  · split
    · simp; omega
    · split
      · rename_i h3
        exact e h3.2
      · split
        · simp; omega
        · split
          · simp; omega
          · split
            · simp; omega
            · split
              · simp; omega
              · split
                · simp; omega
                · split
                  · simp; omega
                  · simp; omega
theorem shut_good {l : List PIns} {st : List Int} (h : Good l st) (hne : st ≠ []) : Good (shutP l st).1 (shutP l st).2 := by
  have hb := h.begun
  cases st with
  | nil => exact absurd rfl hne
  | cons x r =>
    rcases hb x (by simp) with rfl | rfl | rfl
    · rw [shutP_open l r rfl]
      exact h.push (x := one 15) (may_one (by omega)) (fun _ => rfl) (fun h => by cases h) (fun h => by cases h) rfl
    · rw [shutP_either l r rfl]
      exact h.push (x := one 18) (may_one (by omega)) (fun _ => rfl) (fun h => by cases h) (fun h => by cases h) rfl
    · rw [shutP_done l r (by decide) (by decide)]
      exact h.push (x := one 19) (may_one (by omega)) (fun _ => rfl) (fun h => by cases h) (fun h => by cases h) rfl
theorem make_good (w : Int) (calm : Bool) (l : List PIns) (st : List Int) (k : PIns) (h : Good l st) (hb : l.length + 2 * st.length + 5 ≤ 40) : Good (makeAt w calm l st k).1 (makeAt w calm l st k).2 := by
  obtain ⟨hs1, hs2⟩ := simple_good k
  have ha := winB_in (n := k.a) (lo := 0) (hi := 6) (by decide)
  have hb' := winB_in (n := k.b) (lo := 0) (hi := 6) (by decide)
  unfold makeAt
  split
  · rename_i h1
    exact h.push (x := one 14) (may_one (by omega)) (fun h => by cases h) (fun h => by cases h) (fun _ => h1.2) rfl
  · split
    · rename_i h1
      exact h.push (x := one 17) (may_one (by omega)) (fun h => by cases h) (fun h => by cases h) (fun _ => h1.2) rfl
    · split
      · rename_i h1
        exact shut_good h h1.2
      · split
        · rename_i h1
          exact h.push (x := one 16) (may_one (by omega)) (fun h => by cases h) (fun _ => h1.2) (fun h => by cases h) rfl
        · have z1 : ∀ a : Int, 0 ≤ a → a ≤ 6 → mayP ⟨13, a, 0, (l.length : Int) + 2, 0⟩ = true := fun a h1 h2 => may_zero ⟨h1, h2⟩ (by omega)
          have z2 : ∀ a : Int, 0 ≤ a → a ≤ 6 → mayP ⟨13, a, 0, (l.length : Int), 0⟩ = true := fun a h1 h2 => may_zero ⟨h1, h2⟩ (by omega)
          split
          · exact h.pair (z1 _ ha.1 ha.2) (may_one (by omega)) (Or.inl ⟨rfl, Or.inr (by simp [one]), rfl⟩)
          · split
            · exact h.pair (z1 _ ha.1 ha.2) (may_one (by omega)) (Or.inl ⟨rfl, Or.inr (by simp [one]), rfl⟩)
            · split
              · exact h.pair (z1 _ ha.1 ha.2) (may_one (by omega)) (Or.inl ⟨rfl, Or.inr (by simp [one]), rfl⟩)
              · split
                · exact h.pair (z1 _ hb'.1 hb'.2) hs1 (Or.inl ⟨rfl, hs2, rfl⟩)
                · split
                  · exact h.pair hs1 (z2 _ hb'.1 hb'.2) (Or.inr ⟨hs2, rfl, rfl⟩)
                  · exact h.plain hs1 hs2
theorem makeL_good (most : Int) (calm : Bool) (hm : most ≤ 40) (ks : List PIns) : ∀ (l : List PIns) (st : List Int), Good l st → l.length + 2 * st.length ≤ 40 →
    Good (makeL most calm ks l st).1 (makeL most calm ks l st).2 ∧ (makeL most calm ks l st).1.length + 2 * (makeL most calm ks l st).2.length ≤ 40 := by
  induction ks with
  | nil => exact fun l st h hb => ⟨h, hb⟩
  | cons k r ih =>
    intro l st h hb
    unfold makeL
    split
    · exact ⟨h, hb⟩
    · exact ih _ _ (make_good _ _ _ _ _ h (by omega)) (make_bound _ _ _ _ _ (by omega))
theorem close_good (l : List PIns) (st : List Int) (h : Good l st) : Good (l ++ closeOf st) [] := by
  generalize hn : weight st = n
  induction n using Nat.strongRecOn generalizing l st with
  | _ n ih =>
    by_cases hne : st = []
    · subst hne
      simpa [closeOf] using h
    · obtain ⟨h1, h2, _⟩ := shut_close l st hne
      rw [← h1]
      exact ih _ (by omega) _ _ (shut_good h hne) rfl
theorem close_len (st : List Int) : (closeOf st).length = weight st ∨ (closeOf st).length ≤ 2 * st.length := by
  right
  induction st with
  | nil => exact Nat.le_refl _
  | cons x r ih =>
    unfold closeOf
    simp only [List.length_append, List.length_cons]
    split
    · simp; omega
    · split <;> (simp; omega)
/-- What is drawn may run. -/
theorem makeP_good (most : Int) (calm : Bool) (ks : List PIns) (hm : most ≤ 40) : Good (makeP most calm ks) [] ∧ 0 < (makeP most calm ks).length ∧ (makeP most calm ks).length ≤ 40 := by
  obtain ⟨h1, h2⟩ := makeL_good most calm hm ks [] [] Good.nil (by decide)
  have h3 := close_good _ _ h1
  have h4 := close_len (makeL most calm ks [] []).2
  have h5 := weight_le (makeL most calm ks [] []).2
  unfold makeP
  split
  · refine ⟨?_, by decide, by decide⟩
    exact Good.nil.plain (x := ⟨1, 0, 0, 0, 1⟩) (by decide) (Or.inl (by decide))
  · rename_i hne
    refine ⟨h3, List.length_pos_iff.2 hne, ?_⟩
    unfold makeQ
    rw [List.length_append]
    omega
theorem firstBad_of {f : Nat → Bool} {n k : Nat} (h : ∀ i, k ≤ i → i < k + n → f i = false) : firstBad f n k = none := by
  induction n generalizing k with
  | zero => rfl
  | succ n ih =>
    unfold firstBad
    rw [h k (Nat.le_refl _) (by omega)]
    exact ih fun i h1 h2 => h i (by omega) (by omega)
theorem Half.empty {l : List PIns} (h : Half l []) : stk l l.length = [] := List.map_eq_nil_iff.1 h.opens
theorem Good.notBad {l : List PIns} (h : Good l []) (k : Nat) (hk : k < l.length) : jumpBad l k = false := by
  unfold jumpBad
  cases hj : jumpsB (opOf l k)
  · rfl
  · obtain ⟨a, b, c⟩ := h.jumps k hk hj
    have he := h.toHalf.empty
    have hr : regAt l (l.getD k PIns.none).c.toNat = regAt l k := by unfold regAt; rw [c]
    generalize (l.getD k PIns.none).c = q at *
    have d1 : decide ((l.length : Int) < q) = false := decide_eq_false (by omega)
    rw [d1, hr]
    by_cases hc : q = l.length
    · rw [hc, Int.toNat_natCast, he] at c
      have : regAt l k = -1 := by unfold regAt; rw [← c]; rfl
      simp [this]
    · simp [hc]
theorem run_of_good {l : List PIns} (h : Good l []) (h0 : 0 < l.length) (h40 : l.length ≤ 40) : runP l = (0, 0) := by
  have hs : sizeBad l = false := by
    unfold sizeBad
    simp
    exact ⟨by intro e; subst e; simp at h0, h40⟩
  have hb : firstBad (badB l) l.length 0 = none := firstBad_of fun i _ h2 => by
    unfold badB
    rw [h.fine i (by omega)]
    rfl
  have hj : firstBad (jumpBad l) l.length 0 = none := firstBad_of fun i _ h2 => h.notBad i (by omega)
  unfold runP
  rw [hs, hb, h.toHalf.empty]
  simp [jumpsP, hj]
theorem ok_of_good {l : List PIns} (h : Good l []) (h0 : 0 < l.length) (h40 : l.length ≤ 40) : okP l = true := by
  unfold okP
  rw [run_of_good h h0 h40]
  rfl

/-- The part that is open at k is closed ahead of m, if it is open there no more. -/
theorem closing (l : List PIns) (t : Int) (k d : Nat) (h : t ∈ stk l k) (hn : t ∉ stk l (k + d)) : ∃ j, k ≤ j ∧ j < k + d ∧ 0 < endsI (opOf l j) ∧ regAt l j = t := by
  induction d generalizing k with
  | zero => exact absurd h hn
  | succ d ih =>
    by_cases hk : t ∈ stk l (k + 1)
    · obtain ⟨j, h1, h2, h3⟩ := ih (k + 1) hk (by rw [show k + 1 + d = k + (d + 1) by omega]; exact hn)
      exact ⟨j, by omega, by omega, h3⟩
    · refine ⟨k, Nat.le_refl _, by omega, ?_⟩
      have hk2 : t ∉ tailP (stk l k) (opOf l k) := by
        intro hm
        apply hk
        unfold stk behindP
        split
        · exact List.mem_cons_of_mem _ hm
        · exact hm
      unfold tailP at hk2
      split at hk2
      · rename_i he
        refine ⟨he, ?_⟩
        unfold regAt topP
        cases hs : stk l k with
        | nil => rw [hs] at h; simp at h
        | cons a r =>
          rw [hs] at h hk2
          rcases List.mem_cons.1 h with rfl | h
          · rfl
          · exact absurd h hk2
      · exact absurd h hk2

/-- Where a part that begins at t is closed, looked at ahead of m. -/
def Closes (l : List PIns) (t : Nat) (j : Nat) : Prop := 0 < endsI (opOf l j) ∧ regAt l j = (t : Int)
theorem endA_val (l : List PIns) (hf : fine l l.length) (m : Nat) (hm : m ≤ l.length) (t : Nat) (ht : t < l.length) :
    (∃ j, j < m ∧ Closes l t j ∧ (endA l m).getD t 0 = (j : Int) ∧ ∀ i, j < i → i < m → ¬ Closes l t i) ∨ ((endA l m).getD t 0 = -1 ∧ ∀ i, i < m → ¬ Closes l t i) := by
  induction m with
  | zero =>
    right
    refine ⟨?_, fun i h => by omega⟩
    unfold endA
    rw [List.getD_eq_getElem?_getD, List.getElem?_replicate, if_pos ht]
    rfl
  | succ m ih =>
    have hlen := endA_len l m
    by_cases he : 0 < endsI (opOf l m)
    · obtain ⟨r0, r1⟩ := reg_ok (hf m (by omega)) (Or.inl he)
      have hst : endA l (m + 1) = (endA l m).set (regAt l m).toNat m := if_pos he
      by_cases hr : regAt l m = (t : Int)
      · left
        refine ⟨m, by omega, ⟨he, hr⟩, ?_, fun i h1 h2 => by omega⟩
        rw [hst, hr, Int.toNat_natCast, List.getD_eq_getElem?_getD, List.getElem?_set_self (by omega)]
        rfl
      · have hget : (endA l (m + 1)).getD t 0 = (endA l m).getD t 0 := by
          rw [hst, List.getD_eq_getElem?_getD, List.getD_eq_getElem?_getD, List.getElem?_set_ne (by omega)]
        have hno : ¬ Closes l t m := fun h => hr h.2
        rw [hget]
        rcases ih (by omega) with ⟨j, h1, h2, h3, h4⟩ | ⟨h1, h2⟩
        · exact .inl ⟨j, by omega, h2, h3, fun i h5 h6 => by
            rcases Nat.lt_or_ge i m with h7 | h7
            · exact h4 i h5 h7
            · obtain rfl : i = m := by omega
              exact hno⟩
        · exact .inr ⟨h1, fun i h5 => by
            rcases Nat.lt_or_ge i m with h7 | h7
            · exact h2 i h7
            · obtain rfl : i = m := by omega
              exact hno⟩
    · have hst : endA l (m + 1) = endA l m := if_neg he
      have hno : ¬ Closes l t m := fun h => he h.1
      rw [hst]
      rcases ih (by omega) with ⟨j, h1, h2, h3, h4⟩ | ⟨h1, h2⟩
      · exact .inl ⟨j, by omega, h2, h3, fun i h5 h6 => by
          rcases Nat.lt_or_ge i m with h7 | h7
          · exact h4 i h5 h7
          · obtain rfl : i = m := by omega
            exact hno⟩
      · exact .inr ⟨h1, fun i h5 => by
          rcases Nat.lt_or_ge i m with h7 | h7
          · exact h2 i h7
          · obtain rfl : i = m := by omega
            exact hno⟩
theorem reg_begun {l : List PIns} {k : Nat} (h : 0 ≤ regAt l k) : regAt l k ∈ stk l k := by
  unfold regAt topP at h ⊢
  cases hs : stk l k with
  | nil => rw [hs] at h; simp at h
  | cons a r => simp
theorem endB_val (l : List PIns) (hf : fine l l.length) (m : Nat) (hm : m ≤ l.length) (t : Nat) (ht : t < l.length) :
    (opOf l t ≠ 16 → (endB l m).getD t 0 = (endA l l.length).getD t 0) ∧ (opOf l t = 16 → t < m → (endB l m).getD t 0 = (endA l l.length).getD (regAt l t).toNat 0) := by
  induction m with
  | zero => exact ⟨fun _ => rfl, fun _ h => by omega⟩
  | succ m ih =>
    obtain ⟨i1, i2⟩ := ih (by omega)
    have hlen := endB_len l m
    by_cases ho : opOf l m = 16
    · have hst : endB l (m + 1) = (endB l m).set m ((endB l m).getD (regAt l m).toNat 0) := if_pos ho
      rw [hst]
      by_cases htm : t = m
      · subst htm
        refine ⟨fun h => absurd ho h, fun _ _ => ?_⟩
        rw [List.getD_eq_getElem?_getD, List.getElem?_set_self (by omega), Option.getD_some]
        obtain ⟨r0, r1⟩ := reg_ok (hf t (by omega)) (Or.inr ho)
        have hr := stk_begun l t _ (reg_begun r0)
        have hr16 : opOf l (regAt l t).toNat ≠ 16 := by omega
        -- the part's own place is no undo
        have : ∀ q, q ≤ l.length → (endB l q).getD (regAt l t).toNat 0 = (endA l l.length).getD (regAt l t).toNat 0 := by
          intro q
          induction q with
          | zero => intro _; rfl
          | succ q ihq =>
            intro hq
            by_cases hoq : opOf l q = 16
            · have hsq : endB l (q + 1) = (endB l q).set q ((endB l q).getD (regAt l q).toNat 0) := if_pos hoq
              have hne : q ≠ (regAt l t).toNat := fun e => hr16 (e ▸ hoq)
              rw [hsq, List.getD_eq_getElem?_getD, List.getElem?_set_ne hne, ← List.getD_eq_getElem?_getD]
              exact ihq (by omega)
            · have hsq : endB l (q + 1) = endB l q := if_neg hoq
              rw [hsq]
              exact ihq (by omega)
        exact this t (by omega)
      · have hget : ((endB l m).set m ((endB l m).getD (regAt l m).toNat 0)).getD t 0 = (endB l m).getD t 0 := by
          rw [List.getD_eq_getElem?_getD, List.getElem?_set_ne (fun e => htm e.symm), ← List.getD_eq_getElem?_getD]
        rw [hget]
        exact ⟨i1, fun h1 h2 => i2 h1 (by omega)⟩
    · have hst : endB l (m + 1) = endB l m := if_neg ho
      rw [hst]
      refine ⟨i1, fun h1 h2 => i2 h1 ?_⟩
      rcases Nat.lt_or_ge t m with h7 | h7
      · exact h7
      · obtain rfl : t = m := by omega
        exact absurd h1 ho

/-- What the law says of a place's match. -/
structure MatchAt (l : List PIns) (i : Nat) : Prop where
  begins : opOf l i = 14 ∨ opOf l i = 17 ∨ opOf l i = 18 → ∃ j : Nat, (matchP l).getD i 0 = (j : Int) ∧ i < j ∧ j < l.length ∧ regAt l j = (i : Int)
  undo : opOf l i = 16 → ∃ j r : Nat, (matchP l).getD i 0 = (j : Int) ∧ i < j ∧ j < l.length ∧ regAt l i = (r : Int) ∧ r < l.length ∧ (matchP l).getD r 0 = (j : Int)
  other : opOf l i ≠ 14 → opOf l i ≠ 17 → opOf l i ≠ 18 → opOf l i ≠ 16 → (matchP l).getD i 0 = -1
theorem match_at {l : List PIns} (h : okP l = true) (i : Nat) (hi : i < l.length) : MatchAt l i := by
  obtain ⟨_, hf, hst, _, _⟩ := runP_ok h
  have hm : matchP l = endB l l.length := by unfold matchP; rw [if_pos h]
  -- a part's close, behind a place at which it is open
  have close : ∀ t k : Nat, t < l.length → k ≤ l.length → (t : Int) ∈ stk l k → ∃ j : Nat, (endA l l.length).getD t 0 = (j : Int) ∧ k ≤ j ∧ j < l.length ∧ Closes l t j := by
    intro t k ht hk hin
    obtain ⟨j, j1, j2, j3, j4⟩ := closing l t k (l.length - k) hin (by rw [show k + (l.length - k) = l.length by omega, hst]; simp)
    rcases endA_val l hf l.length (Nat.le_refl _) t ht with ⟨q, q1, q2, q3, q4⟩ | ⟨_, q2⟩
    · refine ⟨q, q3, ?_, q1, q2⟩
      rcases Nat.lt_or_ge q j with h7 | h7
      · exact absurd ⟨j3, j4⟩ (q4 j h7 (by omega))
      · omega
    · exact absurd ⟨j3, j4⟩ (q2 j (by omega))
  refine ⟨fun hb => ?_, fun hu => ?_, fun n1 n2 n3 n4 => ?_⟩
  · have hin : (i : Int) ∈ stk l (i + 1) := by
      unfold stk behindP
      rw [if_pos (by simp [beginsB]; omega)]
      simp
    obtain ⟨j, h1, h2, h3, h4⟩ := close i (i + 1) hi (by omega) hin
    have hv := (endB_val l hf l.length (Nat.le_refl _) i hi).1 (by omega)
    exact ⟨j, by rw [hm, hv, h1], by omega, h3, h4.2⟩
  · obtain ⟨r0, r1⟩ := reg_ok (hf i hi) (Or.inr hu)
    have hin := reg_begun r0
    obtain ⟨r, hr⟩ : ∃ r : Nat, regAt l i = (r : Int) := ⟨(regAt l i).toNat, by omega⟩
    rw [hr] at hin
    have hb := stk_begun l i _ hin
    rw [Int.toNat_natCast] at hb
    obtain ⟨j, h1, h2, h3, h4⟩ := close r i (by omega) (by omega) hin
    have hne : j ≠ i := by
      intro e
      subst e
      have := h4.1
      rw [hu] at this
      simp [endsI] at this
    have hv := (endB_val l hf l.length (Nat.le_refl _) i hi).2 hu hi
    have hw := (endB_val l hf l.length (Nat.le_refl _) r (by omega)).1 (by omega)
    rw [hr, Int.toNat_natCast] at hv
    exact ⟨j, r, by rw [hm, hv, h1], by omega, h3, hr, by omega, by rw [hm, hw, h1]⟩
  · have hv := (endB_val l hf l.length (Nat.le_refl _) i hi).1 n4
    rw [hm, hv]
    rcases endA_val l hf l.length (Nat.le_refl _) i hi with ⟨q, q1, q2, q3, q4⟩ | ⟨q1, _⟩
    · have hb := stk_begun l q _ (reg_begun (by rw [q2.2]; omega))
      rw [q2.2, Int.toNat_natCast] at hb
      omega
    · exact q1
theorem stk_deep {l : List PIns} {k : Nat} (h : errAt l k = 0) : ((stk l (k + 1)).length : Int) = (stk l k).length + (if opOf l k = 14 ∨ opOf l k = 17 then 1 else if opOf l k = 15 ∨ opOf l k = 19 then -1 else 0) := by
  have hne : 0 < endsI (opOf l k) → 0 < (stk l k).length := fun hx => List.length_pos_iff.2 (err_open (l := l) (st := stk l k) (x := l.getD k PIns.none) h (Or.inl hx))
  show ((behindP (stk l k) k (opOf l k)).length : Int) = _
  generalize opOf l k = op at *
  generalize stk l k = st at *
  by_cases h1 : op = 14 ∨ op = 17
  · have e : behindP st k op = (k : Int) :: st := by
      rcases h1 with rfl | rfl <;> rfl
    rw [e, if_pos h1]
    simp
  · rw [if_neg h1]
    by_cases h2 : op = 18
    · subst h2
      have hpos := hne (by decide)
      have e : behindP st k 18 = (k : Int) :: st.tail := rfl
      rw [e, if_neg (by decide)]
      simp
      omega
    · by_cases h3 : op = 15 ∨ op = 19
      · have e : behindP st k op = st.tail := by
          rcases h3 with rfl | rfl <;> rfl
        have hpos := hne (by rcases h3 with rfl | rfl <;> decide)
        rw [e, if_pos h3]
        simp
        omega
      · have e : behindP st k op = st := by
          unfold behindP tailP
          have b : beginsB op = false := by
            cases hb : beginsB op
            · rfl
            · exact absurd ((begins_iff op).1 hb) h1
          have e0 : endsI op = 0 := by unfold endsI; rw [if_neg (by omega), if_neg h2, if_neg (by omega)]
          rw [b, e0, if_neg (by simp [h2]), if_neg (by decide)]
        rw [e, if_neg h3]
        simp

/-- A jump in the place of an instruction that is no part's. -/
def plainOp (op : Int) : Prop := op ≠ 14 ∧ op ≠ 15 ∧ op ≠ 16 ∧ op ≠ 17 ∧ op ≠ 18 ∧ op ≠ 19
theorem behind_plainOp {op : Int} (h : plainOp op) (st : List Int) (k : Int) : behindP st k op = st := by
  obtain ⟨h1, h2, h3, h4, h5, h6⟩ := h
  have e : endsI op = 0 := by unfold endsI; rw [if_neg h2, if_neg h5, if_neg h6]
  have b : beginsB op = false := by
    cases hb : beginsB op
    · rfl
    · have := (begins_iff op).1 hb
      omega
  unfold behindP tailP
  rw [b, e, if_neg (by simp [h5]), if_neg (by decide)]
theorem getD_set_ne {l : List PIns} {i k : Nat} {x : PIns} (h : i ≠ k) : (l.set i x).getD k PIns.none = l.getD k PIns.none := by
  rw [List.getD_eq_getElem?_getD, List.getElem?_set_ne h, ← List.getD_eq_getElem?_getD]
theorem getD_set_self {l : List PIns} {i : Nat} {x : PIns} (h : i < l.length) : (l.set i x).getD i PIns.none = x := by
  rw [List.getD_eq_getElem?_getD, List.getElem?_set_self h]
  rfl
theorem stk_set {l : List PIns} {i : Nat} {x : PIns} (hi : i < l.length) (h : plainOp (opOf l i)) (hx : plainOp x.op) (k : Nat) : stk (l.set i x) k = stk l k := by
  induction k with
  | zero => rfl
  | succ k ih =>
    unfold stk
    rw [ih]
    by_cases hk : i = k
    · subst hk
      have e : opOf (l.set i x) i = x.op := by unfold opOf; rw [getD_set_self hi]
      rw [e, behind_plainOp h, behind_plainOp hx]
    · have e : opOf (l.set i x) k = opOf l k := by unfold opOf; rw [getD_set_ne hk]
      rw [e]
theorem opens_set {l : List PIns} {i : Nat} {x : PIns} (hi : i < l.length) (h : plainOp (opOf l i)) (hx : plainOp x.op) (k : Nat) : opAt (l.set i x) (stk l k) = opAt l (stk l k) := by
  rw [opAt_opens, opAt_opens]
  congr 1
  congr 1
  unfold opens
  apply List.map_congr_left
  intro t ht
  have hb := stk_begun l k t ht
  have hne : i ≠ t.toNat := by
    intro e
    rw [← e] at hb
    obtain ⟨h1, h2, h3, h4, h5, h6⟩ := h
    omega
  unfold opOf
  rw [getD_set_ne hne]
/-- The run of a program with a jump in the place of an instruction. -/
theorem run_jump {l : List PIns} (h : Good l []) (h0 : 0 < l.length) (h40 : l.length ≤ 40) {i : Nat} (hi : i < l.length) (hp : plainOp (opOf l i)) {j : Int} (hj0 : 0 ≤ j) (hj : j ≤ l.length) :
    runP (l.set i ⟨12, 0, 0, j, 0⟩) = if (j < l.length ∧ regAt l j.toNat = regAt l i) ∨ (j = l.length ∧ regAt l i = -1) then (0, 0) else ((i : Int), 2) := by
  have hx : plainOp (PIns.mk 12 0 0 j 0).op := by unfold plainOp; simp
  have hst := stk_set (x := ⟨12, 0, 0, j, 0⟩) hi hp hx
  have hreg : ∀ k, regAt (l.set i ⟨12, 0, 0, j, 0⟩) k = regAt l k := fun k => by unfold regAt; rw [hst]
  have hlen : (l.set i ⟨12, 0, 0, j, 0⟩).length = l.length := by simp
  have hmj : mayP ⟨12, 0, 0, j, 0⟩ = true := by
    simp only [mayP, mayB, opB, fitsB, fAl, fAh, fBh, fCh]
    simp
    omega
  have hs : sizeBad (l.set i ⟨12, 0, 0, j, 0⟩) = false := by
    unfold sizeBad
    rw [hlen]
    simp
    exact ⟨by intro e; subst e; simp at h0, h40⟩
  have hb : firstBad (badB (l.set i ⟨12, 0, 0, j, 0⟩)) l.length 0 = none := firstBad_of fun k _ h2 => by
    have hz : errAt (l.set i ⟨12, 0, 0, j, 0⟩) k = 0 := by
      unfold errAt
      rw [hst]
      by_cases hk : i = k
      · subst hk
        rw [getD_set_self hi]
        exact wrong_none hmj (fun h => by simp [endsI] at h) (fun h => by simp at h) (fun h => by simp [beginsB] at h)
      · rw [getD_set_ne hk]
        have := h.fine k (by omega)
        unfold errAt wrongP at this
        unfold wrongP
        rw [opens_set hi hp hx]
        exact this
    unfold badB
    rw [hz]
    rfl
  have hbi : jumpBad (l.set i ⟨12, 0, 0, j, 0⟩) i = !decide ((j < l.length ∧ regAt l j.toNat = regAt l i) ∨ (j = l.length ∧ regAt l i = -1)) := by
    unfold jumpBad opOf
    rw [getD_set_self hi, hlen, hreg, hreg]
    have e1 : jumpsB 12 = true := rfl
    have e2 : decide ((l.length : Int) < j) = false := by simp; omega
    rw [e1, e2]
    by_cases hjl : j = l.length
    · subst hjl
      by_cases hr : regAt l i = -1 <;> simp [hr]
    · have hlt : j < l.length := by omega
      by_cases hr : regAt l j.toNat = regAt l i <;> simp [hr, hjl, hlt]
  have hbk : ∀ k, k < l.length → i ≠ k → jumpBad (l.set i ⟨12, 0, 0, j, 0⟩) k = false := by
    intro k hk hne
    have := h.notBad k hk
    unfold jumpBad opOf at this ⊢
    rw [getD_set_ne hne, hlen, hreg, hreg]
    exact this
  unfold runP
  rw [hs, hlen, hb, hst, h.toHalf.empty]
  simp only [Bool.false_eq_true, if_false]
  unfold jumpsP
  rw [hlen]
  by_cases hg : (j < l.length ∧ regAt l j.toNat = regAt l i) ∨ (j = l.length ∧ regAt l i = -1)
  · rw [if_pos hg]
    have : firstBad (jumpBad (l.set i ⟨12, 0, 0, j, 0⟩)) l.length 0 = none := firstBad_of fun k _ h2 => by
      by_cases hk : i = k
      · subst hk
        rw [hbi]
        simp [hg]
      · exact hbk k (by omega) hk
    rw [this]
  · rw [if_neg hg]
    have : firstBad (jumpBad (l.set i ⟨12, 0, 0, j, 0⟩)) l.length 0 = some i := by
      cases hfb : firstBad (jumpBad (l.set i ⟨12, 0, 0, j, 0⟩)) l.length 0 with
      | none =>
        have := firstBad_none hfb i (by omega) (by omega)
        rw [hbi, decide_eq_false hg] at this
        exact absurd this (by decide)
      | some k =>
        obtain ⟨_, k1, k2, _⟩ := firstBad_some hfb
        by_cases hk : i = k
        · rw [hk]
        · rw [hbk k (by omega) hk] at k2
          cases k2
    rw [this]
end Go.Proofs.YtngahgfppbjebaaDoor

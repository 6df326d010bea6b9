/-
  Plain: a program's lines, read. No program in sight.
-/
import Derived.Test.YtngahgfppbjebaaDoorTxBack
namespace Go.Proofs.YtngahgfppbjebaaDoor
open Go.Lib
set_option linter.unusedVariables false
set_option linter.unusedSimpArgs false

def zeroC (x : PIns) : PIns := if jumpsB x.op then { x with c := 0 } else x
theorem reg_dig {a last : Nat} (h : a < 10) (h2 : a ≤ last) : regP (114 :: decDigits a) last = some a := by
  have e := decDigits_small h
  rw [e]
  show decMost last [_] = _
  rw [← e]
  exact decMost_digits h2
theorem nat_of {a : Int} {m : Nat} (h : 0 ≤ a ∧ a ≤ m) : ∃ k : Nat, a = (k : Int) ∧ k ≤ m := ⟨a.toNat, by omega, by omega⟩
section
variable (x y : PIns)
theorem fp97 (s : List UInt8) : fieldP 97 s y = (regP s 7).map fun n => { y with a := (n : Int) } := by
  simp [fieldP]
  cases regP s 7 <;> rfl
theorem tp97 : toldP x 97 = 114 :: decDigits x.a.toNat := by simp [toldP]
theorem rt97 (h : 0 ≤ x.a ∧ x.a ≤ 7) : fieldP 97 (toldP x 97) y = some { y with a := x.a } := by
  obtain ⟨k, hk, h7⟩ := nat_of (m := 7) h
  rw [fp97, tp97, hk, Int.toNat_natCast, reg_dig (by omega) h7]
  rfl
theorem fp98 (s : List UInt8) : fieldP 98 s y = (regP s 7).map fun n => { y with b := (n : Int) } := by
  simp [fieldP]
  cases regP s 7 <;> rfl
theorem tp98 : toldP x 98 = 114 :: decDigits x.b.toNat := by simp [toldP]
theorem rt98 (h : 0 ≤ x.b ∧ x.b ≤ 7) : fieldP 98 (toldP x 98) y = some { y with b := x.b } := by
  obtain ⟨k, hk, h7⟩ := nat_of (m := 7) h
  rw [fp98, tp98, hk, Int.toNat_natCast, reg_dig (by omega) h7]
  rfl
theorem fp99 (s : List UInt8) : fieldP 99 s y = (regP s 7).map fun n => { y with c := (n : Int) } := by
  simp [fieldP]
  cases regP s 7 <;> rfl
theorem tp99 : toldP x 99 = 114 :: decDigits x.c.toNat := by simp [toldP]
theorem rt99 (h : 0 ≤ x.c ∧ x.c ≤ 7) : fieldP 99 (toldP x 99) y = some { y with c := x.c } := by
  obtain ⟨k, hk, h7⟩ := nat_of (m := 7) h
  rw [fp99, tp99, hk, Int.toNat_natCast, reg_dig (by omega) h7]
  rfl
theorem fp112 (s : List UInt8) : fieldP 112 s y = (regP s 6).map fun n => { y with c := (n : Int) } := by
  simp [fieldP]
  cases regP s 6 <;> rfl
theorem tp112 : toldP x 112 = 114 :: decDigits x.c.toNat := by simp [toldP]
theorem rt112 (h : 0 ≤ x.c ∧ x.c ≤ 6) : fieldP 112 (toldP x 112) y = some { y with c := x.c } := by
  obtain ⟨k, hk, h7⟩ := nat_of (m := 6) h
  rw [fp112, tp112, hk, Int.toNat_natCast, reg_dig (by omega) h7]
  rfl
theorem fp111 (s : List UInt8) : fieldP 111 s y = (decMost 15 s).map fun n => { y with c := (n : Int) } := by
  simp [fieldP]
  cases decMost 15 s <;> rfl
theorem tp111 : toldP x 111 = decDigits x.c.toNat := by simp [toldP]
theorem rt111 (h : 0 ≤ x.c ∧ x.c ≤ 15) : fieldP 111 (toldP x 111) y = some { y with c := x.c } := by
  obtain ⟨k, hk, h7⟩ := nat_of (m := 15) h
  rw [fp111, tp111, hk, Int.toNat_natCast, decMost_digits h7]
  rfl
theorem fp116 (s : List UInt8) : fieldP 116 s y = (decMost 7 s).map fun n => { y with b := (n : Int) } := by
  simp [fieldP]
  cases decMost 7 s <;> rfl
theorem tp116 : toldP x 116 = decDigits x.b.toNat := by simp [toldP]
theorem rt116 (h : 0 ≤ x.b ∧ x.b ≤ 7) : fieldP 116 (toldP x 116) y = some { y with b := x.b } := by
  obtain ⟨k, hk, h7⟩ := nat_of (m := 7) h
  rw [fp116, tp116, hk, Int.toNat_natCast, decMost_digits h7]
  rfl
theorem fp110 (s : List UInt8) : fieldP 110 s y = (decMost 18446744073709551615 s).map fun n => { y with n := (n : Int) } := by
  simp [fieldP]
  cases decMost 18446744073709551615 s <;> rfl
theorem tp110 : toldP x 110 = decDigits x.n.toNat := by simp [toldP]
theorem rt110 (h : 0 ≤ x.n ∧ x.n ≤ (18446744073709551615 : Nat)) : fieldP 110 (toldP x 110) y = some { y with n := x.n } := by
  obtain ⟨k, hk, h7⟩ := nat_of (m := 18446744073709551615) h
  rw [fp110, tp110, hk, Int.toNat_natCast, decMost_digits h7]
  rfl
theorem rt119 (h : 1 ≤ x.a ∧ x.a ≤ 12) : fieldP 119 (toldP x 119) y = some { y with a := x.a } := by
  have hf := name_facts (m := 12) callList_ok callList_len h
  show (if isOf callList ⟨(atList callList x.a).data.toList.toArray⟩ = true then some { y with a := numOf callList ⟨(atList callList x.a).data.toList.toArray⟩ } else none) = _
  have e : (⟨(atList callList x.a).data.toList.toArray⟩ : ByteArray) = atList callList x.a := rfl
  rw [e, hf.is, hf.num, if_pos rfl]
end
def nameAll : Bool := (List.range 41).all fun k => nameP (lname k)
theorem name_all : nameAll = true := by
  unfold nameAll nameP
  have h : ∀ k, runesL (lname k) = (lname k).map fun b => (b.toNat, false) := by
    intro k
    have hall : ∀ (l : List UInt8), (∀ b ∈ l, b.toNat < 128) → runesL l = l.map fun b => (b.toNat, false) := by
      intro l
      induction l with
      | nil => intro _; exact runesL_nil
      | cons b t ih =>
        intro hb
        rw [runesL_ascii b t (hb b (by simp)), ih (fun c hc => hb c (List.mem_cons_of_mem _ hc))]
        rfl
    apply hall
    intro b hb
    rcases List.mem_cons.1 hb with rfl | hb
    · decide
    · have := (List.all_eq_true.1 (dig_word k)) b hb
      simp only [wordB, Bool.and_eq_true, decide_eq_true_eq] at this
      omega
  rw [List.all_eq_true]
  intro k hk
  rw [h k]
  have hd : ∀ k : Nat, k < 41 → lname k = if k < 10 then [108, UInt8.ofNat (48 + k)] else [108, UInt8.ofNat (48 + k / 10), UInt8.ofNat (48 + k % 10)] := by
    intro k h41
    unfold lname
    by_cases h10 : k < 10
    · rw [decDigits_small h10, if_pos h10]
    · rw [if_neg h10, decDigits_two h10 (by omega)]
  rw [hd k (by simpa using hk)]
  have hc := (List.all_eq_true (l := List.range 41) (p := fun k => nameL ((if k < 10 then [108, UInt8.ofNat (48 + k)] else [108, UInt8.ofNat (48 + k / 10), UInt8.ofNat (48 + k % 10)]).map fun b : UInt8 => (b.toNat, false)))).1 (by decide +kernel) k hk
  exact hc
theorem name_l {k : Nat} (h : k ≤ 40) : nameP (lname k) = true := (List.all_eq_true.1 name_all) k (by simp; omega)
theorem rt106 (x y : PIns) (h : 0 ≤ x.c ∧ x.c ≤ 40) : fieldP 106 (toldP x 106) y = some y := by
  obtain ⟨k, hk, h7⟩ := nat_of (m := 40) h
  show (if nameP (lname x.c.toNat) = true then some y else none) = _
  rw [hk, Int.toNat_natCast, name_l h7, if_pos rfl]
def jumpE (n : Nat) (x : PIns) : List EJ := if jumpsB x.op then [(n, lname x.c.toNat)] else []
structure MayF (x : PIns) : Prop where
  op : 1 ≤ x.op ∧ x.op ≤ 23
  a : fAl x.op ≤ x.a ∧ x.a ≤ fAh x.op
  b : 0 ≤ x.b ∧ x.b ≤ fBh x.op
  c : 0 ≤ x.c ∧ x.c ≤ fCh x.op
  n : x.n = 0 ∨ x.op = 1
theorem may_f {x : PIns} (h : mayP x = true) : MayF x := by
  unfold mayP mayB at h
  simp only [Bool.and_eq_true] at h
  obtain ⟨⟨⟨⟨h1, h2⟩, h3⟩, h4⟩, h5⟩ := h
  exact ⟨by simpa [opB] using h1, by simpa [fitsB] using h2, by simpa [fitsB] using h3, by simpa [fitsB] using h4, by simpa using h5⟩
theorem fieldsE_cons (st : ES) (k : UInt8) (ks : List UInt8) (s : List UInt8) (ws : List EW) (x x' : PIns) (js : List EJ) (h : fieldP k s x = some x') (hk : k ≠ 106) : fieldsE st (k :: ks) ((s, false) :: ws) x js = fieldsE st ks ws x' js := by
  rw [fieldsE, if_neg (by simp)]
  simp only [h]
  rw [if_neg hk]
theorem fieldsE_j (st : ES) (ks : List UInt8) (s : List UInt8) (ws : List EW) (x x' : PIns) (js : List EJ) (h : fieldP 106 s x = some x') : fieldsE st (106 :: ks) ((s, false) :: ws) x js = fieldsE st ks ws x' (js ++ [(st.l.length, s)]) := by
  rw [fieldsE, if_neg (by simp)]
  simp only [h]
  simp
theorem fieldsE_nil (st : ES) (x : PIns) (js : List EJ) : fieldsE st [] [] x js = some ⟨st.l ++ [x], st.labels, js⟩ := rfl
theorem fields_ins (st : ES) (x : PIns) (hf : MayF x) (hn : 0 ≤ x.n ∧ x.n < 18446744073709551616) : fieldsE st (kindsP x.op) ((kindsP x.op).map fun k => (toldP x k, false)) ⟨x.op, 0, 0, 0, 0⟩ st.jumps = some ⟨st.l ++ [zeroC x], st.labels, st.jumps ++ jumpE st.l.length x⟩ := by
  obtain ⟨ho, ha, hb, hc, hnn⟩ := hf
  have hn2 : 0 ≤ x.n ∧ x.n ≤ (18446744073709551615 : Nat) := by omega
  have t97 := fun y h => rt97 x y h
  have t98 := fun y h => rt98 x y h
  have t99 := fun y h => rt99 x y h
  have t112 := fun y h => rt112 x y h
  have t111 := fun y h => rt111 x y h
  have t116 := fun y h => rt116 x y h
  have t110 := fun y => rt110 x y hn2
  have t119 := fun y h => rt119 x y h
  have t106 := fun y h => rt106 x y h
  have t106w : toldP x 106 = lname x.c.toNat := by simp [toldP, lname]
  have hj : ∀ b, jumpsB x.op = b → jumpE st.l.length x = (if b = true then [(st.l.length, lname x.c.toNat)] else []) ∧ zeroC x = (if b = true then { x with c := 0 } else x) := by
    intro b hb
    unfold jumpE zeroC
    rw [hb]
    exact ⟨rfl, rfl⟩
  generalize jumpE st.l.length x = J at hj ⊢
  generalize zeroC x = Z at hj ⊢
  obtain ⟨op, a, b, c, n⟩ := x
  simp only at *
  rcases (by omega : op = 1 ∨ op = 2 ∨ op = 3 ∨ op = 4 ∨ op = 5 ∨ op = 6 ∨ op = 7 ∨ op = 8 ∨ op = 9 ∨ op = 10 ∨ op = 11 ∨ op = 12 ∨ op = 13 ∨ op = 14 ∨ op = 15 ∨ op = 16 ∨ op = 17 ∨ op = 18 ∨ op = 19 ∨ op = 20 ∨ op = 21 ∨ op = 22 ∨ op = 23) with rfl | rfl | rfl | rfl | rfl | rfl | rfl | rfl | rfl | rfl | rfl | rfl | rfl | rfl | rfl | rfl | rfl | rfl | rfl | rfl | rfl | rfl | rfl
  all_goals
    simp [fAl, fAh] at ha
    simp [fBh] at hb
    simp [fCh] at hc
    obtain ⟨rfl, rfl⟩ := hj _ rfl
    simp only [kindsP, List.map_cons, List.map_nil]
    simp (config := { decide := true }) only [if_pos, if_neg, List.map_cons, List.map_nil]
    repeat' (first
      | (rw [fieldsE_cons _ _ _ _ _ _ _ _ (t97 _ (by omega)) (by decide)])
      | (rw [fieldsE_cons _ _ _ _ _ _ _ _ (t98 _ (by omega)) (by decide)])
      | (rw [fieldsE_cons _ _ _ _ _ _ _ _ (t99 _ (by omega)) (by decide)])
      | (rw [fieldsE_cons _ _ _ _ _ _ _ _ (t112 _ (by omega)) (by decide)])
      | (rw [fieldsE_cons _ _ _ _ _ _ _ _ (t111 _ (by omega)) (by decide)])
      | (rw [fieldsE_cons _ _ _ _ _ _ _ _ (t116 _ (by omega)) (by decide)])
      | (rw [fieldsE_cons _ _ _ _ _ _ _ _ (t110 _) (by decide)])
      | (rw [fieldsE_cons _ _ _ _ _ _ _ _ (t119 _ (by omega)) (by decide)])
      | (rw [fieldsE_j _ _ _ _ _ _ _ (t106 _ (by omega))])
      | (rw [fieldsE_nil]))
    simp [jumpsB, t106w]
    try omega
theorem instr_ins (st : ES) (x : PIns) (hm : mayP x = true) (hn : 0 ≤ x.n ∧ x.n < 18446744073709551616) (h40 : st.l.length < 40) : instrE st (insW x) = some ⟨st.l ++ [zeroC x], st.labels, st.jumps ++ jumpE st.l.length x⟩ := by
  have hf := may_f hm
  have hw := name_facts (m := 23) nameList_ok nameList_len hf.op
  have e : (⟨(atList nameList x.op).data.toList.toArray⟩ : ByteArray) = atList nameList x.op := rfl
  unfold insW
  rw [instrE]
  simp only [Bool.false_or]
  rw [e, hw.is, hw.num, if_neg (by simp), if_neg (by omega)]
  exact fields_ins st x hf hn
end Go.Proofs.YtngahgfppbjebaaDoor

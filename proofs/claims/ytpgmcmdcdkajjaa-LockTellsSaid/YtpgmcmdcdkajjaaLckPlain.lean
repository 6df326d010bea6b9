/-
  Plain facts on a lock's nine bytes: they are read back; what is read is what was there; unlike locks have unlike bytes.
-/
import Derived.Test.YtpgmcmdcdkajjaaLckRead
namespace Go.Proofs.Ytpgmcmdcdkajjaa
open Go.RowKit

theorem byte_at {x : Int} (h0 : 0 ≤ x) (h1 : x < 256) : ((UInt8.ofNat x.toNat).toNat : Int) = x := by
  rw [UInt8.toNat_ofNat']
  omega

theorem str_getD (x0 x1 x2 x3 x4 x5 x6 x7 x8 : Int) (k : Nat) :
    (strOfNums [x0, x1, x2, x3, x4, x5, x6, x7, x8]).data.toList.getD k 0 = ([UInt8.ofNat x0.toNat, UInt8.ofNat x1.toNat, UInt8.ofNat x2.toNat, UInt8.ofNat x3.toNat, UInt8.ofNat x4.toNat, UInt8.ofNat x5.toNat, UInt8.ofNat x6.toNat, UInt8.ofNat x7.toNat, UInt8.ofNat x8.toNat]).getD k 0 := rfl

theorem ver_str (x0 x1 x2 x3 x4 x5 x6 x7 x8 : Int) (h0 : 0 ≤ x0 ∧ x0 < 256) (h1 : 0 ≤ x1 ∧ x1 < 256) (h2 : 0 ≤ x2 ∧ x2 < 256) (h3 : 0 ≤ x3 ∧ x3 < 256)
    (h4 : 0 ≤ x4 ∧ x4 < 256) (h5 : 0 ≤ x5 ∧ x5 < 256) (h6 : 0 ≤ x6 ∧ x6 < 256) (h7 : 0 ≤ x7 ∧ x7 < 256) :
    (ver (strOfNums [x0, x1, x2, x3, x4, x5, x6, x7, x8]) 8 : Int) = ((((((x0 * 256 + x1) * 256 + x2) * 256 + x3) * 256 + x4) * 256 + x5) * 256 + x6) * 256 + x7 := by
  have e0 := byte_at h0.1 h0.2
  have e1 := byte_at h1.1 h1.2
  have e2 := byte_at h2.1 h2.2
  have e3 := byte_at h3.1 h3.2
  have e4 := byte_at h4.1 h4.2
  have e5 := byte_at h5.1 h5.2
  have e6 := byte_at h6.1 h6.2
  have e7 := byte_at h7.1 h7.2
  simp only [ver, str_getD]
  simp only [List.getD_cons_zero, List.getD_cons_succ]
  omega

theorem tag_str (x0 x1 x2 x3 x4 x5 x6 x7 x8 : Int) (h8 : 0 ≤ x8 ∧ x8 < 256) : (tag (strOfNums [x0, x1, x2, x3, x4, x5, x6, x7, x8]) : Int) = x8 := by
  have e8 := byte_at h8.1 h8.2
  simp only [tag, str_getD]
  simp only [List.getD_cons_zero, List.getD_cons_succ]
  omega

theorem ver_lock (v t : Int) (h0 : 0 ≤ v) (h1 : v < 4611686018427387904) : (ver (lockStr v t) 8 : Int) = v := by
  unfold lockStr lockNums
  rw [ver_str]
  all_goals omega

theorem tag_lock (v t : Int) (h0 : 0 ≤ t) (h1 : t < 256) : (tag (lockStr v t) : Int) = t := by
  unfold lockStr lockNums
  exact tag_str _ _ _ _ _ _ _ _ _ ⟨h0, h1⟩

theorem size_lock (v t : Int) : (lockStr v t).size = 9 := by
  unfold lockStr
  rw [strOfNums_size]
  rfl

/-- A lock that may be comes back out of its bytes. -/
theorem read_back (v o : Int) (h : Bool) (hi : isB v h o = true) (h0 : 0 ≤ v) :
    rdB (lockStr v (tagOf h o)) = true ∧ rdV (lockStr v (tagOf h o)) = v ∧ rdHH (lockStr v (tagOf h o)) = h ∧ rdOO (lockStr v (tagOf h o)) = o := by
  obtain ⟨h1, ht, hf⟩ := isB_yes hi
  have ev := ver_lock v (tagOf h o) h0 h1
  have hr : rdH (lockStr v (tagOf h o)) = h ∧ rdO (lockStr v (tagOf h o)) = o := by
    cases h
    · obtain rfl := hf rfl
      have et := tag_lock v (tagOf false 0) (by simp [tagOf]) (by simp [tagOf])
      have et' : tag (lockStr v (tagOf false 0)) = 0 := by simp [tagOf] at et ⊢; omega
      simp [rdH, rdO, et']
    · obtain ⟨o0, o4⟩ := ht rfl
      have et := tag_lock v (tagOf true o) (by simp [tagOf]; omega) (by simp [tagOf]; omega)
      have et' : (tag (lockStr v (tagOf true o)) : Int) = o + 1 := by simpa [tagOf] using et
      have hp : 0 < tag (lockStr v (tagOf true o)) := by omega
      refine ⟨by simp [rdH, hp], ?_⟩
      simp only [rdO, hp, if_true]
      omega
  have hB : rdB (lockStr v (tagOf h o)) = true := by
    unfold rdB
    rw [hr.1, hr.2, ev]
    exact hi
  refine ⟨hB, ?_, ?_, ?_⟩
  · simp [rdV, hB, ev]
  · simp [rdHH, hB, hr.1]
  · simp [rdOO, hB, hr.2]

/-- Unlike locks have unlike bytes. -/
theorem lock_inj (v o : Int) (h : Bool) (v' o' : Int) (h' : Bool) (hi : isB v h o = true) (hi' : isB v' h' o' = true) (h0 : 0 ≤ v) (h0' : 0 ≤ v') (e : lockStr v (tagOf h o) = lockStr v' (tagOf h' o')) :
    v = v' ∧ h = h' ∧ o = o' := by
  obtain ⟨_, b1, b2, b3⟩ := read_back v o h hi h0
  obtain ⟨_, c1, c2, c3⟩ := read_back v' o' h' hi' h0'
  rw [e] at b1 b2 b3
  exact ⟨b1.symm.trans c1, b2.symm.trans c2, b3.symm.trans c3⟩

theorem nine (s : ByteArray) (hs : s.size = 9) : ∃ b0 b1 b2 b3 b4 b5 b6 b7 b8 : UInt8, s = ⟨#[b0, b1, b2, b3, b4, b5, b6, b7, b8]⟩ := by
  obtain ⟨⟨l⟩⟩ := s
  have hl : l.length = 9 := hs
  match l, hl with
  | [b0, b1, b2, b3, b4, b5, b6, b7, b8], _ => exact ⟨b0, b1, b2, b3, b4, b5, b6, b7, b8, rfl⟩

theorem ofNat_eq {x : Int} {b : UInt8} (h : x = (b.toNat : Int)) : UInt8.ofNat x.toNat = b := by
  subst h
  simp

/-- Nine bytes that are read are those of the lock that was read. -/
theorem read_turned (s : ByteArray) (hs : s.size = 9) (hB : rdB s = true) : lockStr (rdV s) (tagOf (rdHH s) (rdOO s)) = s := by
  have e1 : rdV s = (ver s 8 : Int) := by simp [rdV, hB]
  have e2 : tagOf (rdHH s) (rdOO s) = (tag s : Int) := by
    simp only [rdHH, rdOO, hB, Bool.true_and, if_true, tagOf, rdH, rdO]
    by_cases h : 0 < tag s
    · simp [h]
    · simp [h]; omega
  rw [e1, e2]
  obtain ⟨b0, b1, b2, b3, b4, b5, b6, b7, b8, rfl⟩ := nine s hs
  have g0 := UInt8.toNat_lt b0
  have g1 := UInt8.toNat_lt b1
  have g2 := UInt8.toNat_lt b2
  have g3 := UInt8.toNat_lt b3
  have g4 := UInt8.toNat_lt b4
  have g5 := UInt8.toNat_lt b5
  have g6 := UInt8.toNat_lt b6
  have g7 := UInt8.toNat_lt b7
  have ev : (ver ⟨#[b0, b1, b2, b3, b4, b5, b6, b7, b8]⟩ 8 : Int) = ((((((((b0.toNat : Int) * 256 + b1.toNat) * 256 + b2.toNat) * 256 + b3.toNat) * 256 + b4.toNat) * 256 + b5.toNat) * 256 + b6.toNat) * 256 + b7.toNat) := by
    simp [ver]
  have et : (tag ⟨#[b0, b1, b2, b3, b4, b5, b6, b7, b8]⟩ : Int) = (b8.toNat : Int) := by simp [tag]
  rw [ev, et]
  generalize hN : ((((((((b0.toNat : Int) * 256 + b1.toNat) * 256 + b2.toNat) * 256 + b3.toNat) * 256 + b4.toNat) * 256 + b5.toNat) * 256 + b6.toNat) * 256 + b7.toNat) = N
  have q0 : N / 72057594037927936 = (b0.toNat : Int) := by omega
  have q1 : N / 281474976710656 % 256 = (b1.toNat : Int) := by omega
  have q2 : N / 1099511627776 % 256 = (b2.toNat : Int) := by omega
  have q3 : N / 4294967296 % 256 = (b3.toNat : Int) := by omega
  have q4 : N / 16777216 % 256 = (b4.toNat : Int) := by omega
  have q5 : N / 65536 % 256 = (b5.toNat : Int) := by omega
  have q6 : N / 256 % 256 = (b6.toNat : Int) := by omega
  have q7 : N % 256 = (b7.toNat : Int) := by omega
  unfold lockStr lockNums strOfNums
  simp only [List.map_cons, List.map_nil, ofNat_eq q0, ofNat_eq q1, ofNat_eq q2, ofNat_eq q3, ofNat_eq q4, ofNat_eq q5, ofNat_eq q6, ofNat_eq q7, ofNat_eq rfl]
end Go.Proofs.Ytpgmcmdcdkajjaa

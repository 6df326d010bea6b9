/-
  The contract of the reference's field, at any instruction and any field that it has.
  What the reference's instruction stands on.
-/
import Derived.Test.YtngahgfppbjebaaDoorGrpTxRFieldC
import Derived.Test.YtngahgfppbjebaaDoorTxRInstrP
import Derived.Test.YtngahgfppbjebaaDoorGrpTxPrintE
import Derived.Test.YtngahgfppbjebaaDoorTxRName
namespace Go.Proofs.YtngahgfppbjebaaDoor
open Go.RowKit Go.Lib
set_option linter.unusedVariables false
set_option linter.unusedSimpArgs false

theorem fp119 (s : List UInt8) (x : PIns) : fieldP 119 s x = if isOf callList ⟨s.toArray⟩ = true then some { x with a := numOf callList ⟨s.toArray⟩ } else none := by simp [fieldP]
theorem back_str (s : ByteArray) : (⟨s.data.toList.toArray⟩ : ByteArray) = s := rfl
theorem rfield_any (w : World) (htab : TabAt w) (x : PIns) (hx : 1 ≤ x.op ∧ x.op ≤ 23) (f : Nat) (kd : UInt8) (hk : kindR x.op f = some kd) (hj : kd ≠ 106) (nm s : ByteArray) (line col : Int) (bad : Bool) (hsz : s.size ≤ 1000000) :
    Calls Tryd.prog 113 #[.agg #[.int .i64 x.op, .int .i64 x.a, .int .i64 x.b, .int .i64 x.c, .int .u64 x.n], .int .i64 (f : Int), .agg #[.string nm, .int .i64 (rA x.op), .int .i64 (rB x.op), .int .i64 (rC x.op), .bool (rN x.op)], .agg #[.string s, .int .i64 line, .int .i64 col, .bool bad]] w (RFieldPost w (if bad = true then none else fieldP kd s.data.toList x)) := by
  obtain ⟨op, a, b, c, n⟩ := x
  simp only at *
  cases bad with
  | true => exact rf_bad w op (f : Int) (rA op) (rB op) (rC op) (rN op) a b c n nm s line col none rfl hsz
  | false =>
    rw [if_neg (by simp)]
    have hf : f = 0 ∨ f = 1 ∨ f = 2 ∨ f = 3 := by
      unfold kindR at hk
      by_cases h0 : f = 0
      · exact .inl h0
      · by_cases h1 : f = 1
        · exact .inr (.inl h1)
        · by_cases h2 : f = 2
          · exact .inr (.inr (.inl h2))
          · by_cases h3 : f = 3
            · exact .inr (.inr (.inr h3))
            · rw [if_neg h0, if_neg h1, if_neg h2, if_neg h3] at hk
              cases hk
    rcases hf with rfl | rfl | rfl | rfl
    · simp only [kindR, if_pos] at hk
      by_cases hA : rA op < 0
      · rw [if_pos hA] at hk; cases hk
      · rw [if_neg hA] at hk
        injection hk with hk
        by_cases h23 : op = 23
        · subst h23
          rw [if_pos rfl] at hk
          subst hk
          rw [fp119]
          exact rf_23_0 w htab (rB 23) (rC 23) (rN 23) a b c n nm s line col _ rfl hsz
        · rw [if_neg h23] at hk
          subst hk
          have hA7 : rA op = 7 := by
            unfold rA at hA ⊢
            rw [if_neg h23] at hA ⊢
            split
            · rfl
            · rename_i h
              rw [if_neg h, if_pos hx] at hA
              omega
          rw [hA7, fp97]
          by_cases h8 : op = 8
          · subst h8
            exact rf_8_0 w (rB 8) (rC 8) (rN 8) a b c n nm s line col _ (by cases regP s.data.toList 7 <;> rfl) hsz
          · by_cases h9 : op = 9
            · subst h9
              exact rf_9_0 w (rB 9) (rC 9) (rN 9) a b c n nm s line col _ (by cases regP s.data.toList 7 <;> rfl) hsz
            · exact rf_reg0 w op (by rw [beq_eq_false_iff_ne]; exact h23) (by rw [beq_eq_false_iff_ne]; exact h8) (by rw [beq_eq_false_iff_ne]; exact h9) (rB op) (rC op) (rN op) a b c n nm s line col _ (by cases regP s.data.toList 7 <;> rfl) hsz
    · simp only [kindR] at hk
      rw [if_neg (by decide), if_pos trivial] at hk
      by_cases hA : rB op < 0
      · rw [if_pos hA] at hk; cases hk
      · rw [if_neg hA] at hk
        injection hk with hk
        have hB7 : rB op = 7 := by
          unfold rB at hA ⊢
          split
          · rfl
          · rename_i h
            rw [if_neg h, if_pos hx] at hA
            omega
        rw [hB7]
        by_cases h23 : op = 23
        · subst h23
          rw [if_pos rfl] at hk
          subst hk
          rw [fp116]
          exact rf_23_1 w (rA 23) (rC 23) (rN 23) a b c n nm s line col _ (by cases decMost 7 s.data.toList <;> rfl) hsz
        · rw [if_neg h23] at hk
          subst hk
          rw [fp98]
          by_cases h8 : op = 8
          · subst h8
            exact rf_8_1 w (rA 8) (rC 8) (rN 8) a b c n nm s line col _ (by cases regP s.data.toList 7 <;> rfl) hsz
          · by_cases h9 : op = 9
            · subst h9
              exact rf_9_1 w (rA 9) (rC 9) (rN 9) a b c n nm s line col _ (by cases regP s.data.toList 7 <;> rfl) hsz
            · exact rf_reg1 w op (by rw [beq_eq_false_iff_ne]; exact h23) (by rw [beq_eq_false_iff_ne]; exact h8) (by rw [beq_eq_false_iff_ne]; exact h9) (rA op) (rC op) (rN op) a b c n nm s line col _ (by cases regP s.data.toList 7 <;> rfl) hsz
    · simp only [kindR] at hk
      rw [if_neg (by decide), if_neg (by decide), if_pos trivial] at hk
      by_cases hA : rC op < 0
      · rw [if_pos hA] at hk; cases hk
      · rw [if_neg hA] at hk
        injection hk with hk
        by_cases h12 : op = 12 ∨ op = 13
        · rw [if_pos h12] at hk
          exact absurd hk.symm hj
        · rw [if_neg h12] at hk
          by_cases h89 : op = 8 ∨ op = 9
          · rw [if_pos h89] at hk
            subst hk
            rw [fp111]
            rcases h89 with rfl | rfl
            · exact rf_8_2 w (rA 8) (rB 8) (rN 8) a b c n nm s line col _ (by cases decMost 15 s.data.toList <;> rfl) hsz
            · exact rf_9_2 w (rA 9) (rB 9) (rN 9) a b c n nm s line col _ (by cases decMost 15 s.data.toList <;> rfl) hsz
          · rw [if_neg h89] at hk
            by_cases h23 : op = 23
            · subst h23
              rw [if_pos rfl] at hk
              subst hk
              rw [fp112]
              exact rf_23_2 w (rA 23) (rB 23) (rN 23) a b c n nm s line col _ (by cases regP s.data.toList 6 <;> rfl) hsz
            · rw [if_neg h23] at hk
              subst hk
              have hC7 : rC op = 7 := by
                unfold rC at hA ⊢
                split
                · rfl
                · rename_i h
                  rw [if_neg h, if_neg h89, if_neg h12, if_neg h23, if_pos hx] at hA
                  omega
              rw [hC7, fp99]
              exact rf_reg2 w op (by rw [beq_eq_false_iff_ne]; exact h23) (by rw [beq_eq_false_iff_ne]; omega) (by rw [beq_eq_false_iff_ne]; omega) (rA op) (rB op) (rN op) a b c n nm s line col _ (by cases regP s.data.toList 7 <;> rfl) hsz
    · simp only [kindR] at hk
      rw [if_neg (by decide), if_neg (by decide), if_neg (by decide), if_pos trivial] at hk
      split at hk
      · injection hk with hk
        subst hk
        rw [fp110]
        exact rf_n w op (rA op) (rB op) (rC op) (rN op) a b c n nm s line col _ (by cases decMost 18446744073709551615 s.data.toList <;> rfl) hsz
      · cases hk
end Go.Proofs.YtngahgfppbjebaaDoor
namespace Go.Proofs.YtngahgfppbjebaaDoor
open Go.RowKit Go.Lib
set_option linter.unusedVariables false
set_option linter.unusedSimpArgs false

/-- What instruction's boxes hold: its results' are empty, its own is y. -/
structure IW (w wx : World) (y : PIns) : Prop where
  b8 : Blk wx w.heap.size 60 #[.int .i64 0, .int .i64 0, .int .i64 0, .int .i64 0, .int .u64 0]
  b9 : Blk wx (w.heap.size + 1) 160 #[.string ⟨#[]⟩, .int .i64 0, .int .i64 0, .bool false]
  b10 : Blk wx (w.heap.size + 1 + 1) 165 #[.int .i64 0, .int .i64 0, .int .i64 0]
  b11 : Blk wx (w.heap.size + 1 + 1 + 1) 60 #[.int .i64 y.op, .int .i64 y.a, .int .i64 y.b, .int .i64 y.c, .int .u64 y.n]
  only : Only Nob w wx
section
variable {w wx W : World} {y : PIns}
theorem IW.nob (h : IW w wx y) (ho : Only Nob wx W) : IW w W y := ⟨h.b8.only ho (fun h => h), h.b9.only ho (fun h => h), h.b10.only ho (fun h => h), h.b11.only ho (fun h => h), h.only.trans ho⟩
theorem IW.start (w : World) : IW w ((((w.alloc (.cells #[.int .i64 0, .int .i64 0, .int .i64 0, .int .i64 0, .int .u64 0] 60)).alloc (.cells #[.string ⟨#[]⟩, .int .i64 0, .int .i64 0, .bool false] 160)).alloc (.cells #[.int .i64 0, .int .i64 0, .int .i64 0] 165)).alloc (.cells #[.int .i64 0, .int .i64 0, .int .i64 0, .int .i64 0, .int .u64 0] 60)) ⟨0, 0, 0, 0, 0⟩ :=
  ⟨(((Blk.new w _ _).alloc _).alloc _).alloc _, ((Blk.new' (by simp)).alloc _).alloc _, (Blk.new' (by simp)).alloc _, Blk.new' (by simp), ((((Only.refl _ w).alloc _).alloc _).alloc _).alloc _⟩
theorem IW.setOp (h : IW w wx y) (v : Int) : IW w (wx.setCell ⟨w.heap.size + 1 + 1 + 1, 0, none⟩ (.int .i64 v)) { y with op := v } :=
  ⟨h.b8.far (show w.heap.size ≠ w.heap.size + 1 + 1 + 1 by omega) _, h.b9.far (show w.heap.size + 1 ≠ w.heap.size + 1 + 1 + 1 by omega) _, h.b10.far (show w.heap.size + 1 + 1 ≠ w.heap.size + 1 + 1 + 1 by omega) _, h.b11.set_ 0 _, h.only.setCell (.inr (show w.heap.size ≤ w.heap.size + 1 + 1 + 1 by omega)) _⟩
theorem IW.setAll (h : IW w wx y) (z : PIns) : IW w (((((wx.setCell ⟨w.heap.size + 1 + 1 + 1, 0, none⟩ (.int .i64 z.op)).setCell ⟨w.heap.size + 1 + 1 + 1, 1, none⟩ (.int .i64 z.a)).setCell ⟨w.heap.size + 1 + 1 + 1, 2, none⟩ (.int .i64 z.b)).setCell ⟨w.heap.size + 1 + 1 + 1, 3, none⟩ (.int .i64 z.c)).setCell ⟨w.heap.size + 1 + 1 + 1, 4, none⟩ (.int .u64 z.n)) z := by
  have e0 : ∀ i u (W : World) {g : Nat} {t : TypeId} {cs : Array Value}, g ≠ w.heap.size + 1 + 1 + 1 → Blk W g t cs → Blk (W.setCell ⟨w.heap.size + 1 + 1 + 1, i, none⟩ u) g t cs := fun i u W g t cs hg hb => hb.far hg u
  have o0 : ∀ i u (W : World), Only Nob w W → Only Nob w (W.setCell ⟨w.heap.size + 1 + 1 + 1, i, none⟩ u) := fun i u W ho => ho.setCell (.inr (show w.heap.size ≤ w.heap.size + 1 + 1 + 1 by omega)) u
  have n8 : w.heap.size ≠ w.heap.size + 1 + 1 + 1 := by omega
  have n9 : w.heap.size + 1 ≠ w.heap.size + 1 + 1 + 1 := by omega
  have n10 : w.heap.size + 1 + 1 ≠ w.heap.size + 1 + 1 + 1 := by omega
  exact ⟨e0 _ _ _ n8 (e0 _ _ _ n8 (e0 _ _ _ n8 (e0 _ _ _ n8 (e0 _ _ _ n8 h.b8)))), e0 _ _ _ n9 (e0 _ _ _ n9 (e0 _ _ _ n9 (e0 _ _ _ n9 (e0 _ _ _ n9 h.b9)))), e0 _ _ _ n10 (e0 _ _ _ n10 (e0 _ _ _ n10 (e0 _ _ _ n10 (e0 _ _ _ n10 h.b10)))), ((((h.b11.set_ 0 _).set_ 1 _).set_ 2 _).set_ 3 _).set_ 4 _, o0 _ _ _ (o0 _ _ _ (o0 _ _ _ (o0 _ _ _ (o0 _ _ _ h.only))))⟩
end
/-- What is read of the boxes. -/
structure IWc (w wx : World) (y : PIns) : Prop where
  cb8_0 : wx.cell? ⟨w.heap.size, 0, none⟩ = some (.int .i64 0)
  cb8_1 : wx.cell? ⟨w.heap.size, 1, none⟩ = some (.int .i64 0)
  cb8_2 : wx.cell? ⟨w.heap.size, 2, none⟩ = some (.int .i64 0)
  cb8_3 : wx.cell? ⟨w.heap.size, 3, none⟩ = some (.int .i64 0)
  cb8_4 : wx.cell? ⟨w.heap.size, 4, none⟩ = some (.int .u64 0)
  fb8_0 : wx.frozen? ⟨w.heap.size, 0, none⟩ = false
  fb8_1 : wx.frozen? ⟨w.heap.size, 1, none⟩ = false
  fb8_2 : wx.frozen? ⟨w.heap.size, 2, none⟩ = false
  fb8_3 : wx.frozen? ⟨w.heap.size, 3, none⟩ = false
  fb8_4 : wx.frozen? ⟨w.heap.size, 4, none⟩ = false
  lb8 : w.heap.size < wx.heap.size
  cb9_0 : wx.cell? ⟨w.heap.size + 1, 0, none⟩ = some (.string ⟨#[]⟩)
  cb9_1 : wx.cell? ⟨w.heap.size + 1, 1, none⟩ = some (.int .i64 0)
  cb9_2 : wx.cell? ⟨w.heap.size + 1, 2, none⟩ = some (.int .i64 0)
  cb9_3 : wx.cell? ⟨w.heap.size + 1, 3, none⟩ = some (.bool false)
  fb9_0 : wx.frozen? ⟨w.heap.size + 1, 0, none⟩ = false
  fb9_1 : wx.frozen? ⟨w.heap.size + 1, 1, none⟩ = false
  fb9_2 : wx.frozen? ⟨w.heap.size + 1, 2, none⟩ = false
  fb9_3 : wx.frozen? ⟨w.heap.size + 1, 3, none⟩ = false
  lb9 : w.heap.size + 1 < wx.heap.size
  cb10_0 : wx.cell? ⟨w.heap.size + 1 + 1, 0, none⟩ = some (.int .i64 0)
  cb10_1 : wx.cell? ⟨w.heap.size + 1 + 1, 1, none⟩ = some (.int .i64 0)
  cb10_2 : wx.cell? ⟨w.heap.size + 1 + 1, 2, none⟩ = some (.int .i64 0)
  fb10_0 : wx.frozen? ⟨w.heap.size + 1 + 1, 0, none⟩ = false
  fb10_1 : wx.frozen? ⟨w.heap.size + 1 + 1, 1, none⟩ = false
  fb10_2 : wx.frozen? ⟨w.heap.size + 1 + 1, 2, none⟩ = false
  lb10 : w.heap.size + 1 + 1 < wx.heap.size
  cb11_0 : wx.cell? ⟨w.heap.size + 1 + 1 + 1, 0, none⟩ = some (.int .i64 y.op)
  cb11_1 : wx.cell? ⟨w.heap.size + 1 + 1 + 1, 1, none⟩ = some (.int .i64 y.a)
  cb11_2 : wx.cell? ⟨w.heap.size + 1 + 1 + 1, 2, none⟩ = some (.int .i64 y.b)
  cb11_3 : wx.cell? ⟨w.heap.size + 1 + 1 + 1, 3, none⟩ = some (.int .i64 y.c)
  cb11_4 : wx.cell? ⟨w.heap.size + 1 + 1 + 1, 4, none⟩ = some (.int .u64 y.n)
  fb11_0 : wx.frozen? ⟨w.heap.size + 1 + 1 + 1, 0, none⟩ = false
  fb11_1 : wx.frozen? ⟨w.heap.size + 1 + 1 + 1, 1, none⟩ = false
  fb11_2 : wx.frozen? ⟨w.heap.size + 1 + 1 + 1, 2, none⟩ = false
  fb11_3 : wx.frozen? ⟨w.heap.size + 1 + 1 + 1, 3, none⟩ = false
  fb11_4 : wx.frozen? ⟨w.heap.size + 1 + 1 + 1, 4, none⟩ = false
  lb11 : w.heap.size + 1 + 1 + 1 < wx.heap.size
theorem IW.cells {w wx : World} {y : PIns} (h : IW w wx y) : IWc w wx y := ⟨h.b8.cell 0, h.b8.cell 1, h.b8.cell 2, h.b8.cell 3, h.b8.cell 4, h.b8.frozen 0, h.b8.frozen 1, h.b8.frozen 2, h.b8.frozen 3, h.b8.frozen 4, h.b8.lt, h.b9.cell 0, h.b9.cell 1, h.b9.cell 2, h.b9.cell 3, h.b9.frozen 0, h.b9.frozen 1, h.b9.frozen 2, h.b9.frozen 3, h.b9.lt, h.b10.cell 0, h.b10.cell 1, h.b10.cell 2, h.b10.frozen 0, h.b10.frozen 1, h.b10.frozen 2, h.b10.lt, h.b11.cell 0, h.b11.cell 1, h.b11.cell 2, h.b11.cell 3, h.b11.cell 4, h.b11.frozen 0, h.b11.frozen 1, h.b11.frozen 2, h.b11.frozen 3, h.b11.frozen 4, h.b11.lt⟩
/-- The results' boxes, filled. -/
structure IR (w W : World) (z : PIns) (js : ByteArray) (jl jc : Int) (jb : Bool) (pl pc pe : Int) : Prop where
  b8 : Blk W w.heap.size 60 #[.int .i64 z.op, .int .i64 z.a, .int .i64 z.b, .int .i64 z.c, .int .u64 z.n]
  b9 : Blk W (w.heap.size + 1) 160 #[.string js, .int .i64 jl, .int .i64 jc, .bool jb]
  b10 : Blk W (w.heap.size + 1 + 1) 165 #[.int .i64 pl, .int .i64 pc, .int .i64 pe]
  only : Only Nob w W
theorem IR.nob {w wx W : World} {z : PIns} {js : ByteArray} {jl jc : Int} {jb : Bool} {pl pc pe : Int} (h : IR w wx z js jl jc jb pl pc pe) (ho : Only Nob wx W) : IR w W z js jl jc jb pl pc pe := ⟨h.b8.only ho (fun h => h), h.b9.only ho (fun h => h), h.b10.only ho (fun h => h), h.only.trans ho⟩
theorem blk_set5 {W : World} {g : Nat} {t : TypeId} {a0 a1 a2 a3 a4 : Value} (h : Blk W g t #[a0, a1, a2, a3, a4]) (v0 v1 v2 v3 v4 : Value) : Blk (((((W.setCell ⟨g, 0, none⟩ v0).setCell ⟨g, 1, none⟩ v1).setCell ⟨g, 2, none⟩ v2).setCell ⟨g, 3, none⟩ v3).setCell ⟨g, 4, none⟩ v4) g t #[v0, v1, v2, v3, v4] := ((((h.set_ 0 v0).set_ 1 v1).set_ 2 v2).set_ 3 v3).set_ 4 v4
theorem blk_set4 {W : World} {g : Nat} {t : TypeId} {a0 a1 a2 a3 : Value} (h : Blk W g t #[a0, a1, a2, a3]) (v0 v1 v2 v3 : Value) : Blk ((((W.setCell ⟨g, 0, none⟩ v0).setCell ⟨g, 1, none⟩ v1).setCell ⟨g, 2, none⟩ v2).setCell ⟨g, 3, none⟩ v3) g t #[v0, v1, v2, v3] := (((h.set_ 0 v0).set_ 1 v1).set_ 2 v2).set_ 3 v3
theorem blk_set3 {W : World} {g : Nat} {t : TypeId} {a0 a1 a2 : Value} (h : Blk W g t #[a0, a1, a2]) (v0 v1 v2 : Value) : Blk (((W.setCell ⟨g, 0, none⟩ v0).setCell ⟨g, 1, none⟩ v1).setCell ⟨g, 2, none⟩ v2) g t #[v0, v1, v2] := ((h.set_ 0 v0).set_ 1 v1).set_ 2 v2
theorem blk_far5 {W : World} {g b : Nat} {t : TypeId} {cs : Array Value} (h : Blk W g t cs) (hn : g ≠ b) (v0 v1 v2 v3 v4 : Value) : Blk (((((W.setCell ⟨b, 0, none⟩ v0).setCell ⟨b, 1, none⟩ v1).setCell ⟨b, 2, none⟩ v2).setCell ⟨b, 3, none⟩ v3).setCell ⟨b, 4, none⟩ v4) g t cs := ((((h.far (p := ⟨b, 0, none⟩) hn v0).far (p := ⟨b, 1, none⟩) hn v1).far (p := ⟨b, 2, none⟩) hn v2).far (p := ⟨b, 3, none⟩) hn v3).far (p := ⟨b, 4, none⟩) hn v4
theorem blk_far4 {W : World} {g b : Nat} {t : TypeId} {cs : Array Value} (h : Blk W g t cs) (hn : g ≠ b) (v0 v1 v2 v3 : Value) : Blk ((((W.setCell ⟨b, 0, none⟩ v0).setCell ⟨b, 1, none⟩ v1).setCell ⟨b, 2, none⟩ v2).setCell ⟨b, 3, none⟩ v3) g t cs := (((h.far (p := ⟨b, 0, none⟩) hn v0).far (p := ⟨b, 1, none⟩) hn v1).far (p := ⟨b, 2, none⟩) hn v2).far (p := ⟨b, 3, none⟩) hn v3
theorem blk_far3 {W : World} {g b : Nat} {t : TypeId} {cs : Array Value} (h : Blk W g t cs) (hn : g ≠ b) (v0 v1 v2 : Value) : Blk (((W.setCell ⟨b, 0, none⟩ v0).setCell ⟨b, 1, none⟩ v1).setCell ⟨b, 2, none⟩ v2) g t cs := ((h.far (p := ⟨b, 0, none⟩) hn v0).far (p := ⟨b, 1, none⟩) hn v1).far (p := ⟨b, 2, none⟩) hn v2
/-- The world with the results' boxes filled. -/
def putW (w wx : World) (z : PIns) (js : ByteArray) (jl jc : Int) (jb : Bool) (pl pc pe : Int) : World := ((((((((((((wx.setCell ⟨w.heap.size, 0, none⟩ (.int .i64 z.op)).setCell ⟨w.heap.size, 1, none⟩ (.int .i64 z.a)).setCell ⟨w.heap.size, 2, none⟩ (.int .i64 z.b)).setCell ⟨w.heap.size, 3, none⟩ (.int .i64 z.c)).setCell ⟨w.heap.size, 4, none⟩ (.int .u64 z.n)).setCell ⟨w.heap.size + 1, 0, none⟩ (.string js)).setCell ⟨w.heap.size + 1, 1, none⟩ (.int .i64 jl)).setCell ⟨w.heap.size + 1, 2, none⟩ (.int .i64 jc)).setCell ⟨w.heap.size + 1, 3, none⟩ (.bool jb)).setCell ⟨w.heap.size + 1 + 1, 0, none⟩ (.int .i64 pl)).setCell ⟨w.heap.size + 1 + 1, 1, none⟩ (.int .i64 pc)).setCell ⟨w.heap.size + 1 + 1, 2, none⟩ (.int .i64 pe))
theorem IW.put {w wx : World} {y : PIns} (h : IW w wx y) (z : PIns) (js : ByteArray) (jl jc : Int) (jb : Bool) (pl pc pe : Int) : IR w (putW w wx z js jl jc jb pl pc pe) z js jl jc jb pl pc pe := by
  have n1 : w.heap.size ≠ w.heap.size + 1 := by omega
  have n2 : w.heap.size ≠ w.heap.size + 1 + 1 := by omega
  have n3 : w.heap.size + 1 ≠ w.heap.size := by omega
  have n4 : w.heap.size + 1 ≠ w.heap.size + 1 + 1 := by omega
  have n5 : w.heap.size + 1 + 1 ≠ w.heap.size := by omega
  have n6 : w.heap.size + 1 + 1 ≠ w.heap.size + 1 := by omega
  have l0 : w.heap.size ≤ w.heap.size := Nat.le_refl _
  have l1 : w.heap.size ≤ w.heap.size + 1 := by omega
  have l2 : w.heap.size ≤ w.heap.size + 1 + 1 := by omega
  refine ⟨?_, ?_, ?_, ?_⟩
  · exact blk_far3 (blk_far4 (blk_set5 h.b8 _ _ _ _ _) n1 _ _ _ _) n2 _ _ _
  · exact blk_far3 (blk_set4 (blk_far5 h.b9 n3 _ _ _ _ _) _ _ _ _) n4 _ _ _
  · exact blk_set3 (blk_far4 (blk_far5 h.b10 n5 _ _ _ _ _) n6 _ _ _ _) _ _ _
  · unfold putW
    have o0 : ∀ g i u (W : World), w.heap.size ≤ g → Only Nob w W → Only Nob w (W.setCell ⟨g, i, none⟩ u) := fun g i u W hg ho => ho.setCell (.inr hg) u
    repeat' (first | (with_reducible exact h.only) | (with_reducible refine o0 _ _ _ _ (by assumption) ?_))
theorem instr_ret {w W : World} {a : Act} {z : PIns} {js : ByteArray} {jl jc : Int} {jb : Bool} {pl pc pe : Int} {Q : Ending → World → Prop} (h8 : a.tmps.getD 8 undef = .pointer (some ⟨w.heap.size, 0, none⟩)) (h9 : a.tmps.getD 9 undef = .pointer (some ⟨w.heap.size + 1, 0, none⟩)) (h10 : a.tmps.getD 10 undef = .pointer (some ⟨w.heap.size + 1 + 1, 0, none⟩)) (hd : a.defers = [])
    (hr : IR w W z js jl jc jb pl pc pe) (hq : Q (.returned (.tuple #[.agg #[.int .i64 z.op, .int .i64 z.a, .int .i64 z.b, .int .i64 z.c, .int .u64 z.n], .agg #[.string js, .int .i64 jl, .int .i64 jc, .bool jb], .agg #[.int .i64 pl, .int .i64 pc, .int .i64 pe]])) W) : bodyPost Tryd.prog Tryd.f92 Q .ret a W := by
  have c0 := hr.b8.cell 0
  have c1 := hr.b8.cell 1
  have c2 := hr.b8.cell 2
  have c3 := hr.b8.cell 3
  have c4 := hr.b8.cell 4
  have d0 := hr.b9.cell 0
  have d1 := hr.b9.cell 1
  have d2 := hr.b9.cell 2
  have d3 := hr.b9.cell 3
  have e0 := hr.b10.cell 0
  have e1 := hr.b10.cell 1
  have e2 := hr.b10.cell 2
  simp at c0 c1 c2 c3 c4 d0 d1 d2 d3 e0 e1 e2
  simp only [Array.getD_eq_getD_getElem?] at h8 h9 h10
  exact bodyPost_ret (by simp [results, Tryd.results92, go_sem, h8, h9, h10, c0, c1, c2, c3, c4, d0, d1, d2, d3, e0, e1, e2]; try rfl) hd hq
/-- The instruction that the first word names, so far. -/
def opW (bad : Bool) (s : ByteArray) (k : Nat) : Int := if bad = true then 0 else lastOf nameList s k
theorem opW_zero (bad : Bool) (s : ByteArray) : opW bad s 0 = 0 := by unfold opW; split <;> rfl
theorem opW_bad (s : ByteArray) (k : Nat) : opW true s k = 0 := rfl
theorem opW_hit {s : ByteArray} {k : Nat} (h : nameList.getD (k + 1) ⟨#[]⟩ = s) : opW false s (k + 1) = (k : Int) + 1 := by
  show lastOf nameList s (k + 1) = _
  unfold lastOf
  rw [if_pos h]
  simp
theorem opW_miss {s : ByteArray} {k : Nat} (h : ¬ nameList.getD (k + 1) ⟨#[]⟩ = s) : opW false s (k + 1) = opW false s k := by
  show lastOf nameList s (k + 1) = lastOf nameList s k
  conv => lhs; unfold lastOf
  rw [if_neg h]
theorem opW_end (bad : Bool) (s : ByteArray) : (bad || !isOf nameList s) = true ∧ opW bad s 23 = 0 ∨ (bad || !isOf nameList s) = false ∧ opW bad s 23 = numOf nameList s ∧ 1 ≤ numOf nameList s ∧ numOf nameList s ≤ 23 := by
  obtain ⟨h1, h2⟩ := fold_num nameList_ok nameList_len rfl s
  cases bad with
  | true => exact .inl ⟨rfl, rfl⟩
  | false =>
    have e : opW false s 23 = numOf nameList s := h1
    rw [e]
    have hr := lastOf_range nameList s 23
    rw [h1] at hr
    cases hi : isOf nameList s with
    | false =>
      refine .inl ⟨rfl, ?_⟩
      unfold isOf at hi
      unfold numOf
      have : ¬ 1 ≤ idx s nameList 0 := by simpa using hi
      rw [if_pos (by omega)]
    | true =>
      refine .inr ⟨rfl, rfl, ?_, hr.2⟩
      unfold isOf at hi
      have h3 : 1 ≤ idx s nameList 0 := by simpa using hi
      unfold numOf
      rw [if_neg (by omega)]
      exact h3
/-- What 'instruction' leaves. -/
def InstrPost (w : World) (line : Int) (q : Out (PIns × List JP)) (e : Ending) (w' : World) : Prop :=
  ∃ (y : PIns) (js : ByteArray) (jl jc : Int) (jb : Bool) (pl pc pe : Int), e = .returned (.tuple #[.agg #[.int .i64 y.op, .int .i64 y.a, .int .i64 y.b, .int .i64 y.c, .int .u64 y.n], .agg #[.string js, .int .i64 jl, .int .i64 jc, .bool jb], .agg #[.int .i64 pl, .int .i64 pc, .int .i64 pe]]) ∧ Only Nob w w' ∧
    match q with
    | .ok (x, []) => y = x ∧ js = ⟨#[]⟩ ∧ pl = 0 ∧ pc = 0 ∧ pe = 0
    | .ok (x, j :: _) => y = x ∧ js.data.toList = j.s ∧ jl = line ∧ jc = (j.col : Int) ∧ jb = false ∧ pl = 0 ∧ pc = 0 ∧ pe = 0
    | .err c er => pl = line ∧ pc = (c : Int) ∧ pe = (er : Int)
theorem instr_err {w wx W : World} {a : Act} {y : PIns} (h : IW w wx y) (z : PIns) {line : Int} {q : Out (PIns × List JP)} {c er : Nat} {ei : Int} (hq : q = .err c er) (hei : ei = (er : Int)) (h8 : a.tmps.getD 8 undef = .pointer (some ⟨w.heap.size, 0, none⟩)) (h9 : a.tmps.getD 9 undef = .pointer (some ⟨w.heap.size + 1, 0, none⟩)) (h10 : a.tmps.getD 10 undef = .pointer (some ⟨w.heap.size + 1 + 1, 0, none⟩)) (hd : a.defers = [])
    (ho : Only Nob (putW w wx z ⟨#[]⟩ 0 0 false line (c : Int) ei) W) : bodyPost Tryd.prog Tryd.f92 (InstrPost w line q) .ret a W := by
  subst hei
  have hr := (h.put z ⟨#[]⟩ 0 0 false line (c : Int) (er : Int)).nob ho
  exact instr_ret h8 h9 h10 hd hr ⟨z, _, _, _, _, _, _, _, rfl, hr.only, by rw [hq]; exact ⟨rfl, rfl, rfl⟩⟩
/-- The jump's box. -/
def JR (line : Int) (js : List JP) (s : ByteArray) (jl jc : Int) (jb : Bool) : Prop := match js with
  | [] => s = ⟨#[]⟩
  | j :: _ => s.data.toList = j.s ∧ jl = line ∧ jc = (j.col : Int) ∧ jb = false
theorem instr_ok {w wx W : World} {a : Act} {y : PIns} (h : IW w wx y) {line : Int} {q : Out (PIns × List JP)} {js : List JP} (hq : q = .ok (y, js)) {s : ByteArray} {jl jc : Int} {jb : Bool} (hj : JR line js s jl jc jb) (h8 : a.tmps.getD 8 undef = .pointer (some ⟨w.heap.size, 0, none⟩)) (h9 : a.tmps.getD 9 undef = .pointer (some ⟨w.heap.size + 1, 0, none⟩)) (h10 : a.tmps.getD 10 undef = .pointer (some ⟨w.heap.size + 1 + 1, 0, none⟩)) (hd : a.defers = [])
    (ho : Only Nob (putW w wx y s jl jc jb 0 0 0) W) : bodyPost Tryd.prog Tryd.f92 (InstrPost w line q) .ret a W := by
  have hr := (h.put y s jl jc jb 0 0 0).nob ho
  refine instr_ret h8 h9 h10 hd hr ⟨y, s, jl, jc, jb, 0, 0, 0, rfl, hr.only, ?_⟩
  rw [hq]
  cases js with
  | nil => exact ⟨rfl, hj, rfl, rfl, rfl⟩
  | cons j r => exact ⟨rfl, hj.1, hj.2.1, hj.2.2.1, hj.2.2.2, rfl, rfl, rfl⟩
theorem drop_some {α : Type} {l : List α} {k : Nat} {x : α} (h : l[k]? = some x) : l.drop k = x :: l.drop (k + 1) := by
  obtain ⟨hk, rfl⟩ := List.getElem?_eq_some_iff.1 h
  exact List.drop_eq_getElem_cons hk
theorem rfield_no {w w' : World} {e : Ending} (h : RFieldPost w none e w') : ∃ yo ya yb yc yn : Int, e = .returned (.tuple #[.agg #[.int .i64 yo, .int .i64 ya, .int .i64 yb, .int .i64 yc, .int .u64 yn], .bool false]) ∧ Only Nob w w' := by
  obtain ⟨y, he, _, ho⟩ := h
  exact ⟨y.op, y.a, y.b, y.c, y.n, he, ho⟩
theorem rfield_yes {w w' : World} {e : Ending} {p : Option PIns} {x : PIns} (hp : p = some x) (h : RFieldPost w p e w') : e = .returned (.tuple #[.agg #[.int .i64 x.op, .int .i64 x.a, .int .i64 x.b, .int .i64 x.c, .int .u64 x.n], .bool true]) ∧ Only Nob w w' := by
  subst hp
  obtain ⟨y, he, hy, ho⟩ := h
  have := hy x rfl
  subst this
  exact ⟨he, ho⟩
theorem IW.far4 {w wx : World} {y : PIns} (h : IW w wx y) {g : Nat} (hg : w.heap.size + 1 + 1 + 1 < g) (v0 v1 v2 v3 : Value) : IW w ((((wx.setCell ⟨g, 0, none⟩ v0).setCell ⟨g, 1, none⟩ v1).setCell ⟨g, 2, none⟩ v2).setCell ⟨g, 3, none⟩ v3) y := by
  have o0 : ∀ i u (W : World), Only Nob w W → Only Nob w (W.setCell ⟨g, i, none⟩ u) := fun i u W ho => ho.setCell (.inr (show w.heap.size ≤ g by omega)) u
  exact ⟨blk_far4 h.b8 (by omega) _ _ _ _, blk_far4 h.b9 (by omega) _ _ _ _, blk_far4 h.b10 (by omega) _ _ _ _, blk_far4 h.b11 (by omega) _ _ _ _, o0 _ _ _ (o0 _ _ _ (o0 _ _ _ (o0 _ _ _ h.only)))⟩
end Go.Proofs.YtngahgfppbjebaaDoor

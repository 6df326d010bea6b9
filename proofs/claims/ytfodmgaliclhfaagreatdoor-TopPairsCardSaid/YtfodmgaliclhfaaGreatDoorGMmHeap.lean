/- Lemmas for TopPairs; no conditions. -/
import Derived.Test.YtfodmgaliclhfaaGreatDoorGCodeNum
import Derived.Outline
namespace Go.Proofs.YtfodmgaliclhfaaGreatDoor
set_option linter.unusedVariables false
set_option linter.unusedSimpArgs false
set_option maxRecDepth 100000
set_option maxHeartbeats 1000000
open Go.RowKit
def fAl (n:Int):Int:=if n=23 then 1 else 0
def fAh (n:Int):Int:=if n=23 then 12 else if 1≤n∧n≤11∨n=13∨n=21 then 7 else 0
def fBh (n:Int):Int:=if 2≤n∧n≤10∨n=23 then 7 else 0
def fCh (n:Int):Int:=if 3≤n∧n≤7 then 7 else if n=8∨n=9 then 15 else if n=12∨n=13 then 40 else if n=23 then 6 else 0
def FieldsPost (w:World)(n:Int)(e:Ending)(w':World):Prop :=
 ∃j,e=.returned (.tuple #[.agg #[.int .i64 (fAl n),.int .i64 (fAh n)],.agg #[.int .i64 0,.int .i64 (fBh n)],.agg #[.int .i64 0,.int .i64 (fCh n)]]) ∧
  w'=((((w.alloc (.cells #[.int .i64 (fAl n),.int .i64 (fAh n)] 326)).alloc (.cells #[.int .i64 0,.int .i64 (fBh n)] 326)).alloc (.cells #[.int .i64 0,.int .i64 (fCh n)] 326)).alloc (.cells #[.int .i64 0,.int .i64 7] 326)).drewN j
theorem fields_1 (w:World):Calls Tryz.prog 229 #[.int .i64 1] w (FieldsPost w 1):=by
 have HP:Hid (∀e w',e=.returned (.tuple #[.agg #[.int .i64 0,.int .i64 7],.agg #[.int .i64 0,.int .i64 0],.agg #[.int .i64 0,.int .i64 0]]) →
   w'=((((w.alloc (.cells #[.int .i64 0,.int .i64 7] 326)).alloc (.cells #[.int .i64 0,.int .i64 0] 326)).alloc (.cells #[.int .i64 0,.int .i64 0] 326)).alloc (.cells #[.int .i64 0,.int .i64 7] 326)).drewN 1→FieldsPost w 1 e w') :=
  fun e w' h1 h2=>⟨1,h1,h2⟩
 go_enter Tryz.func229,Tryz.ntmps229;go_wp2;go_region;go_wp2;exact bodyPost_ret (by simp[results,Tryz.results229,go_sem];try rfl) rfl (HP.o _ _ rfl rfl)
theorem fields_2 (w:World):Calls Tryz.prog 229 #[.int .i64 2] w (FieldsPost w 2):=by
 have HP:Hid (∀e w',e=.returned (.tuple #[.agg #[.int .i64 0,.int .i64 7],.agg #[.int .i64 0,.int .i64 7],.agg #[.int .i64 0,.int .i64 0]]) →
   w'=((((w.alloc (.cells #[.int .i64 0,.int .i64 7] 326)).alloc (.cells #[.int .i64 0,.int .i64 7] 326)).alloc (.cells #[.int .i64 0,.int .i64 0] 326)).alloc (.cells #[.int .i64 0,.int .i64 7] 326)).drewN 2→FieldsPost w 2 e w') :=
  fun e w' h1 h2=>⟨2,h1,h2⟩
 go_enter Tryz.func229,Tryz.ntmps229;go_wp2;go_region;go_wp2;go_region;go_wp2;exact bodyPost_ret (by simp[results,Tryz.results229,go_sem];try rfl) rfl (HP.o _ _ rfl rfl)
theorem fields_3 (w:World):Calls Tryz.prog 229 #[.int .i64 3] w (FieldsPost w 3):=by
 have HP:Hid (∀e w',e=.returned (.tuple #[.agg #[.int .i64 0,.int .i64 7],.agg #[.int .i64 0,.int .i64 7],.agg #[.int .i64 0,.int .i64 7]]) →
   w'=((((w.alloc (.cells #[.int .i64 0,.int .i64 7] 326)).alloc (.cells #[.int .i64 0,.int .i64 7] 326)).alloc (.cells #[.int .i64 0,.int .i64 7] 326)).alloc (.cells #[.int .i64 0,.int .i64 7] 326)).drewN 2→FieldsPost w 3 e w') :=
  fun e w' h1 h2=>⟨2,h1,h2⟩
 go_enter Tryz.func229,Tryz.ntmps229;go_wp2;go_region;go_wp2;go_region;go_wp2;exact bodyPost_ret (by simp[results,Tryz.results229,go_sem];try rfl) rfl (HP.o _ _ rfl rfl)
theorem fields_4 (w:World):Calls Tryz.prog 229 #[.int .i64 4] w (FieldsPost w 4):=by
 have HP:Hid (∀e w',e=.returned (.tuple #[.agg #[.int .i64 0,.int .i64 7],.agg #[.int .i64 0,.int .i64 7],.agg #[.int .i64 0,.int .i64 7]]) →
   w'=((((w.alloc (.cells #[.int .i64 0,.int .i64 7] 326)).alloc (.cells #[.int .i64 0,.int .i64 7] 326)).alloc (.cells #[.int .i64 0,.int .i64 7] 326)).alloc (.cells #[.int .i64 0,.int .i64 7] 326)).drewN 2→FieldsPost w 4 e w') :=
  fun e w' h1 h2=>⟨2,h1,h2⟩
 go_enter Tryz.func229,Tryz.ntmps229;go_wp2;go_region;go_wp2;go_region;go_wp2;exact bodyPost_ret (by simp[results,Tryz.results229,go_sem];try rfl) rfl (HP.o _ _ rfl rfl)
theorem fields_5 (w:World):Calls Tryz.prog 229 #[.int .i64 5] w (FieldsPost w 5):=by
 have HP:Hid (∀e w',e=.returned (.tuple #[.agg #[.int .i64 0,.int .i64 7],.agg #[.int .i64 0,.int .i64 7],.agg #[.int .i64 0,.int .i64 7]]) →
   w'=((((w.alloc (.cells #[.int .i64 0,.int .i64 7] 326)).alloc (.cells #[.int .i64 0,.int .i64 7] 326)).alloc (.cells #[.int .i64 0,.int .i64 7] 326)).alloc (.cells #[.int .i64 0,.int .i64 7] 326)).drewN 2→FieldsPost w 5 e w') :=
  fun e w' h1 h2=>⟨2,h1,h2⟩
 go_enter Tryz.func229,Tryz.ntmps229;go_wp2;go_region;go_wp2;go_region;go_wp2;exact bodyPost_ret (by simp[results,Tryz.results229,go_sem];try rfl) rfl (HP.o _ _ rfl rfl)
theorem fields_6 (w:World):Calls Tryz.prog 229 #[.int .i64 6] w (FieldsPost w 6):=by
 have HP:Hid (∀e w',e=.returned (.tuple #[.agg #[.int .i64 0,.int .i64 7],.agg #[.int .i64 0,.int .i64 7],.agg #[.int .i64 0,.int .i64 7]]) →
   w'=((((w.alloc (.cells #[.int .i64 0,.int .i64 7] 326)).alloc (.cells #[.int .i64 0,.int .i64 7] 326)).alloc (.cells #[.int .i64 0,.int .i64 7] 326)).alloc (.cells #[.int .i64 0,.int .i64 7] 326)).drewN 2→FieldsPost w 6 e w') :=
  fun e w' h1 h2=>⟨2,h1,h2⟩
 go_enter Tryz.func229,Tryz.ntmps229;go_wp2;go_region;go_wp2;go_region;go_wp2;exact bodyPost_ret (by simp[results,Tryz.results229,go_sem];try rfl) rfl (HP.o _ _ rfl rfl)
theorem fields_7 (w:World):Calls Tryz.prog 229 #[.int .i64 7] w (FieldsPost w 7):=by
 have HP:Hid (∀e w',e=.returned (.tuple #[.agg #[.int .i64 0,.int .i64 7],.agg #[.int .i64 0,.int .i64 7],.agg #[.int .i64 0,.int .i64 7]]) →
   w'=((((w.alloc (.cells #[.int .i64 0,.int .i64 7] 326)).alloc (.cells #[.int .i64 0,.int .i64 7] 326)).alloc (.cells #[.int .i64 0,.int .i64 7] 326)).alloc (.cells #[.int .i64 0,.int .i64 7] 326)).drewN 2→FieldsPost w 7 e w') :=
  fun e w' h1 h2=>⟨2,h1,h2⟩
 go_enter Tryz.func229,Tryz.ntmps229;go_wp2;go_region;go_wp2;go_region;go_wp2;exact bodyPost_ret (by simp[results,Tryz.results229,go_sem];try rfl) rfl (HP.o _ _ rfl rfl)
theorem fields_8 (w:World):Calls Tryz.prog 229 #[.int .i64 8] w (FieldsPost w 8):=by
 have HP:Hid (∀e w',e=.returned (.tuple #[.agg #[.int .i64 0,.int .i64 7],.agg #[.int .i64 0,.int .i64 7],.agg #[.int .i64 0,.int .i64 15]]) →
   w'=((((w.alloc (.cells #[.int .i64 0,.int .i64 7] 326)).alloc (.cells #[.int .i64 0,.int .i64 7] 326)).alloc (.cells #[.int .i64 0,.int .i64 15] 326)).alloc (.cells #[.int .i64 0,.int .i64 7] 326)).drewN 2→FieldsPost w 8 e w') :=
  fun e w' h1 h2=>⟨2,h1,h2⟩
 go_enter Tryz.func229,Tryz.ntmps229;go_wp2;go_region;go_wp2;go_region;go_wp2;exact bodyPost_ret (by simp[results,Tryz.results229,go_sem];try rfl) rfl (HP.o _ _ rfl rfl)
theorem fields_9 (w:World):Calls Tryz.prog 229 #[.int .i64 9] w (FieldsPost w 9):=by
 have HP:Hid (∀e w',e=.returned (.tuple #[.agg #[.int .i64 0,.int .i64 7],.agg #[.int .i64 0,.int .i64 7],.agg #[.int .i64 0,.int .i64 15]]) →
   w'=((((w.alloc (.cells #[.int .i64 0,.int .i64 7] 326)).alloc (.cells #[.int .i64 0,.int .i64 7] 326)).alloc (.cells #[.int .i64 0,.int .i64 15] 326)).alloc (.cells #[.int .i64 0,.int .i64 7] 326)).drewN 2→FieldsPost w 9 e w') :=
  fun e w' h1 h2=>⟨2,h1,h2⟩
 go_enter Tryz.func229,Tryz.ntmps229;go_wp2;go_region;go_wp2;go_region;go_wp2;exact bodyPost_ret (by simp[results,Tryz.results229,go_sem];try rfl) rfl (HP.o _ _ rfl rfl)
theorem fields_10 (w:World):Calls Tryz.prog 229 #[.int .i64 10] w (FieldsPost w 10):=by
 have HP:Hid (∀e w',e=.returned (.tuple #[.agg #[.int .i64 0,.int .i64 7],.agg #[.int .i64 0,.int .i64 7],.agg #[.int .i64 0,.int .i64 0]]) →
   w'=((((w.alloc (.cells #[.int .i64 0,.int .i64 7] 326)).alloc (.cells #[.int .i64 0,.int .i64 7] 326)).alloc (.cells #[.int .i64 0,.int .i64 0] 326)).alloc (.cells #[.int .i64 0,.int .i64 7] 326)).drewN 2→FieldsPost w 10 e w') :=
  fun e w' h1 h2=>⟨2,h1,h2⟩
 go_enter Tryz.func229,Tryz.ntmps229;go_wp2;go_region;go_wp2;go_region;go_wp2;exact bodyPost_ret (by simp[results,Tryz.results229,go_sem];try rfl) rfl (HP.o _ _ rfl rfl)
theorem fields_11 (w:World):Calls Tryz.prog 229 #[.int .i64 11] w (FieldsPost w 11):=by
 have HP:Hid (∀e w',e=.returned (.tuple #[.agg #[.int .i64 0,.int .i64 7],.agg #[.int .i64 0,.int .i64 0],.agg #[.int .i64 0,.int .i64 0]]) →
   w'=((((w.alloc (.cells #[.int .i64 0,.int .i64 7] 326)).alloc (.cells #[.int .i64 0,.int .i64 0] 326)).alloc (.cells #[.int .i64 0,.int .i64 0] 326)).alloc (.cells #[.int .i64 0,.int .i64 7] 326)).drewN 1→FieldsPost w 11 e w') :=
  fun e w' h1 h2=>⟨1,h1,h2⟩
 go_enter Tryz.func229,Tryz.ntmps229;go_wp2;go_region;go_wp2;exact bodyPost_ret (by simp[results,Tryz.results229,go_sem];try rfl) rfl (HP.o _ _ rfl rfl)
theorem fields_12 (w:World):Calls Tryz.prog 229 #[.int .i64 12] w (FieldsPost w 12):=by
 have HP:Hid (∀e w',e=.returned (.tuple #[.agg #[.int .i64 0,.int .i64 0],.agg #[.int .i64 0,.int .i64 0],.agg #[.int .i64 0,.int .i64 40]]) →
   w'=((((w.alloc (.cells #[.int .i64 0,.int .i64 0] 326)).alloc (.cells #[.int .i64 0,.int .i64 0] 326)).alloc (.cells #[.int .i64 0,.int .i64 40] 326)).alloc (.cells #[.int .i64 0,.int .i64 7] 326)).drewN 1→FieldsPost w 12 e w') :=
  fun e w' h1 h2=>⟨1,h1,h2⟩
 go_enter Tryz.func229,Tryz.ntmps229;go_wp2;go_region;go_wp2;exact bodyPost_ret (by simp[results,Tryz.results229,go_sem];try rfl) rfl (HP.o _ _ rfl rfl)
theorem fields_13 (w:World):Calls Tryz.prog 229 #[.int .i64 13] w (FieldsPost w 13):=by
 have HP:Hid (∀e w',e=.returned (.tuple #[.agg #[.int .i64 0,.int .i64 7],.agg #[.int .i64 0,.int .i64 0],.agg #[.int .i64 0,.int .i64 40]]) →
   w'=((((w.alloc (.cells #[.int .i64 0,.int .i64 7] 326)).alloc (.cells #[.int .i64 0,.int .i64 0] 326)).alloc (.cells #[.int .i64 0,.int .i64 40] 326)).alloc (.cells #[.int .i64 0,.int .i64 7] 326)).drewN 1→FieldsPost w 13 e w') :=
  fun e w' h1 h2=>⟨1,h1,h2⟩
 go_enter Tryz.func229,Tryz.ntmps229;go_wp2;go_region;go_wp2;exact bodyPost_ret (by simp[results,Tryz.results229,go_sem];try rfl) rfl (HP.o _ _ rfl rfl)
theorem fields_21 (w:World):Calls Tryz.prog 229 #[.int .i64 21] w (FieldsPost w 21):=by
 have HP:Hid (∀e w',e=.returned (.tuple #[.agg #[.int .i64 0,.int .i64 7],.agg #[.int .i64 0,.int .i64 0],.agg #[.int .i64 0,.int .i64 0]]) →
   w'=((((w.alloc (.cells #[.int .i64 0,.int .i64 7] 326)).alloc (.cells #[.int .i64 0,.int .i64 0] 326)).alloc (.cells #[.int .i64 0,.int .i64 0] 326)).alloc (.cells #[.int .i64 0,.int .i64 7] 326)).drewN 1→FieldsPost w 21 e w') :=
  fun e w' h1 h2=>⟨1,h1,h2⟩
 go_enter Tryz.func229,Tryz.ntmps229;go_wp2;go_region;go_wp2;exact bodyPost_ret (by simp[results,Tryz.results229,go_sem];try rfl) rfl (HP.o _ _ rfl rfl)
theorem fields_23 (w:World):Calls Tryz.prog 229 #[.int .i64 23] w (FieldsPost w 23):=by
 have HP:Hid (∀e w',e=.returned (.tuple #[.agg #[.int .i64 1,.int .i64 12],.agg #[.int .i64 0,.int .i64 7],.agg #[.int .i64 0,.int .i64 6]]) →
   w'=((((w.alloc (.cells #[.int .i64 1,.int .i64 12] 326)).alloc (.cells #[.int .i64 0,.int .i64 7] 326)).alloc (.cells #[.int .i64 0,.int .i64 6] 326)).alloc (.cells #[.int .i64 0,.int .i64 7] 326)).drewN 1→FieldsPost w 23 e w') :=
  fun e w' h1 h2=>⟨1,h1,h2⟩
 go_enter Tryz.func229,Tryz.ntmps229;go_wp2;go_region;go_wp2;exact bodyPost_ret (by simp[results,Tryz.results229,go_sem];try rfl) rfl (HP.o _ _ rfl rfl)
theorem fields_other (n:Int)(w:World)(hn:n≠1∧n≠2∧n≠3∧n≠4∧n≠5∧n≠6∧n≠7∧n≠8∧n≠9∧n≠10∧n≠11∧n≠12∧n≠13∧n≠21∧n≠23):Calls Tryz.prog 229 #[.int .i64 n] w (FieldsPost w n):=by
 have a1:fAl n=0:=by simp only[fAl];rw[if_neg (by omega)]
 have a2:fAh n=0:=by simp only[fAh];rw[if_neg (by omega),if_neg (by omega)]
 have a3:fBh n=0:=by simp only[fBh];rw[if_neg (by omega)]
 have a4:fCh n=0:=by simp only[fCh];rw[if_neg (by omega),if_neg (by omega),if_neg (by omega),if_neg (by omega)]
 have HP:Hid (∀e w',e=.returned (.tuple #[.agg #[.int .i64 0,.int .i64 0],.agg #[.int .i64 0,.int .i64 0],.agg #[.int .i64 0,.int .i64 0]]) →
   w'=((((w.alloc (.cells #[.int .i64 0,.int .i64 0] 326)).alloc (.cells #[.int .i64 0,.int .i64 0] 326)).alloc (.cells #[.int .i64 0,.int .i64 0] 326)).alloc (.cells #[.int .i64 0,.int .i64 7] 326)).drewN 1→FieldsPost w n e w'):=by
  intro e w' h1 h2;refine⟨1,?_,?_⟩
  ·rw[h1,a1,a2,a3,a4]
  ·rw[h2,a1,a2,a3,a4]
 clear a1 a2 a3 a4;have e1:(n==1)=false:=by simp;omega
 have e2:(n==2)=false:=by simp;omega
 have e3:(n==3)=false:=by simp;omega
 have e4:(n==4)=false:=by simp;omega
 have e5:(n==5)=false:=by simp;omega
 have e6:(n==6)=false:=by simp;omega
 have e7:(n==7)=false:=by simp;omega
 have e8:(n==8)=false:=by simp;omega
 have e9:(n==9)=false:=by simp;omega
 have e10:(n==10)=false:=by simp;omega
 have e11:(n==11)=false:=by simp;omega
 have e12:(n==12)=false:=by simp;omega
 have e13:(n==13)=false:=by simp;omega
 have e21:(n==21)=false:=by simp;omega
 have e23:(n==23)=false:=by simp;omega
 clear hn;go_enter Tryz.func229,Tryz.ntmps229;go_wp2;go_region;go_wp2;exact bodyPost_ret (by simp[results,Tryz.results229,go_sem];try rfl) rfl (HP.o _ _ rfl rfl)
theorem fields_any (n:Int)(w:World):Calls Tryz.prog 229 #[.int .i64 n] w (FieldsPost w n):=by
 by_cases hn:n≠1∧n≠2∧n≠3∧n≠4∧n≠5∧n≠6∧n≠7∧n≠8∧n≠9∧n≠10∧n≠11∧n≠12∧n≠13∧n≠21∧n≠23
 ·exact fields_other n w hn
 ·rcases(by omega:n=1∨n=2∨n=3∨n=4∨n=5∨n=6∨n=7∨n=8∨n=9∨n=10∨n=11∨n=12∨n=13∨n=21∨n=23) with rfl|rfl|rfl|rfl|rfl|rfl|rfl|rfl|rfl|rfl|rfl|rfl|rfl|rfl|rfl
  ·exact fields_1 w
  ·exact fields_2 w
  ·exact fields_3 w
  ·exact fields_4 w
  ·exact fields_5 w
  ·exact fields_6 w
  ·exact fields_7 w
  ·exact fields_8 w
  ·exact fields_9 w
  ·exact fields_10 w
  ·exact fields_11 w
  ·exact fields_12 w
  ·exact fields_13 w
  ·exact fields_21 w
  ·exact fields_23 w
def fitsB (l h n:Int):Bool:=decide (l≤n∧n≤h)
theorem fits_any (l h n:Int)(w:World):Calls Tryz.prog 231 #[.agg #[.int .i64 l,.int .i64 h],.int .i64 n] w fun e w' =>
  e=.returned (.bool (fitsB l h n))∧w'=w.alloc (.cells #[.int .i64 l,.int .i64 h] 326):=by
 by_cases h1:l≤n
 ·by_cases h2:n≤h
  ·rw[show fitsB l h n=true by simp[fitsB,h1,h2]]
   have d:decide (n≤h)=true:=by simpa using h2
   go_enter Tryz.func231,Tryz.ntmps231;go_wp2;go_ret;exact⟨rfl,rfl⟩
  ·rw[show fitsB l h n=false by simp[fitsB,h2]]
   have d:decide (n≤h)=false:=by simpa using h2
   go_enter Tryz.func231,Tryz.ntmps231;go_wp2;go_ret;exact⟨rfl,rfl⟩
 ·rw[show fitsB l h n=false by simp[fitsB,h1]]
  have d:decide (l≤n)=false:=by simpa using h1
  go_enter Tryz.func231,Tryz.ntmps231;go_wp2;go_ret;exact⟨rfl,rfl⟩
def opB (op:Int):Bool:=decide (1≤op∧op≤23)
def mayB (op a b c N:Int):Bool:=opB op&&fitsB (fAl op) (fAh op) a&&fitsB 0 (fBh op) b&&fitsB 0 (fCh op) c&&(decide (N=0)||decide (op=1))
theorem name_ok {op:Int}(h:opB op=true):(atList nameList op).toList.isEmpty=false:=by
 have h2:1≤op∧op≤23:=by simpa [opB] using h
 rcases(by omega:op=1∨op=2∨op=3∨op=4∨op=5∨op=6∨op=7∨op=8∨op=9∨op=10∨op=11∨op=12∨op=13∨op=14∨op=15∨op=16∨op=17∨op=18∨op=19∨op=20∨op=21∨op=22∨op=23) with rfl|rfl|rfl|rfl|rfl|rfl|rfl|rfl|rfl|rfl|rfl|rfl|rfl|rfl|rfl|rfl|rfl|rfl|rfl|rfl|rfl|rfl|rfl<;>(rw[ByteArray.toList_eq];rfl)
theorem name_no {op:Int}(h:opB op=false):atList nameList op=⟨#[]⟩:=by
 have h2:¬(1≤op∧op≤23):=by simpa [opB] using h
 unfold atList;by_cases h0:0≤op
 ·obtain⟨k,rfl⟩:=Int.eq_ofNat_of_zero_le h0;rcases(by omega:k=0∨24≤k) with rfl|hk
  ·rfl
  ·rw[if_pos (by omega)]
   have hl:nameList.length≤(Int.toNat (k:Int)):=by
    have:nameList.length=24:=rfl
    omega
   rw[gD,List.getElem?_eq_none hl];rfl
 ·rw[if_neg h0]
theorem may_op (op a b c N:Int)(w:World)(h:opB op=false):
  Calls Tryz.prog 207 #[.agg #[.int .i64 op,.int .i64 a,.int .i64 b,.int .i64 c,.int .u64 N]] w fun e w'=>e=.returned (.bool (mayB op a b c N))∧Only Nob w w':=by
 have hn:=name_no h;have HM:Hid (mayB op a b c N=false):=by unfold Hid;simp[mayB,h]
 go_enter Tryz.func207,Tryz.ntmps207;go_wp2_with (first
  |(go_at_call 229;refine(fields_any _ _).mono ?_;rintro e w1 ⟨j,rfl,rfl⟩)
  |(go_at_call 230;refine(name_any _ _).mono ?_;rintro e w1 ⟨rfl,rfl⟩)
  |(go_at_call 231;refine(fits_any _ _ _ _).mono ?_;rintro e w1 ⟨rfl,rfl⟩))
 go_ret;refine⟨by rw[HM.o];rfl,?_⟩
 repeat' (first|(with_reducible first|refine Only.setCell ?_ ?_ _|refine Only.alloc ?_ _|refine Only.drewN ?_ _|refine Only.drew ?_|exact Only.refl _ _)|(right;simp;done)|(right;simp;omega))
theorem may_a (op a b c N:Int)(w:World)(h:opB op=true)(ha:fitsB (fAl op) (fAh op) a=false):
  Calls Tryz.prog 207 #[.agg #[.int .i64 op,.int .i64 a,.int .i64 b,.int .i64 c,.int .u64 N]] w fun e w'=>e=.returned (.bool (mayB op a b c N))∧Only Nob w w':=by
 have hn:=name_ok h;have HM:Hid (mayB op a b c N=false):=by unfold Hid;simp[mayB,ha]
 go_enter Tryz.func207,Tryz.ntmps207;go_wp2_with (first
  |(go_at_call 229;refine(fields_any _ _).mono ?_;rintro e w1 ⟨j,rfl,rfl⟩)
  |(go_at_call 230;refine(name_any _ _).mono ?_;rintro e w1 ⟨rfl,rfl⟩)
  |(go_at_call 231;refine(fits_any _ _ _ _).mono ?_;rintro e w1 ⟨rfl,rfl⟩))
 go_ret;refine⟨by rw[HM.o];rfl,?_⟩
 repeat' (first|(with_reducible first|refine Only.setCell ?_ ?_ _|refine Only.alloc ?_ _|refine Only.drewN ?_ _|refine Only.drew ?_|exact Only.refl _ _)|(right;simp;done)|(right;simp;omega))
theorem may_b (op a b c N:Int)(w:World)(h:opB op=true)(ha:fitsB (fAl op) (fAh op) a=true)(hb:fitsB 0 (fBh op) b=false):
  Calls Tryz.prog 207 #[.agg #[.int .i64 op,.int .i64 a,.int .i64 b,.int .i64 c,.int .u64 N]] w fun e w'=>e=.returned (.bool (mayB op a b c N))∧Only Nob w w':=by
 have hn:=name_ok h;have HM:Hid (mayB op a b c N=false):=by unfold Hid;simp[mayB,hb]
 go_enter Tryz.func207,Tryz.ntmps207;go_wp2_with (first
  |(go_at_call 229;refine(fields_any _ _).mono ?_;rintro e w1 ⟨j,rfl,rfl⟩)
  |(go_at_call 230;refine(name_any _ _).mono ?_;rintro e w1 ⟨rfl,rfl⟩)
  |(go_at_call 231;refine(fits_any _ _ _ _).mono ?_;rintro e w1 ⟨rfl,rfl⟩))
 go_ret;refine⟨by rw[HM.o];rfl,?_⟩
 repeat' (first|(with_reducible first|refine Only.setCell ?_ ?_ _|refine Only.alloc ?_ _|refine Only.drewN ?_ _|refine Only.drew ?_|exact Only.refl _ _)|(right;simp;done)|(right;simp;omega))
theorem may_c (op a b c N:Int)(w:World)(h:opB op=true)(ha:fitsB (fAl op) (fAh op) a=true)(hb:fitsB 0 (fBh op) b=true)(hc:fitsB 0 (fCh op) c=false):
  Calls Tryz.prog 207 #[.agg #[.int .i64 op,.int .i64 a,.int .i64 b,.int .i64 c,.int .u64 N]] w fun e w'=>e=.returned (.bool (mayB op a b c N))∧Only Nob w w':=by
 have hn:=name_ok h;have HM:Hid (mayB op a b c N=false):=by unfold Hid;simp[mayB,hc]
 go_enter Tryz.func207,Tryz.ntmps207;go_wp2_with (first
  |(go_at_call 229;refine(fields_any _ _).mono ?_;rintro e w1 ⟨j,rfl,rfl⟩)
  |(go_at_call 230;refine(name_any _ _).mono ?_;rintro e w1 ⟨rfl,rfl⟩)
  |(go_at_call 231;refine(fits_any _ _ _ _).mono ?_;rintro e w1 ⟨rfl,rfl⟩))
 go_ret;refine⟨by rw[HM.o];rfl,?_⟩
 repeat' (first|(with_reducible first|refine Only.setCell ?_ ?_ _|refine Only.alloc ?_ _|refine Only.drewN ?_ _|refine Only.drew ?_|exact Only.refl _ _)|(right;simp;done)|(right;simp;omega))
theorem may_all (op a b c N:Int)(w:World)(h:opB op=true)(ha:fitsB (fAl op) (fAh op) a=true)(hb:fitsB 0 (fBh op) b=true)(hc:fitsB 0 (fCh op) c=true):
  Calls Tryz.prog 207 #[.agg #[.int .i64 op,.int .i64 a,.int .i64 b,.int .i64 c,.int .u64 N]] w fun e w'=>e=.returned (.bool (mayB op a b c N))∧Only Nob w w':=by
 have hn:=name_ok h;have HM:Hid (mayB op a b c N=(N==0||op==1)):=by
  unfold Hid;simp only[mayB,h,ha,hb,hc,Bool.true_and];rfl
 go_enter Tryz.func207,Tryz.ntmps207;go_wp2_with (first
  |(go_at_call 229;refine(fields_any _ _).mono ?_;rintro e w1 ⟨j,rfl,rfl⟩)
  |(go_at_call 230;refine(name_any _ _).mono ?_;rintro e w1 ⟨rfl,rfl⟩)
  |(go_at_call 231;refine(fits_any _ _ _ _).mono ?_;rintro e w1 ⟨rfl,rfl⟩))
 all_goals
  go_ret;refine⟨by rw[HM.o];first|rfl|((have h9:N=0:=(by assumption));rw[h9];rfl),?_⟩
  repeat' (first|(with_reducible first|refine Only.setCell ?_ ?_ _|refine Only.alloc ?_ _|refine Only.drewN ?_ _|refine Only.drew ?_|exact Only.refl _ _)|(right;simp;done)|(right;simp;omega))
theorem may_any (op a b c N:Int)(w:World):
  Calls Tryz.prog 207 #[.agg #[.int .i64 op,.int .i64 a,.int .i64 b,.int .i64 c,.int .u64 N]] w fun e w'=>e=.returned (.bool (mayB op a b c N))∧Only Nob w w':=by
 rcases(by cases opB op<;>simp:opB op=true∨opB op=false) with h|h
 ·rcases(by cases fitsB (fAl op) (fAh op) a<;>simp:fitsB (fAl op) (fAh op) a=true∨fitsB (fAl op) (fAh op) a=false) with ha|ha
  ·rcases(by cases fitsB 0 (fBh op) b<;>simp:fitsB 0 (fBh op) b=true∨fitsB 0 (fBh op) b=false) with hb|hb
   ·rcases(by cases fitsB 0 (fCh op) c<;>simp:fitsB 0 (fCh op) c=true∨fitsB 0 (fCh op) c=false) with hc|hc
    ·exact may_all op a b c N w h ha hb hc
    ·exact may_c op a b c N w h ha hb hc
   ·exact may_b op a b c N w h ha hb
  ·exact may_a op a b c N w h ha
 ·exact may_op op a b c N w h
structure PIns where
 op:Int
 a:Int
 b:Int
 c:Int
 n:Int
def PIns.none:PIns:=⟨0,0,0,0,0⟩
def mayP (x:PIns):Bool:=mayB x.op x.a x.b x.c x.n
def opOf (l:List PIns)(k:Nat):Int:=(l.getD k PIns.none).op
def endsI (op:Int):Int:=if op=15 then 14 else if op=18 then 17 else if op=19 then 18 else 0
def beginsB (op:Int):Bool:=op==14||op==17
def topP (st:List Int):Int:=st.head?.getD (-1)
def opAt (l:List PIns):List Int→Int
 | []=>0
 |t::_=>opOf l t.toNat
def tailP (st:List Int)(op:Int):List Int:=if 0<endsI op then st.tail else st
def behindP (st:List Int)(i op:Int):List Int:=if beginsB op||op==18 then i::tailP st op else tailP st op
def wrongP (l:List PIns)(st:List Int)(x:PIns):Int :=
 if mayP x=false then 8
 else if 0<endsI x.op∧opAt l st≠endsI x.op then 12
 else if x.op=16∧opAt l st≠14 then 12
 else if beginsB x.op=true∧5≤st.length then 9
 else 0
def stk (l:List PIns):Nat→List Int
 |0=>[]
 |k+1=>behindP (stk l k) k (opOf l k)
def regAt (l:List PIns)(k:Nat):Int:=topP (stk l k)
def regionsP (l:List PIns):List Int:=(List.range l.length).map (regAt l)
def errAt (l:List PIns)(k:Nat):Int:=wrongP l (stk l k) (l.getD k PIns.none)
def jumpBad (l:List PIns)(k:Nat):Bool :=
 jumpsB (opOf l k)&&(decide ((l.length:Int)<(l.getD k PIns.none).c)||(decide ((l.getD k PIns.none).c=l.length)&&(regAt l k != -1)) ||
  (decide ((l.getD k PIns.none).c<l.length)&&(regAt l (l.getD k PIns.none).c.toNat != regAt l k)))
def firstBad (f:Nat→Bool):Nat→Nat→Option Nat
 |0,_=>none
 |n+1,k=>if f k then some k else firstBad f n (k+1)
theorem firstBad_step {f:Nat→Bool}{n k:Nat}(h:k<n):firstBad f (n-k) k=if f k then some k else firstBad f (n-(k+1)) (k+1):=by
 obtain⟨m,hm⟩:∃m,n-k=m+1:=⟨n-k-1,by omega⟩
 rw[hm,show n-(k+1)=m by omega]
 rfl
theorem firstBad_some {f:Nat→Bool}{n k j:Nat}(h:firstBad f n k=some j):k≤j∧j<k+n∧f j=true∧∀i,k≤i→i<j→f i=false:=by
 induction n generalizing k with
 |zero=>cases h
 |succ n ih =>
  unfold firstBad at h;by_cases hf:f k=true
  ·rw[if_pos hf] at h;injection h with h
   subst h;exact⟨Nat.le_refl _,by omega,hf,fun i h1 h2=>by omega⟩
  ·rw[if_neg hf] at h;obtain⟨h1,h2,h3,h4⟩:=ih h;refine⟨by omega,by omega,h3,fun i h5 h6=>?_⟩
   rcases Nat.lt_or_ge k i with h7|h7
   ·exact h4 i h7 h6
   ·obtain rfl:i=k:=by omega
    simpa using hf
theorem firstBad_none {f:Nat→Bool}{n k:Nat}(h:firstBad f n k=none):∀i,k≤i→i<k+n→f i=false:=by
 induction n generalizing k with
 |zero=>intro i h1 h2;omega
 |succ n ih =>
  unfold firstBad at h;by_cases hf:f k=true
  ·rw[if_pos hf] at h;cases h
  ·rw[if_neg hf] at h;intro i h1 h2;rcases Nat.lt_or_ge k i with h7|h7
   ·exact ih h i h7 (by omega)
   ·obtain rfl:i=k:=by omega
    simpa using hf
def badB (l:List PIns)(k:Nat):Bool:=errAt l k != 0
def sizeBad (l:List PIns):Bool:=l.length==0||decide (40<l.length)
def jumpsP (l:List PIns):Int×Int :=
 match firstBad (jumpBad l) l.length 0 with
 |some k=>((k:Int),2)
 |none=>(0,0)
def runP (l:List PIns):Int×Int :=
 if sizeBad l then(0,4)
 else match firstBad (badB l) l.length 0 with
  |some k=>((k:Int),errAt l k)
  |none=>match stk l l.length with
   |t::_=>(t,12)
   | []=>jumpsP l
def okP (l:List PIns):Bool:=(runP l).2==0
def endA (l:List PIns):Nat→List Int
 |0=>List.replicate l.length (-1)
 |k+1=>if 0<endsI (opOf l k) then(endA l k).set (regAt l k).toNat k else endA l k
def endB (l:List PIns):Nat→List Int
 |0=>endA l l.length
 |k+1=>if opOf l k=16 then(endB l k).set k ((endB l k).getD (regAt l k).toNat 0) else endB l k
def matchP (l:List PIns):List Int:=if okP l then endB l l.length else []
theorem endA_len (l:List PIns)(k:Nat):(endA l k).length=l.length:=by
 induction k with
 |zero=>simp[endA]
 |succ k ih=>unfold endA;split<;>simp[ih]
theorem endB_len (l:List PIns)(k:Nat):(endB l k).length=l.length:=by
 induction k with
 |zero=>simp[endB,endA_len]
 |succ k ih=>unfold endB;split<;>simp[ih]
theorem stk_lt (l:List PIns)(k:Nat):∀t∈stk l k,0≤t∧t<(k:Int):=by
 induction k with
 |zero=>intro t h;simp[stk] at h
 |succ k ih =>
  intro t h;have ht:∀t∈tailP (stk l k) (opOf l k),0≤t∧t<(k:Int):=by
   intro t h;unfold tailP at h;split at h
   ·exact ih t (List.mem_of_mem_tail h)
   ·exact ih t h
  unfold stk behindP at h;split at h
  ·rcases List.mem_cons.1 h with rfl|h
   ·omega
   ·have:=ht t h
    omega
  ·have:=ht t h
   omega
theorem regAt_lt (l:List PIns)(k:Nat) : -1≤regAt l k∧regAt l k<(k:Int)∧(stk l k≠[]→0≤regAt l k):=by
 unfold regAt topP;cases h:stk l k with
 |nil=>exact⟨by decide,by simp;omega,fun h=>absurd rfl h⟩
 |cons t r =>
  have:=stk_lt l k t (by rw[h];simp)
  simp;omega
def fine (l:List PIns)(k:Nat):Prop:=∀j,j<k→errAt l j=0
theorem err_zero {l:List PIns}{st:List Int}{x:PIns}(h:wrongP l st x=0):
  mayP x=true∧(0<endsI x.op→opAt l st=endsI x.op)∧(x.op=16→opAt l st=14)∧(beginsB x.op=true→st.length<5):=by
 unfold wrongP at h;split at h
 ·cases h
 ·rename_i h1;split at h
  ·cases h
  ·rename_i h2;split at h
   ·cases h
   ·rename_i h3;split at h
    ·cases h
    ·rename_i h4;refine⟨by simpa using h1,fun h5=>?_,fun h5=>?_,fun h5=>?_⟩
     ·exact Classical.byContradiction fun h6=>h2 ⟨h5,h6⟩
     ·exact Classical.byContradiction fun h6=>h3 ⟨h5,h6⟩
     ·exact Nat.lt_of_not_le fun h6=>h4 ⟨h5,h6⟩
theorem opAt_pos {l:List PIns}{st:List Int}(h:opAt l st≠0):st≠[]:=by
 intro e;subst e;exact h rfl
theorem err_open {l:List PIns}{st:List Int}{x:PIns}(h:wrongP l st x=0)(hx:0<endsI x.op∨x.op=16):st≠[]:=by
 obtain⟨_,h2,h3,_⟩:=err_zero h;apply opAt_pos (l:=l);rcases hx with hx|hx
 ·rw[h2 hx];omega
 ·rw[h3 hx];decide
theorem reg_ok {l:List PIns}{k:Nat}(h:errAt l k=0)(hx:0<endsI (opOf l k)∨opOf l k=16):0≤regAt l k∧regAt l k<(k:Int) :=
 ⟨(regAt_lt l k).2.2 (err_open h hx),(regAt_lt l k).2.1⟩
theorem stk_len {l:List PIns}{k:Nat}(h:fine l k):(stk l k).length≤5:=by
 induction k with
 |zero=>simp[stk]
 |succ k ih =>
  have h1:=ih (fun j hj=>h j (by omega))
  have h2:=h k (by omega)
  obtain⟨_,_,_,h5⟩:=err_zero h2;have hne:=fun hx=>err_open (l:=l) (st:=stk l k) (x:=l.getD k PIns.none) h2 hx
  unfold stk behindP tailP opOf;generalize hop:(l.getD k PIns.none).op=op at *
  by_cases hb:beginsB op=true
  ·have h6:=h5 hb;have h7:endsI op=0:=by
    unfold beginsB at hb;simp at hb;rcases hb with rfl|rfl<;>decide
   simp[hb,h7];omega
  ·by_cases h8:op=18
   ·subst h8;have h9:=hne (Or.inl (by decide))
    have h10:0<(stk l k).length:=List.length_pos_iff.2 h9;rw[if_pos (by simp),if_pos (by decide)]
    simp;omega
   ·rw[if_neg (by simp[hb,h8])]
    split
    ·rw[List.length_tail];omega
    ·exact h1
theorem runP_ok {l:List PIns}(h:okP l=true):sizeBad l=false∧fine l l.length∧stk l l.length=[]∧(∀k,k<l.length→jumpBad l k=false)∧runP l=(0,0):=by
 unfold okP at h;have h':(runP l).2=0:=by simpa using h
 unfold runP at h' ⊢;cases hs:sizeBad l
 ·rw[hs] at h';simp only[Bool.false_eq_true,if_false] at h' ⊢;cases hb:firstBad (badB l) l.length 0 with
  |some k =>
   rw[hb] at h';obtain⟨_,_,h3,_⟩:=firstBad_some hb;simp[badB] at h3;exact absurd h' h3
  |none =>
   rw[hb] at h';simp only at h' ⊢;have hn:=firstBad_none hb;cases hk:stk l l.length with
   |cons t r=>rw[hk] at h';simp at h'
   |nil =>
    rw[hk] at h';simp only at h' ⊢;unfold jumpsP at h' ⊢;cases hj:firstBad (jumpBad l) l.length 0 with
    |some k=>rw[hj] at h';simp at h'
    |none =>
     refine⟨trivial,fun j hj'=>?_,trivial,fun k hk'=>firstBad_none hj k (by omega) (by omega),rfl⟩
     have:=hn j (by omega) (by omega)
     simpa [badB] using this
 ·rw[hs] at h';simp at h'
structure PLk where
 ver:Nat
 held:Bool
 own:Nat
 deriving DecidableEq
def PLk.zero:PLk:=⟨0,false,0⟩
def PLk.ok (l:PLk):Bool:=decide (l.ver<4611686018427387904)&&(if l.held then decide (l.own<4) else l.own==0)
structure POp where
 kind:Nat
 at_:Nat
 old:Nat
 word:Nat
 was:PLk
 lock:PLk
 deriving DecidableEq
def POp.zero:POp:=⟨0,0,0,0,PLk.zero,PLk.zero⟩
def POp.at' (k a:Nat):POp:={ POp.zero with kind:=k,at_:=a }
structure PAns where
 word:Nat
 lock:PLk
 done:Bool
 err:Nat
 deriving DecidableEq
def PAns.zero:PAns:=⟨0,PLk.zero,false,0⟩
structure PMm where
 words:List Nat
 locks:List PLk
 clock:Nat
 since:List Nat
 count:Int
def doM (m:PMm)(o:POp):PAns×PMm :=
 match o.kind with
 |1=>if 1≤o.at_∧o.at_<m.words.length then({ PAns.zero with word:=m.words.getD o.at_ 0 },m) else({ PAns.zero with err:=2 },m)
 |2=>if 1≤o.at_∧o.at_<m.words.length then(PAns.zero,{ m with words:=m.words.set o.at_ o.word }) else({ PAns.zero with err:=2 },m)
 |3=>if o.at_<m.locks.length then({ PAns.zero with lock:=m.locks.getD o.at_ PLk.zero },m) else({ PAns.zero with err:=2 },m)
 |4=>if o.at_<m.locks.length then
   if o.lock.ok then
    if m.locks.getD o.at_ PLk.zero=o.was then({ PAns.zero with done:=true },{ m with locks:=m.locks.set o.at_ o.lock }) else(PAns.zero,m)
   else({ PAns.zero with err:=1 },m)
  else({ PAns.zero with err:=2 },m)
 |5=>if o.at_<m.locks.length then
   if o.lock.ok then(PAns.zero,{ m with locks:=m.locks.set o.at_ o.lock }) else({ PAns.zero with err:=1 },m)
  else({ PAns.zero with err:=2 },m)
 |6=>({ PAns.zero with word:=m.clock },m)
 |7=>if o.word≤o.old then({ PAns.zero with err:=1 },m)
  else if 4611686018427387904≤o.word then({ PAns.zero with err:=7 },m)
  else if m.clock=o.old then({ PAns.zero with done:=true },{ m with clock:=o.word })
  else(PAns.zero,m)
 |8=>if o.at_<m.since.length then({ PAns.zero with word:=m.since.getD o.at_ 0 },m) else({ PAns.zero with err:=2 },m)
 |9=>if o.at_<m.since.length then(PAns.zero,{ m with since:=m.since.set o.at_ o.word }) else({ PAns.zero with err:=2 },m)
 |_=>({ PAns.zero with err:=1 },m)
def doC (m:PMm)(o:POp):PAns×PMm :=
 let r:=doM m o
 (r.1,if r.1.err=0 then { r.2 with count:=wrap64 (r.2.count+1) } else r.2)
structure PPat where
 me:Nat
 spins:Int
 fin:Nat
 by_:Int
 err:Nat
def PPat.new (me spins:Nat):PPat:=⟨me,(min spins 4:Nat),0,-1,0⟩
def PPat.stop (p:PPat)(fin err:Nat)(b:Int):PPat:={ p with fin:=fin,err:=err,by_:=b }
def PPat.waits (p:PPat)(l:PLk):Bool×PPat :=
 if p.me<l.own then(true,p) else(decide (0≤wrap64 (p.spins-1)),{ p with spins:=wrap64 (p.spins-1) })
def PPat.hear (p:PPat)(a:PAns):PPat:=if p.fin=0∧a.err≠0 then p.stop 4 a.err (-1) else p
structure PFe where
 rule:PPat
 at_:Nat
 stripe:Nat
 stamp:Nat
 state:Nat
 lock:PLk
 word:Nat
def PFe.new (me at_ stripe spins stamp:Nat):PFe:=⟨PPat.new me spins,at_,stripe,stamp,0,PLk.zero,0⟩
def PFe.next (f:PFe):POp×Bool :=
 if f.rule.fin≠0 then(POp.zero,false) else if f.state=1 then(POp.at' 1 f.at_,true) else(POp.at' 3 f.stripe,true)
def PFe.found (f:PFe)(l:PLk):PFe :=
 let f:={ f with state:=0 }
 if l.held then
  let r:=f.rule.waits l
  if r.1 then { f with rule:=r.2 } else { f with rule:=r.2.stop 5 0 l.own }
 else if f.stamp<l.ver then { f with rule:=f.rule.stop 6 0 (-1) }
 else { f with lock:=l,state:=1 }
def PFe.tell (f:PFe)(a:PAns):PFe :=
 let r:=f.rule.hear a
 if r.fin≠0 then { f with rule:=r }
 else if f.state=1 then { f with word:=a.word,state:=2 }
 else if f.state=2∧a.lock=f.lock then { f with rule:=f.rule.stop 2 0 (-1) }
 else f.found a.lock
structure PEx where
 rule:PPat
 seen:List (Nat×Nat)
 loaded:Bool
 at_:Nat
 stamp:Nat
def PEx.new (me spins:Nat)(seen:List (Nat×Nat)):PEx:=⟨PPat.new me spins,seen,false,0,0⟩
def PEx.ok (x:PEx):Prop:=x.rule.fin=0→x.loaded=true→x.at_<x.seen.length
def PEx.next (x:PEx):POp×Bool :=
 if x.rule.fin≠0 then(POp.zero,false) else if x.loaded then(POp.at' 3 (x.seen.getD x.at_ (0,0)).1,true) else(POp.at' 6 0,true)
def PEx.over (x:PEx):PEx:=if x.at_=x.seen.length then { x with rule:=x.rule.stop 2 0 (-1) } else x
def PEx.tell (x:PEx)(a:PAns):PEx :=
 let r:=x.rule.hear a
 if r.fin≠0 then { x with rule:=r }
 else if x.loaded=false then { x with loaded:=true,stamp:=a.word }.over
 else if a.lock.held then
  let r:=x.rule.waits a.lock
  if r.1 then { x with rule:=r.2 } else { x with rule:=r.2.stop 5 0 a.lock.own }
 else if a.lock.ver≠(x.seen.getD x.at_ (0,0)).2 then { x with rule:=x.rule.stop 5 0 (-1) }
 else { x with at_:=x.at_+1 }.over
structure PCo where
 rule:PPat
 me:Nat
 stamp:Nat
 seen:List (Nat×Nat)
 cells:List (Nat×Nat)
 stripes:List Nat
 was:List PLk
 state:Nat
 at_:Nat
 lock:PLk
 now:Nat
 writing:Bool
 fin:Nat
 by_:Int
 err:Nat
def PCo.more (c:PCo):PCo:={ c with state:=if c.was.length=c.stripes.length then 2 else 0 }
def PCo.next (c:PCo):POp×Bool :=
 if c.rule.fin≠0 then(POp.zero,false)
 else match c.state with
 |0=>(POp.at' 3 (c.stripes.getD c.was.length 0),true)
 |1=>({ POp.at' 4 (c.stripes.getD c.was.length 0) with was:=c.lock,lock:=⟨c.lock.ver,true,c.me⟩ },true)
 |2=>(POp.at' 6 0,true)
 |3=>({ POp.at' 7 0 with old:=c.now,word:=c.now+1 },true)
 |4=>(POp.at' 3 (c.seen.getD c.at_ (0,0)).1,true)
 |5=>({ POp.at' 2 (c.cells.getD c.at_ (0,0)).1 with word:=(c.cells.getD c.at_ (0,0)).2 },true)
 |6=>({ POp.at' 5 (c.stripes.getD c.at_ 0) with lock:=⟨c.now+1,false,0⟩ },true)
 |_=>({ POp.at' 5 (c.stripes.getD c.at_ 0) with lock:=c.was.getD c.at_ PLk.zero },true)
def PCo.leave (c:PCo):PCo:=if c.at_=c.was.length then { c with rule:=c.rule.stop c.fin c.err c.by_ } else c
def PCo.stop (c:PCo)(fin err:Nat)(b:Int):PCo:={ c with fin:=fin,err:=err,by_:=b,at_:=0,state:=7 }.leave
def PCo.give (c:PCo):PCo:=if c.at_=c.stripes.length then { c with rule:=c.rule.stop 2 0 (-1) } else c
def PCo.write (c:PCo):PCo:=if c.at_=c.cells.length then { c with at_:=0,state:=6 }.give else c
def PCo.begin (c:PCo):PCo:={ c with writing:=true,at_:=0,state:=5 }.write
def PCo.heldBy (c:PCo)(l:PLk):PCo :=
 let r:=c.rule.waits l;let c:={ c with rule:=r.2 }
 if r.1 then c else c.stop 5 0 l.own
def PCo.take (c:PCo)(a:PAns):PCo :=
 if c.state=0∧a.lock.held then c.heldBy a.lock
 else if c.state=0 then { c with lock:=a.lock,state:=1 }
 else if a.done then { c with was:=c.was++[c.lock] }.more
 else { c with state:=0 }
def PCo.proveF:Nat→PCo→PCo
 |0,c=>c
 |n+1,c =>
  if c.at_<c.seen.length then
   match c.stripes.findIdx? (·==(c.seen.getD c.at_ (0,0)).1) with
   |none=>c
   |some i=>if(c.was.getD i PLk.zero).ver≠(c.seen.getD c.at_ (0,0)).2 then c.stop 5 0 (-1) else PCo.proveF n { c with at_:=c.at_+1 }
  else c.begin
def PCo.prove (c:PCo):PCo:=PCo.proveF (c.seen.length+1) { c with state:=4 }
def PCo.proved (c:PCo)(l:PLk):PCo :=
 if l.held then c.heldBy l
 else if l.ver≠(c.seen.getD c.at_ (0,0)).2 then c.stop 5 0 (-1)
 else { c with at_:=c.at_+1 }.prove
def PCo.raise (c:PCo)(a:PAns):PCo :=
 if c.state=2∧4611686018427387903≤a.word then c.stop 4 7 (-1)
 else if c.state=2 then { c with now:=a.word,state:=3 }
 else if a.done=false then { c with state:=2 }
 else if c.now=c.stamp then c.begin
 else c.prove
def PCo.tell (c:PCo)(a:PAns):PCo :=
 let r:=c.rule.hear a
 if r.fin≠0 then { c with rule:=r }
 else match c.state with
 |0=>c.take a
 |1=>c.take a
 |2=>c.raise a
 |3=>c.raise a
 |4=>c.proved a.lock
 |5=>{ c with at_:=c.at_+1 }.write
 |6=>{ c with at_:=c.at_+1 }.give
 |7=>{ c with at_:=c.at_+1 }.leave
 |_=>c
def PCo.stampOf (c:PCo):Nat:=if c.writing then c.now+1 else 0
def PCo.isWriting (c:PCo):Bool:=c.writing&&c.rule.fin==0
def stripeOf (at_ n wide:Nat):Nat:=at_ / wide%n
def insUp (x:Nat):List Nat→List Nat
 | []=>[x]
 |y::l=>if x<y then x::y::l else if x=y then y::l else y::insUp x l
def stripesOf (l:List (Nat×Nat))(n wide:Nat):List Nat:=l.foldl (fun acc c=>insUp (stripeOf c.1 n wide) acc) []
def PCo.new (me spins stamp:Nat)(seen cells:List (Nat×Nat))(n wide:Nat):PCo :=
 PCo.more ⟨PPat.new me spins,me,stamp,seen,cells,stripesOf cells n wide,[],0,0,PLk.zero,0,false,0,0,0⟩
def u64V (n:Nat):Value:=.int .u64 n
def vU (l:List Nat):List Value:=l.map u64V
theorem vU_len (l:List Nat):(vU l).length=l.length:=by simp[vU]
theorem vU_at {l:List Nat}{i:Nat}(h:i<l.length):(vU l)[i]?=some (.int .u64 ((l.getD i 0:Nat):Int)):=by
 simp[vU,u64V,h]
theorem vU_set (l:List Nat)(i v:Nat):(vU l).toArray.setIfInBounds i (.int .u64 v)=(vU (l.set i v)).toArray:=by
 simp[vU,u64V,List.map_set]
def heapH (b:Nat)(ws:List Nat):HP:=ex fun g:Nat=>bk b 168 #[.slice (some ⟨g,0,none⟩) ws.length ws.length]*bk g 22 (vU ws).toArray
theorem heap_load (ω w:World)(F:HP)(b:Nat)(ws:List Nat)(h:Sat ω w (heapH b ws*F))(hn:ws.length≤1000)(at_:Nat)(ha:at_≤1000000):
  Calls Tryz.prog 81 #[.pointer (some ⟨b,0,none⟩),.int .i64 at_] w fun e w'=>e=.returned (.tuple #[.int .u64 ((if 1≤at_∧at_<ws.length then ws.getD at_ 0 else 0:Nat):Int),.int .i64 ((if 1≤at_∧at_<ws.length then 0 else 2:Nat):Int)])∧w=w':=by
 obtain⟨g,h⟩:=h.of_ex;have h:=h.assoc;have c0:=h.blk.cell 0;simp at c0;have c1:=(h.right.blk).cell at_;have hv:=@vU_at ws;generalize hws:ws.length=n at *
 have HN:=h_ hws;clear h hws;by_cases h1:1≤at_
 ·by_cases h2:at_<n
  ·rw[if_pos ⟨h1,h2⟩,if_pos ⟨h1,h2⟩];have c2:w.cell? ⟨g,at_,none⟩=some (.int .u64 ((ws.getD at_ 0:Nat):Int)):=by rw[c1];simpa using hv h2
   clear c1 hv;generalize ws.getD at_ 0=x at *
   go_enter Tryz.func81,Tryz.ntmps81;go_wp2;go_ret2;exact⟨rfl,rfl⟩
  ·rw[if_neg (by omega),if_neg (by omega)]
   clear c1 hv;go_enter Tryz.func81,Tryz.ntmps81;go_wp2;go_ret2;exact⟨rfl,rfl⟩
 ·rw[if_neg (by omega),if_neg (by omega)]
  clear c1 hv;go_enter Tryz.func81,Tryz.ntmps81;go_wp2;go_ret2;exact⟨rfl,rfl⟩
theorem heap_store (ω w:World)(F:HP)(b:Nat)(ws:List Nat)(h:Sat ω w (heapH b ws*F))(hn:ws.length≤1000)(at_ v:Nat)(ha:at_≤1000000):
  Calls Tryz.prog 82 #[.pointer (some ⟨b,0,none⟩),.int .i64 at_,.int .u64 v] w (Rets ω F (.int .i64 ((if 1≤at_∧at_<ws.length then 0 else 2:Nat):Int)) (heapH b (if 1≤at_∧at_<ws.length then ws.set at_ v else ws))):=by
 have H0:=h_ h;obtain⟨g,h⟩:=h.of_ex;have h:=h.assoc;have H:=h_ h;have c0:=h.blk.cell 0;simp at c0;have c1:=(h.right.blk).cell at_;have f1:=(h.right.blk).frozen at_;have hv:=@vU_at ws;have HQ:Hid (at_<ws.length→Sat ω (w.setCell ⟨g,at_,none⟩ (.int .u64 v)) (heapH b (ws.set at_ v)*F)):=h_ (fun h2=>by
  have h3:=(h.swap.put at_ (.int .u64 v) (vU_set ws at_ v)).swap.assoc';refine Sat.to_ex g ?_;rw[show(ws.set at_ v).length=ws.length by simp]
  exact h3)
 clear h;generalize hws:ws.length=n at *
 have HN:=h_ hws;clear hws;by_cases h1:1≤at_
 ·by_cases h2:at_<n
  ·rw[if_pos ⟨h1,h2⟩,if_pos ⟨h1,h2⟩];have c2:w.cell? ⟨g,at_,none⟩=some (.int .u64 ((ws.getD at_ 0:Nat):Int)):=by rw[c1];simpa using hv h2
   clear c1 hv;generalize ws.getD at_ 0=x at *
   go_enter Tryz.func82,Tryz.ntmps82;go_wp2;go_ret;exact⟨rfl,HQ.o h2⟩
  ·rw[if_neg (by omega),if_neg (by omega)]
   clear c1 hv;go_enter Tryz.func82,Tryz.ntmps82;go_wp2;go_ret;exact⟨rfl,H0.o⟩
 ·rw[if_neg (by omega),if_neg (by omega)]
  clear c1 hv;go_enter Tryz.func82,Tryz.ntmps82;go_wp2;go_ret;exact⟨rfl,H0.o⟩
end Go.Proofs.YtfodmgaliclhfaaGreatDoor

/- Lemmas for TopPairs; no conditions. -/
import Derived.Test.YtfodmgaliclhfaaGreatDoorGStripes
import Derived.Test.YtfodmgaliclhfaaGreatDoorGCoNext
import Derived.Test.YtfodmgaliclhfaaGreatDoorShelf
namespace Go.Proofs.YtfodmgaliclhfaaGreatDoor
set_option linter.unusedVariables false
set_option linter.unusedSimpArgs false
set_option maxRecDepth 100000
set_option maxHeartbeats 8000000
open Go.RowKit
theorem co_new (ω w:World)(F:HP)(me spins stamp:Nat)(seen cells:List (Nat×Nat))(A1 A2:Option Addr)(c1 c2 n wide:Nat)
  (h:Sat ω w (row 148 2 (.slice A1 seen.length c1) seen.length (vS seen)*(row 54 2 (.slice A2 cells.length c2) cells.length (vS cells)*F)))
  (hs:seen.length≤1000) (hl:cells.length≤1000) (ha:∀x∈cells,x.1≤1000000) (h1:1≤n) (h2:n≤16) (h3:1≤wide) (h4:wide≤16):
  Calls Tryz.prog 133 #[.int .i64 me,.int .i64 spins,.int .u64 stamp,.slice A1 seen.length c1,.slice A2 cells.length c2,.int .i64 n,.int .i64 wide] w (RetP ω (row 148 2 (.slice A1 seen.length c1) seen.length (vS seen)*(row 54 2 (.slice A2 cells.length c2) cells.length (vS cells)*F)) fun b=>coH b (PCo.new me spins stamp seen cells n wide)):=by
 obtain⟨S,hS⟩:∃S,S=row 148 2 (.slice A1 seen.length c1) seen.length (vS seen):=⟨_,rfl⟩;obtain⟨C,hC⟩:∃C,C=row 54 2 (.slice A2 cells.length c2) cells.length (vS cells):=⟨_,rfl⟩;rw[←hS,←hC] at h ⊢;obtain⟨p,hp⟩:∃p,PPat.new me spins=p:=⟨_,rfl⟩;have HP:Hid (∀w1,Calls Tryz.prog 162 #[.int .i64 me,.int .i64 spins] w1 fun e w'=>e=.returned (ptA p)∧Only Nob w1 w'):=h_ (fun w1=>hp▸pat_new w1 me spins)
 have HC1:Hid (∀w1 G,Sat ω w1 (S*G)→Calls Tryz.prog 143 #[.slice A1 seen.length c1] w1 (RetR ω (S*G) 148 2 seen.length (vS seen))):=h_ (fun w1 G hg=>by rw[hS] at hg ⊢;exact cloneSeen ω w1 G A1 seen.length c1 (vS seen) hg (by omega) (vS_one _))
 have HC2:Hid (∀w1 G,Sat ω w1 (C*G)→Calls Tryz.prog 106 #[.slice A2 cells.length c2] w1 (RetR ω (C*G) 54 2 cells.length (vS cells))):=h_ (fun w1 G hg=>by rw[hC] at hg ⊢;exact cloneCell ω w1 G A2 cells.length c2 (vS cells) hg (by omega) (vS_one _))
 have HC3:Hid (∀w1 G,Sat ω w1 (C*G)→Calls Tryz.prog 163 #[.slice A2 cells.length c2,.int .i64 n,.int .i64 wide] w1 (RetR ω (C*G) 3 1 (stripesOf cells n wide).length (vI (stripesOf cells n wide)))):=h_ (fun w1 G hg=>by rw[hC] at hg ⊢;exact stripes_any ω w1 G cells A2 c2 n wide hg hl ha h1 h2 h3 h4)
 obtain⟨X,hX⟩:∃X:PCo,X=⟨p,me,stamp,seen,cells,stripesOf cells n wide,[],0,0,PLk.zero,0,false,0,0,0⟩:=⟨_,rfl⟩;have HN:Hid (PCo.new me spins stamp seen cells n wide=X.more):=h_ (by rw[hX,←hp];rfl)
 rw[HN.o];have HB:Hid (∀B1 d1 B2 d2 B3 d3,coC X ⟨B1,d1,B2,d2,B3,d3,none,0⟩=ptC p [.int .i64 me,.int .u64 stamp,.slice B1 seen.length d1,.slice B2 cells.length d2,.slice B3 (stripesOf cells n wide).length d3,.slice none 0 0,.int .i64 0,.int .i64 0,.int .u64 0,.bool false,.int .i64 0,.int .u64 0,.bool false,.int .i64 0,.int .i64 0,.int .i64 0]):=h_ (fun B1 d1 B2 d2 B3 d3=>by rw[hX];rfl)
 have HR:Hid (∀w1 G B1 d1 B2 d2 B3 d3,Sat ω w1 (row 3 1 (.slice B3 (stripesOf cells n wide).length d3) (stripesOf cells n wide).length (vI (stripesOf cells n wide))*(row 54 2 (.slice B2 cells.length d2) cells.length (vS cells)*(row 148 2 (.slice B1 seen.length d1) seen.length (vS seen)*G)))→Sat ω w1 (coRows X ⟨B1,d1,B2,d2,B3,d3,none,0⟩*G)):=h_ (fun w1 G B1 d1 B2 d2 B3 d3 hg=>by
  have h9:=hg.nil 93 3;rw[hX];unfold coRows;exact h9.perm (by simp only[List.length_nil,vL,List.flatMap_nil];ac_rfl))
 have HM:Hid (∀w1 G b D,Sat ω w1 (coB b X D*(coRows X D*G))→Calls Tryz.prog 164 #[.pointer (some ⟨b,0,none⟩)] w1 (fun e w'=>e=.returned (.tuple #[])∧Sat ω w' (coH b X.more*G))):=h_ (fun w1 G b D hg=>(co_more ω w1 _ b X D hg).mono fun e w' h5=>⟨h5.1,Sat.coTo (D:=D) h5.2⟩)
 have H:=h_ h;clear h hS hC hp hX ha h1 h2 h3 h4 hs hl HN;obtain⟨pm,ps,pf,pb,pe⟩:=p;simp only[ptA] at HP;generalize stripesOf cells n wide=T at *
 go_enter Tryz.func133,Tryz.ntmps133;go_wp2_with (first
  |(go_at_call 162;refine(HP.o _).mono ?_;rintro e w1 ⟨rfl,ho⟩;have HO:=h_ (H.o.nob ho);clear ho)
  |(go_at_call 143;refine(HC1.o _ _ HO.o).mono ?_;rintro e w2 ⟨B1,d1,rfl,hs⟩;have HS1:=h_ (hs.perm (by ac_rfl):Sat ω w2 (C*(row 148 2 (.slice B1 seen.length d1) seen.length (vS seen)*(S*F))));clear hs)
  |(go_at_call 106;refine(HC2.o _ _ HS1.o).mono ?_;rintro e w3 ⟨B2,d2,rfl,hs⟩;have HS2:=h_ (hs.perm (by ac_rfl):Sat ω w3 (C*(row 54 2 (.slice B2 cells.length d2) cells.length (vS cells)*(row 148 2 (.slice B1 seen.length d1) seen.length (vS seen)*(S*F)))));clear hs)
  |(go_at_call 163;refine(HC3.o _ _ HS2.o).mono ?_;rintro e w4 ⟨B3,d3,rfl,hs⟩;have HS3:=h_ (hs.perm (by ac_rfl):Sat ω w4 (row 3 1 (.slice B3 T.length d3) T.length (vI T)*(row 54 2 (.slice B2 cells.length d2) cells.length (vS cells)*(row 148 2 (.slice B1 seen.length d1) seen.length (vS seen)*(S*(C*F))))));clear hs)
  |(go_at_call 164;refine(HM.o _ (S*(C*F)) _ ⟨B1,d1,B2,d2,B3,d3,none,0⟩ ((HR.o _ _ _ _ _ _ _ _ HS3.o).bkNew (by rw[HB.o];rfl))).mono ?_;rintro e w5 ⟨rfl,hs⟩;have HY:=h_ hs;clear hs))
 go_ret;exact⟨_,rfl,HY.o⟩
section
variable (ω w : World) (F : HP)
theorem find1_any (w:World)(x at_ p v:Nat)(c0:w.cell? ⟨x,0,none⟩=some (.int .i64 p))(hx:x<w.heap.size):
  Calls Tryz.prog 326 #[.agg #[.int .i64 at_,.int .u64 v],.pointer (some ⟨x,0,none⟩)] w fun e w'=>e=.returned (.bool (at_==p))∧Only Nob w w':=by
 by_cases h:at_=p
 ·subst h;go_enter Tryz.func326,Tryz.ntmps326;go_wp2;go_ret;exact⟨by simp,(Only.refl _ _).alloc _⟩
 ·have d:((at_:Int)==(p:Int))=false:=by rw[beq_eq_false_iff_ne];omega
  have hb:(at_==p)=false:=by simpa using h
  rw[hb];clear h;go_enter Tryz.func326,Tryz.ntmps326;go_wp2;go_ret;exact⟨rfl,(Only.refl _ _).alloc _⟩
def idxW (l:PWr)(p:Nat):Int:=match l.findIdx? (·.1==p) with|some i=>(i:Int)|none=>-1
theorem idxW_at (l:PWr)(p:Nat):idxW l p=match wAt l p with|some i=>(i:Int)|none=>-1:=rfl
theorem idxW_hit {l:PWr}{p k:Nat}(hk:k<l.length)(h:∀j,j<k→(l.getD j (0,0)).1≠p)(hp:(l.getD k (0,0)).1=p):idxW l p=(k:Int):=by
 have e:l.findIdx? (·.1==p)=some k:=by
  rw[List.findIdx?_eq_some_iff_getElem];refine⟨hk,?_,fun j hj=>?_⟩
  ·rw[gD,List.getElem?_eq_getElem hk] at hp;simpa using hp
  ·have:=h j hj
   rw[gD,List.getElem?_eq_getElem (by omega)] at this
   simpa using this
 unfold idxW;rw[e]
theorem idxW_miss {l:PWr}{p:Nat}(h:∀j,j<l.length→(l.getD j (0,0)).1≠p):idxW l p = -1:=by
 have e:l.findIdx? (·.1==p)=none:=by
  rw[List.findIdx?_eq_none_iff];intro x hx;obtain⟨j,hj,rfl⟩:=List.mem_iff_getElem.1 hx
  have:=h j hj
  rw[gD,List.getElem?_eq_getElem hj] at this;simpa using this
 unfold idxW;rw[e]
theorem indexFunc_any (l:PWr)(A:Option Addr)(c x p:Nat)(h:Sat ω w (row 54 2 (.slice A l.length c) l.length (vS l)*F))(hl:l.length≤1000)(c0:w.cell? ⟨x,0,none⟩=some (.int .i64 p))(hx:x<w.heap.size):
  Calls Tryz.prog 325 #[.slice A l.length c,.func (.func 326) #[] #[.pointer (some ⟨x,0,none⟩)]] w fun e w'=>e=.returned (.int .i64 (idxW l p))∧Only Nob w w':=by
 obtain⟨N,hN⟩:∃N,l.length=N:=⟨_,rfl⟩;have H:=h_ h;have HC:Hid (∀w1,Only Nob w w1→w1.cell? ⟨x,0,none⟩=some (.int .i64 p)∧x<w1.heap.size):=h_ (fun w1 ho=>⟨(ho.cell (p:=⟨x,0,none⟩) hx (fun e=>e)).trans c0,Nat.lt_of_lt_of_le hx ho.size⟩)
 have HRW:Hid (∀w1 (k:Nat),Only Nob w w1→k<N→∃g,A=some ⟨g,0,none⟩∧g<w1.heap.size∧w1.cell? ⟨g,k*2,none⟩=some (.int .i64 ((l.getD k (0,0)).1:Int))∧w1.cell? ⟨g,k*2+1,none⟩=some (.int .u64 ((l.getD k (0,0)).2:Int))):=h_ (fun w1 k ho hk=>by
  obtain⟨g,h5,h6,h7⟩:=(h.nob ho).rowAt (l:=l) (f:=seV) (fun _=>rfl) (0,0) (hN▸hk)
  exact⟨g,h5,h6,h7 0 (by omega),h7 1 (by omega)⟩)
 have HHI:Hid (∀k,k<N→(∀j,j<k→(l.getD j (0,0)).1≠p)→(l.getD k (0,0)).1=p→idxW l p=(k:Int)):=h_ (fun k hk h1 h2=>idxW_hit (hN▸hk) h1 h2)
 have HMI:Hid ((∀j,j<N→(l.getD j (0,0)).1≠p)→idxW l p = -1):=h_ (fun h1=>idxW_miss (hN▸h1))
 rw[hN] at hl;rw[hN];clear h c0 hx hN;go_enter Tryz.func325,Tryz.ntmps325;go_wp2;go_loopw [5,8] (fun _ i wr=>∃k:Nat,k≤N∧i=.int .i64 k∧Hid (Only Nob w wr)∧Hid (∀j,j<k→(l.getD j (0,0)).1≠p)) (fun _ i _=>N-(intOf i).toNat)
 case atStart=>exact⟨0,by omega,rfl,Only.refl _ _,fun j hj=>absurd hj (by omega)⟩
 case round =>
  obtain⟨k,hk,rfl,HO,HP⟩:=hrel;by_cases hlt:k<N
  ·obtain⟨g,rfl,hg,r0,r1⟩:=HRW.o _ k HO.o hlt;obtain⟨x0,hxl⟩:=HC.o _ HO.o;obtain⟨x1,hx1⟩:∃x1,(l.getD k (0,0)).1=x1:=⟨_,rfl⟩;obtain⟨x2,hx2⟩:∃x2,(l.getD k (0,0)).2=x2:=⟨_,rfl⟩;rw[hx1] at r0;rw[hx2] at r1;have HX1:=h_ hx1;clear hx1 hx2;have HF:=h_ (find1_any wr x x1 p x2 x0 hxl);by_cases he:x1=p
   ·have HE:=h_ (HHI.o k hlt HP.o (HX1.o.trans he));rw[show(x1==p)=true by simpa using he] at HF
    clear he;go_wp2_with (go_at_call 326;refine(HF.o).mono ?_;rintro e w1 ⟨rfl,ho⟩;have HO2:=h_ (HO.o.trans ho);clear ho);go_ret;exact⟨by rw[HE.o];rfl,HO2.o⟩
   ·have HP2:Hid (∀j,j<k+1→(l.getD j (0,0)).1≠p):=h_ (fun j hj=>by
     rcases Nat.lt_or_ge j k with h1|h1
     ·exact HP.o j h1
     ·obtain rfl:j=k:=by omega
      rw[HX1.o];exact he)
    rw[show(x1==p)=false by simpa using he] at HF
    clear he;go_wp2_with (go_at_call 326;refine(HF.o).mono ?_;rintro e w1 ⟨rfl,ho⟩;have HO2:=h_ (HO.o.trans ho);clear ho);exact⟨⟨k+1,by omega,by go_num,HO2.o,HP2.o⟩,by simp[intOf];omega⟩
  ·have HE:=h_ (HMI.o (fun j hj=>HP.o j (by omega)))
   go_wp2;go_ret;exact⟨by rw[HE.o];rfl,HO.o⟩
def wrHA (b most:Nat)(l:PWr)(A:Option Addr)(c:Nat):HP:=bk b 321 #[.int .i64 most,.slice A l.length c]*row 54 2 (.slice A l.length c) l.length (vS l)
def wrH (b most:Nat)(l:PWr):HP:=ex fun A=>ex fun c=>wrHA b most l A c
theorem wrH_of {ω w:World}{F:HP}{b most:Nat}{l:PWr}(h:Sat ω w (wrH b most l*F)):∃A c,Sat ω w (bk b 321 #[.int .i64 most,.slice A l.length c]*(row 54 2 (.slice A l.length c) l.length (vS l)*F)):=by
 obtain⟨A,h⟩:=h.of_ex;obtain⟨c,h⟩:=h.of_ex;exact⟨A,c,h.assoc⟩
theorem wrH_to {ω w:World}{F:HP}{b most:Nat}{l:PWr}{A:Option Addr}{c:Nat}(h:Sat ω w (bk b 321 #[.int .i64 most,.slice A l.length c]*(row 54 2 (.slice A l.length c) l.length (vS l)*F))):Sat ω w (wrH b most l*F) :=
 Sat.to_ex A (h.assoc'.impL fun y hy=>⟨c,hy⟩)
theorem wr_find (b most:Nat)(l:PWr)(h:Sat ω w (wrH b most l*F))(hl:l.length≤1000)(p:Nat):
  Calls Tryz.prog 260 #[.pointer (some ⟨b,0,none⟩),.int .i64 p] w fun e w'=>e=.returned (.int .i64 (idxW l p))∧Only Nob w w':=by
 obtain⟨A,c,h⟩:=wrH_of h;have c1:=h.blk.c 1;have lt:=h.blk.lt;have HX:Hid (Calls Tryz.prog 325 #[.slice A l.length c,.func (.func 326) #[] #[.pointer (some ⟨w.heap.size,0,none⟩)]] (w.alloc (.cells #[.int .i64 p] 3)) fun e w'=>e=.returned (.int .i64 (idxW l p))∧Only Nob (w.alloc (.cells #[.int .i64 p] 3)) w') :=
  h_ (indexFunc_any ω _ F l A c w.heap.size p ((h.right).junk _) hl ((Blk.new w 3 #[.int .i64 p]).cell 0) (by simp))
 obtain⟨N,hN⟩:∃N,l.length=N:=⟨_,rfl⟩;rw[hN] at c1 HX;clear h hN hl;go_enter Tryz.func260,Tryz.ntmps260;go_wp2_with (go_at_call 325;refine(HX.o).mono ?_;rintro e w1 ⟨rfl,ho⟩;have HO2:=h_ (((Only.refl Nob w).alloc _).trans ho);clear ho);go_ret;exact⟨rfl,HO2.o⟩
theorem wAt_lt {l:PWr}{p i:Nat}(h:wAt l p=some i):i<l.length∧(l.getD i (0,0)).1=p:=by
 obtain⟨h1,h2,_⟩:=List.findIdx?_eq_some_iff_getElem.1 h;refine⟨h1,?_⟩;rw[gD,List.getElem?_eq_getElem h1];simpa using h2
theorem wr_get (b most:Nat)(l:PWr)(h:Sat ω w (wrH b most l*F))(hl:l.length≤1000)(p:Nat):
  Calls Tryz.prog 257 #[.pointer (some ⟨b,0,none⟩),.int .i64 p] w fun e w'=>e=.returned (.tuple #[.int .u64 (((wGet l p).getD 0:Nat):Int),.bool (wGet l p).isSome])∧Only Nob w w':=by
 have HF:=h_ (wr_find ω w F b most l h hl p);have HH:=h_ h;unfold wGet;cases hi:wAt l p with
 |none =>
  rw[idxW_at,hi] at HF;simp only at HF;clear h hi;simp only[Option.map_none,Option.getD_none,Option.isSome_none];go_enter Tryz.func257,Tryz.ntmps257;go_wp2_with (go_at_call 260;refine(HF.o).mono ?_;rintro e w1 ⟨rfl,ho⟩;have HO2:=h_ ho;clear ho);go_ret2;exact⟨rfl,HO2.o⟩
 |some i =>
  rw[idxW_at,hi] at HF;simp only at HF;obtain⟨hlt,hp⟩:=wAt_lt hi;have HC:Hid (∀w1,Only Nob w w1→∃g c,w1.cell? ⟨b,1,none⟩=some (.slice (some ⟨g,0,none⟩) l.length c)∧w1.cell? ⟨g,i*2+1,none⟩=some (.int .u64 ((l.getD i (0,0)).2:Int))∧g<w1.heap.size∧b<w1.heap.size):=h_ (fun w1 ho=>by
   obtain⟨A,c,h1⟩:=wrH_of (HH.o.nob ho);obtain⟨g,rfl,hg,hc⟩:=h1.right.rowAt (f:=seV) (fun _=>rfl) (0,0) hlt
   exact⟨g,c,h1.blk.cell 1,hc 1 (by omega),hg,h1.blk.lt⟩)
  simp only[Option.map_some,Option.getD_some,Option.isSome_some];obtain⟨N,hN⟩:∃N,l.length=N:=⟨_,rfl⟩;rw[hN] at HC hlt hl;generalize (l.getD i (0,0)).2=v at *
  clear h hi hp hN HH;go_enter Tryz.func257,Tryz.ntmps257;go_wp2_with (go_at_call 260;refine(HF.o).mono ?_;rintro e w1 ⟨rfl,ho⟩;obtain⟨g,c,k1,k2,k3,k4⟩:=HC.o _ ho;have HO2:=h_ ho;clear ho);go_ret2;exact⟨rfl,HO2.o⟩
end
theorem Sat.rowStore {ω w:World}{F:HP}{e:TypeId}{size g n c:Nat}{xs:List Value}(h:Sat ω w (row e size (.slice (some ⟨g,0,none⟩) n c) n xs*F)){j:Nat}(hj:j<n*size)(u:Value):Sat ω (w.setCell ⟨g,j,none⟩ u) (row e size (.slice (some ⟨g,0,none⟩) n c) n (xs.set j u)*F):=by
 rcases h.cases with⟨h1,_⟩|⟨g',cap,cur,h1,h2,h3,h4,h5,h6,h7⟩
 ·cases h1
 ·injection h1 with h1 _ h1c
  subst h1c;injection h1 with h1
  injection h1 with h1
  subst h1;have h8:=h7.set j u;refine h8.impL fun y hy=>row_of_blk h2 h3 (by simp[h4]) ?_ y hy
  rw[Array.toList_setIfInBounds,List.take_set,h5]
theorem vS_set (l:List (Nat×Nat))(i v:Nat):(vS l).set (i*2+1) (.int .u64 v)=vS (l.set i ((l.getD i (0,0)).1,v)):=by
 induction l generalizing i with
 |nil=>simp[vS]
 |cons x l ih =>
  cases i with
  |zero=>simp[vS,seV]
  |succ i =>
   have:=ih i
   simp only[vS,List.flatMap_cons,seV,List.cons_append,List.nil_append,Nat.succ_mul,List.set_cons_succ,List.getD_cons_succ] at this ⊢;rw[this]
theorem vS_snoc (l:List (Nat×Nat))(x:Nat×Nat):vS (l++[x])=vS l++[.int .i64 x.1,.int .u64 x.2]:=by simp[vS,seV]
def WrPost (ω:World)(F:HP)(b most:Nat)(r:Nat×PWr)(e:Ending)(w':World):Prop:=e=.returned (.int .i64 r.1)∧Sat ω w' (wrH b most r.2*F)
theorem wr_put (ω w:World)(F:HP)(b most:Nat)(l:PWr)(h:Sat ω w (wrH b most l*F))(hl:l.length≤1000)(hm:most≤1000)(p v:Nat)(hp:p≤1000000):
  Calls Tryz.prog 222 #[.pointer (some ⟨b,0,none⟩),.int .i64 p,.int .u64 v] w (WrPost ω F b most (wPut most l p v)):=by
 have H:=h_ h;by_cases h0:p<1∨256≤p
 ·rw[show wPut most l p v=(2,l) by unfold wPut;rw[if_pos h0]]
  clear h;rcases h0 with h0|h0
  ·have d:decide ((p:Int)<1)=true:=by simp;omega
   go_enter Tryz.func222,Tryz.ntmps222;go_wp2;go_ret;exact⟨rfl,H.o⟩
  ·have d:¬(p:Int)<1:=by omega
   go_enter Tryz.func222,Tryz.ntmps222;go_wp2;go_ret;exact⟨rfl,H.o⟩
 ·have g1:¬(p:Int)<1:=by omega
  have g2:¬(256:Int)≤(p:Int):=by omega
  have HF:=h_ (wr_find ω w F b most l h hl p);cases hi:wAt l p with
  |some i =>
   obtain⟨hlt,hpi⟩:=wAt_lt hi;rw[show wPut most l p v=(0,l.set i (p,v)) by unfold wPut;rw[if_neg h0,hi]]
   rw[idxW_at,hi] at HF;simp only at HF;have HC:Hid (∀w1,Only Nob w w1→∃g c,w1.cell? ⟨b,1,none⟩=some (.slice (some ⟨g,0,none⟩) l.length c)∧w1.cell? ⟨g,i*2+1,none⟩=some (.int .u64 ((l.getD i (0,0)).2:Int))∧g<w1.heap.size∧b<w1.heap.size∧(∀j,w1.frozen? ⟨g,j,none⟩=false)∧Sat ω (w1.setCell ⟨g,i*2+1,none⟩ (.int .u64 v)) (wrH b most (l.set i (p,v))*F)):=h_ (fun w1 ho=>by
    obtain⟨A,c,h1⟩:=wrH_of (H.o.nob ho);obtain⟨g,rfl,hg,hc⟩:=h1.right.rowAt (f:=seV) (fun _=>rfl) (0,0) hlt
    refine⟨g,c,h1.blk.cell 1,hc 1 (by omega),hg,h1.blk.lt,?_,?_⟩
    ·rcases h1.right.cases with⟨h9,_⟩|⟨g',_,_,h9,_,_,_,_,_,h10⟩
     ·cases h9
     ·injection h9 with h9 _ _
      injection h9 with h9
      injection h9 with h9
      subst h9;exact h10.blk.frozen
    ·have h2:=(h1.swap.rowStore (j:=i*2+1) (by omega) (.int .u64 v)).swap
     rw[vS_set,hpi] at h2;refine wrH_to (A:=some ⟨g,0,none⟩) (c:=c) ?_;rw[List.length_set];exact h2)
   obtain⟨N,hN⟩:∃N,l.length=N:=⟨_,rfl⟩;rw[hN] at HC hlt hl;generalize (l.getD i (0,0)).2=x at *
   clear h hi hpi hN h0;go_enter Tryz.func222,Tryz.ntmps222;go_wp2_with (go_at_call 260;refine(HF.o).mono ?_;rintro e w1 ⟨rfl,ho⟩;obtain⟨g,c,k1,k2,k3,k4,k5,k6⟩:=HC.o _ ho;have HX:=h_ k6;clear ho k6);go_ret;exact⟨rfl,HX.o⟩
  |none =>
   rw[idxW_at,hi] at HF;simp only at HF;have HC:Hid (∀w1,Only Nob w w1→∃A c,w1.cell? ⟨b,0,none⟩=some (.int .i64 most)∧w1.cell? ⟨b,1,none⟩=some (.slice A l.length c)∧b<w1.heap.size∧(∀j,w1.frozen? ⟨b,j,none⟩=false)∧Hid (Sat ω w1 (bk b 321 #[.int .i64 most,.slice A l.length c]*(row 54 2 (.slice A l.length c) l.length (vS l)*F)))):=h_ (fun w1 ho=>by
    obtain⟨A,c,h1⟩:=wrH_of (H.o.nob ho);exact⟨A,c,h1.blk.cell 0,h1.blk.cell 1,h1.blk.lt,h1.blk.frozen,h1⟩)
   by_cases hf:most≤l.length
   ·rw[show wPut most l p v=(5,l) by unfold wPut;rw[if_neg h0,hi];simp only;rw[if_pos hf]]
    obtain⟨N,hN⟩:∃N,l.length=N:=⟨_,rfl⟩;rw[hN] at HC hl hf;clear h hi hN h0;go_enter Tryz.func222,Tryz.ntmps222;go_wp2_with (go_at_call 260;refine(HF.o).mono ?_;rintro e w1 ⟨rfl,ho⟩;obtain⟨A,c,k1,k2,k3,k4,HX⟩:=HC.o _ ho;have HO:=h_ (H.o.nob ho);clear ho HX);go_quiet (fail);go_wp2;go_ret;exact⟨rfl,HO.o.drewN _⟩
   ·rw[show wPut most l p v=(0,l++[(p,v)]) by unfold wPut;rw[if_neg h0,hi];simp only;rw[if_neg hf]]
    obtain⟨i0,hi0,hz⟩:=Option.map_eq_some_iff.1 infoCell_;simp only[Prod.mk.injEq] at hz;obtain⟨hz0,hz1,hz2⟩:=hz;have HI:=h_ hi0;have HZ0:=h_ hz0;have HZ1:=h_ hz1;have HZ2:=h_ hz2;have HON:Hid (∀u∈[Value.int .i64 p,.int .u64 v],u.oneCell'=true):=h_ (by intro u hu;simp at hu;rcases hu with rfl|rfl<;>rfl)
    obtain⟨N,hN⟩:∃N,l.length=N:=⟨_,rfl⟩;have HFI:Hid (∀w2 A' c',Sat ω w2 (row 54 2 (.slice A' (N+1) c') (N+1) (vS l++[.int .i64 p,.int .u64 v])*(bk b 321 #[.int .i64 most,.slice A' (N+1) c']*F))→Sat ω w2 (wrH b most (l++[(p,v)])*F)):=h_ (fun w2 A' c' h2=>by
     refine wrH_to (A:=A') (c:=c') ?_;rw[List.length_append,List.length_singleton,hN,vS_snoc];exact h2.swap)
    rw[hN] at HC hl hf;clear h hi hN h0 hi0 hz0 hz1 hz2;go_enter Tryz.func222,Tryz.ntmps222;go_wp2_with (go_at_call 260;refine(HF.o).mono ?_;rintro e w1 ⟨rfl,ho⟩;obtain⟨A,c,k1,k2,k3,k4,HX⟩:=HC.o _ ho;clear ho);go_quiet (fail);have HRD:Hid (∀q,Reads ((w1.drewN q).alloc (.cells #[.int .i64 p,.int .u64 v] 54)) (w1.heap.size+1) 2 (some ⟨w1.heap.size,0,none⟩) 1 [.int .i64 p,.int .u64 v]):=h_ (fun q=>by
     have h9:=Reads.of_blk (size:=2) (n:=1) (Blk.new (w1.drewN q) 54 #[.int .i64 p,.int .u64 v]) rfl;rw[World.size_alloc] at h9;exact h9)
    have HAP:Hid (∀q,Sat ω ((w1.drewN q).alloc (.cells #[.int .i64 p,.int .u64 v] 54)) (row 54 2 (.slice A N c) N (vS l)*(bk b 321 #[.int .i64 most,.slice A N c]*F))):=h_ (fun q=>((HX.o.swap.drewN q).junk _))
    go_wp2_with (at_builtin;refine wpList_append_sat rfl _ _ 49 rfl 54 i0 _ 2 16 Tryz.underlying49 HI.o HZ0.o HZ1.o HZ2.o rfl (by decide) _ _ _ rfl (HAP.o _) _ _ _ _ _ rfl (HRD.o _) HON.o (by unfold maxLen;omega) (by omega) ?_;intro A' c' w2 hs;have kb:=hs.right.blk;have q1:=kb.cell 1;have qf:=kb.frozen;have ql:=kb.lt;have HS:=h_ (hs.swap.put 1 (.slice A' (N+1) c') (cs':=#[.int .i64 most,.slice A' (N+1) c']) rfl).swap;clear hs kb)
    go_ret;exact⟨rfl,HFI.o _ _ _ HS.o⟩
section
variable (ω w : World) (F : HP)
theorem wr_new (h:Sat ω w F):
  Calls Tryz.prog 189 #[.int .i64 96] w (RetP ω F fun b=>wrH b 96 []):=by
 have H:=h_ h;clear h;go_enter Tryz.func189,Tryz.ntmps189;go_wp2;go_ret;refine⟨_,rfl,wrH_to (A:=none) (c:=0) ?_⟩;exact((H.o.nil 54 2).bkNew rfl)
theorem wr_all (b most:Nat)(l:PWr)(h:Sat ω w (wrH b most l*F))(hl:l.length≤1000):
  Calls Tryz.prog 191 #[.pointer (some ⟨b,0,none⟩)] w (RetR ω (wrH b most l*F) 54 2 l.length (vS l)):=by
 obtain⟨A,c,h⟩:=wrH_of h;have c1:=h.blk.c 1;have lt:=h.blk.lt;have HX:Hid (Calls Tryz.prog 106 #[.slice A l.length c] w (RetR ω (row 54 2 (.slice A l.length c) l.length (vS l)*(bk b 321 #[.int .i64 most,.slice A l.length c]*F)) 54 2 l.length (vS l))):=h_ (cloneCell ω w _ A l.length c (vS l) h.swap (by omega) (vS_one _))
 have HF:Hid (∀w1 A' c',Sat ω w1 (row 54 2 (.slice A' l.length c') l.length (vS l)*(row 54 2 (.slice A l.length c) l.length (vS l)*(bk b 321 #[.int .i64 most,.slice A l.length c]*F)))→Sat ω w1 (row 54 2 (.slice A' l.length c') l.length (vS l)*(wrH b most l*F))):=h_ (fun w1 A' c' h1 =>
  (wrH_to (A:=A) (c:=c) (F:=row 54 2 (.slice A' l.length c') l.length (vS l)*F) (h1.perm (by ac_rfl))).swap)
 generalize l.length=N at *
 clear h;go_enter Tryz.func191,Tryz.ntmps191;go_wp2_with (go_at_call 106;refine(HX.o).mono ?_;rintro e w1 ⟨A',c',rfl,hs⟩;have HS:=h_ hs;clear hs);go_ret;exact⟨_,_,rfl,HF.o _ _ _ HS.o⟩
theorem wTakeF_cons {most:Nat}{w l:PWr}{k:Nat}(hk:k<l.length):wTakeF most w (l.drop k)=(if(wPut most w (l.getD k (0,0)).1 (l.getD k (0,0)).2).1≠0 then wPut most w (l.getD k (0,0)).1 (l.getD k (0,0)).2 else wTakeF most (wPut most w (l.getD k (0,0)).1 (l.getD k (0,0)).2).2 (l.drop (k+1))):=by
 rw[List.drop_eq_getElem_cons hk,wTakeF,gD,List.getElem?_eq_getElem hk];rfl
theorem wPut_len (most:Nat)(w:PWr)(p v:Nat):(wPut most w p v).2.length≤w.length+1∧((wPut most w p v).2.length≤max w.length most):=by
 unfold wPut;split
 ·simp;omega
 ·split
  ·simp;omega
  ·split
   ·simp;omega
   ·simp;omega
theorem wr_take (b most:Nat)(l s:PWr)(A:Option Addr)(c:Nat)(h:Sat ω w (wrH b most l*(row 54 2 (.slice A s.length c) s.length (vS s)*F)))(hl:l.length≤500)(hm:most≤500)(hs:s.length≤500)(hp:∀x∈s,x.1≤1000000):
  Calls Tryz.prog 190 #[.pointer (some ⟨b,0,none⟩),.slice A s.length c] w (WrPost ω (row 54 2 (.slice A s.length c) s.length (vS s)*F) b most (wTake most l s)):=by
 obtain⟨S,hS⟩:∃S,S=row 54 2 (.slice A s.length c) s.length (vS s):=⟨_,rfl⟩;rw[←hS] at h ⊢;obtain⟨N,hN⟩:∃N,s.length=N:=⟨_,rfl⟩;obtain⟨r,hr⟩:∃r,wTakeF most l s=r:=⟨_,rfl⟩;have HT:Hid (wTake most l s=if r.1≠0 then(r.1,l) else r):=h_ (by unfold wTake;rw[hr])
 generalize wTake most l s=R at *
 have HAL:=h_ (wr_all ω w _ b most l h (by omega))
 have HRW:Hid (∀w1 (k:Nat) P Q,Sat ω w1 (P*(Q*(S*F)))→k<N→∃g,A=some ⟨g,0,none⟩∧g<w1.heap.size∧w1.cell? ⟨g,k*2,none⟩=some (.int .i64 ((s.getD k (0,0)).1:Int))∧w1.cell? ⟨g,k*2+1,none⟩=some (.int .u64 ((s.getD k (0,0)).2:Int))):=h_ (fun w1 k P Q h1 hk=>by
  rw[hS] at h1;obtain⟨g,h5,h6,h7⟩:=h1.right.right.rowAt (l:=s) (f:=seV) (fun _=>rfl) (0,0) (hN▸hk)
  exact⟨g,h5,h6,h7 0 (by omega),h7 1 (by omega)⟩)
 have HPU:Hid (∀w1 G lk (k:Nat),k<N→lk.length≤1000→Sat ω w1 (wrH b most lk*G)→Calls Tryz.prog 222 #[.pointer (some ⟨b,0,none⟩),.int .i64 (((s.getD k (0,0)).1:Nat):Int),.int .u64 (((s.getD k (0,0)).2:Nat):Int)] w1 (WrPost ω G b most (wPut most lk (s.getD k (0,0)).1 (s.getD k (0,0)).2))):=h_ (fun w1 G lk k hk hlk h1=>wr_put ω w1 G b most lk h1 hlk (by omega) _ _ (by
  have hk':k<s.length:=hN▸hk;rw[gD,List.getElem?_eq_getElem hk'];exact hp _ (List.getElem_mem hk')))
 have HTC:Hid (∀lk k,k<N→wTakeF most lk (s.drop k)=(if(wPut most lk (s.getD k (0,0)).1 (s.getD k (0,0)).2).1≠0 then wPut most lk (s.getD k (0,0)).1 (s.getD k (0,0)).2 else wTakeF most (wPut most lk (s.getD k (0,0)).1 (s.getD k (0,0)).2).2 (s.drop (k+1)))):=h_ (fun lk k hk=>wTakeF_cons (hN▸hk))
 have HTE:Hid (∀lk,wTakeF most lk (s.drop N)=(0,lk)):=h_ (fun lk=>by rw[←hN,List.drop_length];rfl)
 have HR0:Hid (wTakeF most l (s.drop 0)=r):=h_ (by rw[List.drop_zero];exact hr)
 rw[hN] at hs ⊢;clear h hS hN hr hp;go_enter Tryz.func190,Tryz.ntmps190;go_wp2_with (go_at_call 191;refine(HAL.o).mono ?_;rintro e w1 ⟨A2,c2,rfl,hx⟩;have HS:=h_ hx;clear hx);go_loopw [7,8,13] (fun _ _ i wr=>∃(k:Nat) (lk:PWr),k≤N∧lk.length≤500∧i=.int .i64 k∧Hid (wTakeF most lk (s.drop k)=r)∧Hid (Sat ω wr (wrH b most lk*(row 54 2 (.slice A2 l.length c2) l.length (vS l)*(S*F))))) (fun _ _ i _=>N-(intOf i).toNat)
 case atStart=>exact⟨0,l,by omega,hl,rfl,HR0.o,HS.o.swap⟩
 case round =>
  obtain⟨k,lk,hk,hlk,rfl,HP,HX⟩:=hrel;by_cases hlt:k<N
  ·obtain⟨g,rfl,hg,r0,r1⟩:=HRW.o _ k _ _ HX.o hlt;have HQ:=h_ (fun w1=>HPU.o w1 (row 54 2 (.slice A2 l.length c2) l.length (vS l)*(S*F)) lk k hlt (by omega))
   have HP1:Hid ((if(wPut most lk (s.getD k (0,0)).1 (s.getD k (0,0)).2).1≠0 then wPut most lk (s.getD k (0,0)).1 (s.getD k (0,0)).2 else wTakeF most (wPut most lk (s.getD k (0,0)).1 (s.getD k (0,0)).2).2 (s.drop (k+1)))=r):=h_ (by rw[←HTC.o lk k hlt];exact HP.o)
   have HLE:=h_ (wPut_len most lk (s.getD k (0,0)).1 (s.getD k (0,0)).2);generalize wPut most lk (s.getD k (0,0)).1 (s.getD k (0,0)).2=pr at *
   obtain⟨x1,hx1⟩:∃x1,(s.getD k (0,0)).1=x1:=⟨_,rfl⟩;obtain⟨x2,hx2⟩:∃x2,(s.getD k (0,0)).2=x2:=⟨_,rfl⟩;rw[hx1] at r0 HQ;rw[hx2] at r1 HQ;clear hx1 hx2;obtain⟨pe,pl⟩:=pr;simp only at HP1 HLE;by_cases he:pe=0
   ·subst he;have HP2:Hid (wTakeF most pl (s.drop (k+1))=r):=h_ (by have:=HP1.o;rw[if_neg (by simp)] at this;exact this)
    have hpl:pl.length≤500:=by have:=HLE.o.2;omega
    go_wp2_with (go_at_call 222;refine(HQ.o _ (HX.o.junk _)).mono ?_;rintro e w2 ⟨rfl,hx⟩;have HY:=h_ hx;clear hx);exact⟨⟨k+1,pl,by omega,hpl,by go_num,HP2.o,HY.o⟩,by simp[intOf];omega⟩
   ·have d:((pe:Int)==0)=false:=by simpa using he
    have d2:((pe:Int) != 0)=true:=by simpa using he
    have HP2:Hid (r=(pe,pl)):=h_ (by have:=HP1.o;rw[if_pos (by simpa using he)] at this;exact this.symm)
    have HRE:Hid ((if r.1≠0 then(r.1,l) else r)=(pe,l)):=h_ (by rw[HP2.o];rw[if_pos (by simpa using he)])
    have HRR:Hid (R=(pe,l)):=h_ (HT.o.trans HRE.o);clear he;have HZ:Hid (∀w2,Sat ω w2 (wrH b most pl*(row 54 2 (.slice A2 l.length c2) l.length (vS l)*(S*F)))→Sat ω (w2.setCell ⟨b,1,none⟩ (.slice A2 l.length c2)) (wrH b most l*(S*F))∧(∃v,w2.cell? ⟨b,1,none⟩=some v)∧(∀j,w2.frozen? ⟨b,j,none⟩=false)):=h_ (fun w2 h2=>by
     obtain⟨A3,c3,h3⟩:=wrH_of h2;have h4:=h3.put 1 (.slice A2 l.length c2) (cs':=#[.int .i64 most,.slice A2 l.length c2]) rfl;refine⟨wrH_to (A:=A2) (c:=c2) ?_,⟨_,h3.blk.cell 1⟩,h3.blk.frozen⟩;have h5:Sat ω _ (bk b 321 #[.int .i64 most,.slice A2 l.length c2]*(row 54 2 (.slice A2 l.length c2) l.length (vS l)*(S*F)*row 54 2 (.slice A3 pl.length c3) pl.length (vS pl))):=h4.perm (by ac_rfl)
     exact h5.assoc'.left.perm (by ac_rfl))
    go_wp2_with (go_at_call 222;refine(HQ.o _ (HX.o.junk _)).mono ?_;rintro e w2 ⟨rfl,hx⟩;obtain⟨hz1,⟨v,hz2⟩,hz3⟩:=HZ.o _ hx;have HY:=h_ hz1;clear hx hz1);rw[HRR.o];go_ret;exact⟨rfl,HY.o⟩
  ·have HRE:Hid ((if r.1≠0 then(r.1,l) else r)=(0,lk)):=h_ (by
    have h1:=HP.o;rw[show k=N by omega,HTE.o] at h1
    rw[←h1];simp)
   have HRR:Hid (R=(0,lk)):=h_ (HT.o.trans HRE.o);go_wp2;rw[HRR.o];go_ret;refine⟨rfl,?_⟩;have h9:Sat ω wr (wrH b most lk*(S*F)*row 54 2 (.slice A2 l.length c2) l.length (vS l)):=HX.o.perm (by ac_rfl)
   exact h9.left
end
section
variable (ω w : World) (F : HP)
def pV (b:Nat):Value:=.pointer (some ⟨b,0,none⟩)
def pS (l:List Nat):List Value:=l.flatMap fun b=>[pV b]
theorem pS_snoc (l:List Nat)(b:Nat):pS (l++[b])=pS l++[pV b]:=by simp[pS]
theorem pS_len (l:List Nat):(pS l).length=l.length:=by
 induction l with
 |nil=>rfl
 |cons b l ih=>simp[pS] at ih ⊢;omega
def lvOne (r:Nat)(w:PWr):HP:=ex fun b=>bk r 296 #[pV b,.slice none 0 0]*wrH b 96 w
def lvAll:List Nat→List PWr→HP
 | [],[]=>emp
 |r::rs,w::ws=>lvOne r w*lvAll rs ws
 |_,_=>fact False
theorem lvAll_snoc:∀(rs:List Nat) (ws:List PWr) (r:Nat) (w:PWr),rs.length=ws.length→lvAll (rs++[r]) (ws++[w])=lvAll rs ws*lvOne r w
 | [],[],r,w,_=>by simp only[List.nil_append,lvAll,star_emp,emp_star]
 |a::rs,x::ws,r,w,h=>by
  simp only[List.cons_append,lvAll];rw[lvAll_snoc rs ws r w (by simpa using h),star_assoc]
 | [],x::ws,r,w,h=>by simp at h
 |a::rs,[],r,w,h=>by simp at h
theorem lvAll_at:∀(rs:List Nat) (ws:List PWr) (i:Nat),rs.length=ws.length→i<ws.length→∃R,∀w',lvAll rs (ws.set i w')=lvOne (rs.getD i 0) w'*R
 | [],[],i,_,h=>absurd h (by simp)
 |a::rs,x::ws,0,h,hi=>⟨lvAll rs ws,fun w'=>rfl⟩
 |a::rs,x::ws,i+1,h,hi=>by
  obtain⟨R,hR⟩:=lvAll_at rs ws i (by simpa using h) (by simpa using hi)
  refine⟨lvOne a x*R,fun w'=>?_⟩
  simp only[List.set_cons_succ,lvAll,hR,List.getD_cons_succ];rw[star_left]
 | [],x::ws,i,h,_=>by simp at h
 |a::rs,[],i,h,_=>by simp at h
def lvX (b most:Nat)(A:Option Addr)(c:Nat)(rs:List Nat)(ws:List PWr):HP:=bk b 292 #[.int .i64 most,.slice A rs.length c]*(row 290 1 (.slice A rs.length c) rs.length (pS rs)*lvAll rs ws)
def lvH (b:Nat)(l:PLv):HP:=ex fun A=>ex fun c=>ex fun rs=>fact (rs.length=l.rows.length)*lvX b l.most A c rs l.rows
theorem lvH_of {ω w:World}{F:HP}{b:Nat}{l:PLv}(h:Sat ω w (lvH b l*F)):∃A c rs,rs.length=l.rows.length∧Sat ω w (lvX b l.most A c rs l.rows*F):=by
 obtain⟨A,h⟩:=h.of_ex;obtain⟨c,h⟩:=h.of_ex;obtain⟨rs,h⟩:=h.of_ex;obtain⟨h1,h2⟩:=h.assoc.of_fact;exact⟨A,c,rs,h1,h2⟩
theorem lvH_to {ω w:World}{F:HP}{b:Nat}{l:PLv}{A:Option Addr}{c:Nat}{rs:List Nat}(e:rs.length=l.rows.length)(h:Sat ω w (lvX b l.most A c rs l.rows*F)):Sat ω w (lvH b l*F) :=
 Sat.to_ex A (Sat.to_ex c (Sat.to_ex rs ((h.to_fact e).assoc')))
structure LvC (w:World) (b n i g cp r wb:Nat):Prop where
 rows:w.cell? ⟨b,1,none⟩=some (.slice (some ⟨g,0,none⟩) n cp)
 last:w.cell? ⟨g,i,none⟩=some (pV r)
 cells:w.cell? ⟨r,0,none⟩=some (pV wb)
 frees:w.cell? ⟨r,1,none⟩=some (.slice none 0 0)
 lb:b<w.heap.size
 lg:g<w.heap.size
 lr:r<w.heap.size
theorem PLv.inmost_at (l:PLv)(h:l.rows≠[]):l.inmost=l.rows.getD (l.rows.length-1) []:=by
 unfold PLv.inmost;rw[gD,←List.getLast?_eq_getElem?];rw[List.getLastD_eq_getLast?]
theorem set_last (x:PWr)(rows:List PWr)(h:rows≠[]):rows.dropLast++[x]=rows.set (rows.length-1) x:=by
 rcases List.eq_nil_or_concat rows with rfl|⟨i,a,rfl⟩
 ·exact absurd rfl h
 ·simp
theorem PLv.setIn_at (l:PLv)(h:l.rows≠[])(x:PWr):l.setIn x={ l with rows:=l.rows.set (l.rows.length-1) x }:=by
 unfold PLv.setIn;rw[set_last x l.rows h]
theorem lv_level {ω w:World}{F:HP}{b:Nat}{l:PLv}(h:Sat ω w (lvH b l*F)){i:Nat}(hlt:i<l.rows.length):∃g cp r wb G,Sat ω w (wrH wb 96 (l.rows.getD i [])*(bk r 296 #[pV wb,.slice none 0 0]*(G*F)))∧(∀w' P F',Sat ω w' (P*(bk r 296 #[pV wb,.slice none 0 0]*(G*F')))→LvC w' b l.rows.length i g cp r wb)∧(∀w' x F',Sat ω w' (wrH wb 96 x*(bk r 296 #[pV wb,.slice none 0 0]*(G*F')))→Sat ω w' (lvH b { l with rows:=l.rows.set i x }*F')):=by
 obtain⟨A,c,rs,hl,h⟩:=lvH_of h;obtain⟨R,hR⟩:=lvAll_at rs l.rows i hl hlt;have e1:lvAll rs l.rows=lvOne (rs.getD i 0) (l.rows.getD i [])*R:=by
  have h2:=hR (l.rows.getD i []);rw[←h2]
  congr 1
  rw[gD,List.getElem?_eq_getElem hlt];simp
 unfold lvX at h;rw[e1] at h;have h3:Sat ω w (lvOne (rs.getD i 0) (l.rows.getD i [])*(bk b 292 #[.int .i64 l.most,.slice A rs.length c]*(row 290 1 (.slice A rs.length c) rs.length (pS rs)*(R*F)))):=h.perm (by ac_rfl)
 obtain⟨wb,h4⟩:=h3.of_ex;obtain⟨g,rfl,_,_⟩:=h4.right.right.rowAt (l:=rs) (f:=fun b=>[pV b]) (fun _=>rfl) 0 (i:=i) (by omega)
 refine⟨g,c,rs.getD i 0,wb,(bk b 292 #[.int .i64 l.most,.slice (some ⟨g,0,none⟩) rs.length c]*(row 290 1 (.slice (some ⟨g,0,none⟩) rs.length c) rs.length (pS rs)*R)),h4.perm (by ac_rfl),fun w' P F' h5=>?_,fun w' x F' h5=>?_⟩
 ·have h6:=h5.right;have h7:=h6.right.assoc;obtain⟨g',e',lg,hc⟩:=h7.right.assoc.rowAt (l:=rs) (f:=fun b=>[pV b]) (fun _=>rfl) 0 (i:=i) (by omega)
  injection e' with e'
  injection e' with e'
  subst e';have h8:=hc 0 (by omega)
  rw[Nat.mul_one,Nat.add_zero] at h8;exact⟨by rw[←hl];exact h7.blk.cell 1,h8,h6.blk.cell 0,h6.blk.cell 1,h7.blk.lt,lg,h6.blk.lt⟩
 ·refine lvH_to (A:=some ⟨g,0,none⟩) (c:=c) (rs:=rs) (by simpa using hl) ?_
  unfold lvX;simp only[hR];have h6:Sat ω w' ((bk (rs.getD i 0) 296 #[pV wb,.slice none 0 0]*wrH wb 96 x)*(bk b 292 #[.int .i64 l.most,.slice (some ⟨g,0,none⟩) rs.length c]*(row 290 1 (.slice (some ⟨g,0,none⟩) rs.length c) rs.length (pS rs)*(R*F')))):=h5.perm (by ac_rfl)
  have h7:Sat ω w' (lvOne (rs.getD i 0) x*_):=Sat.to_ex wb h6;exact h7.perm (by ac_rfl)
theorem lv_inmost {ω w:World}{F:HP}{b:Nat}{l:PLv}(h:Sat ω w (lvH b l*F))(hn:l.rows≠[]):∃g cp r wb G,Sat ω w (wrH wb 96 l.inmost*(bk r 296 #[pV wb,.slice none 0 0]*(G*F)))∧(∀w' P F',Sat ω w' (P*(bk r 296 #[pV wb,.slice none 0 0]*(G*F')))→LvC w' b l.rows.length (l.rows.length-1) g cp r wb)∧(∀w' x F',Sat ω w' (wrH wb 96 x*(bk r 296 #[pV wb,.slice none 0 0]*(G*F')))→Sat ω w' (lvH b (l.setIn x)*F')):=by
 have hlt:l.rows.length-1<l.rows.length:=by
  have:=List.length_pos_iff.2 hn;omega
 rw[l.inmost_at hn];simp only[l.setIn_at hn];exact lv_level h hlt
theorem PLv.ok.at_ {l:PLv}(h:l.ok)(i:Nat):(l.rows.getD i []).length≤96∧∀x∈l.rows.getD i [],x.1≤1000000:=by
 rcases Nat.lt_or_ge i l.rows.length with hi|hi
 ·rw[gD,List.getElem?_eq_getElem hi];exact h.rows _ (List.getElem_mem hi)
 ·rw[gD,List.getElem?_eq_none hi];simp
theorem PLv.ok.in_ {l:PLv}(h:l.ok):l.inmost.length≤96∧∀x∈l.inmost,x.1≤1000000:=by
 rw[l.inmost_at h.some_];exact h.at_ _
theorem lv_fresh (h:Sat ω w F):
  Calls Tryz.prog 206 #[] w (RetP ω F fun r=>lvOne r []):=by
 have HN:=h_ (wr_new ω w F h);clear h;go_enter Tryz.func206,Tryz.ntmps206;go_wp2_with (go_at_call 189;refine(HN.o).mono ?_;rintro e w1 ⟨b,rfl,hx⟩;have HS:=h_ hx;clear hx);go_ret;refine⟨_,rfl,?_⟩;exact Sat.to_ex b ((HS.o.bkNew rfl).assoc')
theorem lv_new (h:Sat ω w F)(m:Nat):
  Calls Tryz.prog 175 #[.int .i64 m] w (RetP ω F fun b=>lvH b (PLv.new m)):=by
 have HN:=h_ (lv_fresh ω w F h);have e:max (0:Int) (min (m:Int) 96)=((min m 96:Nat):Int):=by omega
 clear h;go_enter Tryz.func175,Tryz.ntmps175;go_wp2_with (go_at_call 206;refine(HN.o).mono ?_;rintro e w1 ⟨b,rfl,hx⟩;have HS:=h_ hx;clear hx);go_ret;refine⟨_,rfl,lvH_to (A:=some ⟨w1.heap.size,0,none⟩) (c:=1) (rs:=[b]) rfl ?_⟩;have h1:=(HS.o.bkNew (t:=290) (cs:=#[pV b]) rfl).rowOf (n:=1) (size:=1) rfl (by unfold maxLen;omega)
 have h2:=h1.bkNew (t:=292) (cs:=#[.int .i64 ((min m 96:Nat):Int),.slice (some ⟨w1.heap.size,0,none⟩) 1 1]) rfl;rw[World.size_alloc] at h2;have e9:lvX (w1.heap.size+1) (PLv.new m).most (some ⟨w1.heap.size,0,none⟩) 1 [b] (PLv.new m).rows=bk (w1.heap.size+1) 292 #[.int .i64 ((min m 96:Nat):Int),.slice (some ⟨w1.heap.size,0,none⟩) 1 1]*(row 290 1 (.slice (some ⟨w1.heap.size,0,none⟩) 1 1) 1 [pV b]*(lvOne b []*emp)):=rfl;rw[e9,star_emp];exact h2.perm (by simp only[star_assoc])
theorem LvC.nob {w w':World}{b n i g cp r wb:Nat}(h:LvC w b n i g cp r wb)(ho:Only Nob w w'):LvC w' b n i g cp r wb :=
 ⟨(ho.cell (p:=⟨b,1,none⟩) h.lb (fun e=>e)).trans h.rows,(ho.cell (p:=⟨g,i,none⟩) h.lg (fun e=>e)).trans h.last,(ho.cell (p:=⟨r,0,none⟩) h.lr (fun e=>e)).trans h.cells,(ho.cell (p:=⟨r,1,none⟩) h.lr (fun e=>e)).trans h.frees,Nat.lt_of_lt_of_le h.lb ho.size,Nat.lt_of_lt_of_le h.lg ho.size,Nat.lt_of_lt_of_le h.lr ho.size⟩
theorem lv_in (w:World)(b n g cp r wb:Nat)(h:LvC w b (n+1) n g cp r wb)(hn:n≤1000):
  Calls Tryz.prog 258 #[.pointer (some ⟨b,0,none⟩)] w fun e w'=>e=.returned (pV r)∧Only Nob w w':=by
 obtain⟨c1,c2,c3,c4,l1,l2,l3⟩:=h;unfold pV at *
 clear c3 c4 l3;go_enter Tryz.func258,Tryz.ntmps258;go_wp2;go_quiet (fail);go_wp2;go_ret;exact⟨rfl,(Only.refl _ _).drewN _⟩
theorem wr_lenC {ω w:World}{F:HP}{b most:Nat}{l:PWr}(h:Sat ω w (wrH b most l*F)):∃A c,w.cell? ⟨b,1,none⟩=some (.slice A l.length c)∧b<w.heap.size:=by
 obtain⟨A,c,h⟩:=wrH_of h;exact⟨A,c,h.blk.cell 1,h.blk.lt⟩
def roomI (most:Int)(rows:List PWr):Int:=rows.foldl (fun n r=>n-(r.length:Int)) most
theorem room_step (most:Int)(rows:List PWr){k:Nat}(hk:k<rows.length):roomI most (rows.take (k+1))=roomI most (rows.take k)-((rows.getD k []).length:Int):=by
 unfold roomI;rw[List.take_succ_eq_append_getElem hk,List.foldl_append,gD,List.getElem?_eq_getElem hk];rfl
theorem room_bnd:∀(rows:List PWr) (most:Int),(∀r∈rows,r.length≤96)→most-96*(rows.length:Int)≤roomI most rows∧roomI most rows≤most
 | [],most,_=>by simp[roomI]
 |r::rows,most,h=>by
  have h1:=room_bnd rows (most-r.length) (fun x hx=>h x (List.mem_cons_of_mem _ hx))
  have h2:=h r List.mem_cons_self;have e:roomI most (r::rows)=roomI (most-r.length) rows:=rfl;rw[e,List.length_cons];omega
theorem lv_room (b:Nat)(l:PLv)(h:Sat ω w (lvH b l*F))(ho:l.ok):
  Calls Tryz.prog 324 #[.pointer (some ⟨b,0,none⟩)] w fun e w'=>e=.returned (.int .i64 l.room)∧Only Nob w w':=by
 obtain⟨M,hM⟩:∃M:Int,(l.most:Int)=M:=⟨_,rfl⟩;obtain⟨N,hN⟩:∃N,l.rows.length=N:=⟨_,rfl⟩;have hM2:0≤M∧M≤96:=by have:=ho.most;omega
 have hN2:0<N∧N≤6:=by have:=ho.few;have:=List.length_pos_iff.2 ho.some_;omega
 have HR:Hid (l.room=roomI M (l.rows.take N)):=h_ (by rw[←hN,List.take_length,←hM];rfl)
 rw[HR.o];have HC:Hid (∀k,k<N→∃g cp r wb A c,LvC w b N k g cp r wb∧w.cell? ⟨wb,1,none⟩=some (.slice A (l.rows.getD k []).length c)∧wb<w.heap.size):=h_ (fun k hk=>by
  obtain⟨g,cp,r,wb,G,h1,h2,_⟩:=lv_level h (i:=k) (by omega)
  obtain⟨A,c,h3,h4⟩:=wr_lenC h1;exact⟨g,cp,r,wb,A,c,hN▸h2 w _ _ h1,h3,h4⟩)
 have HS:Hid (∀k,k<N→roomI M (l.rows.take (k+1))=roomI M (l.rows.take k)-((l.rows.getD k []).length:Int)∧-1000≤roomI M (l.rows.take k)∧roomI M (l.rows.take k)≤96∧(l.rows.getD k []).length≤96):=h_ (fun k hk=>by
  have h1:=room_bnd (l.rows.take k) M (fun r hr=>(ho.rows r (List.mem_of_mem_take hr)).1)
  have h2:(l.rows.take k).length≤6:=by rw[List.length_take];omega
  exact⟨room_step M l.rows (hN▸hk),by omega,by omega,(ho.at_ k).1⟩)
 have HM:Hid (w.cell? ⟨b,0,none⟩=some (.int .i64 M)∧(∃A cp,w.cell? ⟨b,1,none⟩=some (.slice A N cp))∧b<w.heap.size):=h_ (by
  obtain⟨A,c,rs,hl,h1⟩:=lvH_of h;have h2:=h1.assoc.blk;rw[hM,hl,hN] at h2;exact⟨h2.cell 0,⟨A,c,h2.cell 1⟩,h2.lt⟩)
 have HZ:Hid (roomI M (l.rows.take 0)=M):=h_ rfl;obtain⟨m0,⟨A,cp,m1⟩,lb⟩:=HM.o;clear h ho HM hN hM HR;go_enter Tryz.func324,Tryz.ntmps324;go_wp2;go_loopw [3,15] (fun n i wr=>∃(k:Nat),k≤N∧i=.int .i64 k∧n=.int .i64 (roomI M (l.rows.take k))∧wr=w) (fun _ i _=>N-(intOf i).toNat)
 case atStart=>exact⟨0,by omega,rfl,by rw[HZ.o],rfl⟩
 case round =>
  obtain⟨k,hk,rfl,rfl,rfl⟩:=hrel;by_cases hlt:k<N
  ·obtain⟨g,cp',r,wb,A',c',⟨c1,c2,c3,c4,l1,l2,l3⟩,c5,l5⟩:=HC.o k hlt;obtain⟨s1,s2,s3,s4⟩:=HS.o k hlt;rw[m1] at c1;injection c1 with c1
   injection c1 with c1 _ _
   subst c1;have HE:=h_ s1;clear s1;generalize roomI M (l.rows.take k)=x at *
   generalize (l.rows.getD k []).length=y at *
   unfold pV at *
   go_wp2;exact⟨⟨k+1,by omega,by go_num,by rw[HE.o],by first|trivial|rfl⟩,by simp[intOf];omega⟩
  ·obtain rfl:k=N:=by omega
   go_wp2;go_ret;exact⟨rfl,Only.refl _ _⟩
end
end Go.Proofs.YtfodmgaliclhfaaGreatDoor

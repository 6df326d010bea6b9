/- Lemmas. -/
import Derived.Test.YtfodmgaliclhfaaGreatDoorGWyR
import Derived.Test.YtfodmgaliclhfaaGreatDoorGTopB
import Derived.Test.YtfodmgaliclhfaaGreatDoorGOkPast
import Derived.Deep.CutBlock
import Derived.Deep.DeepCutAuto
namespace Go.Proofs.YtfodmgaliclhfaaGreatDoor
set_option linter.unusedVariables false
set_option linter.unusedSimpArgs false
set_option maxRecDepth 100000
set_option maxHeartbeats 16000000
open Go.RowKit Go.Proofs.Tryz Iq Jq
section
namespace Wy
def wrote (a:PTo):Bool:=a.kind==2&&decide (0<a.cells.length)
def less (a b:PTo):Bool:=if a.stamp≠b.stamp then decide (a.stamp<b.stamp) else if wrote a≠wrote b then wrote a else decide (a.born<b.born)
theorem IU (a b:PTo):less a b=true↔a.stamp<b.stamp∨a.stamp=b.stamp∧(wrote a=true∧wrote b=false∨wrote a=wrote b∧a.born<b.born):=by
 unfold less;generalize wrote a=x;generalize wrote b=y;split
 ·simp;omega
 ·cases x<;>cases y<;>simp<;>omega
theorem Bv (a b:PTo):less a b=false↔¬(a.stamp<b.stamp∨a.stamp=b.stamp∧(wrote a=true∧wrote b=false∨wrote a=wrote b∧a.born<b.born)):=by
 rw[←IU];simp
theorem KT {a b c:PTo}(h1:less b a=false)(h2:less c b=false):less c a=false:=by
 rw[Bv] at *
 revert h1 h2
 generalize wrote a=x;generalize wrote b=y;generalize wrote c=z;cases x<;>cases y<;>cases z<;>simp<;>omega
theorem NK {a b:PTo}(h:less a b=true):less b a=false:=by
 rw[IU] at h;rw[Bv]
 revert h
 generalize wrote a=x;generalize wrote b=y;cases x<;>cases y<;>simp<;>omega
def none_:PTo:=⟨0,0,0,0,0,0,0,0,0,[],[],[]⟩
def at_ (l:List PTo)(i:Nat):PTo:=l.getD i none_
def posP (l:List PTo)(i:Nat)(out:List Nat):Nat→Nat
 |0=>0
 |k+1=>if less (at_ l i) (at_ l (out.getD k 0)) then posP l i out k else k+1
def orderP (l:List PTo):Nat→List Nat
 |0=>[]
 |n+1=>(orderP l n).take (posP l n (orderP l n) (orderP l n).length)++n::(orderP l n).drop (posP l n (orderP l n) (orderP l n).length)
section
variable {l : List PTo} {i k : Nat} {out : List Nat}
theorem Lb:∀k,posP l i out k≤k
 |0=>Nat.le_refl _
 |k+1=>by
  unfold posP
  have:=Lb k
  split<;>omega
theorem Lc:∀k j,posP l i out k≤j→j<k→less (at_ l i) (at_ l (out.getD j 0))=true
 |0,j,_,h=>by omega
 |k+1,j,h1,h2=>by
  unfold posP at h1;split at h1
  ·rename_i e;by_cases hj:j=k
   ·rw[hj];exact e
   ·exact Lc k j h1 (by omega)
  ·omega
theorem La:∀k,0<posP l i out k→less (at_ l i) (at_ l (out.getD (posP l i out k-1) 0))=false
 |0,h=>by simp[posP] at h
 |k+1,h=>by
  unfold posP at h ⊢;split at h
  ·rename_i e;rw[if_pos e];exact La k h
  ·rename_i e;rw[if_neg e];simpa using e
def LG (l:List PTo)(out:List Nat):Prop:=∀a b,a<b→b<out.length→less (at_ l (out.getD b 0)) (at_ l (out.getD a 0))=false
theorem Ka (h:LG l out)(i:Nat):LG l (out.take (posP l i out out.length)++i::out.drop (posP l i out out.length)):=by
 obtain⟨k,hk⟩:∃k,posP l i out out.length=k:=⟨_,rfl⟩;have hkl:k≤out.length:=by rw[←hk];exact Lb _
 have hhi:=Lc (l:=l) (i:=i) (out:=out) out.length;have hlo:=La (l:=l) (i:=i) (out:=out) out.length;rw[hk] at hhi hlo ⊢;have hget:∀j,(out.take k++i::out.drop k).getD j 0=if j<k then out.getD j 0 else if j=k then i else out.getD (j-1) 0:=fun j=>by
  simp only[gD,List.getElem?_append,List.length_take,Nat.min_eq_left hkl,List.getElem?_take];by_cases h1:j<k
  ·simp[h1]
  ·rw[if_neg h1,if_neg h1];by_cases h2:j=k
   ·subst h2;simp
   ·rw[if_neg h2,show j-k=(j-1-k)+1 by omega,List.getElem?_cons_succ,List.getElem?_drop,show k+(j-1-k)=j-1 by omega]
 have hle:∀j,j<k→less (at_ l i) (at_ l (out.getD j 0))=false:=fun j hj=>by
  by_cases e:j=k-1
  ·rw[e];exact hlo (by omega)
  ·exact KT (h j (k-1) (by omega) (by omega)) (hlo (by omega))
 intro a b hab hb;have hlen:(out.take k++i::out.drop k).length=out.length+1:=by simp;omega
 rw[hlen] at hb;rw[hget,hget];by_cases h1:b<k
 ·rw[if_pos h1,if_pos (by omega)];exact h a b hab (by omega)
 ·rw[if_neg h1];by_cases h2:b=k
  ·rw[if_pos h2,if_pos (by omega)];exact hle a (by omega)
  ·rw[if_neg h2];by_cases h3:a<k
   ·rw[if_pos h3];exact h a (b-1) (by omega) (by omega)
   ·rw[if_neg h3];by_cases h4:a=k
    ·rw[if_pos h4];exact NK (hhi (b-1) (by omega) (by omega))
    ·rw[if_neg h4];exact h (a-1) (b-1) (by omega) (by omega)
theorem Cq (l:List PTo):∀n,LG l (orderP l n)
 |0=>fun a b _ h=>by simp[orderP] at h
 |n+1=>Ka (Cq l n) n
theorem order_perm (l:List PTo):∀n,List.Perm (orderP l n) (List.range n)
 |0=>List.Perm.refl _
 |n+1=>by
  unfold orderP;rw[List.range_succ];refine(List.perm_middle).trans ?_;rw[List.take_append_drop];exact((order_perm l n).cons n).trans (List.perm_append_comm (l₁:=[n]))
end
end Wy
end
section
namespace Wy
def appP (p h:Nat)(c:Nat×Nat):Nat:=if c.1=p then c.2 else h
def stepP (p h:Nat)(T:PTo):Nat:=if T.kind=2 then T.cells.foldl (appP p) h else h
def Cx (p:Nat)(A:List PTo):Nat:=A.foldl (stepP p) 0
def Hg (A:List PTo):Prop:=A.Pairwise fun a b=>less b a=false
def UT (H:AM)(A:List PTo):Prop:=∀T∈A,T.kind=2→∃b c,T.stamp=b+1∧T.cells=[c]∧H (b+1)=some c
section
variable {H : AM} {A X Y l : List PTo} {x T : PTo} {p m b : Nat}
theorem JR:m∈ws A↔∃T∈A,T.kind=2∧T.stamp=m:=by
 simp[ws,and_assoc]
theorem Hh (h:UT H A)(hT:T∈A):wrote T=true↔T.kind=2:=by
 unfold wrote;constructor
 ·intro e;simp at e;exact e.1
 ·intro e;obtain⟨b,c,_,h2,_⟩:=h T hT e;simp[e,h2]
theorem GF:∀{A:List PTo},UT H A→Hg A→(ws A).Nodup→(ws A).Pairwise (· < ·)
 | [],_,_,_=>List.Pairwise.nil
 |a::A,h,ho,hn=>by
  obtain⟨o1,o2⟩:=List.pairwise_cons.1 ho;have hA:UT H A:=fun T hT=>h T (List.mem_cons_of_mem _ hT)
  by_cases e:a.kind=2
  ·have hw:ws (a::A)=a.stamp::ws A:=by simp[ws,e]
   rw[hw] at hn ⊢;obtain⟨n1,n2⟩:=List.nodup_cons.1 hn;refine List.pairwise_cons.2 ⟨fun m hm=>?_,GF hA o2 n2⟩
   obtain⟨T,hT,hk,hs⟩:=JR.1 hm;have h1:=(Bv _ _).1 (o1 T hT)
   have:a.stamp≠m:=fun e2=>n1 (e2▸hm)
   omega
  ·have hw:ws (a::A)=ws A:=by simp[ws,e]
   rw[hw] at hn ⊢;exact GF hA o2 hn
theorem Pm:∀(n:Nat) (X:List PTo) (B:Nat),X.length=n→UT H X→(ws X).Pairwise (· < ·)→(∀m∈ws X,m≤B)→(∀m c,m≤B→H m=some c→m∈ws X)→Cx p X=val H p B:=by
 intro n;induction n with
 |zero =>
  intro X B hX _ _ _ hC;obtain rfl:=List.length_eq_zero_iff.1 hX;refine(GO 0 B (Nat.zero_le _) fun k c _ h2 h3=>?_).symm
  have:=hC k c h2 h3
  simp[ws] at this
 |succ n ih =>
  intro X B hX hW hr hB hC;obtain⟨X,T,rfl⟩:∃X' T,X=X'++[T]:=by
   have hne:X≠[]:=by intro e;rw[e] at hX;simp at hX
   exact⟨X.dropLast,X.getLast hne,(List.dropLast_concat_getLast hne).symm⟩
  have hl:X.length=n:=by simp at hX;exact hX
  have hWX:UT H X:=fun T hT=>hW T (List.mem_append_left _ hT)
  have hh:Cx p (X++[T])=stepP p (Cx p X) T:=by simp[Cx]
  rw[hh];unfold stepP;by_cases e:T.kind=2
  ·obtain⟨b,c,h1,h2,h3⟩:=hW T (by simp) e
   have hw:ws (X++[T])=ws X++[b+1]:=by rw[DK,←h1];simp[ws,e]
   rw[hw] at hr hB hC;obtain⟨r1,_,r3⟩:=List.pairwise_append.1 hr;have hb:=hB (b+1) (by simp)
   rw[if_pos e,h2];have hI:=ih X b hl hWX r1 (fun m hm=>by have:=r3 m hm (b+1) (by simp);omega) fun m c hm hc=>by
    have:=hC m c (by omega) hc
    rw[List.mem_append,List.mem_singleton] at this;rcases this with h|h
    ·exact h
    ·omega
   have hv:val H p B=val H p (b+1):=GO (b+1) B hb fun k c h4 h5 h6=>by
    have:=hC k c h5 h6
    rw[List.mem_append,List.mem_singleton] at this;rcases this with h|h
    ·have:=r3 k h (b+1) (by simp);omega
    ·omega
   rw[hv,hI];show(if c.1=p then c.2 else val H p b)=_
   simp only[val,h3]
  ·have hw:ws (X++[T])=ws X:=by rw[DK];simp[ws,e]
   rw[hw] at hr hB hC;rw[if_neg e];exact ih X B hl hWX hr hB hC
theorem Lo (hW:UT H A)(ho:Hg A)(hc:∀m,(ws A).count m=if(H m).isSome then 1 else 0)(e:A=X++x::Y):Cx p X=val H p (if x.kind=2 then x.stamp-1 else x.stamp):=by
 have hn:(ws A).Nodup:=List.nodup_iff_count.2 fun m=>by rw[hc];split<;>omega
 have hr:=GF hW ho hn;have hmem:∀m c,H m=some c→m∈ws A:=fun m c h=>List.count_pos_iff.1 (by rw[hc,h];simp)
 subst e;have hX:∀T∈X,T∈X++x::Y:=fun T h=>List.mem_append_left _ h
 have hx:x∈X++x::Y:=by simp
 have hY:∀T∈Y,T∈X++x::Y:=fun T h=>List.mem_append_right _ (List.mem_cons_of_mem _ h)
 obtain⟨o1,o2,o3⟩:=List.pairwise_append.1 ho;obtain⟨o4,o5⟩:=List.pairwise_cons.1 o2;have hsp:ws (X++x::Y)=ws X++((if x.kind=2 then [x.stamp] else [])++ws Y):=by
  rw[DK];by_cases e:x.kind=2<;>simp[ws,e]
 rw[hsp] at hr hmem;obtain⟨r1,r2,r3⟩:=List.pairwise_append.1 hr;refine Pm X.length X _ rfl (fun T h=>hW T (hX T h)) r1 (fun m hm=>?_) fun m c hm hc2=>?_
 ·split
  ·rename_i e
   have:=r3 m hm x.stamp (by simp[e])
   omega
  ·obtain⟨T,hT,hk,hs⟩:=JR.1 hm
   have:=(Bv _ _).1 (o3 T hT x (by simp))
   omega
 ·have h1:=hmem m c hc2;rw[List.mem_append,List.mem_append] at h1;rcases h1 with h1|h1|h1
  ·exact h1
  ·exfalso;by_cases e:x.kind=2
   ·rw[if_pos e] at h1 hm;obtain rfl:=List.mem_singleton.1 h1;obtain⟨b,c,q,_⟩:=hW x hx e;omega
   ·rw[if_neg e] at h1;cases h1
  ·exfalso;by_cases e:x.kind=2
   ·rw[if_pos e] at hm r2
    have:=(List.pairwise_append.1 r2).2.2 x.stamp (by simp) m h1
    omega
   ·rw[if_neg e] at hm;obtain⟨T,hT,hk,hs⟩:=JR.1 h1;have h2:=(Bv _ _).1 (o4 T hT);have w1:=(Hh hW (hY T hT)).2 hk;have w2:wrote x=false:=by
     cases h:wrote x with
     |false=>rfl
     |true=>exact absurd ((Hh hW hx).1 h) e
    rw[w1,w2] at h2;simp at h2;omega
end
def wayOk (h8 h13:Nat)(x:PTo):Bool :=
 if x.kind=2∧x.slate=[49] then h8≠0∧x.cells=[(8,0)]
 else if x.kind=2∧x.slate=[50] then h8=0∧h13≠0∧x.cells=[(13,0)]
 else if x.kind=3 then h8=0∧h13=0 else true
theorem FE {α:Type}(f:α→List PTo)(m:Nat):∀l:List α,(ws (l.flatMap f)).count m=(l.map fun x=>(ws (f x)).count m).sum
 | []=>rfl
 |a::l=>by simp only[List.flatMap_cons,DK,List.count_append,List.map_cons,List.sum_cons,FE f m l]
theorem RV {s:PSt}{M:PMc}{H:AM}{C:Bd}{ks:Nat→List (Option Nat)}(h:MI s M H C ks){A X Y:List PTo}{x:PTo}(hp:A.Perm M.attempts)(ho:Hg A)(e:A=X++x::Y):wayOk (Cx 8 X) (Cx 13 X) x=true:=by
 have hT:∀T∈A,MJ s M.mem.clock H C T:=fun T h1=>by
  obtain⟨z,hz,hT⟩:=List.mem_flatMap.1 (hp.mem_iff.1 h1);obtain⟨i,hi,e⟩:=List.getElem_of_mem hz;exact TK (h.thr i z (by rw[List.getElem?_eq_getElem hi,e])) T hT
 have hW:UT H A:=fun T h1 h2=>by
  obtain⟨g,rd,b,_,_,h3,_,h4,_,h5,_⟩:=(hT T h1).won h2;exact⟨b,g.cell,h3,h5,h4⟩
 have hc:∀m,(ws A).count m=if(H m).isSome then 1 else 0:=fun m=>by
  have h1:(ws A).count m=(ws M.attempts).count m:=List.Perm.count_eq (List.Perm.map _ (List.Perm.filter _ hp)) m;rw[h1,←h.cnt m];exact FE _ _ _
 have h8:=Lo (p:=8) hW ho hc e;have h13:=Lo (p:=13) hW ho hc e;have hx:=hT x (by rw[e];simp)
 rw[h8,h13];unfold wayOk;by_cases k2:x.kind=2
 ·obtain⟨g,rd,b,g1,g2,g3,g4,g5,g6,g7,g8⟩:=hx.won k2;rw[if_pos k2,g3,Nat.add_sub_cancel,g7,g8];have hk:=g6.kn;cases g with
  |n8=>cases g1
  |n13=>cases g1
  |blk=>cases g1
  |put p =>
   have:textI ((Sg.put p).run 0).out=[]:=rfl
   rw[this,if_neg (by simp),if_neg (by simp),if_neg (by omega)]
  |d1 w =>
   have:textI ((Sg.d1 w).run 0).out=[49]:=(by decide +kernel:textI [.num 1]=[49])
   rw[this,if_pos ⟨k2,rfl⟩];have h1:=(hk (8,w) (by simp[Sg.known])).2.1.1
   have h2:w≠0:=g2;simp only at h1;rw[h1];simp[h2,Sg.cell]
  |d2 w =>
   have:textI ((Sg.d2 w).run 0).out=[50]:=(by decide +kernel:textI [.num 2]=[50])
   rw[this,if_neg (by simp),if_pos ⟨k2,rfl⟩]
   have h1:=(hk (8,0) (by simp[Sg.known])).2.1.1
   have h3:=(hk (13,w) (by simp[Sg.known])).2.1.1
   have h2:w≠0:=g2;simp only at h1 h3;rw[h1,h3];simp[h2,Sg.cell]
 ·rw[if_neg (by omega),if_neg (by omega),if_neg k2]
  by_cases k3:x.kind=3
  ·obtain⟨h1,rd,h2⟩:=hx.lost k3;rw[if_pos k3];have a1:=(h2.kn (8,0) (by simp[Sg.known])).2.1.1
   have a2:=(h2.kn (13,0) (by simp[Sg.known])).2.1.1
   simp only at a1 a2;rw[a1,a2];rfl
  ·rw[if_neg k3]
end Wy
end
namespace Wy
theorem Ge (l:List PTo):(List.range l.length).map (at_ l)=l:=by
 refine List.ext_getElem (by simp) fun i h1 h2=>?_
 simp[at_,gD,List.getElem?_eq_getElem h2]
theorem KE (l:List PTo)(n:Nat):(orderP l n).length=n:=by rw[(order_perm l n).length_eq,List.length_range]
theorem OP {s:PSt}{M:PMc}{H:AM}{C:Bd}{ks:Nat→List (Option Nat)}(h:MI s M H C ks){l:List PTo}(hl:M.attempts=l){i:Nat}(hi:i<l.length):
  wayOk (Cx 8 (((orderP l l.length).take i).map (at_ l))) (Cx 13 (((orderP l l.length).take i).map (at_ l))) (at_ l ((orderP l l.length).getD i 0))=true:=by
 obtain⟨o,ho⟩:∃o,orderP l l.length=o:=⟨_,rfl⟩;have hp:=order_perm l l.length;have hs:=Cq l l.length;have hn:=KE l l.length;rw[ho] at hp hs hn ⊢;have hio:i<o.length:=by omega
 have e:o.map (at_ l)=(o.take i).map (at_ l)++at_ l (o.getD i 0)::(o.drop (i+1)).map (at_ l):=by
  rw[←List.map_cons,←List.map_append,gD,List.getElem?_eq_getElem hio];show _=List.map (at_ l) (o.take i++o[i]::o.drop (i+1))
  rw[←List.drop_eq_getElem_cons hio,List.take_append_drop]
 refine RV h (by rw[hl];have:=hp.map (at_ l);rwa [Ge] at this) ?_ e
 refine List.pairwise_map.2 (List.pairwise_iff_getElem.2 fun a b ha hb hab=>?_)
 have:=hs a b hab hb
 rw[gD,List.getElem?_eq_getElem hb,gD,List.getElem?_eq_getElem ha] at this;exact this
end Wy
namespace Wy
def kindW (x:Nat):Option Nat:=if x%2=1 then some (8+5*(x / 2%2)) else none
theorem Fs {x p:Nat}(h:kindW x=some p):P2 p:=by
 unfold kindW at h;split at h
 ·cases h
  have:x / 2%2=0∨x / 2%2=1:=by omega
  rcases this with e|e<;>rw[e]<;>simp[P2]
 ·cases h
def Ut (k:Nat):Nat:=if 1≤k∧k≤14 then 1 else 0
theorem Jj:JobFine takesP:=by
 refine⟨by decide +kernel,Ut,by decide,fun k hk=>?_,rfl⟩
 have h16:takesP.length=16:=rfl;rw[h16] at hk;rcases(by omega:k=0∨k=1∨k=2∨k=3∨k=4∨k=5∨k=6∨k=7∨k=8∨k=9∨k=10∨k=11∨k=12∨k=13∨k=14∨k=15) with rfl|rfl|rfl|rfl|rfl|rfl|rfl|rfl|rfl|rfl|rfl|rfl|rfl|rfl|rfl|rfl<;>refine⟨by decide,by decide,by decide,by decide,?_⟩
 ·exact .either rfl rfl 7 (by decide +kernel) rfl (by decide)
 ·exact .on (by decide) rfl
 ·exact .on (by decide) rfl
 ·exact .on (by decide) rfl
 ·exact .zero rfl rfl rfl (by decide)
 ·exact .jump rfl rfl (by decide)
 ·exact .retry rfl
 ·exact .or rfl 14 (by decide +kernel) rfl (by decide)
 ·exact .on (by decide) rfl
 ·exact .on (by decide) rfl
 ·exact .on (by decide) rfl
 ·exact .zero rfl rfl rfl (by decide)
 ·exact .jump rfl rfl (by decide)
 ·exact .retry rfl
 ·exact .done rfl rfl
 ·exact .on (by decide) rfl
theorem Mp {p:Nat}(hp:P2 p):JobFine (putsP p):=by
 rcases hp with rfl|rfl
 all_goals
  refine⟨by decide +kernel,fun _=>0,by decide,fun k hk=>?_,rfl⟩
  rcases(by have:k<2:=hk;omega:k=0∨k=1) with rfl|rfl<;>exact⟨by decide,by decide,by decide,by decide,.on (by decide) rfl⟩
theorem PX (x:Nat):JobFine (codeOf (kindW x)):=by
 cases h:kindW x with
 |none=>exact Jj
 |some p=>exact Mp (Fs h)
def BS (ks:List Nat)(k r:Nat):List (Option Nat):=((List.range k).filter (fun i=>i%3==r)).map fun i=>kindW (ks.getD i 0)
def js3 (ks:List Nat)(k:Nat):List (List (Option Nat)):=[BS ks k 0,BS ks k 1,BS ks k 2]
def jobs3 (ks:List Nat)(k:Nat):List (List (List PIns)):=(js3 ks k).map fun l=>l.map codeOf
theorem KW (ks:List Nat)(k r:Nat):BS ks (k+1) r=if k%3=r then BS ks k r++[kindW (ks.getD k 0)] else BS ks k r:=by
 unfold BS;rw[List.range_succ,List.filter_append,List.map_append];by_cases h:k%3=r
 ·rw[if_pos h];simp[h]
 ·rw[if_neg h];simp[h]
theorem jobs3_step (ks:List Nat)(k:Nat):jobs3 ks (k+1)=(jobs3 ks k).set (k%3) ((jobs3 ks k).getD (k%3) []++[codeOf (kindW (ks.getD k 0))]):=by
 unfold jobs3 js3;simp only[KW];rcases(by omega:k%3=0∨k%3=1∨k%3=2) with h|h|h<;>rw[h]<;>simp
theorem Gj:∀k:Fin 16,∀r:Fin 3,((List.range k.1).filter (fun i=>i%3==r.1)).length≤6:=by decide +kernel
theorem Dh (ks:List Nat){k r:Nat}(hk:k≤15)(hr:r<3):(BS ks k r).length≤6:=by
 unfold BS;rw[List.length_map];exact Gj ⟨k,by omega⟩ ⟨r,hr⟩
theorem Gg {ks:List Nat}{k:Nat}{l:List (Option Nat)}(h:l∈js3 ks k):∃r,r<3∧l=BS ks k r:=by
 simp only[js3,List.mem_cons,List.not_mem_nil,or_false] at h;rcases h with h|h|h
 ·exact⟨0,by omega,h⟩
 ·exact⟨1,by omega,h⟩
 ·exact⟨2,by omega,h⟩
theorem NP {ks:List Nat}{k r p:Nat}(h:some p∈BS ks k r):P2 p:=by
 unfold BS at h;obtain⟨i,_,e⟩:=List.mem_map.1 h;exact Fs e
theorem jobs3_all {ks:List Nat}{k:Nat}(hk:k≤15):∀l∈jobs3 ks k,l.length≤6∧∀p∈l,JobFine p:=by
 intro l hl;unfold jobs3 at hl;obtain⟨m,hm,rfl⟩:=List.mem_map.1 hl;obtain⟨r,hr,rfl⟩:=Gg hm;refine⟨by rw[List.length_map];exact Dh ks hk hr,fun p hp=>?_⟩
 obtain⟨q,hq,rfl⟩:=List.mem_map.1 hp;unfold BS at hq;obtain⟨i,_,rfl⟩:=List.mem_map.1 hq;exact PX _
structure WyInv (M:PMc):Prop where
 fine:McFine M
 past:PastOk M
 inv:∃s H C ks,RS s∧(∀i p,some p∈ks i→P2 p)∧MI s M H C ks
 len:M.thr.length=3
theorem WyInv.pick {M:PMc}(h:WyInv M)(hp:M.picks≤1000000)(i d:Nat):WyInv (M.pick i d):=by
 have hf:=h.fine.pick i d;obtain⟨s,H,C,ks,h1,h2,h3⟩:=h.inv;obtain⟨H',C',h4⟩:=Rx h1 h2 h3 hp i d;refine⟨hf,h.past.pick h.fine i d,⟨s,H',C',ks,h1,h2,h4⟩,?_⟩
 have:=h4.threads
 have:=h3.threads
 have:=h.len
 omega
theorem WyInv.new (r:PSt)(hw:4≤r.writes)(hf:20≤r.fuel)(hst:r.start≤1000)(ks:List Nat){k:Nat}(hk:k≤15):WyInv (PMc.new r (jobs3 ks k)):=by
 obtain⟨h1,h2⟩:=Ti r (js3 ks k) hw hf hst (by simp[js3]) fun l hl=>by
  obtain⟨q,hq,rfl⟩:=Gg hl;exact Dh ks hk hq
 refine⟨McFine.new r _ fun l hl p hp=>(jobs3_all hk l hl).2 p hp,PastOk.new r _,⟨_,_,_,_,h2,fun i p hp=>?_,h1⟩,?_⟩
 ·rw[gD] at hp;cases e:(js3 ks k)[i]? with
  |none=>rw[e] at hp;cases hp
  |some l =>
   rw[e] at hp;obtain⟨q,_,rfl⟩:=Gg (List.mem_of_getElem? e);exact NP hp
 ·show(List.map _ (List.range (max 1 (min ((jobs3 ks k).take 4).length 4)))).length=3
  simp[jobs3,js3]
theorem new_word (r:PSt)(L:List (List (List PIns))){p:Nat}(hp:P2 p):(PMc.new r L).mem.words.getD p 0=0∧32≤(PMc.new r L).mem.words.length∧(PMc.new r L).mem.words.length≤256:=by
 refine⟨?_,?_⟩
 ·show(freshW _).getD p 0=0
  unfold freshW;rw[gD,List.getElem?_set_ne (by rcases hp with rfl|rfl<;>decide),List.getElem?_replicate]
  split<;>rfl
 ·show 32≤(freshW _).length∧(freshW _).length≤256
  unfold freshW;rw[List.length_set,List.length_replicate];omega
theorem WyInv.way {M:PMc}(h:WyInv M){ts:List PTo}(hts:M.attempts=ts){i j:Nat}(hi:i<ts.length)(hj:(orderP ts ts.length)[i]?=some j){V W:List Nat}(hV:∀p,P2 p→V.getD p 0=(((orderP ts ts.length).take i).map (at_ ts)).foldl (stepP p) (W.getD p 0))(hW:∀p,P2 p→W.getD p 0=0):wayOk (V.getD 8 0) (V.getD 13 0) (at_ ts j)=true:=by
 obtain⟨s,H,C,ks,_,_,h1⟩:=h.inv;have h2:=OP h1 hts hi;rw[gD,hj] at h2;rw[hV 8 (.inl rfl),hV 13 (.inr rfl),hW 8 (.inl rfl),hW 13 (.inr rfl)];exact h2
theorem WyInv.short {M:PMc}(h:WyInv M):∀T∈M.attempts,ToShort T:=by
 intro T hT;obtain⟨t,ht,hT⟩:=List.mem_flatMap.1 hT;obtain⟨i,hi,e⟩:=List.getElem_of_mem ht;have hti:M.thr[i]?=some t:=by rw[List.getElem?_eq_getElem hi,e]
 unfold PTh.attempts at hT;rcases List.mem_append.1 hT with hT|hT
 ·exact h.past.all i t hti T hT
 ·split at hT
  ·split at hT
   ·rename_i x hx;split at hT
    ·rw[List.mem_singleton.1 hT];exact Cm ((h.fine.thr i t hti).1.now x hx) _ _
    ·cases hT
   ·cases hT
  ·cases hT
end Wy
theorem MZ (ω w:World)(F:HP)(h:Sat ω w F):Calls prog 21 #[.int .i64 8,.int .i64 13] w (ProgNew ω F Wy.takesP):=by
 have HN:=h_ (fun(o:Obj)=>Ed h Wy.takesP (by decide) o #[.int .i64 17,.int .i64 0,.int .i64 0,.int .i64 0,.int .u64 0,.int .i64 8,.int .i64 0,.int .i64 7,.int .i64 8,.int .u64 0,.int .i64 1,.int .i64 1,.int .i64 0,.int .i64 0,.int .u64 1,.int .i64 9,.int .i64 7,.int .i64 6,.int .i64 8,.int .u64 0,.int .i64 13,.int .i64 0,.int .i64 0,.int .i64 6,.int .u64 0,.int .i64 12,.int .i64 0,.int .i64 0,.int .i64 7,.int .u64 0,.int .i64 20,.int .i64 0,.int .i64 0,.int .i64 0,.int .u64 0,.int .i64 18,.int .i64 0,.int .i64 0,.int .i64 0,.int .u64 0,.int .i64 8,.int .i64 0,.int .i64 7,.int .i64 13,.int .u64 0,.int .i64 1,.int .i64 1,.int .i64 0,.int .i64 0,.int .u64 2,.int .i64 9,.int .i64 7,.int .i64 6,.int .i64 13,.int .u64 0,.int .i64 13,.int .i64 0,.int .i64 0,.int .i64 13,.int .u64 0,.int .i64 12,.int .i64 0,.int .i64 0,.int .i64 14,.int .u64 0,.int .i64 20,.int .i64 0,.int .i64 0,.int .i64 0,.int .u64 0,.int .i64 19,.int .i64 0,.int .i64 0,.int .i64 0,.int .u64 0,.int .i64 21,.int .i64 1,.int .i64 0,.int .i64 0,.int .u64 0] rfl)
 clear h;go_enter func21,ntmps21;go_wp2;refine bodyPost_ret (v:=.agg #[.slice (some ⟨w.heap.size+1,0,none⟩) 16 16]) (by simp[results,results21,go_sem]) rfl ⟨w.heap.size+1,rfl,HN.o _⟩
theorem PB (ω w:World)(F:HP)(h:Sat ω w F)(p:Nat):Calls prog 22 #[p] w (ProgNew ω F (Wy.putsP p)):=by
 have HN:=h_ (fun(o:Obj)=>Ed h (Wy.putsP p) (by simp[Wy.putsP]) o #[ι 1,ι 0,ι 0,ι 0,υ 1,ι 9,ι 7,ι 0,p,υ 0] rfl)
 clear h;go_enter func22,ntmps22;go_wp2;refine bodyPost_ret (v:=.agg #[.slice (some ⟨w.heap.size+1,0,none⟩) 2 2]) (by simp[results,results22,go_sem]) rfl ⟨w.heap.size+1,rfl,HN.o _⟩
theorem Tf (M:PMc)(i d:Nat):(M.pick i d).s=M.s:=by
 unfold PMc.pick;split
 ·rfl
 ·simp only;split
  ·rfl
  ·split<;>rfl
theorem Ee (M:PMc)(i d:Nat):(M.pick i d).picks≤M.picks+1:=by
 unfold PMc.pick;split
 ·omega
 ·simp only;split
  ·exact Nat.le_refl _
  ·split<;>exact Nat.le_refl _
theorem Ce (M:PMc)(h:McFine M)(hp:PastOk M):∀n,McFine (pickN n M)∧PastOk (pickN n M)∧(pickN n M).picks≤M.picks+n∧(pickN n M).s=M.s
 |0=>⟨h,hp,Nat.le_refl _,rfl⟩
 |n+1=>by
  obtain⟨h1,h2,h3,h4⟩:=Ce M h hp n;refine⟨h1.pick 0 0,h2.pick h1 0 0,?_,?_⟩
  ·have:=Ee (pickN n M) 0 0
   show((pickN n M).pick 0 0).picks≤_
   omega
  ·show((pickN n M).pick 0 0).s=_
   rw[Tf,h4]
theorem Bh:McFine awakeM∧PastOk awakeM:=by
 refine⟨McFine.new _ _ fun l hl p hp=>?_,PastOk.new _ _⟩
 simp only[List.mem_singleton] at hl;subst hl;simp only[List.mem_singleton] at hp;subst hp;exact OJ
theorem JK:∃t r,(pickN 40 awakeM).mem.words.length=40∧(pickN 40 awakeM).mem.words.getD 6 0=1∧(pickN 40 awakeM).thr=[t]∧t.state=6∧t.attempts.length=1∧t.results=[r]∧r.slate=[49]:=by
 have h:=JJ;generalize pickN 40 awakeM=M at *
 unfold awakeB at h;simp only[Bool.and_eq_true,beq_iff_eq] at h;obtain⟨h1,h2,h3⟩:=h;split at h3
 ·rename_i t ht;simp only[Bool.and_eq_true,beq_iff_eq] at h3;obtain⟨h4,h5,h6⟩:=h3;split at h6
  ·rename_i r hr;exact⟨t,r,h1,h2,ht,h4,h5,hr,by simpa using h6⟩
  ·cases h6
 ·cases h3
theorem Sat.rowCellN {ω w:World}{F:HP}{e:TypeId}{s n c:Nat}{A:Option Addr}{xs:List Value}(h:Sat ω w (row e s (.slice A n c) n xs*F)){i:Nat}{v:Value}(hv:xs[i]?=some v):
  ∃g,A=some ⟨g,0,none⟩∧g<w.heap.size∧w.cell? (κ g i)=some v:=by
 rcases h.cases with⟨h1,h2,h3,_⟩|⟨g,cap,cur,h2,h3,h4,h5,h6,h7,h8⟩
 ·subst h3;simp at hv
 ·injection h2 with h2 _ _
  refine⟨g,h2,h8.blk.lt,?_⟩;have hi:i<n*s:=by
   have:=(List.getElem?_eq_some_iff.1 hv).1
   omega
  rw[h8.blk.cell,←hv,←h6,List.getElem?_take,if_pos hi];simp
theorem OC [Inhabited PowO](ω w:World)(F:HP)(h:Sat ω w (powH*F)):Calls prog 8 #[] w fun e w'=>e=.returned (.bool true)∧Sat ω w' (powH*F):=by
 have HAD:=h_ (RR ω w (powH*F) h);have HNW:Hid (∀w1 (g:Nat),Sat ω w1 (prH (some ⟨g,0,none⟩) 5 (addsP 6)*(powH*F))→Calls prog 10 #[.agg #[ι 40,ι 4,ι 0,ι 0,υ 0,ι 0,ι 9,ι 20],.slice (some ⟨w1.heap.size+1,0,none⟩) 1 1] ((w1.alloc (.cells #[.slice (some ⟨g,0,none⟩) 5 5] 32)).alloc (.cells #[.slice (some ⟨w1.heap.size,0,none⟩) 1 1] 29)) fun e w'=>∃b,e=.returned (.pointer (some ⟨b,0,none⟩))∧Sat ω w' (mcH b awakeM*(powH*F))):=h_ (fun w1 g h1=>by
  have h2:=(h1.new #[.slice (some ⟨g,0,none⟩) 5 5] 32);have h3:=h2.new #[.slice (some ⟨w1.heap.size,0,none⟩) 1 1] 29;rw[World.size_alloc] at h3;have h4:=(h3.swap.rowOf (n:=1) (size:=1) rfl (by unfold maxLen;omega)).swap
  have h5:=h4.rowOf (n:=1) (size:=1) rfl (by unfold maxLen;omega)
  generalize ((w1.alloc (.cells #[.slice (some ⟨g,0,none⟩) 5 5] 32)).alloc (.cells #[.slice (some ⟨w1.heap.size,0,none⟩) 1 1] 29))=W2 at h5 ⊢;have h6:Sat ω W2 (jjX (some ⟨w1.heap.size+1,0,none⟩) 1 [(some ⟨w1.heap.size,0,none⟩,1)] [[addsP 6]]*(powH*F)):=by
   unfold jjX;have h7:Sat ω W2 (fact (([(some ⟨g,0,none⟩,5)]:List (Option Addr×Nat)).length=[addsP 6].length)*_):=h5.to_fact rfl;have h8:Sat ω W2 (jobsH (some ⟨w1.heap.size,0,none⟩) 1 [addsP 6]*(row 29 1 (.slice (some ⟨w1.heap.size+1,0,none⟩) 1 1) 1 [.slice (some ⟨w1.heap.size,0,none⟩) 1 1]*(powH*F))):=by
    refine Sat.to_ex [(some ⟨g,0,none⟩,5)] ?_;refine h7.perm ?_;show fact _*(row 29 1 (.slice (some ⟨w1.heap.size+1,0,none⟩) 1 1) 1 [.slice (some ⟨w1.heap.size,0,none⟩) 1 1]*(row 32 1 (.slice (some ⟨w1.heap.size,0,none⟩) 1 1) 1 [.slice (some ⟨g,0,none⟩) 5 5]*(prH (some ⟨g,0,none⟩) 5 (addsP 6)*(powH*F))))=(fact _*(row 32 1 (.slice (some ⟨w1.heap.size,0,none⟩) 1 1) 1 [.slice (some ⟨g,0,none⟩) 5 5]*(prH (some ⟨g,0,none⟩) 5 (addsP 6)*emp)))*_
    rw[Ac];ac_rfl
   refine h8.perm ?_;show _=(row 29 1 (.slice (some ⟨w1.heap.size+1,0,none⟩) 1 1) 1 [.slice (some ⟨w1.heap.size,0,none⟩) 1 1]*(jobsH (some ⟨w1.heap.size,0,none⟩) 1 [addsP 6]*emp))*_
   rw[Ac];ac_rfl
  have h9:=PQ ω W2 (powH*F) ⟨40,4,0,0,0,0,9,20⟩ (some ⟨w1.heap.size+1,0,none⟩) 1 1 [[addsP 6]] rfl (by omega) (by
   intro l hl;simp only[List.mem_singleton] at hl;subst hl;refine⟨by simp,fun p hp=>?_⟩
   simp only[List.mem_singleton] at hp;subst hp;exact⟨by simp[addsP],GE⟩) [(some ⟨w1.heap.size,0,none⟩,1)] rfl h6
  refine h9.mono ?_;rintro e w2 ⟨b,rfl,h10⟩;exact⟨b,rfl,h10.swap.right⟩)
 have HPI:Hid (∀k b w1,k<40→Sat ω w1 (mcH b (pickN k awakeM)*(powH*F))→Calls prog 13 #[.pointer (some ⟨b,0,none⟩),ι 0,.int .u8 0] w1 fun e w'=>e=.returned (ι 0)∧Sat ω w' (mcH b (pickN (k+1) awakeM)*(powH*F))):=h_ (fun k b w1 hk h1=>by
  obtain⟨f1,f2,f3,f4⟩:=Ce awakeM Bh.1 Bh.2 k;have hthr:(pickN k awakeM).thr.length=1:=by rw[f1.len,f4];rfl
  have hpk:awakeM.picks=0:=rfl;refine(Le ω w1 F b (pickN k awakeM) f1 (by omega) 0 0 (by omega) (by omega) h1).mono ?_
  rintro e w2 ⟨rfl,h2⟩;exact⟨rfl,h2⟩)
 have HFC:Hid (∀b w1,Sat ω w1 (mcH b (pickN 40 awakeM)*(powH*F))→Calls prog 18 #[.pointer (some ⟨b,0,none⟩)] w1 fun e w2=>∃A c,e=.returned (.slice A 40 c)∧Hid (Calls prog 19 #[.pointer b,ι 0] w2 fun e w3=>∃g g2 c2,e=.returned (.slice (some ⟨g2,0,none⟩) 1 c2)∧A=some ⟨g,0,none⟩∧g<w3.heap.size∧g2<w3.heap.size∧w3.cell? (κ g 6)=some (.int .u64 1)∧w3.cell? (κ g2 2)=some (.string ⟨#[49]⟩)∧Hid (Calls prog 30 #[.pointer b] w3 fun e w4=>e=.returned (.bool true)∧w4=w3)∧Hid (Calls prog 15 #[.pointer b] w3 fun e w4=>∃A c,e=.returned (.slice A 1 c)∧Sat ω w4 (powH*F)))):=h_ (fun b w1 h1=>by
  obtain⟨f1,f2,f3,f4⟩:=Ce awakeM Bh.1 Bh.2 40;have hpk:awakeM.picks=0:=rfl;obtain⟨t,r,a1,a2,a3,a4,a5,a6,a7⟩:=JK;generalize pickN 40 awakeM=M at *
  refine(IR ω w1 (powH*F) b M h1 f1).mono ?_;rintro e w2 ⟨A,c,rfl,h2⟩;refine⟨A,c,by rw[a1],h_ ?_⟩
  have h3:=h2.perm (by ac_rfl:_=mcH b M*(row 22 1 (.slice A M.mem.words.length c) M.mem.words.length (vU M.mem.words)*(powH*F)))
  refine(KJ ω w2 _ b M h3 0 t (by rw[a3];rfl) (by rw[a6];simp)).mono ?_
  rintro e w3 ⟨A2,c2,rfl,h4⟩;have h5:=h4.perm (by ac_rfl:_=row 22 1 (.slice A M.mem.words.length c) M.mem.words.length (vU M.mem.words)*(row 66 4 (.slice A2 t.results.length c2) t.results.length (t.results.flatMap reV)*(mcH b M*(powH*F))))
  obtain⟨g,eA,hg,hc⟩:=h5.rowCell (i:=6) (v:=.int .u64 1) (by
   have h9:=@Db M.mem.words 6 (by omega)
   rw[a2] at h9;simpa using h9)
  obtain⟨g2,eA2,hg2,hc2⟩:=h4.rowCellN (i:=2) (v:=.string ⟨#[49]⟩) (by rw[a6];simp[reV,a7])
  subst eA2;have hat:M.attempts.length=1:=by unfold PMc.attempts;rw[a3];simpa using a5
  have hre:M.rests=true:=by unfold PMc.rests;rw[a3];simp[a4]
  refine⟨g,g2,c2,by rw[a6];rfl,eA,hg,hg2,hc,hc2,h_ ?_,h_ ?_⟩
  ·have h6:=PO ω w3 _ b M (h4.perm (by ac_rfl:_=mcH b M*(row 66 4 (.slice (some ⟨g2,0,none⟩) t.results.length c2) t.results.length (t.results.flatMap reV)*(row 22 1 (.slice A M.mem.words.length c) M.mem.words.length (vU M.mem.words)*(powH*F))))) (by rw[a3];simp)
   rw[hre] at h6;exact h6
  ·refine(Dg ω w3 (row 66 4 (.slice (some ⟨g2,0,none⟩) t.results.length c2) t.results.length (t.results.flatMap reV)*(row 22 1 (.slice A M.mem.words.length c) M.mem.words.length (vU M.mem.words)*F)) b M f1 f2 (by omega) (h4.perm (by ac_rfl))).mono ?_
   rintro e w4 ⟨A4,c4,rfl,qs,hq,h7⟩;refine⟨A4,c4,by rw[hat],?_⟩
   exact(h7.right.right.right.perm (by ac_rfl:_=row 66 4 (.slice (some ⟨g2,0,none⟩) t.results.length c2) t.results.length (t.results.flatMap reV)*(row 22 1 (.slice A M.mem.words.length c) M.mem.words.length (vU M.mem.words)*(powH*F)))).right.right)
 have HA0:Hid (∀b w1,Sat ω w1 (mcH b awakeM*(powH*F))→Sat ω w1 (mcH b (pickN 0 awakeM)*(powH*F))):=h_ (fun b w1 h1=>h1)
 clear h;go_enter func8,ntmps8;go_wp2_with (first
  |(go_at_call 16;refine(HAD.o).mono ?_;rintro e w1 ⟨g,rfl,h1⟩;have H1:=h_ (HNW.o w1 g h1);clear h1)
  |(go_at_call 10;refine(H1.o).mono ?_;rintro e w2 ⟨b,rfl,h2⟩;have H2:=h_ (HA0.o b w2 h2);clear h2))
 go_loopw [2] (fun c wr=>∃k:Nat,k≤40∧c=.int .i64 k∧Hid (Sat ω wr (mcH b (pickN k awakeM)*(powH*F)))) (fun c _=>40-(intOf c).toNat)
 case atStart=>exact⟨0,by omega,rfl,H2⟩
 case round =>
  obtain⟨k,hk,rfl,HK⟩:=hrel;by_cases hlt:k<40
  ·have HP:=h_ (HPI.o k b _ hlt HK.o);go_wp2_with (go_at_call 13;refine(HP.o).mono ?_;rintro e w3 ⟨rfl,h3⟩;have H3:=h_ h3;clear h3);exact⟨⟨k+1,by omega,by go_num,H3⟩,by simp[intOf];omega⟩
  ·obtain rfl:k=40:=by omega
   have HW:=h_ (HFC.o b _ HK.o);go_wp2_with (first
    |(go_at_call 18;refine(HW.o).mono ?_;rintro e w4 ⟨A,c,rfl,HR⟩)
    |(go_at_call 19;refine(HR.o).mono ?_;rintro e w5 ⟨g,g2,c2,rfl,rfl,kl,kl2,k6,k2,HS,HT⟩)
    |(go_at_call 30;refine(HS.o).mono ?_;rintro e w6 ⟨rfl,rfl⟩)
    |(go_at_call 15;refine(HT.o).mono ?_;rintro e w7 ⟨A7,c7,rfl,h7⟩;have H7:=h_ h7;clear h7))
   go_ret;exact⟨rfl,H7.o⟩
def SuS (N:Nat)(CS:Array Value)(w:World):Prop:=Blk w N 24 CS
theorem Mc {N:Nat}{c0 c1 c2 c3 c4 c5 c6:Value}{w:World}(h:SuS N #[c0,c1,c2,c3,c4,c5,c6] w):N<w.heap.size∧(∀k,w.frozen? (κ N k)=false)∧w.cell? N=some c0∧w.cell? (κ N 1)=some c1∧w.cell? (κ N 2)=some c2∧w.cell? (κ N 3)=some c3∧w.cell? (κ N 4)=some c4∧w.cell? (κ N 5)=some c5∧w.cell? (κ N 6)=some c6:=⟨h.lt,h.frozen,h.cell 0,h.cell 1,h.cell 2,h.cell 3,h.cell 4,h.cell 5,h.cell 6⟩
theorem Ot (ω w:World)(F:HP)(h:Sat ω w F)(a0 a1 a2 a3 a4 a5:Int)(a6:Nat):
  Calls prog 11 #[.agg #[a0,a1,a2,a3,a4,a5,υ a6]] w fun e w'=>∃r:PSt,e=.returned (.agg r)∧Hid (4≤r.writes∧20≤r.fuel∧r.start≤1000)∧Sat ω w' F:=by
 obtain⟨N,hN⟩:∃N,w.heap.size=N:=⟨_,rfl⟩;have HX:Hid (∀o,Sat ω ((w.alloc (.cells #[a0,a1,a2,a3,a4,a5,υ a6] 24)).alloc o) (bk N 24 #[a0,a1,a2,a3,a4,a5,υ a6]*F)):=h_ (fun o=>by rw[←hN];exact(h.new _ _).junk o)
 have HW:Hid (∀(w1:World) (n:Int) (lo hi:Nat),lo≤hi→hi≤1000→Calls prog 28 #[n,lo,hi] w1 fun e w'=>∃r:Nat,Hid (lo≤r)∧e=.returned r∧w1=w'):=h_ (fun w1 n lo hi b1 b2=>by
  refine(CV w1 n lo hi b1 b2).mono ?_;rintro e w2 ⟨r,r1,r2,rfl,rfl⟩;exact⟨r,h_ r1,rfl,rfl⟩)
 have HG:Hid ((a6:Int).tmod 1000=((a6%1000:Nat):Int)):=h_ (Int.ofNat_tmod a6 1000).symm;clear h;go_enter func11,ntmps11;have HS0:SuS N #[a0,a1,a2,a3,a4,a5,υ a6] (((w.alloc (.cells #[a0,a1,a2,a3,a4,a5,υ a6] 24)).alloc (.cells #[ι 0,ι 0,ι 0,ι 0,υ 0,ι 0,ι 0,ι 0] 39)).drew):=(HX.o _).blk;go_wp2;refine gN (SuS N #[a0,a1,a2,a3,a4,a5,υ a6]) HS0 fun hh0=>?_
 refine tH 0 ?_ rfl ?_ (tH 3 ?_ rfl ?_ (tH 6 ?_ rfl ?_ (tH 1 ?_ rfl ?_ (tH 4 ?_ rfl ?_ (tH 7 ?_ rfl ?_ ?_)))));all_goals (try (
  intro w hSw;obtain⟨jl,jf,j0,j1,j2,j3,j4,j5,j6⟩:=Mc hSw;try simp only[sP]
  go_simp<;>(try with_reducible rfl)))
 try simp only[sP]
 refine rH [2,10] ?_;refine cH rfl (fun K hK=>?_) ?_
 ·go_simp;go_at_call 28;refine(HW.o _ _ 0 4 (by omega) (by omega)).mono ?_;rintro e wA ⟨x2,b2,rfl,rfl⟩
  (try go_wp2_with fail);refine hK.q ?_ fun hh1=>?_
  ·exact HS0
  clear hK K hh0;try simp only[sP]
  refine rH [5,10] ?_;refine cH rfl (fun K hK=>?_) ?_
  ·go_simp;go_at_call 28;refine(HW.o _ _ 4 40 (by omega) (by omega)).mono ?_;rintro e wA ⟨x5,b5,rfl,rfl⟩
   (try go_wp2_with fail);refine hK.q ?_ fun hh2=>?_
   ·exact HS0
   clear hK K hh1;try simp only[sP]
   refine rH [8,10] ?_;refine cH rfl (fun K hK=>?_) ?_
   ·go_simp;go_at_call 28;refine(HW.o _ _ 20 120 (by omega) (by omega)).mono ?_;rintro e wA ⟨x8,b8,rfl,rfl⟩
    (try go_wp2_with fail);refine hK.q ?_ fun hh3=>?_
    ·exact HS0
    clear hK K hh2;try simp only[sP]
    refine tH 9 ?_ rfl ?_ ?_;all_goals (try (
     intro w hSw;obtain⟨jl,jf,j0,j1,j2,j3,j4,j5,j6⟩:=Mc hSw;go_simp<;>(try with_reducible rfl)))
    try simp only[sP]
    refine oH 10 rfl fun K hK=>?_
    go_simp;(try go_wp2_with fail);refine hK.q ?_ fun hh4=>?_
    ·exact HS0.alloc _
    clear hK K hh3;try simp only[sP]
    refine oH 11 rfl fun K hK=>?_
    go_simp;(try go_wp2_with fail);refine hK.q ?_ fun hh5=>?_
    ·exact Blk.drew (Blk.alloc (HX.o _).blk _)
    clear hK K hh4;try simp only[sP]
    refine dN ?_;go_wp2;refine wp_region_noPanic ?_;refine wp_region_held_drew (S:=SuS N #[a0,a1,a2,a3,a4,a5,υ a6]) (by kernel_rfl) (by exact Blk.alloc (HX.o _).blk _) (fun hh0=>?_)
    refine tH 0 ?_ rfl ?_ (tH 1 ?_ rfl ?_ (tH 3 ?_ rfl ?_ (tH 4 ?_ rfl ?_ (tH 6 ?_ rfl ?_ (tH 7 ?_ rfl ?_ (tH 9 ?_ rfl ?_ (tH 10 ?_ rfl ?_ (tH 11 ?_ rfl ?_ ?_))))))));all_goals (try (
     intro w hSw;obtain⟨jl,jf,j0,j1,j2,j3,j4,j5,j6⟩:=Mc hSw;try simp only[sP]
     go_simp<;>(try with_reducible rfl)))
    try simp only[sP]
    refine oH 2 rfl fun K hK=>?_
    go_simp;go_at_call 28;refine(HW.o _ _ 32 80 (by omega) (by omega)).mono ?_;rintro e wA ⟨y2,_,rfl,rfl⟩
    (try go_wp2_with fail);refine hK.q ?_ fun hh1=>?_
    ·exact Blk.alloc (HX.o _).blk _
    clear hK K hh0;try simp only[sP]
    refine oH 5 rfl fun K hK=>?_
    go_simp;go_at_call 28;refine(HW.o _ _ 1 16 (by omega) (by omega)).mono ?_;rintro e wA ⟨y5,_,rfl,rfl⟩
    (try go_wp2_with fail);refine hK.q ?_ fun hh2=>?_
    ·exact Blk.alloc (HX.o _).blk _
    clear hK K hh1;try simp only[sP]
    refine oH 8 rfl fun K hK=>?_
    go_simp;go_at_call 28;refine(HW.o _ _ 1 4 (by omega) (by omega)).mono ?_;rintro e wA ⟨y8,_,rfl,rfl⟩
    (try go_wp2_with fail);refine hK.q ?_ fun hh3=>?_
    ·exact Blk.alloc (HX.o _).blk _
    clear hK K hh2;try simp only[sP]
    refine tH 12 ?_ rfl ?_ (tH 13 ?_ rfl ?_ ?_);all_goals (try (
     intro w hSw;obtain⟨jl,jf,j0,j1,j2,j3,j4,j5,j6⟩:=Mc hSw;try simp only[sP]
     go_simp<;>(try with_reducible rfl)))
    try simp only[sP]
    refine oH 14 rfl fun K hK=>?_
    go_simp;(try go_wp2_with fail);refine hK.q ?_ fun hh4=>?_
    ·exact Blk.alloc (HX.o _).blk _
    clear hK K hh3;try simp only[sP]
    refine dN ?_;go_wp2;have hg:=HG.o;try rw[hg]
    try simp only[hg]
    subst hN;refine bodyPost_ret (v:=.agg #[y2,y5,y8,ι 0,υ (a6%1000:Nat),x2,x5,x8]) (by simp[results,results11,go_sem]) rfl ⟨{words:=y2,stripes:=y5,wide:=y8,threads:=0,start:=a6%1000,spins:=x2,writes:=x5,fuel:=x8},rfl,h_ ⟨Nat.le_trans (by decide) b5.out,Nat.le_trans (by decide) b8.out,Nat.le_of_lt (Nat.lt_of_lt_of_le (Nat.mod_lt _ (by decide)) (by decide))⟩,?_⟩
    exact((HX.o _).right.junk _).drewN 2
   refine nH rfl fun K hK=>?_
   ·go_simp;(try go_wp2_with fail);refine hK.q ?_ fun hh3=>?_
    ·exact HS0.alloc _
    clear hK K hh2;try simp only[sP]
    refine oH 8 rfl fun K hK=>?_
    go_simp;go_at_call 28;refine(HW.o _ _ 20 120 (by omega) (by omega)).mono ?_;rintro e wA ⟨x8,b8,rfl,rfl⟩
    (try go_wp2_with fail);refine hK.q ?_ fun hh4=>?_
    ·exact HS0.alloc _
    clear hK K hh3;try simp only[sP]
    refine tH 9 ?_ rfl ?_ ?_;all_goals (try (
     intro w hSw;obtain⟨jl,jf,j0,j1,j2,j3,j4,j5,j6⟩:=Mc hSw;go_simp<;>(try with_reducible rfl)))
    try simp only[sP]
    refine oH 11 rfl fun K hK=>?_
    go_simp;(try go_wp2_with fail);refine hK.q ?_ fun hh5=>?_
    ·exact Blk.drew (Blk.alloc (HX.o _).blk _)
    clear hK K hh4;try simp only[sP]
    refine dN ?_;go_wp2;refine wp_region_noPanic ?_;refine wp_region_held_drew (S:=SuS N #[a0,a1,a2,a3,a4,a5,υ a6]) (by kernel_rfl) (by exact Blk.alloc (HX.o _).blk _) (fun hh0=>?_)
    refine tH 0 ?_ rfl ?_ (tH 1 ?_ rfl ?_ (tH 3 ?_ rfl ?_ (tH 4 ?_ rfl ?_ (tH 6 ?_ rfl ?_ (tH 7 ?_ rfl ?_ (tH 9 ?_ rfl ?_ (tH 10 ?_ rfl ?_ (tH 11 ?_ rfl ?_ ?_))))))));all_goals (try (
     intro w hSw;obtain⟨jl,jf,j0,j1,j2,j3,j4,j5,j6⟩:=Mc hSw;try simp only[sP]
     go_simp<;>(try with_reducible rfl)))
    try simp only[sP]
    refine oH 2 rfl fun K hK=>?_
    go_simp;go_at_call 28;refine(HW.o _ _ 32 80 (by omega) (by omega)).mono ?_;rintro e wA ⟨y2,_,rfl,rfl⟩
    (try go_wp2_with fail);refine hK.q ?_ fun hh1=>?_
    ·exact Blk.alloc (HX.o _).blk _
    clear hK K hh0;try simp only[sP]
    refine oH 5 rfl fun K hK=>?_
    go_simp;go_at_call 28;refine(HW.o _ _ 1 16 (by omega) (by omega)).mono ?_;rintro e wA ⟨y5,_,rfl,rfl⟩
    (try go_wp2_with fail);refine hK.q ?_ fun hh2=>?_
    ·exact Blk.alloc (HX.o _).blk _
    clear hK K hh1;try simp only[sP]
    refine oH 8 rfl fun K hK=>?_
    go_simp;go_at_call 28;refine(HW.o _ _ 1 4 (by omega) (by omega)).mono ?_;rintro e wA ⟨y8,_,rfl,rfl⟩
    (try go_wp2_with fail);refine hK.q ?_ fun hh3=>?_
    ·exact Blk.alloc (HX.o _).blk _
    clear hK K hh2;try simp only[sP]
    refine tH 12 ?_ rfl ?_ (tH 13 ?_ rfl ?_ ?_);all_goals (try (
     intro w hSw;obtain⟨jl,jf,j0,j1,j2,j3,j4,j5,j6⟩:=Mc hSw;try simp only[sP]
     go_simp<;>(try with_reducible rfl)))
    try simp only[sP]
    refine oH 14 rfl fun K hK=>?_
    go_simp;(try go_wp2_with fail);refine hK.q ?_ fun hh4=>?_
    ·exact Blk.alloc (HX.o _).blk _
    clear hK K hh3;try simp only[sP]
    refine dN ?_;go_wp2;have hg:=HG.o;try rw[hg]
    try simp only[hg]
    subst hN;refine bodyPost_ret (v:=.agg #[y2,y5,y8,ι 0,υ (a6%1000:Nat),x2,x5,x8]) (by simp[results,results11,go_sem]) rfl ⟨{words:=y2,stripes:=y5,wide:=y8,threads:=0,start:=a6%1000,spins:=x2,writes:=x5,fuel:=x8},rfl,h_ ⟨Nat.le_trans (by decide) b5.out,Nat.le_trans (by decide) b8.out,Nat.le_of_lt (Nat.lt_of_lt_of_le (Nat.mod_lt _ (by decide)) (by decide))⟩,?_⟩
    exact((HX.o _).right.junk _).drewN 2
  refine nH rfl fun K hK=>?_
  ·go_simp;(try go_wp2_with fail);refine hK.q ?_ fun hh2=>?_
   ·exact HS0.alloc _
   clear hK K hh1;try simp only[sP]
   refine oH 5 rfl fun K hK=>?_
   go_simp;go_at_call 28;refine(HW.o _ _ 4 40 (by omega) (by omega)).mono ?_;rintro e wA ⟨x5,b5,rfl,rfl⟩
   (try go_wp2_with fail);refine hK.q ?_ fun hh3=>?_
   ·exact HS0.alloc _
   clear hK K hh2;try simp only[sP]
   refine oH 8 rfl fun K hK=>?_
   go_simp;go_at_call 28;refine(HW.o _ _ 20 120 (by omega) (by omega)).mono ?_;rintro e wA ⟨x8,b8,rfl,rfl⟩
   (try go_wp2_with fail);refine hK.q ?_ fun hh4=>?_
   ·exact HS0.alloc _
   clear hK K hh3;try simp only[sP]
   refine tH 9 ?_ rfl ?_ ?_;all_goals (try (
    intro w hSw;obtain⟨jl,jf,j0,j1,j2,j3,j4,j5,j6⟩:=Mc hSw;go_simp<;>(try with_reducible rfl)))
   try simp only[sP]
   refine oH 11 rfl fun K hK=>?_
   go_simp;(try go_wp2_with fail);refine hK.q ?_ fun hh5=>?_
   ·exact Blk.drew (Blk.alloc (HX.o _).blk _)
   clear hK K hh4;try simp only[sP]
   refine dN ?_;go_wp2;refine wp_region_noPanic ?_;refine wp_region_held_drew (S:=SuS N #[a0,a1,a2,a3,a4,a5,υ a6]) (by kernel_rfl) (by exact Blk.alloc (HX.o _).blk _) (fun hh0=>?_)
   refine tH 0 ?_ rfl ?_ (tH 1 ?_ rfl ?_ (tH 3 ?_ rfl ?_ (tH 4 ?_ rfl ?_ (tH 6 ?_ rfl ?_ (tH 7 ?_ rfl ?_ (tH 9 ?_ rfl ?_ (tH 10 ?_ rfl ?_ (tH 11 ?_ rfl ?_ ?_))))))));all_goals (try (
    intro w hSw;obtain⟨jl,jf,j0,j1,j2,j3,j4,j5,j6⟩:=Mc hSw;try simp only[sP]
    go_simp<;>(try with_reducible rfl)))
   try simp only[sP]
   refine oH 2 rfl fun K hK=>?_
   go_simp;go_at_call 28;refine(HW.o _ _ 32 80 (by omega) (by omega)).mono ?_;rintro e wA ⟨y2,_,rfl,rfl⟩
   (try go_wp2_with fail);refine hK.q ?_ fun hh1=>?_
   ·exact Blk.alloc (HX.o _).blk _
   clear hK K hh0;try simp only[sP]
   refine oH 5 rfl fun K hK=>?_
   go_simp;go_at_call 28;refine(HW.o _ _ 1 16 (by omega) (by omega)).mono ?_;rintro e wA ⟨y5,_,rfl,rfl⟩
   (try go_wp2_with fail);refine hK.q ?_ fun hh2=>?_
   ·exact Blk.alloc (HX.o _).blk _
   clear hK K hh1;try simp only[sP]
   refine oH 8 rfl fun K hK=>?_
   go_simp;go_at_call 28;refine(HW.o _ _ 1 4 (by omega) (by omega)).mono ?_;rintro e wA ⟨y8,_,rfl,rfl⟩
   (try go_wp2_with fail);refine hK.q ?_ fun hh3=>?_
   ·exact Blk.alloc (HX.o _).blk _
   clear hK K hh2;try simp only[sP]
   refine tH 12 ?_ rfl ?_ (tH 13 ?_ rfl ?_ ?_);all_goals (try (
    intro w hSw;obtain⟨jl,jf,j0,j1,j2,j3,j4,j5,j6⟩:=Mc hSw;try simp only[sP]
    go_simp<;>(try with_reducible rfl)))
   try simp only[sP]
   refine oH 14 rfl fun K hK=>?_
   go_simp;(try go_wp2_with fail);refine hK.q ?_ fun hh4=>?_
   ·exact Blk.alloc (HX.o _).blk _
   clear hK K hh3;try simp only[sP]
   refine dN ?_;go_wp2;have hg:=HG.o;try rw[hg]
   try simp only[hg]
   subst hN;refine bodyPost_ret (v:=.agg #[y2,y5,y8,ι 0,υ (a6%1000:Nat),x2,x5,x8]) (by simp[results,results11,go_sem]) rfl ⟨{words:=y2,stripes:=y5,wide:=y8,threads:=0,start:=a6%1000,spins:=x2,writes:=x5,fuel:=x8},rfl,h_ ⟨Nat.le_trans (by decide) b5.out,Nat.le_trans (by decide) b8.out,Nat.le_of_lt (Nat.lt_of_lt_of_le (Nat.mod_lt _ (by decide)) (by decide))⟩,?_⟩
   exact((HX.o _).right.junk _).drewN 2
 refine nH rfl fun K hK=>?_
 ·go_simp;(try go_wp2_with fail);refine hK.q ?_ fun hh1=>?_
  ·exact HS0.alloc _
  clear hK K hh0;try simp only[sP]
  refine oH 2 rfl fun K hK=>?_
  go_simp;go_at_call 28;refine(HW.o _ _ 0 4 (by omega) (by omega)).mono ?_;rintro e wA ⟨x2,b2,rfl,rfl⟩
  (try go_wp2_with fail);refine hK.q ?_ fun hh2=>?_
  ·exact HS0.alloc _
  clear hK K hh1;try simp only[sP]
  refine oH 5 rfl fun K hK=>?_
  go_simp;go_at_call 28;refine(HW.o _ _ 4 40 (by omega) (by omega)).mono ?_;rintro e wA ⟨x5,b5,rfl,rfl⟩
  (try go_wp2_with fail);refine hK.q ?_ fun hh3=>?_
  ·exact HS0.alloc _
  clear hK K hh2;try simp only[sP]
  refine oH 8 rfl fun K hK=>?_
  go_simp;go_at_call 28;refine(HW.o _ _ 20 120 (by omega) (by omega)).mono ?_;rintro e wA ⟨x8,b8,rfl,rfl⟩
  (try go_wp2_with fail);refine hK.q ?_ fun hh4=>?_
  ·exact HS0.alloc _
  clear hK K hh3;try simp only[sP]
  refine tH 9 ?_ rfl ?_ ?_;all_goals (try (
   intro w hSw;obtain⟨jl,jf,j0,j1,j2,j3,j4,j5,j6⟩:=Mc hSw;go_simp<;>(try with_reducible rfl)))
  try simp only[sP]
  refine oH 11 rfl fun K hK=>?_
  go_simp;(try go_wp2_with fail);refine hK.q ?_ fun hh5=>?_
  ·exact Blk.drew (Blk.alloc (HX.o _).blk _)
  clear hK K hh4;try simp only[sP]
  refine dN ?_;go_wp2;refine wp_region_noPanic ?_;refine wp_region_held_drew (S:=SuS N #[a0,a1,a2,a3,a4,a5,υ a6]) (by kernel_rfl) (by exact Blk.alloc (HX.o _).blk _) (fun hh0=>?_)
  refine tH 0 ?_ rfl ?_ (tH 1 ?_ rfl ?_ (tH 3 ?_ rfl ?_ (tH 4 ?_ rfl ?_ (tH 6 ?_ rfl ?_ (tH 7 ?_ rfl ?_ (tH 9 ?_ rfl ?_ (tH 10 ?_ rfl ?_ (tH 11 ?_ rfl ?_ ?_))))))));all_goals (try (
   intro w hSw;obtain⟨jl,jf,j0,j1,j2,j3,j4,j5,j6⟩:=Mc hSw;try simp only[sP]
   go_simp<;>(try with_reducible rfl)))
  try simp only[sP]
  refine oH 2 rfl fun K hK=>?_
  go_simp;go_at_call 28;refine(HW.o _ _ 32 80 (by omega) (by omega)).mono ?_;rintro e wA ⟨y2,_,rfl,rfl⟩
  (try go_wp2_with fail);refine hK.q ?_ fun hh1=>?_
  ·exact Blk.alloc (HX.o _).blk _
  clear hK K hh0;try simp only[sP]
  refine oH 5 rfl fun K hK=>?_
  go_simp;go_at_call 28;refine(HW.o _ _ 1 16 (by omega) (by omega)).mono ?_;rintro e wA ⟨y5,_,rfl,rfl⟩
  (try go_wp2_with fail);refine hK.q ?_ fun hh2=>?_
  ·exact Blk.alloc (HX.o _).blk _
  clear hK K hh1;try simp only[sP]
  refine oH 8 rfl fun K hK=>?_
  go_simp;go_at_call 28;refine(HW.o _ _ 1 4 (by omega) (by omega)).mono ?_;rintro e wA ⟨y8,_,rfl,rfl⟩
  (try go_wp2_with fail);refine hK.q ?_ fun hh3=>?_
  ·exact Blk.alloc (HX.o _).blk _
  clear hK K hh2;try simp only[sP]
  refine tH 12 ?_ rfl ?_ (tH 13 ?_ rfl ?_ ?_);all_goals (try (
   intro w hSw;obtain⟨jl,jf,j0,j1,j2,j3,j4,j5,j6⟩:=Mc hSw;try simp only[sP]
   go_simp<;>(try with_reducible rfl)))
  try simp only[sP]
  refine oH 14 rfl fun K hK=>?_
  go_simp;(try go_wp2_with fail);refine hK.q ?_ fun hh4=>?_
  ·exact Blk.alloc (HX.o _).blk _
  clear hK K hh3;try simp only[sP]
  refine dN ?_;go_wp2;have hg:=HG.o;try rw[hg]
  try simp only[hg]
  subst hN;refine bodyPost_ret (v:=.agg #[y2,y5,y8,ι 0,υ (a6%1000:Nat),x2,x5,x8]) (by simp[results,results11,go_sem]) rfl ⟨{words:=y2,stripes:=y5,wide:=y8,threads:=0,start:=a6%1000,spins:=x2,writes:=x5,fuel:=x8},rfl,h_ ⟨Nat.le_trans (by decide) b5.out,Nat.le_trans (by decide) b8.out,Nat.le_of_lt (Nat.lt_of_lt_of_le (Nat.mod_lt _ (by decide)) (by decide))⟩,?_⟩
  exact((HX.o _).right.junk _).drewN 2
theorem KY {ω w:World}{F:HP}{A:Option Addr}{c:Nat}{l:List (List PIns)}(h:Sat ω w (jobsH A c l*F)):∃xs R,Sat ω w (row 32 1 (.slice A l.length c) l.length xs*(R*F)) ∧
  ∀(w':World) (P:HP) A' c' g (p:List PIns),Sat ω w' (row 32 1 (.slice A' (l.length+1) c') (l.length+1) (xs++[.slice (some ⟨g,0,none⟩) p.length p.length])*(prH (some ⟨g,0,none⟩) p.length p*(R*P)))→Sat ω w' (jobsH A' c' (l++[p])*P):=by
 obtain⟨js,h⟩:=h.of_ex;obtain⟨hl,h2⟩:=h.assoc.of_fact;refine⟨jbV js l,jbAll js l,h2.assoc,fun w' P A' c' g p h3=>?_⟩
 obtain⟨e1,e2⟩:=Em (some ⟨g,0,none⟩) p.length p js l hl;have e3:(l++[p]).length=l.length+1:=by simp
 refine Sat.to_ex (js++[(some ⟨g,0,none⟩,p.length)]) ?_;refine(Sat.to_fact (by simp[hl]) (h3.perm ?_)).assoc'
 rw[e1,e2,e3];ac_rfl
def jx3 (J:Nat)(a0 a1 a2:Option Addr×Nat)(l0 l1 l2:List (List PIns)):HP:=bk J 29 #[.slice a0.1 l0.length a0.2,.slice a1.1 l1.length a1.2,.slice a2.1 l2.length a2.2]*(jobsH a0.1 a0.2 l0*(jobsH a1.1 a1.2 l1*jobsH a2.1 a2.2 l2))
theorem SL {ω w:World}{F:HP}(h:Sat ω w F):Sat ω (w.alloc (.cells #[.slice none 0 0,.slice none 0 0,.slice none 0 0] 29)) (jx3 w.heap.size (none,0) (none,0) (none,0) [] [] []*F):=by
 have h1:=(CH (CH (CH h))).new #[.slice none 0 0,.slice none 0 0,.slice none 0 0] 29;refine h1.perm ?_;show _=(_*(_*(_*_)))*_
 simp only[List.length_nil];ac_rfl
theorem Ft:∀(vs:List (Option Addr×Nat)) (L:List (List (List PIns))),vs.length=L.length→∀i (hi:i<L.length),∃A c R,(jjV vs L)[i]?=some (.slice A (L.getD i []).length c)∧jjAll vs L=jobsH A c (L.getD i [])*R ∧
  ∀A' c' l',jjAll (vs.set i (A',c')) (L.set i l')=jobsH A' c' l'*R∧jjV (vs.set i (A',c')) (L.set i l')=(jjV vs L).set i (.slice A' l'.length c')
 | [],[],_,i,hi=>absurd hi (by simp)
 |a::vs,l::L,h,0,_=>⟨a.1,a.2,jjAll vs L,rfl,rfl,fun A' c' l'=>⟨rfl,rfl⟩⟩
 |a::vs,l::L,h,i+1,hi=>by
  obtain⟨A,c,R,h1,h2,h3⟩:=Ft vs L (by simpa using h) i (by simpa using hi)
  refine⟨A,c,jobsH a.1 a.2 l*R,h1,?_,fun A' c' l'=>⟨?_,?_⟩⟩
  ·show jobsH a.1 a.2 l*jjAll vs L=jobsH A c (L.getD i [])*_
   rw[h2];ac_rfl
  ·show jobsH a.1 a.2 l*jjAll (vs.set i (A',c')) (L.set i l')=_
   rw[(h3 A' c' l').1];ac_rfl
  ·show Value.slice a.1 l.length a.2::jjV (vs.set i (A',c')) (L.set i l')=Value.slice a.1 l.length a.2::(jjV vs L).set i _
   rw[(h3 A' c' l').2]
def jxH (J:Nat)(vs:List (Option Addr×Nat))(L:List (List (List PIns))):HP:=bk J 29 (jjV vs L).toArray*jjAll vs L
theorem SJ {ω w:World}{F:HP}{J:Nat}{vs:List (Option Addr×Nat)}{L:List (List (List PIns))}(h:Sat ω w (jxH J vs L*F))(hl:vs.length=L.length){i:Nat}(hi:i<L.length):
  ∃A c xs R,w.cell? (κ J i)=some (.slice A (L.getD i []).length c)∧(∀k,w.frozen? (κ J k)=false)∧J<w.heap.size ∧
   Sat ω w (row 32 1 (.slice A (L.getD i []).length c) (L.getD i []).length xs*(bk J 29 (jjV vs L).toArray*(R*F))) ∧
   ∀(w':World) (P:HP) A' c' g (p:List PIns),Sat ω w' (row 32 1 (.slice A' ((L.getD i []).length+1) c') ((L.getD i []).length+1) (xs++[.slice (some ⟨g,0,none⟩) p.length p.length])*(prH (some ⟨g,0,none⟩) p.length p*(bk J 29 (jjV vs L).toArray*(R*P)))) →
    Sat ω (w'.setCell (κ J i) (.slice A' ((L.getD i []).length+1) c')) (jxH J (vs.set i (A',c')) (L.set i (L.getD i []++[p]))*P):=by
 obtain⟨A,c,R0,h1,h2,h3⟩:=Ft vs L hl i hi;have h4:Sat ω w (bk J 29 (jjV vs L).toArray*(jobsH A c (L.getD i [])*(R0*F))):=h.perm (by unfold jxH;rw[h2];ac_rfl)
 obtain⟨xs,R,h5,h6⟩:=KY h4.swap;have hb:=h4.blk;refine⟨A,c,xs,R*R0,by rw[hb.cell];simpa using h1,hb.frozen,hb.lt,h5.perm (by ac_rfl),fun w' P A' c' g p h7=>?_⟩
 have h8:=h6 w' (bk J 29 (jjV vs L).toArray*(R0*P)) A' c' g p (h7.perm (by ac_rfl))
 have h9:=h8.swap.put i (.slice A' ((L.getD i []).length+1) c') rfl;have e1:=h3 A' c' (L.getD i []++[p]);refine h9.perm ?_;unfold jxH;rw[e1.1,e1.2];simp only[List.length_append,List.length_cons,List.length_nil,List.setIfInBounds_toArray];ac_rfl
theorem Ts {ω w:World}{F:HP}(h:Sat ω w F):Sat ω (w.alloc (.cells #[.slice none 0 0,.slice none 0 0,.slice none 0 0] 29)) (jxH w.heap.size [(none,0),(none,0),(none,0)] [[],[],[]]*F):=by
 refine(SL h).perm ?_;show(_*(_*(_*_)))*F=(_*(_*(_*(_*emp))))*F
 rw[Ac];rfl
theorem Uc {ω w:World}{F:HP}{J:Nat}{vs:List (Option Addr×Nat)}{L:List (List (List PIns))}(hl:vs.length=L.length)(hm:L.length≤3)(h:Sat ω w (jxH J vs L*F)):Sat ω w (jjX (some ⟨J,0,none⟩) L.length vs L*F):=by
 have h1:Sat ω w (bk J 29 (jjV vs L).toArray*(jjAll vs L*F)):=h.assoc;have h2:=h1.rowOf (n:=L.length) (size:=1) (by simp[jjV,hl]) (by unfold maxLen;omega)
 exact h2.assoc'
def restOf (W:World):HP:=fun h=>h=fun k=>if k=0 then none else W.heap[k]?
theorem Mq [Inhabited PowO]{W:World}(h:W.heap[0]?=some (default:PowO).1):powH*restOf W=wholeOf W:=by
 refine HP.ext fun x=>⟨?_,fun hx=>?_⟩
 ·rintro⟨a,b,hd,rfl,rfl,rfl⟩;show _=_
  funext k;by_cases e:k=0
  ·subst e;simp[h]
  ·simp[e]
 ·rw[show x=_ from hx]
  refine⟨_,_,fun k=>?_,?_,rfl,rfl⟩
  ·by_cases e:k=0
   ·exact .inr (by simp[e])
   ·exact .inl (by simp[e])
  ·funext k;by_cases e:k=0
   ·subst e;simp[h]
   ·simp[e]
def wroteB (K n:Nat):Bool:=K==2&&decide (0<n)
theorem Fd (w:World)(v0 v1 v2 v3 v5 v6 v7 v8 v9 v10 v12 v13:Value)(K:Nat)(A:Option Addr)(n c:Nat):
  Calls prog 73 #[.agg #[v0,v1,v2,v3,K,v5,v6,v7,v8,v9,v10,.slice A n c,v12,v13]] w fun e w'=>e=.returned (.bool (wroteB K n))∧Only Nob w w':=by
 obtain⟨q,hq⟩:∃q,((K:Int)==2)=q:=⟨_,rfl⟩;have HQ:Hid (wroteB K n=(q&&decide (0<n))):=h_ (by rw[←hq];unfold wroteB;congr 1;rw[Bool.eq_iff_iff];simp;omega)
 rw[HQ.o];have HO:Hid (∀o,Only Nob w (w.alloc o)):=h_ fun o=>(Only.refl _ w).alloc o
 go_enter func73,ntmps73;cases q<;>go_wp2<;>go_ret<;>exact⟨by simp,HO.o _⟩
def lessB (K1 n1 s1 b1 K2 n2 s2 b2:Nat):Bool:=if s1≠s2 then decide (s1<s2) else if wroteB K1 n1≠wroteB K2 n2 then wroteB K1 n1 else decide (b1<b2)
theorem Ly {w:World}{N:Nat}{t:TypeId}{v0 v1 v2 v3 v4 v5 v6 v7 v8 v9 v10 v11 v12 v13:Value}(h:Blk w N t #[v0,v1,v2,v3,v4,v5,v6,v7,v8,v9,v10,v11,v12,v13]):N<w.heap.size∧w.cell? N=some v0∧w.cell? (κ N 1)=some v1∧w.cell? (κ N 2)=some v2∧w.cell? (κ N 3)=some v3∧w.cell? (κ N 4)=some v4∧w.cell? (κ N 5)=some v5∧w.cell? (κ N 6)=some v6 ∧
  w.cell? (κ N 7)=some v7∧w.cell? (κ N 8)=some v8∧w.cell? (κ N 9)=some v9∧w.cell? (κ N 10)=some v10∧w.cell? (κ N 11)=some v11∧w.cell? (κ N 12)=some v12∧w.cell? (κ N 13)=some v13 :=
 ⟨h.lt,h.cell 0,h.cell 1,h.cell 2,h.cell 3,h.cell 4,h.cell 5,h.cell 6,h.cell 7,h.cell 8,h.cell 9,h.cell 10,h.cell 11,h.cell 12,h.cell 13⟩
def BoxA (N:Nat)(cs ds:Array Value)(w:World):Prop:=Blk w N 52 cs∧Blk w (N+1) 52 ds
theorem BoxA.only {N:Nat}{cs ds:Array Value}{w w':World}(h:BoxA N cs ds w)(ho:Only Nob w w'):BoxA N cs ds w':=⟨h.1.only ho (fun e=>e),h.2.only ho (fun e=>e)⟩
theorem PU (w:World)(v0 v1 v2 v3 v5 v6 v9 v10 v12 v13:Value)(K:Nat)(s b:Nat)(A:Option Addr)(n c:Nat)(u0 u1 u2 u3 u5 u6 u9 u10 u12 u13:Value)(L:Nat)(s2 b2:Nat)(B:Option Addr)(m d:Nat):
  Calls prog 45 #[.agg #[v0,v1,v2,v3,K,v5,v6,υ s,b,v9,v10,.slice A n c,v12,v13],.agg #[u0,u1,u2,u3,L,u5,u6,υ s2,b2,u9,u10,.slice B m d,u12,u13]] w
   fun e w'=>e=.returned (.bool (lessB K n s b L m s2 b2))∧Only Nob w w':=by
 obtain⟨N,hN⟩:∃N,w.heap.size=N:=⟨_,rfl⟩;have HO:Hid (∀o o',Only Nob w ((w.alloc o).alloc o')):=h_ fun o o'=>((Only.refl _ w).alloc o).alloc o'
 have HB:Hid (∀cs ds,BoxA N cs ds ((w.alloc (.cells cs 52)).alloc (.cells ds 52))):=h_ fun cs ds=>by
  subst hN;refine⟨(Blk.new w _ _).alloc _,?_⟩;have h1:=Blk.new (w.alloc (.cells cs 52)) 52 ds
  rwa [World.size_alloc] at h1
 have HW1:Hid (∀w1,Calls prog 73 #[.agg #[v0,v1,v2,v3,K,v5,v6,υ s,b,v9,v10,.slice A n c,v12,v13]] w1 fun e w'=>e=.returned (.bool (wroteB K n))∧Only Nob w1 w'):=h_ fun w1=>Fd w1 _ _ _ _ _ _ _ _ _ _ _ _ K A n c
 have HW2:Hid (∀w1,Calls prog 73 #[.agg #[u0,u1,u2,u3,L,u5,u6,υ s2,b2,u9,u10,.slice B m d,u12,u13]] w1 fun e w'=>e=.returned (.bool (wroteB L m))∧Only Nob w1 w'):=h_ fun w1=>Fd w1 _ _ _ _ _ _ _ _ _ _ _ _ L B m d
 have HL:Hid (lessB K n s b L m s2 b2=if s≠s2 then decide (s<s2) else if wroteB K n≠wroteB L m then wroteB K n else decide (b<b2)):=h_ rfl
 obtain⟨p1,hp1⟩:∃p1,wroteB K n=p1:=⟨_,rfl⟩;obtain⟨p2,hp2⟩:∃p2,wroteB L m=p2:=⟨_,rfl⟩;rw[hp1] at HW1 HL;rw[hp2] at HW2 HL;obtain⟨r,hr⟩:∃r,lessB K n s b L m s2 b2=r:=⟨_,rfl⟩;rw[hr] at HL ⊢;clear hr hp1 hp2;go_enter func45,ntmps45;by_cases hss:s=s2
 ·have d0:((s:Int) != (s2:Int))=false:=by simp[hss]
  have HL2:Hid (r=if p1≠p2 then p1 else decide (b<b2)):=h_ (by rw[HL.o,if_neg (by simpa using hss)])
  clear hss;go_wp2;have HX:=h_ (HB.o #[v0,v1,v2,v3,K,v5,v6,υ s,b,v9,v10,.slice A n c,v12,v13] #[u0,u1,u2,u3,L,u5,u6,υ s2,b2,u9,u10,.slice B m d,u12,u13]);have HY:=h_ (HO.o (.cells #[v0,v1,v2,v3,K,v5,v6,υ s,b,v9,v10,.slice A n c,v12,v13] 52) (.cells #[u0,u1,u2,u3,L,u5,u6,υ s2,b2,u9,u10,.slice B m d,u12,u13] 52));generalize ((w.alloc (.cells #[v0,v1,v2,v3,K,v5,v6,υ s,b,v9,v10,.slice A n c,v12,v13] 52)).alloc (.cells #[u0,u1,u2,u3,L,u5,u6,υ s2,b2,u9,u10,.slice B m d,u12,u13] 52))=wx at *
  clear HB HO HL;have HS0:BoxA N #[v0,v1,v2,v3,K,v5,v6,υ s,b,v9,v10,.slice A n c,v12,v13] #[u0,u1,u2,u3,L,u5,u6,υ s2,b2,u9,u10,.slice B m d,u12,u13] wx.drew:=HX.o.only ((Only.refl _ _).drew);refine gN (BoxA N #[v0,v1,v2,v3,K,v5,v6,υ s,b,v9,v10,.slice A n c,v12,v13] #[u0,u1,u2,u3,L,u5,u6,υ s2,b2,u9,u10,.slice B m d,u12,u13]) HS0 fun hh0=>?_
  refine tH 0 ?_ rfl ?_ (tH 2 ?_ rfl ?_ ?_);all_goals (try (
   intro w hSw;obtain⟨jl,j0,j1,j2,j3,j4,j5,j6,j7,j8,j9,j10,j11,j12,j13⟩:=Ly hSw.1;obtain⟨il,i0,i1,i2,i3,i4,i5,i6,i7,i8,i9,i10,i11,i12,i13⟩:=Ly hSw.2;try simp only[sP]
   go_simp<;>(try with_reducible rfl)))
  try simp only[sP]
  refine oH 1 rfl fun K hK=>?_
  go_simp;go_at_call 73;refine(HW1.o _).mono ?_;rintro e wA ⟨rfl,hA⟩;have HSA:=h_ (HS0.only hA);have HYA:=h_ ((HY.o.drew).trans hA);clear hA;refine hK.q HSA.o fun hh1=>?_
  clear hK K hh0;try simp only[sP]
  refine oH 3 rfl fun K hK=>?_
  go_simp;go_at_call 73;refine(HW2.o _).mono ?_;rintro e wB ⟨rfl,hB⟩;have HSB:=h_ (HSA.o.only hB);have HYB:=h_ (HYA.o.trans hB);clear hB;refine hK.q HSB.o fun hh2=>?_
  clear hK K hh1;try simp only[sP]
  refine tH 4 ?_ rfl ?_ ?_;all_goals (try (
   intro w hSw;go_simp<;>(try with_reducible rfl)))
  try simp only[sP]
  refine dN ?_;obtain⟨jl,j0,j1,j2,j3,j4,j5,j6,j7,j8,j9,j10,j11,j12,j13⟩:=Ly HSB.o.1;obtain⟨il,i0,i1,i2,i3,i4,i5,i6,i7,i8,i9,i10,i11,i12,i13⟩:=Ly HSB.o.2;have HR1:Hid (p1=p2→r=decide (b<b2)):=h_ fun e=>by rw[HL2.o,if_neg (by simpa using e)]
  have HR2:Hid (p1≠p2→r=p1):=h_ fun e=>by rw[HL2.o,if_pos e]
  have HM:Hid (∀w',Only Nob wB w'→Only Nob w w'):=h_ fun w' ho=>HYB.o.trans ho
  clear HL2 HSB HYB hh2 HYA HSA HX HY HS0;have HR3:=h_ (HM.o _ (Only.refl _ _));cases p1<;>cases p2
  ·go_wp2;go_ret;exact⟨by rw[HR1.o (by first|rfl|trivial)];rfl,HR3.o⟩
  ·go_wp2_with (go_at_call 73;refine(HW1.o _).mono ?_;rintro e wC ⟨rfl,hC⟩;have HC:=h_ hC;clear hC);go_ret;exact⟨by rw[HR2.o (by first|trivial|decide|simp)];rfl,HM.o _ HC.o⟩
  ·go_wp2_with (go_at_call 73;refine(HW1.o _).mono ?_;rintro e wC ⟨rfl,hC⟩;have HC:=h_ hC;clear hC);go_ret;exact⟨by rw[HR2.o (by first|trivial|decide|simp)];rfl,HM.o _ HC.o⟩
  ·go_wp2;go_ret;exact⟨by rw[HR1.o (by first|rfl|trivial)];rfl,HR3.o⟩
 ·have d0:((s:Int) != (s2:Int))=true:=by simp;omega
  have HL2:Hid (r=decide (s<s2)):=h_ (by rw[HL.o,if_pos hss])
  clear hss;go_wp2;go_ret;exact⟨by rw[HL2.o];rfl,HO.o _ _⟩
def AtC (w:World)(g o:Nat)(v0 v1 v2 v3 v5 v6 v9 v10:Value)(A:Option Addr)(c:Nat)(v12 v13:Value)(t:PTo):Prop :=
 w.cell? (κ g o)=some v0∧w.cell? (κ g (o+1))=some v1∧w.cell? (κ g (o+2))=some v2∧w.cell? (κ g (o+3))=some v3∧w.cell? (κ g (o+4))=some (.int .i64 t.kind)∧w.cell? (κ g (o+5))=some v5∧w.cell? (κ g (o+6))=some v6∧w.cell? (κ g (o+7))=some (.int .u64 t.stamp) ∧
  w.cell? (κ g (o+8))=some (.int .i64 t.born)∧w.cell? (κ g (o+9))=some v9∧w.cell? (κ g (o+10))=some v10∧w.cell? (κ g (o+11))=some (.slice A t.cells.length c)∧w.cell? (κ g (o+12))=some v12∧w.cell? (κ g (o+13))=some v13
theorem GU:∀(qs:List (Value×Value)) (ts:List PTo),qs.length=ts.length→∀(i:Nat) (t:PTo),ts[i]?=some t→∃q R,toAll qs ts=toH q t*R∧∀j,j<14→(toVs qs ts)[i*14+j]?=(toV q t)[j]?
 | [],[],_,i,t,ht=>by simp at ht
 |q::qs,u::ts,h,0,t,ht=>by
  simp only[List.getElem?_cons_zero,Option.some.injEq] at ht;subst ht;refine⟨q,toAll qs ts,rfl,fun j hj=>?_⟩
  show(toV q u++toVs qs ts)[0*14+j]?=_
  rw[List.getElem?_append_left (by show _<14;omega),Nat.zero_mul,Nat.zero_add]
 |q::qs,u::ts,h,i+1,t,ht=>by
  obtain⟨q1,R,h2,h1⟩:=GU qs ts (by simpa using h) i t (by simpa using ht)
  refine⟨q1,toH q u*R,?_,fun j hj=>?_⟩
  ·show toH q u*toAll qs ts=_
   rw[h2];ac_rfl
  ·show(toV q u++toVs qs ts)[_]?=_
   have e:(toV q u).length=14:=rfl;rw[List.getElem?_append_right (by omega),e,←h1 j hj]
   congr 1
   omega
theorem RO {ω w:World}{F:HP}{A:Option Addr}{n c:Nat}{qs:List (Value×Value)}{ts:List PTo}(h:Sat ω w (row 52 14 (.slice A n c) n (toVs qs ts)*(toAll qs ts*F)))(hq:qs.length=ts.length){i:Nat}{t:PTo}(ht:ts[i]?=some t):
  ∃g B1 d1 B d,A=some ⟨g,0,none⟩∧g<w.heap.size∧AtC w g (i*14) (.int .i64 t.thread) (.int .i64 t.job) (.int .i64 t.try_) (.bool false) (.int .i64 t.err) (.int .u64 t.begin) (.int .i64 t.ended) (.slice B1 t.reads.length d1) B d (.slice none 0 0) (.string ⟨t.slate.toArray⟩) t:=by
 obtain⟨⟨q1,q2⟩,R,hR,hj⟩:=GU qs ts hq i t ht;have h9:Sat ω w (row 54 2 q2 t.cells.length (vS t.cells)*(row 54 2 q1 t.reads.length (vS t.reads)*(R*(row 52 14 (.slice A n c) n (toVs qs ts)*F)))):=h.perm (by rw[hR];unfold toH;ac_rfl)
 obtain⟨B,d,rfl⟩:=h9.rowForm;obtain⟨B1,d1,rfl⟩:=h9.right.rowForm;have key:∀j v,(toV (.slice B1 t.reads.length d1,.slice B t.cells.length d) t)[j]?=some v→j<14→∃g,A=some ⟨g,0,none⟩∧g<w.heap.size∧w.cell? (κ g (i*14+j))=some v:=fun j v hv hj2=>h.rowCellN (by rw[hj j hj2];exact hv)
 obtain⟨g,hA,hg,_⟩:=key 0 _ rfl (by omega)
 have key2:∀j v,(toV (.slice B1 t.reads.length d1,.slice B t.cells.length d) t)[j]?=some v→j<14→w.cell? (κ g (i*14+j))=some v:=fun j v hv hj2=>by
  obtain⟨g2,hA2,_,h3⟩:=key j v hv hj2;rw[hA] at hA2;cases hA2;exact h3
 exact⟨g,B1,d1,B,d,hA,hg,key2 0 _ rfl (by omega),key2 1 _ rfl (by omega),key2 2 _ rfl (by omega),key2 3 _ rfl (by omega),key2 4 _ rfl (by omega),key2 5 _ rfl (by omega),key2 6 _ rfl (by omega),key2 7 _ rfl (by omega),key2 8 _ rfl (by omega),key2 9 _ rfl (by omega),key2 10 _ rfl (by omega),key2 11 _ rfl (by omega),key2 12 _ rfl (by omega),key2 13 _ rfl (by omega)⟩
theorem Aw (l:List PTo)(n:Nat):(Wy.orderP l n).length=n:=by rw[(Wy.order_perm l n).length_eq,List.length_range]
theorem DR (l:List PTo){n k:Nat}(hk:k<n):(Wy.orderP l n).getD k 0<n:=by
 have h1:(Wy.orderP l n).getD k 0∈Wy.orderP l n:=by
  rw[gD,List.getElem?_eq_getElem (by rw[Aw];exact hk)]
  exact List.getElem_mem _
 have:=(Wy.order_perm l n).mem_iff.1 h1
 simpa using this
theorem Jg (l:List Nat){k:Nat}(hk:k<l.length):(vI l)[k]?=some (.int .i64 (l.getD k 0:Int)):=by
 rw[Fi];simp[zI,List.getElem?_eq_getElem hk,gD]
theorem Fr (ω w:World)(F:HP)(A:Option Addr)(n c:Nat)(qs:List (Value×Value))(ts:List PTo)(hq:qs.length=ts.length)(hn:ts.length=n)(hn5:n≤50000)(h:Sat ω w (row 52 14 (.slice A n c) n (toVs qs ts)*(toAll qs ts*F))):
  Calls prog 23 #[.slice A n c] w (RetR ω (row 52 14 (.slice A n c) n (toVs qs ts)*(toAll qs ts*F)) 3 1 n (vI (Wy.orderP ts n))):=by
 obtain⟨Y,hY⟩:∃Y:HP,Y=row 52 14 (.slice A n c) n (toVs qs ts)*(toAll qs ts*F):=⟨_,rfl⟩;have HAC:Hid (∀w' X i,i<n→Sat ω w' (X*Y)→∃g v0 v1 v2 v3 v5 v6 v9 v10 B d v12 v13,A=some ⟨g,0,none⟩∧g<w'.heap.size∧AtC w' g (i*14) v0 v1 v2 v3 v5 v6 v9 v10 B d v12 v13 (Wy.at_ ts i)):=h_ (fun w' X i hi h1=>by
  rw[hY] at h1;have ht:ts[i]?=some (Wy.at_ ts i):=by
   unfold Wy.at_;rw[gD,List.getElem?_eq_getElem (by omega)];rfl
  obtain⟨g,B1,d1,B,d,h2,h3,h4⟩:=RO (h1.perm (by ac_rfl:_=row 52 14 (.slice A n c) n (toVs qs ts)*(toAll qs ts*(X*F)))) hq ht
  exact⟨g,_,_,_,_,_,_,_,_,B,d,_,_,h2,h3,h4⟩)
 have HS0:Hid (Sat ω w (row 3 1 (.slice none 0 0) 0 (vI (Wy.orderP ts 0))*Y)):=h_ (by rw[←hY] at h;exact h.nil 3 1)
 rw[←hY];obtain⟨i0,hi0,hz⟩:=Option.map_eq_some_iff.1 Et;simp only[Prod.mk.injEq] at hz;obtain⟨hz0,hz1,hz2⟩:=hz;have HI:=h_ hi0;have HZ0:=h_ hz0;have HZ1:=h_ hz1;have HZ2:=h_ hz2;have HLE:Hid (∀i j,Wy.less (Wy.at_ ts i) (Wy.at_ ts j)=lessB (Wy.at_ ts i).kind (Wy.at_ ts i).cells.length (Wy.at_ ts i).stamp (Wy.at_ ts i).born (Wy.at_ ts j).kind (Wy.at_ ts j).cells.length (Wy.at_ ts j).stamp (Wy.at_ ts j).born):=h_ fun i j=>rfl
 clear h hi0 hz0 hz1 hz2 hY hq hn;go_enter func23,ntmps23;go_wp2;go_loopw [3,4,5] (fun v3 v4 _ wr=>∃(i:Nat) (B:Option Addr) (d:Nat),i≤n∧v3=.slice B i d∧v4=.int .i64 i∧Hid (Sat ω wr (row 3 1 (.slice B i d) i (vI (Wy.orderP ts i))*Y))) (fun _ v4 _ _=>n-(intOf v4).toNat)
 case atStart=>exact⟨0,none,0,by omega,rfl,rfl,HS0⟩
 case round =>
  obtain⟨i,B,d,hi,rfl,rfl,HB⟩:=hrel;by_cases hlt:i<n
  ·have d1:(decide ((i:Int)<(n:Int)))=true:=by simp;omega
   obtain⟨o,ho⟩:∃o,Wy.orderP ts i=o:=⟨_,rfl⟩;have HOL:Hid (o.length=i):=h_ (by rw[←ho];exact Aw ts i)
   have HLT:Hid (∀k,k<i→o.getD k 0<i):=h_ fun k hk=>by rw[←ho];exact DR ts hk
   have HON:Hid (Wy.orderP ts (i+1)=o.take (Wy.posP ts i o i)++i::o.drop (Wy.posP ts i o i)):=h_ (by
    have:=HOL.o
    subst ho;show _++_=_
    rw[this])
   rw[ho] at HB;clear ho;have hiI:(i:Int)<(n:Int):=by omega
   go_upto_block 2 with fail
   go_cut [5] (fun v5 wx=>∃k:Nat,k≤i∧v5=.int .i64 k∧Hid (Wy.posP ts i o i=k)∧Hid (Sat ω wx (row 3 1 (.slice B i d) i (vI o)*Y)))
   case first =>
    go_wp2_with fail;go_loopw [5] (fun v5 wx=>∃k:Nat,k≤i∧v5=.int .i64 k∧Hid (Wy.posP ts i o i=Wy.posP ts i o k)∧Hid (Sat ω wx (row 3 1 (.slice B i d) i (vI o)*Y))) (fun v5 _=>(intOf v5).toNat)
    case atStart=>exact⟨i,by omega,rfl,h_ rfl,HB⟩
    case round =>
     obtain⟨k,hk,rfl,HP,HX⟩:=hrel;by_cases hk0:k=0
     ·subst hk0;have d2:(decide (((0:Nat):Int) > 0))=false:=by simp
      have HPZ:Hid (Wy.posP ts i o i=0):=h_ (HP.o.trans rfl);go_upto_region 6 with fail
      go_quiet (fail);go_wp2_with fail;go_meet;exact⟨0,by omega,rfl,HPZ,h_ (HX.o.drewN _)⟩
     ·obtain⟨q,rfl⟩:∃q,k=q+1:=⟨k-1,by omega⟩
      have d2:(decide (((q+1:Nat):Int) > 0))=true:=by simp
      clear hk0;obtain⟨j,hj⟩:∃j,o.getD q 0=j:=⟨_,rfl⟩;have hji:j<i:=by rw[←hj];exact HLT.o _ (by omega)
      obtain⟨g,v0,v1,v2,v3,v5,v6,v9,v10,B1,c1,v12,v13,hA,hg,a0,a1,a2,a3,a4,a5,a6,a7,a8,a9,a10,a11,a12,a13⟩:=HAC.o wr _ i hlt HX.o;obtain⟨g',u0,u1,u2,u3,u5,u6,u9,u10,B2,c2,u12,u13,hA',hg',b0,b1,b2,b3,b4,b5,b6,b7,b8,b9,b10,b11,b12,b13⟩:=HAC.o wr _ j (by omega) HX.o
      rw[hA] at hA';cases hA';subst hA;have hol:=HOL.o;obtain⟨go,hB,hgo,ko⟩:=HX.o.rowCell (i:=q) (Jg o (by omega))
      rw[hj] at ko;subst hB;have HPS:Hid (Wy.posP ts i o (q+1)=if Wy.less (Wy.at_ ts i) (Wy.at_ ts j) then Wy.posP ts i o q else q+1):=h_ (by rw[←hj];rfl)
      rw[HLE.o] at HPS;clear hj hol;generalize Wy.at_ ts i=x1 at *
      generalize Wy.at_ ts j=x2 at *
      obtain⟨_,_,_,K,_,_,s,b,_,_,cs1,_⟩:=x1;obtain⟨_,_,_,L,_,_,s2,b2,_,_,cs2,_⟩:=x2;simp only at a4 a7 a8 a11 b4 b7 b8 b11 HPS;generalize cs1.length=n1 at *
      generalize cs2.length=n2 at *
      have hw1:IntKind.i64.wrap (q:Int)=(q:Int):=by rw[IntKind.wrap_i64];omega
      have hqi:(q:Int)<(i:Int):=by omega
      have hjn:(j:Int)<(n:Int):=by omega
      obtain⟨r,hr⟩:∃r,lessB K n1 s b L n2 s2 b2=r:=⟨_,rfl⟩;have HLS:Hid (∀w1 v0 v1 v2 v3 v5 v6 v9 v10 v12 v13 A c u0 u1 u2 u3 u5 u6 u9 u10 u12 u13 B d,Calls prog 45 #[.agg #[v0,v1,v2,v3,K,v5,v6,υ s,b,v9,v10,.slice A n1 c,v12,v13],.agg #[u0,u1,u2,u3,L,u5,u6,υ s2,b2,u9,u10,.slice B n2 d,u12,u13]] w1
        fun e w'=>e=.returned (.bool r)∧Only Nob w1 w'):=h_ (fun w1 v0 v1 v2 v3 v5 v6 v9 v10 v12 v13 A c u0 u1 u2 u3 u5 u6 u9 u10 u12 u13 B d=>by rw[←hr];exact PU w1 v0 v1 v2 v3 v5 v6 v9 v10 v12 v13 K s b A n1 c u0 u1 u2 u3 u5 u6 u9 u10 u12 u13 L s2 b2 B n2 d)
      rw[hr] at HPS;clear hr;go_upto_region 6 with fail
      refine rT 15 ?_;simp only[sD,sE,sF,sG];repeat still_step
      refine wpStill_nil ?_;go_wp2_with (go_at_call 45;refine(HLS.o _ _ _ _ _ _ _ _ _ _ _ _ _ _ _ _ _ _ _ _ _ _ _ _ _).mono ?_;rintro e w2 ⟨rfl,h2⟩;have HX2:=h_ (HX.o.drew.nob h2);clear h2)
      ·rename_i hr1;exact⟨⟨q,by omega,rfl,h_ (by have h1:=HPS.o;rw[if_pos hr1] at h1;exact HP.o.trans h1),HX2⟩,by simp[intOf]⟩
      ·rename_i hr1;go_meet;exact⟨q+1,hk,rfl,h_ (by have h1:=HPS.o;rw[if_neg (by simp[hr1])] at h1;exact HP.o.trans h1),HX2⟩
   case rest =>
    obtain⟨k,hk,rfl,HP,HX⟩:=hcut;have hol:=HOL.o;obtain⟨O,hO⟩:∃O:Go.Proofs.YtfodmgaliclhfaaGreatDoor.HP,O=row 3 1 (.slice B i d) i (vI o):=⟨_,rfl⟩;have H0:Hid (Sat ω wc.drew (row 3 1 (.slice none 0 0) 0 []*(O*Y))):=h_ (by rw[hO];exact HX.o.drew.nil 3 1)
    obtain⟨AP,AS,cP,cS,hS1,hS2,HRP,HRS⟩:∃(AP AS:Option Addr) (cP cS:Nat),(∀w,(Instr.slice 50 (.slice B i d) none (some (.int .i64 k)) none).run prog w=.ok (.slice AP k cP) w)∧(∀w,(Instr.slice 50 (.slice B i d) (some (.int .i64 k)) none none).run prog w=.ok (.slice AS (i-k) cS) w) ∧
      Hid (∀w' X,Sat ω w' (X*(O*Y))→Reads w' w'.heap.size 1 AP k ((vI o).take k))∧Hid (∀w' X,Sat ω w' (X*(O*Y))→Reads w' w'.heap.size 1 AS (i-k) ((vI o).drop k)):=by
     rcases HX.o.cases with⟨h2,h3,h4,h5⟩|⟨g,cap,cur,h2,h3,h4,h5,h6,h7,h8⟩
     ·injection h2 with h2a h2b h2c
      subst h2a h2c h3;obtain rfl:k=0:=by omega
      refine⟨none,none,0,0,fun w=>by go_simp,fun w=>by go_simp,h_ fun w' X h1=>?_,h_ fun w' X h1=>?_⟩
      ·exact Reads.none_
      ·rw[h4];exact Reads.none_
     ·injection h2 with h2a h2b h2c
      subst h2a h2c;have hkd:k≤d:=by omega
      refine⟨some ⟨g,0,none⟩,if d=k then some ⟨g,0,none⟩ else some ⟨g,k,none⟩,d,d-k,fun w=>by go_simp,fun w=>by go_simp,h_ fun w' X h1=>?_,h_ fun w' X h1=>?_⟩
      ·rw[hO] at h1;have h9:=h1.swap.reads;refine⟨by rw[List.length_take,h9.1];omega,fun h0=>?_⟩
       obtain⟨ad,e1,e2,e3⟩:=h9.2 (by omega)
       exact⟨ad,e1,e2,fun j u hu=>e3 j u (by rw[List.getElem?_take] at hu;split at hu;exact hu;cases hu)⟩
      ·rw[hO] at h1;have h9:=h1.swap.reads.cut hk (by omega:i≤d)
       rw[Nat.mul_one] at h9;have e:(if d=k then(some ⟨g,0,none⟩:Option Addr) else(some ⟨g,0,none⟩:Option Addr).map (·.add k))=if d=k then some ⟨g,0,none⟩ else some ⟨g,k,none⟩:=by
        split
        ·rfl
        ·simp[Addr.add];intro e;exact e.symm
       rw[e] at h9;exact h9
    have HRP2:Hid (∀w' X Z,Sat ω w' (X*(Z*(O*Y)))→Reads w' w'.heap.size 1 AP k ((vI o).take k)):=h_ (fun w' X Z h1=>HRP.o w' _ h1.assoc')
    have HRS2:Hid (∀w' X Z,Sat ω w' (X*(Z*(O*Y)))→Reads w' w'.heap.size 1 AS (i-k) ((vI o).drop k)):=h_ (fun w' X Z h1=>HRS.o w' _ h1.assoc')
    have HRB:Hid (∀w' X nb,Sat ω w' (X*(bk nb 3 #[i]*(O*Y)))→Reads w' w'.heap.size 1 (some ⟨nb,0,none⟩) 1 [.int .i64 i]):=h_ (fun w' X nb h1=>Reads.of_blk (n:=1) (size:=1) h1.swap.blk rfl)
    have HOA:Hid (∀u∈vI o,u.oneCell'=true):=h_ (fun u hu=>by rw[Fi] at hu;obtain⟨z,_,rfl⟩:=List.mem_map.1 hu;rfl)
    have HOT:Hid (∀u∈(vI o).take k,u.oneCell'=true):=h_ (fun u hu=>HOA.o u (List.mem_of_mem_take hu))
    have HOD:Hid (∀u∈(vI o).drop k,u.oneCell'=true):=h_ (fun u hu=>HOA.o u (List.mem_of_mem_drop hu))
    have HOI:Hid (∀u∈[Value.int .i64 i],u.oneCell'=true):=h_ (by intro u hu;simp at hu;subst hu;rfl)
    have HLN:Hid (k+1+(i-k)=i+1):=h_ (by omega)
    have HFI:Hid (∀w' A c nb,Sat ω w' (row 3 1 (.slice A (k+1+(i-k)) c) (k+1+(i-k)) ((vI o).take k++[.int .i64 i]++(vI o).drop k)*(bk nb 3 #[i]*(O*Y)))→Sat ω w' (row 3 1 (.slice A (i+1) c) (i+1) (vI (Wy.orderP ts (i+1)))*Y)):=h_ (fun w' A c nb h1=>by
     rw[HLN.o] at h1;have e:((vI o).take k++[.int .i64 i]++(vI o).drop k)=vI (Wy.orderP ts (i+1)):=by
      rw[HON.o,HP.o,Fi,Fi];simp[zI,List.map_take,List.map_drop]
     rw[e] at h1;exact h1.swap.right.swap.right)
    go_upto_region 8 with fail
    refine gN (fun _=>True) trivial fun hh0=>?_
    refine tH 0 ?_ rfl ?_ (tH 1 ?_ rfl ?_ (tH 2 ?_ rfl ?_ (tH 4 ?_ rfl ?_ (tH 7 ?_ rfl ?_ (tH 8 ?_ rfl ?_ (tH 9 ?_ rfl ?_ ?_))))));all_goals (try (
     intro w hSw;try simp only[sP]
     go_simp<;>(try with_reducible rfl)))
    try simp only[sP]
    refine rH [3,5] ?_;refine cH rfl (fun K hK=>?_) (nH rfl fun K hK=>?_)
    ·refine BI 50 3 1 8 underlying50 HI.o HZ0.o HZ1.o HZ2.o H0.o (HRP.o _ _ H0.o) HOT.o ?_;intro A1 c1 wA hs;simp only[Nat.zero_add,List.nil_append] at hs ⊢;have HC:=h_ (hs.new #[i] 3).swap;clear hs;refine hK.q trivial fun hh1=>?_
     clear hK K hh0;try simp only[sP]
     refine oH 5 rfl fun K hK=>?_
     go_simp;refine hK.q trivial fun hh2=>?_
     clear hK K hh1;try simp only[sP]
     refine oH 6 rfl fun K hK=>?_
     refine BI 50 3 1 8 underlying50 HI.o HZ0.o HZ1.o HZ2.o HC.o (HRB.o _ _ _ HC.o) HOI.o ?_;intro A2 c2 wB hs;have HD:=h_ hs;clear hs;refine hK.q trivial fun hh3=>?_
     clear hK K hh2;try simp only[sP]
     refine oH 10 rfl fun K hK=>?_
     refine BI 50 3 1 8 underlying50 HI.o HZ0.o HZ1.o HZ2.o HD.o (HRS2.o _ _ _ HD.o) HOD.o ?_;intro A3 c3 wC hs;have HE:=h_ (HFI.o _ _ _ _ hs);clear hs;refine hK.q trivial fun hh4=>?_
     clear hK K hh3;try simp only[sP]
     refine tH 11 ?_ rfl ?_ ?_;all_goals (try (
      intro w hSw;go_simp<;>(try with_reducible rfl)))
     try simp only[sP]
     refine dN ?_;go_wp2;exact⟨⟨i+1,A3,c3,by omega,by rw[HLN.o],by go_num,HE⟩,by simp[intOf];omega⟩
    ·go_simp;have HB1:=h_ ((H0.o.new #[i] 3).swap);refine hK.q trivial fun hh1=>?_
     clear hK K hh0;try simp only[sP]
     refine oH 3 rfl fun K hK=>?_
     refine BI 50 3 1 8 underlying50 HI.o HZ0.o HZ1.o HZ2.o HB1.o (HRP2.o _ _ _ HB1.o) HOT.o ?_;intro A1 c1 wA hs;simp only[Nat.zero_add,List.nil_append] at hs ⊢;have HC:=h_ hs;clear hs;refine hK.q trivial fun hh2=>?_
     clear hK K hh1;try simp only[sP]
     refine oH 6 rfl fun K hK=>?_
     refine BI 50 3 1 8 underlying50 HI.o HZ0.o HZ1.o HZ2.o HC.o (HRB.o _ _ _ HC.o) HOI.o ?_;intro A2 c2 wB hs;have HD:=h_ hs;clear hs;refine hK.q trivial fun hh3=>?_
     clear hK K hh2;try simp only[sP]
     refine oH 10 rfl fun K hK=>?_
     refine BI 50 3 1 8 underlying50 HI.o HZ0.o HZ1.o HZ2.o HD.o (HRS2.o _ _ _ HD.o) HOD.o ?_;intro A3 c3 wC hs;have HE:=h_ (HFI.o _ _ _ _ hs);clear hs;refine hK.q trivial fun hh4=>?_
     clear hK K hh3;try simp only[sP]
     refine tH 11 ?_ rfl ?_ ?_;all_goals (try (
      intro w hSw;go_simp<;>(try with_reducible rfl)))
     try simp only[sP]
     refine dN ?_;go_wp2;exact⟨⟨i+1,A3,c3,by omega,by rw[HLN.o],by go_num,HE⟩,by simp[intOf];omega⟩
  ·obtain rfl:i=n:=by omega
   have d1:(decide ((i:Int)<(i:Int)))=false:=by simp
   go_wp2;go_ret;exact⟨B,d,rfl,HB.o⟩
section
variable (ω w : World) (F : HP)
theorem Ph:(prog.info? 434).map (fun i=>(i.zero,i.size,i.bytes))=some (some (.agg #[.slice none 0 0,.slice none 0 0]),2,48):=by kernel_rfl
theorem TG (w:World):Calls prog 147 #[ι 0,ι 0,ι 96] w fun e w'=>e=.returned (ι 0)∧w=w':=by
 go_enter func147,ntmps147;go_wp2;go_ret;exact⟨rfl,rfl⟩
theorem UH (w:World)(n:Nat)(h32:32≤n)(h256:n≤256):Calls prog 147 #[n,ι 32,ι 256] w fun e w'=>e=.returned n∧w=w':=by
 have e1:¬((n:Int)<32):=by omega
 have e2:¬(256<(n:Int)):=by omega
 go_enter func147,ntmps147;go_wp2;go_ret;exact⟨rfl,rfl⟩
theorem KF (h:Sat ω w F):
  Calls prog 148 #[ι 0] w fun e w'=>∃lb,e=.returned (.pointer (some ⟨lb,0,none⟩))∧Sat ω w' F:=by
 have H:=h_ h;obtain⟨i0,hi0,hz⟩:=Option.map_eq_some_iff.1 Ph;simp only[Prod.mk.injEq] at hz;obtain⟨hz0,hz1,hz2⟩:=hz;have hby:i0.bytes*1≤281474976710656:=by rw[hz2];omega
 have HI:=h_ hi0;have HZ0:=h_ hz0;have HZ1:=h_ hz1;clear h hi0 hz0 hz1 hz2;go_enter func148,ntmps148;go_wp2;refine gN (fun _=>True) trivial fun hh0=>?_
 refine tH 0 ?_ rfl ?_ ?_;all_goals (try (
  intro w hSw;go_simp<;>(try with_reducible rfl)))
 try simp only[sP]
 refine rH [1,2] ?_;refine cH rfl (fun K hK=>?_) (nH rfl fun K hK=>?_)
 ·go_simp;go_at_call 147;refine(TG _).mono ?_;rintro e wA ⟨rfl,rfl⟩;refine hK.q trivial fun hh1=>?_
  clear hK K hh0;try simp only[sP]
  refine oH 2 rfl fun K hK=>?_
  refine Ab rfl _ _ 268 rfl 434 i0 _ 2 underlying268 HI.o HZ0.o HZ1.o _ _ _ _ 1 rfl rfl rfl rfl hby (by unfold maxLen;omega) H.o.drew ?_;intro w2 hs;have HM:=h_ hs.right;clear hs
  refine hK.q trivial fun hh2=>?_
  clear hK K hh1;try simp only[sP]
  refine tH 3 ?_ rfl ?_ ?_;all_goals (try (
   intro w hSw;go_simp<;>(try with_reducible rfl)))
  try simp only[sP]
  refine oH 4 rfl fun K hK=>?_
  go_simp;refine hK.q trivial fun hh3=>?_
  clear hK K hh2;try simp only[sP]
  refine tH 5 ?_ rfl ?_ ?_;all_goals (try (
   intro w hSw;go_simp<;>(try with_reducible rfl)))
  try simp only[sP]
  refine dN ?_;go_wp2;go_ret;exact⟨_,rfl,HM.o.junk _⟩
 ·refine Ab rfl _ _ 268 rfl 434 i0 _ 2 underlying268 HI.o HZ0.o HZ1.o _ _ _ _ 1 rfl rfl rfl rfl hby (by unfold maxLen;omega) H.o.drew ?_;intro w2 hs;have HM:=h_ hs.right;clear hs
  refine hK.q trivial fun hh1=>?_
  clear hK K hh0;try simp only[sP]
  refine oH 1 rfl fun K hK=>?_
  go_simp;go_at_call 147;refine(TG _).mono ?_;rintro e wA ⟨rfl,rfl⟩;refine hK.q trivial fun hh2=>?_
  clear hK K hh1;try simp only[sP]
  refine tH 3 ?_ rfl ?_ ?_;all_goals (try (
   intro w hSw;go_simp<;>(try with_reducible rfl)))
  try simp only[sP]
  refine oH 4 rfl fun K hK=>?_
  go_simp;refine hK.q trivial fun hh3=>?_
  clear hK K hh2;try simp only[sP]
  refine tH 5 ?_ rfl ?_ ?_;all_goals (try (
   intro w hSw;go_simp<;>(try with_reducible rfl)))
  try simp only[sP]
  refine dN ?_;go_wp2;go_ret;exact⟨_,rfl,HM.o.junk _⟩
theorem IM (n:Nat)(h32:32≤n)(h256:n≤256)(h:Sat ω w F):
  Calls prog 112 #[n,ι 0] w fun e w'=>∃vb lb,e=.returned (.pointer (some ⟨vb,0,none⟩))∧Sat ω w' (bk vb 157 #[n,.slice none 0 0,.pointer (some ⟨lb,0,none⟩),ι 0]*F):=by
 have HH:=h_ (fun w1:World=>UH w1 n h32 h256)
 have HN:Hid (∀w',Sat ω w' F→Calls prog 148 #[ι 0] w' fun e w'=>∃lb,e=.returned (.pointer (some ⟨lb,0,none⟩))∧Sat ω w' F):=h_ fun w' h1=>KF ω w' F h1
 have HV:Hid (∀w' cs,Sat ω w' F→Sat ω (w'.alloc (.cells cs 157)) (bk w'.heap.size 157 cs*F)):=h_ (fun w' cs h1=>h1.new cs _)
 have H:=h_ h;clear h;go_enter func112,ntmps112;go_wp2_with (first
  |(go_at_call 147;refine(HH.o _).mono ?_;rintro e wA ⟨rfl,rfl⟩)
  |(go_at_call 148;refine(HN.o _ H.o).mono ?_;rintro e wB ⟨lb,rfl,hs⟩;have HS:=h_ (HV.o _ #[n,.slice none 0 0,.pointer lb,ι 0] hs);clear hs))
 go_ret;exact⟨_,lb,rfl,HS.o⟩
def knL (W:List Nat)(k:Nat):List (Nat×Nat):=(List.range k).map fun j=>(j+1,W.getD (j+1) 0)
theorem PW (W:List Nat)(k:Nat):knL W (k+1)=knL W k++[(k+1,W.getD (k+1) 0)]:=by
 unfold knL;rw[List.range_succ,List.map_append];rfl
theorem OY (W:List Nat){k:Nat}(h:k<W.length):(vU W)[k]?=some (.int .u64 ((W.getD k 0:Nat):Int)):=by
 simp[vU,u64V,List.getElem?_eq_getElem h,gD]
def vwC (n:Nat)(B:Option Addr)(k d lb:Nat):Array Value:=#[n,.slice B k d,.pointer lb,ι 0]
theorem MO (A:Option Addr)(n c:Nat)(W:List Nat)(hW:W.length=n)(h32:32≤n)(h256:n≤256)(h:Sat ω w (row 22 1 (.slice A n c) n (vU W)*F)):
  Calls prog 74 #[.slice A n c,ι 0] w fun e w'=>∃vb lb B d,e=.returned (.pointer (some ⟨vb,0,none⟩))∧Sat ω w' (bk vb 157 (vwC n B (n-1) d lb)*(row 54 2 (.slice B (n-1) d) (n-1) (vS (knL W (n-1)))*(row 22 1 (.slice A n c) n (vU W)*F))):=by
 obtain⟨Y,hY⟩:∃Y:Go.Proofs.YtfodmgaliclhfaaGreatDoor.HP,Y=row 22 1 (.slice A n c) n (vU W)*F:=⟨_,rfl⟩;have HNV:Hid (Calls prog 112 #[n,ι 0] w fun e w'=>∃vb lb,e=.returned (.pointer (some ⟨vb,0,none⟩))∧Sat ω w' (bk vb 157 #[n,.slice none 0 0,.pointer (some ⟨lb,0,none⟩),ι 0]*Y)):=h_ (IM ω w Y n h32 h256 (by rw[hY];exact h))
 have HWD:Hid (∀w' X k,k<n→Sat ω w' (X*Y)→∃g,A=some ⟨g,0,none⟩∧g<w'.heap.size∧w'.cell? (κ g k)=some (.int .u64 ((W.getD k 0:Nat):Int))):=h_ (fun w' X k hk h1=>by
  rw[hY] at h1;exact h1.swap.rowCell (OY W (by omega)))
 obtain⟨i0,hi0,hz⟩:=Option.map_eq_some_iff.1 CK;simp only[Prod.mk.injEq] at hz;obtain⟨hz0,hz1,hz2⟩:=hz;have HI:=h_ hi0;have HZ0:=h_ hz0;have HZ1:=h_ hz1;have HZ2:=h_ hz2;rw[←hY];clear h hi0 hz0 hz1 hz2 hY hW;go_enter func74,ntmps74;go_wp2_with (go_at_call 112;refine(HNV.o).mono ?_;rintro e w1 ⟨vb,lb,rfl,hs⟩;have HS:=h_ (hs.nil 54 2).swap;clear hs);go_loopw [6,7] (fun v6 _ wr=>∃(k:Nat) (B:Option Addr) (d:Nat),k+1≤n∧v6=.int .i64 ((k+1:Nat):Int)∧Hid (Sat ω wr (bk vb 157 (vwC n B k d lb)*(row 54 2 (.slice B k d) k (vS (knL W k))*Y)))) (fun v6 _ _=>n-(intOf v6).toNat)
 case atStart=>exact⟨0,none,0,by omega,rfl,HS⟩
 case round =>
  obtain⟨k,B,d,hk,rfl,HB⟩:=hrel;have kb:=HB.o.blk;have kl:=kb.lt;have kf:=kb.frozen;have k0:=kb.c 0;have k1:=kb.c 1;clear kb;by_cases hlt:k+1<n
  ·have d1:(decide (((k+1:Nat):Int)<(n:Int)))=true:=by simp;omega
   obtain⟨g,hA,hg,kw⟩:=HWD.o wr _ (k+1) hlt HB.o.assoc';subst hA;obtain⟨x,hx⟩:∃x,W.getD (k+1) 0=x:=⟨_,rfl⟩;rw[hx] at kw;have hkI:((k:Int)+1)<(n:Int):=by omega
   have HSa:Hid (∀o,Sat ω (wr.alloc o) (row 54 2 (.slice B k d) k (vS (knL W k))*(bk vb 157 (vwC n B k d lb)*Y))):=h_ fun o=>HB.o.swap.junk o
   have HRD:Hid (Reads (wr.alloc (.cells #[ι ((k:Int)+1),υ x] 54)) (wr.heap.size+1) 2 (some ⟨wr.heap.size,0,none⟩) 1 [.int .i64 ((k:Int)+1),.int .u64 x]):=h_ (by
    have h9:=Reads.of_blk (size:=2) (n:=1) (Blk.new wr 54 #[ι ((k:Int)+1),υ x]) rfl;rw[World.size_alloc] at h9;exact h9)
   have HON:Hid (∀u∈[Value.int .i64 ((k:Int)+1),.int .u64 x],u.oneCell'=true):=h_ (by intro u hu;simp at hu;rcases hu with rfl|rfl<;>rfl)
   have HFI:Hid (∀w2 A' c',Sat ω w2 (row 54 2 (.slice A' (k+1) c') (k+1) (vS (knL W k)++[.int .i64 ((k:Int)+1),.int .u64 x])*(bk vb 157 (vwC n B k d lb)*Y))→vb<w2.heap.size∧(∀i,w2.frozen? (κ vb i)=false)∧(∃v,w2.cell? (κ vb 1)=some v)∧Sat ω (w2.setCell (κ vb 1) (.slice A' (k+1) c')) (bk vb 157 (vwC n A' (k+1) c' lb)*(row 54 2 (.slice A' (k+1) c') (k+1) (vS (knL W (k+1)))*Y))):=h_ (fun w2 A' c' h1=>by
    have h2:=h1.swap;refine⟨h2.blk.lt,h2.blk.frozen,⟨_,h2.blk.cell 1⟩,?_⟩;have h3:=h2.put 1 (.slice A' (k+1) c') (cs':=vwC n A' (k+1) c' lb) rfl;rw[PW,Dy,hx];exact h3)
   have hk5:k≤256:=by omega
   clear hx HWD;go_wp2_with (at_builtin;refine AB rfl _ _ 49 rfl 54 i0 _ 2 16 underlying49 HI.o HZ0.o HZ1.o HZ2.o rfl (by decide) _ _ _ rfl (HSa.o _) _ _ _ _ _ rfl HRD.o HON.o (by unfold maxLen;first|done|omega) (by first|done|omega) ?_;intro A' c' w2 hs;obtain⟨m1,m2,⟨m4,m3⟩,m5⟩:=HFI.o w2 A' c' hs;have HZ:=h_ m5;clear hs m5)
   exact⟨⟨k+1,A',c',by omega,by go_num,HZ.o⟩,by simp[intOf];omega⟩
  ·have d1:(decide (((k+1:Nat):Int)<(n:Int)))=false:=by simp;omega
   obtain rfl:n=k+1:=by omega
   go_wp2;go_ret;exact⟨vb,lb,B,d,rfl,HB.o⟩
theorem UG (w:World)(vb n:Nat)(p:Nat)(hb:vb<w.heap.size)(h0:w.cell? vb=some (.int .i64 n)):Calls prog 75 #[.pointer vb,p] w fun e w'=>e=.returned (.bool (decide (1≤p∧p<n)))∧w=w':=by
 obtain⟨r,hr⟩:∃r,decide (1≤p∧p<n)=r:=⟨_,rfl⟩;rw[hr];rcases Nat.eq_zero_or_pos p with rfl|hp
 ·have HR:Hid (r=false):=h_ (by rw[←hr];simp)
  clear hr;go_enter func75,ntmps75;go_wp2;go_ret;exact⟨by rw[HR.o];rfl,rfl⟩
 ·have HR:Hid (r=decide (p<n)):=h_ (by rw[←hr];simp;omega)
  have d1:(decide ((p:Int)≥1))=true:=by simp;omega
  clear hr;go_enter func75,ntmps75;go_wp2;go_ret;exact⟨by rw[HR.o];rfl,rfl⟩
theorem GD (A:Option Addr)(n c:Nat)(W:List Nat)(hW:W.length=n)(h32:32≤n)(h256:n≤256)(B:Option Addr)(m d:Nat)(cs:List (Nat×Nat))(hm:cs.length=m)(hm5:m≤1000)
  (h:Sat ω w (row 22 1 (.slice A n c) n (vU W)*(row 54 2 (.slice B m d) m (vS cs)*F))):
  Calls prog 46 #[.slice A n c,.slice B m d] w fun e w'=>∃A' c' V,e=.returned (.slice A' n c')∧Hid (V.length=n∧∀p,1≤p→p<n→V.getD p 0=cs.foldl (Wy.appP p) (W.getD p 0)) ∧
   Sat ω w' (row 22 1 (.slice A' n c') n (vU V)*(row 22 1 (.slice A n c) n (vU W)*(row 54 2 (.slice B m d) m (vS cs)*F))):=by
 obtain⟨Y,hY⟩:∃Y:Go.Proofs.YtfodmgaliclhfaaGreatDoor.HP,Y=row 22 1 (.slice A n c) n (vU W)*(row 54 2 (.slice B m d) m (vS cs)*F):=⟨_,rfl⟩;have HWH:Hid (Calls prog 74 #[.slice A n c,ι 0] w fun e w'=>∃vb lb B d,e=.returned (.pointer (some ⟨vb,0,none⟩))∧Sat ω w' (bk vb 157 (vwC n B (n-1) d lb)*(row 54 2 (.slice B (n-1) d) (n-1) (vS (knL W (n-1)))*Y))):=h_ (by
  rw[hY];exact MO ω w _ A n c W hW h32 h256 h)
 have HCS:Hid (∀w' X k,k<m→Sat ω w' (X*Y)→∃g,B=some ⟨g,0,none⟩∧g<w'.heap.size∧w'.cell? (κ g (k*2))=some (.int .i64 ((cs.getD k (0,0)).1:Int))∧w'.cell? (κ g (k*2+1))=some (.int .u64 ((cs.getD k (0,0)).2:Int))):=h_ (fun w' X k hk h1=>by
  rw[hY] at h1;have h2:=h1.perm (by ac_rfl:_=row 54 2 (.slice B m d) m (vS cs)*(X*(row 22 1 (.slice A n c) n (vU W)*F)))
  rw[←hm] at h2;obtain⟨g,q1,q2,q3⟩:=h2.rowAt (l:=cs) (f:=seV) (fun _=>rfl) (0,0) (by omega:k<cs.length)
  exact⟨g,q1,q2,q3 0 (by omega),q3 1 (by omega)⟩)
 have hmk:∀w:World,_:=fun w=>run_make_row' (P:=prog) 58 22 (.int .u64 0) 8 underlying58 (by kernel_rfl) rfl .i64 .i64 n (by omega) (by omega) w
 rw[←hY];have HMW:=h_ (Al n);have HCM:=h_ hm;clear h hY hm;go_enter func46,ntmps46;go_upto_block 0 with(go_at_call 74;refine(HWH.o).mono ?_;rintro e w1 ⟨vb,lb,KB,kd,rfl,hs⟩;have HS:=h_ hs;have kl:=hs.blk.lt;have k0:=hs.blk.c 0;have k1:=hs.blk.c 1;clear hs)
 obtain⟨Z,hZ⟩:∃Z:Go.Proofs.YtfodmgaliclhfaaGreatDoor.HP,Z=bk vb 157 (vwC n KB (n-1) kd lb)*(row 54 2 (.slice KB (n-1) kd) (n-1) (vS (knL W (n-1)))*Y):=⟨_,rfl⟩;have HM:Hid (Sat ω (w1.alloc (.cells (madeCells #[υ 0] n) 22)) (bk w1.heap.size 22 (vU (List.replicate n 0)).toArray*Z)):=h_ (by
  have h1:=HS.o.new (madeCells #[υ 0] n) 22;rw[HMW.o] at h1 ⊢;rw[hZ];exact h1)
 have HVB:Hid (∀w' X,Sat ω w' (X*Z)→vb<w'.heap.size∧w'.cell? (κ vb 0)=some (.int .i64 n)∧w'.cell? (κ vb 1)=some (.slice KB (n-1) kd)):=h_ (fun w' X h1=>by
  rw[hZ] at h1;have h2:=h1.swap.blk;exact⟨h2.lt,h2.cell 0,h2.cell 1⟩)
 have HKN:Hid (∀w' X k,k<n-1→Sat ω w' (X*Z)→∃g,KB=some ⟨g,0,none⟩∧g<w'.heap.size∧w'.cell? (κ g (k*2))=some (.int .i64 ((k+1:Nat):Int))∧w'.cell? (κ g (k*2+1))=some (.int .u64 ((W.getD (k+1) 0:Nat):Int))):=h_ (fun w' X k hk h1=>by
  rw[hZ] at h1;have hl:(knL W (n-1)).length=n-1:=by simp[knL]
  have h2:=h1.perm (by ac_rfl:_=row 54 2 (.slice KB (n-1) kd) (n-1) (vS (knL W (n-1)))*(X*(bk vb 157 (vwC n KB (n-1) kd lb)*Y)))
  have h3:Sat ω w' (row 54 2 (.slice KB (knL W (n-1)).length kd) (knL W (n-1)).length (vS (knL W (n-1)))*(X*(bk vb 157 (vwC n KB (n-1) kd lb)*Y))):=by rw[hl];exact h2
  obtain⟨g,q1,q2,q3⟩:=h3.rowAt (l:=knL W (n-1)) (f:=seV) (fun _=>rfl) (0,0) (by omega:k<(knL W (n-1)).length)
  have e:(knL W (n-1)).getD k (0,0)=(k+1,W.getD (k+1) 0):=by
   unfold knL;rw[gD,List.getElem?_map,List.getElem?_range hk];rfl
  rw[e] at q3;exact⟨g,q1,q2,q3 0 (by omega),q3 1 (by omega)⟩)
 have HZY:Hid (∀w' X,Sat ω w' (X*Z)→Sat ω w' (X*Y)):=h_ (fun w' X h1=>by
  rw[hZ] at h1;exact(h1.perm (by ac_rfl:_=(bk vb 157 (vwC n KB (n-1) kd lb)*row 54 2 (.slice KB (n-1) kd) (n-1) (vS (knL W (n-1))))*(X*Y))).right)
 obtain⟨gw,hgw⟩:∃gw,w1.heap.size=gw:=⟨_,rfl⟩;rw[hgw] at HM ⊢;generalize (w1.alloc (.cells (madeCells #[υ 0] n) 22))=wM at *
 have HST:Hid (∀w' V k x,Sat ω w' (bk gw 22 (vU V).toArray*Z)→V.length=n→k<n→gw<w'.heap.size∧(∀i,w'.frozen? (κ gw i)=false)∧(∃v,w'.cell? (κ gw k)=some v)∧Sat ω (w'.setCell (κ gw k) (.int .u64 ((x:Nat):Int))) (bk gw 22 (vU (V.set k x)).toArray*Z)):=h_ (fun w' V k x h1 hV hk=>by
  have hb:=h1.blk;exact⟨hb.lt,hb.frozen,⟨_,by rw[hb.cell];simp[Db (show k<V.length by omega)];rfl⟩,h1.put k _ (GR V k x)⟩)
 clear HS hZ HWH hmk HMW k0 k1 kl hgw;go_wp2_with fail;go_loopw [7] (fun v7 wr=>∃(i:Nat) (V:List Nat),i≤n-1∧v7=.int .i64 i∧Hid (V.length=n∧∀p,1≤p→p≤i→V.getD p 0=W.getD p 0)∧Hid (Sat ω wr (bk gw 22 (vU V).toArray*Z))) (fun v7 _=>n-(intOf v7).toNat)
 case atStart=>exact⟨0,List.replicate n 0,by omega,rfl,h_ ⟨by simp,fun p h1 h2=>absurd h1 (by omega)⟩,HM⟩
 case round =>
  obtain⟨i,V,hi,rfl,HV,HB⟩:=hrel;obtain⟨kl,k0,k1⟩:=HVB.o _ _ HB.o;by_cases hlt:i<n-1
  ·have d1:(decide ((i:Int)<((n-1:Nat):Int)))=true:=by simp;omega
   obtain⟨g,hA,hg,kc0,kc1⟩:=HKN.o _ _ i hlt HB.o;subst hA;obtain⟨x,hx⟩:∃x,W.getD (i+1) 0=x:=⟨_,rfl⟩;rw[hx] at kc1;obtain⟨m1,m2,⟨m4,m3⟩,_⟩:=HST.o _ V (i+1) x HB.o HV.o.1 (by omega)
   have HN:=h_ (HST.o _ V (i+1) x HB.o.drew HV.o.1 (by omega)).2.2.2
   have HV2:Hid ((V.set (i+1) x).length=n∧∀p,1≤p→p≤i+1→(V.set (i+1) x).getD p 0=W.getD p 0):=h_ ⟨by rw[List.length_set];exact HV.o.1,fun p h1 h2=>by
    have hl:=HV.o.1;by_cases e:p=i+1
    ·rw[e,hx,gD,List.getElem?_set_self (by omega)];rfl
    ·rw[gD,List.getElem?_set_ne (by omega),←gD]
     exact HV.o.2 p h1 (by omega)⟩
   have hiI:(i:Int)<((n-1:Nat):Int):=by omega
   have hiN:((i+1:Nat):Int)<(n:Int):=by omega
   have hiN2:(i:Int)+1<(n:Int):=by omega
   clear hx HVB HKN HST hW;go_upto_region 6 with fail
   refine rT 17 ?_;simp only[sD,sE,sF,sG];repeat still_step
   refine wpStill_nil ?_;go_wp2_with fail;exact⟨⟨i+1,_,by omega,by go_num,HV2,HN⟩,by simp[intOf];omega⟩
  ·obtain rfl:i=n-1:=by omega
   have d1:(decide (((n-1:Nat):Int)<((n-1:Nat):Int)))=false:=by simp
   go_wp2_with fail;go_loopw [8] (fun v8 wr=>∃(j:Nat) (U:List Nat),j≤m∧v8=.int .i64 j∧Hid (U.length=n∧∀p,1≤p→p<n→U.getD p 0=(cs.take j).foldl (Wy.appP p) (W.getD p 0))∧Hid (Sat ω wr (bk gw 22 (vU U).toArray*Z))) (fun v8 _=>m-(intOf v8).toNat)
   case atStart=>exact⟨0,V,by omega,rfl,h_ ⟨HV.o.1,fun p h1 h2=>HV.o.2 p h1 (by omega)⟩,HB⟩
   case round =>
    obtain⟨j,U,hj,rfl,HU,HD⟩:=hrel;by_cases hjm:j<m
    ·have d2:(decide ((j:Int)<(m:Int)))=true:=by simp;omega
     have hj5:j<1000:=by omega
     obtain⟨ul,u0,_⟩:=HVB.o _ _ HD.o;obtain⟨g,hB,hg,kc0,kc1⟩:=HCS.o _ _ j hjm (HZY.o _ _ HD.o);subst hB;have HTK:Hid (cs.take (j+1)=cs.take j++[cs.getD j (0,0)]):=h_ (by
      have hjl:j<cs.length:=by have:=HCM.o;omega
      rw[List.take_add_one,gD,List.getElem?_eq_getElem hjl];rfl)
     obtain⟨q,hq⟩:∃q,cs.getD j (0,0)=q:=⟨_,rfl⟩;rw[hq] at kc0 kc1 HTK;obtain⟨p,x⟩:=q;simp only at kc0 kc1;have hjI:(j:Int)<(m:Int):=by omega
     have HIN:=h_ (fun(w1:World) (h1:vb<w1.heap.size) h2=>UG w1 vb n p h1 h2)
     obtain⟨r,hr⟩:∃r,decide (1≤p∧p<n)=r:=⟨_,rfl⟩;rw[hr] at HIN;have HR:=h_ hr;clear hr hq;have HNX:Hid (r=false→U.length=n∧∀p,1≤p→p<n→U.getD p 0=(cs.take (j+1)).foldl (Wy.appP p) (W.getD p 0)):=h_ fun e=>by
      rw[e] at HR;have h1:=HR.o;refine⟨HU.o.1,fun z h2 h3=>?_⟩
      rw[HTK.o,List.foldl_append,HU.o.2 z h2 h3];show _=if p=z then x else _
      rw[if_neg (by simp at h1;omega)]
     have HNS:Hid (r=true→p<n∧(U.set p x).length=n∧∀z,1≤z→z<n→(U.set p x).getD z 0=(cs.take (j+1)).foldl (Wy.appP z) (W.getD z 0)):=h_ fun e=>by
      rw[e] at HR;have h1:=HR.o;have hl:=HU.o.1;simp at h1;refine⟨h1.2,by rw[List.length_set];exact hl,fun z h2 h3=>?_⟩
      rw[HTK.o,List.foldl_append];show _=if p=z then x else _
      by_cases e2:p=z
      ·rw[if_pos e2,←e2,gD,List.getElem?_set_self (by omega)];rfl
      ·rw[if_neg e2,gD,List.getElem?_set_ne e2,←gD];exact HU.o.2 z h2 h3
     clear HVB HKN HCS HTK HR HV HM HB kl k0 k1;cases r
     ·have HU2:=h_ (HNX.o rfl);go_wp2_with (go_at_call 75;refine(HIN.o _ ul u0).mono ?_;rintro e w3 ⟨rfl,rfl⟩);exact⟨⟨j+1,U,hjm,by go_num,HU2,HD⟩,by simp[intOf];omega⟩
     ·obtain⟨hpn,h4⟩:=HNS.o rfl;have HU2:=h_ h4;obtain⟨m1,m2,⟨m4,m3⟩,_⟩:=HST.o _ U p x HD.o HU.o.1 hpn;have HN:=h_ (HST.o _ U p x HD.o.drew HU.o.1 hpn).2.2.2;have hpI:(p:Int)<(n:Int):=by omega
      clear h4;go_upto_region 11 with(go_at_call 75;refine(HIN.o _ ul u0).mono ?_;rintro e w3 ⟨rfl,rfl⟩)
      refine rT 11 ?_;simp only[sD,sE,sF,sG];repeat still_step
      refine wpStill_nil ?_;go_wp2_with fail;exact⟨⟨j+1,_,hjm,by go_num,HU2,HN⟩,by simp[intOf];omega⟩
    ·obtain rfl:j=m:=by omega
     have d2:(decide ((j:Int)<(j:Int)))=false:=by simp
     have HF:Hid (U.length=n∧∀p,1≤p→p<n→U.getD p 0=cs.foldl (Wy.appP p) (W.getD p 0)):=h_ ⟨HU.o.1,fun p h1 h2=>by have h3:=HU.o.2 p h1 h2;rwa [←HCM.o,List.take_length] at h3⟩
     have HE:Hid (Sat ω wr (row 22 1 (.slice (some ⟨gw,0,none⟩) n n) n (vU U)*Y)):=h_ (by
      have h1:=(HZY.o _ _ HD.o).rowOf (n:=n) (size:=1) (by simp[Jf,HU.o.1]) (by unfold maxLen;omega)
      exact h1)
     clear HVB HKN HST HCS;go_wp2;go_ret;exact⟨_,_,U,rfl,HF,HE.o⟩
end
theorem RN {ω w:World}{F:HP}{A:Option Addr}{n c:Nat}{qs:List (Value×Value)}{ts:List PTo}(h:Sat ω w (row 52 14 (.slice A n c) n (toVs qs ts)*(toAll qs ts*F)))(hq:qs.length=ts.length){i:Nat}{t:PTo}(ht:ts[i]?=some t):
  ∃g B d R,A=some ⟨g,0,none⟩∧g<w.heap.size∧w.cell? (κ g (i*14+4))=some (.int .i64 t.kind)∧w.cell? (κ g (i*14+11))=some (.slice B t.cells.length d)∧toAll qs ts=row 54 2 (.slice B t.cells.length d) t.cells.length (vS t.cells)*R:=by
 obtain⟨⟨q1,q2⟩,R,hR,hj⟩:=GU qs ts hq i t ht;have h9:Sat ω w (row 54 2 q2 t.cells.length (vS t.cells)*(row 54 2 q1 t.reads.length (vS t.reads)*(R*(row 52 14 (.slice A n c) n (toVs qs ts)*F)))):=h.perm (by rw[hR];unfold toH;ac_rfl)
 obtain⟨B,d,rfl⟩:=h9.rowForm;obtain⟨g,hA,hg,h4⟩:=h.rowCellN (by rw[hj 4 (by omega)];rfl)
 obtain⟨g2,hA2,_,h11⟩:=h.rowCellN (by rw[hj 11 (by omega)];rfl)
 rw[hA] at hA2;cases hA2;exact⟨g,B,d,row 54 2 q1 t.reads.length (vS t.reads)*R,hA,hg,h4,h11,by rw[hR];unfold toH;ac_rfl⟩
def hpB (W:List Nat)(ts:List PTo)(o:List Nat)(k n:Nat)(V:List Nat):Prop:=V.length=n∧∀p,1≤p→p<n→V.getD p 0=((o.take k).map (Wy.at_ ts)).foldl (Wy.stepP p) (W.getD p 0)
theorem Pj {W V V':List Nat}{ts:List PTo}{o:List Nat}{k n j:Nat}(h:hpB W ts o k n V)(hj:o[k]?=some j)(hl:V'.length=n)(hv:∀p,1≤p→p<n→V'.getD p 0=Wy.stepP p (V.getD p 0) (Wy.at_ ts j)):hpB W ts o (k+1) n V':=by
 refine⟨hl,fun p h1 h2=>?_⟩
 rw[hv p h1 h2,h.2 p h1 h2,List.take_add_one,hj];simp
theorem Po (ω w:World)(F:HP)(A:Option Addr)(n c:Nat)(W:List Nat)(hW:W.length=n)(h32:32≤n)(h256:n≤256)(B:Option Addr)(m d:Nat)(qs:List (Value×Value))(ts:List PTo)(hq:qs.length=ts.length)(hm:ts.length=m)(hm5:m≤50000)(hs:∀t∈ts,t.cells.length≤1000)(k:Nat)(hk:k≤m)
  (h:Sat ω w (row 22 1 (.slice A n c) n (vU W)*(row 52 14 (.slice B m d) m (toVs qs ts)*(toAll qs ts*F)))):
  Calls prog 24 #[.slice A n c,.slice B m d,k] w fun e w'=>∃A' c' V,e=.returned (.slice A' n c')∧Hid (hpB W ts (Wy.orderP ts m) k n V) ∧
   Sat ω w' (row 22 1 (.slice A' n c') n (vU V)*(row 22 1 (.slice A n c) n (vU W)*(row 52 14 (.slice B m d) m (toVs qs ts)*(toAll qs ts*F)))):=by
 obtain⟨Y,hY⟩:∃Y:Go.Proofs.YtfodmgaliclhfaaGreatDoor.HP,Y=row 22 1 (.slice A n c) n (vU W)*(row 52 14 (.slice B m d) m (toVs qs ts)*(toAll qs ts*F)):=⟨_,rfl⟩;obtain⟨o,ho⟩:∃o,Wy.orderP ts m=o:=⟨_,rfl⟩;have hol:o.length=m:=by rw[←ho];exact Aw ts m
 have HOL:=h_ hol;have HLT:Hid (∀k,k<m→o.getD k 0<m):=h_ fun k hk=>by rw[←ho];exact DR ts hk
 have HOR:Hid (Calls prog 23 #[.slice B m d] w (RetR ω Y 3 1 m (vI o))):=h_ (by
  have h1:=Fr ω w (row 22 1 (.slice A n c) n (vU W)*F) B m d qs ts hq hm hm5 (h.perm (by ac_rfl))
  rw[ho] at h1;refine h1.mono ?_;rintro e w2 ⟨A2,c2,rfl,h2⟩;exact⟨A2,c2,rfl,h2.perm (by rw[hY];ac_rfl)⟩)
 have HA0:Hid (∀w1 X,Sat ω w1 (X*Y)→Calls prog 46 #[.slice A n c,.slice none 0 0] w1 fun e w'=>∃A' c' V,e=.returned (.slice A' n c')∧Hid (hpB W ts o 0 n V)∧Sat ω w' (row 22 1 (.slice A' n c') n (vU V)*(X*Y))):=h_ (fun w1 X h1=>by
  have h2:Sat ω w1 (row 22 1 (.slice A n c) n (vU W)*(row 54 2 (.slice none 0 0) 0 (vS [])*(X*(row 52 14 (.slice B m d) m (toVs qs ts)*(toAll qs ts*F))))):=by
   rw[hY] at h1;exact(h1.swap.perm (by ac_rfl:_=row 22 1 (.slice A n c) n (vU W)*(X*(row 52 14 (.slice B m d) m (toVs qs ts)*(toAll qs ts*F))))).nil 54 2 |>.swap
  refine(GD ω w1 _ A n c W hW h32 h256 none 0 0 [] rfl (by omega) h2).mono ?_
  rintro e w2 ⟨A',c',V,rfl,h3,h4⟩;exact⟨A',c',V,rfl,h_ ⟨h3.out.1,h3.out.2⟩,(h4.perm (by rw[hY];ac_rfl:_=row 54 2 (.slice none 0 0) 0 (vS [])*(row 22 1 (.slice A' n c') n (vU V)*(X*Y)))).right⟩)
 have HAT:Hid (∀w1 X j,j<m→Sat ω w1 (X*Y)→∃g B' d' R,B=some ⟨g,0,none⟩∧g<w1.heap.size∧w1.cell? (κ g (j*14+4))=some (.int .i64 ((Wy.at_ ts j).kind:Int))∧w1.cell? (κ g (j*14+11))=some (.slice B' (Wy.at_ ts j).cells.length d')∧toAll qs ts=row 54 2 (.slice B' (Wy.at_ ts j).cells.length d') (Wy.at_ ts j).cells.length (vS (Wy.at_ ts j).cells)*R):=h_ (fun w1 X j hj h1=>by
  have ht:ts[j]?=some (Wy.at_ ts j):=by
   unfold Wy.at_;rw[gD,List.getElem?_eq_getElem (by omega)];rfl
  rw[hY] at h1;exact RN (h1.perm (by ac_rfl:_=row 52 14 (.slice B m d) m (toVs qs ts)*(toAll qs ts*(X*(row 22 1 (.slice A n c) n (vU W)*F))))) hq ht)
 have HAP:Hid (∀w1 X j B' d' R A1 c1 V,j<m→V.length=n→toAll qs ts=row 54 2 (.slice B' (Wy.at_ ts j).cells.length d') (Wy.at_ ts j).cells.length (vS (Wy.at_ ts j).cells)*R→Sat ω w1 (row 22 1 (.slice A1 n c1) n (vU V)*(X*Y)) →
   Calls prog 46 #[.slice A1 n c1,.slice B' (Wy.at_ ts j).cells.length d'] w1 fun e w'=>∃A' c' V',e=.returned (.slice A' n c')∧Hid (V'.length=n∧∀p,1≤p→p<n→V'.getD p 0=(Wy.at_ ts j).cells.foldl (Wy.appP p) (V.getD p 0))∧Sat ω w' (row 22 1 (.slice A' n c') n (vU V')*(X*Y))):=h_ (fun w1 X j B' d' R A1 c1 V hj hV hR h1=>by
  have ht:Wy.at_ ts j∈ts:=by
   unfold Wy.at_;rw[gD,List.getElem?_eq_getElem (by omega)];exact List.getElem_mem _
  have h2:Sat ω w1 (row 22 1 (.slice A1 n c1) n (vU V)*(row 54 2 (.slice B' (Wy.at_ ts j).cells.length d') (Wy.at_ ts j).cells.length (vS (Wy.at_ ts j).cells)*(R*(X*(row 22 1 (.slice A n c) n (vU W)*(row 52 14 (.slice B m d) m (toVs qs ts)*F)))))):=h1.perm (by rw[hY,hR];ac_rfl)
  refine(GD ω w1 _ A1 n c1 V hV h32 h256 B' _ d' _ rfl (hs _ ht) h2).mono ?_;rintro e w2 ⟨A',c',V',rfl,h3,h4⟩;exact⟨A',c',V',rfl,h3,(h4.perm (by rw[hY,hR];ac_rfl:_=row 22 1 (.slice A1 n c1) n (vU V)*(row 22 1 (.slice A' n c') n (vU V')*(X*Y)))).right⟩)
 rw[←hY,ho];clear h hY hq hm hs ho;go_enter func24,ntmps24;go_wp2_with (first
  |(go_at_call 23;refine(HOR.o).mono ?_;rintro e w1 ⟨A2,c2,rfl,hs1⟩;have H1:=h_ hs1;clear hs1)
  |(go_at_call 46;refine(HA0.o _ _ H1.o).mono ?_;rintro e w2 ⟨A3,c3,V0,rfl,hv,hs2⟩;have H2:=h_ hs2;clear hs2))
 go_loopw [8,9] (fun v8 v9 wr=>∃(i:Nat) (A':Option Addr) (c':Nat) (V:List Nat),i≤k∧v9=.int .i64 i∧v8=.slice A' n c'∧Hid (hpB W ts o i n V)∧Hid (Sat ω wr (row 22 1 (.slice A' n c') n (vU V)*(row 3 1 (.slice A2 m c2) m (vI o)*Y)))) (fun _ v9 _=>k-(intOf v9).toNat)
 case atStart=>exact⟨0,A3,c3,V0,by omega,rfl,rfl,hv,H2⟩
 case round =>
  obtain⟨i,A',c',V,hi,rfl,rfl,HV,HS⟩:=hrel;by_cases hlt:i<k
  ·have d1:(decide ((i:Int)<(m:Int)))=true:=by simp;omega
   have d2:(decide ((i:Int)<(k:Int)))=true:=by simp;omega
   obtain⟨go,hA2,hgo,ko⟩:=HS.o.swap.rowCell (i:=i) (Jg o (by omega))
   have hj:=HLT.o i (by omega)
   have HJ:Hid (o[i]?=some (o.getD i 0)):=h_ (by rw[gD,List.getElem?_eq_getElem (by omega)];rfl)
   obtain⟨j,hjj⟩:∃j,o.getD i 0=j:=⟨_,rfl⟩;rw[hjj] at ko hj HJ;subst hA2;obtain⟨g,B',d',R,hB,hg,kk,kc,hR⟩:=HAT.o _ _ j hj HS.o.assoc';subst hB;have HRR:=h_ hR;have hiI:(i:Int)<(m:Int):=by omega
   have hjI:(j:Int)<(m:Int):=by omega
   have HAPj:=h_ (fun w1 X A1 c1 V hV h1=>HAP.o w1 X j B' d' R A1 c1 V hj hV HRR.o h1)
   have HST:=h_ (fun V' hl hv=>Pj (V':=V') HV.o HJ.o hl hv)
   clear hjj hR HAP HAT HOR HA0 HJ HRR;obtain⟨K,hK⟩:∃K,(Wy.at_ ts j).kind=K:=⟨_,rfl⟩;obtain⟨L,hL⟩:∃L,(Wy.at_ ts j).cells.length=L:=⟨_,rfl⟩;have HK:=h_ hK;rw[hK] at kk;rw[hL] at kc HAPj;clear hK hL;by_cases h2:K=2
   ·have d3:((K:Int)==2)=true:=by simp[h2]
    have HQ:Hid (∀V',V'.length=n∧(∀p,1≤p→p<n→V'.getD p 0=(Wy.at_ ts j).cells.foldl (Wy.appP p) (V.getD p 0))→hpB W ts o (i+1) n V'):=h_ (fun V' hv=>HST.o V' hv.1 fun p h1 h3=>by
     rw[hv.2 p h1 h3];unfold Wy.stepP;rw[if_pos (by rw[HK.o];exact h2)])
    clear h2 HST HK;go_wp2_with (go_at_call 46;refine(HAPj.o _ _ A' c' V HV.o.1 HS.o).mono ?_;rintro e w4 ⟨A5,c5,V5,rfl,hv5,hs5⟩;have H5:=h_ hs5;clear hs5);exact⟨⟨i+1,A5,c5,V5,hlt,by go_num,rfl,h_ (HQ.o V5 hv5.out),H5⟩,by simp[intOf];omega⟩
   ·have d3:((K:Int)==2)=false:=by simp;omega
    have HQ:Hid (hpB W ts o (i+1) n V):=h_ (HST.o V HV.o.1 fun p h1 h3=>by unfold Wy.stepP;rw[if_neg (by rw[HK.o];exact h2)])
    clear h2 HST HK;go_wp2_with fail;exact⟨⟨i+1,A',c',V,hlt,by go_num,rfl,HQ,HS⟩,by simp[intOf];omega⟩
  ·obtain rfl:i=k:=by omega
   have d2:(decide ((i:Int)<(i:Int)))=false:=by simp
   have HZ:=h_ (HS.o.swap.right);clear HAP HAT HOR HA0;by_cases hm2:i<m
   ·have d1:(decide ((i:Int)<(m:Int)))=true:=by simp;omega
    go_wp2_with fail;go_ret;exact⟨A',c',V,rfl,HV,HZ.o⟩
   ·have d1:(decide ((i:Int)<(m:Int)))=false:=by simp;omega
    go_wp2_with fail;go_ret;exact⟨A',c',V,rfl,HV,HZ.o⟩
end Go.Proofs.YtfodmgaliclhfaaGreatDoor

/- Lemmas. -/
import Derived.Test.YtfodmgaliclhfaaGreatDoorGOkD
namespace Go.Proofs.YtfodmgaliclhfaaGreatDoor
set_option linter.unusedVariables false
set_option linter.unusedSimpArgs false
set_option maxRecDepth 100000
open Go.RowKit Iq Jq
section
namespace Wy
abbrev AM:=Nat→Option (Nat×Nat)
def val (H:AM)(p:Nat):Nat→Nat
 |0=>0
 |k+1=>match H (k+1) with
  |some c=>if c.1=p then c.2 else val H p k
  |none=>val H p k
def ver (f:Nat→Nat)(H:AM)(S:Nat):Nat→Nat
 |0=>0
 |k+1=>match H (k+1) with
  |some c=>if f c.1=S then k+1 else ver f H S k
  |none=>ver f H S k
def ins (H:AM)(k:Nat)(c:Nat×Nat):AM:=fun j=>if j=k then some c else H j
section
variable {f : Nat → Nat} {H : AM} {S p k b : Nat} {c : Nat × Nat}
theorem BO (b:Nat):ver f H S b≤b:=by
 induction b with
 |zero=>exact Nat.le_refl _
 |succ b ih=>grind [ver]
theorem Cl (b:Nat):∀k c,ver f H S b<k→k≤b→H k=some c→f c.1≠S:=by
 induction b with
 |zero=>intro k c h1 h2;omega
 |succ b ih=>grind [ver]
theorem OW (a:Nat):∀b,a≤b→(∀k c,a<k→k≤b→H k=some c→f c.1≠S)→ver f H S b=ver f H S a:=by
 intro b;induction b with
 |zero =>
  intro h _;have:a=0:=by omega
  rw[this]
 |succ b ih =>
  intro h h2;by_cases e:a=b+1
  ·rw[e]
  ·have h3:=h2 (b+1);have h4:=ih (by omega) fun k c h5 h6=>h2 k c h5 (by omega)
   cases hc:H (b+1)<;>grind [ver]
theorem GO (a:Nat):∀b,a≤b→(∀k c,a<k→k≤b→H k=some c→c.1≠p)→val H p b=val H p a:=by
 intro b;induction b with
 |zero =>
  intro h _;have:a=0:=by omega
  rw[this]
 |succ b ih =>
  intro h h2;by_cases e:a=b+1
  ·rw[e]
  ·have h3:=h2 (b+1);have h4:=ih (by omega) fun k c h5 h6=>h2 k c h5 (by omega)
   cases hc:H (b+1)<;>grind [val]
theorem LO {a b:Nat}(h:a≤b)(hv:ver f H S b≤a):ver f H S b=ver f H S a:=by
 refine OW a b h fun k c h1 h2=>Cl b k c (by omega) h2
theorem LP {a b:Nat}(h:a≤b)(hv:ver f H (f p) b≤a):val H p b=val H p a:=by
 refine GO a b h fun k c h1 h2 h3 e=>Cl (f:=f) (S:=f p) b k c (by omega) h2 h3 (by rw[e])
theorem OX {a b:Nat}(h:a≤b):ver f H S a≤ver f H S b:=by
 induction b with
 |zero =>
  have:a=0:=by omega
  rw[this];exact Nat.le_refl _
 |succ b ih =>
  have:=BO (f:=f) (H:=H) (S:=S) a
  grind [ver]
theorem Je (h:b<k):val (ins H k c) p b=val H p b:=by
 induction b with
 |zero=>rfl
 |succ b ih=>grind [val,ins]
theorem Ja (h:b<k):ver f (ins H k c) S b=ver f H S b:=by
 induction b with
 |zero=>rfl
 |succ b ih=>grind [ver,ins]
theorem Jd (hk:H k=none)(h:c.1≠p):val (ins H k c) p b=val H p b:=by
 induction b with
 |zero=>rfl
 |succ b ih=>grind [val,ins]
theorem JZ (hk:H k=none)(h:f c.1≠S):ver f (ins H k c) S b=ver f H S b:=by
 induction b with
 |zero=>rfl
 |succ b ih=>grind [ver,ins]
theorem Jb (hk:H k=none):ver f H S b≤ver f (ins H k c) S b:=by
 induction b with
 |zero=>exact Nat.le_refl _
 |succ b ih =>
  have:=BO (f:=f) (H:=H) (S:=S) b
  grind [ver,ins]
theorem Jc (h0:0<k)(h:k≤b)(hv:ver f H (f c.1) b<k):ver f (ins H k c) (f c.1) b=k:=by
 have e:=OW (f:=f) (H:=ins H k c) (S:=f c.1) k b h fun j d h1 h2 h3=>Cl (f:=f) (S:=f c.1) (H:=H) b j d (by omega) h2 (by simpa [ins,show j≠k by omega] using h3)
 rw[e];obtain⟨k,rfl⟩:∃j,k=j+1:=⟨k-1,by omega⟩
 simp[ver,ins]
end
end Wy
end
section
namespace Wy
inductive St where
 |pre
 |tick (k:Nat)
 |wr (k p v:Nat)
 |done (k p v:Nat)
def St.at_:St→Option Nat
 | .pre=>none
 | .tick k=>some k
 | .wr k _ _=>some k
 | .done k _ _=>some k
abbrev Bd:=Nat→Option (Nat×St)
def Ah {α:Type}(A:Nat→α)(i:Nat)(o:α):Nat→α:=fun k=>if k=i then o else A k
def V (f:Nat→Nat)(H:AM)(C:Bd)(S v b:Nat):Prop:=ver f H S b=v∧∀i s k,C i=some (S,s)→s.at_=some k→b<k
def K (f:Nat→Nat)(H:AM)(C:Bd)(p w b:Nat):Prop:=val H p b=w∧∀i s k,C i=some (f p,s)→s.at_=some k→b<k
def P2 (p:Nat):Prop:=p=8∨p=13
def DJ (f W:Nat→Nat)(t:Nat)(H:AM)(S w:Nat):St→Prop
 | .pre=>w=ver f H S t∧∀p,P2 p→f p=S→W p=val H p t
 | .tick k=>w=ver f H S t∧(∀p,P2 p→f p=S→W p=val H p t)∧k≤t∧H k=none∧w<k
 | .wr k q v=>0<k∧P2 q∧f q=S∧k≤t∧H k=some (q,v)∧ver f H S t=k∧∀p,P2 p→f p=S→p≠q→W p=val H p t
 | .done k q v=>0<k∧P2 q∧f q=S∧k≤t∧H k=some (q,v)∧ver f H S t=k∧∀p,P2 p→f p=S→W p=val H p t
structure LI (f:Nat→Nat) (n:Nat) (L:Nat→PLk) (W:Nat→Nat) (t:Nat) (H:AM) (C:Bd):Prop where
 free:∀S,(L S).held=false→(L S).own=0∧(S<n→(L S).ver=ver f H S t∧∀p,P2 p→f p=S→W p=val H p t)
 held:∀S,(L S).held=true→∃st,C (L S).own=some (S,st)
 mine:∀i S st,C i=some (S,st)→S<n∧(L S).held=true∧(L S).own=i∧DJ f W t H S (L S).ver st
 fut:∀k,t<k→H k=none
 uniq:∀i j S T k,C i=some (S,.tick k)→C j=some (T,.tick k)→i=j
structure Ar (f:Nat→Nat) (a:Nat) (H:AM) (C:Bd) (b:Nat) (H':AM) (C':Bd):Prop where
 clock:a≤b
 v:∀S v t,t≤a→V f H C S v t→V f H' C' S v t
 k:∀p w t,t≤a→K f H C p w t→K f H' C' p w t
 ver:∀S,ver f H S a≤ver f H' S b
 has:∀k c,H k=some c→H' k=some c
section
variable {f W W' : Nat → Nat} {n a b t : Nat} {L L' : Nat → PLk} {H H' : AM} {C C' : Bd} {i j S k p v w : Nat} {st : St}
theorem Ar.refl (f:Nat→Nat)(a:Nat)(H:AM)(C:Bd):Ar f a H C a H C:=⟨Nat.le_refl _,fun _ _ _ _ h=>h,fun _ _ _ _ h=>h,fun _=>Nat.le_refl _,fun _ _ h=>h⟩
theorem Ar.trans {d:Nat}{H2:AM}{C2:Bd}(h:Ar f a H C b H' C')(h2:Ar f b H' C' d H2 C2):Ar f a H C d H2 C2 :=
 ⟨Nat.le_trans h.clock h2.clock,fun S v t ht hv=>h2.v S v t (Nat.le_trans ht h.clock) (h.v S v t ht hv),fun S v t ht hv=>h2.k S v t (Nat.le_trans ht h.clock) (h.k S v t ht hv),fun S=>Nat.le_trans (h.ver S) (h2.ver S),fun k c e=>h2.has k c (h.has k c e)⟩
theorem Ar.own (h:∀i S s k,C' i=some (S,s)→s.at_=some k→(∃s',C i=some (S,s')∧s'.at_=some k)∨a<k)(hab:a≤b):Ar f a H C b H C' :=
 ⟨hab,fun S v t ht hv=>⟨hv.1,fun i s k e e2=>(h i S s k e e2).elim (fun⟨s',e3,e4⟩=>hv.2 i s' k e3 e4) (by omega)⟩,fun p w t ht hv=>⟨hv.1,fun i s k e e2=>(h i _ s k e e2).elim (fun⟨s',e3,e4⟩=>hv.2 i s' k e3 e4) (by omega)⟩,fun S=>OX hab,fun _ _ e=>e⟩
theorem LI.take (h:LI f n L W t H C)(hS:S<n)(hf:(L S).held=false)(hi:C i=none):
  LI f n (Ah L S ⟨(L S).ver,true,i⟩) W t H (Ah C i (some (S,.pre)))∧Ar f t H C t H (Ah C i (some (S,.pre))):=by
 obtain⟨f1,f2⟩:=h.free S hf;refine⟨⟨fun T hT=>?_,fun T hT=>?_,fun j T st e=>?_,h.fut,fun j1 j2 T1 T2 k e1 e2=>?_⟩,Ar.own (fun j T s k e e2=>?_) (by omega)⟩
 ·have:=h.free T
  grind [Ah]
 ·have:=h.held T
  by_cases e:T=S
  ·subst e;exact⟨.pre,by grind [Ah]⟩
  ·grind [Ah]
 ·have:=h.mine j T st
  grind [Ah,DJ]
 ·have:=h.uniq j1 j2 T1 T2 k
  grind [Ah]
 ·grind [Ah,St.at_]
theorem LI.back (h:LI f n L W t H C)(hi:C i=some (S,st))(hs:st=.pre∨∃k,st=.tick k):
  LI f n (Ah L S ⟨(L S).ver,false,0⟩) W t H (Ah C i none)∧Ar f t H C t H (Ah C i none):=by
 obtain⟨m1,m2,m3,m4⟩:=h.mine i S st hi;refine⟨⟨fun T hT=>?_,fun T hT=>?_,fun j T st' e=>?_,h.fut,fun j1 j2 T1 T2 k e1 e2=>?_⟩,Ar.own (fun j T s k e e2=>?_) (by omega)⟩
 ·have:=h.free T
  rcases hs with rfl|⟨k,rfl⟩<;>grind [Ah,DJ]
 ·have:=h.held T
  grind [Ah]
 ·have:=h.mine j T st'
  grind [Ah]
 ·have:=h.uniq j1 j2 T1 T2 k
  grind [Ah]
 ·grind [Ah,St.at_]
theorem LI.tick (h:LI f n L W t H C)(hi:C i=some (S,.pre)):
  LI f n L W (t+1) H (Ah C i (some (S,.tick (t+1))))∧Ar f t H C (t+1) H (Ah C i (some (S,.tick (t+1)))):=by
 have hn:=h.fut (t+1) (by omega)
 have hv:∀S,ver f H S (t+1)=ver f H S t:=fun S=>by simp[ver,hn]
 have hw:∀p,val H p (t+1)=val H p t:=fun p=>by simp[val,hn]
 have hle:=fun S=>BO (f:=f) (H:=H) (S:=S) t
 refine⟨⟨fun T hT=>?_,fun T hT=>?_,fun j T st' e=>?_,fun k hk=>h.fut k (by omega),fun j1 j2 T1 T2 k e1 e2=>?_⟩,Ar.own (fun j T s k e e2=>?_) (by omega)⟩
 ·have:=h.free T hT
  grind
 ·have:=h.held T
  grind [Ah]
 ·by_cases hj:j=i
  ·have:=h.mine i S .pre hi
   grind [Ah,DJ]
  ·have:=h.mine j T st'
   cases st'<;>grind [Ah,DJ]
 ·have:=h.uniq j1 j2 T1 T2 k
  have:=h.mine j1 T1
  have:=h.mine j2 T2
  grind [Ah,DJ]
 ·grind [Ah,St.at_]
theorem LI.commit (h:LI f n L W t H C)(hi:C i=some (S,.tick k))(hp:P2 p)(hS:f p=S)(v:Nat):
  LI f n L W t (ins H k (p,v)) (Ah C i (some (S,.wr k p v)))∧Ar f t H C t (ins H k (p,v)) (Ah C i (some (S,.wr k p v))):=by
 obtain⟨m1,m2,m3,m4,m5,m6,m7,m8⟩:=h.mine i S _ hi;have e1:∀T b,T≠S→ver f (ins H k (p,v)) T b=ver f H T b:=fun T b hT=>JZ m7 (by grind)
 have e2:∀q b,q≠p→val (ins H k (p,v)) q b=val H q b:=fun q b hq=>Jd m7 (by grind)
 have e3:ver f (ins H k (p,v)) S t=k:=by subst hS;exact Jc (c:=(p,v)) (by omega) m6 (by grind)
 have e4:∀T b,b<k→ver f (ins H k (p,v)) T b=ver f H T b:=fun T b hb=>Ja hb
 have e5:∀q b,b<k→val (ins H k (p,v)) q b=val H q b:=fun q b hb=>Je hb
 have hu:=fun j T=>h.uniq i j S T k hi
 refine⟨⟨fun T hT=>?_,fun T hT=>?_,fun j T st' e=>?_,fun j hj=>?_,fun j1 j2 T1 T2 k' e1 e2=>?_⟩,?_⟩
 ·have:=h.free T hT
  grind
 ·have:=h.held T
  grind [Ah]
 ·by_cases hj:j=i
  ·grind [Ah,DJ,ins]
  ·have:=h.mine j T st'
   cases st'<;>grind [Ah,DJ,ins]
 ·have:=h.fut j hj
  grind [ins]
 ·have:=h.uniq j1 j2 T1 T2 k'
  grind [Ah]
 ·refine⟨Nat.le_refl _,fun T w b hb hv=>?_,fun q w b hb hv=>?_,fun T=>Jb m7,fun j c e=>?_⟩
  ·have:=hv.2 i (.tick k) k
   exact⟨by grind [V,St.at_],by have:=hv.2;grind [Ah,St.at_]⟩
  ·have:=hv.2 i (.tick k) k
   exact⟨by grind [K,St.at_],by have:=hv.2;grind [Ah,St.at_]⟩
  ·grind [ins]
theorem LI.store (h:LI f n L W t H C)(hi:C i=some (S,.wr k p v)):
  LI f n L (Ah W p v) t H (Ah C i (some (S,.done k p v)))∧Ar f t H C t H (Ah C i (some (S,.done k p v))):=by
 obtain⟨m1,m2,m3,m0,m4,m5,m6,m7,m8,m9⟩:=h.mine i S _ hi;have e:val H p t=v:=by
  rw[GO (p:=p) k t m6 fun j c h1 h2 h3 e=>Cl (f:=f) (S:=S) t j c (by omega) h2 h3 (by rw[e];exact m5)]
  obtain⟨k,rfl⟩:∃j,k=j+1:=⟨k-1,by omega⟩
  simp[val,m7]
 refine⟨⟨fun T hT=>?_,fun T hT=>?_,fun j T st' e=>?_,h.fut,fun j1 j2 T1 T2 k' e1 e2=>?_⟩,Ar.own (fun j T s k e e2=>?_) (by omega)⟩
 ·have:=h.free T hT
  grind [Ah]
 ·have:=h.held T
  grind [Ah]
 ·by_cases hj:j=i
  ·grind [Ah,DJ]
  ·have:=h.mine j T st'
   cases st'<;>grind [Ah,DJ]
 ·have:=h.uniq j1 j2 T1 T2 k'
  grind [Ah]
 ·grind [Ah,St.at_]
theorem LI.raise (h:LI f n L W t H C)(hi:C i=some (S,.done k p v)):
  LI f n (Ah L S ⟨k,false,0⟩) W t H (Ah C i none)∧Ar f t H C t H (Ah C i none):=by
 obtain⟨m1,m2,m3,m0,m4,m5,m6,m7,m8,m9⟩:=h.mine i S _ hi;refine⟨⟨fun T hT=>?_,fun T hT=>?_,fun j T st' e=>?_,h.fut,fun j1 j2 T1 T2 k' e1 e2=>?_⟩,Ar.own (fun j T s k e e2=>?_) (by omega)⟩
 ·have:=h.free T
  grind [Ah]
 ·have:=h.held T
  grind [Ah]
 ·have:=h.mine j T st'
  grind [Ah]
 ·have:=h.uniq j1 j2 T1 T2 k'
  grind [Ah]
 ·grind [Ah,St.at_]
end
end Wy
end
section
namespace Wy
section
variable {f W W' : Nat → Nat} {n a b t t' : Nat} {L L' : Nat → PLk} {H H' : AM} {C C' : Bd} {i j S k p v w st : Nat}
theorem LI.look (h:LI f n L W t H C)(hS:S<n)(hf:(L S).held=false)(h1:(L S).ver≤b)(h2:b≤t):V f H C S (L S).ver b:=by
 obtain⟨_,f2⟩:=h.free S hf;obtain⟨f3,_⟩:=f2 hS;refine⟨?_,fun i s k e e2=>?_⟩
 ·rw[←LO (f:=f) (H:=H) (S:=S) h2 (by omega),f3]
 ·have:=h.mine i S s e
  grind
theorem V.know (h:V f H C (f p) v a)(h2:V f H C (f p) v b)(hab:a≤b)(hk:K f H C p w a):K f H C p w b:=by
 refine⟨?_,h2.2⟩;rw[LP (f:=f) hab (by have:=BO (f:=f) (H:=H) (S:=f p) a;grind [V])]
 exact hk.1
theorem LI.word (h:LI f n L W t H C)(hp:P2 p)(hS:f p<n)(hv:V f H C (f p) v st)(hst:st≤t):K f H C p (W p) st∨st<ver f H (f p) t:=by
 by_cases e:ver f H (f p) t≤st
 ·refine .inl ⟨?_,hv.2⟩;rw[←LP (f:=f) hst e];cases hh:(L (f p)).held with
  |false=>exact(((h.free _ hh).2 hS).2 p hp rfl).symm
  |true =>
   obtain⟨s,hs⟩:=h.held _ hh
   have:=h.mine _ _ s hs
   have h2:∀k,s.at_=some k→st<k:=fun k e=>hv.2 _ s k hs e
   cases s with
   |pre=>grind [DJ]
   |tick k=>grind [DJ]
   |wr k q v=>have:=h2 k rfl;grind [DJ]
   |done k q v=>have:=h2 k rfl;grind [DJ]
 ·right;omega
structure Dw (f:Nat→Nat) (t:Nat) (H:AM) (C:Bd) (p st:Nat) (x:PFe):Prop where
 at_:x.at_=p
 stripe:x.stripe=f p
 stamp:x.stamp=st
 lock:x.rule.fin=0→x.state≠0→x.lock.held=false∧V f H C (f p) x.lock.ver st
 word:x.rule.fin=0→x.state=2→K f H C p x.word st∨st<ver f H (f p) t
 state:x.state≤2
 fin:x.rule.fin=2→V f H C (f p) x.lock.ver st∧K f H C p x.word st
 fins:x.rule.fin=0∨x.rule.fin=2∨x.rule.fin=5∨x.rule.fin=6
theorem Dw.rely {x:PFe}(h:Dw f t H C p st x)(hr:Ar f t H C t' H' C')(hst:st≤t):Dw f t' H' C' p st x:=by
 obtain⟨h1,h2,h3,h4,h5,h6,h7,h8⟩:=h
 have:=hr.ver (f p)
 exact⟨h1,h2,h3,fun a b=>⟨(h4 a b).1,hr.v _ _ _ hst (h4 a b).2⟩,fun a b=>(h5 a b).imp (hr.k _ _ _ hst) (by omega),h6,fun a=>⟨hr.v _ _ _ hst (h7 a).1,hr.k _ _ _ hst (h7 a).2⟩,h8⟩
theorem DL (r:PPat)(l:PLk):(r.waits l).2.fin=r.fin:=by unfold PPat.waits;split<;>rfl
theorem Gi (r:PPat){a:PAns}(h:a.err=0):r.hear a=r:=by unfold PPat.hear;rw[if_neg (by omega)]
theorem Dw.new (me spins:Nat):Dw f t H C p st (PFe.new me p (f p) spins st):=by
 constructor<;>simp[PFe.new,PPat.new]
theorem Dw.tell {x:PFe}(h:Dw f t H C p st x)(hi:LI f n L W t H C)(hp:P2 p)(hS:f p<n)(hst:st≤t)(h0:x.rule.fin=0){a:PAns}(he:a.err=0)
  (ha:if x.state=1 then a.word=W p else a.lock=L (f p)):Dw f t H C p st (x.tell a):=by
 obtain⟨h1,h2,h3,h4,h5,h6,h7,h8⟩:=h;unfold PFe.tell;simp only[Gi _ he,h0,ne_eq,not_true_eq_false,if_false];by_cases e1:x.state=1
 ·have:=hi.word hp hS (h4 h0 (by omega)).2 hst
  simp only[e1,if_true] at ha ⊢;constructor<;>grind
 ·simp only[e1,if_false] at ha ⊢;by_cases e2:x.state=2∧a.lock=x.lock
  ·rw[if_pos e2];obtain⟨g1,g2⟩:=h4 h0 (by omega)
   have hf:=hi.free (f p) (by grind)
   have hle:=BO (f:=f) (H:=H) (S:=f p) st
   have:=h5 h0 e2.1
   constructor<;>grind [PPat.stop,V]
  ·rw[if_neg e2];unfold PFe.found;have hw:=DL x.rule a.lock;by_cases e3:a.lock.held=true
   ·simp only[e3,if_true];split<;>constructor<;>grind [PPat.stop]
   ·have hl:=hi.look (S:=f p) (b:=st) hS (by grind)
    simp only[e3,if_false];by_cases e4:x.stamp<a.lock.ver
    ·simp only[e4,if_true];constructor<;>grind [PPat.stop]
    ·simp only[e4,if_false];constructor<;>grind [PPat.stop]
end
end Wy
end
section
namespace Wy
def Vs (f:Nat→Nat)(H:AM)(C:Bd)(l:List (Nat×Nat))(k b:Nat):Prop:=∀j,j<k→V f H C (l.getD j (0,0)).1 (l.getD j (0,0)).2 b
section
variable {f W W' : Nat → Nat} {n a b t t' : Nat} {L L' : Nat → PLk} {H H' : AM} {C C' : Bd} {i j S k p v w st : Nat} {l : List (Nat × Nat)}
theorem Vs.rely (h:Vs f H C l k b)(hr:Ar f t H C t' H' C')(hb:b≤t):Vs f H' C' l k b:=fun j hj=>hr.v _ _ _ hb (h j hj)
structure Bn (f:Nat→Nat) (t:Nat) (H:AM) (C:Bd) (st:Nat) (l:List (Nat×Nat)) (x:PEx):Prop where
 seen:x.seen=l
 from_:x.loaded=true→st≤x.stamp∧x.stamp≤t
 all:x.loaded=true→Vs f H C l x.at_ x.stamp
 le:x.at_≤l.length
 at0:x.loaded=false→x.at_=0∧x.rule.fin=0
 lt:x.rule.fin=0→x.loaded=true→x.at_<l.length
 fin:x.rule.fin=2→x.loaded=true∧x.at_=l.length
 fins:x.rule.fin=0∨x.rule.fin=2∨x.rule.fin=5
theorem Bn.rely {x:PEx}(h:Bn f t H C st l x)(hr:Ar f t H C t' H' C'):Bn f t' H' C' st l x:=by
 have:=hr.clock
 obtain⟨h1,h2,h3,h4,h5,h6,h7,h8⟩:=h;exact⟨h1,fun e=>by have:=h2 e;omega,fun e=>(h3 e).rely hr (h2 e).2,h4,h5,h6,h7,h8⟩
theorem Bn.new (me spins:Nat):Bn f t H C st l (PEx.new me spins l):=by
 constructor<;>simp[PEx.new,PPat.new]
theorem Bn.over {x:PEx}(h0:x.rule.fin=0)(hl:x.loaded=true)(h1:x.seen=l)(h2:st≤x.stamp∧x.stamp≤t)(h3:Vs f H C l x.at_ x.stamp)(h4:x.at_≤l.length):Bn f t H C st l x.over:=by
 unfold PEx.over;by_cases e:x.at_=x.seen.length
 ·rw[if_pos e];constructor<;>grind [PPat.stop]
 ·rw[if_neg e];constructor<;>grind
theorem Bn.tell {x:PEx}(h:Bn f t H C st l x)(hi:LI f n L W t H C)(hv:Vs f H C l l.length st)(hn:∀j,j<l.length→(l.getD j (0,0)).1<n)(hst:st≤t)(h0:x.rule.fin=0){a:PAns}(he:a.err=0)
  (ha:if x.loaded=true then a.lock=L (l.getD x.at_ (0,0)).1 else a.word=t):Bn f t H C st l (x.tell a):=by
 obtain⟨h1,h2,h3,h4,h5,h6,h7,h8⟩:=h;unfold PEx.tell;simp only[Gi _ he,h0,ne_eq,not_true_eq_false,if_false];by_cases e1:x.loaded=false
 ·simp only[e1,if_true];refine Bn.over h0 rfl h1 ⟨by grind,by grind⟩ (fun j hj=>?_) h4
  exact absurd hj (by have:=(h5 e1).1;show ¬j<x.at_;omega)
 ·have e1':x.loaded=true:=by simpa using e1
  rw[if_neg e1];rw[if_pos e1'] at ha;have hw:=DL x.rule a.lock;by_cases e3:a.lock.held=true
  ·simp only[e3,if_true];split<;>constructor<;>grind [PPat.stop]
  ·rw[if_neg e3];by_cases e4:a.lock.ver≠(x.seen.getD x.at_ (0,0)).2
   ·rw[if_pos e4];constructor<;>grind [PPat.stop]
   ·rw[if_neg e4];refine Bn.over h0 e1' h1 (h2 e1') (fun j hj=>?_) (h6 h0 e1')
    by_cases e5:j<x.at_
    ·exact h3 e1' j e5
    ·obtain rfl:j=x.at_:=by show j=_;have:j<x.at_+1:=hj;omega
     have hlt:=h6 h0 e1';have hle:=BO (f:=f) (H:=H) (S:=(l.getD x.at_ (0,0)).1) st;have hl:=hi.look (S:=(l.getD x.at_ (0,0)).1) (b:=x.stamp) (hn _ hlt) (by grind) (by have:=hv _ hlt;have:=h2 e1';grind [V]) (h2 e1').2
     have:(L (l.getD x.at_ (0,0)).1).ver=(l.getD x.at_ (0,0)).2:=by grind
     rw[←this];exact hl
end
end Wy
end
section
namespace Wy
def Aq (L:Nat→PLk)(W:Nat→Nat)(t:Nat)(o:POp):PAns×(Nat→PLk)×(Nat→Nat)×Nat :=
 match o.kind with
 |1=>({PAns.zero with word:=W o.at_},L,W,t)
 |2=>(PAns.zero,L,Ah W o.at_ o.word,t)
 |3=>({PAns.zero with lock:=L o.at_},L,W,t)
 |4=>if L o.at_=o.was then({PAns.zero with done:=true},Ah L o.at_ o.lock,W,t) else(PAns.zero,L,W,t)
 |5=>(PAns.zero,Ah L o.at_ o.lock,W,t)
 |6=>({PAns.zero with word:=t},L,W,t)
 |7=>if t=o.old then({PAns.zero with done:=true},L,W,o.word) else(PAns.zero,L,W,t)
 |_=>(PAns.zero,L,W,t)
structure BB (f:Nat→Nat) (L:Nat→PLk) (t:Nat) (H:AM) (C:Bd) (i st:Nat) (l:List (Nat×Nat)) (q v:Nat) (c:PCo):Prop where
 me:c.me=i
 stamp:c.stamp=st
 seen:c.seen=l
 cells:c.cells=[(q,v)]
 stripes:c.stripes=[f q]
 s0:c.state=0→c.was=[]∧C i=none∧c.rule.fin=0
 s1:c.state=1→c.was=[]∧C i=none∧c.rule.fin=0∧c.lock.held=false∧c.lock.own=0∧c.lock.ver<4611686018427387904
 s2:c.state=2∨c.state=3→c.was=[⟨(L (f q)).ver,false,0⟩]∧C i=some (f q,.pre)∧c.rule.fin=0
 s3:c.state=3→st≤c.now∧c.now≤t
 s4:c.state=4→c.was=[⟨(L (f q)).ver,false,0⟩]∧C i=some (f q,.tick (c.now+1))∧c.rule.fin=0∧st≤c.now∧c.now<t∧Vs f H C l c.at_ c.now∧c.at_<l.length∧(l.getD c.at_ (0,0)).1≠f q
 s5:c.state=5→C i=some (f q,.wr (c.now+1) q v)∧c.at_=0∧c.rule.fin=0
 s6:c.state=6→c.rule.fin=0∧c.at_=0∧C i=some (f q,.done (c.now+1) q v)∨c.rule.fin=2∧C i=none
 s7:c.state=7→c.rule.fin=0∧c.at_=0∧c.was=[⟨(L (f q)).ver,false,0⟩]∧(C i=some (f q,.pre)∨∃k,C i=some (f q,.tick k))∧(c.fin=4∨c.fin=5)∨(c.rule.fin=4∨c.rule.fin=5)∧C i=none
 z:c.state≤3→c.at_=0
 le:c.state≤7
 writing:c.writing=true↔c.state=5∨c.state=6
 good:c.writing=true→Vs f H C l l.length c.now∧st≤c.now∧c.now<t∧H (c.now+1)=some (q,v)
section
variable {f W W' : Nat → Nat} {n a b t t' : Nat} {L L' : Nat → PLk} {H H' : AM} {C C' : Bd} {i j S k p v w q st : Nat} {l : List (Nat × Nat)} {c : PCo}
theorem BB.rely (h:BB f L t H C i st l q v c)(hr:Ar f t H C t' H' C')(hc:C' i=C i)(hL:∀S s,C i=some (S,s)→L' S=L S):BB f L' t' H' C' i st l q v c:=by
 obtain⟨h1,h2,h3,h4,h5,h6,h7,h8,h9,h10,h11,h12,h13,hz,h14,h15,h16⟩:=h;have hcl:=hr.clock;refine⟨h1,h2,h3,h4,h5,by grind,by grind,by grind,by grind,fun e=>?_,by grind,by grind,by grind,hz,h14,h15,fun e=>?_⟩
 ·obtain⟨g1,g2,g3,g4,g5,g6,g7,g8⟩:=h10 e;exact⟨by grind,by grind,g3,g4,by omega,g6.rely hr (by omega),g7,g8⟩
 ·obtain⟨g1,g2,g3,g4⟩:=h16 e;exact⟨g1.rely hr (by omega),g2,by omega,hr.has _ _ g4⟩
theorem BB.new (spins:Nat)(hC:C i=none)(nn wide:Nat)(hf:f q=stripeOf q nn wide):BB f L t H C i st l q v (PCo.new i spins st l [(q,v)] nn wide):=by
 have e:stripesOf [(q,v)] nn wide=[f q]:=by rw[hf];rfl
 unfold PCo.new PCo.more;rw[e];constructor<;>simp[PPat.new,hC]
end
end Wy
end
section
namespace Wy
section
variable {f W W' : Nat → Nat} {n a b t t' : Nat} {L L' : Nat → PLk} {H H' : AM} {C C' : Bd} {i j S k p v w q st : Nat} {l : List (Nat × Nat)} {c : PCo}
theorem LI.own (h:LI f n L W t H C)(hi:C i=some (S,.tick (k+1))):V f H C S (L S).ver k:=by
 obtain⟨m1,m2,m3,m4,m5,m6,m7,m8⟩:=h.mine i S _ hi;refine⟨?_,fun j s k' e e2=>?_⟩
 ·rw[←LO (f:=f) (H:=H) (S:=S) (b:=t) (by omega) (by omega),m4]
 ·have:=h.mine j S s e
  have e3:j=i:=by grind
  subst e3
  grind [St.at_]
structure Tk (f:Nat→Nat) (L:Nat→PLk) (t:Nat) (H:AM) (C:Bd) (i st:Nat) (l:List (Nat×Nat)) (q v:Nat) (c:PCo):Prop where
 me:c.me=i
 stamp:c.stamp=st
 seen:c.seen=l
 cells:c.cells=[(q,v)]
 stripes:c.stripes=[f q]
 was:c.was=[⟨(L (f q)).ver,false,0⟩]
 mine:C i=some (f q,.tick (c.now+1))
 fin:c.rule.fin=0
 now:st≤c.now∧c.now<t
 all:Vs f H C l c.at_ c.now
 le:c.at_≤l.length
 writing:c.writing=false
theorem TH (S y:Nat):List.findIdx? (fun x=>x==y) [S]=if S=y then some 0 else none:=by
 by_cases e:S=y<;>simp[List.findIdx?_cons,e]
theorem FK (c:PCo)(h:c.cells.length=1):c.begin={c with writing:=true,at_:=0,state:=5}:=by
 unfold PCo.begin PCo.write;rw[if_neg (by show ¬0=c.cells.length;omega)]
theorem Rn (c:PCo)(h:c.was.length=1)(fin err:Nat)(b:Int):c.stop fin err b={c with fin:=fin,err:=err,by_:=b,at_:=0,state:=7}:=by
 unfold PCo.stop PCo.leave;rw[if_neg (by show ¬0=c.was.length;omega)]
theorem Tk.stop (h:Tk f L t H C i st l q v c)(err:Nat)(b:Int):BB f L t H C i st l q v (c.stop 5 err b)∧(c.stop 5 err b).writing=false:=by
 obtain⟨h1,h2,h3,h4,h5,h6,h7,h8,h9,h10,h11,h12⟩:=h;rw[Rn c (by rw[h6];rfl)]
 refine⟨?_,h12⟩;constructor<;>grind
theorem Tk.prove (hi:LI f n L W t H C):∀(m:Nat) (c:PCo),Tk f L t H C i st l q v c→c.state=4→l.length<c.at_+m →
  BB f L t H C i st l q v (c.proveF m)∧(c.proveF m).writing=false∨Vs f H C l l.length c.now∧∃k,c.proveF m=({c with at_:=k}:PCo).begin
 |0,c,h,h4,hm=>by have:=h.le;omega
 |m+1,c,h,h4,hm=>by
  obtain⟨g1,g2,g3,g4,g5,g6,g7,g8,g9,g10,g11,g12⟩:=id h;unfold PCo.proveF;by_cases e:c.at_<c.seen.length
  ·rw[if_pos e];by_cases e2:f q=(c.seen.getD c.at_ (0,0)).1
   ·have e3:c.stripes.findIdx? (fun x=>x==(c.seen.getD c.at_ (0,0)).1)=some 0:=by rw[g5,TH,if_pos e2]
    rw[e3];simp only;by_cases e4:(c.was.getD 0 PLk.zero).ver≠(c.seen.getD c.at_ (0,0)).2
    ·rw[if_pos e4];exact .inl (h.stop _ _)
    ·rw[if_neg e4];have hv:=hi.own g7;have h':Tk f L t H C i st l q v {c with at_:=c.at_+1}:=by
      refine⟨g1,g2,g3,g4,g5,g6,g7,g8,g9,fun j hj=>?_,by grind,g12⟩
      by_cases e5:j<c.at_
      ·exact g10 j e5
      ·have:j=c.at_:=by have:j<c.at_+1:=hj;omega
       subst this
       have:(L (f q)).ver=(l.getD c.at_ (0,0)).2:=by rw[g6] at e4;grind
       rw[←this,←g3,←e2];exact hv
     exact Tk.prove hi m _ h' h4 (by show l.length<c.at_+1+m;omega)
   ·have e3:c.stripes.findIdx? (fun x=>x==(c.seen.getD c.at_ (0,0)).1)=none:=by rw[g5,TH,if_neg e2]
    rw[e3];refine .inl ⟨?_,g12⟩;constructor<;>grind
  ·rw[if_neg e]
   have:c.at_=l.length:=by rw[←g3];rw[←g3] at g11;omega
   exact .inr ⟨this▸g10,c.at_,rfl⟩
end
end Wy
end
section
namespace Wy
structure EF (f:Nat→Nat) (n:Nat) (L:Nat→PLk) (W:Nat→Nat) (t:Nat) (H:AM) (C:Bd) (i:Nat) (L':Nat→PLk) (W':Nat→Nat) (t':Nat) (H':AM) (C':Bd):Prop where
 li:LI f n L' W' t' H' C'
 rely:Ar f t H C t' H' C'
 own:∀j,j≠i→C' j=C j
 locks:∀j S s,j≠i→C j=some (S,s)→L' S=L S
section
variable {f W W' : Nat → Nat} {n a b t t' : Nat} {L L' : Nat → PLk} {H H' : AM} {C C' : Bd} {i j S k p v w q st : Nat} {l : List (Nat × Nat)} {c : PCo}
theorem EF.none_ (h:LI f n L W t H C):EF f n L W t H C i L W t H C:=⟨h,Ar.refl _ _ _ _,fun _ _=>rfl,fun _ _ _ _ _=>rfl⟩
def AH (f:Nat→Nat)(n:Nat)(L:Nat→PLk)(W:Nat→Nat)(t:Nat)(H:AM)(C:Bd)(i st:Nat)(l:List (Nat×Nat))(q v:Nat)(c:PCo):Prop :=
 ∃H' C',EF f n L W t H C i (Aq L W t c.next.1).2.1 (Aq L W t c.next.1).2.2.1 (Aq L W t c.next.1).2.2.2 H' C'∧BB f (Aq L W t c.next.1).2.1 (Aq L W t c.next.1).2.2.2 H' C' i st l q v (c.tell (Aq L W t c.next.1).1) ∧
  ((c.tell (Aq L W t c.next.1).1).writing=c.writing∧(∀k x,H' k=some x→H k=some x)∨(c.tell (Aq L W t c.next.1).1).writing=true∧c.writing=false∧H ((c.tell (Aq L W t c.next.1).1).now+1)=none∧∀k x,H' k=some x→H k=some x∨k=(c.tell (Aq L W t c.next.1).1).now+1)
theorem AH.of {o:POp}{a:PAns}{c':PCo}(ho:c.next.1=o)(ha:Aq L W t o=(a,L',W',t'))(hc:c.tell a=c')(he:EF f n L W t H C i L' W' t' H' C')(hok:BB f L' t' H' C' i st l q v c')
  (hn:c'.writing=c.writing∧(∀k x,H' k=some x→H k=some x)∨c'.writing=true∧c.writing=false∧H (c'.now+1)=none∧∀k x,H' k=some x→H k=some x∨k=c'.now+1):AH f n L W t H C i st l q v c:=by
 unfold AH;rw[ho,ha];simp only;rw[hc];exact⟨H',C',he,hok,hn⟩
theorem tell_eq (h0:c.rule.fin=0){a:PAns}(ha:a.err=0):c.tell a=match c.state with
  |0=>c.take a
  |1=>c.take a
  |2=>c.raise a
  |3=>c.raise a
  |4=>c.proved a.lock
  |5=>({c with at_:=c.at_+1}:PCo).write
  |6=>({c with at_:=c.at_+1}:PCo).give
  |7=>({c with at_:=c.at_+1}:PCo).leave
  |_=>c:=by
 unfold PCo.tell;rw[Gi _ ha];simp only[h0,ne_eq,not_true_eq_false,if_false];rfl
theorem Ln (h:BB f L t H C i st l q v c)(h4:c.state=0∨c.state=4)(lk:PLk):BB f L t H C i st l q v (c.heldBy lk)∧(c.heldBy lk).writing=c.writing:=by
 obtain⟨h1,h2,h3,h5,h6,h7,h8,h9,h10,h11,h12,h13,hz,h14,h15,h16,h17⟩:=h;have hw:=DL c.rule lk;unfold PCo.heldBy PCo.stop PCo.leave;simp only;split
 ·refine⟨?_,rfl⟩;constructor<;>grind
 ·split
  ·refine⟨?_,rfl⟩;constructor<;>grind [PPat.stop]
  ·refine⟨?_,rfl⟩;constructor<;>grind [PPat.stop]
theorem VH (h:BB f L t H C i st l q v c)(hi:LI f n L W t H C)(hS:f q<n)(ht62:t<4611686018427387903)(h0:c.state=0):AH f n L W t H C i st l q v c:=by
 obtain⟨g1,g2,g3⟩:=h.s0 h0;have ho:c.next.1=POp.at' 3 (f q):=by unfold PCo.next;rw[if_neg (by omega),h0];simp only;rw[g1,h.stripes];rfl
 have ht:=tell_eq (c:=c) g3 (a:={PAns.zero with lock:=L (f q)}) rfl
 rw[h0] at ht;by_cases hh:(L (f q)).held=true
 ·have e:c.take {PAns.zero with lock:=L (f q)}=c.heldBy (L (f q)):=by unfold PCo.take;rw[if_pos ⟨h0,hh⟩]
  obtain⟨k1,k2⟩:=Ln h (.inl h0) (L (f q));exact AH.of ho rfl (ht.trans e) (EF.none_ hi) k1 (.inl ⟨k2,fun _ _ e=>e⟩)
 ·have e:c.take {PAns.zero with lock:=L (f q)}={c with lock:=L (f q),state:=1}:=by unfold PCo.take;rw[if_neg (by simp[hh]),if_pos h0]
  have:=hi.free (f q) (by simpa using hh)
  have:=BO (f:=f) (H:=H) (S:=f q) t
  refine AH.of ho rfl (ht.trans e) (EF.none_ hi) ?_ (.inl ⟨rfl,fun _ _ e=>e⟩)
  obtain⟨h1,h2,h3,h4,h5,h6,h7,h8,h9,h10,h11,h12,h13,hz,h14,h15,h16⟩:=h;constructor<;>grind
theorem VG (h:BB f L t H C i st l q v c)(hi:LI f n L W t H C)(hS:f q<n)(h0:c.state=1):AH f n L W t H C i st l q v c:=by
 obtain⟨g1,g2,g3,g4,g5,g6⟩:=h.s1 h0;have hl:c.lock=⟨c.lock.ver,false,0⟩:=by cases hc:c.lock;simp_all
 have ho:c.next.1={POp.at' 4 (f q) with was:=c.lock,lock:=⟨c.lock.ver,true,i⟩}:=by unfold PCo.next;rw[if_neg (by omega),h0];simp only;rw[g1,h.stripes,h.me];rfl
 by_cases e:L (f q)=c.lock
 ·have ha:Aq L W t {POp.at' 4 (f q) with was:=c.lock,lock:=⟨c.lock.ver,true,i⟩}=({PAns.zero with done:=true},Ah L (f q) ⟨(L (f q)).ver,true,i⟩,W,t):=by
   show(if L (f q)=c.lock then _ else _)=_
   rw[if_pos e,e];rfl
  have ht:=tell_eq (c:=c) g3 (a:={PAns.zero with done:=true}) rfl
  rw[h0] at ht;have e2:c.take {PAns.zero with done:=true}={c with was:=[c.lock],state:=2}:=by
   unfold PCo.take PCo.more;rw[if_neg (by omega),if_neg (by omega),if_pos rfl,g1];simp only[h.stripes];rfl
  obtain⟨k1,k2⟩:=hi.take (i:=i) hS (by rw[e];exact g4) g2
  refine AH.of ho ha (ht.trans e2) ⟨k1,k2,fun j hj=>by grind [Ah],fun j S s hj e=>?_⟩ ?_ (.inl ⟨rfl,fun _ _ e=>e⟩)
  ·have:=hi.mine j S s e
   grind [Ah]
  ·obtain⟨h1,h2,h3,h4,h5,h6,h7,h8,h9,h10,h11,h12,h13,hz,h14,h15,h16⟩:=h;constructor<;>grind [Ah]
 ·have ha:Aq L W t {POp.at' 4 (f q) with was:=c.lock,lock:=⟨c.lock.ver,true,i⟩}=(PAns.zero,L,W,t):=by
   show(if L (f q)=c.lock then _ else _)=_
   rw[if_neg e]
  have ht:=tell_eq (c:=c) g3 (a:=PAns.zero) rfl;rw[h0] at ht;have e2:c.take PAns.zero={c with state:=0}:=by
   unfold PCo.take;rw[if_neg (by omega),if_neg (by omega),if_neg (by decide)]
  refine AH.of ho ha (ht.trans e2) (EF.none_ hi) ?_ (.inl ⟨rfl,fun _ _ e=>e⟩)
  obtain⟨h1,h2,h3,h4,h5,h6,h7,h8,h9,h10,h11,h12,h13,hz,h14,h15,h16⟩:=h;constructor<;>grind
theorem VF (h:BB f L t H C i st l q v c)(hi:LI f n L W t H C)(hst:st≤t)(ht62:t<4611686018427387903)(h0:c.state=2):AH f n L W t H C i st l q v c:=by
 obtain⟨g1,g2,g3⟩:=h.s2 (.inl h0);have ho:c.next.1=POp.at' 6 0:=by unfold PCo.next;rw[if_neg (by omega),h0];rfl
 have ht:=tell_eq (c:=c) g3 (a:={PAns.zero with word:=t}) rfl
 rw[h0] at ht;have e2:c.raise {PAns.zero with word:=t}={c with now:=t,state:=3}:=by
  unfold PCo.raise;rw[if_neg (by simp;omega),if_pos h0]
 refine AH.of ho rfl (ht.trans e2) (EF.none_ hi) ?_ (.inl ⟨rfl,fun _ _ e=>e⟩)
 obtain⟨h1,h2,h3,h4,h5,h6,h7,h8,h9,h10,h11,h12,h13,hz,h14,h15,h16⟩:=h;constructor<;>grind
theorem Tk.done (h:Tk f L t H C i st l q v c)(hi:LI f n L W t H C)(hq:P2 q)(hv:Vs f H C l l.length c.now)(m:Nat):
  ∃H' C',EF f n L W t H C i L W t H' C'∧BB f L t H' C' i st l q v ({c with at_:=m}:PCo).begin∧H (c.now+1)=none∧∀k x,H' k=some x→H k=some x∨k=c.now+1:=by
 obtain⟨h1,h2,h3,h4,h5,h6,h7,h8,h9,h10,h11,h12⟩:=h;obtain⟨k1,k2⟩:=hi.commit h7 hq rfl v;obtain⟨m1,m2,m3,m4,m5,m6,m7,m8⟩:=hi.mine i _ _ h7;refine⟨_,_,⟨k1,k2,fun j hj=>by grind [Ah],fun _ _ _ _ _=>rfl⟩,?_,m7,fun k x e=>?_⟩
 ·rw[FK _ (by rw[h4];rfl)]
  have:=hv.rely k2 (by omega)
  constructor<;>grind [Ah,ins]
 ·grind [ins]
theorem Tk.proved (h:Tk f L t H C i st l q v c)(hi:LI f n L W t H C)(hq:P2 q):∃H' C',EF f n L W t H C i L W t H' C'∧BB f L t H' C' i st l q v c.prove ∧
  (c.prove.writing=false∧(∀k x,H' k=some x→H k=some x)∨c.prove.writing=true∧H (c.prove.now+1)=none∧∀k x,H' k=some x→H k=some x∨k=c.prove.now+1):=by
 have h':Tk f L t H C i st l q v {c with state:=4}:=⟨h.me,h.stamp,h.seen,h.cells,h.stripes,h.was,h.mine,h.fin,h.now,h.all,h.le,h.writing⟩
 have e0:c.prove=PCo.proveF (l.length+1) {c with state:=4}:=by unfold PCo.prove;rw[show c.seen.length=l.length by rw[h.seen]]
 rw[e0];rcases h'.prove hi (l.length+1) _ rfl (by show l.length<c.at_+(l.length+1);omega) with⟨h1,hw⟩|⟨h1,k,h2⟩
 ·exact⟨H,C,EF.none_ hi,h1,.inl ⟨hw,fun _ _ e=>e⟩⟩
 ·obtain⟨H',C',h3,h4,h5,h6⟩:=h'.done hi hq h1 k;rw[h2];refine⟨H',C',h3,h4,.inr ?_⟩;rw[FK _ (by show c.cells.length=1;rw[h.cells];rfl)]
  exact⟨rfl,h5,h6⟩
theorem VE (h:BB f L t H C i st l q v c)(hi:LI f n L W t H C)(hq:P2 q)(hv:Vs f H C l l.length st)(h0:c.state=3):AH f n L W t H C i st l q v c:=by
 obtain⟨g1,g2,g3⟩:=h.s2 (.inr h0);obtain⟨g4,g5⟩:=h.s3 h0;have hw:c.writing=false:=by have:=h.writing;grind
 have ho:c.next.1={POp.at' 7 0 with old:=c.now,word:=c.now+1}:=by unfold PCo.next;rw[if_neg (by omega),h0];rfl
 by_cases e:t=c.now
 ·have ha:Aq L W t {POp.at' 7 0 with old:=c.now,word:=c.now+1}=({PAns.zero with done:=true},L,W,t+1):=by
   show(if t=c.now then _ else _)=_
   rw[if_pos e,e]
  have ht:=tell_eq (c:=c) g3 (a:={PAns.zero with done:=true}) rfl
  rw[h0] at ht;obtain⟨k1,k2⟩:=hi.tick g2;obtain⟨a1,a2,a3,a4,a5,a6,a7,a8,a9,a10,a11,a12,a13,az,a14,a15,a16⟩:=id h;have hT:∀m,Vs f H (Ah C i (some (f q,.tick (t+1)))) l m c.now→m≤l.length→Tk f L (t+1) H (Ah C i (some (f q,.tick (t+1)))) i st l q v {c with at_:=m}:=fun m hm hl =>
   ⟨a1,a2,a3,a4,a5,g1,by simp[Ah,e],g3,by show st≤c.now∧c.now<t+1;omega,hm,hl,hw⟩
  have hE:∀H' C' ,EF f n L W (t+1) H (Ah C i (some (f q,.tick (t+1)))) i L W (t+1) H' C'→EF f n L W t H C i L W (t+1) H' C':=fun H' C' hh =>
   ⟨hh.li,k2.trans hh.rely,fun j hj=>by rw[hh.own j hj];grind [Ah],fun _ _ _ _ _=>rfl⟩
  by_cases e2:c.now=c.stamp
  ·have e3:c.raise {PAns.zero with done:=true}=c.begin:=by unfold PCo.raise;rw[if_neg (by omega),if_neg (by omega),if_neg (by simp),if_pos e2]
   have hs:c.now=st:=by omega
   have hv2:=hv.rely k2 (by omega)
   rw[←hs] at hv2;obtain⟨H',C',h3,h4,h5,h6⟩:=(hT l.length hv2 (Nat.le_refl _)).done k1 hq hv2 c.at_;refine AH.of ho ha (ht.trans e3) (hE _ _ h3) h4 (.inr ?_);rw[FK _ (by rw[a4];rfl)]
   exact⟨rfl,hw,h5,h6⟩
  ·have e3:c.raise {PAns.zero with done:=true}=c.prove:=by unfold PCo.raise;rw[if_neg (by omega),if_neg (by omega),if_neg (by simp),if_neg e2]
   obtain⟨H',C',h3,h4,h5⟩:=(hT 0 (fun j hj=>absurd hj (by omega)) (Nat.zero_le _)).proved k1 hq
   have e0:({c with at_:=0}:PCo)=c:=by have:=az (by omega);cases c;simp_all
   rw[e0] at h4 h5;exact AH.of ho ha (ht.trans e3) (hE _ _ h3) h4 (h5.imp (fun h6=>⟨h6.1.trans hw.symm,h6.2⟩) fun h6=>⟨h6.1,hw,h6.2⟩)
 ·have ha:Aq L W t {POp.at' 7 0 with old:=c.now,word:=c.now+1}=(PAns.zero,L,W,t):=by
   show(if t=c.now then _ else _)=_
   rw[if_neg e]
  have ht:=tell_eq (c:=c) g3 (a:=PAns.zero) rfl;rw[h0] at ht;have e3:c.raise PAns.zero={c with state:=2}:=by unfold PCo.raise;rw[if_neg (by omega),if_neg (by omega),if_pos (show PAns.zero.done=false from rfl)]
  refine AH.of ho ha (ht.trans e3) (EF.none_ hi) ?_ (.inl ⟨rfl,fun _ _ e=>e⟩)
  obtain⟨h1,h2,h3,h4,h5,h6,h7,h8,h9,h10,h11,h12,h13,hz,h14,h15,h16⟩:=h;constructor<;>grind
end
end Wy
end
section
namespace Wy
section
variable {f W W' : Nat → Nat} {n a b t t' : Nat} {L L' : Nat → PLk} {H H' : AM} {C C' : Bd} {i j S k p v w q st : Nat} {l : List (Nat × Nat)} {c : PCo}
theorem LI.apart (h:LI f n L W t H C){s s':St}(h1:C i=some (S,s))(h2:C j=some (k,s'))(hj:j≠i):k≠S:=by
 have:=h.mine i S s h1
 have:=h.mine j k s' h2
 grind
theorem VD (h:BB f L t H C i st l q v c)(hi:LI f n L W t H C)(hq:P2 q)(hv:Vs f H C l l.length st)(hn:∀j,j<l.length→(l.getD j (0,0)).1<n)(h0:c.state=4):AH f n L W t H C i st l q v c:=by
 obtain⟨g1,g2,g3,g4,g5,g6,g7,g8⟩:=h.s4 h0;have hw:c.writing=false:=by have:=h.writing;grind
 obtain⟨a1,a2,a3,a4,a5,a6,a7,a8,a9,a10,a11,a12,a13,az,a14,a15,a16⟩:=id h;obtain⟨S,hS⟩:∃S,(l.getD c.at_ (0,0)).1=S:=⟨_,rfl⟩;have ho:c.next.1=POp.at' 3 S:=by unfold PCo.next;rw[if_neg (by omega),h0];simp only;rw[a3,hS]
 have ht:=tell_eq (c:=c) g3 (a:={PAns.zero with lock:=L S}) rfl
 rw[h0] at ht;have hT:Tk f L t H C i st l q v c:=⟨a1,a2,a3,a4,a5,g1,g2,g3,⟨g4,g5⟩,g6,by omega,hw⟩
 by_cases hh:(L S).held=true
 ·have e:c.proved (L S)=c.heldBy (L S):=by unfold PCo.proved;rw[if_pos hh]
  obtain⟨k1,k2⟩:=Ln h (.inr h0) (L S);exact AH.of ho rfl (ht.trans e) (EF.none_ hi) k1 (.inl ⟨k2,fun _ _ e=>e⟩)
 ·by_cases e2:(L S).ver≠(c.seen.getD c.at_ (0,0)).2
  ·have e:c.proved (L S)=c.stop 5 0 (-1):=by unfold PCo.proved;rw[if_neg hh,if_pos e2]
   exact AH.of ho rfl (ht.trans e) (EF.none_ hi) (hT.stop _ _).1 (.inl ⟨(hT.stop _ _).2.trans hw.symm,fun _ _ e=>e⟩)
  ·have e:c.proved (L S)=({c with at_:=c.at_+1}:PCo).prove:=by unfold PCo.proved;rw[if_neg hh,if_neg e2]
   have e3:(L S).ver=(l.getD c.at_ (0,0)).2:=by rw[←a3];exact Decidable.not_not.1 e2
   have hle:=BO (f:=f) (H:=H) (S:=S) st;have hvj:=hv _ g7;have hl:=hi.look (S:=S) (b:=c.now) (by rw[←hS];exact hn _ g7) (by simpa using hh) (by rw[hS] at hvj;grind [V]) (by omega)
   have hT2:Tk f L t H C i st l q v {c with at_:=c.at_+1}:=by
    refine⟨a1,a2,a3,a4,a5,g1,g2,g3,⟨g4,g5⟩,fun j hj=>?_,g7,hw⟩
    by_cases e5:j<c.at_
    ·exact g6 j e5
    ·have:j=c.at_:=by have:j<c.at_+1:=hj;omega
     subst this;rw[hS,←e3];exact hl
   obtain⟨H',C',h3,h4,h5⟩:=hT2.proved hi hq;exact AH.of ho rfl (ht.trans e) h3 h4 (h5.imp (fun h6=>⟨h6.1.trans hw.symm,h6.2⟩) fun h6=>⟨h6.1,hw,h6.2⟩)
theorem VC (h:BB f L t H C i st l q v c)(hi:LI f n L W t H C)(h0:c.state=5):AH f n L W t H C i st l q v c:=by
 obtain⟨g1,g2,g3⟩:=h.s5 h0;obtain⟨a1,a2,a3,a4,a5,a6,a7,a8,a9,a10,a11,a12,a13,az,a14,a15,a16⟩:=id h;have ho:c.next.1={POp.at' 2 q with word:=v}:=by unfold PCo.next;rw[if_neg (by omega),h0];simp only;rw[a4,g2];rfl
 have ht:c.tell PAns.zero=({c with at_:=c.at_+1}:PCo).write:=(tell_eq g3 rfl).trans (by split<;>first|omega|rfl|(exfalso;simp_all))
 have e:({c with at_:=c.at_+1}:PCo).write={c with at_:=0,state:=6}:=by
  unfold PCo.write PCo.give;rw[if_pos (by show c.at_+1=c.cells.length;rw[a4,g2];rfl),if_neg (by show ¬0=c.stripes.length;rw[a5];simp)]
 obtain⟨k1,k2⟩:=hi.store g1;refine AH.of ho rfl (ht.trans e) ⟨k1,k2,fun j hj=>by grind [Ah],fun _ _ _ _ _=>rfl⟩ ?_ (.inl ⟨rfl,fun _ _ e=>e⟩)
 obtain⟨b1,b2,b3,b4⟩:=a16 (by grind)
 have:=b1.rely k2 (by omega)
 constructor<;>grind [Ah]
theorem VB (h:BB f L t H C i st l q v c)(hi:LI f n L W t H C)(hf:c.rule.fin=0)(h0:c.state=6):AH f n L W t H C i st l q v c:=by
 obtain⟨g1,g2,g3⟩:=(h.s6 h0).resolve_right (by omega)
 obtain⟨a1,a2,a3,a4,a5,a6,a7,a8,a9,a10,a11,a12,a13,az,a14,a15,a16⟩:=id h;have ho:c.next.1={POp.at' 5 (f q) with lock:=⟨c.now+1,false,0⟩}:=by unfold PCo.next;rw[if_neg (by omega),h0];simp only;rw[a5,g2];rfl
 have ht:c.tell PAns.zero=({c with at_:=c.at_+1}:PCo).give:=(tell_eq hf rfl).trans (by split<;>first|omega|rfl|(exfalso;simp_all))
 have e:({c with at_:=c.at_+1}:PCo).give={c with at_:=c.at_+1,rule:=c.rule.stop 2 0 (-1)}:=by
  unfold PCo.give;rw[if_pos (by show c.at_+1=c.stripes.length;rw[a5,g2];rfl)]
 obtain⟨k1,k2⟩:=hi.raise g3;refine AH.of ho rfl (ht.trans e) ⟨k1,k2,fun j hj=>if_neg hj,fun j S s hj e=>?_⟩ ?_ (.inl ⟨rfl,fun _ _ e=>e⟩)
 ·exact if_neg (hi.apart g3 e hj)
 ·obtain⟨b1,b2,b3,b4⟩:=a16 (by grind)
  have:=b1.rely k2 (by omega)
  constructor<;>grind [Ah,PPat.stop]
theorem VA (h:BB f L t H C i st l q v c)(hi:LI f n L W t H C)(hf:c.rule.fin=0)(h0:c.state=7):AH f n L W t H C i st l q v c:=by
 obtain⟨g1,g2,g3,g4,g5⟩:=(h.s7 h0).resolve_right (by omega)
 have hw:c.writing=false:=by have:=h.writing;grind
 obtain⟨a1,a2,a3,a4,a5,a6,a7,a8,a9,a10,a11,a12,a13,az,a14,a15,a16⟩:=id h;have ho:c.next.1={POp.at' 5 (f q) with lock:=⟨(L (f q)).ver,false,0⟩}:=by unfold PCo.next;rw[if_neg (by omega),h0];simp only;rw[a5,g2,g3];rfl
 have ht:c.tell PAns.zero=({c with at_:=c.at_+1}:PCo).leave:=(tell_eq hf rfl).trans (by split<;>first|omega|rfl|(exfalso;simp_all))
 have e:({c with at_:=c.at_+1}:PCo).leave={c with at_:=c.at_+1,rule:=c.rule.stop c.fin c.err c.by_}:=by
  unfold PCo.leave;rw[if_pos (by show c.at_+1=c.was.length;rw[g3,g2];rfl)]
 obtain⟨s,hs,hs2⟩:∃s,C i=some (f q,s)∧(s=.pre∨∃k,s=.tick k):=by
  rcases g4 with g4|⟨k,g4⟩
  ·exact⟨_,g4,.inl rfl⟩
  ·exact⟨_,g4,.inr ⟨k,rfl⟩⟩
 obtain⟨k1,k2⟩:=hi.back hs hs2;refine AH.of ho rfl (ht.trans e) ⟨k1,k2,fun j hj=>if_neg hj,fun j S s hj e=>?_⟩ ?_ (.inl ⟨rfl,fun _ _ e=>e⟩)
 ·exact if_neg (hi.apart hs e hj)
 ·constructor<;>grind [Ah,PPat.stop]
theorem Sp (h:BB f L t H C i st l q v c)(hi:LI f n L W t H C)(hq:P2 q)(hS:f q<n)(hv:Vs f H C l l.length st)(hn:∀j,j<l.length→(l.getD j (0,0)).1<n)(hst:st≤t)(ht62:t<4611686018427387903)(hf:c.rule.fin=0):AH f n L W t H C i st l q v c:=by
 have:=h.le
 rcases(by omega:c.state=0∨c.state=1∨c.state=2∨c.state=3∨c.state=4∨c.state=5∨c.state=6∨c.state=7) with e|e|e|e|e|e|e|e
 ·exact VH h hi hS ht62 e
 ·exact VG h hi hS e
 ·exact VF h hi hst ht62 e
 ·exact VE h hi hq hv e
 ·exact VD h hi hq hv hn e
 ·exact VC h hi e
 ·exact VB h hi hf e
 ·exact VA h hi hf e
end
end Wy
end
section
namespace Wy
def takesP:List PIns:=[⟨17,0,0,0,0⟩,⟨8,0,7,8,0⟩,⟨1,1,0,0,1⟩,⟨9,7,6,8,0⟩,⟨13,0,0,6,0⟩,⟨12,0,0,7,0⟩,⟨20,0,0,0,0⟩,⟨18,0,0,0,0⟩,⟨8,0,7,13,0⟩,⟨1,1,0,0,2⟩,⟨9,7,6,13,0⟩,⟨13,0,0,13,0⟩,⟨12,0,0,14,0⟩,⟨20,0,0,0,0⟩,⟨19,0,0,0,0⟩,⟨21,1,0,0,0⟩]
def putsP (p:Nat):List PIns:=[⟨1,0,0,0,1⟩,⟨9,7,0,(p:Int),0⟩]
inductive Sg where
 |n8
 |n13
 |blk
 |d1 (w:Nat)
 |d2 (w:Nat)
 |put (p:Nat)
def r0:List Nat:=[0,0,0,0,0,0,0,0]
def Sg.run (l:Nat):Sg→PIt
 | .n8=>⟨takesP,0,0,r0,[],1,2,l+19,[⟨17,0,r0,0⟩]⟩
 | .n13=>⟨takesP,0,0,r0,[],8,9,l+14,[⟨18,7,r0,0⟩]⟩
 | .blk=>⟨takesP,3,0,[0,2,0,0,0,0,0,0],[],13,13,l+9,[]⟩
 | .d1 w=>⟨takesP,2,0,[w,1,0,0,0,0,0,0],[.num 1],16,16,l+12,[]⟩
 | .d2 w=>⟨takesP,2,0,[w,2,0,0,0,0,0,0],[.num 2],16,16,l+7,[]⟩
 | .put p=>⟨putsP p,2,0,[1,0,0,0,0,0,0,0],[],2,2,l+18,[]⟩
def Sg.known:Sg→List (Nat×Nat)
 | .n8=>[]
 | .n13=>[(8,0)]
 | .blk=>[(8,0),(13,0)]
 | .d1 w=>[(8,w)]
 | .d2 w=>[(8,0),(13,w)]
 | .put _=>[]
def Sg.rows:Sg→List PWr
 | .n8=>[[],[]]
 | .n13=>[[],[]]
 | .blk=>[[]]
 | .d1 _=>[[(8,0)]]
 | .d2 _=>[[(13,0)]]
 | .put p=>[[(p,1)]]
def Sg.need:Sg→Nat
 | .n8=>8
 | .put _=>0
 | .d1 _=>8
 |_=>13
def AX (n m:Nat)(kn:List (Nat×Nat))(rows:List PWr)(need:Nat):PVw :=
 ⟨kn.foldl (fun F x=>F.set x.1 (some x.2)) (PVw.new n m).facts,kn.map (·.1),⟨min m 96,rows⟩,need⟩
def Sg.vw (n m:Nat)(g:Sg):PVw:=AX n m g.known g.rows g.need
def Sg.end_:Sg→Nat
 | .n8=>1
 | .n13=>1
 | .blk=>3
 |_=>2
def Sg.cell:Sg→Nat×Nat
 | .d2 _=>(13,0)
 | .put p=>(p,1)
 |_=>(8,0)
def Dk:Sg→Prop
 | .put p=>P2 p
 | .d1 w=>w≠0
 | .d2 w=>w≠0
 |_=>True
theorem AG {n:Nat}{x x':PIt}{v v':PVw}{r:Nat×PIt×PVw}(h4:PIt.exec {x with next:=x.at_+1} v (x.code.getD x.at_ PIns.none)=(0,x',v'))
  (h5:PIt.runF n {x' with at_:=x'.next,left:=x'.left-1} v'=r) (h1:x.fin=0:=by rfl) (h2:(x.at_==x.code.length)=false:=by rfl) (h3:(x.left==0)=false:=by rfl):PIt.runF (n+1) x v=r:=by
 rw[PIt.runF.eq_def];simp only;rw[if_neg (by omega),if_neg (by simpa using h2),if_neg (by simpa using h3),h4]
 exact h5
theorem EZ {n:Nat}{x:PIt}{v:PVw}(h1:x.fin=0:=by rfl)(h2:x.at_=x.code.length:=by rfl):PIt.runF (n+1) x v=(2,{x with fin:=2},v):=by
 rw[PIt.runF.eq_def];simp only;rw[if_neg (by omega),if_pos h2]
section
variable {n m l w p a : Nat} {rows : List PWr} {need : Nat}
theorem Tq:(AX n m [] rows need).facts.length=max 32 (min n 256):=by simp[AX,PVw.new]
theorem NL:(AX n m [(8,w)] rows need).facts.length=max 32 (min n 256):=by simp[AX,PVw.new]
theorem SG:(AX n m [(8,a),(13,w)] rows need).facts.length=max 32 (min n 256):=by simp[AX,PVw.new]
theorem UJ (p:Nat):(AX n m [] rows need).facts.getD p none=none:=by
 simp only[AX,PVw.new,List.foldl_nil,gD,List.getElem?_replicate];split<;>rfl
theorem UI:(AX n m [(8,w)] rows need).facts.getD 8 none=some w∧(AX n m [(8,w)] rows need).facts.getD 13 none=none:=by
 constructor
 ·show((PVw.new n m).facts.set 8 (some w)).getD 8 none=_
  rw[gD,List.getElem?_set_self (by simp[PVw.new];omega)];rfl
 ·show((PVw.new n m).facts.set 8 (some w)).getD 13 none=_
  rw[gD,List.getElem?_set_ne (by omega)]
  have:=UJ (n:=n) (m:=m) (rows:=[]) (need:=0) 13
  rwa [gD] at this
theorem Ur:(AX n m [(8,a),(13,w)] rows need).facts.getD 13 none=some w:=by
 show(((PVw.new n m).facts.set 8 (some a)).set 13 (some w)).getD 13 none=_
 rw[gD,List.getElem?_set_self (by simp[PVw.new];omega)];rfl
theorem Ib {v:PVw}(h:v.facts.length=max 32 (min n 256))(hp:P2 p):v.is p=true:=by
 unfold PVw.is;rw[h];rcases hp with rfl|rfl<;>simp<;>omega
theorem LY {v:PVw}(h:v.facts.length=max 32 (min n 256))(hp:P2 p)(h1:v.logs.get p=none)(h2:v.facts.getD p none=none):v.read p=(0,11,{v with need:=p}):=by
 unfold PVw.read;rw[if_neg (by rw[Ib h hp];simp),h1,h2]
theorem IE {v:PVw}(h:v.facts.length=max 32 (min n 256))(hp:P2 p)(h1:v.logs.get p=none)(h2:v.facts.getD p none=some w):v.read p=(w,0,v):=by
 unfold PVw.read;rw[if_neg (by rw[Ib h hp];simp),h1,h2]
theorem EH {v:PVw}(h:v.facts.length=max 32 (min n 256))(hp:P2 p){l:PLv}{w:Nat}(h1:v.logs.put p w=(0,l)):v.write p w=(0,{v with logs:=l}):=by
 unfold PVw.write;rw[if_neg (by rw[Ib h hp];simp),h1]
theorem Jy (hm:4≤m)(hp:P2 p)(rs:List PWr)(hr:rs=[]∨rs=[[]])(w:Nat):(⟨min m 96,rs++[[]]⟩:PLv).put p w=(0,⟨min m 96,rs++[[(p,w)]]⟩):=by
 unfold PLv.put;rw[if_neg (by rcases hp with rfl|rfl<;>omega),if_neg (by rcases hr with rfl|rfl<;>simp[PLv.room]<;>omega)]
 rcases hp with rfl|rfl<;>rcases hr with rfl|rfl<;>rfl
theorem Uq {x:PIt}{v:PVw}{r:Nat×Nat×PVw}(h0:x.regs.getD 7 0=0)(hp:P2 p)(h:v.read p=r):x.exec v ⟨8,0,7,(p:Int),0⟩=(r.2.1,if r.2.1=0 then x.setReg 0 r.1 else x,r.2.2):=by
 have e:x.reg 7=0:=h0;unfold PIt.exec;simp only[e];have e2:placeP 0 (p:Int)=(p,0):=by rcases hp with rfl|rfl<;>rfl
 rw[e2,←h];rfl
theorem Us {x:PIt}{v v':PVw}{b:Int}(h0:x.regs.getD 7 0=0)(hp:P2 p)(h:v.write p (x.reg b)=(0,v')):x.exec v ⟨9,7,b,(p:Int),0⟩=(0,x,v'):=by
 have e:x.reg 7=0:=h0;unfold PIt.exec;simp only[e];have e2:placeP 0 (p:Int)=(p,0):=by rcases hp with rfl|rfl<;>rfl
 rw[e2,h];rfl
theorem Fm {n:Nat}{x x':PIt}{v v':PVw}(h4:PIt.exec {x with next:=x.at_+1} v (x.code.getD x.at_ PIns.none)=(11,x',v'))(h1:x.fin=0:=by rfl)(h2:(x.at_==x.code.length)=false:=by rfl)(h3:(x.left==0)=false:=by rfl):PIt.runF (n+1) x v=(1,x',v'):=by
 rw[PIt.runF.eq_def];simp only;rw[if_neg (by omega),if_neg (by simpa using h2),if_neg (by simpa using h3),h4]
 rfl
theorem Ox {n k:Nat}{x:PIt}{v:PVw}(h:x.fin=k)(h0:k≠0):PIt.runF n x v=(k,x,v):=by
 cases n with
 |zero=>rw[←h];rfl
 |succ n=>rw[PIt.runF.eq_def];simp only;rw[if_pos (by omega),h]
theorem Ov {f:Nat}(hl:min f 400=l+20):(PIt.new takesP f).run (PVw.new n m)=(1,Sg.n8.run l,Sg.n8.vw n m):=by
 have e:PIt.new takesP f=⟨takesP,0,0,r0,[],0,0,l+20,[]⟩:=by unfold PIt.new;rw[hl];rfl
 rw[e];refine AG (n:=l+20) (x':=⟨takesP,0,0,r0,[],0,1,l+20,[⟨17,0,r0,0⟩]⟩) (v':=AX n m [] [[],[]] 0) rfl ?_;refine Fm ((Uq rfl (.inl rfl) (LY Tq (.inl rfl) rfl (UJ 8))).trans rfl)
theorem Rq {f:Nat}(hl:min f 400=l+20)(hm:4≤m)(hp:P2 p):(PIt.new (putsP p) f).run (PVw.new n m)=(2,(Sg.put p).run l,(Sg.put p).vw n m):=by
 have e:PIt.new (putsP p) f=⟨putsP p,0,0,r0,[],0,0,l+20,[]⟩:=by unfold PIt.new;rw[hl];rfl
 rw[e];refine AG (n:=l+20) (x':=⟨putsP p,0,0,[1,0,0,0,0,0,0,0],[],0,1,l+20,[]⟩) (v':=AX n m [] [[]] 0) rfl ?_;refine AG (n:=l+19) (x':=⟨putsP p,0,0,[1,0,0,0,0,0,0,0],[],1,2,l+19,[]⟩) (v':=AX n m [] [[(p,1)]] 0) (Us rfl hp (EH Tq hp (Jy hm hp [] (.inl rfl) 1))) ?_;exact EZ (n:=l+18)
theorem UX (hm:4≤m)(w:Nat):(Sg.n8.run l).run (AX n m [(8,w)] [[],[]] 8)=if w=0 then(1,Sg.n13.run l,Sg.n13.vw n m) else(2,(Sg.d1 w).run l,(Sg.d1 w).vw n m):=by
 have h1:∀k,PIt.runF (k+3) (Sg.n8.run l) (AX n m [(8,w)] [[],[]] 8)=PIt.runF k ⟨takesP,0,0,[w,1,0,0,0,0,0,0],[],4,4,l+16,[⟨17,0,r0,0⟩]⟩ (AX n m [(8,w)] [[],[(8,0)]] 8):=fun k=>by
  refine AG (x':=⟨takesP,0,0,[w,0,0,0,0,0,0,0],[],1,2,l+19,[⟨17,0,r0,0⟩]⟩) (v':=AX n m [(8,w)] [[],[]] 8) (Uq rfl (.inl rfl) (IE NL (.inl rfl) rfl UI.1)) ?_;refine AG (x':=⟨takesP,0,0,[w,1,0,0,0,0,0,0],[],2,3,l+18,[⟨17,0,r0,0⟩]⟩) (v':=AX n m [(8,w)] [[],[]] 8) rfl ?_;exact AG (x':=⟨takesP,0,0,[w,1,0,0,0,0,0,0],[],3,4,l+17,[⟨17,0,r0,0⟩]⟩) (v':=AX n m [(8,w)] [[],[(8,0)]] 8) (Us rfl (.inl rfl) (EH NL (.inl rfl) (Jy hm (.inl rfl) [[]] (.inr rfl) 0))) rfl
 unfold PIt.run;show PIt.runF (l+17+3) _ _=_
 rw[h1];by_cases hw:w=0
 ·subst hw;rw[if_pos rfl];refine AG (n:=l+16) (x':=⟨takesP,0,0,[0,1,0,0,0,0,0,0],[],4,6,l+16,[⟨17,0,r0,0⟩]⟩) (v':=AX n m [(8,0)] [[],[(8,0)]] 8) rfl ?_;refine AG (n:=l+15) (x':=⟨takesP,0,0,r0,[],6,8,l+15,[⟨18,7,r0,0⟩]⟩) (v':=AX n m [(8,0)] [[],[]] 8) rfl ?_;exact Fm (n:=l+14) ((Uq rfl (.inr rfl) (LY NL (.inr rfl) rfl UI.2)).trans rfl)
 ·rw[if_neg hw];obtain⟨u,rfl⟩:∃u,w=u+1:=⟨w-1,by omega⟩
  refine AG (n:=l+16) (x':=⟨takesP,0,0,[u+1,1,0,0,0,0,0,0],[],4,5,l+16,[⟨17,0,r0,0⟩]⟩) (v':=AX n m [(8,u+1)] [[],[(8,0)]] 8) rfl ?_;refine AG (n:=l+15) (x':=⟨takesP,0,0,[u+1,1,0,0,0,0,0,0],[],5,7,l+15,[⟨17,0,r0,0⟩]⟩) (v':=AX n m [(8,u+1)] [[],[(8,0)]] 8) rfl ?_;refine AG (n:=l+14) (x':=⟨takesP,0,0,[u+1,1,0,0,0,0,0,0],[],7,15,l+14,[]⟩) (v':=AX n m [(8,u+1)] [[(8,0)]] 8) rfl ?_;refine AG (n:=l+13) (x':=⟨takesP,0,0,[u+1,1,0,0,0,0,0,0],[.num 1],15,16,l+13,[]⟩) (v':=AX n m [(8,u+1)] [[(8,0)]] 8) rfl ?_;exact EZ (n:=l+12)
theorem Tb (hm:4≤m)(w:Nat):(Sg.n13.run l).run (AX n m [(8,0),(13,w)] [[],[]] 13)=if w=0 then(3,Sg.blk.run l,Sg.blk.vw n m) else(2,(Sg.d2 w).run l,(Sg.d2 w).vw n m):=by
 have h1:∀k,PIt.runF (k+3) (Sg.n13.run l) (AX n m [(8,0),(13,w)] [[],[]] 13)=PIt.runF k ⟨takesP,0,0,[w,2,0,0,0,0,0,0],[],11,11,l+11,[⟨18,7,r0,0⟩]⟩ (AX n m [(8,0),(13,w)] [[],[(13,0)]] 13):=fun k=>by
  refine AG (x':=⟨takesP,0,0,[w,0,0,0,0,0,0,0],[],8,9,l+14,[⟨18,7,r0,0⟩]⟩) (v':=AX n m [(8,0),(13,w)] [[],[]] 13) (Uq rfl (.inr rfl) (IE SG (.inr rfl) rfl Ur)) ?_;refine AG (x':=⟨takesP,0,0,[w,2,0,0,0,0,0,0],[],9,10,l+13,[⟨18,7,r0,0⟩]⟩) (v':=AX n m [(8,0),(13,w)] [[],[]] 13) rfl ?_;exact AG (x':=⟨takesP,0,0,[w,2,0,0,0,0,0,0],[],10,11,l+12,[⟨18,7,r0,0⟩]⟩) (v':=AX n m [(8,0),(13,w)] [[],[(13,0)]] 13) (Us rfl (.inr rfl) (EH SG (.inr rfl) (Jy hm (.inr rfl) [[]] (.inr rfl) 0))) rfl
 unfold PIt.run;show PIt.runF (l+12+3) _ _=_
 rw[h1];by_cases hw:w=0
 ·subst hw;rw[if_pos rfl];refine AG (n:=l+11) (x':=⟨takesP,0,0,[0,2,0,0,0,0,0,0],[],11,13,l+11,[⟨18,7,r0,0⟩]⟩) (v':=AX n m [(8,0),(13,0)] [[],[(13,0)]] 13) rfl ?_;refine AG (n:=l+10) (x':=⟨takesP,3,0,[0,2,0,0,0,0,0,0],[],13,13,l+10,[]⟩) (v':=AX n m [(8,0),(13,0)] [[]] 13) rfl ?_;exact Ox rfl (by decide)
 ·rw[if_neg hw];obtain⟨u,rfl⟩:∃u,w=u+1:=⟨w-1,by omega⟩
  refine AG (n:=l+11) (x':=⟨takesP,0,0,[u+1,2,0,0,0,0,0,0],[],11,12,l+11,[⟨18,7,r0,0⟩]⟩) (v':=AX n m [(8,0),(13,u+1)] [[],[(13,0)]] 13) rfl ?_;refine AG (n:=l+10) (x':=⟨takesP,0,0,[u+1,2,0,0,0,0,0,0],[],12,14,l+10,[⟨18,7,r0,0⟩]⟩) (v':=AX n m [(8,0),(13,u+1)] [[],[(13,0)]] 13) rfl ?_;refine AG (n:=l+9) (x':=⟨takesP,0,0,[u+1,2,0,0,0,0,0,0],[],14,15,l+9,[]⟩) (v':=AX n m [(8,0),(13,u+1)] [[(13,0)]] 13) rfl ?_;refine AG (n:=l+8) (x':=⟨takesP,0,0,[u+1,2,0,0,0,0,0,0],[.num 2],15,16,l+8,[]⟩) (v':=AX n m [(8,0),(13,u+1)] [[(13,0)]] 13) rfl ?_;exact EZ (n:=l+7)
theorem Tr (w:Nat):((Sg.n8.vw n m).know 8 w).2=AX n m [(8,w)] [[],[]] 8:=by
 unfold PVw.know;rw[if_neg (by rw[show(Sg.n8.vw n m).is 8=true from Ib Tq (.inl rfl)];simp),show(Sg.n8.vw n m).facts.getD 8 none=none from UJ 8]
 rfl
theorem SI (w:Nat):((Sg.n13.vw n m).know 13 w).2=AX n m [(8,0),(13,w)] [[],[]] 13:=by
 unfold PVw.know;rw[if_neg (by rw[show(Sg.n13.vw n m).is 13=true from Ib NL (.inr rfl)];simp),show(Sg.n13.vw n m).facts.getD 13 none=none from UI.2]
 rfl
theorem FH {g:Sg}(h:g.end_=2)(hp:Dk g):(g.vw n m).logs.cells=[g.cell]:=by
 cases g with
 |put p=>rcases(hp:P2 p) with rfl|rfl<;>rfl
 |d1 w=>rfl
 |d2 w=>rfl
 |_=>cases h
end
end Wy
end
section
namespace Wy
structure Kn (f:Nat→Nat) (n:Nat) (H:AM) (C:Bd) (rd:List (Nat×Nat)) (g:Sg) (b:Nat):Prop where
 vs:Vs f H C rd rd.length b
 lt:∀j,j<rd.length→(rd.getD j (0,0)).1<n
 kn:∀c∈g.known,P2 c.1∧K f H C c.1 c.2 b∧∃j,j<rd.length∧(rd.getD j (0,0)).1=f c.1
 len:rd.length≤g.known.length
section
variable {f W W' : Nat → Nat} {n a b t t' : Nat} {L L' : Nat → PLk} {H H' : AM} {C C' : Bd} {i j S k p v w q st : Nat} {l rd rd' : List (Nat × Nat)} {g g' : Sg}
theorem Kn.rely (h:Kn f n H C rd g b)(hr:Ar f t H C t' H' C')(hb:b≤t):Kn f n H' C' rd g b :=
 ⟨h.vs.rely hr hb,h.lt,fun c hc=>⟨(h.kn c hc).1,hr.k _ _ _ hb (h.kn c hc).2.1,(h.kn c hc).2.2⟩,h.len⟩
theorem Kn.move (h:Kn f n H C rd g a)(hv:Vs f H C rd rd.length b)(hab:a≤b):Kn f n H C rd g b:=by
 refine⟨hv,h.lt,fun c hc=>?_,h.len⟩
 obtain⟨h1,h2,j,h3,h4⟩:=h.kn c hc;have a1:=h.vs j h3;have a2:=hv j h3;rw[h4] at a1 a2;exact⟨h1,a1.know a2 hab h2,j,h3,h4⟩
theorem Kn.nil (f:Nat→Nat)(n:Nat)(H:AM)(C:Bd)(b:Nat)(h:g.known=[]):Kn f n H C [] g b :=
 ⟨fun j hj=>by simp at hj,fun j hj=>by simp at hj,by rw[h];simp,Nat.zero_le _⟩
theorem Ju {r:List (Nat×Nat)}{s v:Nat}(h:rdGet r s=some v):∃j,j<r.length∧r.getD j (0,0)=(s,v):=by
 unfold rdGet at h;obtain⟨x,h1,h2⟩:=Option.map_eq_some_iff.1 h;obtain⟨j,hj,e⟩:=List.getElem_of_mem (List.mem_of_find?_eq_some h1);have h3:=List.find?_some h1;refine⟨j,hj,?_⟩;rw[gD,List.getElem?_eq_getElem hj,e];show x=(s,v)
 simp at h3;rw[←h2,←h3]
theorem Kn.add (h:Kn f n H C rd g st)(hn:n≤16)(hS:f p<n)(hp:P2 p)(hv:V f H C (f p) v st)(hk:K f H C p w st)(hst:st≤t)(h62:t<4611686018427387903)(hg:g'.known=g.known++[(p,w)])(hl:g.known.length≤1):
  rdAdd rd (f p,v)=(14,rd)∨∃rd',rdAdd rd (f p,v)=(0,rd')∧Kn f n H C rd' g' st:=by
 have hvl:v≤st:=by have:=BO (f:=f) (H:=H) (S:=f p) st;grind [V]
 unfold rdAdd;rw[if_neg (by simp;omega)]
 cases hr:rdGet rd (f p) with
 |some y =>
  by_cases e:y=v
  ·subst e;simp only[ne_eq,not_true_eq_false,if_false];obtain⟨j,h1,h2⟩:=Ju hr;refine .inr ⟨rd,rfl,h.vs,h.lt,fun c hc=>?_,by rw[hg];have:=h.len;simp;omega⟩
   rw[hg,List.mem_append,List.mem_singleton] at hc;rcases hc with hc|rfl
   ·exact h.kn c hc
   ·exact⟨hp,hk,j,h1,by rw[h2]⟩
  ·exact .inl (by simp[e])
 |none =>
  have h16:rd.length≠16:=by have:=h.len;omega
  simp only[if_neg h16];have hget:∀j,(rd++[(f p,v)]).getD j (0,0)=if j<rd.length then rd.getD j (0,0) else if j=rd.length then(f p,v) else(0,0):=fun j=>by grind
  refine .inr ⟨_,rfl,fun j hj=>?_,fun j hj=>?_,fun c hc=>?_,by rw[hg];have:=h.len;simp;omega⟩
  ·rw[hget];simp at hj;by_cases e:j<rd.length
   ·rw[if_pos e];exact h.vs j e
   ·rw[if_neg e,if_pos (by omega)];exact hv
  ·rw[hget];simp at hj;by_cases e:j<rd.length
   ·rw[if_pos e];exact h.lt j e
   ·rw[if_neg e,if_pos (by omega)];exact hS
  ·rw[hg,List.mem_append,List.mem_singleton] at hc;rcases hc with hc|rfl
   ·obtain⟨h1,h2,j,h3,h4⟩:=h.kn c hc;exact⟨h1,h2,j,by simp;omega,by rw[hget,if_pos h3];exact h4⟩
   ·exact⟨hp,hk,rd.length,by simp,by rw[hget,if_neg (by omega),if_pos rfl]⟩
end
end Wy
end
section
namespace Wy
structure RS (s:PSt):Prop where
 stripes:1≤s.stripes∧s.stripes≤16
 fuel:20≤s.fuel
 writes:4≤s.writes
def fS (s:PSt)(p:Nat):Nat:=stripeOf p s.stripes s.wide
theorem RS.lt {s:PSt}(h:RS s)(p:Nat):fS s p<s.stripes:=Nat.mod_lt _ (by have:=h.stripes;omega)
def codeOf:Option Nat→List PIns
 |none=>takesP
 |some p=>putsP p
def mk (s:PSt)(i:Nat)(g:Sg)(rd:List (Nat×Nat))(state:Nat)(inner:PIn)(bg st:Nat)(bl:Bool):PAt:=⟨i,g.run (min s.fuel 400-20),g.vw s.words s.writes,rd,state,inner,true,bg,st,0,-1,0,bl⟩
inductive At (s:PSt) (L:Nat→PLk) (t:Nat) (H:AM) (C:Bd) (i:Nat) (k:Option Nat):PAt→Prop
 |z0:C i=none→At s L t H C i k (PAt.new i s (codeOf k))
 |z1:C i=none→At s L t H C i k {PAt.new i s (codeOf k) with state:=1}
 |z2 (st):C i=none→st≤t→At s L t H C i k {PAt.new i s (codeOf k) with begun:=true,begin:=st,stamp:=st,state:=2}
 |fe (g rd bg st fe):C i=none→st≤t→g.end_=1→Kn (fS s) s.stripes H C rd g st→Dw (fS s) t H C g.need st fe→fe.rule.fin=0→At s L t H C i k (mk s i g rd 3 (.fetch fe) bg st false)
 |ex (g rd bg st ex):C i=none→st≤t→g.end_=1→Kn (fS s) s.stripes H C rd g st→Bn (fS s) t H C st rd ex→ex.rule.fin=0→At s L t H C i k (mk s i g rd 4 (.extend ex) bg st false)
 |ho (rd bg st ex):C i=none→st≤t→Kn (fS s) s.stripes H C rd .blk st→Bn (fS s) t H C st rd ex→ex.rule.fin=0→At s L t H C i k (mk s i .blk rd 5 (.extend ex) bg st true)
 |co (g rd bg st c):st≤t→g.end_=2→Dk g→Kn (fS s) s.stripes H C rd g st→BB (fS s) L t H C i st rd g.cell.1 g.cell.2 c→c.rule.fin=0→At s L t H C i k (mk s i g rd 6 (.commit c) bg (if c.writing then c.now+1 else st) false)
 |out (x):C i=none→x.state=7→x.begun=true→x.writing=false→x.fin=4∨x.fin=5→x.me=i→At s L t H C i k x
 |won (g rd bg c e b):C i=none→g.end_=2→Dk g→Kn (fS s) s.stripes H C rd g c.now→c.now<t→H (c.now+1)=some g.cell→c.rule.fin=2→c.writing=true→At s L t H C i k {mk s i g rd 7 (.commit c) bg (c.now+1) false with fin:=2,err:=e,by_:=b}
 |lost (rd bg st ex e b):C i=none→st≤t→Kn (fS s) s.stripes H C rd .blk st→At s L t H C i k {mk s i .blk rd 7 (.extend ex) bg st true with fin:=3,err:=e,by_:=b}
section
variable {s : PSt} {W W' : Nat → Nat} {a b t t' : Nat} {L L' : Nat → PLk} {H H' : AM} {C C' : Bd} {i j p v w q st bg : Nat} {rd rd' : List (Nat × Nat)} {g g' : Sg} {k : Option Nat} {x : PAt}
theorem At.rely (h:At s L t H C i k x)(hr:Ar (fS s) t H C t' H' C')(hc:C' i=C i)(hL:∀S s,C i=some (S,s)→L' S=L S):At s L' t' H' C' i k x:=by
 have hcl:=hr.clock;cases h with
 |z0 h1=>exact .z0 (hc.trans h1)
 |z1 h1=>exact .z1 (hc.trans h1)
 |z2 st h1 h2=>exact .z2 st (hc.trans h1) (by omega)
 |fe g rd bg st fe h1 h2 h3 h4 h5 h6=>exact .fe g rd bg st fe (hc.trans h1) (by omega) h3 (h4.rely hr h2) (h5.rely hr h2) h6
 |ex g rd bg st ex h1 h2 h3 h4 h5 h6=>exact .ex g rd bg st ex (hc.trans h1) (by omega) h3 (h4.rely hr h2) (h5.rely hr) h6
 |ho rd bg st ex h1 h2 h4 h5 h6=>exact .ho rd bg st ex (hc.trans h1) (by omega) (h4.rely hr h2) (h5.rely hr) h6
 |co g rd bg st c h2 h3 h7 h4 h5 h6=>exact .co g rd bg st c (by omega) h3 h7 (h4.rely hr h2) (h5.rely hr hc hL) h6
 |out x h1 h2 h3 h4 h5 h6=>exact .out x (hc.trans h1) h2 h3 h4 h5 h6
 |won g rd bg c e b h1 h2 h7 h3 h4 h5 h6 h8=>exact .won g rd bg c e b (hc.trans h1) h2 h7 (h3.rely hr (by omega)) (by omega) (hr.has _ _ h5) h6 h8
 |lost rd bg st ex e b h1 h2 h3=>exact .lost rd bg st ex e b (hc.trans h1) (by omega) (h3.rely hr h2)
theorem TQ {it:PIt}{vw:PVw}(h:x.run.run x.v=(1,it,vw)):x.work s=({x with run:=it,v:=vw}:PAt).ask s vw.need:=by
 unfold PAt.work;simp only[h]
theorem TP {it:PIt}{vw:PVw}{c:Nat×Nat}(h:x.run.run x.v=(2,it,vw))(hc:vw.logs.cells=[c]):x.work s={x with run:=it,v:=vw,state:=6,inner:=.commit (PCo.new x.me s.spins x.stamp x.reads [c] s.stripes s.wide)}:=by
 unfold PAt.work;simp only[h,hc];rw[if_neg (by simp)]
theorem TN {it:PIt}{vw:PVw}(h:x.run.run x.v=(3,it,vw)):x.work s=({x with run:=it,v:=vw,blocking:=true}:PAt).later s 5:=by
 unfold PAt.work;simp only[h]
theorem At.goes (hs:RS s)(hC:C i=none)(hst:st≤t)(hg:Dk g)(hk:Kn (fS s) s.stripes H C rd g st){r:PIt}{vw:PVw}{sa:Nat}{inn:PIn}(hrun:r.run vw=(g.end_,g.run (min s.fuel 400-20),g.vw s.words s.writes)):
  At s L t H C i k ((⟨i,r,vw,rd,sa,inn,true,bg,st,0,-1,0,false⟩:PAt).work s)∧((⟨i,r,vw,rd,sa,inn,true,bg,st,0,-1,0,false⟩:PAt).work s).writing=false:=by
 by_cases h1:g.end_=1
 ·rw[h1] at hrun;rw[TQ hrun];exact⟨At.fe g rd bg st (PFe.new i g.need (fS s g.need) s.spins st) hC hst h1 hk (Dw.new _ _) rfl,rfl⟩
 ·by_cases h2:g.end_=2
  ·rw[h2] at hrun;rw[TP hrun (FH h2 hg)];exact⟨At.co g rd bg st (PCo.new i s.spins st rd [g.cell] s.stripes s.wide) hst h2 hg hk (BB.new s.spins hC s.stripes s.wide rfl) rfl,rfl⟩
  ·obtain rfl:g=.blk:=by cases g<;>first|rfl|(exfalso;simp[Sg.end_] at h1 h2)
   rw[TN hrun];exact⟨At.ho rd bg st (PEx.new i s.spins rd) hC hst hk (Bn.new _ _) rfl,rfl⟩
theorem GS (x:PAt)(h:x.inner.rule.fin=0)(hw:x.writing=false):x.told s=x:=by
 unfold PAt.told;simp only[h,if_true];rw[if_neg (by simp[hw])]
theorem GT {x:PAt}(h5:x.inner.rule.fin=5)(hw:(x.out 5 0 x.inner.rule.by_).writing=false):x.told s=x.out 5 0 x.inner.rule.by_:=by
 unfold PAt.told;simp only[if_neg (show ¬x.inner.rule.fin=0 by omega),if_pos h5]
 rw[if_neg (by simp[hw])]
theorem BP {x y:PAt}(h:x.inner.rule.fin≠0)(h5:x.inner.rule.fin≠5)(e:x.ended s=y)(hw:y.writing=false):x.told s=y:=by
 unfold PAt.told;simp only[if_neg h,if_neg h5,e];rw[if_neg (by simp[hw])]
theorem Dz {a:PAns}(ha:a.err=0)(h1:3≤x.state)(h2:x.state≤6):x.tell s a=({x with inner:=x.inner.tell a}:PAt).told s:=by
 unfold PAt.tell;rw[if_neg (by omega),if_neg (by omega)]
 split<;>first|omega|rfl
theorem Av {x y:PAt}(e:x.told s=y)(h:At s L t H C i k y)(hw:y.writing=false):At s L t H C i k (x.told s)∧(x.told s).writing=false:=by
 rw[e];exact⟨h,hw⟩
theorem At.fetched (hs:RS s)(h62:t<4611686018427387903)(hC:C i=none)(hst:st≤t)(hg:g.end_=1)(hk:Kn (fS s) s.stripes H C rd g st){fe:PFe}(hf:Dw (fS s) t H C g.need st fe)(h0:fe.rule.fin≠0)(bg:Nat):
  At s L t H C i k ((mk s i g rd 3 (.fetch fe) bg st false).told s)∧((mk s i g rd 3 (.fetch fe) bg st false).told s).writing=false:=by
 rcases hf.fins with h|h|h|h
 ·exact absurd h h0
 ·have hl:min s.fuel 400=(min s.fuel 400-20)+20:=by have:=hs.fuel;omega
  obtain⟨w,hw⟩:∃w,fe.word=w:=⟨_,rfl⟩;obtain⟨v,hv⟩:∃v,fe.lock.ver=v:=⟨_,rfl⟩;obtain⟨f1,f2⟩:=hf.fin h;rw[hv] at f1;rw[hw] at f2;have hP:P2 g.need:=by cases g<;>first|exact .inl rfl|exact .inr rfl|(exfalso;simp[Sg.end_] at hg)
  have hgo:∃g':Sg,g'.known=g.known++[(g.need,w)]∧Dk g'∧(g.run (min s.fuel 400-20)).run ((g.vw s.words s.writes).know g.need w).2=(g'.end_,g'.run (min s.fuel 400-20),g'.vw s.words s.writes):=by
   cases g with
   |n8 =>
    rw[show((Sg.n8.vw s.words s.writes).know Sg.n8.need w).2=_ from Tr w,UX hs.writes]
    by_cases e:w=0
    ·subst e;exact⟨.n13,rfl,trivial,by rw[if_pos rfl];rfl⟩
    ·exact⟨.d1 w,rfl,e,by rw[if_neg e];rfl⟩
   |n13 =>
    rw[show((Sg.n13.vw s.words s.writes).know Sg.n13.need w).2=_ from SI w,Tb hs.writes]
    by_cases e:w=0
    ·subst e;exact⟨.blk,rfl,trivial,by rw[if_pos rfl];rfl⟩
    ·exact⟨.d2 w,rfl,e,by rw[if_neg e];rfl⟩
   |_=>exfalso;simp[Sg.end_] at hg
  obtain⟨g',hg1,hg2,hg3⟩:=hgo;have hl1:g.known.length≤1:=by cases g<;>first|exact Nat.le_refl _|exact Nat.zero_le _|(exfalso;simp[Sg.end_] at hg)
  have hend:(mk s i g rd 3 (.fetch fe) bg st false).ended s=(mk s i g rd 3 (.fetch fe) bg st false).fetched s fe:=rfl;have hfe:(mk s i g rd 3 (.fetch fe) bg st false).fetched s fe=if(rdAdd rd (fS s g.need,v)).1=0 then((⟨i,g.run (min s.fuel 400-20),((g.vw s.words s.writes).know g.need w).2,(rdAdd rd (fS s g.need,v)).2,3,.fetch fe,true,bg,st,0,-1,0,false⟩:PAt).work s) else if(rdAdd rd (fS s g.need,v)).1=14 then({mk s i g rd 3 (.fetch fe) bg st false with reads:=(rdAdd rd (fS s g.need,v)).2}:PAt).out 5 0 (-1) else({mk s i g rd 3 (.fetch fe) bg st false with reads:=(rdAdd rd (fS s g.need,v)).2}:PAt).out 4 (rdAdd rd (fS s g.need,v)).1 (-1):=by
   unfold PAt.fetched;rw[if_neg (by omega)]
   simp only[h,if_true,hw,hv,hf.stripe];have hn:(g.vw s.words s.writes).need=g.need:=rfl;rfl
  rcases hk.add hs.stripes.2 (hs.lt _) hP f1 f2 hst h62 hg1 hl1 with hr|⟨rd',hr,hk'⟩
  ·have hfe2:=hfe.trans (show _=({mk s i g rd 3 (.fetch fe) bg st false with reads:=rd}:PAt).out 5 0 (-1) by rw[hr];rfl)
   refine Av (BP (s:=s) (by show fe.rule.fin≠0;omega) (by show fe.rule.fin≠5;omega) (hend.trans hfe2) (by unfold PAt.writing;simp[PAt.out,mk])) ?_ rfl
   exact .out _ hC rfl rfl rfl (.inr rfl) rfl
  ·have hfe2:=hfe.trans (show _=(⟨i,g.run (min s.fuel 400-20),((g.vw s.words s.writes).know g.need w).2,rd',3,.fetch fe,true,bg,st,0,-1,0,false⟩:PAt).work s by rw[hr];rfl)
   have hA:=At.goes (L:=L) (k:=k) (bg:=bg) (sa:=3) (inn:=.fetch fe) hs hC hst hg2 hk' hg3;exact Av (BP (s:=s) (by show fe.rule.fin≠0;omega) (by show fe.rule.fin≠5;omega) (hend.trans hfe2) hA.2) hA.1 hA.2
 ·refine Av (GT (s:=s) (x:=mk s i g rd 3 (.fetch fe) bg st false) h rfl) ?_ rfl;exact .out _ hC rfl rfl rfl (.inr rfl) rfl
 ·have e:(mk s i g rd 3 (.fetch fe) bg st false).ended s=mk s i g rd 4 (.extend (PEx.new i s.spins rd)) bg st false:=by
   show(mk s i g rd 3 (.fetch fe) bg st false).fetched s fe=_
   unfold PAt.fetched;rw[if_pos h];rfl
  refine Av (BP (s:=s) (by show fe.rule.fin≠0;omega) (by show fe.rule.fin≠5;omega) e rfl) ?_ rfl
  exact .ex g rd bg st _ hC hst hg hk (Bn.new _ _) rfl
theorem At.extended (hC:C i=none)(hst:st≤t)(hg:g.end_=1)(hk:Kn (fS s) s.stripes H C rd g st){ex:PEx}(hf:Bn (fS s) t H C st rd ex)(h0:ex.rule.fin≠0)(bg:Nat):
  At s L t H C i k ((mk s i g rd 4 (.extend ex) bg st false).told s)∧((mk s i g rd 4 (.extend ex) bg st false).told s).writing=false:=by
 rcases hf.fins with h|h|h
 ·exact absurd h h0
 ·obtain⟨h1,h2⟩:=hf.fin h;obtain⟨h3,h4⟩:=hf.from_ h1;have h5:=hf.all h1;rw[h2] at h5;have e:(mk s i g rd 4 (.extend ex) bg st false).ended s=mk s i g rd 3 (.fetch (PFe.new i g.need (fS s g.need) s.spins ex.stamp)) bg ex.stamp false:=by
   show(let x:PAt:={mk s i g rd 4 (.extend ex) bg st false with stamp:=if ex.rule.fin=2 then ex.stamp else 0};if x.state=4 then x.ask s x.v.need else x.out 3 0 (-1))=_
   rw[if_pos h];rfl
  refine Av (BP (s:=s) (by show ex.rule.fin≠0;omega) (by show ex.rule.fin≠5;omega) e rfl) ?_ rfl
  exact .fe g rd bg ex.stamp _ hC h4 hg (hk.move h5 h3) (Dw.new _ _) rfl
 ·refine Av (GT (s:=s) (x:=mk s i g rd 4 (.extend ex) bg st false) h rfl) ?_ rfl;exact .out _ hC rfl rfl rfl (.inr rfl) rfl
theorem At.held (hC:C i=none)(hst:st≤t)(hk:Kn (fS s) s.stripes H C rd .blk st){ex:PEx}(hf:Bn (fS s) t H C st rd ex)(h0:ex.rule.fin≠0)(bg:Nat):
  At s L t H C i k ((mk s i .blk rd 5 (.extend ex) bg st true).told s)∧((mk s i .blk rd 5 (.extend ex) bg st true).told s).writing=false:=by
 rcases hf.fins with h|h|h
 ·exact absurd h h0
 ·obtain⟨h1,h2⟩:=hf.fin h;obtain⟨h3,h4⟩:=hf.from_ h1;have h5:=hf.all h1;rw[h2] at h5;have e:(mk s i .blk rd 5 (.extend ex) bg st true).ended s=(mk s i .blk rd 5 (.extend ex) bg ex.stamp true).out 3 0 (-1):=by
   show(let x:PAt:={mk s i .blk rd 5 (.extend ex) bg st true with stamp:=if ex.rule.fin=2 then ex.stamp else 0};if x.state=4 then x.ask s x.v.need else x.out 3 0 (-1))=_
   rw[if_pos h];rfl
  refine Av (BP (s:=s) (by show ex.rule.fin≠0;omega) (by show ex.rule.fin≠5;omega) e rfl) ?_ rfl
  exact .lost rd bg ex.stamp ex 0 (-1) hC h4 (hk.move h5 h3)
 ·refine Av (GT (s:=s) (x:=mk s i .blk rd 5 (.extend ex) bg st true) h rfl) ?_ rfl;exact .out _ hC rfl rfl rfl (.inr rfl) rfl
theorem At.commits (hst:st≤t)(hg:g.end_=2)(hp:Dk g)(hk:Kn (fS s) s.stripes H C rd g st){c:PCo}(hc:BB (fS s) L t H C i st rd g.cell.1 g.cell.2 c)(bg st':Nat)(h':c.writing=false→st'=st):
  At s L t H C i k ((mk s i g rd 6 (.commit c) bg st' false).told s)∧((mk s i g rd 6 (.commit c) bg st' false).told s).writing=c.writing∧(c.writing=true→((mk s i g rd 6 (.commit c) bg st' false).told s).stamp=c.now+1):=by
 have hw:=hc.writing;by_cases h0:c.rule.fin=0
 ·have e:(mk s i g rd 6 (.commit c) bg st' false).told s=mk s i g rd 6 (.commit c) bg (if c.writing then c.now+1 else st) false:=by
   unfold PAt.told;rw[if_pos (show(mk s i g rd 6 (.commit c) bg st' false).inner.rule.fin=0 from h0)]
   cases hh:c.writing with
   |false =>
    rw[h' hh,if_neg (by show ¬(true&&(c.isWriting||c.rule.fin==2))=true;simp[PCo.isWriting,hh,h0])]
    rfl
   |true =>
    rw[if_pos (by show(true&&(c.isWriting||c.rule.fin==2))=true;simp[PCo.isWriting,hh,h0])]
    show mk s i g rd 6 (.commit c) bg (if c.writing then c.now+1 else 0) false=_
    rw[hh];rfl
  rw[e];exact⟨.co g rd bg st c hst hg hp hk hc h0,by show(true&&(c.isWriting||c.rule.fin==2))=c.writing;simp[PCo.isWriting,h0],fun hh=>by show(if c.writing=true then c.now+1 else st)=_;rw[if_pos hh]⟩
 ·have hcase:c.state=6∧c.rule.fin=2∧C i=none∨c.state=7∧(c.rule.fin=4∨c.rule.fin=5)∧C i=none:=by
   have:=hc.le
   have:=hc.s0
   have:=hc.s1
   have:=hc.s2
   have:=hc.s4
   have:=hc.s5
   have:=hc.s6
   have:=hc.s7
   grind
  rcases hcase with⟨h6,h2,hC⟩|⟨h7,h45,hC⟩
  ·have hwr:c.writing=true:=hw.2 (.inr h6);obtain⟨b1,b2,b3,b4⟩:=hc.good hwr;have e:(mk s i g rd 6 (.commit c) bg st' false).told s={mk s i g rd 7 (.commit c) bg (c.now+1) false with fin:=2,err:=c.rule.err,by_:=-1}:=by
    unfold PAt.told;rw[if_neg (show ¬(mk s i g rd 6 (.commit c) bg st' false).inner.rule.fin=0 from h0),if_neg (show ¬(mk s i g rd 6 (.commit c) bg st' false).inner.rule.fin=5 by show ¬c.rule.fin=5;omega)]
    have e2:(mk s i g rd 6 (.commit c) bg st' false).ended s=(mk s i g rd 6 (.commit c) bg st' false).out 2 c.rule.err (-1):=by show(mk s i g rd 6 (.commit c) bg st' false).out c.rule.fin c.rule.err (-1)=_;rw[h2]
    rw[e2];simp only;rw[if_pos (by show(true&&(c.isWriting||c.rule.fin==2))=true;simp[h2])]
    show(⟨_,_,_,_,_,_,_,_,(if c.writing then c.now+1 else 0),_,_,_,_⟩:PAt)=_
    rw[hwr];rfl
   rw[e];exact⟨.won g rd bg c _ _ hC hg hp (hk.move b1 b2) b3 b4 h2 hwr,by rw[hwr];show(true&&(c.isWriting||c.rule.fin==2))=true;simp[h2],fun _=>rfl⟩
  ·have hwr:c.writing=false:=by cases hh:c.writing with|false=>rfl|true=>have:=hw.1 hh;omega
   rw[hwr];refine(fun(h:_∧_)=>⟨h.1,h.2,fun hh=>by cases hh⟩) ?_
   rcases h45 with h4|h5
   ·refine Av (BP (s:=s) (x:=mk s i g rd 6 (.commit c) bg st' false) (y:=(mk s i g rd 6 (.commit c) bg st' false).out 4 c.rule.err (-1)) h0 (by show c.rule.fin≠5;omega) (by show(mk s i g rd 6 (.commit c) bg st' false).out c.rule.fin c.rule.err (-1)=_;rw[h4]) (by show(true&&(c.isWriting||c.rule.fin==2))=false;simp[PCo.isWriting,hwr,h4])) ?_ (by show(true&&(c.isWriting||c.rule.fin==2))=false;simp[PCo.isWriting,hwr,h4])
    exact .out _ hC rfl rfl (by show(true&&(c.isWriting||c.rule.fin==2))=false;simp[PCo.isWriting,hwr,h4]) (.inl rfl) rfl
   ·refine Av (GT (s:=s) (x:=mk s i g rd 6 (.commit c) bg st' false) h5 (by show(true&&(c.isWriting||c.rule.fin==2))=false;simp[PCo.isWriting,hwr,h5])) ?_ (by show(true&&(c.isWriting||c.rule.fin==2))=false;simp[PCo.isWriting,hwr,h5])
    exact .out _ hC rfl rfl (by show(true&&(c.isWriting||c.rule.fin==2))=false;simp[PCo.isWriting,hwr,h5]) (.inr rfl) rfl
end
end Wy
end
section
namespace Wy
def FO (s:PSt)(L:Nat→PLk)(W:Nat→Nat)(t:Nat)(H:AM)(C:Bd)(i:Nat)(k:Option Nat)(x:PAt):Prop :=
 x.next.2=true∧∃H' C',EF (fS s) s.stripes L W t H C i (Aq L W t x.next.1).2.1 (Aq L W t x.next.1).2.2.1 (Aq L W t x.next.1).2.2.2 H' C'∧At s (Aq L W t x.next.1).2.1 (Aq L W t x.next.1).2.2.2 H' C' i k (x.tell s (Aq L W t x.next.1).1) ∧
  ((x.tell s (Aq L W t x.next.1).1).writing=x.writing∧(x.writing=true→(x.tell s (Aq L W t x.next.1).1).stamp=x.stamp)∧(∀m c,H' m=some c→H m=some c)∨(x.tell s (Aq L W t x.next.1).1).writing=true∧x.writing=false∧H (x.tell s (Aq L W t x.next.1).1).stamp=none∧∀m c,H' m=some c→H m=some c∨m=(x.tell s (Aq L W t x.next.1).1).stamp)
section
variable {s : PSt} {W W' : Nat → Nat} {a b t t' : Nat} {L L' : Nat → PLk} {H H' : AM} {C C' : Bd} {i j p v w q st bg : Nat} {rd rd' : List (Nat × Nat)} {g g' : Sg} {k : Option Nat} {x : PAt}
theorem FO.still {o:POp}{a:PAns}{y:PAt}(hi:LI (fS s) s.stripes L W t H C)(ho:x.next=(o,true))(ha:Aq L W t o=(a,L,W,t))(hy:x.tell s a=y)(hw:x.writing=false)(h:At s L t H C i k y)(hw2:y.writing=false):FO s L W t H C i k x:=by
 unfold FO;rw[ho,ha];simp only;rw[hy];exact⟨trivial,H,C,EF.none_ hi,h,.inl ⟨hw2.trans hw.symm,(fun e=>by rw[hw] at e;cases e),fun _ _ e=>e⟩⟩
theorem Sr {c:PCo}(h0:c.rule.fin=0){a:PAns}(ha:a.err=0)(hw:c.writing=true)(h:c.state=5∨c.state=6):(c.tell a).writing=true∧(c.tell a).now=c.now:=by
 rcases h with h|h
 ·have e:c.tell a=({c with at_:=c.at_+1}:PCo).write:=(tell_eq h0 ha).trans (by split<;>first|omega|rfl|(exfalso;simp_all))
  rw[e];unfold PCo.write PCo.give;split
  ·split<;>exact⟨hw,rfl⟩
  ·exact⟨hw,rfl⟩
 ·have e:c.tell a=({c with at_:=c.at_+1}:PCo).give:=(tell_eq h0 ha).trans (by split<;>first|omega|rfl|(exfalso;simp_all))
  rw[e];unfold PCo.give;split<;>exact⟨hw,rfl⟩
theorem Sy (hs:RS s)(h:At s L t H C i k x)(hi:LI (fS s) s.stripes L W t H C)(hk:∀p,k=some p→P2 p)(h62:t<4611686018427387903)(h7:x.state≠7):FO s L W t H C i k x:=by
 have hl:min s.fuel 400=(min s.fuel 400-20)+20:=by have:=hs.fuel;omega
 cases h with
 |z0 h1=>exact .still hi rfl rfl rfl rfl (.z1 h1) rfl
 |z1 h1=>exact .still hi rfl rfl rfl rfl (.z2 t h1 (Nat.le_refl _)) rfl
 |z2 st h1 h2 =>
  cases k with
  |none =>
   have hg:=At.goes (L:=L) (t:=t) (H:=H) (C:=C) (i:=i) (k:=none) (g:=.n8) (rd:=[]) (bg:=st) (sa:=2) (inn:=.none) hs h1 h2 trivial (Kn.nil _ _ _ _ _ rfl) (Ov (n:=s.words) (m:=s.writes) hl);exact .still hi rfl rfl rfl rfl hg.1 hg.2
  |some p =>
   have hg:=At.goes (L:=L) (t:=t) (H:=H) (C:=C) (i:=i) (k:=some p) (g:=.put p) (rd:=[]) (bg:=st) (sa:=2) (inn:=.none) hs h1 h2 (hk p rfl:P2 p) (Kn.nil _ _ _ _ _ rfl) (Rq (n:=s.words) hl hs.writes (hk p rfl));exact .still hi rfl rfl rfl rfl hg.1 hg.2
 |fe g rd bg st fe h1 h2 h3 h4 h5 h6 =>
  have hP:P2 g.need:=by cases g<;>first|exact .inl rfl|exact .inr rfl|(exfalso;simp[Sg.end_] at h3)
  have key:∀a:PAns,a.err=0→(if fe.state=1 then a.word=W g.need else a.lock=L (fS s g.need))→At s L t H C i k ((mk s i g rd 3 (.fetch fe) bg st false).tell s a)∧((mk s i g rd 3 (.fetch fe) bg st false).tell s a).writing=false:=fun a ha hb=>by
   have hf:=h5.tell hi hP (hs.lt _) h2 h6 ha hb;rw[Dz ha (by show 3≤3;omega) (by show 3≤6;omega)]
   show At s L t H C i k ((mk s i g rd 3 (.fetch (fe.tell a)) bg st false).told s)∧((mk s i g rd 3 (.fetch (fe.tell a)) bg st false).told s).writing=false
   by_cases e:(fe.tell a).rule.fin=0
   ·rw[GS (mk s i g rd 3 (.fetch (fe.tell a)) bg st false) e rfl];exact⟨.fe g rd bg st _ h1 h2 h3 h4 hf e,rfl⟩
   ·exact At.fetched hs h62 h1 h2 h3 h4 hf e bg
  by_cases e:fe.state=1
  ·obtain⟨q1,q2⟩:=key {PAns.zero with word:=W g.need} rfl (by rw[if_pos e])
   refine .still hi (o:=POp.at' 1 g.need) ?_ rfl rfl rfl q1 q2;show fe.next=_
   unfold PFe.next;rw[if_neg (by omega),if_pos e,h5.at_]
  ·obtain⟨q1,q2⟩:=key {PAns.zero with lock:=L (fS s g.need)} rfl (by rw[if_neg e])
   refine .still hi (o:=POp.at' 3 (fS s g.need)) ?_ rfl rfl rfl q1 q2;show fe.next=_
   unfold PFe.next;rw[if_neg (by omega),if_neg e,h5.stripe]
 |ex g rd bg st ex h1 h2 h3 h4 h5 h6 =>
  have key:∀a:PAns,a.err=0→(if ex.loaded=true then a.lock=L (rd.getD ex.at_ (0,0)).1 else a.word=t)→At s L t H C i k ((mk s i g rd 4 (.extend ex) bg st false).tell s a)∧((mk s i g rd 4 (.extend ex) bg st false).tell s a).writing=false:=fun a ha hb=>by
   have hf:=h5.tell hi h4.vs h4.lt h2 h6 ha hb;rw[Dz ha (by show 3≤4;omega) (by show 4≤6;omega)]
   show At s L t H C i k ((mk s i g rd 4 (.extend (ex.tell a)) bg st false).told s)∧((mk s i g rd 4 (.extend (ex.tell a)) bg st false).told s).writing=false
   by_cases e:(ex.tell a).rule.fin=0
   ·rw[GS (mk s i g rd 4 (.extend (ex.tell a)) bg st false) e rfl];exact⟨.ex g rd bg st _ h1 h2 h3 h4 hf e,rfl⟩
   ·exact At.extended h1 h2 h3 h4 hf e bg
  by_cases e:ex.loaded=true
  ·obtain⟨q1,q2⟩:=key {PAns.zero with lock:=L (rd.getD ex.at_ (0,0)).1} rfl (by rw[if_pos e])
   refine .still hi (o:=POp.at' 3 (rd.getD ex.at_ (0,0)).1) ?_ rfl rfl rfl q1 q2;show ex.next=_
   unfold PEx.next;rw[if_neg (by omega),if_pos e,h5.seen]
  ·obtain⟨q1,q2⟩:=key {PAns.zero with word:=t} rfl (by rw[if_neg e])
   refine .still hi (o:=POp.at' 6 0) ?_ rfl rfl rfl q1 q2;show ex.next=_
   unfold PEx.next;rw[if_neg (by omega),if_neg e]
 |ho rd bg st ex h1 h2 h4 h5 h6 =>
  have key:∀a:PAns,a.err=0→(if ex.loaded=true then a.lock=L (rd.getD ex.at_ (0,0)).1 else a.word=t)→At s L t H C i k ((mk s i .blk rd 5 (.extend ex) bg st true).tell s a)∧((mk s i .blk rd 5 (.extend ex) bg st true).tell s a).writing=false:=fun a ha hb=>by
   have hf:=h5.tell hi h4.vs h4.lt h2 h6 ha hb;rw[Dz ha (by show 3≤5;omega) (by show 5≤6;omega)]
   show At s L t H C i k ((mk s i .blk rd 5 (.extend (ex.tell a)) bg st true).told s)∧((mk s i .blk rd 5 (.extend (ex.tell a)) bg st true).told s).writing=false
   by_cases e:(ex.tell a).rule.fin=0
   ·rw[GS (mk s i .blk rd 5 (.extend (ex.tell a)) bg st true) e rfl];exact⟨.ho rd bg st _ h1 h2 h4 hf e,rfl⟩
   ·exact At.held h1 h2 h4 hf e bg
  by_cases e:ex.loaded=true
  ·obtain⟨q1,q2⟩:=key {PAns.zero with lock:=L (rd.getD ex.at_ (0,0)).1} rfl (by rw[if_pos e])
   refine .still hi (o:=POp.at' 3 (rd.getD ex.at_ (0,0)).1) ?_ rfl rfl rfl q1 q2;show ex.next=_
   unfold PEx.next;rw[if_neg (by omega),if_pos e,h5.seen]
  ·obtain⟨q1,q2⟩:=key {PAns.zero with word:=t} rfl (by rw[if_neg e])
   refine .still hi (o:=POp.at' 6 0) ?_ rfl rfl rfl q1 q2;show ex.next=_
   unfold PEx.next;rw[if_neg (by omega),if_neg e]
 |co g rd bg st c h2 h3 h8 h4 h5 h6 =>
  have hP:P2 g.cell.1:=by
   cases g with
   |put p=>exact h8
   |d2 w=>exact .inr rfl
   |_=>exact .inl rfl
  obtain⟨H',C',e1,e2,e3⟩:=Sp h5 hi hP (hs.lt _) h4.vs h4.lt h2 h62 h6;have hn:(mk s i g rd 6 (.commit c) bg (if c.writing then c.now+1 else st) false).next=c.next:=rfl
  have hn2:c.next.2=true:=by unfold PCo.next;rw[if_neg (by omega)];split<;>rfl
  have herr:(Aq L W t c.next.1).1.err=0:=by unfold Aq;split<;>first|rfl|(split<;>rfl)
  have hW:(mk s i g rd 6 (.commit c) bg (if c.writing then c.now+1 else st) false).writing=c.writing:=by
   show(true&&(c.isWriting||c.rule.fin==2))=_
   cases hh:c.writing<;>simp[PCo.isWriting,h6,hh]
  have hkeep:c.writing=true→(c.tell (Aq L W t c.next.1).1).writing=true∧(c.tell (Aq L W t c.next.1).1).now=c.now:=fun hh=>Sr h6 herr hh (h5.writing.1 hh)
  have hw:(c.tell (Aq L W t c.next.1).1).writing=false→c.writing=false:=fun hh=>by
   cases hc:c.writing with
   |false=>rfl
   |true=>rw[(hkeep hc).1] at hh;cases hh
  unfold FO;rw[hn];have ht:(mk s i g rd 6 (.commit c) bg (if c.writing then c.now+1 else st) false).tell s (Aq L W t c.next.1).1=(mk s i g rd 6 (.commit (c.tell (Aq L W t c.next.1).1)) bg (if c.writing then c.now+1 else st) false).told s:=Dz herr (by show 3≤6;omega) (by show 6≤6;omega)
  rw[ht];obtain⟨k1,k0,k2⟩:=At.commits (k:=k) (by have:=e1.rely.clock;omega) h3 h8 (h4.rely e1.rely h2) e2 bg (if c.writing then c.now+1 else st) (fun hh=>by rw[hw hh];rfl)
  refine⟨hn2,H',C',e1,k1,?_⟩;rw[hW];rcases e3 with⟨f1,f2⟩|⟨f1,f2,f3,f4⟩
  ·refine .inl ⟨?_,fun h9=>?_,f2⟩
   ·exact k0.trans f1
   ·obtain⟨k5,k6⟩:=hkeep h9;rw[k2 k5,k6];show _=(if c.writing=true then c.now+1 else st);rw[if_pos h9]
  ·have k4:=k2 f1;exact .inr ⟨k0.trans f1,f2,by rw[k4];exact f3,fun m c' he=>by rw[k4];exact f4 m c' he⟩
 |out x h1 h2=>exact absurd h2 h7
 |won=>exact absurd rfl h7
 |lost=>exact absurd rfl h7
end
end Wy
end
section
namespace Wy
def Ag (m:PMm):Nat→PLk:=fun S=>m.locks.getD S PLk.zero
def An (m:PMm):Nat→Nat:=fun p=>m.words.getD p 0
inductive Bc (n T:Nat):POp→Prop
 |load (p):P2 p→Bc n T (POp.at' 1 p)
 |store (p v):P2 p→Bc n T {POp.at' 2 p with word:=v}
 |look (S):S<n→Bc n T (POp.at' 3 S)
 |cas (S was lock):S<n→lock.ok=true→Bc n T {POp.at' 4 S with was:=was,lock:=lock}
 |set (S lock):S<n→lock.ok=true→Bc n T {POp.at' 5 S with lock:=lock}
 |clock:Bc n T (POp.at' 6 0)
 |tick (now):now+1<4611686018427387904→Bc n T {POp.at' 7 0 with old:=now,word:=now+1}
 |since (j v):j<T→Bc n T {POp.at' 9 j with word:=v}
structure Up (m:PMm) (o:POp) (r:PAns×PMm):Prop where
 err:r.1.err=0
 ans:r.1=(Aq (Ag m) (An m) m.clock o).1
 locks:Ag r.2=(Aq (Ag m) (An m) m.clock o).2.1
 words:An r.2=(Aq (Ag m) (An m) m.clock o).2.2.1
 clock:r.2.clock=(Aq (Ag m) (An m) m.clock o).2.2.2
 llen:r.2.locks.length=m.locks.length
 wlen:r.2.words.length=m.words.length
 slen:r.2.since.length=m.since.length
theorem Ey {α:Type}(l:List α)(k j:Nat)(x d:α)(h:k<l.length):(l.set k x).getD j d=if j=k then x else l.getD j d:=by grind
theorem Uk {n T:Nat}{m:PMm}{o:POp}(h:Bc n T o)(hl:m.locks.length=n)(hw:14≤m.words.length)(hs:m.since.length=T):Up m o (doC m o):=by
 have key:∀(a:PAns) (m':PMm),doM m o=(a,m')→a.err=0→a=(Aq (Ag m) (An m) m.clock o).1→Ag m'=(Aq (Ag m) (An m) m.clock o).2.1→An m'=(Aq (Ag m) (An m) m.clock o).2.2.1→m'.clock=(Aq (Ag m) (An m) m.clock o).2.2.2 →
   m'.locks.length=m.locks.length→m'.words.length=m.words.length→m'.since.length=m.since.length→Up m o (doC m o):=fun a m' e h0 h1 h2 h3 h4 h5 h6 h7=>by
  have e2:doC m o=(a,{m' with count:=wrap64 (m'.count+1)}):=by unfold doC;rw[e];simp only;rw[if_pos h0]
  rw[e2];exact⟨h0,h1,h2,h3,h4,h5,h6,h7⟩
 cases h with
 |load p hp =>
  have hb:1≤p∧p<m.words.length:=by rcases hp with rfl|rfl<;>omega
  exact key _ m (if_pos hb) rfl rfl rfl rfl rfl rfl rfl rfl
 |store p v hp =>
  have hb:1≤p∧p<m.words.length:=by rcases hp with rfl|rfl<;>omega
  refine key _ {m with words:=m.words.set p v} (if_pos hb) rfl rfl rfl ?_ rfl rfl (by simp) rfl
  funext q;exact Ey _ _ _ _ _ hb.2
 |look S hS=>exact key _ m (if_pos (by show S<_;omega)) rfl rfl rfl rfl rfl rfl rfl rfl
 |cas S was lock hS hk =>
  have hb:S<m.locks.length:=by omega
  by_cases e:m.locks.getD S PLk.zero=was
  ·have ha:Aq (Ag m) (An m) m.clock {POp.at' 4 S with was:=was,lock:=lock}=({PAns.zero with done:=true},Ah (Ag m) S lock,An m,m.clock):=if_pos e
   refine key {PAns.zero with done:=true} {m with locks:=m.locks.set S lock} ((if_pos hb).trans ((if_pos hk).trans (if_pos e))) rfl (by rw[ha]) ?_ (by rw[ha];rfl) (by rw[ha]) (by simp) rfl rfl
   rw[ha];funext q;exact Ey _ _ _ _ _ hb
  ·have ha:Aq (Ag m) (An m) m.clock {POp.at' 4 S with was:=was,lock:=lock}=(PAns.zero,Ag m,An m,m.clock):=if_neg e
   exact key PAns.zero m ((if_pos hb).trans ((if_pos hk).trans (if_neg e))) rfl (by rw[ha]) (by rw[ha]) (by rw[ha]) (by rw[ha]) rfl rfl rfl
 |set S lock hS hk =>
  have hb:S<m.locks.length:=by omega
  refine key PAns.zero {m with locks:=m.locks.set S lock} ((if_pos hb).trans (if_pos hk)) rfl rfl ?_ rfl rfl (by simp) rfl rfl
  funext q;exact Ey _ _ _ _ _ hb
 |clock=>exact key _ m rfl rfl rfl rfl rfl rfl rfl rfl rfl
 |tick now hb =>
  by_cases e:m.clock=now
  ·have ha:Aq (Ag m) (An m) m.clock {POp.at' 7 0 with old:=now,word:=now+1}=({PAns.zero with done:=true},Ag m,An m,now+1):=if_pos e
   exact key {PAns.zero with done:=true} {m with clock:=now+1} ((if_neg (by show ¬now+1≤now;omega)).trans ((if_neg (by show ¬_≤now+1;omega)).trans (if_pos e))) rfl (by rw[ha]) (by rw[ha];rfl) (by rw[ha];rfl) (by rw[ha]) rfl rfl rfl
  ·have ha:Aq (Ag m) (An m) m.clock {POp.at' 7 0 with old:=now,word:=now+1}=(PAns.zero,Ag m,An m,m.clock):=if_neg e
   exact key PAns.zero m ((if_neg (by show ¬now+1≤now;omega)).trans ((if_neg (by show ¬_≤now+1;omega)).trans (if_neg e))) rfl (by rw[ha]) (by rw[ha]) (by rw[ha]) (by rw[ha]) rfl rfl rfl
 |since j v hj=>exact key PAns.zero {m with since:=m.since.set j v} (if_pos (by show j<_;omega)) rfl rfl rfl rfl rfl rfl rfl (by simp)
theorem UP {m:PMm}{j:Nat}(hj:j<m.since.length):(doC m (POp.at' 8 j)).1.err=0∧Ag (doC m (POp.at' 8 j)).2=Ag m∧An (doC m (POp.at' 8 j)).2=An m∧(doC m (POp.at' 8 j)).2.clock=m.clock ∧
  (doC m (POp.at' 8 j)).2.locks.length=m.locks.length∧(doC m (POp.at' 8 j)).2.words.length=m.words.length∧(doC m (POp.at' 8 j)).2.since.length=m.since.length:=by
 have e:doM m (POp.at' 8 j)=({PAns.zero with word:=m.since.getD j 0},m):=if_pos hj
 have e2:doC m (POp.at' 8 j)=({PAns.zero with word:=m.since.getD j 0},{m with count:=wrap64 (m.count+1)}):=by unfold doC;rw[e];rfl
 rw[e2];exact⟨rfl,rfl,rfl,rfl,rfl,rfl,rfl⟩
theorem Gf (v i:Nat)(h:v<4611686018427387904)(hi:i<4):PLk.ok ⟨v,true,i⟩=true∧PLk.ok ⟨v,false,0⟩=true:=by
 constructor<;>simp[PLk.ok,h,hi]
section
variable {f W W' : Nat → Nat} {n T a b t t' : Nat} {L L' : Nat → PLk} {H H' : AM} {C C' : Bd} {i j S p v w q st bg : Nat} {l rd rd' : List (Nat × Nat)} {g g' : Sg} {k : Option Nat} {x : PAt} {s : PSt} {c : PCo}
theorem Ul (h:BB f L t H C i st l q v c)(hi:LI f n L W t H C)(hq:P2 q)(hS:f q<n)(hn:∀j,j<l.length→(l.getD j (0,0)).1<n)(ht62:t<4611686018427387903)(hf:c.rule.fin=0)(hi4:i<4):Bc n T c.next.1:=by
 have hle:=h.le;have hv:=BO (f:=f) (H:=H) (S:=f q) t;unfold PCo.next;rw[if_neg (by omega)]
 rcases(by omega:c.state=0∨c.state=1∨c.state=2∨c.state=3∨c.state=4∨c.state=5∨c.state=6∨c.state=7) with e|e|e|e|e|e|e|e
 all_goals rw[e]
 ·show Bc n T (POp.at' 3 (c.stripes.getD c.was.length 0))
  rw[(h.s0 e).1,h.stripes];exact .look _ hS
 ·obtain⟨g1,_,_,_,_,g6⟩:=h.s1 e;show Bc n T {POp.at' 4 (c.stripes.getD c.was.length 0) with was:=c.lock,lock:=⟨c.lock.ver,true,c.me⟩}
  rw[g1,h.stripes,h.me];exact .cas _ _ _ hS (Gf _ _ g6 hi4).1
 ·exact .clock
 ·exact .tick _ (by have:=h.s3 e;omega)
 ·exact .look _ (by have:=h.s4 e;rw[h.seen];exact hn _ this.2.2.2.2.2.2.1)
 ·show Bc n T {POp.at' 2 (c.cells.getD c.at_ (0,0)).1 with word:=(c.cells.getD c.at_ (0,0)).2}
  rw[(h.s5 e).2.1,h.cells];exact .store _ _ hq
 ·obtain⟨g1,g2,g3⟩:=(h.s6 e).resolve_right (by omega)
  obtain⟨_,_,_,_,_,_,m6,_⟩:=hi.mine _ _ _ g3;show Bc n T {POp.at' 5 (c.stripes.getD c.at_ 0) with lock:=⟨c.now+1,false,0⟩}
  rw[g2,h.stripes];exact .set _ _ hS (Gf _ 0 (by omega) (by omega)).2
 ·obtain⟨g1,g2,g3,g4,g5⟩:=(h.s7 e).resolve_right (by omega)
  have hb:(L (f q)).ver≤t:=by
   rcases g4 with g4|⟨k,g4⟩
   ·obtain⟨_,_,_,m4,_⟩:=hi.mine _ _ _ g4;omega
   ·obtain⟨_,_,_,m4,_⟩:=hi.mine _ _ _ g4;omega
  show Bc n T {POp.at' 5 (c.stripes.getD c.at_ 0) with lock:=c.was.getD c.at_ PLk.zero}
  rw[g2,h.stripes,g3];exact .set _ _ hS (Gf _ 0 (by omega) (by omega)).2
theorem Um (hs:RS s)(h:At s L t H C i k x)(hi:LI (fS s) s.stripes L W t H C)(h62:t<4611686018427387903)(hi4:i<4)(hT:i<T):Bc s.stripes T x.next.1:=by
 cases h with
 |z0 h1=>exact .since _ _ hT
 |z1 h1=>exact .clock
 |z2 st h1 h2=>exact .since _ _ hT
 |fe g rd bg st fe h1 h2 h3 h4 h5 h6 =>
  have hP:P2 g.need:=by cases g<;>first|exact .inl rfl|exact .inr rfl|(exfalso;simp[Sg.end_] at h3)
  show Bc _ _ fe.next.1
  unfold PFe.next;rw[if_neg (by omega),h5.at_,h5.stripe]
  split
  ·exact .load _ hP
  ·exact .look _ (hs.lt _)
 |ex g rd bg st ex h1 h2 h3 h4 h5 h6 =>
  show Bc _ _ ex.next.1
  unfold PEx.next;rw[if_neg (by omega),h5.seen]
  split
  ·rename_i e;exact .look _ (h4.lt _ (h5.lt h6 e))
  ·exact .clock
 |ho rd bg st ex h1 h2 h4 h5 h6 =>
  show Bc _ _ ex.next.1
  unfold PEx.next;rw[if_neg (by omega),h5.seen]
  split
  ·rename_i e;exact .look _ (h4.lt _ (h5.lt h6 e))
  ·exact .clock
 |co g rd bg st c h2 h3 h8 h4 h5 h6 =>
  have hP:P2 g.cell.1:=by
   cases g with
   |put p=>exact h8
   |d2 w=>exact .inr rfl
   |_=>exact .inl rfl
  exact Ul h5 hi hP (hs.lt _) h4.lt h62 h6 hi4
 |out x h1 h2 h3 h4 h5 h6=>unfold PAt.next;rw[h2,h6];exact .since _ _ hT
 |won=>exact .since _ _ hT
 |lost=>exact .since _ _ hT
end
end Wy
end
section
namespace Wy
structure MJ (s:PSt) (t:Nat) (H:AM) (C:Bd) (T:PTo):Prop where
 won:T.kind=2→∃g rd b,g.end_=2∧Dk g∧T.stamp=b+1∧b<t∧H (b+1)=some g.cell∧Kn (fS s) s.stripes H C rd g b∧T.cells=[g.cell]∧T.slate=textI (g.run 0).out
 lost:T.kind=3→T.stamp≤t∧∃rd,Kn (fS s) s.stripes H C rd .blk T.stamp
def ws (l:List PTo):List Nat:=(l.filter (·.kind==2)).map (·.stamp)
section
variable {s : PSt} {t t' : Nat} {L L' : Nat → PLk} {H H' : AM} {C C' : Bd} {i : Nat} {k : Option Nat} {ks : List (Option Nat)} {x : PAt} {T : PTo} {th : PTh}
theorem MJ.rely (h:MJ s t H C T)(hr:Ar (fS s) t H C t' H' C'):MJ s t' H' C' T:=by
 have:=hr.clock
 refine⟨fun e=>?_,fun e=>?_⟩
 ·obtain⟨g,rd,b,h1,h2,h3,h4,h5,h6,h7,h8⟩:=h.won e;exact⟨g,rd,b,h1,h2,h3,by omega,hr.has _ _ h5,h6.rely hr (by omega),h7,h8⟩
 ·obtain⟨h1,rd,h2⟩:=h.lost e;exact⟨by omega,rd,h2.rely hr h1⟩
theorem DK (l m:List PTo):ws (l++m)=ws l++ws m:=by simp[ws]
theorem TF (g:Sg)(l:Nat):(g.run l).out=(g.run 0).out:=by cases g<;>rfl
theorem At.told (h:At s L t H C i k x)(th:PTh)(pick:Nat):MJ s t H C (x.toldOf th pick)∧ws [x.toldOf th pick]=(if x.writing then [x.stamp] else [])∧(x.writing=true→x.begun=true)∧x.finOf=0:=by
 have key:x.state≠8→x.writing=false→MJ s t H C (x.toldOf th pick)∧ws [x.toldOf th pick]=(if x.writing then [x.stamp] else [])∧(x.writing=true→x.begun=true)∧x.finOf=0:=fun h8 hw=>by
  have hf:x.finOf=0:=by unfold PAt.finOf;rw[if_pos h8]
  have hk:(x.toldOf th pick).kind=0:=by show(if x.writing then 2 else x.finOf)=0;rw[hw,hf];rfl
  exact⟨⟨fun e=>by omega,fun e=>by omega⟩,by rw[hw];simp[ws,hk],(fun e=>by rw[hw] at e;cases e),hf⟩
 have yes:∀(g:Sg) (rd:List (Nat×Nat)) (b:Nat),x.state≠8→x.writing=true→x.begun=true→g.end_=2→Dk g→x.stamp=b+1→b<t→H (b+1)=some g.cell→Kn (fS s) s.stripes H C rd g b→x.v=g.vw s.words s.writes→x.run=g.run (min s.fuel 400-20) →
   MJ s t H C (x.toldOf th pick)∧ws [x.toldOf th pick]=(if x.writing then [x.stamp] else [])∧(x.writing=true→x.begun=true)∧x.finOf=0:=fun g rd b h8 hw hb h1 h2 h3 h4 h5 h6 h7 h9=>by
  have hf:x.finOf=0:=by unfold PAt.finOf;rw[if_pos h8]
  have hk:(x.toldOf th pick).kind=2:=by show(if x.writing then 2 else x.finOf)=2;rw[hw];rfl
  have hc:x.committed=true:=by unfold PAt.committed;rw[hw];simp
  refine⟨⟨fun _=>⟨g,rd,b,h1,h2,h3,h4,h5,h6,?_,?_⟩,fun e=>by omega⟩,by rw[hw];simp[ws,hk];rfl,fun _=>hb,hf⟩
  ·show x.cells=_
   unfold PAt.cells;rw[hc,h7];exact FH h1 h2
  ·show x.slate=_
   unfold PAt.slate;rw[hc,h9,if_pos rfl,TF]
 cases h with
 |z0 h1=>exact key (by show ¬0=8;omega) rfl
 |z1 h1=>exact key (by show ¬1=8;omega) rfl
 |z2 st h1 h2=>exact key (by show ¬2=8;omega) rfl
 |fe g rd bg st fe h1 h2 h3 h4 h5 h6=>exact key (by show ¬3=8;omega) rfl
 |ex g rd bg st ex h1 h2 h3 h4 h5 h6=>exact key (by show ¬4=8;omega) rfl
 |ho rd bg st ex h1 h2 h4 h5 h6=>exact key (by show ¬5=8;omega) rfl
 |co g rd bg st c h2 h3 h8 h4 h5 h6 =>
  rcases Bool.eq_false_or_eq_true c.writing with hw|hw
  ·obtain⟨b1,b2,b3,b4⟩:=h5.good hw;exact yes g rd c.now (by show ¬6=8;omega) (by show(true&&(c.isWriting||c.rule.fin==2))=true;simp[PCo.isWriting,hw,h6]) rfl h3 h8 (if_pos hw) b3 b4 (h4.move b1 b2) rfl rfl
  ·exact key (by show ¬6=8;omega) (by show(true&&(c.isWriting||c.rule.fin==2))=false;simp[PCo.isWriting,hw,h6])
 |out x h1 h2 h3 h4 h5 h6=>exact key (by omega) h4
 |won g rd bg c e b h1 h2 h7 h3 h4 h5 h6 h8=>exact yes g rd c.now (by show ¬7=8;omega) (by show(true&&(c.isWriting||c.rule.fin==2))=true;simp[h6]) rfl h2 h7 rfl h4 h5 h3 rfl rfl
 |lost rd bg st ex e b h1 h2 h3=>exact key (by show ¬7=8;omega) rfl
theorem At.over (h:At s L t H C i k x)(h7:x.state=7)(th:PTh)(pick:Nat):C i=none∧MJ s t H C (({x with state:=8}:PAt).toldOf th pick)∧ws [({x with state:=8}:PAt).toldOf th pick]=(if x.writing then [x.stamp] else [])∧({x with state:=8}:PAt).finOf≠0:=by
 cases h with
 |out x h1 h2 h3 h4 h5 h6 =>
  have hk:(({x with state:=8}:PAt).toldOf th pick).kind=x.fin:=rfl
  have h9:x.fin≠2:=by omega
  exact⟨h1,⟨fun e=>by omega,fun e=>by omega⟩,by rw[h4];simp[ws,hk,h9],by show x.fin≠0;omega⟩
 |won g rd bg c e b h1 h2 h9 h3 h4 h5 h6 h8 =>
  refine⟨h1,⟨fun _=>⟨g,rd,c.now,h2,h9,rfl,h4,h5,h3,FH h2 h9,?_⟩,fun e=>by cases e⟩,?_,by show 2≠0;omega⟩
  ·show textI (g.run (min s.fuel 400-20)).out=_
   rw[TF]
  ·rw[if_pos (by show(true&&(c.isWriting||c.rule.fin==2))=true;simp[h6])];rfl
 |lost rd bg st ex e b h1 h2 h3=>exact⟨h1,⟨(fun e=>by cases e),fun _=>⟨h2,rd,h3⟩⟩,rfl,by show 3≠0;omega⟩
 |_=>cases h7
end
end Wy
end
section
namespace Wy
structure Th (s:PSt) (L:Nat→PLk) (t:Nat) (H:AM) (C:Bd) (i:Nat) (ks:List (Option Nat)) (x:PTh):Prop where
 me:x.me=i
 jobs:x.jobs=ks.map codeOf
 job:x.job≤x.jobs.length
 past:∀T∈x.past,MJ s t H C T
 work:x.state=1→∃y k,x.now=some y∧k∈ks∧At s L t H C i k y∧x.job<x.jobs.length
 idle:x.state≠1→C i=none
 state:x.state=1∨x.state=2∧x.by_<s.threads∨x.state=3∨x.state=4∨x.state=6
section
variable {s : PSt} {t t' : Nat} {L L' : Nat → PLk} {W : Nat → Nat} {H H' : AM} {C C' : Bd} {i : Nat} {k : Option Nat} {ks : List (Option Nat)} {x : PTh} {T : PTo}
theorem Th.rely (h:Th s L t H C i ks x)(hr:Ar (fS s) t H C t' H' C')(hc:C' i=C i)(hL:∀S s,C i=some (S,s)→L' S=L S):Th s L' t' H' C' i ks x:=by
 refine⟨h.me,h.jobs,h.job,fun T hT=>(h.past T hT).rely hr,fun e=>?_,fun e=>hc.trans (h.idle e),h.state⟩
 obtain⟨y,k,h1,h2,h3,h4⟩:=h.work e;exact⟨y,k,h1,h2,h3.rely hr hc hL,h4⟩
theorem Aj {x:PTh}(h:x.state≠1):x.attempts=x.past:=by unfold PTh.attempts;rw[if_neg h,List.append_nil]
theorem Bb (h1:x.me=i)(h2:x.jobs=ks.map codeOf)(h3:x.job≤x.jobs.length)(h4:∀T∈x.past,MJ s t H C T)(h5:C i=none):Th s L t H C i ks (x.again s)∧(x.again s).attempts=x.past:=by
 unfold PTh.again;simp only;by_cases e:x.job=x.jobs.length
 ·rw[if_pos e];exact⟨⟨h1,h2,h3,h4,(fun e=>by cases e),fun _=>h5,by simp⟩,Aj (by show ¬6=1;omega)⟩
 ·rw[if_neg e];have hlt:x.job<ks.length:=by rw[h2] at h3 e;simp at h3 e;omega
  have hj:x.jobs.getD x.job []=codeOf (ks[x.job]'hlt):=by
   rw[h2,gD,List.getElem?_map,List.getElem?_eq_getElem hlt];rfl
  refine⟨⟨h1,h2,h3,h4,fun _=>⟨_,ks[x.job]'hlt,rfl,List.getElem_mem _,?_,by show x.job<x.jobs.length;omega⟩,fun e=>absurd rfl e,.inl rfl⟩,?_⟩
  ·rw[h1,hj];exact .z0 h5
  ·unfold PTh.attempts;simp only[if_true];rw[if_neg (by show ¬(PAt.new _ _ _).begun=true;simp[PAt.new]),List.append_nil]
theorem IH (h1:x.me=i)(h2:x.jobs=ks.map codeOf)(h3:x.job≤x.jobs.length)(h4:∀T∈x.past,MJ s t H C T)(h5:C i=none)(dr:Nat):Th s L t H C i ks (x.pause s dr)∧(x.pause s dr).attempts=x.past:=by
 unfold PTh.pause;simp only;split
 ·exact Bb h1 h2 h3 h4 h5
 ·exact⟨⟨h1,h2,h3,h4,(fun e=>by cases e),fun _=>h5,by simp⟩,Aj (by show ¬3=1;omega)⟩
theorem IJ (h:Th s L t H C i ks x):Th s L t H C i ks (x.pauseOne s)∧(x.pauseOne s).attempts=x.attempts:=by
 unfold PTh.pauseOne;split
 ·exact⟨h,rfl⟩
 ·rename_i e;have e3:x.state=3:=by simpa using e
  simp only;have hC:=h.idle (by omega)
  rw[Aj (x:=x) (by omega)]
  split
  ·exact Bb (x:={x with pauses:=x.pauses-1}) h.me h.jobs h.job h.past hC
  ·exact⟨⟨h.me,h.jobs,h.job,h.past,fun e=>absurd e (by show ¬x.state=1;omega),fun _=>hC,h.state⟩,Aj (by show ¬x.state=1;omega)⟩
theorem LK (h:Th s L t H C i ks x)(S v:Nat):Th s L t H C i ks (x.wake s S v)∧(x.wake s S v).attempts=x.attempts:=by
 unfold PTh.wake;split
 ·exact⟨h,rfl⟩
 ·split
  ·by_cases e:x.state=4
   ·rw[if_pos e,Aj (x:=x) (by omega)]
    exact Bb h.me h.jobs h.job h.past (h.idle (by omega))
   ·rw[if_neg e];split
    ·exact⟨⟨h.me,h.jobs,h.job,h.past,h.work,h.idle,h.state⟩,rfl⟩
    ·exact⟨h,rfl⟩
  ·exact⟨h,rfl⟩
theorem Dx (h:Th s L t H C i ks x)(e:x.state=1){y:PAt}(hy:x.now=some y):ws x.attempts=ws x.past++(if y.writing then [y.stamp] else [])∧∀T∈x.attempts,MJ s t H C T:=by
 obtain⟨y',k,h1,h2,h3,h4⟩:=h.work e;rw[hy] at h1;obtain rfl:=Option.some.inj h1;obtain⟨k1,k2,k3,k4⟩:=h3.told x 0;unfold PTh.attempts;rw[if_pos e,hy];simp only;by_cases hb:y.begun=true
 ·rw[if_pos hb,DK,k2];refine⟨rfl,fun T hT=>?_⟩
  rcases List.mem_append.1 hT with hT|hT
  ·exact h.past T hT
  ·rw[List.mem_singleton.1 hT];exact k1
 ·rw[if_neg hb];have hw:y.writing=false:=by cases hh:y.writing with|false=>rfl|true=>exact absurd (k3 hh) hb
  rw[hw];exact⟨by simp,fun T hT=>h.past T (by simpa using hT)⟩
theorem TK (h:Th s L t H C i ks x):∀T∈x.attempts,MJ s t H C T:=by
 by_cases e:x.state=1
 ·obtain⟨y,k,h1,_⟩:=h.work e;exact(Dx h e h1).2
 ·rw[Aj e];exact h.past
end
end Wy
end
section
namespace Wy
def TE (H H':AM)(l l':List Nat):Prop:=l'=l∧(∀m c,H' m=some c→H m=some c)∨∃m,l'=l++[m]∧H m=none∧(∃c,H' m=some c)∧∀m' c,H' m'=some c→H m'=some c∨m'=m
section
variable {s : PSt} {t t' : Nat} {L L' : Nat → PLk} {W : Nat → Nat} {H H' : AM} {C C' : Bd} {i : Nat} {k : Option Nat} {ks : List (Option Nat)} {x : PTh} {y : PAt} {T : PTo}
theorem UW (hs:RS s)(h:Th s L t H C i ks x)(hi:LI (fS s) s.stripes L W t H C)(hks:∀p,some p∈ks→P2 p)(h62:t<4611686018427387903)(e1:x.state=1)(hy:x.now=some y)(h7:y.state≠7)(dr pick:Nat):
  y.next.2=true∧∃H' C',EF (fS s) s.stripes L W t H C i (Aq L W t y.next.1).2.1 (Aq L W t y.next.1).2.2.1 (Aq L W t y.next.1).2.2.2 H' C'∧Th s (Aq L W t y.next.1).2.1 (Aq L W t y.next.1).2.2.2 H' C' i ks (x.tell s (Aq L W t y.next.1).1 dr pick) ∧
   TE H H' (ws x.attempts) (ws (x.tell s (Aq L W t y.next.1).1 dr pick).attempts):=by
 obtain⟨y',k,g1,g2,g3,g4⟩:=h.work e1;rw[hy] at g1;obtain rfl:=Option.some.inj g1;obtain⟨n1,H',C',n2,n3,n4⟩:=Sy hs g3 hi (fun p e=>hks p (e▸g2)) h62 h7
 refine⟨n1,H',C',n2,?_⟩;obtain⟨z,hz⟩:∃z,y.tell s (Aq L W t y.next.1).1=z:=⟨_,rfl⟩;rw[hz] at n3 n4;have e2:∃bo,x.tell s (Aq L W t y.next.1).1 dr pick={x with now:=some z,born:=bo}:=by
  refine⟨if z.begun&&!y.begun then pick else x.born,?_⟩
  unfold PTh.tell;simp only[e1,hy,hz];rw[if_neg (by rw[(n3.told x 0).2.2.2];simp)]
 obtain⟨bo,e2⟩:=e2;rw[e2];have hT:Th s (Aq L W t y.next.1).2.1 (Aq L W t y.next.1).2.2.2 H' C' i ks {x with now:=some z,born:=bo} :=
  ⟨h.me,h.jobs,h.job,fun T hT=>(h.past T hT).rely n2.rely,fun _=>⟨z,k,rfl,g2,n3,g4⟩,fun e=>absurd e1 e,h.state⟩
 refine⟨hT,?_⟩;rw[(Dx h e1 hy).1,(Dx hT e1 rfl).1];show TE H H' (ws x.past++_) (ws x.past++_)
 rcases n4 with⟨m1,m2,m3⟩|⟨m1,m2,m3,m4⟩
 ·refine .inl ⟨?_,m3⟩;rw[m1];cases hw:y.writing with
  |true=>rw[m2 hw]
  |false=>rfl
 ·refine .inr ⟨z.stamp,by rw[m1,m2];simp,m3,?_,m4⟩
  have:=(n3.told x 0).1.won (by show(if z.writing then 2 else z.finOf)=2;rw[m1];rfl)
  obtain⟨g,rd,b,_,_,h3,_,h5,_⟩:=this;exact⟨g.cell,by rw[show z.stamp=b+1 from h3];exact h5⟩
theorem GV (h:Th s L t H C i ks x)(e1:x.state=1)(hy:x.now=some y)(h7:y.state=7){a:PAns}(ha:a.err=0)(dr pick:Nat):
  y.next=({POp.at' 9 i with word:=0},true)∧Th s L t H C i ks (x.tell s a dr pick)∧ws (x.tell s a dr pick).attempts=ws x.attempts:=by
 obtain⟨y',k,g1,g2,g3,g4⟩:=h.work e1;rw[hy] at g1;obtain rfl:=Option.some.inj g1;have hme:y.me=i:=by
  cases g3 with
  |out x h1 h2 h3 h4 h5 h6=>exact h6
  |_=>rfl
 refine⟨by unfold PAt.next;rw[h7,hme];rfl,?_⟩
 have hz:y.tell s a={y with state:=8}:=by
  unfold PAt.tell;rw[if_neg (by omega),if_neg (by omega),h7]
  rfl
 obtain⟨bo,hbo⟩:∃bo,(if({y with state:=8}:PAt).begun&&!y.begun then pick else x.born)=bo:=⟨_,rfl⟩
 obtain⟨q1,q2,q3,q4⟩:=g3.over h7 {x with now:=some {y with state:=8},born:=bo} pick
 have e2:x.tell s a dr pick=({x with now:=some {y with state:=8},born:=bo}:PTh).ended s {y with state:=8} dr pick:=by
  unfold PTh.tell;simp only[e1,hy,hz,hbo];rw[if_pos q4]
 rw[e2,(Dx h e1 hy).1];obtain⟨z,hzz⟩:∃z:PAt,z={y with state:=8}:=⟨_,rfl⟩
 rw[←hzz] at q2 q3 q4 ⊢;obtain⟨T,hT⟩:∃T,z.toldOf {x with now:=some z,born:=bo} pick=T:=⟨_,rfl⟩
 rw[hT] at q2 q3;rw[←q3,←DK];have hpast:∀T'∈x.past++[T],MJ s t H C T':=fun T' h'=>by
  rcases List.mem_append.1 h' with h'|h'
  ·exact h.past T' h'
  ·rw[List.mem_singleton.1 h'];exact q2
 have done:∀x':PTh,Th s L t H C i ks x'∧x'.attempts=x.past++[T]→Th s L t H C i ks x'∧ws x'.attempts=ws (x.past++[T]):=fun x' h'=>⟨h'.1,by rw[h'.2]⟩
 apply done;unfold PTh.ended;simp only;rw[hT];split
 ·split
  ·rename_i hb;refine⟨⟨h.me,h.jobs,h.job,hpast,(fun e=>by cases e),fun _=>q1,.inr (.inl ⟨rfl,?_⟩)⟩,Aj (by show ¬2=1;omega)⟩
   show z.byOf.toNat<s.threads
   omega
  ·exact IH (x:={x with now:=some z,born:=bo,past:=x.past++[T],tries:=x.tries+1,conflicts:=x.conflicts+1}) h.me h.jobs h.job hpast q1 dr
 ·split
  ·split
   ·exact Bb (x:={x with now:=some z,born:=bo,past:=x.past++[T],tries:=x.tries+1}) h.me h.jobs h.job hpast q1
   ·exact⟨⟨h.me,h.jobs,h.job,hpast,(fun e=>by cases e),fun _=>q1,by simp⟩,Aj (by show ¬4=1;omega)⟩
  ·unfold PTh.following;exact Bb (x:={x with now:=some z,born:=bo,past:=x.past++[T],results:=_,job:=x.job+1,tries:=0,conflicts:=0}) h.me h.jobs g4 hpast q1
theorem EP (h:Th s L t H C i ks x)(e2:x.state=2)(a:PAns)(dr pick:Nat):Th s L t H C i ks (x.tell s a dr pick)∧(x.tell s a dr pick).attempts=x.attempts:=by
 have hC:=h.idle (by omega)
 have hst:=h.state;rw[Aj (x:=x) (by omega)]
 unfold PTh.tell;simp only[e2];unfold PTh.yield_;split
 ·exact⟨⟨h.me,h.jobs,h.job,h.past,fun e=>absurd e (by show ¬x.state=1;omega),fun _=>hC,h.state⟩,Aj (by show ¬x.state=1;omega)⟩
 ·exact IH h.me h.jobs h.job h.past hC dr
end
end Wy
end
section
namespace Wy
structure MI (s:PSt) (M:PMc) (H:AM) (C:Bd) (ks:Nat→List (Option Nat)):Prop where
 set:M.s=s
 four:M.thr.length≤4
 threads:s.threads=M.thr.length
 thr:∀i x,M.thr[i]?=some x→Th s (Ag M.mem) M.mem.clock H C i (ks i) x
 out:∀i,M.thr.length≤i→C i=none
 li:LI (fS s) s.stripes (Ag M.mem) (An M.mem) M.mem.clock H C
 locks:M.mem.locks.length=s.stripes
 words:14≤M.mem.words.length
 since:M.mem.since.length=s.threads
 clk:M.mem.clock≤1000+M.picks
 cnt:∀m,(M.thr.map fun x=>(ws x.attempts).count m).sum=if(H m).isSome then 1 else 0
theorem LV {α:Type}(f:α→Nat):∀(l:List α) (i:Nat) (x x':α),l[i]?=some x→((l.set i x').map f).sum+f x=(l.map f).sum+f x'
 | [],i,x,x',h=>by simp at h
 |a::l,0,x,x',h=>by simp at h;subst h;simp;omega
 |a::l,i+1,x,x',h=>by
  have:=LV f l i x x' (by simpa using h)
  simp only[List.set_cons_succ,List.map_cons,List.sum_cons];omega
theorem PV {α:Type}(f:α→Nat):∀(l:List α) (i:Nat) (x:α),l[i]?=some x→f x≤(l.map f).sum
 | [],i,x,h=>by simp at h
 |a::l,0,x,h=>by simp at h;subst h;simp
 |a::l,i+1,x,h=>by
  have:=PV f l i x (by simpa using h)
  simp only[List.map_cons,List.sum_cons];omega
theorem OK (L:Nat→PLk)(W:Nat→Nat)(t:Nat)(o:POp)(h:o.kind=7→o.word=o.old+1):(Aq L W t o).2.2.2≤t+1:=by
 unfold Aq;split<;>first|exact Nat.le_succ _|skip
 ·split<;>exact Nat.le_succ _
 ·rename_i e
  have:=h e
  split
  ·show o.word≤t+1;omega
  ·exact Nat.le_succ _
section
variable {s : PSt} {M M' : PMc} {H H' : AM} {C C' : Bd} {ks : Nat → List (Option Nat)} {i : Nat} {x x' : PTh}
theorem MI.next (h:MI s M H C ks)(hx:M.thr[i]?=some x)(he:EF (fS s) s.stripes (Ag M.mem) (An M.mem) M.mem.clock H C i (Ag M'.mem) (An M'.mem) M'.mem.clock H' C')
  (hT:Th s (Ag M'.mem) M'.mem.clock H' C' i (ks i) x') (hg:TE H H' (ws x.attempts) (ws x'.attempts)) (h1:M'.s=M.s) (h2:M'.thr.length=M.thr.length)
  (h3:∀j z,M'.thr[j]?=some z→(j=i∧z=x')∨j≠i∧∃o,M.thr[j]?=some o∧(z=o∨∃S v,z=o.wake s S v))
  (h5:M'.mem.locks.length=M.mem.locks.length) (h6:M'.mem.words.length=M.mem.words.length) (h7:M'.mem.since.length=M.mem.since.length) (h8:M'.mem.clock≤M.mem.clock+1) (h9:M'.picks=M.picks+1):MI s M' H' C' ks:=by
 have hlt:i<M.thr.length:=(List.getElem?_eq_some_iff.1 hx).1;have hth:∀j o,j≠i→M.thr[j]?=some o→Th s (Ag M'.mem) M'.mem.clock H' C' j (ks j) o:=fun j o hj ho=>(h.thr j o ho).rely he.rely (he.own j hj) fun S st e=>he.locks j S st hj e
 refine⟨h1.trans h.set,by rw[h2];exact h.four,by rw[h2];exact h.threads,fun j z hz=>?_,fun j hj=>?_,he.li,by rw[h5];exact h.locks,by rw[h6];exact h.words,by rw[h7];exact h.since,by have:=h.clk;omega,fun m=>?_⟩
 ·rcases h3 j z hz with⟨rfl,rfl⟩|⟨hj,o,ho,hz⟩
  ·exact hT
  ·rcases hz with rfl|⟨S,v,rfl⟩
   ·exact hth j _ hj ho
   ·exact(LK (hth j o hj ho) S v).1
 ·rw[h2] at hj;rw[he.own j (by omega)]
  exact h.out j hj
 ·have e:M'.thr.map (fun x=>(ws x.attempts).count m)=(M.thr.set i x').map (fun x=>(ws x.attempts).count m):=by
   refine List.ext_getElem? fun j=>?_
   rw[List.getElem?_map,List.getElem?_map];by_cases hj:j<M.thr.length
   ·have hz:M'.thr[j]?=some (M'.thr[j]'(by omega)):=List.getElem?_eq_getElem _
    rw[hz];rcases h3 j _ hz with⟨rfl,e⟩|⟨hj2,o,ho,hz2⟩
    ·rw[e,List.getElem?_set_self hlt]
    ·rw[List.getElem?_set_ne (by omega),ho]
     rcases hz2 with e|⟨S,v,e⟩
     ·rw[e]
     ·rw[e];show some ((ws (o.wake s S v).attempts).count m)=some _
      rw[(LK (hth j o hj2 ho) S v).2]
   ·rw[List.getElem?_eq_none (by omega),List.getElem?_eq_none (by simp;omega)]
  rw[e];have hs:=LV (fun x:PTh=>(ws x.attempts).count m) M.thr i x x' hx
  have hc:=h.cnt m;have hle:=PV (fun x:PTh=>(ws x.attempts).count m) M.thr i x hx
  rcases hg with⟨g1,g2⟩|⟨m0,g1,g2,⟨c,g3⟩,g4⟩
  ·rw[g1] at hs
   have:(H' m).isSome=(H m).isSome:=by
    cases e1:H m with
    |some c=>rw[he.rely.has _ _ e1]
    |none =>
     cases e2:H' m with
     |none=>rfl
     |some c=>rw[g2 m c e2] at e1;cases e1
   rw[this];omega
  ·rw[g1,List.count_append] at hs;by_cases e1:m=m0
   ·subst e1;rw[g3];rw[g2] at hc;simp at hc hs ⊢;omega
   ·have e2:[m0].count m=0:=List.count_eq_zero.2 (by simpa using e1)
    rw[e2] at hs
    have:(H' m).isSome=(H m).isSome:=by
     cases e3:H m with
     |some c=>rw[he.rely.has _ _ e3]
     |none =>
      cases e4:H' m with
      |none=>rfl
      |some c =>
       rcases g4 m c e4 with h9|h9
       ·rw[h9] at e3;cases e3
       ·exact absurd h9 e1
    rw[this];omega
end
end Wy
end
section
namespace Wy
section
variable {s : PSt} {M M' : PMc} {H H' : AM} {C C' : Bd} {ks : Nat → List (Option Nat)} {i : Nat} {x x' : PTh}
theorem Jl {α:Type}{l:List α}{i j:Nat}{x z:α}(h:(l.set i x)[j]?=some z):(j=i∧z=x)∨j≠i∧l[j]?=some z:=by
 by_cases e:j=i
 ·subst e;rw[List.getElem?_set] at h
  grind
 ·rw[List.getElem?_set_ne (by omega)] at h
  exact .inr ⟨e,h⟩
theorem MI.told (h:MI s M H C ks)(hx:M.thr[i]?=some x)(hn:x.next.2=true)(dr:Nat){x':PTh}(hx':x.tell M.s (doC M.mem x.next.1).1 dr (M.picks+1)=x')
  (he:EF (fS s) s.stripes (Ag M.mem) (An M.mem) M.mem.clock H C i (Ag (doC M.mem x.next.1).2) (An (doC M.mem x.next.1).2) (doC M.mem x.next.1).2.clock H' C')
  (hT:Th s (Ag (doC M.mem x.next.1).2) (doC M.mem x.next.1).2.clock H' C' i (ks i) x') (hg:TE H H' (ws x.attempts) (ws x'.attempts))
  (h5:(doC M.mem x.next.1).2.locks.length=M.mem.locks.length) (h6:(doC M.mem x.next.1).2.words.length=M.mem.words.length) (h7:(doC M.mem x.next.1).2.since.length=M.mem.since.length) (h8:(doC M.mem x.next.1).2.clock≤M.mem.clock+1):MI s (M.pick i dr) H' C' ks:=by
 have hlt:i<M.thr.length:=(List.getElem?_eq_some_iff.1 hx).1;unfold PMc.pick;rw[hx];simp only[hn,hx'];rw[if_neg (by simp)]
 split
 ·exact h.next hx he hT hg rfl (by simp) (fun j z hz=>(Jl hz).imp id fun⟨e,hz⟩=>⟨e,z,hz,.inl rfl⟩) h5 h6 h7 h8 rfl
 ·refine h.next hx he hT hg rfl (by simp) (fun j z hz=>?_) h5 h6 h7 h8 rfl
  have hz2:((M.thr.set i x').mapIdx fun k o=>if k=i then o else o.wake M.s x.next.1.at_ x.next.1.lock.ver)[j]?=some z:=hz
  rw[List.getElem?_mapIdx] at hz2;obtain⟨o,ho,rfl⟩:=Option.map_eq_some_iff.1 hz2;rcases Jl ho with⟨e,rfl⟩|⟨e,ho⟩
  ·exact .inl ⟨e,if_pos e⟩
  ·exact .inr ⟨e,o,ho,.inr ⟨x.next.1.at_,x.next.1.lock.ver,by rw[if_neg e,h.set]⟩⟩
theorem Rx (hs:RS s)(hks:∀i p,some p∈ks i→P2 p)(h:MI s M H C ks)(hp:M.picks≤1000000)(i dr:Nat):∃H' C',MI s (M.pick i dr) H' C' ks:=by
 cases hx:M.thr[i]? with
 |none=>exact⟨H,C,by unfold PMc.pick;rw[hx];exact h⟩
 |some x =>
  have hlt:i<M.thr.length:=(List.getElem?_eq_some_iff.1 hx).1;have h4:=h.four;have hth:=h.thr i x hx;have hc:=h.clk;have hset:=h.set;rcases(by have:=hth.state;omega:x.state=1∨x.state=2∧x.by_<s.threads∨x.state≠1∧x.state≠2) with e1|⟨e2,hb⟩|⟨e1,e2⟩
  ·obtain⟨y,k,g1,g2,g3,g4⟩:=hth.work e1;have hn:x.next=y.next:=by unfold PTh.next;simp only[e1,g1]
   have hop:=Um (T:=s.threads) hs g3 h.li (by omega) (by omega) (by rw[h.threads];exact hlt)
   have hd:=Uk hop h.locks h.words h.since;have hw7:∀o,Bc s.stripes s.threads o→o.kind=7→o.word=o.old+1:=fun o ho e=>by cases ho<;>first|rfl|cases e
   have hcl:=OK (Ag M.mem) (An M.mem) M.mem.clock y.next.1 (hw7 _ hop);by_cases h7:y.state=7
   ·obtain⟨q1,q2,q3⟩:=GV hth e1 g1 h7 (a:=(doC M.mem y.next.1).1) hd.err dr (M.picks+1);have hL:Ag (doC M.mem y.next.1).2=Ag M.mem:=by rw[hd.locks,q1];rfl
    have hW:An (doC M.mem y.next.1).2=An M.mem:=by rw[hd.words,q1];rfl
    have hCl:(doC M.mem y.next.1).2.clock=M.mem.clock:=by rw[hd.clock,q1];rfl
    refine⟨H,C,h.told hx (by rw[hn,q1]) dr rfl ?_ ?_ ?_ ?_ ?_ ?_ ?_⟩<;>rw[hn]
    ·rw[hL,hW,hCl];exact EF.none_ h.li
    ·rw[hL,hCl,hset];exact q2
    ·rw[hset,q3];exact .inl ⟨rfl,fun _ _ e=>e⟩
    ·exact hd.llen
    ·exact hd.wlen
    ·exact hd.slen
    ·rw[hCl];omega
   ·obtain⟨q0,H',C',q1,q2,q3⟩:=UW hs hth h.li (hks i) (by omega) e1 g1 h7 dr (M.picks+1)
    refine⟨H',C',h.told hx (by rw[hn];exact q0) dr rfl ?_ ?_ ?_ ?_ ?_ ?_ ?_⟩<;>rw[hn]
    ·rw[hd.locks,hd.words,hd.clock];exact q1
    ·rw[hd.locks,hd.clock,hd.ans,hset];exact q2
    ·rw[hd.ans,hset];exact q3
    ·exact hd.llen
    ·exact hd.wlen
    ·exact hd.slen
    ·rw[hd.clock];exact hcl
  ·have hn:x.next=(POp.at' 8 x.by_,true):=by unfold PTh.next;simp only[e2]
   obtain⟨d1,d2,d3,d4,d5,d6,d7⟩:=UP (m:=M.mem) (j:=x.by_) (by rw[h.since];exact hb)
   obtain⟨q1,q2⟩:=EP hth e2 (doC M.mem (POp.at' 8 x.by_)).1 dr (M.picks+1);refine⟨H,C,h.told hx (by rw[hn]) dr rfl ?_ ?_ ?_ ?_ ?_ ?_ ?_⟩<;>rw[hn]
   ·rw[d2,d3,d4];exact EF.none_ h.li
   ·rw[d2,d4,hset];exact q1
   ·rw[hset,q2];exact .inl ⟨rfl,fun _ _ e=>e⟩
   ·exact d5
   ·exact d6
   ·exact d7
   ·rw[d4];omega
  ·have hn:x.next.2=false:=by unfold PTh.next;split<;>first|omega|rfl
   obtain⟨q1,q2⟩:=IJ hth;refine⟨H,C,?_⟩;unfold PMc.pick;rw[hx];simp only[hn,if_true];refine h.next (x':=x.pauseOne M.s) hx (EF.none_ h.li) (by rw[hset];exact q1) (by rw[hset,q2];exact .inl ⟨rfl,fun _ _ e=>e⟩) rfl (by simp) (fun j z hz=>(Jl hz).imp id fun⟨e,hz⟩=>⟨e,z,hz,.inl rfl⟩) rfl rfl rfl (Nat.le_succ _) rfl
theorem Ti (r:PSt)(js:List (List (Option Nat)))(hw:4≤r.writes)(hf:20≤r.fuel)(hst:r.start≤1000)(h4:js.length≤4)(h6:∀l∈js,l.length≤6):
  MI (PMc.new r (js.map fun l=>l.map codeOf)).s (PMc.new r (js.map fun l=>l.map codeOf)) (fun _=>none) (fun _=>none) (fun i=>js.getD i [])∧RS (PMc.new r (js.map fun l=>l.map codeOf)).s:=by
 obtain⟨M,hM⟩:∃M,PMc.new r (js.map fun l=>l.map codeOf)=M:=⟨_,rfl⟩
 have ht4:(js.map fun l=>l.map codeOf).take 4=js.map fun l=>l.map codeOf:=List.take_of_length_le (by simpa using h4)
 have hs:M.s=({r with threads:=js.length}:PSt).held:=by rw[←hM];unfold PMc.new;simp only[ht4,List.length_map]
 obtain⟨s,hss⟩:∃s,M.s=s:=⟨_,rfl⟩;rw[hM,hss];have hT:s.threads=max 1 (min js.length 4):=by rw[←hss,hs];rfl
 have hlen:M.thr.length=s.threads:=by rw[←hss,←hM];simp[PMc.new]
 have hmem:M.mem=⟨freshW s.words,List.replicate s.stripes PLk.zero,s.start,List.replicate s.threads 0,1⟩:=by rw[←hss,←hM];rfl
 have hv:∀S b,ver (fS s) (fun _=>none) S b=0:=fun S b=>by induction b with|zero=>rfl|succ b ih=>simpa [ver] using ih
 have hva:∀p b,val (fun _=>none) p b=0:=fun p b=>by induction b with|zero=>rfl|succ b ih=>simpa [val] using ih
 have hl:∀S,Ag M.mem S=PLk.zero:=fun S=>by
  show M.mem.locks.getD S PLk.zero=_
  rw[hmem];simp only[gD,List.getElem?_replicate];split<;>rfl
 have hwd:∀p,P2 p→An M.mem p=0:=fun p hp=>by
  show M.mem.words.getD p 0=0
  rw[hmem];show(freshW s.words).getD p 0=0
  unfold freshW;rw[gD,List.getElem?_set_ne (by rcases hp with rfl|rfl<;>decide),List.getElem?_replicate]
  split<;>rfl
 have hthr:∀i x,M.thr[i]?=some x→Th s (Ag M.mem) M.mem.clock (fun _=>none) (fun _=>none) i (js.getD i []) x∧x.attempts=[]:=fun i x hx=>by
  have hx2:((List.range s.threads).map fun i=>PTh.new i s (((js.map fun l=>l.map codeOf).take 4).getD i []))[i]?=some x:=by rw[←hx,←hss,←hM];rfl
  rw[List.getElem?_map] at hx2;obtain⟨k,hk,rfl⟩:=Option.map_eq_some_iff.1 hx2;have hki:k=i:=by
   obtain⟨_,h2⟩:=List.getElem?_eq_some_iff.1 hk;simpa using h2.symm
  subst hki;have hj:((js.map fun l=>l.map codeOf).take 4).getD k []=(js.getD k []).map codeOf:=by
   rw[ht4,gD,List.getElem?_map,gD];cases js[k]?<;>rfl
  have hl6:(js.getD k []).length≤6:=by
   rw[gD];cases e:js[k]? with
   |none=>exact Nat.zero_le _
   |some l=>exact h6 l (List.mem_of_getElem? e)
  rw[hj];unfold PTh.new;exact Bb rfl (by show((js.getD k []).map codeOf).take 6=_;exact List.take_of_length_le (by simpa using hl6)) (Nat.zero_le _) (fun T hT=>by cases hT) rfl
 refine⟨⟨hss,by rw[hlen,hT];omega,hlen.symm,fun i x hx=>(hthr i x hx).1,fun _ _=>rfl,⟨fun S _=>⟨by rw[hl];rfl,fun _=>⟨by rw[hl,hv];rfl,fun p hp _=>by rw[hwd p hp,hva]⟩⟩,(fun S e=>by rw[hl] at e;cases e),(fun i S st e=>by cases e),fun _ _=>rfl,(fun i j S T k e=>by cases e)⟩,by rw[hmem];simp,by rw[hmem];simp[freshW];omega,by rw[hmem];simp,?_,fun m=>?_⟩,?_⟩
 ·rw[hmem];show s.start≤_
  have:s.start=min r.start 4611686018427387903:=by rw[←hss,hs];rfl
  omega
 ·have e:(M.thr.map fun x=>(ws x.attempts).count m)=M.thr.map fun _=>0:=List.map_congr_left fun x hx=>by
   obtain⟨i,hi,rfl⟩:=List.getElem_of_mem hx;rw[(hthr i _ (List.getElem?_eq_getElem hi)).2];rfl
  rw[e]
  have:∀l:List PTh,(l.map fun _=>0).sum=0:=fun l=>by induction l with|nil=>rfl|cons a l ih=>simpa using ih
  exact this _
 ·rw[←hss,hs];refine⟨?_,?_,?_⟩<;>simp only[PSt.held]<;>omega
end
end Wy
end
end Go.Proofs.YtfodmgaliclhfaaGreatDoor

/- Lemmas. -/
import Derived.Test.YtfodmgaliclhfaaGreatDoorRows
import Derived.WalkKit
import Derived.ProofKit
import Derived.OpenShut
import Derived.ShutString
import Derived.ChangeOld
import Derived.Below
import Derived.Carry
import Derived.Lib.SmallJoins
import Derived.Deep.Slices
import Derived.Deep.Fields
import Derived.ChangeSame
import Derived.Deep.QuietTactic
import Derived.BigQuiet
import Derived.Deep.Draws
import Derived.Deep.RegionHeld
import Derived.Deep.RegionHeld3
import Derived.Orders
import Derived.Laws.AppendOwn
import Derived.Laws.Rows
import Derived.Laws.OwnMore
import Derived.Deep.AppendLies
import Derived.Maps.AppendAt
import Derived.RegionTactic
import Derived.OwnWalk
import Derived.WalkSpells
import Derived.WalkLawsBesides
namespace Go.Proofs.YtfodmgaliclhfaaGreatDoor
set_option linter.unusedVariables false
set_option linter.unusedSimpArgs false
set_option maxRecDepth 100000
set_option maxHeartbeats 1000000
open Go.RowKit Go.Proofs.Tryz
theorem laidOut:laidOutB Tryz.prog=true:=by kernel_rfl
theorem own:ownKnob Tryz.prog.godebug=none:=by kernel_rfl
section
theorem AV {P:Program}{f:FuncId}{args:Array Value}{w:World}{n:Nat}{v:Value}
  (h:Calls P f args (w.drewN n) fun e w'=>e=.returned v∧w.drewN n=w'):Calls P f args (w.drewN n) fun e w''=>e=.returned v∧∃m,w''=w.drewN m :=
 h.mono fun _ _ ⟨he,hm⟩=>⟨he,n,hm.symm⟩
theorem BA {B:Nat}{a w:World}(h:Below B a w)(n:Nat):Below B a (w.drewN n):=⟨h.os,h.tape,h.output,h.size,h.block⟩
def nth {α:Type _}:List α→Nat→Option α
 | [],_=>none
 |o::_,0=>some o
 |_::l,n+1=>nth l n
theorem PK {α:Type _}:∀(l:List α) (i:Nat) (o:α),nth l i=some o→l[i]?=some o
 | [],_,_,h=>by cases h
 |_::_,0,_,h=>by simpa [nth] using h
 |_::l,n+1,o,h=>by simpa using PK l n o h
theorem Eg {α:Type _}{ops:Array α}{i:Nat}{o:α}(h:nth ops.toList i=some o):ops[i]?=some o:=by
 have:=PK _ _ _ h
 simpa using this
theorem sA {α:Type _}(l:List α)(i:Nat)(a:α):l.toArray.setIfInBounds i a=(l.set i a).toArray:=List.setIfInBounds_toArray ..
theorem sC {α:Type _}(x:α)(l:List α)(i:Nat)(a:α):(x::l).set (i+1) a=x::l.set i a:=List.set_cons_succ
theorem sP:(∀(a:Act) (d:Tmp) (v:Value),a.put (some d) v={a with tmps:=a.tmps.setIfInBounds d v})∧(∀(a:Act) (v:Value),a.put none v=a)∧(∀(α:Type) (l:List α) (i:Nat) (a:α),l.toArray.setIfInBounds i a=(l.set i a).toArray)∧(∀(α:Type) (x:α) (l:List α) (a:α),(x::l).set 0 a=a::l)∧∀(α:Type) (x:α) (l:List α) (i:Nat) (a:α),(x::l).set (i+1) a=x::l.set i a:=⟨fun _ _ _=>rfl,fun _ _=>rfl,fun _=>sA,fun _ _ _ _=>rfl,fun _=>sC⟩
theorem gD {α:Type _}(l:List α)(i:Nat)(a:α):l.getD i a=l[i]?.getD a:=List.getD_eq_getElem?_getD
theorem sD {α:Type _}(x:α)(l:List α)(n:Nat):(x::l).take (n+1)=x::l.take n:=List.take_succ_cons
theorem sE {α:Type _}(l:List α):l.take 0=[]:=List.take_zero
theorem sF {α:Type _}(x:α)(l:List α)(n:Nat):(x::l).drop (n+1)=l.drop n:=List.drop_succ_cons
theorem sG {α:Type _}(l:List α):l.drop 0=l:=List.drop_zero
theorem h_ {p:Prop}(h:p):Hid p:=h
theorem _root_.Go.RowKit.Hid.o {p:Prop}(h:Hid p):p:=h.out
section
variable {P : Program} {ops : Array Oper} {Q : Exit → Act → World → Prop} {md : Region.Mode} {S : World → Prop} {fuel : Nat} {listed : Array Bool} {a : Act} {w : World}
theorem tH (i:Nat)(v:Value){oi:Oper}(hi:nth ops.toList i=some oi)(hy:∀u,S u→(execOp a.eval oi).run P u=.ok (.value v) u)
  (h:wpAnyH P md ops Q S fuel (listed.setIfInBounds i true) (a.put oi.dst v) w)
  (hs:Region.noSelect ops=true:=by kernel_rfl) (hf:Region.free md ops listed i=true:=by kernel_rfl) (hr:(Region.ready md ops listed).contains i=true:=by kernel_rfl)
  (hQ:∀c a w,Q (.panic c) (a.put oi.dst v) w→Q (.panic c) a w:=by exact fun _ _ _ h=>h) (hw:Region.wanted oi (yielded ops a.tmps)=true:=by rfl) (hS:S w:=by assumption):wpAnyH P md ops Q S (fuel+1) listed a w :=
 wpAnyH_take (Eg hi) hs hf hr hQ (.inl ⟨hw,hy⟩) hS h
theorem tF (i:Nat)(v:Value){oi:Oper}(hi:nth ops.toList i=some oi)(hy:∀u,(execOp a.eval oi).run P u=.ok (.value v) u)
  (h:wpAny P md ops Q fuel (listed.setIfInBounds i true) (a.put oi.dst v) w)
  (hs:Region.noSelect ops=true:=by kernel_rfl) (hf:Region.free md ops listed i=true:=by kernel_rfl) (hr:(Region.ready md ops listed).contains i=true:=by kernel_rfl)
  (hQ:∀c a w,Q (.panic c) (a.put oi.dst v) w→Q (.panic c) a w:=by exact fun _ _ _ h=>h) (hw:Region.wanted oi (yielded ops a.tmps)=true:=by rfl):wpAny P md ops Q (fuel+1) listed a w :=
 wpAny_take (Eg hi) hs hf hr hQ (.inl ⟨hw,hy⟩) h
theorem rH (rs:List Nat)(h:AllReadyH P md ops Q S fuel listed a w rs)(hr:Region.ready md ops listed=rs:=by kernel_rfl)(hne:rs≠[]:=by simp):wpAnyH P md ops Q S (fuel+1) listed a w:=wpAnyH_ready hr hne h
theorem cH {i:Nat}{o:Oper}{rs:List Nat}(ho:nth ops.toList i=some o)
  (h:∀K':Act→World→Prop,Shut (∀a w,S w→(S w→wpAnyH P md ops Q S fuel (listed.setIfInBounds i true) a w)→K' a w)→if Region.wanted o (yielded ops a.tmps)=true then Oper.wp P o a w K' Q else K' (a.put o.dst undef) w)
  (hs:AllReadyH P md ops Q S fuel listed a w rs):AllReadyH P md ops Q S fuel listed a w (i::rs):=AllReadyH.cons (Eg ho) h hs
theorem nH {i:Nat}{o:Oper}(ho:nth ops.toList i=some o)
  (h:∀K':Act→World→Prop,Shut (∀a w,S w→(S w→wpAnyH P md ops Q S fuel (listed.setIfInBounds i true) a w)→K' a w)→if Region.wanted o (yielded ops a.tmps)=true then Oper.wp P o a w K' Q else K' (a.put o.dst undef) w):AllReadyH P md ops Q S fuel listed a w [i]:=AllReadyH.cons (Eg ho) h AllReadyH.nil
theorem oH (i:Nat){o:Oper}(ho:nth ops.toList i=some o)
  (h:∀K':Act→World→Prop,Shut (∀a w,S w→(S w→wpAnyH P md ops Q S fuel (listed.setIfInBounds i true) a w)→K' a w)→if Region.wanted o (yielded ops a.tmps)=true then Oper.wp P o a w K' Q else K' (a.put o.dst undef) w)
  (hr:Region.ready md ops listed=[i]:=by kernel_rfl):wpAnyH P md ops Q S (fuel+1) listed a w:=wpAnyH_ready hr (by simp) (nH ho h)
theorem dH (h:Q .normal a w)(hr:Region.ready md ops listed=[]:=by kernel_rfl):wpAnyH P md ops Q S fuel listed a w:=wpAnyH_done hr h _
theorem dF (h:Q .normal a w)(hr:Region.ready md ops listed=[]:=by kernel_rfl):wpAny P md ops Q fuel listed a w:=wpAny_done hr h _
theorem gH (S:World→Prop){id:Nat}(hS:S w.drew)(h:S w.drew→wpAnyH P .any ops Q S ops.size (Array.replicate ops.size false) a w.drew)(hm:P.follows .mixedOrders=true:=by kernel_rfl):(Code.region id ops true).wp P Q a w:=wp_region_held_drew hm hS h
theorem gN (S:World→Prop){id:Nat}(hS:S w.drew)(h:S w.drew→wpAnyH P .any ops (NoPanic Q) S ops.size (Array.replicate ops.size false) a w.drew)(hm:P.follows .mixedOrders=true:=by kernel_rfl):(Code.region id ops true).wp P Q a w:=wp_region_noPanic (gH S hS h hm)
theorem dN (h:Q .normal a w)(hr:Region.ready md ops listed=[]:=by kernel_rfl):wpAnyH P md ops (NoPanic Q) S fuel listed a w:=dH (NoPanic.normal h) hr
theorem _root_.Go.Shut.q {W K:Act→World→Prop}(h:Shut (∀a w,S w→(S w→W a w)→K a w))(h1:S w)(h2:S w→W a w):K a w:=h.out a w h1 h2
theorem rF (rs:List Nat)(h:AllReady P md ops Q fuel listed a w rs)(hr:Region.ready md ops listed=rs:=by kernel_rfl)(hne:rs≠[]:=by simp):wpAny P md ops Q (fuel+1) listed a w:=wpAny_ready hr hne h
theorem nF {i:Nat}{o:Oper}(ho:ops[i]?=some o)(h:∀K':Act→World→Prop,(∀a w,wpAny P md ops Q fuel (listed.setIfInBounds i true) a w→K' a w)→if Region.wanted o (yielded ops a.tmps)=true then Oper.wp P o a w K' Q else K' (a.put o.dst undef) w):AllReady P md ops Q fuel listed a w [i]:=AllReady.cons ho h AllReady.nil
theorem oF (i:Nat){o:Oper}(ho:ops[i]?=some o)(h:∀K':Act→World→Prop,(∀a w,wpAny P md ops Q fuel (listed.setIfInBounds i true) a w→K' a w)→if Region.wanted o (yielded ops a.tmps)=true then Oper.wp P o a w K' Q else K' (a.put o.dst undef) w)
  (hr:Region.ready md ops listed=[i]:=by kernel_rfl):wpAny P md ops Q (fuel+1) listed a w:=wpAny_ready hr (by simp) (AllReady.cons ho h AllReady.nil)
end
instance:Coe Int Value:=⟨fun x=>.int .i64 x⟩
instance:Coe Nat Value:=⟨fun x=>.int .i64 (x:Int)⟩
instance:Coe Nat Addr:=⟨fun b=>⟨b,0,none⟩⟩
instance:Coe Nat (Option Addr):=⟨fun b=>some ⟨b,0,none⟩⟩
inductive Iq|ι (n:Int)|υ (n:Int)|κ (b o:Nat)|ζ|η|ξ
instance (n:Int):CoeDep Iq (.ι n) Value:=⟨.int .i64 n⟩
instance (n:Int):CoeDep Iq (.υ n) Value:=⟨.int .u64 n⟩
instance (b o:Nat):CoeDep Iq (.κ b o) Addr:=⟨⟨b,o,none⟩⟩
instance:CoeDep Iq .ζ (Array Value):=⟨#[.int .u64 0,.int .u64 0,.bool false,.int .i64 0,.bool false,.int .i64 0]⟩
instance:CoeDep Iq .η (Array Value):=⟨#[.int .i64 0,.int .i64 0,.int .i64 0,.bool false,.int .i64 0,.int .i64 0,.int .u64 0,.int .u64 0,.int .i64 0,.int .i64 0,.slice none 0 0,.slice none 0 0,.slice none 0 0,.string ⟨#[]⟩]⟩
instance:CoeDep Iq .ξ (Array Value):=⟨#[.int .i64 0,.int .i64 0,.int .u64 0,.int .u64 0,.int .u64 0,.bool false,.int .i64 0,.int .u64 0,.bool false,.int .i64 0]⟩
end
open Iq
section
structure Only (S:Nat→Prop) (w w':World):Prop where
 os:w'.os=w.os
 tape:w'.tape=w.tape
 output:w'.output=w.output
 size:w.heap.size≤w'.heap.size
 block:∀k,k<w.heap.size→¬S k→w'.heap[k]?=w.heap[k]?
def Nob:Nat→Prop:=fun _=>False
section
variable {S S' : Nat → Prop} {a w w' : World}
theorem Only.refl (S:Nat→Prop)(w:World):Only S w w:=⟨rfl,rfl,rfl,Nat.le_refl _,fun _ _ _=>rfl⟩
theorem Only.trans {b c:World}(h:Only S a b)(k:Only S b c):Only S a c :=
 ⟨k.os.trans h.os,k.tape.trans h.tape,k.output.trans h.output,Nat.le_trans h.size k.size,fun i hi hs=>(k.block i (Nat.lt_of_lt_of_le hi h.size) hs).trans (h.block i hi hs)⟩
theorem Only.after {b c:World}(h:Only S a b)(k:Only S' b c)(hs:∀i,S' i→S i∨a.heap.size≤i):Only S a c :=
 ⟨k.os.trans h.os,k.tape.trans h.tape,k.output.trans h.output,Nat.le_trans h.size k.size,fun i hi hn=>(k.block i (Nat.lt_of_lt_of_le hi h.size) (fun e=>by
  rcases hs i e with h1|h1
  ·exact hn h1
  ·omega)).trans (h.block i hi hn)⟩
theorem Only.drew (h:Only S a w):Only S a w.drew:=⟨h.os,h.tape,h.output,h.size,h.block⟩
theorem Only.drewN (h:Only S a w)(n:Nat):Only S a (w.drewN n):=⟨h.os,h.tape,h.output,h.size,h.block⟩
theorem Only.alloc (h:Only S a w)(o:Obj):Only S a (w.alloc o) :=
 ⟨h.os,h.tape,h.output,Nat.le_trans h.size (by simp),fun i hi hn=>(Below.heap_alloc w o i (Nat.lt_of_lt_of_le hi h.size)).trans (h.block i hi hn)⟩
theorem Only.setCell (h:Only S a w){p:Addr}(hp:S p.block∨a.heap.size≤p.block)(u:Value):Only S a (w.setCell p u) :=
 ⟨h.os,h.tape,h.output,by simpa [World.setCell] using h.size,fun i hi hn=>(Below.heap_setCell w p u i (by
  rintro rfl;rcases hp with hp|hp
  ·exact hn hp
  ·omega)).trans (h.block i hi hn)⟩
theorem Only.of_below {B:Nat}(h:Below B w w')(hs:∀k,k<w.heap.size→B≤k→S k):Only S w w' :=
 ⟨h.os,h.tape,h.output,h.size,fun k hk hn=>h.block k (by
  rcases Nat.lt_or_ge k B with h1|h1
  ·exact h1
  ·exact absurd (hs k hk h1) hn)⟩
theorem Only.of_new (h:Below w.heap.size w w'):Only S w w':=Only.of_below h (fun k h1 h2=>by omega)
theorem Only.of_grown {row:Option Nat}(h:w.grownBy w' row)(hs:∀k,row=some k→k<w.heap.size→S k):Only S w w' :=
 ⟨h.os,h.tape,h.output,h.size,fun k hk hn=>h.block k hk (fun e=>hn (hs k e.symm hk))⟩
theorem Only.below (h:Only S w w'){B:Nat}(hB:B≤w.heap.size)(hs:∀k,S k→B≤k):Below B w w' :=
 ⟨h.os,h.tape,h.output,h.size,fun k hk=>h.block k (by omega) (fun e=>by have:=hs k e;omega)⟩
theorem Only.new (h:Only Nob w w'):Below w.heap.size w w':=h.below (Nat.le_refl _) (fun _ h=>h.elim)
theorem Only.cell (h:Only S w w'){p:Addr}(hp:p.block<w.heap.size)(hn:¬S p.block):w'.cell? p=w.cell? p:=World.cell?_of_block (w:=w) (h.block p.block hp hn)
theorem Only.frozen (h:Only S w w'){p:Addr}(hp:p.block<w.heap.size)(hn:¬S p.block):w'.frozen? p=w.frozen? p:=World.frozen?_of_block (w:=w) (h.block p.block hp hn)
end
def Blk (w:World)(g:Nat)(t:TypeId)(cs:Array Value):Prop:=w.heap[g]?=some (.cells cs t (0,0))
section
variable {w w' : World} {g : Nat} {t : TypeId} {cs : Array Value}
theorem Blk.lt (h:Blk w g t cs):g<w.heap.size:=by
 rcases Nat.lt_or_ge g w.heap.size with hlt|hge
 ·exact hlt
 ·unfold Blk at h;rw[Array.getElem?_eq_none hge] at h;cases h
theorem Blk.cell (h:Blk w g t cs)(i:Nat):w.cell? (κ g i)=cs[i]?:=cell_of_row w g i cs t (0,0) h
theorem Blk.c (h:Blk w g t cs)(i:Nat){v:Value}(e:nth cs.toList i=some v:=by rfl):w.cell? (κ g i)=some v:=(h.cell i).trans (Eg e)
theorem Blk.frozen (h:Blk w g t cs)(i:Nat):w.frozen? (κ g i)=false:=by
 unfold Blk at h;simp[World.frozen?,h]
theorem Blk.new (w:World)(t:TypeId)(cs:Array Value):Blk (w.alloc (.cells cs t)) w.heap.size t cs:=heap_alloc_new w _
theorem Blk.new' {n:Nat}(h:w.heap.size=n):Blk (w.alloc (.cells cs t)) n t cs:=h▸Blk.new w t cs
theorem Blk.drew (h:Blk w g t cs):Blk w.drew g t cs:=h
theorem Blk.drewN (h:Blk w g t cs)(n:Nat):Blk (w.drewN n) g t cs:=h
theorem Blk.alloc (h:Blk w g t cs)(o:Obj):Blk (w.alloc o) g t cs:=(Below.heap_alloc w o g h.lt).trans h
theorem Blk.set_ (h:Blk w g t cs)(i:Nat)(u:Value):Blk (w.setCell (κ g i) u) g t (cs.setIfInBounds i u):=by
 unfold Blk at h ⊢;simp[World.setCell,Array.getElem?_modify,h]
theorem Blk.far (h:Blk w g t cs){p:Addr}(hp:g≠p.block)(u:Value):Blk (w.setCell p u) g t cs:=(Below.heap_setCell w p u g hp).trans h
theorem Blk.below {B:Nat}(h:Blk w g t cs)(hb:Below B w w')(hg:g<B):Blk w' g t cs:=(hb.block g hg).trans h
theorem Blk.only {S:Nat→Prop}(h:Blk w g t cs)(hb:Only S w w')(hg:¬S g):Blk w' g t cs:=(hb.block g h.lt hg).trans h
theorem Blk.six {v0 v1 v2 v3 v4 v5:Value}(h:Blk w g t #[v0,v1,v2,v3,v4,v5]):
  w.cell? g=some v0∧w.cell? (κ g 1)=some v1∧w.cell? (κ g 2)=some v2∧w.cell? (κ g 3)=some v3∧w.cell? (κ g 4)=some v4∧w.cell? (κ g 5)=some v5 :=
 ⟨h.cell 0,h.cell 1,h.cell 2,h.cell 3,h.cell 4,h.cell 5⟩
end
end
section
theorem DG (a:Addr)(n:Nat):(a.add n).block=a.block:=by unfold Addr.add;split<;>rfl
theorem LF (a:Addr)(i j:Nat):(a.add i).add j=a.add (i+j):=by
 unfold Addr.add;by_cases hi:i=0<;>by_cases hj:j=0<;>simp[hi,hj,Nat.add_assoc]
def Reads (w:World)(B size:Nat)(A:Option Addr)(n:Nat)(xs:List Value):Prop :=
 xs.length=n*size∧(0<n→∃ad,A=some ad∧ad.block<B∧∀j u,xs[j]?=some u→w.cell? (ad.add j)=some u)
section
variable {w w' : World} {B B' size n : Nat} {A : Option Addr} {xs : List Value}
theorem Reads.none_:Reads w B size A 0 []:=⟨by simp,fun h=>absurd h (by omega)⟩
theorem Reads.keep (h:Reads w B size A n xs)(hk:∀p:Addr,p.block<B→w'.cell? p=w.cell? p):Reads w' B size A n xs :=
 ⟨h.1,fun hn=>by
  obtain⟨ad,e,hb,hc⟩:=h.2 hn;exact⟨ad,e,hb,fun j u hu=>(hk _ (by rw[DG];exact hb)).trans (hc j u hu)⟩⟩
theorem Reads.drew (h:Reads w B size A n xs):Reads w.drew B size A n xs:=h
theorem Reads.drewN (h:Reads w B size A n xs)(k:Nat):Reads (w.drewN k) B size A n xs:=h
theorem Reads.alloc (h:Reads w B size A n xs)(hB:B≤w.heap.size)(o:Obj):Reads (w.alloc o) B size A n xs:=h.keep fun p hp=>World.cell?_alloc_lt w o p (by omega)
theorem Reads.cut (h:Reads w B size A n xs){k cap:Nat}(hk:k≤n)(hc:n≤cap):
  Reads w B size (if cap=k then A else A.map (·.add (k*size))) (n-k) (xs.drop (k*size)):=by
 refine⟨by rw[List.length_drop,h.1,Nat.sub_mul],fun hn=>?_⟩
 obtain⟨ad,rfl,hb,hcell⟩:=h.2 (by omega)
 rw[if_neg (by omega)]
 refine⟨ad.add (k*size),rfl,by rw[DG];exact hb,fun j u hu=>?_⟩
 rw[LF];exact hcell _ u (by rw[←hu,List.getElem?_drop])
theorem Reads.of_own {base:Nat}{e:TypeId}{c:Nat}(h:w.ownsRow base e size (.slice A n c) n xs):Reads w w.heap.size size A n xs:=by
 refine⟨h.1,fun hn=>?_⟩
 obtain⟨g,cap,hv,_,hlt⟩:=h.form hn;have hA:A=some ⟨g,0,none⟩:=by injection hv
 subst hA;exact⟨_,rfl,hlt,h.cells (g:=g) rfl⟩
end
section
variable {P : Program} (w : World)
theorem Cp (base:Nat)(t ty e:TypeId)(i:TypeInfo)(size:Nat)(ht:P.underlying t=some (.slice e))(hi:P.info? e=some i)
  (v:Value) (n:Nat) (xs:List Value) (hown:w.ownsRow base e size v n xs) (c:Nat):(Builtin.append_ #[t,t] ty #[v,.slice none 0 c]).run P w=.ok v w:=by
 rcases hown.2 with⟨rfl,rfl⟩|⟨g,cap,cur,rfl,_,_,hnc,_⟩
 ·simp[Builtin.append_,run_underlying ht,sizeOf,typeInfo,hi,Builtin.lenOf,Builtin.firstCells]
 ·simp[Builtin.append_,run_underlying ht,sizeOf,typeInfo,hi,Builtin.lenOf,Builtin.firstCells,hnc,storeCells]
theorem EY (base:Nat)(t ty e:TypeId)(i:TypeInfo)(z:Value)(size bytes:Nat)(ht:P.underlying t=some (.slice e))(hi:P.info? e=some i)(hz:i.zero=some z)
  (hsize:i.size=size) (hby:i.bytes=bytes) (hzs:z.cells.size=size) (hsz:0<size)
  (v:Value) (n:Nat) (xs:List Value) (hown:w.ownsRow base e size v n xs)
  (B:Nat) (A:Option Addr) (m c:Nat) (news:List Value) (hr:Reads w B size A m news) (h1:∀u∈news,u.oneCell'=true)
  (h63:n+m≤maxLen) (hbytes:(n+m)*bytes≤140737488355328) (hbase:base≤w.heap.size):
  ∃v' w',(Builtin.append_ #[t,t] ty #[v,.slice A m c]).run P w=.ok v' w'∧w'.ownsRow base e size v' (n+m) (xs++news)∧w.grownBy w' v.ownBlock ∧
   (v'.ownBlock=v.ownBlock∨v'.ownBlock=some w.heap.size):=by
 rcases A with _|ad
 ·have hm:m=0:=by
   rcases Nat.eq_zero_or_pos m with h0|h0
   ·exact h0
   ·obtain⟨ad,h,_⟩:=hr.2 h0;cases h
  subst hm;have hn:news=[]:=List.eq_nil_of_length_eq_zero (by simpa using hr.1)
  subst hn;exact⟨v,w,Cp w base t ty e i size ht hi v n xs hown c,by simpa using hown,World.grownBy.refl w _,.inl rfl⟩
 ·have hcells:∀j u,news[j]?=some u→w.cell? (ad.add j)=some u:=by
   intro j u hu;rcases Nat.eq_zero_or_pos m with h0|h0
   ·subst h0;have hn:news=[]:=List.eq_nil_of_length_eq_zero (by simpa using hr.1)
    subst hn;simp at hu
   ·obtain⟨ad',h,_,hc⟩:=hr.2 h0;injection h with h
    subst h;exact hc j u hu
  obtain⟨v',w',hrun,h2,h3,_,h5⟩:=run_append_own_at (P:=P) w base t ty e i z size bytes ht hi hz hsize hby hzs hsz v n xs hown ad m c news hr.1 hcells h1 h63 hbytes hbase;exact⟨v',w',hrun,h2,h3,h5⟩
theorem CP {o:Oper}{a:Act}{K:Act→World→Prop}{Q:Exit→Act→World→Prop}(s x:Operand)(t:TypeId)
  (ho:o.op=.call {callee:=.builtin .append,args:=#[s,x],argTypes:=#[t,t]})
  (base:Nat) (e:TypeId) (i:TypeInfo) (z:Value) (size bytes:Nat) (ht:P.underlying t=some (.slice e)) (hi:P.info? e=some i) (hz:i.zero=some z)
  (hsize:i.size=size) (hby:i.bytes=bytes) (hzs:z.cells.size=size) (hsz:0<size)
  (v:Value) (n:Nat) (xs:List Value) (hs:a.eval s=v) (hown:w.ownsRow base e size v n xs)
  (B:Nat) (A:Option Addr) (m c:Nat) (news:List Value) (hx:a.eval x=.slice A m c) (hr:Reads w B size A m news) (h1:∀u∈news,u.oneCell'=true)
  (h63:n+m≤maxLen) (hbytes:(n+m)*bytes≤140737488355328) (hbase:base≤w.heap.size)
  (h:∀v' w',w'.ownsRow base e size v' (n+m) (xs++news)→w.grownBy w' v.ownBlock→(v'.ownBlock=v.ownBlock∨v'.ownBlock=some w.heap.size)→K (a.put o.dst v') w'):o.wp P a w K Q:=by
 obtain⟨v',w',hrun,h2,h3,h4⟩:=EY (P:=P) w base t o.type e i z size bytes ht hi hz hsize hby hzs hsz v n xs hown B A m c news hr h1 h63 hbytes hbase;unfold Oper.wp execOp;simp only[ho,resolve,invoke,builtin,Sem.run_bind,Sem.run_pure,Result.andThen_ok,List.map_toArray,List.map_cons,List.map_nil,hs,hx,hrun];exact h v' w' h2 h3 h4
theorem Cj {ops:Array Oper}{rest:List Oper}{o:Oper}{a:Act}{Q:Exit→Act→World→Prop}(hgd:o.guard=none)(s x:Operand)(t:TypeId)
  (ho:o.op=.call {callee:=.builtin .append,args:=#[s,x],argTypes:=#[t,t]})
  (base:Nat) (e:TypeId) (i:TypeInfo) (z:Value) (size bytes:Nat) (ht:P.underlying t=some (.slice e)) (hi:P.info? e=some i) (hz:i.zero=some z)
  (hsize:i.size=size) (hby:i.bytes=bytes) (hzs:z.cells.size=size) (hsz:0<size)
  (v:Value) (n:Nat) (xs:List Value) (hs:a.eval s=v) (hown:w.ownsRow base e size v n xs)
  (B:Nat) (A:Option Addr) (m c:Nat) (news:List Value) (hx:a.eval x=.slice A m c) (hr:Reads w B size A m news) (h1:∀u∈news,u.oneCell'=true)
  (h63:n+m≤maxLen) (hbytes:(n+m)*bytes≤140737488355328) (hbase:base≤w.heap.size)
  (h:∀v' w',w'.ownsRow base e size v' (n+m) (xs++news)→w.grownBy w' v.ownBlock→(v'.ownBlock=v.ownBlock∨v'.ownBlock=some w.heap.size)→wpList P ops Q rest (a.put o.dst v') w'):wpList P ops Q (o::rest) a w :=
 wpList_plain hgd fun _ hK=>CP w s x t ho base e i z size bytes ht hi hz hsize hby hzs hsz v n xs hs hown B A m c news hx hr h1 h63 hbytes hbase fun v' w' h2 h3 h4=>hK _ _ (h v' w' h2 h3 h4)
theorem Dt {ops:Array Oper}{o:Oper}{a:Act}{K:Act→World→Prop}{Q:Exit→Act→World→Prop}{E:Prop}(hgd:o.guard=none)(s x:Operand)(t:TypeId)
  (ho:o.op=.call {callee:=.builtin .append,args:=#[s,x],argTypes:=#[t,t]})
  (base:Nat) (e:TypeId) (i:TypeInfo) (z:Value) (size bytes:Nat) (ht:P.underlying t=some (.slice e)) (hi:P.info? e=some i) (hz:i.zero=some z)
  (hsize:i.size=size) (hby:i.bytes=bytes) (hzs:z.cells.size=size) (hsz:0<size)
  (v:Value) (n:Nat) (xs:List Value) (hs:a.eval s=v) (hown:w.ownsRow base e size v n xs)
  (B:Nat) (A:Option Addr) (m c:Nat) (news:List Value) (hx:a.eval x=.slice A m c) (hr:Reads w B size A m news) (h1:∀u∈news,u.oneCell'=true)
  (h63:n+m≤maxLen) (hbytes:(n+m)*bytes≤140737488355328) (hbase:base≤w.heap.size)
  (h:∀v' w',w'.ownsRow base e size v' (n+m) (xs++news)→w.grownBy w' v.ownBlock→(v'.ownBlock=v.ownBlock∨v'.ownBlock=some w.heap.size)→K (a.put o.dst v') w'):
  if Region.wanted o (yielded ops a.tmps)=true then Oper.wp P o a w K Q else E:=by
 have hw:Region.wanted o (yielded ops a.tmps)=true:=by simp[Region.wanted,hgd]
 rw[if_pos hw];exact CP w s x t ho base e i z size bytes ht hi hz hsize hby hzs hsz v n xs hs hown B A m c news hx hr h1 h63 hbytes hbase h
end
theorem Reads.of_blk {w:World}{g n size:Nat}{e:TypeId}{cs:Array Value}(h:Blk w g e cs)(hs:cs.size=n*size):Reads w w.heap.size size (some ⟨g,0,none⟩) n cs.toList:=by
 refine⟨by simpa using hs,fun _=>⟨⟨g,0,none⟩,rfl,h.lt,fun j u hu=>?_⟩⟩
 have:=h.cell j
 rw[Array.getElem?_toList] at hu;rw[←hu,←this];by_cases hj:j=0
 ·subst hj;simp[Addr.add]
 ·simp[Addr.add,hj]
end
section
def HP:=(Nat→Option Obj)→Prop
theorem HP.ext {P Q:HP}(h:∀x,P x↔Q x):P=Q:=funext fun x=>propext (h x)
def emp:HP:=fun h=>h=fun _=>none
def HP.star (P Q:HP):HP:=fun h=>∃a b:Nat→Option Obj,(∀k,a k=none∨b k=none)∧h=(fun k=>(a k).or (b k))∧P a∧Q b
def bk (b:Nat)(t:TypeId)(cs:Array Value):HP:=fun h=>h=fun k=>if k=b then some (.cells cs t (0,0)) else none
def fact (p:Prop):HP:=fun h=>p∧h=fun _=>none
def ex {α:Sort _}(f:α→HP):HP:=fun h=>∃x,f x h
instance:Mul HP:=⟨HP.star⟩
theorem FR {a b:Option Obj}(h:a=none∨b=none):a.or b=b.or a:=by
 rcases h with rfl|rfl<;>simp
theorem Am (P Q:HP):P*Q=Q*P:=by
 have key:∀P Q:HP,∀h,(P*Q) h→(Q*P) h:=by
  intro P Q h ⟨a,b,hd,he,ha,hb⟩;refine⟨b,a,fun k=>(hd k).symm,?_,hb,ha⟩
  rw[he];funext k;exact FR (hd k)
 exact HP.ext fun h=>⟨key P Q h,key Q P h⟩
theorem EB {a b:Option Obj}(h:a.or b=none):a=none∧b=none:=by
 cases a<;>simp_all
theorem Aa (P Q R:HP):(P*Q)*R=P*(Q*R):=by
 refine HP.ext fun h=>⟨?_,?_⟩
 ·rintro⟨ab,c,hd,rfl,⟨a,b,hd2,rfl,ha,hb⟩,hc⟩;refine⟨a,fun k=>(b k).or (c k),fun k=>?_,?_,ha,b,c,fun k=>?_,rfl,hb,hc⟩
  ·rcases hd k with h1|h1
   ·exact .inl (EB h1).1
   ·rcases hd2 k with h2|h2
    ·exact .inl h2
    ·right;simp[h1,h2]
  ·funext k;simp[Option.or_assoc]
  ·rcases hd k with h1|h1
   ·exact .inl (EB h1).2
   ·exact .inr h1
 ·rintro⟨a,bc,hd,rfl,ha,b,c,hd2,rfl,hb,hc⟩;refine⟨fun k=>(a k).or (b k),c,fun k=>?_,?_,⟨a,b,fun k=>?_,rfl,ha,hb⟩,hc⟩
  ·rcases hd k with h1|h1
   ·rcases hd2 k with h2|h2
    ·left;simp[h1,h2]
    ·exact .inr h2
   ·exact .inr (EB h1).2
  ·funext k;simp[Option.or_assoc]
  ·rcases hd k with h1|h1
   ·exact .inl h1
   ·exact .inr (EB h1).1
instance:Std.Commutative (α:=HP) (·*·):=⟨Am⟩
instance:Std.Associative (α:=HP) (·*·):=⟨Aa⟩
theorem AD (P:HP):emp*P=P:=by
 refine HP.ext fun h=>⟨?_,fun hp=>⟨fun _=>none,h,fun _=>.inl rfl,by simp,rfl,hp⟩⟩
 rintro⟨a,b,_,rfl,rfl,hb⟩;simpa using hb
theorem Ac (P:HP):P*emp=P:=(Am _ _).trans (AD P)
theorem Fj (P Q R:HP):P*(Q*R)=Q*(P*R):=by rw[←Aa,Am P Q,Aa]
structure Sat (ω w:World) (P:HP):Prop where
 os:w.os=ω.os
 tape:w.tape=ω.tape
 output:w.output=ω.output
 part:∃h:Nat→Option Obj,(∀k o,h k=some o→w.heap[k]?=some o)∧P h
section
variable {ω w w' : World} {P Q R F : HP}
theorem Sat.imp (h:Sat ω w P)(hi:∀x,P x→Q x):Sat ω w Q:=⟨h.os,h.tape,h.output,by obtain⟨x,hx,hp⟩:=h.part;exact⟨x,hx,hi x hp⟩⟩
theorem Sat.perm (h:Sat ω w P)(e:P=Q):Sat ω w Q:=e▸h
theorem On {P P' Q:HP}(hi:∀x,P x→P' x)(x:Nat→Option Obj)(h:(P*Q) x):(P'*Q) x:=by
 obtain⟨a,b,hd,he,ha,hb⟩:=h;exact⟨a,b,hd,he,hi a ha,hb⟩
theorem Sat.impL (h:Sat ω w (P*F))(hi:∀x,P x→Q x):Sat ω w (Q*F):=h.imp (On hi)
theorem Sat.left (h:Sat ω w (P*F)):Sat ω w P:=by
 obtain⟨x,hx,a,b,hd,rfl,ha,hb⟩:=h.part;exact⟨h.os,h.tape,h.output,a,fun k o hk=>hx k o (by simp[hk]),ha⟩
theorem Sat.right (h:Sat ω w (P*F)):Sat ω w F:=(h.perm (Am _ _)).left
theorem Sat.swap (h:Sat ω w (P*(Q*F))):Sat ω w (Q*(P*F)):=h.perm (Fj _ _ _)
theorem Sat.comm (h:Sat ω w (P*Q)):Sat ω w (Q*P):=h.perm (Am _ _)
theorem Sat.assoc (h:Sat ω w ((P*Q)*F)):Sat ω w (P*(Q*F)):=h.perm (Aa _ _ _)
theorem Sat.assoc' (h:Sat ω w (P*(Q*F))):Sat ω w ((P*Q)*F):=h.perm (Aa _ _ _).symm
theorem Sat.emp_ (h:Sat ω w F):Sat ω w (emp*F):=h.perm (AD F).symm
theorem Sat.of_ex {α:Sort _}{f:α→HP}(h:Sat ω w (ex f*F)):∃x,Sat ω w (f x*F):=by
 obtain⟨x,hx,a,b,hd,rfl,⟨y,ha⟩,hb⟩:=h.part;exact⟨y,h.os,h.tape,h.output,_,hx,a,b,hd,rfl,ha,hb⟩
theorem Sat.to_ex {α:Sort _}{f:α→HP}(x:α)(h:Sat ω w (f x*F)):Sat ω w (ex f*F):=h.impL fun _ hp=>⟨x,hp⟩
theorem Sat.of_fact {p:Prop}(h:Sat ω w (fact p*F)):p∧Sat ω w F:=by
 obtain⟨x,hx,a,b,hd,rfl,⟨hp,rfl⟩,hb⟩:=h.part;refine⟨hp,h.os,h.tape,h.output,b,fun k o hk=>hx k o (by simpa using hk),hb⟩
theorem Sat.to_fact {p:Prop}(hp:p)(h:Sat ω w F):Sat ω w (fact p*F):=by
 refine(h.emp_).impL fun x hx=>⟨hp,hx⟩
theorem Sat.alone {b:Nat}{t:TypeId}{cs:Array Value}(h:Sat ω w (bk b t cs)):Blk w b t cs:=by
 obtain⟨x,hx,rfl⟩:=h.part;exact hx b _ (by simp)
theorem Sat.blk {b:Nat}{t:TypeId}{cs:Array Value}(h:Sat ω w (bk b t cs*F)):Blk w b t cs:=h.left.alone
theorem Sat.ne {b c:Nat}{t u:TypeId}{cs ds:Array Value}(h:Sat ω w (bk b t cs*(bk c u ds*F))):b≠c:=by
 obtain⟨x,hx,a,y,hd,rfl,rfl,z,_,hd2,rfl,rfl,_⟩:=h.part;intro e;subst e
 have:=hd b
 simp at this
theorem Sat.keep (h:Sat ω w P)(h1:w'.os=w.os)(h2:w'.tape=w.tape)(h3:w'.output=w.output)(hk:∀k,k<w.heap.size→w'.heap[k]?=w.heap[k]?):Sat ω w' P:=by
 obtain⟨x,hx,hp⟩:=h.part;refine⟨h1.trans h.os,h2.trans h.tape,h3.trans h.output,x,fun k o e=>?_,hp⟩
 have:=hx k o e
 rw[hk k (Array.getElem?_eq_some_iff.1 this).1];exact this
theorem Sat.nob (h:Sat ω w P)(ho:Only Nob w w'):Sat ω w' P:=h.keep ho.os ho.tape ho.output (fun k hk=>ho.block k hk (fun e=>e))
theorem Sat.drew (h:Sat ω w P):Sat ω w.drew P:=h.keep rfl rfl rfl fun _ _=>rfl
theorem Sat.drewN (h:Sat ω w P)(n:Nat):Sat ω (w.drewN n) P:=h.keep rfl rfl rfl fun _ _=>rfl
theorem Sat.junk (h:Sat ω w P)(o:Obj):Sat ω (w.alloc o) P:=h.keep rfl rfl rfl fun k hk=>Below.heap_alloc w o k hk
theorem Sat.new (h:Sat ω w F)(cs:Array Value)(t:TypeId):Sat ω (w.alloc (.cells cs t)) (bk w.heap.size t cs*F):=by
 obtain⟨x,hx,hp⟩:=h.part;refine⟨h.os,h.tape,h.output,_,fun k o hk=>?_,_,x,fun k=>?_,rfl,rfl,hp⟩
 ·by_cases e:k=w.heap.size
  ·subst e;simp at hk;rw[←hk];exact heap_alloc_new w _
  ·simp[e] at hk;have h9:=hx k o hk;rw[Below.heap_alloc w _ k (Array.getElem?_eq_some_iff.1 h9).1];exact h9
 ·by_cases e:k=w.heap.size
  ·right;subst e;cases hk:x w.heap.size with
   |none=>rfl
   |some o =>
    have:=(Array.getElem?_eq_some_iff.1 (hx _ _ hk)).1
    omega
  ·left;simp[e]
theorem Sat.set {b:Nat}{t:TypeId}{cs:Array Value}(h:Sat ω w (bk b t cs*F))(i:Nat)(u:Value):Sat ω (w.setCell (κ b i) u) (bk b t (cs.setIfInBounds i u)*F):=by
 have hb:=h.blk;obtain⟨x,hx,a,y,hd,rfl,rfl,hf⟩:=h.part;refine⟨h.os,h.tape,h.output,_,fun k o hk=>?_,_,y,fun k=>?_,rfl,rfl,hf⟩
 ·by_cases e:k=b
  ·subst e;simp at hk;rw[←hk];exact hb.set_ i u
  ·simp[e] at hk;rw[Below.heap_setCell w _ u k e];exact hx k o (by simp[e,hk])
 ·have:=hd k
  by_cases e:k=b
  ·right;simp[e] at this;rw[e];exact this
  ·left;simp[e]
theorem Sat.put {b:Nat}{t:TypeId}{cs cs':Array Value}(h:Sat ω w (bk b t cs*F))(i:Nat)(u:Value)(e:cs.setIfInBounds i u=cs'):Sat ω (w.setCell (κ b i) u) (bk b t cs'*F):=e▸h.set i u
end
def wholeOf (w:World):HP:=fun h=>h=fun k=>w.heap[k]?
theorem Sat.whole (w:World):Sat w w (wholeOf w):=⟨rfl,rfl,rfl,_,fun _ _ h=>h,rfl⟩
theorem Sat.old {ω w:World}(h:Sat ω w (wholeOf ω)):Below ω.heap.size ω w:=by
 obtain⟨x,hx,rfl⟩:=h.part;have hb:∀k,k<ω.heap.size→w.heap[k]?=ω.heap[k]?:=fun k hk=>by
  have e:ω.heap[k]?=some ω.heap[k]:=Array.getElem?_eq_getElem hk;rw[e];exact hx k _ e
 refine⟨h.os,h.tape,h.output,?_,hb⟩;rcases Nat.eq_zero_or_pos ω.heap.size with h0|h0
 ·omega
 ·have e:=hb (ω.heap.size-1) (by omega)
  have h3:ω.heap[ω.heap.size-1]?=some ω.heap[ω.heap.size-1]:=Array.getElem?_eq_getElem (by omega)
  rw[h3] at e
  have:=(Array.getElem?_eq_some_iff.1 e).1
  omega
def row (e:TypeId)(size:Nat)(v:Value)(n:Nat)(xs:List Value):HP:=fun h =>
 xs.length=n*size∧((v=.slice none 0 0∧n=0∧h=fun _=>none) ∨
  ∃g cap cur,v=.slice (some ⟨g,0,none⟩) n cap∧n≤cap∧cap≤maxLen∧cur.size=cap*size∧cur.toList.take (n*size)=xs∧h=fun k=>if k=g then some (.cells cur e (0,0)) else none)
section
variable {ω w w' : World} {P Q R F : HP} {e : TypeId} {size n : Nat} {v : Value} {xs : List Value}
theorem Sat.owns (h:Sat ω w (row e size v n xs*F)):w.ownsRow 0 e size v n xs:=by
 obtain⟨x,hx,hl,hr⟩:=h.left.part;refine⟨hl,?_⟩;rcases hr with⟨h1,h2,_⟩|⟨g,cap,cur,h1,h2,h3,h4,h5,rfl⟩
 ·exact .inl ⟨h1,h2⟩
 ·exact .inr ⟨g,cap,cur,h1,Nat.zero_le _,hx g _ (by simp),h2,h3,h4,h5⟩
theorem Sat.grown {v':Value}{n':Nat}{xs':List Value}(h:Sat ω w (row e size v n xs*F))(hg:w.grownBy w' v.ownBlock)(hv:v'.ownBlock=v.ownBlock∨v'.ownBlock=some w.heap.size)(ho:w'.ownsRow 0 e size v' n' xs'):Sat ω w' (row e size v' n' xs'*F):=by
 obtain⟨x,hx,a,b,hd,rfl,⟨hl,hr⟩,hf⟩:=h.part;have hbk:∀k o,b k=some o→some k≠v.ownBlock∧w'.heap[k]?=some o∧k<w.heap.size:=by
  intro k o hk;have ha:a k=none:=by
   rcases hd k with h1|h1
   ·exact h1
   ·rw[h1] at hk;cases hk
  have hw:=hx k o (by simp[ha,hk])
  have hne:some k≠v.ownBlock:=by
   rcases hr with⟨h1,h2,_⟩|⟨g,cap,cur,h1,h2,h3,h4,h5,rfl⟩
   ·subst h1;simp[Value.ownBlock]
   ·subst h1;simp[Value.ownBlock];intro e;subst e;simp at ha
  have hlt:=(Array.getElem?_eq_some_iff.1 hw).1;exact⟨hne,(hg.block k hlt hne).trans hw,hlt⟩
 refine⟨hg.os.trans h.os,hg.tape.trans h.tape,hg.output.trans h.output,?_⟩;obtain⟨hl',hr'⟩:=ho;rcases hr' with⟨h1,h2⟩|⟨g,cap,cur,h1,_,hgg,h2,h3,h4,h5⟩
 ·exact⟨b,fun k o hk=>(hbk k o hk).2.1,fun _=>none,b,fun _=>.inl rfl,by simp,⟨hl',.inl ⟨h1,h2,rfl⟩⟩,hf⟩
 ·subst h1;refine⟨_,fun k o hk=>?_,fun k=>if k=g then some (.cells cur e (0,0)) else none,b,fun k=>?_,rfl,⟨hl',.inr ⟨g,cap,cur,rfl,h2,h3,h4,h5,rfl⟩⟩,hf⟩
  ·by_cases ek:k=g
   ·subst ek;simp at hk;rw[←hk];exact hgg
   ·simp[ek] at hk;exact(hbk k o hk).2.1
  ·by_cases ek:k=g
   ·right;subst ek;cases hb:b k with
    |none=>rfl
    |some o =>
     obtain⟨h6,_,h7⟩:=hbk k o hb;rcases hv with h8|h8
     ·exact absurd h8 h6
     ·simp[Value.ownBlock] at h8;omega
   ·left;simp[ek]
theorem Sat.nil (h:Sat ω w F)(e:TypeId)(size:Nat):Sat ω w (row e size (.slice none 0 0) 0 []*F) :=
 h.emp_.impL fun _ hx=>⟨by simp,.inl ⟨rfl,rfl,hx⟩⟩
theorem Sat.rowOf {g:Nat}{cs:Array Value}(h:Sat ω w (bk g e cs*F))(hn:cs.size=n*size)(hm:n≤maxLen):Sat ω w (row e size (.slice (some ⟨g,0,none⟩) n n) n cs.toList*F) :=
 h.impL fun _ hx=>⟨by simpa using hn,.inr ⟨g,n,cs,rfl,Nat.le_refl _,hm,hn,by rw[←hn,←Array.length_toList,List.take_length],hx⟩⟩
theorem Sat.cases (h:Sat ω w (row e size v n xs*F)):
  (v=.slice none 0 0∧n=0∧xs=[]∧Sat ω w F) ∨
  ∃g cap cur,v=.slice (some ⟨g,0,none⟩) n cap∧n≤cap∧cap≤maxLen∧cur.size=cap*size∧cur.toList.take (n*size)=xs∧xs.length=n*size∧Sat ω w (bk g e cur*F):=by
 obtain⟨x,hx,a,b,hd,rfl,⟨hl,hr⟩,hf⟩:=h.part;rcases hr with⟨h1,h2,rfl⟩|⟨g,cap,cur,h1,h2,h3,h4,h5,rfl⟩
 ·refine .inl ⟨h1,h2,?_,h.right⟩;subst h2;simpa using hl
 ·exact .inr ⟨g,cap,cur,h1,h2,h3,h4,h5,hl,h.os,h.tape,h.output,_,hx,_,b,hd,rfl,rfl,hf⟩
theorem Cc {g cap:Nat}{cur:Array Value}(h2:n≤cap)(h3:cap≤maxLen)(h4:cur.size=cap*size)(h5:cur.toList.take (n*size)=xs)(x:Nat→Option Obj)(h:bk g e cur x):row e size (.slice (some ⟨g,0,none⟩) n cap) n xs x :=
 ⟨by rw[←h5,List.length_take,Array.length_toList,h4,Nat.min_eq_left (Nat.mul_le_mul_right _ h2)],.inr ⟨g,cap,cur,rfl,h2,h3,h4,h5,h⟩⟩
end
def jk (S:Nat→Prop):HP:=fun h=>∀k,(h k).isSome=true↔S k
section
variable {ω w w' : World} {P Q R F : HP}
theorem Sat.jk1 {b:Nat}{t:TypeId}{cs:Array Value}(h:Sat ω w (bk b t cs*F)):Sat ω w (jk (fun k=>k=b)*F):=h.impL fun x hx=>by
 rw[hx];intro k;by_cases e:k=b<;>simp[e]
theorem Ud {S T:Nat→Prop}(x:Nat→Option Obj)(h:(jk S*jk T) x):jk (fun k=>S k∨T k) x:=by
 obtain⟨a,b,hd,rfl,ha,hb⟩:=h;intro k;have h1:=ha k;have h2:=hb k;cases hak:a k with
 |some o=>simp[hak] at h1 ⊢;exact .inl h1
 |none =>
  simp[hak] at h1 ⊢;rw[h2];exact⟨.inr,fun h=>h.resolve_left h1⟩
theorem Sat.jkJ {S T:Nat→Prop}(h:Sat ω w (jk S*(jk T*F))):Sat ω w (jk (fun k=>S k∨T k)*F):=h.assoc'.impL Ud
theorem Sat.jk2 {b c:Nat}{t u:TypeId}{cs ds:Array Value}(h:Sat ω w (bk b t cs*(bk c u ds*F))):Sat ω w (jk (fun k=>k=b∨k=c)*F):=h.jk1.swap.jk1.swap.jkJ
theorem Sat.setJ {S:Nat→Prop}(h:Sat ω w (jk S*F)){p:Addr}(hp:S p.block)(u:Value):Sat ω (w.setCell p u) (jk S*F):=by
 obtain⟨x,hx,a,y,hd,rfl,ha,hf⟩:=h.part;refine⟨h.os,h.tape,h.output,_,fun k o hk=>?_,fun k=>if k=p.block then(w.setCell p u).heap[k]? else a k,y,fun k=>?_,rfl,fun k=>?_,hf⟩
 ·by_cases e:k=p.block
  ·subst e;have hs:=(ha p.block).2 hp;have hy:y p.block=none:=by
    rcases hd p.block with h1|h1
    ·rw[h1] at hs;cases hs
    ·exact h1
   simp[hy] at hk;exact hk
  ·simp[e] at hk;rw[Below.heap_setCell w p u k e];exact hx k o (by simp[hk])
 ·by_cases e:k=p.block
  ·right;subst e;rcases hd p.block with h1|h1
   ·have hs:=(ha p.block).2 hp;rw[h1] at hs;cases hs
   ·exact h1
  ·simp only[e,if_false];exact hd k
 ·by_cases e:k=p.block
  ·subst e;have hs:=(ha p.block).2 hp;obtain⟨o,ho⟩:=Option.isSome_iff_exists.1 hs;have h1:=hx p.block o (by simp[ho])
   have h2:=(Array.getElem?_eq_some_iff.1 h1).1;have h3:p.block<(w.setCell p u).heap.size:=by simpa [World.setCell] using h2
   simp only[if_true,Array.getElem?_eq_getElem h3];simp[hp]
  ·simp only[e,if_false];exact ha k
end
def Rets (ω:World)(F:HP)(v:Value)(Q:HP)(e:Ending)(w':World):Prop:=e=.returned v∧Sat ω w' (Q*F)
end
def nameList:List ByteArray:=[⟨#[]⟩,⟨#[115,101,116]⟩,⟨#[109,111,118,101]⟩,⟨#[97,100,100]⟩,⟨#[115,117,98]⟩,⟨#[109,117,108]⟩,⟨#[108,101,115,115]⟩,⟨#[101,113,117,97,108]⟩,⟨#[108,111,97,100]⟩,⟨#[115,116,111,114,101]⟩,⟨#[97,108,108,111,99]⟩,⟨#[102,114,101,101]⟩,⟨#[106,117,109,112]⟩,⟨#[122,101,114,111]⟩,⟨#[111,112,101,110]⟩,⟨#[99,108,111,115,101]⟩,⟨#[117,110,100,111]⟩,⟨#[101,105,116,104,101,114]⟩,⟨#[111,114]⟩,⟨#[100,111,110,101]⟩,⟨#[114,101,116,114,121]⟩,⟨#[101,109,105,116]⟩,⟨#[102,97,105,108]⟩,⟨#[99,97,108,108]⟩]
def atList (l:List ByteArray)(n:Int):ByteArray:=if 0≤n then l.getD n.toNat ⟨#[]⟩ else⟨#[]⟩
theorem Mt (w:World):Calls prog 279 #[] w fun e w'=>e=.returned (.slice w.heap.size 24 24)∧w'=w.alloc (.cells (nameList.map Value.string).toArray 9):=by
 go_enter func279,ntmps279;go_wp2;go_ret;exact⟨rfl,rfl⟩
theorem Mu (A:Option Addr)(len cap:Nat)(n:Int)(w:World)(h:n<0):
  Calls prog 278 #[.slice A len cap,n] w fun e w'=>e=.returned (.string ⟨#[]⟩)∧w=w':=by
 go_enter func278,ntmps278;go_wp2;go_ret;exact⟨rfl,rfl⟩
theorem KH (A:Option Addr)(len cap:Nat)(n:Int)(w:World)(h0:0≤n)(h:(len:Int)≤n):
  Calls prog 278 #[.slice A len cap,n] w fun e w'=>e=.returned (.string ⟨#[]⟩)∧w=w':=by
 go_enter func278,ntmps278;go_wp2;go_ret;exact⟨rfl,rfl⟩
theorem PM (b len cap k:Nat)(s:ByteArray)(w:World)(h:k<len)(hm:len≤maxLen)(hc:w.cell? (κ b k)=some (.string s)):
  Calls prog 278 #[.slice (some ⟨b,0,none⟩) len cap,k] w fun e w'=>e=.returned (.string s)∧w=w':=by
 unfold maxLen at hm;go_enter func278,ntmps278;go_wp2;go_ret;exact⟨rfl,rfl⟩
theorem Nz (w:World)(l:List ByteArray)(t:TypeId)(k:Nat)(hk:k<l.length):
  (w.alloc (.cells (l.map Value.string).toArray t)).cell? (κ w.heap.size k)=some (.string (l.getD k ⟨#[]⟩)):=by
 have h:(w.alloc (.cells (l.map Value.string).toArray t)).heap[w.heap.size]?=some (.cells (l.map Value.string).toArray t (0,0)):=heap_alloc_new w _;rw[cell_of_row _ _ _ _ t (0,0) h];simp[List.getD,hk]
theorem KG (l:List ByteArray)(t:TypeId)(n:Int)(w:World)(hm:l.length≤maxLen):
  Calls prog 278 #[.slice w.heap.size l.length l.length,n] (w.alloc (.cells (l.map Value.string).toArray t)) fun e w' =>
   e=.returned (.string (atList l n))∧w.alloc (.cells (l.map Value.string).toArray t)=w':=by
 by_cases h0:0≤n
 ·obtain⟨k,rfl⟩:=Int.eq_ofNat_of_zero_le h0;by_cases hk:k<l.length
  ·rw[show atList l (k:Int)=l.getD k ⟨#[]⟩ by simp[atList]]
   exact PM _ _ _ k _ _ hk hm (Nz w l t k hk)
  ·rw[show atList l (k:Int)=⟨#[]⟩ by simp[atList,List.getD,List.getElem?_eq_none (Nat.le_of_not_lt hk)]]
   exact KH _ _ _ _ _ h0 (by omega)
 ·rw[show atList l n=⟨#[]⟩ by simp[atList,h0]]
  exact Mu _ _ _ _ _ (by omega)
theorem Bt (n:Int)(w:World):Calls prog 230 #[n] w fun e w'=>e=.returned (.string (atList nameList n))∧w'=w.alloc (.cells (nameList.map Value.string).toArray 9):=by
 go_enter func230,ntmps230;go_wp2_with fail;refine(Mt _).mono ?_;rintro e w1 ⟨rfl,rfl⟩;go_wp2_with fail;refine(KG nameList 9 n w (by decide)).mono ?_
 rintro e w1 ⟨rfl,rfl⟩;go_wp2_with fail;go_ret;exact⟨rfl,rfl⟩
def jumpsB (n:Int):Bool:=decide (n=12∨n=13)
theorem BH (n:Int)(w:World):Calls prog 210 #[n] w fun e w'=>e=.returned (.bool (jumpsB n))∧w=w':=by
 by_cases h:n=12
 ·subst h;rw[show jumpsB 12=true by decide]
  go_enter func210,ntmps210;go_wp2;go_ret;exact⟨rfl,rfl⟩
 ·by_cases h2:n=13
  ·subst h2;rw[show jumpsB 13=true by decide]
   go_enter func210,ntmps210;go_wp2;go_ret;exact⟨rfl,rfl⟩
  ·rw[show jumpsB n=false by simp[jumpsB,h,h2]]
   have e1:(n==12)=false:=by simpa using h
   have e2:(n==13)=false:=by simpa using h2
   go_enter func210,ntmps210;go_wp2;go_ret;exact⟨rfl,rfl⟩
def fAl (n:Int):Int:=if n=23 then 1 else 0
def fAh (n:Int):Int:=if n=23 then 12 else if 1≤n∧n≤11∨n=13∨n=21 then 7 else 0
def fBh (n:Int):Int:=if 2≤n∧n≤10∨n=23 then 7 else 0
def fCh (n:Int):Int:=if 3≤n∧n≤7 then 7 else if n=8∨n=9 then 15 else if n=12∨n=13 then 40 else if n=23 then 6 else 0
def FieldsPost (w:World)(n:Int)(e:Ending)(w':World):Prop :=
 ∃j,e=.returned (.tuple #[.agg #[ι (fAl n),ι (fAh n)],.agg #[ι 0,ι (fBh n)],.agg #[ι 0,ι (fCh n)]]) ∧
  w'=((((w.alloc (.cells #[ι (fAl n),ι (fAh n)] 326)).alloc (.cells #[ι 0,ι (fBh n)] 326)).alloc (.cells #[ι 0,ι (fCh n)] 326)).alloc (.cells #[ι 0,ι 7] 326)).drewN j
theorem QA (w:World):Calls prog 229 #[ι 1] w (FieldsPost w 1):=by
 have HP:Hid (∀e w',e=.returned (.tuple #[.agg #[ι 0,ι 7],.agg #[ι 0,ι 0],.agg #[ι 0,ι 0]]) →
   w'=((((w.alloc (.cells #[ι 0,ι 7] 326)).alloc (.cells #[ι 0,ι 0] 326)).alloc (.cells #[ι 0,ι 0] 326)).alloc (.cells #[ι 0,ι 7] 326)).drewN 1→FieldsPost w 1 e w') :=
  fun e w' h1 h2=>⟨1,h1,h2⟩
 go_enter func229,ntmps229;go_wp2;go_region;go_wp2;exact bodyPost_ret (by simp[results,results229,go_sem];try rfl) rfl (HP.o _ _ rfl rfl)
theorem Pz (w:World):Calls prog 229 #[ι 2] w (FieldsPost w 2):=by
 have HP:Hid (∀e w',e=.returned (.tuple #[.agg #[ι 0,ι 7],.agg #[ι 0,ι 7],.agg #[ι 0,ι 0]]) →
   w'=((((w.alloc (.cells #[ι 0,ι 7] 326)).alloc (.cells #[ι 0,ι 7] 326)).alloc (.cells #[ι 0,ι 0] 326)).alloc (.cells #[ι 0,ι 7] 326)).drewN 2→FieldsPost w 2 e w') :=
  fun e w' h1 h2=>⟨2,h1,h2⟩
 go_enter func229,ntmps229;go_wp2;go_region;go_wp2;go_region;go_wp2;exact bodyPost_ret (by simp[results,results229,go_sem];try rfl) rfl (HP.o _ _ rfl rfl)
theorem Py (w:World):Calls prog 229 #[ι 3] w (FieldsPost w 3):=by
 have HP:Hid (∀e w',e=.returned (.tuple #[.agg #[ι 0,ι 7],.agg #[ι 0,ι 7],.agg #[ι 0,ι 7]]) →
   w'=((((w.alloc (.cells #[ι 0,ι 7] 326)).alloc (.cells #[ι 0,ι 7] 326)).alloc (.cells #[ι 0,ι 7] 326)).alloc (.cells #[ι 0,ι 7] 326)).drewN 2→FieldsPost w 3 e w') :=
  fun e w' h1 h2=>⟨2,h1,h2⟩
 go_enter func229,ntmps229;go_wp2;go_region;go_wp2;go_region;go_wp2;exact bodyPost_ret (by simp[results,results229,go_sem];try rfl) rfl (HP.o _ _ rfl rfl)
theorem Px (w:World):Calls prog 229 #[ι 4] w (FieldsPost w 4):=by
 have HP:Hid (∀e w',e=.returned (.tuple #[.agg #[ι 0,ι 7],.agg #[ι 0,ι 7],.agg #[ι 0,ι 7]]) →
   w'=((((w.alloc (.cells #[ι 0,ι 7] 326)).alloc (.cells #[ι 0,ι 7] 326)).alloc (.cells #[ι 0,ι 7] 326)).alloc (.cells #[ι 0,ι 7] 326)).drewN 2→FieldsPost w 4 e w') :=
  fun e w' h1 h2=>⟨2,h1,h2⟩
 go_enter func229,ntmps229;go_wp2;go_region;go_wp2;go_region;go_wp2;exact bodyPost_ret (by simp[results,results229,go_sem];try rfl) rfl (HP.o _ _ rfl rfl)
theorem Pw (w:World):Calls prog 229 #[ι 5] w (FieldsPost w 5):=by
 have HP:Hid (∀e w',e=.returned (.tuple #[.agg #[ι 0,ι 7],.agg #[ι 0,ι 7],.agg #[ι 0,ι 7]]) →
   w'=((((w.alloc (.cells #[ι 0,ι 7] 326)).alloc (.cells #[ι 0,ι 7] 326)).alloc (.cells #[ι 0,ι 7] 326)).alloc (.cells #[ι 0,ι 7] 326)).drewN 2→FieldsPost w 5 e w') :=
  fun e w' h1 h2=>⟨2,h1,h2⟩
 go_enter func229,ntmps229;go_wp2;go_region;go_wp2;go_region;go_wp2;exact bodyPost_ret (by simp[results,results229,go_sem];try rfl) rfl (HP.o _ _ rfl rfl)
theorem Pv (w:World):Calls prog 229 #[ι 6] w (FieldsPost w 6):=by
 have HP:Hid (∀e w',e=.returned (.tuple #[.agg #[ι 0,ι 7],.agg #[ι 0,ι 7],.agg #[ι 0,ι 7]]) →
   w'=((((w.alloc (.cells #[ι 0,ι 7] 326)).alloc (.cells #[ι 0,ι 7] 326)).alloc (.cells #[ι 0,ι 7] 326)).alloc (.cells #[ι 0,ι 7] 326)).drewN 2→FieldsPost w 6 e w') :=
  fun e w' h1 h2=>⟨2,h1,h2⟩
 go_enter func229,ntmps229;go_wp2;go_region;go_wp2;go_region;go_wp2;exact bodyPost_ret (by simp[results,results229,go_sem];try rfl) rfl (HP.o _ _ rfl rfl)
theorem Pu (w:World):Calls prog 229 #[ι 7] w (FieldsPost w 7):=by
 have HP:Hid (∀e w',e=.returned (.tuple #[.agg #[ι 0,ι 7],.agg #[ι 0,ι 7],.agg #[ι 0,ι 7]]) →
   w'=((((w.alloc (.cells #[ι 0,ι 7] 326)).alloc (.cells #[ι 0,ι 7] 326)).alloc (.cells #[ι 0,ι 7] 326)).alloc (.cells #[ι 0,ι 7] 326)).drewN 2→FieldsPost w 7 e w') :=
  fun e w' h1 h2=>⟨2,h1,h2⟩
 go_enter func229,ntmps229;go_wp2;go_region;go_wp2;go_region;go_wp2;exact bodyPost_ret (by simp[results,results229,go_sem];try rfl) rfl (HP.o _ _ rfl rfl)
theorem Pt (w:World):Calls prog 229 #[ι 8] w (FieldsPost w 8):=by
 have HP:Hid (∀e w',e=.returned (.tuple #[.agg #[ι 0,ι 7],.agg #[ι 0,ι 7],.agg #[ι 0,ι 15]]) →
   w'=((((w.alloc (.cells #[ι 0,ι 7] 326)).alloc (.cells #[ι 0,ι 7] 326)).alloc (.cells #[ι 0,ι 15] 326)).alloc (.cells #[ι 0,ι 7] 326)).drewN 2→FieldsPost w 8 e w') :=
  fun e w' h1 h2=>⟨2,h1,h2⟩
 go_enter func229,ntmps229;go_wp2;go_region;go_wp2;go_region;go_wp2;exact bodyPost_ret (by simp[results,results229,go_sem];try rfl) rfl (HP.o _ _ rfl rfl)
theorem Ps (w:World):Calls prog 229 #[ι 9] w (FieldsPost w 9):=by
 have HP:Hid (∀e w',e=.returned (.tuple #[.agg #[ι 0,ι 7],.agg #[ι 0,ι 7],.agg #[ι 0,ι 15]]) →
   w'=((((w.alloc (.cells #[ι 0,ι 7] 326)).alloc (.cells #[ι 0,ι 7] 326)).alloc (.cells #[ι 0,ι 15] 326)).alloc (.cells #[ι 0,ι 7] 326)).drewN 2→FieldsPost w 9 e w') :=
  fun e w' h1 h2=>⟨2,h1,h2⟩
 go_enter func229,ntmps229;go_wp2;go_region;go_wp2;go_region;go_wp2;exact bodyPost_ret (by simp[results,results229,go_sem];try rfl) rfl (HP.o _ _ rfl rfl)
theorem Nq (w:World):Calls prog 229 #[ι 10] w (FieldsPost w 10):=by
 have HP:Hid (∀e w',e=.returned (.tuple #[.agg #[ι 0,ι 7],.agg #[ι 0,ι 7],.agg #[ι 0,ι 0]]) →
   w'=((((w.alloc (.cells #[ι 0,ι 7] 326)).alloc (.cells #[ι 0,ι 7] 326)).alloc (.cells #[ι 0,ι 0] 326)).alloc (.cells #[ι 0,ι 7] 326)).drewN 2→FieldsPost w 10 e w') :=
  fun e w' h1 h2=>⟨2,h1,h2⟩
 go_enter func229,ntmps229;go_wp2;go_region;go_wp2;go_region;go_wp2;exact bodyPost_ret (by simp[results,results229,go_sem];try rfl) rfl (HP.o _ _ rfl rfl)
theorem Np (w:World):Calls prog 229 #[ι 11] w (FieldsPost w 11):=by
 have HP:Hid (∀e w',e=.returned (.tuple #[.agg #[ι 0,ι 7],.agg #[ι 0,ι 0],.agg #[ι 0,ι 0]]) →
   w'=((((w.alloc (.cells #[ι 0,ι 7] 326)).alloc (.cells #[ι 0,ι 0] 326)).alloc (.cells #[ι 0,ι 0] 326)).alloc (.cells #[ι 0,ι 7] 326)).drewN 1→FieldsPost w 11 e w') :=
  fun e w' h1 h2=>⟨1,h1,h2⟩
 go_enter func229,ntmps229;go_wp2;go_region;go_wp2;exact bodyPost_ret (by simp[results,results229,go_sem];try rfl) rfl (HP.o _ _ rfl rfl)
theorem Nn (w:World):Calls prog 229 #[ι 12] w (FieldsPost w 12):=by
 have HP:Hid (∀e w',e=.returned (.tuple #[.agg #[ι 0,ι 0],.agg #[ι 0,ι 0],.agg #[ι 0,ι 40]]) →
   w'=((((w.alloc (.cells #[ι 0,ι 0] 326)).alloc (.cells #[ι 0,ι 0] 326)).alloc (.cells #[ι 0,ι 40] 326)).alloc (.cells #[ι 0,ι 7] 326)).drewN 1→FieldsPost w 12 e w') :=
  fun e w' h1 h2=>⟨1,h1,h2⟩
 go_enter func229,ntmps229;go_wp2;go_region;go_wp2;exact bodyPost_ret (by simp[results,results229,go_sem];try rfl) rfl (HP.o _ _ rfl rfl)
theorem Nm (w:World):Calls prog 229 #[ι 13] w (FieldsPost w 13):=by
 have HP:Hid (∀e w',e=.returned (.tuple #[.agg #[ι 0,ι 7],.agg #[ι 0,ι 0],.agg #[ι 0,ι 40]]) →
   w'=((((w.alloc (.cells #[ι 0,ι 7] 326)).alloc (.cells #[ι 0,ι 0] 326)).alloc (.cells #[ι 0,ι 40] 326)).alloc (.cells #[ι 0,ι 7] 326)).drewN 1→FieldsPost w 13 e w') :=
  fun e w' h1 h2=>⟨1,h1,h2⟩
 go_enter func229,ntmps229;go_wp2;go_region;go_wp2;exact bodyPost_ret (by simp[results,results229,go_sem];try rfl) rfl (HP.o _ _ rfl rfl)
theorem Nl (w:World):Calls prog 229 #[ι 21] w (FieldsPost w 21):=by
 have HP:Hid (∀e w',e=.returned (.tuple #[.agg #[ι 0,ι 7],.agg #[ι 0,ι 0],.agg #[ι 0,ι 0]]) →
   w'=((((w.alloc (.cells #[ι 0,ι 7] 326)).alloc (.cells #[ι 0,ι 0] 326)).alloc (.cells #[ι 0,ι 0] 326)).alloc (.cells #[ι 0,ι 7] 326)).drewN 1→FieldsPost w 21 e w') :=
  fun e w' h1 h2=>⟨1,h1,h2⟩
 go_enter func229,ntmps229;go_wp2;go_region;go_wp2;exact bodyPost_ret (by simp[results,results229,go_sem];try rfl) rfl (HP.o _ _ rfl rfl)
theorem Nk (w:World):Calls prog 229 #[ι 23] w (FieldsPost w 23):=by
 have HP:Hid (∀e w',e=.returned (.tuple #[.agg #[ι 1,ι 12],.agg #[ι 0,ι 7],.agg #[ι 0,ι 6]]) →
   w'=((((w.alloc (.cells #[ι 1,ι 12] 326)).alloc (.cells #[ι 0,ι 7] 326)).alloc (.cells #[ι 0,ι 6] 326)).alloc (.cells #[ι 0,ι 7] 326)).drewN 1→FieldsPost w 23 e w') :=
  fun e w' h1 h2=>⟨1,h1,h2⟩
 go_enter func229,ntmps229;go_wp2;go_region;go_wp2;exact bodyPost_ret (by simp[results,results229,go_sem];try rfl) rfl (HP.o _ _ rfl rfl)
theorem Gk (n:Int)(w:World)(hn:n≠1∧n≠2∧n≠3∧n≠4∧n≠5∧n≠6∧n≠7∧n≠8∧n≠9∧n≠10∧n≠11∧n≠12∧n≠13∧n≠21∧n≠23):Calls prog 229 #[n] w (FieldsPost w n):=by
 have a1:fAl n=0:=by simp only[fAl];rw[if_neg (by omega)]
 have a2:fAh n=0:=by simp only[fAh];rw[if_neg (by omega),if_neg (by omega)]
 have a3:fBh n=0:=by simp only[fBh];rw[if_neg (by omega)]
 have a4:fCh n=0:=by simp only[fCh];rw[if_neg (by omega),if_neg (by omega),if_neg (by omega),if_neg (by omega)]
 have HP:Hid (∀e w',e=.returned (.tuple #[.agg #[ι 0,ι 0],.agg #[ι 0,ι 0],.agg #[ι 0,ι 0]]) →
   w'=((((w.alloc (.cells #[ι 0,ι 0] 326)).alloc (.cells #[ι 0,ι 0] 326)).alloc (.cells #[ι 0,ι 0] 326)).alloc (.cells #[ι 0,ι 7] 326)).drewN 1→FieldsPost w n e w'):=by
  intro e w' h1 h2;refine⟨1,?_,?_⟩
  ·rw[h1,a1,a2,a3,a4]
  ·rw[h2,a1,a2,a3,a4]
 clear a1 a2 a3 a4;have e1:(n==1)=false:=by simp;omega
 have e2:(n==2)=false:=by simp;omega
 have e3:(n==3)=false:=by simp;omega
 have e4:(n==4)=false:=by simp;omega
 have e5:(n==5)=false:=by simp;omega
 have e6:(n==6)=false:=by simp;omega
 have e7:(n==7)=false:=by simp;omega
 have e8:(n==8)=false:=by simp;omega
 have e9:(n==9)=false:=by simp;omega
 have e10:(n==10)=false:=by simp;omega
 have e11:(n==11)=false:=by simp;omega
 have e12:(n==12)=false:=by simp;omega
 have e13:(n==13)=false:=by simp;omega
 have e21:(n==21)=false:=by simp;omega
 have e23:(n==23)=false:=by simp;omega
 clear hn;go_enter func229,ntmps229;go_wp2;go_region;go_wp2;exact bodyPost_ret (by simp[results,results229,go_sem];try rfl) rfl (HP.o _ _ rfl rfl)
theorem BM (n:Int)(w:World):Calls prog 229 #[n] w (FieldsPost w n):=by
 by_cases hn:n≠1∧n≠2∧n≠3∧n≠4∧n≠5∧n≠6∧n≠7∧n≠8∧n≠9∧n≠10∧n≠11∧n≠12∧n≠13∧n≠21∧n≠23
 ·exact Gk n w hn
 ·rcases(by omega:n=1∨n=2∨n=3∨n=4∨n=5∨n=6∨n=7∨n=8∨n=9∨n=10∨n=11∨n=12∨n=13∨n=21∨n=23) with rfl|rfl|rfl|rfl|rfl|rfl|rfl|rfl|rfl|rfl|rfl|rfl|rfl|rfl|rfl
  ·exact QA w
  ·exact Pz w
  ·exact Py w
  ·exact Px w
  ·exact Pw w
  ·exact Pv w
  ·exact Pu w
  ·exact Pt w
  ·exact Ps w
  ·exact Nq w
  ·exact Np w
  ·exact Nn w
  ·exact Nm w
  ·exact Nl w
  ·exact Nk w
def fitsB (l h n:Int):Bool:=decide (l≤n∧n≤h)
theorem Bx (l h n:Int)(w:World):Calls prog 231 #[.agg #[l,h],n] w fun e w' =>
  e=.returned (.bool (fitsB l h n))∧w'=w.alloc (.cells #[l,h] 326):=by
 by_cases h1:l≤n
 ·by_cases h2:n≤h
  ·rw[show fitsB l h n=true by simp[fitsB,h1,h2]]
   have d:decide (n≤h)=true:=by simpa using h2
   go_enter func231,ntmps231;go_wp2;go_ret;exact⟨rfl,rfl⟩
  ·rw[show fitsB l h n=false by simp[fitsB,h2]]
   have d:decide (n≤h)=false:=by simpa using h2
   go_enter func231,ntmps231;go_wp2;go_ret;exact⟨rfl,rfl⟩
 ·rw[show fitsB l h n=false by simp[fitsB,h1]]
  have d:decide (l≤n)=false:=by simpa using h1
  go_enter func231,ntmps231;go_wp2;go_ret;exact⟨rfl,rfl⟩
def opB (op:Int):Bool:=decide (1≤op∧op≤23)
def mayB (op a b c N:Int):Bool:=opB op&&fitsB (fAl op) (fAh op) a&&fitsB 0 (fBh op) b&&fitsB 0 (fCh op) c&&(decide (N=0)||decide (op=1))
theorem EC {op:Int}(h:opB op=true):(atList nameList op).toList.isEmpty=false:=by
 have h2:1≤op∧op≤23:=by simpa [opB] using h
 rcases(by omega:op=1∨op=2∨op=3∨op=4∨op=5∨op=6∨op=7∨op=8∨op=9∨op=10∨op=11∨op=12∨op=13∨op=14∨op=15∨op=16∨op=17∨op=18∨op=19∨op=20∨op=21∨op=22∨op=23) with rfl|rfl|rfl|rfl|rfl|rfl|rfl|rfl|rfl|rfl|rfl|rfl|rfl|rfl|rfl|rfl|rfl|rfl|rfl|rfl|rfl|rfl|rfl<;>(rw[ByteArray.toList_eq];rfl)
theorem Rw {op:Int}(h:opB op=false):atList nameList op=⟨#[]⟩:=by
 have h2:¬(1≤op∧op≤23):=by simpa [opB] using h
 unfold atList;by_cases h0:0≤op
 ·obtain⟨k,rfl⟩:=Int.eq_ofNat_of_zero_le h0;rcases(by omega:k=0∨24≤k) with rfl|hk
  ·rfl
  ·rw[if_pos (by omega)]
   have hl:nameList.length≤(Int.toNat (k:Int)):=by
    have:nameList.length=24:=rfl
    omega
   rw[gD,List.getElem?_eq_none hl];rfl
 ·rw[if_neg h0]
theorem Tj (op a b c N:Int)(w:World)(h:opB op=false):
  Calls prog 207 #[.agg #[op,a,b,c,υ N]] w fun e w'=>e=.returned (.bool (mayB op a b c N))∧Only Nob w w':=by
 have hn:=Rw h;have HM:Hid (mayB op a b c N=false):=by unfold Hid;simp[mayB,h]
 go_enter func207,ntmps207;go_wp2_with (first
  |(go_at_call 229;refine(BM _ _).mono ?_;rintro e w1 ⟨j,rfl,rfl⟩)
  |(go_at_call 230;refine(Bt _ _).mono ?_;rintro e w1 ⟨rfl,rfl⟩)
  |(go_at_call 231;refine(Bx _ _ _ _).mono ?_;rintro e w1 ⟨rfl,rfl⟩))
 go_ret;refine⟨by rw[HM.o];rfl,?_⟩
 repeat' (first|(with_reducible first|refine Only.setCell ?_ ?_ _|refine Only.alloc ?_ _|refine Only.drewN ?_ _|refine Only.drew ?_|exact Only.refl _ _)|(right;simp;done)|(right;simp;omega))
theorem Ub (op a b c N:Int)(w:World)(h:opB op=true)(ha:fitsB (fAl op) (fAh op) a=false):
  Calls prog 207 #[.agg #[op,a,b,c,υ N]] w fun e w'=>e=.returned (.bool (mayB op a b c N))∧Only Nob w w':=by
 have hn:=EC h;have HM:Hid (mayB op a b c N=false):=by unfold Hid;simp[mayB,ha]
 go_enter func207,ntmps207;go_wp2_with (first
  |(go_at_call 229;refine(BM _ _).mono ?_;rintro e w1 ⟨j,rfl,rfl⟩)
  |(go_at_call 230;refine(Bt _ _).mono ?_;rintro e w1 ⟨rfl,rfl⟩)
  |(go_at_call 231;refine(Bx _ _ _ _).mono ?_;rintro e w1 ⟨rfl,rfl⟩))
 go_ret;refine⟨by rw[HM.o];rfl,?_⟩
 repeat' (first|(with_reducible first|refine Only.setCell ?_ ?_ _|refine Only.alloc ?_ _|refine Only.drewN ?_ _|refine Only.drew ?_|exact Only.refl _ _)|(right;simp;done)|(right;simp;omega))
theorem Ua (op a b c N:Int)(w:World)(h:opB op=true)(ha:fitsB (fAl op) (fAh op) a=true)(hb:fitsB 0 (fBh op) b=false):
  Calls prog 207 #[.agg #[op,a,b,c,υ N]] w fun e w'=>e=.returned (.bool (mayB op a b c N))∧Only Nob w w':=by
 have hn:=EC h;have HM:Hid (mayB op a b c N=false):=by unfold Hid;simp[mayB,hb]
 go_enter func207,ntmps207;go_wp2_with (first
  |(go_at_call 229;refine(BM _ _).mono ?_;rintro e w1 ⟨j,rfl,rfl⟩)
  |(go_at_call 230;refine(Bt _ _).mono ?_;rintro e w1 ⟨rfl,rfl⟩)
  |(go_at_call 231;refine(Bx _ _ _ _).mono ?_;rintro e w1 ⟨rfl,rfl⟩))
 go_ret;refine⟨by rw[HM.o];rfl,?_⟩
 repeat' (first|(with_reducible first|refine Only.setCell ?_ ?_ _|refine Only.alloc ?_ _|refine Only.drewN ?_ _|refine Only.drew ?_|exact Only.refl _ _)|(right;simp;done)|(right;simp;omega))
theorem UZ (op a b c N:Int)(w:World)(h:opB op=true)(ha:fitsB (fAl op) (fAh op) a=true)(hb:fitsB 0 (fBh op) b=true)(hc:fitsB 0 (fCh op) c=false):
  Calls prog 207 #[.agg #[op,a,b,c,υ N]] w fun e w'=>e=.returned (.bool (mayB op a b c N))∧Only Nob w w':=by
 have hn:=EC h;have HM:Hid (mayB op a b c N=false):=by unfold Hid;simp[mayB,hc]
 go_enter func207,ntmps207;go_wp2_with (first
  |(go_at_call 229;refine(BM _ _).mono ?_;rintro e w1 ⟨j,rfl,rfl⟩)
  |(go_at_call 230;refine(Bt _ _).mono ?_;rintro e w1 ⟨rfl,rfl⟩)
  |(go_at_call 231;refine(Bx _ _ _ _).mono ?_;rintro e w1 ⟨rfl,rfl⟩))
 go_ret;refine⟨by rw[HM.o];rfl,?_⟩
 repeat' (first|(with_reducible first|refine Only.setCell ?_ ?_ _|refine Only.alloc ?_ _|refine Only.drewN ?_ _|refine Only.drew ?_|exact Only.refl _ _)|(right;simp;done)|(right;simp;omega))
theorem SB (op a b c N:Int)(w:World)(h:opB op=true)(ha:fitsB (fAl op) (fAh op) a=true)(hb:fitsB 0 (fBh op) b=true)(hc:fitsB 0 (fCh op) c=true):
  Calls prog 207 #[.agg #[op,a,b,c,υ N]] w fun e w'=>e=.returned (.bool (mayB op a b c N))∧Only Nob w w':=by
 have hn:=EC h;have HM:Hid (mayB op a b c N=(N==0||op==1)):=by
  unfold Hid;simp only[mayB,h,ha,hb,hc,Bool.true_and];rfl
 go_enter func207,ntmps207;go_wp2_with (first
  |(go_at_call 229;refine(BM _ _).mono ?_;rintro e w1 ⟨j,rfl,rfl⟩)
  |(go_at_call 230;refine(Bt _ _).mono ?_;rintro e w1 ⟨rfl,rfl⟩)
  |(go_at_call 231;refine(Bx _ _ _ _).mono ?_;rintro e w1 ⟨rfl,rfl⟩))
 all_goals
  go_ret;refine⟨by rw[HM.o];first|rfl|((have h9:N=0:=(by assumption));rw[h9];rfl),?_⟩
  repeat' (first|(with_reducible first|refine Only.setCell ?_ ?_ _|refine Only.alloc ?_ _|refine Only.drewN ?_ _|refine Only.drew ?_|exact Only.refl _ _)|(right;simp;done)|(right;simp;omega))
theorem BE (op a b c N:Int)(w:World):
  Calls prog 207 #[.agg #[op,a,b,c,υ N]] w fun e w'=>e=.returned (.bool (mayB op a b c N))∧Only Nob w w':=by
 rcases(by cases opB op<;>simp:opB op=true∨opB op=false) with h|h
 ·rcases(by cases fitsB (fAl op) (fAh op) a<;>simp:fitsB (fAl op) (fAh op) a=true∨fitsB (fAl op) (fAh op) a=false) with ha|ha
  ·rcases(by cases fitsB 0 (fBh op) b<;>simp:fitsB 0 (fBh op) b=true∨fitsB 0 (fBh op) b=false) with hb|hb
   ·rcases(by cases fitsB 0 (fCh op) c<;>simp:fitsB 0 (fCh op) c=true∨fitsB 0 (fCh op) c=false) with hc|hc
    ·exact SB op a b c N w h ha hb hc
    ·exact UZ op a b c N w h ha hb hc
   ·exact Ua op a b c N w h ha hb
  ·exact Ub op a b c N w h ha
 ·exact Tj op a b c N w h
structure PIns where
 op:Int
 a:Int
 b:Int
 c:Int
 n:Int
def PIns.none:PIns:=⟨0,0,0,0,0⟩
def mayP (x:PIns):Bool:=mayB x.op x.a x.b x.c x.n
def opOf (l:List PIns)(k:Nat):Int:=(l.getD k PIns.none).op
def endsI (op:Int):Int:=if op=15 then 14 else if op=18 then 17 else if op=19 then 18 else 0
def beginsB (op:Int):Bool:=op==14||op==17
def topP (st:List Int):Int:=st.head?.getD (-1)
def opAt (l:List PIns):List Int→Int
 | []=>0
 |t::_=>opOf l t.toNat
def tailP (st:List Int)(op:Int):List Int:=if 0<endsI op then st.tail else st
def behindP (st:List Int)(i op:Int):List Int:=if beginsB op||op==18 then i::tailP st op else tailP st op
def wrongP (l:List PIns)(st:List Int)(x:PIns):Int :=
 if mayP x=false then 8
 else if 0<endsI x.op∧opAt l st≠endsI x.op then 12
 else if x.op=16∧opAt l st≠14 then 12
 else if beginsB x.op=true∧5≤st.length then 9
 else 0
def stk (l:List PIns):Nat→List Int
 |0=>[]
 |k+1=>behindP (stk l k) k (opOf l k)
def regAt (l:List PIns)(k:Nat):Int:=topP (stk l k)
def regionsP (l:List PIns):List Int:=(List.range l.length).map (regAt l)
def errAt (l:List PIns)(k:Nat):Int:=wrongP l (stk l k) (l.getD k PIns.none)
def jumpBad (l:List PIns)(k:Nat):Bool :=
 jumpsB (opOf l k)&&(decide ((l.length:Int)<(l.getD k PIns.none).c)||(decide ((l.getD k PIns.none).c=l.length)&&(regAt l k != -1)) ||
  (decide ((l.getD k PIns.none).c<l.length)&&(regAt l (l.getD k PIns.none).c.toNat != regAt l k)))
def firstBad (f:Nat→Bool):Nat→Nat→Option Nat
 |0,_=>none
 |n+1,k=>if f k then some k else firstBad f n (k+1)
theorem CQ {f:Nat→Bool}{n k:Nat}(h:k<n):firstBad f (n-k) k=if f k then some k else firstBad f (n-(k+1)) (k+1):=by
 obtain⟨m,hm⟩:∃m,n-k=m+1:=⟨n-k-1,by omega⟩
 rw[hm,show n-(k+1)=m by omega]
 rfl
theorem FU {f:Nat→Bool}{n k j:Nat}(h:firstBad f n k=some j):k≤j∧j<k+n∧f j=true∧∀i,k≤i→i<j→f i=false:=by
 induction n generalizing k with
 |zero=>cases h
 |succ n ih =>
  unfold firstBad at h;by_cases hf:f k=true
  ·rw[if_pos hf] at h;injection h with h
   subst h;exact⟨Nat.le_refl _,by omega,hf,fun i h1 h2=>by omega⟩
  ·rw[if_neg hf] at h;obtain⟨h1,h2,h3,h4⟩:=ih h;refine⟨by omega,by omega,h3,fun i h5 h6=>?_⟩
   rcases Nat.lt_or_ge k i with h7|h7
   ·exact h4 i h7 h6
   ·obtain rfl:i=k:=by omega
    simpa using hf
theorem CR {f:Nat→Bool}{n k:Nat}(h:firstBad f n k=none):∀i,k≤i→i<k+n→f i=false:=by
 induction n generalizing k with
 |zero=>intro i h1 h2;omega
 |succ n ih =>
  unfold firstBad at h;by_cases hf:f k=true
  ·rw[if_pos hf] at h;cases h
  ·rw[if_neg hf] at h;intro i h1 h2;rcases Nat.lt_or_ge k i with h7|h7
   ·exact ih h i h7 (by omega)
   ·obtain rfl:i=k:=by omega
    simpa using hf
def badB (l:List PIns)(k:Nat):Bool:=errAt l k != 0
def sizeBad (l:List PIns):Bool:=l.length==0||decide (40<l.length)
def jumpsP (l:List PIns):Int×Int :=
 match firstBad (jumpBad l) l.length 0 with
 |some k=>((k:Int),2)
 |none=>(0,0)
def runP (l:List PIns):Int×Int :=
 if sizeBad l then(0,4)
 else match firstBad (badB l) l.length 0 with
  |some k=>((k:Int),errAt l k)
  |none=>match stk l l.length with
   |t::_=>(t,12)
   | []=>jumpsP l
def okP (l:List PIns):Bool:=(runP l).2==0
def endA (l:List PIns):Nat→List Int
 |0=>List.replicate l.length (-1)
 |k+1=>if 0<endsI (opOf l k) then(endA l k).set (regAt l k).toNat k else endA l k
def endB (l:List PIns):Nat→List Int
 |0=>endA l l.length
 |k+1=>if opOf l k=16 then(endB l k).set k ((endB l k).getD (regAt l k).toNat 0) else endB l k
def matchP (l:List PIns):List Int:=if okP l then endB l l.length else []
theorem Im (l:List PIns)(k:Nat):(endA l k).length=l.length:=by
 induction k with
 |zero=>simp[endA]
 |succ k ih=>unfold endA;split<;>simp[ih]
theorem DA (l:List PIns)(k:Nat):(endB l k).length=l.length:=by
 induction k with
 |zero=>simp[endB,Im]
 |succ k ih=>unfold endB;split<;>simp[ih]
theorem Om (l:List PIns)(k:Nat):∀t∈stk l k,0≤t∧t<(k:Int):=by
 induction k with
 |zero=>intro t h;simp[stk] at h
 |succ k ih =>
  intro t h;have ht:∀t∈tailP (stk l k) (opOf l k),0≤t∧t<(k:Int):=by
   intro t h;unfold tailP at h;split at h
   ·exact ih t (List.mem_of_mem_tail h)
   ·exact ih t h
  unfold stk behindP at h;split at h
  ·rcases List.mem_cons.1 h with rfl|h
   ·omega
   ·have:=ht t h
    omega
  ·have:=ht t h
   omega
theorem IC (l:List PIns)(k:Nat) : -1≤regAt l k∧regAt l k<(k:Int)∧(stk l k≠[]→0≤regAt l k):=by
 unfold regAt topP;cases h:stk l k with
 |nil=>exact⟨by decide,by simp;omega,fun h=>absurd rfl h⟩
 |cons t r =>
  have:=Om l k t (by rw[h];simp)
  simp;omega
def fine (l:List PIns)(k:Nat):Prop:=∀j,j<k→errAt l j=0
theorem FB {l:List PIns}{st:List Int}{x:PIns}(h:wrongP l st x=0):
  mayP x=true∧(0<endsI x.op→opAt l st=endsI x.op)∧(x.op=16→opAt l st=14)∧(beginsB x.op=true→st.length<5):=by
 unfold wrongP at h;split at h
 ·cases h
 ·rename_i h1;split at h
  ·cases h
  ·rename_i h2;split at h
   ·cases h
   ·rename_i h3;split at h
    ·cases h
    ·rename_i h4;refine⟨by simpa using h1,fun h5=>?_,fun h5=>?_,fun h5=>?_⟩
     ·exact Classical.byContradiction fun h6=>h2 ⟨h5,h6⟩
     ·exact Classical.byContradiction fun h6=>h3 ⟨h5,h6⟩
     ·exact Nat.lt_of_not_le fun h6=>h4 ⟨h5,h6⟩
theorem PI {l:List PIns}{st:List Int}(h:opAt l st≠0):st≠[]:=by
 intro e;subst e;exact h rfl
theorem Cz {l:List PIns}{st:List Int}{x:PIns}(h:wrongP l st x=0)(hx:0<endsI x.op∨x.op=16):st≠[]:=by
 obtain⟨_,h2,h3,_⟩:=FB h;apply PI (l:=l);rcases hx with hx|hx
 ·rw[h2 hx];omega
 ·rw[h3 hx];decide
theorem PA {l:List PIns}{k:Nat}(h:errAt l k=0)(hx:0<endsI (opOf l k)∨opOf l k=16):0≤regAt l k∧regAt l k<(k:Int) :=
 ⟨(IC l k).2.2 (Cz h hx),(IC l k).2.1⟩
theorem LW {l:List PIns}{k:Nat}(h:fine l k):(stk l k).length≤5:=by
 induction k with
 |zero=>simp[stk]
 |succ k ih =>
  have h1:=ih (fun j hj=>h j (by omega))
  have h2:=h k (by omega)
  obtain⟨_,_,_,h5⟩:=FB h2;have hne:=fun hx=>Cz (l:=l) (st:=stk l k) (x:=l.getD k PIns.none) h2 hx
  unfold stk behindP tailP opOf;generalize hop:(l.getD k PIns.none).op=op at *
  by_cases hb:beginsB op=true
  ·have h6:=h5 hb;have h7:endsI op=0:=by
    unfold beginsB at hb;simp at hb;rcases hb with rfl|rfl<;>decide
   simp[hb,h7];omega
  ·by_cases h8:op=18
   ·subst h8;have h9:=hne (Or.inl (by decide))
    have h10:0<(stk l k).length:=List.length_pos_iff.2 h9;rw[if_pos (by simp),if_pos (by decide)]
    simp;omega
   ·rw[if_neg (by simp[hb,h8])]
    split
    ·rw[List.length_tail];omega
    ·exact h1
theorem Rs {l:List PIns}(h:okP l=true):sizeBad l=false∧fine l l.length∧stk l l.length=[]∧(∀k,k<l.length→jumpBad l k=false)∧runP l=(0,0):=by
 unfold okP at h;have h':(runP l).2=0:=by simpa using h
 unfold runP at h' ⊢;cases hs:sizeBad l
 ·rw[hs] at h';simp only[Bool.false_eq_true,if_false] at h' ⊢;cases hb:firstBad (badB l) l.length 0 with
  |some k =>
   rw[hb] at h';obtain⟨_,_,h3,_⟩:=FU hb;simp[badB] at h3;exact absurd h' h3
  |none =>
   rw[hb] at h';simp only at h' ⊢;have hn:=CR hb;cases hk:stk l l.length with
   |cons t r=>rw[hk] at h';simp at h'
   |nil =>
    rw[hk] at h';simp only at h' ⊢;unfold jumpsP at h' ⊢;cases hj:firstBad (jumpBad l) l.length 0 with
    |some k=>rw[hj] at h';simp at h'
    |none =>
     refine⟨trivial,fun j hj'=>?_,trivial,fun k hk'=>CR hj k (by omega) (by omega),rfl⟩
     have:=hn j (by omega) (by omega)
     simpa [badB] using this
 ·rw[hs] at h';simp at h'
instance:Coe PIns (Array Value):=⟨fun x=>#[x.op,x.a,x.b,x.c,.int .u64 x.n]⟩
end Go.Proofs.YtfodmgaliclhfaaGreatDoor

/- Lemmas; no conditions. -/
import Derived.Test.YtfodmgaliclhfaaGreatDoorGAt2
import Derived.Test.YtfodmgaliclhfaaGreatDoorGIpPop
import Derived.Test.YtfodmgaliclhfaaGreatDoorGCoRaise
namespace Go.Proofs.YtfodmgaliclhfaaGreatDoor
set_option linter.unusedVariables false
set_option linter.unusedSimpArgs false
set_option maxRecDepth 100000
set_option maxHeartbeats 4000000
open Go.RowKit
section
variable (ω w : World) (F : HP)
theorem vw_read_all (b:Nat)(v:PVw)(h:Sat ω w (vwH b v*F))(ho:v.ok)(p:Nat):
  Calls Tryz.prog 185 #[.pointer (some ⟨b,0,none⟩),.int .i64 p] w (ReadPost ω F b (v.read p)):=by
 by_cases hp:p≤1000000
 ·exact vw_read ω w F b v h ho p hp
 ·have HI:=vw_isQ h p;have H:=h_ h;have hi:v.is p=false:=by
   unfold PVw.is
   have:=ho.facts
   simp;omega
  rw[show v.read p=(0,2,v) by unfold PVw.read;rw[if_pos hi]]
  rw[hi] at HI;go_enter Tryz.func185,Tryz.ntmps185;go_wp2_with (go_at_call 218;refine(HI.o _ (Only.refl _ _)).mono ?_;rintro e w1 ⟨rfl,rfl⟩);go_ret2;exact⟨rfl,H.o⟩
theorem vw_write_all (b:Nat)(v:PVw)(h:Sat ω w (vwH b v*F))(ho:v.ok)(p x:Nat):
  Calls Tryz.prog 248 #[.pointer (some ⟨b,0,none⟩),.int .i64 p,.int .u64 x] w (Rets ω F (.int .i64 ((v.write p x).1:Int)) (vwH b (v.write p x).2)):=by
 by_cases hp:p≤1000000
 ·exact vw_write ω w F b v h ho p x hp
 ·have HI:=vw_isQ h p;have H:=h_ h;have hi:v.is p=false:=by
   unfold PVw.is
   have:=ho.facts
   simp;omega
  rw[show v.write p x=(2,v) by unfold PVw.write;rw[if_pos hi]]
  rw[hi] at HI;go_enter Tryz.func248,Tryz.ntmps248;go_wp2_with (go_at_call 218;refine(HI.o _ (Only.refl _ _)).mono ?_;rintro e w1 ⟨rfl,rfl⟩);go_ret;exact⟨rfl,H.o⟩
theorem itC_set (x:PIt)(D:ItD)(k:Nat)(h:x.regs.length=8)(hk:k<8)(r:Nat):(itC x D).setIfInBounds (6+k) (.int .u64 r)=itC { x with regs:=x.regs.set k r } D:=by
 obtain⟨code,fin,err,regs,out,at_,next,left,opens⟩:=x;simp only at h;obtain⟨r0,r1,r2,r3,r4,r5,r6,r7,rfl⟩:=regs8 h;rcases(by omega:k=0∨k=1∨k=2∨k=3∨k=4∨k=5∨k=6∨k=7) with rfl|rfl|rfl|rfl|rfl|rfl|rfl|rfl<;>rfl
theorem itH_set {ω w:World}{F:HP}{b vb:Nat}{x:PIt}{v:PVw}{D:ItD}(hD:D.vb=vb)(h:Sat ω w (vwH vb v*(itX b x D*F)))(hr:x.regs.length=8)(k:Nat)(hk:k<8)(r:Nat):Sat ω (w.setCell ⟨b,6+k,none⟩ (.int .u64 r)) (itH b vb { x with regs:=x.regs.set k r } v*F):=by
 have h1:Sat ω w (itX b x D*(vwH vb v*F)):=h.swap;unfold itX at h1;have h2:=h1.assoc.put (6+k) (.int .u64 r) (itC_set x D k hr hk r);exact itH_to (D:=D) hD (h2.assoc')
def loadP (x:PIt)(v:PVw)(ka B:Nat)(c:Int):Nat×PIt×PVw :=
 if(placeP B c).2≠0 then((placeP B c).2,x,v) else((v.read (placeP B c).1).2.1,if(v.read (placeP B c).1).2.1=0 then { x with regs:=x.regs.set ka (v.read (placeP B c).1).1 } else x,(v.read (placeP B c).1).2.2)
theorem ip_load (b vb:Nat)(x:PIt)(v:PVw)(h:Sat ω w (itH b vb x v*F))(hr:x.regs.length=8)(ho:v.ok)(a' b' c' n':Int)(hc : -1000≤c'∧c'≤1000)(ka:Nat)(hk:ka<8)(B:Nat):
  Calls Tryz.prog 214 #[.pointer (some ⟨b,0,none⟩),.agg #[.int .i64 8,.int .i64 a',.int .i64 b',.int .i64 c',.int .u64 n'],.pointer (some ⟨b,6+ka,none⟩),.int .u64 B] w (Rets ω F (.int .i64 ((loadP x v ka B c').1:Int)) (itH b vb (loadP x v ka B c').2.1 (loadP x v ka B c').2.2)):=by
 obtain⟨D,hD,hx⟩:=itH_of h;have HP:=h_ (fun w1=>place_any w1 B c' (by omega) (by omega))
 have lb:=hx.assoc.blk.lt;have c1:∀o,(w.alloc o).cell? ⟨b,1,none⟩=some (.pointer (some ⟨vb,0,none⟩)):=fun o=>by
  have h9:=(hx.junk o).assoc.blk.cell 1;rw[itC_pre x D 1 (by omega)] at h9
  rw[h9,←hD];rfl
 have lb1:b<w.heap.size+1:=by omega
 have HX:Hid (∀o,Sat ω (w.alloc o) (itH b vb x v*F)):=h_ (fun o=>h.junk o)
 unfold loadP;obtain⟨⟨p,e⟩,hpe⟩:∃r,placeP B c'=r:=⟨_,rfl⟩;rw[hpe] at HP ⊢;simp only at HP ⊢;have he:e=0∨e=2:=by
  unfold placeP at hpe;split at hpe
  ·injection hpe with _ h2;omega
  ·injection hpe with _ h2;omega
 rcases he with rfl|rfl
 ·rw[if_neg (by simp)]
  obtain⟨R,hR⟩:∃R,v.read p=R:=⟨_,rfl⟩;have HR:Hid (∀o,Calls Tryz.prog 185 #[.pointer (some ⟨vb,0,none⟩),.int .i64 p] (w.alloc o) (ReadPost ω (itX b x D*F) vb R)):=h_ (fun o=>hR▸vw_read_all ω _ _ vb v (hx.junk o).swap ho p)
  rw[hR];have HS:Hid (∀w1 (r:Nat),Sat ω w1 (vwH vb R.2.2*(itX b x D*F))→Sat ω (w1.setCell ⟨b,6+ka,none⟩ (.int .u64 r)) (itH b vb { x with regs:=x.regs.set ka r } R.2.2*F)):=h_ (fun w1 r h1=>itH_set hD h1 hr ka hk r)
  have HT:Hid (∀w1,Sat ω w1 (vwH vb R.2.2*(itX b x D*F))→Sat ω w1 (itH b vb x R.2.2*F)):=h_ (fun w1 h1=>itH_to hD h1.swap)
  have HC:Hid (∀w1,Sat ω w1 (vwH vb R.2.2*(itX b x D*F))→w1.cell? ⟨b,6+ka,none⟩=some (.int .u64 ((x.regs.getD ka 0:Nat):Int))∧b<w1.heap.size∧w1.frozen? ⟨b,6+ka,none⟩=false):=h_ (fun w1 h1=>by
   have h9:=h1.swap.assoc.blk;exact⟨by rw[h9.cell,itC_reg x D ka hr hk],h9.lt,h9.frozen _⟩)
  obtain⟨ry,re,rv⟩:=R;simp only at HR HS HT HC ⊢;by_cases h0:re=0
  ·subst h0;rw[if_pos rfl];go_enter Tryz.func214,Tryz.ntmps214;go_wp2_with (first
    |(go_at_call 247;refine(HP.o _).mono ?_;rintro e w1 ⟨rfl,rfl⟩)
    |(go_at_call 185;refine(HR.o _).mono ?_;rintro e w1 ⟨rfl,hs⟩;obtain⟨q1,q2,q3⟩:=HC.o _ hs;have HY:=h_ hs))
   go_ret;exact⟨rfl,HS.o _ _ HY.o⟩
  ·rw[if_neg h0];have d:((re:Int)==0)=false:=by simpa using h0
   go_enter Tryz.func214,Tryz.ntmps214;go_wp2_with (first
    |(go_at_call 247;refine(HP.o _).mono ?_;rintro e w1 ⟨rfl,rfl⟩)
    |(go_at_call 185;refine(HR.o _).mono ?_;rintro e w1 ⟨rfl,hs⟩;have HY:=h_ hs))
   go_ret;exact⟨rfl,HT.o _ HY.o⟩
 ·rw[if_pos (by simp)]
  go_enter Tryz.func214,Tryz.ntmps214;go_wp2_with (go_at_call 247;refine(HP.o _).mono ?_;rintro e w1 ⟨rfl,rfl⟩);go_ret;exact⟨rfl,HX.o _⟩
def storeP (x:PIt)(v:PVw)(A B:Nat)(c:Int):Nat×PIt×PVw :=
 if(placeP A c).2≠0 then((placeP A c).2,x,v) else((v.write (placeP A c).1 B).1,x,(v.write (placeP A c).1 B).2)
theorem ip_store (b vb:Nat)(x:PIt)(v:PVw)(h:Sat ω w (itH b vb x v*F))(hr:x.regs.length=8)(ho:v.ok)(a' b' c' n':Int)(hc : -1000≤c'∧c'≤1000)(ka:Nat)(hk:ka<8)(B:Nat):
  Calls Tryz.prog 214 #[.pointer (some ⟨b,0,none⟩),.agg #[.int .i64 9,.int .i64 a',.int .i64 b',.int .i64 c',.int .u64 n'],.pointer (some ⟨b,6+ka,none⟩),.int .u64 B] w (Rets ω F (.int .i64 ((storeP x v (x.regs.getD ka 0) B c').1:Int)) (itH b vb (storeP x v (x.regs.getD ka 0) B c').2.1 (storeP x v (x.regs.getD ka 0) B c').2.2)):=by
 obtain⟨D,hD,hx⟩:=itH_of h;obtain⟨A,hA⟩:∃A,x.regs.getD ka 0=A:=⟨_,rfl⟩;rw[hA];have HP:=h_ (fun w1=>place_any w1 A c' (by omega) (by omega))
 have lb:=hx.assoc.blk.lt;have c1:∀o q,((w.alloc o).drewN q).cell? ⟨b,1,none⟩=some (.pointer (some ⟨vb,0,none⟩)):=fun o q=>by
  have h9:=((hx.junk o).drewN q).assoc.blk.cell 1;rw[itC_pre x D 1 (by omega)] at h9
  rw[h9,←hD];rfl
 have c2:∀o,(w.alloc o).cell? ⟨b,6+ka,none⟩=some (.int .u64 A):=fun o=>by
  have h9:=(hx.junk o).assoc.blk.cell (6+ka);rw[itC_reg x D ka hr hk,hA] at h9;exact h9
 have lb1:b<w.heap.size+1:=by omega
 have HX:Hid (∀o q,Sat ω ((w.alloc o).drewN q) (itH b vb x v*F)):=h_ (fun o q=>(h.junk o).drewN q)
 unfold storeP;obtain⟨⟨p,e⟩,hpe⟩:∃r,placeP A c'=r:=⟨_,rfl⟩;rw[hpe] at HP ⊢;simp only at HP ⊢;have he:e=0∨e=2:=by
  unfold placeP at hpe;split at hpe
  ·injection hpe with _ h2;omega
  ·injection hpe with _ h2;omega
 rcases he with rfl|rfl
 ·rw[if_neg (by simp)]
  obtain⟨R,hR⟩:∃R,v.write p B=R:=⟨_,rfl⟩;have HR:Hid (∀o q,Calls Tryz.prog 248 #[.pointer (some ⟨vb,0,none⟩),.int .i64 p,.int .u64 B] ((w.alloc o).drewN q) (Rets ω (itX b x D*F) (.int .i64 R.1) (vwH vb R.2))):=h_ (fun o q=>hR▸vw_write_all ω _ _ vb v ((hx.junk o).drewN q).swap ho p B)
  rw[hR];have HT:Hid (∀w1,Sat ω w1 (vwH vb R.2*(itX b x D*F))→Sat ω w1 (itH b vb x R.2*F)):=h_ (fun w1 h1=>itH_to hD h1.swap)
  obtain⟨re,rv⟩:=R;simp only at HR HT ⊢;go_enter Tryz.func214,Tryz.ntmps214;go_wp2;go_quiet ((go_at_call 247;refine(HP.o _).mono ?_;rintro e w1 ⟨rfl,rfl⟩;exact⟨rfl,_,rfl⟩));go_wp2_with (go_at_call 248;refine(HR.o _ _).mono ?_;rintro e w1 ⟨rfl,hs⟩;have HY:=h_ hs);go_ret;exact⟨rfl,HT.o _ HY.o⟩
 ·rw[if_pos (by simp)]
  go_enter Tryz.func214,Tryz.ntmps214;go_wp2;go_quiet ((go_at_call 247;refine(HP.o _).mono ?_;rintro e w1 ⟨rfl,rfl⟩;exact⟨rfl,_,rfl⟩));go_wp2;go_ret;exact⟨rfl,HX.o _ _⟩
end
theorem ip_turn14 (ω w:World)(F:HP)(b vb:Nat)(x:PIt)(v:PVw)(h:Sat ω w (itH b vb x v*F))(hr:x.regs.length=8)(ho:v.ok)(hn:x.opens.length≤100)(hl:x.out.length≤100)(a' b' c' n':Int):
  Calls Tryz.prog 215 #[.pointer (some ⟨b,0,none⟩),.agg #[.int .i64 14,.int .i64 a',.int .i64 b',.int .i64 c',.int .u64 n']] w (Rets ω F (.int .i64 ((x.begin v 14 x.at_).1:Int)) (itH b vb (x.begin v 14 x.at_).2.1 (x.begin v 14 x.at_).2.2)):=by
 obtain⟨D,hD,hx⟩:=itH_of h;have HB:Hid (∀o,Calls Tryz.prog 251 #[.pointer (some ⟨b,0,none⟩),.int .i64 14,.int .i64 x.at_] (w.alloc o).drew (Rets ω F (.int .i64 ((x.begin v 14 x.at_).1:Int)) (itH b vb (x.begin v 14 x.at_).2.1 (x.begin v 14 x.at_).2.2))):=h_ (fun o=>ip_begin ω _ F b vb x v (h.junk o).drew hr ho hn hl 14 x.at_)
 have lb:=hx.assoc.blk.lt;have lb1:b<w.heap.size+1:=by omega
 have c1:∀o,(w.alloc o).cell? ⟨b,15,none⟩=some (.int .i64 x.at_):=fun o=>by
  have h9:=(hx.junk o).assoc.blk.cell 15;rw[show(15:Nat)=14+1 from rfl,itC_post x D 1 hr (by omega)] at h9
  exact h9
 generalize x.begin v 14 x.at_=r at *
 generalize x.at_=at_ at *
 go_enter Tryz.func215,Tryz.ntmps215;go_wp2;refine rT 7 ?_;simp only[sD,sE,sF,sG];repeat still_step
 refine wpStill_nil ?_;go_wp2_with (go_at_call 251;refine(HB.o _).mono ?_;rintro e w1 ⟨rfl,hs⟩;have HS:=h_ hs);go_ret;exact⟨rfl,HS.o⟩
theorem ip_turn15 (ω w:World)(F:HP)(b vb:Nat)(x:PIt)(v:PVw)(h:Sat ω w (itH b vb x v*F))(hr:x.regs.length=8)(ho:v.ok)(hn:x.opens.length≤100)(h0:x.opens≠[])(hall:∀p∈x.opens,p.regs.length=8)(a' b' c' n':Int):
  Calls Tryz.prog 215 #[.pointer (some ⟨b,0,none⟩),.agg #[.int .i64 15,.int .i64 a',.int .i64 b',.int .i64 c',.int .u64 n']] w (Rets ω F (.int .i64 v.keep.1) (itH b vb x.leave.2 v.keep.2)):=by
 have e9:x.opens=x.opens.dropLast++[x.opens.getLast h0]:=(List.dropLast_concat_getLast h0).symm;have hl2:x.opens.dropLast.length≤100:=by simp;omega
 have HL:Hid (∀o,Calls Tryz.prog 252 #[.pointer (some ⟨b,0,none⟩)] (w.alloc o) (Rets ω F (.agg (ptV (x.opens.getLast h0)).toArray) (itH b vb x.leave.2 v))):=h_ (fun o=>ip_leave ω _ F b vb x v (h.junk o) hr x.opens.dropLast _ e9 (hall _ (List.getLast_mem h0)) (fun p hp=>hall p (List.dropLast_subset _ hp)) hl2)
 have HC:Hid (∀w1,Sat ω w1 (itH b vb x.leave.2 v*F)→w1.cell? ⟨b,1,none⟩=some (.pointer (some ⟨vb,0,none⟩))∧b<w1.heap.size∧Calls Tryz.prog 253 #[.pointer (some ⟨vb,0,none⟩)] w1 (Rets ω F (.int .i64 v.keep.1) (itH b vb x.leave.2 v.keep.2))):=h_ (fun w1 h1=>by
  obtain⟨D,hD,hx⟩:=itH_of h1;have h9:=hx.assoc.blk.cell 1;rw[itC_pre _ D 1 (by omega)] at h9
  refine⟨by rw[h9,←hD];rfl,hx.assoc.blk.lt,?_⟩
  refine(vw_keep ω w1 _ vb v hx.swap ho).mono ?_;rintro e w2 ⟨rfl,h2⟩;exact⟨rfl,itH_to hD h2.swap⟩)
 generalize v.keep=r at *
 generalize x.leave.2=y at *
 generalize (ptV (x.opens.getLast h0)).toArray=pv at *
 go_enter Tryz.func215,Tryz.ntmps215;go_wp2_with (first
  |(go_at_call 252;refine(HL.o _).mono ?_;rintro e w1 ⟨rfl,hs⟩;obtain⟨q1,q2,q3⟩:=HC.o _ hs;have HK:=h_ q3)
  |(go_at_call 253;refine(HK.o).mono ?_;rintro e w1 ⟨rfl,hs⟩;have HS:=h_ hs))
 go_ret;exact⟨rfl,HS.o⟩
def U64 (n:Nat):Prop:=n<18446744073709551616
theorem U64.zero:U64 0:=by unfold U64;omega
def wFine (l:PWr):Prop:=l.length≤96∧∀x∈l,x.1≤1000000∧U64 x.2
theorem wFine.nil:wFine []:=⟨by simp,by simp⟩
theorem wPut_fine {l:PWr}(h:wFine l){p v:Nat}(hp:p≤1000000)(hv:U64 v):wFine (wPut 96 l p v).2:=by
 unfold wPut;split
 ·exact h
 ·split
  ·refine⟨by simpa using h.1,fun x hx=>?_⟩
   rcases List.mem_or_eq_of_mem_set hx with h1|h1
   ·exact h.2 x h1
   ·subst h1;exact⟨hp,hv⟩
  ·split
   ·exact h
   ·refine⟨by simp;omega,fun x hx=>?_⟩
    simp only[List.mem_append,List.mem_singleton] at hx;rcases hx with hx|rfl
    ·exact h.2 x hx
    ·exact⟨hp,hv⟩
theorem wTakeF_fine:∀(s:PWr) {l:PWr},wFine l→(∀x∈s,x.1≤1000000∧U64 x.2)→wFine (wTakeF 96 l s).2
 | [],l,h,_=>h
 |c::s,l,h,hs=>by
  unfold wTakeF;simp only;have h1:=hs c List.mem_cons_self;have h2:=wPut_fine h h1.1 h1.2;split
  ·exact h2
  ·exact wTakeF_fine s h2 fun x hx=>hs x (List.mem_cons_of_mem _ hx)
theorem wTake_fine {l s:PWr}(h:wFine l)(hs:∀x∈s,x.1≤1000000∧U64 x.2):wFine (wTake 96 l s).2:=by
 unfold wTake;simp only;split
 ·exact h
 ·exact wTakeF_fine s h hs
theorem wGet_fine {l:PWr}(h:wFine l){p y:Nat}(e:wGet l p=some y):U64 y:=by
 unfold wGet at e;obtain⟨i,hi,rfl⟩:=Option.map_eq_some_iff.1 e;unfold wAt at hi;have hlt:i<l.length:=by
  rw[List.findIdx?_eq_some_iff_getElem] at hi;exact hi.1
 rw[gD,List.getElem?_eq_getElem hlt];exact(h.2 _ (List.getElem_mem hlt)).2
structure PLv.fine (l:PLv):Prop where
 some_:l.rows≠[]
 few:l.rows.length≤6
 most:l.most≤96
 rows:∀r∈l.rows,wFine r
theorem PLv.fine.ok {l:PLv}(h:l.fine):l.ok:=⟨h.some_,h.few,h.most,fun r hr=>⟨(h.rows r hr).1,fun x hx=>((h.rows r hr).2 x hx).1⟩⟩
theorem PLv.fine.in_ {l:PLv}(h:l.fine):wFine l.inmost:=by
 unfold PLv.inmost;rw[List.getLastD_eq_getLast?];cases e:l.rows.getLast? with
 |none=>exact wFine.nil
 |some r=>exact h.rows r (List.mem_of_getLast? e)
theorem PLv.fine.setIn {l:PLv}(h:l.fine){w:PWr}(hw:wFine w):(l.setIn w).fine∧(l.setIn w).rows.length=l.rows.length:=by
 have hp:0<l.rows.length:=List.length_pos_iff.2 h.some_;have hl:(l.setIn w).rows.length=l.rows.length:=by simp[PLv.setIn];omega
 refine⟨⟨by simp[PLv.setIn],by rw[hl];exact h.few,h.most,fun r hr=>?_⟩,hl⟩
 simp only[PLv.setIn,List.mem_append,List.mem_singleton] at hr;rcases hr with hr|rfl
 ·exact h.rows r (List.dropLast_subset _ hr)
 ·exact hw
theorem PLv.fine.open_ {l:PLv}(h:l.fine):l.open_.2.fine∧(l.open_.1=0→l.open_.2.rows.length=l.rows.length+1)∧(l.open_.1=0∨l.open_.1=9)∧(l.open_.1≠0→l.open_.2=l):=by
 unfold PLv.open_;split
 ·exact⟨h,by simp,.inr rfl,fun _=>rfl⟩
 ·refine⟨⟨by simp,by simp;omega,h.most,fun r hr=>?_⟩,by simp,.inl rfl,by simp⟩
  simp only[List.mem_append,List.mem_singleton] at hr;rcases hr with hr|rfl
  ·exact h.rows r hr
  ·exact wFine.nil
theorem PLv.fine.drop {l:PLv}(h:l.fine):l.drop.2.fine∧(l.drop.1=0→l.drop.2.rows.length+1=l.rows.length)∧(l.drop.1=0∨l.drop.1=10):=by
 unfold PLv.drop;split
 ·exact⟨h,by simp,.inr rfl⟩
 ·rename_i h1;have hp:0<l.rows.length:=List.length_pos_iff.2 h.some_;refine⟨⟨?_,?_,h.most,fun r hr=>h.rows r (List.dropLast_subset _ hr)⟩,?_,.inl rfl⟩
  ·intro e
   have:=congrArg List.length e
   simp at this;omega
  ·have:=h.few
   simp;omega
  ·intro _;simp;omega
theorem wPut_err (most:Nat)(w:PWr)(p v:Nat):(wPut most w p v).1=0∨(wPut most w p v).1=2∨(wPut most w p v).1=5:=by
 unfold wPut;split
 ·simp
 ·split
  ·simp
  ·split<;>simp
theorem wTakeF_err (most:Nat):∀s w:PWr,(wTakeF most w s).1=0∨(wTakeF most w s).1=2∨(wTakeF most w s).1=5
 | [],w=>.inl rfl
 |c::s,w=>by
  unfold wTakeF;simp only;split
  ·exact wPut_err _ _ _ _
  ·exact wTakeF_err most s _
theorem wTake_err (most:Nat)(w s:PWr):(wTake most w s).1=0∨(wTake most w s).1=2∨(wTake most w s).1=5:=by
 unfold wTake;simp only;split<;>exact wTakeF_err most s w
theorem PLv.fine.keep {l:PLv}(h:l.fine):l.keep.2.fine∧(l.keep.1=0→l.keep.2.rows.length+1=l.rows.length)∧l.keep.1≠11:=by
 unfold PLv.keep;simp only;obtain⟨h1,h2,h3⟩:=h.drop;split
 ·rename_i h4;exact⟨h1,fun e=>absurd e h4,by omega⟩
 ·rename_i h4;have h5:=h1.setIn (wTake_fine h1.in_ (fun x hx=>(h.in_).2 x hx))
  have h6:=wTake_err 96 l.drop.2.inmost l.inmost;exact⟨h5.1,fun _=>by rw[h5.2];exact h2 (by omega),by omega⟩
theorem PLv.fine.put {l:PLv}(h:l.fine){p v:Nat}(hp:p≤1000000)(hv:U64 v):(l.put p v).2.fine∧(l.put p v).2.rows.length=l.rows.length∧(l.put p v).1≠11:=by
 unfold PLv.put;split
 ·exact⟨h,rfl,by simp⟩
 ·split
  ·exact⟨h,rfl,by simp⟩
  ·have h5:=h.setIn (wPut_fine h.in_ hp hv);have h6:=wPut_err 96 l.inmost p v;exact⟨h5.1,h5.2,by simp only;omega⟩
theorem getF_fine (p:Nat):∀l:List PWr,(∀r∈l,wFine r)→∀y,PLv.getF l p=some y→U64 y
 | [],_,y,e=>by cases e
 |r::l,h,y,e=>by
  unfold PLv.getF at e;cases hg:wGet r p with
  |some z =>
   rw[hg] at e;simp at e;subst e;exact wGet_fine (h r List.mem_cons_self) hg
  |none =>
   rw[hg] at e;simp at e;exact getF_fine p l (fun r hr=>h r (List.mem_cons_of_mem _ hr)) y e
theorem PLv.fine.get {l:PLv}(h:l.fine){p y:Nat}(e:l.get p=some y):U64 y :=
 getF_fine p _ (fun r hr=>h.rows r (List.mem_reverse.1 hr)) y e
theorem cellsF_fine:∀(l:List PWr),(∀r∈l,wFine r)→∀out:PWr,wFine out→wFine (l.foldl (fun out r=>(wTake 96 (wTake 96 [] r).2 out).2) out)
 | [],_,out,ho=>ho
 |r::l,h,out,ho=>by
  refine cellsF_fine l (fun q hq=>h q (List.mem_cons_of_mem _ hq)) _ ?_
  exact wTake_fine (wTake_fine wFine.nil (h r List.mem_cons_self).2) ho.2
theorem PLv.fine.cells {l:PLv}(h:l.fine):wFine l.cells :=
 cellsF_fine _ (fun r hr=>h.rows r (List.mem_reverse.1 hr)) [] wFine.nil
structure PVw.fine (v:PVw):Prop where
 logs:v.logs.fine
 facts:v.facts.length≤256
 cnt:v.order.length=v.facts.countP Option.isSome
 places:∀p∈v.order,p<v.facts.length
 lim:∀k y,v.facts.getD k none=some y→U64 y
 need:v.need≤1000000
theorem PVw.fine.ok {v:PVw}(h:v.fine):v.ok:=⟨h.logs.ok,h.facts,by rw[h.cnt];exact List.countP_le_length,h.places⟩
theorem PVw.fine.log {v:PVw}(h:v.fine){l:PLv}(hl:l.fine):PVw.fine { v with logs:=l }:=⟨hl,h.facts,h.cnt,h.places,h.lim,h.need⟩
theorem PVw.fine.read {v:PVw}(h:v.fine)(p:Nat):(v.read p).2.2.fine∧(v.read p).2.2.logs=v.logs∧((v.read p).2.1=0→U64 (v.read p).1)∧((v.read p).2.1=11→v.is p=true∧(v.read p).2.2.need=p∧v.facts.getD p none=none)∧(v.read p).2.2.facts=v.facts∧(v.read p).2.2.order=v.order:=by
 unfold PVw.read;split
 ·exact⟨h,rfl,by simp,by simp,rfl,rfl⟩
 ·rename_i hi;have hi':v.is p=true:=by simpa using hi
  have hp:p≤1000000:=by
   unfold PVw.is at hi';simp at hi'
   have:=h.facts
   omega
  split
  ·rename_i x hx;exact⟨h,rfl,fun _=>h.logs.get hx,by simp,rfl,rfl⟩
  ·split
   ·rename_i x hx;exact⟨h,rfl,fun _=>h.lim p x hx,by simp,rfl,rfl⟩
   ·rename_i hx;exact⟨⟨h.logs,h.facts,h.cnt,h.places,h.lim,hp⟩,rfl,by simp,fun _=>⟨hi',rfl,hx⟩,rfl,rfl⟩
theorem PVw.fine.write {v:PVw}(h:v.fine){p x:Nat}(hp:p≤1000000)(hx:U64 x):(v.write p x).2.fine∧(v.write p x).2.logs.rows.length=v.logs.rows.length∧(v.write p x).1≠11:=by
 unfold PVw.write;split
 ·exact⟨h,rfl,by simp⟩
 ·have h1:=h.logs.put hp hx;exact⟨h.log h1.1,h1.2.1,h1.2.2⟩
theorem PVw.fine.know {v:PVw}(h:v.fine){p x:Nat}(hx:U64 x):(v.know p x).2.fine∧(v.know p x).2.logs=v.logs∧(v.know p x).2.need=v.need:=by
 unfold PVw.know;split
 ·exact⟨h,rfl,rfl⟩
 ·rename_i hi;have hi':v.is p=true:=by simpa using hi
  have hp:p<v.facts.length:=by
   unfold PVw.is at hi';simp at hi';omega
  split
  ·exact⟨h,rfl,rfl⟩
  ·rename_i hf;have hn:v.facts[p]=none:=by
    rw[gD,List.getElem?_eq_getElem hp] at hf;exact hf
   refine⟨⟨h.logs,by simpa using h.facts,?_,fun q hq=>?_,fun k y hk=>?_,h.need⟩,rfl,rfl⟩
   ·simp only[List.length_append,List.length_singleton];rw[List.countP_set hp,hn,h.cnt];simp
   ·simp only[List.mem_append,List.mem_singleton,List.length_set] at hq ⊢;rcases hq with hq|rfl
    ·exact h.places q hq
    ·exact hp
   ·simp only[gD,List.getElem?_set] at hk;by_cases e:p=k
    ·rw[if_pos e,if_pos hp] at hk;simp at hk;subst hk;exact hx
    ·rw[if_neg e] at hk;exact h.lim k y (by rw[gD];exact hk)
section
structure InsFine (dep:Nat→Nat) (k:Nat) (i:PIns):Prop where
 a:0≤i.a∧i.a<8
 b:0≤i.b∧i.b<8
 c:0≤i.c∧i.c≤40
 n:0≤i.n∧i.n<18446744073709551616
 op:(i.op=1∨i.op=3∨i.op=8∨i.op=9∨i.op=21)∧dep (k+1)=dep k∨i.op=14∧dep (k+1)=dep k+1∨i.op=15∧dep (k+1)+1=dep k
structure CodeFine (dep:Nat→Nat) (code:List PIns):Prop where
 len:code.length≤40
 ins:∀k,k<code.length→InsFine dep k (code.getD k PIns.none)
 zero:dep 0=0
structure ItVal (x:PIt):Prop where
 regs:x.regs.length=8
 lim:∀r∈x.regs,U64 r
 opens:∀p∈x.opens,p.regs.length=8∧(∀r∈p.regs,U64 r)∧p.told≤16∧p.at_≤40
 out:x.out.length≤16
 oks:∀i∈x.out,match i with | .num n=>U64 n|_=>True
structure ItFine (dep:Nat→Nat) (x:PIt) (v:PVw):Prop extends ItVal x where
 code:CodeFine dep x.code
 vf:v.fine
 place:x.at_≤x.code.length
 left:x.left≤400
 live:x.fin=0→x.opens.length+1=v.logs.rows.length∧x.opens.length=dep x.at_
structure ExFine (dep:Nat→Nat) (x:PIt) (e:Nat) (y:PIt) (v':PVw):Prop extends ItVal y where
 vf:v'.fine
 code:y.code=x.code
 place:y.at_=x.at_
 next:y.next=x.next
 fin:y.fin=x.fin
 left:y.left=x.left
 ok:e=0→y.opens.length+1=v'.logs.rows.length∧y.opens.length=dep (x.at_+1)
 need:e=11→y=x∧v'.is v'.need=true∧v'.facts.getD v'.need none=none∧y.opens.length+1=v'.logs.rows.length
theorem ItVal.reg {x:PIt}(h:ItVal x)(k:Int):U64 (x.reg k):=by
 unfold PIt.reg;rw[gD];cases e:x.regs[k.toNat%8]? with
 |none=>exact U64.zero
 |some r=>exact h.lim r (List.mem_of_getElem? e)
theorem ItVal.setReg {x:PIt}(h:ItVal x)(k:Int){v:Nat}(hv:U64 v):ItVal (x.setReg k v) :=
 ⟨by simp[PIt.setReg,h.regs],fun r hr=>by
  rcases List.mem_or_eq_of_mem_set hr with h1|h1
  ·exact h.lim r h1
  ·rw[h1];exact hv,h.opens,h.out,h.oks⟩
section
variable {dep : Nat → Nat} {x : PIt} {v : PVw} {k : Nat} {i : PIns}
theorem ex_set (h:ItVal x)(hv:v.fine)(hl:x.opens.length+1=v.logs.rows.length)(hd:x.opens.length=dep x.at_)(hi:InsFine dep x.at_ i)(ho:i.op=1):ExFine dep x (x.exec v i).1 (x.exec v i).2.1 (x.exec v i).2.2:=by
 have e:x.exec v i=(0,x.setReg i.a i.n.toNat,v):=by unfold PIt.exec;rw[ho];rfl
 have:=hi.n
 rw[e];exact⟨h.setReg _ (by unfold U64;omega),hv,rfl,rfl,rfl,rfl,rfl,fun _=>⟨hl,by have:=hi.op;show x.opens.length=_;omega⟩,by simp⟩
theorem ex_add (h:ItVal x)(hv:v.fine)(hl:x.opens.length+1=v.logs.rows.length)(hd:x.opens.length=dep x.at_)(hi:InsFine dep x.at_ i)(ho:i.op=3):ExFine dep x (x.exec v i).1 (x.exec v i).2.1 (x.exec v i).2.2:=by
 have e:x.exec v i=(0,x.setReg i.a ((x.reg i.b+x.reg i.c)%18446744073709551616),v):=by unfold PIt.exec;rw[ho];rfl
 rw[e];exact⟨h.setReg _ (by unfold U64;omega),hv,rfl,rfl,rfl,rfl,rfl,fun _=>⟨hl,by have:=hi.op;show x.opens.length=_;omega⟩,by simp⟩
theorem ex_emit (h:ItVal x)(hv:v.fine)(hl:x.opens.length+1=v.logs.rows.length)(hd:x.opens.length=dep x.at_)(hi:InsFine dep x.at_ i)(ho:i.op=21):ExFine dep x (x.exec v i).1 (x.exec v i).2.1 (x.exec v i).2.2:=by
 have e:x.exec v i=if 16≤x.out.length then(5,x,v) else(0,{ x with out:=x.out++[.num (x.reg i.a)] },v):=by unfold PIt.exec;rw[ho];rfl
 rw[e];split
 ·exact⟨h,hv,rfl,rfl,rfl,rfl,rfl,by simp,by simp⟩
 ·refine⟨⟨h.regs,h.lim,h.opens,by simp;omega,fun j hj=>?_⟩,hv,rfl,rfl,rfl,rfl,rfl,fun _=>⟨hl,by have:=hi.op;show x.opens.length=_;omega⟩,by simp⟩
  simp only[List.mem_append,List.mem_singleton] at hj;rcases hj with hj|rfl
  ·exact h.oks j hj
  ·exact h.reg _
theorem ex_load (h:ItVal x)(hv:v.fine)(hl:x.opens.length+1=v.logs.rows.length)(hd:x.opens.length=dep x.at_)(hi:InsFine dep x.at_ i)(ho:i.op=8):ExFine dep x (x.exec v i).1 (x.exec v i).2.1 (x.exec v i).2.2:=by
 have e:x.exec v i=if(placeP (x.reg i.b) i.c).2≠0 then((placeP (x.reg i.b) i.c).2,x,v) else((v.read (placeP (x.reg i.b) i.c).1).2.1,if(v.read (placeP (x.reg i.b) i.c).1).2.1=0 then x.setReg i.a (v.read (placeP (x.reg i.b) i.c).1).1 else x,(v.read (placeP (x.reg i.b) i.c).1).2.2):=by unfold PIt.exec;rw[ho];rfl
 have hp:(placeP (x.reg i.b) i.c).2=0∨(placeP (x.reg i.b) i.c).2=2:=by unfold placeP;split<;>simp
 rw[e];by_cases h0:(placeP (x.reg i.b) i.c).2=0
 ·rw[if_neg (by simp[h0])]
  obtain⟨q1,q2,q3,q4,q5,q6⟩:=hv.read (placeP (x.reg i.b) i.c).1;generalize v.read (placeP (x.reg i.b) i.c).1=r at *
  obtain⟨y,e9,v'⟩:=r;simp only at q1 q2 q3 q4 q5 q6 ⊢;by_cases h9:e9=0
  ·rw[if_pos h9];exact⟨h.setReg _ (q3 h9),q1,rfl,rfl,rfl,rfl,rfl,fun _=>⟨by rw[q2];exact hl,by have:=hi.op;show x.opens.length=_;omega⟩,by omega⟩
  ·rw[if_neg h9];refine⟨h,q1,rfl,rfl,rfl,rfl,rfl,fun h8=>absurd h8 h9,fun h8=>?_⟩
   obtain⟨r1,r2,r3⟩:=q4 h8;refine⟨rfl,?_,by rw[q5,r2];exact r3,by rw[q2];exact hl⟩
   unfold PVw.is at r1 ⊢;rw[q5,r2];exact r1
 ·rw[if_pos h0];exact⟨h,hv,rfl,rfl,rfl,rfl,rfl,by simp only;omega,by simp only;omega⟩
theorem ex_store (h:ItVal x)(hv:v.fine)(hl:x.opens.length+1=v.logs.rows.length)(hd:x.opens.length=dep x.at_)(hi:InsFine dep x.at_ i)(ho:i.op=9):ExFine dep x (x.exec v i).1 (x.exec v i).2.1 (x.exec v i).2.2:=by
 have e:x.exec v i=if(placeP (x.reg i.a) i.c).2≠0 then((placeP (x.reg i.a) i.c).2,x,v) else((v.write (placeP (x.reg i.a) i.c).1 (x.reg i.b)).1,x,(v.write (placeP (x.reg i.a) i.c).1 (x.reg i.b)).2):=by unfold PIt.exec;rw[ho];rfl
 have hp:(placeP (x.reg i.a) i.c).2=0∨(placeP (x.reg i.a) i.c).2=2:=by unfold placeP;split<;>simp
 rw[e];by_cases h0:(placeP (x.reg i.a) i.c).2=0
 ·rw[if_neg (by simp[h0])]
  by_cases hle:(placeP (x.reg i.a) i.c).1≤1000000
  ·obtain⟨q1,q2,q3⟩:=hv.write hle (h.reg i.b);exact⟨h,q1,rfl,rfl,rfl,rfl,rfl,fun _=>⟨by rw[q2];exact hl,by have:=hi.op;show x.opens.length=_;omega⟩,fun h9=>absurd h9 q3⟩
  ·have e2:v.write (placeP (x.reg i.a) i.c).1 (x.reg i.b)=(2,v):=by
    unfold PVw.write;rw[if_pos];unfold PVw.is
    have:=hv.facts
    simp;omega
   rw[e2];exact⟨h,hv,rfl,rfl,rfl,rfl,rfl,by simp,by simp⟩
 ·rw[if_pos h0];exact⟨h,hv,rfl,rfl,rfl,rfl,rfl,by simp only;omega,by simp only;omega⟩
theorem ex_open (h:ItVal x)(hv:v.fine)(hl:x.opens.length+1=v.logs.rows.length)(hd:x.opens.length=dep x.at_)(hat:x.at_≤40)(hi:InsFine dep x.at_ i)(ho:i.op=14):ExFine dep x (x.exec v i).1 (x.exec v i).2.1 (x.exec v i).2.2:=by
 have e:x.exec v i=x.begin v 14 x.at_:=by unfold PIt.exec;rw[ho];rfl
 rw[e];unfold PIt.begin PVw.open_;obtain⟨q1,q2,q3,q4⟩:=hv.logs.open_;simp only;split
 ·rename_i h1;exact⟨h,hv.log q1,rfl,rfl,rfl,rfl,rfl,fun h9=>absurd h9 h1,by simp only;omega⟩
 ·rename_i h1;refine⟨⟨h.regs,h.lim,fun p hp=>?_,h.out,h.oks⟩,hv.log q1,rfl,rfl,rfl,rfl,rfl,fun _=>⟨?_,?_⟩,by simp⟩
  ·simp only[List.mem_append,List.mem_singleton] at hp;rcases hp with hp|rfl
   ·exact h.opens p hp
   ·exact⟨h.regs,h.lim,h.out,hat⟩
  ·simp only[List.length_append,List.length_singleton];rw[q2 (by simpa using h1)]
   omega
  ·simp only[List.length_append,List.length_singleton]
   have:=hi.op
   omega
theorem ex_close (h:ItVal x)(hv:v.fine)(hl:x.opens.length+1=v.logs.rows.length)(hd:x.opens.length=dep x.at_)(hi:InsFine dep x.at_ i)(ho:i.op=15):ExFine dep x (x.exec v i).1 (x.exec v i).2.1 (x.exec v i).2.2:=by
 have e:x.exec v i=(v.keep.1,x.leave.2,v.keep.2):=by unfold PIt.exec;rw[ho];rfl
 rw[e];unfold PVw.keep PIt.leave;obtain⟨q1,q2,q3⟩:=hv.logs.keep;have hop:=hi.op;refine⟨⟨h.regs,h.lim,fun p hp=>h.opens p (List.dropLast_subset _ hp),h.out,h.oks⟩,hv.log q1,rfl,rfl,rfl,rfl,rfl,fun h9=>⟨?_,?_⟩,fun h9=>absurd h9 q3⟩
 ·have:=q2 h9
  simp only[List.length_dropLast];omega
 ·simp only[List.length_dropLast];omega
theorem ex_fine (h:ItVal x)(hv:v.fine)(hl:x.opens.length+1=v.logs.rows.length)(hd:x.opens.length=dep x.at_)(hat:x.at_≤40)(hi:InsFine dep x.at_ i):ExFine dep x (x.exec v i).1 (x.exec v i).2.1 (x.exec v i).2.2:=by
 rcases hi.op with⟨h1|h1|h1|h1|h1,_⟩|⟨h1,_⟩|⟨h1,_⟩
 ·exact ex_set h hv hl hd hi h1
 ·exact ex_add h hv hl hd hi h1
 ·exact ex_load h hv hl hd hi h1
 ·exact ex_store h hv hl hd hi h1
 ·exact ex_emit h hv hl hd hi h1
 ·exact ex_open h hv hl hd hat hi h1
 ·exact ex_close h hv hl hd hi h1
end
structure RunFine (dep:Nat→Nat) (r:Nat×PIt×PVw):Prop where
 it:ItFine dep r.2.1 r.2.2
 need:r.1=1→r.2.2.is r.2.2.need=true∧r.2.2.facts.getD r.2.2.need none=none
 fin:r.1=1∨r.1=r.2.1.fin
theorem runF_fine {dep:Nat→Nat}:∀(n:Nat) (x:PIt) (v:PVw),ItFine dep x v→(x.fin=0∨x.fin=2∨x.fin=4)→RunFine dep (PIt.runF n x v)∧((PIt.runF n x v).2.1.fin=0∨(PIt.runF n x v).2.1.fin=2∨(PIt.runF n x v).2.1.fin=4)
 |0,x,v,h,hf=>⟨⟨h,fun e=>by unfold PIt.runF at e;simp only at e;omega,.inr rfl⟩,hf⟩
 |n+1,x,v,h,hf=>by
  unfold PIt.runF;by_cases h1:x.fin≠0
  ·rw[if_pos h1];exact⟨⟨h,fun e=>by simp only at e;omega,.inr rfl⟩,hf⟩
  rw[if_neg h1];by_cases h2:x.at_=x.code.length
  ·rw[if_pos h2];exact⟨⟨⟨⟨h.regs,h.lim,h.opens,h.out,h.oks⟩,h.code,h.vf,h.place,h.left,by simp⟩,by simp,.inr rfl⟩,.inr (.inl rfl)⟩
  rw[if_neg h2];by_cases h3:x.left=0
  ·rw[if_pos h3];exact⟨⟨⟨⟨h.regs,h.lim,h.opens,h.out,h.oks⟩,h.code,h.vf,h.place,h.left,by simp⟩,by simp,.inr rfl⟩,.inr (.inr rfl)⟩
  rw[if_neg h3];have hk:x.at_<x.code.length:=by have:=h.place;omega
  have hlen:=h.code.len;have hl:=h.live (by omega)
  have hx:=ex_fine (x:={ x with next:=x.at_+1 }) (v:=v) (dep:=dep) ⟨h.regs,h.lim,h.opens,h.out,h.oks⟩ h.vf hl.1 hl.2 (by simp only;omega) (h.code.ins x.at_ hk)
  generalize PIt.exec { x with next:=x.at_+1 } v (x.code.getD x.at_ PIns.none)=r at hx
  obtain⟨e,y,v'⟩:=r;simp only at hx ⊢;have hfin:y.fin=0:=by rw[hx.fin];show x.fin=0;omega
  have hcode:CodeFine dep y.code:=by rw[hx.code];exact h.code
  by_cases h4:e=0
  ·rw[if_pos h4];obtain⟨o1,o2⟩:=hx.ok h4;refine runF_fine n { y with at_:=y.next,left:=y.left-1 } v' ⟨⟨hx.regs,hx.lim,hx.opens,hx.out,hx.oks⟩,hcode,hx.vf,?_,?_,fun _=>⟨o1,?_⟩⟩ (.inl hfin)
   ·simp only[hx.next,hx.code];exact hk
   ·have:=h.left
    simp only[hx.left];omega
   ·simp only[hx.next];exact o2
  rw[if_neg h4];by_cases h5:e=11
  ·rw[if_pos h5];obtain⟨n1,n2,n3,n4⟩:=hx.need h5;subst n1;exact⟨⟨⟨⟨h.regs,h.lim,h.opens,h.out,h.oks⟩,h.code,hx.vf,h.place,h.left,fun _=>⟨n4,hl.2⟩⟩,fun _=>⟨n2,n3⟩,.inl rfl⟩,.inl hfin⟩
  rw[if_neg h5];refine⟨⟨⟨⟨hx.regs,hx.lim,hx.opens,hx.out,hx.oks⟩,hcode,hx.vf,?_,?_,by simp⟩,by simp,.inr rfl⟩,.inr (.inr rfl)⟩
  ·simp only[hx.place,hx.code];exact h.place
  ·simp only[hx.left];exact h.left
end
section
variable (ω w : World) (F : HP)
structure IpC (w:World) (b:Nat) (x:PIt) (ka kb kc:Nat):Prop where
 ca:w.cell? ⟨b,6+ka,none⟩=some (.int .u64 ((x.regs.getD ka 0:Nat):Int))
 cb:w.cell? ⟨b,6+kb,none⟩=some (.int .u64 ((x.regs.getD kb 0:Nat):Int))
 cc:w.cell? ⟨b,6+kc,none⟩=some (.int .u64 ((x.regs.getD kc 0:Nat):Int))
 fz:∀i,w.frozen? ⟨b,i,none⟩=false
 lt:b<w.heap.size
theorem ipC_of {ω w:World}{F:HP}{b vb:Nat}{x:PIt}{v:PVw}(h:Sat ω w (itH b vb x v*F))(hr:x.regs.length=8){ka kb kc:Nat}(h1:ka<8)(h2:kb<8)(h3:kc<8):IpC w b x ka kb kc:=by
 obtain⟨D,hD,hx⟩:=itH_of h;have hb:=hx.assoc.blk;exact⟨by rw[hb.cell,itC_reg x D ka hr h1],by rw[hb.cell,itC_reg x D kb hr h2],by rw[hb.cell,itC_reg x D kc hr h3],hb.frozen,hb.lt⟩
theorem itH_reg {ω w:World}{F:HP}{b vb:Nat}{x:PIt}{v:PVw}(h:Sat ω w (itH b vb x v*F))(hr:x.regs.length=8)(k:Nat)(hk:k<8)(r:Nat):Sat ω (w.setCell ⟨b,6+k,none⟩ (.int .u64 r)) (itH b vb { x with regs:=x.regs.set k r } v*F):=by
 obtain⟨D,hD,hx⟩:=itH_of h;exact itH_set hD hx.swap hr k hk r
theorem slNum_of {ω w:World}{F:HP}{b vb:Nat}{x:PIt}{v:PVw}{D:ItD}(hD:D.vb=vb)(h:Sat ω w (itX b x D*(vwH vb v*F)))(hl:x.out.length≤1000)(n:Nat):
  Calls Tryz.prog 212 #[.pointer (some ⟨D.sb,0,none⟩),.int .u64 n] w (Rets ω F (.bool (decide (x.out.length<16))) (itH b vb { x with out:=if x.out.length<16 then x.out++[.num n] else x.out } v)):=by
 unfold itX at h;have h1:Sat ω w (slH D.sb x.out*(bk b 245 (itC x D)*(row 87 5 (.slice D.pA x.code.length D.pc) x.code.length (x.code.flatMap insV)*(row 3 1 (.slice D.mA (matchP x.code).length D.mc) (matchP x.code).length ((matchP x.code).map (Value.int .i64))*(row 346 11 (.slice D.oA x.opens.length D.oc) x.opens.length (x.opens.flatMap ptV)*(vwH vb v*F)))))):=h.perm (by ac_rfl)
 refine(sl_addNum ω w _ D.sb x.out h1 hl n).mono ?_;rintro e w' ⟨rfl,h2⟩;refine⟨rfl,itH_to (D:=D) hD ?_⟩;exact h2.perm (by unfold itX itC;simp only;ac_rfl)
theorem ip_do1 (b vb:Nat)(x:PIt)(v:PVw)(h:Sat ω w (itH b vb x v*F))(hr:x.regs.length=8)(ka kb kc n:Nat)(h1:ka<8)(h2:kb<8)(h3:kc≤40):
  Calls Tryz.prog 183 #[.pointer (some ⟨b,0,none⟩),.agg #[.int .i64 1,.int .i64 ka,.int .i64 kb,.int .i64 kc,.int .u64 n]] w (Rets ω F (.int .i64 (0)) (itH b vb ({ x with regs:=x.regs.set ka n }) (v))):=by
 obtain⟨m,hm⟩:∃m,kc%8=m:=⟨_,rfl⟩;have hC:∀o,IpC (w.alloc o) b x ka kb m:=fun o=>ipC_of (h.junk o) hr h1 h2 (by omega)
 have ca:=fun o=>(hC o).ca
 have cb:=fun o=>(hC o).cb
 have cc:=fun o=>(hC o).cc
 have fz:=fun o=>(hC o).fz
 have lb1:b<w.heap.size+1:=by have:=(hC (.cells #[] 0)).lt;simpa using this
 have HX:Hid (∀o q,Sat ω ((w.alloc o).drewN q) (itH b vb x v*F)):=h_ (fun o q=>(h.junk o).drewN q)
 have ta:Int.tmod (ka:Int) 8=(ka:Int):=by rw[Int.tmod_eq_emod_of_nonneg (by omega)];omega
 have tb:Int.tmod (kb:Int) 8=(kb:Int):=by rw[Int.tmod_eq_emod_of_nonneg (by omega)];omega
 have tc:Int.tmod (kc:Int) 8=(m:Int):=by rw[Int.tmod_eq_emod_of_nonneg (by omega)];omega
 have ga:(ka:Int)<8:=by omega
 have gb:(kb:Int)<8:=by omega
 have gm:(m:Int)<8:=by omega
 have HS:Hid (∀w1 (r:Nat),Sat ω w1 (itH b vb x v*F)→Sat ω (w1.setCell ⟨b,6+ka,none⟩ (.int .u64 r)) (itH b vb { x with regs:=x.regs.set ka r } v*F)):=h_ (fun w1 r hw=>itH_reg hw hr ka h1 r)
 generalize x.regs.getD ka 0=RA at *
 generalize x.regs.getD kb 0=RB at *
 generalize x.regs.getD m 0=RC at *
 clear h hC hr;go_enter Tryz.func183,Tryz.ntmps183;go_wp2;go_quiet (fail);go_wp2;go_ret;exact⟨rfl,HS.o _ _ (HX.o _ _)⟩
theorem ip_do3 (b vb:Nat)(x:PIt)(v:PVw)(h:Sat ω w (itH b vb x v*F))(hr:x.regs.length=8)(ka kb kc n:Nat)(h1:ka<8)(h2:kb<8)(h3:kc≤40):
  Calls Tryz.prog 183 #[.pointer (some ⟨b,0,none⟩),.agg #[.int .i64 3,.int .i64 ka,.int .i64 kb,.int .i64 kc,.int .u64 n]] w (Rets ω F (.int .i64 (0)) (itH b vb ({ x with regs:=x.regs.set ka ((x.regs.getD kb 0+x.regs.getD (kc%8) 0)%18446744073709551616) }) (v))):=by
 obtain⟨m,hm⟩:∃m,kc%8=m:=⟨_,rfl⟩;have hC:∀o,IpC (w.alloc o) b x ka kb m:=fun o=>ipC_of (h.junk o) hr h1 h2 (by omega)
 have ca:=fun o=>(hC o).ca
 have cb:=fun o=>(hC o).cb
 have cc:=fun o=>(hC o).cc
 have fz:=fun o=>(hC o).fz
 have lb1:b<w.heap.size+1:=by have:=(hC (.cells #[] 0)).lt;simpa using this
 have HX:Hid (∀o q,Sat ω ((w.alloc o).drewN q) (itH b vb x v*F)):=h_ (fun o q=>(h.junk o).drewN q)
 have ta:Int.tmod (ka:Int) 8=(ka:Int):=by rw[Int.tmod_eq_emod_of_nonneg (by omega)];omega
 have tb:Int.tmod (kb:Int) 8=(kb:Int):=by rw[Int.tmod_eq_emod_of_nonneg (by omega)];omega
 have tc:Int.tmod (kc:Int) 8=(m:Int):=by rw[Int.tmod_eq_emod_of_nonneg (by omega)];omega
 have ga:(ka:Int)<8:=by omega
 have gb:(kb:Int)<8:=by omega
 have gm:(m:Int)<8:=by omega
 rw[hm];have HS:Hid (∀w1 (r:Nat),Sat ω w1 (itH b vb x v*F)→Sat ω (w1.setCell ⟨b,6+ka,none⟩ (.int .u64 r)) (itH b vb { x with regs:=x.regs.set ka r } v*F)):=h_ (fun w1 r hw=>itH_reg hw hr ka h1 r)
 generalize x.regs.getD ka 0=RA at *
 generalize x.regs.getD kb 0=RB at *
 generalize x.regs.getD m 0=RC at *
 clear h hC hr;have hw:IntKind.u64.wrap ((RB:Int)+(RC:Int))=(((RB+RC)%18446744073709551616:Nat):Int):=by rw[IntKind.wrap_u64];omega
 go_enter Tryz.func183,Tryz.ntmps183;go_wp2;go_quiet (fail);go_wp2;go_ret;refine⟨rfl,?_⟩;first
  |exact HS.o _ _ (HX.o _ _)
  |((have h9:=HS.o _ ((RB+RC)%18446744073709551616) (HX.o _ _));rw[←hw] at h9;exact h9)
theorem ip_do21 (b vb:Nat)(x:PIt)(v:PVw)(h:Sat ω w (itH b vb x v*F))(hr:x.regs.length=8)(hl:x.out.length≤16)(ka kb kc n:Nat)(h1:ka<8)(h2:kb<8)(h3:kc≤40):
  Calls Tryz.prog 183 #[.pointer (some ⟨b,0,none⟩),.agg #[.int .i64 21,.int .i64 ka,.int .i64 kb,.int .i64 kc,.int .u64 n]] w (Rets ω F (.int .i64 ((if 16≤x.out.length then 5 else 0:Nat))) (itH b vb ({ x with out:=if x.out.length<16 then x.out++[.num (x.regs.getD ka 0)] else x.out }) (v))):=by
 obtain⟨m,hm⟩:∃m,kc%8=m:=⟨_,rfl⟩;have hC:∀o,IpC (w.alloc o) b x ka kb m:=fun o=>ipC_of (h.junk o) hr h1 h2 (by omega)
 have ca:=fun o=>(hC o).ca
 have cb:=fun o=>(hC o).cb
 have cc:=fun o=>(hC o).cc
 have fz:=fun o=>(hC o).fz
 have lb1:b<w.heap.size+1:=by have:=(hC (.cells #[] 0)).lt;simpa using this
 have HX:Hid (∀o q,Sat ω ((w.alloc o).drewN q) (itH b vb x v*F)):=h_ (fun o q=>(h.junk o).drewN q)
 have ta:Int.tmod (ka:Int) 8=(ka:Int):=by rw[Int.tmod_eq_emod_of_nonneg (by omega)];omega
 have tb:Int.tmod (kb:Int) 8=(kb:Int):=by rw[Int.tmod_eq_emod_of_nonneg (by omega)];omega
 have tc:Int.tmod (kc:Int) 8=(m:Int):=by rw[Int.tmod_eq_emod_of_nonneg (by omega)];omega
 have ga:(ka:Int)<8:=by omega
 have gb:(kb:Int)<8:=by omega
 have gm:(m:Int)<8:=by omega
 obtain⟨D,hD,hx⟩:=itH_of h;have c14:∀o q,((w.alloc o).drewN q).cell? ⟨b,14,none⟩=some (.pointer (some ⟨D.sb,0,none⟩)):=fun o q=>by
  have h9:=((hx.junk o).drewN q).assoc.blk.cell 14;rw[show(14:Nat)=14+0 from rfl,itC_post x D 0 hr (by omega)] at h9
  exact h9
 have ca2:∀o q,((w.alloc o).drewN q).cell? ⟨b,6+ka,none⟩=some (.int .u64 ((x.regs.getD ka 0:Nat):Int)):=fun o q=>(ipC_of ((h.junk o).drewN q) hr h1 h2 (show 0<8 by omega)).ca
 have HA:Hid (∀o q,Calls Tryz.prog 212 #[.pointer (some ⟨D.sb,0,none⟩),.int .u64 ((x.regs.getD ka 0:Nat):Int)] ((w.alloc o).drewN q).drew (Rets ω F (.bool (decide (x.out.length<16))) (itH b vb { x with out:=if x.out.length<16 then x.out++[.num (x.regs.getD ka 0)] else x.out } v))):=h_ (fun o q=>slNum_of hD (((hx.junk o).drewN q).drew) (by omega) _)
 obtain⟨y,hy⟩:∃y,y=({ x with out:=if x.out.length<16 then x.out++[.num (x.regs.getD ka 0)] else x.out }:PIt):=⟨_,rfl⟩
 rw[←hy] at HA ⊢;have hd:(if 16≤x.out.length then 5 else 0:Nat)=if decide (x.out.length<16)=true then 0 else 5:=by by_cases h9:x.out.length<16<;>simp[h9]<;>omega
 rw[hd];generalize decide (x.out.length<16)=d at *
 generalize D.sb=sb at *
 clear hy hd hl hx hD;generalize x.regs.getD ka 0=RA at *
 generalize x.regs.getD kb 0=RB at *
 generalize x.regs.getD m 0=RC at *
 clear h hC hr;cases d
 ·rw[if_neg (by simp)]
  go_enter Tryz.func183,Tryz.ntmps183;go_wp2;go_quiet (fail);go_wp2;refine rT 7 ?_;simp only[sD,sE,sF,sG];repeat still_step
  refine wpStill_nil ?_;go_wp2_with (go_at_call 212;refine(HA.o _ _).mono ?_;rintro e w1 ⟨rfl,hs⟩;have HZ:=h_ hs;clear hs);go_ret;exact⟨rfl,HZ.o⟩
 ·rw[if_pos rfl];go_enter Tryz.func183,Tryz.ntmps183;go_wp2;go_quiet (fail);go_wp2;refine rT 7 ?_;simp only[sD,sE,sF,sG];repeat still_step
  refine wpStill_nil ?_;go_wp2_with (go_at_call 212;refine(HA.o _ _).mono ?_;rintro e w1 ⟨rfl,hs⟩;have HZ:=h_ hs;clear hs);go_ret;exact⟨rfl,HZ.o⟩
theorem ip_do8 (b vb:Nat)(x:PIt)(v:PVw)(h:Sat ω w (itH b vb x v*F))(hr:x.regs.length=8)(ho:v.ok)(ka kb kc n:Nat)(h1:ka<8)(h2:kb<8)(h3:kc≤40):
  Calls Tryz.prog 183 #[.pointer (some ⟨b,0,none⟩),.agg #[.int .i64 8,.int .i64 ka,.int .i64 kb,.int .i64 kc,.int .u64 n]] w (Rets ω F (.int .i64 (((loadP x v ka (x.regs.getD kb 0) (kc:Int)).1:Int))) (itH b vb ((loadP x v ka (x.regs.getD kb 0) (kc:Int)).2.1) ((loadP x v ka (x.regs.getD kb 0) (kc:Int)).2.2))):=by
 obtain⟨m,hm⟩:∃m,kc%8=m:=⟨_,rfl⟩;have hC:∀o,IpC (w.alloc o) b x ka kb m:=fun o=>ipC_of (h.junk o) hr h1 h2 (by omega)
 have ca:=fun o=>(hC o).ca
 have cb:=fun o=>(hC o).cb
 have cc:=fun o=>(hC o).cc
 have fz:=fun o=>(hC o).fz
 have lb1:b<w.heap.size+1:=by have:=(hC (.cells #[] 0)).lt;simpa using this
 have HX:Hid (∀o q,Sat ω ((w.alloc o).drewN q) (itH b vb x v*F)):=h_ (fun o q=>(h.junk o).drewN q)
 have ta:Int.tmod (ka:Int) 8=(ka:Int):=by rw[Int.tmod_eq_emod_of_nonneg (by omega)];omega
 have tb:Int.tmod (kb:Int) 8=(kb:Int):=by rw[Int.tmod_eq_emod_of_nonneg (by omega)];omega
 have tc:Int.tmod (kc:Int) 8=(m:Int):=by rw[Int.tmod_eq_emod_of_nonneg (by omega)];omega
 have ga:(ka:Int)<8:=by omega
 have gb:(kb:Int)<8:=by omega
 have gm:(m:Int)<8:=by omega
 have HT:Hid (∀o q,Calls Tryz.prog 214 #[.pointer (some ⟨b,0,none⟩),.agg #[.int .i64 8,.int .i64 ka,.int .i64 kb,.int .i64 kc,.int .u64 n],.pointer (some ⟨b,6+ka,none⟩),.int .u64 ((x.regs.getD kb 0:Nat):Int)] ((w.alloc o).drewN q) (Rets ω F (.int .i64 ((loadP x v ka (x.regs.getD kb 0) (kc:Int)).1:Int)) (itH b vb (loadP x v ka (x.regs.getD kb 0) (kc:Int)).2.1 (loadP x v ka (x.regs.getD kb 0) (kc:Int)).2.2))):=h_ (fun o q=>ip_load ω _ F b vb x v ((h.junk o).drewN q) hr ho (ka:Int) (kb:Int) (kc:Int) (n:Int) (by omega) ka h1 (x.regs.getD kb 0))
 obtain⟨R,hR⟩:∃R,loadP x v ka (x.regs.getD kb 0) (kc:Int)=R:=⟨_,rfl⟩;rw[hR] at HT ⊢;clear hR ho;generalize x.regs.getD ka 0=RA at *
 generalize x.regs.getD kb 0=RB at *
 generalize x.regs.getD m 0=RC at *
 clear h hC hr;go_enter Tryz.func183,Tryz.ntmps183;go_wp2;go_quiet (fail);go_wp2_with (go_at_call 214;refine(HT.o _ _).mono ?_;rintro e w1 ⟨rfl,hs⟩;have HZ:=h_ hs;clear hs);go_ret;exact⟨rfl,HZ.o⟩
theorem ip_do9 (b vb:Nat)(x:PIt)(v:PVw)(h:Sat ω w (itH b vb x v*F))(hr:x.regs.length=8)(ho:v.ok)(ka kb kc n:Nat)(h1:ka<8)(h2:kb<8)(h3:kc≤40):
  Calls Tryz.prog 183 #[.pointer (some ⟨b,0,none⟩),.agg #[.int .i64 9,.int .i64 ka,.int .i64 kb,.int .i64 kc,.int .u64 n]] w (Rets ω F (.int .i64 (((storeP x v (x.regs.getD ka 0) (x.regs.getD kb 0) (kc:Int)).1:Int))) (itH b vb ((storeP x v (x.regs.getD ka 0) (x.regs.getD kb 0) (kc:Int)).2.1) ((storeP x v (x.regs.getD ka 0) (x.regs.getD kb 0) (kc:Int)).2.2))):=by
 obtain⟨m,hm⟩:∃m,kc%8=m:=⟨_,rfl⟩;have hC:∀o,IpC (w.alloc o) b x ka kb m:=fun o=>ipC_of (h.junk o) hr h1 h2 (by omega)
 have ca:=fun o=>(hC o).ca
 have cb:=fun o=>(hC o).cb
 have cc:=fun o=>(hC o).cc
 have fz:=fun o=>(hC o).fz
 have lb1:b<w.heap.size+1:=by have:=(hC (.cells #[] 0)).lt;simpa using this
 have HX:Hid (∀o q,Sat ω ((w.alloc o).drewN q) (itH b vb x v*F)):=h_ (fun o q=>(h.junk o).drewN q)
 have ta:Int.tmod (ka:Int) 8=(ka:Int):=by rw[Int.tmod_eq_emod_of_nonneg (by omega)];omega
 have tb:Int.tmod (kb:Int) 8=(kb:Int):=by rw[Int.tmod_eq_emod_of_nonneg (by omega)];omega
 have tc:Int.tmod (kc:Int) 8=(m:Int):=by rw[Int.tmod_eq_emod_of_nonneg (by omega)];omega
 have ga:(ka:Int)<8:=by omega
 have gb:(kb:Int)<8:=by omega
 have gm:(m:Int)<8:=by omega
 have HT:Hid (∀o q,Calls Tryz.prog 214 #[.pointer (some ⟨b,0,none⟩),.agg #[.int .i64 9,.int .i64 ka,.int .i64 kb,.int .i64 kc,.int .u64 n],.pointer (some ⟨b,6+ka,none⟩),.int .u64 ((x.regs.getD kb 0:Nat):Int)] ((w.alloc o).drewN q) (Rets ω F (.int .i64 ((storeP x v (x.regs.getD ka 0) (x.regs.getD kb 0) (kc:Int)).1:Int)) (itH b vb (storeP x v (x.regs.getD ka 0) (x.regs.getD kb 0) (kc:Int)).2.1 (storeP x v (x.regs.getD ka 0) (x.regs.getD kb 0) (kc:Int)).2.2))):=h_ (fun o q=>ip_store ω _ F b vb x v ((h.junk o).drewN q) hr ho (ka:Int) (kb:Int) (kc:Int) (n:Int) (by omega) ka h1 (x.regs.getD kb 0))
 obtain⟨R,hR⟩:∃R,storeP x v (x.regs.getD ka 0) (x.regs.getD kb 0) (kc:Int)=R:=⟨_,rfl⟩;rw[hR] at HT ⊢;clear hR ho;generalize x.regs.getD ka 0=RA at *
 generalize x.regs.getD kb 0=RB at *
 generalize x.regs.getD m 0=RC at *
 clear h hC hr;go_enter Tryz.func183,Tryz.ntmps183;go_wp2;go_quiet (fail);go_wp2_with (go_at_call 214;refine(HT.o _ _).mono ?_;rintro e w1 ⟨rfl,hs⟩;have HZ:=h_ hs;clear hs);go_ret;exact⟨rfl,HZ.o⟩
theorem ip_do14 (b vb:Nat)(x:PIt)(v:PVw)(h:Sat ω w (itH b vb x v*F))(hr:x.regs.length=8)(ho:v.ok)(hn:x.opens.length≤100)(hl:x.out.length≤100)(ka kb kc n:Nat)(h1:ka<8)(h2:kb<8)(h3:kc≤40):
  Calls Tryz.prog 183 #[.pointer (some ⟨b,0,none⟩),.agg #[.int .i64 14,.int .i64 ka,.int .i64 kb,.int .i64 kc,.int .u64 n]] w (Rets ω F (.int .i64 (((x.begin v 14 x.at_).1:Int))) (itH b vb ((x.begin v 14 x.at_).2.1) ((x.begin v 14 x.at_).2.2))):=by
 obtain⟨m,hm⟩:∃m,kc%8=m:=⟨_,rfl⟩;have hC:∀o,IpC (w.alloc o) b x ka kb m:=fun o=>ipC_of (h.junk o) hr h1 h2 (by omega)
 have ca:=fun o=>(hC o).ca
 have cb:=fun o=>(hC o).cb
 have cc:=fun o=>(hC o).cc
 have fz:=fun o=>(hC o).fz
 have lb1:b<w.heap.size+1:=by have:=(hC (.cells #[] 0)).lt;simpa using this
 have HX:Hid (∀o q,Sat ω ((w.alloc o).drewN q) (itH b vb x v*F)):=h_ (fun o q=>(h.junk o).drewN q)
 have ta:Int.tmod (ka:Int) 8=(ka:Int):=by rw[Int.tmod_eq_emod_of_nonneg (by omega)];omega
 have tb:Int.tmod (kb:Int) 8=(kb:Int):=by rw[Int.tmod_eq_emod_of_nonneg (by omega)];omega
 have tc:Int.tmod (kc:Int) 8=(m:Int):=by rw[Int.tmod_eq_emod_of_nonneg (by omega)];omega
 have ga:(ka:Int)<8:=by omega
 have gb:(kb:Int)<8:=by omega
 have gm:(m:Int)<8:=by omega
 have HT:Hid (∀o q,Calls Tryz.prog 215 #[.pointer (some ⟨b,0,none⟩),.agg #[.int .i64 14,.int .i64 ka,.int .i64 kb,.int .i64 kc,.int .u64 n]] ((w.alloc o).drewN q) (Rets ω F (.int .i64 ((x.begin v 14 x.at_).1:Int)) (itH b vb (x.begin v 14 x.at_).2.1 (x.begin v 14 x.at_).2.2))):=h_ (fun o q=>ip_turn14 ω _ F b vb x v ((h.junk o).drewN q) hr ho hn hl (ka:Int) (kb:Int) (kc:Int) (n:Int))
 obtain⟨R,hR⟩:∃R,x.begin v 14 x.at_=R:=⟨_,rfl⟩;rw[hR] at HT ⊢;clear hR ho hn hl;generalize x.regs.getD ka 0=RA at *
 generalize x.regs.getD kb 0=RB at *
 generalize x.regs.getD m 0=RC at *
 clear h hC hr;go_enter Tryz.func183,Tryz.ntmps183;go_wp2;go_quiet (fail);go_wp2_with (go_at_call 215;refine(HT.o _ _).mono ?_;rintro e w1 ⟨rfl,hs⟩;have HZ:=h_ hs;clear hs);go_ret;exact⟨rfl,HZ.o⟩
theorem ip_do15 (b vb:Nat)(x:PIt)(v:PVw)(h:Sat ω w (itH b vb x v*F))(hr:x.regs.length=8)(ho:v.ok)(hn:x.opens.length≤100)(h0:x.opens≠[])(hall:∀p∈x.opens,p.regs.length=8)(ka kb kc n:Nat)(h1:ka<8)(h2:kb<8)(h3:kc≤40):
  Calls Tryz.prog 183 #[.pointer (some ⟨b,0,none⟩),.agg #[.int .i64 15,.int .i64 ka,.int .i64 kb,.int .i64 kc,.int .u64 n]] w (Rets ω F (.int .i64 ((((v.keep.1,x.leave.2,v.keep.2)).1:Int))) (itH b vb (((v.keep.1,x.leave.2,v.keep.2)).2.1) (((v.keep.1,x.leave.2,v.keep.2)).2.2))):=by
 obtain⟨m,hm⟩:∃m,kc%8=m:=⟨_,rfl⟩;have hC:∀o,IpC (w.alloc o) b x ka kb m:=fun o=>ipC_of (h.junk o) hr h1 h2 (by omega)
 have ca:=fun o=>(hC o).ca
 have cb:=fun o=>(hC o).cb
 have cc:=fun o=>(hC o).cc
 have fz:=fun o=>(hC o).fz
 have lb1:b<w.heap.size+1:=by have:=(hC (.cells #[] 0)).lt;simpa using this
 have HX:Hid (∀o q,Sat ω ((w.alloc o).drewN q) (itH b vb x v*F)):=h_ (fun o q=>(h.junk o).drewN q)
 have ta:Int.tmod (ka:Int) 8=(ka:Int):=by rw[Int.tmod_eq_emod_of_nonneg (by omega)];omega
 have tb:Int.tmod (kb:Int) 8=(kb:Int):=by rw[Int.tmod_eq_emod_of_nonneg (by omega)];omega
 have tc:Int.tmod (kc:Int) 8=(m:Int):=by rw[Int.tmod_eq_emod_of_nonneg (by omega)];omega
 have ga:(ka:Int)<8:=by omega
 have gb:(kb:Int)<8:=by omega
 have gm:(m:Int)<8:=by omega
 have HT:Hid (∀o q,Calls Tryz.prog 215 #[.pointer (some ⟨b,0,none⟩),.agg #[.int .i64 15,.int .i64 ka,.int .i64 kb,.int .i64 kc,.int .u64 n]] ((w.alloc o).drewN q) (Rets ω F (.int .i64 (((v.keep.1,x.leave.2,v.keep.2)).1:Int)) (itH b vb ((v.keep.1,x.leave.2,v.keep.2)).2.1 ((v.keep.1,x.leave.2,v.keep.2)).2.2))):=h_ (fun o q=>ip_turn15 ω _ F b vb x v ((h.junk o).drewN q) hr ho hn h0 hall (ka:Int) (kb:Int) (kc:Int) (n:Int))
 obtain⟨R,hR⟩:∃R,(v.keep.1,x.leave.2,v.keep.2)=R:=⟨_,rfl⟩;rw[hR] at HT ⊢;clear hR ho hn h0 hall;generalize x.regs.getD ka 0=RA at *
 generalize x.regs.getD kb 0=RB at *
 generalize x.regs.getD m 0=RC at *
 clear h hC hr;go_enter Tryz.func183,Tryz.ntmps183;go_wp2;go_quiet (fail);go_wp2_with (go_at_call 215;refine(HT.o _ _).mono ?_;rintro e w1 ⟨rfl,hs⟩;have HZ:=h_ hs;clear hs);go_ret;exact⟨rfl,HZ.o⟩
end
theorem ip_do (ω w:World)(F:HP)(b vb:Nat)(x:PIt)(v:PVw)(h:Sat ω w (itH b vb x v*F))(hx:ItVal x)(hv:v.fine)(dep:Nat→Nat)(hl:x.opens.length+1=v.logs.rows.length)(hd:x.opens.length=dep x.at_)(i:PIns)(hi:InsFine dep x.at_ i):
  Calls Tryz.prog 183 #[.pointer (some ⟨b,0,none⟩),.agg (insV i).toArray] w (Rets ω F (.int .i64 ((x.exec v i).1:Int)) (itH b vb (x.exec v i).2.1 (x.exec v i).2.2)):=by
 have hop:=hi.op;have h6:=hv.logs.few;have ho6:x.opens.length≤100:=by omega
 have hout:=hx.out;obtain⟨a1,a2⟩:=hi.a;obtain⟨b1,b2⟩:=hi.b;obtain⟨c1,c2⟩:=hi.c;obtain⟨n1,n2⟩:=hi.n;obtain⟨op,a,b',c,n⟩:=i;simp only at *
 obtain⟨ka,rfl⟩:=Int.eq_ofNat_of_zero_le a1;obtain⟨kb,rfl⟩:=Int.eq_ofNat_of_zero_le b1;obtain⟨kc,rfl⟩:=Int.eq_ofNat_of_zero_le c1;obtain⟨kn,rfl⟩:=Int.eq_ofNat_of_zero_le n1;have ha:ka<8:=by omega
 have hb:kb<8:=by omega
 have hc:kc≤40:=by omega
 have ra:x.reg (ka:Int)=x.regs.getD ka 0:=by unfold PIt.reg;rw[Int.toNat_natCast,Nat.mod_eq_of_lt ha]
 have rb:x.reg (kb:Int)=x.regs.getD kb 0:=by unfold PIt.reg;rw[Int.toNat_natCast,Nat.mod_eq_of_lt hb]
 have rc:x.reg (kc:Int)=x.regs.getD (kc%8) 0:=by unfold PIt.reg;rw[Int.toNat_natCast]
 have sa:∀r,x.setReg (ka:Int) r={ x with regs:=x.regs.set ka r }:=fun r=>by unfold PIt.setReg;rw[Int.toNat_natCast,Nat.mod_eq_of_lt ha]
 rcases hop with⟨rfl|rfl|rfl|rfl|rfl,_⟩|⟨rfl,_⟩|⟨rfl,hdd⟩
 ·have e:x.exec v ⟨1,(ka:Nat),(kb:Nat),(kc:Nat),(kn:Nat)⟩=(0,{ x with regs:=x.regs.set ka kn },v):=by
   rw[←sa];rfl
  rw[e];exact ip_do1 ω w F b vb x v h hx.regs ka kb kc kn ha hb hc
 ·have e:x.exec v ⟨3,(ka:Nat),(kb:Nat),(kc:Nat),(kn:Nat)⟩=(0,{ x with regs:=x.regs.set ka ((x.regs.getD kb 0+x.regs.getD (kc%8) 0)%18446744073709551616) },v):=by
   rw[←sa,←rb,←rc];rfl
  rw[e];exact ip_do3 ω w F b vb x v h hx.regs ka kb kc kn ha hb hc
 ·have e:x.exec v ⟨8,(ka:Nat),(kb:Nat),(kc:Nat),(kn:Nat)⟩=loadP x v ka (x.regs.getD kb 0) (kc:Int):=by
   unfold loadP;rw[←rb];simp only[←sa];rfl
  rw[e];exact ip_do8 ω w F b vb x v h hx.regs hv.ok ka kb kc kn ha hb hc
 ·have e:x.exec v ⟨9,(ka:Nat),(kb:Nat),(kc:Nat),(kn:Nat)⟩=storeP x v (x.regs.getD ka 0) (x.regs.getD kb 0) (kc:Int):=by
   unfold storeP;rw[←ra,←rb];rfl
  rw[e];exact ip_do9 ω w F b vb x v h hx.regs hv.ok ka kb kc kn ha hb hc
 ·have e:x.exec v ⟨21,(ka:Nat),(kb:Nat),(kc:Nat),(kn:Nat)⟩=((if 16≤x.out.length then 5 else 0),{ x with out:=if x.out.length<16 then x.out++[.num (x.regs.getD ka 0)] else x.out },v):=by
   rw[←ra];show(if 16≤x.out.length then(5,x,v) else(0,{ x with out:=x.out++[.num (x.reg (ka:Int))] },v))=_
   by_cases h9:16≤x.out.length
   ·rw[if_pos h9,if_pos h9,if_neg (by omega)]
   ·rw[if_neg h9,if_neg h9,if_pos (by omega)]
  rw[e];exact ip_do21 ω w F b vb x v h hx.regs hx.out ka kb kc kn ha hb hc
 ·exact ip_do14 ω w F b vb x v h hx.regs hv.ok ho6 (by omega) ka kb kc kn ha hb hc
 ·exact ip_do15 ω w F b vb x v h hx.regs hv.ok ho6 (by intro e;rw[e] at hd;simp at hd;omega) (fun p hp=>(hx.opens p hp).1) ka kb kc kn ha hb hc
theorem itC_fin (x:PIt)(D:ItD)(h:x.regs.length=8)(f e:Nat):((itC x D).setIfInBounds 5 (.int .i64 f)).setIfInBounds 4 (.int .i64 e)=itC { x with fin:=f,err:=e } D:=by
 obtain⟨code,fin,err,regs,out,at_,next,left,opens⟩:=x;simp only at h;obtain⟨r0,r1,r2,r3,r4,r5,r6,r7,rfl⟩:=regs8 h;rfl
theorem itC_finOnly (x:PIt)(D:ItD)(h:x.regs.length=8)(f:Nat):(itC x D).setIfInBounds 5 (.int .i64 f)=itC { x with fin:=f } D:=by
 obtain⟨code,fin,err,regs,out,at_,next,left,opens⟩:=x;simp only at h;obtain⟨r0,r1,r2,r3,r4,r5,r6,r7,rfl⟩:=regs8 h;rfl
theorem itC_next (x:PIt)(D:ItD)(h:x.regs.length=8)(f:Nat):(itC x D).setIfInBounds 16 (.int .i64 f)=itC { x with next:=f } D:=by
 obtain⟨code,fin,err,regs,out,at_,next,left,opens⟩:=x;simp only at h;obtain⟨r0,r1,r2,r3,r4,r5,r6,r7,rfl⟩:=regs8 h;rfl
theorem itC_on (x:PIt)(D:ItD)(h:x.regs.length=8)(f l:Nat):((itC x D).setIfInBounds 15 (.int .i64 f)).setIfInBounds 17 (.int .i64 l)=itC { x with at_:=f,left:=l } D:=by
 obtain⟨code,fin,err,regs,out,at_,next,left,opens⟩:=x;simp only at h;obtain⟨r0,r1,r2,r3,r4,r5,r6,r7,rfl⟩:=regs8 h;rfl
theorem itH_put1 {ω w:World}{F:HP}{b vb:Nat}{x y:PIt}{v:PVw}(h:Sat ω w (itH b vb x v*F))(i:Nat)(u:Value)(e:∀D,(itC x D).setIfInBounds i u=itC y D)(hc:y.code=x.code)(ho:y.opens=x.opens)(hu:y.out=x.out):Sat ω (w.setCell ⟨b,i,none⟩ u) (itH b vb y v*F):=by
 obtain⟨D,hD,hx⟩:=itH_of h;unfold itX at hx;have h2:=hx.assoc.put i u (e D);refine itH_to (D:=D) hD ?_;unfold itX;rw[hc,ho,hu];exact h2.assoc'
theorem itH_put2 {ω w:World}{F:HP}{b vb:Nat}{x y:PIt}{v:PVw}(h:Sat ω w (itH b vb x v*F))(i j:Nat)(u u':Value)(e:∀D,((itC x D).setIfInBounds i u).setIfInBounds j u'=itC y D)(hc:y.code=x.code)(ho:y.opens=x.opens)(hu:y.out=x.out):Sat ω ((w.setCell ⟨b,i,none⟩ u).setCell ⟨b,j,none⟩ u') (itH b vb y v*F):=by
 obtain⟨D,hD,hx⟩:=itH_of h;unfold itX at hx;have h2:=(hx.assoc.set i u).put j u' (e D);refine itH_to (D:=D) hD ?_;unfold itX;rw[hc,ho,hu];exact h2.assoc'
theorem ip_fail (ω w:World)(F:HP)(b vb:Nat)(x:PIt)(v:PVw)(h:Sat ω w (itH b vb x v*F))(hr:x.regs.length=8)(e:Nat):
  Calls Tryz.prog 182 #[.pointer (some ⟨b,0,none⟩),.int .i64 e] w (Rets ω F (.tuple #[]) (itH b vb { x with fin:=4,err:=e } v)):=by
 obtain⟨D,hD,hx⟩:=itH_of h;have hb:=hx.assoc.blk;have lt:=hb.lt;have fz:=hb.frozen;have c5:w.cell? ⟨b,5,none⟩=some (.int .i64 x.fin):=by rw[hb.cell,itC_pre x D 5 (by omega)];rfl
 have c4:w.cell? ⟨b,4,none⟩=some (.int .i64 x.err):=by rw[hb.cell,itC_pre x D 4 (by omega)];rfl
 have HS:Hid (Sat ω ((w.setCell ⟨b,5,none⟩ (.int .i64 ((4:Nat):Int))).setCell ⟨b,4,none⟩ (.int .i64 e)) (itH b vb { x with fin:=4,err:=e } v*F)):=h_ (itH_put2 h 5 4 _ _ (fun D=>itC_fin x D hr 4 e) rfl rfl rfl)
 generalize (x.fin:Int)=fi at *
 generalize (x.err:Int)=er at *
 clear h hx hb;go_enter Tryz.func182,Tryz.ntmps182;go_wp2;exact bodyPost_end (results_none rfl _ _ _) rfl ⟨rfl,HS.o⟩
end Go.Proofs.YtfodmgaliclhfaaGreatDoor

/- Lemmas; no conditions. -/
import Derived.Test.YtfodmgaliclhfaaGreatDoorGVwNew
import Derived.Test.YtfodmgaliclhfaaGreatDoorGCodeMay
import Derived.Test.YtfodmgaliclhfaaGreatDoorGPn
import Derived.Deep.RegionLaw
import Derived.OneCell
import Derived.Outline
import Derived.KernelRfl
import Derived.Test.YtfodmgaliclhfaaGreatDoorShelf
import Derived.Lib.AppendIntMem
import Derived.Lib.LaidTab
import Derived.Lib.SmallJoins
import Derived.Shelf.Abstract
import Derived.Deep.OwnRows
import Derived.Test.YtfodmgaliclhfaaGreatDoorGWrPut
namespace Go.Proofs.YtfodmgaliclhfaaGreatDoor
set_option linter.unusedVariables false
set_option linter.unusedSimpArgs false
set_option maxRecDepth 100000
set_option maxHeartbeats 4000000
open Go.RowKit
section
variable (ω w : World) (F : HP)
def rdH (b:Nat)(l:List (Nat×Nat)):HP:=ex fun A=>ex fun c=>bk b 234 #[.int .i64 16,.slice A l.length c]*row 148 2 (.slice A l.length c) l.length (vS l)
theorem rdH_of {ω w:World}{F:HP}{b:Nat}{l:List (Nat×Nat)}(h:Sat ω w (rdH b l*F)):∃A c,Sat ω w (bk b 234 #[.int .i64 16,.slice A l.length c]*(row 148 2 (.slice A l.length c) l.length (vS l)*F)):=by
 obtain⟨A,h⟩:=h.of_ex;obtain⟨c,h⟩:=h.of_ex;exact⟨A,c,h.assoc⟩
theorem rdH_to {ω w:World}{F:HP}{b:Nat}{l:List (Nat×Nat)}{A:Option Addr}{c:Nat}(h:Sat ω w (bk b 234 #[.int .i64 16,.slice A l.length c]*(row 148 2 (.slice A l.length c) l.length (vS l)*F))):Sat ω w (rdH b l*F) :=
 Sat.to_ex A (h.assoc'.impL fun y hy=>⟨c,hy⟩)
theorem rd_new (h:Sat ω w F):
  Calls Tryz.prog 151 #[.int .i64 16] w (RetP ω F fun b=>rdH b []):=by
 have H:=h_ h;go_enter Tryz.func151,Tryz.ntmps151;go_wp2;go_ret;exact⟨_,rfl,rdH_to (A:=none) (c:=0) ((H.o.nil 148 2).bkNew rfl)⟩
theorem rdGet_hit {l:List (Nat×Nat)}{s k:Nat}(hk:k<l.length)(h:∀j,j<k→(l.getD j (0,0)).1≠s)(hs:(l.getD k (0,0)).1=s):rdGet l s=some (l.getD k (0,0)).2:=by
 unfold rdGet;have e:l.find? (·.1==s)=some (l.getD k (0,0)):=by
  rw[List.find?_eq_some_iff_getElem];refine⟨by simpa using hs,k,hk,?_,fun j hj=>?_⟩
  ·rw[gD,List.getElem?_eq_getElem hk];rfl
  ·have:=h j hj
   rw[gD,List.getElem?_eq_getElem (by omega)] at this
   simpa using this
 rw[e];rfl
theorem rdGet_miss {l:List (Nat×Nat)}{s:Nat}(h:∀j,j<l.length→(l.getD j (0,0)).1≠s):rdGet l s=none:=by
 unfold rdGet;have e:l.find? (·.1==s)=none:=by
  rw[List.find?_eq_none];intro x hx;obtain⟨j,hj,rfl⟩:=List.mem_iff_getElem.1 hx
  have:=h j hj
  rw[gD,List.getElem?_eq_getElem hj] at this;simpa using this
 rw[e];rfl
theorem rd_get (b:Nat)(l:List (Nat×Nat))(h:Sat ω w (rdH b l*F))(hl:l.length≤1000)(s:Nat):
  Calls Tryz.prog 225 #[.pointer (some ⟨b,0,none⟩),.int .i64 s] w fun e w'=>e=.returned (.tuple #[.int .u64 (((rdGet l s).getD 0:Nat):Int),.bool (rdGet l s).isSome])∧Only Nob w w':=by
 obtain⟨A,c,h⟩:=rdH_of h;obtain⟨N,hN⟩:∃N,l.length=N:=⟨_,rfl⟩;have c1:w.cell? ⟨b,1,none⟩=some (.slice A N c):=hN▸h.blk.cell 1;have l1:=h.blk.lt;have HRW:Hid (∀w1 (k:Nat),Only Nob w w1→k<N→∃g,A=some ⟨g,0,none⟩∧g<w1.heap.size∧w1.cell? ⟨g,k*2,none⟩=some (.int .i64 ((l.getD k (0,0)).1:Int))∧w1.cell? ⟨g,k*2+1,none⟩=some (.int .u64 ((l.getD k (0,0)).2:Int))):=h_ (fun w1 k ho hk=>by
  obtain⟨g,h5,h6,h7⟩:=(h.right.nob ho).rowAt (l:=l) (f:=seV) (fun _=>rfl) (0,0) (hN▸hk)
  exact⟨g,h5,h6,h7 0 (by omega),h7 1 (by omega)⟩)
 have HHI:Hid (∀k,k<N→(∀j,j<k→(l.getD j (0,0)).1≠s)→(l.getD k (0,0)).1=s→rdGet l s=some (l.getD k (0,0)).2):=h_ (fun k hk h1 h2=>rdGet_hit (hN▸hk) h1 h2)
 have HMI:Hid ((∀j,j<N→(l.getD j (0,0)).1≠s)→rdGet l s=none):=h_ (fun h1=>rdGet_miss (hN▸h1))
 rw[hN] at hl;generalize rdGet l s=R at *
 go_enter Tryz.func225,Tryz.ntmps225;go_wp2;go_loopw [7,13] (fun _ i wr=>∃k:Nat,k≤N∧i=.int .i64 k∧Hid (Only Nob w wr)∧Hid (∀j,j<k→(l.getD j (0,0)).1≠s)) (fun _ i _=>N-(intOf i).toNat)
 case atStart=>exact⟨0,by omega,rfl,Only.refl _ _,fun j hj=>absurd hj (by omega)⟩
 case round =>
  obtain⟨k,hk,rfl,HO,HP⟩:=hrel;by_cases hlt:k<N
  ·obtain⟨g,rfl,hg,r0,r1⟩:=HRW.o _ k HO.o hlt;have HX:=h_ (fun h2=>HHI.o k hlt HP.o h2)
   obtain⟨x1,hx1⟩:∃x1,(l.getD k (0,0)).1=x1:=⟨_,rfl⟩;obtain⟨x2,hx2⟩:∃x2,(l.getD k (0,0)).2=x2:=⟨_,rfl⟩;rw[hx1] at r0 HX;rw[hx2] at r1 HX;have HX1:=h_ hx1;by_cases he:x1=s
   ·have HE:=h_ (HX.o he);have d:((x1:Int)==(s:Int))=true:=by rw[beq_iff_eq];omega
    go_wp2;go_ret2;exact⟨by rw[HE.o];rfl,HO.o.alloc _⟩
   ·have HP2:Hid (∀j,j<k+1→(l.getD j (0,0)).1≠s):=h_ (fun j hj=>by
     rcases Nat.lt_or_ge j k with h1|h1
     ·exact HP.o j h1
     ·obtain rfl:j=k:=by omega
      rw[HX1.o];exact he)
    have d:((x1:Int)==(s:Int))=false:=by simp;omega
    go_wp2;exact⟨⟨k+1,by omega,by go_num,HO.o.alloc _,HP2.o⟩,by simp[intOf];omega⟩
  ·have HE:=h_ (HMI.o (fun j hj=>HP.o j (by omega)))
   go_wp2;go_ret2;exact⟨by rw[HE.o];rfl,HO.o⟩
theorem rd_all (b:Nat)(l:List (Nat×Nat))(h:Sat ω w (rdH b l*F))(hl:l.length≤1000):
  Calls Tryz.prog 105 #[.pointer (some ⟨b,0,none⟩)] w (RetR ω (rdH b l*F) 148 2 l.length (vS l)):=by
 obtain⟨A,c,h⟩:=rdH_of h;have c1:=h.blk.c 1;have lt:=h.blk.lt;have HX:Hid (Calls Tryz.prog 143 #[.slice A l.length c] w (RetR ω (row 148 2 (.slice A l.length c) l.length (vS l)*(bk b 234 #[.int .i64 16,.slice A l.length c]*F)) 148 2 l.length (vS l))):=h_ (cloneSeen ω w _ A l.length c (vS l) h.swap (by omega) (vS_one _))
 have HF:Hid (∀w1 A' c',Sat ω w1 (row 148 2 (.slice A' l.length c') l.length (vS l)*(row 148 2 (.slice A l.length c) l.length (vS l)*(bk b 234 #[.int .i64 16,.slice A l.length c]*F)))→Sat ω w1 (row 148 2 (.slice A' l.length c') l.length (vS l)*(rdH b l*F))):=h_ (fun w1 A' c' h1 =>
  (rdH_to (A:=A) (c:=c) (F:=row 148 2 (.slice A' l.length c') l.length (vS l)*F) (h1.perm (by ac_rfl))).swap)
 generalize l.length=N at *
 go_enter Tryz.func105,Tryz.ntmps105;go_wp2_with (go_at_call 143;refine(HX.o).mono ?_;rintro e w1 ⟨A',c',rfl,hs⟩;have HS:=h_ hs);go_ret;exact⟨_,_,rfl,HF.o _ _ _ HS.o⟩
end
theorem rd_add (ω w:World)(F:HP)(b:Nat)(l:List (Nat×Nat))(h:Sat ω w (rdH b l*F))(hl:l.length≤16)(s v:Nat):
  Calls Tryz.prog 195 #[.pointer (some ⟨b,0,none⟩),.agg #[.int .i64 s,.int .u64 v]] w (Rets ω F (.int .i64 ((rdAdd l (s,v)).1:Int)) (rdH b (rdAdd l (s,v)).2)):=by
 have H:=h_ h;have d0:¬(s:Int)<0:=by omega
 obtain⟨X,hX⟩:∃X,X=rdAdd l (s,v):=⟨_,rfl⟩;rw[←hX];unfold rdAdd at hX;simp only at hX;by_cases h1:16≤s
 ·rw[if_pos (Or.inl h1)] at hX;have d1:(16:Int)≤(s:Int):=by omega
  subst hX;go_enter Tryz.func195,Tryz.ntmps195;go_wp2;go_ret;exact⟨rfl,H.o.junk _⟩
 have d1:¬(16:Int)≤(s:Int):=by omega
 by_cases h2:4611686018427387904≤v
 ·rw[if_pos (Or.inr h2)] at hX;have d2:(4611686018427387904:Int)≤(v:Int):=by omega
  subst hX;go_enter Tryz.func195,Tryz.ntmps195;go_wp2;go_ret;exact⟨rfl,H.o.junk _⟩
 have d2:¬(4611686018427387904:Int)≤(v:Int):=by omega
 rw[if_neg (by omega)] at hX
 have HG:Hid (∀o,Calls Tryz.prog 225 #[.pointer (some ⟨b,0,none⟩),.int .i64 s] (w.alloc o) fun e w'=>e=.returned (.tuple #[.int .u64 (((rdGet l s).getD 0:Nat):Int),.bool (rdGet l s).isSome])∧Only Nob (w.alloc o) w'):=h_ (fun o=>rd_get ω _ F b l (h.junk o) (by omega) s)
 have HBX:Hid (∀w1,Only Nob (w.alloc (.cells #[.int .i64 s,.int .u64 v] 148)) w1→Sat ω w1 (bk w.heap.size 148 #[.int .i64 s,.int .u64 v]*(rdH b l*F))):=h_ (fun w1 ho=>((H.o.bkNew (t:=148) (cs:=#[.int .i64 s,.int .u64 v]) rfl).nob ho))
 have HXB:Hid (∀w1,Only Nob (w.alloc (.cells #[.int .i64 s,.int .u64 v] 148)) w1→w1.cell? ⟨w.heap.size,0,none⟩=some (.int .i64 s)∧w1.cell? ⟨w.heap.size,1,none⟩=some (.int .u64 v)∧w.heap.size<w1.heap.size):=h_ (fun w1 ho=>by
  have k:=(HBX.o w1 ho).blk;exact⟨k.cell 0,k.cell 1,k.lt⟩)
 cases hg:rdGet l s with
 |some y =>
  rw[hg] at hX HG;simp only[Option.getD_some,Option.isSome_some] at hX HG;by_cases hyv:y=v
  ·rw[if_neg (by omega)] at hX
   have e1:((y:Int) != (v:Int))=false:=by subst hyv;simp
   have e2:((y:Int)==(v:Int))=true:=by subst hyv;simp
   subst hX;go_enter Tryz.func195,Tryz.ntmps195;go_wp2_with (go_at_call 225;refine(HG.o _).mono ?_;rintro e w1 ⟨rfl,ho⟩;obtain⟨q1,q2,q3⟩:=HXB.o _ ho;have HS:=h_ (HBX.o _ ho).right);go_ret;exact⟨rfl,HS.o⟩
  ·rw[if_pos hyv] at hX;have e1:((y:Int) != (v:Int))=true:=by simp;omega
   have e2:((y:Int)==(v:Int))=false:=by simp;omega
   subst hX;go_enter Tryz.func195,Tryz.ntmps195;go_wp2_with (go_at_call 225;refine(HG.o _).mono ?_;rintro e w1 ⟨rfl,ho⟩;obtain⟨q1,q2,q3⟩:=HXB.o _ ho;have HS:=h_ (HBX.o _ ho).right);go_ret;exact⟨rfl,HS.o⟩
 |none =>
  rw[hg] at hX HG;simp only[Option.getD_none,Option.isSome_none] at hX HG;obtain⟨N,hN⟩:∃N,l.length=N:=⟨_,rfl⟩;have HOP:Hid (∀w1,Only Nob (w.alloc (.cells #[.int .i64 s,.int .u64 v] 148)) w1→∃A c,w1.cell? ⟨b,0,none⟩=some (.int .i64 16)∧w1.cell? ⟨b,1,none⟩=some (.slice A N c)∧b<w1.heap.size∧(∀j,w1.frozen? ⟨b,j,none⟩=false)∧Sat ω w1 (row 148 2 (.slice A N c) N (vS l)*(bk b 234 #[.int .i64 16,.slice A N c]*(bk w.heap.size 148 #[.int .i64 s,.int .u64 v]*F)))):=h_ (fun w1 ho=>by
   obtain⟨A,c,h9⟩:=rdH_of ((HBX.o w1 ho).swap);rw[hN] at h9;exact⟨A,c,h9.blk.cell 0,h9.blk.cell 1,h9.blk.lt,h9.blk.frozen,h9.perm (by ac_rfl)⟩)
  by_cases hf:l.length=16
  ·rw[if_pos hf] at hX;have hN16:N=16:=by omega
   subst hX;subst hN16;go_enter Tryz.func195,Tryz.ntmps195;go_wp2_with (go_at_call 225;refine(HG.o _).mono ?_;rintro e w1 ⟨rfl,ho⟩;obtain⟨q1,q2,q3⟩:=HXB.o _ ho;obtain⟨A,c,k1,k2,k3,k4,_⟩:=HOP.o _ ho;have HS:=h_ (HBX.o _ ho).right);go_quiet (fail);go_wp2;go_ret;exact⟨rfl,HS.o.drewN _⟩
  ·rw[if_neg hf] at hX;have hN16:N<16:=by omega
   have e9:((N:Int)==16)=false:=by rw[beq_eq_false_iff_ne];omega
   obtain⟨i0,hi0,hz⟩:=Option.map_eq_some_iff.1 infoSeen_;simp only[Prod.mk.injEq] at hz;obtain⟨hz0,hz1,hz2⟩:=hz;have HI:=h_ hi0;have HZ0:=h_ hz0;have HZ1:=h_ hz1;have HZ2:=h_ hz2;have HON:Hid (∀u∈[Value.int .i64 s,.int .u64 v],u.oneCell'=true):=h_ (by intro u hu;simp at hu;rcases hu with rfl|rfl<;>rfl)
   have HRD:Hid (∀(w1:World),Reads (w1.alloc (.cells #[.int .i64 s,.int .u64 v] 148)) (w1.heap.size+1) 2 (some ⟨w1.heap.size,0,none⟩) 1 [.int .i64 s,.int .u64 v]):=h_ (fun w1=>by
    have h9:=Reads.of_blk (size:=2) (n:=1) (Blk.new w1 148 #[.int .i64 s,.int .u64 v]) rfl;rw[World.size_alloc] at h9;exact h9)
   have HFI:Hid (∀w2 A' c',Sat ω w2 (row 148 2 (.slice A' (N+1) c') (N+1) (vS l++[.int .i64 s,.int .u64 v])*(bk b 234 #[.int .i64 16,.slice A' (N+1) c']*(bk w.heap.size 148 #[.int .i64 s,.int .u64 v]*F)))→Sat ω w2 (rdH b (l++[(s,v)])*F)):=h_ (fun w2 A' c' h2=>by
    refine rdH_to (A:=A') (c:=c') ?_;rw[List.length_append,List.length_singleton,hN,vS_snoc];have h3:Sat ω w2 (bk w.heap.size 148 #[.int .i64 s,.int .u64 v]*(bk b 234 #[.int .i64 16,.slice A' (N+1) c']*(row 148 2 (.slice A' (N+1) c') (N+1) (vS l++[.int .i64 s,.int .u64 v])*F))):=h2.perm (by ac_rfl)
    exact h3.right)
   subst hX;go_enter Tryz.func195,Tryz.ntmps195;go_wp2_with (go_at_call 225;refine(HG.o _).mono ?_;rintro e w1 ⟨rfl,ho⟩;obtain⟨q1,q2,q3⟩:=HXB.o _ ho;obtain⟨A,c,k1,k2,k3,k4,k5⟩:=HOP.o _ ho;have HS:=h_ k5);go_quiet (fail);go_wp2;have l91:b<w1.heap.size+1:=by omega
   have l93:∀q o,((w1.drewN q).alloc o).cell? ⟨b,1,none⟩=some (.slice A N c):=fun q o=>(((HS.o.drewN q).junk o).right.blk.cell 1)
   have l92:w.heap.size<w1.heap.size+1:=by omega
   refine wp_region_any (by kernel_rfl) ?_
   try (change wpAny _ _ _ _ _ _ _ (World.drew _))
   refine tF 0 ?_ rfl ?_ (tF 1 ?_ rfl ?_ (tF 2 ?_ rfl ?_ (tF 3 ?_ rfl ?_ ?_)));all_goals (try (
    intro w;go_simp<;>(try with_reducible rfl)))
   refine rF [4,5] ?_;refine AllReady.cons rfl (fun K hK=>?_) ?_
   ·go_simp;refine hK _ _ ?_;refine oF 5 rfl fun K hK=>?_
    go_simp;refine hK _ _ ?_;refine oF 6 rfl fun K hK=>?_
    go_simp;refine hK _ _ ?_;refine oF 7 rfl fun K hK=>?_
    refine sap 145 148 2 16 Tryz.underlying145 HI.o HZ0.o HZ1.o HZ2.o ((HS.o.drewN _).junk _) (HRD.o _) HON.o ?_;intro A' c' w2 hs;have kb:=hs.right.blk;have qf:=kb.frozen;have ql:=kb.lt;have q1:=kb.cell 1;have HY:=h_ (hs.swap.put 1 (.slice A' (N+1) c') (cs':=#[.int .i64 16,.slice A' (N+1) c']) rfl).swap;refine hK _ _ ?_;refine tF 8 ?_ rfl ?_ (tF 9 ?_ rfl ?_ ?_);all_goals (try (
     intro w;go_simp<;>(try with_reducible rfl)))
    refine oF 10 rfl fun K hK=>?_
    go_simp;refine hK _ _ ?_;refine dF ?_;go_wp2;go_ret;exact⟨rfl,HFI.o _ _ _ HY.o⟩
   refine nF rfl fun K hK=>?_
   ·go_simp;refine hK _ _ ?_;refine rF [4,6] ?_;refine AllReady.cons rfl (fun K hK=>?_) ?_
    ·go_simp;refine hK _ _ ?_;refine oF 6 rfl fun K hK=>?_
     go_simp;refine hK _ _ ?_;refine oF 7 rfl fun K hK=>?_
     refine sap 145 148 2 16 Tryz.underlying145 HI.o HZ0.o HZ1.o HZ2.o ((HS.o.drewN _).junk _) (HRD.o _) HON.o ?_;intro A' c' w2 hs;have kb:=hs.right.blk;have qf:=kb.frozen;have ql:=kb.lt;have q1:=kb.cell 1;have HY:=h_ (hs.swap.put 1 (.slice A' (N+1) c') (cs':=#[.int .i64 16,.slice A' (N+1) c']) rfl).swap;refine hK _ _ ?_;refine tF 8 ?_ rfl ?_ (tF 9 ?_ rfl ?_ ?_);all_goals (try (
      intro w;go_simp<;>(try with_reducible rfl)))
     refine oF 10 rfl fun K hK=>?_
     go_simp;refine hK _ _ ?_;refine dF ?_;go_wp2;go_ret;exact⟨rfl,HFI.o _ _ _ HY.o⟩
    refine nF rfl fun K hK=>?_
    ·go_simp;refine hK _ _ ?_;refine oF 4 rfl fun K hK=>?_
     go_simp;refine hK _ _ ?_;refine oF 7 rfl fun K hK=>?_
     refine sap 145 148 2 16 Tryz.underlying145 HI.o HZ0.o HZ1.o HZ2.o ((HS.o.drewN _).junk _) (HRD.o _) HON.o ?_;intro A' c' w2 hs;have kb:=hs.right.blk;have qf:=kb.frozen;have ql:=kb.lt;have q1:=kb.cell 1;have HY:=h_ (hs.swap.put 1 (.slice A' (N+1) c') (cs':=#[.int .i64 16,.slice A' (N+1) c']) rfl).swap;refine hK _ _ ?_;refine tF 8 ?_ rfl ?_ (tF 9 ?_ rfl ?_ ?_);all_goals (try (
      intro w;go_simp<;>(try with_reducible rfl)))
     refine oF 10 rfl fun K hK=>?_
     go_simp;refine hK _ _ ?_;refine dF ?_;go_wp2;go_ret;exact⟨rfl,HFI.o _ _ _ HY.o⟩
theorem infoAny_:(Tryz.prog.info? 20).map (fun i=>(i.zero,i.size,i.bytes))=some (some (.nilIface),1,16):=by kernel_rfl
theorem cloneAny (ω w:World)(F:HP)(A:Option Addr)(n c:Nat)(xs:List Value)(h:Sat ω w (row 20 1 (.slice A n c) n xs*F))(hn:n≤1000000)(h1:∀u∈xs,u.oneCell'=true):
  Calls Tryz.prog 201 #[.slice A n c] w (RetR ω (row 20 1 (.slice A n c) n xs*F) 20 1 n xs):=by
 have H:=h_ h;have H1:=h_ h1;obtain⟨i0,hi,hz⟩:=Option.map_eq_some_iff.1 infoAny_;simp only[Prod.mk.injEq] at hz;obtain⟨hz0,hz1,hz2⟩:=hz;have HI:=h_ hi;have HZ0:=h_ hz0;have HZ1:=h_ hz1;have HZ2:=h_ hz2;rcases h.cases with⟨h2,h3,h4,h5⟩|⟨g,cap,cur,h2,h3,h4,h5,h6,h7,h8⟩
 ·injection h2 with h2a h2b h2c
  subst h2a h2c;subst h3 h4;have HX:=h_ (H.o.nil 20 1);have qT:∀(w:World) (a:Option Addr) (n c n' c':Nat),(binOp .eql 260 (.slice a n c) (.slice none n' c')).run Tryz.prog w=.ok (.bool a.isNone) w:=fun w a n c n' c'=>Lib.run_eql_slice_nil w _ _ a n c n' c' Tryz.underlying260
  go_enter Tryz.func201,Tryz.ntmps201;go_wp2;go_ret;exact⟨none,0,rfl,HX.o⟩
 ·injection h2 with h2a h2b h2c
  subst h2a;clear hi hz0 hz1 hz2 h1 h3 h4 h5 h6 h7 h8 h2b h2c;have HRD:Hid (Reads w w.heap.size 1 (some ⟨g,0,none⟩) n xs):=h_ h.reads;have HB:Hid (Sat ω (w.alloc (.cells #[] 20)) (row 20 1 (.slice (some ⟨w.heap.size,0,none⟩) 0 0) 0 []*(row 20 1 (.slice (some ⟨g,0,none⟩) n c) n xs*F))):=h_ (by
   have h9:=(h.new #[] 20).rowOf (n:=0) (size:=1) rfl (Nat.zero_le _);exact h9)
  have qT:∀(w:World) (a:Option Addr) (n c n' c':Nat),(binOp .eql 260 (.slice a n c) (.slice none n' c')).run Tryz.prog w=.ok (.bool a.isNone) w:=fun w a n c n' c'=>Lib.run_eql_slice_nil w _ _ a n c n' c' Tryz.underlying260
  go_enter Tryz.func201,Tryz.ntmps201;go_wp2_with (at_builtin;refine wpList_append_sat rfl _ _ 260 rfl 20 i0 _ 1 16 Tryz.underlying260 HI.o HZ0.o HZ1.o HZ2.o rfl (by decide) _ _ _ rfl HB.o _ _ _ _ _ rfl (HRD.o.alloc (Nat.le_refl _) _) H1.o (by unfold maxLen;omega) (by omega) ?_;intro A' c' w' hs;simp only[Nat.zero_add,List.nil_append] at hs ⊢;have HS:=h_ hs)
  go_ret;exact⟨_,_,rfl,HS.o⟩
section
variable (ω w : World) (F : HP)
def itV:Itm→Value
 | .num n=>.iface 22 (.int .u64 n)
 | .truth b=>.iface 4 (.bool b)
 | .nothing=>.iface 407 (.agg #[])
theorem itV_one (x:Itm):(itV x).oneCell'=true:=by cases x<;>rfl
def slH (g:Nat)(l:List Itm):HP:=ex fun A=>ex fun c=>bk g 262 #[.slice A l.length c]*row 20 1 (.slice A l.length c) l.length (l.map itV)
theorem slH_of {ω w:World}{F:HP}{b:Nat}{l:List Itm}(h:Sat ω w (slH b l*F)):∃A c,Sat ω w (bk b 262 #[.slice A l.length c]*(row 20 1 (.slice A l.length c) l.length (l.map itV)*F)):=by
 obtain⟨A,h⟩:=h.of_ex;obtain⟨c,h⟩:=h.of_ex;exact⟨A,c,h.assoc⟩
theorem slH_to {ω w:World}{F:HP}{b:Nat}{l:List Itm}{A:Option Addr}{c:Nat}(h:Sat ω w (bk b 262 #[.slice A l.length c]*(row 20 1 (.slice A l.length c) l.length (l.map itV)*F))):Sat ω w (slH b l*F) :=
 Sat.to_ex A (h.assoc'.impL fun y hy=>⟨c,hy⟩)
theorem sl_new (h:Sat ω w F):
  Calls Tryz.prog 154 #[] w (RetP ω F fun b=>slH b []):=by
 have H:=h_ h;go_enter Tryz.func154,Tryz.ntmps154;go_wp2;go_ret;exact⟨_,rfl,slH_to (A:=none) (c:=0) ((H.o.nil 20 1).bkNew rfl)⟩
theorem sl_len (b:Nat)(l:List Itm)(h:Sat ω w (slH b l*F))(hl:l.length≤1000):
  Calls Tryz.prog 320 #[.pointer (some ⟨b,0,none⟩)] w fun e w'=>e=.returned (.int .i64 l.length)∧w'=w:=by
 obtain⟨A,c,h⟩:=slH_of h;have c1:=h.blk.c 0;have lt:=h.blk.lt;generalize l.length=N at *
 go_enter Tryz.func320,Tryz.ntmps320;go_wp2;go_ret;exact⟨rfl,rfl⟩
theorem sl_add (b:Nat)(l:List Itm)(h:Sat ω w (slH b l*F))(hl:l.length≤1000)(x:Itm):
  Calls Tryz.prog 232 #[.pointer (some ⟨b,0,none⟩),itV x] w (Rets ω F (.bool (decide (l.length<16))) (slH b (if l.length<16 then l++[x] else l))):=by
 have H:=h_ h;obtain⟨A,c,h⟩:=slH_of h;have c1:=h.blk.c 0;have lt:=h.blk.lt;have fz:=h.blk.frozen;obtain⟨N,hN⟩:∃N,l.length=N:=⟨_,rfl⟩;by_cases hf:l.length<16
 ·rw[if_pos hf,show decide (l.length<16)=true by simp[hf]]
  have d:¬(16:Int)≤(N:Int):=by omega
  obtain⟨i0,hi0,hz⟩:=Option.map_eq_some_iff.1 infoAny_;simp only[Prod.mk.injEq] at hz;obtain⟨hz0,hz1,hz2⟩:=hz;have HI:=h_ hi0;have HZ0:=h_ hz0;have HZ1:=h_ hz1;have HZ2:=h_ hz2;obtain⟨ty,dd,hu⟩:∃ty dd,itV x=.iface ty dd:=by cases x<;>exact⟨_,_,rfl⟩
  rw[hu];have HON:Hid (∀y∈[Value.iface ty dd],y.oneCell'=true):=h_ (by intro y hy;simp at hy;subst hy;rfl)
  have HRD:Hid (∀(w1:World),Reads (w1.alloc (.cells #[.iface ty dd] 20)) (w1.heap.size+1) 1 (some ⟨w1.heap.size,0,none⟩) 1 [.iface ty dd]):=h_ (fun w1=>by
   have h9:=Reads.of_blk (size:=1) (n:=1) (Blk.new w1 20 #[.iface ty dd]) rfl;rw[World.size_alloc] at h9;exact h9)
  have HS:Hid (Sat ω w (row 20 1 (.slice A N c) N (l.map itV)*(bk b 262 #[.slice A N c]*F))):=h_ (hN▸h.swap);have HFI:Hid (∀w2 A' c',Sat ω w2 (row 20 1 (.slice A' (N+1) c') (N+1) (l.map itV++[.iface ty dd])*(bk b 262 #[.slice A' (N+1) c']*F))→Sat ω w2 (slH b (l++[x])*F)):=h_ (fun w2 A' c' h2=>by
   refine slH_to (A:=A') (c:=c') ?_;rw[List.length_append,List.length_singleton,hN,List.map_append,List.map_singleton,hu];exact h2.swap)
  rw[hN] at c1 hf;have l91:b<w.heap.size+1:=by omega
  go_enter Tryz.func232,Tryz.ntmps232;go_wp2_with (at_builtin;refine wpList_append_sat rfl _ _ 260 rfl 20 i0 _ 1 16 Tryz.underlying260 HI.o HZ0.o HZ1.o HZ2.o rfl (by decide) _ _ _ rfl (HS.o.junk _) _ _ _ _ _ rfl (HRD.o _) HON.o (by unfold maxLen;omega) (by omega) ?_;intro A' c' w2 hs;have kb:=hs.right.blk;have qf:=kb.frozen;have ql:=kb.lt;have q1:=kb.cell 0;have HY:=h_ (hs.swap.put 0 (.slice A' (N+1) c') (cs':=#[.slice A' (N+1) c']) rfl).swap)
  go_ret;exact⟨rfl,HFI.o _ _ _ HY.o⟩
 ·rw[if_neg hf,show decide (l.length<16)=false by simp[hf]]
  have d:(16:Int)≤(N:Int):=by omega
  rw[hN] at c1 hl;go_enter Tryz.func232,Tryz.ntmps232;go_wp2;go_ret;exact⟨rfl,H.o⟩
end
theorem sl_addNum (ω w:World)(F:HP)(b:Nat)(l:List Itm)(h:Sat ω w (slH b l*F))(hl:l.length≤1000)(n:Nat):
  Calls Tryz.prog 212 #[.pointer (some ⟨b,0,none⟩),.int .u64 n] w (Rets ω F (.bool (decide (l.length<16))) (slH b (if l.length<16 then l++[.num n] else l))):=by
 have HA:Hid (Calls Tryz.prog 232 #[.pointer (some ⟨b,0,none⟩),.iface 22 (.int .u64 n)] w (Rets ω F (.bool (decide (l.length<16))) (slH b (if l.length<16 then l++[.num n] else l)))):=h_ (sl_add ω w F b l h hl (.num n))
 generalize (if l.length<16 then l++[Itm.num n] else l)=r at *
 generalize decide (l.length<16)=d at *
 clear h hl;go_enter Tryz.func212,Tryz.ntmps212;go_wp2_with (go_at_call 232;refine(HA.o).mono ?_;rintro e w1 ⟨rfl,hx⟩;have HS:=h_ hx;clear hx);go_ret;exact⟨rfl,HS.o⟩
theorem itV_ones (l:List Itm):∀u∈l.map itV,u.oneCell'=true:=by
 intro u hu;obtain⟨x,_,rfl⟩:=List.mem_map.1 hu;exact itV_one x
theorem sl_copy (ω w:World)(F:HP)(b:Nat)(l:List Itm)(h:Sat ω w (slH b l*F))(hl:l.length≤1000):
  Calls Tryz.prog 168 #[.pointer (some ⟨b,0,none⟩)] w (RetP ω (slH b l*F) fun g=>slH g l):=by
 obtain⟨A,c,h⟩:=slH_of h;have c1:=h.blk.c 0;have lt:=h.blk.lt;have HX:=h_ (cloneAny ω w _ A l.length c (l.map itV) h.swap (by omega) (itV_ones l))
 have HF:Hid (∀w1 A' c',Sat ω w1 (row 20 1 (.slice A' l.length c') l.length (l.map itV)*(row 20 1 (.slice A l.length c) l.length (l.map itV)*(bk b 262 #[.slice A l.length c]*F)))→Sat ω (w1.alloc (.cells #[.slice A' l.length c'] 262)) (slH w1.heap.size l*(slH b l*F))):=h_ (fun w1 A' c' h1=>by
  have h2:=(h1.bkNew (t:=262) (cs:=#[.slice A' l.length c']) rfl);have h3:=slH_to h2;have h4:Sat ω _ (bk b 262 #[.slice A l.length c]*(row 20 1 (.slice A l.length c) l.length (l.map itV)*(slH w1.heap.size l*F))):=h3.perm (by ac_rfl)
  exact(slH_to h4).swap)
 generalize l.length=N at *
 clear h;go_enter Tryz.func168,Tryz.ntmps168;go_wp2_with (go_at_call 201;refine(HX.o).mono ?_;rintro e w1 ⟨A',c',rfl,hs⟩;have HS:=h_ hs;clear hs);go_ret;exact⟨_,rfl,HF.o _ _ _ HS.o⟩
def insV (x:PIns):List Value:=[.int .i64 x.op,.int .i64 x.a,.int .i64 x.b,.int .i64 x.c,.int .u64 x.n]
def ptV (p:PPt):List Value:=[.int .i64 p.op,.int .i64 p.at_]++p.regs.map (fun(r:Nat)=>Value.int .u64 r)++[.int .i64 p.told]
structure ItD where
 pA:Option Addr
 pc:Nat
 mA:Option Addr
 mc:Nat
 oA:Option Addr
 oc:Nat
 vb:Nat
 sb:Nat
def itC (x:PIt)(D:ItD):Array Value :=
 (([.slice D.pA x.code.length D.pc,pV D.vb,.slice D.mA (matchP x.code).length D.mc,.int .i64 0,.int .i64 x.err,.int .i64 x.fin]:List Value)++x.regs.map (fun(r:Nat)=>Value.int .u64 r) ++
  [pV D.sb,.int .i64 x.at_,.int .i64 x.next,.int .i64 x.left,.slice D.oA x.opens.length D.oc]).toArray
def itX (b:Nat)(x:PIt)(D:ItD):HP:=bk b 245 (itC x D)*(row 87 5 (.slice D.pA x.code.length D.pc) x.code.length (x.code.flatMap insV)*(row 3 1 (.slice D.mA (matchP x.code).length D.mc) (matchP x.code).length ((matchP x.code).map (Value.int .i64))*(row 346 11 (.slice D.oA x.opens.length D.oc) x.opens.length (x.opens.flatMap ptV)*slH D.sb x.out)))
def itH (b:Nat)(vb:Nat)(x:PIt)(v:PVw):HP:=ex fun D=>fact (D.vb=vb)*(itX b x D*vwH vb v)
theorem itC_pre (x:PIt)(D:ItD)(k:Nat)(hk:k<6):(itC x D)[k]?=([.slice D.pA x.code.length D.pc,pV D.vb,.slice D.mA (matchP x.code).length D.mc,.int .i64 0,.int .i64 x.err,.int .i64 x.fin]:List Value)[k]?:=by
 unfold itC;rw[List.getElem?_toArray,List.append_assoc,List.getElem?_append_left (by simpa using hk)]
theorem itC_reg (x:PIt)(D:ItD)(k:Nat)(h:x.regs.length=8)(hk:k<8):(itC x D)[6+k]?=some (.int .u64 ((x.regs.getD k 0:Nat):Int)):=by
 unfold itC;rw[List.getElem?_toArray,List.append_assoc,List.getElem?_append_right (by simp),List.getElem?_append_left (by simp;omega)]
 simp[List.getElem?_eq_getElem (show k<x.regs.length by omega)]
theorem itC_post (x:PIt)(D:ItD)(k:Nat)(h:x.regs.length=8)(hk:k<5):(itC x D)[14+k]?=([pV D.sb,.int .i64 x.at_,.int .i64 x.next,.int .i64 x.left,.slice D.oA x.opens.length D.oc]:List Value)[k]?:=by
 unfold itC;rw[List.getElem?_toArray,List.getElem?_append_right (by simp[h])]
 congr 1
 simp[h]
theorem place_any (w:World)(base:Nat)(off:Int)(h1 : -100000≤off)(h2:off≤100000):
  Calls Tryz.prog 247 #[.int .u64 base,.int .i64 off] w fun e w'=>e=.returned (.tuple #[.int .i64 ((placeP base off).1:Int),.int .i64 ((placeP base off).2:Int)])∧w'=w:=by
 obtain⟨r,hr⟩:∃r,placeP base off=r:=⟨_,rfl⟩;have hR:=hr;unfold placeP at hR;rw[hr];clear hr;obtain⟨B,hB⟩:∃B:Int,(base:Int)=B:=⟨_,rfl⟩;have hB0:0≤B:=by omega
 rw[hB];by_cases c1:2147483648≤B
 ·rw[if_pos (by omega)] at hR
  subst hR;go_enter Tryz.func247,Tryz.ntmps247;go_wp2;go_ret2;exact⟨rfl,rfl⟩
 ·have c1':B<2147483648:=by omega
  by_cases c2:2147483648≤B+off
  ·rw[if_pos (by omega)] at hR
   subst hR;go_enter Tryz.func247,Tryz.ntmps247;go_wp2;go_ret2;exact⟨rfl,rfl⟩
  ·by_cases c3:B+off<6
   ·rw[if_pos (by omega)] at hR
    subst hR;go_enter Tryz.func247,Tryz.ntmps247;go_wp2;go_ret2;exact⟨rfl,rfl⟩
   ·rw[if_neg (by omega)] at hR
    have e:(((base:Int)+off).toNat:Int)=B+off:=by omega
    obtain⟨ra,rb⟩:=r;injection hR with ha hb
    subst hb;have ea:(ra:Int)=B+off:=by rw[←ha];exact e
    rw[ea];clear ha e ea hB;go_enter Tryz.func247,Tryz.ntmps247;go_wp2;go_ret2;exact⟨rfl,rfl⟩
theorem itH_of {ω w:World}{F:HP}{b vb:Nat}{x:PIt}{v:PVw}(h:Sat ω w (itH b vb x v*F)):∃D:ItD,D.vb=vb∧Sat ω w (itX b x D*(vwH vb v*F)):=by
 obtain⟨D,h⟩:=h.of_ex;obtain⟨h1,h2⟩:=h.assoc.of_fact;exact⟨D,h1,h2.assoc⟩
theorem itH_to {ω w:World}{F:HP}{b vb:Nat}{x:PIt}{v:PVw}{D:ItD}(e:D.vb=vb)(h:Sat ω w (itX b x D*(vwH vb v*F))):Sat ω w (itH b vb x v*F) :=
 Sat.to_ex D ((h.assoc'.to_fact e).assoc')
theorem regs8 {l:List Nat}(h:l.length=8):∃r0 r1 r2 r3 r4 r5 r6 r7,l=[r0,r1,r2,r3,r4,r5,r6,r7]:=by
 match l,h with
 | [r0,r1,r2,r3,r4,r5,r6,r7],_=>exact⟨r0,r1,r2,r3,r4,r5,r6,r7,rfl⟩
def itemV:Itm→Value
 | .num n=>.iface 22 (.int .u64 n)
 | .truth b=>.iface 4 (.bool b)
 | .nothing=>.iface 407 (.agg #[])
structure Sl (w:World) (base g:Nat) (v:Value) (l:List Itm):Prop where
 cell:Blk w g 262 #[v]
 row:w.ownsRow base 20 1 v l.length (l.map itemV)
 apart:v.ownBlock≠some g
theorem Sl.form {w:World}{base g:Nat}{v:Value}{l:List Itm}(h:Sl w base g v l):∃A cap,v=.slice A l.length cap:=by
 rcases h.row.2 with⟨h1,h2⟩|⟨g,cap,cur,hv,_⟩
 ·rw[h2];exact⟨none,0,h1⟩
 ·exact⟨_,cap,hv⟩
theorem asNN (x:Int)(W:World):(Instr.typeAssert (.iface 22 (.int .u64 x)) 20 22 true).run Tryz.prog W=.ok (.tuple #[.int .u64 x,.bool true]) W:=by kernel_rfl
theorem asNT (x:Bool)(W:World):(Instr.typeAssert (.iface 4 (.bool x)) 20 22 true).run Tryz.prog W=.ok (.tuple #[.int .u64 0,.bool false]) W:=by kernel_rfl
theorem asNO (W:World):(Instr.typeAssert (.iface 407 (.agg #[])) 20 22 true).run Tryz.prog W=.ok (.tuple #[.int .u64 0,.bool false]) W:=by kernel_rfl
theorem asTT (x:Bool)(W:World):(Instr.typeAssert (.iface 4 (.bool x)) 20 4 true).run Tryz.prog W=.ok (.tuple #[.bool x,.bool true]) W:=by kernel_rfl
theorem asTO (W:World):(Instr.typeAssert (.iface 407 (.agg #[])) 20 4 true).run Tryz.prog W=.ok (.tuple #[.bool false,.bool false]) W:=by kernel_rfl

section
open Go.RowKit Go.Lib Go.Sort
def Pow10 (w:World):Prop:=Lib.TabIs Tryz.prog w "internal/strconv.uint64pow10" .u64 Lib.pow10Tab
theorem pow10_named:Tryz.prog.globalNamed "internal/strconv.uint64pow10" = some 0:=by kernel_rfl
theorem Pow10.block {w w':World}(h:Pow10 w)(e:w'.heap[0]?=w.heap[0]?):Pow10 w':=by
 unfold Pow10 Lib.TabIs World.var? at *
 rw[pow10_named] at *
 simp only[Option.bind_some] at *
 rw[e];exact h
theorem Pow10.lt {w:World}(h:Pow10 w):0<w.heap.size:=by
 unfold Pow10 Lib.TabIs World.var? at h;rw[pow10_named] at h;simp only[Option.bind_some] at h;rcases Nat.lt_or_ge 0 w.heap.size with h'|h'
 ·exact h'
 ·rw[Array.getElem?_eq_none h'] at h;simp at h
theorem Pow10.only {S:Nat→Prop}{w w':World}(h:Pow10 w)(ho:Only S w w')(hn:¬S 0):Pow10 w':=h.block (ho.block _ h.lt hn)
theorem Pow10.nob {w w':World}(h:Pow10 w)(ho:Only Nob w w'):Pow10 w':=h.only ho (fun h=>h)
theorem iformatUint_any (u:Nat)(hu:u<18446744073709551616)(w:World)(htab:Pow10 w):
  Calls Tryz.prog 226 #[.int .u64 u,.int .i64 10] w fun e w'=>e=.returned (.string ⟨(decDigits u).toArray⟩)∧Only Nob w w':=by
 by_cases h100:u<100
 ·go_enter Tryz.func226,Tryz.ntmps226;go_wp2_with (go_at_call 272;refine(Tryz.internal_strconv_small u h100 _).mono ?_;rintro e w' ⟨rfl,rfl⟩);go_ret;exact⟨rfl,Only.refl _ _⟩
 ·have hu1:1≤u:=by omega
  have hnd20:Lib.nDigits u≤20:=by have:=Lib.numDigits_eq u hu1 hu;split at this<;>omega
  have hal:Tryz.prog.arrayLen 360=24:=by kernel_rfl
  have hH0:=Lib.holds_zero0 w 360 (Lib.nDigits u) (by omega)
  have hfmt:=Tryz.internal_strconv_formatBase10 w.heap.size 0 24 u (Array.replicate (Lib.nDigits u) 0) (w.alloc (.cells Lib.zeros24 360)) hH0 (by rw[Array.size_replicate];exact Lib.lt_pow_nDigits u) hu (by rw[Array.size_replicate];omega)
  rw[Array.size_replicate] at hfmt;have hsl:∀W,(Instr.sliceAt 360 (.pointer (some ⟨w.heap.size,0,none⟩)) none (some (.int .i64 (Lib.nDigits u:Int))) none).run Tryz.prog W=.ok (.slice (some ⟨w.heap.size,0,none⟩) (Lib.nDigits u) 24) W:=fun W=>by
   rw[run_sliceAt_array_h W 360 ⟨w.heap.size,0,none⟩ (by simp[Program.arrayLen,Program.elem,Tryz.underlying360]) .i64 (Lib.nDigits u:Int) (by omega) (by rw[hal];omega)]
   go_simp
  have HH0:=h_ hH0;have HT:=h_ htab;have HN:=h_ (fun W h=>Tryz.internal_strconv_numDigits u hu1 hu W h)
  go_enter Tryz.func226,Tryz.ntmps226;go_wp2_with (go_at_call 273;refine(HN.o _ (Lib.tabIs_alloc HT.o _)).mono ?_;rintro e w' ⟨rfl,rfl⟩);refine hfmt.mono ?_;rintro e w' ⟨rfl,k,v',dk,rfl,hF⟩;obtain⟨os,eo⟩:=Lib.fin_at w (.cells Lib.zeros24 360) dk k 0;have hcv:(convert 25 9 (.slice (some ⟨w.heap.size,0,none⟩) (Lib.nDigits u) 24)).run Tryz.prog ((putRow (fun(b:UInt8)=>Value.int .u8 b.toNat) (w.alloc (.cells Lib.zeros24 360)) w.heap.size 0 dk).drewN k)
    = .ok (.string ⟨(Lib.decDigits u).toArray⟩) ((putRow (fun(b:UInt8)=>Value.int .u8 b.toNat) (w.alloc (.cells Lib.zeros24 360)) w.heap.size 0 dk).drewN k):=by
   have h:=run_convert_bytes_back (P:=Tryz.prog) ((putRow (fun(b:UInt8)=>Value.int .u8 b.toNat) (w.alloc (.cells Lib.zeros24 360)) w.heap.size 0 dk).drewN k) 25 9 5 ⟨w.heap.size,0,none⟩ 24 (Lib.decDigits u) Tryz.underlying25 Tryz.underlying5 Tryz.underlying9 (fun j hj=>by
    rw[Lib.row_is_numeral hF j hj,Lib.add_plain,World.cell?_drewN];exact cell?_putRow (fun(b:UInt8)=>Value.int .u8 b.toNat) _ w.heap.size 0 _ dk HH0.o (by rw[hF.size,Array.size_replicate]) j (by rw[hF.size];rw[Lib.decDigits_length] at hj;exact hj))
   rw[Lib.decDigits_length] at h;exact h
  have HF:=h_ hF;rw[eo] at hcv ⊢;have hO:Hid (Only Nob w (grow (w.drewN k) os)):=h_ (Only.of_new (Lib.below_grow _ w (Nat.le_refl _) k os));generalize grow (w.drewN k) os=W2 at eo hcv hO ⊢;go_wp2;go_ret;exact⟨rfl,hO.out⟩
theorem formatUint_any (u:Nat)(hu:u<18446744073709551616)(w:World)(htab:Pow10 w):
  Calls Tryz.prog 202 #[.int .u64 u,.int .i64 10] w fun e w'=>e=.returned (.string ⟨(decDigits u).toArray⟩)∧Only Nob w w':=by
 have HC:=h_ (iformatUint_any u hu w htab);go_enter Tryz.func202,Tryz.ntmps202;go_wp2_with (go_at_call 226;refine(HC.o).mono ?_;rintro e w2 ⟨rfl,h1⟩;have H1:=h_ h1);go_ret;exact⟨rfl,H1.o⟩
end
theorem ownsRow_only {S:Nat→Prop}{w w':World}{base:Nat}{e:TypeId}{size:Nat}{v:Value}{n:Nat}{xs:List Value}(h:w.ownsRow base e size v n xs)(ho:Only S w w')(hn:∀k,v.ownBlock=some k→¬S k):
  w'.ownsRow base e size v n xs:=by
 obtain⟨h1,h2⟩:=h;refine⟨h1,?_⟩;rcases h2 with h2|⟨g,cap,cur,hv,hb,hc,hr⟩
 ·exact .inl h2
 ·refine .inr ⟨g,cap,cur,hv,hb,?_,hr⟩;have hg:g<w.heap.size:=by
   rcases Nat.lt_or_ge g w.heap.size with h|h
   ·exact h
   ·rw[Array.getElem?_eq_none h] at hc;cases hc
  rw[ho.block g hg (hn g (by rw[hv];rfl))]
  exact hc
theorem Sl.only {S:Nat→Prop}{w w':World}{base g:Nat}{v:Value}{l:List Itm}(h:Sl w base g v l)(ho:Only S w w')(hg:¬S g)(hn:∀k,v.ownBlock=some k→¬S k):Sl w' base g v l :=
 ⟨h.cell.only ho hg,ownsRow_only h.row ho hn,h.apart⟩
theorem Sl.nob {w w':World}{base g:Nat}{v:Value}{l:List Itm}(h:Sl w base g v l)(ho:Only Nob w w'):Sl w' base g v l:=h.only ho (fun h=>h) (fun _ _ h=>h)
theorem Sl.own_lt {w:World}{base g:Nat}{v:Value}{l:List Itm}(h:Sl w base g v l){k:Nat}(hk:v.ownBlock=some k):base≤k∧k<w.heap.size:=h.row.lt k hk
theorem word_any (x:Itm)(hx:x.ok)(w:World)(htab:Pow10 w):
  Calls Tryz.prog 169 #[itemV x] w fun e w'=>e=.returned (.string ⟨(itmW x).toArray⟩)∧Only Nob w w':=by
 rcases x with n|b|_
 ·have HC:=h_ (formatUint_any n (by have:n≤18446744073709551615:=hx;omega) w htab)
  have aN:=@asNN;simp only[itemV,itmW];clear hx htab;go_enter Tryz.func169,Tryz.ntmps169;go_wp2_with (go_at_call 202;refine(HC.o).mono ?_;rintro e w2 ⟨rfl,h1⟩;have H1:=h_ h1;clear h1);go_ret;exact⟨rfl,H1.o⟩
 ·clear hx htab;have aN:=@asNT;have aT:=@asTT;simp only[itemV];cases b
  ·go_enter Tryz.func169,Tryz.ntmps169;go_wp2;go_ret;exact⟨rfl,Only.refl _ _⟩
  ·go_enter Tryz.func169,Tryz.ntmps169;go_wp2;go_ret;exact⟨rfl,Only.refl _ _⟩
 ·clear hx htab;have aN:=@asNO;have aT:=@asTO;simp only[itemV];go_enter Tryz.func169,Tryz.ntmps169;go_wp2;go_ret;exact⟨rfl,Only.refl _ _⟩
section
open Go.RowKit Go.Deep
def strItm (x:Itm):Value:=.string ⟨(itmW x).toArray⟩
def wordCells (l:List Itm)(k:Nat):Array Value:=((l.take k).map strItm++List.replicate (l.length-k) (Value.string ⟨#[]⟩)).toArray
theorem wordCells_start (l:List Itm):wordCells l 0=Array.replicate l.length (Value.string ⟨#[]⟩):=by simp[wordCells]
theorem wordCells_step (l:List Itm)(k:Nat)(hk:k<l.length):(wordCells l k).setIfInBounds k (strItm l[k])=wordCells l (k+1):=by
 apply Array.toList_inj.1;rw[Array.toList_setIfInBounds];unfold wordCells;simp only[List.map_take];rw[List.take_add_one,List.getElem?_map,List.getElem?_eq_getElem hk];have e:l.length-k=(l.length-(k+1))+1:=by omega
 have hlen:((l.map strItm).take k).length=k:=by simp;omega
 rw[e,List.replicate_succ,List.set_append_right _ _ (by omega),hlen]
 simp
theorem wordCells_at (l:List Itm)(k:Nat)(hk:k<l.length):(wordCells l k)[k]?=some (Value.string ⟨#[]⟩):=by
 unfold wordCells;have hlen:((l.take k).map strItm).length=k:=by simp;omega
 simp only[List.getElem?_toArray];rw[List.getElem?_append_right (by omega),hlen,Nat.sub_self,List.getElem?_replicate,if_pos (by omega)]
theorem wordCells_done (l:List Itm)(j:Nat)(x:ByteArray)(h:(l.map fun x=>(⟨(itmW x).toArray⟩:ByteArray))[j]?=some x):(wordCells l l.length)[j]?=some (.string x):=by
 unfold wordCells;rw[List.take_length,Nat.sub_self];simp only[List.replicate_zero,List.append_nil,List.getElem?_toArray];rw[List.getElem?_map] at h ⊢;cases hx:l[j]? with
 |none=>rw[hx] at h;cases h
 |some y =>
  rw[hx] at h;injection h with h
  rw[←h];rfl
theorem madeCells_one (z:Value)(n:Nat):madeCells #[z] n=Array.replicate n z:=by
 apply Array.ext
 ·simp[size_madeCells]
 ·intro i h1 h2
  have:i%1=0:=Nat.mod_one i
  simp[madeCells,this]
structure TextInv (w wr:World) (base g:Nat) (v:Value) (l:List Itm) (B k:Nat):Prop where
 le:k≤l.length
 row:Blk wr B 9 (wordCells l k)
 new:w.heap.size≤B
 only:Only Nob w wr
 sl:Sl wr base g v l
 tab:Pow10 wr
theorem infoStr:(Tryz.prog.info? 9).map (fun i=>(i.zero,i.size,i.bytes))=some (some (.string ⟨#[]⟩),1,16):=by kernel_rfl
theorem text_any (w:World)(base g:Nat)(v:Value)(l:List Itm)(h:Sl w base g v l)(hl:l.length≤1000)(hok:∀x∈l,x.ok)(htab:Pow10 w):
  Calls Tryz.prog 139 #[.pointer (some ⟨g,0,none⟩)] w fun e w'=>e=.returned (.string ⟨(textI l).toArray⟩)∧Only Nob w w':=by
 obtain⟨A,cap,rfl⟩:=h.form;have hc:=h.cell.cell 0;simp at hc;have hgl:=h.cell.lt;have HO:Hid (∀j,(Value.slice A l.length cap).ownBlock=some j→j<w.heap.size):=h_ (fun j hj=>(h.own_lt hj).2)
 have H:=h_ h;have HT:=h_ htab;have HL:=h_ hok;obtain⟨n,hn⟩:∃n,l.length=n:=⟨_,rfl⟩;rw[hn] at hc H hl HO;have hmk:=fun w=>run_make_row' (P:=Tryz.prog) 259 9 (.string ⟨#[]⟩) 16 Tryz.underlying259 infoStr rfl .i64 .i64 n (by omega) (by omega) w
 go_enter Tryz.func139,Tryz.ntmps139;go_wp2;go_loopw [17] (fun i wr=>∃k:Nat,i=.int .i64 k∧TextInv w wr base g (.slice A n cap) l w.heap.size k) (fun i _=>n-(intOf i).toNat)
 case atStart =>
  refine⟨0,rfl,Nat.zero_le _,?_,Nat.le_refl _,(Only.refl _ _).alloc _,H.o.nob ((Only.refl _ _).alloc _),HT.o.nob ((Only.refl _ _).alloc _)⟩;rw[wordCells_start,hn];rw[←madeCells_one];exact Blk.new w 9 (madeCells #[.string ⟨#[]⟩] n)
 case round =>
  obtain⟨k,rfl,hI⟩:=hrel;have hBlt:=hI.row.lt;by_cases hk:k<n
  ·have hkl:k<l.length:=by omega
   rcases hI.sl.row.2 with⟨h1,h2⟩|⟨b,cap',cur,hv,_⟩
   ·omega
   ·injection hv with hv hv2 hv3
    clear hv2 hv3;subst hv;have hrow:=hI.sl.row;rw[hn] at hrow;have hr:=World.ownsRow.cellAt hrow k (by omega)
    rw[List.getElem?_map,List.getElem?_eq_getElem hkl,Option.map_some] at hr;have HW:=h_ (word_any l[k] (HL.o _ (List.getElem_mem hkl)) wr hI.tab);have HS:=h_ (wordCells_step l k hkl);unfold strItm at HS;have ha:=wordCells_at l k hkl;have HI:=h_ hI;have hkI:(k:Int)<(n:Int):=by omega
    generalize itemV l[k]=xv at *
    generalize itmW l[k]=wd at *
    have HKL:=h_ hkl;have HN:=h_ hn;go_wp2_with (go_at_call 169;refine(HW.o).mono ?_;rintro e w2 ⟨rfl,h1⟩;have hb2:=HI.o.row.only h1 (fun h=>h);have hc2:=(hb2.cell k).trans ha;have hf2:=hb2.frozen k;have HB2:=h_ hb2;have H1:=h_ h1)
    go_roundw
    case rel =>
     refine⟨k+1,rfl,HKL.o,?_,HI.o.new,?_,?_,?_⟩
     ·have:=HB2.o.set_ k (.string ⟨wd.toArray⟩)
      rw[HS.o] at this;exact this
     ·exact(HI.o.only.trans H1.o).setCell (p:=⟨w.heap.size,k,none⟩) (.inr (Nat.le_refl _)) _
     ·exact((HI.o.sl.nob H1.o).only (Only.setCell (S:=fun j=>j=w.heap.size) (p:=⟨w.heap.size,k,none⟩) ((Only.refl _ _)) (.inl rfl) _) (by omega) (fun j hj=>Nat.ne_of_lt (HO.o j hj)))
     ·exact(HI.o.tab.nob H1.o).only (Only.setCell (S:=fun j=>j=w.heap.size) (p:=⟨w.heap.size,k,none⟩) (Only.refl _ _) (.inl rfl) _) (by have:=HT.o.lt;omega)
    case measure =>
     show n-((k:Int)+1).toNat<n-(k:Int).toNat
     omega
  ·have hkn:k=n:=by have:=hI.le;omega
   subst hkn;have HJ:Hid (Calls Tryz.prog 170 #[.slice (some ⟨w.heap.size,0,none⟩) k k,.string ⟨#[32]⟩] wr fun e w'=>e=.returned (.string ⟨(textI l).toArray⟩)∧Only Nob wr w'):=h_ (by
    have hlen:=textI_len l HL.o;have e:(l.map fun x=>(⟨(itmW x).toArray⟩:ByteArray)).map (·.data.toList)=l.map itmW:=by simp
    have hj:=Tryz.strings_Join w.heap.size 0 k (l.map fun x=>(⟨(itmW x).toArray⟩:ByteArray)) ⟨#[32]⟩ wr (fun j x hx=>by
      rw[Nat.zero_add,hI.row.cell,←hn];exact wordCells_done l j x hx) hBlt (by simp;omega) (by simp;omega) (by rw[e];unfold textI at hlen;simp;omega)
    rw[e,List.length_map,hn] at hj;exact hj.mono fun e w' ⟨h1,h2⟩=>⟨h1,Only.of_new h2⟩)
   have HI:=h_ hI;go_wp2_with (go_at_call 170;refine(HJ.o).mono ?_;rintro e w2 ⟨rfl,h1⟩;have H1:=h_ h1);go_ret;exact⟨rfl,HI.o.only.trans H1.o⟩
end
def PowO:Type:={ o:Obj // ∀w:World,w.heap[0]?=some o→Pow10 w }
def powH [Inhabited PowO]:HP:=fun h=>h=fun k=>if k=0 then some (default:PowO).1 else none
theorem Sat.pow [Inhabited PowO]{ω w:World}{F:HP}(h:Sat ω w (powH*F)):Pow10 w:=by
 obtain⟨x,hx,rfl⟩:=h.left.part;exact(default:PowO).2 w (hx _ _ (by simp))
theorem itV_eq (x:Itm):itV x=itemV x:=by cases x<;>rfl
theorem slH_Sl {ω w:World}{F:HP}{b:Nat}{l:List Itm}(h:Sat ω w (slH b l*F)):∃v,Sl w 0 b v l:=by
 obtain⟨A,c,h⟩:=slH_of h;refine⟨.slice A l.length c,h.blk,?_,?_⟩
 ·have h1:=h.right.owns;rw[show l.map itemV=l.map itV from List.map_congr_left fun x _=>(itV_eq x).symm]
  exact h1
 ·intro e;rcases h.swap.cases with⟨h1,_⟩|⟨g,cap,cur,h1,h2,h3,h4,h5,h6,h7⟩
  ·rw[h1] at e;cases e
  ·rw[h1] at e;simp only[Value.ownBlock,Option.some.injEq] at e;exact h7.ne e
theorem sl_text [Inhabited PowO](ω w:World)(F:HP)(b:Nat)(l:List Itm)(h:Sat ω w (slH b l*(powH*F)))(hl:l.length≤1000)(hok:∀x∈l,x.ok):
  Calls Tryz.prog 139 #[.pointer (some ⟨b,0,none⟩)] w fun e w'=>e=.returned (.string ⟨(textI l).toArray⟩)∧Only Nob w w':=by
 obtain⟨v,hs⟩:=slH_Sl h;exact text_any w 0 b v l hs hl hok h.right.pow
section
structure AtD where
 rb:Nat
 vb:Nat
 db:Nat
 inn:Value
 fp:Value
 ep:Value
 cp:Value
def atC (s:PSt)(x:PAt)(D:AtD):Array Value:=#[.int .i64 x.me,.int .i64 s.words,.int .i64 s.stripes,.int .i64 s.wide,.int .i64 s.threads,.int .u64 s.start,.int .i64 s.spins,.int .i64 s.writes,.int .i64 s.fuel,pV D.rb,.slice none 0 0,.int .i64 0,pV D.vb,pV D.db,.int .i64 x.state,D.inn,D.fp,D.ep,D.cp,.bool x.begun,.int .u64 x.begin,.int .u64 x.stamp,.int .i64 x.fin,.int .i64 x.by_,.int .i64 x.err,.bool x.blocking]
def inH (D:AtD):PIn→HP
 | .none=>fact (D.cp=.pointer none)
 | .fetch f=>ex fun b=>fact (D.inn=.iface 194 (pV b)∧D.fp=pV b∧D.cp=.pointer none)*fetchH b f
 | .extend e=>ex fun b=>fact (D.inn=.iface 195 (pV b)∧D.ep=pV b∧D.cp=.pointer none)*extH b e
 | .commit c=>ex fun b=>fact (D.inn=.iface 196 (pV b)∧D.cp=pV b)*coH b c
def atX (b:Nat)(s:PSt)(x:PAt)(D:AtD):HP:=bk b 198 (atC s x D)*(itH D.rb D.vb x.run x.v*(rdH D.db x.reads*inH D x.inner))
def atH (b:Nat)(s:PSt)(x:PAt):HP:=ex fun D=>atX b s x D
section
variable {ω w : World} {F : HP} {b : Nat} {s : PSt} {x : PAt} {D : AtD}
theorem atH_of (h:Sat ω w (atH b s x*F)):∃D,Sat ω w (atX b s x D*F):=h.of_ex
theorem atH_to (h:Sat ω w (atX b s x D*F)):Sat ω w (atH b s x*F):=Sat.to_ex D h
theorem atX_blk (h:Sat ω w (atX b s x D*F)):Blk w b 198 (atC s x D):=h.assoc.blk
end
theorem at_end (ω w:World)(F:HP)(b:Nat)(s:PSt)(x:PAt)(h:Sat ω w (atH b s x*F)):
  Calls Tryz.prog 63 #[.pointer (some ⟨b,0,none⟩)] w fun e w'=>e=.returned (.int .i64 x.finOf)∧w'=w:=by
 obtain⟨D,hx⟩:=atH_of h;have hb:=atX_blk hx;have c1:=hb.c 14;have c2:=hb.c 22;have lt:=hb.lt;unfold PAt.finOf;generalize x.state=k at *
 generalize x.fin=f at *
 by_cases h8:k=8
 ·subst h8;rw[if_neg (by simp)]
  go_enter Tryz.func63,Tryz.ntmps63;go_wp2;go_ret;exact⟨rfl,rfl⟩
 ·rw[if_pos h8];have d:((k:Int) != 8)=true:=by simp;omega
  go_enter Tryz.func63,Tryz.ntmps63;go_wp2;go_ret;exact⟨rfl,rfl⟩
theorem at_err (ω w:World)(F:HP)(b:Nat)(s:PSt)(x:PAt)(h:Sat ω w (atH b s x*F)):
  Calls Tryz.prog 98 #[.pointer (some ⟨b,0,none⟩)] w fun e w'=>e=.returned (.int .i64 x.errOf)∧w'=w:=by
 obtain⟨D,hx⟩:=atH_of h;have hb:=atX_blk hx;have c1:=hb.c 14;have c2:=hb.c 24;have lt:=hb.lt;unfold PAt.errOf;generalize x.state=k at *
 generalize x.err=f at *
 by_cases h8:k=8
 ·subst h8;rw[if_neg (by simp)]
  go_enter Tryz.func98,Tryz.ntmps98;go_wp2;go_ret;exact⟨rfl,rfl⟩
 ·rw[if_pos h8];have d:((k:Int) != 8)=true:=by simp;omega
  go_enter Tryz.func98,Tryz.ntmps98;go_wp2;go_ret;exact⟨rfl,rfl⟩
theorem at_by (ω w:World)(F:HP)(b:Nat)(s:PSt)(x:PAt)(h:Sat ω w (atH b s x*F)):
  Calls Tryz.prog 95 #[.pointer (some ⟨b,0,none⟩)] w fun e w'=>e=.returned (.int .i64 x.byOf)∧w'=w:=by
 obtain⟨D,hx⟩:=atH_of h;have hb:=atX_blk hx;have c1:=hb.c 14;have c2:=hb.c 23;have lt:=hb.lt;unfold PAt.byOf;generalize x.state=k at *
 generalize x.by_=f at *
 by_cases h8:k=8
 ·subst h8;rw[if_neg (by simp)]
  go_enter Tryz.func95,Tryz.ntmps95;go_wp2;go_ret;exact⟨rfl,rfl⟩
 ·rw[if_pos h8];have d:((k:Int) != 8)=true:=by simp;omega
  go_enter Tryz.func95,Tryz.ntmps95;go_wp2;go_ret;exact⟨rfl,rfl⟩
theorem at_begin (ω w:World)(F:HP)(b:Nat)(s:PSt)(x:PAt)(h:Sat ω w (atH b s x*F)):
  Calls Tryz.prog 61 #[.pointer (some ⟨b,0,none⟩)] w fun e w'=>e=.returned (.tuple #[.int .u64 x.begin,.bool x.begun])∧∃q,w'=w.drewN q:=by
 obtain⟨D,hx⟩:=atH_of h;have hb:=atX_blk hx;have c1:=hb.c 19;have c2:=hb.c 20;have lt:=hb.lt;generalize x.begun=k at *
 generalize x.begin=f at *
 go_enter Tryz.func61,Tryz.ntmps61;go_wp2;go_quiet (fail);go_wp2;go_ret2;exact⟨rfl,_,rfl⟩
theorem at_stamp (ω w:World)(F:HP)(b:Nat)(s:PSt)(x:PAt)(h:Sat ω w (atH b s x*F)):
  Calls Tryz.prog 100 #[.pointer (some ⟨b,0,none⟩)] w fun e w'=>e=.returned (.int .u64 x.stamp)∧w'=w:=by
 obtain⟨D,hx⟩:=atH_of h;have hb:=atX_blk hx;have c1:=hb.c 21;have lt:=hb.lt;generalize x.stamp=k at *
 go_enter Tryz.func100,Tryz.ntmps100;go_wp2;go_ret;exact⟨rfl,rfl⟩
theorem at_blocking (ω w:World)(F:HP)(b:Nat)(s:PSt)(x:PAt)(h:Sat ω w (atH b s x*F)):
  Calls Tryz.prog 68 #[.pointer (some ⟨b,0,none⟩)] w fun e w'=>e=.returned (.bool x.blockingOf)∧w'=w:=by
 obtain⟨D,hx⟩:=atH_of h;have hb:=atX_blk hx;have c1:=hb.c 14;have c2:=hb.c 25;have lt:=hb.lt;unfold PAt.blockingOf;generalize x.state=k at *
 generalize x.blocking=f at *
 by_cases h8:k=8
 ·subst h8;rw[show((8:Nat) != 8)=false from rfl,Bool.false_and]
  go_enter Tryz.func68,Tryz.ntmps68;go_wp2;go_ret;exact⟨rfl,rfl⟩
 ·have d:((k:Int) != 8)=true:=by simp;omega
  rw[show(k != 8)=true by simpa using h8,Bool.true_and]
  go_enter Tryz.func68,Tryz.ntmps68;go_wp2;go_ret;exact⟨rfl,rfl⟩
end
theorem coH_of {ω w:World}{F:HP}{b:Nat}{c:PCo}(h:Sat ω w (coH b c*F)):∃D,Blk w b 258 (coC c D):=by
 obtain⟨D,h⟩:=h.of_ex;exact⟨D,h.assoc.blk⟩
theorem fe_endOf (w:World)(b:Nat)(f:PFe)(hb:Blk w b 283 (feC f)):
  Calls Tryz.prog 194 #[.pointer (some ⟨b,0,none⟩)] w fun e w'=>e=.returned (.int .i64 f.rule.fin)∧w'=w:=by
 have c1:=hb.c 2;have lt:=hb.lt;generalize f.rule.fin=k at *
 go_enter Tryz.func194,Tryz.ntmps194;go_wp2;go_ret;exact⟨rfl,rfl⟩
theorem fe_byOf (w:World)(b:Nat)(f:PFe)(hb:Blk w b 283 (feC f)):
  Calls Tryz.prog 387 #[.pointer (some ⟨b,0,none⟩)] w fun e w'=>e=.returned (.int .i64 f.rule.by_)∧w'=w:=by
 have c1:=hb.c 3;have lt:=hb.lt;generalize f.rule.by_=k at *
 go_enter Tryz.func387,Tryz.ntmps387;go_wp2;go_ret;exact⟨rfl,rfl⟩
theorem ex_endOf (w:World)(b:Nat)(x:PEx)(A:Option Addr)(c:Nat)(hb:Blk w b 285 (exC x A c)):
  Calls Tryz.prog 199 #[.pointer (some ⟨b,0,none⟩)] w fun e w'=>e=.returned (.int .i64 x.rule.fin)∧w'=w:=by
 have c1:=hb.c 2;have lt:=hb.lt;generalize x.rule.fin=k at *
 go_enter Tryz.func199,Tryz.ntmps199;go_wp2;go_ret;exact⟨rfl,rfl⟩
theorem ex_byOf (w:World)(b:Nat)(x:PEx)(A:Option Addr)(c:Nat)(hb:Blk w b 285 (exC x A c)):
  Calls Tryz.prog 395 #[.pointer (some ⟨b,0,none⟩)] w fun e w'=>e=.returned (.int .i64 x.rule.by_)∧w'=w:=by
 have c1:=hb.c 3;have lt:=hb.lt;generalize x.rule.by_=k at *
 go_enter Tryz.func395,Tryz.ntmps395;go_wp2;go_ret;exact⟨rfl,rfl⟩
theorem co_endOf (w:World)(b:Nat)(c:PCo)(D:CoD)(hb:Blk w b 258 (coC c D)):
  Calls Tryz.prog 145 #[.pointer (some ⟨b,0,none⟩)] w fun e w'=>e=.returned (.int .i64 c.rule.fin)∧w'=w:=by
 have c1:=hb.c 2;have lt:=hb.lt;generalize c.rule.fin=k at *
 go_enter Tryz.func145,Tryz.ntmps145;go_wp2;go_ret;exact⟨rfl,rfl⟩
theorem co_byOf (w:World)(b:Nat)(c:PCo)(D:CoD)(hb:Blk w b 258 (coC c D)):
  Calls Tryz.prog 398 #[.pointer (some ⟨b,0,none⟩)] w fun e w'=>e=.returned (.int .i64 c.rule.by_)∧w'=w:=by
 have c1:=hb.c 3;have lt:=hb.lt;generalize c.rule.by_=k at *
 go_enter Tryz.func398,Tryz.ntmps398;go_wp2;go_ret;exact⟨rfl,rfl⟩
theorem co_errOf (w:World)(b:Nat)(c:PCo)(D:CoD)(hb:Blk w b 258 (coC c D)):
  Calls Tryz.prog 167 #[.pointer (some ⟨b,0,none⟩)] w fun e w'=>e=.returned (.int .i64 c.rule.err)∧w'=w:=by
 have c1:=hb.c 4;have lt:=hb.lt;generalize c.rule.err=k at *
 go_enter Tryz.func167,Tryz.ntmps167;go_wp2;go_ret;exact⟨rfl,rfl⟩
theorem co_stampOf (w:World)(b:Nat)(c:PCo)(D:CoD)(hb:Blk w b 258 (coC c D))(hn:c.now≤4611686018427387904):
  Calls Tryz.prog 136 #[.pointer (some ⟨b,0,none⟩)] w fun e w'=>e=.returned (.int .u64 c.stampOf)∧w'=w:=by
 have c1:=hb.c 16;have c2:=hb.c 17;have lt:=hb.lt;unfold PCo.stampOf;generalize c.now=n at *
 generalize c.writing=k at *
 have hw:IntKind.u64.wrap ((n:Int)+1)=((n+1:Nat):Int):=by rw[IntKind.wrap_u64];omega
 cases k
 ·rw[if_neg (by simp)]
  go_enter Tryz.func136,Tryz.ntmps136;go_wp2;go_ret;exact⟨rfl,rfl⟩
 ·rw[if_pos rfl];go_enter Tryz.func136,Tryz.ntmps136;go_wp2;go_ret;exact⟨rfl,rfl⟩
theorem co_writingOf (w:World)(b:Nat)(c:PCo)(D:CoD)(hb:Blk w b 258 (coC c D)):
  Calls Tryz.prog 144 #[.pointer (some ⟨b,0,none⟩)] w fun e w'=>e=.returned (.bool c.isWriting)∧w'=w:=by
 have HQ:=h_ (co_endOf w b c D hb);have c2:=hb.c 17;have lt:=hb.lt;unfold PCo.isWriting;generalize c.rule.fin=n at *
 generalize c.writing=k at *
 cases k
 ·rw[Bool.false_and];go_enter Tryz.func144,Tryz.ntmps144;go_wp2;go_ret;exact⟨rfl,rfl⟩
 ·rw[Bool.true_and];have e:(n==0)=((n:Int)==0):=by
   by_cases h:n=0
   ·subst h;rfl
   ·have h2:¬(n:Int)=0:=by omega
    rw[beq_eq_false_iff_ne.2 h,beq_eq_false_iff_ne.2 h2]
  rw[e];go_enter Tryz.func144,Tryz.ntmps144;go_wp2_with (go_at_call 145;refine(HQ.o).mono ?_;rintro e w1 ⟨rfl,rfl⟩);go_ret;exact⟨rfl,rfl⟩
theorem ex_stampOf (w:World)(b:Nat)(x:PEx)(A:Option Addr)(c:Nat)(hb:Blk w b 285 (exC x A c)):
  Calls Tryz.prog 166 #[.pointer (some ⟨b,0,none⟩)] w fun e w'=>e=.returned (.int .u64 ((if x.rule.fin=2 then x.stamp else 0:Nat):Int))∧w'=w:=by
 have HQ:=h_ (ex_endOf w b x A c hb);have c2:=hb.c 8;have lt:=hb.lt;generalize x.rule.fin=n at *
 generalize x.stamp=k at *
 by_cases h:n=2
 ·subst h;rw[if_pos rfl];go_enter Tryz.func166,Tryz.ntmps166;go_wp2_with (go_at_call 199;refine(HQ.o).mono ?_;rintro e w1 ⟨rfl,rfl⟩);go_ret;exact⟨rfl,rfl⟩
 ·rw[if_neg h];have d:((n:Int) != 2)=true:=by simp;omega
  go_enter Tryz.func166,Tryz.ntmps166;go_wp2_with (go_at_call 199;refine(HQ.o).mono ?_;rintro e w1 ⟨rfl,rfl⟩);go_ret;exact⟨rfl,rfl⟩
theorem fe_wordOf (w:World)(b:Nat)(x:PFe)(hb:Blk w b 283 (feC x)):
  Calls Tryz.prog 198 #[.pointer (some ⟨b,0,none⟩)] w fun e w'=>e=.returned (.int .u64 ((if x.rule.fin=2 then x.word else 0:Nat):Int))∧w'=w:=by
 have HQ:=h_ (fe_endOf w b x hb);have c2:=hb.c 12;have lt:=hb.lt;generalize x.rule.fin=n at *
 generalize x.word=k at *
 by_cases h:n=2
 ·subst h;rw[if_pos rfl];go_enter Tryz.func198,Tryz.ntmps198;go_wp2_with (go_at_call 194;refine(HQ.o).mono ?_;rintro e w1 ⟨rfl,rfl⟩);go_ret;exact⟨rfl,rfl⟩
 ·rw[if_neg h];have d:((n:Int) != 2)=true:=by simp;omega
  go_enter Tryz.func198,Tryz.ntmps198;go_wp2_with (go_at_call 194;refine(HQ.o).mono ?_;rintro e w1 ⟨rfl,rfl⟩);go_ret;exact⟨rfl,rfl⟩
theorem fe_seenOf (w:World)(b:Nat)(x:PFe)(hb:Blk w b 283 (feC x)):
  Calls Tryz.prog 196 #[.pointer (some ⟨b,0,none⟩)] w fun e w'=>e=.returned (.agg #[.int .i64 ((if x.rule.fin=2 then x.stripe else 0:Nat):Int),.int .u64 ((if x.rule.fin=2 then x.lock.ver else 0:Nat):Int)])∧Only Nob w w':=by
 have HQ:Hid (∀w1,Only Nob w w1→Calls Tryz.prog 194 #[.pointer (some ⟨b,0,none⟩)] w1 fun e w'=>e=.returned (.int .i64 x.rule.fin)∧w'=w1):=h_ (fun w1 ho=>fe_endOf w1 b x (hb.only ho (fun h=>h)))
 have c1:=hb.c 6;have c2:=hb.c 9;have lt:=hb.lt;have lt1:b<w.heap.size+1:=by omega
 generalize x.rule.fin=n at *
 generalize x.stripe=k at *
 generalize x.lock.ver=v at *
 by_cases h:n=2
 ·subst h;rw[if_pos rfl,if_pos rfl];go_enter Tryz.func196,Tryz.ntmps196;go_wp2_with (go_at_call 194;refine(HQ.o _ ((Only.refl _ _).alloc _)).mono ?_;rintro e w1 ⟨rfl,rfl⟩);refine rT 10 ?_;simp only[sD,sE,sF,sG];repeat still_step
  refine wpStill_nil ?_;go_wp2;refine bodyPost_ret (v:=.agg #[.int .i64 k,.int .u64 v]) (by simp[results,Tryz.results196,go_sem]) rfl ⟨rfl,?_⟩
  repeat' (first|exact Only.refl _ _|(with_reducible first|refine Only.setCell ?_ ?_ _|refine Only.alloc ?_ _|refine Only.drew ?_))
 ·rw[if_neg h,if_neg h];have d:((n:Int) != 2)=true:=by simp;omega
  go_enter Tryz.func196,Tryz.ntmps196;go_wp2_with (go_at_call 194;refine(HQ.o _ ((Only.refl _ _).alloc _)).mono ?_;rintro e w1 ⟨rfl,rfl⟩);refine bodyPost_ret (v:=.agg #[.int .i64 0,.int .u64 0]) (by simp[results,Tryz.results196,go_sem]) rfl ⟨rfl,?_⟩
  repeat' (first|exact Only.refl _ _|(with_reducible first|refine Only.setCell ?_ ?_ _|refine Only.alloc ?_ _|refine Only.drew ?_))
theorem ip_err (ω w:World)(F:HP)(b vb:Nat)(x:PIt)(v:PVw)(h:Sat ω w (itH b vb x v*F)):
  Calls Tryz.prog 156 #[.pointer (some ⟨b,0,none⟩)] w fun e w'=>e=.returned (.int .i64 x.err)∧w'=w:=by
 obtain⟨D,hD,hx⟩:=itH_of h;have hb:=hx.assoc.blk;have c1:w.cell? ⟨b,4,none⟩=some (.int .i64 x.err):=by rw[hb.cell,itC_pre x D 4 (by omega)];rfl
 have lt:=hb.lt;generalize x.err=k at *
 clear h hx hb;go_enter Tryz.func156,Tryz.ntmps156;go_wp2;go_ret;exact⟨rfl,rfl⟩
theorem ip_slate (ω w:World)(F:HP)(b vb:Nat)(x:PIt)(v:PVw)(h:Sat ω w (itH b vb x v*F))(hr:x.regs.length=8)(hl:x.out.length≤1000):
  Calls Tryz.prog 138 #[.pointer (some ⟨b,0,none⟩)] w (RetP ω (itH b vb x v*F) fun g=>slH g x.out):=by
 obtain⟨D,hD,hx⟩:=itH_of h;have hb:=hx.assoc.blk;have c1:w.cell? ⟨b,14,none⟩=some (.pointer (some ⟨D.sb,0,none⟩)):=by rw[hb.cell,show(14:Nat)=14+0 from rfl,itC_post x D 0 hr (by omega)];rfl
 have lt:=hb.lt;obtain⟨REST,hREST⟩:∃REST,REST=bk b 245 (itC x D)*(row 87 5 (.slice D.pA x.code.length D.pc) x.code.length (x.code.flatMap insV)*(row 3 1 (.slice D.mA (matchP x.code).length D.mc) (matchP x.code).length ((matchP x.code).map (Value.int .i64))*(row 346 11 (.slice D.oA x.opens.length D.oc) x.opens.length (x.opens.flatMap ptV)*(vwH vb v*F)))):=⟨_,rfl⟩;have HS:Hid (Sat ω w (slH D.sb x.out*REST)):=h_ (by rw[hREST];exact hx.perm (by unfold itX;ac_rfl))
 have HC:Hid (Calls Tryz.prog 168 #[.pointer (some ⟨D.sb,0,none⟩)] w (RetP ω (slH D.sb x.out*REST) fun g=>slH g x.out)):=h_ (sl_copy ω w REST D.sb x.out HS.o hl)
 have HB:Hid (∀w1 P,Sat ω w1 (P*(slH D.sb x.out*REST))→Sat ω w1 (P*(itH b vb x v*F))):=h_ (fun w1 P h1=>by
  rw[hREST] at h1;have h2:Sat ω w1 (itX b x D*(vwH vb v*(P*F))):=h1.perm (by unfold itX;ac_rfl)
  exact(itH_to hD h2).swap)
 generalize slH D.sb x.out*REST=G at *
 generalize D.sb=sb at *
 clear h hx hb hREST;go_enter Tryz.func138,Tryz.ntmps138;go_wp2_with (go_at_call 168;refine(HC.o).mono ?_;rintro e w1 ⟨g,rfl,hs⟩;have HZ:=h_ hs;clear hs);go_ret;exact⟨_,rfl,HB.o _ _ HZ.o⟩
section
section
variable {ω w : World} {F : HP} {b : Nat} {s : PSt} {x : PAt} {D : AtD}
theorem at_vw (h:Sat ω w (atX b s x D*F)):∃G,Sat ω w (vwH D.vb x.v*G)∧∀w' P v',Sat ω w' (P*(vwH D.vb v'*G))→Sat ω w' (P*(atX b s { x with v:=v' } D*F)):=by
 unfold atX at h;have h1:Sat ω w (itH D.rb D.vb x.run x.v*(bk b 198 (atC s x D)*(rdH D.db x.reads*(inH D x.inner*F)))):=h.perm (by ac_rfl)
 obtain⟨ID,hID,hx⟩:=itH_of h1;refine⟨_,hx.swap,fun w' P v' h2=>?_⟩
 have h3:=itH_to hID (h2.perm (by ac_rfl:_=itX D.rb x.run ID*(vwH D.vb v'*(bk b 198 (atC s x D)*(rdH D.db x.reads*(inH D x.inner*F))*P))))
 unfold atX;exact h3.perm (by ac_rfl)
theorem at_rd (h:Sat ω w (atX b s x D*F)):∃G,Sat ω w (rdH D.db x.reads*G)∧∀w' P l,Sat ω w' (P*(rdH D.db l*G))→Sat ω w' (P*(atX b s { x with reads:=l } D*F)):=by
 unfold atX at h;refine⟨bk b 198 (atC s x D)*(itH D.rb D.vb x.run x.v*(inH D x.inner*F)),h.perm (by ac_rfl),fun w' P l h2=>?_⟩
 unfold atX;exact h2.perm (by ac_rfl)
theorem at_it (h:Sat ω w (atX b s x D*F)):∃G,Sat ω w (itH D.rb D.vb x.run x.v*G)∧∀w' P r v',Sat ω w' (P*(itH D.rb D.vb r v'*G))→Sat ω w' (P*(atX b s { x with run:=r,v:=v' } D*F)):=by
 unfold atX at h;refine⟨bk b 198 (atC s x D)*(rdH D.db x.reads*(inH D x.inner*F)),h.perm (by ac_rfl),fun w' P r v' h2=>?_⟩
 unfold atX;exact h2.perm (by ac_rfl)
theorem at_put1 {y:PAt}(h:Sat ω w (atH b s x*F))(i:Nat)(u:Value)(e:∀D,(atC s x D).setIfInBounds i u=atC s y D)(h1:y.run=x.run)(h2:y.v=x.v)(h3:y.reads=x.reads)(h4:y.inner=x.inner):Sat ω (w.setCell ⟨b,i,none⟩ u) (atH b s y*F):=by
 obtain⟨D,hx⟩:=atH_of h;unfold atX at hx;refine atH_to (D:=D) ?_;unfold atX;rw[h1,h2,h3,h4];exact(hx.assoc.put i u (e D)).assoc'
end
theorem at_seen (ω w:World)(F:HP)(b:Nat)(s:PSt)(x:PAt)(h:Sat ω w (atH b s x*F))(hl:x.reads.length≤1000):
  Calls Tryz.prog 67 #[.pointer (some ⟨b,0,none⟩)] w (RetR ω (atH b s x*F) 148 2 x.reads.length (vS x.reads)):=by
 obtain⟨D,hx⟩:=atH_of h;have hb:=atX_blk hx;have c1:w.cell? ⟨b,13,none⟩=some (.pointer (some ⟨D.db,0,none⟩)):=hb.cell 13;have lt:=hb.lt;obtain⟨G,h1,h2⟩:=at_rd hx;have HA:=h_ (rd_all ω w G D.db x.reads h1 hl);have HB:Hid (∀w' P,Sat ω w' (P*(rdH D.db x.reads*G))→Sat ω w' (P*(atH b s x*F))):=h_ (fun w' P h3=>(atH_to (D:=D) ((h2 w' P x.reads h3).swap)).swap)
 generalize x.reads=l at *
 generalize D.db=db at *
 go_enter Tryz.func67,Tryz.ntmps67;go_wp2_with (go_at_call 105;refine(HA.o).mono ?_;rintro e w1 ⟨A,c,rfl,hs⟩;have HZ:=h_ hs);go_ret;exact⟨_,_,rfl,HB.o _ _ HZ.o⟩
theorem at_reads (ω w:World)(F:HP)(b:Nat)(s:PSt)(x:PAt)(h:Sat ω w (atH b s x*F))(hv:x.v.ok):
  Calls Tryz.prog 109 #[.pointer (some ⟨b,0,none⟩)] w (RetR ω (atH b s x*F) 54 2 x.v.known.length (vS x.v.known)):=by
 obtain⟨D,hx⟩:=atH_of h;have hb:=atX_blk hx;have c1:w.cell? ⟨b,12,none⟩=some (.pointer (some ⟨D.vb,0,none⟩)):=hb.cell 12;have lt:=hb.lt;obtain⟨G,h1,h2⟩:=at_vw hx;have HA:=h_ (vw_known ω w G D.vb x.v h1 hv);have HB:Hid (∀w' P,Sat ω w' (P*(vwH D.vb x.v*G))→Sat ω w' (P*(atH b s x*F))):=h_ (fun w' P h3=>(atH_to (D:=D) ((h2 w' P x.v h3).swap)).swap)
 generalize x.v.known=l at *
 generalize vwH D.vb x.v*G=GG at *
 generalize D.vb=db at *
 go_enter Tryz.func109,Tryz.ntmps109;go_wp2_with (go_at_call 146;refine(HA.o).mono ?_;rintro e w1 ⟨A,c,rfl,hs⟩;have HZ:=h_ hs);go_ret;exact⟨_,_,rfl,HB.o _ _ HZ.o⟩
theorem at_co {ω w:World}{F:HP}{b:Nat}{s:PSt}{x:PAt}{D:AtD}(h:Sat ω w (atX b s x D*F)):(∃c cb CD,x.inner=.commit c∧D.cp=pV cb∧Blk w cb 258 (coC c CD))∨((∀c,x.inner≠.commit c)∧D.cp=.pointer none):=by
 unfold atX at h;have h1:Sat ω w (inH D x.inner*(bk b 198 (atC s x D)*(itH D.rb D.vb x.run x.v*(rdH D.db x.reads*F)))):=h.perm (by ac_rfl)
 cases hi:x.inner with
 |none =>
  rw[hi] at h1;exact .inr ⟨by simp,h1.of_fact.1⟩
 |fetch f =>
  rw[hi] at h1;obtain⟨fb,h1⟩:=h1.of_ex;exact .inr ⟨by simp,h1.assoc.of_fact.1.2.2⟩
 |extend f =>
  rw[hi] at h1;obtain⟨fb,h1⟩:=h1.of_ex;exact .inr ⟨by simp,h1.assoc.of_fact.1.2.2⟩
 |commit c =>
  rw[hi] at h1;obtain⟨cb,h1⟩:=h1.of_ex;obtain⟨h2,h3⟩:=h1.assoc.of_fact;obtain⟨CD,hb⟩:=coH_of h3;exact .inl ⟨c,cb,CD,rfl,h2.2,hb⟩
theorem writing_co {x:PAt}{c:PCo}(hi:x.inner=.commit c):x.writing=(x.state != 8&&(c.isWriting||c.rule.fin==2)):=by
 unfold PAt.writing;rw[hi]
theorem writing_no {x:PAt}(hn:∀c,x.inner≠.commit c):x.writing=false:=by
 unfold PAt.writing;cases hi:x.inner with
 |commit c=>exact absurd hi (hn c)
 |_=>simp
theorem writing_8 {x:PAt}(h:x.state=8):x.writing=false:=by
 unfold PAt.writing;rw[h];rfl
theorem at_writing (ω w:World)(F:HP)(b:Nat)(s:PSt)(x:PAt)(h:Sat ω w (atH b s x*F)):
  Calls Tryz.prog 108 #[.pointer (some ⟨b,0,none⟩)] w fun e w'=>e=.returned (.bool x.writing)∧w'=w:=by
 obtain⟨D,hx⟩:=atH_of h;have hb:=atX_blk hx;have c1:=hb.c 14;have c2:w.cell? ⟨b,18,none⟩=some D.cp:=hb.cell 18;have lt:=hb.lt;have hco:=at_co hx;by_cases h8:x.state=8
 ·rw[writing_8 h8];rw[h8] at c1;go_enter Tryz.func108,Tryz.ntmps108;go_wp2;go_ret;exact⟨rfl,rfl⟩
 ·have d:((x.state:Int) != 8)=true:=by simp;omega
  rcases hco with⟨c,cb,CD,hi,hcp,hcb⟩|⟨hn,hcp⟩
  ·rw[writing_co hi,show(x.state != 8)=true by simpa using h8,Bool.true_and]
   generalize x.state=k at *
   have HW:=h_ (co_writingOf w cb c CD hcb);have HE:=h_ (co_endOf w cb c CD hcb);rw[hcp] at c2;unfold pV at c2;have e2:(c.rule.fin==2)=((c.rule.fin:Int)==2):=by
    by_cases h9:c.rule.fin=2
    ·rw[h9];rfl
    ·have h10:¬(c.rule.fin:Int)=2:=by omega
     rw[beq_eq_false_iff_ne.2 h9,beq_eq_false_iff_ne.2 h10]
   rw[e2];generalize c.rule.fin=fin at *
   generalize c.isWriting=wr at *
   cases wr
   ·rw[Bool.false_or];go_enter Tryz.func108,Tryz.ntmps108;go_wp2_with (first
     |(go_at_call 144;refine(HW.o).mono ?_;rintro e w1 ⟨rfl,rfl⟩)
     |(go_at_call 145;refine(HE.o).mono ?_;rintro e w1 ⟨rfl,rfl⟩))
    go_ret;exact⟨rfl,rfl⟩
   ·rw[Bool.true_or];go_enter Tryz.func108,Tryz.ntmps108;go_wp2_with (first
     |(go_at_call 144;refine(HW.o).mono ?_;rintro e w1 ⟨rfl,rfl⟩)
     |(go_at_call 145;refine(HE.o).mono ?_;rintro e w1 ⟨rfl,rfl⟩))
    go_ret;exact⟨rfl,rfl⟩
  ·rw[writing_no hn];generalize x.state=k at *
   rw[hcp] at c2;go_enter Tryz.func108,Tryz.ntmps108;go_wp2;go_ret;exact⟨rfl,rfl⟩
theorem at_committed (ω w:World)(F:HP)(b:Nat)(s:PSt)(x:PAt)(h:Sat ω w (atH b s x*F)):
  Calls Tryz.prog 137 #[.pointer (some ⟨b,0,none⟩)] w fun e w'=>e=.returned (.bool x.committed)∧w'=w:=by
 have HW:=h_ (at_writing ω w F b s x h);have HE:=h_ (at_end ω w F b s x h);unfold PAt.committed;have e2:(x.finOf==2)=((x.finOf:Int)==2):=by
  by_cases h9:x.finOf=2
  ·rw[h9];rfl
  ·have h10:¬(x.finOf:Int)=2:=by omega
   rw[beq_eq_false_iff_ne.2 h9,beq_eq_false_iff_ne.2 h10]
 rw[e2];generalize x.finOf=fin at *
 generalize x.writing=wr at *
 obtain⟨d,hd⟩:∃d,((fin:Int)==2)=d:=⟨_,rfl⟩;rw[hd];cases d
 ·rw[Bool.false_or];go_enter Tryz.func137,Tryz.ntmps137;go_wp2_with (first
   |(go_at_call 108;refine(HW.o).mono ?_;rintro e w1 ⟨rfl,rfl⟩)
   |(go_at_call 63;refine(HE.o).mono ?_;rintro e w1 ⟨rfl,rfl⟩))
  go_ret;exact⟨rfl,rfl⟩
 ·rw[Bool.true_or];go_enter Tryz.func137,Tryz.ntmps137;go_wp2_with (first
   |(go_at_call 108;refine(HW.o).mono ?_;rintro e w1 ⟨rfl,rfl⟩)
   |(go_at_call 63;refine(HE.o).mono ?_;rintro e w1 ⟨rfl,rfl⟩))
  go_ret;exact⟨rfl,rfl⟩
end
end Go.Proofs.YtfodmgaliclhfaaGreatDoor

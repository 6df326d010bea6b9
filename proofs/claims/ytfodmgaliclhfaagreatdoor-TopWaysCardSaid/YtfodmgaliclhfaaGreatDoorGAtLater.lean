/- Lemmas. -/
import Derived.Test.YtfodmgaliclhfaaGreatDoorGSlS
import Derived.Test.YtfodmgaliclhfaaGreatDoorGPlain
import Derived.Test.YtfodmgaliclhfaaGreatDoorGOkD
import Derived.Deep.RegionLaw
import Derived.OneCell
import Derived.Outline
import Derived.KernelRfl
import Derived.Test.YtfodmgaliclhfaaGreatDoorShelf
import Derived.Lib.AppendIntMem
import Derived.Lib.LaidTab
import Derived.Lib.SmallJoins
import Derived.Shelf.Abstract
import Derived.Deep.OwnRows
import Derived.Test.YtfodmgaliclhfaaGreatDoorGWrTake
import Derived.Deep.RegionHeld3
import Derived.Deep.RegionHeld2
namespace Go.Proofs.YtfodmgaliclhfaaGreatDoor
set_option linter.unusedVariables false
set_option linter.unusedSimpArgs false
set_option maxRecDepth 100000
set_option maxHeartbeats 8000000
open Go.RowKit Go.Proofs.Tryz Iq Jq
section
variable (ω w : World) (F : HP)
theorem Mg (ω w:World)(F:HP)(b:Nat)(l:List Itm)(h:Sat ω w (slH b l*F))(hl:l.length≤1000)(n:Nat):
  Calls prog 212 #[.pointer b,υ n] w (Rets ω F (.bool (decide (l.length<16))) (slH b (if l.length<16 then l++[.num n] else l))):=by
 have HA:Hid (Calls prog 232 #[.pointer b,.iface 22 (υ n)] w (Rets ω F (.bool (decide (l.length<16))) (slH b (if l.length<16 then l++[.num n] else l)))):=h_ (TZ ω w F b l h hl (.num n))
 generalize (if l.length<16 then l++[Itm.num n] else l)=r at *
 generalize decide (l.length<16)=d at *
 clear h hl;go_enter func212,ntmps212;go_wp2_with (go_at_call 232;refine(HA.o).mono ?_;rintro e w1 ⟨rfl,hx⟩;have HS:=h_ hx;clear hx);go_ret;exact⟨rfl,HS.o⟩
theorem IZ (l:List Itm):∀u∈l.map itV,u.oneCell'=true:=by
 intro u hu;obtain⟨x,_,rfl⟩:=List.mem_map.1 hu;exact SM x
theorem Rp (ω w:World)(F:HP)(b:Nat)(l:List Itm)(h:Sat ω w (slH b l*F))(hl:l.length≤1000):
  Calls prog 168 #[.pointer b] w (RetP ω (slH b l*F) fun g=>slH g l):=by
 obtain⟨A,c,h⟩:=ET h;have c1:=h.blk.c 0;have lt:=h.blk.lt;have HX:=h_ (JF ω w _ A l.length c (l.map itV) h.swap (by omega) (IZ l))
 have HF:Hid (∀w1 A' c',Sat ω w1 (row 20 1 (.slice A' l.length c') l.length (l.map itV)*(row 20 1 (.slice A l.length c) l.length (l.map itV)*(bk b 262 #[.slice A l.length c]*F)))→Sat ω (w1.alloc (.cells #[.slice A' l.length c'] 262)) (slH w1.heap.size l*(slH b l*F))):=h_ (fun w1 A' c' h1=>by
  have h2:=(h1.bkNew (t:=262) (cs:=#[.slice A' l.length c']) rfl);have h3:=ES h2;have h4:Sat ω _ (bk b 262 #[.slice A l.length c]*(row 20 1 (.slice A l.length c) l.length (l.map itV)*(slH w1.heap.size l*F))):=h3.perm (by ac_rfl)
  exact(ES h4).swap)
 generalize l.length=N at *
 clear h;go_enter func168,ntmps168;go_wp2_with (go_at_call 201;refine(HX.o).mono ?_;rintro e w1 ⟨A',c',rfl,hs⟩;have HS:=h_ hs;clear hs);go_ret;exact⟨_,rfl,HF.o _ _ _ HS.o⟩
theorem TY (b:Nat)(l:List Itm)(h:Sat ω w (slH b l*F))(hl:l.length≤1000)(n:Nat)(hn:n≤l.length):
  Calls prog 322 #[.pointer b,n] w (fun e w'=>e=.returned (.tuple #[])∧Sat ω w' (slH b (l.take n)*F)):=by
 obtain⟨A,c,h⟩:=ET h;have c1:=h.blk.c 0;have lt:=h.blk.lt;have fz:=h.blk.frozen;have hk:(l.take n).length=n:=by rw[List.length_take];omega
 have HR:Hid (Sat ω w (row 20 1 (.slice A n c) n ((l.take n).map itV)*(bk b 262 #[.slice A l.length c]*F))∧n≤c):=h_ (by
  rcases h.right.cases with⟨h1,h2,h3,_⟩|⟨g,cap,cur,h1,h2,_⟩
  ·injection h1 with h1a _ h1c
   subst h1a h1c;have hn0:n=0:=by omega
   subst hn0;refine⟨?_,by omega⟩
   rw[List.take_zero];exact((h.swap).right).nil _ _
  ·injection h1 with h1a _ h1c
   subst h1a h1c;refine⟨?_,by omega⟩
   have h5:=h.swap.rowCut (m:=n) hn;rw[Nat.mul_one,←List.map_take] at h5;exact h5)
 obtain⟨hr1,hr2⟩:=HR.o;have HX:Hid (∀q,Calls prog 201 #[.slice A n c] (w.drewN q) (RetR ω (row 20 1 (.slice A n c) n ((l.take n).map itV)*(bk b 262 #[.slice A l.length c]*F)) 20 1 n ((l.take n).map itV))):=h_ (fun q=>JF ω _ _ A n c _ (hr1.drewN q) (by omega) (IZ _))
 have HO:Hid (∀w1 A' c',Sat ω w1 (row 20 1 (.slice A' n c') n ((l.take n).map itV)*(row 20 1 (.slice A n c) n ((l.take n).map itV)*(bk b 262 #[.slice A l.length c]*F)))→(∃u,w1.cell? b=some u)∧b<w1.heap.size∧(∀j,w1.frozen? (κ b j)=false)∧Sat ω (w1.setCell b (.slice A' n c')) (slH b (l.take n)*F)):=h_ (fun w1 A' c' h1=>by
  have h2:Sat ω w1 (bk b 262 #[.slice A l.length c]*(row 20 1 (.slice A n c) n ((l.take n).map itV)*(row 20 1 (.slice A' n c') n ((l.take n).map itV)*F))):=h1.perm (by ac_rfl)
  refine⟨⟨_,h2.blk.cell 0⟩,h2.blk.lt,h2.blk.frozen,?_⟩;have h3:=(h2.put 0 (.slice A' n c') (cs':=#[.slice A' n c']) rfl).swap.right;refine ES (A:=A') (c:=c') ?_;rw[hk];exact h3)
 obtain⟨N,hN⟩:∃N,l.length=N:=⟨_,rfl⟩;rw[hN] at c1 hn hl;have e1:max (0:Int) (min (n:Int) (N:Int))=(n:Int):=by omega
 have e2:min (n:Int) (N:Int)=(n:Int):=by omega
 have e3:max (0:Int) (n:Int)=(n:Int):=by omega
 clear h hr1 HR hk hN;go_enter func322,ntmps322;refine wp_region_any (by kernel_rfl) ?_
 try (change wpAny _ _ _ _ _ _ _ (World.drew _))
 refine tF 0 ?_ rfl ?_ (tF 1 ?_ rfl ?_ (tF 5 ?_ rfl ?_ (tF 6 ?_ rfl ?_ (tF 2 ?_ rfl ?_ (tF 7 ?_ rfl ?_ (tF 3 ?_ rfl ?_ (tF 8 ?_ rfl ?_ ?_)))))));all_goals (try (
  intro w;go_simp<;>(try with_reducible rfl)))
 refine rF [4,9] ?_;refine AllReady.cons rfl (fun K hK=>?_) ?_
 ·go_simp;refine hK _ _ ?_;clear hK K;refine oF 9 rfl fun K hK=>?_
  go_simp;refine hK _ _ ?_;clear hK K;refine tF 10 ?_ rfl ?_ (tF 11 ?_ rfl ?_ (tF 12 ?_ rfl ?_ ?_));all_goals (try (
   intro w;go_simp<;>(try with_reducible rfl)))
  refine oF 13 rfl fun K hK=>?_
  go_simp;refine hK _ _ ?_;clear hK K;refine oF 14 rfl fun K hK=>?_
  go_simp;go_at_call 201;refine(HX.o 1).mono ?_;rintro e w1 ⟨A',c',rfl,hs⟩;obtain⟨⟨u,y1⟩,y2,y3,y4⟩:=HO.o _ _ _ hs;have HS:=h_ y4;clear hs y4;refine hK _ _ ?_;clear hK K;refine tF 15 ?_ rfl ?_ (tF 16 ?_ rfl ?_ ?_);all_goals (try (
   intro w;go_simp<;>(try with_reducible rfl)))
  refine oF 17 rfl fun K hK=>?_
  go_simp;refine hK _ _ ?_;clear hK K;refine dF ?_;go_end0;exact⟨rfl,HS.o⟩
 refine nF rfl fun K hK=>?_
 ·go_simp;refine hK _ _ ?_;clear hK K;refine tF 10 ?_ rfl ?_ (tF 11 ?_ rfl ?_ (tF 12 ?_ rfl ?_ ?_));all_goals (try (
   intro w;go_simp<;>(try with_reducible rfl)))
  refine oF 4 rfl fun K hK=>?_
  go_simp;refine hK _ _ ?_;clear hK K;refine oF 13 rfl fun K hK=>?_
  go_simp;refine hK _ _ ?_;clear hK K;refine oF 14 rfl fun K hK=>?_
  go_simp;go_at_call 201;refine(HX.o 1).mono ?_;rintro e w1 ⟨A',c',rfl,hs⟩;obtain⟨⟨u,y1⟩,y2,y3,y4⟩:=HO.o _ _ _ hs;have HS:=h_ y4;clear hs y4;refine hK _ _ ?_;clear hK K;refine tF 15 ?_ rfl ?_ (tF 16 ?_ rfl ?_ ?_);all_goals (try (
   intro w;go_simp<;>(try with_reducible rfl)))
  refine oF 17 rfl fun K hK=>?_
  go_simp;refine hK _ _ ?_;clear hK K;refine dF ?_;go_end0;exact⟨rfl,HS.o⟩
end
def insV (x:PIns):List Value:=[.int .i64 x.op,.int .i64 x.a,.int .i64 x.b,.int .i64 x.c,.int .u64 x.n]
def ptV (p:PPt):List Value:=[.int .i64 p.op,.int .i64 p.at_]++p.regs.map (fun(r:Nat)=>Value.int .u64 r)++[.int .i64 p.told]
structure ItD where
 pA:Option Addr
 pc:Nat
 mA:Option Addr
 mc:Nat
 oA:Option Addr
 oc:Nat
 vb:Nat
 sb:Nat
def itC (x:PIt)(D:ItD):Array Value :=
 (([.slice D.pA x.code.length D.pc,pV D.vb,.slice D.mA (matchP x.code).length D.mc,.int .i64 0,.int .i64 x.err,.int .i64 x.fin]:List Value)++x.regs.map (fun(r:Nat)=>Value.int .u64 r) ++
  [pV D.sb,.int .i64 x.at_,.int .i64 x.next,.int .i64 x.left,.slice D.oA x.opens.length D.oc]).toArray
def itX (b:Nat)(x:PIt)(D:ItD):HP:=bk b 245 (itC x D)*(row 87 5 (.slice D.pA x.code.length D.pc) x.code.length (x.code.flatMap insV)*(row 3 1 (.slice D.mA (matchP x.code).length D.mc) (matchP x.code).length ((matchP x.code).map (Value.int .i64))*(row 346 11 (.slice D.oA x.opens.length D.oc) x.opens.length (x.opens.flatMap ptV)*slH D.sb x.out)))
def itH (b:Nat)(vb:Nat)(x:PIt)(v:PVw):HP:=ex fun D=>fact (D.vb=vb)*(itX b x D*vwH vb v)
theorem AR (x:PIt)(D:ItD)(k:Nat)(hk:k<6):(itC x D)[k]?=([.slice D.pA x.code.length D.pc,pV D.vb,.slice D.mA (matchP x.code).length D.mc,.int .i64 0,.int .i64 x.err,.int .i64 x.fin]:List Value)[k]?:=by
 unfold itC;rw[List.getElem?_toArray,List.append_assoc,List.getElem?_append_left (by simpa using hk)]
theorem CI (x:PIt)(D:ItD)(k:Nat)(h:x.regs.length=8)(hk:k<8):(itC x D)[6+k]?=some (.int .u64 ((x.regs.getD k 0:Nat):Int)):=by
 unfold itC;rw[List.getElem?_toArray,List.append_assoc,List.getElem?_append_right (by simp),List.getElem?_append_left (by simp;omega)]
 simp[List.getElem?_eq_getElem (show k<x.regs.length by omega)]
theorem AN (x:PIt)(D:ItD)(k:Nat)(h:x.regs.length=8)(hk:k<5):(itC x D)[14+k]?=([pV D.sb,.int .i64 x.at_,.int .i64 x.next,.int .i64 x.left,.slice D.oA x.opens.length D.oc]:List Value)[k]?:=by
 unfold itC;rw[List.getElem?_toArray,List.getElem?_append_right (by simp[h])]
 congr 1
 simp[h]
theorem Fp (w:World)(base:Nat)(off:Int)(h1 : -100000≤off)(h2:off≤100000):
  Calls prog 247 #[υ base,off] w fun e w'=>e=.returned (.tuple #[((placeP base off).1:Int),((placeP base off).2:Int)])∧w'=w:=by
 obtain⟨r,hr⟩:∃r,placeP base off=r:=⟨_,rfl⟩;have hR:=hr;unfold placeP at hR;rw[hr];clear hr;obtain⟨B,hB⟩:∃B:Int,(base:Int)=B:=⟨_,rfl⟩;have hB0:0≤B:=by omega
 rw[hB];by_cases c1:2147483648≤B
 ·rw[if_pos (by omega)] at hR
  subst hR;go_enter func247,ntmps247;go_wp2;go_ret2;exact⟨rfl,rfl⟩
 ·have c1':B<2147483648:=by omega
  by_cases c2:2147483648≤B+off
  ·rw[if_pos (by omega)] at hR
   subst hR;go_enter func247,ntmps247;go_wp2;go_ret2;exact⟨rfl,rfl⟩
  ·by_cases c3:B+off<6
   ·rw[if_pos (by omega)] at hR
    subst hR;go_enter func247,ntmps247;go_wp2;go_ret2;exact⟨rfl,rfl⟩
   ·rw[if_neg (by omega)] at hR
    have e:(((base:Int)+off).toNat:Int)=B+off:=by omega
    obtain⟨ra,rb⟩:=r;injection hR with ha hb
    subst hb;have ea:(ra:Int)=B+off:=by rw[←ha];exact e
    rw[ea];clear ha e ea hB;go_enter func247,ntmps247;go_wp2;go_ret2;exact⟨rfl,rfl⟩
theorem AL {ω w:World}{F:HP}{b vb:Nat}{x:PIt}{v:PVw}(h:Sat ω w (itH b vb x v*F)):∃D:ItD,D.vb=vb∧Sat ω w (itX b x D*(vwH vb v*F)):=by
 obtain⟨D,h⟩:=h.of_ex;obtain⟨h1,h2⟩:=h.assoc.of_fact;exact⟨D,h1,h2.assoc⟩
theorem Ae {ω w:World}{F:HP}{b vb:Nat}{x:PIt}{v:PVw}{D:ItD}(e:D.vb=vb)(h:Sat ω w (itX b x D*(vwH vb v*F))):Sat ω w (itH b vb x v*F) :=
 Sat.to_ex D ((h.assoc'.to_fact e).assoc')
theorem Bq {l:List Nat}(h:l.length=8):∃r0 r1 r2 r3 r4 r5 r6 r7,l=[r0,r1,r2,r3,r4,r5,r6,r7]:=by
 match l,h with
 | [r0,r1,r2,r3,r4,r5,r6,r7],_=>exact⟨r0,r1,r2,r3,r4,r5,r6,r7,rfl⟩
def itemV:Itm→Value
 | .num n=>.iface 22 (.int .u64 n)
 | .truth b=>.iface 4 (.bool b)
 | .nothing=>.iface 407 (.agg #[])
structure Sl (w:World) (base g:Nat) (v:Value) (l:List Itm):Prop where
 cell:Blk w g 262 #[v]
 row:w.ownsRow base 20 1 v l.length (l.map itemV)
 apart:v.ownBlock≠some g
theorem Sl.form {w:World}{base g:Nat}{v:Value}{l:List Itm}(h:Sl w base g v l):∃A cap,v=.slice A l.length cap:=by
 rcases h.row.2 with⟨h1,h2⟩|⟨g,cap,cur,hv,_⟩
 ·rw[h2];exact⟨none,0,h1⟩
 ·exact⟨_,cap,hv⟩
theorem Uy (x:Int)(W:World):(Instr.typeAssert (.iface 22 (.int .u64 x)) 20 22 true).run prog W=.ok (.tuple #[υ x,.bool true]) W:=by kernel_rfl
theorem Uw (x:Bool)(W:World):(Instr.typeAssert (.iface 4 (.bool x)) 20 22 true).run prog W=.ok (.tuple #[υ 0,.bool false]) W:=by kernel_rfl
theorem Ux (W:World):(Instr.typeAssert (.iface 407 (.agg #[])) 20 22 true).run prog W=.ok (.tuple #[υ 0,.bool false]) W:=by kernel_rfl
theorem Uu (x:Bool)(W:World):(Instr.typeAssert (.iface 4 (.bool x)) 20 4 true).run prog W=.ok (.tuple #[.bool x,.bool true]) W:=by kernel_rfl
theorem Uv (W:World):(Instr.typeAssert (.iface 407 (.agg #[])) 20 4 true).run prog W=.ok (.tuple #[.bool false,.bool false]) W:=by kernel_rfl

section
open Go.RowKit Go.Lib Go.Sort
def Pow10 (w:World):Prop:=Lib.TabIs prog w "internal/strconv.uint64pow10" .u64 Lib.pow10Tab
theorem Br:prog.globalNamed "internal/strconv.uint64pow10" = some 0:=by kernel_rfl
theorem Pow10.block {w w':World}(h:Pow10 w)(e:w'.heap[0]?=w.heap[0]?):Pow10 w':=by
 unfold Pow10 Lib.TabIs World.var? at *
 rw[Br] at *
 simp only[Option.bind_some] at *
 rw[e];exact h
theorem Pow10.lt {w:World}(h:Pow10 w):0<w.heap.size:=by
 unfold Pow10 Lib.TabIs World.var? at h;rw[Br] at h;simp only[Option.bind_some] at h;rcases Nat.lt_or_ge 0 w.heap.size with h'|h'
 ·exact h'
 ·rw[Array.getElem?_eq_none h'] at h;simp at h
theorem Pow10.only {S:Nat→Prop}{w w':World}(h:Pow10 w)(ho:Only S w w')(hn:¬S 0):Pow10 w':=h.block (ho.block _ h.lt hn)
theorem Pow10.nob {w w':World}(h:Pow10 w)(ho:Only Nob w w'):Pow10 w':=h.only ho (fun h=>h)
theorem Du (u:Nat)(hu:u<18446744073709551616)(w:World)(htab:Pow10 w):
  Calls prog 226 #[υ u,ι 10] w fun e w'=>e=.returned (.string ⟨(decDigits u).toArray⟩)∧Only Nob w w':=by
 by_cases h100:u<100
 ·go_enter func226,ntmps226;go_wp2_with (go_at_call 272;refine(Tryz.internal_strconv_small u h100 _).mono ?_;rintro e w' ⟨rfl,rfl⟩);go_ret;exact⟨rfl,Only.refl _ _⟩
 ·have hu1:1≤u:=by omega
  have hnd20:Lib.nDigits u≤20:=by have:=Lib.numDigits_eq u hu1 hu;split at this<;>omega
  have hal:prog.arrayLen 360=24:=by kernel_rfl
  have hH0:=Lib.holds_zero0 w 360 (Lib.nDigits u) (by omega)
  have hfmt:=Tryz.internal_strconv_formatBase10 w.heap.size 0 24 u (Array.replicate (Lib.nDigits u) 0) (w.alloc (.cells Lib.zeros24 360)) hH0 (by rw[Array.size_replicate];exact Lib.lt_pow_nDigits u) hu (by rw[Array.size_replicate];omega)
  rw[Array.size_replicate] at hfmt;have hsl:∀W,(Instr.sliceAt 360 (.pointer w.heap.size) none (some (.int .i64 (Lib.nDigits u:Int))) none).run prog W=.ok (.slice w.heap.size (Lib.nDigits u) 24) W:=fun W=>by
   rw[run_sliceAt_array_h W 360 ⟨w.heap.size,0,none⟩ (by simp[Program.arrayLen,Program.elem,underlying360]) .i64 (Lib.nDigits u:Int) (by omega) (by rw[hal];omega)]
   go_simp
  have HH0:=h_ hH0;have HT:=h_ htab;have HN:=h_ (fun W h=>Tryz.internal_strconv_numDigits u hu1 hu W h)
  go_enter func226,ntmps226;go_wp2_with (go_at_call 273;refine(HN.o _ (Lib.tabIs_alloc HT.o _)).mono ?_;rintro e w' ⟨rfl,rfl⟩);refine hfmt.mono ?_;rintro e w' ⟨rfl,k,v',dk,rfl,hF⟩;obtain⟨os,eo⟩:=Lib.fin_at w (.cells Lib.zeros24 360) dk k 0;have hcv:(convert 25 9 (.slice w.heap.size (Lib.nDigits u) 24)).run prog ((putRow (fun(b:UInt8)=>Value.int .u8 b.toNat) (w.alloc (.cells Lib.zeros24 360)) w.heap.size 0 dk).drewN k)
    = .ok (.string ⟨(Lib.decDigits u).toArray⟩) ((putRow (fun(b:UInt8)=>Value.int .u8 b.toNat) (w.alloc (.cells Lib.zeros24 360)) w.heap.size 0 dk).drewN k):=by
   have h:=run_convert_bytes_back (P:=prog) ((putRow (fun(b:UInt8)=>Value.int .u8 b.toNat) (w.alloc (.cells Lib.zeros24 360)) w.heap.size 0 dk).drewN k) 25 9 5 ⟨w.heap.size,0,none⟩ 24 (Lib.decDigits u) underlying25 underlying5 underlying9 (fun j hj=>by
    rw[Lib.row_is_numeral hF j hj,Lib.add_plain,World.cell?_drewN];exact cell?_putRow (fun(b:UInt8)=>Value.int .u8 b.toNat) _ w.heap.size 0 _ dk HH0.o (by rw[hF.size,Array.size_replicate]) j (by rw[hF.size];rw[Lib.decDigits_length] at hj;exact hj))
   rw[Lib.decDigits_length] at h;exact h
  have HF:=h_ hF;rw[eo] at hcv ⊢;have hO:Hid (Only Nob w (grow (w.drewN k) os)):=h_ (Only.of_new (Lib.below_grow _ w (Nat.le_refl _) k os));generalize grow (w.drewN k) os=W2 at eo hcv hO ⊢;go_wp2;go_ret;exact⟨rfl,hO.out⟩
theorem Ez (u:Nat)(hu:u<18446744073709551616)(w:World)(htab:Pow10 w):
  Calls prog 202 #[υ u,ι 10] w fun e w'=>e=.returned (.string ⟨(decDigits u).toArray⟩)∧Only Nob w w':=by
 have HC:=h_ (Du u hu w htab);go_enter func202,ntmps202;go_wp2_with (go_at_call 226;refine(HC.o).mono ?_;rintro e w2 ⟨rfl,h1⟩;have H1:=h_ h1);go_ret;exact⟨rfl,H1.o⟩
end
theorem Ga {S:Nat→Prop}{w w':World}{base:Nat}{e:TypeId}{size:Nat}{v:Value}{n:Nat}{xs:List Value}(h:w.ownsRow base e size v n xs)(ho:Only S w w')(hn:∀k,v.ownBlock=some k→¬S k):
  w'.ownsRow base e size v n xs:=by
 obtain⟨h1,h2⟩:=h;refine⟨h1,?_⟩;rcases h2 with h2|⟨g,cap,cur,hv,hb,hc,hr⟩
 ·exact .inl h2
 ·refine .inr ⟨g,cap,cur,hv,hb,?_,hr⟩;have hg:g<w.heap.size:=by
   rcases Nat.lt_or_ge g w.heap.size with h|h
   ·exact h
   ·rw[Array.getElem?_eq_none h] at hc;cases hc
  rw[ho.block g hg (hn g (by rw[hv];rfl))]
  exact hc
theorem Sl.only {S:Nat→Prop}{w w':World}{base g:Nat}{v:Value}{l:List Itm}(h:Sl w base g v l)(ho:Only S w w')(hg:¬S g)(hn:∀k,v.ownBlock=some k→¬S k):Sl w' base g v l :=
 ⟨h.cell.only ho hg,Ga h.row ho hn,h.apart⟩
theorem Sl.nob {w w':World}{base g:Nat}{v:Value}{l:List Itm}(h:Sl w base g v l)(ho:Only Nob w w'):Sl w' base g v l:=h.only ho (fun h=>h) (fun _ _ h=>h)
theorem Sl.own_lt {w:World}{base g:Nat}{v:Value}{l:List Itm}(h:Sl w base g v l){k:Nat}(hk:v.ownBlock=some k):base≤k∧k<w.heap.size:=h.row.lt k hk
theorem ON (x:Itm)(hx:x.ok)(w:World)(htab:Pow10 w):
  Calls prog 169 #[itemV x] w fun e w'=>e=.returned (.string ⟨(itmW x).toArray⟩)∧Only Nob w w':=by
 rcases x with n|b|_
 ·have HC:=h_ (Ez n (by have:n≤18446744073709551615:=hx;omega) w htab)
  have aN:=@Uy;simp only[itemV,itmW];clear hx htab;go_enter func169,ntmps169;go_wp2_with (go_at_call 202;refine(HC.o).mono ?_;rintro e w2 ⟨rfl,h1⟩;have H1:=h_ h1;clear h1);go_ret;exact⟨rfl,H1.o⟩
 ·clear hx htab;have aN:=@Uw;have aT:=@Uu;simp only[itemV];cases b
  ·go_enter func169,ntmps169;go_wp2;go_ret;exact⟨rfl,Only.refl _ _⟩
  ·go_enter func169,ntmps169;go_wp2;go_ret;exact⟨rfl,Only.refl _ _⟩
 ·clear hx htab;have aN:=@Ux;have aT:=@Uv;simp only[itemV];go_enter func169,ntmps169;go_wp2;go_ret;exact⟨rfl,Only.refl _ _⟩
section
open Go.RowKit Go.Deep
def strItm (x:Itm):Value:=.string ⟨(itmW x).toArray⟩
def wordCells (l:List Itm)(k:Nat):Array Value:=((l.take k).map strItm++List.replicate (l.length-k) (Value.string ⟨#[]⟩)).toArray
theorem Dr (l:List Itm):wordCells l 0=Array.replicate l.length (Value.string ⟨#[]⟩):=by simp[wordCells]
theorem EJ (l:List Itm)(k:Nat)(hk:k<l.length):(wordCells l k).setIfInBounds k (strItm l[k])=wordCells l (k+1):=by
 apply Array.toList_inj.1;rw[Array.toList_setIfInBounds];unfold wordCells;simp only[List.map_take];rw[List.take_add_one,List.getElem?_map,List.getElem?_eq_getElem hk];have e:l.length-k=(l.length-(k+1))+1:=by omega
 have hlen:((l.map strItm).take k).length=k:=by simp;omega
 rw[e,List.replicate_succ,List.set_append_right _ _ (by omega),hlen]
 simp
theorem GK (l:List Itm)(k:Nat)(hk:k<l.length):(wordCells l k)[k]?=some (Value.string ⟨#[]⟩):=by
 unfold wordCells;have hlen:((l.take k).map strItm).length=k:=by simp;omega
 simp only[List.getElem?_toArray];rw[List.getElem?_append_right (by omega),hlen,Nat.sub_self,List.getElem?_replicate,if_pos (by omega)]
theorem EK (l:List Itm)(j:Nat)(x:ByteArray)(h:(l.map fun x=>(⟨(itmW x).toArray⟩:ByteArray))[j]?=some x):(wordCells l l.length)[j]?=some (.string x):=by
 unfold wordCells;rw[List.take_length,Nat.sub_self];simp only[List.replicate_zero,List.append_nil,List.getElem?_toArray];rw[List.getElem?_map] at h ⊢;cases hx:l[j]? with
 |none=>rw[hx] at h;cases h
 |some y =>
  rw[hx] at h;injection h with h
  rw[←h];rfl
theorem FS (z:Value)(n:Nat):madeCells #[z] n=Array.replicate n z:=by
 apply Array.ext
 ·simp[size_madeCells]
 ·intro i h1 h2
  have:i%1=0:=Nat.mod_one i
  simp[madeCells,this]
structure TextInv (w wr:World) (base g:Nat) (v:Value) (l:List Itm) (B k:Nat):Prop where
 le:k≤l.length
 row:Blk wr B 9 (wordCells l k)
 new:w.heap.size≤B
 only:Only Nob w wr
 sl:Sl wr base g v l
 tab:Pow10 wr
theorem SY:(prog.info? 9).map (fun i=>(i.zero,i.size,i.bytes))=some (some (.string ⟨#[]⟩),1,16):=by kernel_rfl
theorem Oh (w:World)(base g:Nat)(v:Value)(l:List Itm)(h:Sl w base g v l)(hl:l.length≤1000)(hok:∀x∈l,x.ok)(htab:Pow10 w):
  Calls prog 139 #[.pointer g] w fun e w'=>e=.returned (.string ⟨(textI l).toArray⟩)∧Only Nob w w':=by
 obtain⟨A,cap,rfl⟩:=h.form;have hc:=h.cell.cell 0;simp at hc;have hgl:=h.cell.lt;have HO:Hid (∀j,(Value.slice A l.length cap).ownBlock=some j→j<w.heap.size):=h_ (fun j hj=>(h.own_lt hj).2)
 have H:=h_ h;have HT:=h_ htab;have HL:=h_ hok;obtain⟨n,hn⟩:∃n,l.length=n:=⟨_,rfl⟩;rw[hn] at hc H hl HO;have hmk:=fun w=>run_make_row' (P:=prog) 259 9 (.string ⟨#[]⟩) 16 underlying259 SY rfl .i64 .i64 n (by omega) (by omega) w
 go_enter func139,ntmps139;go_wp2;go_loopw [17] (fun i wr=>∃k:Nat,i=.int .i64 k∧TextInv w wr base g (.slice A n cap) l w.heap.size k) (fun i _=>n-(intOf i).toNat)
 case atStart =>
  refine⟨0,rfl,Nat.zero_le _,?_,Nat.le_refl _,(Only.refl _ _).alloc _,H.o.nob ((Only.refl _ _).alloc _),HT.o.nob ((Only.refl _ _).alloc _)⟩;rw[Dr,hn];rw[←FS];exact Blk.new w 9 (madeCells #[.string ⟨#[]⟩] n)
 case round =>
  obtain⟨k,rfl,hI⟩:=hrel;have hBlt:=hI.row.lt;by_cases hk:k<n
  ·have hkl:k<l.length:=by omega
   rcases hI.sl.row.2 with⟨h1,h2⟩|⟨b,cap',cur,hv,_⟩
   ·omega
   ·injection hv with hv hv2 hv3
    clear hv2 hv3;subst hv;have hrow:=hI.sl.row;rw[hn] at hrow;have hr:=World.ownsRow.cellAt hrow k (by omega)
    rw[List.getElem?_map,List.getElem?_eq_getElem hkl,Option.map_some] at hr;have HW:=h_ (ON l[k] (HL.o _ (List.getElem_mem hkl)) wr hI.tab);have HS:=h_ (EJ l k hkl);unfold strItm at HS;have ha:=GK l k hkl;have HI:=h_ hI;have hkI:(k:Int)<(n:Int):=by omega
    generalize itemV l[k]=xv at *
    generalize itmW l[k]=wd at *
    have HKL:=h_ hkl;have HN:=h_ hn;go_wp2_with (go_at_call 169;refine(HW.o).mono ?_;rintro e w2 ⟨rfl,h1⟩;have hb2:=HI.o.row.only h1 (fun h=>h);have hc2:=(hb2.cell k).trans ha;have hf2:=hb2.frozen k;have HB2:=h_ hb2;have H1:=h_ h1)
    go_roundw
    case rel =>
     refine⟨k+1,rfl,HKL.o,?_,HI.o.new,?_,?_,?_⟩
     ·have:=HB2.o.set_ k (.string ⟨wd.toArray⟩)
      rw[HS.o] at this;exact this
     ·exact(HI.o.only.trans H1.o).setCell (p:=⟨w.heap.size,k,none⟩) (.inr (Nat.le_refl _)) _
     ·exact((HI.o.sl.nob H1.o).only (Only.setCell (S:=fun j=>j=w.heap.size) (p:=⟨w.heap.size,k,none⟩) ((Only.refl _ _)) (.inl rfl) _) (by omega) (fun j hj=>Nat.ne_of_lt (HO.o j hj)))
     ·exact(HI.o.tab.nob H1.o).only (Only.setCell (S:=fun j=>j=w.heap.size) (p:=⟨w.heap.size,k,none⟩) (Only.refl _ _) (.inl rfl) _) (by have:=HT.o.lt;omega)
    case measure =>
     show n-((k:Int)+1).toNat<n-(k:Int).toNat
     omega
  ·have hkn:k=n:=by have:=hI.le;omega
   subst hkn;have HJ:Hid (Calls prog 170 #[.slice w.heap.size k k,.string ⟨#[32]⟩] wr fun e w'=>e=.returned (.string ⟨(textI l).toArray⟩)∧Only Nob wr w'):=h_ (by
    have hlen:=MX l HL.o;have e:(l.map fun x=>(⟨(itmW x).toArray⟩:ByteArray)).map (·.data.toList)=l.map itmW:=by simp
    have hj:=Tryz.strings_Join w.heap.size 0 k (l.map fun x=>(⟨(itmW x).toArray⟩:ByteArray)) ⟨#[32]⟩ wr (fun j x hx=>by
      rw[Nat.zero_add,hI.row.cell,←hn];exact EK l j x hx) hBlt (by simp;omega) (by simp;omega) (by rw[e];unfold textI at hlen;simp;omega)
    rw[e,List.length_map,hn] at hj;exact hj.mono fun e w' ⟨h1,h2⟩=>⟨h1,Only.of_new h2⟩)
   have HI:=h_ hI;go_wp2_with (go_at_call 170;refine(HJ.o).mono ?_;rintro e w2 ⟨rfl,h1⟩;have H1:=h_ h1);go_ret;exact⟨rfl,HI.o.only.trans H1.o⟩
end
def PowO:Type:={o:Obj // ∀w:World,w.heap[0]?=some o→Pow10 w}
def powH [Inhabited PowO]:HP:=fun h=>h=fun k=>if k=0 then some (default:PowO).1 else none
theorem Sat.pow [Inhabited PowO]{ω w:World}{F:HP}(h:Sat ω w (powH*F)):Pow10 w:=by
 obtain⟨x,hx,rfl⟩:=h.left.part;exact(default:PowO).2 w (hx _ _ (by simp))
theorem Tu (x:Itm):itV x=itemV x:=by cases x<;>rfl
theorem Ta {ω w:World}{F:HP}{b:Nat}{l:List Itm}(h:Sat ω w (slH b l*F)):∃v,Sl w 0 b v l:=by
 obtain⟨A,c,h⟩:=ET h;refine⟨.slice A l.length c,h.blk,?_,?_⟩
 ·have h1:=h.right.owns;rw[show l.map itemV=l.map itV from List.map_congr_left fun x _=>(Tu x).symm]
  exact h1
 ·intro e;rcases h.swap.cases with⟨h1,_⟩|⟨g,cap,cur,h1,h2,h3,h4,h5,h6,h7⟩
  ·rw[h1] at e;cases e
  ·rw[h1] at e;simp only[Value.ownBlock,Option.some.injEq] at e;exact h7.ne e
theorem Ro [Inhabited PowO](ω w:World)(F:HP)(b:Nat)(l:List Itm)(h:Sat ω w (slH b l*(powH*F)))(hl:l.length≤1000)(hok:∀x∈l,x.ok):
  Calls prog 139 #[.pointer b] w fun e w'=>e=.returned (.string ⟨(textI l).toArray⟩)∧Only Nob w w':=by
 obtain⟨v,hs⟩:=Ta h;exact Oh w 0 b v l hs hl hok h.right.pow
section
structure AtD where
 rb:Nat
 vb:Nat
 db:Nat
 inn:Value
 fp:Value
 ep:Value
 cp:Value
def atC (s:PSt)(x:PAt)(D:AtD):Array Value:=#[x.me,s.words,s.stripes,s.wide,s.threads,υ s.start,s.spins,s.writes,s.fuel,pV D.rb,.slice none 0 0,ι 0,pV D.vb,pV D.db,x.state,D.inn,D.fp,D.ep,D.cp,.bool x.begun,υ x.begin,υ x.stamp,x.fin,x.by_,x.err,.bool x.blocking]
def inH (D:AtD):PIn→HP
 | .none=>fact (D.cp=.pointer none)
 | .fetch f=>ex fun b=>fact (D.inn=.iface 194 (pV b)∧D.fp=pV b∧D.cp=.pointer none)*fetchH b f
 | .extend e=>ex fun b=>fact (D.inn=.iface 195 (pV b)∧D.ep=pV b∧D.cp=.pointer none)*extH b e
 | .commit c=>ex fun b=>fact (D.inn=.iface 196 (pV b)∧D.cp=pV b)*coH b c
def atX (b:Nat)(s:PSt)(x:PAt)(D:AtD):HP:=bk b 198 (atC s x D)*(itH D.rb D.vb x.run x.v*(rdH D.db x.reads*inH D x.inner))
def atH (b:Nat)(s:PSt)(x:PAt):HP:=ex fun D=>atX b s x D
section
variable {ω w : World} {F : HP} {b : Nat} {s : PSt} {x : PAt} {D : AtD}
theorem AC (h:Sat ω w (atH b s x*F)):∃D,Sat ω w (atX b s x D*F):=h.of_ex
theorem AY (h:Sat ω w (atX b s x D*F)):Sat ω w (atH b s x*F):=Sat.to_ex D h
theorem AA (h:Sat ω w (atX b s x D*F)):Blk w b 198 (atC s x D):=h.assoc.blk
end
theorem He (ω w:World)(F:HP)(b:Nat)(s:PSt)(x:PAt)(h:Sat ω w (atH b s x*F)):
  Calls prog 63 #[.pointer b] w fun e w'=>e=.returned x.finOf∧w'=w:=by
 obtain⟨D,hx⟩:=AC h;have hb:=AA hx;have c1:=hb.c 14;have c2:=hb.c 22;have lt:=hb.lt;unfold PAt.finOf;generalize x.state=k at *
 generalize x.fin=f at *
 by_cases h8:k=8
 ·subst h8;rw[if_neg (by simp)]
  go_enter func63,ntmps63;go_wp2;go_ret;exact⟨rfl,rfl⟩
 ·rw[if_pos h8];have d:((k:Int) != 8)=true:=by simp;omega
  go_enter func63,ntmps63;go_wp2;go_ret;exact⟨rfl,rfl⟩
theorem RK (ω w:World)(F:HP)(b:Nat)(s:PSt)(x:PAt)(h:Sat ω w (atH b s x*F)):
  Calls prog 98 #[.pointer b] w fun e w'=>e=.returned x.errOf∧w'=w:=by
 obtain⟨D,hx⟩:=AC h;have hb:=AA hx;have c1:=hb.c 14;have c2:=hb.c 24;have lt:=hb.lt;unfold PAt.errOf;generalize x.state=k at *
 generalize x.err=f at *
 by_cases h8:k=8
 ·subst h8;rw[if_neg (by simp)]
  go_enter func98,ntmps98;go_wp2;go_ret;exact⟨rfl,rfl⟩
 ·rw[if_pos h8];have d:((k:Int) != 8)=true:=by simp;omega
  go_enter func98,ntmps98;go_wp2;go_ret;exact⟨rfl,rfl⟩
theorem Uo (ω w:World)(F:HP)(b:Nat)(s:PSt)(x:PAt)(h:Sat ω w (atH b s x*F)):
  Calls prog 95 #[.pointer b] w fun e w'=>e=.returned x.byOf∧w'=w:=by
 obtain⟨D,hx⟩:=AC h;have hb:=AA hx;have c1:=hb.c 14;have c2:=hb.c 23;have lt:=hb.lt;unfold PAt.byOf;generalize x.state=k at *
 generalize x.by_=f at *
 by_cases h8:k=8
 ·subst h8;rw[if_neg (by simp)]
  go_enter func95,ntmps95;go_wp2;go_ret;exact⟨rfl,rfl⟩
 ·rw[if_pos h8];have d:((k:Int) != 8)=true:=by simp;omega
  go_enter func95,ntmps95;go_wp2;go_ret;exact⟨rfl,rfl⟩
theorem DI (ω w:World)(F:HP)(b:Nat)(s:PSt)(x:PAt)(h:Sat ω w (atH b s x*F)):
  Calls prog 61 #[.pointer b] w fun e w'=>e=.returned (.tuple #[υ x.begin,.bool x.begun])∧∃q,w'=w.drewN q:=by
 obtain⟨D,hx⟩:=AC h;have hb:=AA hx;have c1:=hb.c 19;have c2:=hb.c 20;have lt:=hb.lt;generalize x.begun=k at *
 generalize x.begin=f at *
 go_enter func61,ntmps61;go_wp2;go_quiet (fail);go_wp2;go_ret2;exact⟨rfl,_,rfl⟩
theorem JL (ω w:World)(F:HP)(b:Nat)(s:PSt)(x:PAt)(h:Sat ω w (atH b s x*F)):
  Calls prog 100 #[.pointer b] w fun e w'=>e=.returned (υ x.stamp)∧w'=w:=by
 obtain⟨D,hx⟩:=AC h;have hb:=AA hx;have c1:=hb.c 21;have lt:=hb.lt;generalize x.stamp=k at *
 go_enter func100,ntmps100;go_wp2;go_ret;exact⟨rfl,rfl⟩
theorem JQ (ω w:World)(F:HP)(b:Nat)(s:PSt)(x:PAt)(h:Sat ω w (atH b s x*F)):
  Calls prog 68 #[.pointer b] w fun e w'=>e=.returned (.bool x.blockingOf)∧w'=w:=by
 obtain⟨D,hx⟩:=AC h;have hb:=AA hx;have c1:=hb.c 14;have c2:=hb.c 25;have lt:=hb.lt;unfold PAt.blockingOf;generalize x.state=k at *
 generalize x.blocking=f at *
 by_cases h8:k=8
 ·subst h8;rw[show((8:Nat) != 8)=false from rfl,Bool.false_and]
  go_enter func68,ntmps68;go_wp2;go_ret;exact⟨rfl,rfl⟩
 ·have d:((k:Int) != 8)=true:=by simp;omega
  rw[show(k != 8)=true by simpa using h8,Bool.true_and]
  go_enter func68,ntmps68;go_wp2;go_ret;exact⟨rfl,rfl⟩
end
theorem FG {ω w:World}{F:HP}{b:Nat}{c:PCo}(h:Sat ω w (coH b c*F)):∃D,Blk w b 258 (coC c D):=by
 obtain⟨D,h⟩:=h.of_ex;exact⟨D,h.assoc.blk⟩
theorem BZ (w:World)(b:Nat)(f:PFe)(hb:Blk w b 283 (feC f)):
  Calls prog 194 #[.pointer b] w fun e w'=>e=.returned f.rule.fin∧w'=w:=by
 have c1:=hb.c 2;have lt:=hb.lt;generalize f.rule.fin=k at *
 go_enter func194,ntmps194;go_wp2;go_ret;exact⟨rfl,rfl⟩
theorem Gl (w:World)(b:Nat)(f:PFe)(hb:Blk w b 283 (feC f)):
  Calls prog 387 #[.pointer b] w fun e w'=>e=.returned f.rule.by_∧w'=w:=by
 have c1:=hb.c 3;have lt:=hb.lt;generalize f.rule.by_=k at *
 go_enter func387,ntmps387;go_wp2;go_ret;exact⟨rfl,rfl⟩
theorem Cy (w:World)(b:Nat)(x:PEx)(A:Option Addr)(c:Nat)(hb:Blk w b 285 (exC x A c)):
  Calls prog 199 #[.pointer b] w fun e w'=>e=.returned x.rule.fin∧w'=w:=by
 have c1:=hb.c 2;have lt:=hb.lt;generalize x.rule.fin=k at *
 go_enter func199,ntmps199;go_wp2;go_ret;exact⟨rfl,rfl⟩
theorem Gm (w:World)(b:Nat)(x:PEx)(A:Option Addr)(c:Nat)(hb:Blk w b 285 (exC x A c)):
  Calls prog 395 #[.pointer b] w fun e w'=>e=.returned x.rule.by_∧w'=w:=by
 have c1:=hb.c 3;have lt:=hb.lt;generalize x.rule.by_=k at *
 go_enter func395,ntmps395;go_wp2;go_ret;exact⟨rfl,rfl⟩
theorem Ba (w:World)(b:Nat)(c:PCo)(D:CoD)(hb:Blk w b 258 (coC c D)):
  Calls prog 145 #[.pointer b] w fun e w'=>e=.returned c.rule.fin∧w'=w:=by
 have c1:=hb.c 2;have lt:=hb.lt;generalize c.rule.fin=k at *
 go_enter func145,ntmps145;go_wp2;go_ret;exact⟨rfl,rfl⟩
theorem Ha (w:World)(b:Nat)(c:PCo)(D:CoD)(hb:Blk w b 258 (coC c D)):
  Calls prog 398 #[.pointer b] w fun e w'=>e=.returned c.rule.by_∧w'=w:=by
 have c1:=hb.c 3;have lt:=hb.lt;generalize c.rule.by_=k at *
 go_enter func398,ntmps398;go_wp2;go_ret;exact⟨rfl,rfl⟩
theorem Qe (w:World)(b:Nat)(c:PCo)(D:CoD)(hb:Blk w b 258 (coC c D)):
  Calls prog 167 #[.pointer b] w fun e w'=>e=.returned c.rule.err∧w'=w:=by
 have c1:=hb.c 4;have lt:=hb.lt;generalize c.rule.err=k at *
 go_enter func167,ntmps167;go_wp2;go_ret;exact⟨rfl,rfl⟩
theorem Kp (w:World)(b:Nat)(c:PCo)(D:CoD)(hb:Blk w b 258 (coC c D))(hn:c.now≤4611686018427387904):
  Calls prog 136 #[.pointer b] w fun e w'=>e=.returned (υ c.stampOf)∧w'=w:=by
 have c1:=hb.c 16;have c2:=hb.c 17;have lt:=hb.lt;unfold PCo.stampOf;generalize c.now=n at *
 generalize c.writing=k at *
 have hw:IntKind.u64.wrap ((n:Int)+1)=((n+1:Nat):Int):=by rw[IntKind.wrap_u64];omega
 cases k
 ·rw[if_neg (by simp)]
  go_enter func136,ntmps136;go_wp2;go_ret;exact⟨rfl,rfl⟩
 ·rw[if_pos rfl];go_enter func136,ntmps136;go_wp2;go_ret;exact⟨rfl,rfl⟩
theorem Gs (w:World)(b:Nat)(c:PCo)(D:CoD)(hb:Blk w b 258 (coC c D)):
  Calls prog 144 #[.pointer b] w fun e w'=>e=.returned (.bool c.isWriting)∧w'=w:=by
 have HQ:=h_ (Ba w b c D hb);have c2:=hb.c 17;have lt:=hb.lt;unfold PCo.isWriting;generalize c.rule.fin=n at *
 generalize c.writing=k at *
 cases k
 ·rw[Bool.false_and];go_enter func144,ntmps144;go_wp2;go_ret;exact⟨rfl,rfl⟩
 ·rw[Bool.true_and];have e:(n==0)=((n:Int)==0):=by
   by_cases h:n=0
   ·subst h;rfl
   ·have h2:¬(n:Int)=0:=by omega
    rw[beq_eq_false_iff_ne.2 h,beq_eq_false_iff_ne.2 h2]
  rw[e];go_enter func144,ntmps144;go_wp2_with (go_at_call 145;refine(HQ.o).mono ?_;rintro e w1 ⟨rfl,rfl⟩);go_ret;exact⟨rfl,rfl⟩
theorem FA (w:World)(b:Nat)(x:PEx)(A:Option Addr)(c:Nat)(hb:Blk w b 285 (exC x A c)):
  Calls prog 166 #[.pointer b] w fun e w'=>e=.returned (.int .u64 ((if x.rule.fin=2 then x.stamp else 0:Nat):Int))∧w'=w:=by
 have HQ:=h_ (Cy w b x A c hb);have c2:=hb.c 8;have lt:=hb.lt;generalize x.rule.fin=n at *
 generalize x.stamp=k at *
 by_cases h:n=2
 ·subst h;rw[if_pos rfl];go_enter func166,ntmps166;go_wp2_with (go_at_call 199;refine(HQ.o).mono ?_;rintro e w1 ⟨rfl,rfl⟩);go_ret;exact⟨rfl,rfl⟩
 ·rw[if_neg h];have d:((n:Int) != 2)=true:=by simp;omega
  go_enter func166,ntmps166;go_wp2_with (go_at_call 199;refine(HQ.o).mono ?_;rintro e w1 ⟨rfl,rfl⟩);go_ret;exact⟨rfl,rfl⟩
theorem Nr (w:World)(b:Nat)(x:PFe)(hb:Blk w b 283 (feC x)):
  Calls prog 198 #[.pointer b] w fun e w'=>e=.returned (.int .u64 ((if x.rule.fin=2 then x.word else 0:Nat):Int))∧w'=w:=by
 have HQ:=h_ (BZ w b x hb);have c2:=hb.c 12;have lt:=hb.lt;generalize x.rule.fin=n at *
 generalize x.word=k at *
 by_cases h:n=2
 ·subst h;rw[if_pos rfl];go_enter func198,ntmps198;go_wp2_with (go_at_call 194;refine(HQ.o).mono ?_;rintro e w1 ⟨rfl,rfl⟩);go_ret;exact⟨rfl,rfl⟩
 ·rw[if_neg h];have d:((n:Int) != 2)=true:=by simp;omega
  go_enter func198,ntmps198;go_wp2_with (go_at_call 194;refine(HQ.o).mono ?_;rintro e w1 ⟨rfl,rfl⟩);go_ret;exact⟨rfl,rfl⟩
theorem Ns (w:World)(b:Nat)(x:PFe)(hb:Blk w b 283 (feC x)):
  Calls prog 196 #[.pointer b] w fun e w'=>e=.returned (.agg #[(if x.rule.fin=2 then x.stripe else 0:Nat),υ (if x.rule.fin=2 then x.lock.ver else 0:Nat)])∧Only Nob w w':=by
 have HQ:Hid (∀w1,Only Nob w w1→Calls prog 194 #[.pointer b] w1 fun e w'=>e=.returned x.rule.fin∧w'=w1):=h_ (fun w1 ho=>BZ w1 b x (hb.only ho (fun h=>h)))
 have c1:=hb.c 6;have c2:=hb.c 9;have lt:=hb.lt;have lt1:b<w.heap.size+1:=by omega
 generalize x.rule.fin=n at *
 generalize x.stripe=k at *
 generalize x.lock.ver=v at *
 by_cases h:n=2
 ·subst h;rw[if_pos rfl,if_pos rfl];go_enter func196,ntmps196;go_wp2_with (go_at_call 194;refine(HQ.o _ ((Only.refl _ _).alloc _)).mono ?_;rintro e w1 ⟨rfl,rfl⟩);refine rT 10 ?_;simp only[sD,sE,sF,sG];repeat still_step
  refine wpStill_nil ?_;go_wp2;refine bodyPost_ret (v:=.agg #[k,υ v]) (by simp[results,results196,go_sem]) rfl ⟨rfl,?_⟩
  repeat' (first|exact Only.refl _ _|(with_reducible first|refine Only.setCell ?_ ?_ _|refine Only.alloc ?_ _|refine Only.drew ?_))
 ·rw[if_neg h,if_neg h];have d:((n:Int) != 2)=true:=by simp;omega
  go_enter func196,ntmps196;go_wp2_with (go_at_call 194;refine(HQ.o _ ((Only.refl _ _).alloc _)).mono ?_;rintro e w1 ⟨rfl,rfl⟩);refine bodyPost_ret (v:=.agg #[ι 0,υ 0]) (by simp[results,results196,go_sem]) rfl ⟨rfl,?_⟩
  repeat' (first|exact Only.refl _ _|(with_reducible first|refine Only.setCell ?_ ?_ _|refine Only.alloc ?_ _|refine Only.drew ?_))
theorem UB (ω w:World)(F:HP)(b vb:Nat)(x:PIt)(v:PVw)(h:Sat ω w (itH b vb x v*F)):
  Calls prog 156 #[.pointer b] w fun e w'=>e=.returned x.err∧w'=w:=by
 obtain⟨D,hD,hx⟩:=AL h;have hb:=hx.assoc.blk;have c1:w.cell? (κ b 4)=some (.int .i64 x.err):=by rw[hb.cell,AR x D 4 (by omega)];rfl
 have lt:=hb.lt;generalize x.err=k at *
 clear h hx hb;go_enter func156,ntmps156;go_wp2;go_ret;exact⟨rfl,rfl⟩
theorem Pc (ω w:World)(F:HP)(b vb:Nat)(x:PIt)(v:PVw)(h:Sat ω w (itH b vb x v*F))(hr:x.regs.length=8)(hl:x.out.length≤1000):
  Calls prog 138 #[.pointer b] w (RetP ω (itH b vb x v*F) fun g=>slH g x.out):=by
 obtain⟨D,hD,hx⟩:=AL h;have hb:=hx.assoc.blk;have c1:w.cell? (κ b 14)=some (.pointer D.sb):=by rw[hb.cell,show(14:Nat)=14+0 from rfl,AN x D 0 hr (by omega)];rfl
 have lt:=hb.lt;obtain⟨REST,hREST⟩:∃REST,REST=bk b 245 (itC x D)*(row 87 5 (.slice D.pA x.code.length D.pc) x.code.length (x.code.flatMap insV)*(row 3 1 (.slice D.mA (matchP x.code).length D.mc) (matchP x.code).length ((matchP x.code).map (Value.int .i64))*(row 346 11 (.slice D.oA x.opens.length D.oc) x.opens.length (x.opens.flatMap ptV)*(vwH vb v*F)))):=⟨_,rfl⟩;have HS:Hid (Sat ω w (slH D.sb x.out*REST)):=h_ (by rw[hREST];exact hx.perm (by unfold itX;ac_rfl))
 have HC:Hid (Calls prog 168 #[.pointer D.sb] w (RetP ω (slH D.sb x.out*REST) fun g=>slH g x.out)):=h_ (Rp ω w REST D.sb x.out HS.o hl)
 have HB:Hid (∀w1 P,Sat ω w1 (P*(slH D.sb x.out*REST))→Sat ω w1 (P*(itH b vb x v*F))):=h_ (fun w1 P h1=>by
  rw[hREST] at h1;have h2:Sat ω w1 (itX b x D*(vwH vb v*(P*F))):=h1.perm (by unfold itX;ac_rfl)
  exact(Ae hD h2).swap)
 generalize slH D.sb x.out*REST=G at *
 generalize D.sb=sb at *
 clear h hx hb hREST;go_enter func138,ntmps138;go_wp2_with (go_at_call 168;refine(HC.o).mono ?_;rintro e w1 ⟨g,rfl,hs⟩;have HZ:=h_ hs;clear hs);go_ret;exact⟨_,rfl,HB.o _ _ HZ.o⟩
section
section
variable {ω w : World} {F : HP} {b : Nat} {s : PSt} {x : PAt} {D : AtD}
theorem Dq (h:Sat ω w (atX b s x D*F)):∃G,Sat ω w (vwH D.vb x.v*G)∧∀w' P v',Sat ω w' (P*(vwH D.vb v'*G))→Sat ω w' (P*(atX b s {x with v:=v'} D*F)):=by
 unfold atX at h;have h1:Sat ω w (itH D.rb D.vb x.run x.v*(bk b 198 (atC s x D)*(rdH D.db x.reads*(inH D x.inner*F)))):=h.perm (by ac_rfl)
 obtain⟨ID,hID,hx⟩:=AL h1;refine⟨_,hx.swap,fun w' P v' h2=>?_⟩
 have h3:=Ae hID (h2.perm (by ac_rfl:_=itX D.rb x.run ID*(vwH D.vb v'*(bk b 198 (atC s x D)*(rdH D.db x.reads*(inH D x.inner*F))*P))))
 unfold atX;exact h3.perm (by ac_rfl)
theorem MB (h:Sat ω w (atX b s x D*F)):∃G,Sat ω w (rdH D.db x.reads*G)∧∀w' P l,Sat ω w' (P*(rdH D.db l*G))→Sat ω w' (P*(atX b s {x with reads:=l} D*F)):=by
 unfold atX at h;refine⟨bk b 198 (atC s x D)*(itH D.rb D.vb x.run x.v*(inH D x.inner*F)),h.perm (by ac_rfl),fun w' P l h2=>?_⟩
 unfold atX;exact h2.perm (by ac_rfl)
theorem RI (h:Sat ω w (atX b s x D*F)):∃G,Sat ω w (itH D.rb D.vb x.run x.v*G)∧∀w' P r v',Sat ω w' (P*(itH D.rb D.vb r v'*G))→Sat ω w' (P*(atX b s {x with run:=r,v:=v'} D*F)):=by
 unfold atX at h;refine⟨bk b 198 (atC s x D)*(rdH D.db x.reads*(inH D x.inner*F)),h.perm (by ac_rfl),fun w' P r v' h2=>?_⟩
 unfold atX;exact h2.perm (by ac_rfl)
theorem Bj {y:PAt}(h:Sat ω w (atH b s x*F))(i:Nat)(u:Value)(e:∀D,(atC s x D).setIfInBounds i u=atC s y D)(h1:y.run=x.run)(h2:y.v=x.v)(h3:y.reads=x.reads)(h4:y.inner=x.inner):Sat ω (w.setCell (κ b i) u) (atH b s y*F):=by
 obtain⟨D,hx⟩:=AC h;unfold atX at hx;refine AY (D:=D) ?_;unfold atX;rw[h1,h2,h3,h4];exact(hx.assoc.put i u (e D)).assoc'
end
theorem Sz (ω w:World)(F:HP)(b:Nat)(s:PSt)(x:PAt)(h:Sat ω w (atH b s x*F))(hl:x.reads.length≤1000):
  Calls prog 67 #[.pointer b] w (RetR ω (atH b s x*F) 148 2 x.reads.length (vS x.reads)):=by
 obtain⟨D,hx⟩:=AC h;have hb:=AA hx;have c1:w.cell? (κ b 13)=some (.pointer D.db):=hb.cell 13;have lt:=hb.lt;obtain⟨G,h1,h2⟩:=MB hx;have HA:=h_ (Jr ω w G D.db x.reads h1 hl);have HB:Hid (∀w' P,Sat ω w' (P*(rdH D.db x.reads*G))→Sat ω w' (P*(atH b s x*F))):=h_ (fun w' P h3=>(AY (D:=D) ((h2 w' P x.reads h3).swap)).swap)
 generalize x.reads=l at *
 generalize D.db=db at *
 go_enter func67,ntmps67;go_wp2_with (go_at_call 105;refine(HA.o).mono ?_;rintro e w1 ⟨A,c,rfl,hs⟩;have HZ:=h_ hs);go_ret;exact⟨_,_,rfl,HB.o _ _ HZ.o⟩
theorem Qx (ω w:World)(F:HP)(b:Nat)(s:PSt)(x:PAt)(h:Sat ω w (atH b s x*F))(hv:x.v.ok):
  Calls prog 109 #[.pointer b] w (RetR ω (atH b s x*F) 54 2 x.v.known.length (vS x.v.known)):=by
 obtain⟨D,hx⟩:=AC h;have hb:=AA hx;have c1:w.cell? (κ b 12)=some (.pointer D.vb):=hb.cell 12;have lt:=hb.lt;obtain⟨G,h1,h2⟩:=Dq hx;have HA:=h_ (OU ω w G D.vb x.v h1 hv);have HB:Hid (∀w' P,Sat ω w' (P*(vwH D.vb x.v*G))→Sat ω w' (P*(atH b s x*F))):=h_ (fun w' P h3=>(AY (D:=D) ((h2 w' P x.v h3).swap)).swap)
 generalize x.v.known=l at *
 generalize vwH D.vb x.v*G=GG at *
 generalize D.vb=db at *
 go_enter func109,ntmps109;go_wp2_with (go_at_call 146;refine(HA.o).mono ?_;rintro e w1 ⟨A,c,rfl,hs⟩;have HZ:=h_ hs);go_ret;exact⟨_,_,rfl,HB.o _ _ HZ.o⟩
theorem ME {ω w:World}{F:HP}{b:Nat}{s:PSt}{x:PAt}{D:AtD}(h:Sat ω w (atX b s x D*F)):(∃c cb CD,x.inner=.commit c∧D.cp=pV cb∧Blk w cb 258 (coC c CD))∨((∀c,x.inner≠.commit c)∧D.cp=.pointer none):=by
 unfold atX at h;have h1:Sat ω w (inH D x.inner*(bk b 198 (atC s x D)*(itH D.rb D.vb x.run x.v*(rdH D.db x.reads*F)))):=h.perm (by ac_rfl)
 cases hi:x.inner with
 |none =>
  rw[hi] at h1;exact .inr ⟨by simp,h1.of_fact.1⟩
 |fetch f =>
  rw[hi] at h1;obtain⟨fb,h1⟩:=h1.of_ex;exact .inr ⟨by simp,h1.assoc.of_fact.1.2.2⟩
 |extend f =>
  rw[hi] at h1;obtain⟨fb,h1⟩:=h1.of_ex;exact .inr ⟨by simp,h1.assoc.of_fact.1.2.2⟩
 |commit c =>
  rw[hi] at h1;obtain⟨cb,h1⟩:=h1.of_ex;obtain⟨h2,h3⟩:=h1.assoc.of_fact;obtain⟨CD,hb⟩:=FG h3;exact .inl ⟨c,cb,CD,rfl,h2.2,hb⟩
theorem JV {x:PAt}{c:PCo}(hi:x.inner=.commit c):x.writing=(x.state != 8&&(c.isWriting||c.rule.fin==2)):=by
 unfold PAt.writing;rw[hi]
theorem EG {x:PAt}(hn:∀c,x.inner≠.commit c):x.writing=false:=by
 unfold PAt.writing;cases hi:x.inner with
 |commit c=>exact absurd hi (hn c)
 |_=>simp
theorem MN {x:PAt}(h:x.state=8):x.writing=false:=by
 unfold PAt.writing;rw[h];rfl
theorem AO (ω w:World)(F:HP)(b:Nat)(s:PSt)(x:PAt)(h:Sat ω w (atH b s x*F)):
  Calls prog 108 #[.pointer b] w fun e w'=>e=.returned (.bool x.writing)∧w'=w:=by
 obtain⟨D,hx⟩:=AC h;have hb:=AA hx;have c1:=hb.c 14;have c2:w.cell? (κ b 18)=some D.cp:=hb.cell 18;have lt:=hb.lt;have hco:=ME hx;by_cases h8:x.state=8
 ·rw[MN h8];rw[h8] at c1;go_enter func108,ntmps108;go_wp2;go_ret;exact⟨rfl,rfl⟩
 ·have d:((x.state:Int) != 8)=true:=by simp;omega
  rcases hco with⟨c,cb,CD,hi,hcp,hcb⟩|⟨hn,hcp⟩
  ·rw[JV hi,show(x.state != 8)=true by simpa using h8,Bool.true_and]
   generalize x.state=k at *
   have HW:=h_ (Gs w cb c CD hcb);have HE:=h_ (Ba w cb c CD hcb);rw[hcp] at c2;unfold pV at c2;have e2:(c.rule.fin==2)=((c.rule.fin:Int)==2):=by
    by_cases h9:c.rule.fin=2
    ·rw[h9];rfl
    ·have h10:¬(c.rule.fin:Int)=2:=by omega
     rw[beq_eq_false_iff_ne.2 h9,beq_eq_false_iff_ne.2 h10]
   rw[e2];generalize c.rule.fin=fin at *
   generalize c.isWriting=wr at *
   cases wr
   ·rw[Bool.false_or];go_enter func108,ntmps108;go_wp2_with (first
     |(go_at_call 144;refine(HW.o).mono ?_;rintro e w1 ⟨rfl,rfl⟩)
     |(go_at_call 145;refine(HE.o).mono ?_;rintro e w1 ⟨rfl,rfl⟩))
    go_ret;exact⟨rfl,rfl⟩
   ·rw[Bool.true_or];go_enter func108,ntmps108;go_wp2_with (first
     |(go_at_call 144;refine(HW.o).mono ?_;rintro e w1 ⟨rfl,rfl⟩)
     |(go_at_call 145;refine(HE.o).mono ?_;rintro e w1 ⟨rfl,rfl⟩))
    go_ret;exact⟨rfl,rfl⟩
  ·rw[EG hn];generalize x.state=k at *
   rw[hcp] at c2;go_enter func108,ntmps108;go_wp2;go_ret;exact⟨rfl,rfl⟩
theorem Bl (ω w:World)(F:HP)(b:Nat)(s:PSt)(x:PAt)(h:Sat ω w (atH b s x*F)):
  Calls prog 137 #[.pointer b] w fun e w'=>e=.returned (.bool x.committed)∧w'=w:=by
 have HW:=h_ (AO ω w F b s x h);have HE:=h_ (He ω w F b s x h);unfold PAt.committed;have e2:(x.finOf==2)=((x.finOf:Int)==2):=by
  by_cases h9:x.finOf=2
  ·rw[h9];rfl
  ·have h10:¬(x.finOf:Int)=2:=by omega
   rw[beq_eq_false_iff_ne.2 h9,beq_eq_false_iff_ne.2 h10]
 rw[e2];generalize x.finOf=fin at *
 generalize x.writing=wr at *
 obtain⟨d,hd⟩:∃d,((fin:Int)==2)=d:=⟨_,rfl⟩;rw[hd];cases d
 ·rw[Bool.false_or];go_enter func137,ntmps137;go_wp2_with (first
   |(go_at_call 108;refine(HW.o).mono ?_;rintro e w1 ⟨rfl,rfl⟩)
   |(go_at_call 63;refine(HE.o).mono ?_;rintro e w1 ⟨rfl,rfl⟩))
  go_ret;exact⟨rfl,rfl⟩
 ·rw[Bool.true_or];go_enter func137,ntmps137;go_wp2_with (first
   |(go_at_call 108;refine(HW.o).mono ?_;rintro e w1 ⟨rfl,rfl⟩)
   |(go_at_call 63;refine(HE.o).mono ?_;rintro e w1 ⟨rfl,rfl⟩))
  go_ret;exact⟨rfl,rfl⟩
end
section
variable (ω w : World) (F : HP)
theorem RL (b:Nat)(s:PSt)(x:PAt)(h:Sat ω w (atH b s x*F))(hv:x.v.ok):
  Calls prog 110 #[.pointer b] w (RetR ω (atH b s x*F) 54 2 x.cells.length (vS x.cells)):=by
 have HQ:=h_ (Bl ω w F b s x h);have H:=h_ h;unfold PAt.cells;cases hc:x.committed
 ·rw[if_neg (by simp)]
  rw[hc] at HQ;go_enter func110,ntmps110;go_wp2_with (go_at_call 137;refine(HQ.o).mono ?_;rintro e w1 ⟨rfl,rfl⟩);go_ret;exact⟨none,0,rfl,H.o.nil _ _⟩
 ·rw[if_pos rfl];rw[hc] at HQ;obtain⟨D,hx⟩:=AC h;have hb:=AA hx;have c1:w.cell? (κ b 12)=some (.pointer D.vb):=hb.cell 12;have lt:=hb.lt;obtain⟨G,h1,h2⟩:=Dq hx;have HA:=h_ (Hn ω w G D.vb x.v h1 hv);have HB:Hid (∀w' P,Sat ω w' (P*(vwH D.vb x.v*G))→Sat ω w' (P*(atH b s x*F))):=h_ (fun w' P h3=>(AY (D:=D) ((h2 w' P x.v h3).swap)).swap)
  generalize x.v.logs.cells=l at *
  generalize vwH D.vb x.v*G=GG at *
  generalize D.vb=db at *
  go_enter func110,ntmps110;go_wp2_with (first
   |(go_at_call 137;refine(HQ.o).mono ?_;rintro e w1 ⟨rfl,rfl⟩)
   |(go_at_call 132;refine(HA.o).mono ?_;rintro e w1 ⟨A,c,rfl,hs⟩;have HZ:=h_ hs))
  go_ret;exact⟨_,_,rfl,HB.o _ _ HZ.o⟩
theorem JP (b:Nat)(s:PSt)(x:PAt)(h:Sat ω w (atH b s x*F))(hv:x.v.ok):
  Calls prog 102 #[.pointer b] w fun e w'=>e=.returned (.slice none 0 0)∧Only Nob w w':=by
 have HQ:=h_ (Bl ω w F b s x h);cases hc:x.committed
 ·rw[hc] at HQ;go_enter func102,ntmps102;go_wp2_with (go_at_call 137;refine(HQ.o).mono ?_;rintro e w1 ⟨rfl,rfl⟩);go_ret;exact⟨rfl,Only.refl _ _⟩
 ·rw[hc] at HQ;obtain⟨D,hx⟩:=AC h;have hb:=AA hx;have c1:w.cell? (κ b 12)=some (.pointer D.vb):=hb.cell 12;have c2:w.cell? (κ b 9)=some (.pointer D.rb):=hb.cell 9;have lt:=hb.lt;obtain⟨G,h1,h2⟩:=Dq hx;have HA:=h_ (OV ω w G D.vb x.v h1 hv);generalize D.vb=db at *
  generalize D.rb=rb at *
  go_enter func102,ntmps102;go_wp2_with (first
   |(go_at_call 137;refine(HQ.o).mono ?_;rintro e w1 ⟨rfl,rfl⟩)
   |(go_at_call 140;refine(HA.o).mono ?_;rintro e w1 ⟨rfl,hs⟩;have HZ:=h_ hs))
  go_ret;exact⟨rfl,HZ.o⟩
theorem JM [Inhabited PowO](b:Nat)(s:PSt)(x:PAt)(h:Sat ω w (atH b s x*(powH*F)))(hr:x.run.regs.length=8)(hl:x.run.out.length≤1000)(hok:∀i∈x.run.out,i.ok):
  Calls prog 99 #[.pointer b] w (Rets ω (powH*F) (.string ⟨x.slate.toArray⟩) (atH b s x)):=by
 have HQ:=h_ (Bl ω w _ b s x h);have H:=h_ h;obtain⟨D,hx⟩:=AC h;have hb:=AA hx;have c2:w.cell? (κ b 9)=some (.pointer D.rb):=hb.cell 9;have lt:=hb.lt;unfold PAt.slate;cases hc:x.committed
 ·rw[if_neg (by simp)]
  rw[hc] at HQ;go_enter func99,ntmps99;go_wp2_with (go_at_call 137;refine(HQ.o).mono ?_;rintro e w1 ⟨rfl,rfl⟩);go_ret;exact⟨rfl,H.o⟩
 ·rw[if_pos rfl];rw[hc] at HQ;obtain⟨G,h1,h2⟩:=RI hx;have HA:=h_ (Pc ω w G D.rb D.vb x.run x.v h1 hr hl);have HB:Hid (∀w' g,Sat ω w' (slH g x.run.out*(itH D.rb D.vb x.run x.v*G))→Sat ω w' (atH b s x*(powH*F))∧Calls prog 139 #[.pointer (some ⟨g,0,none⟩)] w' fun e w''=>e=.returned (.string ⟨(textI x.run.out).toArray⟩)∧Only Nob w' w''):=h_ (fun w' g h3=>by
   have h4:=h2 w' _ x.run x.v h3;have h5:Sat ω w' (atH b s x*(slH g x.run.out*(powH*F))):=AY (D:=D) (h4.swap);have h6:Sat ω w' (slH g x.run.out*(powH*(atH b s x*F))):=h5.perm (by ac_rfl)
   exact⟨h5.swap.right,Ro ω w' _ g x.run.out h6 hl hok⟩)
  generalize itH D.rb D.vb x.run x.v*G=GG at *
  generalize (textI x.run.out).toArray=tx at *
  generalize D.rb=rb at *
  go_enter func99,ntmps99;go_wp2_with (first
   |(go_at_call 137;refine(HQ.o).mono ?_;rintro e w1 ⟨rfl,rfl⟩)
   |(go_at_call 138;refine(HA.o).mono ?_;rintro e w1 ⟨g,rfl,hs⟩;have hz:=HB.o _ _ hs;have HZ1:=h_ hz.1;have HZ2:=h_ hz.2)
   |(go_at_call 139;refine(HZ2.o).mono ?_;rintro e w2 ⟨rfl,hs⟩;have HY:=h_ hs))
  go_ret;exact⟨rfl,HZ1.o.nob HY.o⟩
theorem MG (s:PSt)(x:PAt)(D:AtD)(f e:Nat)(by_:Int):((((atC s x D).setIfInBounds 22 (.int .i64 f)).setIfInBounds 24 (.int .i64 e)).setIfInBounds 23 (.int .i64 by_)).setIfInBounds 14 (.int .i64 7)=atC s (x.out f e by_) D:=rfl
theorem Bk (b:Nat)(s:PSt)(x:PAt)(h:Sat ω w (atH b s x*F))(f e:Nat)(by_:Int):
  Calls prog 92 #[.pointer b,f,e,by_] w (Rets ω F (.tuple #[]) (atH b s (x.out f e by_))):=by
 obtain⟨D,hx⟩:=AC h;have hb:=AA hx;have lt:=hb.lt;have fz:=hb.frozen;have c1:=hb.c 22;have c2:=hb.c 24;have c3:=hb.c 23;have c4:=hb.c 14;have HS:Hid (Sat ω ((((w.setCell (κ b 22) f).setCell (κ b 24) e).setCell (κ b 23) by_).setCell (κ b 14) (ι 7)) (atH b s (x.out f e by_)*F)):=h_ (by
  unfold atX at hx;refine AY (D:=D) ?_;exact((((hx.assoc.set 22 _).set 24 _).set 23 _).put 14 _ (MG s x D f e by_)).assoc')
 generalize (x.fin:Int)=k1 at *
 generalize (x.err:Int)=k2 at *
 generalize x.by_=k3 at *
 generalize (x.state:Int)=k4 at *
 go_enter func92,ntmps92;go_wp2;exact bodyPost_end (results_none rfl _ _ _) rfl ⟨rfl,HS.o⟩
end
structure AtCf (b:Nat) (s:PSt) (me stamp:Nat) (D:AtD) (w:World):Prop where
 c0:w.cell? b=some (.int .i64 me)
 c2:w.cell? (κ b 2)=some (.int .i64 s.stripes)
 c3:w.cell? (κ b 3)=some (.int .i64 s.wide)
 c6:w.cell? (κ b 6)=some (.int .i64 s.spins)
 c9:w.cell? (κ b 9)=some (.pointer D.rb)
 c12:w.cell? (κ b 12)=some (.pointer D.vb)
 c13:w.cell? (κ b 13)=some (.pointer D.db)
 c21:w.cell? (κ b 21)=some (.int .u64 stamp)
 lt:b<w.heap.size
theorem Ao {ω w:World}{F P:HP}{b:Nat}{s:PSt}{x:PAt}{D:AtD}(h:Sat ω w (P*(atX b s x D*F))):AtCf b s x.me x.stamp D w:=by
 have hb:=AA h.right;exact⟨hb.cell 0,hb.cell 2,hb.cell 3,hb.cell 6,hb.cell 9,hb.cell 12,hb.cell 13,hb.cell 21,hb.lt⟩
theorem AtCf.drewN {b:Nat}{s:PSt}{me stamp:Nat}{D:AtD}{w:World}(h:AtCf b s me stamp D w)(q:Nat):AtCf b s me stamp D (w.drewN q):=⟨h.c0,h.c2,h.c3,h.c6,h.c9,h.c12,h.c13,h.c21,h.lt⟩
theorem AtCf.setCell {b:Nat}{s:PSt}{me stamp:Nat}{D:AtD}{w:World}(h:AtCf b s me stamp D w){i:Nat}(hi:16≤i∧i≤18)(u:Value):AtCf b s me stamp D (w.setCell (κ b i) u):=by
 have key:∀j v,j≠i→w.cell? (κ b j)=some v→(w.setCell (κ b i) u).cell? (κ b j)=some v:=fun j v hj hv=>by
  rw[World.cell?_setCell_other _ _ _ _ (by intro e;injection e with _ e;exact hj e.symm)]
  exact hv
 exact⟨key _ _ (by omega) h.c0,key _ _ (by omega) h.c2,key _ _ (by omega) h.c3,key _ _ (by omega) h.c6,key _ _ (by omega) h.c9,key _ _ (by omega) h.c12,key _ _ (by omega) h.c13,key _ _ (by omega) h.c21,by simpa using h.lt⟩
theorem FM (ω w:World)(F:HP)(b:Nat)(s:PSt)(x:PAt)(D:AtD)(h:Sat ω w (bk b 198 (atC s x D)*F))(k:Nat)(T:TypeId)(g:Nat):
  Calls prog 134 #[.pointer b,k,.iface T (pV g)] w (Rets ω F (.tuple #[]) (bk b 198 (atC s {x with state:=k} {D with inn:=.iface T (pV g)}))):=by
 have hb:=h.blk;have lt:=hb.lt;have fz:=hb.frozen;have c4:=hb.c 14;have c5:w.cell? (κ b 15)=some D.inn:=hb.cell 15;have HS:Hid (Sat ω ((w.setCell (κ b 14) k).setCell (κ b 15) (.iface T (pV g))) (bk b 198 (atC s {x with state:=k} {D with inn:=.iface T (pV g)})*F)):=h_ ((h.set 14 _).put 15 _ rfl)
 generalize (x.state:Int)=k4 at *
 generalize D.inn=k5 at *
 unfold pV at HS ⊢;go_enter func134,ntmps134;go_wp2;exact bodyPost_end (results_none rfl _ _ _) rfl ⟨rfl,HS.o⟩
theorem RM (ω w:World)(F:HP)(b:Nat)(s:PSt)(x:PAt)(h:Sat ω w (atH b s x*F))(p:Nat)(hp:p≤1000000)(hn:∀c,x.inner≠.commit c)(h1:1≤s.stripes)(h2:s.stripes≤16)(h3:1≤s.wide)(h4:s.wide≤16):
  Calls prog 129 #[.pointer b,p] w (Rets ω F (.tuple #[]) (atH b s (x.ask s p))):=by
 obtain⟨D,hx⟩:=AC h;have hcp:D.cp=.pointer none:=by
  rcases ME hx with⟨c,_,_,hi,_⟩|⟨_,hc⟩
  ·exact absurd hi (hn c)
  ·exact hc
 have HS0:AtCf b s x.me x.stamp D w.drew:=(Ao (hx.emp_)).drewN 1;have HOF:=h_ (fun w1=>PJ w1 p s.stripes s.wide hp h1 h2 h3 h4)
 obtain⟨f,hf⟩:∃f,PFe.new x.me p (stripeOf p s.stripes s.wide) s.spins x.stamp=f:=⟨_,rfl⟩;have HFE:Hid (∀w1,Sat ω w1 (atX b s x D*F)→Calls prog 158 #[x.me,p,(stripeOf p s.stripes s.wide:Nat),s.spins,υ x.stamp] w1 (RetP ω (atX b s x D*F) fun g=>fetchH g f)):=h_ (fun w1 hw=>hf▸UK ω w1 _ hw x.me p _ s.spins x.stamp)
 obtain⟨REST,hREST⟩:∃REST,REST=itH D.rb D.vb x.run x.v*(rdH D.db x.reads*F):=⟨_,rfl⟩;have HK:Hid (∀w1 g,Sat ω w1 (fetchH g f*(atX b s x D*F))→Sat ω (w1.setCell (κ b 16) (pV g)) (bk b 198 (atC s x {D with fp:=pV g})*(fetchH g f*REST))∧w1.frozen? (κ b 16)=false∧b<w1.heap.size∧∃u,w1.cell? (κ b 16)=some u):=h_ (fun w1 g hw=>by
  unfold atX at hw;have h5:Sat ω w1 (bk b 198 (atC s x D)*(inH D x.inner*(fetchH g f*REST))):=hw.perm (by rw[hREST];ac_rfl)
  have hb:=h5.blk;exact⟨((h5.put 16 (pV g) (cs':=atC s x {D with fp:=pV g}) rfl).swap).right,hb.frozen 16,hb.lt,_,hb.cell 16⟩)
 have HEN:Hid (∀w1 g,Sat ω w1 (bk b 198 (atC s x {D with fp:=pV g})*(fetchH g f*REST))→Calls prog 134 #[.pointer b,ι 3,.iface 194 (pV g)] w1 (Rets ω F (.tuple #[]) (atH b s (x.ask s p)))):=h_ (fun w1 g hw=>by
  refine(FM ω w1 _ b s x {D with fp:=pV g} hw 3 _ g).mono ?_
  rintro e w2 ⟨rfl,h6⟩;refine⟨rfl,AY (D:={D with fp:=pV g,inn:=.iface 194 (pV g)}) ?_⟩
  have h7:Sat ω w2 (fetchH g f*(bk b 198 (atC s {x with state:=3} {D with fp:=pV g,inn:=.iface 194 (pV g)})*REST)):=h6.swap
  have h8:Sat ω w2 (inH {D with fp:=pV g,inn:=.iface 194 (pV g)} (.fetch f)*(bk b 198 (atC s {x with state:=3} {D with fp:=pV g,inn:=.iface 194 (pV g)})*REST)):=Sat.to_ex (f:=fun g9=>fact ((Value.iface 194 (pV g))=.iface 194 (pV g9)∧pV g=pV g9∧D.cp=.pointer none)*fetchH g9 f) g ((h7.to_fact ⟨rfl,rfl,hcp⟩).assoc')
  rw[hREST] at h8;unfold atX PAt.ask;rw[hf];exact h8.perm (by simp only;ac_rfl))
 have HCF:Hid (∀w1 g,Sat ω w1 (fetchH g f*(atX b s x D*F))→AtCf b s x.me x.stamp D w1):=h_ (fun w1 g hw=>Ao hw)
 have HW0:Hid (∀q,Sat ω (w.drewN q) (atX b s x D*F)):=h_ (fun q=>hx.drewN q)
 generalize stripeOf p s.stripes s.wide=st at *
 generalize x.me=me at *
 generalize x.stamp=stamp at *
 go_enter func129,ntmps129;go_wp2;refine gN (AtCf b s me stamp D) HS0 fun hh0=>?_
 refine tH 0 ?_ rfl ?_ (tH 1 ?_ rfl ?_ (tH 2 ?_ rfl ?_ (tH 3 ?_ rfl ?_ (tH 4 ?_ rfl ?_ (tH 5 ?_ rfl ?_ (tH 6 ?_ rfl ?_ (tH 7 ?_ rfl ?_ (tH 8 ?_ rfl ?_ (tH 9 ?_ rfl ?_ (tH 10 ?_ rfl ?_ (tH 11 ?_ rfl ?_ (tH 12 ?_ rfl ?_ (tH 13 ?_ rfl ?_ (tH 14 ?_ rfl ?_ (tH 15 ?_ rfl ?_ (tH 16 ?_ rfl ?_ (tH 17 ?_ rfl ?_ (tH 18 ?_ rfl ?_ (tH 20 ?_ rfl ?_ (tH 21 ?_ rfl ?_ (tH 22 ?_ rfl ?_ (tH 23 ?_ rfl ?_ (tH 24 ?_ rfl ?_ (tH 25 ?_ rfl ?_ (tH 26 ?_ rfl ?_ (tH 27 ?_ rfl ?_ (tH 28 ?_ rfl ?_ ?_)))))))))))))))))))))))))));all_goals (try (
  intro w hSw;have d0:=hSw.c0;have d2:=hSw.c2;have d3:=hSw.c3;have d6:=hSw.c6;have d21:=hSw.c21;have d13:=hSw.c13;have dl:=hSw.lt;try simp only[sP]
  go_simp<;>(try with_reducible rfl)))
 try simp only[sP]
 refine oH 19 rfl fun K hK=>?_
 go_simp;go_at_call 159;refine(HOF.o _).mono ?_;rintro e wA ⟨rfl,qa,rfl⟩;first|(refine hK.q ?_ fun hh1=>?_)|(go_wp2_with fail;refine hK.q ?_ fun hh1=>?_)
 ·exact HS0.drewN qa
 try simp only[sP]
 refine oH 29 rfl fun K hK=>?_
 go_simp;go_at_call 158;refine(HFE.o _ (HW0.o _)).mono ?_;rintro e wB ⟨g,rfl,hs⟩;have HT:=h_ hs;first|(refine hK.q ?_ fun hh2=>?_)|(go_wp2_with fail;refine hK.q ?_ fun hh2=>?_)
 ·exact HCF.o _ _ HT.o
 try simp only[sP]
 refine tH 30 ?_ rfl ?_ (tH 31 ?_ rfl ?_ ?_);all_goals (try (
  intro w hSw;have d0:=hSw.c0;have d2:=hSw.c2;have d3:=hSw.c3;have d6:=hSw.c6;have d21:=hSw.c21;have d13:=hSw.c13;have dl:=hSw.lt;try simp only[sP]
  go_simp<;>(try with_reducible rfl)))
 try simp only[sP]
 refine oH 32 rfl fun K hK=>?_
 obtain⟨k1,k2,k3,u9,k4⟩:=HK.o _ _ HT.o;unfold pV at k1;go_simp;first|(refine hK.q ?_ fun hh3=>?_)|(go_wp2_with fail;refine hK.q ?_ fun hh3=>?_)
 ·exact(HCF.o _ _ HT.o).setCell (i:=16) (by omega) _
 try simp only[sP]
 refine dN ?_;have hcc:World.cell? _ ⟨b,16,none⟩=some (.pointer (some ⟨g,0,none⟩)):=k1.blk.cell 16;have hcl:=k1.blk.lt;unfold pV at HEN;go_wp2_with (go_at_call 134;refine(HEN.o _ _ k1).mono ?_;rintro e w5 ⟨rfl,hs⟩;have HZ:=h_ hs);exact bodyPost_end (results_none rfl _ _ _) rfl ⟨rfl,HZ.o⟩
theorem JO (ω w:World)(F:HP)(b:Nat)(s:PSt)(x:PAt)(h:Sat ω w (atH b s x*F))(k:Nat)(hn:∀c,x.inner≠.commit c)(hr:x.reads.length≤1000):
  Calls prog 131 #[.pointer b,k] w (Rets ω F (.tuple #[]) (atH b s (x.later s k))):=by
 obtain⟨D,hx⟩:=AC h;have hcp:D.cp=.pointer none:=by
  rcases ME hx with⟨c,_,_,hi,_⟩|⟨_,hc⟩
  ·exact absurd hi (hn c)
  ·exact hc
 have HS0:AtCf b s x.me x.stamp D w.drew:=(Ao (hx.emp_)).drewN 1;have HALL:Hid (∀q,Calls prog 105 #[.pointer D.db] (w.drewN q) fun e w'=>∃A c,e=.returned (.slice A x.reads.length c)∧Sat ω w' (row 148 2 (.slice A x.reads.length c) x.reads.length (vS x.reads)*(atX b s x D*F))):=h_ (fun q=>by
  obtain⟨G,h1,h2⟩:=MB (hx.drewN q);refine(Jr ω _ G D.db x.reads h1 hr).mono ?_;rintro e w1 ⟨A,c,rfl,h3⟩;exact⟨A,c,rfl,h2 w1 _ x.reads h3⟩)
 obtain⟨f,hf⟩:∃f,PEx.new x.me s.spins x.reads=f:=⟨_,rfl⟩;have HFE:Hid (∀w1 A c,Sat ω w1 (row 148 2 (.slice A x.reads.length c) x.reads.length (vS x.reads)*(atX b s x D*F))→Calls prog 160 #[x.me,s.spins,.slice A x.reads.length c] w1 (RetP ω (atX b s x D*F) fun g=>extH g f)):=h_ (fun w1 A c hw=>by
  refine(UM ω w1 _ x.me s.spins x.reads A c hr hw).mono ?_;rintro e w2 ⟨g,rfl,h3⟩;rw[hf] at h3;exact⟨g,rfl,h3.swap.right⟩)
 obtain⟨REST,hREST⟩:∃REST,REST=itH D.rb D.vb x.run x.v*(rdH D.db x.reads*F):=⟨_,rfl⟩;have HK:Hid (∀w1 g,Sat ω w1 (extH g f*(atX b s x D*F))→Sat ω (w1.setCell (κ b 17) (pV g)) (bk b 198 (atC s x {D with ep:=pV g})*(extH g f*REST))∧w1.frozen? (κ b 17)=false∧b<w1.heap.size∧∃u,w1.cell? (κ b 17)=some u):=h_ (fun w1 g hw=>by
  unfold atX at hw;have h5:Sat ω w1 (bk b 198 (atC s x D)*(inH D x.inner*(extH g f*REST))):=hw.perm (by rw[hREST];ac_rfl)
  have hb:=h5.blk;exact⟨((h5.put 17 (pV g) (cs':=atC s x {D with ep:=pV g}) rfl).swap).right,hb.frozen 17,hb.lt,_,hb.cell 17⟩)
 have HEN:Hid (∀w1 g,Sat ω w1 (bk b 198 (atC s x {D with ep:=pV g})*(extH g f*REST))→Calls prog 134 #[.pointer b,k,.iface 195 (pV g)] w1 (Rets ω F (.tuple #[]) (atH b s (x.later s k)))):=h_ (fun w1 g hw=>by
  refine(FM ω w1 _ b s x {D with ep:=pV g} hw k _ g).mono ?_
  rintro e w2 ⟨rfl,h6⟩;refine⟨rfl,AY (D:={D with ep:=pV g,inn:=.iface 195 (pV g)}) ?_⟩
  have h7:Sat ω w2 (extH g f*(bk b 198 (atC s {x with state:=k} {D with ep:=pV g,inn:=.iface 195 (pV g)})*REST)):=h6.swap
  have h8:Sat ω w2 (inH {D with ep:=pV g,inn:=.iface 195 (pV g)} (.extend f)*(bk b 198 (atC s {x with state:=k} {D with ep:=pV g,inn:=.iface 195 (pV g)})*REST)):=Sat.to_ex (f:=fun g9=>fact ((Value.iface 195 (pV g))=.iface 195 (pV g9)∧pV g=pV g9∧D.cp=.pointer none)*extH g9 f) g ((h7.to_fact ⟨rfl,rfl,hcp⟩).assoc')
  rw[hREST] at h8;unfold atX PAt.later;rw[hf];exact h8.perm (by simp only;ac_rfl))
 have HCF:Hid (∀w1 g,Sat ω w1 (extH g f*(atX b s x D*F))→AtCf b s x.me x.stamp D w1):=h_ (fun w1 g hw=>Ao hw)
 have HCR:Hid (∀w1 A c,Sat ω w1 (row 148 2 (.slice A x.reads.length c) x.reads.length (vS x.reads)*(atX b s x D*F))→AtCf b s x.me x.stamp D w1):=h_ (fun w1 A c hw=>Ao hw)
 generalize x.me=me at *
 generalize x.stamp=stamp at *
 generalize x.reads.length=rl at *
 go_enter func131,ntmps131;go_wp2;refine gN (AtCf b s me stamp D) HS0 fun hh0=>?_
 refine tH 0 ?_ rfl ?_ (tH 1 ?_ rfl ?_ (tH 2 ?_ rfl ?_ (tH 3 ?_ rfl ?_ (tH 4 ?_ rfl ?_ (tH 5 ?_ rfl ?_ (tH 6 ?_ rfl ?_ (tH 7 ?_ rfl ?_ (tH 8 ?_ rfl ?_ (tH 9 ?_ rfl ?_ (tH 10 ?_ rfl ?_ (tH 11 ?_ rfl ?_ (tH 12 ?_ rfl ?_ (tH 13 ?_ rfl ?_ ?_)))))))))))));all_goals (try (
  intro w hSw;have d0:=hSw.c0;have d2:=hSw.c2;have d3:=hSw.c3;have d6:=hSw.c6;have d21:=hSw.c21;have d13:=hSw.c13;have dl:=hSw.lt;try simp only[sP]
  go_simp<;>(try with_reducible rfl)))
 try simp only[sP]
 refine oH 14 rfl fun K hK=>?_
 go_simp;go_at_call 105;refine(HALL.o _).mono ?_;rintro e wA ⟨A,c,rfl,hs⟩;have HR:=h_ hs;(try go_wp2_with fail);refine hK.q ?_ fun hh1=>?_
 ·exact HCR.o _ _ _ HR.o
 try simp only[sP]
 refine oH 15 rfl fun K hK=>?_
 go_simp;go_at_call 160;refine(HFE.o _ _ _ HR.o).mono ?_;rintro e wB ⟨g,rfl,hs⟩;have HT:=h_ hs;(try go_wp2_with fail);refine hK.q ?_ fun hh2=>?_
 ·exact HCF.o _ _ HT.o
 try simp only[sP]
 refine tH 16 ?_ rfl ?_ (tH 17 ?_ rfl ?_ ?_);all_goals (try (
  intro w hSw;have d0:=hSw.c0;have d2:=hSw.c2;have d3:=hSw.c3;have d6:=hSw.c6;have d21:=hSw.c21;have d13:=hSw.c13;have dl:=hSw.lt;try simp only[sP]
  go_simp<;>(try with_reducible rfl)))
 try simp only[sP]
 refine oH 18 rfl fun K hK=>?_
 obtain⟨k1,k2,k3,u9,k4⟩:=HK.o _ _ HT.o;unfold pV at k1;go_simp;(try go_wp2_with fail);refine hK.q ?_ fun hh3=>?_
 ·exact(HCF.o _ _ HT.o).setCell (i:=17) (by omega) _
 try simp only[sP]
 refine dN ?_;have hcc:World.cell? _ ⟨b,17,none⟩=some (.pointer (some ⟨g,0,none⟩)):=k1.blk.cell 17;have hcl:=k1.blk.lt;unfold pV at HEN;go_wp2_with (go_at_call 134;refine(HEN.o _ _ k1).mono ?_;rintro e w5 ⟨rfl,hs⟩;have HZ:=h_ hs);exact bodyPost_end (results_none rfl _ _ _) rfl ⟨rfl,HZ.o⟩
end Go.Proofs.YtfodmgaliclhfaaGreatDoor

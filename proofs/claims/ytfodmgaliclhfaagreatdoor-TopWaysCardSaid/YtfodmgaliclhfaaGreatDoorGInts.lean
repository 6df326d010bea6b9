/- Lemmas. -/
import Derived.Test.YtfodmgaliclhfaaGreatDoorGAtTold
import Derived.Test.YtfodmgaliclhfaaGreatDoorGPlain
import Derived.Deep.OwnRows
import Derived.WalkSmall
import Derived.Outline
import Derived.Deep.RegionWith
namespace Go.Proofs.YtfodmgaliclhfaaGreatDoor
set_option linter.unusedVariables false
set_option linter.unusedSimpArgs false
set_option maxRecDepth 100000
set_option maxHeartbeats 4000000
open Go.RowKit Go.Proofs.Tryz Iq Jq
section
variable (ω w : World) (F : HP)
theorem Qm (b:Nat)(s:PSt)(x:PAt)(h:Sat ω w (atH b s x*F))(hk:x.state=3)(f:PFe)(hi:x.inner=.fetch f)(dep:Nat→Nat)(hf:ItFine dep x.run x.v)(hfin:Fin4 x.run.fin)(hr:x.reads.length≤16)(hs:s.fit)(hu:U64 f.word)(hn:∀c,(x.told s).inner=.commit c→c.now≤4611686018427387904):
  Calls prog 94 #[.pointer b] w (Rets ω F (.tuple #[]) (atH b s (x.told s))):=by
 by_cases h0:f.rule.fin=0
 ·exact Kv ω w F b s x h f hi h0 hn
 ·by_cases h5:f.rule.fin=5
  ·exact Ku ω w F b s x h f hi h5 hn
  ·exact Kt ω w F b s x h f hi h0 h5 (OH ω w F b s x h hk f hi dep hf hfin hr hs hu) hn
theorem Qn (b:Nat)(s:PSt)(x:PAt)(h:Sat ω w (atH b s x*F))(hk:x.state=4∨x.state=5)(f:PEx)(hi:x.inner=.extend f)(hs:s.fit)(hv:x.v.need≤1000000)(hn:∀c,(x.told s).inner=.commit c→c.now≤4611686018427387904):
  Calls prog 94 #[.pointer b] w (Rets ω F (.tuple #[]) (atH b s (x.told s))):=by
 by_cases h0:f.rule.fin=0
 ·exact Kx ω w F b s x h f hi h0 hn
 ·by_cases h5:f.rule.fin=5
  ·exact Kw ω w F b s x h f hi h5 hn
  ·rcases hk with hk|hk
   ·exact FL ω w F b s x h f hi h0 h5 (OG ω w F b s x h hk f hi hs hv) hn
   ·exact FL ω w F b s x h f hi h0 h5 (OE ω w F b s x h hk f hi) hn
theorem Qo (b:Nat)(s:PSt)(x:PAt)(h:Sat ω w (atH b s x*F))(hk:x.state=6)(f:PCo)(hi:x.inner=.commit f)(hn:∀c,(x.told s).inner=.commit c→c.now≤4611686018427387904):
  Calls prog 94 #[.pointer b] w (Rets ω F (.tuple #[]) (atH b s (x.told s))):=by
 by_cases h0:f.rule.fin=0
 ·exact LA ω w F b s x h f hi h0 hn
 ·by_cases h5:f.rule.fin=5
  ·exact Kz ω w F b s x h f hi h5 hn
  ·exact Ky ω w F b s x h f hi h0 h5 (OD ω w F b s x h hk f hi) hn
theorem Hd {x:PAt}{s:PSt}{a:PAns}(h8:x.state≠8)(ha:a.err≠0):x.tell s a={x.out 4 a.err (-1) with state:=8}:=by
 unfold PAt.tell;rw[if_neg h8,if_pos ha]
theorem AZ {x:PAt}{s:PSt}{a:PAns}{k:Nat}(hk:x.state=k)(h8:k≠8)(ha:a.err=0):x.tell s a=match (generalizing:=false) k with
 |0=>{x with state:=1}
 |1=>{x with begun:=true,begin:=a.word,stamp:=a.word,state:=2}
 |2=>x.work s
 |7=>{x with state:=8}
 |_=>{x with inner:=x.inner.tell a}.told s:=by
 subst hk;unfold PAt.tell;rw[if_neg h8,if_neg (by simp[ha])]
 rfl
theorem DY (s:PSt)(x:PAt)(D:AtD)(k:Nat):(atC s x D).setIfInBounds 14 (.int .i64 k)=atC s {x with state:=k} D:=rfl
theorem Qs (b:Nat)(s:PSt)(x:PAt)(h:Sat ω w (atH b s x*F))(hk:x.state=8)(aw av ao ae:Nat)(ah ad:Bool):
  Calls prog 62 #[.pointer b,.agg #[υ aw,υ av,.bool ah,ao,.bool ad,ae]] w (Rets ω F (.tuple #[]) (atH b s (x))):=by
 obtain⟨D,hx⟩:=AC h;have hb:=AA hx;have c14:∀o,(w.alloc o).cell? (κ b 14)=some (.int .i64 8):=fun o=>by have:=(hb.alloc o).cell 14;rw[this];show some (Value.int .i64 x.state)=_;rw[hk];rfl
 have lt:=hb.lt;have lt1:b<w.heap.size+1:=by omega
 have fz:∀o i,(w.alloc o).frozen? (κ b i)=false:=fun o i=>(hb.alloc o).frozen i
 have fzw:=hb.frozen;have c14w:w.cell? (κ b 14)=some (.int .i64 8):=by have:=hb.cell 14;rw[this];show some (Value.int .i64 x.state)=_;rw[hk];rfl
 have HY:Hid (∀o,Sat ω (w.alloc o) (atH b s x*F)):=h_ (fun o=>h.junk o)
 clear h hx hb hk;go_enter func62,ntmps62;go_wp2;first
  |exact bodyPost_ret (results_none rfl _ _ _) rfl ⟨rfl,HY.o _⟩
  |exact bodyPost_end (results_none rfl _ _ _) rfl ⟨rfl,HY.o _⟩
theorem LB (b:Nat)(s:PSt)(x:PAt)(h:Sat ω w (atH b s x*F))(k:Nat)(hk:x.state=k)(h8:k≠8)(aw av ao ae:Nat)(ah ad:Bool)(he:ae≠0):
  Calls prog 62 #[.pointer b,.agg #[υ aw,υ av,.bool ah,ao,.bool ad,ae]] w (Rets ω F (.tuple #[]) (atH b s ({x.out 4 ae (-1) with state:=8}))):=by
 obtain⟨D,hx⟩:=AC h;have hb:=AA hx;have c14:∀o,(w.alloc o).cell? (κ b 14)=some (.int .i64 k):=fun o=>by have:=(hb.alloc o).cell 14;rw[this];show some (Value.int .i64 x.state)=_;rw[hk]
 have lt:=hb.lt;have lt1:b<w.heap.size+1:=by omega
 have fz:∀o i,(w.alloc o).frozen? (κ b i)=false:=fun o i=>(hb.alloc o).frozen i
 have fzw:=hb.frozen;have c14w:w.cell? (κ b 14)=some (.int .i64 k):=by have:=hb.cell 14;rw[this];show some (Value.int .i64 x.state)=_;rw[hk]
 have HO:Hid (∀o,Calls prog 92 #[.pointer b,ι 4,ae,ι (-1)] (w.alloc o) (Rets ω F (.tuple #[]) (atH b s (x.out 4 ae (-1))))):=h_ (fun o=>Bk ω _ F b s x (h.junk o) 4 ae (-1))
 have HS:Hid (∀w1,Sat ω w1 (atH b s (x.out 4 ae (-1))*F)→Sat ω (w1.setCell (κ b 14) (ι 8)) (atH b s {x.out 4 ae (-1) with state:=8}*F)∧b<w1.heap.size∧w1.frozen? (κ b 14)=false∧∃u,w1.cell? (κ b 14)=some u):=h_ (fun w1 h1=>by
  refine⟨Bj h1 14 _ (fun D=>DY s _ D 8) rfl rfl rfl rfl,?_⟩
  obtain⟨D1,h2⟩:=AC h1;have h3:=AA h2;exact⟨h3.lt,h3.frozen 14,_,h3.cell 14⟩)
 have d8:((k:Int)==8)=false:=by simp;omega
 have de:((ae:Int) != 0)=true:=by simp;omega
 generalize x.out 4 ae (-1)=y at *
 clear h hx hb hk h8 he;go_enter func62,ntmps62;go_wp2_with (go_at_call 92;refine(HO.o _).mono ?_;rintro e w1 ⟨rfl,hs⟩;obtain⟨z1,z2,z3,u9,z4⟩:=HS.o _ hs;have Z1:=h_ z1;clear hs z1);first
  |exact bodyPost_ret (results_none rfl _ _ _) rfl ⟨rfl,Z1.out⟩
  |exact bodyPost_end (results_none rfl _ _ _) rfl ⟨rfl,Z1.out⟩
theorem Qw (b:Nat)(s:PSt)(x:PAt)(h:Sat ω w (atH b s x*F))(hk:x.state=0)(aw av ao:Nat)(ah ad:Bool):
  Calls prog 62 #[.pointer b,.agg #[υ aw,υ av,.bool ah,ao,.bool ad,ι 0]] w (Rets ω F (.tuple #[]) (atH b s ({x with state:=1}))):=by
 obtain⟨D,hx⟩:=AC h;have hb:=AA hx;have c14:∀o,(w.alloc o).cell? (κ b 14)=some (.int .i64 0):=fun o=>by have:=(hb.alloc o).cell 14;rw[this];show some (Value.int .i64 x.state)=_;rw[hk];rfl
 have lt:=hb.lt;have lt1:b<w.heap.size+1:=by omega
 have fz:∀o i,(w.alloc o).frozen? (κ b i)=false:=fun o i=>(hb.alloc o).frozen i
 have fzw:=hb.frozen;have c14w:w.cell? (κ b 14)=some (.int .i64 0):=by have:=hb.cell 14;rw[this];show some (Value.int .i64 x.state)=_;rw[hk];rfl
 have HS:Hid (Sat ω (w.setCell (κ b 14) (ι 1)) (atH b s {x with state:=1}*F)):=h_ (Bj h 14 _ (fun D=>DY s _ D 1) rfl rfl rfl rfl)
 clear h hx hb hk;go_enter func62,ntmps62;go_wp2;first
  |exact bodyPost_end (results_none rfl _ _ _) rfl ⟨rfl,HS.o.junk _⟩
  |exact bodyPost_ret (results_none rfl _ _ _) rfl ⟨rfl,HS.o.junk _⟩
theorem Qt (b:Nat)(s:PSt)(x:PAt)(h:Sat ω w (atH b s x*F))(hk:x.state=7)(aw av ao:Nat)(ah ad:Bool):
  Calls prog 62 #[.pointer b,.agg #[υ aw,υ av,.bool ah,ao,.bool ad,ι 0]] w (Rets ω F (.tuple #[]) (atH b s ({x with state:=8}))):=by
 obtain⟨D,hx⟩:=AC h;have hb:=AA hx;have c14:∀o,(w.alloc o).cell? (κ b 14)=some (.int .i64 7):=fun o=>by have:=(hb.alloc o).cell 14;rw[this];show some (Value.int .i64 x.state)=_;rw[hk];rfl
 have lt:=hb.lt;have lt1:b<w.heap.size+1:=by omega
 have fz:∀o i,(w.alloc o).frozen? (κ b i)=false:=fun o i=>(hb.alloc o).frozen i
 have fzw:=hb.frozen;have c14w:w.cell? (κ b 14)=some (.int .i64 7):=by have:=hb.cell 14;rw[this];show some (Value.int .i64 x.state)=_;rw[hk];rfl
 have HS:Hid (Sat ω (w.setCell (κ b 14) (ι 8)) (atH b s {x with state:=8}*F)):=h_ (Bj h 14 _ (fun D=>DY s _ D 8) rfl rfl rfl rfl)
 clear h hx hb hk;go_enter func62,ntmps62;go_wp2;first
  |exact bodyPost_end (results_none rfl _ _ _) rfl ⟨rfl,HS.o.junk _⟩
  |exact bodyPost_ret (results_none rfl _ _ _) rfl ⟨rfl,HS.o.junk _⟩
theorem OI (s:PSt)(x:PAt)(D:AtD)(k:Nat):((((atC s x D).setIfInBounds 19 (.bool true)).setIfInBounds 20 (.int .u64 k)).setIfInBounds 21 (.int .u64 k)).setIfInBounds 14 (.int .i64 2)=atC s {x with begun:=true,begin:=k,stamp:=k,state:=2} D:=rfl
theorem Qv (b:Nat)(s:PSt)(x:PAt)(h:Sat ω w (atH b s x*F))(hk:x.state=1)(aw av ao:Nat)(ah ad:Bool):
  Calls prog 62 #[.pointer b,.agg #[υ aw,υ av,.bool ah,ao,.bool ad,ι 0]] w (Rets ω F (.tuple #[]) (atH b s ({x with begun:=true,begin:=aw,stamp:=aw,state:=2}))):=by
 obtain⟨D,hx⟩:=AC h;have hb:=AA hx;have c14:∀o,(w.alloc o).cell? (κ b 14)=some (.int .i64 1):=fun o=>by have:=(hb.alloc o).cell 14;rw[this];show some (Value.int .i64 x.state)=_;rw[hk];rfl
 have lt:=hb.lt;have lt1:b<w.heap.size+1:=by omega
 have fz:∀o i,(w.alloc o).frozen? (κ b i)=false:=fun o i=>(hb.alloc o).frozen i
 have fzw:=hb.frozen;have c14w:w.cell? (κ b 14)=some (.int .i64 1):=by have:=hb.cell 14;rw[this];show some (Value.int .i64 x.state)=_;rw[hk];rfl
 have c19w:=hb.c 19;have c20w:=hb.c 20;have c21w:=hb.c 21;have c19:∀o,(w.alloc o).cell? (κ b 19)=some (.bool x.begun):=fun o=>(hb.alloc o).cell 19
 have c20:∀o,(w.alloc o).cell? (κ b 20)=some (.int .u64 x.begin):=fun o=>(hb.alloc o).cell 20
 have c21:∀o,(w.alloc o).cell? (κ b 21)=some (.int .u64 x.stamp):=fun o=>(hb.alloc o).cell 21
 have HS:Hid (Sat ω ((((w.setCell (κ b 19) (.bool true)).setCell (κ b 20) (υ aw)).setCell (κ b 21) (υ aw)).setCell (κ b 14) (ι 2)) (atH b s {x with begun:=true,begin:=aw,stamp:=aw,state:=2}*F)):=h_ (by
  unfold atX at hx;refine AY (D:=D) ?_;exact((((hx.assoc.set 19 _).set 20 _).set 21 _).put 14 _ (OI s x D aw)).assoc')
 generalize x.begun=k1 at *
 generalize x.begin=k2 at *
 generalize x.stamp=k3 at *
 clear h hx hb hk;have hPb:w.heap.size≠b:=by omega
 have KB:Hid (Blk (w.alloc (.cells #[υ aw,υ av,.bool ah,ao,.bool ad,ι 0] 100)).drew w.heap.size 100 #[υ aw,υ av,.bool ah,ao,.bool ad,ι 0]):=h_ (Blk.new w 100 _);go_enter func62,ntmps62;go_wp2;refine wp_region_noPanic ?_;refine wp_region_held_drew (S:=(fun w'=>w'.cell? w.heap.size=some (.int .u64 aw)∧w.heap.size<w'.heap.size)) (by kernel_rfl) ⟨KB.out.cell 0,KB.out.lt⟩ (fun hh0=>?_)
 refine tH 0 ?_ rfl ?_ (tH 1 ?_ rfl ?_ (tH 2 ?_ rfl ?_ (tH 3 ?_ rfl ?_ (tH 4 ?_ rfl ?_ (tH 5 ?_ rfl ?_ (tH 6 ?_ rfl ?_ (tH 7 ?_ rfl ?_ (tH 8 ?_ rfl ?_ ?_))))))));all_goals (try (
  intro w hSw;have d0:=hSw.1;have dl:=hSw.2;try simp only[sP]
  go_simp<;>(try with_reducible rfl)))
 try simp only[sP]
 refine oH 9 rfl fun K hK=>?_
 go_simp;(try go_wp2_with fail);refine hK.q ?_ fun hh1=>?_
 ·refine⟨?_,?_⟩<;>go_simp
 clear hK K hh0;try simp only[sP]
 refine tH 10 ?_ rfl ?_ (tH 11 ?_ rfl ?_ ?_);all_goals (try (
  intro w hSw;have d0:=hSw.1;have dl:=hSw.2;try simp only[sP]
  go_simp<;>(try with_reducible rfl)))
 try simp only[sP]
 refine oH 12 rfl fun K hK=>?_
 go_simp;(try go_wp2_with fail);refine hK.q ?_ fun hh2=>?_
 ·refine⟨?_,?_⟩<;>go_simp
 clear hK K hh1;try simp only[sP]
 refine tH 13 ?_ rfl ?_ (tH 14 ?_ rfl ?_ ?_);all_goals (try (
  intro w hSw;have d0:=hSw.1;have dl:=hSw.2;try simp only[sP]
  go_simp<;>(try with_reducible rfl)))
 try simp only[sP]
 refine oH 15 rfl fun K hK=>?_
 go_simp;(try go_wp2_with fail);refine hK.q ?_ fun hh3=>?_
 ·refine⟨?_,?_⟩<;>go_simp
 clear hK K hh2;try simp only[sP]
 refine dN ?_;go_wp2;first
  |exact bodyPost_end (results_none rfl _ _ _) rfl ⟨rfl,(HS.o.junk _).drew⟩
  |exact bodyPost_ret (results_none rfl _ _ _) rfl ⟨rfl,(HS.o.junk _).drew⟩
theorem Qu (b:Nat)(s:PSt)(x:PAt)(h:Sat ω w (atH b s x*F))(hk:x.state=2)(aw av ao:Nat)(ah ad:Bool)(dep:Nat→Nat)(hf:ItFine dep x.run x.v)(hfin:Fin4 x.run.fin)(hr:x.reads.length≤16)(hs:s.fit)(hni:∀c,x.inner≠.commit c):
  Calls prog 62 #[.pointer b,.agg #[υ aw,υ av,.bool ah,ao,.bool ad,ι 0]] w (Rets ω F (.tuple #[]) (atH b s (x.work s))):=by
 obtain⟨D,hx⟩:=AC h;have hb:=AA hx;have c14:∀o,(w.alloc o).cell? (κ b 14)=some (.int .i64 2):=fun o=>by have:=(hb.alloc o).cell 14;rw[this];show some (Value.int .i64 x.state)=_;rw[hk];rfl
 have lt:=hb.lt;have lt1:b<w.heap.size+1:=by omega
 have fz:∀o i,(w.alloc o).frozen? (κ b i)=false:=fun o i=>(hb.alloc o).frozen i
 have fzw:=hb.frozen;have c14w:w.cell? (κ b 14)=some (.int .i64 2):=by have:=hb.cell 14;rw[this];show some (Value.int .i64 x.state)=_;rw[hk];rfl
 have HO:Hid (∀o,Calls prog 93 #[.pointer b] (w.alloc o) (Rets ω F (.tuple #[]) (atH b s (x.work s)))):=h_ (fun o=>MA ω _ F b s x (h.junk o) dep hf hfin hni (by omega) hs)
 generalize x.work s=y at *
 clear h hx hb hk hf hfin hr hs hni;go_enter func62,ntmps62;go_wp2_with (go_at_call 93;refine(HO.o _).mono ?_;rintro e w1 ⟨rfl,hs⟩;have HZ:=h_ hs;clear hs);first
  |exact bodyPost_end (results_none rfl _ _ _) rfl ⟨rfl,HZ.o⟩
  |exact bodyPost_ret (results_none rfl _ _ _) rfl ⟨rfl,HZ.o⟩
theorem Qp (b:Nat)(s:PSt)(x:PAt)(h:Sat ω w (atH b s x*F))(k:Nat)(hk:x.state=k)(hk2:k=3)(aw av ao:Nat)(ah ad:Bool)(f:PFe)(hi:x.inner=.fetch f)(dep:Nat→Nat)(hf:ItFine dep x.run x.v)(hfin:Fin4 x.run.fin)(hr:x.reads.length≤16)(hs:s.fit)(hu:U64 (f.tell ⟨aw,⟨av,ah,ao⟩,ad,0⟩).word)(hn:∀c,(PAt.told {x with inner:=.fetch (f.tell ⟨aw,⟨av,ah,ao⟩,ad,0⟩)} s).inner=.commit c→c.now≤4611686018427387904):
  Calls prog 62 #[.pointer b,.agg #[υ aw,υ av,.bool ah,ao,.bool ad,ι 0]] w (Rets ω F (.tuple #[]) (atH b s (PAt.told {x with inner:=.fetch (f.tell ⟨aw,⟨av,ah,ao⟩,ad,0⟩)} s))):=by
 obtain⟨D,hx⟩:=AC h;have hb:=AA hx;have c14:∀o,(w.alloc o).cell? (κ b 14)=some (.int .i64 k):=fun o=>by have:=(hb.alloc o).cell 14;rw[this];show some (Value.int .i64 x.state)=_;rw[hk]
 have lt:=hb.lt;have lt1:b<w.heap.size+1:=by omega
 have fz:∀o i,(w.alloc o).frozen? (κ b i)=false:=fun o i=>(hb.alloc o).frozen i
 have fzw:=hb.frozen;have c14w:w.cell? (κ b 14)=some (.int .i64 k):=by have:=hb.cell 14;rw[this];show some (Value.int .i64 x.state)=_;rw[hk]
 obtain⟨G,j1,j2⟩:=AF hx;rw[hi] at j1;obtain⟨g,e1,e2,j3,j4⟩:=Ci j1;have c15w:w.cell? (κ b 15)=some (.iface 194 (.pointer g)):=by have:=hb.cell 15;rw[this];show some D.inn=_;rw[e1]
 have c15:∀o q,((w.alloc o).drewN q).cell? (κ b 15)=some (.iface 194 (.pointer g)):=fun o q=>by have:=(hb.alloc o).cell 15;show(w.alloc o).cell? _=_;rw[this];show some D.inn=_;rw[e1]
 have HTE:Hid (∀o q,Calls prog 389 #[.pointer g,.agg #[υ aw,υ av,.bool ah,ao,.bool ad,ι 0]] ((w.alloc o).drewN q) fun e w'=>e=.returned (.tuple #[])∧Sat ω w' (atH b s {x with inner:=.fetch (f.tell ⟨aw,⟨av,ah,ao⟩,ad,0⟩)}*F)):=h_ (fun o q=>by
  have h1:=(j3.junk o).drewN q;refine(Sa ω _ _ g f h1 ⟨aw,⟨av,ah,ao⟩,ad,0⟩).mono ?_;rintro e w1 ⟨rfl,h2⟩;refine⟨rfl,?_⟩;have h3:=j4 w1 emp _ h2.emp_;have h4:=j2 w1 emp _ h3;exact AY (D:=D) (h4.perm (AD _)))
 have HTO:Hid (∀w1,Sat ω w1 (atH b s {x with inner:=.fetch (f.tell ⟨aw,⟨av,ah,ao⟩,ad,0⟩)}*F)→Calls prog 94 #[.pointer b] w1 (Rets ω F (.tuple #[]) (atH b s (PAt.told {x with inner:=.fetch (f.tell ⟨aw,⟨av,ah,ao⟩,ad,0⟩)} s)))):=h_ (fun w1 h1=>Qm ω w1 F b s _ h1 (hk.trans hk2) _ rfl dep hf hfin hr hs hu hn)
 have hm:=Mw;have n0:((k:Int)==0)=false:=by simp;omega
 have n1:((k:Int)==1)=false:=by simp;omega
 have n2:((k:Int)==2)=false:=by simp;omega
 have n7:((k:Int)==7)=false:=by simp;omega
 have n8:((k:Int)==8)=false:=by simp;omega
 generalize ({x with inner:=.fetch (f.tell ⟨aw,⟨av,ah,ao⟩,ad,0⟩)}:PAt)=y at *
 clear h hx hb hk hk2 hi j1 j2 j3 j4 e1 e2 hf hfin hr hs hu hn;go_enter func62,ntmps62;go_wp2;refine rT 5 ?_;simp only[sD,sE,sF,sG];repeat still_step
 refine wpStill_nil ?_;go_wp2_with (first
  |(go_at_call 389;refine(HTE.o _ _).mono ?_;rintro e w1 ⟨rfl,hs⟩;have HY:=h_ hs;clear hs)
  |(go_at_call 94;refine(HTO.o _ HY.o).mono ?_;rintro e w1 ⟨rfl,hs⟩;have HZ:=h_ hs;clear hs))
 first
  |exact bodyPost_end (results_none rfl _ _ _) rfl ⟨rfl,HZ.o⟩
  |exact bodyPost_ret (results_none rfl _ _ _) rfl ⟨rfl,HZ.o⟩
theorem Qq (b:Nat)(s:PSt)(x:PAt)(h:Sat ω w (atH b s x*F))(k:Nat)(hk:x.state=k)(hk2:k=4∨k=5)(aw av ao:Nat)(ah ad:Bool)(f:PEx)(hi:x.inner=.extend f)(hs:s.fit)(hv:x.v.need≤1000000)(hl:f.seen.length≤1000)(hok:f.ok)(hat:f.at_≤1000)(hn:∀c,(PAt.told {x with inner:=.extend (f.tell ⟨aw,⟨av,ah,ao⟩,ad,0⟩)} s).inner=.commit c→c.now≤4611686018427387904):
  Calls prog 62 #[.pointer b,.agg #[υ aw,υ av,.bool ah,ao,.bool ad,ι 0]] w (Rets ω F (.tuple #[]) (atH b s (PAt.told {x with inner:=.extend (f.tell ⟨aw,⟨av,ah,ao⟩,ad,0⟩)} s))):=by
 obtain⟨D,hx⟩:=AC h;have hb:=AA hx;have c14:∀o,(w.alloc o).cell? (κ b 14)=some (.int .i64 k):=fun o=>by have:=(hb.alloc o).cell 14;rw[this];show some (Value.int .i64 x.state)=_;rw[hk]
 have lt:=hb.lt;have lt1:b<w.heap.size+1:=by omega
 have fz:∀o i,(w.alloc o).frozen? (κ b i)=false:=fun o i=>(hb.alloc o).frozen i
 have fzw:=hb.frozen;have c14w:w.cell? (κ b 14)=some (.int .i64 k):=by have:=hb.cell 14;rw[this];show some (Value.int .i64 x.state)=_;rw[hk]
 obtain⟨G,j1,j2⟩:=AF hx;rw[hi] at j1;obtain⟨g,e1,e2,j3,j4⟩:=DT j1;have c15w:w.cell? (κ b 15)=some (.iface 195 (.pointer g)):=by have:=hb.cell 15;rw[this];show some D.inn=_;rw[e1]
 have c15:∀o q,((w.alloc o).drewN q).cell? (κ b 15)=some (.iface 195 (.pointer g)):=fun o q=>by have:=(hb.alloc o).cell 15;show(w.alloc o).cell? _=_;rw[this];show some D.inn=_;rw[e1]
 have HTE:Hid (∀o q,Calls prog 397 #[.pointer g,.agg #[υ aw,υ av,.bool ah,ao,.bool ad,ι 0]] ((w.alloc o).drewN q) fun e w'=>e=.returned (.tuple #[])∧Sat ω w' (atH b s {x with inner:=.extend (f.tell ⟨aw,⟨av,ah,ao⟩,ad,0⟩)}*F)):=h_ (fun o q=>by
  have h1:=(j3.junk o).drewN q;refine(Sd ω _ _ g f h1 hl hok hat ⟨aw,⟨av,ah,ao⟩,ad,0⟩).mono ?_;rintro e w1 ⟨rfl,h2⟩;refine⟨rfl,?_⟩;have h3:=j4 w1 emp _ h2.emp_;have h4:=j2 w1 emp _ h3;exact AY (D:=D) (h4.perm (AD _)))
 have HTO:Hid (∀w1,Sat ω w1 (atH b s {x with inner:=.extend (f.tell ⟨aw,⟨av,ah,ao⟩,ad,0⟩)}*F)→Calls prog 94 #[.pointer b] w1 (Rets ω F (.tuple #[]) (atH b s (PAt.told {x with inner:=.extend (f.tell ⟨aw,⟨av,ah,ao⟩,ad,0⟩)} s)))):=h_ (fun w1 h1=>Qn ω w1 F b s _ h1 (by rw[show({x with inner:=PIn.extend (f.tell ⟨aw,⟨av,ah,ao⟩,ad,0⟩)}:PAt).state=x.state from rfl,hk];exact hk2) _ rfl hs hv hn)
 have hm:=My;have n0:((k:Int)==0)=false:=by simp;omega
 have n1:((k:Int)==1)=false:=by simp;omega
 have n2:((k:Int)==2)=false:=by simp;omega
 have n7:((k:Int)==7)=false:=by simp;omega
 have n8:((k:Int)==8)=false:=by simp;omega
 generalize ({x with inner:=.extend (f.tell ⟨aw,⟨av,ah,ao⟩,ad,0⟩)}:PAt)=y at *
 clear h hx hb hk hk2 hi j1 j2 j3 j4 e1 e2 hs hv hl hok hat hn;go_enter func62,ntmps62;go_wp2;refine rT 5 ?_;simp only[sD,sE,sF,sG];repeat still_step
 refine wpStill_nil ?_;go_wp2_with (first
  |(go_at_call 397;refine(HTE.o _ _).mono ?_;rintro e w1 ⟨rfl,hs⟩;have HY:=h_ hs;clear hs)
  |(go_at_call 94;refine(HTO.o _ HY.o).mono ?_;rintro e w1 ⟨rfl,hs⟩;have HZ:=h_ hs;clear hs))
 first
  |exact bodyPost_end (results_none rfl _ _ _) rfl ⟨rfl,HZ.o⟩
  |exact bodyPost_ret (results_none rfl _ _ _) rfl ⟨rfl,HZ.o⟩
theorem Qr (b:Nat)(s:PSt)(x:PAt)(h:Sat ω w (atH b s x*F))(k:Nat)(hk:x.state=k)(hk2:k=6)(aw av ao:Nat)(ah ad:Bool)(f:PCo)(hi:x.inner=.commit f)(hc:f.set)(hn:∀c,(PAt.told {x with inner:=.commit (f.tell ⟨aw,⟨av,ah,ao⟩,ad,0⟩)} s).inner=.commit c→c.now≤4611686018427387904):
  Calls prog 62 #[.pointer b,.agg #[υ aw,υ av,.bool ah,ao,.bool ad,ι 0]] w (Rets ω F (.tuple #[]) (atH b s (PAt.told {x with inner:=.commit (f.tell ⟨aw,⟨av,ah,ao⟩,ad,0⟩)} s))):=by
 obtain⟨D,hx⟩:=AC h;have hb:=AA hx;have c14:∀o,(w.alloc o).cell? (κ b 14)=some (.int .i64 k):=fun o=>by have:=(hb.alloc o).cell 14;rw[this];show some (Value.int .i64 x.state)=_;rw[hk]
 have lt:=hb.lt;have lt1:b<w.heap.size+1:=by omega
 have fz:∀o i,(w.alloc o).frozen? (κ b i)=false:=fun o i=>(hb.alloc o).frozen i
 have fzw:=hb.frozen;have c14w:w.cell? (κ b 14)=some (.int .i64 k):=by have:=hb.cell 14;rw[this];show some (Value.int .i64 x.state)=_;rw[hk]
 obtain⟨G,j1,j2⟩:=AF hx;rw[hi] at j1;obtain⟨g,e1,e2,j3,j4⟩:=DU j1;have c15w:w.cell? (κ b 15)=some (.iface 196 (.pointer g)):=by have:=hb.cell 15;rw[this];show some D.inn=_;rw[e1]
 have c15:∀o q,((w.alloc o).drewN q).cell? (κ b 15)=some (.iface 196 (.pointer g)):=fun o q=>by have:=(hb.alloc o).cell 15;show(w.alloc o).cell? _=_;rw[this];show some D.inn=_;rw[e1]
 have HTE:Hid (∀o q,Calls prog 400 #[.pointer g,.agg #[υ aw,υ av,.bool ah,ao,.bool ad,ι 0]] ((w.alloc o).drewN q) fun e w'=>e=.returned (.tuple #[])∧Sat ω w' (atH b s {x with inner:=.commit (f.tell ⟨aw,⟨av,ah,ao⟩,ad,0⟩)}*F)):=h_ (fun o q=>by
  have h1:=(j3.junk o).drewN q;refine(So ω _ _ g f h1 hc.w.1 ⟨aw,⟨av,ah,ao⟩,ad,0⟩).mono ?_;rintro e w1 ⟨rfl,h2⟩;refine⟨rfl,?_⟩;have h3:=j4 w1 emp _ h2.emp_;have h4:=j2 w1 emp _ h3;exact AY (D:=D) (h4.perm (AD _)))
 have HTO:Hid (∀w1,Sat ω w1 (atH b s {x with inner:=.commit (f.tell ⟨aw,⟨av,ah,ao⟩,ad,0⟩)}*F)→Calls prog 94 #[.pointer b] w1 (Rets ω F (.tuple #[]) (atH b s (PAt.told {x with inner:=.commit (f.tell ⟨aw,⟨av,ah,ao⟩,ad,0⟩)} s)))):=h_ (fun w1 h1=>Qo ω w1 F b s _ h1 (hk.trans hk2) _ rfl hn)
 have hm:=NA;have n0:((k:Int)==0)=false:=by simp;omega
 have n1:((k:Int)==1)=false:=by simp;omega
 have n2:((k:Int)==2)=false:=by simp;omega
 have n7:((k:Int)==7)=false:=by simp;omega
 have n8:((k:Int)==8)=false:=by simp;omega
 generalize ({x with inner:=.commit (f.tell ⟨aw,⟨av,ah,ao⟩,ad,0⟩)}:PAt)=y at *
 clear h hx hb hk hk2 hi j1 j2 j3 j4 e1 e2 hc hn;go_enter func62,ntmps62;go_wp2;refine rT 5 ?_;simp only[sD,sE,sF,sG];repeat still_step
 refine wpStill_nil ?_;go_wp2_with (first
  |(go_at_call 400;refine(HTE.o _ _).mono ?_;rintro e w1 ⟨rfl,hs⟩;have HY:=h_ hs;clear hs)
  |(go_at_call 94;refine(HTO.o _ HY.o).mono ?_;rintro e w1 ⟨rfl,hs⟩;have HZ:=h_ hs;clear hs))
 first
  |exact bodyPost_end (results_none rfl _ _ _) rfl ⟨rfl,HZ.o⟩
  |exact bodyPost_ret (results_none rfl _ _ _) rfl ⟨rfl,HZ.o⟩
end
theorem IP (w:World)(a b c d e A B C D E:Int)(ha:max 32 (min a 256)=A)(hb:max 1 (min b 16)=B)(hc:max 1 (min c 16)=C)(hd:max 1 (min d 4)=D)(he:min e 4611686018427387903=E):
  Calls prog 50 #[.agg #[a,b,c,d,υ e]] w fun en w'=>en=.returned (.agg #[A,B,C,D,υ E])∧Only Nob w w':=by
 go_enter func50,ntmps50;go_wp2;refine bodyPost_ret (v:=.agg #[A,B,C,D,υ E]) (by simp[results,results50,go_sem]) rfl ⟨rfl,?_⟩
 repeat' (first|(with_reducible first|exact Only.refl _ _|refine Only.setCell ?_ ?_ _|refine Only.alloc ?_ _|refine Only.drewN ?_ _|refine Only.drew ?_))
 all_goals (try exact .inr (Nat.le_refl _))
theorem Ui {w W:World}{p:Nat}{A B C D E X Y Z:Int}{tmps:Array Value}(h2:tmps.getD 2 undef=.pointer p){cs:Array Value}(hb:Blk W p 39 cs)(hcs:cs=#[.int .i64 A,.int .i64 B,.int .i64 C,.int .i64 D,.int .u64 E,.int .i64 X,.int .i64 Y,.int .i64 Z])(ho:Only Nob w W):
  bodyPost prog f32 (fun e w'=>e=.returned (.agg #[A,B,C,D,υ E,X,Y,Z])∧Only Nob w w') Exit.ret {tmps:=tmps,defers:=[]} W:=by
 subst hcs;have kl:=hb.lt;have m0:=hb.c 0;have m1:=hb.c 1;have m2:=hb.c 2;have m3:=hb.c 3;have m4:=hb.c 4;have m5:=hb.c 5;have m6:=hb.c 6;have m7:=hb.c 7;have h2':tmps[2]?.getD undef=.pointer p:=by simpa using h2
 refine bodyPost_ret (v:=.agg #[A,B,C,D,υ E,X,Y,Z]) ?_ rfl ⟨rfl,ho⟩;simp[results,results32,go_sem,h2',m0,m1,m2,m3,m4,m5,m6,m7]
theorem MD (w:World)(a b c d e x y z A B C D E X Y Z:Int)(ha:max 32 (min a 256)=A)(hb:max 1 (min b 16)=B)(hc:max 1 (min c 16)=C)(hd:max 1 (min d 4)=D)(he:min e 4611686018427387903=E)(hx:max 0 (min x 4)=X)(hy:max 0 (min y 96)=Y)(hz:max 0 (min z 400)=Z):
  Calls prog 32 #[.agg #[a,b,c,d,υ e,x,y,z]] w fun en w'=>en=.returned (.agg #[A,B,C,D,υ E,X,Y,Z])∧Only Nob w w':=by
 have HM:=h_ (fun w1=>IP w1 a b c d e A B C D E ha hb hc hd he)
 have KB:Hid (Blk ((w.alloc (.cells #[a,b,c,d,υ e,x,y,z] 39)).alloc (.cells #[ι 0,ι 0,ι 0,ι 0,υ 0,ι 0,ι 0,ι 0] 39)).drew w.heap.size 39 #[a,b,c,d,υ e,x,y,z]):=h_ ((Blk.new w 39 #[a,b,c,d,υ e,x,y,z]).alloc _);have KR:Hid (Blk ((w.alloc (.cells #[a,b,c,d,υ e,x,y,z] 39)).alloc (.cells #[ι 0,ι 0,ι 0,ι 0,υ 0,ι 0,ι 0,ι 0] 39)).drew (w.heap.size+1) 39 #[ι 0,ι 0,ι 0,ι 0,υ 0,ι 0,ι 0,ι 0]):=h_ (by
  have h9:=Blk.new (w.alloc (.cells #[a,b,c,d,υ e,x,y,z] 39)) 39 #[ι 0,ι 0,ι 0,ι 0,υ 0,ι 0,ι 0,ι 0];rw[World.size_alloc] at h9;exact h9)
 have HO:Hid (Only Nob w ((w.alloc (.cells #[a,b,c,d,υ e,x,y,z] 39)).alloc (.cells #[ι 0,ι 0,ι 0,ι 0,υ 0,ι 0,ι 0,ι 0] 39)).drew):=h_ (((Only.refl _ _).alloc _).alloc _).drew;clear ha hb hc hd he;go_enter func32,ntmps32;go_wp2;refine gN ((fun w'=>Blk w' w.heap.size 39 #[a,b,c,d,υ e,x,y,z])) KB.out fun hh0=>?_
 refine tH 0 ?_ rfl ?_ (tH 1 ?_ rfl ?_ (tH 3 ?_ rfl ?_ (tH 4 ?_ rfl ?_ (tH 5 ?_ rfl ?_ (tH 6 ?_ rfl ?_ (tH 7 ?_ rfl ?_ (tH 8 ?_ rfl ?_ (tH 9 ?_ rfl ?_ (tH 10 ?_ rfl ?_ (tH 11 ?_ rfl ?_ (tH 12 ?_ rfl ?_ (tH 13 ?_ rfl ?_ (tH 14 ?_ rfl ?_ ?_)))))))))))));all_goals (try (
  intro w hSw;have d0:=hSw.cell 0;have d1:=hSw.cell 1;have d2:=hSw.cell 2;have d3:=hSw.cell 3;have d4:=hSw.cell 4;have d5:=hSw.cell 5;have d6:=hSw.cell 6;have d7:=hSw.cell 7;have dl:=hSw.lt;try simp only[sP]
  go_simp<;>(try with_reducible rfl)))
 try simp only[sP]
 refine oH 2 rfl fun K hK=>?_
 go_simp;go_at_call 50;refine(HM.o _).mono ?_;rintro e wA ⟨rfl,hoA⟩;(try go_wp2_with fail);refine hK.q ?_ fun hh1=>?_
 ·exact hh0.only hoA (fun e=>e)
 clear hK K hh0;try simp only[sP]
 refine tH 15 ?_ rfl ?_ ?_;all_goals (try (
  intro w hSw;have d0:=hSw.cell 0;have d1:=hSw.cell 1;have d2:=hSw.cell 2;have d3:=hSw.cell 3;have d4:=hSw.cell 4;have d5:=hSw.cell 5;have d6:=hSw.cell 6;have d7:=hSw.cell 7;have dl:=hSw.lt;go_simp<;>(try with_reducible rfl)))
 try simp only[sP]
 refine oH 16 rfl fun K hK=>?_
 have k0:=(KR.out.only hoA (fun e=>e));have r0:=k0.cell 0;have r1:=k0.cell 1;have r2:=k0.cell 2;have r3:=k0.cell 3;have r4:=k0.cell 4;have r5:=k0.cell 5;have r6:=k0.cell 6;have r7:=k0.cell 7;have rf:=k0.frozen;have rl:=k0.lt;clear k0
 go_simp;(try go_wp2_with fail);refine hK.q ?_ fun hh2=>?_
 ·repeat (refine Blk.far ?_ (fun e=>by simp at e) _)
  exact hh1
 clear hK K hh1;try simp only[sP]
 refine dN ?_;go_wp2;have KB2:=(((((((((KR.out.only hoA (fun e=>e)).set_ 0 (.int .i64 A)).set_ 1 (.int .i64 B)).set_ 2 (.int .i64 C)).set_ 3 (.int .i64 D)).set_ 4 (.int .u64 E)).set_ 5 (.int .i64 X)).set_ 6 (.int .i64 Y)).set_ 7 (.int .i64 Z))
 have HO2:=(((((((((HO.o.trans hoA).setCell (p:=⟨w.heap.size+1,0,none⟩) (.inr (Nat.le_succ _)) (.int .i64 A)).setCell (p:=⟨w.heap.size+1,1,none⟩) (.inr (Nat.le_succ _)) (.int .i64 B)).setCell (p:=⟨w.heap.size+1,2,none⟩) (.inr (Nat.le_succ _)) (.int .i64 C)).setCell (p:=⟨w.heap.size+1,3,none⟩) (.inr (Nat.le_succ _)) (.int .i64 D)).setCell (p:=⟨w.heap.size+1,4,none⟩) (.inr (Nat.le_succ _)) (.int .u64 E)).setCell (p:=⟨w.heap.size+1,5,none⟩) (.inr (Nat.le_succ _)) (.int .i64 X)).setCell (p:=⟨w.heap.size+1,6,none⟩) (.inr (Nat.le_succ _)) (.int .i64 Y)).setCell (p:=⟨w.heap.size+1,7,none⟩) (.inr (Nat.le_succ _)) (.int .i64 Z));refine Ui ?_ KB2 ?_ HO2
 ·simp
 ·simp
section
def ints (l:List Int):List Value:=l.map (Value.int .i64)
def Stack (w:World)(base:Nat)(v:Value)(st:List Int):Prop:=w.ownsRow base 3 1 v st.length (ints st.reverse)
theorem Stack.nil (w:World)(base:Nat):Stack w base (.slice none 0 0) []:=⟨by simp[ints],.inl ⟨rfl,rfl⟩⟩
theorem Stack.form {w:World}{base:Nat}{v:Value}{st:List Int}(h:Stack w base v st):
  (st=[]∧v=.slice none 0 0)∨∃g cap,v=.slice (some ⟨g,0,none⟩) st.length cap∧base≤g∧g<w.heap.size∧st.length≤cap∧cap≤maxLen:=by
 rcases h.2 with⟨h1,h2⟩|⟨g,cap,cur,hv,hg,hh,hn,hc,_,_⟩
 ·exact .inl ⟨List.eq_nil_of_length_eq_zero h2,h1⟩
 ·refine .inr ⟨g,cap,hv,hg,?_,hn,hc⟩;rcases Nat.lt_or_ge g w.heap.size with hlt|hge
  ·exact hlt
  ·rw[Array.getElem?_eq_none hge] at hh;cases hh
theorem Stack.top {w:World}{base:Nat}{g cap t:Nat}{x:Int}{st:List Int}(h:Stack w base (.slice (some ⟨g,0,none⟩) (st.length+1) cap) (x::st))(ht:t=st.length):w.cell? (κ g t)=some (.int .i64 x):=by
 subst ht;have hc:=World.ownsRow.cells h (g:=g) rfl st.length (.int .i64 x) (by
  simp only[ints,List.reverse_cons,List.map_append];rw[List.getElem?_append_right (by simp)]
  simp)
 by_cases h0:st.length=0
 ·simpa [Addr.add,h0] using hc
 ·simpa [Addr.add,h0] using hc
theorem Stack.drew {w:World}{base:Nat}{v:Value}{st:List Int}(h:Stack w base v st):Stack w.drew base v st:=h
theorem Stack.keep {w w':World}{base:Nat}{v:Value}{st:List Int}(h:Stack w base v st)(hb:Below w.heap.size w w'):Stack w' base v st:=by
 refine⟨h.1,?_⟩;rcases h.2 with h1|⟨g,cap,cur,hv,hg,hh,r⟩
 ·exact .inl h1
 ·refine .inr ⟨g,cap,cur,hv,hg,(hb.block g ?_).trans hh,r⟩;rcases Nat.lt_or_ge g w.heap.size with hlt|hge
  ·exact hlt
  ·rw[Array.getElem?_eq_none hge] at hh;cases hh
theorem Stack.alloc {w:World}{base:Nat}{v:Value}{st:List Int}(h:Stack w base v st)(o:Obj):Stack (w.alloc o) base v st :=
 h.keep (Only.new (Only.alloc (Only.refl _ _) o))
theorem Stack.only {w w':World}{base:Nat}{v:Value}{st:List Int}(h:Stack w base v st)(hb:Only Nob w w'):Stack w' base v st:=h.keep hb.new
def InsAt (w:World)(b o:Nat)(x:PIns):Prop :=
 w.cell? (κ b o)=some (.int .i64 x.op)∧w.cell? (κ b (o+1))=some (.int .i64 x.a)∧w.cell? (κ b (o+2))=some (.int .i64 x.b)∧w.cell? (κ b (o+3))=some (.int .i64 x.c)∧w.cell? (κ b (o+4))=some (.int .u64 x.n)
def ProgIn (w:World)(B:Nat)(A:Option Addr)(l:List PIns):Prop :=
 l≠[]→∃b o,A=some ⟨b,o,none⟩∧b<B∧∀k x,l[k]?=some x→InsAt w b (o+k*5) x
theorem InsAt.keep {w w':World}{B b o:Nat}{x:PIns}(h:InsAt w b o x)(hb:Below B w w')(hlt:b<B):InsAt w' b o x:=by
 obtain⟨h0,h1,h2,h3,h4⟩:=h;exact⟨(hb.cell hlt).trans h0,(hb.cell hlt).trans h1,(hb.cell hlt).trans h2,(hb.cell hlt).trans h3,(hb.cell hlt).trans h4⟩
theorem ProgIn.keep {w w':World}{B:Nat}{A:Option Addr}{l:List PIns}(h:ProgIn w B A l)(hb:Below B w w'):ProgIn w' B A l:=by
 intro hl;obtain⟨b,o,hA,hlt,hi⟩:=h hl;exact⟨b,o,hA,hlt,fun k x hx=>(hi k x hx).keep hb hlt⟩
theorem ProgIn.at_ {w:World}{B:Nat}{A:Option Addr}{l:List PIns}(h:ProgIn w B A l){k:Nat}(hk:k<l.length):
  ∃b o,A=some ⟨b,o,none⟩∧b<B∧InsAt w b (o+k*5) (l.getD k PIns.none):=by
 obtain⟨b,o,hA,hlt,hi⟩:=h (by intro e;subst e;simp at hk)
 refine⟨b,o,hA,hlt,hi k _ ?_⟩;rw[gD,List.getElem?_eq_getElem hk];rfl
theorem ProgIn.drew {w:World}{B:Nat}{A:Option Addr}{l:List PIns}(h:ProgIn w B A l):ProgIn w.drew B A l:=h
theorem AJ {w w':World}{B:Nat}(h:Only Nob w w')(hB:B≤w.heap.size):Below B w w':=h.below hB (fun _ h=>h.elim)
theorem ED:(prog.info? 3).map (fun i=>(i.zero,i.size,i.bytes))=some (some (.int .i64 0),1,8):=by kernel_rfl
theorem Dp {w w':World}{base:Nat}{v:Value}{n:Nat}{xs:List Value}(h:w.ownsRow base 3 1 v n xs)(hg:w.grownBy w' v.ownBlock)(hb:base≤w.heap.size):Below base w w':=by
 refine(Only.of_grown (S:=fun k=>base≤k) hg ?_).below hb (fun k h=>h)
 intro k hk _;rcases h.2 with⟨h1,_⟩|⟨g,cap,cur,hv,hg',_⟩
 ·subst h1;simp[Value.ownBlock] at hk
 ·subst hv;simp[Value.ownBlock] at hk;omega
theorem Stack.push {w':World}{base:Nat}{v':Value}{st:List Int}{i:Int}(h:w'.ownsRow base 3 1 v' (st.length+1) (ints st.reverse++[.int .i64 i])):Stack w' base v' (i::st):=by
 unfold Stack;simpa [ints] using h
theorem Stack.pop {w:World}{base g cap:Nat}{x:Int}{st:List Int}(h:Stack w base (.slice (some ⟨g,0,none⟩) (st.length+1) cap) (x::st)):Stack w base (.slice (some ⟨g,0,none⟩) st.length cap) st:=by
 unfold Stack at h ⊢;have h':w.ownsRow base 3 1 (.slice (some ⟨g,0,none⟩) (st.length+1) cap) (st.length+1) (ints st.reverse++[.int .i64 x]):=by simpa [ints] using h
 exact ownsRow_pop (by simp[ints]) h'
theorem Below.alloc' {w w':World}{B:Nat}(h:Below B w w')(hB:B≤w'.heap.size)(o:Obj):Below B w (w'.alloc o):=h.alloc hB o
theorem Stack.drewN {w:World}{base:Nat}{v:Value}{st:List Int}(h:Stack w base v st)(n:Nat):Stack (w.drewN n) base v st:=h
theorem ProgIn.drewN {w:World}{B:Nat}{A:Option Addr}{l:List PIns}(h:ProgIn w B A l)(n:Nat):ProgIn (w.drewN n) B A l:=h
theorem Blk.one {w:World}{g:Nat}{t:TypeId}{v0:Value}(h:Blk w g t #[v0]):w.cell? g=some v0:=h.cell 0
theorem Blk.five {w:World}{g:Nat}{t:TypeId}{v0 v1 v2 v3 v4:Value}(h:Blk w g t #[v0,v1,v2,v3,v4]):
  w.cell? g=some v0∧w.cell? (κ g 1)=some v1∧w.cell? (κ g 2)=some v2∧w.cell? (κ g 3)=some v3∧w.cell? (κ g 4)=some v4 :=
 ⟨h.cell 0,h.cell 1,h.cell 2,h.cell 3,h.cell 4⟩
def IntBlk (w:World)(g:Nat)(l:List Int):Prop:=Blk w g 3 (ints l).toArray
section
variable {w w' : World} {g : Nat} {l : List Int}
theorem IntBlk.lt (h:IntBlk w g l):g<w.heap.size:=Blk.lt h
theorem IntBlk.cell (h:IntBlk w g l){k:Nat}{x:Int}(hk:l[k]?=some x):w.cell? (κ g k)=some (.int .i64 x):=by
 rw[Blk.cell h k];simp[ints,hk]
theorem IntBlk.cellD (h:IntBlk w g l){k:Nat}(d:Int)(hk:k<l.length):w.cell? (κ g k)=some (.int .i64 (l.getD k d)) :=
 h.cell (by rw[gD,List.getElem?_eq_getElem hk];rfl)
theorem IntBlk.frozen (h:IntBlk w g l)(k:Nat):w.frozen? (κ g k)=false:=Blk.frozen h k
theorem IntBlk.alloc (h:IntBlk w g l)(o:Obj):IntBlk (w.alloc o) g l:=Blk.alloc h o
theorem IntBlk.set_ (h:IntBlk w g l)(i:Nat)(x:Int):IntBlk (w.setCell (κ g i) x) g (l.set i x):=by
 have:=Blk.set_ h i (.int .i64 x)
 unfold IntBlk;simpa [ints,List.map_set] using this
theorem IntBlk.below {B:Nat}(h:IntBlk w g l)(hb:Below B w w')(hg:g<B):IntBlk w' g l:=Blk.below h hb hg
end
theorem NE (n:Nat):madeCells #[ι 0] n=(ints (List.replicate n 0)).toArray:=by
 apply Array.ext';simp[madeCells,ints];apply List.ext_getElem?;intro i;simp[List.getElem?_replicate];by_cases h:i<n
 ·simp[h,Nat.mod_one]
 ·simp[h]
theorem IntBlk.made (w:World)(n:Nat):IntBlk (w.alloc (.cells (madeCells #[ι 0] n) 3)) w.heap.size (List.replicate n 0):=by
 rw[NE];exact Blk.new w _ _
theorem Stack.far {w:World}{base:Nat}{v:Value}{st:List Int}(h:Stack w base v st){p:Addr}(hp:p.block<base)(u:Value):Stack (w.setCell p u) base v st:=by
 refine⟨h.1,?_⟩;rcases h.2 with h1|⟨g,cap,cur,hv,hg,hh,r⟩
 ·exact .inl h1
 ·exact .inr ⟨g,cap,cur,hv,hg,(Below.heap_setCell w p u g (by omega)).trans hh,r⟩
theorem ProgIn.alloc {w:World}{B:Nat}{A:Option Addr}{l:List PIns}(h:ProgIn w B A l)(hB:B≤w.heap.size)(o:Obj):ProgIn (w.alloc o) B A l:=h.keep (Below.alloc (Below.refl _ _) hB o)
end
theorem AW (n:Int)(w:World):Calls prog 209 #[n] w fun e w'=>e=.returned (.bool (beginsB n))∧w=w':=by
 rcases(by omega:n=14∨n≠14) with h|h
 ·subst h;go_enter func209,ntmps209;go_wp2;go_ret;exact⟨rfl,rfl⟩
 ·have d:(n==14)=false:=by simpa using h
  rcases(by omega:n=17∨n≠17) with h2|h2
  ·subst h2;go_enter func209,ntmps209;go_wp2;go_ret;exact⟨rfl,rfl⟩
  ·have d2:(n==17)=false:=by simpa using h2
   rw[show beginsB n=false by simp[beginsB,h,h2]]
   go_enter func209,ntmps209;go_wp2;go_ret;exact⟨rfl,rfl⟩
theorem AU (n:Int)(w:World):Calls prog 181 #[n] w fun e w'=>e=.returned (.int .i64 (endsI n))∧w=w':=by
 rcases(by omega:n=15∨n=18∨n=19∨(n≠15∧n≠18∧n≠19)) with rfl|rfl|rfl|⟨h1,h2,h3⟩
 ·rw[show endsI 15=14 by decide]
  go_enter func181,ntmps181;go_wp2;go_ret;exact⟨rfl,rfl⟩
 ·rw[show endsI 18=17 by decide]
  go_enter func181,ntmps181;go_wp2;go_ret;exact⟨rfl,rfl⟩
 ·rw[show endsI 19=18 by decide]
  go_enter func181,ntmps181;go_wp2;go_ret;exact⟨rfl,rfl⟩
 ·rw[show endsI n=0 by simp[endsI,h1,h2,h3]]
  have d1:(n==15)=false:=by simpa using h1
  have d2:(n==18)=false:=by simpa using h2
  have d3:(n==19)=false:=by simpa using h3
  go_enter func181,ntmps181;go_wp2;go_ret;exact⟨rfl,rfl⟩
theorem Es (base:Nat)(v:Value)(st:List Int)(w:World)(h:Stack w base v st)(hl:st.length≤1000):
  Calls prog 178 #[v] w fun e w'=>e=.returned (.int .i64 (topP st))∧w=w':=by
 cases st with
 |nil =>
  rw[show topP [] = -1 from rfl]
  rcases h.form with⟨_,rfl⟩|⟨g,cap,hv,_,_,_,hc⟩
  ·go_enter func178,ntmps178;go_wp2;go_ret;exact⟨rfl,rfl⟩
  ·rw[hv];clear h hv;simp only[List.length_nil];go_enter func178,ntmps178;go_wp2;go_ret;exact⟨rfl,rfl⟩
 |cons x r =>
  rw[show topP (x::r)=x from rfl]
  rcases h.form with⟨h0,_⟩|⟨g,cap,hv,_,_,_,hc⟩
  ·cases h0
  ·subst hv;have hc:=h.top rfl;simp only[List.length_cons] at hl ⊢;clear h;generalize r.length=m at *
   have hd:((m:Int)+1==0)=false:=by simp;omega
   go_enter func178,ntmps178;go_wp2;go_ret;exact⟨rfl,rfl⟩
theorem Hy (base:Nat)(v:Value)(p:Value)(w:World)(h:Stack w base v []):
  Calls prog 208 #[v,.agg #[p]] w fun e w'=>e=.returned (ι 0)∧Only Nob w w':=by
 rcases h.form with⟨_,rfl⟩|⟨g,cap,hv,_,_,_,hc⟩
 ·go_enter func208,ntmps208;go_wp2;go_ret;exact⟨rfl,Only.alloc (Only.refl _ _) _⟩
 ·rw[hv];clear h hv;simp only[List.length_nil];go_enter func208,ntmps208;go_wp2;go_ret;exact⟨rfl,Only.alloc (Only.refl _ _) _⟩
theorem Dl (base:Nat)(v:Value)(x:Int)(r:List Int)(w:World)(h:Stack w base v (x::r))(hl:(x::r).length≤1000):
  Calls prog 178 #[v] w fun e w'=>e=.returned x∧w=w':=Es base v (x::r) w h hl
theorem GW (base B:Nat)(v:Value)(k:Nat)(r:List Int)(w:World)(A:Option Addr)(cap:Nat)(l:List PIns)(h:Stack w base v ((k:Int)::r))(hl:r.length<1000)(hp:ProgIn w B A l)(hB:B≤w.heap.size)
  (hn:l.length≤1000) (hk:k<l.length):
  Calls prog 208 #[v,.agg #[.slice A l.length cap]] w fun e w'=>e=.returned (.int .i64 (opOf l k))∧Only Nob w w':=by
 obtain⟨b,o,rfl,hlt,hi⟩:=hp.at_ hk;have hc:=hi.1;have hblt:b<w.heap.size:=by omega
 have HS:Hid (Stack w base v ((k:Int)::r)):=h;rcases h.form with⟨h0,_⟩|⟨g,vcap,hv,_,_,_,_⟩
 ·cases h0
 ·subst hv;have HO:Hid ((l.getD k PIns.none).op=opOf l k):=rfl;clear h hp hi;simp only[List.length_cons] at HS ⊢;generalize (l.getD k PIns.none).op=op at *
  generalize hlen:r.length=m at *
  have hlen':=h_ hlen;clear hlen;have hd:((m:Int)+1==0)=false:=by simp;omega
  have hkI:(k:Int)<(l.length:Int):=by omega
  go_enter func208,ntmps208;go_wp2_with fail;go_quiet ((go_at_call 178;exact AV (Dl base _ (k:Int) r _ (HS.o.alloc _) (by simp[hlen'.out];omega))))
  go_wp2;go_ret;exact⟨by rw[HO.o];rfl,Only.drewN (Only.alloc (Only.refl _ _) _) _⟩
theorem BN (base B:Nat)(v:Value)(st:List Int)(w:World)(A:Option Addr)(cap:Nat)(l:List PIns)(h:Stack w base v st)(hl:st.length<1000)(hp:ProgIn w B A l)(hB:B≤w.heap.size)
  (hn:l.length≤1000) (hst:∀t∈st,0≤t∧t<(l.length:Int)):
  Calls prog 208 #[v,.agg #[.slice A l.length cap]] w fun e w'=>e=.returned (.int .i64 (opAt l st))∧Only Nob w w':=by
 cases st with
 |nil=>exact Hy base v _ w h
 |cons x r =>
  obtain⟨h0,h1⟩:=hst x (by simp)
  obtain⟨k,rfl⟩:=Int.eq_ofNat_of_zero_le h0;have hr:r.length<1000:=by simp at hl;omega
  exact GW base B v k r w A cap l h hr hp hB hn (by omega)
def BehindPost (w:World)(base:Nat)(st:List Int)(e:Ending)(w':World):Prop :=
 ∃v,e=.returned v∧Stack w' base v st∧Below base w w'
theorem JH (base:Nat)(v:Value)(st:List Int)(i op:Int)(w:World)(h:Stack w base v st)(hl:st.length<1000)(hb:base≤w.heap.size)(e1:decide (0<endsI op)=false)(e2:beginsB op=true):
  Calls prog 177 #[v,i,op] w (BehindPost w base (i::st)):=by
 obtain⟨i0,hi,hz0,hz1,hz2⟩:=info_parts ED;have HS:Hid (Stack w base v st):=h;clear h;go_enter func177,ntmps177;go_wp2_with (first
  |(go_at_call 181;refine(AU _ _).mono ?_;rintro e w1 ⟨rfl,rfl⟩)
  |(go_at_call 209;refine(AW _ _).mono ?_;rintro e w1 ⟨rfl,rfl⟩)
  |(at_builtin;refine wpList_append_own _ rfl _ _ 272 rfl base 3 i0 (.int .i64 0) 1 8 underlying272 hi hz0 hz1 hz2 rfl (by decide) _ _ _ rfl (HS.o.alloc _) ⟨w.heap.size,0,none⟩ 1 1 [.int .i64 i] rfl rfl (cell_one_new _ _ _) (fun x hx=>by simp at hx;subst hx;rfl) (by unfold maxLen;omega) (by omega) (by simp;omega) ?_;intro v' w3 hown' hgrow3 hnil3))
 go_ret;exact⟨_,rfl,Stack.push hown',(Below.alloc' (Below.refl _ _) hb _).trans (Dp (HS.o.alloc _) hgrow3 (by simp;omega))⟩
theorem JI (base:Nat)(v:Value)(st:List Int)(i op:Int)(w:World)(h:Stack w base v st)(hl:st.length<1000)(hb:base≤w.heap.size)(e1:decide (0<endsI op)=false)(e2:beginsB op=false)(e3:(op==18)=false):
  Calls prog 177 #[v,i,op] w (BehindPost w base st):=by
 have HS:Hid (Stack w base v st):=h;clear h;go_enter func177,ntmps177;go_wp2_with (first
  |(go_at_call 181;refine(AU _ _).mono ?_;rintro e w1 ⟨rfl,rfl⟩)
  |(go_at_call 209;refine(AW _ _).mono ?_;rintro e w1 ⟨rfl,rfl⟩))
 go_ret;exact⟨_,rfl,HS.o,Below.refl _ _⟩
theorem Ks (base g cap:Nat)(x:Int)(st:List Int)(i op:Int)(w:World)(h:Stack w base (.slice (some ⟨g,0,none⟩) (st.length+1) cap) (x::st))(hl:st.length<1000)(hcap:st.length+1≤cap)(hcap2:cap≤maxLen)(hb:base≤w.heap.size)(e1:decide (0<endsI op)=true)(e2:beginsB op=false)(e3:(op==18)=false):
  Calls prog 177 #[.slice (some ⟨g,0,none⟩) (st.length+1) cap,i,op] w (BehindPost w base st):=by
 have HS:Hid (Stack w base (.slice (some ⟨g,0,none⟩) st.length cap) st):=h.pop;clear h;generalize hlen:st.length=m at *
 have Hlen:=h_ hlen;clear hlen;unfold maxLen at hcap2;go_enter func177,ntmps177;go_wp2_with (first
  |(go_at_call 181;refine(AU _ _).mono ?_;rintro e w1 ⟨rfl,rfl⟩)
  |(go_at_call 209;refine(AW _ _).mono ?_;rintro e w1 ⟨rfl,rfl⟩))
 go_ret;exact⟨_,rfl,HS.o,Below.refl _ _⟩
theorem JG (base g cap:Nat)(x:Int)(st:List Int)(i op:Int)(w:World)(h:Stack w base (.slice (some ⟨g,0,none⟩) (st.length+1) cap) (x::st))(hl:st.length<1000)(hcap:st.length+1≤cap)(hcap2:cap≤maxLen)(hb:base≤w.heap.size)(e1:decide (0<endsI op)=true)(e2:beginsB op=false)(e3:(op==18)=true):
  Calls prog 177 #[.slice (some ⟨g,0,none⟩) (st.length+1) cap,i,op] w (BehindPost w base (i::st)):=by
 obtain⟨i0,hi,hz0,hz1,hz2⟩:=info_parts ED;have HS:Hid (Stack w base (.slice (some ⟨g,0,none⟩) st.length cap) st):=h.pop;clear h;generalize hlen:st.length=m at *
 have Hlen:=h_ hlen;clear hlen;unfold maxLen at hcap2;have HO:Hid (∀o,World.ownsRow (w.alloc o) base 3 1 (.slice (some ⟨g,0,none⟩) m cap) m (ints st.reverse)):=fun o=>by
  have:=HS.o.alloc o
  unfold Stack at this;rw[Hlen.o] at this;exact this
 go_enter func177,ntmps177;go_wp2_with (first
  |(go_at_call 181;refine(AU _ _).mono ?_;rintro e w1 ⟨rfl,rfl⟩)
  |(go_at_call 209;refine(AW _ _).mono ?_;rintro e w1 ⟨rfl,rfl⟩)
  |(at_builtin;refine wpList_append_own _ rfl _ _ 272 rfl base 3 i0 (.int .i64 0) 1 8 underlying272 hi hz0 hz1 hz2 rfl (by decide) _ _ _ rfl (HO.o _) ⟨w.heap.size,0,none⟩ 1 1 [.int .i64 i] rfl rfl (cell_one_new _ _ _) (fun x hx=>by simp at hx;subst hx;rfl) (by unfold maxLen;omega) (by omega) (by simp;omega) ?_;intro v' w3 hown' hgrow3 hnil3))
 go_ret;exact⟨_,rfl,Stack.push (by rw[Hlen.o];exact hown'),(Below.alloc' (Below.refl _ _) hb _).trans (Dp (HO.o _) hgrow3 (by simp;omega))⟩
theorem FI (base:Nat)(v:Value)(st:List Int)(i op:Int)(w:World)(h:Stack w base v st)(hl:st.length<1000)(hb:base≤w.heap.size)(hne:0<endsI op→st≠[]):
  Calls prog 177 #[v,i,op] w (BehindPost w base (behindP st i op)):=by
 by_cases h1:0<endsI op
 ·have hb0:beginsB op=false:=by
   unfold endsI at h1;unfold beginsB;by_cases h2:op=15
   ·subst h2;rfl
   ·by_cases h3:op=18
    ·subst h3;rfl
    ·by_cases h4:op=19
     ·subst h4;rfl
     ·simp[h2,h3,h4] at h1
  rcases h.form with⟨h2,_⟩|⟨g,cap,hv,_,_,hc,hc2⟩
  ·exact absurd h2 (hne h1)
  ·cases st with
   |nil=>exact absurd rfl (hne h1)
   |cons x r =>
    subst hv;have hr:r.length<1000:=by simp at hl;omega
    by_cases h3:op=18
    ·rw[show behindP (x::r) i op=i::r by simp[behindP,tailP,hb0,h3,endsI]]
     exact JG base g cap x r i op w h hr hc hc2 hb (by simpa using h1) hb0 (by simpa using h3)
    ·rw[show behindP (x::r) i op=r by simp[behindP,tailP,hb0,h3,h1]]
     exact Ks base g cap x r i op w h hr hc hc2 hb (by simpa using h1) hb0 (by simpa using h3)
 ·have h18:op≠18:=by rintro rfl;exact h1 (by decide)
  cases hb0:beginsB op
  ·rw[show behindP st i op=st by simp[behindP,tailP,hb0,h18,h1]]
   exact JI base v st i op w h hl hb (by simpa using h1) hb0 (by simpa using h18)
  ·rw[show behindP st i op=i::st by simp[behindP,tailP,hb0,h1]]
   exact JH base v st i op w h hl hb (by simpa using h1) hb0
theorem MK (base B:Nat)(v:Value)(st:List Int)(x:PIns)(w:World)(A:Option Addr)(cap:Nat)(l:List PIns)(h:Stack w base v st)(hl:st.length<1000)(hp:ProgIn w B A l)(hB:B≤w.heap.size)
  (hn:l.length≤1000) (hst:∀t∈st,0≤t∧t<(l.length:Int)) (h1:mayB x.op x.a x.b x.c x.n=false):
  Calls prog 176 #[.agg #[.slice A l.length cap],v,.agg x] w fun e w'=>e=.returned (ι 8)∧Only Nob w w':=by
 have HS:=h_ h;have HP:=h_ hp;clear h hp;go_enter func176,ntmps176;go_wp2_with (first
  |(go_at_call 207;refine(BE _ _ _ _ _ _).mono ?_;rintro e wA ⟨rfl,hoA⟩;have hon:Only Nob w wA:=Only.trans (Only.alloc (Only.alloc (Only.refl _ _) _) _) hoA;have HSA:=h_ (HS.o.only hon);have HPA:=h_ (HP.o.keep (AJ hon hB));have kp:=((Blk.new w 32 #[.slice A l.length cap]).alloc (.cells x 87)).only hoA (fun h=>h);have kx:=(Blk.new (w.alloc (.cells #[.slice A l.length cap] 32)) 87 x).only hoA (fun h=>h);have hsz:w.heap.size+1<wA.heap.size:=Nat.lt_of_lt_of_le (by simp) hoA.size;have hsz2:w.heap.size<wA.heap.size:=Nat.lt_of_succ_lt hsz;simp only[World.size_alloc] at kx;have kp0:=kp.one;have kpf:=kp.frozen;obtain⟨kx0,kx1,kx2,kx3,kx4⟩:=kx.five;have kxf:=kx.frozen))
 all_goals
  go_ret;refine⟨rfl,?_⟩;repeat' (first|(with_reducible first|exact Only.refl _ _|exact hon|refine Only.trans ?_ hoB|refine Only.drewN ?_ _|refine Only.drew ?_))
theorem JT (base B:Nat)(v:Value)(st:List Int)(x:PIns)(w:World)(A:Option Addr)(cap:Nat)(l:List PIns)(h:Stack w base v st)(hl:st.length<1000)(hp:ProgIn w B A l)(hB:B≤w.heap.size)
  (hn:l.length≤1000) (hst:∀t∈st,0≤t∧t<(l.length:Int)) (h1:mayB x.op x.a x.b x.c x.n=true) (h2:decide (0<endsI x.op)=true) (h3:(opAt l st != endsI x.op)=true):
  Calls prog 176 #[.agg #[.slice A l.length cap],v,.agg x] w fun e w'=>e=.returned (ι 12)∧Only Nob w w':=by
 have HS:=h_ h;have HP:=h_ hp;clear h hp;go_enter func176,ntmps176;go_wp2_with (first
  |(go_at_call 207;refine(BE _ _ _ _ _ _).mono ?_;rintro e wA ⟨rfl,hoA⟩;have hon:Only Nob w wA:=Only.trans (Only.alloc (Only.alloc (Only.refl _ _) _) _) hoA;have HSA:=h_ (HS.o.only hon);have HPA:=h_ (HP.o.keep (AJ hon hB));have kp:=((Blk.new w 32 #[.slice A l.length cap]).alloc (.cells x 87)).only hoA (fun h=>h);have kx:=(Blk.new (w.alloc (.cells #[.slice A l.length cap] 32)) 87 x).only hoA (fun h=>h);have hsz:w.heap.size+1<wA.heap.size:=Nat.lt_of_lt_of_le (by simp) hoA.size;have hsz2:w.heap.size<wA.heap.size:=Nat.lt_of_succ_lt hsz;simp only[World.size_alloc] at kx;have kp0:=kp.one;have kpf:=kp.frozen;obtain⟨kx0,kx1,kx2,kx3,kx4⟩:=kx.five;have kxf:=kx.frozen))
 go_region_with (first
  |(go_at_call 181;refine(AU _ _).mono ?_;rintro e w1 ⟨rfl,rfl⟩)
  |(go_at_call 208;refine(BN base B v st _ A cap l HSA.o.drew (by omega) HPA.o.drew (Nat.le_trans hB hon.size) hn hst).mono ?_;rintro e wB ⟨rfl,hoB⟩;have kxB:=(kx.drew).only hoB (fun h=>h);have kpB:=(kp.drew).only hoB (fun h=>h);have kpB0:=kpB.one;have kpBf:=kpB.frozen;obtain⟨kxB0,kxB1,kxB2,kxB3,kxB4⟩:=kxB.five;have kxBf:=kxB.frozen))
 all_goals
  go_wp2;go_ret;refine⟨rfl,?_⟩;repeat' (first|(with_reducible first|exact Only.refl _ _|exact hon|refine Only.trans ?_ hoB|refine Only.drewN ?_ _|refine Only.drew ?_))
theorem MM (base B:Nat)(v:Value)(st:List Int)(x:PIns)(w:World)(A:Option Addr)(cap:Nat)(l:List PIns)(h:Stack w base v st)(hl:st.length<1000)(hp:ProgIn w B A l)(hB:B≤w.heap.size)
  (hn:l.length≤1000) (hst:∀t∈st,0≤t∧t<(l.length:Int)) (h1:mayB x.op x.a x.b x.c x.n=true) (h2:decide (0<endsI x.op)=true) (h3:(opAt l st != endsI x.op)=false) (h4:(x.op==16)=false) (h5:beginsB x.op=false):
  Calls prog 176 #[.agg #[.slice A l.length cap],v,.agg x] w fun e w'=>e=.returned (ι 0)∧Only Nob w w':=by
 have HS:=h_ h;have HP:=h_ hp;clear h hp;go_enter func176,ntmps176;go_wp2_with (first
  |(go_at_call 207;refine(BE _ _ _ _ _ _).mono ?_;rintro e wA ⟨rfl,hoA⟩;have hon:Only Nob w wA:=Only.trans (Only.alloc (Only.alloc (Only.refl _ _) _) _) hoA;have HSA:=h_ (HS.o.only hon);have HPA:=h_ (HP.o.keep (AJ hon hB));have kp:=((Blk.new w 32 #[.slice A l.length cap]).alloc (.cells x 87)).only hoA (fun h=>h);have kx:=(Blk.new (w.alloc (.cells #[.slice A l.length cap] 32)) 87 x).only hoA (fun h=>h);have hsz:w.heap.size+1<wA.heap.size:=Nat.lt_of_lt_of_le (by simp) hoA.size;have hsz2:w.heap.size<wA.heap.size:=Nat.lt_of_succ_lt hsz;simp only[World.size_alloc] at kx;have kp0:=kp.one;have kpf:=kp.frozen;obtain⟨kx0,kx1,kx2,kx3,kx4⟩:=kx.five;have kxf:=kx.frozen))
 go_region_with (first
  |(go_at_call 181;refine(AU _ _).mono ?_;rintro e w1 ⟨rfl,rfl⟩)
  |(go_at_call 208;refine(BN base B v st _ A cap l HSA.o.drew (by omega) HPA.o.drew (Nat.le_trans hB hon.size) hn hst).mono ?_;rintro e wB ⟨rfl,hoB⟩;have kxB:=(kx.drew).only hoB (fun h=>h);have kpB:=(kp.drew).only hoB (fun h=>h);have kpB0:=kpB.one;have kpBf:=kpB.frozen;obtain⟨kxB0,kxB1,kxB2,kxB3,kxB4⟩:=kxB.five;have kxBf:=kxB.frozen))
 all_goals
  go_wp2_with (go_at_call 209;refine(AW _ _).mono ?_;rintro e w1 ⟨rfl,rfl⟩);go_ret;refine⟨rfl,?_⟩;repeat' (first|(with_reducible first|exact Only.refl _ _|exact hon|refine Only.trans ?_ hoB|refine Only.drewN ?_ _|refine Only.drew ?_))
theorem JS (base B:Nat)(v:Value)(st:List Int)(x:PIns)(w:World)(A:Option Addr)(cap:Nat)(l:List PIns)(h:Stack w base v st)(hl:st.length<1000)(hp:ProgIn w B A l)(hB:B≤w.heap.size)
  (hn:l.length≤1000) (hst:∀t∈st,0≤t∧t<(l.length:Int)) (h1:mayB x.op x.a x.b x.c x.n=true) (h2:decide (0<endsI x.op)=false) (h4:(x.op==16)=true) (h3:(opAt l st != 14)=true):
  Calls prog 176 #[.agg #[.slice A l.length cap],v,.agg x] w fun e w'=>e=.returned (ι 12)∧Only Nob w w':=by
 have HS:=h_ h;have HP:=h_ hp;clear h hp;go_enter func176,ntmps176;go_wp2_with (first
  |(go_at_call 207;refine(BE _ _ _ _ _ _).mono ?_;rintro e wA ⟨rfl,hoA⟩;have hon:Only Nob w wA:=Only.trans (Only.alloc (Only.alloc (Only.refl _ _) _) _) hoA;have HSA:=h_ (HS.o.only hon);have HPA:=h_ (HP.o.keep (AJ hon hB));have kp:=((Blk.new w 32 #[.slice A l.length cap]).alloc (.cells x 87)).only hoA (fun h=>h);have kx:=(Blk.new (w.alloc (.cells #[.slice A l.length cap] 32)) 87 x).only hoA (fun h=>h);have hsz:w.heap.size+1<wA.heap.size:=Nat.lt_of_lt_of_le (by simp) hoA.size;have hsz2:w.heap.size<wA.heap.size:=Nat.lt_of_succ_lt hsz;simp only[World.size_alloc] at kx;have kp0:=kp.one;have kpf:=kp.frozen;obtain⟨kx0,kx1,kx2,kx3,kx4⟩:=kx.five;have kxf:=kx.frozen))
 go_quiet ((go_at_call 181;exact AV (AU _ _)));go_wp2_with (first
  |(go_at_call 208;refine(BN base B v st _ A cap l (HSA.o.drewN _) (by omega) (HPA.o.drewN _) (Nat.le_trans hB hon.size) hn hst).mono ?_;rintro e wB ⟨rfl,hoB⟩;have kxB:=(kx.drewN _).only hoB (fun h=>h);have kpB:=(kp.drewN _).only hoB (fun h=>h);have kpB0:=kpB.one;have kpBf:=kpB.frozen;obtain⟨kxB0,kxB1,kxB2,kxB3,kxB4⟩:=kxB.five;have kxBf:=kxB.frozen))
 all_goals
  go_ret;refine⟨rfl,?_⟩;repeat' (first|(with_reducible first|exact Only.refl _ _|exact hon|refine Only.trans ?_ hoB|refine Only.drewN ?_ _|refine Only.drew ?_))
theorem GH (base B:Nat)(v:Value)(st:List Int)(x:PIns)(w:World)(A:Option Addr)(cap:Nat)(l:List PIns)(h:Stack w base v st)(hl:st.length<1000)(hp:ProgIn w B A l)(hB:B≤w.heap.size)
  (hn:l.length≤1000) (hst:∀t∈st,0≤t∧t<(l.length:Int)) (h1:mayB x.op x.a x.b x.c x.n=true) (h2:decide (0<endsI x.op)=false) (h4:(x.op==16)=true) (h3:(opAt l st != 14)=false) (h5:beginsB x.op=false):
  Calls prog 176 #[.agg #[.slice A l.length cap],v,.agg x] w fun e w'=>e=.returned (ι 0)∧Only Nob w w':=by
 have HS:=h_ h;have HP:=h_ hp;clear h hp;go_enter func176,ntmps176;go_wp2_with (first
  |(go_at_call 207;refine(BE _ _ _ _ _ _).mono ?_;rintro e wA ⟨rfl,hoA⟩;have hon:Only Nob w wA:=Only.trans (Only.alloc (Only.alloc (Only.refl _ _) _) _) hoA;have HSA:=h_ (HS.o.only hon);have HPA:=h_ (HP.o.keep (AJ hon hB));have kp:=((Blk.new w 32 #[.slice A l.length cap]).alloc (.cells x 87)).only hoA (fun h=>h);have kx:=(Blk.new (w.alloc (.cells #[.slice A l.length cap] 32)) 87 x).only hoA (fun h=>h);have hsz:w.heap.size+1<wA.heap.size:=Nat.lt_of_lt_of_le (by simp) hoA.size;have hsz2:w.heap.size<wA.heap.size:=Nat.lt_of_succ_lt hsz;simp only[World.size_alloc] at kx;have kp0:=kp.one;have kpf:=kp.frozen;obtain⟨kx0,kx1,kx2,kx3,kx4⟩:=kx.five;have kxf:=kx.frozen))
 go_quiet ((go_at_call 181;exact AV (AU _ _)));go_wp2_with (first
  |(go_at_call 208;refine(BN base B v st _ A cap l (HSA.o.drewN _) (by omega) (HPA.o.drewN _) (Nat.le_trans hB hon.size) hn hst).mono ?_;rintro e wB ⟨rfl,hoB⟩;have kxB:=(kx.drewN _).only hoB (fun h=>h);have kpB:=(kp.drewN _).only hoB (fun h=>h);have kpB0:=kpB.one;have kpBf:=kpB.frozen;obtain⟨kxB0,kxB1,kxB2,kxB3,kxB4⟩:=kxB.five;have kxBf:=kxB.frozen)
  |(go_at_call 209;refine(AW _ _).mono ?_;rintro e w1 ⟨rfl,rfl⟩))
 all_goals
  go_ret;refine⟨rfl,?_⟩;repeat' (first|(with_reducible first|exact Only.refl _ _|exact hon|refine Only.trans ?_ hoB|refine Only.drewN ?_ _|refine Only.drew ?_))
theorem JU (base B:Nat)(v:Value)(st:List Int)(x:PIns)(w:World)(A:Option Addr)(cap:Nat)(l:List PIns)(h:Stack w base v st)(hl:st.length<1000)(hp:ProgIn w B A l)(hB:B≤w.heap.size)
  (hn:l.length≤1000) (hst:∀t∈st,0≤t∧t<(l.length:Int)) (h1:mayB x.op x.a x.b x.c x.n=true) (h2:decide (0<endsI x.op)=false) (h4:(x.op==16)=false) (h5:beginsB x.op=true) (h6:5≤st.length):
  Calls prog 176 #[.agg #[.slice A l.length cap],v,.agg x] w fun e w'=>e=.returned (ι 9)∧Only Nob w w':=by
 have HS:=h_ h;have HP:=h_ hp;clear h hp;rcases HS.o.form with⟨h7,hv⟩|⟨g,vcap,hv,_,_,hv1,hv2⟩
 ·exfalso;subst h7;simp at h6
 ·subst hv;have d6:decide ((5:Int)≤st.length)=true:=by simp;omega
  go_enter func176,ntmps176;go_wp2_with (first
   |(go_at_call 207;refine(BE _ _ _ _ _ _).mono ?_;rintro e wA ⟨rfl,hoA⟩;have hon:Only Nob w wA:=Only.trans (Only.alloc (Only.alloc (Only.refl _ _) _) _) hoA;have HSA:=h_ (HS.o.only hon);have HPA:=h_ (HP.o.keep (AJ hon hB));have kp:=((Blk.new w 32 #[.slice A l.length cap]).alloc (.cells x 87)).only hoA (fun h=>h);have kx:=(Blk.new (w.alloc (.cells #[.slice A l.length cap] 32)) 87 x).only hoA (fun h=>h);have hsz:w.heap.size+1<wA.heap.size:=Nat.lt_of_lt_of_le (by simp) hoA.size;have hsz2:w.heap.size<wA.heap.size:=Nat.lt_of_succ_lt hsz;simp only[World.size_alloc] at kx;have kp0:=kp.one;have kpf:=kp.frozen;obtain⟨kx0,kx1,kx2,kx3,kx4⟩:=kx.five;have kxf:=kx.frozen))
  go_quiet ((go_at_call 181;exact AV (AU _ _)));go_wp2_with (first
   |(go_at_call 209;refine(AW _ _).mono ?_;rintro e w1 ⟨rfl,rfl⟩))
  all_goals
   go_ret;refine⟨rfl,?_⟩;repeat' (first|(with_reducible first|exact Only.refl _ _|exact hon|refine Only.trans ?_ hoB|refine Only.drewN ?_ _|refine Only.drew ?_))
theorem GI (base B:Nat)(v:Value)(st:List Int)(x:PIns)(w:World)(A:Option Addr)(cap:Nat)(l:List PIns)(h:Stack w base v st)(hl:st.length<1000)(hp:ProgIn w B A l)(hB:B≤w.heap.size)
  (hn:l.length≤1000) (hst:∀t∈st,0≤t∧t<(l.length:Int)) (h1:mayB x.op x.a x.b x.c x.n=true) (h2:decide (0<endsI x.op)=false) (h4:(x.op==16)=false) (h5:beginsB x.op=true) (h6:st.length<5):
  Calls prog 176 #[.agg #[.slice A l.length cap],v,.agg x] w fun e w'=>e=.returned (ι 0)∧Only Nob w w':=by
 have HS:=h_ h;have HP:=h_ hp;clear h hp;rcases HS.o.form with⟨h7,hv⟩|⟨g,vcap,hv,_,_,hv1,hv2⟩
 ·subst h7;subst hv;clear h6;have hst:∀t∈([]:List Int),0≤t∧t<(l.length:Int):=hst;go_enter func176,ntmps176;go_wp2_with (first
   |(go_at_call 207;refine(BE _ _ _ _ _ _).mono ?_;rintro e wA ⟨rfl,hoA⟩;have hon:Only Nob w wA:=Only.trans (Only.alloc (Only.alloc (Only.refl _ _) _) _) hoA;have HSA:=h_ (HS.o.only hon);have HPA:=h_ (HP.o.keep (AJ hon hB));have kp:=((Blk.new w 32 #[.slice A l.length cap]).alloc (.cells x 87)).only hoA (fun h=>h);have kx:=(Blk.new (w.alloc (.cells #[.slice A l.length cap] 32)) 87 x).only hoA (fun h=>h);have hsz:w.heap.size+1<wA.heap.size:=Nat.lt_of_lt_of_le (by simp) hoA.size;have hsz2:w.heap.size<wA.heap.size:=Nat.lt_of_succ_lt hsz;simp only[World.size_alloc] at kx;have kp0:=kp.one;have kpf:=kp.frozen;obtain⟨kx0,kx1,kx2,kx3,kx4⟩:=kx.five;have kxf:=kx.frozen))
  go_quiet ((go_at_call 181;exact AV (AU _ _)));go_wp2_with (first
   |(go_at_call 209;refine(AW _ _).mono ?_;rintro e w1 ⟨rfl,rfl⟩))
  all_goals
   go_ret;refine⟨rfl,?_⟩;repeat' (first|(with_reducible first|exact Only.refl _ _|exact hon|refine Only.trans ?_ hoB|refine Only.drewN ?_ _|refine Only.drew ?_))
 ·subst hv;have d6:decide ((5:Int)≤st.length)=false:=by simp;omega
  go_enter func176,ntmps176;go_wp2_with (first
   |(go_at_call 207;refine(BE _ _ _ _ _ _).mono ?_;rintro e wA ⟨rfl,hoA⟩;have hon:Only Nob w wA:=Only.trans (Only.alloc (Only.alloc (Only.refl _ _) _) _) hoA;have HSA:=h_ (HS.o.only hon);have HPA:=h_ (HP.o.keep (AJ hon hB));have kp:=((Blk.new w 32 #[.slice A l.length cap]).alloc (.cells x 87)).only hoA (fun h=>h);have kx:=(Blk.new (w.alloc (.cells #[.slice A l.length cap] 32)) 87 x).only hoA (fun h=>h);have hsz:w.heap.size+1<wA.heap.size:=Nat.lt_of_lt_of_le (by simp) hoA.size;have hsz2:w.heap.size<wA.heap.size:=Nat.lt_of_succ_lt hsz;simp only[World.size_alloc] at kx;have kp0:=kp.one;have kpf:=kp.frozen;obtain⟨kx0,kx1,kx2,kx3,kx4⟩:=kx.five;have kxf:=kx.frozen))
  go_quiet ((go_at_call 181;exact AV (AU _ _)));go_wp2_with (first
   |(go_at_call 209;refine(AW _ _).mono ?_;rintro e w1 ⟨rfl,rfl⟩))
  all_goals
   go_ret;refine⟨rfl,?_⟩;repeat' (first|(with_reducible first|exact Only.refl _ _|exact hon|refine Only.trans ?_ hoB|refine Only.drewN ?_ _|refine Only.drew ?_))
theorem Hi (base B:Nat)(v:Value)(st:List Int)(x:PIns)(w:World)(A:Option Addr)(cap:Nat)(l:List PIns)(h:Stack w base v st)(hl:st.length<1000)(hp:ProgIn w B A l)(hB:B≤w.heap.size)
  (hn:l.length≤1000) (hst:∀t∈st,0≤t∧t<(l.length:Int)) (h1:mayB x.op x.a x.b x.c x.n=true) (h2:decide (0<endsI x.op)=false) (h4:(x.op==16)=false) (h5:beginsB x.op=false):
  Calls prog 176 #[.agg #[.slice A l.length cap],v,.agg x] w fun e w'=>e=.returned (ι 0)∧Only Nob w w':=by
 have HS:=h_ h;have HP:=h_ hp;clear h hp;go_enter func176,ntmps176;go_wp2_with (first
  |(go_at_call 207;refine(BE _ _ _ _ _ _).mono ?_;rintro e wA ⟨rfl,hoA⟩;have hon:Only Nob w wA:=Only.trans (Only.alloc (Only.alloc (Only.refl _ _) _) _) hoA;have HSA:=h_ (HS.o.only hon);have HPA:=h_ (HP.o.keep (AJ hon hB));have kp:=((Blk.new w 32 #[.slice A l.length cap]).alloc (.cells x 87)).only hoA (fun h=>h);have kx:=(Blk.new (w.alloc (.cells #[.slice A l.length cap] 32)) 87 x).only hoA (fun h=>h);have hsz:w.heap.size+1<wA.heap.size:=Nat.lt_of_lt_of_le (by simp) hoA.size;have hsz2:w.heap.size<wA.heap.size:=Nat.lt_of_succ_lt hsz;simp only[World.size_alloc] at kx;have kp0:=kp.one;have kpf:=kp.frozen;obtain⟨kx0,kx1,kx2,kx3,kx4⟩:=kx.five;have kxf:=kx.frozen))
 go_quiet ((go_at_call 181;exact AV (AU _ _)));go_wp2_with (first
  |(go_at_call 209;refine(AW _ _).mono ?_;rintro e w1 ⟨rfl,rfl⟩))
 all_goals
  go_ret;refine⟨rfl,?_⟩;repeat' (first|(with_reducible first|exact Only.refl _ _|exact hon|refine Only.trans ?_ hoB|refine Only.drewN ?_ _|refine Only.drew ?_))
theorem Fe (base B:Nat)(v:Value)(st:List Int)(x:PIns)(w:World)(A:Option Addr)(cap:Nat)(l:List PIns)(h:Stack w base v st)(hl:st.length<1000)(hp:ProgIn w B A l)(hB:B≤w.heap.size)
  (hn:l.length≤1000) (hst:∀t∈st,0≤t∧t<(l.length:Int)):
  Calls prog 176 #[.agg #[.slice A l.length cap],v,.agg x] w fun e w'=>e=.returned (.int .i64 (wrongP l st x))∧Only Nob w w':=by
 unfold wrongP mayP;cases h1:mayB x.op x.a x.b x.c x.n
 ·exact MK base B v st x w A cap l h hl hp hB hn hst h1
 ·rw[if_neg (by decide)]
  by_cases h2:0<endsI x.op
  ·have d2:decide (0<endsI x.op)=true:=by simpa using h2
   by_cases h3:opAt l st=endsI x.op
   ·have hop:x.op=15∨x.op=18∨x.op=19:=by
     unfold endsI at h2;by_cases q1:x.op=15
     ·exact .inl q1
     ·by_cases q2:x.op=18
      ·exact .inr (.inl q2)
      ·by_cases q3:x.op=19
       ·exact .inr (.inr q3)
       ·simp[q1,q2,q3] at h2
    have h4:¬(x.op=16∧opAt l st≠14):=by omega
    have h5:beginsB x.op=false:=by rcases hop with q|q|q<;>rw[q]<;>rfl
    rw[if_neg (by simp[h3]),if_neg h4,if_neg (by simp[h5])]
    exact MM base B v st x w A cap l h hl hp hB hn hst h1 d2 (by simpa using h3) (by simp;omega) h5
   ·rw[if_pos ⟨h2,h3⟩];exact JT base B v st x w A cap l h hl hp hB hn hst h1 d2 (by simpa using h3)
  ·have d2:decide (0<endsI x.op)=false:=by simpa using h2
   rw[if_neg (by simp[h2])]
   by_cases h4:x.op=16
   ·have h5:beginsB x.op=false:=by rw[h4];rfl
    by_cases h3:opAt l st=14
    ·rw[if_neg (by simp[h3]),if_neg (by simp[h5])]
     exact GH base B v st x w A cap l h hl hp hB hn hst h1 d2 (by simpa using h4) (by simpa using h3) h5
    ·rw[if_pos ⟨h4,h3⟩];exact JS base B v st x w A cap l h hl hp hB hn hst h1 d2 (by simpa using h4) (by simpa using h3)
   ·rw[if_neg (by simp[h4])]
    cases h5:beginsB x.op
    ·rw[if_neg (by simp)]
     exact Hi base B v st x w A cap l h hl hp hB hn hst h1 d2 (by simpa using h4) h5
    ·by_cases h6:5≤st.length
     ·rw[if_pos ⟨rfl,h6⟩];exact JU base B v st x w A cap l h hl hp hB hn hst h1 d2 (by simpa using h4) h5 h6
     ·rw[if_neg (by simp;omega)]
      exact GI base B v st x w A cap l h hl hp hB hn hst h1 d2 (by simpa using h4) h5 (by omega)
def regs (l:List PIns)(k:Nat):List Int:=(List.range l.length).map fun i=>if i<k then regAt l i else 0
theorem Ml (l:List PIns):regs l 0=List.replicate l.length 0:=by
 apply List.ext_getElem?;intro i;simp[regs,List.getElem?_replicate];by_cases h:i<l.length
 ·simp[h,List.getElem?_range]
 ·simp[h]
theorem Mm (l:List PIns)(k:Nat):(regs l k).set k (regAt l k)=regs l (k+1):=by
 apply List.ext_getElem?;intro i;simp only[regs,List.getElem?_set,List.length_map,List.length_range,List.getElem?_map];by_cases h:i<l.length
 ·simp only[List.getElem?_range h,Option.map_some];by_cases hk:k=i
  ·subst hk;simp[h]
  ·rw[if_neg hk]
   congr 1
   by_cases h2:i<k
   ·rw[if_pos h2,if_pos (by omega)]
   ·rw[if_neg h2,if_neg (by omega)]
 ·have:(List.range l.length)[i]?=none:=by simp;omega
  rw[this];by_cases hk:k=i
  ·subst hk;simp[h]
  ·rw[if_neg hk];rfl
theorem Mn (l:List PIns):regs l l.length=regionsP l:=by
 unfold regs regionsP;apply List.map_congr_left;intro i hi;rw[if_pos (by simpa using hi)]
theorem Oz (l:List PIns)(k:Nat):(regs l k).length=l.length:=by simp[regs]
theorem Ax {l:List PIns}{k:Nat}(h:k<l.length):(regionsP l)[k]?=some (regAt l k):=by
 simp[regionsP,h,List.getElem?_range]
end Go.Proofs.YtfodmgaliclhfaaGreatDoor

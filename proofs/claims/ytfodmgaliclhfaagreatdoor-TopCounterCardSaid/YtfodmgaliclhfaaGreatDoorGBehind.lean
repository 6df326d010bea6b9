/- Lemmas; no conditions. -/
import Derived.Test.YtfodmgaliclhfaaGreatDoorGAtTold
import Derived.Test.YtfodmgaliclhfaaGreatDoorGTail
import Derived.Test.YtfodmgaliclhfaaGreatDoorGCodeMay
import Derived.Deep.OwnRows
import Derived.WalkSmall
import Derived.Outline
namespace Go.Proofs.YtfodmgaliclhfaaGreatDoor
set_option linter.unusedVariables false
set_option linter.unusedSimpArgs false
set_option maxRecDepth 100000
set_option maxHeartbeats 4000000
open Go.RowKit
section
variable (ω w : World) (F : HP)
theorem at_toldF (b:Nat)(s:PSt)(x:PAt)(h:Sat ω w (atH b s x*F))(hk:x.state=3)(f:PFe)(hi:x.inner=.fetch f)(dep:Nat→Nat)(hf:ItFine dep x.run x.v)(hfin:x.run.fin=0∨x.run.fin=2∨x.run.fin=4)(hr:x.reads.length≤16)(hs:s.fit)(hu:U64 f.word)(hn:∀c,(x.told s).inner=.commit c→c.now≤4611686018427387904):
  Calls Tryz.prog 94 #[.pointer (some ⟨b,0,none⟩)] w (Rets ω F (.tuple #[]) (atH b s (x.told s))):=by
 by_cases h0:f.rule.fin=0
 ·exact at_toldfe0 ω w F b s x h f hi h0 hn
 ·by_cases h5:f.rule.fin=5
  ·exact at_toldfe5 ω w F b s x h f hi h5 hn
  ·exact at_toldfen ω w F b s x h f hi h0 h5 (at_ended3 ω w F b s x h hk f hi dep hf hfin hr hs hu) hn
theorem at_toldE (b:Nat)(s:PSt)(x:PAt)(h:Sat ω w (atH b s x*F))(hk:x.state=4∨x.state=5)(f:PEx)(hi:x.inner=.extend f)(hs:s.fit)(hv:x.v.need≤1000000)(hn:∀c,(x.told s).inner=.commit c→c.now≤4611686018427387904):
  Calls Tryz.prog 94 #[.pointer (some ⟨b,0,none⟩)] w (Rets ω F (.tuple #[]) (atH b s (x.told s))):=by
 by_cases h0:f.rule.fin=0
 ·exact at_toldex0 ω w F b s x h f hi h0 hn
 ·by_cases h5:f.rule.fin=5
  ·exact at_toldex5 ω w F b s x h f hi h5 hn
  ·rcases hk with hk|hk
   ·exact at_toldexn ω w F b s x h f hi h0 h5 (at_ended4 ω w F b s x h hk f hi hs hv) hn
   ·exact at_toldexn ω w F b s x h f hi h0 h5 (at_ended5 ω w F b s x h hk f hi) hn
theorem at_toldC (b:Nat)(s:PSt)(x:PAt)(h:Sat ω w (atH b s x*F))(hk:x.state=6)(f:PCo)(hi:x.inner=.commit f)(hn:∀c,(x.told s).inner=.commit c→c.now≤4611686018427387904):
  Calls Tryz.prog 94 #[.pointer (some ⟨b,0,none⟩)] w (Rets ω F (.tuple #[]) (atH b s (x.told s))):=by
 by_cases h0:f.rule.fin=0
 ·exact at_toldco0 ω w F b s x h f hi h0 hn
 ·by_cases h5:f.rule.fin=5
  ·exact at_toldco5 ω w F b s x h f hi h5 hn
  ·exact at_toldcon ω w F b s x h f hi h0 h5 (at_ended6 ω w F b s x h hk f hi) hn
theorem at_tell_errW {x:PAt}{s:PSt}{a:PAns}(h8:x.state≠8)(ha:a.err≠0):x.tell s a={ x.out 4 a.err (-1) with state:=8 }:=by
 unfold PAt.tell;rw[if_neg h8,if_pos ha]
theorem at_tell_eqW {x:PAt}{s:PSt}{a:PAns}{k:Nat}(hk:x.state=k)(h8:k≠8)(ha:a.err=0):x.tell s a=match (generalizing:=false) k with
 |0=>{ x with state:=1 }
 |1=>{ x with begun:=true,begin:=a.word,stamp:=a.word,state:=2 }
 |2=>x.work s
 |7=>{ x with state:=8 }
 |_=>{ x with inner:=x.inner.tell a }.told s:=by
 subst hk;unfold PAt.tell;rw[if_neg h8,if_neg (by simp[ha])]
 rfl
theorem atC_state (s:PSt)(x:PAt)(D:AtD)(k:Nat):(atC s x D).setIfInBounds 14 (.int .i64 k)=atC s { x with state:=k } D:=rfl
theorem at_tell8 (b:Nat)(s:PSt)(x:PAt)(h:Sat ω w (atH b s x*F))(hk:x.state=8)(aw av ao ae:Nat)(ah ad:Bool):
  Calls Tryz.prog 62 #[.pointer (some ⟨b,0,none⟩),.agg #[.int .u64 aw,.int .u64 av,.bool ah,.int .i64 ao,.bool ad,.int .i64 ae]] w (Rets ω F (.tuple #[]) (atH b s (x))):=by
 obtain⟨D,hx⟩:=atH_of h;have hb:=atX_blk hx;have c14:∀o,(w.alloc o).cell? ⟨b,14,none⟩=some (.int .i64 8):=fun o=>by have:=(hb.alloc o).cell 14;rw[this];show some (Value.int .i64 x.state)=_;rw[hk];rfl
 have lt:=hb.lt;have lt1:b<w.heap.size+1:=by omega
 have fz:∀o i,(w.alloc o).frozen? ⟨b,i,none⟩=false:=fun o i=>(hb.alloc o).frozen i
 have fzw:=hb.frozen;have c14w:w.cell? ⟨b,14,none⟩=some (.int .i64 8):=by have:=hb.cell 14;rw[this];show some (Value.int .i64 x.state)=_;rw[hk];rfl
 have HY:Hid (∀o,Sat ω (w.alloc o) (atH b s x*F)):=h_ (fun o=>h.junk o)
 go_enter Tryz.func62,Tryz.ntmps62;go_wp2;first
  |exact bodyPost_ret (results_none rfl _ _ _) rfl ⟨rfl,HY.o _⟩
  |exact bodyPost_end (results_none rfl _ _ _) rfl ⟨rfl,HY.o _⟩
theorem at_tellErr (b:Nat)(s:PSt)(x:PAt)(h:Sat ω w (atH b s x*F))(k:Nat)(hk:x.state=k)(h8:k≠8)(aw av ao ae:Nat)(ah ad:Bool)(he:ae≠0):
  Calls Tryz.prog 62 #[.pointer (some ⟨b,0,none⟩),.agg #[.int .u64 aw,.int .u64 av,.bool ah,.int .i64 ao,.bool ad,.int .i64 ae]] w (Rets ω F (.tuple #[]) (atH b s ({ x.out 4 ae (-1) with state:=8 }))):=by
 obtain⟨D,hx⟩:=atH_of h;have hb:=atX_blk hx;have c14:∀o,(w.alloc o).cell? ⟨b,14,none⟩=some (.int .i64 k):=fun o=>by have:=(hb.alloc o).cell 14;rw[this];show some (Value.int .i64 x.state)=_;rw[hk]
 have lt:=hb.lt;have lt1:b<w.heap.size+1:=by omega
 have fz:∀o i,(w.alloc o).frozen? ⟨b,i,none⟩=false:=fun o i=>(hb.alloc o).frozen i
 have fzw:=hb.frozen;have c14w:w.cell? ⟨b,14,none⟩=some (.int .i64 k):=by have:=hb.cell 14;rw[this];show some (Value.int .i64 x.state)=_;rw[hk]
 have HO:Hid (∀o,Calls Tryz.prog 92 #[.pointer (some ⟨b,0,none⟩),.int .i64 4,.int .i64 ae,.int .i64 (-1)] (w.alloc o) (Rets ω F (.tuple #[]) (atH b s (x.out 4 ae (-1))))):=h_ (fun o=>at_out ω _ F b s x (h.junk o) 4 ae (-1))
 have HS:Hid (∀w1,Sat ω w1 (atH b s (x.out 4 ae (-1))*F)→Sat ω (w1.setCell ⟨b,14,none⟩ (.int .i64 8)) (atH b s { x.out 4 ae (-1) with state:=8 }*F)∧b<w1.heap.size∧w1.frozen? ⟨b,14,none⟩=false∧∃u,w1.cell? ⟨b,14,none⟩=some u):=h_ (fun w1 h1=>by
  refine⟨at_put1 h1 14 _ (fun D=>atC_state s _ D 8) rfl rfl rfl rfl,?_⟩
  obtain⟨D1,h2⟩:=atH_of h1;have h3:=atX_blk h2;exact⟨h3.lt,h3.frozen 14,_,h3.cell 14⟩)
 have d8:((k:Int)==8)=false:=by simp;omega
 have de:((ae:Int) != 0)=true:=by simp;omega
 generalize x.out 4 ae (-1)=y at *
 go_enter Tryz.func62,Tryz.ntmps62;go_wp2_with (go_at_call 92;refine(HO.o _).mono ?_;rintro e w1 ⟨rfl,hs⟩;obtain⟨z1,z2,z3,u9,z4⟩:=HS.o _ hs;have Z1:=h_ z1);first
  |exact bodyPost_ret (results_none rfl _ _ _) rfl ⟨rfl,Z1.out⟩
  |exact bodyPost_end (results_none rfl _ _ _) rfl ⟨rfl,Z1.out⟩
theorem at_tell0 (b:Nat)(s:PSt)(x:PAt)(h:Sat ω w (atH b s x*F))(hk:x.state=0)(aw av ao:Nat)(ah ad:Bool):
  Calls Tryz.prog 62 #[.pointer (some ⟨b,0,none⟩),.agg #[.int .u64 aw,.int .u64 av,.bool ah,.int .i64 ao,.bool ad,.int .i64 0]] w (Rets ω F (.tuple #[]) (atH b s ({ x with state:=1 }))):=by
 obtain⟨D,hx⟩:=atH_of h;have hb:=atX_blk hx;have c14:∀o,(w.alloc o).cell? ⟨b,14,none⟩=some (.int .i64 0):=fun o=>by have:=(hb.alloc o).cell 14;rw[this];show some (Value.int .i64 x.state)=_;rw[hk];rfl
 have lt:=hb.lt;have lt1:b<w.heap.size+1:=by omega
 have fz:∀o i,(w.alloc o).frozen? ⟨b,i,none⟩=false:=fun o i=>(hb.alloc o).frozen i
 have fzw:=hb.frozen;have c14w:w.cell? ⟨b,14,none⟩=some (.int .i64 0):=by have:=hb.cell 14;rw[this];show some (Value.int .i64 x.state)=_;rw[hk];rfl
 have HS:Hid (Sat ω (w.setCell ⟨b,14,none⟩ (.int .i64 1)) (atH b s { x with state:=1 }*F)):=h_ (at_put1 h 14 _ (fun D=>atC_state s _ D 1) rfl rfl rfl rfl)
 go_enter Tryz.func62,Tryz.ntmps62;go_wp2;first
  |exact bodyPost_end (results_none rfl _ _ _) rfl ⟨rfl,HS.o.junk _⟩
  |exact bodyPost_ret (results_none rfl _ _ _) rfl ⟨rfl,HS.o.junk _⟩
theorem at_tell7 (b:Nat)(s:PSt)(x:PAt)(h:Sat ω w (atH b s x*F))(hk:x.state=7)(aw av ao:Nat)(ah ad:Bool):
  Calls Tryz.prog 62 #[.pointer (some ⟨b,0,none⟩),.agg #[.int .u64 aw,.int .u64 av,.bool ah,.int .i64 ao,.bool ad,.int .i64 0]] w (Rets ω F (.tuple #[]) (atH b s ({ x with state:=8 }))):=by
 obtain⟨D,hx⟩:=atH_of h;have hb:=atX_blk hx;have c14:∀o,(w.alloc o).cell? ⟨b,14,none⟩=some (.int .i64 7):=fun o=>by have:=(hb.alloc o).cell 14;rw[this];show some (Value.int .i64 x.state)=_;rw[hk];rfl
 have lt:=hb.lt;have lt1:b<w.heap.size+1:=by omega
 have fz:∀o i,(w.alloc o).frozen? ⟨b,i,none⟩=false:=fun o i=>(hb.alloc o).frozen i
 have fzw:=hb.frozen;have c14w:w.cell? ⟨b,14,none⟩=some (.int .i64 7):=by have:=hb.cell 14;rw[this];show some (Value.int .i64 x.state)=_;rw[hk];rfl
 have HS:Hid (Sat ω (w.setCell ⟨b,14,none⟩ (.int .i64 8)) (atH b s { x with state:=8 }*F)):=h_ (at_put1 h 14 _ (fun D=>atC_state s _ D 8) rfl rfl rfl rfl)
 go_enter Tryz.func62,Tryz.ntmps62;go_wp2;first
  |exact bodyPost_end (results_none rfl _ _ _) rfl ⟨rfl,HS.o.junk _⟩
  |exact bodyPost_ret (results_none rfl _ _ _) rfl ⟨rfl,HS.o.junk _⟩
theorem atC_asked (s:PSt)(x:PAt)(D:AtD)(k:Nat):((((atC s x D).setIfInBounds 19 (.bool true)).setIfInBounds 20 (.int .u64 k)).setIfInBounds 21 (.int .u64 k)).setIfInBounds 14 (.int .i64 2)=atC s { x with begun:=true,begin:=k,stamp:=k,state:=2 } D:=rfl
theorem at_tell1 (b:Nat)(s:PSt)(x:PAt)(h:Sat ω w (atH b s x*F))(hk:x.state=1)(aw av ao:Nat)(ah ad:Bool):
  Calls Tryz.prog 62 #[.pointer (some ⟨b,0,none⟩),.agg #[.int .u64 aw,.int .u64 av,.bool ah,.int .i64 ao,.bool ad,.int .i64 0]] w (Rets ω F (.tuple #[]) (atH b s ({ x with begun:=true,begin:=aw,stamp:=aw,state:=2 }))):=by
 obtain⟨D,hx⟩:=atH_of h;have hb:=atX_blk hx;have c14:∀o,(w.alloc o).cell? ⟨b,14,none⟩=some (.int .i64 1):=fun o=>by have:=(hb.alloc o).cell 14;rw[this];show some (Value.int .i64 x.state)=_;rw[hk];rfl
 have lt:=hb.lt;have lt1:b<w.heap.size+1:=by omega
 have fz:∀o i,(w.alloc o).frozen? ⟨b,i,none⟩=false:=fun o i=>(hb.alloc o).frozen i
 have fzw:=hb.frozen;have c14w:w.cell? ⟨b,14,none⟩=some (.int .i64 1):=by have:=hb.cell 14;rw[this];show some (Value.int .i64 x.state)=_;rw[hk];rfl
 have c19w:=hb.c 19;have c20w:=hb.c 20;have c21w:=hb.c 21;have c19:∀o,(w.alloc o).cell? ⟨b,19,none⟩=some (.bool x.begun):=fun o=>(hb.alloc o).cell 19
 have c20:∀o,(w.alloc o).cell? ⟨b,20,none⟩=some (.int .u64 x.begin):=fun o=>(hb.alloc o).cell 20
 have c21:∀o,(w.alloc o).cell? ⟨b,21,none⟩=some (.int .u64 x.stamp):=fun o=>(hb.alloc o).cell 21
 have HS:Hid (Sat ω ((((w.setCell ⟨b,19,none⟩ (.bool true)).setCell ⟨b,20,none⟩ (.int .u64 aw)).setCell ⟨b,21,none⟩ (.int .u64 aw)).setCell ⟨b,14,none⟩ (.int .i64 2)) (atH b s { x with begun:=true,begin:=aw,stamp:=aw,state:=2 }*F)):=h_ (by
  unfold atX at hx;refine atH_to (D:=D) ?_;exact((((hx.assoc.set 19 _).set 20 _).set 21 _).put 14 _ (atC_asked s x D aw)).assoc')
 generalize x.begun=k1 at *
 generalize x.begin=k2 at *
 generalize x.stamp=k3 at *
 have hPb:w.heap.size≠b:=by omega
 have KB:Hid (Blk (w.alloc (.cells #[.int .u64 aw,.int .u64 av,.bool ah,.int .i64 ao,.bool ad,.int .i64 0] 100)).drew w.heap.size 100 #[.int .u64 aw,.int .u64 av,.bool ah,.int .i64 ao,.bool ad,.int .i64 0]):=h_ (Blk.new w 100 _);go_enter Tryz.func62,Tryz.ntmps62;go_wp2;refine wp_region_noPanic ?_;refine wp_region_held_drew (S:=(fun w'=>w'.cell? ⟨w.heap.size,0,none⟩=some (.int .u64 aw)∧w.heap.size<w'.heap.size)) (by kernel_rfl) ⟨KB.out.cell 0,KB.out.lt⟩ (fun hh0=>?_)
 refine tH 0 ?_ rfl ?_ (tH 1 ?_ rfl ?_ (tH 2 ?_ rfl ?_ (tH 3 ?_ rfl ?_ (tH 4 ?_ rfl ?_ (tH 5 ?_ rfl ?_ (tH 6 ?_ rfl ?_ (tH 7 ?_ rfl ?_ (tH 8 ?_ rfl ?_ ?_))))))));all_goals (try (
  intro w hSw;have d0:=hSw.1;have dl:=hSw.2;try simp only[sP]
  go_simp<;>(try with_reducible rfl)))
 try simp only[sP]
 refine oH 9 rfl fun K hK=>?_
 go_simp;(try go_wp2_with fail);refine hK.q ?_ fun hh1=>?_
 ·refine⟨?_,?_⟩<;>go_simp
 try simp only[sP]
 refine tH 10 ?_ rfl ?_ (tH 11 ?_ rfl ?_ ?_);all_goals (try (
  intro w hSw;have d0:=hSw.1;have dl:=hSw.2;try simp only[sP]
  go_simp<;>(try with_reducible rfl)))
 try simp only[sP]
 refine oH 12 rfl fun K hK=>?_
 go_simp;(try go_wp2_with fail);refine hK.q ?_ fun hh2=>?_
 ·refine⟨?_,?_⟩<;>go_simp
 try simp only[sP]
 refine tH 13 ?_ rfl ?_ (tH 14 ?_ rfl ?_ ?_);all_goals (try (
  intro w hSw;have d0:=hSw.1;have dl:=hSw.2;try simp only[sP]
  go_simp<;>(try with_reducible rfl)))
 try simp only[sP]
 refine oH 15 rfl fun K hK=>?_
 go_simp;(try go_wp2_with fail);refine hK.q ?_ fun hh3=>?_
 ·refine⟨?_,?_⟩<;>go_simp
 try simp only[sP]
 refine dN ?_;go_wp2;first
  |exact bodyPost_end (results_none rfl _ _ _) rfl ⟨rfl,(HS.o.junk _).drew⟩
  |exact bodyPost_ret (results_none rfl _ _ _) rfl ⟨rfl,(HS.o.junk _).drew⟩
theorem at_tell2 (b:Nat)(s:PSt)(x:PAt)(h:Sat ω w (atH b s x*F))(hk:x.state=2)(aw av ao:Nat)(ah ad:Bool)(dep:Nat→Nat)(hf:ItFine dep x.run x.v)(hfin:x.run.fin=0∨x.run.fin=2∨x.run.fin=4)(hr:x.reads.length≤16)(hs:s.fit)(hni:∀c,x.inner≠.commit c):
  Calls Tryz.prog 62 #[.pointer (some ⟨b,0,none⟩),.agg #[.int .u64 aw,.int .u64 av,.bool ah,.int .i64 ao,.bool ad,.int .i64 0]] w (Rets ω F (.tuple #[]) (atH b s (x.work s))):=by
 obtain⟨D,hx⟩:=atH_of h;have hb:=atX_blk hx;have c14:∀o,(w.alloc o).cell? ⟨b,14,none⟩=some (.int .i64 2):=fun o=>by have:=(hb.alloc o).cell 14;rw[this];show some (Value.int .i64 x.state)=_;rw[hk];rfl
 have lt:=hb.lt;have lt1:b<w.heap.size+1:=by omega
 have fz:∀o i,(w.alloc o).frozen? ⟨b,i,none⟩=false:=fun o i=>(hb.alloc o).frozen i
 have fzw:=hb.frozen;have c14w:w.cell? ⟨b,14,none⟩=some (.int .i64 2):=by have:=hb.cell 14;rw[this];show some (Value.int .i64 x.state)=_;rw[hk];rfl
 have HO:Hid (∀o,Calls Tryz.prog 93 #[.pointer (some ⟨b,0,none⟩)] (w.alloc o) (Rets ω F (.tuple #[]) (atH b s (x.work s)))):=h_ (fun o=>at_work ω _ F b s x (h.junk o) dep hf hfin hni (by omega) hs)
 generalize x.work s=y at *
 go_enter Tryz.func62,Tryz.ntmps62;go_wp2_with (go_at_call 93;refine(HO.o _).mono ?_;rintro e w1 ⟨rfl,hs⟩;have HZ:=h_ hs);first
  |exact bodyPost_end (results_none rfl _ _ _) rfl ⟨rfl,HZ.o⟩
  |exact bodyPost_ret (results_none rfl _ _ _) rfl ⟨rfl,HZ.o⟩
theorem at_tellF (b:Nat)(s:PSt)(x:PAt)(h:Sat ω w (atH b s x*F))(k:Nat)(hk:x.state=k)(hk2:k=3)(aw av ao:Nat)(ah ad:Bool)(f:PFe)(hi:x.inner=.fetch f)(dep:Nat→Nat)(hf:ItFine dep x.run x.v)(hfin:x.run.fin=0∨x.run.fin=2∨x.run.fin=4)(hr:x.reads.length≤16)(hs:s.fit)(hu:U64 (f.tell ⟨aw,⟨av,ah,ao⟩,ad,0⟩).word)(hn:∀c,(PAt.told { x with inner:=.fetch (f.tell ⟨aw,⟨av,ah,ao⟩,ad,0⟩) } s).inner=.commit c→c.now≤4611686018427387904):
  Calls Tryz.prog 62 #[.pointer (some ⟨b,0,none⟩),.agg #[.int .u64 aw,.int .u64 av,.bool ah,.int .i64 ao,.bool ad,.int .i64 0]] w (Rets ω F (.tuple #[]) (atH b s (PAt.told { x with inner:=.fetch (f.tell ⟨aw,⟨av,ah,ao⟩,ad,0⟩) } s))):=by
 obtain⟨D,hx⟩:=atH_of h;have hb:=atX_blk hx;have c14:∀o,(w.alloc o).cell? ⟨b,14,none⟩=some (.int .i64 k):=fun o=>by have:=(hb.alloc o).cell 14;rw[this];show some (Value.int .i64 x.state)=_;rw[hk]
 have lt:=hb.lt;have lt1:b<w.heap.size+1:=by omega
 have fz:∀o i,(w.alloc o).frozen? ⟨b,i,none⟩=false:=fun o i=>(hb.alloc o).frozen i
 have fzw:=hb.frozen;have c14w:w.cell? ⟨b,14,none⟩=some (.int .i64 k):=by have:=hb.cell 14;rw[this];show some (Value.int .i64 x.state)=_;rw[hk]
 obtain⟨G,j1,j2⟩:=at_inner hx;rw[hi] at j1;obtain⟨g,e1,e2,j3,j4⟩:=inH_fe j1;have c15w:w.cell? ⟨b,15,none⟩=some (.iface 194 (.pointer (some ⟨g,0,none⟩))):=by have:=hb.cell 15;rw[this];show some D.inn=_;rw[e1]
 have c15:∀o q,((w.alloc o).drewN q).cell? ⟨b,15,none⟩=some (.iface 194 (.pointer (some ⟨g,0,none⟩))):=fun o q=>by have:=(hb.alloc o).cell 15;show(w.alloc o).cell? _=_;rw[this];show some D.inn=_;rw[e1]
 have HTE:Hid (∀o q,Calls Tryz.prog 389 #[.pointer (some ⟨g,0,none⟩),.agg #[.int .u64 aw,.int .u64 av,.bool ah,.int .i64 ao,.bool ad,.int .i64 0]] ((w.alloc o).drewN q) fun e w'=>e=.returned (.tuple #[])∧Sat ω w' (atH b s { x with inner:=.fetch (f.tell ⟨aw,⟨av,ah,ao⟩,ad,0⟩) }*F)):=h_ (fun o q=>by
  have h1:=(j3.junk o).drewN q;refine(fe_tell ω _ _ g f h1 ⟨aw,⟨av,ah,ao⟩,ad,0⟩).mono ?_;rintro e w1 ⟨rfl,h2⟩;refine⟨rfl,?_⟩;have h3:=j4 w1 emp _ h2.emp_;have h4:=j2 w1 emp _ h3;exact atH_to (D:=D) (h4.perm (emp_star _)))
 have HTO:Hid (∀w1,Sat ω w1 (atH b s { x with inner:=.fetch (f.tell ⟨aw,⟨av,ah,ao⟩,ad,0⟩) }*F)→Calls Tryz.prog 94 #[.pointer (some ⟨b,0,none⟩)] w1 (Rets ω F (.tuple #[]) (atH b s (PAt.told { x with inner:=.fetch (f.tell ⟨aw,⟨av,ah,ao⟩,ad,0⟩) } s)))):=h_ (fun w1 h1=>at_toldF ω w1 F b s _ h1 (hk.trans hk2) _ rfl dep hf hfin hr hs hu hn)
 have hm:=me_feTell;have n0:((k:Int)==0)=false:=by simp;omega
 have n1:((k:Int)==1)=false:=by simp;omega
 have n2:((k:Int)==2)=false:=by simp;omega
 have n7:((k:Int)==7)=false:=by simp;omega
 have n8:((k:Int)==8)=false:=by simp;omega
 generalize ({ x with inner:=.fetch (f.tell ⟨aw,⟨av,ah,ao⟩,ad,0⟩) }:PAt)=y at *
 go_enter Tryz.func62,Tryz.ntmps62;go_wp2;refine rT 5 ?_;simp only[sD,sE,sF,sG];repeat still_step
 refine wpStill_nil ?_;go_wp2_with (first
  |(go_at_call 389;refine(HTE.o _ _).mono ?_;rintro e w1 ⟨rfl,hs⟩;have HY:=h_ hs)
  |(go_at_call 94;refine(HTO.o _ HY.o).mono ?_;rintro e w1 ⟨rfl,hs⟩;have HZ:=h_ hs))
 first
  |exact bodyPost_end (results_none rfl _ _ _) rfl ⟨rfl,HZ.o⟩
  |exact bodyPost_ret (results_none rfl _ _ _) rfl ⟨rfl,HZ.o⟩
theorem at_tellE (b:Nat)(s:PSt)(x:PAt)(h:Sat ω w (atH b s x*F))(k:Nat)(hk:x.state=k)(hk2:k=4∨k=5)(aw av ao:Nat)(ah ad:Bool)(f:PEx)(hi:x.inner=.extend f)(hs:s.fit)(hv:x.v.need≤1000000)(hl:f.seen.length≤1000)(hok:f.ok)(hat:f.at_≤1000)(hn:∀c,(PAt.told { x with inner:=.extend (f.tell ⟨aw,⟨av,ah,ao⟩,ad,0⟩) } s).inner=.commit c→c.now≤4611686018427387904):
  Calls Tryz.prog 62 #[.pointer (some ⟨b,0,none⟩),.agg #[.int .u64 aw,.int .u64 av,.bool ah,.int .i64 ao,.bool ad,.int .i64 0]] w (Rets ω F (.tuple #[]) (atH b s (PAt.told { x with inner:=.extend (f.tell ⟨aw,⟨av,ah,ao⟩,ad,0⟩) } s))):=by
 obtain⟨D,hx⟩:=atH_of h;have hb:=atX_blk hx;have c14:∀o,(w.alloc o).cell? ⟨b,14,none⟩=some (.int .i64 k):=fun o=>by have:=(hb.alloc o).cell 14;rw[this];show some (Value.int .i64 x.state)=_;rw[hk]
 have lt:=hb.lt;have lt1:b<w.heap.size+1:=by omega
 have fz:∀o i,(w.alloc o).frozen? ⟨b,i,none⟩=false:=fun o i=>(hb.alloc o).frozen i
 have fzw:=hb.frozen;have c14w:w.cell? ⟨b,14,none⟩=some (.int .i64 k):=by have:=hb.cell 14;rw[this];show some (Value.int .i64 x.state)=_;rw[hk]
 obtain⟨G,j1,j2⟩:=at_inner hx;rw[hi] at j1;obtain⟨g,e1,e2,j3,j4⟩:=inH_ex j1;have c15w:w.cell? ⟨b,15,none⟩=some (.iface 195 (.pointer (some ⟨g,0,none⟩))):=by have:=hb.cell 15;rw[this];show some D.inn=_;rw[e1]
 have c15:∀o q,((w.alloc o).drewN q).cell? ⟨b,15,none⟩=some (.iface 195 (.pointer (some ⟨g,0,none⟩))):=fun o q=>by have:=(hb.alloc o).cell 15;show(w.alloc o).cell? _=_;rw[this];show some D.inn=_;rw[e1]
 have HTE:Hid (∀o q,Calls Tryz.prog 397 #[.pointer (some ⟨g,0,none⟩),.agg #[.int .u64 aw,.int .u64 av,.bool ah,.int .i64 ao,.bool ad,.int .i64 0]] ((w.alloc o).drewN q) fun e w'=>e=.returned (.tuple #[])∧Sat ω w' (atH b s { x with inner:=.extend (f.tell ⟨aw,⟨av,ah,ao⟩,ad,0⟩) }*F)):=h_ (fun o q=>by
  have h1:=(j3.junk o).drewN q;refine(ex_tell ω _ _ g f h1 hl hok hat ⟨aw,⟨av,ah,ao⟩,ad,0⟩).mono ?_;rintro e w1 ⟨rfl,h2⟩;refine⟨rfl,?_⟩;have h3:=j4 w1 emp _ h2.emp_;have h4:=j2 w1 emp _ h3;exact atH_to (D:=D) (h4.perm (emp_star _)))
 have HTO:Hid (∀w1,Sat ω w1 (atH b s { x with inner:=.extend (f.tell ⟨aw,⟨av,ah,ao⟩,ad,0⟩) }*F)→Calls Tryz.prog 94 #[.pointer (some ⟨b,0,none⟩)] w1 (Rets ω F (.tuple #[]) (atH b s (PAt.told { x with inner:=.extend (f.tell ⟨aw,⟨av,ah,ao⟩,ad,0⟩) } s)))):=h_ (fun w1 h1=>at_toldE ω w1 F b s _ h1 (by rw[show({ x with inner:=PIn.extend (f.tell ⟨aw,⟨av,ah,ao⟩,ad,0⟩) }:PAt).state=x.state from rfl,hk];exact hk2) _ rfl hs hv hn)
 have hm:=me_exTell;have n0:((k:Int)==0)=false:=by simp;omega
 have n1:((k:Int)==1)=false:=by simp;omega
 have n2:((k:Int)==2)=false:=by simp;omega
 have n7:((k:Int)==7)=false:=by simp;omega
 have n8:((k:Int)==8)=false:=by simp;omega
 generalize ({ x with inner:=.extend (f.tell ⟨aw,⟨av,ah,ao⟩,ad,0⟩) }:PAt)=y at *
 go_enter Tryz.func62,Tryz.ntmps62;go_wp2;refine rT 5 ?_;simp only[sD,sE,sF,sG];repeat still_step
 refine wpStill_nil ?_;go_wp2_with (first
  |(go_at_call 397;refine(HTE.o _ _).mono ?_;rintro e w1 ⟨rfl,hs⟩;have HY:=h_ hs)
  |(go_at_call 94;refine(HTO.o _ HY.o).mono ?_;rintro e w1 ⟨rfl,hs⟩;have HZ:=h_ hs))
 first
  |exact bodyPost_end (results_none rfl _ _ _) rfl ⟨rfl,HZ.o⟩
  |exact bodyPost_ret (results_none rfl _ _ _) rfl ⟨rfl,HZ.o⟩
theorem at_tellC (b:Nat)(s:PSt)(x:PAt)(h:Sat ω w (atH b s x*F))(k:Nat)(hk:x.state=k)(hk2:k=6)(aw av ao:Nat)(ah ad:Bool)(f:PCo)(hi:x.inner=.commit f)(hc:f.set)(hn:∀c,(PAt.told { x with inner:=.commit (f.tell ⟨aw,⟨av,ah,ao⟩,ad,0⟩) } s).inner=.commit c→c.now≤4611686018427387904):
  Calls Tryz.prog 62 #[.pointer (some ⟨b,0,none⟩),.agg #[.int .u64 aw,.int .u64 av,.bool ah,.int .i64 ao,.bool ad,.int .i64 0]] w (Rets ω F (.tuple #[]) (atH b s (PAt.told { x with inner:=.commit (f.tell ⟨aw,⟨av,ah,ao⟩,ad,0⟩) } s))):=by
 obtain⟨D,hx⟩:=atH_of h;have hb:=atX_blk hx;have c14:∀o,(w.alloc o).cell? ⟨b,14,none⟩=some (.int .i64 k):=fun o=>by have:=(hb.alloc o).cell 14;rw[this];show some (Value.int .i64 x.state)=_;rw[hk]
 have lt:=hb.lt;have lt1:b<w.heap.size+1:=by omega
 have fz:∀o i,(w.alloc o).frozen? ⟨b,i,none⟩=false:=fun o i=>(hb.alloc o).frozen i
 have fzw:=hb.frozen;have c14w:w.cell? ⟨b,14,none⟩=some (.int .i64 k):=by have:=hb.cell 14;rw[this];show some (Value.int .i64 x.state)=_;rw[hk]
 obtain⟨G,j1,j2⟩:=at_inner hx;rw[hi] at j1;obtain⟨g,e1,e2,j3,j4⟩:=inH_co j1;have c15w:w.cell? ⟨b,15,none⟩=some (.iface 196 (.pointer (some ⟨g,0,none⟩))):=by have:=hb.cell 15;rw[this];show some D.inn=_;rw[e1]
 have c15:∀o q,((w.alloc o).drewN q).cell? ⟨b,15,none⟩=some (.iface 196 (.pointer (some ⟨g,0,none⟩))):=fun o q=>by have:=(hb.alloc o).cell 15;show(w.alloc o).cell? _=_;rw[this];show some D.inn=_;rw[e1]
 have HTE:Hid (∀o q,Calls Tryz.prog 400 #[.pointer (some ⟨g,0,none⟩),.agg #[.int .u64 aw,.int .u64 av,.bool ah,.int .i64 ao,.bool ad,.int .i64 0]] ((w.alloc o).drewN q) fun e w'=>e=.returned (.tuple #[])∧Sat ω w' (atH b s { x with inner:=.commit (f.tell ⟨aw,⟨av,ah,ao⟩,ad,0⟩) }*F)):=h_ (fun o q=>by
  have h1:=(j3.junk o).drewN q;refine(co_tell ω _ _ g f h1 hc.w.1 ⟨aw,⟨av,ah,ao⟩,ad,0⟩).mono ?_;rintro e w1 ⟨rfl,h2⟩;refine⟨rfl,?_⟩;have h3:=j4 w1 emp _ h2.emp_;have h4:=j2 w1 emp _ h3;exact atH_to (D:=D) (h4.perm (emp_star _)))
 have HTO:Hid (∀w1,Sat ω w1 (atH b s { x with inner:=.commit (f.tell ⟨aw,⟨av,ah,ao⟩,ad,0⟩) }*F)→Calls Tryz.prog 94 #[.pointer (some ⟨b,0,none⟩)] w1 (Rets ω F (.tuple #[]) (atH b s (PAt.told { x with inner:=.commit (f.tell ⟨aw,⟨av,ah,ao⟩,ad,0⟩) } s)))):=h_ (fun w1 h1=>at_toldC ω w1 F b s _ h1 (hk.trans hk2) _ rfl hn)
 have hm:=me_coTell;have n0:((k:Int)==0)=false:=by simp;omega
 have n1:((k:Int)==1)=false:=by simp;omega
 have n2:((k:Int)==2)=false:=by simp;omega
 have n7:((k:Int)==7)=false:=by simp;omega
 have n8:((k:Int)==8)=false:=by simp;omega
 generalize ({ x with inner:=.commit (f.tell ⟨aw,⟨av,ah,ao⟩,ad,0⟩) }:PAt)=y at *
 go_enter Tryz.func62,Tryz.ntmps62;go_wp2;refine rT 5 ?_;simp only[sD,sE,sF,sG];repeat still_step
 refine wpStill_nil ?_;go_wp2_with (first
  |(go_at_call 400;refine(HTE.o _ _).mono ?_;rintro e w1 ⟨rfl,hs⟩;have HY:=h_ hs)
  |(go_at_call 94;refine(HTO.o _ HY.o).mono ?_;rintro e w1 ⟨rfl,hs⟩;have HZ:=h_ hs))
 first
  |exact bodyPost_end (results_none rfl _ _ _) rfl ⟨rfl,HZ.o⟩
  |exact bodyPost_ret (results_none rfl _ _ _) rfl ⟨rfl,HZ.o⟩
end
theorem mem_held (w:World)(a b c d e A B C D E:Int)(ha:max 32 (min a 256)=A)(hb:max 1 (min b 16)=B)(hc:max 1 (min c 16)=C)(hd:max 1 (min d 4)=D)(he:min e 4611686018427387903=E):
  Calls Tryz.prog 50 #[.agg #[.int .i64 a,.int .i64 b,.int .i64 c,.int .i64 d,.int .u64 e]] w fun en w'=>en=.returned (.agg #[.int .i64 A,.int .i64 B,.int .i64 C,.int .i64 D,.int .u64 E])∧Only Nob w w':=by
 go_enter Tryz.func50,Tryz.ntmps50;go_wp2;refine bodyPost_ret (v:=.agg #[.int .i64 A,.int .i64 B,.int .i64 C,.int .i64 D,.int .u64 E]) (by simp[results,Tryz.results50,go_sem]) rfl ⟨rfl,?_⟩
 repeat' (first|(with_reducible first|exact Only.refl _ _|refine Only.setCell ?_ ?_ _|refine Only.alloc ?_ _|refine Only.drewN ?_ _|refine Only.drew ?_))
 all_goals (try exact .inr (Nat.le_refl _))
theorem fin32 {w W:World}{p:Nat}{A B C D E X Y Z:Int}{tmps:Array Value}(h2:tmps.getD 2 undef=.pointer (some ⟨p,0,none⟩)){cs:Array Value}(hb:Blk W p 39 cs)(hcs:cs=#[.int .i64 A,.int .i64 B,.int .i64 C,.int .i64 D,.int .u64 E,.int .i64 X,.int .i64 Y,.int .i64 Z])(ho:Only Nob w W):
  bodyPost Tryz.prog Tryz.f32 (fun e w'=>e=.returned (.agg #[.int .i64 A,.int .i64 B,.int .i64 C,.int .i64 D,.int .u64 E,.int .i64 X,.int .i64 Y,.int .i64 Z])∧Only Nob w w') Exit.ret { tmps:=tmps,defers:=[] } W:=by
 subst hcs;have kl:=hb.lt;have m0:=hb.c 0;have m1:=hb.c 1;have m2:=hb.c 2;have m3:=hb.c 3;have m4:=hb.c 4;have m5:=hb.c 5;have m6:=hb.c 6;have m7:=hb.c 7;have h2':tmps[2]?.getD undef=.pointer (some ⟨p,0,none⟩):=by simpa using h2
 refine bodyPost_ret (v:=.agg #[.int .i64 A,.int .i64 B,.int .i64 C,.int .i64 D,.int .u64 E,.int .i64 X,.int .i64 Y,.int .i64 Z]) ?_ rfl ⟨rfl,ho⟩;simp[results,Tryz.results32,go_sem,h2',m0,m1,m2,m3,m4,m5,m6,m7]
theorem at_held (w:World)(a b c d e x y z A B C D E X Y Z:Int)(ha:max 32 (min a 256)=A)(hb:max 1 (min b 16)=B)(hc:max 1 (min c 16)=C)(hd:max 1 (min d 4)=D)(he:min e 4611686018427387903=E)(hx:max 0 (min x 4)=X)(hy:max 0 (min y 96)=Y)(hz:max 0 (min z 400)=Z):
  Calls Tryz.prog 32 #[.agg #[.int .i64 a,.int .i64 b,.int .i64 c,.int .i64 d,.int .u64 e,.int .i64 x,.int .i64 y,.int .i64 z]] w fun en w'=>en=.returned (.agg #[.int .i64 A,.int .i64 B,.int .i64 C,.int .i64 D,.int .u64 E,.int .i64 X,.int .i64 Y,.int .i64 Z])∧Only Nob w w':=by
 have HM:=h_ (fun w1=>mem_held w1 a b c d e A B C D E ha hb hc hd he)
 have KB:Hid (Blk ((w.alloc (.cells #[.int .i64 a,.int .i64 b,.int .i64 c,.int .i64 d,.int .u64 e,.int .i64 x,.int .i64 y,.int .i64 z] 39)).alloc (.cells #[.int .i64 0,.int .i64 0,.int .i64 0,.int .i64 0,.int .u64 0,.int .i64 0,.int .i64 0,.int .i64 0] 39)).drew w.heap.size 39 #[.int .i64 a,.int .i64 b,.int .i64 c,.int .i64 d,.int .u64 e,.int .i64 x,.int .i64 y,.int .i64 z]):=h_ ((Blk.new w 39 #[.int .i64 a,.int .i64 b,.int .i64 c,.int .i64 d,.int .u64 e,.int .i64 x,.int .i64 y,.int .i64 z]).alloc _);have KR:Hid (Blk ((w.alloc (.cells #[.int .i64 a,.int .i64 b,.int .i64 c,.int .i64 d,.int .u64 e,.int .i64 x,.int .i64 y,.int .i64 z] 39)).alloc (.cells #[.int .i64 0,.int .i64 0,.int .i64 0,.int .i64 0,.int .u64 0,.int .i64 0,.int .i64 0,.int .i64 0] 39)).drew (w.heap.size+1) 39 #[.int .i64 0,.int .i64 0,.int .i64 0,.int .i64 0,.int .u64 0,.int .i64 0,.int .i64 0,.int .i64 0]):=h_ (by
  have h9:=Blk.new (w.alloc (.cells #[.int .i64 a,.int .i64 b,.int .i64 c,.int .i64 d,.int .u64 e,.int .i64 x,.int .i64 y,.int .i64 z] 39)) 39 #[.int .i64 0,.int .i64 0,.int .i64 0,.int .i64 0,.int .u64 0,.int .i64 0,.int .i64 0,.int .i64 0];rw[World.size_alloc] at h9;exact h9)
 have HO:Hid (Only Nob w ((w.alloc (.cells #[.int .i64 a,.int .i64 b,.int .i64 c,.int .i64 d,.int .u64 e,.int .i64 x,.int .i64 y,.int .i64 z] 39)).alloc (.cells #[.int .i64 0,.int .i64 0,.int .i64 0,.int .i64 0,.int .u64 0,.int .i64 0,.int .i64 0,.int .i64 0] 39)).drew):=h_ (((Only.refl _ _).alloc _).alloc _).drew;clear ha hb hc hd he;go_enter Tryz.func32,Tryz.ntmps32;go_wp2;refine gN ((fun w'=>Blk w' w.heap.size 39 #[.int .i64 a,.int .i64 b,.int .i64 c,.int .i64 d,.int .u64 e,.int .i64 x,.int .i64 y,.int .i64 z])) KB.out fun hh0=>?_
 refine tH 0 ?_ rfl ?_ (tH 1 ?_ rfl ?_ (tH 3 ?_ rfl ?_ (tH 4 ?_ rfl ?_ (tH 5 ?_ rfl ?_ (tH 6 ?_ rfl ?_ (tH 7 ?_ rfl ?_ (tH 8 ?_ rfl ?_ (tH 9 ?_ rfl ?_ (tH 10 ?_ rfl ?_ (tH 11 ?_ rfl ?_ (tH 12 ?_ rfl ?_ (tH 13 ?_ rfl ?_ (tH 14 ?_ rfl ?_ ?_)))))))))))));all_goals (try (
  intro w hSw;have d0:=hSw.cell 0;have d1:=hSw.cell 1;have d2:=hSw.cell 2;have d3:=hSw.cell 3;have d4:=hSw.cell 4;have d5:=hSw.cell 5;have d6:=hSw.cell 6;have d7:=hSw.cell 7;have dl:=hSw.lt;try simp only[sP]
  go_simp<;>(try with_reducible rfl)))
 try simp only[sP]
 refine oH 2 rfl fun K hK=>?_
 go_simp;go_at_call 50;refine(HM.o _).mono ?_;rintro e wA ⟨rfl,hoA⟩;(try go_wp2_with fail);refine hK.q ?_ fun hh1=>?_
 ·exact hh0.only hoA (fun e=>e)
 clear hK K hh0;try simp only[sP]
 refine tH 15 ?_ rfl ?_ ?_;all_goals (try (
  intro w hSw;have d0:=hSw.cell 0;have d1:=hSw.cell 1;have d2:=hSw.cell 2;have d3:=hSw.cell 3;have d4:=hSw.cell 4;have d5:=hSw.cell 5;have d6:=hSw.cell 6;have d7:=hSw.cell 7;have dl:=hSw.lt;go_simp<;>(try with_reducible rfl)))
 try simp only[sP]
 refine oH 16 rfl fun K hK=>?_
 have k0:=(KR.out.only hoA (fun e=>e));have r0:=k0.cell 0;have r1:=k0.cell 1;have r2:=k0.cell 2;have r3:=k0.cell 3;have r4:=k0.cell 4;have r5:=k0.cell 5;have r6:=k0.cell 6;have r7:=k0.cell 7;have rf:=k0.frozen;have rl:=k0.lt;clear k0
 go_simp;(try go_wp2_with fail);refine hK.q ?_ fun hh2=>?_
 ·repeat (refine Blk.far ?_ (fun e=>by simp at e) _)
  exact hh1
 clear hK K hh1;try simp only[sP]
 refine dN ?_;go_wp2;have KB2:=(((((((((KR.out.only hoA (fun e=>e)).set_ 0 (.int .i64 A)).set_ 1 (.int .i64 B)).set_ 2 (.int .i64 C)).set_ 3 (.int .i64 D)).set_ 4 (.int .u64 E)).set_ 5 (.int .i64 X)).set_ 6 (.int .i64 Y)).set_ 7 (.int .i64 Z))
 have HO2:=(((((((((HO.o.trans hoA).setCell (p:=⟨w.heap.size+1,0,none⟩) (.inr (Nat.le_succ _)) (.int .i64 A)).setCell (p:=⟨w.heap.size+1,1,none⟩) (.inr (Nat.le_succ _)) (.int .i64 B)).setCell (p:=⟨w.heap.size+1,2,none⟩) (.inr (Nat.le_succ _)) (.int .i64 C)).setCell (p:=⟨w.heap.size+1,3,none⟩) (.inr (Nat.le_succ _)) (.int .i64 D)).setCell (p:=⟨w.heap.size+1,4,none⟩) (.inr (Nat.le_succ _)) (.int .u64 E)).setCell (p:=⟨w.heap.size+1,5,none⟩) (.inr (Nat.le_succ _)) (.int .i64 X)).setCell (p:=⟨w.heap.size+1,6,none⟩) (.inr (Nat.le_succ _)) (.int .i64 Y)).setCell (p:=⟨w.heap.size+1,7,none⟩) (.inr (Nat.le_succ _)) (.int .i64 Z));refine fin32 ?_ KB2 ?_ HO2
 ·simp
 ·simp
section
def ints (l:List Int):List Value:=l.map (Value.int .i64)
def Stack (w:World)(base:Nat)(v:Value)(st:List Int):Prop:=w.ownsRow base 3 1 v st.length (ints st.reverse)
theorem Stack.nil (w:World)(base:Nat):Stack w base (.slice none 0 0) []:=⟨by simp[ints],.inl ⟨rfl,rfl⟩⟩
theorem Stack.form {w:World}{base:Nat}{v:Value}{st:List Int}(h:Stack w base v st):
  (st=[]∧v=.slice none 0 0)∨∃g cap,v=.slice (some ⟨g,0,none⟩) st.length cap∧base≤g∧g<w.heap.size∧st.length≤cap∧cap≤maxLen:=by
 rcases h.2 with⟨h1,h2⟩|⟨g,cap,cur,hv,hg,hh,hn,hc,_,_⟩
 ·exact .inl ⟨List.eq_nil_of_length_eq_zero h2,h1⟩
 ·refine .inr ⟨g,cap,hv,hg,?_,hn,hc⟩;rcases Nat.lt_or_ge g w.heap.size with hlt|hge
  ·exact hlt
  ·rw[Array.getElem?_eq_none hge] at hh;cases hh
theorem Stack.top {w:World}{base:Nat}{g cap t:Nat}{x:Int}{st:List Int}(h:Stack w base (.slice (some ⟨g,0,none⟩) (st.length+1) cap) (x::st))(ht:t=st.length):w.cell? ⟨g,t,none⟩=some (.int .i64 x):=by
 subst ht;have hc:=World.ownsRow.cells h (g:=g) rfl st.length (.int .i64 x) (by
  simp only[ints,List.reverse_cons,List.map_append];rw[List.getElem?_append_right (by simp)]
  simp)
 by_cases h0:st.length=0
 ·simpa [Addr.add,h0] using hc
 ·simpa [Addr.add,h0] using hc
theorem Stack.drew {w:World}{base:Nat}{v:Value}{st:List Int}(h:Stack w base v st):Stack w.drew base v st:=h
theorem Stack.keep {w w':World}{base:Nat}{v:Value}{st:List Int}(h:Stack w base v st)(hb:Below w.heap.size w w'):Stack w' base v st:=by
 refine⟨h.1,?_⟩;rcases h.2 with h1|⟨g,cap,cur,hv,hg,hh,r⟩
 ·exact .inl h1
 ·refine .inr ⟨g,cap,cur,hv,hg,(hb.block g ?_).trans hh,r⟩;rcases Nat.lt_or_ge g w.heap.size with hlt|hge
  ·exact hlt
  ·rw[Array.getElem?_eq_none hge] at hh;cases hh
theorem Stack.alloc {w:World}{base:Nat}{v:Value}{st:List Int}(h:Stack w base v st)(o:Obj):Stack (w.alloc o) base v st :=
 h.keep (Only.new (Only.alloc (Only.refl _ _) o))
theorem Stack.only {w w':World}{base:Nat}{v:Value}{st:List Int}(h:Stack w base v st)(hb:Only Nob w w'):Stack w' base v st:=h.keep hb.new
def InsAt (w:World)(b o:Nat)(x:PIns):Prop :=
 w.cell? ⟨b,o,none⟩=some (.int .i64 x.op)∧w.cell? ⟨b,o+1,none⟩=some (.int .i64 x.a)∧w.cell? ⟨b,o+2,none⟩=some (.int .i64 x.b)∧w.cell? ⟨b,o+3,none⟩=some (.int .i64 x.c)∧w.cell? ⟨b,o+4,none⟩=some (.int .u64 x.n)
def ProgIn (w:World)(B:Nat)(A:Option Addr)(l:List PIns):Prop :=
 l≠[]→∃b o,A=some ⟨b,o,none⟩∧b<B∧∀k x,l[k]?=some x→InsAt w b (o+k*5) x
theorem InsAt.keep {w w':World}{B b o:Nat}{x:PIns}(h:InsAt w b o x)(hb:Below B w w')(hlt:b<B):InsAt w' b o x:=by
 obtain⟨h0,h1,h2,h3,h4⟩:=h;exact⟨(hb.cell hlt).trans h0,(hb.cell hlt).trans h1,(hb.cell hlt).trans h2,(hb.cell hlt).trans h3,(hb.cell hlt).trans h4⟩
theorem ProgIn.keep {w w':World}{B:Nat}{A:Option Addr}{l:List PIns}(h:ProgIn w B A l)(hb:Below B w w'):ProgIn w' B A l:=by
 intro hl;obtain⟨b,o,hA,hlt,hi⟩:=h hl;exact⟨b,o,hA,hlt,fun k x hx=>(hi k x hx).keep hb hlt⟩
theorem ProgIn.at_ {w:World}{B:Nat}{A:Option Addr}{l:List PIns}(h:ProgIn w B A l){k:Nat}(hk:k<l.length):
  ∃b o,A=some ⟨b,o,none⟩∧b<B∧InsAt w b (o+k*5) (l.getD k PIns.none):=by
 obtain⟨b,o,hA,hlt,hi⟩:=h (by intro e;subst e;simp at hk)
 refine⟨b,o,hA,hlt,hi k _ ?_⟩;rw[gD,List.getElem?_eq_getElem hk];rfl
theorem ProgIn.drew {w:World}{B:Nat}{A:Option Addr}{l:List PIns}(h:ProgIn w B A l):ProgIn w.drew B A l:=h
theorem below_nob {w w':World}{B:Nat}(h:Only Nob w w')(hB:B≤w.heap.size):Below B w w':=h.below hB (fun _ h=>h.elim)
theorem infoInt:(Tryz.prog.info? 3).map (fun i=>(i.zero,i.size,i.bytes))=some (some (.int .i64 0),1,8):=by kernel_rfl
theorem below_grown {w w':World}{base:Nat}{v:Value}{n:Nat}{xs:List Value}(h:w.ownsRow base 3 1 v n xs)(hg:w.grownBy w' v.ownBlock)(hb:base≤w.heap.size):Below base w w':=by
 refine(Only.of_grown (S:=fun k=>base≤k) hg ?_).below hb (fun k h=>h)
 intro k hk _;rcases h.2 with⟨h1,_⟩|⟨g,cap,cur,hv,hg',_⟩
 ·subst h1;simp[Value.ownBlock] at hk
 ·subst hv;simp[Value.ownBlock] at hk;omega
theorem Stack.push {w':World}{base:Nat}{v':Value}{st:List Int}{i:Int}(h:w'.ownsRow base 3 1 v' (st.length+1) (ints st.reverse++[.int .i64 i])):Stack w' base v' (i::st):=by
 unfold Stack;simpa [ints] using h
theorem Stack.pop {w:World}{base g cap:Nat}{x:Int}{st:List Int}(h:Stack w base (.slice (some ⟨g,0,none⟩) (st.length+1) cap) (x::st)):Stack w base (.slice (some ⟨g,0,none⟩) st.length cap) st:=by
 unfold Stack at h ⊢;have h':w.ownsRow base 3 1 (.slice (some ⟨g,0,none⟩) (st.length+1) cap) (st.length+1) (ints st.reverse++[.int .i64 x]):=by simpa [ints] using h
 exact ownsRow_pop (by simp[ints]) h'
theorem Below.alloc' {w w':World}{B:Nat}(h:Below B w w')(hB:B≤w'.heap.size)(o:Obj):Below B w (w'.alloc o):=h.alloc hB o
theorem Stack.drewN {w:World}{base:Nat}{v:Value}{st:List Int}(h:Stack w base v st)(n:Nat):Stack (w.drewN n) base v st:=h
theorem ProgIn.drewN {w:World}{B:Nat}{A:Option Addr}{l:List PIns}(h:ProgIn w B A l)(n:Nat):ProgIn (w.drewN n) B A l:=h
theorem Blk.one {w:World}{g:Nat}{t:TypeId}{v0:Value}(h:Blk w g t #[v0]):w.cell? ⟨g,0,none⟩=some v0:=h.cell 0
theorem Blk.five {w:World}{g:Nat}{t:TypeId}{v0 v1 v2 v3 v4:Value}(h:Blk w g t #[v0,v1,v2,v3,v4]):
  w.cell? ⟨g,0,none⟩=some v0∧w.cell? ⟨g,1,none⟩=some v1∧w.cell? ⟨g,2,none⟩=some v2∧w.cell? ⟨g,3,none⟩=some v3∧w.cell? ⟨g,4,none⟩=some v4 :=
 ⟨h.cell 0,h.cell 1,h.cell 2,h.cell 3,h.cell 4⟩
def IntBlk (w:World)(g:Nat)(l:List Int):Prop:=Blk w g 3 (ints l).toArray
section
variable {w w' : World} {g : Nat} {l : List Int}
theorem IntBlk.lt (h:IntBlk w g l):g<w.heap.size:=Blk.lt h
theorem IntBlk.cell (h:IntBlk w g l){k:Nat}{x:Int}(hk:l[k]?=some x):w.cell? ⟨g,k,none⟩=some (.int .i64 x):=by
 rw[Blk.cell h k];simp[ints,hk]
theorem IntBlk.cellD (h:IntBlk w g l){k:Nat}(d:Int)(hk:k<l.length):w.cell? ⟨g,k,none⟩=some (.int .i64 (l.getD k d)) :=
 h.cell (by rw[gD,List.getElem?_eq_getElem hk];rfl)
theorem IntBlk.frozen (h:IntBlk w g l)(k:Nat):w.frozen? ⟨g,k,none⟩=false:=Blk.frozen h k
theorem IntBlk.alloc (h:IntBlk w g l)(o:Obj):IntBlk (w.alloc o) g l:=Blk.alloc h o
theorem IntBlk.set_ (h:IntBlk w g l)(i:Nat)(x:Int):IntBlk (w.setCell ⟨g,i,none⟩ (.int .i64 x)) g (l.set i x):=by
 have:=Blk.set_ h i (.int .i64 x)
 unfold IntBlk;simpa [ints,List.map_set] using this
theorem IntBlk.below {B:Nat}(h:IntBlk w g l)(hb:Below B w w')(hg:g<B):IntBlk w' g l:=Blk.below h hb hg
end
theorem made_ints (n:Nat):madeCells #[.int .i64 0] n=(ints (List.replicate n 0)).toArray:=by
 apply Array.ext';simp[madeCells,ints];apply List.ext_getElem?;intro i;simp[List.getElem?_replicate];by_cases h:i<n
 ·simp[h,Nat.mod_one]
 ·simp[h]
theorem IntBlk.made (w:World)(n:Nat):IntBlk (w.alloc (.cells (madeCells #[.int .i64 0] n) 3)) w.heap.size (List.replicate n 0):=by
 rw[made_ints];exact Blk.new w _ _
theorem Stack.far {w:World}{base:Nat}{v:Value}{st:List Int}(h:Stack w base v st){p:Addr}(hp:p.block<base)(u:Value):Stack (w.setCell p u) base v st:=by
 refine⟨h.1,?_⟩;rcases h.2 with h1|⟨g,cap,cur,hv,hg,hh,r⟩
 ·exact .inl h1
 ·exact .inr ⟨g,cap,cur,hv,hg,(Below.heap_setCell w p u g (by omega)).trans hh,r⟩
theorem ProgIn.alloc {w:World}{B:Nat}{A:Option Addr}{l:List PIns}(h:ProgIn w B A l)(hB:B≤w.heap.size)(o:Obj):ProgIn (w.alloc o) B A l:=h.keep (Below.alloc (Below.refl _ _) hB o)
end
theorem begins_any (n:Int)(w:World):Calls Tryz.prog 209 #[.int .i64 n] w fun e w'=>e=.returned (.bool (beginsB n))∧w=w':=by
 rcases(by omega:n=14∨n≠14) with h|h
 ·subst h;go_enter Tryz.func209,Tryz.ntmps209;go_wp2;go_ret;exact⟨rfl,rfl⟩
 ·have d:(n==14)=false:=by simpa using h
  rcases(by omega:n=17∨n≠17) with h2|h2
  ·subst h2;go_enter Tryz.func209,Tryz.ntmps209;go_wp2;go_ret;exact⟨rfl,rfl⟩
  ·have d2:(n==17)=false:=by simpa using h2
   rw[show beginsB n=false by simp[beginsB,h,h2]]
   go_enter Tryz.func209,Tryz.ntmps209;go_wp2;go_ret;exact⟨rfl,rfl⟩
theorem ends_any (n:Int)(w:World):Calls Tryz.prog 181 #[.int .i64 n] w fun e w'=>e=.returned (.int .i64 (endsI n))∧w=w':=by
 rcases(by omega:n=15∨n=18∨n=19∨(n≠15∧n≠18∧n≠19)) with rfl|rfl|rfl|⟨h1,h2,h3⟩
 ·rw[show endsI 15=14 by decide]
  go_enter Tryz.func181,Tryz.ntmps181;go_wp2;go_ret;exact⟨rfl,rfl⟩
 ·rw[show endsI 18=17 by decide]
  go_enter Tryz.func181,Tryz.ntmps181;go_wp2;go_ret;exact⟨rfl,rfl⟩
 ·rw[show endsI 19=18 by decide]
  go_enter Tryz.func181,Tryz.ntmps181;go_wp2;go_ret;exact⟨rfl,rfl⟩
 ·rw[show endsI n=0 by simp[endsI,h1,h2,h3]]
  have d1:(n==15)=false:=by simpa using h1
  have d2:(n==18)=false:=by simpa using h2
  have d3:(n==19)=false:=by simpa using h3
  go_enter Tryz.func181,Tryz.ntmps181;go_wp2;go_ret;exact⟨rfl,rfl⟩
theorem inmost_any (base:Nat)(v:Value)(st:List Int)(w:World)(h:Stack w base v st)(hl:st.length≤1000):
  Calls Tryz.prog 178 #[v] w fun e w'=>e=.returned (.int .i64 (topP st))∧w=w':=by
 cases st with
 |nil =>
  rw[show topP [] = -1 from rfl]
  rcases h.form with⟨_,rfl⟩|⟨g,cap,hv,_,_,_,hc⟩
  ·go_enter Tryz.func178,Tryz.ntmps178;go_wp2;go_ret;exact⟨rfl,rfl⟩
  ·rw[hv];clear h hv;simp only[List.length_nil];go_enter Tryz.func178,Tryz.ntmps178;go_wp2;go_ret;exact⟨rfl,rfl⟩
 |cons x r =>
  rw[show topP (x::r)=x from rfl]
  rcases h.form with⟨h0,_⟩|⟨g,cap,hv,_,_,_,hc⟩
  ·cases h0
  ·subst hv;have hc:=h.top rfl;simp only[List.length_cons] at hl ⊢;clear h;generalize r.length=m at *
   have hd:((m:Int)+1==0)=false:=by simp;omega
   go_enter Tryz.func178,Tryz.ntmps178;go_wp2;go_ret;exact⟨rfl,rfl⟩
theorem stackop_nil (base:Nat)(v:Value)(p:Value)(w:World)(h:Stack w base v []):
  Calls Tryz.prog 208 #[v,.agg #[p]] w fun e w'=>e=.returned (.int .i64 0)∧Only Nob w w':=by
 rcases h.form with⟨_,rfl⟩|⟨g,cap,hv,_,_,_,hc⟩
 ·go_enter Tryz.func208,Tryz.ntmps208;go_wp2;go_ret;exact⟨rfl,Only.alloc (Only.refl _ _) _⟩
 ·rw[hv];clear h hv;simp only[List.length_nil];go_enter Tryz.func208,Tryz.ntmps208;go_wp2;go_ret;exact⟨rfl,Only.alloc (Only.refl _ _) _⟩
theorem inmost_cons (base:Nat)(v:Value)(x:Int)(r:List Int)(w:World)(h:Stack w base v (x::r))(hl:(x::r).length≤1000):
  Calls Tryz.prog 178 #[v] w fun e w'=>e=.returned (.int .i64 x)∧w=w':=inmost_any base v (x::r) w h hl
theorem stackop_cons (base B:Nat)(v:Value)(k:Nat)(r:List Int)(w:World)(A:Option Addr)(cap:Nat)(l:List PIns)(h:Stack w base v ((k:Int)::r))(hl:r.length<1000)(hp:ProgIn w B A l)(hB:B≤w.heap.size)
  (hn:l.length≤1000) (hk:k<l.length):
  Calls Tryz.prog 208 #[v,.agg #[.slice A l.length cap]] w fun e w'=>e=.returned (.int .i64 (opOf l k))∧Only Nob w w':=by
 obtain⟨b,o,rfl,hlt,hi⟩:=hp.at_ hk;have hc:=hi.1;have hblt:b<w.heap.size:=by omega
 have HS:Hid (Stack w base v ((k:Int)::r)):=h;rcases h.form with⟨h0,_⟩|⟨g,vcap,hv,_,_,_,_⟩
 ·cases h0
 ·subst hv;have HO:Hid ((l.getD k PIns.none).op=opOf l k):=rfl;clear h hp hi;simp only[List.length_cons] at HS ⊢;generalize (l.getD k PIns.none).op=op at *
  generalize hlen:r.length=m at *
  have hlen':=h_ hlen;clear hlen;have hd:((m:Int)+1==0)=false:=by simp;omega
  have hkI:(k:Int)<(l.length:Int):=by omega
  go_enter Tryz.func208,Tryz.ntmps208;go_wp2_with fail;go_quiet ((go_at_call 178;exact quiet_left (inmost_cons base _ (k:Int) r _ (HS.o.alloc _) (by simp[hlen'.out];omega))))
  go_wp2;go_ret;exact⟨by rw[HO.o];rfl,Only.drewN (Only.alloc (Only.refl _ _) _) _⟩
theorem stackop_any (base B:Nat)(v:Value)(st:List Int)(w:World)(A:Option Addr)(cap:Nat)(l:List PIns)(h:Stack w base v st)(hl:st.length<1000)(hp:ProgIn w B A l)(hB:B≤w.heap.size)
  (hn:l.length≤1000) (hst:∀t∈st,0≤t∧t<(l.length:Int)):
  Calls Tryz.prog 208 #[v,.agg #[.slice A l.length cap]] w fun e w'=>e=.returned (.int .i64 (opAt l st))∧Only Nob w w':=by
 cases st with
 |nil=>exact stackop_nil base v _ w h
 |cons x r =>
  obtain⟨h0,h1⟩:=hst x (by simp)
  obtain⟨k,rfl⟩:=Int.eq_ofNat_of_zero_le h0;have hr:r.length<1000:=by simp at hl;omega
  exact stackop_cons base B v k r w A cap l h hr hp hB hn (by omega)
def BehindPost (w:World)(base:Nat)(st:List Int)(e:Ending)(w':World):Prop :=
 ∃v,e=.returned v∧Stack w' base v st∧Below base w w'
theorem behind_push (base:Nat)(v:Value)(st:List Int)(i op:Int)(w:World)(h:Stack w base v st)(hl:st.length<1000)(hb:base≤w.heap.size)(e1:decide (0<endsI op)=false)(e2:beginsB op=true):
  Calls Tryz.prog 177 #[v,.int .i64 i,.int .i64 op] w (BehindPost w base (i::st)):=by
 obtain⟨i0,hi,hz0,hz1,hz2⟩:=info_parts infoInt;have HS:Hid (Stack w base v st):=h;clear h;go_enter Tryz.func177,Tryz.ntmps177;go_wp2_with (first
  |(go_at_call 181;refine(ends_any _ _).mono ?_;rintro e w1 ⟨rfl,rfl⟩)
  |(go_at_call 209;refine(begins_any _ _).mono ?_;rintro e w1 ⟨rfl,rfl⟩)
  |(at_builtin;refine wpList_append_own _ rfl _ _ 272 rfl base 3 i0 (.int .i64 0) 1 8 Tryz.underlying272 hi hz0 hz1 hz2 rfl (by decide) _ _ _ rfl (HS.o.alloc _) ⟨w.heap.size,0,none⟩ 1 1 [.int .i64 i] rfl rfl (cell_one_new _ _ _) (fun x hx=>by simp at hx;subst hx;rfl) (by unfold maxLen;omega) (by omega) (by simp;omega) ?_;intro v' w3 hown' hgrow3 hnil3))
 go_ret;exact⟨_,rfl,Stack.push hown',(Below.alloc' (Below.refl _ _) hb _).trans (below_grown (HS.o.alloc _) hgrow3 (by simp;omega))⟩
theorem behind_none (base:Nat)(v:Value)(st:List Int)(i op:Int)(w:World)(h:Stack w base v st)(hl:st.length<1000)(hb:base≤w.heap.size)(e1:decide (0<endsI op)=false)(e2:beginsB op=false)(e3:(op==18)=false):
  Calls Tryz.prog 177 #[v,.int .i64 i,.int .i64 op] w (BehindPost w base st):=by
 have HS:Hid (Stack w base v st):=h;clear h;go_enter Tryz.func177,Tryz.ntmps177;go_wp2_with (first
  |(go_at_call 181;refine(ends_any _ _).mono ?_;rintro e w1 ⟨rfl,rfl⟩)
  |(go_at_call 209;refine(begins_any _ _).mono ?_;rintro e w1 ⟨rfl,rfl⟩))
 go_ret;exact⟨_,rfl,HS.o,Below.refl _ _⟩
theorem behind_pop (base g cap:Nat)(x:Int)(st:List Int)(i op:Int)(w:World)(h:Stack w base (.slice (some ⟨g,0,none⟩) (st.length+1) cap) (x::st))(hl:st.length<1000)(hcap:st.length+1≤cap)(hcap2:cap≤maxLen)(hb:base≤w.heap.size)(e1:decide (0<endsI op)=true)(e2:beginsB op=false)(e3:(op==18)=false):
  Calls Tryz.prog 177 #[.slice (some ⟨g,0,none⟩) (st.length+1) cap,.int .i64 i,.int .i64 op] w (BehindPost w base st):=by
 have HS:Hid (Stack w base (.slice (some ⟨g,0,none⟩) st.length cap) st):=h.pop;clear h;generalize hlen:st.length=m at *
 have Hlen:=h_ hlen;clear hlen;unfold maxLen at hcap2;go_enter Tryz.func177,Tryz.ntmps177;go_wp2_with (first
  |(go_at_call 181;refine(ends_any _ _).mono ?_;rintro e w1 ⟨rfl,rfl⟩)
  |(go_at_call 209;refine(begins_any _ _).mono ?_;rintro e w1 ⟨rfl,rfl⟩))
 go_ret;exact⟨_,rfl,HS.o,Below.refl _ _⟩
theorem behind_turn (base g cap:Nat)(x:Int)(st:List Int)(i op:Int)(w:World)(h:Stack w base (.slice (some ⟨g,0,none⟩) (st.length+1) cap) (x::st))(hl:st.length<1000)(hcap:st.length+1≤cap)(hcap2:cap≤maxLen)(hb:base≤w.heap.size)(e1:decide (0<endsI op)=true)(e2:beginsB op=false)(e3:(op==18)=true):
  Calls Tryz.prog 177 #[.slice (some ⟨g,0,none⟩) (st.length+1) cap,.int .i64 i,.int .i64 op] w (BehindPost w base (i::st)):=by
 obtain⟨i0,hi,hz0,hz1,hz2⟩:=info_parts infoInt;have HS:Hid (Stack w base (.slice (some ⟨g,0,none⟩) st.length cap) st):=h.pop;clear h;generalize hlen:st.length=m at *
 have Hlen:=h_ hlen;clear hlen;unfold maxLen at hcap2;have HO:Hid (∀o,World.ownsRow (w.alloc o) base 3 1 (.slice (some ⟨g,0,none⟩) m cap) m (ints st.reverse)):=fun o=>by
  have:=HS.o.alloc o
  unfold Stack at this;rw[Hlen.o] at this;exact this
 go_enter Tryz.func177,Tryz.ntmps177;go_wp2_with (first
  |(go_at_call 181;refine(ends_any _ _).mono ?_;rintro e w1 ⟨rfl,rfl⟩)
  |(go_at_call 209;refine(begins_any _ _).mono ?_;rintro e w1 ⟨rfl,rfl⟩)
  |(at_builtin;refine wpList_append_own _ rfl _ _ 272 rfl base 3 i0 (.int .i64 0) 1 8 Tryz.underlying272 hi hz0 hz1 hz2 rfl (by decide) _ _ _ rfl (HO.o _) ⟨w.heap.size,0,none⟩ 1 1 [.int .i64 i] rfl rfl (cell_one_new _ _ _) (fun x hx=>by simp at hx;subst hx;rfl) (by unfold maxLen;omega) (by omega) (by simp;omega) ?_;intro v' w3 hown' hgrow3 hnil3))
 go_ret;exact⟨_,rfl,Stack.push (by rw[Hlen.o];exact hown'),(Below.alloc' (Below.refl _ _) hb _).trans (below_grown (HO.o _) hgrow3 (by simp;omega))⟩
theorem behind_any (base:Nat)(v:Value)(st:List Int)(i op:Int)(w:World)(h:Stack w base v st)(hl:st.length<1000)(hb:base≤w.heap.size)(hne:0<endsI op→st≠[]):
  Calls Tryz.prog 177 #[v,.int .i64 i,.int .i64 op] w (BehindPost w base (behindP st i op)):=by
 by_cases h1:0<endsI op
 ·have hb0:beginsB op=false:=by
   unfold endsI at h1;unfold beginsB;by_cases h2:op=15
   ·subst h2;rfl
   ·by_cases h3:op=18
    ·subst h3;rfl
    ·by_cases h4:op=19
     ·subst h4;rfl
     ·simp[h2,h3,h4] at h1
  rcases h.form with⟨h2,_⟩|⟨g,cap,hv,_,_,hc,hc2⟩
  ·exact absurd h2 (hne h1)
  ·cases st with
   |nil=>exact absurd rfl (hne h1)
   |cons x r =>
    subst hv;have hr:r.length<1000:=by simp at hl;omega
    by_cases h3:op=18
    ·rw[show behindP (x::r) i op=i::r by simp[behindP,tailP,hb0,h3,endsI]]
     exact behind_turn base g cap x r i op w h hr hc hc2 hb (by simpa using h1) hb0 (by simpa using h3)
    ·rw[show behindP (x::r) i op=r by simp[behindP,tailP,hb0,h3,h1]]
     exact behind_pop base g cap x r i op w h hr hc hc2 hb (by simpa using h1) hb0 (by simpa using h3)
 ·have h18:op≠18:=by rintro rfl;exact h1 (by decide)
  cases hb0:beginsB op
  ·rw[show behindP st i op=st by simp[behindP,tailP,hb0,h18,h1]]
   exact behind_none base v st i op w h hl hb (by simpa using h1) hb0 (by simpa using h18)
  ·rw[show behindP st i op=i::st by simp[behindP,tailP,hb0,h1]]
   exact behind_push base v st i op w h hl hb (by simpa using h1) hb0
end Go.Proofs.YtfodmgaliclhfaaGreatDoor

/- Lemmas for TopPairs; no conditions. -/
import Derived.Test.YtfodmgaliclhfaaGreatDoorGStack
import Derived.Outline
import Derived.Test.YtfodmgaliclhfaaGreatDoorGMmHeap
import Derived.Deep.RegionWith
import Derived.Deep.OwnRows
namespace Go.Proofs.YtfodmgaliclhfaaGreatDoor
set_option linter.unusedVariables false
set_option linter.unusedSimpArgs false
set_option maxRecDepth 100000
set_option maxHeartbeats 4000000
open Go.RowKit
theorem stackop_nil (base:Nat)(v:Value)(p:Value)(w:World)(h:Stack w base v []):
  Calls Tryz.prog 208 #[v,.agg #[p]] w fun e w'=>e=.returned (.int .i64 0)∧Only Nob w w':=by
 rcases h.form with⟨_,rfl⟩|⟨g,cap,hv,_,_,_,hc⟩
 ·go_enter Tryz.func208,Tryz.ntmps208;go_wp2;go_ret;exact⟨rfl,Only.alloc (Only.refl _ _) _⟩
 ·rw[hv];clear h hv;simp only[List.length_nil];go_enter Tryz.func208,Tryz.ntmps208;go_wp2;go_ret;exact⟨rfl,Only.alloc (Only.refl _ _) _⟩
theorem inmost_cons (base:Nat)(v:Value)(x:Int)(r:List Int)(w:World)(h:Stack w base v (x::r))(hl:(x::r).length≤1000):
  Calls Tryz.prog 178 #[v] w fun e w'=>e=.returned (.int .i64 x)∧w=w':=inmost_any base v (x::r) w h hl
theorem stackop_cons (base B:Nat)(v:Value)(k:Nat)(r:List Int)(w:World)(A:Option Addr)(cap:Nat)(l:List PIns)(h:Stack w base v ((k:Int)::r))(hl:r.length<1000)(hp:ProgIn w B A l)(hB:B≤w.heap.size)
  (hn:l.length≤1000) (hk:k<l.length):
  Calls Tryz.prog 208 #[v,.agg #[.slice A l.length cap]] w fun e w'=>e=.returned (.int .i64 (opOf l k))∧Only Nob w w':=by
 obtain⟨b,o,rfl,hlt,hi⟩:=hp.at_ hk;have hc:=hi.1;have hblt:b<w.heap.size:=by omega
 have HS:Hid (Stack w base v ((k:Int)::r)):=h;rcases h.form with⟨h0,_⟩|⟨g,vcap,hv,_,_,_,_⟩
 ·cases h0
 ·subst hv;have HO:Hid ((l.getD k PIns.none).op=opOf l k):=rfl;clear h hp hi;simp only[List.length_cons] at HS ⊢;generalize (l.getD k PIns.none).op=op at *
  generalize hlen:r.length=m at *
  have hlen':=h_ hlen;clear hlen;have hd:((m:Int)+1==0)=false:=by simp;omega
  have hkI:(k:Int)<(l.length:Int):=by omega
  go_enter Tryz.func208,Tryz.ntmps208;go_wp2_with fail;go_quiet ((go_at_call 178;exact quiet_left (inmost_cons base _ (k:Int) r _ (HS.o.alloc _) (by simp[hlen'.out];omega))))
  go_wp2;go_ret;exact⟨by rw[HO.o];rfl,Only.drewN (Only.alloc (Only.refl _ _) _) _⟩
theorem stackop_any (base B:Nat)(v:Value)(st:List Int)(w:World)(A:Option Addr)(cap:Nat)(l:List PIns)(h:Stack w base v st)(hl:st.length<1000)(hp:ProgIn w B A l)(hB:B≤w.heap.size)
  (hn:l.length≤1000) (hst:∀t∈st,0≤t∧t<(l.length:Int)):
  Calls Tryz.prog 208 #[v,.agg #[.slice A l.length cap]] w fun e w'=>e=.returned (.int .i64 (opAt l st))∧Only Nob w w':=by
 cases st with
 |nil=>exact stackop_nil base v _ w h
 |cons x r =>
  obtain⟨h0,h1⟩:=hst x (by simp)
  obtain⟨k,rfl⟩:=Int.eq_ofNat_of_zero_le h0;have hr:r.length<1000:=by simp at hl;omega
  exact stackop_cons base B v k r w A cap l h hr hp hB hn (by omega)
def BehindPost (w:World)(base:Nat)(st:List Int)(e:Ending)(w':World):Prop :=
 ∃v,e=.returned v∧Stack w' base v st∧Below base w w'
theorem behind_push (base:Nat)(v:Value)(st:List Int)(i op:Int)(w:World)(h:Stack w base v st)(hl:st.length<1000)(hb:base≤w.heap.size)(e1:decide (0<endsI op)=false)(e2:beginsB op=true):
  Calls Tryz.prog 177 #[v,.int .i64 i,.int .i64 op] w (BehindPost w base (i::st)):=by
 obtain⟨i0,hi,hz0,hz1,hz2⟩:=info_parts infoInt;have HS:Hid (Stack w base v st):=h;clear h;go_enter Tryz.func177,Tryz.ntmps177;go_wp2_with (first
  |(go_at_call 181;refine(ends_any _ _).mono ?_;rintro e w1 ⟨rfl,rfl⟩)
  |(go_at_call 209;refine(begins_any _ _).mono ?_;rintro e w1 ⟨rfl,rfl⟩)
  |(at_builtin;refine wpList_append_own _ rfl _ _ 272 rfl base 3 i0 (.int .i64 0) 1 8 Tryz.underlying272 hi hz0 hz1 hz2 rfl (by decide) _ _ _ rfl (HS.o.alloc _) ⟨w.heap.size,0,none⟩ 1 1 [.int .i64 i] rfl rfl (cell_one_new _ _ _) (fun x hx=>by simp at hx;subst hx;rfl) (by unfold maxLen;omega) (by omega) (by simp;omega) ?_;intro v' w3 hown' hgrow3 hnil3))
 go_ret;exact⟨_,rfl,Stack.push hown',(Below.alloc' (Below.refl _ _) hb _).trans (below_grown (HS.o.alloc _) hgrow3 (by simp;omega))⟩
theorem behind_none (base:Nat)(v:Value)(st:List Int)(i op:Int)(w:World)(h:Stack w base v st)(hl:st.length<1000)(hb:base≤w.heap.size)(e1:decide (0<endsI op)=false)(e2:beginsB op=false)(e3:(op==18)=false):
  Calls Tryz.prog 177 #[v,.int .i64 i,.int .i64 op] w (BehindPost w base st):=by
 have HS:Hid (Stack w base v st):=h;clear h;go_enter Tryz.func177,Tryz.ntmps177;go_wp2_with (first
  |(go_at_call 181;refine(ends_any _ _).mono ?_;rintro e w1 ⟨rfl,rfl⟩)
  |(go_at_call 209;refine(begins_any _ _).mono ?_;rintro e w1 ⟨rfl,rfl⟩))
 go_ret;exact⟨_,rfl,HS.o,Below.refl _ _⟩
theorem behind_pop (base g cap:Nat)(x:Int)(st:List Int)(i op:Int)(w:World)(h:Stack w base (.slice (some ⟨g,0,none⟩) (st.length+1) cap) (x::st))(hl:st.length<1000)(hcap:st.length+1≤cap)(hcap2:cap≤maxLen)(hb:base≤w.heap.size)(e1:decide (0<endsI op)=true)(e2:beginsB op=false)(e3:(op==18)=false):
  Calls Tryz.prog 177 #[.slice (some ⟨g,0,none⟩) (st.length+1) cap,.int .i64 i,.int .i64 op] w (BehindPost w base st):=by
 have HS:Hid (Stack w base (.slice (some ⟨g,0,none⟩) st.length cap) st):=h.pop;clear h;generalize hlen:st.length=m at *
 have Hlen:=h_ hlen;clear hlen;unfold maxLen at hcap2;go_enter Tryz.func177,Tryz.ntmps177;go_wp2_with (first
  |(go_at_call 181;refine(ends_any _ _).mono ?_;rintro e w1 ⟨rfl,rfl⟩)
  |(go_at_call 209;refine(begins_any _ _).mono ?_;rintro e w1 ⟨rfl,rfl⟩))
 go_ret;exact⟨_,rfl,HS.o,Below.refl _ _⟩
theorem behind_turn (base g cap:Nat)(x:Int)(st:List Int)(i op:Int)(w:World)(h:Stack w base (.slice (some ⟨g,0,none⟩) (st.length+1) cap) (x::st))(hl:st.length<1000)(hcap:st.length+1≤cap)(hcap2:cap≤maxLen)(hb:base≤w.heap.size)(e1:decide (0<endsI op)=true)(e2:beginsB op=false)(e3:(op==18)=true):
  Calls Tryz.prog 177 #[.slice (some ⟨g,0,none⟩) (st.length+1) cap,.int .i64 i,.int .i64 op] w (BehindPost w base (i::st)):=by
 obtain⟨i0,hi,hz0,hz1,hz2⟩:=info_parts infoInt;have HS:Hid (Stack w base (.slice (some ⟨g,0,none⟩) st.length cap) st):=h.pop;clear h;generalize hlen:st.length=m at *
 have Hlen:=h_ hlen;clear hlen;unfold maxLen at hcap2;have HO:Hid (∀o,World.ownsRow (w.alloc o) base 3 1 (.slice (some ⟨g,0,none⟩) m cap) m (ints st.reverse)):=fun o=>by
  have:=HS.o.alloc o
  unfold Stack at this;rw[Hlen.o] at this;exact this
 go_enter Tryz.func177,Tryz.ntmps177;go_wp2_with (first
  |(go_at_call 181;refine(ends_any _ _).mono ?_;rintro e w1 ⟨rfl,rfl⟩)
  |(go_at_call 209;refine(begins_any _ _).mono ?_;rintro e w1 ⟨rfl,rfl⟩)
  |(at_builtin;refine wpList_append_own _ rfl _ _ 272 rfl base 3 i0 (.int .i64 0) 1 8 Tryz.underlying272 hi hz0 hz1 hz2 rfl (by decide) _ _ _ rfl (HO.o _) ⟨w.heap.size,0,none⟩ 1 1 [.int .i64 i] rfl rfl (cell_one_new _ _ _) (fun x hx=>by simp at hx;subst hx;rfl) (by unfold maxLen;omega) (by omega) (by simp;omega) ?_;intro v' w3 hown' hgrow3 hnil3))
 go_ret;exact⟨_,rfl,Stack.push (by rw[Hlen.o];exact hown'),(Below.alloc' (Below.refl _ _) hb _).trans (below_grown (HO.o _) hgrow3 (by simp;omega))⟩
theorem behind_any (base:Nat)(v:Value)(st:List Int)(i op:Int)(w:World)(h:Stack w base v st)(hl:st.length<1000)(hb:base≤w.heap.size)(hne:0<endsI op→st≠[]):
  Calls Tryz.prog 177 #[v,.int .i64 i,.int .i64 op] w (BehindPost w base (behindP st i op)):=by
 by_cases h1:0<endsI op
 ·have hb0:beginsB op=false:=by
   unfold endsI at h1;unfold beginsB;by_cases h2:op=15
   ·subst h2;rfl
   ·by_cases h3:op=18
    ·subst h3;rfl
    ·by_cases h4:op=19
     ·subst h4;rfl
     ·simp[h2,h3,h4] at h1
  rcases h.form with⟨h2,_⟩|⟨g,cap,hv,_,_,hc,hc2⟩
  ·exact absurd h2 (hne h1)
  ·cases st with
   |nil=>exact absurd rfl (hne h1)
   |cons x r =>
    subst hv;have hr:r.length<1000:=by simp at hl;omega
    by_cases h3:op=18
    ·rw[show behindP (x::r) i op=i::r by simp[behindP,tailP,hb0,h3,endsI]]
     exact behind_turn base g cap x r i op w h hr hc hc2 hb (by simpa using h1) hb0 (by simpa using h3)
    ·rw[show behindP (x::r) i op=r by simp[behindP,tailP,hb0,h3,h1]]
     exact behind_pop base g cap x r i op w h hr hc hc2 hb (by simpa using h1) hb0 (by simpa using h3)
 ·have h18:op≠18:=by rintro rfl;exact h1 (by decide)
  cases hb0:beginsB op
  ·rw[show behindP st i op=st by simp[behindP,tailP,hb0,h18,h1]]
   exact behind_none base v st i op w h hl hb (by simpa using h1) hb0 (by simpa using h18)
  ·rw[show behindP st i op=i::st by simp[behindP,tailP,hb0,h1]]
   exact behind_push base v st i op w h hl hb (by simpa using h1) hb0
theorem wrong_may (base B:Nat)(v:Value)(st:List Int)(x:PIns)(w:World)(A:Option Addr)(cap:Nat)(l:List PIns)(h:Stack w base v st)(hl:st.length<1000)(hp:ProgIn w B A l)(hB:B≤w.heap.size)
  (hn:l.length≤1000) (hst:∀t∈st,0≤t∧t<(l.length:Int)) (h1:mayB x.op x.a x.b x.c x.n=false):
  Calls Tryz.prog 176 #[.agg #[.slice A l.length cap],v,.agg #[.int .i64 x.op,.int .i64 x.a,.int .i64 x.b,.int .i64 x.c,.int .u64 x.n]] w fun e w'=>e=.returned (.int .i64 8)∧Only Nob w w':=by
 have HS:=h_ h;have HP:=h_ hp;clear h hp;go_enter Tryz.func176,Tryz.ntmps176;go_wp2_with (first
  |(go_at_call 207;refine(may_any _ _ _ _ _ _).mono ?_;rintro e wA ⟨rfl,hoA⟩;have hon:Only Nob w wA:=Only.trans (Only.alloc (Only.alloc (Only.refl _ _) _) _) hoA;have HSA:=h_ (HS.o.only hon);have HPA:=h_ (HP.o.keep (below_nob hon hB));have kp:=((Blk.new w 32 #[.slice A l.length cap]).alloc (.cells #[.int .i64 x.op,.int .i64 x.a,.int .i64 x.b,.int .i64 x.c,.int .u64 x.n] 87)).only hoA (fun h=>h);have kx:=(Blk.new (w.alloc (.cells #[.slice A l.length cap] 32)) 87 #[.int .i64 x.op,.int .i64 x.a,.int .i64 x.b,.int .i64 x.c,.int .u64 x.n]).only hoA (fun h=>h);have hsz:w.heap.size+1<wA.heap.size:=Nat.lt_of_lt_of_le (by simp) hoA.size;have hsz2:w.heap.size<wA.heap.size:=Nat.lt_of_succ_lt hsz;simp only[World.size_alloc] at kx;have kp0:=kp.one;have kpf:=kp.frozen;obtain⟨kx0,kx1,kx2,kx3,kx4⟩:=kx.five;have kxf:=kx.frozen))
 all_goals
  go_ret;refine⟨rfl,?_⟩;repeat' (first|(with_reducible first|exact Only.refl _ _|exact hon|refine Only.trans ?_ hoB|refine Only.drewN ?_ _|refine Only.drew ?_))
theorem wrong_ends (base B:Nat)(v:Value)(st:List Int)(x:PIns)(w:World)(A:Option Addr)(cap:Nat)(l:List PIns)(h:Stack w base v st)(hl:st.length<1000)(hp:ProgIn w B A l)(hB:B≤w.heap.size)
  (hn:l.length≤1000) (hst:∀t∈st,0≤t∧t<(l.length:Int)) (h1:mayB x.op x.a x.b x.c x.n=true) (h2:decide (0<endsI x.op)=true) (h3:(opAt l st != endsI x.op)=true):
  Calls Tryz.prog 176 #[.agg #[.slice A l.length cap],v,.agg #[.int .i64 x.op,.int .i64 x.a,.int .i64 x.b,.int .i64 x.c,.int .u64 x.n]] w fun e w'=>e=.returned (.int .i64 12)∧Only Nob w w':=by
 have HS:=h_ h;have HP:=h_ hp;clear h hp;go_enter Tryz.func176,Tryz.ntmps176;go_wp2_with (first
  |(go_at_call 207;refine(may_any _ _ _ _ _ _).mono ?_;rintro e wA ⟨rfl,hoA⟩;have hon:Only Nob w wA:=Only.trans (Only.alloc (Only.alloc (Only.refl _ _) _) _) hoA;have HSA:=h_ (HS.o.only hon);have HPA:=h_ (HP.o.keep (below_nob hon hB));have kp:=((Blk.new w 32 #[.slice A l.length cap]).alloc (.cells #[.int .i64 x.op,.int .i64 x.a,.int .i64 x.b,.int .i64 x.c,.int .u64 x.n] 87)).only hoA (fun h=>h);have kx:=(Blk.new (w.alloc (.cells #[.slice A l.length cap] 32)) 87 #[.int .i64 x.op,.int .i64 x.a,.int .i64 x.b,.int .i64 x.c,.int .u64 x.n]).only hoA (fun h=>h);have hsz:w.heap.size+1<wA.heap.size:=Nat.lt_of_lt_of_le (by simp) hoA.size;have hsz2:w.heap.size<wA.heap.size:=Nat.lt_of_succ_lt hsz;simp only[World.size_alloc] at kx;have kp0:=kp.one;have kpf:=kp.frozen;obtain⟨kx0,kx1,kx2,kx3,kx4⟩:=kx.five;have kxf:=kx.frozen))
 go_region_with (first
  |(go_at_call 181;refine(ends_any _ _).mono ?_;rintro e w1 ⟨rfl,rfl⟩)
  |(go_at_call 208;refine(stackop_any base B v st _ A cap l HSA.o.drew (by omega) HPA.o.drew (Nat.le_trans hB hon.size) hn hst).mono ?_;rintro e wB ⟨rfl,hoB⟩;have kxB:=(kx.drew).only hoB (fun h=>h);have kpB:=(kp.drew).only hoB (fun h=>h);have kpB0:=kpB.one;have kpBf:=kpB.frozen;obtain⟨kxB0,kxB1,kxB2,kxB3,kxB4⟩:=kxB.five;have kxBf:=kxB.frozen))
 all_goals
  go_wp2;go_ret;refine⟨rfl,?_⟩;repeat' (first|(with_reducible first|exact Only.refl _ _|exact hon|refine Only.trans ?_ hoB|refine Only.drewN ?_ _|refine Only.drew ?_))
theorem wrong_fit (base B:Nat)(v:Value)(st:List Int)(x:PIns)(w:World)(A:Option Addr)(cap:Nat)(l:List PIns)(h:Stack w base v st)(hl:st.length<1000)(hp:ProgIn w B A l)(hB:B≤w.heap.size)
  (hn:l.length≤1000) (hst:∀t∈st,0≤t∧t<(l.length:Int)) (h1:mayB x.op x.a x.b x.c x.n=true) (h2:decide (0<endsI x.op)=true) (h3:(opAt l st != endsI x.op)=false) (h4:(x.op==16)=false) (h5:beginsB x.op=false):
  Calls Tryz.prog 176 #[.agg #[.slice A l.length cap],v,.agg #[.int .i64 x.op,.int .i64 x.a,.int .i64 x.b,.int .i64 x.c,.int .u64 x.n]] w fun e w'=>e=.returned (.int .i64 0)∧Only Nob w w':=by
 have HS:=h_ h;have HP:=h_ hp;clear h hp;go_enter Tryz.func176,Tryz.ntmps176;go_wp2_with (first
  |(go_at_call 207;refine(may_any _ _ _ _ _ _).mono ?_;rintro e wA ⟨rfl,hoA⟩;have hon:Only Nob w wA:=Only.trans (Only.alloc (Only.alloc (Only.refl _ _) _) _) hoA;have HSA:=h_ (HS.o.only hon);have HPA:=h_ (HP.o.keep (below_nob hon hB));have kp:=((Blk.new w 32 #[.slice A l.length cap]).alloc (.cells #[.int .i64 x.op,.int .i64 x.a,.int .i64 x.b,.int .i64 x.c,.int .u64 x.n] 87)).only hoA (fun h=>h);have kx:=(Blk.new (w.alloc (.cells #[.slice A l.length cap] 32)) 87 #[.int .i64 x.op,.int .i64 x.a,.int .i64 x.b,.int .i64 x.c,.int .u64 x.n]).only hoA (fun h=>h);have hsz:w.heap.size+1<wA.heap.size:=Nat.lt_of_lt_of_le (by simp) hoA.size;have hsz2:w.heap.size<wA.heap.size:=Nat.lt_of_succ_lt hsz;simp only[World.size_alloc] at kx;have kp0:=kp.one;have kpf:=kp.frozen;obtain⟨kx0,kx1,kx2,kx3,kx4⟩:=kx.five;have kxf:=kx.frozen))
 go_region_with (first
  |(go_at_call 181;refine(ends_any _ _).mono ?_;rintro e w1 ⟨rfl,rfl⟩)
  |(go_at_call 208;refine(stackop_any base B v st _ A cap l HSA.o.drew (by omega) HPA.o.drew (Nat.le_trans hB hon.size) hn hst).mono ?_;rintro e wB ⟨rfl,hoB⟩;have kxB:=(kx.drew).only hoB (fun h=>h);have kpB:=(kp.drew).only hoB (fun h=>h);have kpB0:=kpB.one;have kpBf:=kpB.frozen;obtain⟨kxB0,kxB1,kxB2,kxB3,kxB4⟩:=kxB.five;have kxBf:=kxB.frozen))
 all_goals
  go_wp2_with (go_at_call 209;refine(begins_any _ _).mono ?_;rintro e w1 ⟨rfl,rfl⟩);go_ret;refine⟨rfl,?_⟩;repeat' (first|(with_reducible first|exact Only.refl _ _|exact hon|refine Only.trans ?_ hoB|refine Only.drewN ?_ _|refine Only.drew ?_))
theorem wrong_undo (base B:Nat)(v:Value)(st:List Int)(x:PIns)(w:World)(A:Option Addr)(cap:Nat)(l:List PIns)(h:Stack w base v st)(hl:st.length<1000)(hp:ProgIn w B A l)(hB:B≤w.heap.size)
  (hn:l.length≤1000) (hst:∀t∈st,0≤t∧t<(l.length:Int)) (h1:mayB x.op x.a x.b x.c x.n=true) (h2:decide (0<endsI x.op)=false) (h4:(x.op==16)=true) (h3:(opAt l st != 14)=true):
  Calls Tryz.prog 176 #[.agg #[.slice A l.length cap],v,.agg #[.int .i64 x.op,.int .i64 x.a,.int .i64 x.b,.int .i64 x.c,.int .u64 x.n]] w fun e w'=>e=.returned (.int .i64 12)∧Only Nob w w':=by
 have HS:=h_ h;have HP:=h_ hp;clear h hp;go_enter Tryz.func176,Tryz.ntmps176;go_wp2_with (first
  |(go_at_call 207;refine(may_any _ _ _ _ _ _).mono ?_;rintro e wA ⟨rfl,hoA⟩;have hon:Only Nob w wA:=Only.trans (Only.alloc (Only.alloc (Only.refl _ _) _) _) hoA;have HSA:=h_ (HS.o.only hon);have HPA:=h_ (HP.o.keep (below_nob hon hB));have kp:=((Blk.new w 32 #[.slice A l.length cap]).alloc (.cells #[.int .i64 x.op,.int .i64 x.a,.int .i64 x.b,.int .i64 x.c,.int .u64 x.n] 87)).only hoA (fun h=>h);have kx:=(Blk.new (w.alloc (.cells #[.slice A l.length cap] 32)) 87 #[.int .i64 x.op,.int .i64 x.a,.int .i64 x.b,.int .i64 x.c,.int .u64 x.n]).only hoA (fun h=>h);have hsz:w.heap.size+1<wA.heap.size:=Nat.lt_of_lt_of_le (by simp) hoA.size;have hsz2:w.heap.size<wA.heap.size:=Nat.lt_of_succ_lt hsz;simp only[World.size_alloc] at kx;have kp0:=kp.one;have kpf:=kp.frozen;obtain⟨kx0,kx1,kx2,kx3,kx4⟩:=kx.five;have kxf:=kx.frozen))
 go_quiet ((go_at_call 181;exact quiet_left (ends_any _ _)));go_wp2_with (first
  |(go_at_call 208;refine(stackop_any base B v st _ A cap l (HSA.o.drewN _) (by omega) (HPA.o.drewN _) (Nat.le_trans hB hon.size) hn hst).mono ?_;rintro e wB ⟨rfl,hoB⟩;have kxB:=(kx.drewN _).only hoB (fun h=>h);have kpB:=(kp.drewN _).only hoB (fun h=>h);have kpB0:=kpB.one;have kpBf:=kpB.frozen;obtain⟨kxB0,kxB1,kxB2,kxB3,kxB4⟩:=kxB.five;have kxBf:=kxB.frozen))
 all_goals
  go_ret;refine⟨rfl,?_⟩;repeat' (first|(with_reducible first|exact Only.refl _ _|exact hon|refine Only.trans ?_ hoB|refine Only.drewN ?_ _|refine Only.drew ?_))
theorem wrong_undoes (base B:Nat)(v:Value)(st:List Int)(x:PIns)(w:World)(A:Option Addr)(cap:Nat)(l:List PIns)(h:Stack w base v st)(hl:st.length<1000)(hp:ProgIn w B A l)(hB:B≤w.heap.size)
  (hn:l.length≤1000) (hst:∀t∈st,0≤t∧t<(l.length:Int)) (h1:mayB x.op x.a x.b x.c x.n=true) (h2:decide (0<endsI x.op)=false) (h4:(x.op==16)=true) (h3:(opAt l st != 14)=false) (h5:beginsB x.op=false):
  Calls Tryz.prog 176 #[.agg #[.slice A l.length cap],v,.agg #[.int .i64 x.op,.int .i64 x.a,.int .i64 x.b,.int .i64 x.c,.int .u64 x.n]] w fun e w'=>e=.returned (.int .i64 0)∧Only Nob w w':=by
 have HS:=h_ h;have HP:=h_ hp;clear h hp;go_enter Tryz.func176,Tryz.ntmps176;go_wp2_with (first
  |(go_at_call 207;refine(may_any _ _ _ _ _ _).mono ?_;rintro e wA ⟨rfl,hoA⟩;have hon:Only Nob w wA:=Only.trans (Only.alloc (Only.alloc (Only.refl _ _) _) _) hoA;have HSA:=h_ (HS.o.only hon);have HPA:=h_ (HP.o.keep (below_nob hon hB));have kp:=((Blk.new w 32 #[.slice A l.length cap]).alloc (.cells #[.int .i64 x.op,.int .i64 x.a,.int .i64 x.b,.int .i64 x.c,.int .u64 x.n] 87)).only hoA (fun h=>h);have kx:=(Blk.new (w.alloc (.cells #[.slice A l.length cap] 32)) 87 #[.int .i64 x.op,.int .i64 x.a,.int .i64 x.b,.int .i64 x.c,.int .u64 x.n]).only hoA (fun h=>h);have hsz:w.heap.size+1<wA.heap.size:=Nat.lt_of_lt_of_le (by simp) hoA.size;have hsz2:w.heap.size<wA.heap.size:=Nat.lt_of_succ_lt hsz;simp only[World.size_alloc] at kx;have kp0:=kp.one;have kpf:=kp.frozen;obtain⟨kx0,kx1,kx2,kx3,kx4⟩:=kx.five;have kxf:=kx.frozen))
 go_quiet ((go_at_call 181;exact quiet_left (ends_any _ _)));go_wp2_with (first
  |(go_at_call 208;refine(stackop_any base B v st _ A cap l (HSA.o.drewN _) (by omega) (HPA.o.drewN _) (Nat.le_trans hB hon.size) hn hst).mono ?_;rintro e wB ⟨rfl,hoB⟩;have kxB:=(kx.drewN _).only hoB (fun h=>h);have kpB:=(kp.drewN _).only hoB (fun h=>h);have kpB0:=kpB.one;have kpBf:=kpB.frozen;obtain⟨kxB0,kxB1,kxB2,kxB3,kxB4⟩:=kxB.five;have kxBf:=kxB.frozen)
  |(go_at_call 209;refine(begins_any _ _).mono ?_;rintro e w1 ⟨rfl,rfl⟩))
 all_goals
  go_ret;refine⟨rfl,?_⟩;repeat' (first|(with_reducible first|exact Only.refl _ _|exact hon|refine Only.trans ?_ hoB|refine Only.drewN ?_ _|refine Only.drew ?_))
theorem wrong_deep (base B:Nat)(v:Value)(st:List Int)(x:PIns)(w:World)(A:Option Addr)(cap:Nat)(l:List PIns)(h:Stack w base v st)(hl:st.length<1000)(hp:ProgIn w B A l)(hB:B≤w.heap.size)
  (hn:l.length≤1000) (hst:∀t∈st,0≤t∧t<(l.length:Int)) (h1:mayB x.op x.a x.b x.c x.n=true) (h2:decide (0<endsI x.op)=false) (h4:(x.op==16)=false) (h5:beginsB x.op=true) (h6:5≤st.length):
  Calls Tryz.prog 176 #[.agg #[.slice A l.length cap],v,.agg #[.int .i64 x.op,.int .i64 x.a,.int .i64 x.b,.int .i64 x.c,.int .u64 x.n]] w fun e w'=>e=.returned (.int .i64 9)∧Only Nob w w':=by
 have HS:=h_ h;have HP:=h_ hp;clear h hp;rcases HS.o.form with⟨h7,hv⟩|⟨g,vcap,hv,_,_,hv1,hv2⟩
 ·exfalso;subst h7;simp at h6
 ·subst hv;have d6:decide ((5:Int)≤st.length)=true:=by simp;omega
  go_enter Tryz.func176,Tryz.ntmps176;go_wp2_with (first
   |(go_at_call 207;refine(may_any _ _ _ _ _ _).mono ?_;rintro e wA ⟨rfl,hoA⟩;have hon:Only Nob w wA:=Only.trans (Only.alloc (Only.alloc (Only.refl _ _) _) _) hoA;have HSA:=h_ (HS.o.only hon);have HPA:=h_ (HP.o.keep (below_nob hon hB));have kp:=((Blk.new w 32 #[.slice A l.length cap]).alloc (.cells #[.int .i64 x.op,.int .i64 x.a,.int .i64 x.b,.int .i64 x.c,.int .u64 x.n] 87)).only hoA (fun h=>h);have kx:=(Blk.new (w.alloc (.cells #[.slice A l.length cap] 32)) 87 #[.int .i64 x.op,.int .i64 x.a,.int .i64 x.b,.int .i64 x.c,.int .u64 x.n]).only hoA (fun h=>h);have hsz:w.heap.size+1<wA.heap.size:=Nat.lt_of_lt_of_le (by simp) hoA.size;have hsz2:w.heap.size<wA.heap.size:=Nat.lt_of_succ_lt hsz;simp only[World.size_alloc] at kx;have kp0:=kp.one;have kpf:=kp.frozen;obtain⟨kx0,kx1,kx2,kx3,kx4⟩:=kx.five;have kxf:=kx.frozen))
  go_quiet ((go_at_call 181;exact quiet_left (ends_any _ _)));go_wp2_with (first
   |(go_at_call 209;refine(begins_any _ _).mono ?_;rintro e w1 ⟨rfl,rfl⟩))
  all_goals
   go_ret;refine⟨rfl,?_⟩;repeat' (first|(with_reducible first|exact Only.refl _ _|exact hon|refine Only.trans ?_ hoB|refine Only.drewN ?_ _|refine Only.drew ?_))
theorem wrong_begins (base B:Nat)(v:Value)(st:List Int)(x:PIns)(w:World)(A:Option Addr)(cap:Nat)(l:List PIns)(h:Stack w base v st)(hl:st.length<1000)(hp:ProgIn w B A l)(hB:B≤w.heap.size)
  (hn:l.length≤1000) (hst:∀t∈st,0≤t∧t<(l.length:Int)) (h1:mayB x.op x.a x.b x.c x.n=true) (h2:decide (0<endsI x.op)=false) (h4:(x.op==16)=false) (h5:beginsB x.op=true) (h6:st.length<5):
  Calls Tryz.prog 176 #[.agg #[.slice A l.length cap],v,.agg #[.int .i64 x.op,.int .i64 x.a,.int .i64 x.b,.int .i64 x.c,.int .u64 x.n]] w fun e w'=>e=.returned (.int .i64 0)∧Only Nob w w':=by
 have HS:=h_ h;have HP:=h_ hp;clear h hp;rcases HS.o.form with⟨h7,hv⟩|⟨g,vcap,hv,_,_,hv1,hv2⟩
 ·subst h7;subst hv;clear h6;have hst:∀t∈([]:List Int),0≤t∧t<(l.length:Int):=hst;go_enter Tryz.func176,Tryz.ntmps176;go_wp2_with (first
   |(go_at_call 207;refine(may_any _ _ _ _ _ _).mono ?_;rintro e wA ⟨rfl,hoA⟩;have hon:Only Nob w wA:=Only.trans (Only.alloc (Only.alloc (Only.refl _ _) _) _) hoA;have HSA:=h_ (HS.o.only hon);have HPA:=h_ (HP.o.keep (below_nob hon hB));have kp:=((Blk.new w 32 #[.slice A l.length cap]).alloc (.cells #[.int .i64 x.op,.int .i64 x.a,.int .i64 x.b,.int .i64 x.c,.int .u64 x.n] 87)).only hoA (fun h=>h);have kx:=(Blk.new (w.alloc (.cells #[.slice A l.length cap] 32)) 87 #[.int .i64 x.op,.int .i64 x.a,.int .i64 x.b,.int .i64 x.c,.int .u64 x.n]).only hoA (fun h=>h);have hsz:w.heap.size+1<wA.heap.size:=Nat.lt_of_lt_of_le (by simp) hoA.size;have hsz2:w.heap.size<wA.heap.size:=Nat.lt_of_succ_lt hsz;simp only[World.size_alloc] at kx;have kp0:=kp.one;have kpf:=kp.frozen;obtain⟨kx0,kx1,kx2,kx3,kx4⟩:=kx.five;have kxf:=kx.frozen))
  go_quiet ((go_at_call 181;exact quiet_left (ends_any _ _)));go_wp2_with (first
   |(go_at_call 209;refine(begins_any _ _).mono ?_;rintro e w1 ⟨rfl,rfl⟩))
  all_goals
   go_ret;refine⟨rfl,?_⟩;repeat' (first|(with_reducible first|exact Only.refl _ _|exact hon|refine Only.trans ?_ hoB|refine Only.drewN ?_ _|refine Only.drew ?_))
 ·subst hv;have d6:decide ((5:Int)≤st.length)=false:=by simp;omega
  go_enter Tryz.func176,Tryz.ntmps176;go_wp2_with (first
   |(go_at_call 207;refine(may_any _ _ _ _ _ _).mono ?_;rintro e wA ⟨rfl,hoA⟩;have hon:Only Nob w wA:=Only.trans (Only.alloc (Only.alloc (Only.refl _ _) _) _) hoA;have HSA:=h_ (HS.o.only hon);have HPA:=h_ (HP.o.keep (below_nob hon hB));have kp:=((Blk.new w 32 #[.slice A l.length cap]).alloc (.cells #[.int .i64 x.op,.int .i64 x.a,.int .i64 x.b,.int .i64 x.c,.int .u64 x.n] 87)).only hoA (fun h=>h);have kx:=(Blk.new (w.alloc (.cells #[.slice A l.length cap] 32)) 87 #[.int .i64 x.op,.int .i64 x.a,.int .i64 x.b,.int .i64 x.c,.int .u64 x.n]).only hoA (fun h=>h);have hsz:w.heap.size+1<wA.heap.size:=Nat.lt_of_lt_of_le (by simp) hoA.size;have hsz2:w.heap.size<wA.heap.size:=Nat.lt_of_succ_lt hsz;simp only[World.size_alloc] at kx;have kp0:=kp.one;have kpf:=kp.frozen;obtain⟨kx0,kx1,kx2,kx3,kx4⟩:=kx.five;have kxf:=kx.frozen))
  go_quiet ((go_at_call 181;exact quiet_left (ends_any _ _)));go_wp2_with (first
   |(go_at_call 209;refine(begins_any _ _).mono ?_;rintro e w1 ⟨rfl,rfl⟩))
  all_goals
   go_ret;refine⟨rfl,?_⟩;repeat' (first|(with_reducible first|exact Only.refl _ _|exact hon|refine Only.trans ?_ hoB|refine Only.drewN ?_ _|refine Only.drew ?_))
theorem wrong_plain (base B:Nat)(v:Value)(st:List Int)(x:PIns)(w:World)(A:Option Addr)(cap:Nat)(l:List PIns)(h:Stack w base v st)(hl:st.length<1000)(hp:ProgIn w B A l)(hB:B≤w.heap.size)
  (hn:l.length≤1000) (hst:∀t∈st,0≤t∧t<(l.length:Int)) (h1:mayB x.op x.a x.b x.c x.n=true) (h2:decide (0<endsI x.op)=false) (h4:(x.op==16)=false) (h5:beginsB x.op=false):
  Calls Tryz.prog 176 #[.agg #[.slice A l.length cap],v,.agg #[.int .i64 x.op,.int .i64 x.a,.int .i64 x.b,.int .i64 x.c,.int .u64 x.n]] w fun e w'=>e=.returned (.int .i64 0)∧Only Nob w w':=by
 have HS:=h_ h;have HP:=h_ hp;clear h hp;go_enter Tryz.func176,Tryz.ntmps176;go_wp2_with (first
  |(go_at_call 207;refine(may_any _ _ _ _ _ _).mono ?_;rintro e wA ⟨rfl,hoA⟩;have hon:Only Nob w wA:=Only.trans (Only.alloc (Only.alloc (Only.refl _ _) _) _) hoA;have HSA:=h_ (HS.o.only hon);have HPA:=h_ (HP.o.keep (below_nob hon hB));have kp:=((Blk.new w 32 #[.slice A l.length cap]).alloc (.cells #[.int .i64 x.op,.int .i64 x.a,.int .i64 x.b,.int .i64 x.c,.int .u64 x.n] 87)).only hoA (fun h=>h);have kx:=(Blk.new (w.alloc (.cells #[.slice A l.length cap] 32)) 87 #[.int .i64 x.op,.int .i64 x.a,.int .i64 x.b,.int .i64 x.c,.int .u64 x.n]).only hoA (fun h=>h);have hsz:w.heap.size+1<wA.heap.size:=Nat.lt_of_lt_of_le (by simp) hoA.size;have hsz2:w.heap.size<wA.heap.size:=Nat.lt_of_succ_lt hsz;simp only[World.size_alloc] at kx;have kp0:=kp.one;have kpf:=kp.frozen;obtain⟨kx0,kx1,kx2,kx3,kx4⟩:=kx.five;have kxf:=kx.frozen))
 go_quiet ((go_at_call 181;exact quiet_left (ends_any _ _)));go_wp2_with (first
  |(go_at_call 209;refine(begins_any _ _).mono ?_;rintro e w1 ⟨rfl,rfl⟩))
 all_goals
  go_ret;refine⟨rfl,?_⟩;repeat' (first|(with_reducible first|exact Only.refl _ _|exact hon|refine Only.trans ?_ hoB|refine Only.drewN ?_ _|refine Only.drew ?_))
theorem wrong_any (base B:Nat)(v:Value)(st:List Int)(x:PIns)(w:World)(A:Option Addr)(cap:Nat)(l:List PIns)(h:Stack w base v st)(hl:st.length<1000)(hp:ProgIn w B A l)(hB:B≤w.heap.size)
  (hn:l.length≤1000) (hst:∀t∈st,0≤t∧t<(l.length:Int)):
  Calls Tryz.prog 176 #[.agg #[.slice A l.length cap],v,.agg #[.int .i64 x.op,.int .i64 x.a,.int .i64 x.b,.int .i64 x.c,.int .u64 x.n]] w fun e w'=>e=.returned (.int .i64 (wrongP l st x))∧Only Nob w w':=by
 unfold wrongP mayP;cases h1:mayB x.op x.a x.b x.c x.n
 ·exact wrong_may base B v st x w A cap l h hl hp hB hn hst h1
 ·rw[if_neg (by decide)]
  by_cases h2:0<endsI x.op
  ·have d2:decide (0<endsI x.op)=true:=by simpa using h2
   by_cases h3:opAt l st=endsI x.op
   ·have hop:x.op=15∨x.op=18∨x.op=19:=by
     unfold endsI at h2;by_cases q1:x.op=15
     ·exact .inl q1
     ·by_cases q2:x.op=18
      ·exact .inr (.inl q2)
      ·by_cases q3:x.op=19
       ·exact .inr (.inr q3)
       ·simp[q1,q2,q3] at h2
    have h4:¬(x.op=16∧opAt l st≠14):=by omega
    have h5:beginsB x.op=false:=by rcases hop with q|q|q<;>rw[q]<;>rfl
    rw[if_neg (by simp[h3]),if_neg h4,if_neg (by simp[h5])]
    exact wrong_fit base B v st x w A cap l h hl hp hB hn hst h1 d2 (by simpa using h3) (by simp;omega) h5
   ·rw[if_pos ⟨h2,h3⟩];exact wrong_ends base B v st x w A cap l h hl hp hB hn hst h1 d2 (by simpa using h3)
  ·have d2:decide (0<endsI x.op)=false:=by simpa using h2
   rw[if_neg (by simp[h2])]
   by_cases h4:x.op=16
   ·have h5:beginsB x.op=false:=by rw[h4];rfl
    by_cases h3:opAt l st=14
    ·rw[if_neg (by simp[h3]),if_neg (by simp[h5])]
     exact wrong_undoes base B v st x w A cap l h hl hp hB hn hst h1 d2 (by simpa using h4) (by simpa using h3) h5
    ·rw[if_pos ⟨h4,h3⟩];exact wrong_undo base B v st x w A cap l h hl hp hB hn hst h1 d2 (by simpa using h4) (by simpa using h3)
   ·rw[if_neg (by simp[h4])]
    cases h5:beginsB x.op
    ·rw[if_neg (by simp)]
     exact wrong_plain base B v st x w A cap l h hl hp hB hn hst h1 d2 (by simpa using h4) h5
    ·by_cases h6:5≤st.length
     ·rw[if_pos ⟨rfl,h6⟩];exact wrong_deep base B v st x w A cap l h hl hp hB hn hst h1 d2 (by simpa using h4) h5 h6
     ·rw[if_neg (by simp;omega)]
      exact wrong_begins base B v st x w A cap l h hl hp hB hn hst h1 d2 (by simpa using h4) h5 (by omega)
def regs (l:List PIns)(k:Nat):List Int:=(List.range l.length).map fun i=>if i<k then regAt l i else 0
theorem regs_zero (l:List PIns):regs l 0=List.replicate l.length 0:=by
 apply List.ext_getElem?;intro i;simp[regs,List.getElem?_replicate];by_cases h:i<l.length
 ·simp[h,List.getElem?_range]
 ·simp[h]
theorem regs_step (l:List PIns)(k:Nat):(regs l k).set k (regAt l k)=regs l (k+1):=by
 apply List.ext_getElem?;intro i;simp only[regs,List.getElem?_set,List.length_map,List.length_range,List.getElem?_map];by_cases h:i<l.length
 ·simp only[List.getElem?_range h,Option.map_some];by_cases hk:k=i
  ·subst hk;simp[h]
  ·rw[if_neg hk]
   congr 1
   by_cases h2:i<k
   ·rw[if_pos h2,if_pos (by omega)]
   ·rw[if_neg h2,if_neg (by omega)]
 ·have:(List.range l.length)[i]?=none:=by simp;omega
  rw[this];by_cases hk:k=i
  ·subst hk;simp[h]
  ·rw[if_neg hk];rfl
theorem regs_full (l:List PIns):regs l l.length=regionsP l:=by
 unfold regs regionsP;apply List.map_congr_left;intro i hi;rw[if_pos (by simpa using hi)]
theorem regs_len (l:List PIns)(k:Nat):(regs l k).length=l.length:=by simp[regs]
theorem regionsP_at {l:List PIns}{k:Nat}(h:k<l.length):(regionsP l)[k]?=some (regAt l k):=by
 simp[regionsP,h,List.getElem?_range]
def RegionsPost (w:World)(l:List PIns)(e:Ending)(w':World):Prop :=
 ∃g,e=.returned (.slice (some ⟨g,0,none⟩) l.length l.length)∧w.heap.size≤g∧IntBlk w' g (regionsP l)∧Only Nob w w'
theorem stk_succ (l:List PIns)(k:Nat):stk l (k+1)=behindP (stk l k) k (opOf l k):=rfl
theorem regions_step {l:List PIns}{k G base:Nat}{w0 wr w1 w2:World}{o:Obj}(hb0:Below (G) w0 wr)(hG:G<base)(hsz:base≤wr.heap.size)
  (hi:IntBlk wr G (regs l k)) (hw1:w1=(wr.setCell ⟨G,k,none⟩ (.int .i64 (topP (stk l k)))).alloc o) (hb:Below base w1 w2):
  IntBlk w2 G (regs l (k+1))∧Below G w0 w2∧base≤w2.heap.size:=by
 have h1:Below G wr w1:=by
  subst hw1;exact((Below.refl _ _).setCell (p:=⟨G,k,none⟩) (show G≤G from Nat.le_refl _) _).alloc (by simp[World.setCell];omega) o
 have hs1:base≤w1.heap.size:=by subst hw1;simp[World.setCell];omega
 refine⟨?_,hb0.trans (h1.trans (hb.mono (by omega))),Nat.le_trans hs1 hb.size⟩
 have h2:IntBlk w1 G (regs l (k+1)):=by
  subst hw1;rw[←regs_step];exact(hi.set_ k _).alloc o
 exact h2.below hb hG
theorem regions_any (B:Nat)(w:World)(A:Option Addr)(cap:Nat)(l:List PIns)(hp:ProgIn w B A l)(hB:B≤w.heap.size)(hn:l.length≤1000)(hf:fine l l.length):
  Calls Tryz.prog 180 #[.agg #[.slice A l.length cap]] w (RegionsPost w l):=by
 have hmk:=fun w=>run_make_row' (P:=Tryz.prog) 50 3 (.int .i64 0) 8 Tryz.underlying50 infoInt rfl .i64 .i64 l.length (by omega) (by omega) w
 have HP:=h_ hp;have HF:=h_ hf;have HQ:Hid (∀w',IntBlk w' (w.heap.size+1) (regionsP l)→Below (w.heap.size+1) (w.alloc (.cells #[.slice A l.length cap] 32)) w'→RegionsPost w l (.returned (.slice (some ⟨w.heap.size+1,0,none⟩) l.length l.length)) w'):=by
  intro w' h1 h2;refine⟨_,rfl,by omega,h1,?_⟩
  exact Only.trans (Only.alloc (Only.refl _ _) _) (Only.of_new (by simpa using h2))
 have h0:IntBlk ((w.alloc (.cells #[.slice A l.length cap] 32)).alloc (.cells (madeCells #[.int .i64 0] l.length) 3)) (w.heap.size+1) (regs l 0):=by
  rw[regs_zero];simpa using IntBlk.made (w.alloc (.cells #[.slice A l.length cap] 32)) l.length
 have H0:=h_ h0;clear hp hf h0;go_enter Tryz.func180,Tryz.ntmps180;go_wp2;go_loopw [4,14] (fun v c wr=>∃k:Nat,k≤l.length∧c=.int .i64 k∧Stack wr (w.heap.size+2) v (stk l k)∧IntBlk wr (w.heap.size+1) (regs l k)∧Below (w.heap.size+1) (w.alloc (.cells #[.slice A l.length cap] 32)) wr∧w.heap.size+2≤wr.heap.size)
  (fun _ c _=>l.length-(intOf c).toNat)
 case atStart=>exact⟨0,by omega,rfl,Stack.nil _ _,H0.o,Below.alloc (Below.refl _ _) (by simp) _,by simp⟩
 case round =>
  obtain⟨k,hk,rfl,hst,hib,hbel,hsz⟩:=hrel;by_cases hlt:k<l.length
  ·have hpr:ProgIn wr B A l:=(HP.o.alloc hB _).keep (hbel.mono (by omega))
   obtain⟨b,o,rfl,hlb,hi⟩:=hpr.at_ hlt;obtain⟨i0,i1,i2,i3,i4⟩:=hi;have hop:(l.getD k PIns.none).op=opOf l k:=rfl;have hblt:b<wr.heap.size:=by omega
   have hbne:b≠wr.heap.size:=by omega
   have hGlt:w.heap.size+1<wr.heap.size:=by omega
   have hGne:w.heap.size+1≠wr.heap.size:=by omega
   have hc:=hib.cellD 0 (k:=k) (by rw[regs_len];exact hlt)
   have hcf:=hib.frozen k;have HS:=h_ hst;have HI:=h_ hib;have HB:=h_ hbel;have hl5:(stk l k).length≤5:=stk_len (fun j hj=>HF.o j (by omega))
   have hne:0<endsI (opOf l k)→stk l k≠[]:=fun h=>err_open (HF.o k hlt) (Or.inl h)
   have HNE:=h_ hne;clear hst hib hbel hne hpr;have hkI:(k:Int)<(l.length:Int):=by omega
   rw[hop] at i0;clear hop;generalize (l.getD k PIns.none).a=xa at *
   generalize (l.getD k PIns.none).b=xb at *
   generalize (l.getD k PIns.none).c=xc at *
   generalize (l.getD k PIns.none).n=xn at *
   generalize (regs l k).getD k 0=old at *
   go_wp2_with (first
    |(go_at_call 178;refine(inmost_any (w.heap.size+2) _ (stk l k) _ (HS.o.alloc _) (by omega)).mono ?_;rintro e w1 ⟨rfl,rfl⟩)
    |(go_at_call 177;refine(behind_any (w.heap.size+2) _ (stk l k) _ _ _ ((HS.o.far (p:=⟨w.heap.size+1,k,none⟩) (Nat.lt_succ_self _) _).alloc _) (by omega) (by simp[World.setCell];omega) HNE.o).mono ?_;rintro e w2 ⟨v',rfl,hst2,hb2⟩))
   go_roundw
   case rel =>
    obtain⟨q1,q2,q3⟩:=regions_step HB.o (by omega) hsz HI.o rfl hb2
    exact⟨k+1,by omega,by go_num,hst2,q1,q2,q3⟩
   case measure=>simp[intOf];omega
  ·obtain rfl:k=l.length:=by omega
   have HI:=h_ hib;have HB:=h_ hbel;clear hst hib hbel;go_wp2;go_ret;exact HQ.o _ (by rw[←regs_full];exact HI.o) HB.o
def pair (p:Int×Int):Value:=.tuple #[.int .i64 p.1,.int .i64 p.2]
theorem jumpsP_some {l:List PIns}{k:Nat}(h:firstBad (jumpBad l) l.length 0=some k):jumpsP l=((k:Int),2):=by unfold jumpsP;rw[h]
theorem jumpsP_none {l:List PIns}(h:firstBad (jumpBad l) l.length 0=none):jumpsP l=(0,0):=by unfold jumpsP;rw[h]
theorem jumps_any_ (B g:Nat)(w:World)(A:Option Addr)(cap:Nat)(l:List PIns)(hp:ProgIn w B A l)(hB:B≤w.heap.size)(hn:l.length≤1000)(hc0:∀k,k<l.length→jumpsB (opOf l k)=true→0≤(l.getD k PIns.none).c)
  (ha:IntBlk w g (regionsP l)):
  Calls Tryz.prog 179 #[.agg #[.slice A l.length cap],.slice (some ⟨g,0,none⟩) l.length l.length] w fun e w'=>e=.returned (pair (jumpsP l))∧Only Nob w w':=by
 have HP:=h_ hp;have HA:=h_ ha;have HC:=h_ hc0;have hg:g<w.heap.size:=ha.lt;have HQ:Hid (∀w',Below (w.heap.size+1) (w.alloc (.cells #[.slice A l.length cap] 32)) w'→Only Nob w w'):=fun w' h1=>Only.trans (Only.alloc (Only.refl _ _) _) (Only.of_new (by simpa using h1))
 clear hp ha hc0;go_enter Tryz.func179,Tryz.ntmps179;go_wp2;go_loopw [11] (fun c wr=>∃k:Nat,k≤l.length∧c=.int .i64 k∧Hid (firstBad (jumpBad l) (l.length-k) k=firstBad (jumpBad l) l.length 0)∧Below (w.heap.size+1) (w.alloc (.cells #[.slice A l.length cap] 32)) wr)
  (fun c _=>l.length-(intOf c).toNat)
 case atStart=>exact⟨0,by omega,rfl,rfl,Below.refl _ _⟩
 case round =>
  obtain⟨k,hk,rfl,hfb,hbel⟩:=hrel;have hsz:w.heap.size+1≤wr.heap.size:=by have:=hbel.size;simpa using this
  have hp0:wr.cell? ⟨w.heap.size,0,none⟩=some (.slice A l.length cap):=(hbel.cell (p:=⟨w.heap.size,0,none⟩) (Nat.lt_succ_self _)).trans (cell_one_new _ _ _ 0 _ rfl);have hpf:wr.frozen? ⟨w.heap.size,0,none⟩=false:=(hbel.frozen (p:=⟨w.heap.size,0,none⟩) (Nat.lt_succ_self _)).trans ((Blk.new w 32 #[.slice A l.length cap]).frozen 0);have hwlt:w.heap.size<wr.heap.size:=by omega
  by_cases hlt:k<l.length
  ·have hpr:ProgIn wr B A l:=(HP.o.alloc hB _).keep (hbel.mono (by omega))
   have har:IntBlk wr g (regionsP l):=(HA.o.alloc _).below hbel (by omega)
   obtain⟨b,o,rfl,hlb,hi⟩:=hpr.at_ hlt;obtain⟨i0,i1,i2,i3,i4⟩:=hi;have hop:(l.getD k PIns.none).op=opOf l k:=rfl;have hblt:b<wr.heap.size:=by omega
   have hglt:g<wr.heap.size:=by omega
   have hgk:=har.cell (regionsP_at hlt);have hcc:=HC.o k hlt;have hkI:(k:Int)<(l.length:Int):=by omega
   have hstep:=firstBad_step (f:=jumpBad l) hlt;have HB:=h_ hbel;have hjb:jumpBad l k=(jumpsB (opOf l k)&&(decide ((l.length:Int)<(l.getD k PIns.none).c)||(decide ((l.getD k PIns.none).c=l.length)&&(regAt l k != -1)) ||
    (decide ((l.getD k PIns.none).c<l.length)&&(regAt l (l.getD k PIns.none).c.toNat != regAt l k)))):=rfl
   rw[hop] at i0;clear hop hbel hpr;generalize (l.getD k PIns.none).a=xa at *
   generalize (l.getD k PIns.none).b=xb at *
   generalize (l.getD k PIns.none).c=xc at *
   generalize (l.getD k PIns.none).n=xn at *
   generalize opOf l k=op at *
   cases hj:jumpsB op
   ·have hnb:jumpBad l k=false:=by rw[hjb,hj];rfl
    have HN:Hid (firstBad (jumpBad l) (l.length-(k+1)) (k+1)=firstBad (jumpBad l) l.length 0):=by
     have:=hfb.out
     rw[hstep,hnb] at this;exact this
    clear hjb hnb hstep hcc har hfb;go_wp2_with (go_at_call 210;refine(jumps_any _ _).mono ?_;rintro e w1 ⟨rfl,rfl⟩);go_roundw
    case rel=>exact⟨k+1,by omega,by go_num,HN,HB.o.alloc hsz _⟩
    case measure=>simp[intOf];omega
   ·obtain⟨c,rfl⟩:=Int.eq_ofNat_of_zero_le (hcc hj);clear hcc;rcases(by omega:l.length<c∨c=l.length∨c<l.length) with h1|h1|h1
    ·have hnb:jumpBad l k=true:=by rw[hjb,hj];simp;omega
     have HZ:Hid (jumpsP l=((k:Int),2)):=jumpsP_some (by have:=hfb.out;rw[hstep,hnb] at this;exact this.symm)
     clear hjb hnb hstep hfb;have d1:decide ((l.length:Int)<(c:Int))=true:=by simp;omega
     go_wp2_with (go_at_call 210;refine(jumps_any _ _).mono ?_;rintro e w1 ⟨rfl,rfl⟩);go_quiet (fail);go_wp2;go_ret2;exact⟨by rw[HZ.o];rfl,HQ.o _ (below_drewN (HB.o.alloc hsz _) _)⟩
    ·cases h2:(regAt l k != -1)
     ·have hnb:jumpBad l k=false:=by rw[hjb,hj];rw[h2];simp;omega
      have HN:Hid (firstBad (jumpBad l) (l.length-(k+1)) (k+1)=firstBad (jumpBad l) l.length 0):=by
       have:=hfb.out
       rw[hstep,hnb] at this;exact this
      clear hjb hnb hstep hfb;have d1:decide ((l.length:Int)<(c:Int))=false:=by simp;omega
      have d2:((c:Int)==(l.length:Int))=true:=by simp;omega
      have d4:decide ((c:Int)<(l.length:Int))=false:=by simp;omega
      go_wp2_with (go_at_call 210;refine(jumps_any _ _).mono ?_;rintro e w1 ⟨rfl,rfl⟩);go_quiet (fail);go_wp2;go_roundw
      case rel=>exact⟨k+1,by omega,by go_num,HN,below_drewN (HB.o.alloc hsz _) _⟩
      case measure=>simp[intOf];omega
     ·have hnb:jumpBad l k=true:=by rw[hjb,hj];rw[h2];simp;omega
      have HZ:Hid (jumpsP l=((k:Int),2)):=jumpsP_some (by have:=hfb.out;rw[hstep,hnb] at this;exact this.symm)
      clear hjb hnb hstep hfb;have d1:decide ((l.length:Int)<(c:Int))=false:=by simp;omega
      have d2:((c:Int)==(l.length:Int))=true:=by simp;omega
      have d4:decide ((c:Int)<(l.length:Int))=false:=by simp;omega
      go_wp2_with (go_at_call 210;refine(jumps_any _ _).mono ?_;rintro e w1 ⟨rfl,rfl⟩);go_quiet (fail);go_wp2;go_ret2;exact⟨by rw[HZ.o];rfl,HQ.o _ (below_drewN (HB.o.alloc hsz _) _)⟩
    ·cases h2:(regAt l (c:Int).toNat != regAt l k)
     ·have hnb:jumpBad l k=false:=by rw[hjb,hj];rw[h2];simp;omega
      have HN:Hid (firstBad (jumpBad l) (l.length-(k+1)) (k+1)=firstBad (jumpBad l) l.length 0):=by
       have:=hfb.out
       rw[hstep,hnb] at this;exact this
      clear hjb hnb hstep hfb;have d1:decide ((l.length:Int)<(c:Int))=false:=by simp;omega
      have d2:((c:Int)==(l.length:Int))=false:=by simp;omega
      have d4:decide ((c:Int)<(l.length:Int))=true:=by simp;omega
      have e1:decide (l.length<c)=false:=by simp;omega
      have e2:(c==l.length)=false:=by simp;omega
      have e3:¬(l.length<c):=by omega
      have e4:decide (c<l.length)=true:=by simp;omega
      have hcI:(c:Int)<(l.length:Int):=by omega
      have hgc:=har.cell (regionsP_at h1);rw[Int.toNat_natCast] at h2;go_wp2_with (go_at_call 210;refine(jumps_any _ _).mono ?_;rintro e w1 ⟨rfl,rfl⟩);go_quiet (fail);go_wp2;go_roundw
      case rel=>exact⟨k+1,by omega,by go_num,HN,below_drewN (HB.o.alloc hsz _) _⟩
      case measure=>simp[intOf];omega
     ·have hnb:jumpBad l k=true:=by rw[hjb,hj];rw[h2];simp;omega
      have HZ:Hid (jumpsP l=((k:Int),2)):=jumpsP_some (by have:=hfb.out;rw[hstep,hnb] at this;exact this.symm)
      clear hjb hnb hstep hfb;have d1:decide ((l.length:Int)<(c:Int))=false:=by simp;omega
      have d2:((c:Int)==(l.length:Int))=false:=by simp;omega
      have d4:decide ((c:Int)<(l.length:Int))=true:=by simp;omega
      have e1:decide (l.length<c)=false:=by simp;omega
      have e2:(c==l.length)=false:=by simp;omega
      have e3:¬(l.length<c):=by omega
      have e4:decide (c<l.length)=true:=by simp;omega
      have hcI:(c:Int)<(l.length:Int):=by omega
      have hgc:=har.cell (regionsP_at h1);rw[Int.toNat_natCast] at h2;go_wp2_with (go_at_call 210;refine(jumps_any _ _).mono ?_;rintro e w1 ⟨rfl,rfl⟩);go_quiet (fail);go_wp2;go_ret2;exact⟨by rw[HZ.o];rfl,HQ.o _ (below_drewN (HB.o.alloc hsz _) _)⟩
  ·obtain rfl:k=l.length:=by omega
   have hz:firstBad (jumpBad l) l.length 0=none:=by
    rw[←hfb.out,Nat.sub_self];rfl
   have HZ:=h_ (jumpsP_none hz);have HB:=h_ hbel;clear hfb hz hbel;go_wp2;go_ret2;exact⟨by rw[HZ.o];rfl,HQ.o _ HB.o⟩
end Go.Proofs.YtfodmgaliclhfaaGreatDoor

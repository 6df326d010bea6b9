/- Lemmas; no conditions. -/
import Derived.Test.YtfodmgaliclhfaaGreatDoorGBehind
import Derived.Test.YtfodmgaliclhfaaGreatDoorGCodeMay
import Derived.Deep.RegionWith
import Derived.Deep.OwnRows
namespace Go.Proofs.YtfodmgaliclhfaaGreatDoor
set_option linter.unusedVariables false
set_option linter.unusedSimpArgs false
set_option maxRecDepth 100000
set_option maxHeartbeats 4000000
open Go.RowKit
theorem wrong_may (base B:Nat)(v:Value)(st:List Int)(x:PIns)(w:World)(A:Option Addr)(cap:Nat)(l:List PIns)(h:Stack w base v st)(hl:st.length<1000)(hp:ProgIn w B A l)(hB:B≤w.heap.size)
  (hn:l.length≤1000) (hst:∀t∈st,0≤t∧t<(l.length:Int)) (h1:mayB x.op x.a x.b x.c x.n=false):
  Calls Tryz.prog 176 #[.agg #[.slice A l.length cap],v,.agg #[.int .i64 x.op,.int .i64 x.a,.int .i64 x.b,.int .i64 x.c,.int .u64 x.n]] w fun e w'=>e=.returned (.int .i64 8)∧Only Nob w w':=by
 have HS:=h_ h;have HP:=h_ hp;clear h hp;go_enter Tryz.func176,Tryz.ntmps176;go_wp2_with (first
  |(go_at_call 207;refine(may_any _ _ _ _ _ _).mono ?_;rintro e wA ⟨rfl,hoA⟩;have hon:Only Nob w wA:=Only.trans (Only.alloc (Only.alloc (Only.refl _ _) _) _) hoA;have HSA:=h_ (HS.o.only hon);have HPA:=h_ (HP.o.keep (below_nob hon hB));have kp:=((Blk.new w 32 #[.slice A l.length cap]).alloc (.cells #[.int .i64 x.op,.int .i64 x.a,.int .i64 x.b,.int .i64 x.c,.int .u64 x.n] 87)).only hoA (fun h=>h);have kx:=(Blk.new (w.alloc (.cells #[.slice A l.length cap] 32)) 87 #[.int .i64 x.op,.int .i64 x.a,.int .i64 x.b,.int .i64 x.c,.int .u64 x.n]).only hoA (fun h=>h);have hsz:w.heap.size+1<wA.heap.size:=Nat.lt_of_lt_of_le (by simp) hoA.size;have hsz2:w.heap.size<wA.heap.size:=Nat.lt_of_succ_lt hsz;simp only[World.size_alloc] at kx;have kp0:=kp.one;have kpf:=kp.frozen;obtain⟨kx0,kx1,kx2,kx3,kx4⟩:=kx.five;have kxf:=kx.frozen))
 all_goals
  go_ret;refine⟨rfl,?_⟩;repeat' (first|(with_reducible first|exact Only.refl _ _|exact hon|refine Only.trans ?_ hoB|refine Only.drewN ?_ _|refine Only.drew ?_))
theorem wrong_ends (base B:Nat)(v:Value)(st:List Int)(x:PIns)(w:World)(A:Option Addr)(cap:Nat)(l:List PIns)(h:Stack w base v st)(hl:st.length<1000)(hp:ProgIn w B A l)(hB:B≤w.heap.size)
  (hn:l.length≤1000) (hst:∀t∈st,0≤t∧t<(l.length:Int)) (h1:mayB x.op x.a x.b x.c x.n=true) (h2:decide (0<endsI x.op)=true) (h3:(opAt l st != endsI x.op)=true):
  Calls Tryz.prog 176 #[.agg #[.slice A l.length cap],v,.agg #[.int .i64 x.op,.int .i64 x.a,.int .i64 x.b,.int .i64 x.c,.int .u64 x.n]] w fun e w'=>e=.returned (.int .i64 12)∧Only Nob w w':=by
 have HS:=h_ h;have HP:=h_ hp;clear h hp;go_enter Tryz.func176,Tryz.ntmps176;go_wp2_with (first
  |(go_at_call 207;refine(may_any _ _ _ _ _ _).mono ?_;rintro e wA ⟨rfl,hoA⟩;have hon:Only Nob w wA:=Only.trans (Only.alloc (Only.alloc (Only.refl _ _) _) _) hoA;have HSA:=h_ (HS.o.only hon);have HPA:=h_ (HP.o.keep (below_nob hon hB));have kp:=((Blk.new w 32 #[.slice A l.length cap]).alloc (.cells #[.int .i64 x.op,.int .i64 x.a,.int .i64 x.b,.int .i64 x.c,.int .u64 x.n] 87)).only hoA (fun h=>h);have kx:=(Blk.new (w.alloc (.cells #[.slice A l.length cap] 32)) 87 #[.int .i64 x.op,.int .i64 x.a,.int .i64 x.b,.int .i64 x.c,.int .u64 x.n]).only hoA (fun h=>h);have hsz:w.heap.size+1<wA.heap.size:=Nat.lt_of_lt_of_le (by simp) hoA.size;have hsz2:w.heap.size<wA.heap.size:=Nat.lt_of_succ_lt hsz;simp only[World.size_alloc] at kx;have kp0:=kp.one;have kpf:=kp.frozen;obtain⟨kx0,kx1,kx2,kx3,kx4⟩:=kx.five;have kxf:=kx.frozen))
 go_region_with (first
  |(go_at_call 181;refine(ends_any _ _).mono ?_;rintro e w1 ⟨rfl,rfl⟩)
  |(go_at_call 208;refine(stackop_any base B v st _ A cap l HSA.o.drew (by omega) HPA.o.drew (Nat.le_trans hB hon.size) hn hst).mono ?_;rintro e wB ⟨rfl,hoB⟩;have kxB:=(kx.drew).only hoB (fun h=>h);have kpB:=(kp.drew).only hoB (fun h=>h);have kpB0:=kpB.one;have kpBf:=kpB.frozen;obtain⟨kxB0,kxB1,kxB2,kxB3,kxB4⟩:=kxB.five;have kxBf:=kxB.frozen))
 all_goals
  go_wp2;go_ret;refine⟨rfl,?_⟩;repeat' (first|(with_reducible first|exact Only.refl _ _|exact hon|refine Only.trans ?_ hoB|refine Only.drewN ?_ _|refine Only.drew ?_))
theorem wrong_fit (base B:Nat)(v:Value)(st:List Int)(x:PIns)(w:World)(A:Option Addr)(cap:Nat)(l:List PIns)(h:Stack w base v st)(hl:st.length<1000)(hp:ProgIn w B A l)(hB:B≤w.heap.size)
  (hn:l.length≤1000) (hst:∀t∈st,0≤t∧t<(l.length:Int)) (h1:mayB x.op x.a x.b x.c x.n=true) (h2:decide (0<endsI x.op)=true) (h3:(opAt l st != endsI x.op)=false) (h4:(x.op==16)=false) (h5:beginsB x.op=false):
  Calls Tryz.prog 176 #[.agg #[.slice A l.length cap],v,.agg #[.int .i64 x.op,.int .i64 x.a,.int .i64 x.b,.int .i64 x.c,.int .u64 x.n]] w fun e w'=>e=.returned (.int .i64 0)∧Only Nob w w':=by
 have HS:=h_ h;have HP:=h_ hp;clear h hp;go_enter Tryz.func176,Tryz.ntmps176;go_wp2_with (first
  |(go_at_call 207;refine(may_any _ _ _ _ _ _).mono ?_;rintro e wA ⟨rfl,hoA⟩;have hon:Only Nob w wA:=Only.trans (Only.alloc (Only.alloc (Only.refl _ _) _) _) hoA;have HSA:=h_ (HS.o.only hon);have HPA:=h_ (HP.o.keep (below_nob hon hB));have kp:=((Blk.new w 32 #[.slice A l.length cap]).alloc (.cells #[.int .i64 x.op,.int .i64 x.a,.int .i64 x.b,.int .i64 x.c,.int .u64 x.n] 87)).only hoA (fun h=>h);have kx:=(Blk.new (w.alloc (.cells #[.slice A l.length cap] 32)) 87 #[.int .i64 x.op,.int .i64 x.a,.int .i64 x.b,.int .i64 x.c,.int .u64 x.n]).only hoA (fun h=>h);have hsz:w.heap.size+1<wA.heap.size:=Nat.lt_of_lt_of_le (by simp) hoA.size;have hsz2:w.heap.size<wA.heap.size:=Nat.lt_of_succ_lt hsz;simp only[World.size_alloc] at kx;have kp0:=kp.one;have kpf:=kp.frozen;obtain⟨kx0,kx1,kx2,kx3,kx4⟩:=kx.five;have kxf:=kx.frozen))
 go_region_with (first
  |(go_at_call 181;refine(ends_any _ _).mono ?_;rintro e w1 ⟨rfl,rfl⟩)
  |(go_at_call 208;refine(stackop_any base B v st _ A cap l HSA.o.drew (by omega) HPA.o.drew (Nat.le_trans hB hon.size) hn hst).mono ?_;rintro e wB ⟨rfl,hoB⟩;have kxB:=(kx.drew).only hoB (fun h=>h);have kpB:=(kp.drew).only hoB (fun h=>h);have kpB0:=kpB.one;have kpBf:=kpB.frozen;obtain⟨kxB0,kxB1,kxB2,kxB3,kxB4⟩:=kxB.five;have kxBf:=kxB.frozen))
 all_goals
  go_wp2_with (go_at_call 209;refine(begins_any _ _).mono ?_;rintro e w1 ⟨rfl,rfl⟩);go_ret;refine⟨rfl,?_⟩;repeat' (first|(with_reducible first|exact Only.refl _ _|exact hon|refine Only.trans ?_ hoB|refine Only.drewN ?_ _|refine Only.drew ?_))
theorem wrong_undo (base B:Nat)(v:Value)(st:List Int)(x:PIns)(w:World)(A:Option Addr)(cap:Nat)(l:List PIns)(h:Stack w base v st)(hl:st.length<1000)(hp:ProgIn w B A l)(hB:B≤w.heap.size)
  (hn:l.length≤1000) (hst:∀t∈st,0≤t∧t<(l.length:Int)) (h1:mayB x.op x.a x.b x.c x.n=true) (h2:decide (0<endsI x.op)=false) (h4:(x.op==16)=true) (h3:(opAt l st != 14)=true):
  Calls Tryz.prog 176 #[.agg #[.slice A l.length cap],v,.agg #[.int .i64 x.op,.int .i64 x.a,.int .i64 x.b,.int .i64 x.c,.int .u64 x.n]] w fun e w'=>e=.returned (.int .i64 12)∧Only Nob w w':=by
 have HS:=h_ h;have HP:=h_ hp;clear h hp;go_enter Tryz.func176,Tryz.ntmps176;go_wp2_with (first
  |(go_at_call 207;refine(may_any _ _ _ _ _ _).mono ?_;rintro e wA ⟨rfl,hoA⟩;have hon:Only Nob w wA:=Only.trans (Only.alloc (Only.alloc (Only.refl _ _) _) _) hoA;have HSA:=h_ (HS.o.only hon);have HPA:=h_ (HP.o.keep (below_nob hon hB));have kp:=((Blk.new w 32 #[.slice A l.length cap]).alloc (.cells #[.int .i64 x.op,.int .i64 x.a,.int .i64 x.b,.int .i64 x.c,.int .u64 x.n] 87)).only hoA (fun h=>h);have kx:=(Blk.new (w.alloc (.cells #[.slice A l.length cap] 32)) 87 #[.int .i64 x.op,.int .i64 x.a,.int .i64 x.b,.int .i64 x.c,.int .u64 x.n]).only hoA (fun h=>h);have hsz:w.heap.size+1<wA.heap.size:=Nat.lt_of_lt_of_le (by simp) hoA.size;have hsz2:w.heap.size<wA.heap.size:=Nat.lt_of_succ_lt hsz;simp only[World.size_alloc] at kx;have kp0:=kp.one;have kpf:=kp.frozen;obtain⟨kx0,kx1,kx2,kx3,kx4⟩:=kx.five;have kxf:=kx.frozen))
 go_quiet ((go_at_call 181;exact quiet_left (ends_any _ _)));go_wp2_with (first
  |(go_at_call 208;refine(stackop_any base B v st _ A cap l (HSA.o.drewN _) (by omega) (HPA.o.drewN _) (Nat.le_trans hB hon.size) hn hst).mono ?_;rintro e wB ⟨rfl,hoB⟩;have kxB:=(kx.drewN _).only hoB (fun h=>h);have kpB:=(kp.drewN _).only hoB (fun h=>h);have kpB0:=kpB.one;have kpBf:=kpB.frozen;obtain⟨kxB0,kxB1,kxB2,kxB3,kxB4⟩:=kxB.five;have kxBf:=kxB.frozen))
 all_goals
  go_ret;refine⟨rfl,?_⟩;repeat' (first|(with_reducible first|exact Only.refl _ _|exact hon|refine Only.trans ?_ hoB|refine Only.drewN ?_ _|refine Only.drew ?_))
theorem wrong_undoes (base B:Nat)(v:Value)(st:List Int)(x:PIns)(w:World)(A:Option Addr)(cap:Nat)(l:List PIns)(h:Stack w base v st)(hl:st.length<1000)(hp:ProgIn w B A l)(hB:B≤w.heap.size)
  (hn:l.length≤1000) (hst:∀t∈st,0≤t∧t<(l.length:Int)) (h1:mayB x.op x.a x.b x.c x.n=true) (h2:decide (0<endsI x.op)=false) (h4:(x.op==16)=true) (h3:(opAt l st != 14)=false) (h5:beginsB x.op=false):
  Calls Tryz.prog 176 #[.agg #[.slice A l.length cap],v,.agg #[.int .i64 x.op,.int .i64 x.a,.int .i64 x.b,.int .i64 x.c,.int .u64 x.n]] w fun e w'=>e=.returned (.int .i64 0)∧Only Nob w w':=by
 have HS:=h_ h;have HP:=h_ hp;clear h hp;go_enter Tryz.func176,Tryz.ntmps176;go_wp2_with (first
  |(go_at_call 207;refine(may_any _ _ _ _ _ _).mono ?_;rintro e wA ⟨rfl,hoA⟩;have hon:Only Nob w wA:=Only.trans (Only.alloc (Only.alloc (Only.refl _ _) _) _) hoA;have HSA:=h_ (HS.o.only hon);have HPA:=h_ (HP.o.keep (below_nob hon hB));have kp:=((Blk.new w 32 #[.slice A l.length cap]).alloc (.cells #[.int .i64 x.op,.int .i64 x.a,.int .i64 x.b,.int .i64 x.c,.int .u64 x.n] 87)).only hoA (fun h=>h);have kx:=(Blk.new (w.alloc (.cells #[.slice A l.length cap] 32)) 87 #[.int .i64 x.op,.int .i64 x.a,.int .i64 x.b,.int .i64 x.c,.int .u64 x.n]).only hoA (fun h=>h);have hsz:w.heap.size+1<wA.heap.size:=Nat.lt_of_lt_of_le (by simp) hoA.size;have hsz2:w.heap.size<wA.heap.size:=Nat.lt_of_succ_lt hsz;simp only[World.size_alloc] at kx;have kp0:=kp.one;have kpf:=kp.frozen;obtain⟨kx0,kx1,kx2,kx3,kx4⟩:=kx.five;have kxf:=kx.frozen))
 go_quiet ((go_at_call 181;exact quiet_left (ends_any _ _)));go_wp2_with (first
  |(go_at_call 208;refine(stackop_any base B v st _ A cap l (HSA.o.drewN _) (by omega) (HPA.o.drewN _) (Nat.le_trans hB hon.size) hn hst).mono ?_;rintro e wB ⟨rfl,hoB⟩;have kxB:=(kx.drewN _).only hoB (fun h=>h);have kpB:=(kp.drewN _).only hoB (fun h=>h);have kpB0:=kpB.one;have kpBf:=kpB.frozen;obtain⟨kxB0,kxB1,kxB2,kxB3,kxB4⟩:=kxB.five;have kxBf:=kxB.frozen)
  |(go_at_call 209;refine(begins_any _ _).mono ?_;rintro e w1 ⟨rfl,rfl⟩))
 all_goals
  go_ret;refine⟨rfl,?_⟩;repeat' (first|(with_reducible first|exact Only.refl _ _|exact hon|refine Only.trans ?_ hoB|refine Only.drewN ?_ _|refine Only.drew ?_))
theorem wrong_deep (base B:Nat)(v:Value)(st:List Int)(x:PIns)(w:World)(A:Option Addr)(cap:Nat)(l:List PIns)(h:Stack w base v st)(hl:st.length<1000)(hp:ProgIn w B A l)(hB:B≤w.heap.size)
  (hn:l.length≤1000) (hst:∀t∈st,0≤t∧t<(l.length:Int)) (h1:mayB x.op x.a x.b x.c x.n=true) (h2:decide (0<endsI x.op)=false) (h4:(x.op==16)=false) (h5:beginsB x.op=true) (h6:5≤st.length):
  Calls Tryz.prog 176 #[.agg #[.slice A l.length cap],v,.agg #[.int .i64 x.op,.int .i64 x.a,.int .i64 x.b,.int .i64 x.c,.int .u64 x.n]] w fun e w'=>e=.returned (.int .i64 9)∧Only Nob w w':=by
 have HS:=h_ h;have HP:=h_ hp;clear h hp;rcases HS.o.form with⟨h7,hv⟩|⟨g,vcap,hv,_,_,hv1,hv2⟩
 ·exfalso;subst h7;simp at h6
 ·subst hv;have d6:decide ((5:Int)≤st.length)=true:=by simp;omega
  go_enter Tryz.func176,Tryz.ntmps176;go_wp2_with (first
   |(go_at_call 207;refine(may_any _ _ _ _ _ _).mono ?_;rintro e wA ⟨rfl,hoA⟩;have hon:Only Nob w wA:=Only.trans (Only.alloc (Only.alloc (Only.refl _ _) _) _) hoA;have HSA:=h_ (HS.o.only hon);have HPA:=h_ (HP.o.keep (below_nob hon hB));have kp:=((Blk.new w 32 #[.slice A l.length cap]).alloc (.cells #[.int .i64 x.op,.int .i64 x.a,.int .i64 x.b,.int .i64 x.c,.int .u64 x.n] 87)).only hoA (fun h=>h);have kx:=(Blk.new (w.alloc (.cells #[.slice A l.length cap] 32)) 87 #[.int .i64 x.op,.int .i64 x.a,.int .i64 x.b,.int .i64 x.c,.int .u64 x.n]).only hoA (fun h=>h);have hsz:w.heap.size+1<wA.heap.size:=Nat.lt_of_lt_of_le (by simp) hoA.size;have hsz2:w.heap.size<wA.heap.size:=Nat.lt_of_succ_lt hsz;simp only[World.size_alloc] at kx;have kp0:=kp.one;have kpf:=kp.frozen;obtain⟨kx0,kx1,kx2,kx3,kx4⟩:=kx.five;have kxf:=kx.frozen))
  go_quiet ((go_at_call 181;exact quiet_left (ends_any _ _)));go_wp2_with (first
   |(go_at_call 209;refine(begins_any _ _).mono ?_;rintro e w1 ⟨rfl,rfl⟩))
  all_goals
   go_ret;refine⟨rfl,?_⟩;repeat' (first|(with_reducible first|exact Only.refl _ _|exact hon|refine Only.trans ?_ hoB|refine Only.drewN ?_ _|refine Only.drew ?_))
theorem wrong_begins (base B:Nat)(v:Value)(st:List Int)(x:PIns)(w:World)(A:Option Addr)(cap:Nat)(l:List PIns)(h:Stack w base v st)(hl:st.length<1000)(hp:ProgIn w B A l)(hB:B≤w.heap.size)
  (hn:l.length≤1000) (hst:∀t∈st,0≤t∧t<(l.length:Int)) (h1:mayB x.op x.a x.b x.c x.n=true) (h2:decide (0<endsI x.op)=false) (h4:(x.op==16)=false) (h5:beginsB x.op=true) (h6:st.length<5):
  Calls Tryz.prog 176 #[.agg #[.slice A l.length cap],v,.agg #[.int .i64 x.op,.int .i64 x.a,.int .i64 x.b,.int .i64 x.c,.int .u64 x.n]] w fun e w'=>e=.returned (.int .i64 0)∧Only Nob w w':=by
 have HS:=h_ h;have HP:=h_ hp;clear h hp;rcases HS.o.form with⟨h7,hv⟩|⟨g,vcap,hv,_,_,hv1,hv2⟩
 ·subst h7;subst hv;clear h6;have hst:∀t∈([]:List Int),0≤t∧t<(l.length:Int):=hst;go_enter Tryz.func176,Tryz.ntmps176;go_wp2_with (first
   |(go_at_call 207;refine(may_any _ _ _ _ _ _).mono ?_;rintro e wA ⟨rfl,hoA⟩;have hon:Only Nob w wA:=Only.trans (Only.alloc (Only.alloc (Only.refl _ _) _) _) hoA;have HSA:=h_ (HS.o.only hon);have HPA:=h_ (HP.o.keep (below_nob hon hB));have kp:=((Blk.new w 32 #[.slice A l.length cap]).alloc (.cells #[.int .i64 x.op,.int .i64 x.a,.int .i64 x.b,.int .i64 x.c,.int .u64 x.n] 87)).only hoA (fun h=>h);have kx:=(Blk.new (w.alloc (.cells #[.slice A l.length cap] 32)) 87 #[.int .i64 x.op,.int .i64 x.a,.int .i64 x.b,.int .i64 x.c,.int .u64 x.n]).only hoA (fun h=>h);have hsz:w.heap.size+1<wA.heap.size:=Nat.lt_of_lt_of_le (by simp) hoA.size;have hsz2:w.heap.size<wA.heap.size:=Nat.lt_of_succ_lt hsz;simp only[World.size_alloc] at kx;have kp0:=kp.one;have kpf:=kp.frozen;obtain⟨kx0,kx1,kx2,kx3,kx4⟩:=kx.five;have kxf:=kx.frozen))
  go_quiet ((go_at_call 181;exact quiet_left (ends_any _ _)));go_wp2_with (first
   |(go_at_call 209;refine(begins_any _ _).mono ?_;rintro e w1 ⟨rfl,rfl⟩))
  all_goals
   go_ret;refine⟨rfl,?_⟩;repeat' (first|(with_reducible first|exact Only.refl _ _|exact hon|refine Only.trans ?_ hoB|refine Only.drewN ?_ _|refine Only.drew ?_))
 ·subst hv;have d6:decide ((5:Int)≤st.length)=false:=by simp;omega
  go_enter Tryz.func176,Tryz.ntmps176;go_wp2_with (first
   |(go_at_call 207;refine(may_any _ _ _ _ _ _).mono ?_;rintro e wA ⟨rfl,hoA⟩;have hon:Only Nob w wA:=Only.trans (Only.alloc (Only.alloc (Only.refl _ _) _) _) hoA;have HSA:=h_ (HS.o.only hon);have HPA:=h_ (HP.o.keep (below_nob hon hB));have kp:=((Blk.new w 32 #[.slice A l.length cap]).alloc (.cells #[.int .i64 x.op,.int .i64 x.a,.int .i64 x.b,.int .i64 x.c,.int .u64 x.n] 87)).only hoA (fun h=>h);have kx:=(Blk.new (w.alloc (.cells #[.slice A l.length cap] 32)) 87 #[.int .i64 x.op,.int .i64 x.a,.int .i64 x.b,.int .i64 x.c,.int .u64 x.n]).only hoA (fun h=>h);have hsz:w.heap.size+1<wA.heap.size:=Nat.lt_of_lt_of_le (by simp) hoA.size;have hsz2:w.heap.size<wA.heap.size:=Nat.lt_of_succ_lt hsz;simp only[World.size_alloc] at kx;have kp0:=kp.one;have kpf:=kp.frozen;obtain⟨kx0,kx1,kx2,kx3,kx4⟩:=kx.five;have kxf:=kx.frozen))
  go_quiet ((go_at_call 181;exact quiet_left (ends_any _ _)));go_wp2_with (first
   |(go_at_call 209;refine(begins_any _ _).mono ?_;rintro e w1 ⟨rfl,rfl⟩))
  all_goals
   go_ret;refine⟨rfl,?_⟩;repeat' (first|(with_reducible first|exact Only.refl _ _|exact hon|refine Only.trans ?_ hoB|refine Only.drewN ?_ _|refine Only.drew ?_))
theorem wrong_plain (base B:Nat)(v:Value)(st:List Int)(x:PIns)(w:World)(A:Option Addr)(cap:Nat)(l:List PIns)(h:Stack w base v st)(hl:st.length<1000)(hp:ProgIn w B A l)(hB:B≤w.heap.size)
  (hn:l.length≤1000) (hst:∀t∈st,0≤t∧t<(l.length:Int)) (h1:mayB x.op x.a x.b x.c x.n=true) (h2:decide (0<endsI x.op)=false) (h4:(x.op==16)=false) (h5:beginsB x.op=false):
  Calls Tryz.prog 176 #[.agg #[.slice A l.length cap],v,.agg #[.int .i64 x.op,.int .i64 x.a,.int .i64 x.b,.int .i64 x.c,.int .u64 x.n]] w fun e w'=>e=.returned (.int .i64 0)∧Only Nob w w':=by
 have HS:=h_ h;have HP:=h_ hp;clear h hp;go_enter Tryz.func176,Tryz.ntmps176;go_wp2_with (first
  |(go_at_call 207;refine(may_any _ _ _ _ _ _).mono ?_;rintro e wA ⟨rfl,hoA⟩;have hon:Only Nob w wA:=Only.trans (Only.alloc (Only.alloc (Only.refl _ _) _) _) hoA;have HSA:=h_ (HS.o.only hon);have HPA:=h_ (HP.o.keep (below_nob hon hB));have kp:=((Blk.new w 32 #[.slice A l.length cap]).alloc (.cells #[.int .i64 x.op,.int .i64 x.a,.int .i64 x.b,.int .i64 x.c,.int .u64 x.n] 87)).only hoA (fun h=>h);have kx:=(Blk.new (w.alloc (.cells #[.slice A l.length cap] 32)) 87 #[.int .i64 x.op,.int .i64 x.a,.int .i64 x.b,.int .i64 x.c,.int .u64 x.n]).only hoA (fun h=>h);have hsz:w.heap.size+1<wA.heap.size:=Nat.lt_of_lt_of_le (by simp) hoA.size;have hsz2:w.heap.size<wA.heap.size:=Nat.lt_of_succ_lt hsz;simp only[World.size_alloc] at kx;have kp0:=kp.one;have kpf:=kp.frozen;obtain⟨kx0,kx1,kx2,kx3,kx4⟩:=kx.five;have kxf:=kx.frozen))
 go_quiet ((go_at_call 181;exact quiet_left (ends_any _ _)));go_wp2_with (first
  |(go_at_call 209;refine(begins_any _ _).mono ?_;rintro e w1 ⟨rfl,rfl⟩))
 all_goals
  go_ret;refine⟨rfl,?_⟩;repeat' (first|(with_reducible first|exact Only.refl _ _|exact hon|refine Only.trans ?_ hoB|refine Only.drewN ?_ _|refine Only.drew ?_))
theorem wrong_any (base B:Nat)(v:Value)(st:List Int)(x:PIns)(w:World)(A:Option Addr)(cap:Nat)(l:List PIns)(h:Stack w base v st)(hl:st.length<1000)(hp:ProgIn w B A l)(hB:B≤w.heap.size)
  (hn:l.length≤1000) (hst:∀t∈st,0≤t∧t<(l.length:Int)):
  Calls Tryz.prog 176 #[.agg #[.slice A l.length cap],v,.agg #[.int .i64 x.op,.int .i64 x.a,.int .i64 x.b,.int .i64 x.c,.int .u64 x.n]] w fun e w'=>e=.returned (.int .i64 (wrongP l st x))∧Only Nob w w':=by
 unfold wrongP mayP;cases h1:mayB x.op x.a x.b x.c x.n
 ·exact wrong_may base B v st x w A cap l h hl hp hB hn hst h1
 ·rw[if_neg (by decide)]
  by_cases h2:0<endsI x.op
  ·have d2:decide (0<endsI x.op)=true:=by simpa using h2
   by_cases h3:opAt l st=endsI x.op
   ·have hop:x.op=15∨x.op=18∨x.op=19:=by
     unfold endsI at h2;by_cases q1:x.op=15
     ·exact .inl q1
     ·by_cases q2:x.op=18
      ·exact .inr (.inl q2)
      ·by_cases q3:x.op=19
       ·exact .inr (.inr q3)
       ·simp[q1,q2,q3] at h2
    have h4:¬(x.op=16∧opAt l st≠14):=by omega
    have h5:beginsB x.op=false:=by rcases hop with q|q|q<;>rw[q]<;>rfl
    rw[if_neg (by simp[h3]),if_neg h4,if_neg (by simp[h5])]
    exact wrong_fit base B v st x w A cap l h hl hp hB hn hst h1 d2 (by simpa using h3) (by simp;omega) h5
   ·rw[if_pos ⟨h2,h3⟩];exact wrong_ends base B v st x w A cap l h hl hp hB hn hst h1 d2 (by simpa using h3)
  ·have d2:decide (0<endsI x.op)=false:=by simpa using h2
   rw[if_neg (by simp[h2])]
   by_cases h4:x.op=16
   ·have h5:beginsB x.op=false:=by rw[h4];rfl
    by_cases h3:opAt l st=14
    ·rw[if_neg (by simp[h3]),if_neg (by simp[h5])]
     exact wrong_undoes base B v st x w A cap l h hl hp hB hn hst h1 d2 (by simpa using h4) (by simpa using h3) h5
    ·rw[if_pos ⟨h4,h3⟩];exact wrong_undo base B v st x w A cap l h hl hp hB hn hst h1 d2 (by simpa using h4) (by simpa using h3)
   ·rw[if_neg (by simp[h4])]
    cases h5:beginsB x.op
    ·rw[if_neg (by simp)]
     exact wrong_plain base B v st x w A cap l h hl hp hB hn hst h1 d2 (by simpa using h4) h5
    ·by_cases h6:5≤st.length
     ·rw[if_pos ⟨rfl,h6⟩];exact wrong_deep base B v st x w A cap l h hl hp hB hn hst h1 d2 (by simpa using h4) h5 h6
     ·rw[if_neg (by simp;omega)]
      exact wrong_begins base B v st x w A cap l h hl hp hB hn hst h1 d2 (by simpa using h4) h5 (by omega)
def regs (l:List PIns)(k:Nat):List Int:=(List.range l.length).map fun i=>if i<k then regAt l i else 0
theorem regs_zero (l:List PIns):regs l 0=List.replicate l.length 0:=by
 apply List.ext_getElem?;intro i;simp[regs,List.getElem?_replicate];by_cases h:i<l.length
 ·simp[h,List.getElem?_range]
 ·simp[h]
theorem regs_step (l:List PIns)(k:Nat):(regs l k).set k (regAt l k)=regs l (k+1):=by
 apply List.ext_getElem?;intro i;simp only[regs,List.getElem?_set,List.length_map,List.length_range,List.getElem?_map];by_cases h:i<l.length
 ·simp only[List.getElem?_range h,Option.map_some];by_cases hk:k=i
  ·subst hk;simp[h]
  ·rw[if_neg hk]
   congr 1
   by_cases h2:i<k
   ·rw[if_pos h2,if_pos (by omega)]
   ·rw[if_neg h2,if_neg (by omega)]
 ·have:(List.range l.length)[i]?=none:=by simp;omega
  rw[this];by_cases hk:k=i
  ·subst hk;simp[h]
  ·rw[if_neg hk];rfl
theorem regs_full (l:List PIns):regs l l.length=regionsP l:=by
 unfold regs regionsP;apply List.map_congr_left;intro i hi;rw[if_pos (by simpa using hi)]
theorem regs_len (l:List PIns)(k:Nat):(regs l k).length=l.length:=by simp[regs]
theorem regionsP_at {l:List PIns}{k:Nat}(h:k<l.length):(regionsP l)[k]?=some (regAt l k):=by
 simp[regionsP,h,List.getElem?_range]
def RegionsPost (w:World)(l:List PIns)(e:Ending)(w':World):Prop :=
 ∃g,e=.returned (.slice (some ⟨g,0,none⟩) l.length l.length)∧w.heap.size≤g∧IntBlk w' g (regionsP l)∧Only Nob w w'
theorem stk_succ (l:List PIns)(k:Nat):stk l (k+1)=behindP (stk l k) k (opOf l k):=rfl
theorem regions_step {l:List PIns}{k G base:Nat}{w0 wr w1 w2:World}{o:Obj}(hb0:Below (G) w0 wr)(hG:G<base)(hsz:base≤wr.heap.size)
  (hi:IntBlk wr G (regs l k)) (hw1:w1=(wr.setCell ⟨G,k,none⟩ (.int .i64 (topP (stk l k)))).alloc o) (hb:Below base w1 w2):
  IntBlk w2 G (regs l (k+1))∧Below G w0 w2∧base≤w2.heap.size:=by
 have h1:Below G wr w1:=by
  subst hw1;exact((Below.refl _ _).setCell (p:=⟨G,k,none⟩) (show G≤G from Nat.le_refl _) _).alloc (by simp[World.setCell];omega) o
 have hs1:base≤w1.heap.size:=by subst hw1;simp[World.setCell];omega
 refine⟨?_,hb0.trans (h1.trans (hb.mono (by omega))),Nat.le_trans hs1 hb.size⟩
 have h2:IntBlk w1 G (regs l (k+1)):=by
  subst hw1;rw[←regs_step];exact(hi.set_ k _).alloc o
 exact h2.below hb hG
theorem regions_any (B:Nat)(w:World)(A:Option Addr)(cap:Nat)(l:List PIns)(hp:ProgIn w B A l)(hB:B≤w.heap.size)(hn:l.length≤1000)(hf:fine l l.length):
  Calls Tryz.prog 180 #[.agg #[.slice A l.length cap]] w (RegionsPost w l):=by
 have hmk:=fun w=>run_make_row' (P:=Tryz.prog) 50 3 (.int .i64 0) 8 Tryz.underlying50 infoInt rfl .i64 .i64 l.length (by omega) (by omega) w
 have HP:=h_ hp;have HF:=h_ hf;have HQ:Hid (∀w',IntBlk w' (w.heap.size+1) (regionsP l)→Below (w.heap.size+1) (w.alloc (.cells #[.slice A l.length cap] 32)) w'→RegionsPost w l (.returned (.slice (some ⟨w.heap.size+1,0,none⟩) l.length l.length)) w'):=by
  intro w' h1 h2;refine⟨_,rfl,by omega,h1,?_⟩
  exact Only.trans (Only.alloc (Only.refl _ _) _) (Only.of_new (by simpa using h2))
 have h0:IntBlk ((w.alloc (.cells #[.slice A l.length cap] 32)).alloc (.cells (madeCells #[.int .i64 0] l.length) 3)) (w.heap.size+1) (regs l 0):=by
  rw[regs_zero];simpa using IntBlk.made (w.alloc (.cells #[.slice A l.length cap] 32)) l.length
 have H0:=h_ h0;go_enter Tryz.func180,Tryz.ntmps180;go_wp2;go_loopw [4,14] (fun v c wr=>∃k:Nat,k≤l.length∧c=.int .i64 k∧Stack wr (w.heap.size+2) v (stk l k)∧IntBlk wr (w.heap.size+1) (regs l k)∧Below (w.heap.size+1) (w.alloc (.cells #[.slice A l.length cap] 32)) wr∧w.heap.size+2≤wr.heap.size)
  (fun _ c _=>l.length-(intOf c).toNat)
 case atStart=>exact⟨0,by omega,rfl,Stack.nil _ _,H0.o,Below.alloc (Below.refl _ _) (by simp) _,by simp⟩
 case round =>
  obtain⟨k,hk,rfl,hst,hib,hbel,hsz⟩:=hrel;by_cases hlt:k<l.length
  ·have hpr:ProgIn wr B A l:=(HP.o.alloc hB _).keep (hbel.mono (by omega))
   obtain⟨b,o,rfl,hlb,hi⟩:=hpr.at_ hlt;obtain⟨i0,i1,i2,i3,i4⟩:=hi;have hop:(l.getD k PIns.none).op=opOf l k:=rfl;have hblt:b<wr.heap.size:=by omega
   have hbne:b≠wr.heap.size:=by omega
   have hGlt:w.heap.size+1<wr.heap.size:=by omega
   have hGne:w.heap.size+1≠wr.heap.size:=by omega
   have hc:=hib.cellD 0 (k:=k) (by rw[regs_len];exact hlt)
   have hcf:=hib.frozen k;have HS:=h_ hst;have HI:=h_ hib;have HB:=h_ hbel;have hl5:(stk l k).length≤5:=stk_len (fun j hj=>HF.o j (by omega))
   have hne:0<endsI (opOf l k)→stk l k≠[]:=fun h=>err_open (HF.o k hlt) (Or.inl h)
   have HNE:=h_ hne;have hkI:(k:Int)<(l.length:Int):=by omega
   rw[hop] at i0;generalize (l.getD k PIns.none).a=xa at *
   generalize (l.getD k PIns.none).b=xb at *
   generalize (l.getD k PIns.none).c=xc at *
   generalize (l.getD k PIns.none).n=xn at *
   generalize (regs l k).getD k 0=old at *
   go_wp2_with (first
    |(go_at_call 178;refine(inmost_any (w.heap.size+2) _ (stk l k) _ (HS.o.alloc _) (by omega)).mono ?_;rintro e w1 ⟨rfl,rfl⟩)
    |(go_at_call 177;refine(behind_any (w.heap.size+2) _ (stk l k) _ _ _ ((HS.o.far (p:=⟨w.heap.size+1,k,none⟩) (Nat.lt_succ_self _) _).alloc _) (by omega) (by simp[World.setCell];omega) HNE.o).mono ?_;rintro e w2 ⟨v',rfl,hst2,hb2⟩))
   go_roundw
   case rel =>
    obtain⟨q1,q2,q3⟩:=regions_step HB.o (by omega) hsz HI.o rfl hb2
    exact⟨k+1,by omega,by go_num,hst2,q1,q2,q3⟩
   case measure=>simp[intOf];omega
  ·obtain rfl:k=l.length:=by omega
   have HI:=h_ hib;have HB:=h_ hbel;go_wp2;go_ret;exact HQ.o _ (by rw[←regs_full];exact HI.o) HB.o
def pair (p:Int×Int):Value:=.tuple #[.int .i64 p.1,.int .i64 p.2]
theorem jumpsP_some {l:List PIns}{k:Nat}(h:firstBad (jumpBad l) l.length 0=some k):jumpsP l=((k:Int),2):=by unfold jumpsP;rw[h]
theorem jumpsP_none {l:List PIns}(h:firstBad (jumpBad l) l.length 0=none):jumpsP l=(0,0):=by unfold jumpsP;rw[h]
theorem jumps_any_ (B g:Nat)(w:World)(A:Option Addr)(cap:Nat)(l:List PIns)(hp:ProgIn w B A l)(hB:B≤w.heap.size)(hn:l.length≤1000)(hc0:∀k,k<l.length→jumpsB (opOf l k)=true→0≤(l.getD k PIns.none).c)
  (ha:IntBlk w g (regionsP l)):
  Calls Tryz.prog 179 #[.agg #[.slice A l.length cap],.slice (some ⟨g,0,none⟩) l.length l.length] w fun e w'=>e=.returned (pair (jumpsP l))∧Only Nob w w':=by
 have HP:=h_ hp;have HA:=h_ ha;have HC:=h_ hc0;have hg:g<w.heap.size:=ha.lt;have HQ:Hid (∀w',Below (w.heap.size+1) (w.alloc (.cells #[.slice A l.length cap] 32)) w'→Only Nob w w'):=fun w' h1=>Only.trans (Only.alloc (Only.refl _ _) _) (Only.of_new (by simpa using h1))
 clear hp ha hc0;go_enter Tryz.func179,Tryz.ntmps179;go_wp2;go_loopw [11] (fun c wr=>∃k:Nat,k≤l.length∧c=.int .i64 k∧Hid (firstBad (jumpBad l) (l.length-k) k=firstBad (jumpBad l) l.length 0)∧Below (w.heap.size+1) (w.alloc (.cells #[.slice A l.length cap] 32)) wr)
  (fun c _=>l.length-(intOf c).toNat)
 case atStart=>exact⟨0,by omega,rfl,rfl,Below.refl _ _⟩
 case round =>
  obtain⟨k,hk,rfl,hfb,hbel⟩:=hrel;have hsz:w.heap.size+1≤wr.heap.size:=by have:=hbel.size;simpa using this
  have hp0:wr.cell? ⟨w.heap.size,0,none⟩=some (.slice A l.length cap):=(hbel.cell (p:=⟨w.heap.size,0,none⟩) (Nat.lt_succ_self _)).trans (cell_one_new _ _ _ 0 _ rfl);have hpf:wr.frozen? ⟨w.heap.size,0,none⟩=false:=(hbel.frozen (p:=⟨w.heap.size,0,none⟩) (Nat.lt_succ_self _)).trans ((Blk.new w 32 #[.slice A l.length cap]).frozen 0);have hwlt:w.heap.size<wr.heap.size:=by omega
  by_cases hlt:k<l.length
  ·have hpr:ProgIn wr B A l:=(HP.o.alloc hB _).keep (hbel.mono (by omega))
   have har:IntBlk wr g (regionsP l):=(HA.o.alloc _).below hbel (by omega)
   obtain⟨b,o,rfl,hlb,hi⟩:=hpr.at_ hlt;obtain⟨i0,i1,i2,i3,i4⟩:=hi;have hop:(l.getD k PIns.none).op=opOf l k:=rfl;have hblt:b<wr.heap.size:=by omega
   have hglt:g<wr.heap.size:=by omega
   have hgk:=har.cell (regionsP_at hlt);have hcc:=HC.o k hlt;have hkI:(k:Int)<(l.length:Int):=by omega
   have hstep:=firstBad_step (f:=jumpBad l) hlt;have HB:=h_ hbel;have hjb:jumpBad l k=(jumpsB (opOf l k)&&(decide ((l.length:Int)<(l.getD k PIns.none).c)||(decide ((l.getD k PIns.none).c=l.length)&&(regAt l k != -1)) ||
    (decide ((l.getD k PIns.none).c<l.length)&&(regAt l (l.getD k PIns.none).c.toNat != regAt l k)))):=rfl
   rw[hop] at i0;clear hop hbel hpr;generalize (l.getD k PIns.none).a=xa at *
   generalize (l.getD k PIns.none).b=xb at *
   generalize (l.getD k PIns.none).c=xc at *
   generalize (l.getD k PIns.none).n=xn at *
   generalize opOf l k=op at *
   cases hj:jumpsB op
   ·have hnb:jumpBad l k=false:=by rw[hjb,hj];rfl
    have HN:Hid (firstBad (jumpBad l) (l.length-(k+1)) (k+1)=firstBad (jumpBad l) l.length 0):=by
     have:=hfb.out
     rw[hstep,hnb] at this;exact this
    clear hjb hnb hstep hcc har hfb;go_wp2_with (go_at_call 210;refine(jumps_any _ _).mono ?_;rintro e w1 ⟨rfl,rfl⟩);go_roundw
    case rel=>exact⟨k+1,by omega,by go_num,HN,HB.o.alloc hsz _⟩
    case measure=>simp[intOf];omega
   ·obtain⟨c,rfl⟩:=Int.eq_ofNat_of_zero_le (hcc hj);clear hcc;rcases(by omega:l.length<c∨c=l.length∨c<l.length) with h1|h1|h1
    ·have hnb:jumpBad l k=true:=by rw[hjb,hj];simp;omega
     have HZ:Hid (jumpsP l=((k:Int),2)):=jumpsP_some (by have:=hfb.out;rw[hstep,hnb] at this;exact this.symm)
     clear hjb hnb hstep hfb;have d1:decide ((l.length:Int)<(c:Int))=true:=by simp;omega
     go_wp2_with (go_at_call 210;refine(jumps_any _ _).mono ?_;rintro e w1 ⟨rfl,rfl⟩);go_quiet (fail);go_wp2;go_ret2;exact⟨by rw[HZ.o];rfl,HQ.o _ (below_drewN (HB.o.alloc hsz _) _)⟩
    ·cases h2:(regAt l k != -1)
     ·have hnb:jumpBad l k=false:=by rw[hjb,hj];rw[h2];simp;omega
      have HN:Hid (firstBad (jumpBad l) (l.length-(k+1)) (k+1)=firstBad (jumpBad l) l.length 0):=by
       have:=hfb.out
       rw[hstep,hnb] at this;exact this
      clear hjb hnb hstep hfb;have d1:decide ((l.length:Int)<(c:Int))=false:=by simp;omega
      have d2:((c:Int)==(l.length:Int))=true:=by simp;omega
      have d4:decide ((c:Int)<(l.length:Int))=false:=by simp;omega
      go_wp2_with (go_at_call 210;refine(jumps_any _ _).mono ?_;rintro e w1 ⟨rfl,rfl⟩);go_quiet (fail);go_wp2;go_roundw
      case rel=>exact⟨k+1,by omega,by go_num,HN,below_drewN (HB.o.alloc hsz _) _⟩
      case measure=>simp[intOf];omega
     ·have hnb:jumpBad l k=true:=by rw[hjb,hj];rw[h2];simp;omega
      have HZ:Hid (jumpsP l=((k:Int),2)):=jumpsP_some (by have:=hfb.out;rw[hstep,hnb] at this;exact this.symm)
      clear hjb hnb hstep hfb;have d1:decide ((l.length:Int)<(c:Int))=false:=by simp;omega
      have d2:((c:Int)==(l.length:Int))=true:=by simp;omega
      have d4:decide ((c:Int)<(l.length:Int))=false:=by simp;omega
      go_wp2_with (go_at_call 210;refine(jumps_any _ _).mono ?_;rintro e w1 ⟨rfl,rfl⟩);go_quiet (fail);go_wp2;go_ret2;exact⟨by rw[HZ.o];rfl,HQ.o _ (below_drewN (HB.o.alloc hsz _) _)⟩
    ·cases h2:(regAt l (c:Int).toNat != regAt l k)
     ·have hnb:jumpBad l k=false:=by rw[hjb,hj];rw[h2];simp;omega
      have HN:Hid (firstBad (jumpBad l) (l.length-(k+1)) (k+1)=firstBad (jumpBad l) l.length 0):=by
       have:=hfb.out
       rw[hstep,hnb] at this;exact this
      clear hjb hnb hstep hfb;have d1:decide ((l.length:Int)<(c:Int))=false:=by simp;omega
      have d2:((c:Int)==(l.length:Int))=false:=by simp;omega
      have d4:decide ((c:Int)<(l.length:Int))=true:=by simp;omega
      have e1:decide (l.length<c)=false:=by simp;omega
      have e2:(c==l.length)=false:=by simp;omega
      have e3:¬(l.length<c):=by omega
      have e4:decide (c<l.length)=true:=by simp;omega
      have hcI:(c:Int)<(l.length:Int):=by omega
      have hgc:=har.cell (regionsP_at h1);rw[Int.toNat_natCast] at h2;go_wp2_with (go_at_call 210;refine(jumps_any _ _).mono ?_;rintro e w1 ⟨rfl,rfl⟩);go_quiet (fail);go_wp2;go_roundw
      case rel=>exact⟨k+1,by omega,by go_num,HN,below_drewN (HB.o.alloc hsz _) _⟩
      case measure=>simp[intOf];omega
     ·have hnb:jumpBad l k=true:=by rw[hjb,hj];rw[h2];simp;omega
      have HZ:Hid (jumpsP l=((k:Int),2)):=jumpsP_some (by have:=hfb.out;rw[hstep,hnb] at this;exact this.symm)
      clear hjb hnb hstep hfb;have d1:decide ((l.length:Int)<(c:Int))=false:=by simp;omega
      have d2:((c:Int)==(l.length:Int))=false:=by simp;omega
      have d4:decide ((c:Int)<(l.length:Int))=true:=by simp;omega
      have e1:decide (l.length<c)=false:=by simp;omega
      have e2:(c==l.length)=false:=by simp;omega
      have e3:¬(l.length<c):=by omega
      have e4:decide (c<l.length)=true:=by simp;omega
      have hcI:(c:Int)<(l.length:Int):=by omega
      have hgc:=har.cell (regionsP_at h1);rw[Int.toNat_natCast] at h2;go_wp2_with (go_at_call 210;refine(jumps_any _ _).mono ?_;rintro e w1 ⟨rfl,rfl⟩);go_quiet (fail);go_wp2;go_ret2;exact⟨by rw[HZ.o];rfl,HQ.o _ (below_drewN (HB.o.alloc hsz _) _)⟩
  ·obtain rfl:k=l.length:=by omega
   have hz:firstBad (jumpBad l) l.length 0=none:=by
    rw[←hfb.out,Nat.sub_self];rfl
   have HZ:=h_ (jumpsP_none hz);have HB:=h_ hbel;clear hfb hz hbel;go_wp2;go_ret2;exact⟨by rw[HZ.o];rfl,HQ.o _ HB.o⟩
theorem runP_size {l:List PIns}(h:sizeBad l=true):runP l=(0,4):=by unfold runP;rw[if_pos h]
theorem runP_bad {l:List PIns}{k:Nat}(h:sizeBad l=false)(h2:firstBad (badB l) l.length 0=some k):runP l=((k:Int),errAt l k):=by
 unfold runP;rw[if_neg (by simp[h]),h2]
theorem runP_open {l:List PIns}{t:Int}{r:List Int}(h:sizeBad l=false)(h2:firstBad (badB l) l.length 0=none)(h3:stk l l.length=t::r):runP l=(t,12):=by
 unfold runP;rw[if_neg (by simp[h]),h2]
 simp only;rw[h3]
theorem runP_jumps {l:List PIns}(h:sizeBad l=false)(h2:firstBad (badB l) l.length 0=none)(h3:stk l l.length=[]):runP l=jumpsP l:=by
 unfold runP;rw[if_neg (by simp[h]),h2]
 simp only;rw[h3]
theorem may_c0 {x:PIns}(h:mayP x=true):0≤x.c:=by
 unfold mayP mayB at h;simp only[Bool.and_eq_true] at h
 have:=h.1.2
 simp[fitsB] at this;omega
theorem fine_c0 {l:List PIns}(h:fine l l.length):∀k,k<l.length→jumpsB (opOf l k)=true→0≤(l.getD k PIns.none).c:=fun k hk _=>may_c0 (err_zero (h k hk)).1
def RunPost (w:World)(l:List PIns)(e:Ending)(w':World):Prop:=e=.returned (pair (runP l))∧Only Nob w w'
theorem run_small (w:World)(A:Option Addr)(cap:Nat)(l:List PIns)(h:sizeBad l=true)(hn:l.length≤1000):
  Calls Tryz.prog 152 #[.agg #[.slice A l.length cap]] w (RunPost w l):=by
 have HQ:Hid (∀w',Only Nob w w'→RunPost w l (.returned (pair (0,4))) w'):=fun w' h1=>⟨by rw[runP_size h],h1⟩
 have h2:l.length=0∨40<l.length:=by simpa [sizeBad] using h
 clear h;generalize l.length=n at *
 rcases h2 with h2|h2
 ·subst h2;go_enter Tryz.func152,Tryz.ntmps152;go_wp2;go_ret2;exact HQ.o _ (Only.alloc (Only.refl _ _) _)
 ·have d1:((n:Int)==0)=false:=by simp;omega
  have d3:(n==0)=false:=by simp;omega
  have d2:decide ((40:Int)<n)=true:=by simp;omega
  go_enter Tryz.func152,Tryz.ntmps152;go_wp2;go_ret2;exact HQ.o _ (Only.alloc (Only.refl _ _) _)
theorem jumps_tup (B g:Nat)(w:World)(A:Option Addr)(cap:Nat)(l:List PIns)(hp:ProgIn w B A l)(hB:B≤w.heap.size)(hn:l.length≤1000)(hc0:∀k,k<l.length→jumpsB (opOf l k)=true→0≤(l.getD k PIns.none).c)
  (ha:IntBlk w g (regionsP l)):
  Calls Tryz.prog 179 #[.agg #[.slice A l.length cap],.slice (some ⟨g,0,none⟩) l.length l.length] w fun e w'=>e=.returned (.tuple #[.int .i64 (jumpsP l).1,.int .i64 (jumpsP l).2])∧Only Nob w w' :=
 jumps_any_ B g w A cap l hp hB hn hc0 ha
theorem run_big (B:Nat)(w:World)(A:Option Addr)(cap:Nat)(l:List PIns)(hp:ProgIn w B A l)(hB:B≤w.heap.size)(hs:sizeBad l=false):
  Calls Tryz.prog 152 #[.agg #[.slice A l.length cap]] w (RunPost w l):=by
 have h2:l.length≠0∧l.length≤40:=by
  have:¬(l.length=0∨40<l.length):=by
   intro h
   have:sizeBad l=true:=by simpa [sizeBad] using h
   rw[this] at hs;cases hs
  omega
 obtain⟨hn0,hn⟩:=h2;have d1:((l.length:Int)==0)=false:=by rw[beq_eq_false_iff_ne];omega
 have d3:(l.length==0)=false:=by rw[beq_eq_false_iff_ne];omega
 have d2:decide ((40:Int)<l.length)=false:=by simp;omega
 have d4:decide (40<l.length)=false:=by simp;omega
 have HP:=h_ hp;have HSB:=h_ hs;have HQ:Hid (∀w',Below (w.heap.size+1) (w.alloc (.cells #[.slice A l.length cap] 32)) w'→Only Nob w w'):=fun w' h1=>Only.trans (Only.alloc (Only.refl _ _) _) (Only.of_new (by simpa using h1))
 clear hp hs;go_enter Tryz.func152,Tryz.ntmps152;go_wp2;go_loopw [4,21] (fun v c wr=>∃k:Nat,k≤l.length∧c=.int .i64 k∧Hid (fine l k)∧Hid (firstBad (badB l) (l.length-k) k=firstBad (badB l) l.length 0)∧Stack wr (w.heap.size+1) v (stk l k) ∧
   Below (w.heap.size+1) (w.alloc (.cells #[.slice A l.length cap] 32)) wr)
  (fun _ c _=>l.length-(intOf c).toNat)
 case atStart=>exact⟨0,by omega,rfl,(fun j hj=>absurd hj (by omega)),rfl,Stack.nil _ _,Below.refl _ _⟩
 case round =>
  obtain⟨k,hk,rfl,hfine,hfb,hst,hbel⟩:=hrel;have hsz:w.heap.size+1≤wr.heap.size:=by have:=hbel.size;simpa using this
  have hp0:wr.cell? ⟨w.heap.size,0,none⟩=some (.slice A l.length cap):=(hbel.cell (p:=⟨w.heap.size,0,none⟩) (Nat.lt_succ_self _)).trans (cell_one_new _ _ _ 0 _ rfl);have hpf:wr.frozen? ⟨w.heap.size,0,none⟩=false:=(hbel.frozen (p:=⟨w.heap.size,0,none⟩) (Nat.lt_succ_self _)).trans ((Blk.new w 32 #[.slice A l.length cap]).frozen 0);have hwlt:w.heap.size<wr.heap.size:=by omega
  have KP:=h_ ((Blk.new w 32 #[.slice A l.length cap]).below hbel (Nat.lt_succ_self _));have hpr:ProgIn wr B A l:=(HP.o.alloc hB _).keep (hbel.mono (by omega))
  have hl5:(stk l k).length≤5:=stk_len hfine.out;have HPR:=h_ hpr;have HS:=h_ hst;have HB:=h_ hbel;clear hst hbel;by_cases hlt:k<l.length
  ·obtain⟨b,o,rfl,hlb,hi⟩:=hpr.at_ hlt;have hstep:=h_ (firstBad_step (f:=badB l) hlt);have hop:(l.getD k PIns.none).op=opOf l k:=rfl;have herr:errAt l k=wrongP l (stk l k) (l.getD k PIns.none):=rfl;have hlts:∀t∈stk l k,0≤t∧t<(l.length:Int):=fun t ht=>by have:=stk_lt l k t ht;omega
   have HLT:=h_ hlts;generalize l.getD k PIns.none=x at *
   obtain⟨i0,i1,i2,i3,i4⟩:=hi;have HE:=h_ herr;have HO:=h_ hop;have hblt:b<wr.heap.size:=by omega
   have hkI:(k:Int)<(l.length:Int):=by omega
   have H5:=h_ hl5;clear herr hop hlts hpr hl5;by_cases hw0:wrongP l (stk l k) x=0
   ·have hnb:badB l k=false:=by simp[badB,HE.o,hw0]
    have HN:Hid (firstBad (badB l) (l.length-(k+1)) (k+1)=firstBad (badB l) l.length 0):=by
     have:=hfb.out
     rw[hstep.out,hnb] at this;exact this
    have HF:Hid (fine l (k+1)):=fun j hj=>by
     rcases Nat.lt_or_ge j k with h1|h1
     ·exact hfine.out j h1
     ·obtain rfl:j=k:=by omega
      rw[HE.o];exact hw0
    have HNE:Hid (0<endsI x.op→stk l k≠[]):=fun h=>err_open hw0 (Or.inl h)
    clear hnb;go_wp2_with (first
     |(go_at_call 176;refine(wrong_any (w.heap.size+1) B _ (stk l k) x _ _ cap l (HS.o.alloc _) (Nat.lt_of_le_of_lt H5.o (by decide)) (HPR.o.alloc (by omega) _) (by simp;omega) (by omega) HLT.o).mono ?_;rintro e w2 ⟨rfl,ho2⟩;have kx:=(Blk.new wr 87 #[.int .i64 x.op,.int .i64 x.a,.int .i64 x.b,.int .i64 x.c,.int .u64 x.n]).only ho2 (fun h=>h);have kx0:=kx.five.1;have kxf:=kx.frozen;have hs2:wr.heap.size<w2.heap.size:=Nat.lt_of_lt_of_le (by simp) ho2.size)
     |(go_at_call 177;refine(behind_any (w.heap.size+1) _ (stk l k) _ _ _ ((HS.o.alloc _).only ho2) (Nat.lt_of_le_of_lt H5.o (by decide)) (by omega) HNE.o).mono ?_;rintro e w3 ⟨v',rfl,hst3,hb3⟩))
    go_roundw
    case rel =>
     refine⟨k+1,by omega,by go_num,HF,HN,?_,?_⟩
     ·rw[stk_succ,←HO.o];exact hst3
     ·exact(HB.o.alloc hsz _).trans ((below_nob ho2 (by simp;omega)).trans hb3)
    case measure=>simp[intOf];omega
   ·have hnb:badB l k=true:=by simp[badB,HE.o,hw0]
    have hz:firstBad (badB l) l.length 0=some k:=by
     have:=hfb.out
     rw[hstep.out,hnb] at this;exact this.symm
    have HZ:=h_ (runP_bad HSB.o hz);have hw1:(wrongP l (stk l k) x != 0)=true:=by simpa using hw0
    have HR:Hid (∀w',Only Nob w w'→RunPost w l (.returned (.tuple #[.int .i64 k,.int .i64 (wrongP l (stk l k) x)])) w'):=fun w' h1=>⟨by rw[HZ.o,HE.o];rfl,h1⟩
    clear hw0 hnb hz;go_wp2_with (go_at_call 176;refine(wrong_any (w.heap.size+1) B _ (stk l k) x _ _ cap l (HS.o.alloc _) (Nat.lt_of_le_of_lt H5.o (by decide)) (HPR.o.alloc (by omega) _) (by simp;omega) (by omega) HLT.o).mono ?_;rintro e w2 ⟨rfl,ho2⟩)
    go_ret2;exact HR.o _ (HQ.o _ ((HB.o.alloc hsz _).trans (below_nob ho2 (by simp;omega))))
  ·obtain rfl:k=l.length:=by omega
   have hz:firstBad (badB l) l.length 0=none:=by
    rw[←hfb.out,Nat.sub_self];rfl
   have HF:=hfine;have HBW:Hid (B≤wr.drew.heap.size):=by show B≤wr.heap.size;omega
   have hn1000:l.length≤1000:=by omega
   cases hk:stk l l.length with
   |nil =>
    have HZ:=h_ (runP_jumps HSB.o hz hk);have hsn:Stack wr (w.heap.size+1) u4 []:=by rw[←hk];exact HS.o
    clear hpr HS hl5 hk hfb;rcases hsn.form with⟨_,hv⟩|⟨gq,capq,hv,_,_,_,_⟩
    all_goals
     subst hv;clear hsn;try simp only[List.length_nil]
     go_wp2_with fail;go_region_with (first
      |(go_at_call 180;refine(regions_any B _ _ cap l HPR.o.drew (by simp;omega) (by omega) HF.o).mono ?_;rintro e w2 ⟨g,rfl,hg,hib,ho2⟩;have k2:=KP.out.drew.only ho2 (fun h=>h);have k20:=k2.one;have k2f:=k2.frozen)
      |(go_at_call 179;refine(jumps_tup B g _ _ cap l (HPR.o.drew.keep (below_nob ho2 HBW.o)) (Nat.le_trans HBW.o ho2.size) hn1000 (fine_c0 HF.o) hib).mono ?_;rintro e w3 ⟨rfl,ho3⟩))
     all_goals
      go_wp2;go_ret2;exact⟨by rw[HZ.o];rfl,Only.trans (Only.trans (Only.drew (HQ.o _ HB.o)) ho2) ho3⟩
   |cons t r =>
    have HZ:=h_ (runP_open HSB.o hz hk);have hst:Stack wr (w.heap.size+1) u4 (t::r):=by rw[←hk];exact HS.o
    rcases hst.form with⟨h0,_⟩|⟨gq,capq,hv,_,_,_,_⟩
    ·cases h0
    ·subst hv;rw[hk] at hl5;have hrl:r.length<5:=by simp at hl5;omega
     have HST:=h_ hst;clear hst hpr HS hl5 hk hfb;simp only[List.length_cons] at HST ⊢;generalize hlen:r.length=m at *
     have hlen':=h_ hlen;clear hlen;go_wp2_with (go_at_call 178;refine(inmost_cons (w.heap.size+1) _ t r _ HST.o (by simp[hlen'.out];omega)).mono ?_;rintro e w2 ⟨rfl,rfl⟩)
     go_ret2;exact⟨by rw[HZ.o];rfl,HQ.o _ HB.o⟩
theorem run_any (B:Nat)(w:World)(A:Option Addr)(cap:Nat)(l:List PIns)(hp:ProgIn w B A l)(hB:B≤w.heap.size)(hn:l.length≤1000):
  Calls Tryz.prog 152 #[.agg #[.slice A l.length cap]] w fun e w'=>e=.returned (.tuple #[.int .i64 (runP l).1,.int .i64 (runP l).2])∧Only Nob w w':=by
 cases hs:sizeBad l
 ·exact run_big B w A cap l hp hB hs
 ·exact run_small w A cap l hs hn
def fillM (n k:Nat):List Int:=List.replicate k (-1)++List.replicate (n-k) 0
theorem fillM_zero (n:Nat):fillM n 0=List.replicate n 0:=by simp[fillM]
theorem fillM_full (n:Nat):fillM n n=List.replicate n (-1):=by simp[fillM]
theorem fillM_len {n k:Nat}(h:k≤n):(fillM n k).length=n:=by simp[fillM];omega
theorem fillM_step {n k:Nat}(h:k<n):(fillM n k).set k (-1)=fillM n (k+1):=by
 unfold fillM;rw[List.set_append_right _ _ (by simp)]
 obtain⟨m,hm⟩:∃m,n-k=m+1:=⟨n-k-1,by omega⟩
 rw[hm,show n-(k+1)=m by omega]
 rw[List.length_replicate,Nat.sub_self,List.replicate_succ,List.set_cons_zero,List.replicate_succ' (n:=k),List.append_assoc];rfl
theorem endA_step_yes {l:List PIns}{k:Nat}(h:0<endsI (opOf l k)):endA l (k+1)=(endA l k).set (regAt l k).toNat k:=if_pos h
theorem endA_step_no {l:List PIns}{k:Nat}(h:¬0<endsI (opOf l k)):endA l (k+1)=endA l k:=if_neg h
theorem endB_step_yes {l:List PIns}{k:Nat}(h:opOf l k=16):endB l (k+1)=(endB l k).set k ((endB l k).getD (regAt l k).toNat 0):=if_pos h
theorem endB_step_no {l:List PIns}{k:Nat}(h:opOf l k≠16):endB l (k+1)=endB l k:=if_neg h
def IntsNew (w0 w:World)(v:Value)(l:List Int):Prop:=(l=[]∧v=.slice none 0 0)∨∃g,v=.slice (some ⟨g,0,none⟩) l.length l.length∧w0.heap.size≤g∧IntBlk w g l
def NewPost (w:World)(l:List Int)(e:Ending)(w':World):Prop:=∃v,e=.returned v∧IntsNew w w' v l∧Only Nob w w'
theorem match_new (B:Nat)(w:World)(A:Option Addr)(cap:Nat)(l:List PIns)(hp:ProgIn w B A l)(hB:B≤w.heap.size)(hn:l.length≤1000):
  Calls Tryz.prog 153 #[.agg #[.slice A l.length cap]] w (NewPost w (matchP l)):=by
 have HP:=h_ hp;have KP:=h_ (Blk.new w 32 #[.slice A l.length cap]);have HB1:Hid (B≤(w.alloc (.cells #[.slice A l.length cap] 32)).heap.size):=by unfold Hid;simp;omega
 cases hok:okP l
 ·have h2:((runP l).2 != 0)=true:=by unfold okP at hok;simpa using hok
  have HQ:Hid (∀w',Only Nob w w'→NewPost w (matchP l) (.returned (.slice none 0 0)) w'):=fun w' h=>⟨_,rfl,.inl ⟨by simp[matchP,hok],rfl⟩,h⟩
  go_enter Tryz.func153,Tryz.ntmps153;go_wp2_with (go_at_call 152;refine(run_any B _ _ cap l (HP.o.alloc hB _) HB1.o hn).mono ?_;rintro e w2 ⟨rfl,ho2⟩);go_ret;exact HQ.o _ (Only.trans (Only.alloc (Only.refl _ _) _) ho2)
 ·obtain⟨_,hf,_,_,hr⟩:=runP_ok hok;have HF:=h_ hf;have h2:(runP l).2=0:=by rw[hr]
  have h1:(runP l).1=0:=by rw[hr]
  have HQ:Hid (∀g w',w.heap.size≤g→IntBlk w' g (endB l l.length)→Only Nob w w'→NewPost w (matchP l) (.returned (.slice (some ⟨g,0,none⟩) l.length l.length)) w'):=fun g w' h0 h h3 =>
   ⟨_,rfl,.inr ⟨g,by simp[matchP,hok,endB_len],h0,by simpa [matchP,hok] using h⟩,h3⟩
  have hmk:=fun w=>run_make_row' (P:=Tryz.prog) 50 3 (.int .i64 0) 8 Tryz.underlying50 infoInt rfl .i64 .i64 l.length (by omega) (by omega) w
  go_enter Tryz.func153,Tryz.ntmps153;go_wp2_with (first
   |(go_at_call 152;refine(run_any B _ _ cap l (HP.o.alloc hB _) HB1.o hn).mono ?_;rintro e w2 ⟨rfl,ho2⟩;have k2:=KP.out.only ho2 (fun h=>h);have k20:=k2.one;have k2f:=k2.frozen)
   |(go_at_call 180;refine(regions_any B _ _ cap l ((HP.o.alloc hB _).keep (below_nob ho2 HB1.o)) (Nat.le_trans HB1.o ho2.size) hn HF.o).mono ?_;rintro e w3 ⟨g,rfl,hg,hib,ho3⟩;have k3:=k2.only ho3 (fun h=>h);have k30:=k3.one;have k3f:=k3.frozen;have hk3:=k3.lt))
  have H3:Hid (Only Nob w w3):=Only.trans (Only.trans (Only.alloc (Only.refl _ _) _) ho2) ho3;have HP3:Hid (ProgIn w3 B A l):=HP.o.keep (below_nob H3.o hB);have hgl:=hib.lt;have HG:=h_ hib;have HE0:=h_ (IntBlk.made w3 l.length);have hBk:B≤w.heap.size:=hB;have K3:=h_ k3;have HB0:Hid (Below w3.heap.size w3 (w3.alloc (.cells (madeCells #[.int .i64 0] l.length) 3))):=Below.alloc (Below.refl _ _) (Nat.le_refl _) _;generalize hE:w3.heap.size=E at *
  have HE:=h_ hE;have HEW:Hid (w.heap.size≤E):=h_ (hE▸H3.o.size);go_loopw [27] (fun c wr=>∃k:Nat,k≤l.length∧c=.int .i64 k∧IntBlk wr E (fillM l.length k)∧Below E w3 wr) (fun c _=>l.length-(intOf c).toNat)
  case atStart=>exact⟨0,by omega,rfl,by rw[fillM_zero];exact HE0.o,HB0.o⟩
  case round =>
   obtain⟨k,hk,rfl,hib,hbel⟩:=hrel;have HI:=h_ hib;have HB:=h_ hbel;have hEl:=hib.lt;by_cases hlt:k<l.length
   ·have hc:=hib.cellD 0 (k:=k) (by rw[fillM_len hk];exact hlt)
    have hcf:=hib.frozen k;have hkI:(k:Int)<(l.length:Int):=by omega
    generalize (fillM l.length k).getD k 0=old at *
    go_wp2;go_roundw
    case rel=>exact⟨k+1,by omega,by go_num,by rw[←fillM_step hlt];exact HI.o.set_ k _,HB.o.setCell (p:=⟨E,k,none⟩) (show E≤E from Nat.le_refl _) _⟩
    case measure=>simp[intOf];omega
   ·obtain rfl:k=l.length:=by omega
    have hp0:=((K3.out.below hbel hk3)).one;have hpf:=((K3.out.below hbel hk3)).frozen;have HA0:Hid (IntBlk wr E (endA l 0)):=by
     have:=HI.o
     rw[fillM_full] at this;exact this
    go_wp2;go_loopw [37] (fun c wq=>∃k:Nat,k≤l.length∧c=.int .i64 k∧IntBlk wq E (endA l k)∧Below E w3 wq) (fun c _=>l.length-(intOf c).toNat)
    case atStart=>exact⟨0,by omega,rfl,HA0.o,HB.o⟩
    case round =>
     obtain⟨k,hk,rfl,hib,hbel⟩:=hrel;have HI:=h_ hib;have HB:=h_ hbel;have hEl:=hib.lt;have hp0:=((K3.out.below hbel hk3)).one;have hpf:=((K3.out.below hbel hk3)).frozen;by_cases hlt:k<l.length
     ·have hpr:ProgIn wr B A l:=HP3.o.keep (hbel.mono (by omega))
      obtain⟨b,o,hA,hlb,hi⟩:=hpr.at_ hlt;subst hA;have hGi:=(HG.o.below hbel hgl).cell (regionsP_at hlt);have hop:(l.getD k PIns.none).op=opOf l k:=rfl;generalize l.getD k PIns.none=x at *
      obtain⟨i0,i1,i2,i3,i4⟩:=hi;have hblt:b<wr.heap.size:=by omega
      have hkI:(k:Int)<(l.length:Int):=by omega
      have hglt:g<wr.heap.size:=by omega
      have hwl:w.heap.size<wr.heap.size:=by omega
      have hEw:E≤wr.heap.size:=Nat.le_of_lt hEl;rw[hop] at i0;by_cases he:0<endsI (opOf l k)
      ·obtain⟨hr0,hrk⟩:=reg_ok (HF.o k hlt) (Or.inl he);have hes:=h_ (endA_step_yes (l:=l) (k:=k) he);obtain⟨t,ht⟩:=Int.eq_ofNat_of_zero_le hr0;have HT:=h_ ht;rw[ht] at hGi hrk;have htl:t<l.length:=by omega
       have htI:(t:Int)<(l.length:Int):=by omega
       have hc:=hib.cellD 0 (k:=t) (by rw[endA_len];exact htl)
       have hcf:=hib.frozen t;have d:decide (0<endsI (opOf l k))=true:=by simpa using he
       generalize (endA l k).getD t 0=old at *
       generalize opOf l k=op at *
       go_wp2_with (go_at_call 181;refine(ends_any _ _).mono ?_;rintro e w1 ⟨rfl,rfl⟩);go_roundw
       case rel =>
        refine⟨k+1,by omega,by go_num,?_,?_⟩
        ·rw[hes.out,HT.o];exact((HI.o.set_ t _).alloc _)
        ·exact(HB.o.setCell (p:=⟨E,t,none⟩) (show E≤E from Nat.le_refl _) _).alloc (by simp[World.setCell];omega) _
       case measure=>simp[intOf];omega
      ·have hes:=h_ (endA_step_no (l:=l) (k:=k) he);have d:decide (0<endsI (opOf l k))=false:=by simpa using he
       generalize opOf l k=op at *
       go_wp2_with (go_at_call 181;refine(ends_any _ _).mono ?_;rintro e w1 ⟨rfl,rfl⟩);go_roundw
       case rel=>exact⟨k+1,by omega,by go_num,by rw[hes.out];exact HI.o.alloc _,HB.o.alloc hEw _⟩
       case measure=>simp[intOf];omega
     ·obtain rfl:k=l.length:=by omega
      have HA0:Hid (IntBlk wr E (endB l 0)):=HI.o;go_wp2;go_loopw [57] (fun c wq=>∃k:Nat,k≤l.length∧c=.int .i64 k∧IntBlk wq E (endB l k)∧Below E w3 wq) (fun c _=>l.length-(intOf c).toNat)
      case atStart=>exact⟨0,by omega,rfl,HA0.o,HB.o⟩
      case round =>
       obtain⟨k,hk,rfl,hib,hbel⟩:=hrel;have HI:=h_ hib;have HB:=h_ hbel;have hEl:=hib.lt;have hp0:=((K3.out.below hbel hk3)).one;have hpf:=((K3.out.below hbel hk3)).frozen;by_cases hlt:k<l.length
       ·have hpr:ProgIn wr B A l:=HP3.o.keep (hbel.mono (by omega))
        obtain⟨b,o,hA,hlb,hi⟩:=hpr.at_ hlt;subst hA;have hGi:=(HG.o.below hbel hgl).cell (regionsP_at hlt);have hop:(l.getD k PIns.none).op=opOf l k:=rfl;generalize l.getD k PIns.none=x at *
        obtain⟨i0,i1,i2,i3,i4⟩:=hi;have hblt:b<wr.heap.size:=by omega
        have hkI:(k:Int)<(l.length:Int):=by omega
        have hglt:g<wr.heap.size:=by omega
        have hwl:w.heap.size<wr.heap.size:=by omega
        have hEw:E≤wr.heap.size:=Nat.le_of_lt hEl;rw[hop] at i0;by_cases he:opOf l k=16
        ·obtain⟨hr0,hrk⟩:=reg_ok (HF.o k hlt) (Or.inr he);have hes:=h_ (endB_step_yes (l:=l) (k:=k) he);obtain⟨t,ht⟩:=Int.eq_ofNat_of_zero_le hr0;have HT:=h_ ht;rw[ht] at hGi hrk;have htl:t<l.length:=by omega
         have htI:(t:Int)<(l.length:Int):=by omega
         have hc:=hib.cellD 0 (k:=t) (by rw[endB_len];exact htl)
         have hc2:=hib.cellD 0 (k:=k) (by rw[endB_len];exact hlt)
         have hcf:=hib.frozen t;have hcf2:=hib.frozen k;have d:(opOf l k==16)=true:=by simpa using he
         generalize hold:(endB l k).getD t 0=old at *
         have HO:=h_ hold;generalize (endB l k).getD k 0=old2 at *
         generalize opOf l k=op at *
         go_wp2;go_roundw
         case rel =>
          refine⟨k+1,by omega,by go_num,?_,?_⟩
          ·rw[hes.out,HT.o,Int.toNat_natCast,HO.o];exact((HI.o.set_ k _).alloc _)
          ·exact(HB.o.setCell (p:=⟨E,k,none⟩) (show E≤E from Nat.le_refl _) _).alloc (by simp[World.setCell];omega) _
         case measure=>simp[intOf];omega
        ·have hes:=h_ (endB_step_no (l:=l) (k:=k) he);have d:(opOf l k==16)=false:=by simpa using he
         generalize opOf l k=op at *
         go_wp2;go_roundw
         case rel=>exact⟨k+1,by omega,by go_num,by rw[hes.out];exact HI.o.alloc _,HB.o.alloc hEw _⟩
         case measure=>simp[intOf];omega
       ·obtain rfl:k=l.length:=by omega
        have HN:Hid (Only Nob w wr):=Only.trans H3.o (Only.of_below HB.o (fun k h1 h2=>by have:=HE.o;omega))
        go_wp2;go_ret;exact HQ.o _ _ HEW.o HI.o HN.o
end Go.Proofs.YtfodmgaliclhfaaGreatDoor

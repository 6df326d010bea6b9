/- Lemmas. -/
import Derived.Test.YtfodmgaliclhfaaGreatDoorGThAtts
namespace Go.Proofs.YtfodmgaliclhfaaGreatDoor
set_option linter.unusedVariables false
set_option linter.unusedSimpArgs false
set_option maxRecDepth 100000
set_option maxHeartbeats 16000000
open Go.RowKit Go.Proofs.Tryz Iq Jq
theorem NH (ω w:World)(F:HP)(h:Sat ω w F):
  Calls prog 56 #[] w fun e w'=>∃lb,e=.returned (.pointer (some ⟨lb,0,none⟩))∧Sat ω w' (bk lb 188 #[.slice none 0 0]*F):=by
 have H:=h_ h;go_enter func56,ntmps56;go_wp2;go_ret;exact⟨_,rfl,H.o.new _ _⟩
def jobsH (A:Option Addr)(c:Nat)(l:List (List PIns)):HP:=ex fun js=>fact (js.length=l.length)*(row 32 1 (.slice A l.length c) l.length (jbV js l)*jbAll js l)
theorem Em (B:Option Addr)(d:Nat)(p:List PIns):∀(js:List (Option Addr×Nat)) (l:List (List PIns)),js.length=l.length→jbV (js++[(B,d)]) (l++[p])=jbV js l++[.slice B p.length d]∧jbAll (js++[(B,d)]) (l++[p])=jbAll js l*prH B d p
 | [],[],_=>by
  refine⟨rfl,?_⟩;show prH B d p*emp=emp*prH B d p
  exact Am _ _
 |a::js,q::l,h=>by
  obtain⟨h1,h2⟩:=Em B d p js l (by simpa using h)
  refine⟨?_,?_⟩
  ·show Value.slice a.1 q.length a.2::jbV (js++[(B,d)]) (l++[p])=_
   rw[h1];rfl
  ·show prH a.1 a.2 q*jbAll (js++[(B,d)]) (l++[p])=(prH a.1 a.2 q*jbAll js l)*prH B d p
   rw[h2];ac_rfl
def jobG (b:Nat)(s:PSt)(t:PTh)(D:ThD)(j:Int):HP:=bk b 138 (thC s t D j)*(nowH s D.nb t.now*(jbAll D.js t.jobs*((fact (D.ps.length=t.past.length)*(row 52 14 D.pv t.past.length (toVs D.ps t.past)*toAll D.ps t.past))*(row 66 4 D.rv t.results.length (t.results.flatMap reV)*bk D.lb 188 #[.slice none 0 0]))))
theorem Hu {ω w:World}{F:HP}{b:Nat}{s:PSt}{t:PTh}{D:ThD}{j:Int}(h:Sat ω w (thX b s t D j*F)):D.js.length=t.jobs.length∧Sat ω w (row 32 1 (.slice D.jA t.jobs.length D.jc) t.jobs.length (jbV D.js t.jobs)*(jobG b s t D j*F)):=by
 unfold thX thT thJ at h;have h1:Sat ω w (fact (D.js.length=t.jobs.length)*(row 32 1 (.slice D.jA t.jobs.length D.jc) t.jobs.length (jbV D.js t.jobs)*(jobG b s t D j*F))):=h.perm (by unfold jobG;ac_rfl)
 exact h1.of_fact
theorem PY {ω w:World}{F R:HP}{b:Nat}{s:PSt}{t:PTh}{D:ThD}{j:Int}(h:Sat ω w (R*(jobG b s t D j*F))):Blk w b 138 (thC s t D j):=by
 have h1:=h.right;unfold jobG at h1;exact h1.assoc.blk
theorem Og {ω w:World}{F:HP}{b:Nat}{s:PSt}{t:PTh}{D:ThD}{j:Int}{p:List PIns}{A B:Option Addr}{n c d:Nat}(hn:t.jobs.length=n)(hl:D.js.length=t.jobs.length)
  (h:Sat ω w (row 32 1 (.slice A (n+1) c) (n+1) (jbV D.js t.jobs++[.slice B p.length d])*(jobG b s t D j*(prH B d p*F)))):
  Sat ω (w.setCell (κ b 9) (.slice A (n+1) c)) (thX b s {t with jobs:=t.jobs++[p]} {D with jA:=A,jc:=c,js:=D.js++[(B,d)]} j*F):=by
 unfold jobG at h;have h0:Sat ω w (bk b 138 (thC s t D j)*(row 32 1 (.slice A (n+1) c) (n+1) (jbV D.js t.jobs++[.slice B p.length d])*(nowH s D.nb t.now*(jbAll D.js t.jobs*(((fact (D.ps.length=t.past.length)*(row 52 14 D.pv t.past.length (toVs D.ps t.past)*toAll D.ps t.past))*(row 66 4 D.rv t.results.length (t.results.flatMap reV)*bk D.lb 188 #[.slice none 0 0]))*(prH B d p*F)))))):=h.perm (by ac_rfl)
 have e3:(t.jobs++[p]).length=n+1:=by simp[hn]
 have h2:=h0.put 9 (.slice A (n+1) c) (cs':=thC s {t with jobs:=t.jobs++[p]} {D with jA:=A,jc:=c,js:=D.js++[(B,d)]} j) (by unfold thC;simp only[e3];rfl)
 obtain⟨e1,e2⟩:=Em B d p D.js t.jobs hl;unfold thX thT thJ;simp only;rw[e1,e2,e3];have h3:=h2.to_fact (p:=(D.js++[(B,d)]).length=n+1) (by simp[hl,hn])
 refine h3.perm ?_;unfold nowH;ac_rfl
theorem Fv:(prog.info? 32).map (fun i=>(i.zero,i.size,i.bytes))=some (some (.agg #[.slice none 0 0]),1,24):=by kernel_rfl
def th0 (me:Nat)(jobs:List (List PIns)):PTh:={me:=me,jobs:=jobs,job:=0,state:=0,tries:=0,conflicts:=0,now:=none,born:=0,alarmed:=false,past:=[],results:=[],by_:=0,since:=0,yielding:=false,pauses:=0}
theorem LX {ω w:World}{F:HP}{e:TypeId}{size n c:Nat}{A:Option Addr}{xs:List Value}(h:Sat ω w (row e size (.slice A n c) n xs*F)):n≤c:=by
 rcases h.cases with⟨h1,h2,_⟩|⟨g,cap,cur,h1,h2,_⟩
 ·omega
 ·injection h1 with _ _ h3
  omega
theorem NQ {ω w:World}{F:HP}{A:Option Addr}{c:Nat}{l:List (List PIns)}(h:Sat ω w (jobsH A c l*F)):l.length≤c:=by
 obtain⟨js,h⟩:=h.of_ex;exact LX (h.assoc.of_fact.2.assoc)
theorem GA {p:Prop}(h:p):fact p=emp:=HP.ext fun x=>⟨fun hx=>hx.2,fun hx=>⟨h,hx⟩⟩
def d0 (lb:Nat):ThD:=⟨none,0,[],0,.slice none 0 0,[],.slice none 0 0,lb⟩
theorem Oe (tb lb me:Nat)(s:PSt):thX tb s (th0 me []) (d0 lb) (-1)=bk tb 138 (thC s (th0 me []) (d0 lb) (-1))*(row 32 1 (.slice none 0 0) 0 []*(row 52 14 (.slice none 0 0) 0 []*(row 66 4 (.slice none 0 0) 0 []*bk lb 188 #[.slice none 0 0]))):=by
 unfold thX thT thJ;have e1:fact ((d0 lb).js.length=(th0 me []).jobs.length)=emp:=GA rfl;have e2:fact ((d0 lb).ps.length=(th0 me []).past.length)=emp:=GA rfl;rw[e1,e2];show _*(emp*((emp*(row 32 1 (.slice none 0 0) 0 []*emp))*((emp*(row 52 14 (.slice none 0 0) 0 []*emp))*(row 66 4 (.slice none 0 0) 0 []*bk lb 188 #[.slice none 0 0]))))=_
 simp only[AD,Ac]
def PrgS (N:Nat)(CS:Array Value)(w:World):Prop:=Blk w N 32 CS
def BoxS (N:Nat)(CS:Array Value)(w:World):Prop:=Blk w N 39 CS
theorem Ob (ω w:World)(F:HP)(me:Nat)(s:PSt)(hs:s.kept)(hme:me+1≤s.threads)(A:Option Addr)(c:Nat)(l:List (List PIns))(hl:l.length≤6)(hp:∀p∈l,p.length≤40∧okP p=true)(h:Sat ω w (jobsH A c l*F)):
  Calls prog 36 #[me,.agg s,.slice A l.length c] w fun e w'=>∃b,e=.returned (.pointer (some ⟨b,0,none⟩))∧Sat ω w' (thH b s (PTh.new me s l)*(jobsH A c l*F)):=by
 obtain⟨n,hn⟩:∃n,l.length=n:=⟨_,rfl⟩;obtain⟨N,hN⟩:∃N,w.heap.size=N:=⟨_,rfl⟩;have hcap:(n:Int)≤(c:Int):=by have:=NQ h;omega
 obtain⟨js,h⟩:=h.of_ex;obtain⟨hjl,h⟩:=h.assoc.of_fact;obtain⟨X,hX⟩:∃X:HP,X=row 32 1 (.slice A l.length c) l.length (jbV js l)*(jbAll js l*F):=⟨_,rfl⟩;have HXJ:Hid (∀w1 P,Sat ω w1 (P*X)→Sat ω w1 (P*(jobsH A c l*F))):=h_ (fun w1 P h1=>by
  have h2:Sat ω w1 (fact (js.length=l.length)*((row 32 1 (.slice A l.length c) l.length (jbV js l)*jbAll js l)*(P*F))):=Sat.to_fact hjl (h1.perm (by rw[hX];ac_rfl))
  have h3:Sat ω w1 (jobsH A c l*(P*F)):=Sat.to_ex js h2.assoc';exact h3.swap)
 have HB0:Hid (Sat ω (w.alloc (.cells s 39)) (bk N 39 s*X)):=h_ (by
  rw[hX,←hN];exact h.assoc.new _ _)
 have HHE:Hid (Calls prog 32 #[.agg s] (w.alloc (.cells s 39)) fun e w'=>e=.returned (.agg s)∧Sat ω w' (bk N 39 s*X)):=h_ (by
  refine(Fx _ s hs).mono ?_;rintro e w2 ⟨rfl,ho⟩;exact⟨rfl,HB0.o.nob ho⟩)
 have HB2:Hid (∀w1,Sat ω w1 (bk N 39 s*X)→Sat ω ((((((((w1.setCell (κ N 0) s.words).setCell (κ N 1) s.stripes).setCell (κ N 2) s.wide).setCell (κ N 3) s.threads).setCell (κ N 4) (υ s.start)).setCell (κ N 5) s.spins).setCell (κ N 6) s.writes).setCell (κ N 7) s.fuel) (bk N 39 s*X)):=h_ (fun w1 h1=>((((((((h1.put 0 s.words (cs':=s) rfl).put 1 s.stripes (cs':=s) rfl).put 2 s.wide (cs':=s) rfl).put 3 s.threads (cs':=s) rfl).put 4 (υ s.start) (cs':=s) rfl).put 5 s.spins (cs':=s) rfl).put 6 s.writes (cs':=s) rfl).put 7 s.fuel (cs':=s) rfl))
 have HBK:Hid (∀w1,Sat ω w1 (bk N 39 s*X)→Blk w1 N 39 s):=h_ (fun w1 h1=>h1.blk)
 have HLI:Hid (∀w1,Sat ω w1 (bk N 39 s*X)→Calls prog 56 #[] w1 fun e w'=>∃lb,e=.returned (.pointer (some ⟨lb,0,none⟩))∧Sat ω w' (bk lb 188 #[.slice none 0 0]*(bk N 39 s*X))):=h_ (fun w1 h1=>NH ω w1 _ h1)
 have HBL:Hid (∀w1 lb,Sat ω w1 (bk lb 188 #[.slice none 0 0]*(bk N 39 s*X))→Blk w1 N 39 s):=h_ (fun w1 lb h1=>h1.right.blk)
 have HTH:Hid (∀w1 lb,Sat ω w1 (bk lb 188 #[.slice none 0 0]*(bk N 39 s*X))→∃D,Sat ω (w1.alloc (.cells #[me,s.words,s.stripes,s.wide,s.threads,υ s.start,s.spins,s.writes,s.fuel,.slice none 0 0,ι (-1),ι 0,.bool false,.slice none 0 0,ι 0,ι 0,.pointer none,ι 0,.bool false,.slice none 0 0,.slice none 0 0,.pointer (some ⟨lb,0,none⟩),.slice none 0 0,ι 0,υ 0,.bool false,ι 0] 138)) (thX w1.heap.size s (th0 me (l.take 0)) D (-1)*X)):=h_ (fun w1 lb h1=>by
  have h3:Sat ω w1 (bk lb 188 #[.slice none 0 0]*X):=h1.swap.right;have h4:=((((h3.nil 66 4).nil 52 14).nil 32 1).new #[me,s.words,s.stripes,s.wide,s.threads,υ s.start,s.spins,s.writes,s.fuel,.slice none 0 0,ι (-1),ι 0,.bool false,.slice none 0 0,ι 0,ι 0,.pointer none,ι 0,.bool false,.slice none 0 0,.slice none 0 0,.pointer (some ⟨lb,0,none⟩),.slice none 0 0,ι 0,υ 0,.bool false,ι 0] 138);refine⟨d0 lb,?_⟩;rw[List.take_zero,Oe];have e:thC s (th0 me []) (d0 lb) (-1)=#[.int .i64 me,.int .i64 s.words,.int .i64 s.stripes,.int .i64 s.wide,.int .i64 s.threads,.int .u64 s.start,.int .i64 s.spins,.int .i64 s.writes,.int .i64 s.fuel,.slice none 0 0,.int .i64 (-1),.int .i64 0,.bool false,.slice none 0 0,.int .i64 0,.int .i64 0,.pointer none,.int .i64 0,.bool false,.slice none 0 0,.slice none 0 0,.pointer lb,.slice none 0 0,.int .i64 0,.int .u64 0,.bool false,.int .i64 0]:=rfl;rw[e];exact h4.perm (by ac_rfl))
 have hthr:s.threads≤4:=hs.t2;have hmax:max (0:Int) (min (me:Int) ((s.threads:Int)-1))=(me:Int):=by omega
 have hmin:min (n:Int) 6=(n:Int):=by omega
 have HS:=h_ hs;have hXd:=h_ hX;have hJL:=h_ hjl;obtain⟨Y,hY⟩:∃Y:HP,Y=jobsH A c l*F:=⟨_,rfl⟩;rw[←hY] at HXJ ⊢;rw[hn] at hl ⊢;have HNN:=h_ hn;have HP:=h_ hp;go_enter func36,ntmps36;go_wp2_with (go_at_call 32;refine(HHE.o).mono ?_;rintro e w1 ⟨rfl,hs⟩;have kN:=HBK.o _ hs;have nf:=kN.frozen;have nl:=kN.lt;have n0:=kN.c 0;have n1:=kN.c 1;have n2:=kN.c 2;have n3:=kN.c 3;have n4:=kN.c 4;have n5:=kN.c 5;have n6:=kN.c 6;have n7:=kN.c 7;have HH:=h_ (HB2.o _ hs));generalize ((((((((w1.setCell N s.words).setCell (κ N 1) s.stripes).setCell (κ N 2) s.wide).setCell (κ N 3) s.threads).setCell (κ N 4) (υ s.start)).setCell (κ N 5) s.spins).setCell (κ N 6) s.writes).setCell (κ N 7) s.fuel)=wC at *
 have HD:=h_ (HH.o.drewN 1);have HS0:BoxS N s wC.drew:=HBK.o _ HD.o;refine gN (BoxS N s) HS0 fun hh0=>?_
 refine tH 0 ?_ rfl ?_ (tH 1 ?_ rfl ?_ (tH 2 ?_ rfl ?_ (tH 3 ?_ rfl ?_ (tH 4 ?_ rfl ?_ (tH 5 ?_ rfl ?_ (tH 6 ?_ rfl ?_ (tH 7 ?_ rfl ?_ ?_)))))));all_goals (try (
  intro w hSw;have jl:=hSw.lt;have jf:=hSw.frozen;have j0:=hSw.c 0;have j1:=hSw.c 1;have j2:=hSw.c 2;have j3:=hSw.c 3;have j4:=hSw.c 4;have j5:=hSw.c 5;have j6:=hSw.c 6;have j7:=hSw.c 7;try simp only[sP]
  go_simp<;>(try with_reducible rfl)))
 try simp only[sP]
 refine oH 8 rfl fun K hK=>?_
 go_simp;go_at_call 56;refine(HLI.o _ HD.o).mono ?_;rintro e wL ⟨lb,rfl,hs⟩;have HL:=h_ hs;(try go_wp2_with fail);refine hK.q ?_ fun hh1=>?_
 ·exact HBL.o _ _ HL.o
 try simp only[sP]
 refine tH 9 ?_ rfl ?_ ?_;all_goals (try (
  intro w hSw;have jl:=hSw.lt;have jf:=hSw.frozen;have j0:=hSw.c 0;have j1:=hSw.c 1;have j2:=hSw.c 2;have j3:=hSw.c 3;have j4:=hSw.c 4;have j5:=hSw.c 5;have j6:=hSw.c 6;have j7:=hSw.c 7;go_simp<;>(try with_reducible rfl)))
 try simp only[sP]
 refine oH 10 rfl fun K hK=>?_
 go_simp;(try go_wp2_with fail);refine hK.q ?_ fun hh2=>?_
 ·exact(HBL.o _ _ HL.o).alloc _
 try simp only[sP]
 refine tH 11 ?_ rfl ?_ ?_;all_goals (try (
  intro w hSw;have jl:=hSw.lt;have jf:=hSw.frozen;have j0:=hSw.c 0;have j1:=hSw.c 1;have j2:=hSw.c 2;have j3:=hSw.c 3;have j4:=hSw.c 4;have j5:=hSw.c 5;have j6:=hSw.c 6;have j7:=hSw.c 7;go_simp<;>(try with_reducible rfl)))
 try simp only[sP]
 refine dN ?_;obtain⟨D0,hth⟩:=HTH.o _ _ HL.o;have HT0:=h_ hth;go_wp2;generalize (wL.alloc (.cells #[me,s.words,s.stripes,s.wide,s.threads,υ s.start,s.spins,s.writes,s.fuel,.slice none 0 0,ι (-1),ι 0,.bool false,.slice none 0 0,ι 0,ι 0,.pointer none,ι 0,.bool false,.slice none 0 0,.slice none 0 0,.pointer lb,.slice none 0 0,ι 0,υ 0,.bool false,ι 0] 138))=wM at *
 generalize wL.heap.size=tb at *
 have HJO:Hid (∀k,k<n→∃(p:List PIns) (m:Nat) (B:Option Addr) (d:Nat),p.length=m∧m≤40∧l.take (k+1)=l.take k++[p]∧(l.take k).length=k∧(∀w1 G,Sat ω w1 (G*X)→∃g,A=some ⟨g,0,none⟩∧g<w1.heap.size∧w1.cell? (κ g k)=some (.slice B m d))∧∀w2 P,Sat ω w2 (P*X)→Calls prog 57 #[.slice B m d] w2 fun e w'=>∃B' d',e=.returned (.slice B' m d')∧Sat ω w' (prH B' d' p*(P*X))):=h_ (fun k hk=>by
  have hk2:k<l.length:=by rw[HNN.o];exact hk
  obtain⟨B,d,R,h3,h4⟩:=En js l hJL.out k hk2;obtain⟨p,hp⟩:∃p,l.getD k []=p:=⟨_,rfl⟩;have hpk:=HP.o (l.getD k []) (by rw[gD,List.getElem?_eq_getElem hk2];exact List.getElem_mem _)
  have htk:l.take (k+1)=l.take k++[p]:=by rw[List.take_add_one,←hp,gD,List.getElem?_eq_getElem hk2];rfl
  rw[hp] at h3 h4 hpk;refine⟨p,p.length,B,d,rfl,hpk.1,htk,by simp;omega,fun w1 G h1=>?_,fun w2 P h5=>?_⟩
  ·have h2:Sat ω w1 (row 32 1 (.slice A l.length c) l.length (jbV js l)*(jbAll js l*F*G)):=h1.perm (by rw[hXd.out];ac_rfl)
   exact h2.rowCell h3
  ·have h6:Sat ω w2 (row 87 5 (.slice B p.length d) p.length (p.flatMap insV)*(R*(P*(F*row 32 1 (.slice A l.length c) l.length (jbV js l))))):=h5.perm (by rw[hXd.out,h4];unfold prH;ac_rfl)
   refine(Qf ω w2 _ B p.length d (p.flatMap insV) h6 (by omega) (Ig _)).mono ?_
   rintro e w3 ⟨B',d',rfl,h7⟩;refine⟨B',d',rfl,h7.perm ?_⟩;rw[hXd.out,h4];unfold prH;ac_rfl)
 obtain⟨i0,hi0,hz⟩:=Option.map_eq_some_iff.1 Fv;simp only[Prod.mk.injEq] at hz;obtain⟨hz0,hz1,hz2⟩:=hz;have HI:=h_ hi0;have HZ0:=h_ hz0;have HZ1:=h_ hz1;have HZ2:=h_ hz2;go_loopw [9,29] (fun _ i wr=>∃(k:Nat) (D:ThD),k≤n∧i=.int .i64 k∧Hid (Sat ω wr (thX tb s (th0 me (l.take k)) D (-1)*X))) (fun _ i _=>n-(intOf i).toNat)
 case atStart=>exact⟨0,D0,by omega,rfl,HT0.o⟩
 case round =>
  obtain⟨k,D,hk,rfl,HR⟩:=hrel;by_cases hlt:k<n
  ·obtain⟨p,m,B,d,hpm,hm40,htk,hlk,hJ,hC⟩:=HJO.o k hlt;obtain⟨g,rfl,hg,r0⟩:=hJ wr _ HR.o;obtain⟨M,hM⟩:∃M,wr.heap.size=M:=⟨_,rfl⟩;have HT:Hid (Sat ω (wr.alloc (.cells #[.slice B m d] 32)) (bk M 32 #[.slice B m d]*(thX tb s (th0 me (l.take k)) D (-1)*X))):=h_ (by rw[←hM];exact HR.o.new _ _)
   have HTD:=h_ (HT.o.drewN 1);have HCL:Hid (∀w2 P,Sat ω w2 (P*(thX tb s (th0 me (l.take k)) D (-1)*X))→Calls prog 57 #[.slice B m d] w2 fun e w'=>∃B' d',e=.returned (.slice B' m d')∧Sat ω w' (prH B' d' p*(P*(thX tb s (th0 me (l.take k)) D (-1)*X)))):=h_ (fun w2 P h1=>by
    refine(hC w2 (P*thX tb s (th0 me (l.take k)) D (-1)) (h1.perm (by ac_rfl))).mono ?_
    rintro e w3 ⟨B',d',rfl,h2⟩;exact⟨B',d',rfl,h2.perm (by ac_rfl)⟩)
   have kT:=AE HTD.o.right;have lT:=kT.lt;have fT:=kT.frozen;have lT2:tb<M+1:=by have h9:=kT.lt;rw[←hM];simpa using h9
   have q9:((wr.alloc (.cells #[.slice B m d] 32)).drew).cell? (κ tb 9)=some (.slice D.jA k D.jc):=by
    have h9:((wr.alloc (.cells #[.slice B m d] 32)).drew).cell? (κ tb 9)=some (.slice D.jA (l.take k).length D.jc):=kT.cell 9;rw[hlk] at h9;exact h9
   have HPJ:Hid (∀w1 B' d',Sat ω w1 (prH B' d' p*(bk M 32 #[.slice B m d]*(thX tb s (th0 me (l.take k)) D (-1)*X)))→Sat ω w1 (row 32 1 (.slice D.jA k D.jc) k (jbV D.js (l.take k))*(jobG tb s (th0 me (l.take k)) D (-1)*(prH B' d' p*(bk M 32 #[.slice B m d]*X))))):=h_ (fun w1 B' d' h1=>by
    have h2:Sat ω w1 (thX tb s (th0 me (l.take k)) D (-1)*(prH B' d' p*(bk M 32 #[.slice B m d]*X))):=h1.perm (by ac_rfl)
    have h3:=(Hu h2).2;have e:(th0 me (l.take k)).jobs.length=k:=hlk;rw[e] at h3;exact h3)
   have hDj:D.js.length=(l.take k).length:=(Hu HTD.o.right).1;have HFJ:Hid (∀w1 A' c' B' d',Sat ω w1 (row 32 1 (.slice A' (k+1) c') (k+1) (jbV D.js (l.take k)++[.slice B' m d'])*(jobG tb s (th0 me (l.take k)) D (-1)*(prH B' d' p*(bk M 32 #[.slice B m d]*X))))→Blk w1 M 32 #[.slice B m d]∧Blk w1 tb 138 (thC s (th0 me (l.take k)) D (-1))∧Blk (w1.setCell (κ tb 9) (.slice A' (k+1) c')) M 32 #[.slice B m d]∧∃D',Sat ω (w1.setCell (κ tb 9) (.slice A' (k+1) c')) (thX tb s (th0 me (l.take (k+1))) D' (-1)*X)):=h_ (fun w1 A' c' B' d' h1=>by
    have h2:Sat ω w1 (bk M 32 #[.slice B m d]*(row 32 1 (.slice A' (k+1) c') (k+1) (jbV D.js (l.take k)++[.slice B' m d'])*(jobG tb s (th0 me (l.take k)) D (-1)*(prH B' d' p*X)))):=h1.perm (by ac_rfl)
    have h3:Sat ω (w1.setCell (κ tb 9) (.slice A' (k+1) c')) (thX tb s (th0 me (l.take (k+1))) {D with jA:=A',jc:=c',js:=D.js++[(B',d')]} (-1)*(bk M 32 #[.slice B m d]*X)):=by
     have h4:=h1;rw[←hpm] at h4;have h5:=Og (t:=th0 me (l.take k)) (p:=p) hlk hDj h4;rw[htk];rw[hpm] at h5;exact h5
    exact⟨h2.blk,PY h1,h3.swap.blk,_,h3.swap.right⟩)
   have HON:Hid (∀B' d',∀u∈([Value.slice B' m d']:List Value),u.oneCell'=true):=h_ (by intro B' d' u hu;simp at hu;subst hu;rfl)
   have HRD:Hid (∀(w1:World) B' d',Reads (w1.alloc (.cells #[.slice B' m d'] 32)) (w1.heap.size+1) 1 (some ⟨w1.heap.size,0,none⟩) 1 [.slice B' m d']):=h_ (fun w1 B' d'=>by
    have h9:=Reads.of_blk (size:=1) (n:=1) (Blk.new w1 32 #[.slice B' m d']) rfl;rw[World.size_alloc] at h9;exact h9)
   have HBM:Hid (∀w1 P R,Sat ω w1 (P*(bk M 32 #[.slice B m d]*R))→Blk w1 M 32 #[.slice B m d]):=h_ (fun w1 P R h1=>h1.right.blk)
   have HBT:Hid (∀w1 P R,Sat ω w1 (P*(R*(thX tb s (th0 me (l.take k)) D (-1)*X)))→Blk w1 tb 138 (thC s (th0 me (l.take k)) D (-1))∧w1.cell? (κ tb 9)=some (.slice D.jA k D.jc)):=h_ (fun w1 P R h1=>by
    have h2:=AE h1.right.right;refine⟨h2,?_⟩;rw[h2.cell 9];show some (Value.slice D.jA (l.take k).length D.jc)=_
    rw[hlk])
   have HS6:PrgS M #[.slice B m d] (wr.alloc (.cells #[.slice B m d] 32)).drew:=HTD.o.blk;go_wp2;refine gN (PrgS M #[.slice B m d]) HS6 fun hh0=>?_
   refine tH 0 ?_ rfl ?_ (tH 1 ?_ rfl ?_ (tH 5 ?_ rfl ?_ (tH 2 ?_ rfl ?_ (tH 6 ?_ rfl ?_ (tH 3 ?_ rfl ?_ ?_)))));all_goals (try (
    intro w hSw;have jl:=hSw.lt;have jf:=hSw.frozen;have j0:=hSw.c 0;try simp only[sP]
    go_simp<;>(try with_reducible rfl)))
   try simp only[sP]
   refine rH [4,7] ?_;refine cH rfl (fun K hK=>?_) ?_
   ·go_simp;(try go_wp2_with fail);refine hK.q ?_ fun hh1=>?_
    ·exact HS6
    try simp only[sP]
    refine oH 7 rfl fun K hK=>?_
    go_simp;go_at_call 57;refine(HCL.o _ _ HTD.o).mono ?_;rintro e wA ⟨B',d',rfl,hs⟩;have HA:=h_ hs;obtain⟨kA,qA⟩:=HBT.o _ _ _ hs;have lA:=kA.lt;have fA:=kA.frozen;have lA1:tb<wA.heap.size+1:=(by omega);have qA1:∀o,(wA.alloc o).cell? (κ tb 9)=some (.slice D.jA k D.jc):=fun o=>(by rw[World.cell?_alloc_lt _ _ _ lA];exact qA)
    (try go_wp2_with fail);refine hK.q ?_ fun hh2=>?_
    ·exact HBM.o _ _ _ HA.o
    try simp only[sP]
    refine tH 8 ?_ rfl ?_ ?_;all_goals (try (
     intro w hSw;have jl:=hSw.lt;have jf:=hSw.frozen;have j0:=hSw.c 0;go_simp<;>(try with_reducible rfl)))
    try simp only[sP]
    refine oH 9 rfl fun K hK=>?_
    go_simp;(try go_wp2_with fail);refine hK.q ?_ fun hh3=>?_
    ·exact(HBM.o _ _ _ HA.o).alloc _
    try simp only[sP]
    refine oH 10 rfl fun K hK=>?_
    have HRW:=h_ (HPJ.o _ _ _ HA.o);refine BI 29 32 1 24 underlying29 HI.o HZ0.o HZ1.o HZ2.o (HRW.o.junk _) (HRD.o _ _ _) (HON.o _ _) ?_;intro A' c' wB hs;obtain⟨k1,k2,k3,D',h4⟩:=HFJ.o _ _ _ _ _ hs;have HK1:=h_ k1;have HK3:=h_ k3;have HY:=h_ h4;have qf:=k2.frozen;have ql:=k2.lt;obtain⟨u9,q9b⟩:∃u,wB.cell? (κ tb 9)=some u:=⟨_,k2.cell 9⟩;(try go_wp2_with fail);refine hK.q ?_ fun hh4=>?_
    ·exact HK1.o
    try simp only[sP]
    refine tH 11 ?_ rfl ?_ (tH 12 ?_ rfl ?_ ?_);all_goals (try (
     intro w hSw;have jl:=hSw.lt;have jf:=hSw.frozen;have j0:=hSw.c 0;try simp only[sP]
     go_simp<;>(try with_reducible rfl)))
    try simp only[sP]
    refine oH 13 rfl fun K hK=>?_
    go_simp;(try go_wp2_with fail);refine hK.q ?_ fun hh5=>?_
    ·exact HK3.o
    try simp only[sP]
    refine dN ?_;go_wp2;exact⟨⟨k+1,D',by omega,by go_num,HY.o⟩,by simp[intOf];omega⟩
   refine nH rfl fun K hK=>?_
   ·go_simp;go_at_call 57;refine(HCL.o _ _ HTD.o).mono ?_;rintro e wA ⟨B',d',rfl,hs⟩;have HA:=h_ hs;obtain⟨kA,qA⟩:=HBT.o _ _ _ hs;have lA:=kA.lt;have fA:=kA.frozen;have lA1:tb<wA.heap.size+1:=(by omega);have qA1:∀o,(wA.alloc o).cell? (κ tb 9)=some (.slice D.jA k D.jc):=fun o=>(by rw[World.cell?_alloc_lt _ _ _ lA];exact qA)
    (try go_wp2_with fail);refine hK.q ?_ fun hh1=>?_
    ·exact HBM.o _ _ _ HA.o
    try simp only[sP]
    refine tH 8 ?_ rfl ?_ ?_;all_goals (try (
     intro w hSw;have jl:=hSw.lt;have jf:=hSw.frozen;have j0:=hSw.c 0;go_simp<;>(try with_reducible rfl)))
    try simp only[sP]
    refine rH [4,9] ?_;refine cH rfl (fun K hK=>?_) ?_
    ·go_simp;(try go_wp2_with fail);refine hK.q ?_ fun hh2=>?_
     ·exact HBM.o _ _ _ HA.o
     try simp only[sP]
     refine oH 9 rfl fun K hK=>?_
     go_simp;(try go_wp2_with fail);refine hK.q ?_ fun hh3=>?_
     ·exact(HBM.o _ _ _ HA.o).alloc _
     try simp only[sP]
     refine oH 10 rfl fun K hK=>?_
     have HRW:=h_ (HPJ.o _ _ _ HA.o);refine BI 29 32 1 24 underlying29 HI.o HZ0.o HZ1.o HZ2.o (HRW.o.junk _) (HRD.o _ _ _) (HON.o _ _) ?_;intro A' c' wB hs;obtain⟨k1,k2,k3,D',h4⟩:=HFJ.o _ _ _ _ _ hs;have HK1:=h_ k1;have HK3:=h_ k3;have HY:=h_ h4;have qf:=k2.frozen;have ql:=k2.lt;obtain⟨u9,q9b⟩:∃u,wB.cell? (κ tb 9)=some u:=⟨_,k2.cell 9⟩;(try go_wp2_with fail);refine hK.q ?_ fun hh4=>?_
     ·exact HK1.o
     try simp only[sP]
     refine tH 11 ?_ rfl ?_ (tH 12 ?_ rfl ?_ ?_);all_goals (try (
      intro w hSw;have jl:=hSw.lt;have jf:=hSw.frozen;have j0:=hSw.c 0;try simp only[sP]
      go_simp<;>(try with_reducible rfl)))
     try simp only[sP]
     refine oH 13 rfl fun K hK=>?_
     go_simp;(try go_wp2_with fail);refine hK.q ?_ fun hh5=>?_
     ·exact HK3.o
     try simp only[sP]
     refine dN ?_;go_wp2;exact⟨⟨k+1,D',by omega,by go_num,HY.o⟩,by simp[intOf];omega⟩
    refine nH rfl fun K hK=>?_
    ·go_simp;(try go_wp2_with fail);refine hK.q ?_ fun hh2=>?_
     ·exact(HBM.o _ _ _ HA.o).alloc _
     try simp only[sP]
     refine oH 4 rfl fun K hK=>?_
     go_simp;(try go_wp2_with fail);refine hK.q ?_ fun hh3=>?_
     ·exact(HBM.o _ _ _ HA.o).alloc _
     try simp only[sP]
     refine oH 10 rfl fun K hK=>?_
     have HRW:=h_ (HPJ.o _ _ _ HA.o);refine BI 29 32 1 24 underlying29 HI.o HZ0.o HZ1.o HZ2.o (HRW.o.junk _) (HRD.o _ _ _) (HON.o _ _) ?_;intro A' c' wB hs;obtain⟨k1,k2,k3,D',h4⟩:=HFJ.o _ _ _ _ _ hs;have HK1:=h_ k1;have HK3:=h_ k3;have HY:=h_ h4;have qf:=k2.frozen;have ql:=k2.lt;obtain⟨u9,q9b⟩:∃u,wB.cell? (κ tb 9)=some u:=⟨_,k2.cell 9⟩;(try go_wp2_with fail);refine hK.q ?_ fun hh4=>?_
     ·exact HK1.o
     try simp only[sP]
     refine tH 11 ?_ rfl ?_ (tH 12 ?_ rfl ?_ ?_);all_goals (try (
      intro w hSw;have jl:=hSw.lt;have jf:=hSw.frozen;have j0:=hSw.c 0;try simp only[sP]
      go_simp<;>(try with_reducible rfl)))
     try simp only[sP]
     refine oH 13 rfl fun K hK=>?_
     go_simp;(try go_wp2_with fail);refine hK.q ?_ fun hh5=>?_
     ·exact HK3.o
     try simp only[sP]
     refine dN ?_;go_wp2;exact⟨⟨k+1,D',by omega,by go_num,HY.o⟩,by simp[intOf];omega⟩
  ·obtain rfl:k=n:=by omega
   have hlk:l.take k=l:=by rw[←HNN.o];exact List.take_length
   have HFO:Hid (Calls prog 58 #[.pointer tb] wr (Rets ω X (.tuple #[]) (thH tb s (PTh.new me s l)))):=h_ (by
    have h1:=HR.o;rw[hlk] at h1;have h2:=Cn ω wr X tb s (th0 me l) D (-1) 0 rfl h1 HS.o ⟨Nat.zero_le _,by show l.length≤6;rw[HNN.o];exact hl,HP.o⟩
    have e:PTh.new me s l=({th0 me l with job:=0,tries:=0,conflicts:=0}:PTh).again s:=by
     unfold PTh.new th0;rw[List.take_of_length_le (by rw[HNN.o];exact hl)]
    rw[e];exact h2)
   go_wp2_with (go_at_call 58;refine(HFO.o).mono ?_;rintro e w1 ⟨rfl,hs⟩;have HZ:=h_ hs);go_ret;exact⟨tb,rfl,HXJ.o _ _ HZ.o⟩
section
variable (ω w : World) (F : HP)
theorem Sat.rowFull {ω w:World}{F:HP}{e:TypeId}{size n g:Nat}{xs:List Value}(h:Sat ω w (row e size (.slice (some ⟨g,0,none⟩) n n) n xs*F)):Sat ω w (bk g e xs.toArray*F):=by
 rcases h.cases with⟨h1,_⟩|⟨g',cap,cur,h1,h2,h3,h4,h5,h6,h7⟩
 ·cases h1
 ·injection h1 with e1 e2 e3
  injection e1 with e1
  injection e1 with e1
  subst e1 e3;have e5:cur=xs.toArray:=by
   rw[←h5,←h4,←Array.length_toList,List.take_length]
  rw[←e5];exact h7
theorem Al (n:Nat):madeCells #[Value.int .u64 0] n=(vU (List.replicate n 0)).toArray:=by
 apply Array.ext_getElem?;intro k;rcases Nat.lt_or_ge k n with h|h
 ·simp[madeCells,vU,u64V,h,Nat.mod_one]
 ·simp[madeCells,vU,u64V,h]
theorem Pn (h:Sat ω w F)(n:Nat)(h1:32≤n)(h2:n≤256):
  Calls prog 51 #[n] w fun e w'=>∃g,e=.returned (.pointer (some ⟨g,0,none⟩))∧Sat ω w' (heapH g (List.replicate n 0)*F):=by
 have hm:max (32:Int) (min (n:Int) 256)=(n:Int):=by omega
 have hmk:=fun w=>run_make_row' (P:=prog) 58 22 (.int .u64 0) 8 underlying58 CJ rfl .i64 .i64 n (by omega) (by omega) w
 have HZ:Hid (∀w1,w1=(w.alloc (.cells (madeCells #[υ 0] n) 22)).alloc (.cells #[.slice w.heap.size n n] 168)→Sat ω w1 (heapH (w.heap.size+1) (List.replicate n 0)*F)):=h_ (fun w1 e1=>by
  subst e1;have h3:=(h.new (madeCells #[υ 0] n) 22).new #[.slice w.heap.size n n] 168;rw[World.size_alloc,Al] at h3;rw[Al];unfold heapH;refine Sat.to_ex w.heap.size ?_;rw[List.length_replicate];exact h3.assoc')
 go_enter func51,ntmps51;go_wp2;go_ret;exact⟨_,by simp,HZ.o _ rfl⟩
theorem UO (h:Sat ω w F)(n:Nat)(h1:1≤n)(h2:n≤4):
  Calls prog 54 #[n] w fun e w'=>∃g,e=.returned (.pointer (some ⟨g,0,none⟩))∧Sat ω w' (epH g (List.replicate n 0)*F):=by
 have hm:max (1:Int) (min (n:Int) 4)=(n:Int):=by omega
 have hmk:=fun w=>run_make_row' (P:=prog) 58 22 (.int .u64 0) 8 underlying58 CJ rfl .i64 .i64 n (by omega) (by omega) w
 have HZ:Hid (∀w1,w1=(w.alloc (.cells (madeCells #[υ 0] n) 22)).alloc (.cells #[.slice w.heap.size n n] 176)→Sat ω w1 (epH (w.heap.size+1) (List.replicate n 0)*F)):=h_ (fun w1 e1=>by
  subst e1;have h3:=(h.new (madeCells #[υ 0] n) 22).new #[.slice w.heap.size n n] 176;rw[World.size_alloc,Al] at h3;rw[Al];unfold epH;refine Sat.to_ex w.heap.size ?_;rw[List.length_replicate];exact h3.assoc')
 go_enter func54,ntmps54;go_wp2;go_ret;exact⟨_,by simp,HZ.o _ rfl⟩
theorem Ss (h:Sat ω w F)(n:Nat)(h2:n≤4611686018427387903):
  Calls prog 53 #[υ n] w fun e w'=>∃g,e=.returned (.pointer (some ⟨g,0,none⟩))∧Sat ω w' (clkH g n*F):=by
 have hm:min (n:Int) 4611686018427387903=(n:Int):=by omega
 have HZ:=h_ (h.new #[υ n] 174);go_enter func53,ntmps53;go_wp2;go_ret;exact⟨_,rfl,HZ.o⟩
theorem RP (n:Nat)(hn:32≤n):(vU (List.replicate n 0)).toArray.setIfInBounds 5 (.int .u64 14)=(vU ((List.replicate n 0).set 5 14)).toArray:=GR _ 5 14
theorem Nh (h:Sat ω w F)(n:Nat)(h1:32≤n)(h2:n≤256):
  Calls prog 34 #[n] w fun e w'=>∃g,e=.returned (.slice (some ⟨g,0,none⟩) n n)∧Sat ω w' (bk g 22 (vU ((List.replicate n 0).set 5 14)).toArray*F):=by
 have hm:max (32:Int) (min (n:Int) 256)=(n:Int):=by omega
 have hmk:=fun w=>run_make_row' (P:=prog) 58 22 (.int .u64 0) 8 underlying58 CJ rfl .i64 .i64 n (by omega) (by omega) w
 have HY:Hid (Sat ω (w.alloc (.cells ((madeCells #[υ 0] n).setIfInBounds 5 (.int .u64 14)) 22)) (bk w.heap.size 22 (vU ((List.replicate n 0).set 5 14)).toArray*F)):=h_ (by
  have h3:=h.new ((madeCells #[υ 0] n).setIfInBounds 5 (.int .u64 14)) 22;rw[Al,RP n h1] at h3 ⊢;exact h3)
 have hn5:(5:Int)<(n:Int):=by omega
 have kb:Blk (w.alloc (.cells (madeCells #[υ 0] n) 22)) w.heap.size 22 (madeCells #[υ 0] n):=Blk.new _ _ _;have k5:(w.alloc (.cells (madeCells #[υ 0] n) 22)).cell? (κ w.heap.size 5)=some (.int .u64 0):=by
  rw[kb.cell 5,Al];have h9:=@Db (List.replicate n 0) 5 (by simp;omega)
  rw[show(List.replicate n 0).getD 5 0=0 by rw[gD,List.getElem?_replicate];split<;>rfl] at h9
  simpa using h9
 have kf:=kb.frozen;have kl:=kb.lt;go_enter func34,ntmps34;go_wp2;go_ret;exact⟨_,rfl,HY.o⟩
theorem KQ (n:Nat):(madeCells #[Value.int .u64 0,.bool false,ι 0] (n*3)).toList=vL (List.replicate n PLk.zero):=by
 apply List.ext_getElem?;intro k;have hk:k=k / 3*3+k%3:=by omega
 rcases Nat.lt_or_ge k (n*3) with h|h
 ·have h1:=CL lkV 3 (fun _=>rfl) PLk.zero (List.replicate n PLk.zero) (k / 3) (k%3) (by rw[List.length_replicate];omega) (by omega)
  rw[←hk] at h1;unfold vL;rw[h1];have h2:(List.replicate n PLk.zero).getD (k / 3) PLk.zero=PLk.zero:=by
   rw[gD,List.getElem?_replicate];split<;>rfl
  rw[h2];rcases(by omega:k%3=0∨k%3=1∨k%3=2) with e|e|e<;>simp[madeCells,h,e,lkV,PLk.zero]
 ·rw[List.getElem?_eq_none (by simp[madeCells];omega),List.getElem?_eq_none]
  have:(vL (List.replicate n PLk.zero)).length=n*3:=by
   unfold vL;rw[List.length_flatMap];simp[lkV]
  omega
theorem Rl (h:Sat ω w F)(n wide:Nat)(h1:1≤n)(h2:n≤16)(h3:1≤wide)(h4:wide≤16):
  Calls prog 52 #[n,wide] w fun e w'=>∃g,e=.returned (.pointer (some ⟨g,0,none⟩))∧Sat ω w' (tabH g (List.replicate n PLk.zero) wide*F):=by
 obtain⟨i0,hi0,hz⟩:=Option.map_eq_some_iff.1 Fw;simp only[Prod.mk.injEq] at hz;obtain⟨hz0,hz1,hz2⟩:=hz;have HIF:=h_ hi0;have HZ0:=h_ hz0;have HZ1:=h_ hz1;have hby:i0.bytes*n≤281474976710656:=by rw[hz2];omega
 have H:=h_ h;have HN1:=h_ (fun w=>Cs w n h1 h2)
 have HN2:=h_ (fun w=>Cs w wide h3 h4)
 have HMF:Hid (∀w1 g,Sat ω w1 (row 93 3 (.slice (some ⟨g,0,none⟩) n n) n (madeCells (Value.agg #[υ 0,.bool false,ι 0]).cells (n*3)).toList*F)→Sat ω w1 (bk g 93 (vL (List.replicate n PLk.zero)).toArray*F)):=h_ (fun w1 g h9=>by
  have e:(Value.agg #[υ 0,.bool false,ι 0]).cells=#[Value.int .u64 0,.bool false,.int .i64 0]:=rfl;rw[e,KQ] at h9;exact h9.rowFull)
 have HFI:Hid (∀w1 g,Sat ω w1 (bk g 93 (vL (List.replicate n PLk.zero)).toArray*F)→Sat ω (w1.alloc (.cells #[.slice (some ⟨g,0,none⟩) n n,wide] 172)) (tabH w1.heap.size (List.replicate n PLk.zero) wide*F)):=h_ (fun w1 g h9=>by
  have h10:=h9.new #[.slice (some ⟨g,0,none⟩) n n,wide] 172;unfold tabH;refine Sat.to_ex g ?_;rw[List.length_replicate];exact h10.assoc')
 go_enter func52,ntmps52;go_wp2;refine wp_region_any (by kernel_rfl) ?_
 try (change wpAny _ _ _ _ _ _ _ (World.drew _))
 refine tF 0 ?_ rfl ?_ (tF 3 ?_ rfl ?_ ?_);all_goals (try (
  intro w;go_simp<;>(try with_reducible rfl)))
 refine oF 1 rfl fun K hK=>?_
 go_simp;go_at_call 80;refine(HN1.o _).mono ?_;rintro e w9 ⟨rfl,rfl⟩;refine hK _ _ ?_;refine rF [2,4] ?_;refine AllReady.cons rfl (fun K hK=>?_) ?_
 ·refine Ab rfl _ _ 169 rfl 93 i0 _ 3 underlying169 HIF.o HZ0.o HZ1.o _ _ _ _ n rfl rfl rfl rfl hby (by unfold maxLen;omega) H.o.drew ?_;intro w2 hs;have HM:=h_ (HMF.o _ _ hs)
  refine hK _ _ ?_;refine oF 4 rfl fun K hK=>?_
  go_simp;go_at_call 80;refine(HN2.o _).mono ?_;rintro e w9 ⟨rfl,rfl⟩;refine hK _ _ ?_;refine tF 5 ?_ rfl ?_ ?_;all_goals (try (
   intro w;go_simp<;>(try with_reducible rfl)))
  refine oF 6 rfl fun K hK=>?_
  go_simp;refine hK _ _ ?_;refine tF 7 ?_ rfl ?_ ?_;all_goals (try (
   intro w;go_simp<;>(try with_reducible rfl)))
  refine dF ?_;go_wp2;go_ret;exact⟨_,rfl,HFI.o _ _ HM.o⟩
 refine nF rfl fun K hK=>?_
 ·go_simp;go_at_call 80;refine(HN2.o _).mono ?_;rintro e w9 ⟨rfl,rfl⟩;refine hK _ _ ?_;refine oF 2 rfl fun K hK=>?_
  refine Ab rfl _ _ 169 rfl 93 i0 _ 3 underlying169 HIF.o HZ0.o HZ1.o _ _ _ _ n rfl rfl rfl rfl hby (by unfold maxLen;omega) H.o.drew ?_;intro w2 hs;have HM:=h_ (HMF.o _ _ hs)
  refine hK _ _ ?_;refine tF 5 ?_ rfl ?_ ?_;all_goals (try (
   intro w;go_simp<;>(try with_reducible rfl)))
  refine oF 6 rfl fun K hK=>?_
  go_simp;refine hK _ _ ?_;refine tF 7 ?_ rfl ?_ ?_;all_goals (try (
   intro w;go_simp<;>(try with_reducible rfl)))
  refine dF ?_;go_wp2;go_ret;exact⟨_,rfl,HFI.o _ _ HM.o⟩
end
def shOf (s:PSt):MSh:=⟨s.words,s.stripes,s.wide,s.threads,s.start⟩
def mem0 (s:PSt):PMm:=⟨List.replicate s.words 0,List.replicate s.stripes PLk.zero,s.start,List.replicate s.threads 0,0⟩
def ShpS (N:Nat)(CS:Array Value)(w:World):Prop:=Blk w N 37 CS
theorem Ry (ω w:World)(F:HP)(s:PSt)(hs:s.kept)(h:Sat ω w F):
  Calls prog 33 #[.agg (σ s)] w fun e w'=>∃mb,e=.returned (.pointer (some ⟨mb,0,none⟩))∧Sat ω w' (memH (shOf s) mb (mem0 s)*F):=by
 have g1:=hs.w1;have g2:=hs.w2;have g3:=hs.s1;have g4:=hs.s2;have g5:=hs.d1;have g6:=hs.d2;have g7:=hs.t1;have g8:=hs.t2;have g9:=hs.st;obtain⟨N,hN⟩:∃N,w.heap.size=N:=⟨_,rfl⟩;have HB0:Hid (Sat ω (w.alloc (.cells (σ s) 37)) (bk N 37 (σ s)*F)):=h_ (by rw[←hN];exact h.new _ _)
 have HHE:Hid (Calls prog 50 #[.agg (σ s)] (w.alloc (.cells (σ s) 37)) fun e w'=>e=.returned (.agg (σ s))∧Sat ω w' (bk N 37 (σ s)*F)):=h_ (by
  refine(IP _ (s.words:Int) (s.stripes:Int) (s.wide:Int) (s.threads:Int) (s.start:Int) (s.words:Int) (s.stripes:Int) (s.wide:Int) (s.threads:Int) (s.start:Int) (by omega) (by omega) (by omega) (by omega) (by omega)).mono ?_
  rintro e w2 ⟨rfl,ho⟩;exact⟨rfl,HB0.o.nob ho⟩)
 have HB2:Hid (∀w1,Sat ω w1 (bk N 37 (σ s)*F)→Sat ω (((((w1.setCell (κ N 0) s.words).setCell (κ N 1) s.stripes).setCell (κ N 2) s.wide).setCell (κ N 3) s.threads).setCell (κ N 4) (υ s.start)) (bk N 37 (σ s)*F)):=h_ (fun w1 h1=>(((((h1.put 0 s.words (cs':=(σ s)) rfl).put 1 s.stripes (cs':=(σ s)) rfl).put 2 s.wide (cs':=(σ s)) rfl).put 3 s.threads (cs':=(σ s)) rfl).put 4 (υ s.start) (cs':=(σ s)) rfl))
 have HBK:Hid (∀w1,Sat ω w1 (bk N 37 (σ s)*F)→Blk w1 N 37 (σ s)):=h_ (fun w1 h1=>h1.blk)
 have HH:Hid (∀w1 G,Sat ω w1 (bk N 37 (σ s)*G)→Calls prog 51 #[s.words] w1 fun e w'=>∃g,e=.returned (.pointer (some ⟨g,0,none⟩))∧Sat ω w' (bk N 37 (σ s)*(heapH g (List.replicate s.words 0)*G))∧ShpS N (σ s) w'):=h_ (fun w1 G h1=>by
  refine(Pn ω w1 _ h1 s.words g1 g2).mono ?_;rintro e w2 ⟨g,rfl,h2⟩;exact⟨g,rfl,h2.swap,h2.swap.blk⟩)
 have HT:Hid (∀w1 G,Sat ω w1 (bk N 37 (σ s)*G)→Calls prog 52 #[s.stripes,s.wide] w1 fun e w'=>∃g,e=.returned (.pointer (some ⟨g,0,none⟩))∧Sat ω w' (bk N 37 (σ s)*(tabH g (List.replicate s.stripes PLk.zero) s.wide*G))∧ShpS N (σ s) w'):=h_ (fun w1 G h1=>by
  refine(Rl ω w1 _ h1 s.stripes s.wide g3 g4 g5 g6).mono ?_;rintro e w2 ⟨g,rfl,h2⟩;exact⟨g,rfl,h2.swap,h2.swap.blk⟩)
 have HC:Hid (∀w1 G,Sat ω w1 (bk N 37 (σ s)*G)→Calls prog 53 #[υ s.start] w1 fun e w'=>∃g,e=.returned (.pointer (some ⟨g,0,none⟩))∧Sat ω w' (bk N 37 (σ s)*(clkH g s.start*G))∧ShpS N (σ s) w'):=h_ (fun w1 G h1=>by
  refine(Ss ω w1 _ h1 s.start g9).mono ?_;rintro e w2 ⟨g,rfl,h2⟩;exact⟨g,rfl,h2.swap,h2.swap.blk⟩)
 have HE:Hid (∀w1 G,Sat ω w1 (bk N 37 (σ s)*G)→Calls prog 54 #[s.threads] w1 fun e w'=>∃g,e=.returned (.pointer (some ⟨g,0,none⟩))∧Sat ω w' (bk N 37 (σ s)*(epH g (List.replicate s.threads 0)*G))∧ShpS N (σ s) w'):=h_ (fun w1 G h1=>by
  refine(UO ω w1 _ h1 s.threads g7 g8).mono ?_;rintro e w2 ⟨g,rfl,h2⟩;exact⟨g,rfl,h2.swap,h2.swap.blk⟩)
 have HFI:Hid (∀w1 a1 a2 a3 a4,Sat ω w1 (bk N 37 (σ s)*(epH a4 (List.replicate s.threads 0)*(clkH a3 s.start*(tabH a2 (List.replicate s.stripes PLk.zero) s.wide*(heapH a1 (List.replicate s.words 0)*F)))))→Sat ω (w1.alloc (.cells #[s.words,s.stripes,s.wide,s.threads,υ s.start,.pointer (some ⟨a1,0,none⟩),.pointer (some ⟨a2,0,none⟩),.pointer (some ⟨a3,0,none⟩),.pointer (some ⟨a4,0,none⟩),ι 0] 130)) (memH (shOf s) w1.heap.size (mem0 s)*F)):=h_ (fun w1 a1 a2 a3 a4 h1=>by
  have h2:=h1.right.new #[s.words,s.stripes,s.wide,s.threads,υ s.start,.pointer (some ⟨a1,0,none⟩),.pointer (some ⟨a2,0,none⟩),.pointer (some ⟨a3,0,none⟩),.pointer (some ⟨a4,0,none⟩),ι 0] 130;refine Sat.to_ex (⟨a1,a2,a3,a4⟩:MemA) ?_;refine h2.perm ?_;unfold memHA;show _=(bk w1.heap.size 130 _*(heapH a1 (List.replicate s.words 0)*(tabH a2 (List.replicate s.stripes PLk.zero) s.wide*(clkH a3 s.start*epH a4 (List.replicate s.threads 0)))))*F
  have e:memCells (shOf s) (⟨a1,a2,a3,a4⟩:MemA) (mem0 s).count=#[.int .i64 s.words,.int .i64 s.stripes,.int .i64 s.wide,.int .i64 s.threads,.int .u64 s.start,.pointer a1,.pointer a2,.pointer a3,.pointer a4,.int .i64 0]:=rfl;rw[e];ac_rfl)
 go_enter func33,ntmps33;go_wp2_with (go_at_call 50;refine(HHE.o).mono ?_;rintro e w1 ⟨rfl,hs⟩;have kN:=HBK.o _ hs;have nf:=kN.frozen;have nl:=kN.lt;have n0:=kN.c 0;have n1:=kN.c 1;have n2:=kN.c 2;have n3:=kN.c 3;have n4:=kN.c 4;have HH2:=h_ (HB2.o _ hs));generalize (((((w1.setCell N s.words).setCell (κ N 1) s.stripes).setCell (κ N 2) s.wide).setCell (κ N 3) s.threads).setCell (κ N 4) (υ s.start))=wC at *
 have HD:=h_ (HH2.o.drewN 1);have HS0:ShpS N (σ s) wC.drew:=HBK.o _ HD.o;refine gN (ShpS N (σ s)) HS0 fun hh0=>?_
 refine tH 0 ?_ rfl ?_ (tH 1 ?_ rfl ?_ (tH 2 ?_ rfl ?_ (tH 4 ?_ rfl ?_ (tH 5 ?_ rfl ?_ (tH 6 ?_ rfl ?_ (tH 7 ?_ rfl ?_ (tH 9 ?_ rfl ?_ (tH 10 ?_ rfl ?_ (tH 12 ?_ rfl ?_ (tH 13 ?_ rfl ?_ ?_))))))))));all_goals (try (
  intro w hSw;have jl:=hSw.lt;have jf:=hSw.frozen;have j0:=hSw.c 0;have j1:=hSw.c 1;have j2:=hSw.c 2;have j3:=hSw.c 3;have j4:=hSw.c 4;try simp only[sP]
  go_simp<;>(try with_reducible rfl)))
 try simp only[sP]
 refine oH 3 rfl fun K hK=>?_
 go_simp;go_at_call 51;refine(HH.o _ _ HD.o).mono ?_;rintro e w_K1 ⟨a1,rfl,hs,hz⟩;have K1:=h_ hs;have ZK1:=h_ hz;(try go_wp2_with fail);refine hK.q ?_ fun hh1=>?_
 ·exact ZK1.out
 try simp only[sP]
 refine oH 8 rfl fun K hK=>?_
 go_simp;go_at_call 52;refine(HT.o _ _ K1.out).mono ?_;rintro e w_K2 ⟨a2,rfl,hs,hz⟩;have K2:=h_ hs;have ZK2:=h_ hz;(try go_wp2_with fail);refine hK.q ?_ fun hh2=>?_
 ·exact ZK2.out
 try simp only[sP]
 refine oH 11 rfl fun K hK=>?_
 go_simp;go_at_call 53;refine(HC.o _ _ K2.out).mono ?_;rintro e w_K3 ⟨a3,rfl,hs,hz⟩;have K3:=h_ hs;have ZK3:=h_ hz;(try go_wp2_with fail);refine hK.q ?_ fun hh3=>?_
 ·exact ZK3.out
 try simp only[sP]
 refine oH 14 rfl fun K hK=>?_
 go_simp;go_at_call 54;refine(HE.o _ _ K3.out).mono ?_;rintro e w_K4 ⟨a4,rfl,hs,hz⟩;have K4:=h_ hs;have ZK4:=h_ hz;(try go_wp2_with fail);refine hK.q ?_ fun hh4=>?_
 ·exact ZK4.out
 try simp only[sP]
 refine tH 15 ?_ rfl ?_ ?_;all_goals (try (
  intro w hSw;have jl:=hSw.lt;have jf:=hSw.frozen;have j0:=hSw.c 0;have j1:=hSw.c 1;have j2:=hSw.c 2;have j3:=hSw.c 3;have j4:=hSw.c 4;go_simp<;>(try with_reducible rfl)))
 try simp only[sP]
 refine oH 16 rfl fun K hK=>?_
 go_simp;(try go_wp2_with fail);refine hK.q ?_ fun hh5=>?_
 ·exact(ZK4.out:Blk _ _ _ _).alloc _
 try simp only[sP]
 refine tH 17 ?_ rfl ?_ ?_;all_goals (try (
  intro w hSw;have jl:=hSw.lt;have jf:=hSw.frozen;have j0:=hSw.c 0;have j1:=hSw.c 1;have j2:=hSw.c 2;have j3:=hSw.c 3;have j4:=hSw.c 4;go_simp<;>(try with_reducible rfl)))
 try simp only[sP]
 refine dN ?_;have HZ:=h_ (HFI.o _ _ _ _ _ K4.out);go_wp2;go_ret;exact⟨_,rfl,HZ.o⟩
def thAll (s:PSt):List Nat→List PTh→HP
 |b::bs,t::ts=>thH b s t*thAll s bs ts
 |_,_=>emp
theorem BQ (s:PSt):∀(bs:List Nat) (ts:List PTh),bs.length=ts.length→∀i t,ts[i]?=some t→∃b R,bs[i]?=some b∧thAll s bs ts=thH b s t*R∧∀t',thAll s bs (ts.set i t')=thH b s t'*R
 | [],[],_,i,t,hi=>by simp at hi
 |b::bs,t::ts,h,0,t0,hi=>by
  simp at hi;subst hi;exact⟨b,thAll s bs ts,rfl,rfl,fun t'=>rfl⟩
 |b::bs,t::ts,h,i+1,t0,hi=>by
  obtain⟨c,R,h1,h2,h3⟩:=BQ s bs ts (by simpa using h) i t0 (by simpa using hi)
  refine⟨c,thH b s t*R,by simpa using h1,?_,fun t'=>?_⟩
  ·show thH b s t*thAll s bs ts=_
   rw[h2];ac_rfl
  ·show thH b s t*thAll s bs (ts.set i t')=_
   rw[h3];ac_rfl
theorem EQ (s:PSt)(b:Nat)(t:PTh):∀(bs:List Nat) (ts:List PTh),bs.length=ts.length→thAll s (bs++[b]) (ts++[t])=thAll s bs ts*thH b s t
 | [],[],_=>by
  show thH b s t*emp=emp*thH b s t
  exact Am _ _
 |c::bs,u::ts,h=>by
  show thH c s u*thAll s (bs++[b]) (ts++[t])=_
  rw[EQ s b t bs ts (by simpa using h)]
  show _=(thH c s u*thAll s bs ts)*_
  ac_rfl
structure McD where
 mb:Nat
 tA:Option Addr
 tc:Nat
 bs:List Nat
def mcC (M:PMc)(D:McD):Array Value:=#[M.s.words,M.s.stripes,M.s.wide,M.s.threads,υ M.s.start,M.s.spins,M.s.writes,M.s.fuel,pV D.mb,.slice D.tA M.thr.length D.tc,M.picks,M.last.kind,M.last.at_,υ M.last.old,υ M.last.word,υ M.last.was.ver,.bool M.last.was.held,M.last.was.own,υ M.last.lock.ver,.bool M.last.lock.held,M.last.lock.own,.bool M.did]
def mcX (b:Nat)(M:PMc)(D:McD):HP:=bk b 97 (mcC M D)*(memH (shOf M.s) D.mb M.mem*(fact (D.bs.length=M.thr.length)*(row 102 1 (.slice D.tA M.thr.length D.tc) M.thr.length (D.bs.map pV)*thAll M.s D.bs M.thr)))
def mcH (b:Nat)(M:PMc):HP:=ex fun D=>mcX b M D
theorem DS {ω w:World}{F:HP}{b:Nat}{M:PMc}(h:Sat ω w (mcH b M*F)):∃D,Sat ω w (mcX b M D*F):=h.of_ex
theorem KN {ω w:World}{F:HP}{b:Nat}{M:PMc}{D:McD}(h:Sat ω w (mcX b M D*F)):Sat ω w (mcH b M*F):=Sat.to_ex D h
def mcRow (M:PMc)(D:McD):HP:=row 102 1 (.slice D.tA M.thr.length D.tc) M.thr.length (D.bs.map pV)
theorem Ad {ω w:World}{F:HP}{b:Nat}{M:PMc}{D:McD}(h:Sat ω w (mcX b M D*F)):D.bs.length=M.thr.length∧Sat ω w (bk b 97 (mcC M D)*(memH (shOf M.s) D.mb M.mem*(mcRow M D*(thAll M.s D.bs M.thr*F)))):=by
 unfold mcX at h;have h1:Sat ω w (fact (D.bs.length=M.thr.length)*(bk b 97 (mcC M D)*(memH (shOf M.s) D.mb M.mem*(mcRow M D*(thAll M.s D.bs M.thr*F))))):=h.perm (by unfold mcRow;ac_rfl)
 exact h1.of_fact
theorem CF {ω w:World}{F:HP}{b:Nat}{M:PMc}{D:McD}(hl:D.bs.length=M.thr.length)(h:Sat ω w (bk b 97 (mcC M D)*(memH (shOf M.s) D.mb M.mem*(mcRow M D*(thAll M.s D.bs M.thr*F))))):Sat ω w (mcH b M*F):=by
 refine KN (D:=D) ?_;unfold mcX;exact(h.to_fact hl).perm (by unfold mcRow;ac_rfl)
theorem BR {ω w:World}{F P:HP}{M:PMc}{D:McD}(h:Sat ω w (P*(mcRow M D*F))){i tb:Nat}(hb:D.bs[i]?=some tb):∃g,D.tA=some ⟨g,0,none⟩∧g<w.heap.size∧w.cell? (κ g i)=some (pV tb):=by
 have h1:=h.right;unfold mcRow at h1;exact h1.rowCell (by rw[List.getElem?_map,hb];rfl)
theorem Ev (s:PSt):s.held.kept:=by
 refine⟨?_,?_,?_,?_,?_,?_,?_,?_,?_,?_,?_,?_⟩<;>(simp only[PSt.held];omega)
theorem McFine.kept {M:PMc}(h:McFine M):M.s.kept:=by
 obtain⟨s0,e⟩:=h.set;rw[e];exact Ev s0
theorem ThBase.fit {K:Nat}{t:PTh}(h:ThBase K t):t.fit:=⟨h.job,h.jobs,fun q hq=>⟨(h.prog q hq).code.elim fun _ hc=>hc.len,(h.prog q hq).ok⟩⟩
def MchS (b:Nat)(CS:Array Value)(w:World):Prop:=Blk w b 97 CS
theorem KL {ω w1:World}{G:HP}{b:Nat}{M:PMc}{D:McD}(kind at_ old word wv wo lv lo:Nat)(wh lh ok:Bool)(h1:Sat ω w1 (bk b 97 (mcC M D)*G)):
  Sat ω (((((((((((w1.setCell (κ b 11) kind).setCell (κ b 12) at_).setCell (κ b 13) (υ old)).setCell (κ b 14) (υ word)).setCell (κ b 15) (υ wv)).setCell (κ b 16) (.bool wh)).setCell (κ b 17) wo).setCell (κ b 18) (υ lv)).setCell (κ b 19) (.bool lh)).setCell (κ b 20) lo).setCell (κ b 21) (.bool ok)) (bk b 97 (mcC {M with last:=⟨kind,at_,old,word,⟨wv,wh,wo⟩,⟨lv,lh,lo⟩⟩,did:=ok} D)*G):=by
 obtain⟨s,mem,thr,picks,last,did⟩:=M;exact(((((((((((h1.put 11 kind (cs':=mcC ⟨s,mem,thr,picks,⟨kind,last.at_,last.old,last.word,⟨last.was.ver,last.was.held,last.was.own⟩,⟨last.lock.ver,last.lock.held,last.lock.own⟩⟩,did⟩ D) rfl).put 12 at_ (cs':=mcC ⟨s,mem,thr,picks,⟨kind,at_,last.old,last.word,⟨last.was.ver,last.was.held,last.was.own⟩,⟨last.lock.ver,last.lock.held,last.lock.own⟩⟩,did⟩ D) rfl).put 13 (υ old) (cs':=mcC ⟨s,mem,thr,picks,⟨kind,at_,old,last.word,⟨last.was.ver,last.was.held,last.was.own⟩,⟨last.lock.ver,last.lock.held,last.lock.own⟩⟩,did⟩ D) rfl).put 14 (υ word) (cs':=mcC ⟨s,mem,thr,picks,⟨kind,at_,old,word,⟨last.was.ver,last.was.held,last.was.own⟩,⟨last.lock.ver,last.lock.held,last.lock.own⟩⟩,did⟩ D) rfl).put 15 (υ wv) (cs':=mcC ⟨s,mem,thr,picks,⟨kind,at_,old,word,⟨wv,last.was.held,last.was.own⟩,⟨last.lock.ver,last.lock.held,last.lock.own⟩⟩,did⟩ D) rfl).put 16 (.bool wh) (cs':=mcC ⟨s,mem,thr,picks,⟨kind,at_,old,word,⟨wv,wh,last.was.own⟩,⟨last.lock.ver,last.lock.held,last.lock.own⟩⟩,did⟩ D) rfl).put 17 wo (cs':=mcC ⟨s,mem,thr,picks,⟨kind,at_,old,word,⟨wv,wh,wo⟩,⟨last.lock.ver,last.lock.held,last.lock.own⟩⟩,did⟩ D) rfl).put 18 (υ lv) (cs':=mcC ⟨s,mem,thr,picks,⟨kind,at_,old,word,⟨wv,wh,wo⟩,⟨lv,last.lock.held,last.lock.own⟩⟩,did⟩ D) rfl).put 19 (.bool lh) (cs':=mcC ⟨s,mem,thr,picks,⟨kind,at_,old,word,⟨wv,wh,wo⟩,⟨lv,lh,last.lock.own⟩⟩,did⟩ D) rfl).put 20 lo (cs':=mcC ⟨s,mem,thr,picks,⟨kind,at_,old,word,⟨wv,wh,wo⟩,⟨lv,lh,lo⟩⟩,did⟩ D) rfl).put 21 (.bool ok) (cs':=mcC ⟨s,mem,thr,picks,⟨kind,at_,old,word,⟨wv,wh,wo⟩,⟨lv,lh,lo⟩⟩,ok⟩ D) rfl)
def wakeTo (s:PSt)(i st ve k:Nat)(l:List PTh):List PTh:=l.mapIdx fun j o=>if j<k then(if j=i then o else o.wake s st ve) else o
theorem Hj (s:PSt)(i st ve:Nat)(l:List PTh):wakeTo s i st ve 0 l=l:=by
 unfold wakeTo;apply List.ext_getElem?;intro j;rw[List.getElem?_mapIdx];cases l[j]?<;>simp
theorem CW (s:PSt)(i st ve k:Nat)(l:List PTh):(wakeTo s i st ve k l).length=l.length:=by simp[wakeTo]
theorem MQ (s:PSt)(i st ve k:Nat)(l:List PTh):(wakeTo s i st ve k l)[k]?=l[k]?:=by
 unfold wakeTo;rw[List.getElem?_mapIdx];cases l[k]?<;>simp
theorem DZ (s:PSt)(i st ve k:Nat)(l:List PTh)(o:PTh)(ho:l[k]?=some o):wakeTo s i st ve (k+1) l=(wakeTo s i st ve k l).set k (if k=i then o else o.wake s st ve):=by
 have hk:k<l.length:=(List.getElem?_eq_some_iff.1 ho).1;apply List.ext_getElem?;intro j;rw[List.getElem?_set];by_cases e:k=j
 ·subst e;rw[if_pos rfl,if_pos (by rw[CW];exact hk)]
  unfold wakeTo;rw[List.getElem?_mapIdx,ho];simp
 ·rw[if_neg e];unfold wakeTo;rw[List.getElem?_mapIdx,List.getElem?_mapIdx];cases l[j]? with
  |none=>rfl
  |some p =>
   simp only[Option.map_some];by_cases h2:j<k
   ·rw[if_pos (by omega),if_pos h2]
   ·rw[if_neg (by omega),if_neg h2]
theorem JX (s:PSt)(i st ve:Nat)(l:List PTh):wakeTo s i st ve l.length l=l.mapIdx fun j o=>if j=i then o else o.wake s st ve:=by
 unfold wakeTo;apply List.ext_getElem?;intro j;rw[List.getElem?_mapIdx,List.getElem?_mapIdx];cases h:l[j]? with
 |none=>rfl
 |some p =>
  have hj:j<l.length:=(List.getElem?_eq_some_iff.1 h).1;simp only[Option.map_some];rw[if_pos hj]
end Go.Proofs.YtfodmgaliclhfaaGreatDoor

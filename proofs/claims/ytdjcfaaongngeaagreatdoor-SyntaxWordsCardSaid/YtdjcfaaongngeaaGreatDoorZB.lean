/- A part of the proof: see the last text. -/
import Derived.Test.YtdjcfaaongngeaaGreatDoorZA
set_option linter.all false
set_option maxRecDepth 100000
set_option maxHeartbeats 0
namespace Go.Proofs.YtdjcfaaongngeaaGreatDoor
noncomputable section
variable {b g:Nat}{T:Nat->ah D}{a j:Nat->ah Obj}{W:ak}{v m:av}{t:Rw}{l L:G Rw}{p:G D}{q:G Nat}{k o:Int}{A:dA}
section
open Go Go.RowKit
def Bd.alloc {T:Nat->ah D} {n:Nat} {L:G Rw} {e:Nat->ah Obj} {w:ak} {bp bo i:Nat} {j:Nat->ah Obj} {k o:Int} {ps ts:G Rw} {q u y:av} {l:G Rw} {aB:ak} (h:Bd T n L e w bp bo i j k o ps ts q u y l aB) (A:Obj):Bd T n L e w bp bo i j k o ps ts q u y l (aB.alloc A):=⟨h.m.alloc A,h.r,h.eq,h.kr,h.pk⟩
def aOu {e u:Int} {t j:G Nat} (w:k=3):word [.int .i64 k,.str t,.R ([.int .i64 e,.str j,.R l,.int .i64 u]::L),.int .i64 o]=if e=1 then j else[]:=by
 subst w;unfold word
 by_cases h:e=1
 ·rw[bK h];exact bK ⟨rfl,Nat.succ_pos _,h⟩
 ·rw[bB h];exact bB fun q=>h q.2.2
def awg {cap:Nat} (q:dR O l fZ) (h:DR a (.R l) (.slice (some ⟨g,b,none⟩) l.length cap)) (hc:l.length<=cap) (j:Nat) (u:j<=l.length):∃A,(if cap=j then some (⟨g,b,none⟩:Addr) else some ⟨g,b+j*4,none⟩)=A/\DR a (.R (l.drop j)) (.slice A (l.length-j) (cap-j)):=by
 have w:∀r∈l,r.length=4:=fun r U=>by
  obtain⟨i,J,rfl⟩:=aw1 U;obtain⟨_,_,_,_,e,_⟩:=aT (q.get (gM J));rw[e];rfl
 by_cases e:cap=j
 ·refine⟨_,rfl,?_⟩
  have y:l.length-j=0:=I;have E:cap-j=0:=I;rw[y,E];exact aDi (yQ I)
 ·refine⟨_,rfl,?_⟩
  rw[bB e];exact aDh w h j u rfl
def asx {ks:G Kd} (h:dR O l ks):∀j,dR O (l.drop j) ks:=fun j=>dR.of fun r U=>by
 obtain⟨i,J,rfl⟩:=aw1 (AY U);exact h.get (gM J)
def aFo (h:dR O l [.str]) (hn:q.length<=gB):dR O (l++[[.str q]]) [.str]:=dR.of fun r U=>by
 rcases qV.1 U with e|e
 ·exact h.mem r e
 ·rw[yR.1 e];exact ay (mo hn) aX
def aGQ {j:Type} {s:dV Fa j} {enc:j->DA} {any:DA->Prop} {post:G D} {l:DA} (Z:mU p) (h:bG s enc any p l post):mU post:=by
 rcases Z with rfl|⟨f,hf,rfl⟩
 ·rcases h.vv with⟨x,_,e,_⟩|⟨f,_,hf,e,_⟩
  ·exact .inl e
  ·exact .inr ⟨f,hf,e⟩
 ·exact .inr ⟨f,hf,(h.oq hf).1⟩
def aGJ {r:Rw} {x:Nv} (j:aJ O r fZ) (h:kH a r x.list):x.o=no r:=by
 obtain⟨t,c,e,_⟩:=Pf (T:=8) rfl j h;rw[e];rfl
def au2 (e4:bH T) (s:dA) (w:ak) (r':s.size<=9223372036854775807) (u2:ug T (dM w)):Calls Tryz.prog 6 #[.string s] w (Vh s w):=by
 cases Z:parse (bytes s) with
 |error e=>
  obtain⟨k,o⟩:=e;have l1:=atE Z;have E2:(k==0)=false:=by simpa using l1
  have s5:(k !=0)=true:=by simpa using l1
  have HP:=Q Z;clear Z;go_enter Tryz.func6,Tryz.ntmps6;go_wp2_with (refine(avg s _ r').mono ?_;rintro e W1 ⟨m1,hc⟩;rw[HP.out] at hc;obtain rfl:=hc;have P':=qb.new m1 rfl;have h1:=Q P';clear m1 P')
  obtain⟨aB,hV⟩:∃aB,W1.alloc (.cells #[.int .i64 k,.int .i64 (o:Nat)] 28)=aB:=⟨_,rfl⟩;rw[hV];have r4:aB.cell? ⟨W1.heap.size,0,none⟩=some (.int .i64 k):=YJ;have s4:aB.cell? ⟨W1.heap.size,1,none⟩=some (.int .i64 (o:Nat)):=YJ;have P':qb w aB:=by rw[<-hV];exact h1.out.alloc _
  obtain⟨v2,w2,i1,t4,z0,z1,z2,z3⟩:=P'.cells;have F2:=Q P';have a0:=h1.out.size;have M2:¬W1.heap.size=w.heap.size:=I;have P2:¬w.heap.size=W1.heap.size:=I;have T2:¬W1.heap.size=w.heap.size+1:=I;have W2:¬w.heap.size+1=W1.heap.size:=I;clear P' hV a0;go_region;go_wp2_with fail;obtain⟨_,p0,p1,p2,p3⟩:=F2.out.put (.slice none 0 0) (.slice none 0 0) (.int .i64 k) (.int .i64 (o:Nat));refine ni (v:=.tuple #[.agg #[.slice none 0 0,.slice none 0 0],.agg #[.int .i64 k,.int .i64 (o:Nat)]]) ?_ rfl (TG (ps:=[]) (ts:=[]) F2.out ⟨rfl,rfl⟩ aql);unfold rT at p0 p1 p2 p3;simp[results,Tryz.results6,go_sem,p0,p1,p2,p3]
 |ok l=>
  obtain⟨o1,X2⟩:=ahi Z;have r1:(nR l).length<=65536:=afS;have L0:=SF (T:=8) (.inr rfl) o1 I;have s1:=arV o1;have a3:bM (nR l)<=65536:=by rw[RH];exact X2
  have M0:=aMf e4 _ (auV e4 (bM (nR l)) I).2;obtain⟨L,hL⟩:∃L,nR l=L:=⟨_,rfl⟩;rw[hL] at r1 L0 a3 M0 s1;obtain⟨n,hn⟩:∃n,bM L=n:=⟨_,rfl⟩;rw[hn] at M0 a3;have HP:=Q Z;have HL:=Q hL;have HN:=Q hn;have u4:=Q L0;have v4:=Q s1;have b3:=Q M0;have w4:=Q u2;clear Z hL hn L0 M0 u2 o1 X2 s1;go_enter Tryz.func6,Tryz.ntmps6;go_wp2_with (refine(avg s _ r').mono ?_;rintro e W1 ⟨m1,hc⟩;rw[HP.out] at hc;obtain⟨v,F,rfl,d3,x4⟩:=hc;have P':=qb.new m1 rfl;have f':=apr (fz:=fun g=>if g=w.heap.size\/g=w.heap.size+1 then none else W1.heap[g]?) (fun b o f4=>bB (by have:=x4 b o f4;simp at this;omega)) d3;rw[HL.out] at f';obtain⟨arr,d,a,cap,rfl,rQ,e3,s'⟩:=Pd u4.out f';have h1:=Q P';have y4:=Q e3;have z4:=Q s';clear m1 P' d3 x4 f' e3 s')
  have f3:=Q (oN.start (n:=n) (L:=L) w4.out h1.out 28 57 25).rfI;have t5:L.length<=65536:=r1;clear r1;go_loopg [8,9] L.length (fun u5 v5 v wr=>∃(i:Nat) (P0:Nat->ah Obj) (k o:Int) (ps ts:G Rw) (A4 D4:av) (b':G Rw),u5=L.length-i/\i<=L.length/\v=.int .i64 (i:Nat)/\Hid (Bd T n L (fun g=>if g=w.heap.size\/g=w.heap.size+1 then none else W1.heap[g]?) w (W1.heap.size+1) (W1.heap.size+1+1) i P0 k o ps ts A4 D4 v5 b' wr))
  case atStart=>exact⟨0,_,_,_,_,_,_,_,_,rfl,gK _,rfl,f3⟩
  case round=>
   obtain⟨i,P0,k,o,ps,ts,A4,D4,b',l1,L0,rfl,HW⟩:=hrel;rename ak=>x2
   have Bc:=Q l1;clear l1 f3;rcases Iu i L.length with d'|W5
   ·have E4:(i:Int)<(L.length:Int):=by omega
    have X5:(0:Int)<=(i:Int):=I;have a6:IntKind.i64.wrap ((i:Int)+1)=(i:Int)+1:=vS I I
    by_cases g':k=0
    ·subst g'
     obtain rfl:o=0:=(HW.out.r.KF rfl).1;obtain⟨_,_,g3,h3⟩:=HW.out.r.KF rfl;obtain⟨g,F4,i3⟩:∃g,a=some ⟨g,d,none⟩/\II x2 g (d+i*4) (sG arr (d+i*4)):=by
      rcases y4.out with e|⟨g,e,h⟩
      ·rw[e] at d';simp at d'
      ·exact⟨g,e,h i d' x2 (HW.out.m.x.trans HW.out.m.s.ext)⟩
     subst F4;obtain⟨w5,j3⟩:∃y,sG arr (d+i*4)=y:=⟨_,rfl⟩;have M':=z4.out i d';have b0:=u4.out.get (gM d');have u1:L[i]?=some L[i]:=gM d';have v1:aI L[i]<=n:=by rw[<-HN.out];exact qj (zG d')
     have T0:=v4.out L[i] (zG d');obtain⟨ri,k3⟩:∃r,L[i]=r:=⟨_,rfl⟩;rw[j3] at i3 M';rw[k3] at M' b0 v1 u1 T0;have l3:=aGJ b0 M';obtain⟨t,c,e0,-,m3,w1,x1,s'⟩:=Pf (T:=8) rfl b0 M';obtain⟨yk,ys,y2,m6,yc,n6⟩:=w5;dsimp only at m3 s' e0 l3;subst m3 l3;obtain⟨A1,u,x5,g4,n3,W0,D1,E1⟩:=Pd x1 s';obtain⟨rfl,rfl⟩:y2=x5/\yc=g4:=by cases n3;exact⟨rfl,rfl⟩
     obtain⟨c0,c1,c2,c3⟩:=i3;have IE:Hid (L[i]?=some ri/\aI ri<=n/\aJ O ri fZ/\kH _ ri _):=⟨u1,v1,b0,M'⟩;have HV:=Q (HW.out.alloc (.cells #[.int .i64 yk,.string ys,.slice y2 c.length yc,.int .i64 (no ri)] 59));have F1:=Q (fun(e:Int) (L1:e≠0) (u2:m_ n (ps,ts) ri=.error (e,no ri)) V' hf r'=>HV.out.bad (V':=V') IE.out.1 L1 u2 hf r');have IG:Hid (nc ri=c/\(c=[]\/yk=3)/\ri=[.int .i64 yk,.str t,.R c,.int .i64 (no ri)]):=by
      refine⟨?_,?_,e0⟩
      ·rw[e0];rfl
      ·rw[e0] at T0;exact T0
     have e':Hid (c.length<=gB/\dR O c fZ/\DR _ (.R c) (.slice y2 c.length yc)):=⟨w1,x1,s'⟩;have o3:=Q D1;have r3:=Q E1;have qC:=Q d';have s3:Hid (ps.length<=8/\ts.length<=6):=⟨g3,h3⟩;obtain⟨va,X0,rfl⟩:=HV.out.m.s.gp.R;obtain⟨vb,a1,rfl⟩:=HV.out.m.s.gt.R;obtain⟨b6,c6,_⟩:=HV.out.m.s.oc;have d6:c.length<=1000000:=by unfold gB at w1;omega
     clear j3 M' b0 v1 u1 k3 e0 d' T0 w1 x1 s' n3 D1 E1 g3 h3;have h4:Hid (0<c.length->∃j t' f0,y2=some ⟨j,u,none⟩/\(∀b∈f0,b<256)/\(∀W,dX (fun g=>if g=w.heap.size\/g=w.heap.size+1 then none else W1.heap[g]?) (dM W)->W.cell? ⟨j,u,none⟩=some (.int .i64 t')/\W.cell? ⟨j,u+1,none⟩=some (.string (bC f0)))/\word ri=if t'=1 then f0 else[]):=Q (fun P=>by
      rcases o3.out with e|⟨j,e,h⟩
      ·rw[e] at P;cases P
      ·obtain⟨f0,o6,j1,⟨e1,f4⟩,-⟩:=Pf (T:=8) rfl (e'.out.2.1.get (gM P)) (r3.out 0 P)
       rw[UK,qy] at j1 e1;refine⟨j,(sG A1 u).k,f0,e,f4,fun W i4=>?_,?_⟩
       ·have:=h 0 P W i4
        rw[UK,qy] at this;exact⟨this.c0,e1▸this.c1⟩
       ·have y5:yk=3:=by
         rcases IG.out.2.1 with e|e
         ·rw[e] at P;cases P
         ·exact e
        rw[IG.out.2.2]
        match c,P,j1 with
        |y::c',P,j1=>
         have j1:y=_:=j1;rw[j1];exact aOu y5)
     by_cases hwt:word ri=xI
     ·have P:0<c.length:=by
       have:=(aiH (r:=ri) (by rw[hwt];decide)).2.1
       rwa[IG.out.1] at this
      obtain⟨j,t',f0,rfl,Al,Fz,n'⟩:=h4.out P;obtain⟨L4,M4⟩:=Fz _ (HV.out.m.x.trans HV.out.m.s.ext);have M1:(0:Int)<(c.length:Int):=I;have yF:=PN Al jK aix;obtain rfl:t'=1:=by
       by_cases e:t'=1
       ·exact e
       ·rw[bB e,hwt] at n';cases n'
      rw[bK rfl] at n';subst n';have L1:=yF.2 hwt;have u3:=Q hwt;have P1:=fun(P4:6<=ts.length)=>Q (F1.out 4 jK (aNW u3.out P4));clear hwt yF Al Fz
      by_cases P4:ts.length=6
      ·have T4:(ts.length:Int)=6:=by omega
       have U_:=P1 I;clear P1
       by_cases k1:1<c.length
       ·have h':(1:Int)<(c.length:Int):=by omega
        exact afT
       ·have h':¬(1:Int)<(c.length:Int):=by omega
        exact afT
      ·have T4:((ts.length:Int)==6)=false:=by rw[zH];omega
       have e6:¬(ts.length:Int)=6:=I;have hle:(1:Int)<=(c.length:Int):=I;clear P1;obtain⟨A,g0,h0⟩:=awg e'.out.2.1 e'.out.2.2 W0 1 I;have g0:(if yc=1 then some (⟨j,u,none⟩:Addr) else some ⟨j,u+4,none⟩)=A:=g0
       have i0:dR O (c.drop 1) fZ:=asx e'.out.2.1 1;have j0:∀y∈c.drop 1,aI y<=n:=fun y hy=>by
        exact aro
       have i':Hid (DR _ (.R (c.drop 1)) (.slice A (c.length-1) (yc-1))/\dR O (c.drop 1) fZ/\(∀y∈c.drop 1,aI y<=n)/\(c.drop 1).length<=gB):=⟨h0,i0,j0,by rw[sK];have:=e'.out.1;omega⟩
       have W4:ts.length<6:=by have:=s3.out.2;omega
       have j':=asN;obtain⟨T1,j',u'⟩:=lq.1 j';simp only[eG] at u';obtain⟨k0,l0,m0⟩:=u';have X1:=Q j';have a2:=Q k0;have b2:=Q l0;have d2:=Q m0;clear h0 i0 j0 j' k0 l0 m0;rcases Iu 1 c.length with k1|k1
       all_goals
        first
         |have h':(1:Int)<(c.length:Int):=by omega
         |have h':¬(1:Int)<(c.length:Int):=by omega
        clear k1;go_wp2_with (refine(FE (W1.heap.size+1) _ _ _ HW.out.m.s.p).mono ?_;rintro r E ⟨rfl,rfl⟩);obtain⟨q0,q1,_⟩:=HV.out.m.drew.s.oc;go_region_law (first
         |(refine aaG rfl 22 #[.pointer (some ⟨W1.heap.size+1,0,none⟩),.agg #[.int .i64 yk,.string ys,.slice (some ⟨j,u,none⟩) c.length yc,.int .i64 (no ri)],.slice A (c.length-1) (yc-1),.bool false] aS ?_
           refine(au6 (x:=⟨yk,ys,some ⟨j,u,none⟩,c.length,yc,no ri⟩) b3.out IE.out.2.2.1 i'.out.2.1 i'.out.2.2.2 i'.out.2.2.1 (.inl rfl) HV.out.m.drew.s.p HV.out.m.drew.s.ext HV.out.m.drew.s.fp HV.out.m.drew.s.kE (IE.out.2.2.2.mono HV.out.m.x) (i'.out.1.mono HV.out.m.x)).mono ?_;rintro e E' ⟨fs,v',w',e2,k',o',rfl,p',f',o0,r0,t0,q',u0⟩;refine⟨_,rfl,?_⟩;have a':=Q (HV.out.m.drew.gZ q' u0 o0 r0 t0);have f2:=Q p';have g2:=Q f';have FZ:Hid (w.heap.size+1+1<=E'.heap.size):=Q a'.out.rc.size;obtain⟨X4,a5,_⟩:=a'.out.s.oc;obtain⟨j4,k4,_⟩:=(a'.out.alloc (.cells #[.slice v' fs.length w'] 62)).s.oc;obtain⟨l4,x',_⟩:=a'.out.s.gt.own;have v0:=Q x';clear p' f' o0 r0 t0 q' u0 x')
         |(refine D9 _ rfl (.tmp 140) (.tmp 146) 23 rfl (w.heap.size+1+1) 62 T1 _ 1 24 Tryz.underlying23 X1.out a2.out b2.out d2.out rfl I (.slice vb ts.length a1) ts.length l4 Fu (v0.out.alloc _) ⟨E'.heap.size,0,none⟩ 1 1 [.slice v' fs.length w'] Fu rfl (xS (cs:=#[.slice v' fs.length w']) (t:=62) (fr:=(0,0)) (lu E' _)) Ah I wB I RS ?_
           intro m4 n4 z5 E0;obtain⟨v2,w2,i1⟩:=(a'.out.alloc _).s.BK E0.grown (fun e=>(a'.out.s.nt _ e).2 rfl);have z0:=i1 1;have o4:=Q E0;clear E0))
        all_goals
         have h2:Hid (Bd T n L (fun g=>if g=w.heap.size\/g=w.heap.size+1 then none else W1.heap[g]?) w (W1.heap.size+1) (W1.heap.size+1+1) (i+1) e2 k' o' ps (ts++[[.R fs]]) (.slice va ps.length X0) (.slice (some ⟨m4,0,none⟩) (ts.length+1) n4) u8 b' _):=Q ⟨(a'.out.alloc _).task (r:=[.R fs]) ⟨_,_,rfl,g2.out,rfl⟩ rfl (v0.out.alloc _) o4.out,HW.out.r.task IE.out.1 (aiA u3.out) (by rw[IG.out.1];exact aMZ W4 f2.out),HW.out.eq,HW.out.kr,HW.out.pk⟩
         go_wp2_with fail;go_roundg (L.length-(i+1))
         case measure=>have:=Bc.out;have:=qC.out;omega
         case rel=>exact⟨i+1,_,_,_,_,_,_,_,_,rfl,by have:=qC.out;omega,by simp,h2⟩
     ·by_cases hwp:word ri=vI/\ts.length=0/\2<=c.length
      ·obtain⟨Z,A2,D2⟩:=hwp
       obtain rfl:ts=[]:=qx A2;have P:0<c.length:=I;obtain⟨j,t',f0,rfl,Al,Fz,n'⟩:=h4.out P;obtain⟨L4,M4⟩:=Fz _ (HV.out.m.x.trans HV.out.m.s.ext);have M1:(0:Int)<(c.length:Int):=I;have h':(1:Int)<(c.length:Int):=I;have f6:(2:Int)<=(c.length:Int):=I;have xD:=PN Al jK ahk;obtain rfl:t'=1:=by
        by_cases e:t'=1
        ·exact e
        ·rw[bB e,Z] at n';cases n'
       rw[bK rfl] at n';subst n';have L1:=xD.2 Z;have v3:=Q Z;clear hwt xD Al Fz Z
       by_cases p6:ps.length=8
       ·have b5:(ps.length:Int)=8:=by omega
        have U_:=Q (F1.out 4 jK (aNV v3.out rfl (by rw[IG.out.1];exact D2) I))
        exact afT
       ·have b5:((ps.length:Int)==8)=false:=by rw[zH];omega
        have g6:¬(ps.length:Int)=8:=I;have h6:IntKind.i64.wrap ((c.length:Int)-2)=(c.length:Int)-2:=vS I I;obtain⟨A,g0,h0⟩:=awg e'.out.2.1 e'.out.2.2 W0 2 I;have g0:(if yc=2 then some (⟨j,u,none⟩:Addr) else some ⟨j,u+8,none⟩)=A:=g0
        have i0:dR O (c.drop 2) fZ:=asx e'.out.2.1 2;have j0:∀y∈c.drop 2,aI y<=n:=fun y hy=>by
         exact aro
        have i':Hid (DR _ (.R (c.drop 2)) (.slice A (c.length-2) (yc-2))/\dR O (c.drop 2) fZ/\(∀y∈c.drop 2,aI y<=n)/\(c.drop 2).length<=gB):=⟨h0,i0,j0,by rw[sK];have:=e'.out.1;omega⟩
        have c5:ps.length<8:=by have:=s3.out.1;omega
        obtain⟨y1,i2⟩:∃y,sG A1 (u+1*4)=y:=⟨_,rfl⟩;have w0:=e'.out.2.1.get (gM (show 1<c.length by omega))
        have j2:=r3.out 1 I;rw[i2] at j2;have w3:Hid (∀W,dX (fun g=>if g=w.heap.size\/g=w.heap.size+1 then none else W1.heap[g]?) (dM W)->II W j (u+4) y1):=Q (fun W i4=>by
         rcases o3.out with e|⟨q6,e,h⟩
         ·rw[e] at P;cases P
         ·cases e
          have:=h 1 I W i4
          rwa[i2] at this)
        obtain⟨d5,e5,f5,g5,h5,i5⟩:=y1;have j5:=Q w0;have k5:=Q j2;have j':=asM;obtain⟨T1,j',u'⟩:=lq.1 j';simp only[eG] at u';obtain⟨k0,l0,m0⟩:=u';have X1:=Q j';have a2:=Q k0;have b2:=Q l0;have d2:=Q m0;have b1:=aFE;obtain⟨l5,b1,k2⟩:=lq.1 b1;simp only[eG] at k2;obtain⟨x3,p',y3⟩:=k2;have m5:=Q b1;have n5:=Q x3;have o5:=Q p';have p5:=Q y3;have A3:=HW.out.m.s.yH;have D3:=Q A3;obtain⟨s0,A5,D5,E5⟩:=w3.out _ (HV.out.m.x.trans HV.out.m.s.ext);clear h0 i0 j0 j' k0 l0 m0 b1 x3 p' y3 A3 w0 j2 i2;have E3:Hid (b'.length=ps.length):=Q (aGD HW.out.eq);rcases Iu 62 c.length with l2|l2
        case' inl=>
         have q5:(60:Int)<(c.length:Int)-2:=I;have F3:=Q (fun V' hf r'=>(HV.out.m.pY (W':=V') (k':=4) (o':=no ri) hf r'));have y':=lu x2 (.cells #[.int .i64 yk,.string ys,.slice (some ⟨j,u,none⟩) c.length yc,.int .i64 (no ri)] 59);have x0:=Q y';clear y';go_wp2_with (first
          |(refine(FE (W1.heap.size+1) _ _ _ HW.out.m.s.p).mono ?_;rintro r E ⟨rfl,rfl⟩)
          |(refine(Pp (W1.heap.size+1) 0 0 4 ⟨yk,ys,_,c.length,yc,no ri⟩ _ HV.out.m.s.p).mono ?_;rintro r F' ⟨rfl,hf,r'⟩;have T':=Q (F3.out F' hf r');have f1:Hid (F'.heap[E.heap.size]?=some (.cells #[.int .i64 yk,.string ys,.slice (some ⟨j,u,none⟩) c.length yc,.int .i64 (no ri)] 59 (0,0))/\E.heap.size<F'.heap.size):=Q ⟨(r'.block E.heap.size bS (by have:=D3.out;omega)).trans x0.out,by have:=r'.size;simp at this;omega⟩;obtain⟨r6,s6,t6,u6⟩:=w3.out _ (T'.out.x.trans T'.out.s.ext);clear hf r'))
         obtain⟨z',A',l',m2⟩:∃z' A':Int,Hid (qc T (fun g=>if g=w.heap.size\/g=w.heap.size+1 then none else W1.heap[g]?) w (W1.heap.size+1) (W1.heap.size+1+1) P0 z' A' ps [] (.slice va ps.length X0) (.slice vb ([]:G Rw).length a1) u8 b' F')/\Hid ((z'=0/\A'=0/\c.length<=62)\/(z'=4/\A'=no ri/\62<c.length)):=⟨4,no ri,T',Q (.inr ⟨rfl,rfl,l2⟩)⟩
         clear T' x0 F3
        case' inr=>
         have q5:¬(60:Int)<(c.length:Int)-2:=I;have y':=lu x2 (.cells #[.int .i64 yk,.string ys,.slice (some ⟨j,u,none⟩) c.length yc,.int .i64 (no ri)] 59);have x0:=Q y';clear y';go_wp2_with (refine(FE (W1.heap.size+1) _ _ _ HW.out.m.s.p).mono ?_;rintro r E ⟨rfl,rfl⟩);obtain⟨F',A0⟩:∃F',E.alloc (.cells #[.int .i64 yk,.string ys,.slice (some ⟨j,u,none⟩) c.length yc,.int .i64 (no ri)] 59)=F':=⟨_,rfl⟩;rw[A0];have f1:Hid (F'.heap[E.heap.size]?=some (.cells #[.int .i64 yk,.string ys,.slice (some ⟨j,u,none⟩) c.length yc,.int .i64 (no ri)] 59 (0,0))/\E.heap.size<F'.heap.size):=Q ⟨by rw[<-A0];exact x0.out,by rw[<-A0];simp⟩
         obtain⟨z',A',l',m2⟩:∃z' A':Int,Hid (qc T (fun g=>if g=w.heap.size\/g=w.heap.size+1 then none else W1.heap[g]?) w (W1.heap.size+1) (W1.heap.size+1+1) P0 z' A' ps [] (.slice va ps.length X0) (.slice vb ([]:G Rw).length a1) u8 b' F')/\Hid ((z'=0/\A'=0/\c.length<=62)\/(z'=4/\A'=no ri/\62<c.length)):=⟨0,0,Q (A0▸HV.out.m),Q (.inl ⟨rfl,rfl,l2⟩)⟩
         clear A0 x0
        all_goals
         clear s0 A5 D5 E5;have M3:mU [.int .i64 z',.int .i64 A']:=by
          rcases m2.out with⟨rfl,rfl,_⟩|⟨rfl,rfl,_⟩
          ·exact .inl rfl
          ·exact .inr ⟨(4,no ri),(by decide:(4:Int)≠0),rfl⟩
         refine(aDc (k:=z') (o:=A') (x:=⟨d5,e5,f5,g5,h5,i5⟩) e4 j5.out M3 l'.out.s.p l'.out.s.ext l'.out.s.fp l'.out.s.kE (k5.out.mono l'.out.x) l'.out.g (fun e=>(l'.out.ng _ e).1 rfl) HW.out.kr (by have:=E3.out;unfold gB;omega)).mono ?_
         rintro e E' ⟨nm,v6,w6,rfl,P3,T3,W3,q',X'⟩;have a':=Q (l'.out.pY q' X');have X3:=Q W3;have F0:Hid ((∀y∈nm,y<256)/\nm.length<=gB):=⟨P3,T3⟩;have n2:Hid (E'.heap[E.heap.size]?=some (.cells #[.int .i64 yk,.string ys,.slice (some ⟨j,u,none⟩) c.length yc,.int .i64 (no ri)] 59 (0,0))/\E.heap.size<E'.heap.size):=Q ⟨(X'.block E.heap.size f1.out.2 (by have:=D3.out;omega)).trans f1.out.1,by have:=X'.size;have:=f1.out.2;omega⟩
         obtain⟨r5,g1,_⟩:=a'.out.g.own;have o2:=Q g1;have p4:Hid (w.heap.size+1+1<=E'.heap.size):=Q a'.out.rc.size;have i6:b'.length<=100:=by have:=E3.out;omega
         clear P3 T3 W3 q' X' g1;go_wp2_with (at_builtin;refine FL _ rfl _ _ 36 rfl (w.heap.size+1+1) 9 l5 _ 1 16 abl m5.out n5.out o5.out p5.out rfl I u8 b'.length r5 rfl (o2.out.alloc _) ⟨E'.heap.size,0,none⟩ 1 1 [.string (bC nm)] rfl rfl (xS (cs:=#[.string (bC nm)]) (t:=9) (fr:=(0,0)) (lu E' _)) Ah I wB I (by have:=p4.out;simp;omega) ?_)
         intro F5 L5 L' r2;have m':=Q ((a'.out.alloc _).name F0.out.1 (o2.out.alloc _) r2);have D0:L'.heap[E.heap.size]?=some (.cells #[.int .i64 yk,.string ys,.slice (some ⟨j,u,none⟩) c.length yc,.int .i64 (no ri)] 59 (0,0)):=(r2.grown.block E.heap.size (by have:=n2.out.2;simp;omega) (fun e=>by have:=(HW.out.m.g.lt e.symm).2;omega)).trans ((jV E' _ _ n2.out.2).trans n2.out.1)
         have M5:Hid (w.heap.size+1+1<=L'.heap.size):=Q m'.out.rc.size;have x6:L'.cell? ⟨E.heap.size,0,none⟩=some (.int .i64 yk):=by rw[gX L' _ 0 _ _ _ D0];rfl
         have y6:L'.cell? ⟨E.heap.size,1,none⟩=some (.string ys):=by rw[gX L' _ 1 _ _ _ D0];rfl
         have z6:L'.cell? ⟨E.heap.size,2,none⟩=some (.slice (some ⟨j,u,none⟩) c.length yc):=by rw[gX L' _ 2 _ _ _ D0];rfl
         have A6:L'.cell? ⟨E.heap.size,3,none⟩=some (.int .i64 (no ri)):=by rw[gX L' _ 3 _ _ _ D0];rfl
         obtain⟨q0,q1,_⟩:=m'.out.s.oc;clear r2 D0;go_wp2_with fail;go_region_law (first
          |(refine aaG rfl 22 #[.pointer (some ⟨W1.heap.size+1,0,none⟩),.agg #[.int .i64 yk,.string ys,.slice (some ⟨j,u,none⟩) c.length yc,.int .i64 (no ri)],.slice A (c.length-2) (yc-2),.bool true] aS ?_
            refine(au6 (x:=⟨yk,ys,some ⟨j,u,none⟩,c.length,yc,no ri⟩) b3.out IE.out.2.2.1 i'.out.2.1 i'.out.2.2.2 i'.out.2.2.1 (aGQ M3 X3.out) m'.out.drew.s.p m'.out.drew.s.ext m'.out.drew.s.fp m'.out.drew.s.kE (IE.out.2.2.2.mono m'.out.x) (i'.out.1.mono m'.out.x)).mono ?_;rintro e q4 ⟨fs,v',w',e2,k',o',rfl,p',f',o0,r0,t0,q',u0⟩;refine⟨_,rfl,?_⟩;have D':=Q (m'.out.drew.gZ q' u0 o0 r0 t0);have f2:=Q p';have g2:=Q f';have FZ:Hid (w.heap.size+1+1<=q4.heap.size):=Q D'.out.rc.size;obtain⟨X4,a5,_⟩:=D'.out.s.oc;obtain⟨j4,k4,_⟩:=(D'.out.alloc (.cells #[.string (bC nm),.slice v' fs.length w'] 65)).s.oc;obtain⟨l4,x',_⟩:=D'.out.s.gp.own;have v0:=Q x';clear p' f' o0 r0 t0 q' u0 x')
          |(refine D9 _ rfl (.tmp 126) (.tmp 134) 22 rfl (w.heap.size+1+1) 65 T1 _ 2 40 Tryz.underlying22 X1.out a2.out b2.out d2.out rfl I (.slice va ps.length X0) ps.length l4 Fu (v0.out.alloc _) ⟨q4.heap.size,0,none⟩ 1 1 [.string (bC nm),.slice v' fs.length w'] Fu rfl (xS (cs:=#[.string (bC nm),.slice v' fs.length w']) (t:=65) (fr:=(0,0)) (lu q4 _)) Ah I wB I RS ?_
            intro m4 n4 z5 E0;obtain⟨v2,w2,i1⟩:=(D'.out.alloc _).s.BK E0.grown (fun e=>(D'.out.s.np _ e).2 rfl);have z0:=i1 0;have o4:=Q E0;clear E0))
         all_goals
          have h2:Hid (Bd T n L (fun g=>if g=w.heap.size\/g=w.heap.size+1 then none else W1.heap[g]?) w (W1.heap.size+1) (W1.heap.size+1+1) (i+1) e2 k' o' (ps++[[.str nm,.R fs]]) [] (.slice (some ⟨m4,0,none⟩) (ps.length+1) n4) (.slice vb ([]:G Rw).length a1) (.slice (some ⟨F5,0,none⟩) (b'.length+1) L5) (b'++[[.str nm]]) _):=Q ⟨(D'.out.alloc _).pack (r:=[.str nm,.R fs]) ⟨_,_,rfl,⟨rfl,F0.out.1⟩,_,_,rfl,g2.out,rfl⟩ rfl (v0.out.alloc _) o4.out,HW.out.r.pack IE.out.1 (aaO v3.out rfl) (by rw[IG.out.1];exact aMN D2 c5 HW.out.eq m2.out X3.out f2.out),by rw[uT,HW.out.eq];simp[bg,wd,jh,tD],aFo HW.out.kr F0.out.2,fun r U=>by
           rcases qV.1 U with e|e
           ·exact HW.out.pk r e
           ·rw[yR.1 e];exact⟨nm,fs,rfl⟩⟩
          go_wp2_with fail;go_roundg (L.length-(i+1))
          case measure=>have:=Bc.out;have:=qC.out;omega
          case rel=>exact⟨i+1,_,_,_,_,_,_,_,_,rfl,by have:=qC.out;omega,by simp,h2⟩
      ·have s2:m_ n (ps,ts) ri=.error (2,no ri):=by
        by_cases D2:c.length<=1
        ·exact aNT (by rw[IG.out.1];exact D2) hwt
        ·exact aiz (fun q=>hwp ⟨q.1,q.2,by omega⟩) hwt
       have U_:=Q (F1.out 2 jK s2);clear s2
       by_cases P:0<c.length
       ·obtain⟨j,t',f0,rfl,Al,Fz,n'⟩:=h4.out P
        obtain⟨L4,M4⟩:=Fz _ (HV.out.m.x.trans HV.out.m.s.ext);have M1:(0:Int)<(c.length:Int):=I;have xD:=PN Al jK ahk;have yF:=PN Al jK aix
        by_cases w0:t'=1
        ·subst w0
         rw[bK rfl] at n';subst n';have j6:((bC (word ri)).toList==[116,97,115,107])=false:=by
          rw[zH];exact fun e=>hwt (yF.1 e)
         have P5:¬(bC (word ri)).toList=[116,97,115,107]:=fun e=>hwt (yF.1 e)
         by_cases k1:1<c.length
         ·have h':(1:Int)<(c.length:Int):=by omega
          by_cases Z:word ri=vI
          ·have L1:=xD.2 Z
           have A2:¬(ts.length:Int)=0:=by
            have:¬ts.length=0:=fun e=>hwp ⟨Z,e,k1⟩;omega
           have k6:((ts.length:Int)==0)=false:=by rw[zH];exact A2
           have l6:¬ts=[]:=fun e=>A2 (by rw[e];rfl)
           exact arH
          ·have L1:((bC (word ri)).toList==[112,97,99,107,97,103,101])=false:=by
            rw[zH];exact fun e=>Z (xD.1 e)
           exact arH
         ·have h':¬(1:Int)<(c.length:Int):=by omega
          clear xD yF Fz Al hwt hwp;exact Od
        ·have T5:(t'==1)=false:=by simpa using w0
         clear xD yF Fz Al hwt hwp n'
         by_cases k1:1<c.length
         ·have h':(1:Int)<(c.length:Int):=by omega
          exact Od
         ·have h':¬(1:Int)<(c.length:Int):=by omega
          exact Od
       ·have M1:¬(0:Int)<(c.length:Int):=by omega
        have h':¬(1:Int)<(c.length:Int):=I;clear hwt hwp;exact Od
    ·have E2:(k==0)=false:=by simpa using g'
     have HK0:=Q g';have Mf:=Q HW.out.m.rc;obtain⟨v2,w2,i1,t4,z0,z1,z2,z3⟩:=Mf.out.cells;have r4:=HW.out.m.s.p.c0;have s4:=HW.out.m.s.p.c1;have a0:=h1.out.size;have M2:¬W1.heap.size+1=w.heap.size:=I;have P2:¬w.heap.size=W1.heap.size+1:=I;have T2:¬W1.heap.size+1=w.heap.size+1:=I;have W2:¬w.heap.size+1=W1.heap.size+1:=I;clear g' a0;exact apL
   ·obtain rfl:i=L.length:=by omega
    have E4:¬(L.length:Int)<(L.length:Int):=I;have Mf:=Q HW.out.m.rc;obtain⟨v2,w2,i1,t4,z0,z1,z2,z3⟩:=Mf.out.cells;have r4:=HW.out.m.s.p.c0;have s4:=HW.out.m.s.p.c1;obtain⟨D6,E6,_⟩:=HW.out.m.s.oc;have a0:=h1.out.size;have M2:¬W1.heap.size+1=w.heap.size:=I;have P2:¬w.heap.size=W1.heap.size+1:=I;have T2:¬W1.heap.size+1=w.heap.size+1:=I;have W2:¬w.heap.size+1=W1.heap.size+1:=I;clear a0
    by_cases g':k=0
    ·subst g'
     obtain rfl:o=0:=(HW.out.r.full rfl).1;obtain⟨a4,b4,rfl⟩:=HW.out.m.s.gp.R;obtain⟨c4,d4,rfl⟩:=HW.out.m.s.gt.R;go_wp2_with (refine(FE (W1.heap.size+1) _ _ _ HW.out.m.s.p).mono ?_;rintro r E ⟨rfl,rfl⟩);obtain⟨_,p0,p1,p2,p3⟩:=Mf.out.put (.slice a4 ps.length b4) (.slice c4 ts.length d4) (.int .i64 0) (.int .i64 0);refine ni (v:=.tuple #[.agg #[.slice a4 ps.length b4,.slice c4 ts.length d4],.agg #[.int .i64 0,.int .i64 0]]) ?_ rfl (HW.out.prI.done HP.out HL.out HN.out);unfold rT at p0 p1 p2 p3;simp[results,Tryz.results6,go_sem,p0,p1,p2,p3]
    ·have E2:(k==0)=false:=by simpa using g'
     have HK0:=Q g';clear g';exact apL
section
variable {T:Nat->ah D} {n:Nat}
def aEk (j:bH T) (hn:n+99<=1000000) {x y:Rw} (l:aJ O x eB) (q:aI x<=n) (h:oZ n x=.ok y):aJ O y tq:=by
 obtain⟨u,post,hR,U,-,-⟩:=(agh j n hn).2 [.agg x] aM ⟨⟨l,fun _=>q⟩,.inl rfl⟩;have hR:bG (oZ n x) (fun t=>DA.agg t) iQ aM u post:=hR;rcases hR.vv with⟨z,e,-,rfl⟩|⟨f,e,-⟩
 ·rw[h] at e
  cases e;exact Dt U
 ·rw[h] at e;cases e
def avh (q:bH T) (hn:n+99<=1000000) {pk:aK}:∀{l a fs:G Rw},dR O l eB->(∀x∈l,aI x<=n)->dR O a tq->bO (Pz n pk) a l=.ok fs->dR O fs tq/\fs.length=a.length+l.length
 |[],a,fs,_,_,j,h=>by
  simp only[bO,aaZ] at h;subst h;exact⟨j,rfl⟩
 |x::l,a,fs,u,w,j,h=>by
  simp only[bO,aif] at h;cases h1:oZ n x with
  |error e=>rw[h1] at h;cases h
  |ok y=>
   rw[h1,mq] at h
   by_cases hc:(pk&&!(nk y==1||nk y==2||nk y==3))=true
   ·rw[bK hc] at h;cases h
   ·rw[bB hc,mq] at h
    have A:=aEk q hn u.1 (w x jG) h1;obtain⟨E,F⟩:=avh q hn u.2 (fun z P=>w z (gF _ P)) (dR.of fun r U=>by
     rcases qV.1 U with e|e
     ·exact j.mem r e
     ·rw[yR.1 e];exact A) h
    exact⟨E,by rw[F];simp;omega⟩
def arT (e:bH T) (hn:n+99<=1000000) {pk:aK} (j:dR O l eB) (q:∀x∈l,aI x<=n) (h:uH n t l pk=.ok L):aW O (.R L) (.R 5):=by
 unfold uH at h;split at h
 ·cases h
 ·obtain⟨u,w⟩:=avh e hn (a:=[]) j q True.intro h
  exact eP (by rw[w];unfold gB;simp;omega) u
def aGw {x:Rw} (j:aJ O x eB) (h:n_ x=.ok q):aW O (.str q) .str:=by
 obtain⟨_,_,rfl,_,q1⟩:=dW j;obtain⟨_,_,rfl,e,_⟩:=dW q1;unfold n_ at h;split at h
 ·obtain rfl:=PY h
  obtain⟨t,rfl,_⟩:=e.str;exact e
 ·cases h
def aFR {r:Rw} (e:aJ O r eB):dR O (nc r) eB:=by
 obtain⟨k,t,c,o,rfl,_,h⟩:=aT e;exact h
def aNU (W:bH T) (hn:n+99<=1000000) {ts w A:G Rw} {r:Rw} (b':aJ O r eB) (c':aI r<=n) (Z:dR O L OU) (a':dR O ts [.R 5]) (h:m_ n (L,ts) r=.ok (w,A)):dR O w OU/\dR O A [.R 5]:=by
 have u:=aFR b';have E:∀y∈nc r,aI y<=n:=fun y j=>by have:=wz j;omega
 unfold m_ at h;split at h
 ·split at h
  ·unfold yK at h
   match hc:(nc r).drop 1,h with
   |[],h=>cases h
   |a::l,h=>
    dsimp only at h;have F:∀y∈a::l,y∈nc r:=fun y j=>AY (by rw[hc];exact j)
    split at h
    ·cases h
    ·cases h1:n_ a with
     |error e=>rw[h1] at h;cases h
     |ok nm=>
      rw[h1,mq] at h;split at h
      ·cases h
      ·cases h2:uH n r l true with
       |error e=>rw[h2] at h;cases h
       |ok fs=>
        rw[h2,mq,mq] at h;cases h;refine⟨dR.of fun q P=>?_,a'⟩;rcases qV.1 P with e|e
        ·exact Z.mem q e
        ·rw[yR.1 e]
         exact ay (aGw (u.mem a (F a jG)) h1) (ay (arT W hn (dR.of fun y j=>u.mem y (F y (gF _ j))) (fun y j=>E y (F y (gF _ j))) h2) aX)
  ·split at h
   ·split at h
    ·cases h
    ·cases h2:uH n r ((nc r).drop 1) false with
     |error e=>rw[h2] at h;cases h
     |ok fs=>
      rw[h2,mq] at h;cases h;refine⟨Z,dR.of fun q P=>?_⟩;rcases qV.1 P with e|e
      ·exact a'.mem q e
      ·rw[yR.1 e]
       exact ay (arT W hn (dR.of fun y j=>u.mem y (AY j)) (fun y j=>E y (AY j)) h2) aX
   ·cases h
 ·cases h
def avi (y:bH T) (hn:n+99<=1000000):∀{l ps ts j u:G Rw},dR O l eB->(∀x∈l,aI x<=n)->dR O ps OU->dR O ts [.R 5]->bO (m_ n) (ps,ts) l=.ok (j,u)->dR O j OU/\dR O u [.R 5]
 |[],_,_,_,_,_,_,Z,w,h=>by
  simp only[bO,aaZ,eG] at h;obtain⟨rfl,rfl⟩:=h;exact⟨Z,w⟩
 |x::l,ps,ts,_,_,A,E,Z,w,h=>by
  simp only[bO] at h;cases h1:m_ n (ps,ts) x with
  |error e=>rw[h1] at h;cases h
  |ok q=>
   rw[h1] at h;obtain⟨F,P⟩:=aNU y hn A.1 (E x jG) Z w (show m_ n (ps,ts) x=.ok (q.1,q.2) from h1)
   exact avi y hn A.2 (fun z W=>E z (gF _ W)) F P h
def avm {l:G Rw} {p:G Rw×G Rw} (h:bO (m_ n) ([],[]) l=.ok p):∀i,i<=l.length->∃q,bO (m_ n) ([],[]) (l.take i)=.ok q/\q.1.length<=i/\q.2.length<=i
 |0,_=>⟨([],[]),by simp only[aa7,bO],bq _,bq _⟩
 |i+1,J=>by
  obtain⟨q,e,y,A⟩:=avm h i I;have u:l[i]?=some l[i]:=gM I;rw[PI u,LC,e,mq];have key:∀z,m_ n q l[i]=.ok z->z.1.length<=q.1.length+1/\z.2.length<=q.2.length+1:=fun z j=>by
   unfold m_ at j;split at j
   ·split at j
    ·cases h2:yK n q.1 l[i] ((nc l[i]).drop 1) with
     |error e=>rw[h2] at j;cases j
     |ok p=>rw[h2,mq] at j;cases j;simp
    ·split at j
     ·split at j
      ·cases j
      ·cases h2:uH n l[i] ((nc l[i]).drop 1) false with
       |error e=>rw[h2] at j;cases j
       |ok p=>rw[h2,mq] at j;cases j;simp
     ·cases j
   ·cases j
  cases h3:m_ n q l[i] with
  |error f=>
   have w:bO (m_ n) ([],[]) l=.error f:=by
    rw[<-UJ (i+1) l,ahX,PI u,LC,e,mq,h3]
    rfl
   rw[h] at w;cases w
  |ok z=>
   have:=key z h3;exact⟨z,rfl,by omega,by omega⟩
def avr (W:bH T) {ts:G Rw} (h:zM A L ts k o):aJ O [.R L,.R ts] [.R 6,.R 7]:=by
 have j:aJ O [.R [],.R []] [.R 6,.R 7]:=ay (eP (gK _) True.intro) (ay (eP (gK _) True.intro) aX);unfold zM at h;split at h
 ·obtain⟨rfl,rfl,_⟩:=h
  exact j
 ·rename_i l Z
  split at h
  ·rename_i p u
   obtain⟨rfl,rfl,_⟩:=h;obtain⟨w,y⟩:=ahi Z;have d':(nR l).length<=65536:=afS;have E:=SF (T:=1) (.inl rfl) w I;have e':bM (nR l)<=65536:=by rw[RH];exact y
   have u:bO (m_ (bM (nR l))) ([],[]) (nR l)=.ok (p.1,p.2):=u;obtain⟨a',b'⟩:=avi W I E (fun x c'=>qj c') (show dR O [] OU from True.intro) (show dR O [] [.R 5] from True.intro) u
   obtain⟨q,e,F,P⟩:=avm u _ (bq _);rw[FU,u] at e;cases e;have F:p.1.length<=_:=F;have P:p.2.length<=_:=P;exact ay (eP (by unfold gB;omega) a') (ay (eP (by unfold gB;omega) b') aX)
  ·obtain⟨rfl,rfl,_⟩:=h
   exact j
def avs {ts j q:G Rw} {k' o':Int} (h:zM A L ts k o) (h':zM A j q k' o'):L=j/\ts=q/\k=k'/\o=o':=by
 unfold zM at h h';cases Z:parse (bytes A) with
 |error e=>
  rw[Z] at h h';exact arC
 |ok l=>
  rw[Z] at h h';dsimp only at h h';cases hq:aax (nR l) with
  |ok p=>
   exact aqf
  |error f=>
   exact aqf
end
def Zq (W:ak) (x y k o:av) (t1 t2:dh):Below W.heap.size W ((W.alloc (.cells #[x,y] t1)).alloc (.cells #[k,o] t2))/\((W.alloc (.cells #[x,y] t1)).alloc (.cells #[k,o] t2)).cell? ⟨W.heap.size,0,none⟩=some x/\((W.alloc (.cells #[x,y] t1)).alloc (.cells #[k,o] t2)).cell? ⟨W.heap.size,1,none⟩=some y/\
 ((W.alloc (.cells #[x,y] t1)).alloc (.cells #[k,o] t2)).cell? ⟨W.heap.size+1,0,none⟩=some k/\((W.alloc (.cells #[x,y] t1)).alloc (.cells #[k,o] t2)).cell? ⟨W.heap.size+1,1,none⟩=some o:=by
 refine⟨jB (jB (iN W.heap.size W) _) _,?_,?_,?_,?_⟩<;>simp[go_sem]
def Jj (h:DR j (.R l) v):∃a c,v=.slice a l.length c:=by
 obtain⟨a,c,e,_⟩:=h;exact⟨a,c,e⟩
def arP (k o:Int) (W:ak):Calls Tryz.prog 8 #[.agg #[.int .i64 k,.int .i64 o],.agg #[.int .i64 k,.int .i64 o]] W fun e W'=>e=.returned (.bool true)/\Below W.heap.size W W':=by
 go_enter Tryz.func8,Tryz.ntmps8;go_wp2_with fail;refine ni (abx rfl _ _ _) rfl ⟨by simp,jB (jB (iN W.heap.size W) _) _⟩
def avn {T:Nat->ah D} (w:bH T) {h j:av} (y:aJ O [.R l,.R L] [.R 6,.R 7]) (A:ug T (dM W)) (E:DR (dM W) (.R l) v) (F:DR (dM W) (.R L) m) (P:DR (dM W) (.R l) h) (a':DR (dM W) (.R L) j):
 Calls Tryz.prog 9 #[.agg #[v,m],.agg #[h,j]] W fun e W'=>e=.returned (.bool true)/\Below W.heap.size W W':=by
 obtain⟨c',post,⟨rfl,_⟩,-,-,Z⟩:=aDA w (aI [.R l,.R L]) [.agg [.R l,.R L],.agg [.R l,.R L]] [] ⟨⟨_,rfl,_,rfl,y,bq _⟩,rfl⟩;have Z:om T Tryz.prog 9 [.agg [.R l,.R L],.agg [.R l,.R L]] (.one (.bool true)):=Z;refine(Z.at_ (us:=[.agg #[v,m],.agg #[h,j]]) A ⟨_,_,rfl,⟨_,rfl,_,_,rfl,E,_,_,rfl,F,rfl⟩,_,_,rfl,⟨_,rfl,_,_,rfl,P,_,_,rfl,a',rfl⟩,rfl⟩).mono ?_;rintro e W' ⟨u,rfl,b',q⟩;have q:u=_:=q;exact⟨by rw[q],b'⟩
end
end
end Go.Proofs.YtdjcfaaongngeaaGreatDoor

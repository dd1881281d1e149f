/- A part of the proof: see the last text. -/
import Derived.Test.YtdjcfaaongngeaaGreatDoorZq
import Derived.Test.YtdjcfaaongngeaaGreatDoorZs
import Derived.Test.YtdjcfaaongngeaaGreatDoorZt
import Derived.Test.YtdjcfaaongngeaaGreatDoorZw
set_option linter.all false
set_option maxRecDepth 100000
set_option maxHeartbeats 0
namespace Go.Proofs.YtdjcfaaongngeaaGreatDoor
noncomputable section
variable {b:Nat}{T:Nat->ah D}{P:Prop}{t:Rw}{l L:G Rw}{d:D}{q:G Nat}{k o:Int}
section
open Go Go.RowKit
def ao9 {e:Type} [Decidable P] {a b c:e} (h:(if P then a else b)=c):(P/\a=c)\/(¬P/\b=c):=by
 split at h
 ·exact .inl ⟨‹_›,h⟩
 ·exact .inr ⟨‹_›,h⟩
def aNZ {row:Rw} (e:aJ O row (y8 8)) (h:(DA.agg t)=.agg jm):aI t<=aI row:=by
 cases h;obtain⟨k,t,c,o,rfl,_⟩:=jT e;rw[wY];simp only[jm,ty,aI,uz,bM];omega
def aCk:aI [.int .i64 k,.str q,.int .i64 o,.R []]<=3*b+2:=by
 rw[vD];simp only[bM];omega
def aoK {c1 c2 c3 c4 c5 c6 j l:D} (h:∃g,DA.agg [d,c1,c2,c3,c4,c5,c6,j,l]=.agg g/\aI (K8 g)<=b+1):aI [c3,c4,c5,c6]<=3*b+2:=by
 obtain⟨g,e,h⟩:=h;cases e;rw[Fw] at h;omega
def aoL {e:Fa} [Decidable P] {c1 c2 c3 c4 c5 c6 j q:D} (h:(if P then Gv (iJ b) k l else .error e)=.ok [d,c1,c2,c3,c4,c5,c6,j,q]) (u:∀x∈l,aJ O x (y8 8)) (w:∀x∈l,aI x<=b) (y:P->3<=l.length):aI [c3,c4,c5,c6]<=3*b+2:=by
 have:=aC3 u w y h;rw[Fw] at this;omega
def aoM {ts:G Rw} (h:t=yL l ts) (e:dR O l (O.getD 2 [])) (j:bM l<=b) (q:bM ts<=b):aI t<=3*b+2:=by
 have:=av2 (ts:=ts) e;rw[h];omega
def aoo {n:Nat} (h:∃q j,DA.dD [.one (.R l),.one (.R L)]=.dD [.one (.R q),.one (.R j)]/\bM j<=aI t) (U:aI t<=n):bM L<=n:=by
 obtain⟨q,j,e,h⟩:=h;cases e;omega
def aBu {n:Nat} (h:DA.one (.R l)=.one (.R [])\/DA.one (.R l)=.one (.R (nc t))) (j:aJ O t (y8 8)) (U:aI t<=n):bM l<=n:=by
 rcases h with h|h
 ·cases h;exact gK _
 ·cases h
  obtain⟨e,_⟩:=O_ (T:=8) rfl j;omega
def aGO {n:Nat} (h:l=nc t) (j:aJ O t (y8 8)) (U:aI t<=n):bM l<=n:=by
 subst h;obtain⟨e,_⟩:=O_ (T:=8) rfl j;omega
def aBv {n:Nat} (h:∃j,DA.one (.R L)=.one (.R j)/\bM j<=bM l) (q:bM l<=n):bM L<=n:=by
 obtain⟨j,e,h⟩:=h;cases e;omega
def pX (h:P:=by exact(by first|exact aCk|exact aoL hy4 (fun x e=>OG x (gF _ e)) (fun x e=>hall x (gF _ e)) (fun Z=>by omega)|exact aoL qm (fun x e=>OG x (gF _ e)) (fun x e=>hall x (gF _ e)) (fun Z=>by omega)|exact aoK Zc|exact aoK ha5|exact aoM aUV.symm (by first|exact m8.2|exact m9.2|assumption) (by first|exact fF (awz (OG _ w_) z8) (hall _ w_)|exact aoo ha8 (hall _ w_)) ap5|exact aoM BA.symm (by first|exact m8.2|exact m9.2|assumption) ap5 (by first|exact gK _|exact fF (aM0 (fun x e=>m10.2.mem x e) xE) aru|exact aBv Jy aru))):P:=h
def auu:G bJ:=[⟨61,some [C,C],(.agg [C,.str,.R 0,C,.str,C,.R 2,.R 3,.R 4])⟩,Ug,⟨62,some [C,C],(.dD [(.one (.R 0)),(.one (.R 2))])⟩,ah8,aaA,aaz,⟨63,none,(.agg [C,.str,C,.R 2])⟩,avO]
def H9:eX:=⟨1,212,alU,[(.normal,⟨[(0,fU),(3,iM),(4,jk),(5,.ptr 40 0),(12,jg),(13,.aV)],[(10,iy),(11,Mv),(12,WA),(40,V9)],42⟩,[C,C,C,.str,.R 8,C,C,C,C,C,.str,C,C,.R 2]),(.normal,⟨[(0,fU),(3,iM),(4,jk),(5,.ptr 40 0),(12,jg),(13,.gy 42 jQ 4)],[(10,iy),(11,Mv),(12,WA),(40,V9),(42,.seq 4 jQ)],43⟩,[C,C,C,.str,.R 8,C,C,C,C,C,.str,C,C,.R 2,.R 2])]⟩
def aut:G iq:=[⟨alU,[C,C,C,.str,.R 8,C,C,C,C,C,.str,C,C,.R 0,.R 2,.R 8,C],.B (.bin .lss kQ (.len jq)) (.fT (.bin .geq kQ aH) (.call 5 [.agg [.S (.cell jq kQ 0),.S (.cell jq kQ 1),.S (.cell jq kQ 2),.S (.cell jq kQ 3)],jg] bL (.leaf 1 [qZ,wh,cu,b_,dS,dz,eu,dP,dI,bT,dZ,fD,iG,jg,kN,.S akQ,mV,.S (.bin .add kQ cO)] [(42,43)]))) (.leaf 2 [dY,fJ,cu,b_,dS,dz,eu,dP,dI,bT,dZ,fD,iG,kN] [])⟩,⟨⟨[(0,fU),(3,iM),(4,jk),(5,.ptr 40 0),(11,jg),(12,kN),(13,.gy 42 jq 4),(14,lS),(15,mW)],[(10,iy),(11,Mv),(12,WA),(40,V9),(42,.seq 4 jq)],43⟩,[C,C,C,.str,.R 8,C,C,C,C,C,.str,C,C,.R 0,.R 2,.R 2,.R 8,C],.B (.bin .lss pU (.len kQ)) (.fT (.bin .geq pU aH) (.call 5 [.agg [.S (.cell kQ pU 0),.S (.cell kQ pU 1),.S (.cell kQ pU 2),.S (.cell kQ pU 3)],jg] bL (.fT (.bin .leq (.len ak7) mG) (.leaf 1 [wh,vZ,cu,b_,dS,dz,eu,dP,dI,bT,dZ,fD,iG,jg,kN,.S ak7,lS,.S (.bin .add pU cO)] [(42,44)])))) (.leaf 3 [dY,fJ,cu,b_,dS,dz,eu,dP,dI,bT,dZ,fD,iG,kN,mV] [(42,42)])⟩]
def aJV:Tree:=.B iC (.B Wi (.B (.bin .gtr mF aH) (.fT Kv (.B (.bin .eql WY cO) (.fT mH (.fT mE (.B (.bin .eql kM adB) (.call 0 [CO,IX,I4,MX] bL (.call 7 [acd] [] ad9)) (.B (.bin .eql kM abR) (.call 0 [CO,IX,q9,MR] bL (.call 7 [acd] [] ad9)) (.B (.bin .eql kM aed) (.B (.bin .eql yg yX) (.call 1 Ga bL (.call 2 [Ko,aF] yh (.call 2 [MV,bT] W_ (.call 6 [dZ,kN] [] (.call 3 [.agg [.S (.cell ru jI 0),.S (.cell ru jI 1),.S (.cell ru jI 2),.S (.cell ru jI 3)],jg] [mV,lS] (.call 7 [akI] [] (.B (.bin .neq MF aH) (.B (.bin .eql CG aH) (.leaf 0 [.agg amI,yU,dz] []) ajZ) ajZ))))))) MB) (.B (.bin .eql kM acB) (.B (.bin .eql yg jI) (.call 1 Ga bL (.call 2 [Ko,aF] yh (.call 4 [MV] W_ (.bX 0 [jQ,jq,dx,dN,dB,fQ,aH,aH,aH,yX,bZ,aH,aH,fK,h_,jr,aH] (.cons (.call 6 [.S zf,aF] [] (.call 7 [.agg [IY,Bh,za,yU]] [] (.B (.bin .neq V5 aH) (.B WU (.leaf 0 [.agg am0,EJ,qZ] []) al2) al2))) (.cons (.call 6 [.S zf,IY] [] (.call 7 [.agg [Bh,za,yU,EJ]] [] (.B (.bin .neq acK aH) (.B WU (.leaf 0 [.agg anR,I5,qZ] []) am5) am5))) .nil)))))) MB) (.B (.bin .eql kM abU) (.B acU (.call 1 Ga bL (.call 7 Ki [] (.B Mw akf ada))) MB) (.B (.bin .eql kM aeb) (.B acU (.call 1 Ga bL (.call 7 Ki [] (.B Mw anA acT))) MB) (.B (.bin .eql kM abS) (.B acU (.call 3 Wq bL (.call 7 Ki [] ank)) MB) MB))))))))) zQ)) zQ) zQ) Gb
def Z6:ko 38 200 1 H9 auu [] aut:=.of aS
def auv:TC 38 [oP] lW auu [H9] aJV (fl++fZ):=tc
def auw:gU 38:=gY Tryz.func38 aS
def wu (n:Nat):gu:=⟨H9,fun ds=>match ds with|[q,u,W,a',b',c',d',w,y,A,E,F,P,h,T,e,e']=>mU [q,u]/\aW O W C/\aW O a' .str/\aW O b' (.R 8)/\aW O c' C/\aW O d' C/\aW O w C/\aW O y C/\aW O A C/\aW O E .str/\aW O F C/\aW O P C/\aW O h (.R 0)/\aW O T (.R 2)/\aW O e (.R 8)/\e'=.int .i64 0/\([q,u]=aM->∀x∈rD e,aI x<=n)/\([q,u]=aM->(rD h).length+n<=1000000)|_=>False,
 fun ds j out=>match ds with
 |[q,u,W,a',b',c',d',w,y,A,E,F,P,h,T,e,_]=>match j with
  |0=>∃p:G D,bG (bO (eO fun x=>iJ n x (bg (rD h))) ([]:G Rw) (rD e)) (fun l=>.one (.R l)) (fun x=>∃a,x=.one (.R a)/\bM a<=bM (rD e)) [q,u] ((fun l=>.one (.R l)) ([]:G Rw)) p/\out=p++[W,a',b',c',d',w,y,A,E,F,P,T]
  |1=>∃(p:G D) (s:G Rw),bG (bO (eO fun x=>iJ n x (bg (rD h))) ([]:G Rw) (rD e)) (fun l=>.one (.R l)) (fun x=>∃a,x=.one (.R a)/\bM a<=bM (rD e)) [q,u] ((fun l=>.one (.R l)) s) p/\out=p++[W,a',b',c',d',w,y,A,E,F,P,T,.R s]
  |_=>False
 |_=>False⟩
def Sv {e P T W a' b' q u w y A E j F l c':D} (h:aJ O [d,e,P,T,W,a',b',q,u,w,y,A,E,j,F,l,c'] [C,C,C,.str,(.R 8),C,C,C,C,C,.str,C,C,(.R 0),(.R 2),(.R 8),C]) (Z:mU [d,e]) (J:c'=.int .i64 0) (e1:[d,e]=aM->∀x∈rD l,aI x<=b) (r':[d,e]=aM->(rD j).length+b<=1000000):(wu b).eU [d,e,P,T,W,a',b',q,u,w,y,A,E,j,F,l,c']:=by
 obtain⟨s',h⟩:=kV h;obtain⟨t',h⟩:=kV h;obtain⟨m',h⟩:=kV h;obtain⟨n',h⟩:=kV h;obtain⟨o',h⟩:=kV h;obtain⟨p',h⟩:=kV h;obtain⟨q',h⟩:=kV h;obtain⟨f',h⟩:=kV h;obtain⟨g',h⟩:=kV h;obtain⟨h',h⟩:=kV h;obtain⟨i',h⟩:=kV h;obtain⟨j',h⟩:=kV h;obtain⟨k',h⟩:=kV h;obtain⟨d',h⟩:=kV h;obtain⟨l',h⟩:=kV h;obtain⟨e',h⟩:=kV h;obtain⟨u',h⟩:=kV h;exact⟨Z,m',n',o',p',q',f',g',h',i',j',k',d',l',e',J,e1,r'⟩
def aB8:(wu b).eZ ⟨[C,C,C,.str,(.R 8),C,C,C,C,C,.str,C,C,(.R 0),(.R 2),(.R 8),C],true,0,16,[[(2,2),(3,3),(4,4),(5,5),(6,6),(7,7),(8,8),(9,9),(10,10),(11,11),(12,12),(14,13)],[(2,2),(3,3),(4,4),(5,5),(6,6),(7,7),(8,8),(9,9),(10,10),(11,11),(12,12),(14,13)]]⟩:=by
 intro _ ds f hf h h' i' j';obtain⟨k',M',rfl,_,q0⟩:=dW h;obtain⟨l',P',rfl,_,q1⟩:=dW q0;obtain⟨m',T',rfl,_,q2⟩:=dW q1;obtain⟨n',W',rfl,_,q3⟩:=dW q2;obtain⟨o',X',rfl,_,p'⟩:=dW q3;obtain⟨q',a0,rfl,_,r'⟩:=dW p';obtain⟨s',b0,rfl,_,t'⟩:=dW r';obtain⟨a',e0,rfl,_,u'⟩:=dW t';obtain⟨b',f0,rfl,_,v'⟩:=dW u';obtain⟨c',g0,rfl,_,w'⟩:=dW v';obtain⟨d',x',rfl,_,q⟩:=dW w';obtain⟨e',y',rfl,_,u⟩:=dW q;obtain⟨f',z',rfl,_,w⟩:=dW u;obtain⟨A,A',rfl,_,E⟩:=dW w;obtain⟨g',D',rfl,_,F⟩:=dW E;obtain⟨P,E',rfl,_,T⟩:=dW F;obtain⟨F',L',rfl,_,W⟩:=dW T;obtain rfl:=wE W;obtain rfl:=bI h';obtain rfl:=bI i';obtain rfl:=bI j';refine⟨Sv h (.inr ⟨f,hf,rfl⟩) rfl (fun l=>absurd (nD (f:=f) l.symm) hf) (fun l=>absurd (nD (f:=f) l.symm) hf),fun j out hR=>?_⟩
 match j,hR with
 |0,⟨p,e,N⟩=>exact Xn N (bG.oq hf e).1
 |1,⟨p,y,e,N⟩=>exact Xn N (bG.oq hf e).1
def H9.qE (h:P:=by first|(simp[oZ,Jq,Jo,Jp,Hw,Gw,Fw,Du,DC,Dz,Dv,Dy,DJ,Dw,eD,fm,jm,ty,eO,nth,nk,nt,nc,no,jh,iD,tD,rD,mq,LM,kS,lY,LU,uT,vR, *]<;>first|done|omega)|(simp_all[oZ,Jq,Jo,Jp,Hw,Gw,Fw,Du,DC,Dz,Dv,Dy,DJ,Dw,eD,fm,jm,ty,eO,nth,nk,nt,nc,no,jh,iD,tD,rD,mq,LM,kS,lY,LU,uT,vR]<;>omega)):P:=h
open H9 in
def aMa {T:Nat->ah D} (s0:bH T) (n:Nat) (hn:n+100<=1000000) (x':(Ny n).aA T) (l':(NA n).aA T) (y':(CZ n).aA T) (z':(Bq n).aA T) (q:(Nz).aA T) (P:(Gr (3*n+2)).aA T):(wu n).Ok T Tryz.prog (fun x=>x∈dO (kU 38)) O fM:=by
 intro ds t0
 match ds,t0 with
 |[u,w,u0,v0,w0,x0,A0,X',a0,b0,e0,f0,g0,A',h0,D',D1],⟨Z,s',t',u',v',w',d',e',f',g',h',i',a',k',b',a1,hex,c'⟩=>
 subst a1;have b1:aJ O [u,w,u0,v0,w0,x0,A0,X',a0,b0,e0,f0,g0,A',h0,D',.int .i64 0] _:=(ay (ZJ Z).1 (ay (ZJ Z).2 (ay s' (ay t' (ay u' (ay v' (ay w' (ay d' (ay e' (ay f' (ay g' (ay h' (ay i' (ay a' (ay k' (ay b' (ay aO aX)))))))))))))))));obtain⟨c5,rfl⟩:=s'.int;obtain⟨c6,rfl,m1⟩:=t'.str;obtain⟨e1,rfl,o1,r1⟩:=bW u';obtain⟨f1,rfl⟩:=v'.int;obtain⟨g1,rfl⟩:=w'.int;obtain⟨i0,rfl⟩:=d'.int;obtain⟨j0,rfl⟩:=e'.int;obtain⟨k0,rfl⟩:=f'.int;obtain⟨l0,rfl,h1⟩:=g'.str;obtain⟨m0,rfl⟩:=h'.int;obtain⟨o0,rfl⟩:=i'.int;obtain⟨vars,rfl,W0,X0⟩:=bW a';obtain⟨r0,rfl,i1,j1⟩:=bW k';obtain⟨rows,rfl,lH,j⟩:=bW b';have F1:rows.length<=1000000:=lH;replace hex:[u,w]=aM->∀x∈rows,aI x<=n:=hex;replace c':[u,w]=aM->vars.length+n<=1000000:=c';have A:fG T _ _:=(ac x' aow (ac (Lv s0) KG (ac l' Nn (ac y' I9 (ac (JL s0) CQ (ac z' CS (ac q aoB (ac P aeF an))))))));refine Te (c:=wu n) (f:=38) s0 Z6.one Z6.bX Z6.self Z6.jC A b1 (fun i m ds=>match i with
  |0=>∃(k:Nat) (p0 p1:D),ds=[p0,p1,.int .i64 c5,.str c6,.R e1,.int .i64 f1,.int .i64 g1,.int .i64 i0,.int .i64 j0,.int .i64 k0,.str l0,.int .i64 m0,.int .i64 o0,.R vars,.R r0,.R rows,.int .i64 k]/\m=rows.length+1-k/\k<=rows.length/\kL (eO fun x=>iJ n x (bg vars)) ([]:G Rw) rows [u,w] k ([]:G Rw) [p0,p1]
  |1=>∃(k:Nat) (W:G Rw) (p0 p1:D),ds=[p0,p1,.int .i64 c5,.str c6,.R e1,.int .i64 f1,.int .i64 g1,.int .i64 i0,.int .i64 j0,.int .i64 k0,.str l0,.int .i64 m0,.int .i64 o0,.R vars,.R r0,.R W,.R rows,.int .i64 k]/\m=rows.length-k/\k<=rows.length/\W.length<=k/\bM W+bM (rows.drop k)<=bM rows/\kL (eO fun x=>iJ n x (bg vars)) ([]:G Rw) rows [u,w] k W [p0,p1]
  |_=>False) (rows.length+1) ⟨0,_,_,rfl,rfl,gK _,kL.start Z⟩ fun i st m E1 y k1 L1=>?_
 match i,y with
 |0,y=>
  obtain rfl:=bI y;obtain⟨k,p0,p1,rfl,rfl,l1,e⟩:=k1;rcases e.DT with E|⟨f,hf,E⟩
  ·simp only[aM,dL,nV,tZ] at E
   obtain⟨rfl,rfl⟩:=E;replace hex:=hex e.jE;replace c':=c' e.jE;refine au aj (fun n'=>?_) (fun n'=>qw (j':=0) rfl M ⟨_,(e.done dn ⟨_,rfl,gK _⟩),rfl⟩);refine aR ?_;obtain⟨row,h,jO⟩:=kZ j (n:=k) I;have mh:=hex _ (kg h);obtain⟨E',F',L',M',rfl,P',T'⟩:=aT jO;refine rV M (fun k=>Fx k (bF:=by exact mh)) fu (fun y1 hy1 l=>?_) fun s1 D0 hy1 W' l Za=>?_
   ·obtain⟨o',p',q',r',rfl,E0,F0⟩:=gQ l
    replace hy1:=nz hy1;exact nU (m':=rows.length-(k+1)) rfl M aA ⟨k+1,([]++[[(.int .i64 o'),(.str p'),(.int .i64 q'),(.R r')]]),_,_,nx,rfl,aA,aA,(Ca (a:=[]) h (fF (L_ (jW _)) Jh) Oj),(e.next h qE)⟩
   ·replace hy1:=nz hy1
    obtain⟨u1,rfl⟩:=lV l;obtain⟨L0,M0,P0,T0,rfl,v1,w1⟩:=gQ l;exact nU (m':=rows.length-(k+1)) rfl M aA ⟨k+1,([]++[[(.int .i64 L0),(.str M0),(.int .i64 P0),(.R T0)]]),_,_,nx,rfl,aA,aA,(Ca (a:=[]) h (fF (L_ (jW _)) Jh) Oj),(e.err h qE W')⟩
  ·simp only[aM,dL,nV,tZ] at E
   obtain⟨rfl,rfl⟩:=E;refine au aj (fun n'=>?_) (fun n'=>qw (j':=0) rfl M ⟨_,(e.done dn ⟨_,rfl,gK _⟩),rfl⟩);refine aR ?_;obtain⟨row,h,jO⟩:=kZ j (n:=k) I;obtain⟨E',F',L',M',rfl,P',T'⟩:=aT jO;refine yO (f:=f) hf M (fun k=>(CS rfl _ _ hf k).1) fun D0 l Za=>?_;obtain⟨x1,rfl⟩:=lV l;obtain⟨o',p',q',r',rfl,E0,F0⟩:=gQ l;exact nU (m':=rows.length-(k+1)) rfl M aA ⟨k+1,([]++[[(.int .i64 o'),(.str p'),(.int .i64 q'),(.R r')]]),_,_,nx,rfl,aA,aA,(Ca (a:=[]) h (fF (L_ (jW _)) Jh) Oj),(kL.bad hf e)⟩
 |1,y=>
  obtain rfl:=bI y;obtain⟨k,W,p0,p1,rfl,rfl,l1,A1,F,e⟩:=k1;rcases e.DT with E|⟨f,hf,E⟩
  ·simp only[aM,dL,nV,tZ] at E
   obtain⟨rfl,rfl⟩:=E;replace hex:=hex e.jE;replace c':=c' e.jE;refine au aj (fun n'=>?_) (fun n'=>qw (j':=1) rfl M ⟨_,W,(e.done dn ⟨_,rfl,fF (J4 _ _) F⟩),rfl⟩);refine aR ?_;obtain⟨row,h,jO⟩:=kZ j (n:=k) I;have mh:=hex _ (kg h);obtain⟨E',F',L',M',rfl,P',T'⟩:=aT jO;refine rV M (fun k=>Fx k (bF:=by exact mh)) fu (fun y1 hy1 l=>?_) fun s1 D0 hy1 W' l Za=>?_
   ·obtain⟨o',p',q',r',rfl,E0,F0⟩:=gQ l
    replace hy1:=nz hy1;refine aR ?_;exact nU (m':=rows.length-(k+1)) rfl M aA ⟨k+1,(W++[[(.int .i64 o'),(.str p'),(.int .i64 q'),(.R r')]]),_,_,nx,rfl,aA,aA,(Ca h F Oj),(e.next h qE)⟩
   ·replace hy1:=nz hy1
    obtain⟨u1,rfl⟩:=lV l;obtain⟨L0,M0,P0,T0,rfl,v1,w1⟩:=gQ l;refine aR ?_;exact nU (m':=rows.length-(k+1)) rfl M aA ⟨k+1,(W++[[(.int .i64 L0),(.str M0),(.int .i64 P0),(.R T0)]]),_,_,nx,rfl,aA,aA,(Ca h F Oj),(e.err h qE W')⟩
  ·simp only[aM,dL,nV,tZ] at E
   obtain⟨rfl,rfl⟩:=E;refine au aj (fun n'=>?_) (fun n'=>qw (j':=1) rfl M ⟨_,W,(e.done dn ⟨_,rfl,fF (J4 _ _) F⟩),rfl⟩);refine aR ?_;obtain⟨row,h,jO⟩:=kZ j (n:=k) I;obtain⟨E',F',L',M',rfl,P',T'⟩:=aT jO;refine yO (f:=f) hf M (fun k=>(CS rfl _ _ hf k).1) fun D0 l Za=>?_;obtain⟨x1,rfl⟩:=lV l;obtain⟨o',p',q',r',rfl,E0,F0⟩:=gQ l;refine aR ?_;exact nU (m':=rows.length-(k+1)) rfl M aA ⟨k+1,(W++[[(.int .i64 o'),(.str p'),(.int .i64 q'),(.R r')]]),_,_,nx,rfl,aA,aA,(Ca h F Oj),(kL.bad hf e)⟩
 |i+2,y=>simp[aut] at y
def aJU.qE (h:P:=by first|(simp[oZ,Jq,Jo,Jp,Hw,Gw,Fw,Du,DC,Dz,Dv,Dy,DJ,Dw,eD,fm,jm,ty,nth,nk,nt,nc,no,jh,iD,tD,rD,mq,LM,kS,lY,LU,uT,vR, *]<;>first|done|omega|assumption)|(simp_all[oZ,Jq,Jo,Jp,Hw,Gw,Fw,Du,DC,Dz,Dv,Dy,DJ,Dw,eD,fm,jm,ty,nth,nk,nt,nc,no,jh,iD,tD,rD,mq,LM,kS,lY,LU,uT,vR]<;>omega)|(rcases ao9 hy4 with⟨e,j⟩|⟨e,j⟩<;>(have q:(((lB).length:Nat):Int)=3\/¬(((lB).length:Nat):Int)=3:=(by first|exact .inl e|exact .inr e))<;>first|(cases j;done)|(replace e:(lB).length=3:=(by have l:(((lB).length:Nat):Int)=3:=e;omega);simp[oZ,Jq,Jo,Jp,Hw,Gw,Fw,Du,DC,Dz,Dv,Dy,DJ,Dw,eD,fm,jm,ty,nth,nk,nt,nc,no,jh,iD,tD,rD,mq,LM,kS,lY,LU,uT,vR,e,j, *];done)|(replace e:¬(lB).length=3:=(by have l:¬(((lB).length:Nat):Int)=3:=e;omega);cases j;simp[oZ,Jq,Jo,Jp,Hw,Gw,Fw,Du,DC,Dz,Dv,Dy,DJ,Dw,eD,fm,jm,ty,nth,nk,nt,nc,no,jh,iD,tD,rD,mq,LM,kS,lY,LU,uT,vR,e, *];done))|(rcases ao9 qm with⟨e,j⟩|⟨e,j⟩<;>(have q:(((lB).length:Nat):Int)=4\/¬(((lB).length:Nat):Int)=4:=(by first|exact .inl e|exact .inr e))<;>first|(cases j;done)|(replace e:(lB).length=4:=(by have l:(((lB).length:Nat):Int)=4:=e;omega);simp[oZ,Jq,Jo,Jp,Hw,Gw,Fw,Du,DC,Dz,Dv,Dy,DJ,Dw,eD,fm,jm,ty,nth,nk,nt,nc,no,jh,iD,tD,rD,mq,LM,kS,lY,LU,uT,vR,e,j, *];done)|(replace e:¬(lB).length=4:=(by have l:¬(((lB).length:Nat):Int)=4:=e;omega);cases j;simp[oZ,Jq,Jo,Jp,Hw,Gw,Fw,Du,DC,Dz,Dv,Dy,DJ,Dw,eD,fm,jm,ty,nth,nk,nt,nc,no,jh,iD,tD,rD,mq,LM,kS,lY,LU,uT,vR,e, *];done))):P:=h
open aJU in
def aMc (E':bH T) (n:Nat) (hn:n+100<=1000000) (d':(Ny n).aA T) (a':(NA n).aA T) (e':(CZ n).aA T) (m':(Bq n).aA T) (y:(Nz).aA T) (E:(Gr (3*n+2)).aA T):(Gp (n+1)).aA T:=by
 intro V pre ⟨g0,Z⟩
 match V,g0 with
 |[.agg s6],⟨A0,hex⟩=>
 obtain⟨t6,u6,c0,o0,rfl,D0,E0,w'⟩:=jT A0;have A:fG T _ _:=(ac d' aow (ac (Lv E') KG (ac a' Nn (ac e' I9 (ac (JL E') CQ (ac m' CS (ac y aoB (ac E aeF an))))))));have aD:=(lc (aMa E' n hn d' a' e' m' y E) aB8 ln);refine mY (la:=kR) E' auw A.1 aD.1 A.2 aD.2 auv (kD D0 E0 w' aX) Z (fun w=>?_);subst w;replace hex:=hex rfl;have hall:∀x∈c0,aI x<=n:=fun x W=>by have F':=qj W;rw[wY] at hex;omega
 have OG:∀x∈c0,aJ O x (y8 8):=fun x W=>w'.mem x W;refine fO M ?_;refine au aj (fun b2=>?_) (fun b2=>oG);refine au aj (fun F'=>?_) (fun F'=>?_)
 ·replace F':¬(c0).length<=0:=aC
  obtain⟨v6,lB,rfl,d3,d2,n'⟩:=pJ w' aC aC;obtain⟨w6,x6,y6,z6,rfl,A6,D6⟩:=aT d2;refine aR ?_;refine au aj (fun e2=>?_) (fun e2=>oG);refine aR ?_;refine aR ?_;refine au aj (fun f2=>?_) (fun f2=>?_)
  ·refine rV M (fun k=>asa k (Ad:=YL) (bF:=by exact(fun x W=>hall x (gF _ W)))) fu (fun E6 hy4 e=>?_) fun F6 u hy4 x' e Zc=>?_
   ·obtain⟨C0,g2,h2,C3,C4,C5,C6,i2,j2,rfl⟩:=zA e
    replace hy4:=nz hy4;refine eT M (fun k=>pG k (bF:=by exact pX)) fun e=>?_
    refine au aj (fun g'=>?_) (fun g'=>dQ);exact aqP
   ·replace hy4:=nz hy4
    obtain⟨h0,rfl⟩:=lV e;obtain⟨F0,L0,M0,P0,T0,W0,X0,a1,b1,rfl⟩:=zA e;refine eT M (fun k=>pG k (bF:=by exact pX)) fun e=>?_
    refine au aj (fun g'=>?_) (fun g'=>jf M (bG.err qE x' True.intro));refine jo (uw M x') ?_;exact jf M (bG.err qE x' True.intro)
  ·refine au aj (fun k2=>?_) (fun k2=>?_)
   ·refine rV M (fun k=>asa k (Ad:=YL) (bF:=by exact(fun x W=>hall x (gF _ W)))) fu (fun L6 qm e=>?_) fun M6 u qm y' e ha5=>?_
    ·obtain⟨C0,g2,h2,C3,C4,C5,C6,i2,j2,rfl⟩:=zA e
     replace qm:=nz qm;refine eT M (fun k=>pG k (bF:=by exact pX)) fun e=>?_
     refine au aj (fun h'=>?_) (fun h'=>dQ);exact aqP
    ·replace qm:=nz qm
     obtain⟨h0,rfl⟩:=lV e;obtain⟨F0,L0,M0,P0,T0,W0,X0,a1,b1,rfl⟩:=zA e;refine eT M (fun k=>pG k (bF:=by exact pX)) fun e=>?_
     refine au aj (fun h'=>?_) (fun h'=>jf M (bG.err qE y' True.intro));refine jo (uw M y') ?_;exact jf M (bG.err qE y' True.intro)
   ·refine au aj (fun l2=>?_) (fun l2=>?_)
    ·refine au aj (fun g'=>?_) (fun g'=>?_)
     ·replace g':(lB).length=4:=aC
      obtain⟨L',h0,e1,P6,rfl,i',i0,j0,m2⟩:=Jl n' aC;obtain⟨M',P',T',W',rfl,X',a0⟩:=aT i';obtain⟨n2,o2,r2,s2,rfl,u2,v2⟩:=aT i0;obtain⟨w2,x2,y2,A2,rfl,D2,E2⟩:=aT j0;obtain⟨T6,W6,X6,a7,rfl,b7,c7⟩:=aT m2;refine rV M Dp fu (fun d7 f1 e=>?_) fun k0 u f1 F e e3=>?_
      ·refine rV M (fun k=>agt k (bF:=by exact(hall _ w_))) fu (fun g1 z8 e=>?_) fun j' u z8 sW e ha8=>?_
       ·obtain⟨f3,g3⟩:=g1
        have m8:=jd (tH e).2;replace z8:=nz z8;have h3:=Uv z8;refine rV M (fun k=>agt k (bF:=by exact(hall _ w_))) fu (fun b0 jA e=>?_) fun o' u jA vH e OC=>?_
        ·obtain⟨p',h1⟩:=b0
         have m9:=jd (tH e).2;replace jA:=nz jA;have i1:=Uv jA;refine kX M zq fun u hR e=>?_;obtain⟨F2,rfl⟩:=lV e;obtain⟨kY,tY,xY,cY,rfl,M2,P2⟩:=gQ e;have aUV:=rR hR;replace aUV:=FP aUV;clear hR;refine rV M (fun k=>yA k (bF:=by exact(hall _ w_))) fu (fun P xE e=>?_) fun j1 u xE Zd e k'=>?_
         ·obtain⟨Z0,e7,f7,g7,h7,i7,j7,k7,l7,m7,rfl⟩:=nH e
          replace xE:=nz xE;refine eT M (fun k=>pG k (bF:=by exact pX)) fun e=>?_
          refine au aj (fun b'=>?_) (fun b'=>dQ);exact aqy
         ·replace xE:=nz xE
          obtain⟨k1,rfl⟩:=lV e;obtain⟨i3,j3,k3,l3,m3,n3,o3,r3,s3,u3,rfl⟩:=nH e;exact aqB
        ·replace jA:=nz jA
         obtain⟨_,_,rfl,l1,m1⟩:=Ia e;obtain⟨n7,rfl,o7,p7⟩:=sH l1;obtain⟨q7,rfl,r7,s7⟩:=sH m1;refine kX M zq fun u hR e=>?_;obtain⟨o1,rfl⟩:=lV e;obtain⟨r1,s1,u1,v1,rfl,w1,x1⟩:=gQ e;have aUV:=rR hR;replace aUV:=FP aUV;clear hR;refine yO (f:=o') vH M (fun k=>(I9 rfl _ _ vH k).1) fun u e k'=>?_;obtain⟨v3,rfl⟩:=lV e;obtain⟨w3,x3,y3,A3,D3,E3,F3,M3,P3,T3,rfl⟩:=nH e;refine eT M (fun k=>pG k (bF:=by exact pX)) fun e=>?_
         refine au aj (fun b'=>?_) (fun b'=>jf M (bG.err qE vH True.intro));exact ap1
       ·replace z8:=nz z8
        obtain⟨_,_,rfl,z',A1⟩:=Ia e;obtain⟨T2,rfl,W2,X2⟩:=sH z';obtain⟨t7,rfl,u7,v7⟩:=sH A1;refine yO (f:=j') sW M (fun k=>(Nn rfl _ _ sW k).1) fun u e OC=>?_;obtain⟨_,_,rfl,l0,m0⟩:=Ia e;obtain⟨W3,rfl,X3,a4⟩:=sH l0;obtain⟨b4,rfl,c4,d4⟩:=sH m0;refine kX M zq fun u hR e=>?_;obtain⟨e4,rfl⟩:=lV e;obtain⟨f4,g4,h4,i4,rfl,j4,k4⟩:=gQ e;have aUV:=rR hR;replace aUV:=FP aUV;clear hR;refine yO (f:=j') sW M (fun k=>(I9 rfl _ _ sW k).1) fun u e k'=>?_;obtain⟨l4,rfl⟩:=lV e;obtain⟨m4,n4,o4,p4,q4,r4,s4,t4,u4,v4,rfl⟩:=nH e;refine eT M (fun k=>pG k (bF:=by exact pX)) fun e=>?_
        refine au aj (fun b'=>?_) (fun b'=>jf M (bG.err qE sW True.intro));refine jo (uw M sW) ?_;exact jf M (bG.err qE sW True.intro)
      ·obtain⟨sP,rfl⟩:=JM e
       refine yO (f:=k0) F M (fun k=>(Nn rfl _ _ F k).1) fun u e ha8=>?_;obtain⟨_,_,rfl,r0,s0⟩:=Ia e;obtain⟨q',rfl,D1,E1⟩:=sH r0;obtain⟨w4,rfl,x4,y4⟩:=sH s0;refine yO (f:=k0) F M (fun k=>(Nn rfl _ _ F k).1) fun u e OC=>?_;obtain⟨_,_,rfl,t0,u0⟩:=Ia e;obtain⟨z4,rfl,A4,D4⟩:=sH t0;obtain⟨E4,rfl,F4,L4⟩:=sH u0;refine kX M zq fun u hR e=>?_;obtain⟨M4,rfl⟩:=lV e;obtain⟨P4,T4,W4,X4,rfl,a5,b5⟩:=gQ e;have aUV:=rR hR;replace aUV:=FP aUV;clear hR;refine yO (f:=k0) F M (fun k=>(I9 rfl _ _ F k).1) fun u e k'=>?_;obtain⟨c5,rfl⟩:=lV e;obtain⟨d5,e5,f5,g5,h5,i5,j5,k5,l5,m5,rfl⟩:=nH e;refine eT M (fun k=>pG k (bF:=by exact pX)) fun e=>?_
       refine au aj (fun b'=>?_) (fun b'=>jf M (bG.err qE F True.intro));refine jo (uw M F) ?_;exact jf M (bG.err qE F True.intro)
     ·replace g':¬(lB).length=4:=aC
      refine eT M (fun k=>pG k (bF:=by exact pX)) fun e=>?_
      exact au aj (fun t'=>oG) (fun t'=>oG)
    ·refine au aj (fun g'=>?_) (fun g'=>?_)
     ·refine au aj (fun h'=>?_) (fun h'=>?_)
      ·replace h':(lB).length=3:=aC
       obtain⟨L',h0,e1,rfl,i',i0,j0⟩:=Dh n' aC;obtain⟨M',P',T',W',rfl,X',a0⟩:=aT i';obtain⟨n2,o2,r2,s2,rfl,u2,v2⟩:=aT i0;obtain⟨w2,x2,y2,A2,rfl,D2,E2⟩:=aT j0;refine rV M Dp fu (fun g1 z8 e=>?_) fun j' u z8 sW e ha8=>?_
       ·refine rV M (fun k=>agt k (bF:=by exact(hall _ w_))) fu (fun b0 jA e=>?_) fun o' u jA vH e OC=>?_
        ·obtain⟨p',h1⟩:=b0
         have m9:=jd (tH e).2;replace jA:=nz jA;have i1:=Uv jA;refine rV M Y4 fu (fun f' l' e=>?_) fun r' u l' BD e Zb=>?_
         ·have m10:=jd e
          obtain⟨asq,a3⟩:=zm l';refine K.bX M (fun k=>Sv k (.inl rfl) rfl (fun _=>by first|exact hex|assumption|(intro x W;have W:x∈f':=W;rw[asq] at W;exact fF (Ir (wz W)) (hall _ w_))) (fun _=>HL)) fun j x S' ks out q hR e=>?_
          match j,q,hR with
          |0,q,⟨p,h,N⟩=>
           replace h:bG (bO (eO fun x=>iJ n x (bg ((p'.map bw)))) ([]:G Rw) (f')) (fun l=>.one (.R l)) (fun x=>∃a,x=.one (.R a)/\bM a<=bM (f')) aM ((fun l=>.one (.R l)) ([]:G Rw)) p:=h
           try simp only[kS,lY] at h
           subst N;replace q:(wu n).sig.outs[0]?=some (x,S',ks):=q;cases q;rcases h.vv with⟨F1,xE,w,c'⟩|⟨v0,xE,Ze,w,Jy⟩
           ·subst w
            simp only[DA.one.injEq,DA.dD.injEq,D.R.injEq,nV,tZ,Tg] at c';subst c';refine eH.zero ?_;refine kX M zq fun u hR e=>?_;obtain⟨w7,rfl⟩:=lV e;obtain⟨L1,M1,P1,T1,rfl,x7,y7⟩:=gQ e;have BA:=rR hR;replace BA:=FP BA;clear hR;refine eT M (fun k=>pG k (bF:=by exact pX)) fun e=>?_
            refine au aj (fun A'=>?_) (fun A'=>dQ);refine fO M ?_;exact jf M (bG.err (f:=((jM [(.int .i64 L1),(.str M1),(.int .i64 P1),(.R T1)]),o0)) qE (by first|(show(((jM [(.int .i64 L1),(.str M1),(.int .i64 P1),(.R T1)]):Int)≠0);decide)|assumption|simp_all) True.intro)
           ·subst w
            refine eH.zero ?_;refine kX M zq fun u hR e=>?_;obtain⟨z7,rfl⟩:=lV e;obtain⟨A7,D7,E7,F7,rfl,L7,M7⟩:=gQ e;exact aqm
          |1,q,⟨p,P,h,N⟩=>
           replace h:bG (bO (eO fun x=>iJ n x (bg ((p'.map bw)))) ([]:G Rw) (f')) (fun l=>.one (.R l)) (fun x=>∃a,x=.one (.R a)/\bM a<=bM (f')) aM ((fun l=>.one (.R l)) P) p:=h
           try simp only[kS,lY] at h
           subst N;replace q:(wu n).sig.outs[1]?=some (x,S',ks):=q;cases q;rcases h.vv with⟨F1,xE,w,c'⟩|⟨v0,xE,Ze,w,Jy⟩
           ·subst w
            simp only[DA.one.injEq,DA.dD.injEq,D.R.injEq,nV,tZ,Tg] at c';subst c';refine eH.succ (eH.zero ?_);refine kX M zq fun u hR e=>?_;obtain⟨F2,rfl⟩:=lV e;obtain⟨kY,tY,xY,cY,rfl,M2,P2⟩:=gQ e;have BA:=rR hR;replace BA:=FP BA;clear hR;refine eT M (fun k=>pG k (bF:=by exact pX)) fun e=>?_
            refine au aj (fun A'=>?_) (fun A'=>dQ);exact aqy
           ·subst w
            refine eH.succ (eH.zero ?_);refine kX M zq fun u hR e=>?_;obtain⟨P7,rfl⟩:=lV e;obtain⟨T7,W7,X7,a8,rfl,b8,c8⟩:=gQ e;exact aqm
          |j+2,q,_=>simp[lam,wu,H9] at q
         ·obtain⟨e0,rfl,d8,e8⟩:=sH e
          refine K.bX M (fun k=>Sv k (.inr ⟨_,BD,rfl⟩) rfl (fun w=>absurd (nD (f:=r') w.symm) BD) (fun w=>absurd (nD (f:=r') w.symm) BD)) fun j x S' ks out q hR e=>?_
          match j,q,hR with
          |0,q,⟨p,h,N⟩=>
           replace h:bG (bO (eO fun x=>iJ n x (bg ((p'.map bw)))) ([]:G Rw) (e0)) (fun l=>.one (.R l)) (fun x=>∃a,x=.one (.R a)/\bM a<=bM (e0)) (dL r') ((fun l=>.one (.R l)) ([]:G Rw)) p:=h
           try simp only[kS,lY] at h
           subst N;replace q:(wu n).sig.outs[0]?=some (x,S',ks):=q;cases q;obtain⟨w,Jy⟩:=h.oq BD
           ·subst w
            refine eH.zero ?_;refine kX M zq fun u hR e=>?_;obtain⟨k1,rfl⟩:=lV e;obtain⟨n5,o5,p5,q5,rfl,r5,s5⟩:=gQ e;exact ark
          |1,q,⟨p,P,h,N⟩=>
           replace h:bG (bO (eO fun x=>iJ n x (bg ((p'.map bw)))) ([]:G Rw) (e0)) (fun l=>.one (.R l)) (fun x=>∃a,x=.one (.R a)/\bM a<=bM (e0)) (dL r') ((fun l=>.one (.R l)) P) p:=h
           try simp only[kS,lY] at h
           subst N;replace q:(wu n).sig.outs[1]?=some (x,S',ks):=q;cases q;obtain⟨w,Jy⟩:=h.oq BD
           ·subst w
            refine eH.succ (eH.zero ?_);refine kX M zq fun u hR e=>?_;obtain⟨o1,rfl⟩:=lV e;obtain⟨r1,s1,u1,v1,rfl,w1,x1⟩:=gQ e;exact ark
          |j+2,q,_=>simp[lam,wu,H9] at q
        ·replace jA:=nz jA
         obtain⟨_,_,rfl,W1,z'⟩:=Ia e;obtain⟨X1,rfl,f8,g8⟩:=sH W1;obtain⟨T2,rfl,W2,X2⟩:=sH z';refine yO (f:=o') vH M (fun k=>(CQ rfl _ _ vH k).1) fun u e Zb=>?_;obtain⟨v',rfl,t5,u5⟩:=sH e;refine K.bX M (fun k=>Sv k (.inr ⟨_,vH,rfl⟩) rfl (fun w=>absurd (nD (f:=o') w.symm) vH) (fun w=>absurd (nD (f:=o') w.symm) vH)) fun j x S' ks out q hR e=>?_
         match j,q,hR with
         |0,q,⟨p,h,N⟩=>
          replace h:bG (bO (eO fun x=>iJ n x (bg (X1))) ([]:G Rw) (v')) (fun l=>.one (.R l)) (fun x=>∃a,x=.one (.R a)/\bM a<=bM (v')) (dL o') ((fun l=>.one (.R l)) ([]:G Rw)) p:=h
          try simp only[kS,lY] at h
          subst N;replace q:(wu n).sig.outs[0]?=some (x,S',ks):=q;cases q;obtain⟨w,Jy⟩:=h.oq vH
          ·subst w
           refine eH.zero ?_;refine kX M zq fun u hR e=>?_;obtain⟨v5,rfl⟩:=lV e;obtain⟨w5,x5,y5,z5,rfl,A5,D5⟩:=gQ e;exact arD
         |1,q,⟨p,P,h,N⟩=>
          replace h:bG (bO (eO fun x=>iJ n x (bg (X1))) ([]:G Rw) (v')) (fun l=>.one (.R l)) (fun x=>∃a,x=.one (.R a)/\bM a<=bM (v')) (dL o') ((fun l=>.one (.R l)) P) p:=h
          try simp only[kS,lY] at h
          subst N;replace q:(wu n).sig.outs[1]?=some (x,S',ks):=q;cases q;obtain⟨w,Jy⟩:=h.oq vH
          ·subst w
           refine eH.succ (eH.zero ?_);refine kX M zq fun u hR e=>?_;obtain⟨E5,rfl⟩:=lV e;obtain⟨F5,L5,M5,P5,rfl,T5,W5⟩:=gQ e;exact arD
         |j+2,q,_=>simp[lam,wu,H9] at q
       ·obtain⟨h8,rfl⟩:=JM e
        refine yO (f:=j') sW M (fun k=>(Nn rfl _ _ sW k).1) fun u e OC=>?_;obtain⟨_,_,rfl,w0,x0⟩:=Ia e;obtain⟨f0,rfl,X5,a6⟩:=sH w0;obtain⟨b6,rfl,c6,d6⟩:=sH x0;refine yO (f:=j') sW M (fun k=>(CQ rfl _ _ sW k).1) fun u e Zb=>?_;obtain⟨q',rfl,D1,E1⟩:=sH e;refine K.bX M (fun k=>Sv k (.inr ⟨_,sW,rfl⟩) rfl (fun w=>absurd (nD (f:=j') w.symm) sW) (fun w=>absurd (nD (f:=j') w.symm) sW)) fun j x S' ks out q hR e=>?_
        match j,q,hR with
        |0,q,⟨p,h,N⟩=>
         replace h:bG (bO (eO fun x=>iJ n x (bg (f0))) ([]:G Rw) (q')) (fun l=>.one (.R l)) (fun x=>∃a,x=.one (.R a)/\bM a<=bM (q')) (dL j') ((fun l=>.one (.R l)) ([]:G Rw)) p:=h
         try simp only[kS,lY] at h
         subst N;replace q:(wu n).sig.outs[0]?=some (x,S',ks):=q;cases q;obtain⟨w,Jy⟩:=h.oq sW
         ·subst w
          refine eH.zero ?_;refine kX M zq fun u hR e=>?_;obtain⟨e6,rfl⟩:=lV e;obtain⟨f6,g6,h6,i6,rfl,j6,k6⟩:=gQ e;exact apT
        |1,q,⟨p,P,h,N⟩=>
         replace h:bG (bO (eO fun x=>iJ n x (bg (f0))) ([]:G Rw) (q')) (fun l=>.one (.R l)) (fun x=>∃a,x=.one (.R a)/\bM a<=bM (q')) (dL j') ((fun l=>.one (.R l)) P) p:=h
         try simp only[kS,lY] at h
         subst N;replace q:(wu n).sig.outs[1]?=some (x,S',ks):=q;cases q;obtain⟨w,Jy⟩:=h.oq sW
         ·subst w
          refine eH.succ (eH.zero ?_);refine kX M zq fun u hR e=>?_;obtain⟨l6,rfl⟩:=lV e;obtain⟨m6,n6,o6,p6,rfl,q6,r6⟩:=gQ e;exact apT
        |j+2,q,_=>simp[lam,wu,H9] at q
      ·replace h':¬(lB).length=3:=aC
       refine eT M (fun k=>pG k (bF:=by exact pX)) fun e=>?_
       exact au aj (fun u'=>oG) (fun u'=>oG)
     ·refine au aj (fun h'=>?_) (fun h'=>?_)
      ·refine au aj (fun t'=>?_) (fun t'=>?_)
       ·replace t':(lB).length=1:=aC
        obtain⟨L',rfl,i'⟩:=Fq n' aC;obtain⟨M',P',T',W',rfl,X',a0⟩:=aT i';refine rV M Dp fu (fun b0 jA e=>?_) fun o' u jA vH e OC=>?_
        ·refine eT M (fun k=>pG k (bF:=by exact pX)) fun e=>?_
         exact aqO
        ·obtain⟨b3,rfl⟩:=JM e
         refine eT M (fun k=>pG k (bF:=by exact pX)) fun e=>?_
         refine au aj (fun a2=>?_) (fun a2=>jf M (bG.err qE vH True.intro));exact ap1
       ·replace t':¬(lB).length=1:=aC
        refine eT M (fun k=>pG k (bF:=by exact pX)) fun e=>?_
        exact au aj (fun s'=>oG) (fun s'=>oG)
      ·refine au aj (fun t'=>?_) (fun t'=>?_)
       ·refine au aj (fun u'=>?_) (fun u'=>?_)
        ·replace u':(lB).length=1:=aC
         obtain⟨L',rfl,i'⟩:=Fq n' aC;obtain⟨M',P',T',W',rfl,X',a0⟩:=aT i';refine rV M Dp fu (fun f' l' e=>?_) fun r' u l' BD e Zb=>?_
         ·refine eT M (fun k=>pG k (bF:=by exact pX)) fun e=>?_
          exact ap6
         ·obtain⟨b3,rfl⟩:=JM e
          refine eT M (fun k=>pG k (bF:=by exact pX)) fun e=>?_
          refine au aj (fun D'=>?_) (fun D'=>jf M (bG.err qE BD True.intro));refine jo (uw M BD) ?_;exact jf M (bG.err qE BD True.intro)
        ·replace u':¬(lB).length=1:=aC
         exact aqk
       ·refine au aj (fun u'=>?_) (fun u'=>?_)
        ·refine au aj (fun s'=>?_) (fun s'=>?_)
         ·replace s':(lB).length=1:=aC
          obtain⟨L',rfl,i'⟩:=Fq n' aC;obtain⟨M',P',T',W',rfl,X',a0⟩:=aT i';refine rV M (fun k=>yA k (bF:=by exact(hall _ w_))) fu (fun P xE e=>?_) fun j1 u xE Zd e k'=>?_
          ·obtain⟨F0,L0,M0,P0,T0,W0,X0,a1,b1,i8,rfl⟩:=nH e
           replace xE:=nz xE;refine eT M (fun k=>pG k (bF:=by exact pX)) fun e=>?_
           exact arw
          ·replace xE:=nz xE
           obtain⟨e1,rfl⟩:=lV e;obtain⟨j8,k8,l8,n8,o8,p8,q8,r8,s8,t8,rfl⟩:=nH e;exact aqB
         ·replace s':¬(lB).length=1:=aC
          refine eT M (fun k=>pG k (bF:=by exact pX)) fun e=>?_
          exact au aj (fun D'=>oG) (fun D'=>oG)
        ·exact aqk
 ·replace F':(c0).length<=0:=aC
  obtain rfl:=oV (l:=c0) aC;exact oG
end
end
end Go.Proofs.YtdjcfaaongngeaaGreatDoor

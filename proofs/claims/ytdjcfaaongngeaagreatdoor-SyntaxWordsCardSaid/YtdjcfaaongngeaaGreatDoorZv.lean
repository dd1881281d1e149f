/- A part of the proof: see the last text. -/
import Derived.Test.YtdjcfaaongngeaaGreatDoorZr
import Derived.Test.YtdjcfaaongngeaaGreatDoorZs
set_option linter.all false
set_option maxRecDepth 100000
set_option maxHeartbeats 0
namespace Go.Proofs.YtdjcfaaongngeaaGreatDoor
noncomputable section
variable {b:Nat}{T:Nat->ah D}{P:Prop}{l L:G Rw}{q:G Nat}{k o:Int}
section
open Go Go.RowKit
def aHv:G bJ:=[⟨135,some [C,C],(.agg [C,.str,C,.R 2])⟩,⟨137,some [C,C],(.one (.R 2))⟩,ah4,Uh,ah9]
def aHw:Tree:=.B (.bin .neq bQ aH) Kh (.B Qn (.call 0 KA bL (.leaf 0 adH [])) (.B VQ ML (.B QA ML (.fT Kv (.B Wo ML (.fT mH (.fT mE (.B (.bin .eql kM MG) (.call 1 uh bL (.leaf 0 [.agg [MX,aQ,aN,dP],dI,bT] [])) (.B (.bin .eql kM VZ) (.B (.bin .lss yg iP) ML (.call 1 uh bL (.leaf 0 [.agg [MR,aQ,aN,dP],dI,bT] []))) (.B (.bin .eql kM WB) (.B (.bin .neq yg jI) ML (.fT EM (.B (.bin .neq acH cO) acM (.call 3 [aeo] [] (.B dU (.call 4 [aeo] [] (.B fI acM (.fT MO (.call 2 [Ko,aF] bL (.fT ab9 (.fT (.bin .leq (.len (.cat .d9 bZ)) mG) (.fT (.bin .leq (.len akU) mG) (.call 2 [MV,.S akU] QZ (.leaf 0 [.agg [Cy,aQ,aN,.S (.snoc akV [jq,kQ,pU,lG])],qH,rZ] []))))))))) acM))))) (.B (.bin .eql yg aH) ML (.call 3 [QX] [] (.B dU (.call 4 [QX] [] (.B fI alZ (.call 1 uh bL (.leaf 0 [.agg [q9,QX,aN,bT],dZ,fD] [])))) alZ)))))))))))))
def atO:TC 123 [oP,.S (.var 9)] lW aHv [] aHw (fl++fZ++[.R 0]):=tc
def atP:gU 123:=gY Tryz.func123 aS
def aHu.qE (h:P:=by exact aU5):P:=h
open aHu in
def aCG (F:bH T) (n:Nat) (q:(Rk n).aA T) (h:(E9 n).aA T):(E9 (n+1)).aA T:=by
 intro V pre ⟨c',Z⟩
 match V,c' with
 |[.agg o0,.one d1],⟨f',g',P,hex⟩=>
 obtain⟨k0,r0,c0,s0,rfl,h',i',W⟩:=jT f';obtain⟨p',rfl,j',k'⟩:=bW g';have A:fG T _ _:=(ac (aCI F) aBD (ac q aBC (ac h Xg (ac (H_ F) Rf (ac (Ld F) aeD an)))));refine mY (la:=kR) F atP A.1 all_nil A.2 bn atO (kD h' i' W (ay (eP j' k') aX)) Z (fun q'=>?_);subst q';replace P:(p').length+(n+1)<=1000000:=P rfl;replace hex:=hex rfl;have hall:∀x∈c0,aI x<=n:=fun x j=>by have l':=qj j;rw[wY] at hex;omega
 refine aaT (v:=9) 999999 rfl I ?_;refine jo M ?_;refine au aj (fun r'=>?_) (fun r'=>?_)
 ·refine dH M (fun k=>aEs k (Ad:=by exact(show k0=1 by first|assumption|omega|simp_all))) fun y1 hy1 e=>?_
  obtain⟨s',t',t0,u',rfl,v',w'⟩:=gQ e;replace hy1:=nz hy1;exact dQ
 ·refine au aj (fun l'=>dJ) (fun l'=>?_)
  refine au aj (fun x'=>dJ) (fun x'=>?_);obtain⟨u0,lB,rfl,f0,y',a'⟩:=pJ W aC aC;obtain⟨s',t',u',v0,rfl,v',w'⟩:=aT y';refine aR ?_;refine au aj (fun z'=>dJ) (fun z'=>?_);refine aR ?_;refine aR ?_;refine au aj (fun A'=>?_) (fun A'=>?_)
  ·refine dH M (fun k=>agr k (bF:=by exact(fun x j=>hall x (gF _ j)))) fun w0 qm e=>?_
   have x0:=jd e;exact KX
  ·refine au aj (fun D'=>?_) (fun D'=>?_)
   ·refine au aj (fun d'=>dJ) (fun d'=>?_)
    refine dH M (fun k=>agr k (bF:=by exact(fun x j=>hall x (gF _ j)))) fun A0 b' e=>?_
    have D0:=jd e;replace b':=nz b';exact dQ
   ·refine au aj (fun d'=>?_) (fun d'=>?_)
    ·refine au aj (fun u=>have u:¬(lB).length=3:=aC;dJ) (fun u=>?_)
     replace u:(lB).length=3:=aC;obtain⟨E',E0,F0,rfl,e',F',L'⟩:=Dh a' aC;obtain⟨M',P',T',W',rfl,X',a0⟩:=aT e';obtain⟨L0,M0,P0,T0,rfl,W0,X0⟩:=aT F';obtain⟨a1,b1,e1,f1,rfl,g1,h1⟩:=aT L';refine aR ?_;refine au aj (fun b0=>dJ) (fun b0=>?_);refine eT M Ju fun e=>?_;refine au aj (fun m'=>?_) (fun m'=>dJ);refine eT M Oz fun e=>?_;refine au aj (fun n'=>dJ) (fun n'=>?_);refine aR ?_;refine dH M (fun k=>Sq k (bF:=by exact(hall _ jS))) fun g0 w e=>?_
     obtain⟨i1,j1,k1,l1,rfl,m1,o1⟩:=gQ e;replace w:=nz w;refine aR ?_;refine aR ?_;refine aR ?_;refine dH M (fun k=>Sq k (bF:=by exact(hall _ jS))) fun h0 y e=>?_
     obtain⟨r1,s1,u1,v1,rfl,w1,x1⟩:=gQ e;replace y:=nz y;exact dQ
    ·refine au aj (fun u=>?_) (fun u=>?_)
     ·obtain rfl:=oV (l:=lB) aC
      exact dJ
     ·obtain⟨E',A1,rfl,i0,e',j0⟩:=pJ a' aC aC
      obtain⟨M',P',T',W',rfl,X',a0⟩:=aT e';refine eT M Ju fun e=>?_;refine au aj (fun e0=>?_) (fun e0=>dJ);refine eT M Oz fun e=>?_;refine au aj (fun o'=>dJ) (fun o'=>?_);refine dH M (fun k=>agr k (bF:=by exact(fun x j=>hall x (gF _ j)))) fun l0 E e=>?_
      have m0:=jd e;replace E:=nz E;exact dQ
def ahL:G bJ:=[avI,⟨154,none,(.dD [(.agg [C,.str,C,.R 2]),(.agg [C,C])])⟩,ah7]
def TV:eX:=⟨1,108,anC,[(.ret,⟨[(4,iM),(5,jk)],[(11,MJ),(12,Gd)],24⟩,[C,C,C,C]),(.normal,⟨[(4,iM),(5,jk),(8,ER)],[(11,MJ),(12,Gd),(23,.cells false [dS,kT,dz,.aV])],24⟩,[C,C,C,C,C,C]),(.normal,⟨[(4,iM),(5,jk),(8,ER)],[(11,MJ),(12,Gd),(23,.cells false [dS,kT,dz,.gy 24 bZ 4]),(24,.seq 4 bZ)],25⟩,[C,C,C,C,C,C,.R 2])]⟩
def auM:G iq:=[⟨anC,[.R 0,C,C,C,C,C,C,.R 1,C],.B (.bin .lss fI sO) (.fT (.bin .geq fI aH) (.call 2 [.agg akE,dY] [] (.B (.bin .neq jr aH) (.leaf 2 [aN,aN,jg,kN] []) (.leaf 1 [dY,fJ,cu,b_,dS,dz,eu,.S akV,dP,.S (.bin .add fI cO)] [(24,28)])))) (.leaf 3 [fJ,cu,b_,dS,dz,eu] [])⟩,⟨⟨[(1,dY),(4,iM),(5,jk),(8,ER),(82,dI),(83,.S QI),(84,bT)],[(11,Vs),(12,Xc),(23,.cells false [dz,kT,eu,.gy 24 dU 4]),(24,.seq 4 dU)],25⟩,[.R 0,C,C,C,C,C,C,.R 2,.R 1,C],.B (.bin .lss fK QI) (.fT VI (.call 2 [.agg am8,dY] [] (.B (.bin .neq jQ aH) ajJ (.fT (.bin .leq (.len (.snoc dU QF)) mG) (.leaf 1 [dY,fJ,cu,b_,dS,dz,eu,.S (.snoc dU QF),dI,.S (.bin .add fK cO)] [(24,29)]))))) (.leaf 4 akq [(24,24)])⟩]
def aai:eX:=⟨1,108,ajH,[(.ret,⟨[(4,iM),(5,jk)],[(11,MJ),(12,Gd)],30⟩,[C,C,C,C]),(.normal,⟨[(4,iM),(5,jk),(8,ER)],[(11,MJ),(12,Gd),(23,.cells false [dS,dz,eu,.aV])],30⟩,[C,C,C,C,C,.str,C]),(.normal,⟨[(4,iM),(5,jk),(8,ER)],[(11,MJ),(12,Gd),(23,.cells false [dS,dz,eu,.gy 30 dU 4]),(30,.seq 4 dU)],31⟩,[C,C,C,C,C,.str,C,.R 2])]⟩
def auN:G iq:=[⟨ajH,[.R 0,C,C,C,C,C,.str,C,.R 1,C],.B (.bin .lss fK QI) (.fT VI (.call 2 [.agg am8,dY] [] (.B (.bin .neq jQ aH) ajJ (.leaf 1 [dY,fJ,cu,b_,dS,dz,eu,dP,.S (.snoc .d9 QF),dI,.S (.bin .add fK cO)] [(30,34)])))) (.leaf 3 akq [])⟩,⟨⟨[(1,dY),(4,iM),(5,jk),(8,ER),(82,bT),(83,.S (.len fK)),(84,dZ)],[(11,Vs),(12,Xc),(23,.cells false [dz,eu,dP,.gy 30 fI 4]),(30,.seq 4 fI)],31⟩,[.R 0,C,C,C,C,C,.str,C,.R 2,.R 1,C],.B (.bin .lss h_ (.len fK)) (.fT VX (.call 2 [.agg [.S (.cell fK h_ 0),.S (.cell fK h_ 1),.S (.cell fK h_ 2),.S (.cell fK h_ 3)],dY] [] (.B (.bin .neq jq aH) (.leaf 2 [aN,aN,mV,lS] []) (.fT (.bin .leq (.len ak4) mG) (.leaf 1 [dY,fJ,cu,b_,dS,dz,eu,dP,.S ak4,bT,.S (.bin .add h_ cO)] [(30,35)]))))) (.leaf 4 [fJ,cu,b_,dS,dz,eu,dP,dI] [(30,30)])⟩]
def aLl:Tree:=.B (.bin .eql qg aH) M8 (.fT ad1 (.B (.bin .neq amq cO) M8 (.fT (.bin .leq cO qg) (.fT adi (.B (.bin .eql QY WB) (.call 1 QK [] ac8) (.B (.bin .eql QY MG) (.bX 0 [dB,aH,aH,aH,aH,jI,aH,QO,aH] (.cons ane (.cons alx an3))) (.B (.bin .eql QY VZ) (.B (.bin .geq (.len QO) iP) (.bX 0 [dB,aH,aH,aH,aH,yX,aH,QO,aH] (.cons ane (.cons alx an3))) M8) (.B (.bin .eql (.len QO) aH) M8 (.call 0 [.agg abY] [] (.B fQ (.bX 1 [dB,aH,aH,aH,aH,iP,QY,aH,QO,aH] (.cons (.leaf 0 [.tuple [.agg [eu,aQ,dP,aF],.agg Ey]] []) (.cons (.leaf 0 [.tuple [.agg [dZ,fD,iG,aF],ME]] []) (.cons (.leaf 0 [.tuple [akg,ME]] []) .nil)))) (.leaf 0 [.tuple [vY,.agg [q9,.S akn]]] [])))))))))))
def aah:ko 140 200 1 TV ahL [] auM:=.of aS
def aaj:ko 140 200 1 aai ahL [] auN:=.of aS
def aLm:TC 140 [.agg [.S (.var 3),.S (.var 4),.S (.var 5),.S (.var 6)],.S (.var 7)] none ahL [TV,aai] aLl (eB++[.R 0]):=tc
def aLn:gU 140:=gY Tryz.func140 aS
def Gt (n:Nat):gu:=⟨TV,fun ds=>match ds with|[.R vars,.int .i64 _,.int .i64 _,.int .i64 _,.int .i64 _,.int .i64 _,.int .i64 _,.R rows,.int .i64 i]=>aW O (.R vars) (.R 0)/\aW O (.R rows) (.R 1)/\i=0/\vars.length+n<=1000000/\(∀x∈rows,aI x<=n)|_=>False,
 fun ds j out=>match ds with
  |[.R vars,.int .i64 z0,.int .i64 z1,.int .i64 z2,.int .i64 z3,.int .i64 e,.int .i64 h,.R rows,_]=>match j with
   |0=>∃f:Fa,bO (eO fun x=>ji n x (bg vars)) [] rows=.error f/\f.1≠0/\out=[.int .i64 0,.int .i64 0,.int .i64 f.1,.int .i64 f.2]
   |1=>bO (eO fun x=>ji n x (bg vars)) [] rows=.ok []/\out=[.int .i64 z0,.int .i64 z1,.int .i64 z2,.int .i64 z3,.int .i64 e,.int .i64 h]
   |_=>∃l,bO (eO fun x=>ji n x (bg vars)) [] rows=.ok l/\out=[.int .i64 z0,.int .i64 z1,.int .i64 z2,.int .i64 z3,.int .i64 e,.int .i64 h,.R l]
  |_=>False⟩
def ar7 {z2 z3 e j:Int} (h:aJ O [.R l,.int .i64 k,.int .i64 o,.int .i64 z2,.int .i64 z3,.int .i64 e,.int .i64 j,.R L,.int .i64 0] [.R 0,C,C,C,C,C,C,.R 1,C]) (e1:l.length+b<=1000000) (q:∀x∈L,aI x<=b):(Gt b).eU [.R l,.int .i64 k,.int .i64 o,.int .i64 z2,.int .i64 z3,.int .i64 e,.int .i64 j,.R L,.int .i64 0]:=by
 obtain⟨u,h⟩:=kV h;obtain⟨w,h⟩:=kV h;obtain⟨y,h⟩:=kV h;obtain⟨A,h⟩:=kV h;obtain⟨E,h⟩:=kV h;obtain⟨F,h⟩:=kV h;obtain⟨P,h⟩:=kV h;obtain⟨T,h⟩:=kV h;exact⟨u,T,rfl,e1,q⟩
def NC (n:Nat):gu:=⟨aai,fun ds=>match ds with|[.R vars,.int .i64 _,.int .i64 _,.int .i64 _,.int .i64 _,.int .i64 _,.str sz,.int .i64 _,.R rows,.int .i64 i]=>aW O (.R vars) (.R 0)/\aW O (.str sz) .str/\aW O (.R rows) (.R 1)/\i=0/\vars.length+n<=1000000/\(∀x∈rows,aI x<=n)|_=>False,
 fun ds j out=>match ds with
  |[.R vars,.int .i64 z0,.int .i64 z1,.int .i64 z2,.int .i64 z3,.int .i64 e,.str sz,.int .i64 h,.R rows,_]=>match j with
   |0=>∃f:Fa,bO (eO fun x=>ji n x (bg vars)) [] rows=.error f/\f.1≠0/\out=[.int .i64 0,.int .i64 0,.int .i64 f.1,.int .i64 f.2]
   |1=>bO (eO fun x=>ji n x (bg vars)) [] rows=.ok []/\out=[.int .i64 z0,.int .i64 z1,.int .i64 z2,.int .i64 z3,.int .i64 e,.str sz,.int .i64 h]
   |_=>∃l,bO (eO fun x=>ji n x (bg vars)) [] rows=.ok l/\out=[.int .i64 z0,.int .i64 z1,.int .i64 z2,.int .i64 z3,.int .i64 e,.str sz,.int .i64 h,.R l]
  |_=>False⟩
def aEr {z2 z3 j u:Int} (h:aJ O [.R l,.int .i64 k,.int .i64 o,.int .i64 z2,.int .i64 z3,.int .i64 j,.str q,.int .i64 u,.R L,.int .i64 0] [.R 0,C,C,C,C,C,.str,C,.R 1,C]) (e1:l.length+b<=1000000) (w:∀x∈L,aI x<=b):(NC b).eU [.R l,.int .i64 k,.int .i64 o,.int .i64 z2,.int .i64 z3,.int .i64 j,.str q,.int .i64 u,.R L,.int .i64 0]:=by
 obtain⟨y,h⟩:=kV h;obtain⟨A,h⟩:=kV h;obtain⟨E,h⟩:=kV h;obtain⟨F,h⟩:=kV h;obtain⟨P,h⟩:=kV h;obtain⟨T,h⟩:=kV h;obtain⟨e,h⟩:=kV h;obtain⟨W,h⟩:=kV h;obtain⟨a',h⟩:=kV h;exact⟨y,e,a',rfl,e1,w⟩
def aNE (h':bH T) (n:Nat) (q:(Jd n).aA T) (E:(C8 n).aA T):(Gt n).aA T 140:=by
 intro ds e'
 match ds,e' with
 |[.R vars,.int .i64 z0,.int .i64 z1,.int .i64 z2,.int .i64 z3,.int .i64 i',.int .i64 j',.R rows,.int .i64 _],⟨A,f',rfl,b',c'⟩=>
 obtain⟨s',k',hlen,d'⟩:=bW f';cases k';refine vL (c:=Gt n) mI mixed (lT h') aah.one aah.bX (fun j o N=>?_) rfl rfl aah.self aah.jC (mK (cs:=[Rz,(Jd n),(C8 n)]) rfl (all_cons (Ur h') (all_cons q (all_cons E all_nil)))) (mP (ls:=[]) rfl all_nil)
  (lQ:=fun i m ds=>match i with
   |0=>ds=[.R vars,.int .i64 z0,.int .i64 z1,.int .i64 z2,.int .i64 z3,.int .i64 i',.int .i64 j',.R rows,.int .i64 (0:Nat)]/\m=rows.length+1
   |1=>∃(k:Nat) (a:G Rw),ds=[.R vars,.int .i64 z0,.int .i64 z1,.int .i64 z2,.int .i64 z3,.int .i64 i',.int .i64 j',.R a,.R rows,.int .i64 k]/\m=rows.length+1-(k+1)/\k<=rows.length/\a.length<=k/\dR O a fC/\bO (eO fun x=>ji n x (bg vars)) [] rows=bO (eO fun x=>ji n x (bg vars)) a (rows.drop k)
   |_=>False) (m:=rows.length+1) ⟨rfl,rfl⟩ ?_
 ·exact ara
 ·intro i st m t' l l'
  match i,l with
  |0,l=>
   obtain rfl:=bI l;obtain⟨rfl,rfl⟩:=l';have hc:bO (eO fun x=>ji n x (bg vars)) [] rows=bO (eO fun x=>ji n x (bg vars)) [] (rows.drop 0):=rfl;refine⟨(ay A (ay aO (ay aO (ay aO (ay aO (ay aO (ay aO (ay f' (ay aO aX))))))))),?_⟩;refine iR rfl (fun h=>?_) (fun h=>?_)
   ·replace h:0<rows.length:=by simpa using h
    refine lM (mg rfl bS) ?_;obtain⟨row,hrow,e⟩:=kZ d' h;have w:=c' _ (kg hrow);obtain⟨k1,t1,c1,o1,rfl,m',n',o'⟩:=jT e;refine nT (jD (vC rfl (gP (gI rfl rfl hrow rfl) (gP (gI rfl rfl hrow rfl) (gP (gI rfl rfl hrow rfl) (gP (gI rfl rfl hrow rfl) uy))))) (jD (sj (d:=.R vars) rfl) qh)) rfl rfl ⟨⟨e,A,b',w⟩,rfl⟩ (fun g' post hR F _=>?_);obtain⟨hR,hq⟩:=hR;subst hq;replace hR:TR (ji n [.int .i64 k1,.str t1,.R c1,.int .i64 o1] (bg vars)) g':=hR;rcases hR with⟨y,hy,hq⟩|⟨f,hy,hf,hq⟩
    ·subst hq
     obtain⟨_,_,hq,P,_⟩:=OL F;simp only[DA.dD.injEq,nV,tZ] at hq;obtain⟨W,_⟩:=hq;subst W;have u:=Dt P;obtain⟨k2,t2,x2,c2,hq,p',q',r'⟩:=oF u;subst hq;refine iR (b:=false) rfl (fun h=>by cases h) (fun _=>?_)
     refine fV rfl ⟨[_,_,_,_,_,_,_,_,_,_],rfl,.inl ⟨rows.length+1-((0+1)+1),Qa,?_,(0+1),[]++[[.int .i64 k2,.str t2,.int .i64 x2,.R c2]],?_,rfl,?_,?_,?_,?_⟩⟩
     ·omega
     ·rfl
     ·omega
     ·first|(simp;done)|(simp;omega)
     ·exact OI True.intro u
     ·exact apP
    ·exact aqx
   ·have h:¬0<rows.length:=by simpa using h
    refine fV rfl ⟨[_,_,_,_,_,_],rfl,.inr ⟨1,_,_,_,rfl,rfl,(ay aO (ay aO (ay aO (ay aO (ay aO (ay aO aX)))))),?_,rfl⟩⟩;exact NV
  |1,l=>
   obtain rfl:=bI l;obtain⟨k,a,rfl,rfl,v',u',a',hc⟩:=l';refine⟨(ay A (ay aO (ay aO (ay aO (ay aO (ay aO (ay aO (ay (eP Yn a') (ay f' (ay aO aX)))))))))),?_⟩;refine iR rfl (fun h=>?_) (fun h=>?_)
   ·replace h:k<rows.length:=by simpa using h
    refine lM (mg rfl bS) ?_;obtain⟨row,hrow,e⟩:=kZ d' h;have w:=c' _ (kg hrow);obtain⟨k1,t1,c1,o1,rfl,m',n',o'⟩:=jT e;refine nT (jD (vC rfl (gP (gI rfl rfl hrow rfl) (gP (gI rfl rfl hrow rfl) (gP (gI rfl rfl hrow rfl) (gP (gI rfl rfl hrow rfl) uy))))) (jD (sj (d:=.R vars) rfl) qh)) rfl rfl ⟨⟨e,A,b',w⟩,rfl⟩ (fun g' post hR F _=>?_);obtain⟨hR,hq⟩:=hR;subst hq;replace hR:TR (ji n [.int .i64 k1,.str t1,.R c1,.int .i64 o1] (bg vars)) g':=hR;rcases hR with⟨y,hy,hq⟩|⟨f,hy,hf,hq⟩
    ·subst hq
     obtain⟨_,_,hq,P,_⟩:=OL F;simp only[DA.dD.injEq,nV,tZ] at hq;obtain⟨W,_⟩:=hq;subst W;have u:=Dt P;obtain⟨k2,t2,x2,c2,hq,p',q',r'⟩:=oF u;subst hq;refine iR (b:=false) rfl (fun h=>by cases h) (fun _=>?_)
     refine lM (mg rfl arf) ?_;refine fV rfl ⟨[_,_,_,_,_,_,_,_,_,_],rfl,.inl ⟨rows.length+1-((k+1)+1),Qa,?_,(k+1),a++[[.int .i64 k2,.str t2,.int .i64 x2,.R c2]],?_,rfl,?_,?_,?_,?_⟩⟩
     ·omega
     ·exact yw
     ·omega
     ·first|(simp;done)|(simp;omega)
     ·exact OI a' u
     ·exact apM
    ·exact arF
   ·have h:¬k<rows.length:=by simpa using h
    refine fV rfl ⟨[_,_,_,_,_,_,_],rfl,.inr ⟨2,_,_,_,rfl,rfl,(ay aO (ay aO (ay aO (ay aO (ay aO (ay aO (ay (eP Yn a') aX))))))),a,?_,rfl⟩⟩;exact NV
  |i+2,l=>simp[auM] at l
def aNF (i':bH T) (n:Nat) (u:(Jd n).aA T) (F:(C8 n).aA T):(NC n).aA T 140:=by
 intro ds f'
 match ds,f' with
 |[.R vars,.int .i64 z0,.int .i64 z1,.int .i64 z2,.int .i64 z3,.int .i64 j',.str sz,.int .i64 k',.R rows,.int .i64 _],⟨E,l,g',rfl,c',d'⟩=>
 obtain⟨t',l',hlen,e'⟩:=bW g';cases l';refine vL (c:=NC n) mI mixed (lT i') aaj.one aaj.bX (fun j o N=>?_) rfl rfl aaj.self aaj.jC (mK (cs:=[Rz,(Jd n),(C8 n)]) rfl (all_cons (Ur i') (all_cons u (all_cons F all_nil)))) (mP (ls:=[]) rfl all_nil)
  (lQ:=fun i m ds=>match i with
   |0=>ds=[.R vars,.int .i64 z0,.int .i64 z1,.int .i64 z2,.int .i64 z3,.int .i64 j',.str sz,.int .i64 k',.R rows,.int .i64 (0:Nat)]/\m=rows.length+1
   |1=>∃(k:Nat) (a:G Rw),ds=[.R vars,.int .i64 z0,.int .i64 z1,.int .i64 z2,.int .i64 z3,.int .i64 j',.str sz,.int .i64 k',.R a,.R rows,.int .i64 k]/\m=rows.length+1-(k+1)/\k<=rows.length/\a.length<=k/\dR O a fC/\bO (eO fun x=>ji n x (bg vars)) [] rows=bO (eO fun x=>ji n x (bg vars)) a (rows.drop k)
   |_=>False) (m:=rows.length+1) ⟨rfl,rfl⟩ ?_
 ·exact ara
 ·intro i st m u' q m'
  match i,q with
  |0,q=>
   obtain rfl:=bI q;obtain⟨rfl,rfl⟩:=m';have hc:bO (eO fun x=>ji n x (bg vars)) [] rows=bO (eO fun x=>ji n x (bg vars)) [] (rows.drop 0):=rfl;refine⟨(ay E (ay aO (ay aO (ay aO (ay aO (ay aO (ay l (ay aO (ay g' (ay aO aX)))))))))),?_⟩;refine iR rfl (fun h=>?_) (fun h=>?_)
   ·replace h:0<rows.length:=by simpa using h
    refine lM (mg rfl bS) ?_;obtain⟨row,hrow,e⟩:=kZ e' h;have A:=d' _ (kg hrow);obtain⟨k1,t1,c1,o1,rfl,n',o',p'⟩:=jT e;refine nT (jD (vC rfl (gP (gI rfl rfl hrow rfl) (gP (gI rfl rfl hrow rfl) (gP (gI rfl rfl hrow rfl) (gP (gI rfl rfl hrow rfl) uy))))) (jD (sj (d:=.R vars) rfl) qh)) rfl rfl ⟨⟨e,E,c',A⟩,rfl⟩ (fun h' post hR P _=>?_);obtain⟨hR,hq⟩:=hR;subst hq;replace hR:TR (ji n [.int .i64 k1,.str t1,.R c1,.int .i64 o1] (bg vars)) h':=hR;rcases hR with⟨y,hy,hq⟩|⟨f,hy,hf,hq⟩
    ·subst hq
     obtain⟨_,_,hq,W,_⟩:=OL P;simp only[DA.dD.injEq,nV,tZ] at hq;obtain⟨a',_⟩:=hq;subst a';have w:=Dt W;obtain⟨k2,t2,x2,c2,hq,q',r',s'⟩:=oF w;subst hq;refine iR (b:=false) rfl (fun h=>by cases h) (fun _=>?_)
     refine fV rfl ⟨[_,_,_,_,_,_,_,_,_,_,_],rfl,.inl ⟨rows.length+1-((0+1)+1),Qa,?_,(0+1),[]++[[.int .i64 k2,.str t2,.int .i64 x2,.R c2]],?_,rfl,?_,?_,?_,?_⟩⟩
     ·omega
     ·rfl
     ·omega
     ·first|(simp;done)|(simp;omega)
     ·exact OI True.intro w
     ·exact apP
    ·exact aqx
   ·have h:¬0<rows.length:=by simpa using h
    refine fV rfl ⟨[_,_,_,_,_,_,_],rfl,.inr ⟨1,_,_,_,rfl,rfl,(ay aO (ay aO (ay aO (ay aO (ay aO (ay l (ay aO aX))))))),?_,rfl⟩⟩;exact NV
  |1,q=>
   obtain rfl:=bI q;obtain⟨k,a,rfl,rfl,w',v',b',hc⟩:=m';refine⟨(ay E (ay aO (ay aO (ay aO (ay aO (ay aO (ay l (ay aO (ay (eP Yn b') (ay g' (ay aO aX))))))))))),?_⟩;refine iR rfl (fun h=>?_) (fun h=>?_)
   ·replace h:k<rows.length:=by simpa using h
    refine lM (mg rfl bS) ?_;obtain⟨row,hrow,e⟩:=kZ e' h;have A:=d' _ (kg hrow);obtain⟨k1,t1,c1,o1,rfl,n',o',p'⟩:=jT e;refine nT (jD (vC rfl (gP (gI rfl rfl hrow rfl) (gP (gI rfl rfl hrow rfl) (gP (gI rfl rfl hrow rfl) (gP (gI rfl rfl hrow rfl) uy))))) (jD (sj (d:=.R vars) rfl) qh)) rfl rfl ⟨⟨e,E,c',A⟩,rfl⟩ (fun h' post hR P _=>?_);obtain⟨hR,hq⟩:=hR;subst hq;replace hR:TR (ji n [.int .i64 k1,.str t1,.R c1,.int .i64 o1] (bg vars)) h':=hR;rcases hR with⟨y,hy,hq⟩|⟨f,hy,hf,hq⟩
    ·subst hq
     obtain⟨_,_,hq,W,_⟩:=OL P;simp only[DA.dD.injEq,nV,tZ] at hq;obtain⟨a',_⟩:=hq;subst a';have w:=Dt W;obtain⟨k2,t2,x2,c2,hq,q',r',s'⟩:=oF w;subst hq;refine iR (b:=false) rfl (fun h=>by cases h) (fun _=>?_)
     refine lM (mg rfl arf) ?_;refine fV rfl ⟨[_,_,_,_,_,_,_,_,_,_,_],rfl,.inl ⟨rows.length+1-((k+1)+1),Qa,?_,(k+1),a++[[.int .i64 k2,.str t2,.int .i64 x2,.R c2]],?_,rfl,?_,?_,?_,?_⟩⟩
     ·omega
     ·exact yw
     ·omega
     ·first|(simp;done)|(simp;omega)
     ·exact OI b' w
     ·exact apM
    ·exact arF
   ·have h:¬k<rows.length:=by simpa using h
    refine fV rfl ⟨[_,_,_,_,_,_,_,_],rfl,.inr ⟨2,_,_,_,rfl,rfl,(ay aO (ay aO (ay aO (ay aO (ay aO (ay l (ay aO (ay (eP Yn b') aX)))))))),a,?_,rfl⟩⟩;exact NV
  |i+2,q=>simp[auN] at q
def aLk.qE (h:P:=by exact aU5):P:=h
open aLk in
def aNG (c':bH T) (n:Nat) (u:(Jd n).aA T) (P:(C8 n).aA T):(XQ n).aA T:=by
 intro V pre ⟨l',Z⟩
 match V,l' with
 |[.agg t0,.one d1],⟨q',r',g',hex⟩=>
 obtain⟨u0,v0,c0,d',rfl,s',t',h'⟩:=jT q';obtain⟨w,rfl,u',v'⟩:=bW r';have A:fG T _ _:=(ac (Ur c') aoD (ac u aBQ (ac P aeG an)));have aD:=(lc (aNE c' n u P) nb (lc (aNF c' n u P) nb ln));replace g':(w).length+n<1000000:=g';obtain rfl:=Z;have hall:∀x∈c0,aI x<=n:=fun x z'=>by have w':=qj z';rw[wY] at hex;omega
 refine sV c' aLn A.1 aD.1 A.2 aD.2 aLm (kD s' t' h' (ay (eP u' v') aX)) ?_;refine au aj (fun A'=>aU M (TR.err (f:=(2,d')) qE Z0)) (fun A'=>?_);obtain⟨w0,lB,rfl,o0,D',x'⟩:=pJ h' aC aC;obtain⟨x0,E',A0,F',rfl,D0,E0⟩:=aT D';refine aR ?_;refine au aj (fun w'=>aU M (TR.err (f:=(2,d')) qE Z0)) (fun w'=>?_);refine aR ?_;refine aR ?_;refine au aj (fun L'=>?_) (fun L'=>?_)
 ·refine kX M (fun k=>aED k (bF:=by exact hex)) fun F0 hR h=>?_
  rcases JG hR with⟨L0,hy3,rfl⟩|⟨M',hy3,y',rfl⟩
  ·obtain⟨W,a',xC,b',rfl,P',T'⟩:=gQ (tH h).1
   exact aU M (TR.ok qE)
  ·exact aU M (TR.err (f:=M') qE y')
 ·refine au aj (fun W'=>?_) (fun W'=>?_)
  ·refine K.bX (ds:=[(.R w),(.int .i64 0),(.int .i64 0),(.int .i64 0),(.int .i64 0),(.int .i64 3),(.int .i64 0),(.R lB),(.int .i64 0)]) M (fun k=>ar7 k HL afY) (fun j x S' ks out q hR h=>?_)
   match j,q,hR with
   |0,q,⟨i',y,m',N⟩=>
    subst N;replace q:(Gt n).sig.outs[0]?=some (x,S',ks):=q;cases q;replace y:bO (eO fun x=>ji n x (bg (w))) [] (lB)=.error i':=y;refine eH.zero ?_;exact aU M (TR.err (f:=i') qE m')
   |1,q,⟨y,N⟩=>
    subst N;replace q:(Gt n).sig.outs[1]?=some (x,S',ks):=q;cases q;replace y:bO (eO fun x=>ji n x (bg (w))) [] (lB)=.ok []:=y;exact afP
   |2,q,⟨X',y,N⟩=>
    subst N;replace y:bO (eO fun x=>ji n x (bg (w))) [] (lB)=.ok X':=y;have e:=iE (Option.map (fun p=>p.2.2)) q;obtain rfl:=bI (show some [C,C,C,C,C,C,Kd.R 2]=some ks from e)
    obtain⟨_,_,hq,_,h⟩:=dW h;cases hq;obtain⟨_,_,hq,_,h⟩:=dW h;cases hq;obtain⟨_,_,hq,_,h⟩:=dW h;cases hq;obtain⟨_,_,hq,_,h⟩:=dW h;cases hq;obtain⟨_,_,hq,_,h⟩:=dW h;cases hq;obtain⟨_,_,hq,_,h⟩:=dW h;cases hq;obtain⟨_,hq,a0,b0⟩:=bW (OE h);exact af4
   |j+3,q,_=>simp[lam,Gt,TV] at q
  ·refine au aj (fun e0=>?_) (fun e0=>?_)
   ·refine au aj (fun n'=>?_) (fun n'=>aU M (TR.err (f:=(2,d')) qE Z0))
    refine K.bX (ds:=[(.R w),(.int .i64 0),(.int .i64 0),(.int .i64 0),(.int .i64 0),(.int .i64 4),(.int .i64 0),(.R lB),(.int .i64 0)]) M (fun k=>ar7 k HL afY) (fun j x S' ks out q hR h=>?_)
    match j,q,hR with
    |0,q,⟨j',E,o',N⟩=>
     subst N;replace q:(Gt n).sig.outs[0]?=some (x,S',ks):=q;cases q;replace E:bO (eO fun x=>ji n x (bg (w))) [] (lB)=.error j':=E;refine eH.zero ?_;exact aU M (TR.err (f:=j') qE o')
    |1,q,⟨E,N⟩=>
     subst N;replace q:(Gt n).sig.outs[1]?=some (x,S',ks):=q;cases q;replace E:bO (eO fun x=>ji n x (bg (w))) [] (lB)=.ok []:=E;exact afP
    |2,q,⟨f0,E,N⟩=>
     subst N;replace E:bO (eO fun x=>ji n x (bg (w))) [] (lB)=.ok f0:=E;have e:=iE (Option.map (fun p=>p.2.2)) q;obtain rfl:=bI (show some [C,C,C,C,C,C,Kd.R 2]=some ks from e)
     obtain⟨_,_,hq,_,h⟩:=dW h;cases hq;obtain⟨_,_,hq,_,h⟩:=dW h;cases hq;obtain⟨_,_,hq,_,h⟩:=dW h;cases hq;obtain⟨_,_,hq,_,h⟩:=dW h;cases hq;obtain⟨_,_,hq,_,h⟩:=dW h;cases hq;obtain⟨_,_,hq,_,h⟩:=dW h;cases hq;obtain⟨_,hq,g0,h0⟩:=bW (OE h);exact af4
    |j+3,q,_=>simp[lam,Gt,TV] at q
   ·refine au aj (fun n'=>?_) (fun n'=>?_)
    ·obtain rfl:=oV (l:=lB) aC
     exact aU M (TR.err (f:=(2,d')) qE Z0)
    ·obtain⟨M0,e',rfl,r0,i0,s0⟩:=pJ x' aC aC
     obtain⟨W,a',b',f',rfl,P',T'⟩:=aT i0;refine eT M ash fun h=>?_;refine au aj (fun j0=>?_) (fun j0=>aU M (TR.err (f:=(2,F')) qE Z0));refine K.bX (ds:=[(.R w),(.int .i64 0),(.int .i64 0),(.int .i64 0),(.int .i64 0),(.int .i64 2),(.str E'),(.int .i64 0),(.R ([(.int .i64 W),(.str a'),(.R b'),(.int .i64 f')]::e')),(.int .i64 0)]) M (fun k=>aEr k HL afY) (fun j x S' ks out q hR h=>?_)
     match j,q,hR with
     |0,q,⟨k',F,p',N⟩=>
      subst N;replace q:(NC n).sig.outs[0]?=some (x,S',ks):=q;cases q;replace F:bO (eO fun x=>ji n x (bg (w))) [] (([(.int .i64 W),(.str a'),(.R b'),(.int .i64 f')]::e'))=.error k':=F;refine eH.zero ?_;exact aU M (TR.err (f:=k') qE p')
     |1,q,⟨F,N⟩=>
      subst N;replace q:(NC n).sig.outs[1]?=some (x,S',ks):=q;cases q;replace F:bO (eO fun x=>ji n x (bg (w))) [] (([(.int .i64 W),(.str a'),(.R b'),(.int .i64 f')]::e'))=.ok []:=F;exact afP
     |2,q,⟨k0,F,N⟩=>
      subst N;replace F:bO (eO fun x=>ji n x (bg (w))) [] (([(.int .i64 W),(.str a'),(.R b'),(.int .i64 f')]::e'))=.ok k0:=F;have e:=iE (Option.map (fun p=>p.2.2)) q;obtain rfl:=bI (show some [C,C,C,C,C,.str,C,Kd.R 2]=some ks from e)
      obtain⟨_,_,hq,_,h⟩:=dW h;cases hq;obtain⟨_,_,hq,_,h⟩:=dW h;cases hq;obtain⟨_,_,hq,_,h⟩:=dW h;cases hq;obtain⟨_,_,hq,_,h⟩:=dW h;cases hq;obtain⟨_,_,hq,_,h⟩:=dW h;cases hq;obtain⟨_,_,hq,_,h⟩:=dW h;cases hq;obtain⟨_,_,hq,_,h⟩:=dW h;cases hq;obtain⟨_,hq,l0,m0⟩:=bW (OE h);exact af4
     |j+3,q,_=>simp[lam,NC,aai] at q
def aJc:G bJ:=[LH,avM,Ui,⟨113,some [C,C],(.one (.R 4))⟩,aaC,⟨33,some [C,C],(.agg [C,.str,.R 0,C,.str,C,.R 2,.R 3,.R 4])⟩,avK,Py]
def aJd:Tree:=.B VQ gW (.B QA gW (.fT Kv (.B Wo gW (.B (.bin .eql kM ac0) (.B ad7 gW (.B ad4 gW (.fT mH (.fT mE (.fT EM (.call 0 Ga bL (.fT MO (.call 4 [Ko,eu] Ey (.fT ab9 (.B (.bin .gtr IW aH) (.fT (.bin .leq (.len (.snoc bZ [dU])) mG) (.call 4 [MV,.S (.snoc bZ [dU])] [rZ,qZ] am2)) (.call 4 [MV,.S (.snoc .d9 [dU])] [rZ,qZ] am2))))))))))) (.B (.bin .eql kM adk) (.B CK gW (.B CJ gW (.fT mH (.fT mE (.fT EM (.call 0 Ga bL (.call 7 QH [] (.B VX (.fT Kl (.fT Vv akG)) (.B Qw (.fT Kl (.fT Vv (.call 3 ac1 [.int .i64 5,Xb] (.leaf 0 alX [])))) (.fT Kl (.fT Vv akG))))))))))) (.B (.bin .eql kM (.str [100,111])) (.B Kr gW (.fT mH (.fT mE (.call 3 uh bL (.leaf 0 [.agg [.S (.int .i64 8),aQ,aN,aQ,aN,aQ,aN,aF,dP,aF],dI,bT] []))))) (.B (.bin .eql kM (.str [105,102])) (.B ad7 gW (.B ad4 gW (.fT mH (.fT mE (.call 3 uh bL (.leaf 0 [.agg [.S (.int .i64 9),aQ,aN,aQ,aN,aQ,aN,aF,dP,aF],dI,bT] [])))))) (.B (.bin .eql kM acu) (.B CK gW (.B CJ gW (.fT mH (.fT mE (.call 3 uh bL (.leaf 0 [.agg [.S (.int .i64 10),aQ,aN,aQ,aN,aQ,aN,aF,dP,aF],dI,bT] [])))))) (.B (.bin .eql kM ad5) (.B Kr gW (.fT mH (.fT mE (.B (.bin .gtr (.bin .sub yg cO) vo) (.B iC (.fT EM (.call 2 Wq I6 aj5)) akc) akc)))) (.B (.bin .eql kM aco) (.B CK gW (.B CJ gW (.fT mH (.fT mE (.fT Kl (.call 3 [.S adw,eu] bL (.fT MO (.call 1 [Ko] Ey (.leaf 0 [.agg [.S Ws,dZ,aN,aQ,aN,aQ,aN,aF,dP,aF],fD,iG] []))))))))) (.B (.bin .eql kM adn) (.B ad7 gW (.B ad4 gW (.fT mH (.fT mE (.fT EM (.call 4 [adP,eu] bL (.fT MO (.call 1 [Ko] [mW,qJ] (.fT ab9 (.call 4 [MV,eu] [rZ,qZ] (.leaf 0 [.agg [.S Qr,qH,aN,aQ,aN,aQ,aN,aF,.S (.snoc (.snoc .d9 [dU,fI,fK,h_,iY,iK,jr,jQ,jq,kQ]) ab7),aF],za,yU] []))))))))))) (.B (.bin .eql kM MG) (.B (.bin .lss mF cO) gW (.fT mH (.fT mE (.B (.bin .gtr yg vo) (.B iC (.call 3 uh I6 (.leaf 0 ama [])) ak3) ak3)))) (.B (.bin .eql kM acI) (.B CK gW (.B CJ gW (.fT mH (.fT mE (.fT Kl (.call 3 [.S adw,eu] bL (.fT MO (.call 6 [ang] [] (.B (.bin .eql ace cO) (.B iY (.B VX (.B (.bin .lss h_ vo) alq Wm) Wm) Wm) Wm))))))))) (.B (.bin .eql kM (.str [105,115])) (.B CK gW (.B CJ gW (.fT mH (.fT mE (.fT Kl (.call 3 [.S adw,eu] bL (.fT MO (.call 2 [Ko,aF] Ey (.leaf 0 [.agg [.S (.int .i64 16),aQ,aN,aQ,dZ,fD,iG,jg,dP,aF],kN,mV] []))))))))) (.B (.bin .eql kM ac5) (.B CK gW (.B CJ gW (.fT mH (.fT mE (.call 3 uh bL (.leaf 0 [.agg [yj,aQ,Kj,aQ,aN,aQ,aN,aF,dP,aF],dI,bT] [])))))) (.B (.bin .eql kM (.str [97,100,100])) (.B CK gW (.B CJ gW (.fT mH (.fT mE (.call 3 uh bL (.leaf 0 [.agg [yj,aQ,I4,aQ,aN,aQ,aN,aF,dP,aF],dI,bT] [])))))) (.B (.bin .eql kM (.str [115,117,98])) (.B CK gW (.B CJ gW (.fT mH (.fT mE (.call 3 uh bL (.leaf 0 [.agg [yj,aQ,q9,aQ,aN,aQ,aN,aF,dP,aF],dI,bT] [])))))) (.B (.bin .eql kM adJ) (.B CK gW (.B CJ gW (.fT mH (.fT mE (.call 3 uh bL (.leaf 0 [.agg [yj,aQ,MX,aQ,aN,aQ,aN,aF,dP,aF],dI,bT] [])))))) (.B (.bin .eql kM acG) (.B CK gW (.B CJ gW (.fT mH (.fT mE (.call 3 uh bL (.leaf 0 [.agg [yj,aQ,MR,aQ,aN,aQ,aN,aF,dP,aF],dI,bT] [])))))) (.B (.bin .eql kM acr) (.B CK gW (.B CJ gW (.fT mH (.fT mE (.call 3 uh bL (.leaf 0 [.agg [yj,aQ,Cy,aQ,aN,aQ,aN,aF,dP,aF],dI,bT] [])))))) (.B (.bin .eql kM adp) (.B Kr gW (.B Wt gW (.fT mH (.fT mE (.call 3 uh bL (.leaf 0 [.agg [yj,aQ,MW,aQ,aN,aQ,aN,aF,dP,aF],dI,bT] [])))))) (.B (.bin .eql kM ab1) (.B Kr gW (.B Wt gW (.fT mH (.fT mE (.call 3 uh bL (.leaf 0 [.agg [.S (.int .i64 18),aQ,aN,aQ,aN,aQ,aN,aF,dP,aF],dI,bT] [])))))) (.B (.bin .eql kM adT) (.B Kr gW (.B Wt gW (.fT mH (.fT mE (.call 3 uh bL (.leaf 0 [.agg [.S (.int .i64 19),aQ,aN,aQ,aN,aQ,aN,aF,dP,aF],dI,bT] [])))))) (.B (.bin .eql kM ado) (.B Kr gW (.fT mH (.fT mE (.B (.bin .gtr (.bin .sub mF iP) vo) (.B iC (.fT acO (.call 0 [.agg abX] I6 (.fT akF akJ))) (.fT acO alY)) (.fT acO alY))))) (.B (.bin .eql kM adE) (.B Kr gW (.B Wt gW (.fT mH (.fT mE (.fT EM (.call 5 Ga bL (.B (.bin .neq dU WT) anN (.B WU (.leaf 0 [.agg alK,pV,Xb] []) anN)))))))) (.B (.bin .eql kM abM) (.B (.bin .lss mF cO) gW (.B (.bin .gtr mF cO) gW (.fT mH (.fT mE (.call 3 uh bL (.leaf 0 [.agg [.S acL,aQ,aN,aQ,aN,aQ,aN,aF,dP,aF],dI,bT] [])))))) (.B (.bin .gtr (.bin .sub mF cO) vo) (.B iC (.call 0 [MQ] I6 acV) (.call 0 [MQ] bL acV)) (.call 0 [MQ] bL acV))))))))))))))))))))))))))))
def aJe:TC 85 [oP,.S (.var 9)] lW aJc [] aJd (fl++eB++[.R 0]):=tc
def aJf:gU 85:=gY Tryz.func85 aS
def aJb.qE (h:P:=by first|(simp[Ta,Lh,vO,Hu,Pb,G8,GL,GQ,GZ,Hr,G_,GY,Ho,wG,GV,G5,GK,Hq,G9,G7,He,GN,Hl,Hf,GX,G6,GU,Hg,eD,zl,Bt,ex,jm,ty,nth,nk,nt,nc,no,jh,iD,tD,rD,mq,LM,kS,lY,LU,uT,vR, *]<;>first|done|omega|assumption)|(simp_all[Ta,Lh,vO,Hu,Pb,G8,GL,GQ,GZ,Hr,G_,GY,Ho,wG,GV,G5,GK,Hq,G9,G7,He,GN,Hl,Hf,GX,G6,GU,Hg,eD,zl,Bt,ex,jm,ty,nth,nk,nt,nc,no,jh,iD,tD,rD,mq,LM,kS,lY,LU,uT,vR]<;>omega)|(obtain rfl:[]=_:=PY (show(Except.ok []:dV Fa (G Rw))=.ok _ by assumption);simp[Ta,Lh,vO,Hu,Pb,G8,GL,GQ,GZ,Hr,G_,GY,Ho,wG,GV,G5,GK,Hq,G9,G7,He,GN,Hl,Hf,GX,G6,GU,Hg,eD,zl,Bt,ex,jm,ty,nth,nk,nt,nc,no,jh,iD,tD,rD,mq,LM,kS,lY,LU,uT,vR, *];done)|(cases(show(Except.ok []:dV Fa (G Rw))=.error _ by assumption))):P:=h
open aJb in
def aGf (i0:bH T) (n:Nat) (hn:n+100<=1000000) (E0:(yu n).aA T) (h0:(Xx n).aA T) (j0:(Bp n).aA T) (k0:(E_ n).aA T):(Rs n).aA T:=by
 intro V pre ⟨X0,Z⟩
 match V,X0 with
 |[.agg b3,.one d1],⟨k1,l1,jL,L0,hex⟩=>
 obtain⟨d3,e3,c0,f3,rfl,m1,o1,M0⟩:=jT k1;obtain⟨F0,rfl,r1,s1⟩:=bW l1;have A:fG T _ _:=(ac (Ar i0) Bo (ac (SI i0) Rc (ac E0 CU (ac h0 aBE (ac j0 Nk (ac k0 aBF (ac (ahg i0) aot (ac (OO i0) Nl an))))))));subst jL;refine Jr i0 aJf A.1 all_nil A.2 bn aJe (kD m1 o1 M0 (ay (eP r1 s1) aX)) ?_;replace L0:(F0).length+n<1000000:=L0 rfl;replace hex:=hex rfl;have hall:∀x∈c0,aI x<=n:=fun x T1=>by have u1:=qj T1;rw[wY] at hex;omega
 refine aaT (v:=9) 999999 rfl I ?_;refine au aj (fun W1=>dJ) (fun W1=>?_);refine au aj (fun u1=>dJ) (fun u1=>?_);obtain⟨g3,lB,rfl,f2,X1,q⟩:=pJ M0 aC aC;obtain⟨h3,i3,j3,k3,rfl,l3,m3⟩:=aT X1;refine aR ?_;refine au aj (fun a2=>dJ) (fun a2=>?_);refine au aj (fun b2=>?_) (fun b2=>?_)
 ·refine au aj (fun a1=>dJ) (fun a1=>?_)
  obtain⟨y,k',v1,r',rfl,P0,j,u,l0,T0⟩:=agv q aC aC;obtain⟨E,F,P,W,rfl,a',b'⟩:=aT j;obtain⟨l',m',n',o',rfl,p',q'⟩:=aT u;obtain⟨b1,e1,f1,w1,rfl,g1,h1⟩:=aT l0;refine au aj (fun b0=>have b0:¬(r').length<=0:=aC;dJ) (fun b0=>?_)
  replace b0:(r').length<=0:=aC;obtain rfl:=oV (l:=r') aC;refine aR ?_;refine aR ?_;refine aR ?_;refine dH M Bw fun n3 zw e=>?_;refine aR ?_;refine dH M (fun k=>GA k (bF:=by exact(hall _ jS))) fun x1 T' e=>?_
  obtain⟨o3,r3,s3,u3,v3,w3,x3,y3,A3,D3,rfl⟩:=nH e;replace T':=nz T';refine aR ?_;refine au aj (fun s'=>?_) (fun s'=>?_)
  ·replace s':¬(F0).length<=0:=aC
   refine aR ?_;exact arp
  ·replace s':(F0).length<=0:=aC
   obtain rfl:=oV (l:=F0) aC;exact arp
 ·refine au aj (fun a1=>?_) (fun a1=>?_)
  ·refine au aj (fun b0=>dJ) (fun b0=>?_)
   obtain⟨y,k',h,rfl,e',j,u,f'⟩:=Dq q aC aC;obtain⟨E,F,P,W,rfl,a',b'⟩:=aT j;obtain⟨l',m',n',o',rfl,p',q'⟩:=aT u;refine au aj (fun e0=>have e0:¬(h).length<=0:=aC;dJ) (fun e0=>?_)
   replace e0:(h).length<=0:=aC;obtain rfl:=oV (l:=h) aC;refine aR ?_;refine aR ?_;refine aR ?_;refine dH M Bw fun x1 T' e=>?_;refine kX M Jt fun d2 hR e=>?_;obtain⟨E3,rfl⟩:=FC e;have g2:=rR hR;clear hR;refine au aj (fun h9=>?_) (fun h9=>?_)
   ·exact aqS
   ·refine fO M ?_
    refine aR ?_;exact Yu
  ·refine au aj (fun b0=>?_) (fun b0=>?_)
   ·refine au aj (fun e0=>dJ) (fun e0=>?_)
    obtain⟨y,w,rfl,W',j,X'⟩:=pJ q aC aC;obtain⟨E,F,P,W,rfl,a',b'⟩:=aT j;refine aR ?_;refine aR ?_;refine dH M (fun k=>uI k (bF:=uD)) fun x1 T' e=>?_;have F3:=jd e;replace T':=nz T';exact dQ
   ·refine au aj (fun e0=>?_) (fun e0=>?_)
    ·refine au aj (fun i1=>dJ) (fun i1=>?_)
     obtain⟨y,k',v1,r',rfl,P0,j,u,l0,T0⟩:=agv q aC aC;obtain⟨E,F,P,W,rfl,a',b'⟩:=aT j;obtain⟨l',m',n',o',rfl,p',q'⟩:=aT u;obtain⟨b1,e1,f1,w1,rfl,g1,h1⟩:=aT l0;refine au aj (fun s'=>have s':¬(r').length<=0:=aC;dJ) (fun s'=>?_)
     replace s':(r').length<=0:=aC;obtain rfl:=oV (l:=r') aC;refine aR ?_;refine aR ?_;refine dH M (fun k=>uI k (bF:=uD)) fun M3 jA e=>?_;have P3:=jd e;replace jA:=nz jA;exact dQ
    ·refine au aj (fun i1=>?_) (fun i1=>?_)
     ·refine au aj (fun s'=>dJ) (fun s'=>?_)
      obtain⟨y,k',h,rfl,e',j,u,f'⟩:=Dq q aC aC;obtain⟨E,F,P,W,rfl,a',b'⟩:=aT j;obtain⟨l',m',n',o',rfl,p',q'⟩:=aT u;refine au aj (fun h9=>have h9:¬(h).length<=0:=aC;dJ) (fun h9=>?_)
      replace h9:(h).length<=0:=aC;obtain rfl:=oV (l:=h) aC;exact aqS
     ·refine au aj (fun s'=>?_) (fun s'=>?_)
      ·refine au aj (fun h9=>dJ) (fun h9=>?_)
       obtain⟨y,w,rfl,W',j,X'⟩:=pJ q aC aC;obtain⟨E,F,P,W,rfl,a',b'⟩:=aT j;refine aR ?_;refine aR ?_;refine au aj (fun g'=>?_) (fun g'=>?_)
       ·have h9:=g'
        replace g':¬(w).length<=6:=WZ;clear h9;refine fO M ?_;exact Yu
       ·have h9:=g'
        replace g':(w).length<=6:=WZ;clear h9;refine aR ?_;refine dH M (fun k=>Bz k (bF:=by exact(hall _ jS))) fun h2 m0 e=>?_
        obtain⟨b1,e1,T3,f1,rfl,g1,h1⟩:=gQ e;replace m0:=nz m0;refine aR ?_;refine aR ?_;refine dH M (fun k=>uI k (bF:=uD)) fun A1 t' e=>?_;have D1:=jd e;replace t':=nz t';exact dQ
      ·refine au aj (fun h9=>?_) (fun h9=>?_)
       ·refine au aj (fun g'=>dJ) (fun g'=>?_)
        obtain⟨y,k',h,rfl,e',j,u,f'⟩:=Dq q aC aC;obtain⟨E,F,P,W,rfl,a',b'⟩:=aT j;obtain⟨l',m',n',o',rfl,p',q'⟩:=aT u;refine au aj (fun u'=>have u':¬(h).length<=0:=aC;dJ) (fun u'=>?_)
        replace u':(h).length<=0:=aC;obtain rfl:=oV (l:=h) aC;refine aR ?_;refine aR ?_;refine aR ?_;refine dH M (fun k=>uI k (bF:=uD)) fun A1 t' e=>?_;have D1:=jd e;replace t':=nz t';refine aR ?_;refine dH M Y1 fun E1 f0 e=>?_;exact dQ
       ·refine au aj (fun g'=>?_) (fun g'=>?_)
        ·refine au aj (fun u'=>dJ) (fun u'=>?_)
         obtain⟨y,k',v1,r',rfl,P0,j,u,l0,T0⟩:=agv q aC aC;obtain⟨E,F,P,W,rfl,a',b'⟩:=aT j;obtain⟨l',m',n',o',rfl,p',q'⟩:=aT u;obtain⟨b1,e1,f1,w1,rfl,g1,h1⟩:=aT l0;refine au aj (fun v'=>have v':¬(r').length<=0:=aC;dJ) (fun v'=>?_)
         replace v':(r').length<=0:=aC;obtain rfl:=oV (l:=r') aC;refine aR ?_;refine aR ?_;refine aR ?_;refine dH M (fun k=>GA k (bF:=by exact(hall _ jS))) fun E1 f0 e=>?_
         obtain⟨W3,X3,a4,b4,c4,d4,e4,f4,g4,h4,rfl⟩:=nH e;replace f0:=nz f0;refine aR ?_;refine dH M Y1 fun F1 g0 e=>?_;refine aR ?_;refine dH M (fun k=>GA k (bF:=by exact(hall _ jS))) fun L1 w' e=>?_
         obtain⟨i4,j4,k4,l4,Q4,m4,n4,o4,p4,q4,rfl⟩:=nH e;replace w':=nz w';exact dQ
        ·refine au aj (fun u'=>?_) (fun u'=>?_)
         ·refine au aj (fun v'=>dJ) (fun v'=>?_)
          refine aR ?_;refine aR ?_;refine au aj (fun x'=>?_) (fun x'=>?_)
          ·replace x':¬(lB).length<=6:=aC
           refine fO M ?_;exact PW rfl M M qE
          ·replace x':(lB).length<=6:=aC
           refine dH M (fun k=>uI k (bF:=uD)) fun F1 g0 e=>?_;have i2:=jd e;replace g0:=nz g0;exact dQ
         ·refine au aj (fun v'=>?_) (fun v'=>?_)
          ·refine au aj (fun x'=>dJ) (fun x'=>?_)
           obtain⟨y,k',h,rfl,e',j,u,f'⟩:=Dq q aC aC;obtain⟨E,F,P,W,rfl,a',b'⟩:=aT j;obtain⟨l',m',n',o',rfl,p',q'⟩:=aT u;refine au aj (fun y'=>have y':¬(h).length<=0:=aC;dJ) (fun y'=>?_)
           replace y':(h).length<=0:=aC;obtain rfl:=oV (l:=h) aC;refine aR ?_;refine aR ?_;refine aR ?_;refine dH M (fun k=>uI k (bF:=uD)) fun L1 w' e=>?_;have j2:=jd e;replace w':=nz w';refine aR ?_;refine kX M ar9 fun d2 hR e=>?_;rcases nz hR with⟨k2,j1,rfl⟩|⟨j1,rfl⟩
           ·refine au aj (fun c'=>?_) (fun c'=>dJ)
            refine fO M ?_;exact au aj (fun h'=>au aj (fun i'=>dQ) (fun i'=>dJ)) (fun h'=>dJ)
           ·refine au aj (fun c'=>?_) (fun c'=>dJ)
            refine jo M ?_;exact dJ
          ·refine au aj (fun x'=>?_) (fun x'=>?_)
           ·refine au aj (fun y'=>dJ) (fun y'=>?_)
            obtain⟨y,k',h,rfl,e',j,u,f'⟩:=Dq q aC aC;obtain⟨E,F,P,W,rfl,a',b'⟩:=aT j;obtain⟨l',m',n',o',rfl,p',q'⟩:=aT u;refine au aj (fun z'=>have z':¬(h).length<=0:=aC;dJ) (fun z'=>?_)
            replace z':(h).length<=0:=aC;obtain rfl:=oV (l:=h) aC;refine aR ?_;refine aR ?_;refine aR ?_;refine dH M (fun k=>uI k (bF:=uD)) fun l2 o0 e=>?_;have m2:=jd e;replace o0:=nz o0;refine aR ?_;refine dH M (fun k=>Bz k (bF:=by exact(hall _ jS))) fun M1 A' e=>?_
            obtain⟨r4,s4,t4,u4,rfl,v4,w4⟩:=gQ e;replace A':=nz A';exact dQ
           ·refine au aj (fun y'=>?_) (fun y'=>?_)
            ·refine au aj (fun z'=>dJ) (fun z'=>?_)
             obtain⟨y,k',h,rfl,e',j,u,f'⟩:=Dq q aC aC;obtain⟨E,F,P,W,rfl,a',b'⟩:=aT j;obtain⟨l',m',n',o',rfl,p',q'⟩:=aT u;refine au aj (fun D'=>have D':¬(h).length<=0:=aC;dJ) (fun D'=>?_)
             replace D':(h).length<=0:=aC;obtain rfl:=oV (l:=h) aC;refine aR ?_;refine aR ?_;refine dH M (fun k=>uI k (bF:=uD)) fun M1 A' e=>?_;have n2:=jd e;replace A':=nz A';exact dQ
            ·refine au aj (fun z'=>?_) (fun z'=>?_)
             ·refine au aj (fun D'=>dJ) (fun D'=>?_)
              obtain⟨y,k',h,rfl,e',j,u,f'⟩:=Dq q aC aC;obtain⟨E,F,P,W,rfl,a',b'⟩:=aT j;obtain⟨l',m',n',o',rfl,p',q'⟩:=aT u;refine au aj (fun c'=>have c':¬(h).length<=0:=aC;dJ) (fun c'=>?_)
              replace c':(h).length<=0:=aC;obtain rfl:=oV (l:=h) aC;refine aR ?_;refine aR ?_;refine dH M (fun k=>uI k (bF:=uD)) fun o2 r0 e=>?_;have r2:=jd e;replace r0:=nz r0;exact dQ
             ·refine au aj (fun D'=>?_) (fun D'=>?_)
              ·refine au aj (fun c'=>dJ) (fun c'=>?_)
               obtain⟨y,k',h,rfl,e',j,u,f'⟩:=Dq q aC aC;obtain⟨E,F,P,W,rfl,a',b'⟩:=aT j;obtain⟨l',m',n',o',rfl,p',q'⟩:=aT u;refine au aj (fun h'=>have h':¬(h).length<=0:=aC;dJ) (fun h'=>?_)
               replace h':(h).length<=0:=aC;obtain rfl:=oV (l:=h) aC;refine aR ?_;refine aR ?_;refine dH M (fun k=>uI k (bF:=uD)) fun s2 s0 e=>?_;have u2:=jd e;replace s0:=nz s0;exact dQ
              ·refine au aj (fun c'=>?_) (fun c'=>?_)
               ·refine au aj (fun h'=>dJ) (fun h'=>?_)
                obtain⟨y,k',h,rfl,e',j,u,f'⟩:=Dq q aC aC;obtain⟨E,F,P,W,rfl,a',b'⟩:=aT j;obtain⟨l',m',n',o',rfl,p',q'⟩:=aT u;refine au aj (fun i'=>have i':¬(h).length<=0:=aC;dJ) (fun i'=>?_)
                replace i':(h).length<=0:=aC;obtain rfl:=oV (l:=h) aC;refine aR ?_;refine aR ?_;refine dH M (fun k=>uI k (bF:=uD)) fun v2 t0 e=>?_;have w2:=jd e;replace t0:=nz t0;exact dQ
               ·refine au aj (fun h'=>?_) (fun h'=>?_)
                ·refine au aj (fun i'=>dJ) (fun i'=>?_)
                 obtain⟨y,k',h,rfl,e',j,u,f'⟩:=Dq q aC aC;obtain⟨E,F,P,W,rfl,a',b'⟩:=aT j;obtain⟨l',m',n',o',rfl,p',q'⟩:=aT u;refine au aj (fun E'=>have E':¬(h).length<=0:=aC;dJ) (fun E'=>?_)
                 replace E':(h).length<=0:=aC;obtain rfl:=oV (l:=h) aC;refine aR ?_;refine aR ?_;refine dH M (fun k=>uI k (bF:=uD)) fun x2 u0 e=>?_;have y2:=jd e;replace u0:=nz u0;exact dQ
                ·refine au aj (fun i'=>?_) (fun i'=>?_)
                 ·refine au aj (fun E'=>dJ) (fun E'=>?_)
                  obtain⟨y,k',h,rfl,e',j,u,f'⟩:=Dq q aC aC;obtain⟨E,F,P,W,rfl,a',b'⟩:=aT j;obtain⟨l',m',n',o',rfl,p',q'⟩:=aT u;refine au aj (fun F'=>have F':¬(h).length<=0:=aC;dJ) (fun F'=>?_)
                  replace F':(h).length<=0:=aC;obtain rfl:=oV (l:=h) aC;refine aR ?_;refine aR ?_;refine dH M (fun k=>uI k (bF:=uD)) fun A2 v0 e=>?_;have D2:=jd e;replace v0:=nz v0;exact dQ
                 ·refine au aj (fun E'=>?_) (fun E'=>?_)
                  ·refine au aj (fun F'=>dJ) (fun F'=>?_)
                   obtain⟨y,w,rfl,W',j,X'⟩:=pJ q aC aC;obtain⟨E,F,P,W,rfl,a',b'⟩:=aT j;refine au aj (fun L'=>have L':¬(w).length<=0:=aC;dJ) (fun L'=>?_)
                   replace L':(w).length<=0:=aC;obtain rfl:=oV (l:=w) aC;refine aR ?_;refine aR ?_;refine dH M (fun k=>uI k (bF:=uD)) fun E2 w0 e=>?_;have F2:=jd e;replace w0:=nz w0;exact dQ
                  ·refine au aj (fun F'=>?_) (fun F'=>?_)
                   ·refine au aj (fun L'=>dJ) (fun L'=>?_)
                    obtain⟨y,w,rfl,W',j,X'⟩:=pJ q aC aC;obtain⟨E,F,P,W,rfl,a',b'⟩:=aT j;refine au aj (fun M'=>have M':¬(w).length<=0:=aC;dJ) (fun M'=>?_)
                    replace M':(w).length<=0:=aC;obtain rfl:=oV (l:=w) aC;refine aR ?_;refine aR ?_;refine dH M (fun k=>uI k (bF:=uD)) fun M2 x0 e=>?_;have P2:=jd e;replace x0:=nz x0;exact dQ
                   ·refine au aj (fun L'=>?_) (fun L'=>?_)
                    ·refine au aj (fun M'=>dJ) (fun M'=>?_)
                     obtain⟨y,w,rfl,W',j,X'⟩:=pJ q aC aC;obtain⟨E,F,P,W,rfl,a',b'⟩:=aT j;refine au aj (fun P'=>have P':¬(w).length<=0:=aC;dJ) (fun P'=>?_)
                     replace P':(w).length<=0:=aC;obtain rfl:=oV (l:=w) aC;refine aR ?_;refine aR ?_;refine dH M (fun k=>uI k (bF:=uD)) fun T2 A0 e=>?_;have W2:=jd e;replace A0:=nz A0;exact dQ
                    ·refine au aj (fun M'=>?_) (fun M'=>?_)
                     ·refine au aj (fun P'=>dJ) (fun P'=>?_)
                      obtain⟨y,w,rfl,W',j,X'⟩:=pJ q aC aC;obtain⟨E,F,P,W,rfl,a',b'⟩:=aT j;refine aR ?_;refine aR ?_;refine au aj (fun j'=>?_) (fun j'=>?_)
                      ·have h9:=j'
                       replace j':¬(w).length<=6:=WZ;clear h9;refine fO M ?_;exact Yu
                      ·have h9:=j'
                       replace j':(w).length<=6:=WZ;clear h9;refine aR ?_;refine dH M Bw fun X2 e2 e=>?_;refine aR ?_;refine dH M (fun k=>uI k (bF:=uD)) fun W0 a0 e=>?_;have a3:=jd e;replace a0:=nz a0;exact dQ
                     ·refine au aj (fun P'=>?_) (fun P'=>?_)
                      ·refine au aj (fun j'=>dJ) (fun j'=>?_)
                       obtain⟨y,w,rfl,W',j,X'⟩:=pJ q aC aC;obtain⟨E,F,P,W,rfl,a',b'⟩:=aT j;refine au aj (fun d'=>have d':¬(w).length<=0:=aC;dJ) (fun d'=>?_)
                       replace d':(w).length<=0:=aC;obtain rfl:=oV (l:=w) aC;refine aR ?_;refine aR ?_;refine aR ?_;refine dH M (fun k=>aEt k (bF:=by exact(hall _ jS))) fun W0 a0 e=>?_
                       obtain⟨x4,y4,z4,A4,D4,E4,F4,L4,M4,rfl⟩:=zA e;exact au aj (fun P1=>dQ) (fun P1=>dJ)
                      ·refine au aj (fun j'=>?_) (fun j'=>?_)
                       ·refine au aj (fun d'=>dJ) (fun d'=>?_)
                        refine au aj (fun D0=>have D0:¬(lB).length<=0:=aC;dJ) (fun D0=>?_)
                        replace D0:(lB).length<=0:=aC;obtain rfl:=oV (l:=lB) aC;exact aqd
                       ·refine au aj (fun d'=>?_) (fun d'=>?_)
                        ·have h9:=d'
                         replace d':¬(lB).length<=6:=WZ;clear h9;refine fO M ?_;exact PW rfl M M qE
                        ·have h9:=d'
                         replace d':(lB).length<=6:=WZ;clear h9;refine dH M Bw fun W0 a0 e=>?_;exact aqd
end
end
end Go.Proofs.YtdjcfaaongngeaaGreatDoor

/- A part of the proof: see the last text. -/
import Derived.Test.YtdjcfaaongngeaaGreatDoorZn
import Derived.Test.YtdjcfaaongngeaaGreatDoorZo
set_option linter.all false
set_option maxRecDepth 100000
set_option maxHeartbeats 0
namespace Go.Proofs.YtdjcfaaongngeaaGreatDoor
noncomputable section
variable {b:Nat}{T:Nat->ah D}{P:Prop}
section
open Go Go.RowKit
def aIK:G bJ:=[ah7,avN]
def aIL:Tree:=.call 0 QK [] alc
def aIM:TC 107 [.agg [.S (.var 3),.S (.var 4),.S (.var 5),.S (.var 6)],.S (.var 7)] none aIK [] aIL (eB++[.R 0]):=tc
def aIN:gU 107:=gY Tryz.func107 aS
def aIJ.qE (h:P:=by first|(simp only[iJ];exact QE)|exact QE):P:=h
open aIJ in
def aEo (b':bH T) (n:Nat) (h:(C8 n).aA T) (e:(Je).aA T):(Xy n).aA T:=by
 intro V pre ⟨q,Z⟩
 match V,q with
 |[.agg e',.one d1],⟨u,w,j,hex⟩=>
 obtain⟨f',g',c0,o0,rfl,y,E,F⟩:=jT u;obtain⟨c',rfl,P,W⟩:=bW w;have A:fG T _ _:=(ac h aeG (ac e aoE an));replace j:(c').length+n<=1000000:=j;obtain rfl:=Z;refine sV b' aIN A.1 all_nil A.2 bn aIM (kD y E F (ay (eP P W) aX)) ?_;refine kX M (agu ·) fun h' hR a'=>?_
 rcases JG hR with⟨y0,hy0,rfl⟩|⟨d',hy0,l,rfl⟩
 ·obtain⟨kA,tA,xA,cA,rfl,i',j'⟩:=gQ (tH a').1
  refine jo M ?_;refine eT M Jv fun a'=>?_;exact aqb
 ·refine fO (den_nz M l) ?_
  exact aU M (TR.err (f:=d') qE l)
def aJ3:G bJ:=[ah4,avO]
def aJ4:Tree:=.call 0 QK [.int .i64 0,.int .i64 0] alc
def aJ5:TC 97 [.agg [.S (.var 3),.S (.var 4),.S (.var 5),.S (.var 6)],.S (.var 7)] none aJ3 [] aJ4 (fZ++[.R 0]):=tc
def aJ6:gU 97:=gY Tryz.func97 aS
def aJ2.qE (h:P:=by first|(simp only[iJ];exact QE)|exact QE):P:=h
open aJ2 in
def aMg {T:Nat->ah D} (a':bH T) (n:Nat) (h:(E9 n).aA T) (e:(Gr n).aA T):(XG n).aA T:=by
 intro V pre ⟨u,Z⟩
 match V,u with
 |[.agg e',.one d1],⟨hp0,w,l,hex⟩=>
 obtain⟨f',g',c0,o0,rfl,y,E,F⟩:=jT hp0;obtain⟨b',rfl,P,W⟩:=bW w;have A:fG T _ _:=(ac h Xg (ac e aeF an));replace l:(b').length+n<=1000000:=l;obtain rfl:=Z;refine sV a' aJ6 A.1 all_nil A.2 bn aJ5 (kD y E F (ay (eP P W) aX)) ?_;refine rV M (fun k=>Sq k (bF:=by exact hex)) fu (fun y0 hy0 j=>?_) fun c' h' hy0 q j d'=>?_
 ·obtain⟨kA,tA,xA,cA,rfl,i',j'⟩:=gQ j
  replace hy0:=nz hy0;refine jo M ?_;refine eT M (fun k=>pG k (bF:=by exact(fF (aiw (T:=8) rfl hp0 hy0) hex))) fun j=>?_
  exact aqb
 ·replace hy0:=nz hy0
  obtain⟨k',rfl⟩:=lV j;obtain⟨l',m',n',o',rfl,p',q'⟩:=gQ j;refine fO (den_nz M q) ?_;exact aU M (TR.err (f:=c') qE q)
def atN:G bJ:=[ah4]
def TH:eX:=⟨0,26,WI,[(.normal,acn,[C,C]),(.normal,⟨[(7,.gy 11 dx 4)],[(10,iy),(11,.seq 4 dx)],12⟩,[C,C,.R 2])]⟩
def ahr:G iq:=[⟨WI,[C,C,.R 8,.R 0,C],.B Mx (.fT yY (.call 0 [.agg Vu,b_] bL (.leaf 1 [bT,dZ,cu,b_,.S (.snoc .d9 [fQ,bZ,dU,fI]),zS] [(11,12)]))) zP⟩,⟨⟨[(0,fU),(1,cu),(2,b_),(7,.gy 11 dB 4),(8,dz)],[(10,iy),(11,.seq 4 dB)],12⟩,[C,C,.R 8,.R 0,.R 2,C],.B WK (.fT Bg (.call 0 [.agg WE,b_] bL (.fT (.bin .leq (.len (.snoc dB adI)) mG) (.leaf 1 [dZ,fD,cu,b_,.S (.snoc dB adI),Cx] [(11,13)])))) adh⟩]
def aHr:Tree:=.bX 0 Qx adV
def aHq:ko 137 200 0 TH atN [] ahr:=.of aS
def aHs:TC 137 [.S (.var 5),.S (.var 6)] lW atN [TH] aHr (fl++[.R 8]++[.R 0]):=tc
def aHt:gU 137:=gY Tryz.func137 aS
def ae8 (n:Nat):gu:=⟨TH,fun ds=>match ds with|[e,h,q,u,w]=>mU [e,h]/\aJ O ds (sk ahr)/\w=.int .i64 0/\([e,h]=aM->∀x∈rD q,aI x<=n)/\([e,h]=aM->(rD u).length+n<=1000000)|_=>False,
 fun ds j out=>match ds with|[e,h,q,u,_]=>RL (bO (eO fun x=>ji n x (bg (rD u))) ([]:G Rw) (rD q)) (fun l=>.one (.R l)) iQ [e,h] ([]:G Rw) [] (fun s=>[.R s]) j out|_=>False⟩
def aB3:(ae8 b).eZ ⟨sk ahr,true,0,4,[[],[]]⟩:=BL
def TH.qE (h:P:=by first|(simp only[eO];exact QE)|exact QE):P:=h
open TH in
def aCD (h':bH T) (n:Nat) (h:(E9 n).aA T):(ae8 n).Ok T Tryz.prog (fun x=>x∈dO (kU 137)) O fM:=by
 intro ds w
 match ds,w with
 |[l,u,F,P,k'],⟨Z,hk,W,hex,e⟩=>
 subst W;obtain⟨rows,rfl,lH,j⟩:=bW (rP 2 hk);obtain⟨vars,rfl,y,E⟩:=bW (rP 3 hk);have l':rows.length<=1000000:=lH;replace hex:[l,u]=aM->∀x∈rows,aI x<=n:=hex;replace e:[l,u]=aM->vars.length+n<=1000000:=e;have A:fG T _ _:=(ac h Xg an);refine JC (c:=ae8 n) (s0:=([]:G Rw)) (step:=eO fun x=>ji n x (bg vars)) h' (fun a k=>a.length<=k) (fun p q i=>[p,q,.R rows,.R vars,i]) (fun a p q i=>[p,q,.R rows,.R vars,.R a,i]) aHq A hk Z j (fun k row hrow jO a' hrun=>?_) fun k a0 row i' hrow jO a' hrun=>?_
 ·replace hex:=hex hrun.jE
  replace e:=e hrun.jE;have mh:=hex _ (kg hrow);obtain⟨b',c',d',e',rfl,f',g'⟩:=aT jO;refine lF M (Sq ·) fu ?_ fun y1 hy1 hk=>?_
  exact EX;exact arn
 ·replace hex:=hex hrun.jE
  replace e:=e hrun.jE;have mh:=hex _ (kg hrow);obtain⟨b',c',d',e',rfl,f',g'⟩:=aT jO;refine lF M (Sq ·) fu ?_ fun y1 hy1 hk=>?_
  exact EX;exact aqJ
def aHp.qE (h:P:=by(try simp only[tD,rD,iD,qW,uT,vR,kS,lY,↓tO,↓uU])<;>(first|(first|exact hy0|exact hy)|rfl)):P:=h
open aHp in
def aCE (j:bH T) (n:Nat) (e:(E9 n).aA T):(Rk n).aA T:=by
 intro V pre ⟨h,Z⟩
 match V,h with
 |[.one d0,.one d1],⟨l,q,bN,hex⟩=>
 obtain⟨w0,rfl,u,w⟩:=bW l;obtain⟨w1,rfl,y,E⟩:=bW q;have A:fG T _ _:=(ac e Xg an);have aD:=(lc (aCD j n e) aB3 ln);refine mY (la:=kR) j aHt A.1 aD.1 A.2 aD.2 aHs (ay (eP u w) (ay (eP y E) aX)) Z (fun hq=>?_);exact afQ
def aLN:G bJ:=[avF,avL,⟨118,none,(.one (.bool))⟩]
def aLO:Tree:=.call 0 Kk [] akS
def aLP:TC 86 [.agg [.S (.var 3),.S (.var 4),.S (.var 5),.S (.var 6)]] none aLN [] aLO (fC):=tc
def aLQ:gU 86:=gY Tryz.func86 aS
def aOi (w:bH T) (y:∀n,(Gs n).aA T) (A:∀n,(Gj n).aA T) (E:∀n,(RD n).aA T):(Je).aA T:=by
 intro V pre ⟨e,Z⟩
 match V,e with
 |[.agg P],h=>
 obtain⟨k0,t0,x0,c0,rfl,j,l,q⟩:=oF h;obtain⟨fn,u,F⟩:=aLQ;obtain rfl:=Z;refine xk (c:=Je) mI mixed (lT w) u F (mK (cs:=[(Gs (aI [.int .i64 k0,.str t0,.int .i64 x0,.R c0])),(Gj (aI [.int .i64 k0,.str t0,.int .i64 x0,.R c0])),(RD (aI [.int .i64 k0,.str t0,.int .i64 x0,.R c0]))]) rfl (all_cons (y _) (all_cons (A _) (all_cons (E _) all_nil)))) (mP (ls:=[]) rfl all_nil) (pre:=[]) aLP (ay aO (ay (mo j) (ay aO (ay (eP l q) aX)))) rfl rfl rfl ?_;exact aqL
def aKP:G bJ:=[avH,avU,avE]
def aKQ:Tree:=.call 0 Kk [] akS
def aKR:TC 67 [.agg [.S (.var 3),.S (.var 4),.S (.var 5),.S (.var 6)]] none aKP [] aKQ (fC):=tc
def aKS:gU 67:=gY Tryz.func67 aS
def aMw (w:bH T) (n:Nat) (hn:n+100<=1000000) (y:∀n,(Gq n).aA T) (A:∀n,(Gn n).aA T) (E:∀n,n<=1000000->(Br n).aA T):(Gr n).aA T:=by
 intro V pre ⟨e,Z⟩
 match V,e with
 |[.agg W],⟨h,P⟩=>
 obtain⟨k0,t0,x0,c0,rfl,j,l,q⟩:=oF h;obtain⟨fn,u,F⟩:=aKS;obtain rfl:=Z;refine xk (c:=Gr n) mI mixed (lT w) u F (mK (cs:=[(Gq (aI [.int .i64 k0,.str t0,.int .i64 x0,.R c0])),(Gn (aI [.int .i64 k0,.str t0,.int .i64 x0,.R c0])),(Br (aI [.int .i64 k0,.str t0,.int .i64 x0,.R c0]))]) rfl (all_cons (y _) (all_cons (A _) (all_cons (E _ I) all_nil)))) (mP (ls:=[]) rfl all_nil) (pre:=[]) aKR (ay aO (ay (mo j) (ay aO (ay (eP l q) aX)))) rfl rfl rfl ?_;exact aqL
def aI7:G bJ:=[ah5,avZ]
def aI8:Tree:=.B F9 EC (.call 0 [MN,aN] [] (.B dB EC (.B Nc (.call 1 Kk [] (.leaf 0 [dz] [])) eF)))
def aI9:TC 162 [.agg [.S (.var 3),.S (.var 4),.S (.var 5),.S (.var 6)]] none aI7 [] aI8 (fC):=tc
def aJa:gU 162:=gY Tryz.func162 aS
def aI6.qE (h:P:=by(try simp only[tD,rD,iD,sZ,↓tO,↓uU])<;>(first|(simp[mZ,nk,jh,iD,tk,rD, *];done)|(simp_all[mZ,nk,jh,iD,tk,rD];done))):P:=h
open aI6 in
def aFN (y:bH T) (n:Nat) (h:(CX (n+1)).aA T) (e:(Ru n).aA T):(aeW (n+1)).aA T:=by
 intro V pre ⟨j,Z⟩
 match V,j with
 |[.agg W],⟨l,hex⟩=>
 obtain⟨a',b',c',c0,rfl,q,u,w⟩:=oF l;have A:fG T _ _:=(ac h aor (ac e aou an));obtain rfl:=Z;refine sV y aJa A.1 all_nil A.2 bn aI9 (ay aO (ay (mo q) (ay aO (ay (eP u w) aX)))) ?_;refine au aj (fun E=>aU) (fun E=>?_);refine eT M (fun k=>Sr k (bF:=by exact hex)) fun d'=>?_
 refine au aj (fun F=>aU) (fun F=>?_);refine au aj (fun P=>?_) (fun P=>aU);exact Sc
def auL:G bJ:=[avF]
def aaf:eX:=⟨0,19,WH,[(.normal,Wv,[C])]⟩
def auK:G iq:=[⟨WH,[C,.R 2,C],.B (.bin .lss dx MS) (.fT Ky (.call 0 [.agg amg] [] (.leaf 0 [.S (.bin .add bQ dN),fJ,.S adb] []))) (.leaf 1 [dY] [])⟩]
def aK6:Tree:=.bX 0 [cO,dN,aH] (.cons Xa .nil)
def aag:ko 116 200 0 aaf auL [] auK:=.of aS
def aK7:TC 116 [.agg [.S (.var 3),.S (.var 4),.S (.var 5),.S (.var 6)]] none auL [aaf] aK6 (fC):=tc
def aK8:gU 116:=gY Tryz.func116 aS
def XP (n:Nat):gu:=⟨aaf,fun ds=>match ds with|[.int .i64 _,.R rows,.int .i64 k]=>aW O (.R rows) (.R 2)/\k=0/\(∀x∈rows,aI x<=n)|_=>False,
 fun ds j out=>match ds with
  |[.int .i64 a,.R rows,.int .i64 _]=>match j with
   |0=>out=[.int .i64 (rows.foldl (fun a x=>wrap (a+rU n x)) a)]
   |_=>False
  |_=>False⟩
def aNg (c':bH T) (n:Nat) (u:(Gs n).aA T):(XP n).aA T 116:=by
 intro ds w
 match ds,w with
 |[.int .i64 a0,.R rows,.int .i64 _],⟨A,rfl,E⟩=>
 obtain⟨b',F,hlen,P⟩:=bW A;cases F;refine vL (c:=XP n) mI mixed (lT c') aag.one aag.bX (fun j o N=>?_) rfl rfl aag.self aag.jC (mK (cs:=[Gs n]) rfl (all_cons u all_nil)) (mP (ls:=[]) rfl all_nil)
  (lQ:=fun i m ds=>∃(k:Nat) (a:Int),ds=[.int .i64 a,.R rows,.int .i64 k]/\m=rows.length-k/\k<=rows.length/\rows.foldl (fun a x=>wrap (a+rU n x)) a0=(rows.drop k).foldl (fun a x=>wrap (a+rU n x)) a) (m:=rows.length) ⟨0,a0,rfl,rfl,gK _,rfl⟩ ?_
 ·exact Ol
 ·intro i st m g' l d'
  match i,l with
  |0,l=>
   obtain rfl:=bI l;obtain⟨k,a,rfl,rfl,k',hc⟩:=d';refine⟨ay aO (ay A (ay aO aX)),?_⟩;refine iR rfl (fun h=>?_) (fun h=>?_)
   ·replace h:k<rows.length:=by simpa using h
    refine lM (mg rfl bS) ?_;obtain⟨row,e,q⟩:=kZ P h;have y:=E _ (kg e);obtain⟨W,t1,a',c1,rfl,h',i',j'⟩:=oF q;refine nT (jD (vC rfl (gP (gI rfl rfl e rfl) (gP (gI rfl rfl e rfl) (gP (gI rfl rfl e rfl) (gP (gI rfl rfl e rfl) uy))))) qh) rfl rfl ⟨⟨q,y⟩,rfl⟩ (fun e' post hR _ _=>?_);obtain⟨hR,f'⟩:=hR;replace hR:e'=.one (.int .i64 (rU n [.int .i64 W,.str t1,.int .i64 a',.R c1])):=hR;subst hR f';refine fV rfl ⟨[_,_,_],rfl,.inl ⟨_,wO,?_,k+1,wrap (a+rU n [.int .i64 W,.str t1,.int .i64 a',.R c1]),?_,rfl,?_,?_⟩⟩
    ·omega
    ·exact yw
    ·omega
    ·rw[hc,ny e];rfl
   ·exact aqj
  |i+1,l=>simp[auK] at l
def aNi (w:bH T) (n:Nat) (e:(Gs n).aA T):(Gs (n+1)).aA T:=by
 intro V pre ⟨q,Z⟩
 match V,q with
 |[.agg F],⟨y,hex⟩=>
 obtain⟨k0,t0,x0,c0,rfl,A,h,l⟩:=oF y;obtain rfl:=Z;obtain⟨fn,hf,E⟩:=aK8;refine xk (c:=Gs (n+1)) mI mixed (lT w) hf E (mK (cs:=[Gs n]) rfl (all_cons e all_nil)) (mP (ls:=[XP n]) rfl (all_cons (aNg w n e) all_nil)) (pre:=[]) aK7 (ay aO (ay (mo A) (ay aO (ay (eP h l) aX)))) rfl rfl rfl ?_;refine uV rfl ⟨eP h l,rfl,fun x hx=>?_⟩ (fun j x S' ks out u hR P=>?_)
 ·exact Yy
 ·match j,u,hR with
  |0,_,N=>
   exact aq3
  |j+1,u,_=>simp[lam,XP,aaf] at u
def auC:G bJ:=[avH]
def Z9:eX:=⟨0,21,WC,[(.normal,Wv,[C])]⟩
def auB:G iq:=[⟨WC,[C,.str,C,.R 2,C,C],.B acw (.fT Bg (.call 0 [.agg abL] [] (.leaf 0 [dY,fJ,cu,b_,.S (.bin .add dB bZ),Cx] []))) (.leaf 1 aek [])⟩]
def aKF:Tree:=.bX 0 [bQ,fE,dx,dN,cO,aH] (.cons Xa .nil)
def Z_:ko 98 200 0 Z9 auC [] auB:=.of aS
def aKG:TC 98 [.agg [.S (.var 3),.S (.var 4),.S (.var 5),.S (.var 6)]] none auC [Z9] aKF (fC):=tc
def aKH:gU 98:=gY Tryz.func98 aS
def XI (n:Nat):gu:=⟨Z9,fun ds=>match ds with|[.int .i64 _,.str nn,.int .i64 _,.R rows,.int .i64 _,.int .i64 k]=>aW O (.str nn) .str/\aW O (.R rows) (.R 2)/\k=0/\(∀x∈rows,aI x<=n)|_=>False,
 fun ds j out=>match ds with
  |[_,_,_,.R rows,.int .i64 a,_]=>match j with
   |0=>out=[.int .i64 (rows.foldl (fun a x=>wrap (a+rU n x)) a)]
   |_=>False
  |_=>False⟩
def aMp (d':bH T) (n:Nat) (u:(Gq n).aA T):(XI n).aA T 98:=by
 intro ds w
 match ds,w with
 |[.int .i64 e',.str nn,.int .i64 f',.R rows,.int .i64 a0,.int .i64 _],⟨A,E,rfl,F⟩=>
 obtain⟨c',P,hlen,W⟩:=bW E;cases P;refine vL (c:=XI n) mI mixed (lT d') Z_.one Z_.bX (fun j o N=>?_) rfl rfl Z_.self Z_.jC (mK (cs:=[Gq n]) rfl (all_cons u all_nil)) (mP (ls:=[]) rfl all_nil)
  (lQ:=fun i m ds=>∃(k:Nat) (a:Int),ds=[.int .i64 e',.str nn,.int .i64 f',.R rows,.int .i64 a,.int .i64 k]/\m=rows.length-k/\k<=rows.length/\rows.foldl (fun a x=>wrap (a+rU n x)) a0=(rows.drop k).foldl (fun a x=>wrap (a+rU n x)) a) (m:=rows.length) ⟨0,a0,rfl,rfl,gK _,rfl⟩ ?_
 ·exact Ol
 ·intro i st m j' l g'
  match i,l with
  |0,l=>
   obtain rfl:=bI l;obtain⟨k,a,rfl,rfl,n',hc⟩:=g';refine⟨ay aO (ay A (ay aO (ay E (ay aO (ay aO aX))))),?_⟩;refine iR rfl (fun h=>?_) (fun h=>?_)
   ·replace h:k<rows.length:=by simpa using h
    refine lM (mg rfl bS) ?_;obtain⟨row,e,q⟩:=kZ W h;have y:=F _ (kg e);obtain⟨a',t1,b',c1,rfl,k',l',m'⟩:=oF q;refine nT (jD (vC rfl (gP (gI rfl rfl e rfl) (gP (gI rfl rfl e rfl) (gP (gI rfl rfl e rfl) (gP (gI rfl rfl e rfl) uy))))) qh) rfl rfl ⟨⟨q,y⟩,rfl⟩ (fun h' post hR _ _=>?_);obtain⟨hR,i'⟩:=hR;replace hR:h'=.one (.int .i64 (rU n [.int .i64 a',.str t1,.int .i64 b',.R c1])):=hR;subst hR i';refine fV rfl ⟨[_,_,_,_,_,_],rfl,.inl ⟨_,wO,?_,k+1,wrap (a+rU n [.int .i64 a',.str t1,.int .i64 b',.R c1]),?_,rfl,?_,?_⟩⟩
    ·omega
    ·exact yw
    ·omega
    ·rw[hc,ny e];rfl
   ·exact aqj
  |i+1,l=>simp[auB] at l
def aMr (y:bH T) (n:Nat) (e:(Gq n).aA T):(Gq (n+1)).aA T:=by
 intro V pre ⟨u,Z⟩
 match V,u with
 |[.agg F],⟨A,hex⟩=>
 obtain⟨k0,t0,x0,c0,rfl,h,l,q⟩:=oF A;obtain rfl:=Z;obtain⟨fn,hf,E⟩:=aKH;refine xk (c:=Gq (n+1)) mI mixed (lT y) hf E (mK (cs:=[Gq n]) rfl (all_cons e all_nil)) (mP (ls:=[XI n]) rfl (all_cons (aMp y n e) all_nil)) (pre:=[]) aKG (ay aO (ay (mo h) (ay aO (ay (eP l q) aX)))) rfl rfl rfl ?_;refine uV rfl ⟨mo h,eP l q,rfl,fun x hx=>?_⟩ (fun j x S' ks out w hR P=>?_)
 ·exact Yy
 ·match j,w,hR with
  |0,_,N=>
   exact aq3
  |j+1,w,_=>simp[lam,XI,Z9] at w
def at1:G bJ:=[avL]
def ZR:eX:=⟨0,20,WH,[(.normal,Wv,[C])]⟩
def atY:G iq:=[⟨WH,[C,.R 2,C],.B (.bin .lss dx MS) (.fT Ky (.call 0 [.agg amg] [] (.B (.bin .lss bQ dN) (.leaf 0 [b_,fJ,.S adb] []) (.leaf 0 aej [])))) (.leaf 1 [dY] [])⟩]
def aHH:Tree:=.bX 0 [aH,dN,aH] (.cons (.leaf 0 [zS] []) .nil)
def ZT:ko 117 200 0 ZR at1 [] atY:=.of aS
def aHI:TC 117 [.agg [.S (.var 3),.S (.var 4),.S (.var 5),.S (.var 6)]] none at1 [ZR] aHH (fC):=tc
def aHJ:gU 117:=gY Tryz.func117 aS
def Xu (n:Nat):gu:=⟨ZR,fun ds=>match ds with|[.int .i64 _,.R rows,.int .i64 k]=>aW O (.R rows) (.R 2)/\k=0/\(∀x∈rows,aI x<=n)|_=>False,
 fun ds j out=>match ds with
  |[.int .i64 a,.R rows,.int .i64 _]=>match j with
   |0=>out=[.int .i64 (rows.foldl (fun a x=>max a (oQ n x)) a)]
   |_=>False
  |_=>False⟩
def aC9 (a':bH T) (n:Nat) (q:(Gj n).aA T):(Xu n).aA T 117:=by
 intro ds w
 match ds,w with
 |[.int .i64 a0,.R rows,.int .i64 _],⟨A,rfl,E⟩=>
 obtain⟨W,F,hlen,P⟩:=bW A;cases F;refine vL (c:=Xu n) mI mixed (lT a') ZT.one ZT.bX (fun j o N=>?_) rfl rfl ZT.self ZT.jC (mK (cs:=[Gj n]) rfl (all_cons q all_nil)) (mP (ls:=[]) rfl all_nil)
  (lQ:=fun i m ds=>∃(k:Nat) (a:Int),ds=[.int .i64 a,.R rows,.int .i64 k]/\m=rows.length-k/\k<=rows.length/\rows.foldl (fun a x=>max a (oQ n x)) a0=(rows.drop k).foldl (fun a x=>max a (oQ n x)) a) (m:=rows.length) ⟨0,a0,rfl,rfl,gK _,rfl⟩ ?_
 ·exact Ol
 ·intro i st m e' e b'
  match i,e with
  |0,e=>
   obtain rfl:=bI e;obtain⟨k,a,rfl,rfl,i',hc⟩:=b';refine⟨ay aO (ay A (ay aO aX)),?_⟩;refine iR rfl (fun h=>?_) (fun h=>?_)
   ·replace h:k<rows.length:=by simpa using h
    refine lM (mg rfl bS) ?_;obtain⟨row,hrow,l⟩:=kZ P h;have y:=E _ (kg hrow);obtain⟨k1,t1,x1,c1,rfl,f',g',h'⟩:=oF l;refine nT (jD (vC rfl (gP (gI rfl rfl hrow rfl) (gP (gI rfl rfl hrow rfl) (gP (gI rfl rfl hrow rfl) (gP (gI rfl rfl hrow rfl) uy))))) qh) rfl rfl ⟨⟨l,y⟩,rfl⟩ (fun c' post hR _ _=>?_);obtain⟨hR,d'⟩:=hR;replace hR:c'=.one (.int .i64 (oQ n [.int .i64 k1,.str t1,.int .i64 x1,.R c1])):=hR;subst hR d';refine iR rfl (fun u=>?_) (fun u=>?_)
    ·replace u:a<oQ n [.int .i64 k1,.str t1,.int .i64 x1,.R c1]:=by simpa using u
     refine fV rfl ⟨[_,_,_],rfl,.inl ⟨_,wO,?_,k+1,oQ n [.int .i64 k1,.str t1,.int .i64 x1,.R c1],?_,rfl,?_,?_⟩⟩
     ·omega
     ·exact yw
     ·omega
     ·exact aqX
    ·replace u:¬a<oQ n [.int .i64 k1,.str t1,.int .i64 x1,.R c1]:=by simpa using u
     refine fV rfl ⟨[_,_,_],rfl,.inl ⟨_,wO,?_,k+1,a,?_,rfl,?_,?_⟩⟩
     ·omega
     ·exact yw
     ·omega
     ·exact apQ
   ·exact aqa
  |i+1,e=>simp[atY] at e
def aDb (w:bH T) (n:Nat) (e:(Gj n).aA T):(Gj (n+1)).aA T:=by
 intro V pre ⟨q,Z⟩
 match V,q with
 |[.agg F],⟨y,hex⟩=>
 obtain⟨k0,t0,x0,c0,rfl,A,h,l⟩:=oF y;obtain rfl:=Z;obtain⟨fn,hf,E⟩:=aHJ;refine xk (c:=Gj (n+1)) mI mixed (lT w) hf E (mK (cs:=[Gj n]) rfl (all_cons e all_nil)) (mP (ls:=[Xu n]) rfl (all_cons (aC9 w n e) all_nil)) (pre:=[]) aHI (ay aO (ay (mo A) (ay aO (ay (eP h l) aX)))) rfl rfl rfl ?_;refine uV rfl ⟨eP h l,rfl,fun x hx=>?_⟩ (fun j x S' ks out u hR P=>?_)
 ·exact Yy
 ·match j,u,hR with
  |0,_,N=>
   exact arK
  |j+1,u,_=>simp[lam,Xu,ZR] at u
end
end
end Go.Proofs.YtdjcfaaongngeaaGreatDoor

/- A part of the proof: see the last text. -/
import Derived.Test.YtdjcfaaongngeaaGreatDoorZn
set_option linter.all false
set_option maxRecDepth 100000
set_option maxHeartbeats 0
namespace Go.Proofs.YtdjcfaaongngeaaGreatDoor
noncomputable section
variable {b:Nat}{T:Nat->ah D}{P:Prop}{t:Rw}{l:G Rw}{d:D}{q:G Nat}{x:Y}{k o:Int}
section
open Go Go.RowKit
def ahI:G bJ:=[avS]
def Pk:eX:=⟨0,61,akp,[(.normal,⟨[(9,.aV)],[(10,iy)],13⟩,[C,C]),(.normal,⟨[(9,.gy 13 dx 9)],[(10,iy),(13,.seq 9 dx)],14⟩,[C,C,.R 5])]⟩
def ahG:G iq:=[⟨akp,[C,C,.R 8,.bool,C],.B Mx (.B iC (.fT yY (.call 0 [.agg Vu] bL (.B dN (.B (.bin .neq fQ cO) (.B (.bin .neq fQ iP) (.B (.bin .neq fQ jI) (.B (.bin .eql jQ aH) (.leaf 1 akA [(13,16)]) (.leaf 1 Vr [(13,16)])) V7) V7) V7) V7))) zP) zP⟩,⟨⟨[(0,fU),(2,cu),(3,b_),(9,.gy 13 dB 9),(10,dz)],[(10,iy),(13,.seq 9 dB)],14⟩,[C,C,.R 8,.bool,.R 5,C],.B WK (.B iC (.fT Bg (.call 0 [.agg WE] bL (.B dN (.B (.bin .neq bZ cO) (.B (.bin .neq bZ iP) (.B (.bin .neq bZ jI) (.B aeg (.fT Nb (.leaf 1 anm [(13,17)])) (.fT Nb (.leaf 1 Ww [(13,17)]))) WX) WX) WX) WX))) (.leaf 3 Qo [(13,13)])) (.leaf 3 Qo [(13,13)])⟩]
def TQ:eX:=⟨0,61,amM,[(.normal,⟨[(9,.aV)],[(10,iy)],12⟩,[C,C]),(.normal,⟨[(9,.gy 12 dx 9)],[(10,iy),(12,.seq 9 dx)],13⟩,[C,C,.R 5])]⟩
def ahH:G iq:=[⟨amM,[C,C,.R 8,.bool,C],.B Mx (.B iC (.fT yY (.call 0 [.agg Vu] bL (.B dN (.B (.bin .neq fQ cO) (.B (.bin .neq fQ iP) (.B (.bin .neq fQ jI) (.B (.bin .eql jQ aH) (.leaf 1 akA [(12,15)]) (.leaf 1 Vr [(12,15)])) Vp) Vp) Vp) Vp))) zP) zP⟩,⟨⟨[(0,fU),(2,cu),(3,b_),(9,.gy 12 dB 9),(10,dz)],[(10,iy),(12,.seq 9 dB)],13⟩,[C,C,.R 8,.bool,.R 5,C],.B WK (.B iC (.fT Bg (.call 0 [.agg WE] bL (.B dN (.B (.bin .neq bZ cO) (.B (.bin .neq bZ iP) (.B (.bin .neq bZ jI) (.B aeg (.fT Nb (.leaf 1 anm [(12,16)])) (.fT Nb (.leaf 1 Ww [(12,16)]))) VF) VF) VF) VF))) (.leaf 3 Qo [(12,12)])) (.leaf 3 Qo [(12,12)])⟩]
def aJZ:Tree:=.B (.bin .gtr IW (.int .i64 60)) (.B iC (.bX 0 [yX,fQ,bZ,dU,aH] adx) (.bX 0 [bQ,fE,bZ,dU,aH] adx)) (.bX 1 [bQ,fE,bZ,dU,aH] adx)
def aJX:ko 22 200 0 Pk ahI [] ahG:=.of aS
def aJY:ko 22 200 0 TQ ahI [] ahH:=.of aS
def aJ0:TC 22 [oP,.S (.var 9),.S (.var 10)] lW ahI [Pk,TQ] aJZ (fl++fZ++[.R 8]++[.bool]):=tc
def aJ1:gU 22:=gY Tryz.func22 aS
def NQ (n:Nat):gu:=⟨Pk,fun ds=>match ds with|[h,q,e,u,w]=>mU [h,q]/\aJ O ds (sk ahG)/\w=.int .i64 0/\([h,q]=aM->∀x∈rD e,aI x<=n)|_=>False,
 fun ds j out=>match ds with|[h,q,e,u,_]=>RL (bO (eO fun x=>aL (oZ n x) fun f=>if(bD u)&&!(nk f==1||nk f==2||nk f==3) then .error (eD x) else .ok f) ([]:G Rw) (rD e)) (fun l=>.one (.R l)) iQ [h,q] ([]:G Rw) [] (fun s=>[.R s]) j out|_=>False⟩
def afi (n:Nat):gu:=⟨TQ,fun ds=>match ds with|[h,q,e,u,w]=>mU [h,q]/\aJ O ds (sk ahH)/\w=.int .i64 0/\([h,q]=aM->∀x∈rD e,aI x<=n)|_=>False,
 fun ds j out=>match ds with|[h,q,e,u,_]=>RL (bO (eO fun x=>aL (oZ n x) fun f=>if(bD u)&&!(nk f==1||nk f==2||nk f==3) then .error (eD x) else .ok f) ([]:G Rw) (rD e)) (fun l=>.one (.R l)) iQ [h,q] ([]:G Rw) [] (fun s=>[.R s]) j out|_=>False⟩
def aB9:(NQ b).eZ ⟨sk ahG,true,0,4,[[],[]]⟩:=BL
def Pk.qE (h:P:=by first|(simp only[uH,eO,eD];exact QE)|exact QE):P:=h
open Pk in
def aMd (P:bH T) (n:Nat) (e:(Gp n).aA T):(NQ n).Ok T Tryz.prog (fun x=>x∈dO (kU 22)) O fM:=by
 intro ds j
 match ds,j with
 |[l,u,w,y,a'],⟨Z,hk,E,hex⟩=>
 subst E;obtain⟨rows,rfl,lH,h⟩:=bW (rP 2 hk);obtain⟨pack,rfl⟩:=(rP 3 hk).bool;have b':rows.length<=1000000:=lH;replace hex:[l,u]=aM->∀x∈rows,aI x<=n:=hex;have A:fG T _ _:=(ac e Xj an);refine Tf (c:=NQ n) (s0:=([]:G Rw)) (step:=eO fun x=>aL (oZ n x) fun f=>if pack&&!(nk f==1||nk f==2||nk f==3) then .error (eD x) else .ok f) P (fun a k=>a.length<=k) (fun p q i=>[p,q,.R rows,.bool pack,i]) (fun a p q i=>[p,q,.R rows,.bool pack,.R a,i]) aJX A hk Z h (fun k row hrow jO F hrun=>?_) fun k a0 row W hrow jO F hrun=>?_
 ·exact aqM
 ·exact aqY
def aCa:(afi b).eZ ⟨sk ahH,true,0,4,[[],[]]⟩:=BL
def TQ.qE (h:P:=by first|(simp only[uH,eO,eD];exact QE)|exact QE):P:=h
open TQ in
def aMe (P:bH T) (n:Nat) (e:(Gp n).aA T):(afi n).Ok T Tryz.prog (fun x=>x∈dO (kU 22)) O fM:=by
 intro ds j
 match ds,j with
 |[l,u,w,y,a'],⟨Z,hk,E,hex⟩=>
 subst E;obtain⟨rows,rfl,lH,h⟩:=bW (rP 2 hk);obtain⟨pack,rfl⟩:=(rP 3 hk).bool;have b':rows.length<=1000000:=lH;replace hex:[l,u]=aM->∀x∈rows,aI x<=n:=hex;have A:fG T _ _:=(ac e Xj an);refine Tf (c:=afi n) (s0:=([]:G Rw)) (step:=eO fun x=>aL (oZ n x) fun f=>if pack&&!(nk f==1||nk f==2||nk f==3) then .error (eD x) else .ok f) P (fun a k=>a.length<=k) (fun p q i=>[p,q,.R rows,.bool pack,i]) (fun a p q i=>[p,q,.R rows,.bool pack,.R a,i]) aJY A hk Z h (fun k row hrow jO F hrun=>?_) fun k a0 row W hrow jO F hrun=>?_
 ·exact aqM
 ·exact aqY
def aJW.qE (h:P:=by(try simp only[tD,rD,iD,qW,uT,vR,kS,lY,↓tO,↓uU])<;>(unfold uH;first|(rw[bK I];done)|(rw[bK I];rfl)|(rw[bB I];assumption))):P:=h
open aJW in
def aMf (F:bH T) (n:Nat) (h:(Gp n).aA T):(aoU n).aA T:=by
 intro V pre ⟨P,Z⟩
 match V,P with
 |[.agg k',.one d1,.one l'],⟨b',c',d',y⟩=>
 obtain⟨m',n',c0,u,rfl,e',f',g'⟩:=jT b';obtain⟨E,rfl,h',i'⟩:=bW c';obtain⟨j',rfl⟩:=d'.bool;have A:fG T _ _:=(ac h Xj an);have aD:=(lc (aMd F n h) aB9 (lc (aMe F n h) aCa ln));refine mY (la:=kR) F aJ1 A.1 aD.1 A.2 aD.2 aJ0 (kD e' f' g' (ay (eP h' i') (ay zu aX))) Z (fun w=>?_);subst w;replace y:=y rfl;refine au aj (fun W=>?_) (fun W=>?_)
 ·replace W:¬(E).length<=60:=aC
  refine fO M ?_;refine K.bX M (fun k=>by exact⟨.inr ⟨(4,u),(show(((4,u):Fa)).1≠0 from(by decide:(4:Int)≠0)),rfl⟩,k,rfl,(fun w=>absurd (nD (f:=(4,u)) w.symm) (show(((4,u):Fa)).1≠0 from(by decide:(4:Int)≠0)))⟩) fun j x S' ks out q hR o'=>?_
  match j,q,hR with
  |0,q,⟨p,e,N⟩=>
   replace e:bG (bO (eO fun x=>aL (oZ n x) fun f=>if(j')&&!(nk f==1||nk f==2||nk f==3) then .error (eD x) else .ok f) ([]:G Rw) (E)) (fun l=>.one (.R l)) iQ (dL (4,u)) ((fun l=>.one (.R l)) ([]:G Rw)) p:=e
   try simp only[kS,lY] at e
   subst N;replace q:(NQ n).sig.outs[0]?=some (x,S',ks):=q;cases q;obtain⟨w,a'⟩:=e.oq (show(((4,u):Fa)).1≠0 from(by decide:(4:Int)≠0))
   ·subst w
    refine eH.zero ?_;exact jf M (bG.err (f:=(4,u)) qE af3 True.intro)
  |1,q,⟨p,y1,e,N⟩=>
   replace e:bG (bO (eO fun x=>aL (oZ n x) fun f=>if(j')&&!(nk f==1||nk f==2||nk f==3) then .error (eD x) else .ok f) ([]:G Rw) (E)) (fun l=>.one (.R l)) iQ (dL (4,u)) ((fun l=>.one (.R l)) y1) p:=e
   try simp only[kS,lY] at e
   subst N;replace q:(NQ n).sig.outs[1]?=some (x,S',ks):=q;cases q;obtain⟨w,a'⟩:=e.oq (show(((4,u):Fa)).1≠0 from(by decide:(4:Int)≠0))
   ·subst w
    refine eH.succ (eH.zero ?_);exact jf M (bG.err (f:=(4,u)) qE af3 True.intro)
  |j+2,q,_=>simp[lam,NQ,Pk] at q
 ·replace W:(E).length<=60:=aC
  refine Ec (la:=kR) M (fun k=>by exact⟨.inl rfl,k,rfl,(fun _=>by first|exact y|assumption|omega)⟩) ?_ (fun hy1=>?_) fun y1 hy1=>?_
  exact qF
  ·replace hy1:=nz hy1
   exact dQ
  ·replace hy1:=nz hy1
   exact dQ
def Gl (f:ig) (z:D) (k:Kd) (P:DA->Prop):bR:=lU f (.one k) (fun V=>∃x,V=[x,x]/\P x) (fun _ e=>e=.one z)
def pR (ks:G Kd) (n:Nat):DA->Prop:=fun x=>∃r,x=.agg r/\aJ O r ks/\aI r<=n
def pL (T n:Nat):DA->Prop:=fun x=>∃l,x=.one (.R l)/\aW O (.R l) (.R T)/\bM l<=n
def bE {f:ig} {k:Kd} {P:DA->Prop} {ar:G RT}:(Gl f d k P).eZ ⟨ar,false,false⟩:=fun h=>by cases h
def gE {f:ig} {k:Kd} {P:DA->Prop} {x:DA} (h:P x):(Gl f d k P).eU [x,x] []:=⟨⟨x,rfl,h⟩,rfl⟩
def ah2:D->Prop
 |.int _ _=>True
 |.str _=>True
 |_=>False
def Df {F:Nat->D} {d:D} (h:den F x=some d) (hd:ah2 d:=by exact True.intro):den F (.bin .neq x x)=some (.bool false):=by
 exact aqc
def Yd {F:Nat->D} {d:D} (h:den F x=some d) (hd:ah2 d:=by exact True.intro):den F (.bin .eql x x)=some (.bool true):=by
 exact aqc
def afz {F:Nat->D} {b:Y} (h:den F x=some d) (e:den F b=some d) (j:ah2 d:=by exact True.intro):den F (.bin .neq x b)=some (.bool false):=by
 refine mJ h e ?_
 match d,j with
 |.int _ _,_=>simp[jl]
 |.str _,_=>simp[jl]
def CY (s:eX) (BK:aK) (P:G D->Prop):gu:=⟨s,fun ds=>∃us,ds=us++[.int .i64 0]/\P us,fun ds j out=>j=1/\out=if BK then ds.dropLast else[]⟩
def nE {s:eX} {BK:aK} {P:G D->Prop}:(CY s BK P).eZ ⟨[],false,0,0,[]⟩:=fun h=>by cases h
def KU (w:bH T) {f:Nat} {s:eX} {BK:aK} {P:G D->Prop} {s0:iq} {h:G bJ} {bs:G BI} {cs:G bR}
 (hL:ko f b s.r9 s h [] [s0])
 (y:fG T cs bs) (u_:G D->Nat) (A:∀us,P us->aJ O (us++[.int .i64 0]) s0.ks)
 (E:∀us k z,P us->u_ us=z->k<=z->K h bs [] [] cs [] (QL [s0] (CY s BK P) (us++[.int .i64 0]) (fun _ m ds=>∃k:Nat,ds=us++[.int .i64 k]/\k<=z/\m=z-k) (z-k)) s0.t [] (lK++s0.ks) (fM++(us++[.int .i64 (k:Nat)])))
 (l:s0.dw=s.dw:=by rfl) (q:RQ s=true:=by kernel_rfl) (jY:cs.map (·.sig)=h:=by rfl) (j:s.own=0:=by first|rfl|kernel_rfl):(CY s BK P).aA T f:=by
 rintro ds ⟨us,rfl,u⟩;refine Te (c:=CY s BK P) (s0:=s0) w hL.one hL.bX hL.self hL.jC y (A us u) (fun _ m ds=>∃k:Nat,ds=us++[.int .i64 k]/\k<=u_ us/\m=u_ us-k) (u_ us) ⟨0,rfl,gK _,rfl⟩ (fun i st m a' e F _=>?_) rfl l q jY j
 match i,e with
 |0,e=>
  obtain rfl:=bI e;obtain⟨k,rfl,W,rfl⟩:=F;exact E us k _ u rfl W
def nL (p:Nat) (us:G D):Nat:=match us[p]? with
 |some (.R l)=>l.length
 |_=>0
def Rn (n:Nat):bR:=Gl 39 (.int .i64 0) C (pR fC n)
def Rq (n:Nat):bR:=Gl 23 (.bool true) .bool (pR fC n)
def Ro (n:Nat):bR:=Gl 69 (.bool true) .bool (pL 4 n)
def Xv (n:Nat):bR:=Gl 101 (.bool true) .bool (pR kEx n)
def Xw (n:Nat):bR:=Gl 40 (.bool true) .bool (pR tq n)
def Rp (n:Nat):bR:=Gl 26 (.bool true) .bool (pL 5 n)
def aoT (n:Nat):bR:=Gl 9 (.bool true) .bool (pR [.R 6,.R 7] n)
def at5:G bJ:=[avW]
def ahs:eX:=⟨1,80,ajR,[(.ret,⟨[(4,dY)],[],12⟩,[C]),(.normal,⟨[],[],12⟩,[])]⟩
def aHV:iq:=⟨ajR,[C,.str,C,.R 2,C,.str,C,.R 2,C],.B (.bin .lss fI wm) (.fT (.bin .geq fI aH) (.fT (.bin .lss fI sO) (.call 0 [.agg [.S (.cell dN fI 0),.S (.cell dN fI 1),.S (.cell dN fI 2),.S (.cell dN fI 3)],.agg akE] [] (.B Mw (.leaf 1 [bT] []) (.leaf 0 [dY,fJ,cu,b_,dS,dz,eu,dP,.S (.bin .add fI cO)] []))))) Ez⟩
def aHU:ko 39 200 1 ahs at5 [] [aHV]:=.of aS
def aHW:Tree:=.B (.bin .neq bQ bQ) (.B (.bin .lss bQ bQ) WO Wy) (.B (.bin .neq fE fE) (.B (.bin .lss fE fE) WO Wy) (.B (.bin .neq dx dx) (.B (.bin .lss dx dx) WO Wy) (.B (.bin .neq wm wm) (.B (.bin .lss wm wm) WO Wy) (.bX 0 [bQ,fE,dx,dN,bQ,fE,dx,dN,aH] (.cons Xa (.cons anu .nil))))))
def aHX:TC 39 [(.agg [(.S (.var 3)),(.S (.var 4)),(.S (.var 5)),(.S (.var 6))]),(.agg [(.S (.var 3)),(.S (.var 4)),(.S (.var 5)),(.S (.var 6))])] none at5 [ahs] aHW ([.int .i64,.str,.int .i64,.R 2]):=tc
def aHY:gU 39:=gY Tryz.func39 aS
def pT2 (n:Nat):G D->Prop:=fun us=>∃k t x c,us=[.int .i64 k,.str t,.int .i64 x,.R c,.int .i64 k,.str t,.int .i64 x,.R c]/\aJ O [.int .i64 k,.str t,.int .i64 x,.R c] fC/\∀y∈c,aI y<=n
def aN0 (h:aJ O [.int .i64 k,.str q,.int .i64 o,.R l] fC):l.length<=gB/\dR O l fC:=by
 obtain⟨_,_,_,_,e,j,u⟩:=oD h;cases e;exact⟨j,u⟩
def asT {k:G Kd} {z:Kd} (h:aJ O t k) (j:aW O d z):aJ O (t++t++[d]) (k++k++[z]):=(h.append h).append (ay j aX)
def aDp (w:bH T) (n:Nat) (h:(Rn n).aA T):(CY ahs false (pT2 n)).aA T 39:=by
 refine KU w aHU (ac h (bE (ar:=[.agg fC,.agg fC])) an) (nL 3) (fun us q=>?_) fun us k z q y P=>?_
 ·obtain⟨A,t,x,c,rfl,j,l⟩:=q
  exact asT j aO
 ·obtain⟨A,t,x,c,rfl,j,l⟩:=q
  obtain⟨lH,U⟩:=aN0 j;obtain rfl:c.length=z:=y;refine au aj (fun E=>?_) (fun E=>qw (j':=1) rfl M ⟨rfl,rfl⟩);refine aR ?_;refine aR ?_;obtain⟨row,u,e⟩:=kZ U (n:=k) I;have F:=l _ (kg u);obtain⟨W,t1,a',c1,rfl,-,-⟩:=oD e;refine eT M (fun _=>gE ⟨_,rfl,e,F⟩) fun b'=>?_;refine jo M ?_;exact nU (m':=c.length-(k+1)) rfl M aA ⟨k+1,nx,aA,rfl⟩
def agI {r:Rw} (h:aJ O r fC):∃k t x c,r=[.int .i64 k,.str t,.int .i64 x,.R c]:=by
 obtain⟨k,t,x,c,e,_⟩:=oD h;exact⟨k,t,x,c,e⟩
def aDq (j:bH T) (n:Nat) (h:(Rn n).aA T):(Rn (n+1)).aA T:=by
 rintro V pre ⟨⟨x,rfl,r,rfl,e,l⟩,rfl⟩;obtain⟨k,t,x,c,rfl⟩:=agI e;have A:fG T _ _:=(ac h (bE (ar:=[.agg fC,.agg fC])) an);have hc:∀y∈c,aI y<=n:=fun y hy=>by have q:=qj hy;rw[vD] at l;omega
 refine sV j aHY A.1 (all_cons (aDp j n h) all_nil) A.2 (lb:=[_]) ⟨nE,rfl⟩ aHX e ?_;refine jo (Df M) (jo (Df M) (jo (Df M) (jo (Df M) ?_)));refine qp M ⟨[_,_,_,_,_,_,_,_],rfl,k,t,x,c,rfl,e,hc⟩ ?_;exact aqT
def aIr:G bJ:=[avW]
def aIs:Tree:=.call 0 [MN,MN] [] (.leaf 0 [.S (.bin .eql dB aH)] [])
def aIt:TC 23 [(.agg [(.S (.var 3)),(.S (.var 4)),(.S (.var 5)),(.S (.var 6))]),(.agg [(.S (.var 3)),(.S (.var 4)),(.S (.var 5)),(.S (.var 6))])] none aIr [] aIs ([.int .i64,.str,.int .i64,.R 2]):=tc
def aIu:gU 23:=gY Tryz.func23 aS
def aDC (j:bH T) (n:Nat) (h:(Rn n).aA T):(Rq n).aA T:=by
 rintro V pre ⟨⟨x,rfl,r,rfl,e,l⟩,rfl⟩;obtain⟨k,t,x,c,rfl⟩:=agI e;have A:fG T _ _:=(ac h (bE (ar:=[.agg fC,.agg fC])) an);refine sV j aIu A.1 all_nil A.2 bn aIt e ?_;refine eT M (fun _=>gE ⟨_,rfl,e,l⟩) fun e=>?_;exact aU M rfl
def at6:G bJ:=[⟨101,none,(.one (.bool))⟩]
def aht:eX:=⟨0,27,VT,[(.ret,⟨[(4,QU)],[],10⟩,[]),(.normal,⟨[],[],10⟩,[])]⟩
def aH4:iq:=⟨VT,[.R 4,C],.B acR (.fT acE (.call 0 [.agg alM,.agg alM] [] (.B dx aj4 Gc))) Ez⟩
def aH3:ko 69 200 0 aht at6 [] [aH4]:=.of aS
def aH5:Tree:=amF
def aH6:TC 69 [(.S (.var 3)),(.S (.var 3))] none at6 [aht] aH5 ([.R 4]):=tc
def aH7:gU 69:=gY Tryz.func69 aS
def aDs (A:bH T) (n:Nat) (h:(Xv n).aA T):(CY aht false (fun us=>∃l,us=[.R l]/\aW O (.R l) (.R 4)/\bM l<=n)).aA T 69:=by
 refine KU A aH3 (ac h (bE (ar:=[.agg kEx,.agg kEx])) an) (nL 0) (fun us u=>?_) fun us k z u E P=>?_
 ·obtain⟨l,rfl,q,_⟩:=u
  exact ay q (ay aO aX)
 ·obtain⟨rows,rfl,q,y⟩:=u
  obtain⟨_,e,lH,U⟩:=bW q;cases e;obtain rfl:rows.length=z:=E;refine au aj (fun F=>?_) (fun F=>qw (j':=1) rfl M ⟨rfl,rfl⟩);refine aR ?_;obtain⟨row,w,jO⟩:=kZ U (n:=k) I;have hd:=fF (qj (kg w)) y;obtain⟨a,b,c,d,e,f,g,i,j,l,rfl,-⟩:=Ym jO;exact arv
def apy (e:bH T) (n:Nat) (h:(Xv n).aA T):(Ro n).aA T:=by
 rintro V pre ⟨⟨x,rfl,l,rfl,hk,hd⟩,rfl⟩;have A:fG T _ _:=(ac h (bE (ar:=[.agg kEx,.agg kEx])) an);refine sV e aH7 A.1 (all_cons (aDs e n h) all_nil) A.2 (lb:=[_]) ⟨nE,rfl⟩ aH6 (ay hk aX) ?_;exact ard
def at7:G bJ:=[⟨40,none,(.one (.bool))⟩]
def ahx:eX:=⟨0,27,VT,[(.ret,⟨[(4,QU)],[],10⟩,[]),(.normal,⟨[],[],10⟩,[])]⟩
def aIg:iq:=⟨VT,[.R 5,C],.B acR (.fT acE (.call 0 [.agg akO,.agg akO] [] (.B dx aj4 Gc))) Ez⟩
def aIf:ko 26 200 0 ahx at7 [] [aIg]:=.of aS
def aIh:Tree:=amF
def aIi:TC 26 [(.S (.var 3)),(.S (.var 3))] none at7 [ahx] aIh ([.R 5]):=tc
def aIj:gU 26:=gY Tryz.func26 aS
def aDx (A:bH T) (n:Nat) (h:(Xw n).aA T):(CY ahx false (fun us=>∃l,us=[.R l]/\aW O (.R l) (.R 5)/\bM l<=n)).aA T 26:=by
 refine KU A aIf (ac h (bE (ar:=[.agg tq,.agg tq])) an) (nL 0) (fun us u=>?_) fun us k z u E P=>?_
 ·obtain⟨l,rfl,q,_⟩:=u
  exact ay q (ay aO aX)
 ·obtain⟨rows,rfl,q,y⟩:=u
  obtain⟨_,e,lH,U⟩:=bW q;cases e;obtain rfl:rows.length=z:=E;refine au aj (fun F=>?_) (fun F=>qw (j':=1) rfl M ⟨rfl,rfl⟩);refine aR ?_;obtain⟨row,w,jO⟩:=kZ U (n:=k) I;have hd:=fF (qj (kg w)) y;obtain⟨a,b,c,d,e,f,g,i,j,rfl,-⟩:=Ot jO;exact arv
def apA (e:bH T) (n:Nat) (h:(Xw n).aA T):(Rp n).aA T:=by
 rintro V pre ⟨⟨x,rfl,l,rfl,hk,hd⟩,rfl⟩;have A:fG T _ _:=(ac h (bE (ar:=[.agg tq,.agg tq])) an);refine sV e aIj A.1 (all_cons (aDx e n h) all_nil) A.2 (lb:=[_]) ⟨nE,rfl⟩ aIi (ay hk aX) ?_;exact ard
def aHZ:G bJ:=[avT,avJ,av0]
def aH0:Tree:=.B (.bin .eql bQ bQ) (.B (.bin .eql fE fE) (.B (.bin .eql dx dx) (.B (.bin .eql dN dN) (.call 0 [.agg QT,.agg QT] [] (.B h_ (.call 1 [dI,dI] [] (.B iY (.call 2 [bT,bT] [] (.leaf 0 [iG] [])) eF)) eF)) eF) eF) eF) eF
def aH1:TC 101 [(.agg [(.S (.var 3)),(.S (.var 4)),(.S (.var 5)),(.S (.var 6)),(.S (.var 7)),(.S (.var 8)),(.S (.var 9)),(.S (.var 10)),(.S (.var 11)),(.S (.var 12))]),(.agg [(.S (.var 3)),(.S (.var 4)),(.S (.var 5)),(.S (.var 6)),(.S (.var 7)),(.S (.var 8)),(.S (.var 9)),(.S (.var 10)),(.S (.var 11)),(.S (.var 12))])] none aHZ [] aH0 ([.int .i64,.str,.int .i64,.str,.int .i64,.str,.int .i64,.R 2,.R 4,.R 5]):=tc
def aH2:gU 101:=gY Tryz.func101 aS
def aDr (y:bH T) (n:Nat) (E:(Rq (n+1)).aA T) (F:(Ro n).aA T) (hf:(Rp n).aA T):(Xv (n+1)).aA T:=by
 rintro V pre ⟨⟨x,rfl,r,rfl,q,P⟩,rfl⟩;obtain⟨a,b,c,d,e,f,g,i,j,l,rfl,W,a',b',c',d',e',f',g',w,u⟩:=Ym q;obtain⟨a,rfl⟩:=W.int;obtain⟨b,rfl,_⟩:=a'.str;obtain⟨c,rfl⟩:=b'.int;obtain⟨d,rfl,_⟩:=c'.str;obtain⟨j,rfl,_⟩:=bW w;obtain⟨l,rfl,_⟩:=bW u;simp only[aI,uz] at P;have A:fG T _ _:=(ac E (bE (ar:=[.agg fC,.agg fC])) (ac F (bE (ar:=[.one (.R 4),.one (.R 4)])) (ac hf (bE (ar:=[.one (.R 5),.one (.R 5)])) an)));refine sV y aH2 A.1 all_nil A.2 bn aH1 q ?_;refine fO (Yd M) (fO (Yd M) (fO (Yd M) (fO (Yd M) ?_)));refine eT M (fun _=>gE ⟨_,rfl,ay d' (ay e' (ay f' (ay g' aX))),by simp only[aI];omega⟩) (hR:=fun _ _ h=>h) fun q=>fO M ?_
 refine eT M (fun _=>gE ⟨_,rfl,w,by omega⟩) (hR:=fun _ _ h=>h) fun q=>fO M ?_
 refine eT M (fun _=>gE ⟨_,rfl,u,by omega⟩) fun q=>?_
 exact aU M rfl
def ahw:G bJ:=[avT,avJ]
def ahu:eX:=⟨0,107,anS,[(.ret,Wu,[]),(.normal,⟨[(2,fU),(3,iM)],[(10,adr),(11,acN)],12⟩,[C,.str,.R 0,C,.str,C,.R 2,.R 3,.R 4,C,.str,.R 0,C,.str,C,.R 2,.R 3,.R 4])]⟩
def aIa:iq:=⟨anS,[C,.str,.R 0,C,.str,C,.R 2,.R 3,.R 4,C,.str,.R 0,C,.str,C,.R 2,.R 3,.R 4,C],.B (.bin .lss lG qg) (.fT (.bin .geq lG aH) (.fT (.bin .lss lG acy) (.B (.bin .neq (.cell dx lG 0) (.cell iY lG 0)) Gc (.leaf 0 akr [])))) (.leaf 2 [dY,fJ,cu,b_,dS,dz,eu,dP,dI,bT,dZ,fD,iG,jg,kN,mV,lS,mW] [])⟩
def aH8:ko 40 200 0 ahu ahw [] [aIa]:=.of aS
def ahv:eX:=⟨2,107,als,[(.ret,Wu,[]),(.normal,⟨[],[],12⟩,[])]⟩
def aIb:iq:=⟨als,[C,.str,.R 0,C,.str,C,.R 2,.R 3,.R 4,C,.str,.R 0,C,.str,C,.R 2,.R 3,.R 4,C],.B (.bin .lss lG sO) (.fT (.bin .geq lG aH) (.fT (.bin .lss lG (.len kQ)) (.B (.bin .neq (.cell dU lG 0) (.cell kQ lG 0)) Gc (.call 0 [.agg [.S (.cell dU lG 1),.S (.cell dU lG 2),.S (.cell dU lG 3),.S (.cell dU lG 4)],.agg [.S (.cell kQ lG 1),.S (.cell kQ lG 2),.S (.cell kQ lG 3),.S (.cell kQ lG 4)]] [] (.B wU (.leaf 0 akr []) Gc))))) Ez⟩
def aH9:ko 40 200 2 ahv ahw [] [aIb]:=.of aS
def aIc:Tree:=.B (.bin .neq bQ bQ) eF (.B (.bin .neq fE fE) eF (.call 0 [.agg Vx,.agg Vx] [] (.B fK (.B (.bin .neq qg qg) eF (.B (.bin .neq sO sO) eF (.call 1 [dI,dI] [] (.B h_ (.bX 0 [bQ,fE,dx,dN,dB,fQ,bZ,dU,fI,bQ,fE,dx,dN,dB,fQ,bZ,dU,fI,aH] (.cons eF (.cons (.bX 1 [iY,iK,jr,jQ,jq,kQ,pU,lG,wU,Bl,yV,zh,EB,CF,EO,zR,ED,yZ,aH] Kw) .nil))) eF)))) eF)))
def aId:TC 40 [(.agg [(.S (.var 3)),(.S (.var 4)),(.S (.var 5)),(.S (.var 6)),(.S (.var 7)),(.S (.var 8)),(.S (.var 9)),(.S (.var 10)),(.S (.var 11))]),(.agg [(.S (.var 3)),(.S (.var 4)),(.S (.var 5)),(.S (.var 6)),(.S (.var 7)),(.S (.var 8)),(.S (.var 9)),(.S (.var 10)),(.S (.var 11))])] none ahw [ahu,ahv] aIc ([.int .i64,.str,.R 0,.int .i64,.str,.int .i64,.R 2,.R 3,.R 4]):=tc
def aIe:gU 40:=gY Tryz.func40 aS
def ZK (ks:G Kd) (n:Nat):G D->Prop:=fun us=>∃r,us=r++r/\aJ O r ks/\aI r<=n
def aDu (l:bH T) (n m:Nat) (q:(Rq n).aA T) (u:(Ro m).aA T):(CY ahu true (ZK tq n)).aA T 40:=by
 refine KU l aH8 (ac q (bE (ar:=[.agg fC,.agg fC])) (ac u (bE (ar:=[.one (.R 4),.one (.R 4)])) an)) (nL 2) (fun us hP=>?_) fun us k z hP w P=>?_
 ·exact YF
 ·obtain⟨r,rfl,y,W⟩:=hP
  obtain⟨a,b,c,d,e,f,g,i,j,rfl,a',b',A,c',d',e',f',g',h'⟩:=Ot y;obtain⟨rows,rfl,lH,U⟩:=bW A;obtain rfl:rows.length=z:=w;refine au aj (fun E=>?_) (fun E=>qw (j':=1) rfl M ⟨rfl,rfl⟩);refine aR ?_;refine aR ?_;obtain⟨row,F,h⟩:=kZ U (n:=k) I;obtain⟨t,rfl⟩:=aiG h;refine jo (afz M M) ?_;exact aqA
def asS {d:Rw} {k:G Kd} (h:aJ O d (.str::k)):∃x r,d=x::r/\(∃t,x=.str t/\True)/\aJ O r k:=by
 obtain⟨x,r,e,j,l⟩:=dW h;obtain⟨t,q,_⟩:=j.str;exact⟨x,r,e,⟨t,q,True.intro⟩,l⟩
def aDv (A:bH T) (n m:Nat) (E:(Rq n).aA T) (F:(Ro m).aA T):(CY ahv false (ZK tq n)).aA T 40:=by
 refine KU A aH9 (ac E (bE (ar:=[.agg fC,.agg fC])) (ac F (bE (ar:=[.one (.R 4),.one (.R 4)])) an)) (nL 7) (fun us hP=>?_) fun us k z hP P c'=>?_
 ·exact YF
 ·obtain⟨r,rfl,w,W⟩:=hP
  obtain⟨a,b,c,d,e,f,g,i,j,rfl,d',e',f',g',h',i',k',a',l'⟩:=Ot w;obtain⟨rows,rfl,lH,U⟩:=bW a';obtain rfl:rows.length=z:=P;refine au aj (fun b'=>?_) (fun b'=>qw (j':=1) rfl M ⟨rfl,rfl⟩);refine aR ?_;refine aR ?_;obtain⟨row,u,l⟩:=kZ U (n:=k) I;have y:=qj (kg u);obtain⟨t,_,rfl,⟨t,rfl,_⟩,q⟩:=asS l;obtain⟨n',t1,o',c1,rfl,-,-⟩:=oD q;simp only[aI,uz] at W y;refine jo (afz M M) ?_;refine eT M (fun _=>gE ⟨_,rfl,q,by simp only[aI,uz];omega⟩) (hR:=fun _ _ h=>h) fun w=>fO M ?_
  exact aqA
def aDw (w:bH T) (n:Nat) (y:(Rq (n+1)).aA T) (E:(Ro n).aA T):(Xw (n+1)).aA T:=by
 rintro V pre ⟨⟨x,rfl,r,rfl,l,F⟩,rfl⟩;have q:=F;have u:=l;obtain⟨a,b,c,d,e,f,g,i,j,rfl,W,a',b',c',d',e',f',g',P⟩:=Ot l;obtain⟨a,rfl⟩:=W.int;obtain⟨b,rfl,_⟩:=a'.str;obtain⟨c,rfl,_⟩:=bW b';obtain⟨i,rfl,_⟩:=bW g';obtain⟨j,rfl,_⟩:=bW P;simp only[aI,uz] at F;have A:fG T _ _:=(ac y (bE (ar:=[.agg fC,.agg fC])) (ac E (bE (ar:=[.one (.R 4),.one (.R 4)])) an));refine sV w aIe A.1 (all_cons (aDu w (n+1) n y E) (all_cons (aDv w (n+1) n y E) all_nil)) A.2 (lb:=[_,_]) ⟨nE,nE,rfl⟩ aId l ?_;refine jo (Df M) (jo (Df M) ?_);refine eT M (fun _=>gE ⟨_,rfl,ay c' (ay d' (ay e' (ay f' aX))),by simp only[aI];omega⟩) (hR:=fun _ _ h=>h) fun l=>fO M ?_
 refine jo (Df M) (jo (Df M) ?_);refine eT M (fun _=>gE ⟨_,rfl,P,by omega⟩) (hR:=fun _ _ h=>h) fun i'=>fO M ?_
 refine qp M ⟨[_,_,_,_,_,_,_,_,_,_,_,_,_,_,_,_,_,_],rfl,[_,_,_,_,_,_,_,_,_],rfl,u,q⟩ ?_;rintro k' x S' ks out h' ⟨rfl,rfl⟩ j';cases h';refine eH.succ (eH.zero (qp M ⟨[_,_,_,_,_,_,_,_,_,_,_,_,_,_,_,_,_,_],rfl,[_,_,_,_,_,_,_,_,_],rfl,u,q⟩ ?_));exact arM
def ahA:G bJ:=[av0]
def ahy:eX:=⟨0,78,alr,[(.ret,Wu,[]),(.normal,⟨[(2,fU),(3,iM)],[(10,iy),(11,Gd)],12⟩,[.R 6,.R 7,.R 6,.R 7])]⟩
def aIm:iq:=⟨alr,[.R 6,.R 7,.R 6,.R 7,C],.B (.bin .lss dB MH) (.fT yY (.fT Mx (.B (.bin .neq (.cell bQ dB 0) WW) Gc (.call 0 [.S (.cell bQ dB 1),.S aer] [] Qv)))) (.leaf 2 zV [])⟩
def aIk:ko 9 200 0 ahy ahA [] [aIm]:=.of aS
def ahz:eX:=⟨2,78,ajN,[(.ret,Wu,[]),(.normal,⟨[],[],12⟩,[])]⟩
def aIn:iq:=⟨ajN,[.R 6,.R 7,.R 6,.R 7,C],.B (.bin .lss dB MS) (.fT yY (.fT Km (.call 0 [.S (.cell fE dB 0),anG] [] Qv))) Ez⟩
def aIl:ko 9 200 2 ahz ahA [] [aIn]:=.of aS
def aIo:Tree:=.B akm eF (.B (.bin .neq MS MS) eF (.bX 0 [bQ,fE,bQ,fE,aH] (.cons eF (.cons (.bX 1 [dx,dN,dB,fQ,aH] Kw) .nil))))
def aIp:TC 9 [(.agg [(.S (.var 3)),(.S (.var 4))]),(.agg [(.S (.var 3)),(.S (.var 4))])] none ahA [ahy,ahz] aIo ([.R 6,.R 7]):=tc
def aIq:gU 9:=gY Tryz.func9 aS
def aDy (E:bH T) (n:Nat) (h:(Rp n).aA T):(CY ahy true (ZK [.R 6,.R 7] n)).aA T 9:=by
 refine KU E aIk (ac h (bE (ar:=[.one (.R 5),.one (.R 5)])) an) (nL 0) (fun us hP=>?_) fun us k z hP F d'=>?_
 ·exact YF
 ·obtain⟨r,rfl,l,P⟩:=hP
  obtain⟨_,_,rfl,W,q1⟩:=dW l;obtain⟨_,_,rfl,a',q2⟩:=dW q1;obtain rfl:=wE q2;obtain⟨ps,rfl,q,u⟩:=bW W;obtain⟨ts,rfl,e',f'⟩:=bW a';simp only[aI,uz] at P;have lH:=q;obtain rfl:ps.length=z:=F;refine au aj (fun b'=>?_) (fun b'=>qw (j':=1) rfl M ⟨rfl,rfl⟩);refine aR ?_;refine aR ?_;obtain⟨row,j,e⟩:=kZ u (n:=k) I;have w:=qj (kg j);obtain⟨t,_,rfl,⟨t,rfl,_⟩,y⟩:=asS e;obtain⟨_,_,rfl,A,c'⟩:=dW y;obtain rfl:=wE c';obtain⟨fs,rfl,_⟩:=bW A;simp only[aI,uz] at w;refine jo (afz M M) ?_;refine eT M (fun _=>gE ⟨_,rfl,A,by omega⟩) (hR:=fun _ _ h=>h) fun l=>fO M ?_
  exact nU (m':=ps.length-(k+1)) rfl M aA ⟨k+1,nx,aA,rfl⟩
def aDz (A:bH T) (n:Nat) (h:(Rp n).aA T):(CY ahz false (ZK [.R 6,.R 7] n)).aA T 9:=by
 refine KU A aIl (ac h (bE (ar:=[.one (.R 5),.one (.R 5)])) an) (nL 1) (fun us hP=>?_) fun us k z hP E c'=>?_
 ·exact YF
 ·obtain⟨r,rfl,l,F⟩:=hP
  obtain⟨_,_,rfl,P,q1⟩:=dW l;obtain⟨_,_,rfl,W,q2⟩:=dW q1;obtain rfl:=wE q2;obtain⟨ps,rfl,d',e'⟩:=bW P;obtain⟨ts,rfl,q,u⟩:=bW W;simp only[aI,uz] at F;have lH:=q;obtain rfl:ts.length=z:=E;refine au aj (fun a'=>?_) (fun a'=>qw (j':=1) rfl M ⟨rfl,rfl⟩);refine aR ?_;refine aR ?_;obtain⟨row,j,e⟩:=kZ u (n:=k) I;have w:=qj (kg j);obtain⟨_,_,rfl,y,b'⟩:=dW e;obtain rfl:=wE b';obtain⟨fs,rfl,_⟩:=bW y;simp only[aI,uz] at w;refine eT M (fun _=>gE ⟨_,rfl,y,by omega⟩) (hR:=fun _ _ h=>h) fun l=>fO M ?_
  exact nU (m':=ts.length-(k+1)) rfl M aA ⟨k+1,nx,aA,rfl⟩
def aDB (j:bH T) (n:Nat) (h:(Rp n).aA T):(aoT n).aA T:=by
 rintro V pre ⟨⟨x,rfl,r,rfl,l,q⟩,rfl⟩;have e:=l;obtain⟨_,_,rfl,u,q1⟩:=dW l;obtain⟨_,_,rfl,w,q2⟩:=dW q1;obtain rfl:=wE q2;obtain⟨ps,rfl,E,F⟩:=bW u;obtain⟨ts,rfl,P,W⟩:=bW w;have A:fG T _ _:=(ac h (bE (ar:=[.one (.R 5),.one (.R 5)])) an);refine sV j aIq A.1 (all_cons (aDy j n h) (all_cons (aDz j n h) all_nil)) A.2 (lb:=[_,_]) ⟨nE,nE,rfl⟩ aIp l ?_;refine jo (Df M) (jo (Df M) ?_);refine qp M ⟨[_,_,_,_],rfl,[_,_],rfl,e,q⟩ ?_;rintro b' x S' ks out y ⟨rfl,rfl⟩ a';cases y;refine eH.succ (eH.zero (qp M ⟨[_,_,_,_],rfl,[_,_],rfl,e,q⟩ ?_));exact arM
def apx {T:Nat->ah D} (e:bH T):∀n,(Rn n).aA T
 |0=>by
  rintro V pre ⟨⟨x,rfl,r,rfl,h,j⟩,rfl⟩;obtain⟨k,t,x,c,rfl⟩:=agI h;rw[vD] at j;omega
 |n+1=>aDq e n (apx e n)
def apB {T:Nat->ah D} (h:bH T):∀n,(Xv n).aA T/\(Xw n).aA T
 |0=>by
  refine⟨?_,?_⟩
  ·rintro V pre ⟨⟨x,rfl,r,rfl,u,w⟩,rfl⟩
   obtain⟨a,b,c,d,e,f,g,i,j,l,rfl,q,y,F,P,W,a',b',c',A,d'⟩:=Ym u;obtain⟨j,rfl,_⟩:=bW A;simp only[aI,uz] at w;omega
  ·rintro V pre ⟨⟨x,rfl,r,rfl,u,w⟩,rfl⟩
   obtain⟨a,b,c,d,e,f,g,i,j,rfl,q,y,F,P,W,a',b',c',A⟩:=Ot u;obtain⟨j,rfl,_⟩:=bW A;simp only[aI,uz] at w;omega
 |n+1=>by
  obtain⟨q,y⟩:=apB h n;have E:=aDC h (n+1) (apx h (n+1));exact⟨aDr h n E (apy h n q) (apA h n y),aDw h n E (apy h n q)⟩
def aDA (e:bH T) (n:Nat):(aoT n).aA T:=aDB e n (apA e n (apB e n).2)
end
end
end Go.Proofs.YtdjcfaaongngeaaGreatDoor

/- A part of the proof: see the last text. -/
import Derived.Test.YtdjcfaaongngeaaGreatDoorZg
import Derived.Test.YtdjcfaaongngeaaGreatDoorZm
set_option linter.all false
set_option maxRecDepth 100000
set_option maxHeartbeats 0
namespace Go.Proofs.YtdjcfaaongngeaaGreatDoor
noncomputable section
variable {b g i:Nat}{T:Nat->ah D}{a:Nat->ah Obj}{W w:ak}{v m:av}{P:Prop}{q:G Nat}{k o:Int}{u:dh}{A:dA}{F:dF av}
section
open Go Go.RowKit
def auc:G bJ:=[aaC]
def TJ:eX:=⟨0,25,amn,[(.normal,acn,[C,C]),(.normal,amN,[C,C,.R 4])]⟩
def ahB:G iq:=[⟨amn,[C,C,.R 0,.R 1,C],.B Km (.fT yY (.call 0 [Qq,cu] bL (.leaf 1 [mV,lS,cu,.S (.snoc .d9 akP),b_,zS] [(11,13)]))) zP⟩,⟨⟨[(0,fU),(2,cu),(7,.gy 11 dN 10),(10,dS),(11,.S mF),(12,dz)],[(10,iy),(11,.seq 10 dN)],12⟩,[C,C,.R 0,.R 4,.R 1,C],.B ab8 (.fT Bg (.call 0 [Wj,cu] bL (.fT (.bin .leq (.len (.snoc dN QM)) mG) (.leaf 1 [lS,mW,cu,.S (.snoc dN QM),dS,Cx] [(11,14)])))) (.leaf 3 [dY,fJ,b_] [(11,11)])⟩]
def aIA:Tree:=.bX 0 [bQ,fE,dN,dx,aH] adV
def aIz:ko 113 200 0 TJ auc [] ahB:=.of aS
def aIB:TC 113 [.S (.var 5),.S (.var 6)] lW auc [TJ] aIA (fl++[.R 1]++[.R 0]):=tc
def aIC:gU 113:=gY Tryz.func113 aS
def afc (n:Nat):gu:=⟨TJ,fun ds=>match ds with|[e,h,u,q,w]=>mU [e,h]/\aJ O ds (sk ahB)/\w=.int .i64 0/\([e,h]=aM->∀x∈rD q,aI x<=n)/\([e,h]=aM->(rD u).length+n<=1000000)|_=>False,
 fun ds j out=>match ds with|[e,h,u,q,_]=>RL (bO (eO fun x=>wZ n x (bg (rD u))) ([]:G Rw) (rD q)) (fun l=>.one (.R l)) iQ [e,h] ([]:G Rw) [] (fun s=>[.R s]) j out|_=>False⟩
def aB4:(afc b).eZ ⟨sk ahB,true,0,4,[[],[]]⟩:=BL
def TJ.qE (h:P:=by first|(simp only[w9,eO];exact QE)|exact QE):P:=h
open TJ in
def aDN (h':bH T) (n:Nat) (j:(Bp n).aA T):(afc n).Ok T Tryz.prog (fun x=>x∈dO (kU 113)) O fM:=by
 intro ds w
 match ds,w with
 |[l,u,g',y,k'],⟨Z,hk,E,hex,e⟩=>
 subst E;obtain⟨loc,rfl,F,P⟩:=bW (rP 2 hk);obtain⟨rows,rfl,lH,h⟩:=bW (rP 3 hk);have l':rows.length<=1000000:=lH;replace hex:[l,u]=aM->∀x∈rows,aI x<=n:=hex;replace e:[l,u]=aM->loc.length+n<=1000000:=e;have A:fG T _ _:=(ac j Nk an);refine JC (c:=afc n) (s0:=([]:G Rw)) (step:=eO fun x=>wZ n x (bg loc)) h' (fun a k=>a.length<=k) (fun p q i=>[p,q,.R loc,.R rows,i]) (fun a p q i=>[p,q,.R loc,.R a,.R rows,i]) aIz A hk Z h (fun k row hrow jO W hrun=>?_) fun k a0 row i' hrow jO W hrun=>?_
 ·replace hex:=hex hrun.jE
  replace e:=e hrun.jE;have mh:=hex _ (kg hrow);obtain⟨a',b',c',d',rfl,e',f'⟩:=aT jO;refine lF M (GA ·) fu ?_ fun y1 hy1 hk=>?_
  exact EX;exact aqi
 ·replace hex:=hex hrun.jE
  replace e:=e hrun.jE;have mh:=hex _ (kg hrow);obtain⟨a',b',c',d',rfl,e',f'⟩:=aT jO;refine lF M (GA ·) fu ?_ fun y1 hy1 hk=>?_
  exact EX;exact aq6
def aIy.qE (h:P:=by first|(simp only[w9];exact QE)|exact QE):P:=h
open aIy in
def aDO (j:bH T) (n:Nat) (e:(Bp n).aA T):(Xx n).aA T:=by
 intro V pre ⟨h,Z⟩
 match V,h with
 |[.one d0,.one d1],⟨l,q,bN,hex⟩=>
 obtain⟨w0,rfl,u,w⟩:=bW l;obtain⟨w1,rfl,y,E⟩:=bW q;have A:fG T _ _:=(ac e Nk an);have aD:=(lc (aDN j n e) aB4 ln);refine mY (la:=kR) j aIC A.1 aD.1 A.2 aD.2 aIB (ay (eP u w) (ay (eP y E) aX)) Z (fun hq=>?_);exact afQ
def auQ:G bJ:=[aaB,ah6,aia,Ui]
def Ua:eX:=⟨0,40,amb,[(.normal,⟨[(4,.aV),(5,.aV)],[(10,iy)],12⟩,[C,C]),(.normal,⟨[(4,QD),(5,.gy 13 dN 4)],[(10,iy),(12,QW),(13,.seq 4 dN)],14⟩,[C,C,.R 0,.R 2])]⟩
def ahP:G iq:=[⟨amb,[C,C,.R 1,C],.B (.bin .lss dN qg) (.fT (.bin .geq dN aH) (.call 1 [.agg ajV] bL (.call 2 [.agg QT,aF] [iG,jg] (.call 3 [.agg [dI,bT,dZ,fD],aF] [mV,lS] (.leaf 1 [qZ,wh,.S (.snoc .d9 [jQ]),.S akQ,cu,.S (.bin .add dN cO)] [(12,16),(13,18)]))))) zP⟩,⟨⟨[(0,fU),(4,QD),(5,.gy 13 dN 4),(12,dS),(13,.S mF),(14,dz)],[(10,iy),(12,QW),(13,.seq 4 dN)],14⟩,[C,C,.R 0,.R 2,.R 1,C],.B ab8 (.fT Bg (.call 1 [Wj] bL (.call 2 [.agg [eu,dP,dI,bT],cu] [kN,mV] (.fT (.bin .leq (.len (.snoc dx [kQ])) mG) (.call 3 [akg,aF] [mW,qJ] (.fT (.bin .leq (.len amj) mG) (.leaf 1 [vZ,Bj,.S (.snoc dx [kQ]),.S amj,dS,Cx] [(12,18),(13,20)]))))))) (.leaf 3 zV [(12,12),(13,13)])⟩]
def aLF:Tree:=.call 0 [CO] bL (.bX 0 [dU,fI,bZ,aH] (.cons (.leaf 0 [.tuple [aF,aF],bT,dZ] []) (.cons (.leaf 0 [.tuple W_,bT,dZ] []) .nil)))
def aLE:ko 82 200 0 Ua auQ [] ahP:=.of aS
def aLG:TC 82 [oP] lW auQ [Ua] aLF (fl++eB):=tc
def aLH:gU 82:=gY Tryz.func82 aS
def afo (n:Nat):gu:=⟨Ua,fun ds=>match ds with|[h,l,e,u]=>mU [h,l]/\aJ O ds (sk ahP)/\u=.int .i64 0/\([h,l]=aM->∀x∈rD e,aI x<=n)|_=>False,
 fun ds j out=>match ds with|[h,l,e,_]=>RL (bO (fun s x=>aL (mQ x) fun w=>aL (ku w.1 s.1) fun q=>aL (iJ n w.2 ([]:G (G Nat))) fun t=>.ok (s.1++[q],s.2++[t])) (([],[]):G (G Nat)×G Rw) (rD e)) (fun p=>.dD [.one (.R (p.1.map bw)),.one (.R p.2)]) iQ [h,l] (([],[]):G (G Nat)×G Rw) [] (fun s=>[.R (s.1.map bw),.R s.2]) j out|_=>False⟩
def aCh:(afo b).eZ ⟨sk ahP,true,0,3,[[],[]]⟩:=BL
def Ua.qE (h:P:=by first|(simp only[yN,ahe,eO];exact QE)|exact QE):P:=h
open Ua in
def aN7 (h:bH T) (n:Nat) (hn:n+100<=1000000) (j:(yu n).aA T):(afo n).Ok T Tryz.prog (fun x=>x∈dO (kU 82)) O fM:=by
 intro ds l
 match ds,l with
 |[u,w,y,b'],⟨Z,hk,E,hex⟩=>
 subst E;obtain⟨rows,rfl,lH,e⟩:=bW (rP 2 hk);have c':rows.length<=1000000:=lH;replace hex:[u,w]=aM->∀x∈rows,aI x<=n:=hex;have A:fG T _ _:=(ac (Fp h) EU (ac (JJ h) I8 (ac (Ji h) I7 (ac j CU an))));refine JC (c:=afo n) (s0:=(([],[]):G (G Nat)×G Rw)) (step:=fun s x=>aL (mQ x) fun F=>aL (ku F.1 s.1) fun q=>aL (iJ n F.2 ([]:G (G Nat))) fun t=>.ok (s.1++[q],s.2++[t])) h (fun a k=>a.1.length<=k/\a.2.length<=k) (fun p q i=>[p,q,.R rows,i]) (fun a p q i=>[p,q,.R (a.1.map bw),.R a.2,.R rows,i]) aLE A hk Z e (fun k row hrow jO P hrun=>?_) fun k ⟨a0,a1⟩ row ⟨W,a'⟩ hrow jO P hrun=>?_
 ·replace hex:=hex hrun.jE
  exact aq7
 ·replace hex:=hex hrun.jE
  exact arq
def aLD.qE (h:P:=by(try simp only[tD,rD,iD,qW,uT,vR,kS,lY,↓tO,↓uU])<;>(unfold yN;(first|rw[hy0]|rw[hy]);first|rfl|(first|exact hy1|exact hy))):P:=h
open aLD in
def aN8 (h:bH T) (n:Nat) (hn:n+100<=1000000) (e:(yu n).aA T):(KJ n).aA T:=by
 intro V pre ⟨q,Z⟩
 match V,q with
 |[.agg e'],⟨E,j⟩=>
 obtain⟨f',g',c0,h',rfl,F,P,W⟩:=jT E;have A:fG T _ _:=(ac (Fp h) EU (ac (JJ h) I8 (ac (Ji h) I7 (ac e CU an))));have aD:=(lc (aN7 h n hn e) aCh ln);refine mY (la:=kR) h aLH A.1 aD.1 A.2 aD.2 aLG (kD F P W aX) Z (fun b'=>?_);subst b';replace j:=j rfl;refine dH M K9 fun y0 hy0 c'=>?_;have i':=jd c';obtain⟨a',d'⟩:=zm hy0;refine Ec (la:=kR) M (fun k=>by exact⟨.inl rfl,k,rfl,(fun _=>by first|exact j|assumption|(intro x l;have l:x∈y0:=l;rw[a'] at l;have:=wz l;omega))⟩) ?_ (fun hy1=>?_) fun y1 hy1=>?_
 exact qF
 ·replace hy1:=nz hy1
  exact dQ (y:=(([]:G (G Nat)),([]:G Rw)))
 ·obtain⟨u,w⟩:=y1
  replace hy1:=nz hy1;exact dQ (y:=((u:G (G Nat)),(w:G Rw)))
def auj:G bJ:=[LH,avX,aaB,ah6,aia,Ui,aaC,avR]
def TK:eX:=⟨0,75,amu,[(.normal,⟨[(0,fU),(1,cu),(4,iM),(5,jk),(7,dZ),(8,.aV)],[(10,iy),(11,VJ),(12,an1)],13⟩,[C,C,.R 1,C,C,C,C,.str,C,C,.R 2]),(.normal,⟨[(0,fU),(1,cu),(4,iM),(5,jk),(7,fD),(8,.gy 14 iK 4)],[(10,iy),(11,VJ),(12,.cells false al3),(13,.seq 1 fI),(14,.seq 4 iK)],15⟩,[C,C,.R 1,C,C,C,C,.str,.R 0,C,C,.R 2,.R 2])]⟩
def ahC:G iq:=[⟨amu,[C,C,.R 1,C,C,C,C,.str,C,C,.R 0,.R 2,.R 1,C],.B adK (.fT abQ (.call 3 [.agg acj] bL (.call 4 [alJ,aF] Qu (.call 5 [amB,dZ] [wT,zU] (.leaf 1 [Bh,za,cu,b_,dS,dz,eu,dP,.S (.snoc .d9 [CF]),dI,bT,dZ,fD,.S (.snoc .d9 [ED,yZ,zf,Bn]),iG,.S adu] [(13,27),(14,29)]))))) (.leaf 2 [dY,fJ,cu,b_,dS,dz,eu,dP,dI,bT,fD] [])⟩,⟨⟨[(0,fU),(1,cu),(4,iM),(5,jk),(6,fD),(7,iG),(8,.gy 14 jr 4),(31,kN),(32,.S ads),(33,mV)],[(10,iy),(11,VJ),(12,.cells false al3),(13,.seq 1 fI),(14,.seq 4 jr)],15⟩,[C,C,.R 1,C,C,C,C,.str,.R 0,C,C,.R 0,.R 2,.R 2,.R 1,C],.B adA (.fT adN (.call 3 [.agg anX] bL (.call 4 [akC,dI] [Bj,wT] (.fT (.bin .leq (.len (.snoc fI [zR])) mG) (.call 5 [amk,fD] [M_,.S yZ] (.fT (.bin .leq (.len alC) mG) (.leaf 1 [yU,EJ,cu,b_,dS,dz,eu,dP,.S (.snoc fI [zR]),bT,dZ,fD,iG,.S alC,kN,.S V_] [(13,29),(14,31)]))))))) (.leaf 3 [dY,fJ,cu,b_,dS,dz,eu,dP,dI,bT,dZ,iG,jg] [(13,13),(14,14)])⟩]
def aJi:Tree:=.fT ad1 (.call 0 [.agg abY] bL (.fT ac3 (.call 1 [.agg adU] [dS,dz] (.fT aec (.call 2 [.agg acD] Ey (.bX 0 [iY,iK,dx,aH,aH,aH,jI,dN,aH,aH,bZ,dU,h_,aH] (.cons (.fT (.bin .lss jI (.len jq)) (.call 6 [.agg ali,aF] QZ (.call 7 [vZ,aF] [] (.leaf 0 [.agg [qH,rZ,aF,MU,KC,MZ,MC,aF,.S (.snoc .d9 adS)],EJ,I5] [])))) (.cons (.fT (.bin .lss jI (.len jq)) (.call 6 [.agg ali,qZ] QZ (.call 7 [Bj,wT] [] (.leaf 0 [.agg [qH,rZ,qZ,MZ,MC,Qz,.S (.var 44),aF,.S (.snoc .d9 [zR,ED,yZ,zf,Bn,CG,Kn,MF,V5,acK])],MU,KC] [])))) .nil))))))))
def aJh:ko 51 200 0 TK auj [] ahC:=.of aS
def aJj:TC 51 [.S (.var 5)] lW auj [TK] aJi (fl++[.R 1]):=tc
def aJk:gU 51:=gY Tryz.func51 aS
def afd (n:Nat):gu:=⟨TK,fun ds=>match ds with|[e,h,F,P,T,W,a',w,y,A,l,E,u,b']=>mU [e,h]/\aJ O ds (sk ahC)/\b'=.int .i64 0/\([e,h]=aM->∀x∈rD u,aI x<=n)/\([e,h]=aM->(rD l).length+n<=1000000)|_=>False,
 fun ds j out=>match ds with|[e,h,F,P,T,W,a',w,y,A,l,E,u,_]=>RL (bO (fun s x=>aL (mQ x) fun c'=>aL (ku c'.1 s.1) fun q=>aL (iJ n c'.2 (bg (rD l))) fun t=>.ok (s.1++[q],s.2++[t])) (([],[]):G (G Nat)×G Rw) (rD u)) (fun p=>.dD [.one (.R (p.1.map bw)),.one (.R p.2)]) iQ [e,h] (([],[]):G (G Nat)×G Rw) [F,P,T,W,a',w,y,A,E] (fun s=>[F,P,T,W,a',w,.R (s.1.map bw),y,A,E,.R s.2]) j out|_=>False⟩
def aB5:(afd b).eZ ⟨sk ahC,true,0,13,[[(2,2),(3,3),(4,4),(5,5),(6,6),(7,7),(8,8),(9,9),(11,10)],[(2,2),(3,3),(4,4),(5,5),(6,6),(7,7),(8,9),(9,10),(11,11)]]⟩:=BL
def TK.qE (h:P:=by first|(simp only[eO];exact QE)|exact QE):P:=h
open TK in
def aGm (F:bH T) (n:Nat) (hn:n+100<=1000000) (j:(KJ n).aA T) (g':(yu n).aA T) (P:(Bp n).aA T) (e:(KI).aA T):(afd n).Ok T Tryz.prog (fun x=>x∈dO (kU 51)) O fM:=by
 intro ds h'
 match ds,h' with
 |[W,a',b',c',d',e',f',l,u,w,l',y,n',t'],⟨Z,hk,o',hex,h⟩=>
 subst o';obtain⟨vars,rfl,i',k'⟩:=bW (rP 10 hk);obtain⟨rows,rfl,lH,E⟩:=bW (rP 12 hk);have u':rows.length<=1000000:=lH;replace hex:[W,a']=aM->∀x∈rows,aI x<=n:=hex;replace h:[W,a']=aM->vars.length+n<=1000000:=h;have A:fG T _ _:=(ac (Ar F) Bo (ac j Xl (ac (Fp F) EU (ac (JJ F) I8 (ac (Ji F) I7 (ac g' CU (ac P Nk (ac e Xk an))))))));refine JC (c:=afd n) (s0:=(([],[]):G (G Nat)×G Rw)) (step:=fun s x=>aL (mQ x) fun p'=>aL (ku p'.1 s.1) fun q=>aL (iJ n p'.2 (bg vars)) fun t=>.ok (s.1++[q],s.2++[t])) F (fun a k=>a.1.length<=k/\a.2.length<=k) (fun p q i=>[p,q,b',c',d',e',f',l,u,w,.R vars,y,.R rows,i]) (fun a p q i=>[p,q,b',c',d',e',f',l,.R (a.1.map bw),u,w,.R vars,y,.R a.2,.R rows,i]) aJh A hk Z E (fun k row hrow jO q' hrun=>?_) fun k ⟨a0,a1⟩ row ⟨r',s'⟩ hrow jO q' hrun=>?_
 ·replace hex:=hex hrun.jE
  replace h:=h hrun.jE;exact aq7
 ·replace hex:=hex hrun.jE
  replace h:=h hrun.jE;exact arq
def aJg.qE (h:P:=by(try simp only[tD,rD,iD,qW,uT,vR,kS,lY,↓tO,↓uU])<;>(unfold Hw;simp only[rD,ZG,ZH,ZI,ag7];(first|rw[hy0]|rw[hy]);first|rfl|(show aL (yN _ _ _) _=_;(first|rw[hy1]|rw[hy]);first|rfl|(show aL (aL (sU _) _) _=_;(first|rw[hy2]|rw[hy]);first|rfl|(show aL (bO _ _ _) _=_;(first|rw[hy3]|rw[hy]);first|rfl|(show aL (wZ n _ _) _=_;try simp only[kS,lY];(first|rw[hy4]|rw[hy]);first|rfl|(show(.ok (fm 3 _ _ (yL _ _) _ _):dV Fa Rw)=_;rw[<-hR5];rfl))))))):P:=h
open aJg in
def aGn (u:bH T) (n:Nat) (hn:n+100<=1000000) (h:(KJ n).aA T) (q:(yu n).aA T) (l:(Bp n).aA T) (e:(KI).aA T):(Rt n).aA T:=by
 intro V pre ⟨E,Z⟩
 match V,E with
 |[.one d0],⟨F,P,hex⟩=>
 obtain⟨w0,rfl,W,y⟩:=bW F;have A:fG T _ _:=(ac (Ar u) Bo (ac h Xl (ac (Fp u) EU (ac (JJ u) I8 (ac (Ji u) I7 (ac q CU (ac l Nk (ac e Xk an))))))));have aD:=(lc (aGm u n hn h q l e) aB5 ln);refine mY (L:=[(.bin .eql (.len (.var 5)) (.int .i64 4),true)]) (la:=kR) u aJk A.1 aD.1 A.2 aD.2 aJj (ay (eP W y) aX) Z (fun b'=>?_) (hL:=fun _ _=>(Zp rfl (by rw[show w0.length=4 from P];rfl)))
 subst b';replace hex:=hex rfl;obtain⟨r',s',t',u',rfl,c',d',e',f'⟩:=Jl y aC;obtain⟨v',w',x',y',rfl,z',A'⟩:=aT c';obtain⟨D',E',F',L',rfl,M',P'⟩:=aT d';obtain⟨T',W',X',a0,rfl,b0,e0⟩:=aT e';obtain⟨f0,g0,h0,i0,rfl,j0,k0⟩:=aT f';refine aR ?_;refine dH M Bw fun y0 hy0 j=>?_;refine aR ?_;refine dH M (asj ·) fun y1 hy1 j=>?_
 obtain⟨n',o'⟩:=y1;have l0:=jd (tH j).2;have p':=Uv hy1;refine aR ?_;refine dH M K9 fun g' hy2 j=>?_;have m0:=jd j;obtain⟨a',q'⟩:=zm hy2;refine Ec (la:=kR) M (fun k=>by exact⟨.inl rfl,k,rfl,(fun _=>by first|exact hex|assumption|(intro x w;have w:x∈g':=w;rw[a'] at w;have h':=wz w;exact fF (Ir h') (hex _ jS))),(fun _=>HL)⟩) ?_ (fun hy3=>?_) fun i' hy3=>?_
 exact qF
 ·replace hy3:=nz hy3
  refine aR ?_;refine dH M (fun k=>GA k (oU:=apO)) fun j' hy4 j=>?_;obtain⟨o0,r0,s0,t0,u0,v0,x0,A0,D0,E0,rfl⟩:=nH j;replace hy4:=nz hy4;refine kX M Y9 fun k' hR j=>?_;obtain⟨F0,rfl⟩:=lV j;obtain⟨L0,M0,P0,T0,rfl,W0,X0⟩:=gQ j;have hR5:=rR hR;clear hR;exact dQ
 ·obtain⟨l',m'⟩:=i'
  replace hy3:=nz hy3;refine aR ?_;refine dH M (fun k=>GA k (oU:=apO)) fun j' hy4 j=>?_;obtain⟨a1,b1,e1,f1,g1,h1,i1,j1,k1,l1,rfl⟩:=nH j;replace hy4:=nz hy4;refine kX M Y9 fun k' hR j=>?_;obtain⟨m1,rfl⟩:=lV j;obtain⟨o1,r1,s1,u1,rfl,v1,w1⟩:=gQ j;have hR5:=rR hR;clear hR;exact dQ
def auH:G bJ:=[LH,avX,aaB,Ui,avR]
def TU:eX:=⟨0,48,anz,[(.normal,⟨[(4,iM),(5,jk),(7,bT),(8,.aV)],[(10,iy),(11,wV),(12,VG)],13⟩,[C,C,C,C,C,C,.str,C,C,.R 2]),(.normal,⟨[(4,iM),(5,jk),(7,bT),(8,.gy 13 h_ 4)],[(10,iy),(11,wV),(12,VG),(13,.seq 4 h_)],14⟩,[C,C,C,C,C,C,.str,C,C,.R 2,.R 2])]⟩
def ahK:G iq:=[⟨anz,[C,C,C,C,C,C,.str,C,C,.R 0,.R 2,.R 1,C],.B adj (.fT Wn (.call 3 [.agg aes,bT] bL (.leaf 1 [mW,qJ,cu,b_,dS,dz,eu,dP,dI,bT,dZ,.S (.snoc .d9 [jr,jQ,jq,kQ]),fD,.S acS] [(13,15)]))) (.leaf 2 [dY,fJ,cu,b_,dS,dz,eu,dP,dI,dZ] [])⟩,⟨⟨[(0,fU),(4,iM),(5,jk),(6,bT),(7,dZ),(8,.gy 13 iY 4),(29,iG),(30,.S Qy),(31,jg)],[(10,iy),(11,wV),(12,VG),(13,.seq 4 iY)],14⟩,[C,C,C,C,C,C,.str,C,C,.R 0,.R 2,.R 2,.R 1,C],.B adK (.fT abQ (.call 3 [.agg acj,bT] bL (.fT (.bin .leq (.len aln) mG) (.leaf 1 [qJ,qH,cu,b_,dS,dz,eu,dP,dI,bT,dZ,.S aln,iG,.S adu] [(13,16)])))) (.leaf 3 [dY,fJ,cu,b_,dS,dz,eu,dP,dI,dZ,fD] [(13,13)])⟩]
def aK0:Tree:=.fT ad1 (.call 0 [.agg abY] bL (.fT ac3 (.call 1 [.agg adU] [dS,dz] (.fT aec (.call 2 [.agg acD] Ey (.bX 0 [iY,iK,aH,aH,aH,yX,dN,aH,aH,bZ,dU,h_,aH] (.cons (.call 4 [wh,aF] [] (.leaf 0 [.agg [qJ,qH,aF,vZ,Bj,wT,zU,aF,aF],jg,kN] [])) (.cons (.call 4 Qu [] (.leaf 0 [.agg [qJ,qH,aF,Bj,wT,zU,M_,aF,aF],jg,kN] [])) .nil))))))))
def aKZ:ko 52 200 0 TU auH [] ahK:=.of aS
def aK1:TC 52 [.S (.var 5)] lW auH [TU] aK0 (fl++[.R 1]):=tc
def aK2:gU 52:=gY Tryz.func52 aS
def afk (n:Nat):gu:=⟨TU,fun ds=>match ds with|[e,h,E,F,P,T,W,w,y,q,A,u,a']=>mU [e,h]/\aJ O ds (sk ahK)/\a'=.int .i64 0/\([e,h]=aM->∀x∈rD u,aI x<=n)/\([e,h]=aM->(rD q).length+n<=1000000)|_=>False,
 fun ds j out=>match ds with|[e,h,E,F,P,T,W,w,y,q,A,u,_]=>RL (bO (eO fun x=>iJ n x (bg (rD q))) ([]:G Rw) (rD u)) (fun l=>.one (.R l)) iQ [e,h] ([]:G Rw) [E,F,P,T,W,w,y,A] (fun s=>[E,F,P,T,W,w,y,A,.R s]) j out|_=>False⟩
def aCd:(afk b).eZ ⟨sk ahK,true,0,12,[[(2,2),(3,3),(4,4),(5,5),(6,6),(7,7),(8,8),(10,9)],[(2,2),(3,3),(4,4),(5,5),(6,6),(7,7),(8,8),(10,9)]]⟩:=BL
def TU.qE (h:P:=by first|(simp only[eO];exact QE)|exact QE):P:=h
open TU in
def aMF (e':bH T) (n:Nat) (hn:n+100<=1000000) (j:(KJ n).aA T) (d':(yu n).aA T) (e:(KI).aA T):(afk n).Ok T Tryz.prog (fun x=>x∈dO (kU 52)) O fM:=by
 intro ds f'
 match ds,f' with
 |[E,F,P,W,a',b',c',l,u,i',w,k',v'],⟨Z,hk,l',hex,h⟩=>
 subst l';obtain⟨vars,rfl,g',h'⟩:=bW (rP 9 hk);obtain⟨rows,rfl,lH,y⟩:=bW (rP 11 hk);have w':rows.length<=1000000:=lH;replace hex:[E,F]=aM->∀x∈rows,aI x<=n:=hex;replace h:[E,F]=aM->vars.length+n<=1000000:=h;have A:fG T _ _:=(ac (Ar e') Bo (ac j Xl (ac (Fp e') EU (ac d' CU (ac e Xk an)))));refine JC (c:=afk n) (s0:=([]:G Rw)) (step:=eO fun x=>iJ n x (bg vars)) e' (fun a k=>a.length<=k) (fun p q i=>[p,q,P,W,a',b',c',l,u,.R vars,w,.R rows,i]) (fun a p q i=>[p,q,P,W,a',b',c',l,u,.R vars,w,.R a,.R rows,i]) aKZ A hk Z y (fun k row hrow jO n' hrun=>?_) fun k a0 row u' hrow jO n' hrun=>?_
 ·replace hex:=hex hrun.jE
  replace h:=h hrun.jE;have mh:=hex _ (kg hrow);obtain⟨o',p',q',r',rfl,s',t'⟩:=aT jO;refine lF M (Bz ·) fu ?_ fun y1 hy1 hk=>?_
  exact EX;exact arn
 ·replace hex:=hex hrun.jE
  replace h:=h hrun.jE;have mh:=hex _ (kg hrow);obtain⟨o',p',q',r',rfl,s',t'⟩:=aT jO;refine lF M (Bz ·) fu ?_ fun y1 hy1 hk=>?_
  exact EX;exact aqJ
def aKY.qE (h:P:=by(try simp only[tD,rD,iD,List.nil_append,uT,vR,kS,lY,↓tO,↓uU])<;>(unfold Gw;simp only[rD,ZG,ZH,ZI];(first|rw[hy0]|rw[hy]);first|rfl|(show aL (yN _ _ _) _=_;(first|rw[hy1]|rw[hy]);first|rfl|(show aL (sU _) _=_;(first|rw[hy2]|rw[hy]);first|rfl|(show aL (bO _ _ _) _=_;(first|(first|rw[hy3]|rw[hy])|(dsimp only;(first|rw[hy3]|rw[hy])));first|rfl|(show(.ok (fm 4 _ _ (yL _ _) _ _):dV Fa Rw)=_;rw[<-hR4];rfl)))))):P:=h
open aKY in
def aMG (q:bH T) (n:Nat) (hn:n+100<=1000000) (h:(KJ n).aA T) (l:(yu n).aA T) (e:(KI).aA T):(Ry n).aA T:=by
 intro V pre ⟨y,Z⟩
 match V,y with
 |[.one d0],⟨E,F,hex⟩=>
 obtain⟨w0,rfl,P,w⟩:=bW E;have A:fG T _ _:=(ac (Ar q) Bo (ac h Xl (ac (Fp q) EU (ac l CU (ac e Xk an)))));have aD:=(lc (aMF q n hn h l e) aCd ln);refine mY (L:=[(.bin .eql (.len (.var 5)) (.int .i64 3),true)]) (la:=kR) q aK2 A.1 aD.1 A.2 aD.2 aK1 (ay (eP P w) aX) Z (fun a'=>?_) (hL:=fun _ _=>(Zp rfl (by rw[show w0.length=3 from F];rfl)))
 subst a';replace hex:=hex rfl;obtain⟨l',m',n',rfl,b',c',d'⟩:=Dh w aC;obtain⟨o',p',q',r',rfl,s',t'⟩:=aT b';obtain⟨u',v',w',x',rfl,y',z'⟩:=aT c';obtain⟨A',D',E',F',rfl,L',M'⟩:=aT d';refine aR ?_;refine dH M Bw fun y0 hy0 j=>?_;refine aR ?_;refine dH M (asj ·) fun y1 hy1 j=>?_
 obtain⟨h',i'⟩:=y1;have P':=jd (tH j).2;have j':=Uv hy1;refine aR ?_;refine dH M K9 fun e' hy2 j=>?_;have T':=jd j;obtain⟨W,k'⟩:=zm hy2;refine Ec (la:=kR) M (fun k=>by exact⟨.inl rfl,k,rfl,(fun _=>by first|exact hex|assumption|(intro x u;have u:x∈e':=u;rw[W] at u;have f':=wz u;exact fF (Ir f') (hex _ jS))),(fun _=>HL)⟩) ?_ (fun hy3=>?_) fun W' hy3=>?_
 exact qF
 ·replace hy3:=nz hy3
  refine kX M Y9 fun g' hR j=>?_;obtain⟨X',rfl⟩:=lV j;obtain⟨a0,b0,e0,f0,rfl,g0,h0⟩:=gQ j;have hR4:=rR hR;clear hR;exact dQ
 ·replace hy3:=nz hy3
  refine kX M Y9 fun g' hR j=>?_;obtain⟨i0,rfl⟩:=lV j;obtain⟨j0,k0,l0,m0,rfl,o0,r0⟩:=gQ j;have hR4:=rR hR;clear hR;exact dQ
def ug (T:Nat->ah D) (fz:Nat->ah Obj):Prop:=∀g d,T g=some d->∃arr ty fr u,fz g=some (.cells arr ty fr)/\arr[0]?=some u/\GR fz d u
def ug.mono {T:Nat->ah D} {a b:Nat->ah Obj} (h:ug T a) (e:dX a b):ug T b:=fun g d j=>by
 obtain⟨arr,ty,fr,u,l,q,w⟩:=h g d j;exact⟨arr,ty,fr,u,e _ _ l,q,w.mono e⟩
structure Sb (b:Nat) (W W':World):Prop where
 os:W'.os=W.os
 tape:W'.tape=W.tape
 output:W'.output=W.output
 size:W.heap.size<=W'.heap.size
 block:∀g,g<W.heap.size->g≠b->W'.heap[g]?=W.heap[g]?
def Cw.at_ {P:bA} (r':P.globals.size<4611686018427387904) {f:ig} {V:G DA} {p1 q0 q1:Int} {s':DA} (h:Cw T P f V [.int .i64 k,.int .i64 p1] [.int .i64 q0,.int .i64 q1] s') {us:G av} {t':dh}
 (f':W.heap[b]?=some (.cells #[.int .i64 k,.int .i64 p1] t' (0,0))) (z':dX a (dM W)) (u':a b=none) (A':ug T a) (D':vW a V us):
 Calls P f (List.toArray (.pointer (some ⟨b,0,none⟩)::us)) W fun e W'=>∃u c',e=.returned u/\uY c' s' u/\dX a c'/\dX c' (dM W')/\(∀g o,c' g=some o->a g=some o\/W.heap.size<=g)/\
  (∃v',W'.heap[b]?=some (.cells #[.int .i64 q0,.int .i64 q1] v' (0,0)))/\Sb b W W':=by
 have b0:b<W.heap.size:=(kF.1 f').1;have e0:∀x,(fun x=>if x<P.globals.size then some (⟨x,0,0⟩:Loc) else if x=P.globals.size then some ⟨b,0,2⟩ else none) x=if x<P.globals.size then some (⟨x,0,0⟩:Loc) else if x=P.globals.size then some ⟨b,0,2⟩ else none:=fun _=>rfl
 have U:HR ⟨fun _=>.bool false,T⟩ 0 ⟨fun x=>if x<P.globals.size then some ⟨x,0,0⟩ else if x=P.globals.size then some ⟨b,0,2⟩ else none,a⟩ (sP P [.int .i64 k,.int .i64 p1]) W:=by
  refine⟨fun F o q=>?_,fun f0 g0 h0 i0 j0 k0 i' j' hn=>?_,⟨?_,fun F q=>?_⟩,gK _,z',fun F o l q _ a'=>?_⟩
  ·obtain⟨rfl,rfl⟩:=BU q
   refine⟨⟨b,0,2⟩,by show(if _ then _ else _)=_;rw[bB (Ck _),bK rfl],_,t',(0,0),f',fun _=>rfl,bq _,fun j x A=>?_,fun _=>⟨gK _,rfl⟩⟩
   rcases Cc A with⟨_,y⟩|⟨_,y⟩
   ·rw[Cn] at y
    match j,y with
    |0,y=>cases y;exact⟨by simp,_,rfl,rfl⟩
    |1,y=>cases y;exact⟨by simp,_,rfl,rfl⟩
    |j+2,y=>simp at y
   ·rw[Tr.o9] at y;cases y
  ·obtain⟨rfl,_⟩:=BU i'
   obtain⟨rfl,_⟩:=BU j';exact absurd rfl hn
  ·show(if P.globals.size+1<P.globals.size then _ else if P.globals.size+1=P.globals.size then _ else _)=_
   rw[bB I,bB I]
  ·have q:P.globals.size+1<=F:=q
   show(if F<P.globals.size then _ else if F=P.globals.size then _ else _)=_
   rw[bB I,bB I]
  ·obtain⟨rfl,rfl⟩:=BU q
   have a':(if P.globals.size<P.globals.size then some (⟨P.globals.size,0,0⟩:Loc) else if P.globals.size=P.globals.size then some ⟨b,0,2⟩ else none)=some l:=a'
   rw[bB (Ck _),bK rfl] at a';cases a';exact u'
 have E:zK ⟨fun _=>.bool false,T⟩ P ⟨fun x=>if x<P.globals.size then some ⟨x,0,0⟩ else if x=P.globals.size then some ⟨b,0,2⟩ else none,a⟩:=⟨fun g E=>⟨0,by show(if _ then _ else _)=_;rw[bK E]⟩,A'⟩
 refine uW (h ⟨fun _=>.bool false,T⟩ rfl 0 _ (sP P [.int .i64 k,.int .i64 p1]) W us P.globals.size ⟨b,0,2⟩ (nN .leaf 0 [.int .i64 k,.int .i64 p1]) E U ?_ ?_ (fun j d A=>?_) D') ?_
 ·unfold sP
  simp only[gD,lN,jW,Nat.reduceAdd];exact Tr.get_set_same _ _ _ r'
 ·show(if _ then _ else _)=_;rw[bB (Ck _),bK rfl]
 ·match j,A with
  |0,A=>cases A;exact⟨_,by simp[World.cell?,f'],rfl⟩
  |1,A=>cases A;exact⟨_,by simp[World.cell?,f'],rfl⟩
  |j+2,A=>simp at A
 ·rintro e W' ⟨u,k',rfl,i',j',E'⟩
  obtain⟨m',b'⟩:=E' [.int .i64 q0,.int .i64 q1] [.int .i64 q0,.int .i64 q1] rfl rfl;have d':(⟨(sP P [.int .i64 k,.int .i64 p1]).aP.set P.globals.size (.cells false (nN .leaf 0 [.int .i64 q0,.int .i64 q1]) 2),(sP P [.int .i64 k,.int .i64 p1]).nx,(sP P [.int .i64 k,.int .i64 p1]).J⟩:St).aP.get P.globals.size=some (.cells false (nN .leaf 0 [.int .i64 q0,.int .i64 q1]) 2):=Tr.get_set_same _ _ _ r';have g':k' P.globals.size=some ⟨b,0,2⟩:=by rw[j'];show(if _ then _ else _)=_;rw[bB (Ck _),bK rfl]
  have n':k'.fz b=none:=m'.oC _ _ _ d' rfl g';obtain⟨l,a',arr,e,fr,F',L',l0,w',M'⟩:=m'.pK _ _ d';rw[g'] at a';cases a';obtain⟨_,v0,P',T'⟩:=w' 0 (.int .i64 q0) rfl;obtain⟨_,v1,X',e1⟩:=w' 1 (.int .i64 q1) rfl;obtain rfl:v0=.int .i64 q0:=T';obtain rfl:v1=.int .i64 q1:=e1;have p':arr=#[.int .i64 q0,.int .i64 q1]:=by
   have a0:=L' rfl;apply Array.ext
   ·exact a0
   ·intro i h' e'
    match i,e' with
    |0,_=>exact bI ((UD h').symm.trans P')
    |1,_=>exact bI ((UD h').symm.trans X')
    |i+2,e'=>simp at e';omega
  have x':Sb b W W':=⟨b'.os,b'.tape,b'.output,b'.size,fun g E hn=>b'.block g E fun F o l' q _ w=>by
   obtain⟨rfl,rfl⟩:=BU q;have w:(if P.globals.size<P.globals.size then some (⟨P.globals.size,0,0⟩:Loc) else if P.globals.size=P.globals.size then some ⟨b,0,2⟩ else none)=some l':=w
   rw[bB (Ck _),bK rfl] at w;cases w;exact nJ hn⟩
  refine⟨u,k'.fz,rfl,i',b'.ext.fz,m'.nM,fun g o E=>?_,?_,x'⟩
  ·rcases b'.wD g o E with q'|q'|⟨F,o',l',q,_,w,y'⟩
   ·exact .inl q'
   ·exact .inr q'
   ·obtain⟨rfl,rfl⟩:=BU q
    have w:(if P.globals.size<P.globals.size then some (⟨P.globals.size,0,0⟩:Loc) else if P.globals.size=P.globals.size then some ⟨b,0,2⟩ else none)=some l':=w
    rw[bB (Ck _),bK rfl] at w;cases w;rw[show g=b from y'.symm,n'] at E
    cases E
  ·exact⟨e,by rw[F',p',(M' rfl).2]⟩
end
section
open Go.RowKit
def aBy (k o:Int) (w:ak):(Instr.typeAssert (.iface 28 (.agg #[.int .i64 k,.int .i64 o])) 20 28 true).run Tryz.prog w=.ok (.tuple #[.agg #[.int .i64 k,.int .i64 o],.bool true]) w:=by kernel_rfl
def aCO (nb fb:Nat) (v x y:av) (k o:Int) (w:ak) (hn:w.cell? ⟨nb,0,none⟩=some v) (h:w.cell? ⟨fb,0,none⟩=some x) (u:w.cell? ⟨fb,1,none⟩=some y)
 (T:w.frozen? ⟨nb,0,none⟩=false) (A:w.frozen? ⟨fb,0,none⟩=false) (E:w.frozen? ⟨fb,1,none⟩=false) (F:¬fb=nb):
 CallsD Tryz.prog 27 #[.pointer (some ⟨nb,0,none⟩),.pointer (some ⟨fb,0,none⟩)] (.panicking [{v:=.iface 28 (.agg #[.int .i64 k,.int .i64 o]),recovered:=false}]) w fun e j w'=>
  e=.returned (.tuple #[])/\j=.panicking [{v:=.iface 28 (.agg #[.int .i64 k,.int .i64 o]),recovered:=true}]/\
  w'=((((w.setCell ⟨nb,0,none⟩ (.slice none 0 0)).setCell ⟨fb,0,none⟩ (.int .i64 k)).setCell ⟨fb,1,none⟩ (.int .i64 o)).alloc (.cells #[.int .i64 k,.int .i64 o] 28)).drew:=by
 have P:=aBy k o;have ln:=rX w _ hn;have W:=rX w _ h;refine callsD_of_wpS Tryz.func27 rfl fun l cs q=>?_;apply wpS_seq;apply wpS_region;simp[wpOpsS,go_sem,recoverD,q,Tryz.ntmps27,Exit.thenS,Array.replicate,List.replicate];refine wpS_of_wp ?_;go_wp2;go_region;simp only[Exit.inBlock];change bodyPostS _ _ _ _ _ _ _ _ _;simp[bodyPostS,results,Tryz.results27]
def aCN (nb fb:Nat) (w:ak):
 CallsD Tryz.prog 27 #[.pointer (some ⟨nb,0,none⟩),.pointer (some ⟨fb,0,none⟩)] .returning w fun e j w'=>e=.returned (.tuple #[])/\j=.returning/\w'=w:=by
 refine callsD_of_wpS Tryz.func27 rfl fun h cs l=>?_;apply wpS_seq;apply wpS_region;simp[wpOpsS,go_sem,recoverD,l,Tryz.ntmps27,Exit.thenS,Array.replicate,List.replicate];refine wpS_of_wp ?_;go_wp2;cases h
 simp_all[bodyPostS,results,Tryz.results27]
def ajn (s:dA) (w:ak) (e:AJ) (w':ak):Prop:=
 Below w.heap.size w w'/\match parse (bytes s) with
  |.ok l=>∃v F,e=.returned (.tuple #[v,.agg #[.int .i64 0,.int .i64 0]])/\Rd w' F 4 l.pF v/\∀b o,F b o->w.heap.size<=b
  |.error (k,o)=>e=.returned (.tuple #[.slice none 0 0,.agg #[.int .i64 k,.int .i64 o]])
def AA (w:ak) (s:dA):ak:=
 (((w.alloc (.cells #[.slice none 0 0] 40)).alloc (.cells #[.int .i64 0,.int .i64 0] 28)).alloc (.cells #[.int .i64 0,.string ⟨#[]⟩,.slice none 0 0,.int .i64 0] 46)).alloc
   (.cells #[.string s,.int .i64 0,.slice (some ⟨w.heap.size+1+1,0,none⟩) 1 1] 82)
def aNu (w:ak) (s:dA):(AA w s).heap.size=w.heap.size+4:=by simp[AA]
def aNt (w:ak) (s:dA):Below w.heap.size w (AA w s):=
 ((((iN _ _).alloc (bq _) _).alloc bS _).alloc gJ _).alloc gJ _
def aNp (w:ak) (s:dA):(AA w s).heap[w.heap.size]?=some (.cells #[.slice none 0 0] 40 (0,0)):=by
 unfold AA;rw[jV _ _ _ gJ,jV _ _ _ gJ,jV _ _ _ bS];exact lu w _
def aNq (w:ak) (s:dA):(AA w s).heap[w.heap.size+1]?=some (.cells #[.int .i64 0,.int .i64 0] 28 (0,0)):=by
 unfold AA;rw[jV _ _ _ bS,jV _ _ _ bS];have h:=lu (w.alloc (.cells #[.slice none 0 0] 40)) (.cells #[.int .i64 0,.int .i64 0] 28)
 simpa using h
def aNr (w:ak) (s:dA):(AA w s).heap[w.heap.size+1+1]?=some (.cells #[.int .i64 0,.string ⟨#[]⟩,.slice none 0 0,.int .i64 0] 46 (0,0)):=by
 unfold AA;rw[jV _ _ _ bS];have h:=lu ((w.alloc (.cells #[.slice none 0 0] 40)).alloc (.cells #[.int .i64 0,.int .i64 0] 28)) (.cells #[.int .i64 0,.string ⟨#[]⟩,.slice none 0 0,.int .i64 0] 46)
 simpa using h
def aNs (w:ak) (s:dA):(AA w s).heap[w.heap.size+1+1+1]?=some (.cells #[.string s,.int .i64 0,.slice (some ⟨w.heap.size+1+1,0,none⟩) 1 1] 82 (0,0)):=by
 have h:=lu (((w.alloc (.cells #[.slice none 0 0] 40)).alloc (.cells #[.int .i64 0,.int .i64 0] 28)).alloc (.cells #[.int .i64 0,.string ⟨#[]⟩,.slice none 0 0,.int .i64 0] 46)) (.cells #[.string s,.int .i64 0,.slice (some ⟨w.heap.size+1+1,0,none⟩) 1 1] 82)
 simpa[AA] using h
def aG9 (w:ak) (s:dA):pQ (AA w s) (fun _ _=>False) (w.heap.size+1+1) (w.heap.size+1+1+1) s 0 [(0,.nil)]:=by
 refine⟨w.heap.size+1+1,1,_,[.slice none 0 0],aNs w s,aNr w s,rfl,bq _,by unfold maxLen;omega,rfl,⟨⟨⟨[],Qd _ _ _ _,rfl⟩,fun b e=>by simp[Value.ownBlock] at e⟩,fun u j=>(by cases j),trivial⟩,by omega,by omega,bq _,fun _ h=>h,fun _ h=>h,fun u j=>?_,by rw[aNu];omega,fun _ _ h=>h.elim,fun _ _ h=>h.elim⟩
 simp at j;subst j;simp[Value.ownBlock]
def aBl (s:dA) (j:s.size<=9223372036854775807) {F:jP} (h:pQ w F b g s 0 [(0,.nil)]):
 Calls Tryz.prog 28 #[.pointer (some ⟨g,0,none⟩)] w (Vg b g s w):=by
 by_cases e:s.size<=65536
 ·exact aBm h e
 ·exact aBo h e j
def aG8 {X:ak} {F:jP} {q T cap:Nat} {l:Fr} {E:dF av} (h:PS W F (w.heap.size+1+1) (w.heap.size+1+1+1) A q [(i,l)] T cap E [v])
 (Z:parse (bytes A)=.ok l) (a':Below w.heap.size w X) (b':∀b,w.heap.size+1+1<=b->X.heap[b]?=W.heap[b]?):ajn A w (.returned (.tuple #[v,.agg #[.int .i64 0,.int .i64 0]])) X:=by
 refine⟨a',?_⟩;rw[Z];obtain⟨⟨c',lI,e⟩,y⟩:=h.ok.1;have P:xX F W X:=fun b o hf=>vU (b' b (h.fb b o hf));refine⟨v,F,rfl,⟨c',IK.mono (w:=W) (F:=F) ?_ P fun _ _ h=>h,e.mono P fun _ _ h=>h⟩,fun b o hf=>by have:=h.fb b o hf;omega⟩
 rcases lI.2 with⟨rfl,d'⟩|⟨g,c,e',rfl,_,i',f',g',j',k'⟩
 ·refine .inl ⟨rfl,qx ?_⟩
  rw[lI.1,d']
 ·refine .inr ⟨g,0,l.len,c,rfl,f',g',lI.1,fun j u hu=>?_⟩
  have h':j<l.len*4:=by
   exact afZ
  rw[jW];refine⟨(y g rfl j).2 h',?_⟩;have:=lI.cells (g:=g) rfl j u hu
  rwa[oH,jW] at this
def aEe {X:ak} {x y z:av} {t v:dh}
 (h:X=((((W.setCell ⟨w.heap.size,0,none⟩ m).setCell ⟨w.heap.size+1,0,none⟩ (.int .i64 k)).setCell ⟨w.heap.size+1,1,none⟩ (.int .i64 o)).alloc (.cells F t)).drew)
 (hn:W.heap[w.heap.size]?=some (.cells #[x] u (0,0))) (hf:W.heap[w.heap.size+1]?=some (.cells #[y,z] v (0,0))) (q:Below w.heap.size w W):
 X.cell? ⟨w.heap.size,0,none⟩=some m/\X.cell? ⟨w.heap.size+1,0,none⟩=some (.int .i64 k)/\X.cell? ⟨w.heap.size+1,1,none⟩=some (.int .i64 o)/\Below w.heap.size w X:=by
 have ln:w.heap.size+1<W.heap.size:=(kF.1 hf).1;have j:(((W.setCell ⟨w.heap.size,0,none⟩ m).setCell ⟨w.heap.size+1,0,none⟩ (.int .i64 k)).setCell ⟨w.heap.size+1,1,none⟩ (.int .i64 o)).heap.size=W.heap.size:=by simp[World.setCell]
 have l:X.heap[w.heap.size]?=some (.cells #[m] u (0,0)):=by
  rw[h];show(World.alloc _ _).heap[w.heap.size]?=_;rw[jV _ _ _ (by rw[j];omega),jF I,jF I,o_ hn]
  rfl
 have e:X.heap[w.heap.size+1]?=some (.cells #[.int .i64 k,.int .i64 o] v (0,0)):=by
  rw[h];show(World.alloc _ _).heap[w.heap.size+1]?=_;rw[jV _ _ _ (by rw[j];omega),o_ (o_ (by rw[jF I];exact hf))]
  rfl
 refine⟨by rw[gX X _ _ _ _ _ l];rfl,by rw[gX X _ _ _ _ _ e];rfl,by rw[gX X _ _ _ _ _ e];rfl,?_⟩
 rw[h];exact(((((q.setCell (bq _) _).setCell (yS _) _).setCell (yS _) _).alloc (by rw[j];omega) _)).drew
def ahh (s:dA) (w:ak) (g':s.size<=9223372036854775807):Calls Tryz.prog 12 #[.string s] w (ajn s w):=by
 have p':∀(fn:Fn) (first cap:dF av) (w:ak),(Instr.makeFunc fn first cap).run Tryz.prog w=.ok (.func fn first cap) w:=fun _ _ _ _=>rfl
 go_enter_defers Tryz.func12,Tryz.ntmps12;go_wp2_with fail;change Calls _ _ _ (AA w s) _;refine(aBl s g' (aG9 w s)).mono ?_;rintro e w1 ⟨j,A⟩;have n0:w1.heap[w.heap.size]?=some (.cells #[.slice none 0 0] 40 (0,0)):=(j.block _ I).trans (aNp w s);have u:w1.heap[w.heap.size+1]?=some (.cells #[.int .i64 0,.int .i64 0] 28 (0,0)):=(j.block _ I).trans (aNq w s);have T:w1.cell? ⟨w.heap.size,0,none⟩=some (.slice none 0 0):=af2;have c0:w1.cell? ⟨w.heap.size+1,0,none⟩=some (.int .i64 0):=by rw[gX w1 _ _ _ _ _ u];rfl
 have c1:w1.cell? ⟨w.heap.size+1,1,none⟩=some (.int .i64 0):=by rw[gX w1 _ _ _ _ _ u];rfl
 have h':w1.frozen? ⟨w.heap.size,0,none⟩=false:=by simp[World.frozen?,n0]
 have z0:w1.frozen? ⟨w.heap.size+1,0,none⟩=false:=by simp[World.frozen?,u]
 have z1:w1.frozen? ⟨w.heap.size+1,1,none⟩=false:=by simp[World.frozen?,u]
 have W:Below w.heap.size w w1:=(aNt w s).trans (j.mono I);have a':=Q W;have r':=Q j;have i':=Q n0;have j':=Q u;clear W j n0 u;rcases A with⟨rfl,F,p,l,q,⟨b',cap,q',P,h⟩,Z⟩|⟨k,o,rfl,Z⟩
 ·obtain⟨E,rfl⟩:∃E,P=[E]:=by
   have:=h.ok.len
   match P,this with
   |[E],_=>exact⟨E,rfl⟩
  obtain⟨s',y,_⟩:=h.ok.1.own;obtain⟨c',d',rfl⟩:=JI y;have p2:w1.cell? ⟨w.heap.size+1+1+1,2,none⟩=some (.slice (some ⟨b',0,none⟩) 1 cap):=h.p2;have t':w1.cell? ⟨b',2,none⟩=some (.slice c' l.len d'):=by
   rw[gX w1 _ _ _ _ _ h.N];have:=h.top.1;simpa using this
  have HP:=Q h;have HR:=Q Z;clear h Z y;go_wp2_with fail;refine leaves_cons (f:=27) (args:=#[.pointer (some ⟨w.heap.size,0,none⟩),.pointer (some ⟨w.heap.size+1,0,none⟩)]) bS N9 ?_;refine(aCN _ _ _).mono ?_;rintro e k' e' ⟨rfl,rfl,rfl⟩;refine⟨.tuple #[.slice c' l.len d',.agg #[.int .i64 0,.int .i64 0]],?_,?_⟩
  ·simp[results,Tryz.results12,go_sem,T,c0,c1]
  ·refine aG8 HP.out HR.out ?_ ?_
   ·exact((a'.out.setCell (bq _) _).setCell (yS _) _).setCell (yS _) _
   ·intro b j
    rw[jF I,jF I,jF I]
 ·have HR:=Q Z
  clear Z;refine leaves_cons (f:=27) (args:=#[.pointer (some ⟨w.heap.size,0,none⟩),.pointer (some ⟨w.heap.size+1,0,none⟩)]) bS N9 ?_;refine(aCO _ _ _ _ _ k o _ T c0 c1 h' z0 z1 I).mono ?_;rintro e k' e' ⟨rfl,rfl,f'⟩;obtain⟨l',m',n',o'⟩:=aEe f' i'.out j'.out a'.out;clear f';refine⟨.tuple #[.slice none 0 0,.agg #[.int .i64 k,.int .i64 o]],?_,?_⟩
  ·simp[results,Tryz.results12,go_sem,l',m',n']
  ·refine⟨o',?_⟩
   rw[HR.out]
end
section
open Go Go.RowKit
section
variable {E:Env}
def Old (aD:Nat) (ρ:Mp) (s:St):Prop:=∀b o l,s.aP.get b=some o->o.wr->ρ b=some l->l.g<aD
def HR.ro {d' ρ:Mp} {s0 s:St} (h:HR E g ρ s w) (t:fA d' s0 W ρ s w) (T:Old W.heap.size ρ s) {o:AO} (a':¬o.wr) {l:Loc} (n':W.heap.size<=l.g) (N:OR E g ρ w l o):
 HR E g (ρ.on s.nx l) (s.new o) w/\fA d' s0 W (ρ.on s.nx l) (s.new o) w/\Old W.heap.size (ρ.on s.nx l) (s.new o):=by
 have c':Ext ρ (ρ.on s.nx l):=Mp.JH (h.fresh.1);have q':∀b o',s.aP.get b=some o'->b≠s.nx:=fun b o' u e=>by
  obtain⟨l',y,_⟩:=h.pK b o' u;rw[e,h.fresh.1] at y;cases y
 have j:∀b o',(s.new o).aP.get b=some o'->(b=s.nx/\o'=o)\/(b≠s.nx/\s.aP.get b=some o'):=fun b o' u=>Tr.jc (show(Tr.set s.nx o s.aP).get b=some o' from u)
 refine⟨⟨fun b o' u=>?_,fun b h' e' i' j' p' u k' hn F b' P=>?_,Mp.YR h.fresh s rfl rfl o,h.base,h.nM,fun b o' l' u F q=>?_⟩,⟨t.ext.trans c',?_,t.os,t.tape,t.output,t.size,t.block,fun b o' l' u q=>?_,fun b u m'=>?_,t.wD⟩,fun b o' l' u F q=>?_⟩
 ·rcases j b o' u with⟨rfl,rfl⟩|⟨y,A⟩
  ·exact⟨_,Mp.nS _ _ _,N.mono c' rfl⟩
  ·obtain⟨l',f',g'⟩:=h.pK b o' A
   exact⟨l',c' _ _ f',g'.mono c' rfl⟩
 ·rcases j b e' u with⟨rfl,rfl⟩|⟨y,A⟩
  ·exact absurd F a'
  ·rw[Mp.pO y] at b'
   have r':=T b e' j' A F b';rcases j h' i' k' with⟨rfl,rfl⟩|⟨f',g'⟩
   ·rw[Mp.nS] at P
    obtain rfl:=bI P;omega
   ·rw[Mp.pO f'] at P
    exact h.apart b h' e' i' j' p' A g' hn F b' P
 ·rcases j b o' u with⟨rfl,rfl⟩|⟨y,A⟩
  ·exact absurd F a'
  ·rw[Mp.pO y] at q
   exact h.oC b o' l' A F q
 ·have y:=t.nx
  show s0.J<=max s.J (s.nx+1)/\(max s.J (s.nx+1)=s0.nx\/s0.J<=max s.J (s.nx+1));omega
 ·rcases j b o' u with⟨rfl,rfl⟩|⟨y,A⟩
  ·rw[Mp.nS] at q
   obtain rfl:=bI q;exact .inl n'
  ·rw[Mp.pO y] at q
   exact t.from_ b o' l' A q
 ·have y:=t.nx
  rw[Mp.pO I];exact t.qR b u m'
 ·rcases j b o' u with⟨rfl,rfl⟩|⟨y,A⟩
  ·exact absurd F a'
  ·rw[Mp.pO y] at q
   exact T b o' l' A F q
def DZ (l:Fr) (p:G H×St):H×St:=match l with
 |.nil=>(.rF,p.2)
 |.cons ..=>(.slice p.2.nx 0 l.len l.len 4,p.2.new (.cells true (nN .leaf 0 p.1) p.1.length))
def wH:Fr->St->G H×St
 |.nil,s=>([],s)
 |.cons k t kids o rest,s=>(.int .i64 k::.str (t.map UInt8.toNat)::(DZ kids (wH kids s)).1::.int .i64 o::(wH rest (DZ kids (wH kids s)).2).1,(wH rest (DZ kids (wH kids s)).2).2)
def KP:∀(l:Fr),l.pF.len=l.len*4
 |.nil=>rfl
 |.cons _ _ _ _ r=>by simp only[Fr.pF,qB.len,Fr.len,KP r];omega
def aCn (t:G dG):bC (t.map UInt8.toNat)=⟨t.toArray⟩:=by
 unfold bC;rw[Iq]
 congr 2
 exact(aw3 fun a _=>by simp[Function.comp]).trans (aa3 _)
structure Ql (E:Env) (base:Nat) (Ce:Mp) (s0:St) (W0:World) (ρ:Mp) (s:St) (w:World):Prop where
 U:HR E base ρ s w
 gZ:fA Ce s0 W0 ρ s w
 qR:Old W0.heap.size ρ s
def ava {T ρ:Mp} {s0 s:St} {F:jP} (o':∀b o,F b o->W.heap.size<=b) {l:Fr} {cs:G H} {q:G av} (U:IK w F 4 v q) (y:q.length=l.len*4) (h:Ql E g T s0 W ρ s w) (e':fq E ρ cs q):
 ∃a',VR E a' (DZ l (cs,s)).1 v/\Ql E g T s0 W a' (DZ l (cs,s)).2 w/\Ext ρ a':=by
 cases l with
 |nil=>
  refine⟨ρ,?_,h,Ext.refl _⟩;rcases U with⟨rfl,_⟩|⟨b,off,n,cap,rfl,_,_,f',_⟩
  ·exact⟨_,_,rfl⟩
  ·have:n=0:=by
    have b':q.length=0:=by rw[y];rfl
    omega
   subst this;exact⟨_,_,rfl⟩
 |cons k t kids o rest=>
  rcases U with⟨_,rfl⟩|⟨b,off,n,cap,rfl,g',p',f',b'⟩
  ·simp[Fr.len] at y
  ·have hn:n=(Fr.cons k t kids o rest).len:=by omega
   have c':0<q.length:=by rw[y];simp only[Fr.len];omega
   obtain⟨h',i'⟩:=b' 0 (q[0]' c') (gM _);obtain⟨arr,e,fr,j',_⟩:=NG i';have k':cs.length=q.length:=e'.length.symm;have l':∀(j:Nat) (x:H),(nN Tr.leaf 0 cs).get j=some x->j<cs.length/\∃v,arr[off+j]?=some v/\VR E ρ x v:=fun j x q'=>by
    rcases Cc q' with⟨_,A⟩|⟨_,A⟩
    ·rw[Cn] at A
     obtain⟨u,r',s'⟩:=e'.get A;obtain⟨_,m'⟩:=b' j u r';obtain⟨arr',y',x',P,t'⟩:=NG m';rw[j'] at P;simp only[aG,Obj.cells.injEq] at P;obtain⟨rfl,_,_⟩:=P;exact⟨(gN.1 A).1,u,t',s'⟩
    ·rw[Tr.o9] at A;cases A
   have n':OR E g ρ w ⟨b,off,cap*4⟩ (.cells true (nN .leaf 0 cs) cs.length):=⟨arr,e,fr,j',fun d'=>(by cases d'),by show cs.length<=cap*4;rw[k',f'];exact Cm _ g',l',fun d'=>(by cases d')⟩
   obtain⟨u',v',w'⟩:=h.U.ro h.gZ h.qR (o:=.cells true (nN .leaf 0 cs) cs.length) (by simp[AO.wr]) (l:=⟨b,off,cap*4⟩) (o' b _ h') n'
   subst hn;exact⟨_,⟨_,cap,Mp.nS _ _ _,rfl,bq _,g',p',by simp⟩,⟨u',v',w'⟩,Mp.JH h.U.fresh.1⟩
def agY {base:Nat} {q:Mp} {s0:St} {u w:ak} {F:jP} (y:∀b o,F b o->u.heap.size<=b):∀(l:Fr) (ρ:Mp) (s:St) (e:G av),qY w F l.pF e->Ql E base q s0 u ρ s w->
 ∃A,fq E A (wH l s).1 e/\Ql E base q s0 u A (wH l s).2 w/\Ext ρ A
 |.nil,ρ,s,e,P,h=>⟨ρ,P,h,Ext.refl _⟩
 |.cons k t kids o rest,ρ,s,e,P,h=>by
  obtain⟨_,rfl,_,rfl,p',a',q',rfl,T,b',_,rfl,j⟩:=P;obtain⟨o',f',g',h'⟩:=agY y kids ρ s a' b' h;have W:a'.length=kids.len*4:=by rw[b'.len,KP]
  obtain⟨c',i',j',k'⟩:=ava (l:=kids) (cs:=(wH kids s).1) (s:=(wH kids s).2) y T W g' f';obtain⟨d',l',m',e'⟩:=agY y rest c' (DZ kids (wH kids s)).2 _ j j';refine⟨d',⟨_,_,rfl,rfl,_,_,rfl,⟨by rw[aCn],fun x n'=>?_⟩,_,_,rfl,i'.mono e',_,_,rfl,rfl,l'⟩,m',(h'.trans k').trans e'⟩
  obtain⟨c,_,rfl⟩:=FQ.1 n';exact c.toNat_lt
def aMz {ρ:Mp} {s:St} {F:jP} (P:∀b o,F b o->W.heap.size<=b) {l:Fr} (h:HR E i ρ s W) (e:Below W.heap.size W w) (T:Rd w F 4 l.pF v):
 ∃q,VR E q (DZ l (wH l s)).1 v/\HR E i q (DZ l (wH l s)).2 w/\fA ρ s W q (DZ l (wH l s)).2 w:=by
 obtain⟨d',u,a'⟩:=T;have e':Ql E i ρ s W ρ s w:=⟨h.off e.size (fun b o l j y=>e.block _ (h.uO j y)) (fun g o A=>e.block _ (h.Bv A)),(fA.refl h).off ⟨e.os,e.tape,e.output⟩ e.size fun g A=>e.block g A,fun b o l j _ y=>h.uO j y⟩;obtain⟨i',f',g',_⟩:=agY P l ρ s d' a' e';obtain⟨b',h',c',_⟩:=ava (l:=l) (cs:=(wH l s).1) (s:=(wH l s).2) P u (by rw[a'.len,KP]) g' f'
 exact⟨b',h',c'.U,c'.gZ⟩
def aap (s:St) (l:G Nat):H×St:=match parse (l.map UInt8.ofNat) with
 |.ok f=>(.tuple [(DZ f (wH f s)).1,.agg [.int .i64 0,.int .i64 0]],(DZ f (wH f s)).2)
 |.error (k,o)=>(.tuple [.aV,.agg [.int .i64 k,.int .i64 o]],s)
def aMB {s:St} (f':q.length<=1000000):vV E Tryz.prog 12 [.str q] s (aap s q).1 (aap s q).2:=by
 intro base ρ w us u U l;obtain⟨_,_,rfl,⟨rfl,P⟩,rfl⟩:=l;have j:bytes (bC q)=q.map UInt8.ofNat:=by unfold bytes bC;simp
 have y:(bC q).size=q.length:=by unfold bC;simp[ByteArray.size]
 refine uW (ahh (bC q) w (by rw[y];omega)) ?_
 rintro e w' ⟨h,A⟩;rw[j] at A;unfold aap;split at A
 ·rename_i f Z
  obtain⟨v,F,rfl,T,a'⟩:=A;obtain⟨b',c',d',e'⟩:=aMz a' U h T;rw[Z];exact⟨_,b',rfl,⟨_,rfl,⟨_,_,rfl,c',_,[],rfl,⟨_,rfl,⟨_,_,rfl,rfl,_,[],rfl,rfl,rfl⟩⟩,rfl⟩⟩,d',e'⟩
 ·rename_i k o Z
  rw[Z,A];exact⟨_,ρ,rfl,⟨_,rfl,⟨_,_,rfl,rfl,_,[],rfl,⟨_,rfl,⟨_,_,rfl,rfl,_,[],rfl,rfl,rfl⟩⟩,rfl⟩⟩,U.off h.size (fun b o q W P=>h.block _ (U.uO W P)) (fun g o u=>h.block _ (U.Bv u)),(fA.refl U).off ⟨h.os,h.tape,h.output⟩ h.size fun g u=>h.block g u⟩
end
end
end
end Go.Proofs.YtdjcfaaongngeaaGreatDoor

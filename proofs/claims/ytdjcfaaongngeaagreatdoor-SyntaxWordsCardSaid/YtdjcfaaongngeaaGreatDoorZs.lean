/- A part of the proof: see the last text. -/
import Derived.Test.YtdjcfaaongngeaaGreatDoorZp
set_option linter.all false
set_option maxRecDepth 100000
set_option maxHeartbeats 0
namespace Go.Proofs.YtdjcfaaongngeaaGreatDoor
noncomputable section
variable {T:Nat->ah D}{P:Prop}
section
open Go Go.RowKit
def aLJ:G bJ:=[aaD,Py,avZ,ah5]
def aLK:Tree:=.B (.bin .neq bQ iP) (.B (.bin .neq fE iF) eF (.B WJ (.B VE eF (.B iC wS (.B EK wS VB))) (.B iC wS (.B EK wS VB)))) (.B WJ (.B VE eF (.B iC wS (.B EK wS VB))) (.B iC wS (.B EK wS VB)))
def aLL:TC 132 [.agg [.S (.var 3),.S (.var 4),.S (.var 5),.S (.var 6)]] none aLJ [] aLK (fC):=tc
def aLM:gU 132:=gY Tryz.func132 aS
def aLI.qE (h:P:=by(try simp only[tD,rD,iD,sZ,↓tO,↓uU])<;>(first|(simp[gT,qo,nth,nk,nt,tI,tk,jh,iD,tD,rD];done)|(rw[DA.one.injEq,D.bool.injEq,AP];simp[gT,qo,nth,nk,nt,tI,tk,jh,iD,tD,rD, *];done)|(rw[DA.one.injEq,D.bool.injEq,AP];simp[gT,qo,nth,nk,nt,tI,tk,jh,iD,tD,rD, *];omega)|(rw[DA.one.injEq,D.bool.injEq,AP];simp[gT,qo,nth,nk,nt,tI,tk,jh,iD,tD,rD, *];rintro rfl;simp;done)|(simp[gT,qo,nth,nk,nt,tI,tk,jh,iD,tD,rD, *];done)|(cases c0 with|nil=>(simp[gT,qo,nth,nk,nt,tI,tk,jh,iD,tD,rD, *];done)|cons e j=>(simp[gT,qo,nth,nk,nt,tI,tk,jh,iD,tD,rD, *];done))|(simp[gT,qo,nth,nk,nt,tI,tk,jh,iD,tD,rD, *];omega)|(simp_all[gT,qo,nth,nk,nt,tI,tk,jh,iD,tD,rD];done)|(simp_all[gT,qo,nth,nk,nt,tI,tk,jh,iD,tD,rD];omega))):P:=h
open aLI in
def aOe (P:bH T) (n:Nat) (h:(Ru n).aA T) (u:(CX n).aA T):(aoV n).aA T:=by
 intro V pre ⟨W,Z⟩
 match V,W with
 |[.agg m'],⟨e',hex⟩=>
 obtain⟨n',o',p',c0,rfl,f',g',yE⟩:=oF e';have A:fG T _ _:=(ac (Zl P) Xh (ac (OO P) Nl (ac h aou (ac u aor an))));obtain rfl:=Z;have hall:∀x∈c0,aI x<=n:=fun x h'=>by have F:=qj h';rw[vD] at hex;omega
 refine sV P aLM A.1 all_nil A.2 bn aLL (ay aO (ay (mo f') (ay aO (ay (eP g' yE) aX)))) ?_;refine au aj (fun i'=>?_) (fun i'=>?_)
 ·refine au aj (fun F=>aU) (fun F=>?_)
  refine au aj (fun w=>?_) (fun w=>?_)
  ·refine au aj (fun a'=>aU) (fun a'=>?_)
   refine au aj (fun b'=>aU) (fun b'=>?_);refine au aj (fun c'=>aU) (fun c'=>?_);refine au aj (fun y=>?_) (fun y=>?_)
   ·refine eT M Oy fun E=>?_
    refine au aj (fun j=>?_) (fun j=>aU);refine kX M Jt fun j' hR E=>?_;obtain⟨nA,rfl⟩:=FC E;have k':=rR hR;clear hR;refine au aj (fun q=>aU) (fun q=>?_);refine au aj (fun e=>?_) (fun e=>aU);exact Sc
   ·refine au aj (fun d'=>aU) (fun d'=>?_)
    refine au aj (fun j=>aU) (fun j=>?_);refine au aj (fun l=>?_) (fun l=>?_)
    ·refine au aj (fun q=>au aj (fun e=>aU) (fun e=>aU)) (fun q=>?_)
     exact Og
    ·refine au aj (fun q=>?_) (fun q=>aU)
     refine au aj (fun e=>?_) (fun e=>have e:¬(c0).length=2:=aC;aU)
     replace e:(c0).length=2:=aC;exact Yx
  ·exact ari
 ·refine au aj (fun F=>?_) (fun F=>?_)
  ·refine au aj (fun w=>aU) (fun w=>?_)
   exact ari
  ·refine au aj (fun w=>aU) (fun w=>?_)
   refine au aj (fun a'=>aU) (fun a'=>?_);refine au aj (fun b'=>?_) (fun b'=>?_)
   ·refine eT M Oy fun E=>?_
    refine au aj (fun y=>?_) (fun y=>aU);refine kX M Jt fun j' hR E=>?_;obtain⟨nA,rfl⟩:=FC E;have l':=rR hR;clear hR;refine au aj (fun j=>aU) (fun j=>?_);refine au aj (fun l=>?_) (fun l=>aU);exact Sc
   ·refine au aj (fun c'=>aU) (fun c'=>?_)
    refine au aj (fun y=>aU) (fun y=>?_);refine au aj (fun d'=>?_) (fun d'=>?_)
    ·refine au aj (fun j=>au aj (fun l=>aU) (fun l=>aU)) (fun j=>?_)
     exact Og
    ·refine au aj (fun j=>?_) (fun j=>aU)
     refine au aj (fun l=>?_) (fun l=>have l:¬(c0).length=2:=aC;aU)
     replace l:(c0).length=2:=aC;exact Yx
def aLb:G bJ:=[avI,ah7]
def aLc:Tree:=.B (.bin .neq qg yX) M8 (.fT ac3 (.call 0 [.agg adU] [] (.B fQ (.fT aec (.call 1 [.agg acD,aF] [] (.B (.bin .neq h_ aH) (.leaf 0 [.tuple [vY,.agg Gf]] []) (.fT (.bin .lss jI qg) (.B (.bin .gtr mF aH) (.fT (.bin .leq (.len (.snoc dB [VN])) mG) (.call 1 [.agg an4,.S (.snoc dB [VN])] [] al4)) (.call 1 [.agg an4,.S (.snoc .d9 [VN])] [] al4)))))) (.leaf 0 [.tuple [vY,.agg [q9,.S akb]]] []))))
def aLd:TC 154 [.agg [.S (.var 3),.S (.var 4),.S (.var 5),.S (.var 6)],.S (.var 7)] none aLb [] aLc (eB++[.R 0]):=tc
def aLe:gU 154:=gY Tryz.func154 aS
def aU5 (h:P:=by first|(simp[ji,Li,Tc,NU,yI,nth,ty,jm,Dx,wG,DF,eD,nk,nt,nc,no,jh,iD,tD,rD,mq,LM,kS,lY,LU,uT,vR, *]<;>first|done|omega|assumption)|(simp_all[ji,Li,Tc,NU,yI,nth,ty,jm,Dx,wG,DF,eD,nk,nt,nc,no,jh,iD,tD,rD,mq,LM,kS,lY,LU,uT,vR]<;>omega)):P:=h
def aLa.qE (h:P:=by exact aU5):P:=h
open aLa in
def aND (F:bH T) (n:Nat) (e:(C8 n).aA T):(Jd n).aA T:=by
 intro V pre ⟨w,Z⟩
 match V,w with
 |[.agg o',.one d1],⟨P,W,j,hex⟩=>
 obtain⟨p',q',c0,f',rfl,a',b',q⟩:=jT P;obtain⟨h,rfl,c',d'⟩:=bW W;have A:fG T _ _:=(ac (Ur F) aoD (ac e aeG an));replace j:(h).length+n<1000000:=j;obtain rfl:=Z;have hall:∀x∈c0,aI x<=n:=fun x g'=>by have r':=qj g';rw[wY] at hex;omega
 refine sV F aLe A.1 all_nil A.2 bn aLd (kD a' b' q (ay (eP c' d') aX)) ?_;refine au aj (fun y=>have y:¬(c0).length=4:=aC;aU M (TR.err (f:=(2,f')) qE Z0)) (fun y=>?_)
 replace y:(c0).length=4:=aC;obtain⟨s',t',u',v',rfl,h',i',j',k'⟩:=Jl q aC;obtain⟨w',x',y',z',rfl,A',D'⟩:=aT h';obtain⟨E',F',L',l',rfl,M',P'⟩:=aT i';obtain⟨T',W',X',a0,rfl,b0,e0⟩:=aT j';obtain⟨f0,g0,h0,i0,rfl,j0,k0⟩:=aT k';refine aR ?_;refine eT M ash fun e'=>?_;refine au aj (fun m'=>?_) (fun m'=>aU M (TR.err (f:=(2,l')) qE Z0));refine aR ?_;refine kX M (fun k=>agu k (bF:=(by first|exact hall _ jS))) fun l0 hR e'=>?_
 rcases JG hR with⟨m0,hy3,rfl⟩|⟨n',hy3,u,rfl⟩
 ·obtain⟨o0,r0,s0,t0,rfl,u0,v0⟩:=gQ (tH e').1
  refine jo M ?_;refine aR ?_;refine au aj (fun E=>?_) (fun E=>?_)
  ·replace E:¬(h).length<=0:=aC
   refine aR ?_;exact arh
  ·replace E:(h).length<=0:=aC
   obtain rfl:=oV (l:=h) aC;exact arh
 ·refine fO (den_nz M u) ?_
  exact aU M (TR.err (f:=n') qE u)
def aIE:G bJ:=[⟨50,some [C,C],(.agg [C,.str,.R 0,C,.str,C,.R 2,.R 3,.R 4])⟩,⟨51,some [C,C],(.agg [C,.str,.R 0,C,.str,C,.R 2,.R 3,.R 4])⟩,⟨52,some [C,C],(.agg [C,.str,.R 0,C,.str,C,.R 2,.R 3,.R 4])⟩,LH,aaC,avN]
def aIF:Tree:=.B VQ QB (.B QA QB (.fT Kv (.B Wo QB (.B (.bin .eql kM adB) (.B iC (.B (.bin .neq mF yX) zQ (.fT mH (.fT mE (.call 0 [I4,IX] bL V6)))) Gb) (.B (.bin .eql kM abR) (.B iC (.B (.bin .neq mF Ku) zQ (.fT mH (.fT mE (.call 0 [q9,IX] bL V6)))) Gb) (.B (.bin .eql kM aed) (.B iC (.B (.bin .neq mF Ku) zQ (.fT mH (.fT mE (.call 1 [IX] bL V6)))) Gb) (.B (.bin .eql kM acB) (.B iC (.B (.bin .neq mF yX) zQ (.fT mH (.fT mE (.call 2 [IX] bL V6)))) Gb) (.B (.bin .eql kM abU) (.B iC (.B abW zQ (.fT mH (.fT mE (.fT EM (.call 3 Ga bL (.call 5 Ki [] (.B Mw akf ada))))))) Gb) (.B (.bin .eql kM aeb) (.B iC (.B abW zQ (.fT mH (.fT mE (.fT EM (.call 3 Ga bL (.call 5 Ki [] (.B Mw anA acT))))))) Gb) (.B (.bin .eql kM abS) (.B iC (.B abW zQ (.fT mH (.fT mE (.fT EM (.call 4 Wq bL (.call 5 Ki [] ank)))))) Gb) QB))))))))))
def aud:TC 33 [oP] lW aIE [] aIF (fl++eB):=tc
def aue:gU 33:=gY Tryz.func33 aS
def aID.qE (h:P:=by first|(simp[oZ,Jq,Jo,Jp,Fw,Du,DC,Dz,Dv,Dy,DJ,Dw,eD,fm,jm,ty,nth,nk,nt,nc,no,jh,iD,tD,rD,mq,LM,kS,lY,LU,uT,vR, *]<;>first|done|omega|assumption)|(simp_all[oZ,Jq,Jo,Jp,Fw,Du,DC,Dz,Dv,Dy,DJ,Dw,eD,fm,jm,ty,nth,nk,nt,nc,no,jh,iD,tD,rD,mq,LM,kS,lY,LU,uT,vR]<;>omega)):P:=h
open aID in
def aEj (T':bH T) (n:Nat) (hn:n+100<=1000000) (l:(RB n).aA T) (y:(Rt n).aA T) (E:(Ry n).aA T) (j':(Bp n).aA T) (q:(Je).aA T):(E_ (n+1)).aA T:=by
 intro V pre ⟨r',Z⟩
 match V,r' with
 |[.agg a1],⟨W',hex⟩=>
 obtain⟨b1,e1,c0,o0,rfl,X',a0,o'⟩:=jT W';have A:fG T _ _:=(ac l aBT (ac y aBJ (ac E aBP (ac (Ar T') Bo (ac j' Nk (ac q aoE an))))));refine mY (la:=kR) T' aue A.1 all_nil A.2 bn aud (kD X' a0 o' aX) Z (fun e0=>?_);subst e0;replace hex:=hex rfl;have hall:∀x∈c0,aI x<=n:=fun x u=>by have b0:=qj u;rw[wY] at hex;omega
 refine au aj (fun f0=>dJ) (fun f0=>?_);refine au aj (fun b0=>dJ) (fun b0=>?_);obtain⟨f1,lB,rfl,T0,g0,j⟩:=pJ o' aC aC;obtain⟨g1,h1,i1,j1,rfl,k1,l1⟩:=aT g0;refine aR ?_;refine au aj (fun h0=>dJ) (fun h0=>?_);refine au aj (fun i0=>?_) (fun i0=>?_)
 ·refine fO M ?_
  refine au aj (fun k'=>have k':¬(lB).length=3:=aC;oG) (fun k'=>?_)
  replace k':(lB).length=3:=aC;obtain⟨c',s',t',rfl,h,F,P⟩:=Dh j aC;obtain⟨d',e',f',g',rfl,h',i'⟩:=aT h;obtain⟨u',v',w',x',rfl,y',z'⟩:=aT F;obtain⟨A',D',E',F',rfl,L',M'⟩:=aT P;refine aR ?_;refine aR ?_;refine dH M (fun k=>asi k (Ad:=YL) (bF:=by exact(fun x u=>hall x (gF _ u)))) fun m1 qm e=>?_
  obtain⟨j0,k0,l0,K3,K4,K5,K6,m0,r0,rfl⟩:=zA e;replace qm:=nz qm;refine eT M Jv fun e=>?_;refine au aj (fun W=>?_) (fun W=>dQ);exact aqe
 ·refine au aj (fun k'=>?_) (fun k'=>?_)
  ·refine fO M ?_
   refine au aj (fun l'=>have l':¬(lB).length=4:=aC;oG) (fun l'=>?_)
   replace l':(lB).length=4:=aC;obtain⟨c',s',t',s0,rfl,h,F,P,P'⟩:=Jl j aC;obtain⟨d',e',f',g',rfl,h',i'⟩:=aT h;obtain⟨u',v',w',x',rfl,y',z'⟩:=aT F;obtain⟨A',D',E',F',rfl,L',M'⟩:=aT P;obtain⟨t0,u0,v0,w0,rfl,x0,A0⟩:=aT P';refine aR ?_;refine aR ?_;refine dH M (fun k=>asi k (Ad:=YL) (bF:=by exact(fun x u=>hall x (gF _ u)))) fun o1 zw e=>?_
   obtain⟨D0,E0,F0,M3,M4,M5,M6,L0,M0,rfl⟩:=zA e;replace zw:=nz zw;refine eT M Jv fun e=>?_;refine au aj (fun a'=>?_) (fun a'=>dQ);exact apI
  ·refine au aj (fun l'=>?_) (fun l'=>?_)
   ·refine fO M ?_
    refine au aj (fun m'=>have m':¬(lB).length=4:=aC;oG) (fun m'=>?_)
    replace m':(lB).length=4:=aC;obtain⟨c',s',t',s0,rfl,h,F,P,P'⟩:=Jl j aC;obtain⟨d',e',f',g',rfl,h',i'⟩:=aT h;obtain⟨u',v',w',x',rfl,y',z'⟩:=aT F;obtain⟨A',D',E',F',rfl,L',M'⟩:=aT P;obtain⟨t0,u0,v0,w0,rfl,x0,A0⟩:=aT P';refine aR ?_;refine aR ?_;refine dH M (fun k=>aEx k (Ad:=by exact rfl) (bF:=by exact(fun x u=>hall x (gF _ u)))) fun r1 p' e=>?_
    obtain⟨D0,E0,F0,M3,M4,M5,M6,L0,M0,rfl⟩:=zA e;replace p':=nz p';refine eT M Jv fun e=>?_;refine au aj (fun b'=>?_) (fun b'=>dQ);exact apI
   ·refine au aj (fun m'=>?_) (fun m'=>?_)
    ·refine fO M ?_
     refine au aj (fun W=>have W:¬(lB).length=3:=aC;oG) (fun W=>?_)
     replace W:(lB).length=3:=aC;obtain⟨c',s',t',rfl,h,F,P⟩:=Dh j aC;obtain⟨d',e',f',g',rfl,h',i'⟩:=aT h;obtain⟨u',v',w',x',rfl,y',z'⟩:=aT F;obtain⟨A',D',E',F',rfl,L',M'⟩:=aT P;refine aR ?_;refine aR ?_;refine dH M (fun k=>aEC k (Ad:=by exact rfl) (bF:=by exact(fun x u=>hall x (gF _ u)))) fun s1 q' e=>?_
     obtain⟨j0,k0,l0,K3,K4,K5,K6,m0,r0,rfl⟩:=zA e;replace q':=nz q';refine eT M Jv fun e=>?_;refine au aj (fun w=>?_) (fun w=>dQ);exact aqe
    ·refine au aj (fun W=>?_) (fun W=>?_)
     ·refine fO M ?_
      refine au aj (fun a'=>have a':¬(lB).length=1:=aC;oG) (fun a'=>?_)
      replace a':(lB).length=1:=aC;obtain⟨c',rfl,h⟩:=Fq j aC;obtain⟨d',e',f',g',rfl,h',i'⟩:=aT h;refine aR ?_;refine aR ?_;refine aR ?_;refine dH M Bw fun u1 jA e=>?_;refine eT M Jv fun e=>?_;exact aqO
     ·refine au aj (fun a'=>?_) (fun a'=>?_)
      ·refine fO M ?_
       refine au aj (fun b'=>have b':¬(lB).length=1:=aC;oG) (fun b'=>?_)
       replace b':(lB).length=1:=aC;obtain⟨c',rfl,h⟩:=Fq j aC;obtain⟨d',e',f',g',rfl,h',i'⟩:=aT h;refine aR ?_;refine aR ?_;refine aR ?_;refine dH M Bw fun W0 P0 e=>?_;refine eT M Jv fun e=>?_;exact ap6
      ·refine au aj (fun b'=>?_) (fun b'=>dJ)
       refine fO M ?_;refine au aj (fun w=>have w:¬(lB).length=1:=aC;oG) (fun w=>?_)
       replace w:(lB).length=1:=aC;obtain⟨c',rfl,h⟩:=Fq j aC;obtain⟨d',e',f',g',rfl,h',i'⟩:=aT h;refine aR ?_;refine aR ?_;refine aR ?_;refine dH M (fun k=>GA k (bF:=by exact(hall _ jS))) fun X0 n' e=>?_
       obtain⟨v1,w1,x1,A1,D1,E1,F1,L1,M1,P1,rfl⟩:=nH e;replace n':=nz n';refine eT M Jv fun e=>?_;exact arw
end
end
end Go.Proofs.YtdjcfaaongngeaaGreatDoor

/- A part of the proof: see the last text. -/
import Derived.Test.YtdjcfaaongngeaaGreatDoorZm
set_option linter.all false
set_option maxRecDepth 100000
set_option maxHeartbeats 0
namespace Go.Proofs.YtdjcfaaongngeaaGreatDoor
noncomputable section
variable {b:Nat}{T:Nat->ah D}{P:Prop}
section
open Go Go.RowKit
def atX:G bJ:=[]
def ZP:eX:=⟨0,18,QG,[(.ret,⟨[(4,.bool true)],[],10⟩,[]),(.normal,⟨[],[],10⟩,[])]⟩
def atW:G iq:=[⟨QG,[.R 0,.str,C],.B abT (.fT Ky (.B (.bin .eql VH fE) Gc (.leaf 0 aej []))) Ez⟩]
def aHE:Tree:=.bX 0 [bQ,fE,aH] (.cons EC (.cons eF .nil))
def ZQ:ko 37 200 0 ZP atX [] atW:=.of aS
def aHF:TC 37 [.S (.var 3),.S (.var 4)] none atX [ZP] aHE ([.R 0]++[.str]):=tc
def aHG:gU 37:=gY Tryz.func37 aS
def aIX:G bJ:=[]
def aIY:Tree:=.B aku EC (.B (.bin .eql bQ acZ) EC (.B (.bin .eql bQ MG) EC (.B (.bin .eql bQ VZ) EC (.leaf 0 [.S (.bin .eql bQ WB)] []))))
def aIZ:TC 124 [.S (.var 3)] none aIX [] aIY ([.str]):=tc
def aI0:gU 124:=gY Tryz.func124 aS
def aKd:G bJ:=[Uh]
def aKe:Tree:=.B (.bin .eql bQ adB) eF (.B (.bin .eql bQ abR) eF (.B (.bin .eql bQ aed) eF (.B (.bin .eql bQ acB) eF (.B (.bin .eql bQ abU) eF (.B (.bin .eql bQ aeb) eF (.B (.bin .eql bQ abS) eF (.B (.bin .eql bQ (.str [112,97,99,107,97,103,101])) eF (.B (.bin .eql bQ (.str [116,97,115,107])) eF (.B (.bin .eql bQ ac0) eF (.B (.bin .eql bQ adk) eF (.B (.bin .eql bQ (.str [100,111])) eF (.B (.bin .eql bQ (.str [105,102])) eF (.B (.bin .eql bQ acu) eF (.B (.bin .eql bQ ad5) eF (.B (.bin .eql bQ aco) eF (.B (.bin .eql bQ adn) eF (.B (.bin .eql bQ MG) eF (.B (.bin .eql bQ acI) eF (.B (.bin .eql bQ (.str [105,115])) eF (.B (.bin .eql bQ ac5) eF (.B (.bin .eql bQ (.str [97,100,100])) eF (.B (.bin .eql bQ (.str [115,117,98])) eF (.B (.bin .eql bQ adJ) eF (.B (.bin .eql bQ acG) eF (.B (.bin .eql bQ adp) eF (.B (.bin .eql bQ acr) eF (.B (.bin .eql bQ ab1) eF (.B (.bin .eql bQ adT) eF (.B (.bin .eql bQ ado) eF (.B (.bin .eql bQ adE) eF (.B (.bin .eql bQ abM) eF (.B (.bin .eql bQ ab2) eF (.B (.bin .eql bQ abP) eF (.B (.bin .eql bQ acs) eF (.B (.bin .eql bQ VZ) eF (.B (.bin .eql bQ WB) eF (.B aku eF (.B (.bin .eql bQ acZ) eF (.call 0 [dY] [] (.leaf 0 ze []))))))))))))))))))))))))))))))))))))))))
def aKf:TC 59 [.S (.var 3)] none aKd [] aKe ([.str]):=tc
def aKg:gU 59:=gY Tryz.func59 aS
def aKs:G bJ:=[⟨59,none,(.one (.bool))⟩]
def aKt:Tree:=ak9
def aKu:TC 36 [oP] lW aKs [] aKt (fl++fZ):=tc
def aKv:gU 36:=gY Tryz.func36 aS
def aJ8:G bJ:=[Uh]
def aJ9:Tree:=ak9
def aKa:TC 92 [oP] lW aJ8 [] aJ9 (fl++fZ):=tc
def aKb:gU 92:=gY Tryz.func92 aS
def aKn:G bJ:=[Ug,avY]
def aKo:Tree:=.call 0 [CO] bL (.call 1 QH [] (.B h_ MK (.B Qw (.leaf 0 [dP,.int .i64 5,dz] []) MK)))
def aKp:TC 120 [oP,.S (.var 9)] lW aKn [] aKo (fl++fZ++[.R 0]):=tc
def aKq:gU 120:=gY Tryz.func120 aS
def aKU:G bJ:=[avC,avB]
def aKV:Tree:=.call 1 [b_] [] (.B fI amQ (.B (.bin .eql dN ab2) anT (.B (.bin .eql dN abP) ame (.B (.bin .eql dN acs) ala (.call 0 KA bL (.leaf 0 aee []))))))
def aKW:TC 94 [oP,.S (.var 9)] lW aKU [] aKV (fl++fZ++[.R 0]):=tc
def aKX:gU 94:=gY Tryz.func94 aS
def aKJ:G bJ:=[⟨97,none,(.dD [(.agg [C,.str,C,.R 2]),(.agg [C,C])])⟩]
def aKK:Tree:=.B iC (.call 0 KA [] (.B amK (.leaf 0 adH []) (.leaf 0 [.agg aks,dY,fJ] []))) Kh
def aKL:TC 66 [oP,.S (.var 9)] lW aKJ [] aKK (fl++fZ++[.R 0]):=tc
def aKM:gU 66:=gY Tryz.func66 aS
def aJI:G bJ:=[Ug,avY]
def aJJ:Tree:=.call 0 [CO] bL (.call 1 QH [] (.B h_ (.B Qw ajY MK) MK))
def aJK:TC 21 [oP,.S (.var 9)] lW aJI [] aJJ (fl++fZ++[.R 0]):=tc
def aJL:gU 21:=gY Tryz.func21 aS
def aJw:G bJ:=[]
def aJx:Tree:=.B iC (.B Wi (.B Wp (.leaf 0 [dS,WQ,dz] []) (.leaf 0 [dS,dY,fJ] [])) (.leaf 0 abV [])) Qp
def auk:TC 65 [oP] lW aJw [] aJx (fl++fZ):=tc
def aul:gU 65:=gY Tryz.func65 aS
def Xr:gu:=⟨ZP,fun ds=>match ds with|[.R rows,.str s,.int .i64 k]=>aW O (.R rows) (.R 0)/\aW O (.str s) .str/\k=0|_=>False,
 fun ds j out=>match ds with
  |[.R rows,.str s,.int .i64 _]=>match j with
   |0=>out=[]/\(bg rows).contains s=true
   |_=>out=[]/\(bg rows).contains s=false
  |_=>False⟩
def aCZ (P:bH T):Xr.aA T 37:=by
 intro ds w
 match ds,w with
 |[.R rows,.str s,.int .i64 _],⟨y,W,rfl⟩=>
 obtain⟨F,A,hlen,E⟩:=bW y;cases A;refine vL (c:=Xr) mI mixed (lT P) ZQ.one ZQ.bX (fun j o N=>?_) rfl rfl ZQ.self ZQ.jC (mK (cs:=[]) rfl all_nil) (mP (ls:=[]) rfl all_nil)
  (lQ:=fun i m ds=>∃k:Nat,ds=[.R rows,.str s,.int .i64 k]/\m=rows.length-k/\k<=rows.length/\(bg rows).contains s=(bg (rows.drop k)).contains s) (m:=rows.length) ⟨0,rfl,rfl,gK _,rfl⟩ ?_
 ·exact Gx
 ·intro i st m b' l a'
  match i,l with
  |0,l=>
   obtain rfl:=bI l;obtain⟨k,rfl,rfl,c',hc⟩:=a';refine⟨ay y (ay W (ay aO aX)),?_⟩;refine iR rfl (fun h=>?_) (fun h=>?_)
   ·replace h:k<rows.length:=by simpa using h
    refine lM (mg rfl bS) ?_;obtain⟨row,q,u⟩:=kZ E h;obtain⟨t,rfl,d'⟩:=PO u;refine iR (mJ (gI rfl rfl q rfl) rfl rfl) (fun hb=>?_) (fun hb=>?_)
    ·refine fV rfl ⟨[],rfl,.inr ⟨0,_,_,_,rfl,rfl,aX,rfl,?_⟩⟩
     rw[hc,ny q];have:t=s:=Af;simp[bg,wd,jh,tD,this]
    ·refine fV rfl ⟨[_,_,_],rfl,.inl ⟨_,wO,?_,k+1,?_,rfl,?_,?_⟩⟩
     ·omega
     ·exact yw
     ·omega
     ·rw[hc,ny q]
      have:¬s=t:=fun e=>by subst e;simp at hb
      simp[bg,wd,jh,tD,this]
   ·exact R_
  |i+1,l=>simp[atW] at l
def ao8 (u:bH T):Xt.aA T:=by
 intro V pre ⟨e,Z⟩
 match V,e with
 |[.one d0,.one d1],⟨h,l⟩=>
 obtain⟨rows,rfl,_,_⟩:=bW h;obtain⟨s,rfl,_⟩:=l.str;obtain rfl:=Z;obtain⟨fn,hf,w⟩:=aHG;refine xk (c:=Xt) mI mixed (lT u) hf w (mK (cs:=[]) rfl all_nil) (mP (ls:=[Xr]) rfl (all_cons (aCZ u) all_nil)) (pre:=[]) aHF (ay h (ay l aX)) rfl rfl rfl ?_;refine uV rfl ⟨h,l,rfl⟩ (fun j x S' ks out q hR y=>?_)
 match j,q,hR with
 |0,_,⟨N,hc⟩=>
  subst N;exact p9 (fV rfl ⟨_,[],rfl,⟨(show DA.one (.bool true)=.one (.bool ((bg rows).contains s)) by rw[hc]),rfl⟩,nZ zu,aX⟩)
 |1,_,⟨N,hc⟩=>
  subst N;exact Eb (p9 (fV rfl ⟨_,[],rfl,⟨(show DA.one (.bool false)=.one (.bool ((bg rows).contains s)) by rw[hc]),rfl⟩,nZ zu,aX⟩))
 |j+2,q,_=>simp[lam,Xr,ZP] at q
def H_ (_:bH T):Jc.aA T:=by
 intro V pre ⟨e,Z⟩
 match V,e with
 |[.one d0],h=>
 obtain⟨t,rfl,j⟩:=h.str;obtain rfl:=Z;refine⟨_,[],⟨rfl,rfl⟩,nZ zu,aX,om.H6 fun W us _ l=>?_⟩;obtain⟨u,_,rfl,⟨rfl,_⟩,hn⟩:=l;obtain rfl:_=[]:=hn;refine(aMh (bC t) (fF (Xo j) jK) W).mono ?_;exact apR
def auY (_:bH T):ae4.aA T:=by
 intro V pre ⟨j,Z⟩
 match V,j with
 |[.one d0],l=>
 obtain⟨t,rfl,q⟩:=l.str;obtain rfl:=Z;have key:∀W us,vW (dM W) [.one (.str t)] us->Calls Tryz.prog 119 (List.toArray us) W fun e w'=>e=.returned (og (t.map UInt8.ofNat))/\W=w':=fun W us h=>by
  obtain⟨u,_,rfl,⟨rfl,_⟩,hn⟩:=h;obtain rfl:_=[]:=hn;have:=aMM (bC t) (fF (Xo q) jK) W
  rwa[aeP] at this
 cases hv:DV t with
 |some v=>
  refine⟨.dD [.one (.int .i64 v),.one (.bool true)],[],⟨.inl ⟨v,hv,rfl⟩,rfl⟩,Zh,aX,om.H6 fun W us _ h=>(key W us h).mono ?_⟩;rintro e w' ⟨rfl,rfl⟩;refine⟨_,rfl,iN _ _,fun fz=>?_⟩;have hv:vN (t.map UInt8.ofNat)=some v:=hv;rw[og,hv];exact X_
 |none=>
  refine⟨.dD [.one (.int .i64 0),.one (.bool false)],[],⟨.inr ⟨hv,rfl⟩,rfl⟩,Zh,aX,om.H6 fun W us _ h=>(key W us h).mono ?_⟩;rintro e w' ⟨rfl,rfl⟩;refine⟨_,rfl,iN _ _,fun fz=>?_⟩;have hv:vN (t.map UInt8.ofNat)=none:=hv;rw[og,hv];exact X_
def aIW.qE (h:P:=by(try simp only[tD,rD,iD,sZ,↓tO,↓uU])<;>(first|(rw[DA.one.injEq,D.bool.injEq,AP];simp[xM,BH,BJ,wG,DF,Dx, *];done)|(simp[tD,xM,BH,BJ,wG,DF,Dx, *];done)|(simp_all[tD,xM,BH,BJ,wG,DF,Dx];done))):P:=h
open aIW in
def Ld (l:bH T):(Jb).aA T:=by
 intro V pre ⟨e,Z⟩
 match V,e with
 |[.one d0],h=>
 obtain⟨E,rfl,j⟩:=h.str;have A:fG T _ _:=an;obtain rfl:=Z;refine sV l aI0 A.1 all_nil A.2 bn aIZ (ay (mo j) aX) ?_;exact au aj (fun q=>aU) (fun q=>au aj (fun u=>aU) (fun u=>au aj (fun w=>aU) (fun w=>au aj (fun y=>aU) (fun y=>aU))))
def aKc.qE (h:P:=by(try simp only[tD,rD,iD,sZ,↓tO,↓uU])<;>(first|(rw[DA.one.injEq,D.bool.injEq,AP];simp[BR,Du,DC,Dz,Dv,Dy,DJ,Dw,vI,xI,G8,GL,GQ,GZ,Hr,G_,GY,Ho,wG,GV,G5,GK,Hq,G9,G7,He,GN,Hl,Hf,GX,G6,GU,Hg,OX,OV,OW,DF,Dx,BH,BJ, *];done)|(simp[BR,Du,DC,Dz,Dv,Dy,DJ,Dw,vI,xI,G8,GL,GQ,GZ,Hr,G_,GY,Ho,wG,GV,G5,GK,Hq,G9,G7,He,GN,Hl,Hf,GX,G6,GU,Hg,OX,OV,OW,DF,Dx,BH,BJ, *];done))):P:=h
open aKc in
def aMi (h:bH T):(ae1).aA T:=by
 intro V pre ⟨e,Z⟩
 match V,e with
 |[.one d0],j=>
 obtain⟨M',rfl,l⟩:=j.str;have A:fG T _ _:=(ac (H_ h) Rf an);obtain rfl:=Z;refine sV h aKg A.1 all_nil A.2 bn aKf (ay (mo l) aX) ?_;refine au aj (fun v'=>aU) (fun v'=>?_);refine au aj (fun w'=>aU) (fun w'=>?_);refine au aj (fun x'=>aU) (fun x'=>?_);refine au aj (fun y'=>aU) (fun y'=>?_);refine au aj (fun z'=>aU) (fun z'=>?_);refine au aj (fun A'=>aU) (fun A'=>?_);refine au aj (fun D'=>aU) (fun D'=>?_);refine au aj (fun E'=>aU) (fun E'=>?_);refine au aj (fun F'=>aU) (fun F'=>?_);refine au aj (fun L'=>aU) (fun L'=>?_);refine au aj (fun q=>aU) (fun q=>?_);refine au aj (fun u=>aU) (fun u=>?_);refine au aj (fun w=>aU) (fun w=>?_);refine au aj (fun y=>aU) (fun y=>?_);refine au aj (fun E=>aU) (fun E=>?_);refine au aj (fun F=>aU) (fun F=>?_);refine au aj (fun P=>aU) (fun P=>?_);refine au aj (fun W=>aU) (fun W=>?_);refine au aj (fun a'=>aU) (fun a'=>?_);refine au aj (fun b'=>aU) (fun b'=>?_);refine au aj (fun c'=>aU) (fun c'=>?_);refine au aj (fun d'=>aU) (fun d'=>?_);refine au aj (fun e'=>aU) (fun e'=>?_);refine au aj (fun f'=>aU) (fun f'=>?_);refine au aj (fun g'=>aU) (fun g'=>?_);refine au aj (fun h'=>aU) (fun h'=>?_);refine au aj (fun i'=>aU) (fun i'=>?_);refine au aj (fun j'=>aU) (fun j'=>?_);refine au aj (fun k'=>aU) (fun k'=>?_);refine au aj (fun l'=>aU) (fun l'=>?_);refine au aj (fun m'=>aU) (fun m'=>?_);refine au aj (fun n'=>aU) (fun n'=>?_);refine au aj (fun o'=>aU) (fun o'=>?_);refine au aj (fun p'=>aU) (fun p'=>?_);refine au aj (fun q'=>aU) (fun q'=>?_);refine au aj (fun r'=>aU) (fun r'=>?_);refine au aj (fun s'=>aU) (fun s'=>?_);refine au aj (fun t'=>aU) (fun t'=>?_);refine au aj (fun u'=>aU) (fun u'=>?_);refine eT M Ju fun P'=>?_;exact aU
def aKr.qE (h:P:=by first|(simp only[n_,eD];exact QE)|exact QE):P:=h
open aKr in
def Lv (h:bH T):(XH).aA T:=by
 intro V pre ⟨e,Z⟩
 match V,e with
 |[.agg E],j=>
 obtain⟨F,P,c0,W,rfl,l,q,u⟩:=jT j;have A:fG T _ _:=(ac (aMi h) aBM an);refine mY (la:=kR) h aKv A.1 all_nil A.2 bn aKu (kD l q u aX) Z (fun w=>?_);subst w;refine au aj (fun y=>dJ) (fun y=>?_);refine eT M aEz fun a'=>?_;exact RX
def aJ7.qE (h:P:=by first|(simp only[Ap,eD];exact QE)|exact QE):P:=h
open aJ7 in
def ahQ (h:bH T):(ae0).aA T:=by
 intro V pre ⟨e,Z⟩
 match V,e with
 |[.agg E],j=>
 obtain⟨F,P,c0,W,rfl,l,q,u⟩:=jT j;have A:fG T _ _:=(ac (H_ h) Rf an);refine mY (la:=kR) h aKb A.1 all_nil A.2 bn aKa (kD l q u aX) Z (fun w=>?_);subst w;refine au aj (fun y=>dJ) (fun y=>?_);refine eT M Ju fun a'=>?_;exact RX
def aKm.qE (h:P:=by first|(simp only[O7,Bt];exact QE)|exact QE):P:=h
open aKm in
def auW (e:bH T):(ae2).aA T:=by
 intro V pre ⟨h,Z⟩
 match V,h with
 |[.agg W,.one d1],⟨j,l⟩=>
 obtain⟨a',b',c0,c',rfl,q,u,w⟩:=jT j;obtain⟨d',rfl,y,E⟩:=bW l;have A:fG T _ _:=(ac (Lv e) KG (ac (ao8 e) aos an));refine mY (la:=kR) e aKq A.1 all_nil A.2 bn aKp (kD q u w (ay (eP y E) aX)) Z (fun F=>?_);subst F;refine dH M Dp fun y0 hy0 P=>?_;refine eT M ar8 fun P=>?_;exact RX
def aKT.qE (h:P:=by first|(simp only[Uy,ex,jm,ty,OX,OV,OW];exact QE)|exact QE):P:=h
open aKT in
def aMx (e:bH T):(XJ).aA T:=by
 intro V pre ⟨h,Z⟩
 match V,h with
 |[.agg d',.one d1],⟨j,l⟩=>
 obtain⟨e',f',c0,g',rfl,q,u,w⟩:=jT j;obtain⟨h',rfl,y,E⟩:=bW l;have A:fG T _ _:=(ac (auW e) aox (ac (auY e) aoz an));refine mY (la:=kR) e aKX A.1 all_nil A.2 bn aKW (kD q u w (ay (eP y E) aX)) Z (fun P=>?_);subst P;refine kX M ase fun i' hR W=>?_;rcases nz hR with⟨n0,F,rfl⟩|⟨F,rfl⟩
 ·exact Oh
 ·refine jo M ?_
  refine au aj (fun a'=>dQ) (fun a'=>?_);refine au aj (fun b'=>dQ) (fun b'=>?_);refine au aj (fun c'=>dQ) (fun c'=>?_);refine dH M asb fun j' hy4 W=>?_;replace hy4:=nz hy4;exact dQ
def aKI.qE (h:P:=by exact QE):P:=h
open aKI in
def aMs (W:bH T) (n:Nat) (e:(XG n).aA T):(Bq n).aA T:=by
 intro V pre ⟨l,Z⟩
 match V,l with
 |[.agg d',.one d1],⟨q,u,h,hex⟩=>
 obtain⟨e',f',c0,g',rfl,w,y,E⟩:=jT q;obtain⟨a',rfl,F,P⟩:=bW u;have A:fG T _ _:=(ac e aBL an);refine mY (la:=asY) W aKM A.1 all_nil A.2 bn aKL (kD w y E (ay (eP F P) aX)) Z (fun b'=>?_);subst b';replace h:(a').length+n<=1000000:=h rfl;replace hex:=hex rfl;refine fO M ?_;refine kX M (aEy ·) fun h' hR c'=>?_
 rcases JG hR with⟨y0,hy0,rfl⟩|⟨i',hy0,j,rfl⟩
 ·obtain⟨j',k',l',m',rfl,n',o'⟩:=gQ (tH c').1
  refine jo M ?_;exact dQ
 ·refine fO (den_nz M j) ?_
  exact jf M (bG.err qE j rfl)
def aJH.qE (h:P:=by first|(simp only[ku,KT];exact QE)|exact QE):P:=h
open aJH in
def Ub (e:bH T):(aeZ).aA T:=by
 intro V pre ⟨h,Z⟩
 match V,h with
 |[.agg a',.one d1],⟨j,l⟩=>
 obtain⟨b',c',c0,d',rfl,q,u,w⟩:=jT j;obtain⟨e',rfl,y,E⟩:=bW l;have A:fG T _ _:=(ac (Lv e) KG (ac (ao8 e) aos an));refine mY (la:=kR) e aJL A.1 all_nil A.2 bn aJK (kD q u w (ay (eP y E) aX)) Z (fun F=>?_);subst F;refine dH M Dp fun y0 hy0 P=>?_;refine eT M ar8 fun P=>?_;exact au aj (fun W=>dJ) (fun W=>dQ)
def aJv.qE (h:P:=by first|(simp only[sU,eD,zl];exact QE)|exact QE):P:=h
open aJv in
def JL (u:bH T):(XD).aA T:=by
 intro V pre ⟨l,Z⟩
 match V,l with
 |[.agg F],w=>
 obtain⟨P,W,c0,y,rfl,e,h,j⟩:=jT w;have A:fG T _ _:=an;rcases Z with rfl|⟨f,hf,rfl⟩
 ·refine Jr u aul A.1 all_nil A.2 bn auk (kD e h j aX) ?_
  refine fO M ?_;exact au aj (fun E=>au aj (fun q=>have q:¬(c0).length<=6:=aC;jf M (bG.err (f:=(4,y)) qE af3 afR)) (fun q=>have q:(c0).length<=6:=aC;dQ)) (fun E=>jf M (bG.err (f:=(2,y)) qE af0 afR))
 ·refine Sk (fa:=f) u aul A.1 all_nil A.2 bn auk (kD e h j aX) ?_
  refine jo (uw M hf) ?_;exact jf M (bG.fail hf afR)
def aJN:G bJ:=[⟨94,some [C,C],(.agg [C,.str,C,.str,C,.str,C,.R 2,.R 4,.R 5])⟩,⟨95,some [C,C],(.agg [C,.str,C,.str,C,.str,C,.R 2,.R 4,.R 5])⟩]
def aJO:Tree:=.B iC (.B Qn (.call 0 KA bL VU) (.B (.bin .eql dx iP) amP (.B VQ VW (.B QA VW (.fT Kv (.B Wo VW (.fT mH (.fT mE (.call 1 [CO,QX,IX,eu] bL VU))))))))) ac9
def auq:TC 64 [oP,.S (.var 9)] lW aJN [] aJO (fl++fZ++[.R 0]):=tc
def aur:gU 64:=gY Tryz.func64 aS
def aJM.qE (h:P:=by first|(simp only[wZ,Ta,ex,jm,ty,eD];exact QE)|exact QE):P:=h
open aJM in
def aL7 (u:bH T) (n:Nat) (e:(Rv n).aA T):(CZ (n+1)).aA T:=by
 intro V pre ⟨l,Z⟩
 match V,l with
 |[.agg k',.one d1],⟨w,y,h,hex⟩=>
 obtain⟨k0,t0,c0,o0,rfl,E,F,j⟩:=jT w;obtain⟨a',rfl,P,W⟩:=bW y;have A:fG T _ _:=(ac (aMx u) aBO (ac e aBN an));refine mY (la:=kR) u aur A.1 all_nil A.2 bn auq (kD E F j (ay (eP P W) aX)) Z (fun b'=>?_);subst b';replace h:(a').length+(n+1)<=1000000:=h rfl;replace hex:=hex rfl;refine fO M ?_;refine au aj (fun c'=>?_) (fun c'=>?_)
 ·refine dH M aEB fun y1 hy1 hk=>?_
  exact ars
 ·refine au aj (fun d'=>dQ) (fun d'=>?_)
  refine au aj (fun e'=>oG) (fun e'=>?_);refine au aj (fun f'=>oG) (fun f'=>?_);obtain⟨l',lB,rfl,i',g',j'⟩:=pJ j aC aC;obtain⟨m',n',o',p',rfl,q',r'⟩:=aT g';refine aR ?_;refine au aj (fun h'=>oG) (fun h'=>?_);refine aR ?_;refine aR ?_;refine dH M (fun k=>aEA k (Ad:=(by exact Nat.zero_lt_succ _)) (bF:=by exact⟨fun x q=>aw8 (fF (wz (r:=[.int .i64 k0,.str t0,.R (_::lB),.int .i64 o0]) (gF _ q)) hex),fun x q=>aw8 (fF (wz q) hex)⟩)) fun s' qm hk=>?_
  obtain⟨C0,t',u',v',w',x',y',z',A',D',rfl⟩:=nH hk;exact KX
def aus:G bJ:=[ah8]
def TN:eX:=⟨0,30,WI,[(.normal,acn,[C,C]),(.normal,amN,[C,C,.R 4])]⟩
def ahF:G iq:=[⟨WI,[C,C,.R 8,.R 0,C],.B Mx (.B iC (.fT yY (.call 0 [.agg Vu,b_] bL (.leaf 1 [mV,lS,cu,b_,.S (.snoc .d9 akP),zS] [(11,12)]))) zP) zP⟩,⟨⟨[(0,fU),(1,cu),(2,b_),(7,.gy 11 dB 10),(8,dz)],[(10,iy),(11,.seq 10 dB)],12⟩,[C,C,.R 8,.R 0,.R 4,C],.B WK (.B iC (.fT Bg (.call 0 [.agg WE,b_] bL (.fT (.bin .leq (.len (.snoc dB QM)) mG) (.leaf 1 [lS,mW,cu,b_,.S (.snoc dB QM),Cx] [(11,13)])))) adh) adh⟩]
def aJR:Tree:=.bX 0 Qx adV
def aJQ:ko 121 200 0 TN aus [] ahF:=.of aS
def aJS:TC 121 [.S (.var 5),.S (.var 6)] lW aus [TN] aJR (fl++[.R 8]++[.R 0]):=tc
def aJT:gU 121:=gY Tryz.func121 aS
def afh (n:Nat):gu:=⟨TN,fun ds=>match ds with|[e,h,q,u,w]=>mU [e,h]/\aJ O ds (sk ahF)/\w=.int .i64 0/\([e,h]=aM->∀x∈rD q,aI x<=n)/\([e,h]=aM->(rD u).length+n<=1000000)|_=>False,
 fun ds j out=>match ds with|[e,h,q,u,_]=>RL (bO (eO fun x=>wZ n x (bg (rD u))) ([]:G Rw) (rD q)) (fun l=>.one (.R l)) iQ [e,h] ([]:G Rw) [] (fun s=>[.R s]) j out|_=>False⟩
def aB7:(afh b).eZ ⟨sk ahF,true,0,4,[[],[]]⟩:=BL
def TN.qE (h:P:=by first|(simp only[w9,eO];exact QE)|exact QE):P:=h
open TN in
def aL8 (i':bH T) (n:Nat) (j:(CZ n).aA T):(afh n).Ok T Tryz.prog (fun x=>x∈dO (kU 121)) O fM:=by
 intro ds y
 match ds,y with
 |[u,w,E,h',l'],⟨Z,hk,F,hex,e⟩=>
 subst F;obtain⟨rows,rfl,lH,l⟩:=bW (rP 2 hk);obtain⟨loc,rfl,P,W⟩:=bW (rP 3 hk);have n':rows.length<=1000000:=lH;replace hex:[u,w]=aM->∀x∈rows,aI x<=n:=hex;replace e:[u,w]=aM->loc.length+n<=1000000:=e;have A:fG T _ _:=(ac j I9 an);refine Tf (c:=afh n) (s0:=([]:G Rw)) (step:=eO fun x=>wZ n x (bg loc)) i' (fun a k=>a.length<=k) (fun p q i=>[p,q,.R rows,.R loc,i]) (fun a p q i=>[p,q,.R rows,.R loc,.R a,i]) aJQ A hk Z l (fun k row hrow h a' hrun=>?_) fun k a0 row k' hrow h a' hrun=>?_
 ·replace hex:=hex hrun.jE
  replace e:=e hrun.jE;have mh:=hex _ (kg hrow);obtain⟨b',c',d',e',rfl,f',g'⟩:=aT h;refine lF M (yA ·) fu ?_ fun y1 hy1 hk=>?_
  exact EX;exact aqi
 ·replace hex:=hex hrun.jE
  replace e:=e hrun.jE;have mh:=hex _ (kg hrow);obtain⟨b',c',d',e',rfl,f',g'⟩:=aT h;refine lF M (yA ·) fu ?_ fun y1 hy1 hk=>?_
  exact EX;exact aq6
def aJP.qE (h:P:=by first|(simp only[w9];exact QE)|exact QE):P:=h
open aJP in
def aL9 (j:bH T) (n:Nat) (e:(CZ n).aA T):(XF n).aA T:=by
 intro V pre ⟨h,Z⟩
 match V,h with
 |[.one d0,.one d1],⟨l,q,bN,hex⟩=>
 obtain⟨w0,rfl,u,w⟩:=bW l;obtain⟨w1,rfl,y,E⟩:=bW q;have A:fG T _ _:=(ac e I9 an);have aD:=(lc (aL8 j n e) aB7 ln);refine mY (la:=kR) j aJT A.1 aD.1 A.2 aD.2 aJS (ay (eP u w) (ay (eP y E) aX)) Z (fun hq=>?_);exact afQ
def auy:G bJ:=[aaA,avQ]
def TT:eX:=⟨0,32,am1,[(.normal,⟨[(5,.aV)],[(10,iy)],12⟩,[C,C]),(.normal,⟨[(5,QD)],[(10,iy),(12,QW)],13⟩,[C,C,.R 0])]⟩
def ahJ:G iq:=[⟨am1,[C,C,.R 8,C],.B (.bin .lss dN qg) (.B iC (.fT (.bin .geq dN aH) (.call 1 [.agg ajV,aF] bL (.leaf 1 [dz,eu,.S (.snoc .d9 [dB]),cu,.S (.bin .add dN cO)] [(12,13)]))) zP) zP⟩,⟨⟨[(0,fU),(5,QD),(6,b_),(7,dS)],[(10,iy),(12,QW)],13⟩,[C,C,.R 0,.R 8,C],.B Km (.B iC (.fT yY (.call 1 [Qq,cu] bL (.fT (.bin .leq (.len (.snoc dx [fQ])) mG) (.leaf 1 [eu,dP,.S (.snoc dx [fQ]),b_,zS] [(12,14)])))) (.leaf 3 Vw [(12,12)])) (.leaf 3 Vw [(12,12)])⟩]
def aKy:Tree:=.call 0 [CO] bL (.bX 0 [dU,fI,bZ,aH] (.cons (.leaf 0 [aF,bT,dZ] []) (.cons (.leaf 0 [fD,bT,dZ] []) .nil)))
def aKx:ko 90 200 0 TT auy [] ahJ:=.of aS
def aKz:TC 90 [oP] lW auy [TT] aKy (fl++fZ):=tc
def aKA:gU 90:=gY Tryz.func90 aS
def afj:gu:=⟨TT,fun ds=>match ds with|[h,u,e,w]=>mU [h,u]/\aJ O ds (sk ahJ)/\w=.int .i64 0|_=>False,
 fun ds j out=>match ds with|[h,u,e,_]=>RL (bO (fun ps x=>aL (ku x ps) fun q=>.ok (ps++[q])) ([]:G (G Nat)) (rD e)) (fun l=>.one (.R (l.map bw))) iQ [h,u] ([]:G (G Nat)) [] (fun s=>[.R (s.map bw)]) j out|_=>False⟩
def aCb:(afj).eZ ⟨sk ahJ,true,0,3,[[],[]]⟩:=BL
def TT.qE (h:P:=by first|(simp only[eO];exact QE)|exact QE):P:=h
open TT in
def aMk (j:bH T):(afj).Ok T Tryz.prog (fun x=>x∈dO (kU 90)) O fM:=by
 intro ds l
 match ds,l with
 |[c',d',u,f'],⟨Z,hk,w⟩=>
 subst w;obtain⟨rows,rfl,lH,h⟩:=bW (rP 2 hk);have g':rows.length<=1000000:=lH;have A:fG T _ _:=(ac (JL j) CQ (ac (Ub j) Xi an));refine Tf (c:=afj) (s0:=([]:G (G Nat))) (step:=fun ps x=>aL (ku x ps) fun q=>.ok (ps++[q])) j (fun a k=>a.length<=k) (fun p q i=>[p,q,.R rows,i]) (fun a p q i=>[p,q,.R (a.map bw),.R rows,i]) aKx A hk Z h (fun k row hrow e y hrun=>?_) fun k a0 row e' hrow e y hrun=>?_
 ·obtain⟨E,F,P,W,rfl,a',b'⟩:=aT e
  refine lF M Y6 fu ?_ fun y1 hy1 hk=>?_;exact EX;replace hy1:=nz hy1;exact LN
 ·obtain⟨E,F,P,W,rfl,a',b'⟩:=aT e
  refine lF M Y6 fu ?_ fun y1 hy1 hk=>?_;exact EX;replace hy1:=nz hy1;exact Yr
def aKw.qE (h:P:=by(try simp only[tD,rD,iD,qW,uT,vR,kS,lY,↓tO,↓uU])<;>((first|rw[hy0]|rw[hy]);first|rfl|(first|exact hy1|exact hy))):P:=h
open aKw in
def auX (e:bH T):(ae3).aA T:=by
 intro V pre ⟨h,Z⟩
 match V,h with
 |[.agg W],j=>
 obtain⟨a',b',c0,c',rfl,l,q,u⟩:=jT j;have A:fG T _ _:=(ac (JL e) CQ (ac (Ub e) Xi an));have aD:=(lc (aMk e) aCb ln);refine mY (la:=kR) e aKA A.1 aD.1 A.2 aD.2 aKz (kD l q u aX) Z (fun w=>?_);subst w;refine dH M Y4 fun y0 hy0 E=>?_;have d':=jd E;obtain⟨F,P⟩:=zm hy0;refine Ec (la:=kR) M (fun k=>by exact⟨.inl rfl,k,rfl⟩) ?_ (fun hy1=>?_) fun y1 hy1=>?_
 exact qF
 ·replace hy1:=nz hy1
  exact dQ (y:=([]:G (G Nat)))
 ·replace hy1:=nz hy1
  exact dQ (y:=(y1:G (G Nat)))
end
end
end Go.Proofs.YtdjcfaaongngeaaGreatDoor

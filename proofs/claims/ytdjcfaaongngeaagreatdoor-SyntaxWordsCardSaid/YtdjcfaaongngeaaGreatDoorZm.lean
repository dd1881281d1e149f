/- A part of the proof: see the last text. -/
import Derived.Test.YtdjcfaaongngeaaGreatDoorZk
import Derived.Test.YtdjcfaaongngeaaGreatDoorZl
set_option linter.all false
set_option maxRecDepth 100000
set_option maxHeartbeats 0
namespace Go.Proofs.YtdjcfaaongngeaaGreatDoor
noncomputable section
variable {b g:Nat}{T:Nat->ah D}{a:Nat->ah Obj}{W:ak}{P:Prop}{t:Rw}{l:G Rw}{d:D}{q:G Nat}{k o:Int}{X:G (G Nat)}
section
open Go Go.RowKit
def asI:G bJ:=[]
def SN:eX:=⟨0,19,⟨[(0,(.S (.var 3))),(1,(.S (.var 4))),(7,(.S (.len (.var 3)))),(8,(.S (.var 5)))],[],10⟩,
 [(.ret,⟨[(4,(.S (.var 3)))],[],10⟩,[C]),
  (.normal,⟨[],[],10⟩,[])]⟩
def Zk:G iq:=[⟨⟨[(0,(.S (.var 3))),(1,(.S (.var 4))),(7,(.S (.len (.var 3)))),(8,(.S (.var 5)))],[],10⟩,[.R 0,.str,C],
 (.B (.bin .lss (.var 5) (.len (.var 3)))
  (.fact (.bin .geq (.var 5) (.int .i64 0)) (.bool true)
   (.B (.bin .eql (.var 4) (.cell (.var 3) (.var 5) 0))
   (.leaf 1 [(.S (.var 5))] [])
   (.leaf 0 [(.S (.var 3)),(.S (.var 4)),(.S (.bin .add (.var 5) (.int .i64 1)))] [])))
  (.leaf 2 [] []))⟩]
def aFA:Tree:=(.bX 0 [(.var 3),(.var 4),(.int .i64 0)] (.cons
 (.leaf 0 [(.S (.var 5))] []) (.cons
 (.leaf 0 [(.S (.int .i64 (-1)))] []) .nil)))
def Xz:bR:=lU 105 (.one C) (fun V=>match V with|[.one d0,.one d1]=>aW O d0 (.R 0)/\aW O d1 .str|_=>False)
 (fun V e=>match V with|[.one d0,.one d1]=>(0<=sZ e->tD d1∈bg (rD d0))/\(sZ e<0->¬tD d1∈bg (rD d0))|_=>False)
def XA:gu:=⟨SN,fun ds=>match ds with|[.R rows,.str s,.int .i64 k]=>aW O (.R rows) (.R 0)/\aW O (.str s) .str/\k=0|_=>False,
 fun ds j out=>match ds with
  |[.R rows,.str s,.int .i64 _]=>match j with
   |0=>∃k:Nat,out=[.int .i64 k]/\(bg rows).contains s=true
   |_=>out=[]/\(bg rows).contains s=false
  |_=>False⟩
def aFz:FJ SN.dw.J 3 Zk=true:=by kernel_rfl
def aFw:FI z_ Tryz.prog 200 (Td (iW 0 (kU 105))) 3 B3 O SN asI [] Zk Zk=true:=by kernel_rfl
def aFB:Tree.jC (DK z_ Tryz.prog 200 105 [.S (.var 3),.S (.var 4)] none) asI [SN] 3 aFA (B3.ts O [.R 0,.str])=true:=by kernel_rfl
def aFy:(qK (kU 105)).count 0<=1:=Cr aS
def aFv:iW 0 (kU 105)=some (.loop (Td (iW 0 (kU 105)))):=by kernel_rfl
def aFC:∃fn,Tryz.prog.funcs[105]?=some fn/\fn.body=some (kU 105):=by
 refine⟨_,Tryz.func105,?_⟩;unfold kU;rw[Tryz.func105]
 rfl
def aFx (F:bH T):XA.aA T 105:=by
 intro ds u
 match ds,u with
 |[.R rows,.str s,.int .i64 _],⟨w,P,rfl⟩=>
 obtain⟨E,y,hlen,A⟩:=bW w;cases y;refine vL (c:=XA) mI mixed (lT F) aFy aFv (fun j o N=>?_) rfl rfl aFz aFw (mK (cs:=[]) rfl all_nil) (mP (ls:=[]) rfl all_nil)
  (lQ:=fun i m ds=>∃k:Nat,ds=[.R rows,.str s,.int .i64 k]/\m=rows.length-k/\k<=rows.length/\(bg rows).contains s=(bg (rows.drop k)).contains s) (m:=rows.length) ⟨0,rfl,rfl,gK _,rfl⟩ ?_
 ·exact Gx
 ·intro i st m a' e W
  match i,e with
  |0,e=>
   obtain rfl:=bI e;obtain⟨k,rfl,rfl,b',hc⟩:=W;refine⟨ay w (ay P (ay aO aX)),?_⟩;refine iR rfl (fun h=>?_) (fun h=>?_)
   ·replace h:k<rows.length:=by simpa using h
    refine lM (mg rfl bS) ?_;obtain⟨row,l,q⟩:=kZ A h;obtain⟨t,rfl,c'⟩:=PO q;refine iR (mJ rfl (gI rfl rfl l rfl) rfl) (fun hb=>?_) (fun hb=>?_)
    ·refine fV rfl ⟨[_],rfl,.inr ⟨0,_,_,_,rfl,rfl,ay aO aX,?_⟩⟩
     refine⟨k,rfl,?_⟩;rw[hc,ny l];have:s=t:=Af;simp[bg,wd,jh,tD,this]
    ·refine fV rfl ⟨[_,_,_],rfl,.inl ⟨_,wO,?_,k+1,?_,rfl,?_,?_⟩⟩
     ·omega
     ·exact yw
     ·omega
     ·rw[hc,ny l]
      have:¬s=t:=Af;simp[bg,wd,jh,tD,this]
   ·exact R_
  |i+1,e=>simp[Zk] at e
def OO (w:bH T):Xz.aA T:=by
 intro V pre ⟨e,Z⟩
 match V,e with
 |[.one d0,.one d1],⟨l,q⟩=>
 obtain⟨rows,rfl,_,_⟩:=bW l;obtain⟨s,rfl,_⟩:=q.str;obtain rfl:=Z;obtain⟨fn,hf,y⟩:=aFC;refine xk (c:=Xz) mI mixed (lT w) hf y (mK (cs:=[]) rfl all_nil) (mP (ls:=[XA]) rfl (all_cons (aFx w) all_nil)) (pre:=[]) aFB (ay l (ay q aX)) rfl rfl rfl ?_;refine uV rfl ⟨l,q,rfl⟩ (fun j x S' ks out u hR A=>?_)
 match j,u,hR with
 |0,_,⟨k,N,hc⟩=>
  subst N;refine p9 (fV rfl ⟨_,[],rfl,⟨?_,rfl⟩,nZ aO,aX⟩);exact⟨fun _=>(show s∈bg rows by simpa using hc),fun h=>absurd h (show¬((k:Int)<0) by omega)⟩
 |1,_,⟨N,hc⟩=>
  subst N;refine Eb (p9 (fV rfl ⟨_,[],rfl,⟨?_,rfl⟩,nZ aO,aX⟩));exact⟨fun h=>absurd h (show¬((0:Int)<=-1) by decide),fun _ h=>by
   have h:s∈bg rows:=h;have:(bg rows).contains s=true:=rM;rw[hc] at this;cases this⟩
 |j+2,u,_=>simp[lam,XA,SN] at u
def aeP (l:G Nat):bytes (bC l)=l.map UInt8.ofNat:=by
 unfold bytes bC;simp
def aeU:bR:=lU 75 (.one .bool) (fun V=>match V with|[.one d0]=>aW O d0 .str|_=>False)
 (fun V e=>match V with|[.one d0]=>e=.one (.bool (JB (tD d0)))|_=>False)
def Xo (h:q.length<=gB):(bC q).size<=1000000:=by rw[yt];exact h
def Zl (_:bH T):aeU.aA T:=by
 intro V pre ⟨e,Z⟩
 match V,e with
 |[.one d0],h=>
 obtain⟨t,rfl,j⟩:=h.str;obtain rfl:=Z;refine⟨_,[],⟨rfl,rfl⟩,nZ zu,aX,om.H6 fun W us _ l=>?_⟩;obtain⟨u,_,rfl,⟨rfl,_⟩,hn⟩:=l;obtain rfl:_=[]:=hn;refine(aFK (bC t) (fF (Xo j) jK) W).mono ?_;exact apR
def awC (L:G (G Nat)):bg (rD (JV L))=L:=by
 show(L.map fun l=>[D.str l]).map wd=L;rw[Iq];exact List.map_id' L
def tO:bg (rD tS)=BR:=awC _
def uU:bg (rD tT)=xM:=awC _
def aFJ (j:bH T) (h:Eu T W):ajj W:=by
 obtain⟨l,q,w⟩:=j.err;obtain⟨arr,ty,fr,u,y,A,e⟩:=h _ _ q;have e:u=l:=e;subst e;refine⟨u,?_,w⟩;rw[gX W _ _ _ _ _ y];exact A
def aeY:bR:=lU 109 (.dD [.one C,.one .bool]) (fun V=>match V with|[.one d0]=>aW O d0 .str|_=>False)
 (fun V e=>match V with|[.one d0]=>(∃v,DV (tD d0)=some v/\e=.dD [.one (.int .i64 v),.one (.bool true)])\/(DV (tD d0)=none/\e=.dD [.one (.int .i64 0),.one (.bool false)])|_=>False)
def ae4:bR:=lU 119 (.dD [.one C,.one .bool]) (fun V=>match V with|[.one d0]=>aW O d0 .str|_=>False)
 (fun V e=>match V with|[.one d0]=>(∃v,DV (tD d0)=some v/\e=.dD [.one (.int .i64 v),.one (.bool true)])\/(DV (tD d0)=none/\e=.dD [.one (.int .i64 0),.one (.bool false)])|_=>False)
def Zh {b:aK}:iw O (.dD [.one C,.one .bool]) (.dD [.one (.int .i64 k),.one (.bool b)]):=asC (SH (nZ aO) (SH (nZ zu) agE))
def X_ {b:aK}:uY a (.dD [.one (.int .i64 k),.one (.bool b)]) (.tuple #[.int .i64 k,.bool b]):=⟨[_,_],rfl,_,_,rfl,rfl,_,_,rfl,rfl,rfl⟩
def ahg (y:bH T):aeY.aA T:=by
 intro V pre ⟨l,Z⟩
 match V,l with
 |[.one d0],w=>
 obtain⟨t,rfl,A⟩:=w.str;obtain rfl:=Z;have key:∀W us,Eu T W->vW (dM W) [.one (.str t)] us->Calls Tryz.prog 109 (List.toArray us) W fun e w'=>e=.returned (og (t.map UInt8.ofNat))/\Below W.heap.size W w':=fun W us h j=>by
  obtain⟨u,_,rfl,⟨rfl,_⟩,hn⟩:=j;obtain rfl:_=[]:=hn;have:=aHd (bC t) (fF (Xo A) jK) W (aFJ y h)
  rwa[aeP] at this
 cases hv:DV t with
 |some v=>
  refine⟨.dD [.one (.int .i64 v),.one (.bool true)],[],⟨.inl ⟨v,hv,rfl⟩,rfl⟩,Zh,aX,om.H6 fun W us h j=>(key W us h j).mono ?_⟩;rintro e w' ⟨rfl,q⟩;refine⟨_,rfl,q,fun fz=>?_⟩;have hv:vN (t.map UInt8.ofNat)=some v:=hv;rw[og,hv];exact X_
 |none=>
  refine⟨.dD [.one (.int .i64 0),.one (.bool false)],[],⟨.inr ⟨hv,rfl⟩,rfl⟩,Zh,aX,om.H6 fun W us h j=>(key W us h j).mono ?_⟩;rintro e w' ⟨rfl,q⟩;refine⟨_,rfl,q,fun fz=>?_⟩;have hv:vN (t.map UInt8.ofNat)=none:=hv;rw[og,hv];exact X_
def aeV:bR:=lU 47 (.one .bool) (fun V=>match V with|[.one d0]=>aW O d0 .str|_=>False)
 (fun V e=>match V with|[.one d0]=>e=.one (.bool (JB (tD d0)&&!BR.contains (tD d0)))|_=>False)
def XC:bR:=mX 30 (.one .str) (fun V pre=>match V with|[.agg e]=>aJ O e eB|_=>False)
 (fun V pre h post=>match V with|[.agg e]=>bG (n_ e) (fun s=>.one (.str s)) iQ pre h post|_=>False)
def aeT:bR:=mX 81 (.one .str) (fun V pre=>match V with|[.agg e]=>aJ O e eB|_=>False)
 (fun V pre h post=>match V with|[.agg e]=>bG (Ap e) (fun s=>.one (.str s)) iQ pre h post|_=>False)
def aeS:bR:=mX 77 (.one (.R 1)) (fun V pre=>match V with|[.agg e]=>aJ O e eB|_=>False)
 (fun V pre h post=>match V with|[.agg e]=>bG (sU e) (fun l=>.one (.R l)) (aon) pre h post|_=>False)
def aeR:bR:=mX 78 (.one .str) (fun V pre=>match V with|[.agg e,.one d1]=>aJ O e eB/\aW O d1 (.R 0)|_=>False)
 (fun V pre h post=>match V with|[.agg e,.one d1]=>bG (ku e (bg (rD d1))) (fun s=>.one (.str s)) iQ pre h post|_=>False)
def aeX:bR:=mX 80 (.dD [.agg eB,.agg eB]) (fun V pre=>match V with|[.agg e]=>aJ O e eB|_=>False)
 (fun V pre h post=>match V with|[.agg e]=>bG (mQ e) (fun p=>.dD [.agg p.1,.agg p.2]) iQ pre h post|_=>False)
def XT:bR:=mX 84 (.agg kEx) (fun V pre=>match V with|[.agg e,.one d1]=>aJ O e eB/\aW O d1 (.R 0)|_=>False)
 (fun V pre h post=>match V with|[.agg e,.one d1]=>bG (Uy e (bg (rD d1))) (fun t=>.agg t) iQ pre h post|_=>False)
def Xy (n:Nat):bR:=lU 107 (.dD [.agg fC,.agg fl]) (fun V=>match V with|[.agg e,.one d1]=>aJ O e eB/\aW O d1 (.R 0)/\(rD d1).length+n<=1000000/\aI e<=n|_=>False)
 (fun V h=>match V with|[.agg e,.one d1]=>TR (iJ n e (bg (rD d1))) h|_=>False)
def yu (n:Nat):bR:=mX 79 (.agg fC) (fun V pre=>match V with|[.agg e,.one d1]=>aJ O e eB/\aW O d1 (.R 0)/\(pre=aM->(rD d1).length+n<=1000000)/\(pre=aM->aI e<=n)|_=>False)
 (fun V pre h post=>match V with|[.agg e,.one d1]=>bG (iJ n e (bg (rD d1))) (fun t=>.agg t) iQ pre h post|_=>False)
def Xx (n:Nat):bR:=mX 113 (.one (.R 4)) (fun V pre=>match V with|[.one d0,.one d1]=>aW O d0 (.R 1)/\aW O d1 (.R 0)/\(pre=aM->(rD d1).length+n<=1000000)/\(pre=aM->∀x∈rD d0,aI x<=n)|_=>False)
 (fun V pre e post=>match V with|[.one d0,.one d1]=>bG (w9 (wZ n) (rD d0) (bg (rD d1))) (fun l=>.one (.R l)) iQ pre e post|_=>False)
def Bp (n:Nat):bR:=mX 53 (.agg kEx) (fun V pre=>match V with|[.agg e,.one d1]=>aJ O e eB/\aW O d1 (.R 0)/\(pre=aM->(rD d1).length+n<=1000000)/\(pre=aM->aI e<=n)|_=>False)
 (fun V pre h post=>match V with|[.agg e,.one d1]=>bG (wZ n e (bg (rD d1))) (fun t=>.agg t) iQ pre h post|_=>False)
def Rs (n:Nat):bR:=mX 85 (.agg kEx) (fun V pre=>match V with|[.agg e,.one d1]=>aJ O e eB/\aW O d1 (.R 0)/\pre=aM/\(pre=aM->(rD d1).length+n<1000000)/\(pre=aM->aI e<=n+1)|_=>False)
 (fun V pre h post=>match V with|[.agg e,.one d1]=>bG (Ta (wZ n) (oZ n) (iJ n) e (bg (rD d1))) (fun t=>.agg t) iQ pre h post|_=>False)
def E_ (n:Nat):bR:=mX 33 (.agg tq) (fun V pre=>match V with|[.agg e]=>aJ O e eB/\(pre=aM->aI e<=n)|_=>False)
 (fun V pre h post=>match V with|[.agg e]=>bG (oZ n e) (fun t=>.agg t) iQ pre h post|_=>False)
def RB (n:Nat):bR:=mX 50 (.agg tq) (fun V pre=>match V with|[.one d0,.one d1]=>aW O d0 C/\aW O d1 (.R 1)/\((iD d0=1/\(rD d1).length=3)\/(iD d0=2/\(rD d1).length=4))/\(pre=aM->∀x∈rD d1,aI x<=n)|_=>False)
 (fun V pre e post=>match V with|[.one d0,.one d1]=>bG (Gv (iJ n) (iD d0) (rD d1)) (fun t=>.agg t) iQ pre e post|_=>False)
def KJ (n:Nat):bR:=mX 82 (.dD [.one (.R 0),.one (.R 2)]) (fun V pre=>match V with|[.agg e]=>aJ O e eB/\(pre=aM->aI e<=n)|_=>False)
 (fun V pre h post=>match V with|[.agg e]=>bG (yN (iJ n) e []) (fun p=>.dD [.one (.R (p.1.map bw)),.one (.R p.2)]) iQ pre h post|_=>False)
def Rt (n:Nat):bR:=mX 51 (.agg tq) (fun V pre=>match V with|[.one d0]=>aW O d0 (.R 1)/\(rD d0).length=4/\(pre=aM->∀x∈rD d0,aI x<=n)|_=>False)
 (fun V pre e post=>match V with|[.one d0]=>bG (Hw (wZ n) (iJ n) (rD d0)) (fun t=>.agg t) iQ pre e post|_=>False)
def Ry (n:Nat):bR:=mX 52 (.agg tq) (fun V pre=>match V with|[.one d0]=>aW O d0 (.R 1)/\(rD d0).length=3/\(pre=aM->∀x∈rD d0,aI x<=n)|_=>False)
 (fun V pre e post=>match V with|[.one d0]=>bG (Gw (iJ n) (rD d0)) (fun t=>.agg t) iQ pre e post|_=>False)
def KI:bR:=lU 83 (.agg fC) (fun V=>match V with|[.one d0,.one d1]=>aW O d0 (.R 2)/\aW O d1 (.R 2)|_=>False)
 (fun V e=>match V with|[.one d0,.one d1]=>e=.agg (yL (rD d0) (rD d1))|_=>False)
def Rz:bR:=lU 153 (.one .bool) (fun V=>match V with|[.agg e]=>aJ O e eB|_=>False)
 (fun V h=>match V with|[.agg e]=>h=.one (.bool (yI e))|_=>False)
def RA:bR:=lU 139 (.dD [.agg fC,.agg fl]) (fun V=>match V with|[.agg e,.one d1]=>aJ O e eB/\aW O d1 (.R 0)|_=>False)
 (fun V h=>match V with|[.agg e,.one d1]=>TR (zF e (bg (rD d1))) h|_=>False)
def XQ (n:Nat):bR:=lU 140 (.dD [.agg fC,.agg fl]) (fun V=>match V with|[.agg e,.one d1]=>aJ O e eB/\aW O d1 (.R 0)/\(rD d1).length+n<1000000/\aI e<=n+1|_=>False)
 (fun V h=>match V with|[.agg e,.one d1]=>TR (Li (ji n) e (bg (rD d1))) h|_=>False)
def Jd (n:Nat):bR:=lU 154 (.dD [.agg fC,.agg fl]) (fun V=>match V with|[.agg e,.one d1]=>aJ O e eB/\aW O d1 (.R 0)/\(rD d1).length+n<1000000/\aI e<=n+1|_=>False)
 (fun V h=>match V with|[.agg e,.one d1]=>TR (NU (ji n) e ((nc e).drop 1) (bg (rD d1))) h|_=>False)
def C8 (n:Nat):bR:=lU 128 (.dD [.agg fC,.agg fl]) (fun V=>match V with|[.agg e,.one d1]=>aJ O e eB/\aW O d1 (.R 0)/\(rD d1).length+n<=1000000/\aI e<=n|_=>False)
 (fun V h=>match V with|[.agg e,.one d1]=>TR (ji n e (bg (rD d1))) h|_=>False)
def Gs (n:Nat):bR:=lU 116 (.one C) (fun V=>match V with|[.agg e]=>aJ O e fC/\aI e<=n|_=>False)
 (fun V h=>match V with|[.agg e]=>h=.one (.int .i64 (rU n e))|_=>False)
def Gj (n:Nat):bR:=lU 117 (.one C) (fun V=>match V with|[.agg e]=>aJ O e fC/\aI e<=n|_=>False)
 (fun V h=>match V with|[.agg e]=>h=.one (.int .i64 (oQ n e))|_=>False)
def CX (n:Nat):bR:=lU 146 (.one .bool) (fun V=>match V with|[.agg e,.one d1]=>aJ O e fC/\aW O d1 C/\aI e<=n|_=>False)
 (fun V h=>match V with|[.agg e,.one d1]=>h=.one (.bool (jy n e (iD d1)))|_=>False)
def aeW (n:Nat):bR:=lU 162 (.one .bool) (fun V=>match V with|[.agg e]=>aJ O e fC/\aI e<=n|_=>False)
 (fun V h=>match V with|[.agg e]=>h=.one (.bool (mZ n e))|_=>False)
def Ru (n:Nat):bR:=lU 145 (.one .bool) (fun V=>match V with|[.agg e]=>aJ O e fC/\aI e<=n+1|_=>False)
 (fun V h=>match V with|[.agg e]=>h=.one (.bool ((tk e).all (mZ n)))|_=>False)
def aoV (n:Nat):bR:=lU 132 (.one .bool) (fun V=>match V with|[.agg e]=>aJ O e fC/\aI e<=n+1|_=>False)
 (fun V h=>match V with|[.agg e]=>h=.one (.bool (qo n e))|_=>False)
def RD (n:Nat):bR:=lU 118 (.one .bool) (fun V=>match V with|[.agg e]=>aJ O e fC/\aI e<=n|_=>False)
 (fun V h=>match V with|[.agg e]=>h=.one (.bool (gT n e))|_=>False)
def Je:bR:=lU 86 (.one C) (fun V=>match V with|[.agg e]=>aJ O e fC|_=>False)
 (fun V h=>match V with|[.agg e]=>h=.one (.int .i64 (jM e))|_=>False)
def Jc:bR:=lU 89 (.one .bool) (fun V=>match V with|[.one d0]=>aW O d0 .str|_=>False)
 (fun V e=>match V with|[.one d0]=>e=.one (.bool (JB (tD d0)))|_=>False)
def Xt:bR:=lU 37 (.one .bool) (fun V=>match V with|[.one d0,.one d1]=>aW O d0 (.R 0)/\aW O d1 .str|_=>False)
 (fun V e=>match V with|[.one d0,.one d1]=>e=.one (.bool ((bg (rD d0)).contains (tD d1)))|_=>False)
def ae1:bR:=lU 59 (.one .bool) (fun V=>match V with|[.one d0]=>aW O d0 .str|_=>False)
 (fun V e=>match V with|[.one d0]=>e=.one (.bool (JB (tD d0)&&!BR.contains (tD d0)))|_=>False)
def Bq (n:Nat):bR:=mX 66 (.agg fC) (fun V pre=>match V with|[.agg e,.one d1]=>aJ O e fZ/\aW O d1 (.R 0)/\(pre=aM->(rD d1).length+n<=1000000)/\(pre=aM->aI e<=n)|_=>False)
 (fun V pre h post=>match V with|[.agg e,.one d1]=>bG (iJ n e (bg (rD d1))) (fun t=>.agg t) (aew) pre h post|_=>False)
def XH:bR:=mX 36 (.one .str) (fun V pre=>match V with|[.agg e]=>aJ O e fZ|_=>False)
 (fun V pre h post=>match V with|[.agg e]=>bG (n_ e) (fun s=>.one (.str s)) iQ pre h post|_=>False)
def ae0:bR:=mX 92 (.one .str) (fun V pre=>match V with|[.agg e]=>aJ O e fZ|_=>False)
 (fun V pre h post=>match V with|[.agg e]=>bG (Ap e) (fun s=>.one (.str s)) iQ pre h post|_=>False)
def ae2:bR:=mX 120 (.one .str) (fun V pre=>match V with|[.agg e,.one d1]=>aJ O e fZ/\aW O d1 (.R 0)|_=>False)
 (fun V pre h post=>match V with|[.agg e,.one d1]=>bG (O7 e (bg (rD d1))) (fun s=>.one (.str s)) iQ pre h post|_=>False)
def XJ:bR:=mX 94 (.agg kEx) (fun V pre=>match V with|[.agg e,.one d1]=>aJ O e fZ/\aW O d1 (.R 0)|_=>False)
 (fun V pre h post=>match V with|[.agg e,.one d1]=>bG (Uy e (bg (rD d1))) (fun t=>.agg t) iQ pre h post|_=>False)
def XF (n:Nat):bR:=mX 121 (.one (.R 4)) (fun V pre=>match V with|[.one d0,.one d1]=>aW O d0 (.R 8)/\aW O d1 (.R 0)/\(pre=aM->(rD d1).length+n<=1000000)/\(pre=aM->∀x∈rD d0,aI x<=n)|_=>False)
 (fun V pre e post=>match V with|[.one d0,.one d1]=>bG (w9 (wZ n) (rD d0) (bg (rD d1))) (fun l=>.one (.R l)) iQ pre e post|_=>False)
def CZ (n:Nat):bR:=mX 64 (.agg kEx) (fun V pre=>match V with|[.agg e,.one d1]=>aJ O e fZ/\aW O d1 (.R 0)/\(pre=aM->(rD d1).length+n<=1000000)/\(pre=aM->aI e<=n)|_=>False)
 (fun V pre h post=>match V with|[.agg e,.one d1]=>bG (wZ n e (bg (rD d1))) (fun t=>.agg t) iQ pre h post|_=>False)
def Rv (n:Nat):bR:=mX 95 (.agg kEx) (fun V pre=>match V with|[.agg e,.one d1,.one h,.one j]=>aJ O e fZ/\aW O d1 .str/\aW O h (.R 8)/\aW O j (.R 0)/\pre=aM/\0<(nc e).length/\(pre=aM->(rD j).length+n<1000000)/\(pre=aM->(∀x∈rD h,aI x<=n)/\(∀x∈nc e,aI x<=n))|_=>False)
 (fun V pre l post=>match V with|[.agg e,.one d1,.one h,.one j]=>bG (Lh (wZ n) (oZ n) (iJ n) (tD d1) e (nth (nc e) 0) (rD h) (bg (rD j))) (fun t=>.agg t) iQ pre l post|_=>False)
def XD:bR:=mX 65 (.one (.R 8)) (fun V pre=>match V with|[.agg e]=>aJ O e fZ|_=>False)
 (fun V pre h post=>match V with|[.agg e]=>bG (sU e) (fun l=>.one (.R l)) (aBr e) pre h post|_=>False)
def aeZ:bR:=mX 21 (.one .str) (fun V pre=>match V with|[.agg e,.one d1]=>aJ O e fZ/\aW O d1 (.R 0)|_=>False)
 (fun V pre h post=>match V with|[.agg e,.one d1]=>bG (ku e (bg (rD d1))) (fun s=>.one (.str s)) iQ pre h post|_=>False)
def ae3:bR:=mX 90 (.one (.R 0)) (fun V pre=>match V with|[.agg e]=>aJ O e fZ|_=>False)
 (fun V pre h post=>match V with|[.agg e]=>bG (aL (sU e) Hz) (fun l=>.one (.R (l.map bw))) iQ pre h post|_=>False)
def NA (n:Nat):bR:=mX 62 (.dD [.one (.R 0),.one (.R 2)]) (fun V pre=>match V with|[.agg e,.one d1]=>aJ O e fZ/\aW O d1 (.R 0)/\(pre=aM->(rD d1).length+n<=1000000)/\(pre=aM->aI e<=n)|_=>False)
 (fun V pre h post=>match V with|[.agg e,.one d1]=>bG (yN (iJ n) e (bg (rD d1))) (fun p=>.dD [.one (.R (p.1.map bw)),.one (.R p.2)]) (aBt e) pre h post|_=>False)
def XK:bR:=lU 91 (.one (.R 0)) (fun V=>match V with|[.one d0]=>aW O d0 (.R 0)|_=>False)
 (fun V e=>match V with|[.one d0]=>e=.one (.R (rD d0).reverse)|_=>False)
def Ny (n:Nat):bR:=mX 61 (.agg tq) (fun V pre=>match V with|[.agg j,.one d1,.one e,.one h]=>aJ O j fZ/\aW O d1 (.R 8)/\aW O e C/\aW O h C/\((iD e=1/\iD h=3)\/(iD e=2/\iD h=4))/\(pre=aM->∀x∈rD d1,aI x<=n)|_=>False)
 (fun V pre l post=>match V with|[.agg j,.one d1,.one e,.one h]=>bG (if((rD d1).length:Int)=iD h then Gv (iJ n) (iD e) (rD d1) else .error (eD j)) (fun t=>.agg t) (aBs n) pre l post|_=>False)
def Nz:bR:=lU 63 (.agg fC) (fun V=>match V with|[.one d0,.one d1]=>aW O d0 (.R 2)/\aW O d1 (.R 2)|_=>False)
 (fun V e=>match V with|[.one d0,.one d1]=>e=.agg (yL (rD d0) (rD d1))|_=>False)
def Gp (n:Nat):bR:=mX 38 (.agg tq) (fun V pre=>match V with|[.agg e]=>aJ O e fZ/\(pre=aM->aI e<=n)|_=>False)
 (fun V pre h post=>match V with|[.agg e]=>bG (oZ n e) (fun t=>.agg t) iQ pre h post|_=>False)
def aoU (n:Nat):bR:=mX 22 (.one (.R 5)) (fun V pre=>match V with|[.agg e,.one d1,.one h]=>aJ O e fZ/\aW O d1 (.R 8)/\aW O h .bool/\(pre=aM->∀x∈rD d1,aI x<=n)|_=>False)
 (fun V pre j post=>match V with|[.agg e,.one d1,.one h]=>bG (uH n e (rD d1) (bD h)) (fun l=>.one (.R l)) iQ pre j post|_=>False)
def XG (n:Nat):bR:=lU 97 (.dD [.agg fC,.agg fl]) (fun V=>match V with|[.agg e,.one d1]=>aJ O e fZ/\aW O d1 (.R 0)/\(rD d1).length+n<=1000000/\aI e<=n|_=>False)
 (fun V h=>match V with|[.agg e,.one d1]=>TR (iJ n e (bg (rD d1))) h|_=>False)
def Xq:bR:=mX 135 (.agg fC) (fun V pre=>match V with|[.agg e,.one d1]=>aJ O e fZ/\aW O d1 (.R 0)/\pre=aM/\nk e=1|_=>False)
 (fun V pre h post=>match V with|[.agg e,.one d1]=>bG (zF e (bg (rD d1))) (fun t=>.agg t) iQ pre h post|_=>False)
def Rk (n:Nat):bR:=mX 137 (.one (.R 2)) (fun V pre=>match V with|[.one d0,.one d1]=>aW O d0 (.R 8)/\aW O d1 (.R 0)/\(pre=aM->(rD d1).length+n<=1000000)/\(pre=aM->∀x∈rD d0,aI x<=n)|_=>False)
 (fun V pre e post=>match V with|[.one d0,.one d1]=>bG (bO (eO fun x=>ji n x (bg (rD d1))) [] (rD d0)) (fun l=>.one (.R l)) iQ pre e post|_=>False)
def E9 (n:Nat):bR:=mX 123 (.agg fC) (fun V pre=>match V with|[.agg e,.one d1]=>aJ O e fZ/\aW O d1 (.R 0)/\(pre=aM->(rD d1).length+n<=1000000)/\(pre=aM->aI e<=n)|_=>False)
 (fun V pre h post=>match V with|[.agg e,.one d1]=>bG (ji n e (bg (rD d1))) (fun t=>.agg t) iQ pre h post|_=>False)
def Jb:bR:=lU 124 (.one .bool) (fun V=>match V with|[.one d0]=>aW O d0 .str|_=>False)
 (fun V e=>match V with|[.one d0]=>e=.one (.bool (xM.contains (tD d0)))|_=>False)
def Gr (n:Nat):bR:=lU 67 (.one C) (fun V=>match V with|[.agg e]=>aJ O e fC/\aI e<=n|_=>False)
 (fun V h=>match V with|[.agg e]=>h=.one (.int .i64 (jM e))|_=>False)
def Gq (n:Nat):bR:=lU 98 (.one C) (fun V=>match V with|[.agg e]=>aJ O e fC/\aI e<=n|_=>False)
 (fun V h=>match V with|[.agg e]=>h=.one (.int .i64 (rU n e))|_=>False)
def Gn (n:Nat):bR:=lU 99 (.one C) (fun V=>match V with|[.agg e]=>aJ O e fC/\aI e<=n|_=>False)
 (fun V h=>match V with|[.agg e]=>h=.one (.int .i64 (oQ n e))|_=>False)
def zi (n:Nat):bR:=lU 126 (.one .bool) (fun V=>match V with|[.agg e]=>aJ O e fC/\aI e<=n|_=>False)
 (fun V h=>match V with|[.agg e]=>h=.one (.bool (jy n e 0))|_=>False)
def Nw:bR:=lU 164 (.one (.R 9)) (fun V=>match V with|[.one d0,.one d1]=>aW O d0 (.R 9)/\aW O d1 C/\(rD d0).length<1000000|_=>False)
 (fun V e=>match V with|[.one d0,.one d1]=>∃l,e=.one (.R l)/\l≠[]/\l.length<=(rD d0).length+1|_=>False)
def Gm (n:Nat):bR:=lU 151 (.one (.R 9)) (fun V=>match V with|[.agg e,.one d1,.one h]=>aJ O e fC/\aW O d1 C/\aW O h (.R 9)/\aI e<=n/\(rD h).length+aI e<=1000000|_=>False)
 (fun V j=>match V with|[.agg e,.one d1,.one h]=>∃l,j=.one (.R l)/\(l=[]↔rD h=[]/\jy n e (iD d1)=true)/\l.length<=(rD h).length+aI e|_=>False)
def zZ (n:Nat):bR:=lU 125 (.one .bool) (fun V=>match V with|[.agg e]=>aJ O e fC/\aI e<=n|_=>False)
 (fun V h=>match V with|[.agg e]=>h=.one (.bool (mZ n e))|_=>False)
def Br (n:Nat):bR:=lU 100 (.one .bool) (fun V=>match V with|[.agg e]=>aJ O e fC/\aI e<=n|_=>False)
 (fun V h=>match V with|[.agg e]=>h=.one (.bool (gT n e))|_=>False)
def EP (h:P:=by first|exact mh|exact hex|exact hall|exact hex _ jS|exact hall _ jS|assumption|omega):P:=h
def EL (h:P:=by first|assumption|(simp only[rD,L8,tX,mD,gD,lN];omega)|omega):P:=h
def EZ (h:P:=by first|rfl|decide|assumption|omega|exact .inl ⟨rfl,rfl⟩|exact .inr ⟨rfl,rfl⟩):P:=h
def BT (h:P:=by
 intro _ V f hf h
 repeat
  have l:=aMS h;clear h;obtain⟨_,_,e,j,h⟩:=l;subst e
  first|obtain⟨_,rfl,_⟩:=asA j|obtain⟨_,rfl,_⟩:=SG j
  clear j
 obtain rfl:=aMU h
 first
  |refine⟨⟨?_,.inr ⟨f,hf,rfl⟩⟩,fun _ _ _ h=>(bG.oq hf h).1⟩
  |refine⟨⟨?_,rfl⟩,fun h=>by cases h⟩
 repeat' first|assumption|exact fun q=>absurd (nD q.symm) hf|refine⟨?_,?_⟩):P:=h
def BN (h:P:=by intro h;cases h):P:=h
def GT (h:P:=by
 repeat
  have j:=aMT h;clear h;obtain⟨e,h⟩:=j
  first|replace e:=Dt e|replace e:=asB e
 first|refine⟨?_,.inl rfl⟩|refine⟨?_,rfl⟩
 repeat' first|assumption|exact fun _=>‹_›|exact rfl|refine⟨?_,?_⟩):P:=h
def aBH:aeV.eZ ⟨[.one .str],false,true⟩:=BT
def aEv (h:fH O [.one .str] [.one d]):aeV.eU [.one d] []:=GT
def Bo:XC.eZ ⟨[.agg eB],true,true⟩:=BT
def Bw (h:fH O [.agg eB] [.agg t]):XC.eU [.agg t] aM:=GT
def Rc:aeT.eZ ⟨[.agg eB],true,true⟩:=BT
def Y1 (h:fH O [.agg eB] [.agg t]):aeT.eU [.agg t] aM:=GT
def EU:aeS.eZ ⟨[.agg eB],true,true⟩:=BT
def K9 (h:fH O [.agg eB] [.agg t]):aeS.eU [.agg t] aM:=GT
def I7:aeR.eZ ⟨[.agg eB,.one (.R 0)],true,true⟩:=BT
def Y0 (h:fH O [.agg eB,.one (.R 0)] [.agg t,.one d]):aeR.eU [.agg t,.one d] aM:=GT
def I8:aeX.eZ ⟨[.agg eB],true,true⟩:=BT
def Y2 (h:fH O [.agg eB] [.agg t]):aeX.eU [.agg t] aM:=GT
def aBV:XT.eZ ⟨[.agg eB,.one (.R 0)],true,true⟩:=BT
def aEG (h:fH O [.agg eB,.one (.R 0)] [.agg t,.one d]):XT.eU [.agg t,.one d] aM:=GT
def aBG:(Xy b).eZ ⟨[.agg eB,.one (.R 0)],false,false⟩:=BN
def aEu {n:Nat} (h:fH O [.agg eB,.one (.R 0)] [.agg t,.one d]) (oU:(rD d).length+n<=1000000:=by exact EL) (bF:aI t<=n:=by exact EP):(Xy n).eU [.agg t,.one d] []:=GT
def CU:(yu b).eZ ⟨[.agg eB,.one (.R 0)],true,true⟩:=BT
def Bz {n:Nat} (h:fH O [.agg eB,.one (.R 0)] [.agg t,.one d]) (oU:(rD d).length+n<=1000000:=by exact EL) (bF:aI t<=n:=by exact EP):(yu n).eU [.agg t,.one d] aM:=GT
def aBE:(Xx b).eZ ⟨[.one (.R 1),.one (.R 0)],true,true⟩:=BT
def uI {n:Nat} {d1:D} (h:fH O [.one (.R 1),.one (.R 0)] [.one d,.one d1]) (oU:(rD d1).length+n<=1000000:=by exact EL) (bF:∀x∈rD d,aI x<=n:=by exact EP):(Xx n).eU [.one d,.one d1] aM:=GT
def Nk:(Bp b).eZ ⟨[.agg eB,.one (.R 0)],true,true⟩:=BT
def GA {n:Nat} (h:fH O [.agg eB,.one (.R 0)] [.agg t,.one d]) (oU:(rD d).length+n<=1000000:=by exact EL) (bF:aI t<=n:=by exact EP):(Bp n).eU [.agg t,.one d] aM:=GT
def aBI:(Rs b).eZ ⟨[.agg eB,.one (.R 0)],true,false⟩:=BN
def aEw (h:fH O [.agg eB,.one (.R 0)] [.agg t,.one d]) (oU:(rD d).length+b<1000000:=by exact EL) (bF:aI t<=b+1:=by exact EP):(Rs b).eU [.agg t,.one d] aM:=GT
def aBF:(E_ b).eZ ⟨[.agg eB],true,true⟩:=BT
def aEt {n:Nat} (h:fH O [.agg eB] [.agg t]) (bF:aI t<=n:=by exact EP):(E_ n).eU [.agg t] aM:=GT
def aBT:(RB b).eZ ⟨[.one C,.one (.R 1)],true,false⟩:=BN
def asi {n:Nat} {d1:D} (h:fH O [.one C,.one (.R 1)] [.one d,.one d1]) (Ad:((iD d=1/\(rD d1).length=3)\/(iD d=2/\(rD d1).length=4)):=by exact EZ) (bF:∀x∈rD d1,aI x<=n:=by exact EP):(RB n).eU [.one d,.one d1] aM:=GT
def Xl:(KJ b).eZ ⟨[.agg eB],true,true⟩:=BT
def asj {n:Nat} (h:fH O [.agg eB] [.agg t]) (bF:aI t<=n:=by exact EP):(KJ n).eU [.agg t] aM:=GT
def aBJ:(Rt b).eZ ⟨[.one (.R 1)],true,false⟩:=BN
def aEx {n:Nat} (h:fH O [.one (.R 1)] [.one d]) (Ad:(rD d).length=4:=by exact EZ) (bF:∀x∈rD d,aI x<=n:=by exact EP):(Rt n).eU [.one d] aM:=GT
def aBP:(Ry b).eZ ⟨[.one (.R 1)],true,false⟩:=BN
def aEC {n:Nat} (h:fH O [.one (.R 1)] [.one d]) (Ad:(rD d).length=3:=by exact EZ) (bF:∀x∈rD d,aI x<=n:=by exact EP):(Ry n).eU [.one d] aM:=GT
def Xk:KI.eZ ⟨[.one (.R 2),.one (.R 2)],false,true⟩:=BT
def Y9 {d1:D} (h:fH O [.one (.R 2),.one (.R 2)] [.one d,.one d1]):KI.eU [.one d,.one d1] []:=GT
def aoD:Rz.eZ ⟨[.agg eB],false,true⟩:=BT
def ash (h:fH O [.agg eB] [.agg t]):Rz.eU [.agg t] []:=GT
def aBS:RA.eZ ⟨[.agg eB,.one (.R 0)],false,true⟩:=BT
def aEF (h:fH O [.agg eB,.one (.R 0)] [.agg t,.one d]):RA.eU [.agg t,.one d] []:=GT
def aBR:(XQ b).eZ ⟨[.agg eB,.one (.R 0)],false,false⟩:=BN
def aEE (h:fH O [.agg eB,.one (.R 0)] [.agg t,.one d]) (oU:(rD d).length+b<1000000:=by exact EL) (bF:aI t<=b+1:=by exact EP):(XQ b).eU [.agg t,.one d] []:=GT
def aBQ:(Jd b).eZ ⟨[.agg eB,.one (.R 0)],false,false⟩:=BN
def aED (h:fH O [.agg eB,.one (.R 0)] [.agg t,.one d]) (oU:(rD d).length+b<1000000:=by exact EL) (bF:aI t<=b+1:=by exact EP):(Jd b).eU [.agg t,.one d] []:=GT
def aeG:(C8 b).eZ ⟨[.agg eB,.one (.R 0)],false,false⟩:=BN
def agu {n:Nat} (h:fH O [.agg eB,.one (.R 0)] [.agg t,.one d]) (oU:(rD d).length+n<=1000000:=by exact EL) (bF:aI t<=n:=by exact EP):(C8 n).eU [.agg t,.one d] []:=GT
def aor:(CX b).eZ ⟨[.agg fC,.one C],false,false⟩:=BN
def Sr {n:Nat} (h:fH O [.agg fC,.one C] [.agg t,.one d]) (bF:aI t<=n:=by exact EP):(CX n).eU [.agg t,.one d] []:=GT
def aou:(Ru b).eZ ⟨[.agg fC],false,false⟩:=BN
def Y3 (h:fH O [.agg fC] [.agg t]) (bF:aI t<=b+1:=by exact EP):(Ru b).eU [.agg t] []:=GT
def aoE:Je.eZ ⟨[.agg fC],false,true⟩:=BT
def Jv (h:fH O [.agg fC] [.agg t]):Je.eU [.agg t] []:=GT
def Rf:Jc.eZ ⟨[.one .str],false,true⟩:=BT
def Ju (h:fH O [.one .str] [.one d]):Jc.eU [.one d] []:=GT
def aos:Xt.eZ ⟨[.one (.R 0),.one .str],false,true⟩:=BT
def ar8 {d1:D} (h:fH O [.one (.R 0),.one .str] [.one d,.one d1]):Xt.eU [.one d,.one d1] []:=GT
def aBM:ae1.eZ ⟨[.one .str],false,true⟩:=BT
def aEz (h:fH O [.one .str] [.one d]):ae1.eU [.one d] []:=GT
def CS:(Bq b).eZ ⟨[.agg fZ,.one (.R 0)],true,true⟩:=BT
def Fx {n:Nat} (h:fH O [.agg fZ,.one (.R 0)] [.agg t,.one d]) (oU:(rD d).length+n<=1000000:=by exact EL) (bF:aI t<=n:=by exact EP):(Bq n).eU [.agg t,.one d] aM:=GT
def KG:XH.eZ ⟨[.agg fZ],true,true⟩:=BT
def Dp (h:fH O [.agg fZ] [.agg t]):XH.eU [.agg t] aM:=GT
def aeE:ae0.eZ ⟨[.agg fZ],true,true⟩:=BT
def Y7 (h:fH O [.agg fZ] [.agg t]):ae0.eU [.agg t] aM:=GT
def aox:ae2.eZ ⟨[.agg fZ,.one (.R 0)],true,true⟩:=BT
def asb (h:fH O [.agg fZ,.one (.R 0)] [.agg t,.one d]):ae2.eU [.agg t,.one d] aM:=GT
def aBO:XJ.eZ ⟨[.agg fZ,.one (.R 0)],true,true⟩:=BT
def aEB (h:fH O [.agg fZ,.one (.R 0)] [.agg t,.one d]):XJ.eU [.agg t,.one d] aM:=GT
def aBK:(XF b).eZ ⟨[.one (.R 8),.one (.R 0)],true,true⟩:=BT
def Ak {n:Nat} {d1:D} (h:fH O [.one (.R 8),.one (.R 0)] [.one d,.one d1]) (oU:(rD d1).length+n<=1000000:=by exact EL) (bF:∀x∈rD d,aI x<=n:=by exact EP):(XF n).eU [.one d,.one d1] aM:=GT
def I9:(CZ b).eZ ⟨[.agg fZ,.one (.R 0)],true,true⟩:=BT
def yA {n:Nat} (h:fH O [.agg fZ,.one (.R 0)] [.agg t,.one d]) (oU:(rD d).length+n<=1000000:=by exact EL) (bF:aI t<=n:=by exact EP):(CZ n).eU [.agg t,.one d] aM:=GT
def aBN:(Rv b).eZ ⟨[.agg fZ,.one .str,.one (.R 8),.one (.R 0)],true,false⟩:=BN
def aEA {e:D} {j:D} (h:fH O [.agg fZ,.one .str,.one (.R 8),.one (.R 0)] [.agg t,.one d,.one e,.one j]) (Ad:0<(nc t).length:=by exact EZ) (oU:(rD j).length+b<1000000:=by exact EL) (bF:(∀x∈rD e,aI x<=b)/\(∀x∈nc t,aI x<=b):=by exact EP):(Rv b).eU [.agg t,.one d,.one e,.one j] aM:=GT
def CQ:XD.eZ ⟨[.agg fZ],true,true⟩:=BT
def Y4 (h:fH O [.agg fZ] [.agg t]):XD.eU [.agg t] aM:=GT
def Xi:aeZ.eZ ⟨[.agg fZ,.one (.R 0)],true,true⟩:=BT
def Y6 (h:fH O [.agg fZ,.one (.R 0)] [.agg t,.one d]):aeZ.eU [.agg t,.one d] aM:=GT
def aoy:ae3.eZ ⟨[.agg fZ],true,true⟩:=BT
def asc (h:fH O [.agg fZ] [.agg t]):ae3.eU [.agg t] aM:=GT
def Nn:(NA b).eZ ⟨[.agg fZ,.one (.R 0)],true,true⟩:=BT
def agt {n:Nat} (h:fH O [.agg fZ,.one (.R 0)] [.agg t,.one d]) (oU:(rD d).length+n<=1000000:=by exact EL) (bF:aI t<=n:=by exact EP):(NA n).eU [.agg t,.one d] aM:=GT
def aoC:XK.eZ ⟨[.one (.R 0)],false,true⟩:=BT
def asf (h:fH O [.one (.R 0)] [.one d]):XK.eU [.one d] []:=GT
def aow:(Ny b).eZ ⟨[.agg fZ,.one (.R 8),.one C,.one C],true,false⟩:=BN
def asa {n:Nat} {e:D} {j:D} (h:fH O [.agg fZ,.one (.R 8),.one C,.one C] [.agg t,.one d,.one e,.one j]) (Ad:((iD e=1/\iD j=3)\/(iD e=2/\iD j=4)):=by exact EZ) (bF:∀x∈rD d,aI x<=n:=by exact EP):(Ny n).eU [.agg t,.one d,.one e,.one j] aM:=GT
def aoB:Nz.eZ ⟨[.one (.R 2),.one (.R 2)],false,true⟩:=BT
def zq {d1:D} (h:fH O [.one (.R 2),.one (.R 2)] [.one d,.one d1]):Nz.eU [.one d,.one d1] []:=GT
def Xj:(Gp b).eZ ⟨[.agg fZ],true,true⟩:=BT
def ags {n:Nat} (h:fH O [.agg fZ] [.agg t]) (bF:aI t<=n:=by exact EP):(Gp n).eU [.agg t] aM:=GT
def aBL:(XG b).eZ ⟨[.agg fZ,.one (.R 0)],false,false⟩:=BN
def aEy {n:Nat} (h:fH O [.agg fZ,.one (.R 0)] [.agg t,.one d]) (oU:(rD d).length+n<=1000000:=by exact EL) (bF:aI t<=n:=by exact EP):(XG n).eU [.agg t,.one d] []:=GT
def aBD:Xq.eZ ⟨[.agg fZ,.one (.R 0)],true,false⟩:=BN
def aEs (h:fH O [.agg fZ,.one (.R 0)] [.agg t,.one d]) (Ad:nk t=1:=by exact EZ):Xq.eU [.agg t,.one d] aM:=GT
def aBC:(Rk b).eZ ⟨[.one (.R 8),.one (.R 0)],true,true⟩:=BT
def agr {n:Nat} {d1:D} (h:fH O [.one (.R 8),.one (.R 0)] [.one d,.one d1]) (oU:(rD d1).length+n<=1000000:=by exact EL) (bF:∀x∈rD d,aI x<=n:=by exact EP):(Rk n).eU [.one d,.one d1] aM:=GT
def Xg:(E9 b).eZ ⟨[.agg fZ,.one (.R 0)],true,true⟩:=BT
def Sq {n:Nat} (h:fH O [.agg fZ,.one (.R 0)] [.agg t,.one d]) (oU:(rD d).length+n<=1000000:=by exact EL) (bF:aI t<=n:=by exact EP):(E9 n).eU [.agg t,.one d] aM:=GT
def aeD:Jb.eZ ⟨[.one .str],false,true⟩:=BT
def Oz (h:fH O [.one .str] [.one d]):Jb.eU [.one d] []:=GT
def aeF:(Gr b).eZ ⟨[.agg fC],false,false⟩:=BN
def pG {n:Nat} (h:fH O [.agg fC] [.agg t]) (bF:aI t<=n:=by exact EP):(Gr n).eU [.agg t] []:=GT
def aov:(zi b).eZ ⟨[.agg fC],false,false⟩:=BN
def Y5 {n:Nat} (h:fH O [.agg fC] [.agg t]) (bF:aI t<=n:=by exact EP):(zi n).eU [.agg t] []:=GT
def aoA:(zZ b).eZ ⟨[.agg fC],false,false⟩:=BN
def aBU:(Br b).eZ ⟨[.agg fC],false,false⟩:=BN
def Xh:aeU.eZ ⟨[.one .str],false,true⟩:=BT
def Oy (h:fH O [.one .str] [.one d]):aeU.eU [.one d] []:=GT
def Nl:Xz.eZ ⟨[.one (.R 0),.one .str],false,true⟩:=BT
def Jt {d1:D} (h:fH O [.one (.R 0),.one .str] [.one d,.one d1]):Xz.eU [.one d,.one d1] []:=GT
def aot:aeY.eZ ⟨[.one .str],false,true⟩:=BT
def ar9 (h:fH O [.one .str] [.one d]):aeY.eU [.one d] []:=GT
def aoz:ae4.eZ ⟨[.one .str],false,true⟩:=BT
def ase (h:fH O [.one .str] [.one d]):ae4.eU [.one d] []:=GT
def aI2:G bJ:=[aaD,Py]
def aI3:Tree:=.call 0 [dY] [] (.B fE (.call 1 [.S (.var 2),dY] [] (.leaf 0 [.S (.not Ky)] [])) eF)
def aI4:TC 47 [.S (.var 3)] none aI2 [] aI3 ([.str]):=tc
def aI5:gU 47:=gY Tryz.func47 aS
def aJm:G bJ:=[⟨47,none,(.one (.bool))⟩]
def aJn:Tree:=.B Qn ad8 Vy
def aJo:TC 30 [oP] lW aJm [] aJn (fl++eB):=tc
def aJp:gU 30:=gY Tryz.func30 aS
def aIP:G bJ:=[aaD]
def aIQ:Tree:=.B Qn ad8 Vy
def aIR:TC 81 [oP] lW aIP [] aIQ (fl++eB):=tc
def aIS:gU 81:=gY Tryz.func81 aS
def aHQ:G bJ:=[]
def aHR:Tree:=.B Wi (.B Wp (.B iC (.leaf 0 [aF,WQ,dz] []) Qp) (.B iC (.leaf 0 [dS,dY,fJ] []) Qp)) (.B iC (.B Wp (.leaf 0 abV []) (.leaf 0 abV [])) (.B Wp Qp Qp))
def aHS:TC 77 [oP] lW aHQ [] aHR (fl++eB):=tc
def aHT:gU 77:=gY Tryz.func77 aS
def aHL:G bJ:=[LH,Py]
def aHM:Tree:=.call 0 [CO] bL (.call 1 QH [] (.B VX (.B Qw ajY MK) MK))
def aHN:TC 78 [oP,.S (.var 9)] lW aHL [] aHM (fl++eB++[.R 0]):=tc
def aHO:gU 78:=gY Tryz.func78 aS
def aI1.qE (h:P:=by(try simp only[tD,rD,iD,sZ,↓tO,↓uU])<;>(first|(simp[tD,↓tO, *];done)|(rcases Int.lt_or_le nA 0 with e|e<;>simp_all[sZ,iD,tD]))):P:=h
open aI1 in
def aFL (e:bH T):(aeV).aA T:=by
 intro V pre ⟨h,Z⟩
 match V,h with
 |[.one d0],j=>
 obtain⟨y,rfl,l⟩:=j.str;have A:fG T _ _:=(ac (Zl e) Xh (ac (OO e) Nl an));obtain rfl:=Z;refine sV e aI5 A.1 all_nil A.2 bn aI4 (ay (mo l) aX) ?_;refine eT M Oy fun q=>?_;refine au aj (fun u=>?_) (fun u=>aU);refine kX M Jt fun E hR q=>?_;obtain⟨nA,rfl⟩:=FC q;have w:=rR hR;clear hR;exact aU
def aJl.qE (h:P:=by first|(simp only[n_,eD];exact QE)|exact QE):P:=h
open aJl in
def Ar (h:bH T):(XC).aA T:=by
 intro V pre ⟨e,Z⟩
 match V,e with
 |[.agg E],j=>
 obtain⟨F,P,c0,W,rfl,l,q,u⟩:=jT j;have A:fG T _ _:=(ac (aFL h) aBH an);refine mY (la:=kR) h aJp A.1 all_nil A.2 bn aJo (kD l q u aX) Z (fun w=>?_);subst w;refine au aj (fun y=>?_) (fun y=>dJ);refine eT M aEv fun a'=>?_;exact RX
def aIO.qE (h:P:=by first|(simp only[Ap,eD];exact QE)|exact QE):P:=h
open aIO in
def SI (h:bH T):(aeT).aA T:=by
 intro V pre ⟨e,Z⟩
 match V,e with
 |[.agg E],j=>
 obtain⟨F,P,c0,W,rfl,l,q,u⟩:=jT j;have A:fG T _ _:=(ac (Zl h) Xh an);refine mY (la:=kR) h aIS A.1 all_nil A.2 bn aIR (kD l q u aX) Z (fun w=>?_);subst w;refine au aj (fun y=>?_) (fun y=>dJ);refine eT M Oy fun a'=>?_;exact RX
def aHP.qE (h:P:=by first|(simp only[sU,eD,zl];exact QE)|exact QE):P:=h
open aHP in
def Fp (w:bH T):(aeS).aA T:=by
 intro V pre ⟨h,Z⟩
 match V,h with
 |[.agg F],j=>
 obtain⟨P,W,c0,a',rfl,l,q,u⟩:=jT j;have A:fG T _ _:=an;refine mY (la:=asX) w aHT A.1 all_nil A.2 bn aHS (kD l q u aX) Z (fun y=>?_);subst y;refine au aj (fun E=>?_) (fun E=>?_)
 ·refine au aj (fun e=>have e:¬(c0).length<=6:=aC;dJ) (fun e=>?_)
  replace e:(c0).length<=6:=aC;exact Oh
 ·refine fO M ?_
  exact au aj (fun e=>have e:¬(c0).length<=6:=aC;oG) (fun e=>have e:(c0).length<=6:=aC;oG)
def aHK.qE (h:P:=by first|(simp only[ku,KT];exact QE)|exact QE):P:=h
open aHK in
def Ji (e:bH T):(aeR).aA T:=by
 intro V pre ⟨h,Z⟩
 match V,h with
 |[.agg b',.one d1],⟨j,l⟩=>
 obtain⟨c',d',c0,e',rfl,q,u,w⟩:=jT j;obtain⟨f',rfl,y,E⟩:=bW l;have A:fG T _ _:=(ac (Ar e) Bo (ac (OO e) Nl an));refine mY (la:=kR) e aHO A.1 all_nil A.2 bn aHN (kD q u w (ay (eP y E) aX)) Z (fun P=>?_);subst P;refine dH M Bw fun y0 hy0 F=>?_;refine kX M Jt fun g' hR F=>?_;obtain⟨h',rfl⟩:=FC F;have a':=rR hR;clear hR;exact au aj (fun W=>dJ) (fun W=>dQ)
def aJr:G bJ:=[]
def aJs:Tree:=.B Wi (.B (.bin .eql mF iP) (.B iC (.leaf 0 [.tuple [MQ,.agg abX],dY,fJ] []) (.leaf 0 alT [])) al0) al0
def aJt:TC 80 [oP] lW aJr [] aJs (fl++eB):=tc
def aJu:gU 80:=gY Tryz.func80 aS
def aLg:G bJ:=[aaD,Py]
def aLh:Tree:=.B EK (.call 0 ze [] (.B dB (.call 1 [.S (.var 1),fJ] [] (.leaf 0 [.S (.not Bg)] [])) eF)) eF
def aLi:TC 153 [.agg [.S (.var 3),.S (.var 4),.S (.var 5),.S (.var 6)]] none aLg [] aLh (eB):=tc
def aLj:gU 153:=gY Tryz.func153 aS
def aJq.qE (h:P:=by first|(simp only[mQ,eD];exact QE)|exact QE):P:=h
open aJq in
def JJ (w:bH T):(aeX).aA T:=by
 intro V pre ⟨h,Z⟩
 match V,h with
 |[.agg i'],l=>
 obtain⟨j',k',c0,l',rfl,q,u,e⟩:=jT l;have A:fG T _ _:=an;refine mY (la:=kR) w aJu A.1 all_nil A.2 bn aJt (kD q u e aX) Z (fun E=>?_);subst E;refine au aj (fun F=>?_) (fun F=>dJ);refine au aj (fun j=>?_) (fun j=>have j:¬(c0).length=2:=aC;dJ)
 replace j:(c0).length=2:=aC;obtain⟨m',n',rfl,P,W⟩:=qN e aC;obtain⟨a',b',c',d',rfl,o',p'⟩:=aT P;obtain⟨e',f',g',h',rfl,q',r'⟩:=aT W;refine fO M ?_;exact dQ (y:=(([(.int .i64 a'),(.str b'),(.R c'),(.int .i64 d')]:Rw),([(.int .i64 e'),(.str f'),(.R g'),(.int .i64 h')]:Rw)))
def aLf.qE (h:P:=by(try simp only[tD,rD,iD,sZ,↓tO,↓uU])<;>(first|(simp[yI,nk,nt,jh,iD,tD, *];done)|(simp_all[yI,nk,nt,jh,iD,tD];done)|(rcases Int.lt_or_le nA 0 with e|e<;>simp_all[yI,nk,nt,jh,iD,tD,sZ]))):P:=h
open aLf in
def Ur (e:bH T):(Rz).aA T:=by
 intro V pre ⟨h,Z⟩
 match V,h with
 |[.agg P],j=>
 obtain⟨W,a',c0,b',rfl,l,q,u⟩:=jT j;have A:fG T _ _:=(ac (Zl e) Xh (ac (OO e) Nl an));obtain rfl:=Z;refine sV e aLj A.1 all_nil A.2 bn aLi (kD l q u aX) ?_;refine au aj (fun y=>?_) (fun y=>aU);refine eT M Oy fun w=>?_;refine au aj (fun E=>?_) (fun E=>aU);refine kX M Jt fun c' hR w=>?_;obtain⟨nA,rfl⟩:=FC w;have F:=rR hR;clear hR;exact aU
def aLW:G bJ:=[LH,avK,Py]
def aLX:Tree:=.call 1 [b_] [] (.B fI amQ (.B (.bin .eql dN ab2) anT (.B (.bin .eql dN abP) ame (.B (.bin .eql dN acs) ala (.call 0 [CO] bL (.call 2 [eu,bT] [] (.B Wn (.leaf 0 aee []) (.B W9 (.leaf 0 [.agg amT,.int .i64 5,dz] []) (.leaf 0 aee [])))))))))
def aLY:TC 84 [oP,.S (.var 9)] lW aLW [] aLX (fl++eB++[.R 0]):=tc
def aLZ:gU 84:=gY Tryz.func84 aS
def aLu:G bJ:=[⟨107,none,(.dD [(.agg [C,.str,C,.R 2]),(.agg [C,C])])⟩]
def aLv:Tree:=.B iC (.call 0 KA [] (.leaf 0 adH [])) Kh
def aLw:TC 79 [oP,.S (.var 9)] lW aLu [] aLv (fl++eB++[.R 0]):=tc
def aLx:gU 79:=gY Tryz.func79 aS
def aIw:G bJ:=[⟨84,some [C,C],(.agg [C,.str,C,.str,C,.str,C,.R 2,.R 4,.R 5])⟩,⟨85,some [C,C],(.agg [C,.str,C,.str,C,.str,C,.R 2,.R 4,.R 5])⟩]
def aIx:Tree:=.B iC (.B Qn (.call 0 KA bL VU) (.B (.bin .eql dx iP) amP (.call 1 KA bL VU))) ac9
def aua:TC 53 [oP,.S (.var 9)] lW aIw [] aIx (fl++eB++[.R 0]):=tc
def aub:gU 53:=gY Tryz.func53 aS
def aLp:G bJ:=[⟨139,none,(.dD [(.agg [C,.str,C,.R 2]),(.agg [C,C])])⟩,⟨140,none,(.dD [(.agg [C,.str,C,.R 2]),(.agg [C,C])])⟩]
def aLq:Tree:=.B EK (.call 0 QK [] ac8) (.B MI (.call 1 QK [] ac8) M8)
def aLr:TC 128 [.agg [.S (.var 3),.S (.var 4),.S (.var 5),.S (.var 6)],.S (.var 7)] none aLp [] aLq (eB++[.R 0]):=tc
def aLs:gU 128:=gY Tryz.func128 aS
def aLV.qE (h:P:=by first|(simp only[Uy,O7,ex,jm,ty,OX,OV,OW,Bt,List.contains_eq_mem];exact QE)|exact QE):P:=h
open aLV in
def aOt (e:bH T):(XT).aA T:=by
 intro V pre ⟨h,Z⟩
 match V,h with
 |[.agg f',.one d1],⟨l,q⟩=>
 obtain⟨g',h',c0,i',rfl,u,w,y⟩:=jT l;obtain⟨j',rfl,E,F⟩:=bW q;have A:fG T _ _:=(ac (Ar e) Bo (ac (ahg e) aot (ac (OO e) Nl an)));refine mY (la:=kR) e aLZ A.1 all_nil A.2 bn aLY (kD u w y (ay (eP E F) aX)) Z (fun W=>?_);subst W;refine kX M ar9 fun a' hR j=>?_;rcases nz hR with⟨n0,P,rfl⟩|⟨P,rfl⟩
 ·exact Oh
 ·refine jo M ?_
  refine au aj (fun b'=>dQ) (fun b'=>?_);refine au aj (fun c'=>dQ) (fun c'=>?_);refine au aj (fun d'=>dQ) (fun d'=>?_);refine dH M Bw fun k' hy4 j=>?_;refine kX M Jt fun a' hR j=>?_;obtain⟨l',rfl⟩:=FC j;have hR5:=rR hR;clear hR;exact au aj (fun e'=>dQ) (fun e'=>dJ)
def aLt.qE (h:P:=by exact QE):P:=h
open aLt in
def aN1 (W:bH T) (n:Nat) (e:(Xy n).aA T):(yu n).aA T:=by
 intro V pre ⟨j,Z⟩
 match V,j with
 |[.agg d',.one d1],⟨l,q,h,hex⟩=>
 obtain⟨e',f',c0,g',rfl,u,w,y⟩:=jT l;obtain⟨a',rfl,E,F⟩:=bW q;have A:fG T _ _:=(ac e aBG an);refine mY (la:=kR) W aLx A.1 all_nil A.2 bn aLw (kD u w y (ay (eP E F) aX)) Z (fun b'=>?_);subst b';replace h:(a').length+n<=1000000:=h rfl;replace hex:=hex rfl;refine fO M ?_;refine kX M (aEu ·) fun h' hR c'=>?_
 rcases JG hR with⟨y0,hy0,rfl⟩|⟨i',hy0,P,rfl⟩
 ·obtain⟨j',k',l',m',rfl,n',o'⟩:=gQ (tH c').1
  exact dQ
 ·exact jf M (bG.err qE P True.intro)
def aIv.qE (h:P:=by first|(simp only[wZ,ex,jm,ty];exact QE)|exact QE):P:=h
open aIv in
def aDM (l:bH T) (n:Nat) (e:(Rs n).aA T):(Bp (n+1)).aA T:=by
 intro V pre ⟨j,Z⟩
 match V,j with
 |[.agg d',.one d1],⟨q,u,h,hex⟩=>
 obtain⟨e',f',c0,g',rfl,w,y,E⟩:=jT q;obtain⟨W,rfl,F,P⟩:=bW u;have A:fG T _ _:=(ac (aOt l) aBV (ac e aBI an));refine mY (la:=kR) l aub A.1 all_nil A.2 bn aua (kD w y E (ay (eP F P) aX)) Z (fun a'=>?_);subst a';replace h:(W).length+(n+1)<=1000000:=h rfl;replace hex:=hex rfl;refine fO M ?_;refine au aj (fun b'=>?_) (fun b'=>?_)
 ·refine dH M aEG fun y1 hy1 hk=>?_
  exact ars
 ·refine au aj (fun c'=>dQ) (fun c'=>?_)
  refine dH M (aEw ·) fun h' hy2 hk=>?_
  obtain⟨i',j',k',l',m',n',o',p',q',r',rfl⟩:=nH hk;replace hy2:=nz hy2;exact dQ
def aLo.qE (h:P:=by first|(simp only[ji,eD];exact QE)|exact QE):P:=h
open aLo in
def aNR (b':bH T) (n:Nat) (e:(RA).aA T) (h:(XQ n).aA T):(C8 (n+1)).aA T:=by
 intro V pre ⟨l,Z⟩
 match V,l with
 |[.agg j',.one d1],⟨q,u,j,hex⟩=>
 obtain⟨k',l',c0,c',rfl,w,y,E⟩:=jT q;obtain⟨d',rfl,F,P⟩:=bW u;have A:fG T _ _:=(ac e aBS (ac h aBR an));replace j:(d').length+(n+1)<=1000000:=j;obtain rfl:=Z;refine sV b' aLs A.1 all_nil A.2 bn aLr (kD w y E (ay (eP F P) aX)) ?_;refine au aj (fun e'=>?_) (fun e'=>?_)
 ·refine kX M aEF fun f' hR hk=>?_
  rcases JG hR with⟨y1,hy1,rfl⟩|⟨g',hy1,W,rfl⟩
  ·exact aq2
  ·exact aU M (TR.err (f:=g') qE W)
 ·refine au aj (fun h'=>?_) (fun h'=>aU M (TR.err (f:=(2,c')) qE Z0))
  refine kX M (aEE ·) fun f' hR hk=>?_
  rcases JG hR with⟨m',hy2,rfl⟩|⟨i',hy2,a',rfl⟩
  ·exact aq2
  ·exact aU M (TR.err (f:=i') qE a')
def y8 (T:Nat):G Kd:=[C,.str,.R T,C]
def O_ {T:Nat} {r:Rw} (e:O.getD T []=y8 T) (h:aJ O r (y8 T)):aI r=bM (nc r)+1/\∀x∈nc r,aJ O x (y8 T):=by
 obtain⟨k,t,c,o,rfl,_,_,U⟩:=jT h;refine⟨wY,fun x j=>?_⟩;have:=U.mem x j
 rwa[e] at this
def Yc:∀{a b:G Rw},bM (a++b)=bM a+bM b
 |[],b=>by simp[bM]
 |x::a,b=>by simp only[wM,bM,Yc (a:=a)];omega
def Jh:∀{k:Nat},bM (l.drop k)<=bM l:=by
 induction l with
 |nil=>intro k;simp[bM]
 |cons a l e=>
  intro k;cases k with
  |zero=>exact bq _
  |succ k=>simp only[aa0,bM];have:=e (k:=k);omega
def ahY {j:Type} {f:j->dV Fa Rw} {w:j->Nat}:∀{l:G j} {acc out:G Rw},(∀x∈l,∀y,f x=.ok y->aI y<=w x)->bO (eO f) acc l=.ok out->bM out<=bM acc+(l.map w).sum
 |[],acc,out,_,h=>by
  cases h;simp
 |x::l,acc,out,hf,h=>by
  unfold bO at h;cases hx:f x with
  |error e=>simp[eO,hx,aL] at h
  |ok y=>
   simp only[eO,hx,mq] at h;have q:=ahY (fun z u=>hf z (gF _ u)) h;have A:=hf x jG y hx;rw[Yc] at q;simp only[bM,AU,List.sum_cons] at q⊢;omega
def afw:∀{l:G Rw},bM l=(l.map aI).sum
 |[]=>rfl
 |x::l=>by simp only[bM,AU,List.sum_cons,afw (l:=l)]
def Ea {j l:Type} {x:dV Fa j} {f:j->dV Fa l} {b:l} (h:aL x f=.ok b):∃a,x=.ok a/\f a=.ok b:=by
 cases x with
 |error e=>cases h
 |ok a=>exact⟨a,rfl,h⟩
def Yb:aI (ty k q o l)=bM l+1:=vD
def aOq {r:Rw} (h:zF r X=.ok t):aI t=1:=by
 unfold zF at h;split at h
 ·cases h;rfl
 ·split at h
  ·cases h;rfl
  ·split at h
   ·cases h;rfl
   ·split at h
    ·cases h;rfl
    ·cases h
def aGe (a':O.getD g []=y8 g) {f:Rw->G (G Nat)->dV Fa Rw} (hf:∀r X t,aJ O r (y8 g)->f r X=.ok t->aI t<=aI r) {r:Rw} (b':aJ O r (y8 g)) (h:Li f r X=.ok t):aI t<=aI r:=by
 obtain⟨e,hc⟩:=O_ a' b';unfold Li at h;split at h
 ·have A:∀{k:Int} {nm:G Nat} {vs:G (G Nat)} {t:Rw},(aL (bO (eO fun x=>f x vs) [] ((nc r).drop 1)) fun l=>.ok (ty k nm 0 l))=.ok t->aI t<=aI r:=by
   intro k nm vs t h;obtain⟨l,j,q⟩:=Ea h;cases q;have u:=ahY (w:=aI) (fun x c' y d'=>hf x vs y (hc x (AY c')) d') j;rw[<-afw] at u;have P:=Jh (l:=nc r) (k:=1);rw[Yb,e];simp only[bM] at u;omega
  unfold Tc at h;split at h
  ·unfold NU at h
   split at h
   ·rename_i E
    split at h
    ·obtain⟨x,j,h⟩:=Ea h
     obtain⟨y,q,h⟩:=Ea h;cases h;obtain⟨a,b,c,F⟩:=aF9 E;rw[F] at j q;have W:∀z∈[a,b,c],aJ O z (y8 g):=fun z e'=>hc z (AY (F▸e'));have u:=hf _ _ _ (W _ (gF _ jG)) j;have P:=hf _ _ _ (W _ (gF _ (gF _ jG))) q;have T:=Jh (l:=nc r) (k:=1);rw[F] at T;rw[Yb,e]
     try simp only[nth,awW,awX] at u P
     simp only[bM] at T⊢;omega
    ·cases h
   ·cases h
  ·split at h
   ·exact A h
   ·split at h
    ·split at h
     ·cases h
     ·exact A h
    ·split at h
     ·cases h
     ·split at h
      ·exact A h
      ·cases h
 ·cases h
def aiw {T:Nat} (j:O.getD T []=y8 T):∀{n:Nat} {r:Rw} {vars:G (G Nat)} {t:Rw},aJ O r (y8 T)->ji n r vars=.ok t->aI t<=aI r
 |0,r,vars,t,_,h=>by cases h
 |n+1,r,vars,t,l,h=>by
  obtain⟨e,hc⟩:=O_ j l;unfold ji at h;split at h
  ·rw[aOq h,e];omega
  ·split at h
   ·exact aGe j (fun r vars t q u=>aiw j q u) l h
   ·cases h
def Ov {T:Nat} (j:O.getD T []=y8 T) {r:Rw} (l:aJ O r (y8 T)) (h:iJ b r X=.ok t):aI t<=aI r:=by
 unfold iJ at h;obtain⟨x,q,e⟩:=Ea h;split at e
 ·cases e
  exact aiw j l q
 ·cases e
end
end
end Go.Proofs.YtdjcfaaongngeaaGreatDoor

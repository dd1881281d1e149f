/- A part of the proof: see the last text. -/
import Derived.Test.YtdjcfaaongngeaaGreatDoorZp
set_option linter.all false
set_option maxRecDepth 100000
set_option maxHeartbeats 0
namespace Go.Proofs.YtdjcfaaongngeaaGreatDoor
noncomputable section
variable {b:Nat}{T:Nat->ah D}{P:Prop}{l:G Rw}{q:G Nat}{k o:Int}
section
open Go Go.RowKit
def aup:G bJ:=[avU]
def Z4:eX:=⟨0,22,WC,[(.normal,Wv,[C])]⟩
def auo:G iq:=[⟨WC,[C,.str,C,.R 2,C,C],.B acw (.fT Bg (.call 0 [.agg abL] [] (.B (.bin .lss dB bZ) (.leaf 0 [dY,fJ,cu,b_,eu,Cx] []) anE))) (.leaf 1 aek [])⟩]
def aJE:Tree:=.bX 0 [bQ,fE,dx,dN,aH,aH] (.cons (.leaf 0 [zS] []) .nil)
def Z5:ko 99 200 0 Z4 aup [] auo:=.of aS
def aJF:TC 99 [.agg [.S (.var 3),.S (.var 4),.S (.var 5),.S (.var 6)]] none aup [Z4] aJE (fC):=tc
def aJG:gU 99:=gY Tryz.func99 aS
def XE (n:Nat):gu:=⟨Z4,fun ds=>match ds with|[.int .i64 _,.str nn,.int .i64 _,.R rows,.int .i64 _,.int .i64 k]=>aW O (.str nn) .str/\aW O (.R rows) (.R 2)/\k=0/\(∀x∈rows,aI x<=n)|_=>False,
 fun ds j out=>match ds with
  |[_,_,_,.R rows,.int .i64 a,_]=>match j with
   |0=>out=[.int .i64 (rows.foldl (fun a x=>max a (oQ n x)) a)]
   |_=>False
  |_=>False⟩
def aL3 (b':bH T) (n:Nat) (l:(Gn n).aA T):(XE n).aA T 99:=by
 intro ds w
 match ds,w with
 |[.int .i64 c',.str nn,.int .i64 d',.R rows,.int .i64 a0,.int .i64 _],⟨A,E,rfl,F⟩=>
 obtain⟨a',P,hlen,W⟩:=bW E;cases P;refine vL (c:=XE n) mI mixed (lT b') Z5.one Z5.bX (fun j o N=>?_) rfl rfl Z5.self Z5.jC (mK (cs:=[Gn n]) rfl (all_cons l all_nil)) (mP (ls:=[]) rfl all_nil)
  (lQ:=fun i m ds=>∃(k:Nat) (a:Int),ds=[.int .i64 c',.str nn,.int .i64 d',.R rows,.int .i64 a,.int .i64 k]/\m=rows.length-k/\k<=rows.length/\rows.foldl (fun a x=>max a (oQ n x)) a0=(rows.drop k).foldl (fun a x=>max a (oQ n x)) a) (m:=rows.length) ⟨0,a0,rfl,rfl,gK _,rfl⟩ ?_
 ·exact Ol
 ·intro i st m h' e e'
  match i,e with
  |0,e=>
   obtain rfl:=bI e;obtain⟨k,a,rfl,rfl,l',hc⟩:=e';refine⟨ay aO (ay A (ay aO (ay E (ay aO (ay aO aX))))),?_⟩;refine iR rfl (fun h=>?_) (fun h=>?_)
   ·replace h:k<rows.length:=by simpa using h
    refine lM (mg rfl bS) ?_;obtain⟨row,hrow,q⟩:=kZ W h;have y:=F _ (kg hrow);obtain⟨k1,t1,x1,c1,rfl,i',j',k'⟩:=oF q;refine nT (jD (vC rfl (gP (gI rfl rfl hrow rfl) (gP (gI rfl rfl hrow rfl) (gP (gI rfl rfl hrow rfl) (gP (gI rfl rfl hrow rfl) uy))))) qh) rfl rfl ⟨⟨q,y⟩,rfl⟩ (fun f' post hR _ _=>?_);obtain⟨hR,g'⟩:=hR;replace hR:f'=.one (.int .i64 (oQ n [.int .i64 k1,.str t1,.int .i64 x1,.R c1])):=hR;subst hR g';refine iR rfl (fun u=>?_) (fun u=>?_)
    ·replace u:a<oQ n [.int .i64 k1,.str t1,.int .i64 x1,.R c1]:=by simpa using u
     refine fV rfl ⟨[_,_,_,_,_,_],rfl,.inl ⟨_,wO,?_,k+1,oQ n [.int .i64 k1,.str t1,.int .i64 x1,.R c1],?_,rfl,?_,?_⟩⟩
     ·omega
     ·exact yw
     ·omega
     ·exact aqX
    ·replace u:¬a<oQ n [.int .i64 k1,.str t1,.int .i64 x1,.R c1]:=by simpa using u
     refine fV rfl ⟨[_,_,_,_,_,_],rfl,.inl ⟨_,wO,?_,k+1,a,?_,rfl,?_,?_⟩⟩
     ·omega
     ·exact yw
     ·omega
     ·exact apQ
   ·exact aqa
  |i+1,e=>simp[auo] at e
def aL5 (y:bH T) (n:Nat) (e:(Gn n).aA T):(Gn (n+1)).aA T:=by
 intro V pre ⟨u,Z⟩
 match V,u with
 |[.agg F],⟨A,hex⟩=>
 obtain⟨k0,t0,x0,c0,rfl,h,l,q⟩:=oF A;obtain rfl:=Z;obtain⟨fn,hf,E⟩:=aJG;refine xk (c:=Gn (n+1)) mI mixed (lT y) hf E (mK (cs:=[Gn n]) rfl (all_cons e all_nil)) (mP (ls:=[XE n]) rfl (all_cons (aL3 y n e) all_nil)) (pre:=[]) aJF (ay aO (ay (mo h) (ay aO (ay (eP l q) aX)))) rfl rfl rfl ?_;refine uV rfl ⟨mo h,eP l q,rfl,fun x hx=>?_⟩ (fun j x S' ks out w hR P=>?_)
 ·exact Yy
 ·match j,w,hR with
  |0,_,N=>
   exact arK
  |j+1,w,_=>simp[lam,XE,Z4] at w
def atU:G bJ:=[ah5]
def TI:eX:=⟨0,33,ak1,[(.ret,⟨[(4,QU)],[],11⟩,[]),(.normal,⟨[],[],11⟩,[])]⟩
def atT:G iq:=[⟨ak1,[C,C,.str,C,.R 2,C],.B ab8 (.fT Bg (.B (.bin .eql fE vo) (.B (.bin .eql fQ cO) (.call 0 [Wj,.S (.bin .add bQ cO)] [] acQ) ajM) ajM)) Ez⟩]
def aHB:Tree:=.B F9 (.B (.bin .geq dx dB) eF (.bX 0 amO Kw)) (.bX 0 amO Kw)
def ZO:ko 146 200 0 TI atU [] atT:=.of aS
def aHC:TC 146 [.agg [.S (.var 3),.S (.var 4),.S (.var 5),.S (.var 6)],.S (.var 7)] none atU [TI] aHB (fC++[C]):=tc
def aHD:gU 146:=gY Tryz.func146 aS
def Rm (n:Nat):gu:=⟨TI,fun ds=>match ds with|[.int .i64 _,.int .i64 _,.str nn,.int .i64 _,.R rows,.int .i64 k]=>aW O (.str nn) .str/\aW O (.R rows) (.R 2)/\k=0/\(∀x∈rows,aI x<=n)|_=>False,
 fun ds j out=>match ds with
  |[.int .i64 u,.int .i64 e,_,_,.R rows,_]=>match j with
   |0=>out=[]/\qL (jy n) e u 0 rows=false
   |_=>out=[]/\qL (jy n) e u 0 rows=true
  |_=>False⟩
def aCR (a':bH T) (n:Nat) (l:(CX n).aA T):(Rm n).aA T 146:=by
 intro ds w
 match ds,w with
 |[.int .i64 u,.int .i64 kk,.str nn,.int .i64 b',.R rows,.int .i64 _],⟨y,A,rfl,E⟩=>
 obtain⟨W,F,hlen,P⟩:=bW A;cases F;refine vL (c:=Rm n) mI mixed (lT a') ZO.one ZO.bX (fun j o N=>?_) rfl rfl ZO.self ZO.jC (mK (cs:=[CX n]) rfl (all_cons l all_nil)) (mP (ls:=[]) rfl all_nil)
  (lQ:=fun i m ds=>∃(k:Nat),ds=[.int .i64 u,.int .i64 kk,.str nn,.int .i64 b',.R rows,.int .i64 k]/\m=rows.length-k/\k<=rows.length/\qL (jy n) kk u 0 rows=qL (jy n) kk u k (rows.drop k)) (m:=rows.length) ⟨0,rfl,rfl,gK _,rfl⟩ ?_
 ·exact Gx
 ·intro i st m f' e c'
  match i,e with
  |0,e=>
   obtain rfl:=bI e;obtain⟨k,rfl,rfl,j',hc⟩:=c';refine⟨ay aO (ay aO (ay y (ay aO (ay A (ay aO aX))))),?_⟩;refine iR rfl (fun h=>?_) (fun h=>?_)
   ·replace h:k<rows.length:=by simpa using h
    refine lM (mg rfl bS) ?_;obtain⟨row,hrow,jO⟩:=kZ P h;have mh:=E _ (kg hrow);obtain⟨k1,t1,x1,c1,rfl,g',h',i'⟩:=oF jO;refine iR rfl (fun q=>?_) (fun q=>?_)
    ·replace q:kk=6:=by simpa using q
     refine iR rfl (fun J=>?_) (fun J=>?_)
     ·replace J:k=1:=by have:(k:Int)=1:=by simpa using J
                        omega
      have Am:(if kk==6&&k==1 then IntKind.i64.wrap (u+1) else IntKind.i64.wrap (u+0))=IntKind.i64.wrap (u+1):=bK (by simp[q,J])
      refine nT (jD (vC rfl (gP (gI rfl rfl hrow rfl) (gP (gI rfl rfl hrow rfl) (gP (gI rfl rfl hrow rfl) (gP (gI rfl rfl hrow rfl) uy))))) (jD (sj (d:=.int .i64 (IntKind.i64.wrap (u+1))) rfl) qh)) rfl rfl ⟨⟨jO,aO,mh⟩,rfl⟩ (fun d' post hR _ _=>?_);obtain⟨hR,e'⟩:=hR;replace hR:d'=.one (.bool (jy n [.int .i64 k1,.str t1,.int .i64 x1,.R c1] (IntKind.i64.wrap (u+1)))):=hR;subst hR e';refine iR rfl (fun hb=>?_) (fun hb=>?_)
      ·replace hb:jy n [.int .i64 k1,.str t1,.int .i64 x1,.R c1] (IntKind.i64.wrap (u+1))=true:=by simpa using hb
       refine fV rfl ⟨[_,_,_,_,_,_],rfl,.inl ⟨_,wO,?_,k+1,?_,rfl,?_,?_⟩⟩
       ·omega
       ·exact yw
       ·omega
       ·exact YH
      ·replace hb:jy n [.int .i64 k1,.str t1,.int .i64 x1,.R c1] (IntKind.i64.wrap (u+1))=false:=by simpa using hb
       refine fV rfl ⟨[],rfl,.inr ⟨0,_,_,_,rfl,rfl,aX,rfl,?_⟩⟩;exact YH
     ·replace J:¬k=1:=by have:¬(k:Int)=1:=by simpa using J
                         omega
      have Am:(if kk==6&&k==1 then IntKind.i64.wrap (u+1) else IntKind.i64.wrap (u+0))=IntKind.i64.wrap (u+0):=bB Dl
      exact apJ
    ·replace q:¬kk=6:=by simpa using q
     have Am:(if kk==6&&k==1 then IntKind.i64.wrap (u+1) else IntKind.i64.wrap (u+0))=IntKind.i64.wrap (u+0):=bB (by simp[q])
     exact apJ
   ·exact R_
  |i+1,e=>simp[atT] at e
def KO {u:Int}:jy (b+1) [.int .i64 k,.str q,.int .i64 o,.R l] u=(!(k==5&&decide (u<=o))&&qL (jy b) k u 0 l):=rfl
def aCS (P:bH T) (n:Nat) (e:(CX n).aA T):(CX (n+1)).aA T:=by
 intro V pre ⟨F,Z⟩
 match V,F with
 |[.agg f',.one d1],⟨W,a',b'⟩=>
 obtain⟨k0,t0,x0,c0,rfl,w,y,A⟩:=oF W;obtain⟨u,rfl⟩:=a'.int;obtain rfl:=Z;obtain⟨fn,hf,c'⟩:=aHD;refine xk (c:=CX (n+1)) mI mixed (lT P) hf c' (mK (cs:=[CX n]) rfl (all_cons e all_nil)) (mP (ls:=[Rm n]) rfl (all_cons (aCR P n e) all_nil)) (pre:=[]) aHC (ay aO (ay (mo w) (ay aO (ay (eP y A) (ay aO aX))))) rfl rfl rfl ?_;have E:∀x∈c0,aI x<=n:=fun x d'=>by
  have g':=qj d';rw[vD] at b';omega
 refine iR rfl (fun h=>?_) (fun h=>?_)
 ·replace h:k0=5:=by simpa using h
  refine iR rfl (fun l=>?_) (fun l=>?_)
  ·replace l:u<=x0:=by simpa using l
   exact fV rfl ⟨_,[],rfl,⟨(show DA.one (.bool false)=.one (.bool (jy (n+1) [.int .i64 k0,.str t0,.int .i64 x0,.R c0] u)) by rw[KO];simp[h,l]),rfl⟩,nZ zu,aX⟩
  ·replace l:¬u<=x0:=by simpa using l
   refine uV rfl ⟨mo w,eP y A,rfl,E⟩ (fun j x S' ks out q hR e'=>?_)
   match j,q,hR with
   |0,_,⟨N,hc⟩=>
    exact ap3
   |1,_,⟨N,hc⟩=>
    subst N;exact Eb (p9 (fV rfl ⟨_,[],rfl,⟨(show DA.one (.bool true)=.one (.bool (jy (n+1) [.int .i64 k0,.str t0,.int .i64 x0,.R c0] u)) by rw[KO,hc];simp[l]),rfl⟩,nZ zu,aX⟩))
   |j+2,q,_=>simp[lam,Rm,TI] at q
 ·replace h:¬k0=5:=by simpa using h
  refine uV rfl ⟨mo w,eP y A,rfl,E⟩ (fun j x S' ks out q hR e'=>?_)
  match j,q,hR with
  |0,_,⟨N,hc⟩=>
   exact ap3
  |1,_,⟨N,hc⟩=>
   subst N;exact Eb (p9 (fV rfl ⟨_,[],rfl,⟨(show DA.one (.bool true)=.one (.bool (jy (n+1) [.int .i64 k0,.str t0,.int .i64 x0,.R c0] u)) by rw[KO,hc];simp[h]),rfl⟩,nZ zu,aX⟩))
  |j+2,q,_=>simp[lam,Rm,TI] at q
def aui:G bJ:=[]
def ZV:eX:=⟨0,45,QG,[(.normal,QG,[.R 9,C,C])]⟩
def auh:G iq:=[⟨QG,[.R 9,C,C],.B abT (.fT Ky (.B (.bin .lss VH fE) (.leaf 0 aej []) (.leaf 1 Vw []))) (.leaf 1 Vw [])⟩]
def aIT:Tree:=.bX 0 [bQ,fE,aH] (.cons (.B Mx (.fT yY (.B (.bin .eql WW dN) (.leaf 0 [cu] []) (.fT (.bin .leq aH dB) (.fT (.bin .leq dB qg) (.fT (.bin .leq (.len ab0) mG) (.fT (.bin .leq (.len acF) mG) (.fT adi aml))))))) (.fT (.bin .leq aH dB) (.fT (.bin .leq dB qg) (.fT (.bin .leq (.len ab0) mG) (.fT (.bin .leq (.len acF) mG) (.fT yY (.fT adi aml))))))) .nil)
def ZW:ko 164 200 0 ZV aui [] auh:=.of aS
def aIU:TC 164 [.S (.var 3),.S (.var 4)] none aui [ZV] aIT ([.R 9]++[C]):=tc
def aIV:gU 164:=gY Tryz.func164 aS
section
variable {F:Nat->D} {a b lo J:Y} {rows ra rb:G (G D)} {i j:Nat}
def ape (e:den F a=some (.R rows)) (h:den F lo=some (.int .i64 (i:Nat))) (l:den F J=some (.int .i64 (j:Nat))) (q:i<=j) (u:j<=rows.length):den F (.sub a lo J)=some (.R ((rows.take j).drop i)):=by
 simp only[den,e,h,l,f_];show(if i<=j/\j<=rows.length then some (D.R ((rows.take j).drop i)) else none)=_
 rw[bK ⟨q,u⟩]
def apb (e:den F a=some (.R ra)) (h:den F b=some (.R rb)):den F (.cat a b)=some (.R (ra++rb)):=by
 simp only[den,e,h,f_,ND]
end
def XB:gu:=⟨ZV,fun ds=>match ds with|[.R rows,.int .i64 _,.int .i64 k]=>aW O (.R rows) (.R 9)/\k=0|_=>False,
 fun ds _ out=>match ds with
  |[.R rows,.int .i64 x,_]=>∃k:Nat,k<=rows.length/\out=[.R rows,.int .i64 x,.int .i64 k]
  |_=>False⟩
def aFF (A:bH T):XB.aA T 164:=by
 intro ds l
 match ds,l with
 |[.R rows,.int .i64 x,.int .i64 _],⟨h1,rfl⟩=>
 obtain⟨y,u,hlen,w⟩:=bW h1;cases u;refine vL (c:=XB) mI mixed (lT A) ZW.one ZW.bX (fun j o N=>?_) rfl rfl ZW.self ZW.jC (mK (cs:=[]) rfl all_nil) (mP (ls:=[]) rfl all_nil)
  (lQ:=fun i m ds=>∃(k:Nat),ds=[.R rows,.int .i64 x,.int .i64 k]/\m=rows.length-k/\k<=rows.length) (m:=rows.length) ⟨0,rfl,rfl,gK _⟩ ?_
 ·exact Ol
 ·intro i st m P e E
  match i,e with
  |0,e=>
   obtain rfl:=bI e;obtain⟨k,rfl,rfl,hk⟩:=E;refine⟨ay h1 (ay aO (ay aO aX)),?_⟩;refine iR rfl (fun h=>?_) (fun h=>?_)
   ·replace h:k<rows.length:=by simpa using h
    refine lM (mg rfl bS) ?_;obtain⟨row,q,jO⟩:=kZ w h;obtain⟨v,rfl⟩:∃v,row=[.int .i64 v]:=by
     exact aqh
    refine iR (mJ (gI rfl rfl q rfl) rfl rfl) (fun F=>?_) (fun F=>?_)
    ·refine fV rfl ⟨[_,_,_],rfl,.inl ⟨_,wO,?_,k+1,?_,rfl,?_⟩⟩
     ·omega
     ·exact yw
     ·omega
    ·exact arI
   ·exact arI
  |i+1,e=>simp[auh] at e
def aFG (d':bH T):Nw.aA T:=by
 intro V pre ⟨P,Z⟩
 match V,P with
 |[.one d0,.one d1],⟨q,e',A⟩=>
 obtain⟨w,rfl,i',U⟩:=bW q;obtain⟨u,rfl⟩:=e'.int;obtain rfl:=Z;replace A:w.length<1000000:=A;obtain⟨fn,hf,f'⟩:=aIV;refine xk (c:=Nw) mI mixed (lT d') hf f' (mK (cs:=[]) rfl all_nil) (mP (ls:=[XB]) rfl (all_cons (aFF d') all_nil)) (pre:=[]) aIU (ay q (ay aO aX)) rfl rfl rfl ?_;refine uV rfl ⟨q,rfl⟩ (fun j x S' ks out W hR j'=>?_)
 match j,W,hR with
 |j+1,W,_=>simp[lam,XB,ZV] at W
 |0,_,⟨k,E,N⟩=>
 subst N;refine p9 ?_;have e1:∀{F:Nat->D},F 5=.R w->F 7=.int .i64 (k:Nat)->den F (.cat .d9 (.sub (.var 5) (.int .i64 0) (.var 7)))=some (.R (w.take k)):=fun l y=>
  apb (ra:=[]) (rb:=w.take k) rfl (ape (i:=0) (j:=k) (by simp only[den,l]) rfl (by simp only[den,y]) (gK _) E)
 have a':∀{F:Nat->D},F 5=.R w->F 6=.int .i64 u->F 7=.int .i64 (k:Nat)->den F (.snoc (.cat .d9 (.sub (.var 5) (.int .i64 0) (.var 7))) [(.var 6)])=some (.R (w.take k++[[D.int .i64 u]])):=fun l b' y=>
  KR (e1 l y) (by simp only[cZ,den,b',f_])
 have e3:∀{F:Nat->D},F 5=.R w->F 6=.int .i64 u->F 7=.int .i64 (k:Nat)->den F (.cat (.snoc (.cat .d9 (.sub (.var 5) (.int .i64 0) (.var 7))) [(.var 6)]) (.sub (.var 5) (.var 7) (.len (.var 5))))=some (.R (w.take k++[[D.int .i64 u]]++w.drop k)):=fun l b' y=>by
  refine apb (a' l b' y) ?_;rw[ape (rows:=w) (i:=k) (j:=w.length) (by simp only[den,l]) (by simp only[den,y]) (uq (by simp only[den,l])) E (bq _),FU]
 have hkw:aW O (.R (w.take k++[[D.int .i64 u]]++w.drop k)) (.R 9):=by
  refine eP ?_ (dR.of fun row e=>?_)
  ·simp only[mD,oL,sK,gD,lN];unfold gB;omega
  ·rcases qV.1 e with e|e
   ·rcases qV.1 e with e|e
    ·exact U.mem _ (J3 e)
    ·obtain rfl:=yR.1 e;exact ay aO aX
   ·exact U.mem _ (AY e)
 have Zg:w.take k++[[D.int .i64 u]]++w.drop k≠[]:=bS;have hle:(w.take k++[[D.int .i64 u]]++w.drop k).length<=w.length+1:=by
  simp only[mD,oL,sK,gD,lN];omega
 refine iR rfl (fun h=>?_) (fun h=>?_)
 ·replace h:k<w.length:=by simpa using h
  refine lM (mg rfl bS) ?_;obtain⟨row,c',jO⟩:=kZ U h;obtain⟨v,rfl⟩:∃v,row=[.int .i64 v]:=by
   exact aqh
  refine iR (mJ (gI rfl rfl c' rfl) rfl rfl) (fun g'=>?_) (fun g'=>?_)
  ·exact fV rfl ⟨_,[],rfl,⟨⟨w,rfl,(fun h'=>by subst h';simp at h),(show w.length<=w.length+1 by omega)⟩,rfl⟩,nZ q,aX⟩
  ·refine lM (mg rfl bS) ?_
   refine lM (mg rfl gJ) ?_;refine lM (mg (mJ (uq (e1 rfl rfl)) rfl rfl) (by simp only[iL,oL];omega)) ?_
   refine lM (mg (mJ (uq (a' rfl rfl rfl)) rfl rfl) ap0) ?_;exact aqD
 ·refine lM (mg rfl bS) ?_
  refine lM (mg rfl gJ) ?_;refine lM (mg (mJ (uq (e1 rfl rfl)) rfl rfl) (by simp only[iL,oL];omega)) ?_
  refine lM (mg (mJ (uq (a' rfl rfl rfl)) rfl rfl) ap0) ?_;refine lM (mg rfl bS) ?_;exact aqD
def aug:G bJ:=[avP,⟨164,none,(.one (.R 9))⟩]
def Pj:eX:=⟨0,43,anY,[(.normal,⟨[(2,dY)],[],11⟩,[.R 9])]⟩
def auf:G iq:=[⟨anY,[C,.R 9,C,.str,C,.R 2,C],.B (.bin .lss bZ (.len fQ)) (.fT (.bin .geq bZ aH) (.B (.bin .eql dx vo) (.B (.bin .eql bZ cO) (.call 0 [.agg aj6,.S (.bin .add bQ cO),fJ] [] (.leaf 0 anP [])) ams) ams)) (.leaf 1 ze [])⟩]
def aIG:Tree:=.B F9 (.B (.bin .geq dx dB) (.call 1 [dz,.S (.bin .sub dx dB)] [] (.bX 0 [dB,bZ,bQ,fE,dx,dN,aH] (.cons (.leaf 0 [dP] []) .nil))) (.bX 0 ald (.cons adl .nil))) (.bX 0 ald (.cons adl .nil))
def ZU:ko 151 200 0 Pj aug [] auf:=.of aS
def aIH:TC 151 [.agg [.S (.var 3),.S (.var 4),.S (.var 5),.S (.var 6)],.S (.var 7),.S (.var 8)] none aug [Pj] aIG (fC++[C]++[.R 9]):=tc
def aII:gU 151:=gY Tryz.func151 aS
def Nu (n:Nat):gu:=⟨Pj,fun ds=>match ds with|[.int .i64 _,e,.int .i64 _,.str nn,.int .i64 _,.R rows,.int .i64 k]=>aW O e (.R 9)/\aW O (.str nn) .str/\aW O (.R rows) (.R 2)/\k=0/\(∀x∈rows,aI x<=n)/\(rD e).length+bM rows<=1000000|_=>False,
 fun ds j out=>match ds with
  |[.int .i64 u,e,.int .i64 h,_,_,.R rows,_]=>match j with
   |0=>∃l,out=[.R l]/\(l=[]↔rD e=[]/\qL (jy n) h u 0 rows=true)/\l.length<=(rD e).length+bM rows
   |_=>False
  |_=>False⟩
def aEl (i':bH T) (n:Nat) (q:(Gm n).aA T) (e:Nw.aA T):(Nu n).aA T 151:=by
 intro ds W
 match ds,W with
 |[.int .i64 u,l',.int .i64 kk,.str nn,.int .i64 j',.R rows,.int .i64 _],⟨F,b',c',rfl,d',E⟩=>
 obtain⟨A,rfl,_,_⟩:=bW F;obtain⟨h',e',hlen,f'⟩:=bW c';cases e';replace E:A.length+bM rows<=1000000:=E;refine vL (c:=Nu n) mI mixed (lT i') ZU.one ZU.bX (fun j o N=>?_) rfl rfl ZU.self ZU.jC (mK (cs:=[Gm n,Nw]) rfl (all_cons q (all_cons e all_nil))) (mP (ls:=[]) rfl all_nil)
  (lQ:=fun i m ds=>∃(k:Nat) (a:G Rw),ds=[.int .i64 u,.R a,.int .i64 kk,.str nn,.int .i64 j',.R rows,.int .i64 k]/\m=rows.length-k/\k<=rows.length/\aW O (.R a) (.R 9)/\(A=[]/\qL (jy n) kk u 0 rows=true↔a=[]/\qL (jy n) kk u k (rows.drop k)=true)/\a.length+bM (rows.drop k)<=A.length+bM rows) (m:=rows.length) ⟨0,A,rfl,rfl,gK _,F,Iff.rfl,bq _⟩ ?_
 ·exact Ol
 ·intro i st m m' w k'
  match i,w with
  |0,w=>
   obtain rfl:=bI w;obtain⟨k,a,rfl,rfl,q',ha,hc,g'⟩:=k';refine⟨ay aO (ay ha (ay aO (ay b' (ay aO (ay c' (ay aO aX)))))),?_⟩;refine iR rfl (fun h=>?_) (fun h=>?_)
   ·replace h:k<rows.length:=by simpa using h
    refine lM (mg rfl bS) ?_;obtain⟨row,hrow,jO⟩:=kZ f' h;have mh:=d' _ (kg hrow);obtain⟨k1,t1,x1,c1,rfl,n',o',p'⟩:=oF jO;rw[ny hrow,bM] at g';refine iR rfl (fun y=>?_) (fun y=>?_)
    ·replace y:kk=6:=by simpa using y
     refine iR rfl (fun J=>?_) (fun J=>?_)
     ·replace J:k=1:=by have:(k:Int)=1:=by simpa using J
                        omega
      have Am:(if kk==6&&k==1 then IntKind.i64.wrap (u+1) else IntKind.i64.wrap (u+0))=IntKind.i64.wrap (u+1):=bK (by simp[y,J])
      refine nT (jD (vC rfl (gP (gI rfl rfl hrow rfl) (gP (gI rfl rfl hrow rfl) (gP (gI rfl rfl hrow rfl) (gP (gI rfl rfl hrow rfl) uy))))) (jD (sj (d:=.int .i64 (IntKind.i64.wrap (u+1))) rfl) (jD (sj (d:=.R a) rfl) qh))) rfl rfl ⟨⟨jO,aO,ha,mh,(show a.length+aI [.int .i64 k1,.str t1,.int .i64 x1,.R c1]<=1000000 by omega)⟩,rfl⟩ (fun r' post hR a' _=>?_)
      obtain⟨⟨l,rfl,hl,P⟩,rfl⟩:=hR;replace P:l.length<=a.length+aI [.int .i64 k1,.str t1,.int .i64 x1,.R c1]:=P;replace hl:l=[]↔a=[]/\jy n [.int .i64 k1,.str t1,.int .i64 x1,.R c1] (IntKind.i64.wrap (u+1))=true:=hl;refine fV rfl ⟨[_,_,_,_,_,_,_],rfl,.inl ⟨_,wO,?_,k+1,l,?_,rfl,?_,agD a',?_,?_⟩⟩
      ·omega
      ·exact yw
      ·omega
      ·exact apF
      ·omega
     ·replace J:¬k=1:=by have:¬(k:Int)=1:=by simpa using J
                         omega
      have Am:(if kk==6&&k==1 then IntKind.i64.wrap (u+1) else IntKind.i64.wrap (u+0))=IntKind.i64.wrap (u+0):=bB Dl
      exact aqK
    ·replace y:¬kk=6:=by simpa using y
     have Am:(if kk==6&&k==1 then IntKind.i64.wrap (u+1) else IntKind.i64.wrap (u+0))=IntKind.i64.wrap (u+0):=bB (by simp[y])
     exact aqK
   ·refine fV rfl ⟨[_],rfl,.inr ⟨0,_,_,_,rfl,rfl,ay ha aX,a,rfl,?_,(show a.length<=A.length+bM rows by omega)⟩⟩
    have h:¬k<rows.length:=rM;show a=[]↔A=[]/\qL (jy n) kk u 0 rows=true;rw[hc,yQ I];simp[qL]
  |i+1,w=>simp[auf] at w
def aEm (m':bH T) (n:Nat) (y:(Gm n).aA T) (w:Nw.aA T):(Gm (n+1)).aA T:=by
 intro V pre ⟨l',Z⟩
 match V,l' with
 |[.agg u',.one d1,.one v'],⟨n',o',W,p',a'⟩=>
 obtain⟨P,j',b',c0,rfl,f',g',h'⟩:=oF n';obtain⟨u,rfl⟩:=o'.int;obtain⟨E,rfl,_,_⟩:=bW W;replace a':E.length+aI [.int .i64 P,.str j',.int .i64 b',.R c0]<=1000000:=a';rw[vD] at a';obtain rfl:=Z;obtain⟨fn,hf,r'⟩:=aII;refine xk (c:=Gm (n+1)) mI mixed (lT m') hf r' (mK (cs:=[Gm n,Nw]) rfl (all_cons y (all_cons w all_nil))) (mP (ls:=[Nu n]) rfl (all_cons (aEl m' n y w) all_nil)) (pre:=[]) aIH (ay aO (ay (mo f') (ay aO (ay (eP g' h') (ay aO (ay W aX)))))) rfl rfl rfl ?_;have c':∀x∈c0,aI x<=n:=fun x s'=>by
  have w':=qj s';rw[vD] at p';omega
 refine iR rfl (fun d'=>?_) (fun d'=>?_)
 ·replace d':P=5:=by simpa using d'
  refine iR rfl (fun e'=>?_) (fun e'=>?_)
  ·replace e':u<=b':=by simpa using e'
   refine nT (jD (sj (d:=.R E) rfl) (jD (sj (d:=.int .i64 (IntKind.i64.wrap (b'-u))) rfl) qh)) rfl rfl ⟨⟨W,aO,(show E.length<1000000 by omega)⟩,rfl⟩ (fun x' post hR q' _=>?_)
   obtain⟨⟨l,rfl,t',k'⟩,rfl⟩:=hR;replace k':l.length<=E.length+1:=k';refine uV rfl ⟨agD q',mo f',eP g' h',rfl,c',(show l.length+bM c0<=1000000 by omega)⟩ (fun j x S' ks out h hR i'=>?_)
   match j,h,hR with
   |0,h,⟨A,N,q,F⟩=>
    subst N;replace F:A.length<=l.length+bM c0:=F;replace q:A=[]↔l=[]/\qL (jy n) P u 0 c0=true:=q;have e:=iE (Option.map (fun p=>p.2.2)) h;obtain rfl:=bI (show some [Kd.R 9]=some ks from e)
    exact p9 (fV rfl ⟨_,[],rfl,⟨⟨A,rfl,q.trans (by rw[KO];simp[d',e',rD,iD,t']),(show A.length<=E.length+aI [.int .i64 P,.str j',.int .i64 b',.R c0] by rw[vD];omega)⟩,rfl⟩,nZ (OE i'),aX⟩)
   |j+1,h,_=>simp[lam,Nu,Pj] at h
  ·replace e':¬u<=b':=by simpa using e'
   refine uV rfl ⟨W,mo f',eP g' h',rfl,c',(show E.length+bM c0<=1000000 by omega)⟩ (fun j x S' ks out h hR i'=>?_)
   match j,h,hR with
   |0,h,⟨A,N,q,F⟩=>
    subst N;replace F:A.length<=E.length+bM c0:=F;replace q:A=[]↔E=[]/\qL (jy n) P u 0 c0=true:=q;have e:=iE (Option.map (fun p=>p.2.2)) h;obtain rfl:=bI (show some [Kd.R 9]=some ks from e)
    exact p9 (fV rfl ⟨_,[],rfl,⟨⟨A,rfl,q.trans (by rw[KO];simp[e',rD,iD]),(show A.length<=E.length+aI [.int .i64 P,.str j',.int .i64 b',.R c0] by rw[vD];omega)⟩,rfl⟩,nZ (OE i'),aX⟩)
   |j+1,h,_=>simp[lam,Nu,Pj] at h
 ·replace d':¬P=5:=by simpa using d'
  refine uV rfl ⟨W,mo f',eP g' h',rfl,c',(show E.length+bM c0<=1000000 by omega)⟩ (fun j x S' ks out h hR i'=>?_)
  match j,h,hR with
  |0,h,⟨A,N,q,F⟩=>
   subst N;replace F:A.length<=E.length+bM c0:=F;replace q:A=[]↔E=[]/\qL (jy n) P u 0 c0=true:=q;have e:=iE (Option.map (fun p=>p.2.2)) h;obtain rfl:=bI (show some [Kd.R 9]=some ks from e)
   exact p9 (fV rfl ⟨_,[],rfl,⟨⟨A,rfl,q.trans (by rw[KO];simp[d',rD,iD]),(show A.length<=E.length+aI [.int .i64 P,.str j',.int .i64 b',.R c0] by rw[vD];omega)⟩,rfl⟩,nZ (OE i'),aX⟩)
  |j+1,h,_=>simp[lam,Nu,Pj] at h
def aJy:G bJ:=[avP]
def aJz:Tree:=.call 0 [MN,aN,aF] [] (.leaf 0 [.S QA] [])
def aJA:TC 126 [.agg [.S (.var 3),.S (.var 4),.S (.var 5),.S (.var 6)]] none aJy [] aJz (fC):=tc
def aJB:gU 126:=gY Tryz.func126 aS
def auU (a':bH T) (n:Nat) (hn:n<=1000000) (e:(Gm n).aA T):(zi n).aA T:=by
 intro V pre ⟨y,Z⟩
 match V,y with
 |[.agg d'],⟨w,E⟩=>
 obtain⟨j,q,u,c0,rfl,F,P,W⟩:=oF w;obtain rfl:=Z;obtain⟨fn,hf,b'⟩:=aJB;refine xk (c:=zi n) mI mixed (lT a') hf b' (mK (cs:=[Gm n]) rfl (all_cons e all_nil)) (mP (ls:=[]) rfl all_nil) (pre:=[]) aJA (ay aO (ay (mo F) (ay aO (ay (eP P W) aX)))) rfl rfl rfl ?_;refine nT (jD (vC (es:=[.var 3,.var 4,.var 5,.var 6]) (ds:=[.int .i64 j,.str q,.int .i64 u,.R c0]) rfl rfl) (jD (sj (d:=.int .i64 0) rfl) (jD (sj (d:=.R []) rfl) qh))) rfl rfl ⟨⟨w,aO,eP (gK _) (dR.of fun _ h=>absurd h Ef),E,(show([]:G Rw).length+aI [.int .i64 j,.str q,.int .i64 u,.R c0]<=1000000 by simp only[lN];omega)⟩,rfl⟩ (fun e' post hR c' _=>?_)
 obtain⟨⟨l,rfl,A,_⟩,rfl⟩:=hR;replace A:l=[]↔([]:G Rw)=[]/\jy n [.int .i64 j,.str q,.int .i64 u,.R c0] 0=true:=A;refine fV rfl ⟨_,[],rfl,⟨(show DA.one (.bool ((l.length:Int)==0))=.one (.bool (jy n [.int .i64 j,.str q,.int .i64 u,.R c0] 0)) from ?_),rfl⟩,nZ zu,aX⟩
 rw[DA.one.injEq,D.bool.injEq,AP]
 simpa using A
def auA:G bJ:=[avV,avA]
def Z7:eX:=⟨0,28,abZ,[(.ret,VP,[]),(.normal,⟨[(1,fU)],[(10,Kq)],11⟩,[C,.str,C,.R 2])]⟩
def auz:G iq:=[⟨abZ,[C,.str,C,.R 2,C],.B Km (.fT yY (.call 1 [Qq] [] Qv)) (.leaf 2 zV [])⟩]
def aKC:Tree:=.B F9 EC (.call 0 Kk [] (.B dB EC (.bX 0 Qx (.cons eF (.cons (.leaf 0 [.S (.bin .eql fQ iP)] []) .nil)))))
def Z8:ko 125 200 0 Z7 auA [] auz:=.of aS
def aKD:TC 125 [.agg [.S (.var 3),.S (.var 4),.S (.var 5),.S (.var 6)]] none auA [Z7] aKC (fC):=tc
def aKE:gU 125:=gY Tryz.func125 aS
def Rx (n:Nat):gu:=⟨Z7,fun ds=>match ds with|[.int .i64 _,.str nn,.int .i64 _,.R rows,.int .i64 k]=>aW O (.str nn) .str/\aW O (.R rows) (.R 2)/\k=0/\(∀x∈rows,aI x<=n)|_=>False,
 fun ds j out=>match ds with
  |[.int .i64 e,.str nn,.int .i64 h,.R rows,_]=>match j with
   |0=>out=[]/\rows.all (mZ n)=false
   |_=>out=[.int .i64 e,.str nn,.int .i64 h,.R rows]/\rows.all (mZ n)=true
  |_=>False⟩
def aMl (F:bH T) (n:Nat) (e:(zi (n+1)).aA T) (q:(zZ n).aA T):(Rx n).aA T 125:=by
 intro ds w
 match ds,w with
 |[.int .i64 P,.str nn,.int .i64 W,.R rows,.int .i64 _],⟨u,y,rfl,hex⟩=>
 obtain⟨E,A,hlen,hkr⟩:=bW y;cases A;refine vL (c:=Rx n) mI mixed (lT F) Z8.one Z8.bX (fun j o N=>?_) rfl rfl Z8.self Z8.jC (mK (cs:=[(zi (n+1)),(zZ n)]) rfl (all_cons e (all_cons q all_nil))) (mP (ls:=[]) rfl all_nil)
  (lQ:=fun i m ds=>∃(k:Nat),ds=[.int .i64 P,.str nn,.int .i64 W,.R rows,.int .i64 k]/\m=rows.length-k/\k<=rows.length/\rows.all (mZ n)=(rows.drop k).all (mZ n)) (m:=rows.length) ⟨0,rfl,rfl,gK _,rfl⟩ ?_
 ·exact Gx
 ·intro i st m b' l a'
  match i,l with
  |0,l=>
   obtain rfl:=bI l;obtain⟨k,rfl,rfl,c',hc⟩:=a';refine⟨ay aO (ay u (ay aO (ay y (ay aO aX)))),?_⟩;refine iR rfl (fun h=>?_) (fun h=>?_)
   ·exact arJ
   ·refine fV rfl ⟨[_,_,_,_],rfl,.inr ⟨1,_,_,_,rfl,rfl,ay aO (ay u (ay aO (ay y aX))),rfl,?_⟩⟩
    have h:¬k<rows.length:=rM;exact NV
  |i+1,l=>simp[auz] at l
def aKB.qE (h:P:=by(try simp only[tD,rD,iD,sZ,↓tO,↓uU])<;>(first|(simp[mZ,nk,jh,iD,tk,rD, *];done)|(simp_all[mZ,nk,jh,iD,tk,rD];done)|(rename_i e j l;simp[mZ,nk,jh,iD,tk,rD, *];done))):P:=h
open aKB in
def aMn (w:bH T) (n:Nat) (e:(zi (n+1)).aA T) (h:(zZ n).aA T):(zZ (n+1)).aA T:=by
 intro V pre ⟨u,Z⟩
 match V,u with
 |[.agg d'],⟨y,hex⟩=>
 obtain⟨e',f',g',c0,rfl,E,F,P⟩:=oF y;have A:fG T _ _:=(ac e aov (ac h aoA an));have aD:=(lc (aMl w n e h) nb ln);obtain rfl:=Z;have hall:∀x∈c0,aI x<=n:=fun x W=>by have h':=qj W;rw[vD] at hex;omega
 refine sV w aKE A.1 aD.1 A.2 aD.2 aKD (ay aO (ay (mo E) (ay aO (ay (eP F P) aX)))) ?_;refine au aj (fun a'=>aU) (fun a'=>?_);refine eT M (fun k=>Y5 k (bF:=by exact hex)) fun b'=>?_
 refine au aj (fun c'=>aU) (fun c'=>?_);refine qp rfl ⟨l9,l9,rfl,xg⟩ (fun j x S' ks out l hR b'=>?_)
 match j,l,hR with
 |0,l,⟨N,q⟩=>
  subst N;replace l:(Rx n).sig.outs[0]?=some (x,S',ks):=l;cases l;replace q:(c0).all (mZ n)=false:=q;exact Ae
 |1,l,⟨N,q⟩=>
  subst N;replace l:(Rx n).sig.outs[1]?=some (x,S',ks):=l;cases l;replace q:(c0).all (mZ n)=true:=q;exact Dj
 |j+2,l,_=>simp[lam,Rx,Z7] at l
def aao:G bJ:=[Uh,ah9,avA,avV,avE]
def Pm:eX:=⟨1,107,amt,[(.ret,VP,[]),(.normal,abZ,[C,.str,C,.R 2,C])]⟩
def auR:G iq:=[⟨amt,[C,.str,C,.R 2,C],.B Km (.fT yY (.call 2 [Qq] [] Qv)) (.leaf 2 [dY,fJ,cu,b_,Kt] [])⟩]
def Pn:eX:=⟨3,107,aj8,[(.ret,VP,[]),(.normal,⟨[],[],11⟩,[])]⟩
def auS:G iq:=[⟨aj8,[C,.str,C,.R 2,C,C],.B (.bin .lss fQ dB) (.fT Bg (.fT acw (.call 4 [.agg abL] [] acQ))) Ez⟩]
def BP:eX:=⟨3,107,anQ,[(.ret,VP,[]),(.normal,⟨[],[],11⟩,[])]⟩
def auT:G iq:=[⟨anQ,[C,.str,C,.R 2,C],.B Km (.fT yY (.call 4 [Qq] [] Qv)) Ez⟩]
def aLS:Tree:=.B (.bin .neq bQ iP) (.B (.bin .neq fE iF) eF (.B WJ (.B VE eF (.B iC wS (.B EK wS (.B F9 Qt (.B Nc (.call 0 ze [] (.B dB (.call 1 ze [] VD) eF)) (.B MI VA (.B QV WV Wz))))))) (.B iC wS (.B EK wS (.B F9 Qt (.B Nc (.call 0 ze [] (.B dB (.call 1 ze [] VD) eF)) (.B MI VA (.B QV WV Wz)))))))) (.B WJ (.B VE eF (.B iC wS (.B EK wS (.B F9 Qt (.B Nc (.call 0 ze [] (.B dB (.call 1 ze [] VD) eF)) (.B MI VA (.B QV WV Wz))))))) (.B iC wS (.B EK wS (.B F9 Qt (.B Nc (.call 0 ze [] (.B dB (.call 1 ze [] VD) eF)) (.B MI VA (.B QV WV Wz)))))))
def aal:ko 100 200 1 Pm aao [] auR:=.of aS
def aam:ko 100 200 3 Pn aao [] auS:=.of aS
def aan:ko 100 200 3 BP aao [] auT:=.of aS
def aLT:TC 100 [.agg [.S (.var 3),.S (.var 4),.S (.var 5),.S (.var 6)]] none aao [Pm,Pn,BP] aLS (fC):=tc
def aLU:gU 100:=gY Tryz.func100 aS
def C9 (n:Nat):gu:=⟨Pm,fun ds=>match ds with|[.int .i64 _,.str nn,.int .i64 _,.R rows,.int .i64 k]=>aW O (.str nn) .str/\aW O (.R rows) (.R 2)/\k=0/\(∀x∈rows,aI x<=n)|_=>False,
 fun ds j out=>match ds with
  |[.int .i64 e,.str nn,.int .i64 h,.R rows,_]=>match j with
   |0=>out=[]/\rows.all (mZ n)=false
   |_=>out=[.int .i64 e,.str nn,.int .i64 h,.R rows,.int .i64 (rows.length:Nat)]/\rows.all (mZ n)=true
  |_=>False⟩
def C_ (n:Nat):gu:=⟨Pn,fun ds=>match ds with|[.int .i64 _,.str nn,.int .i64 _,.R rows,.int .i64 ln,.int .i64 k]=>aW O (.str nn) .str/\aW O (.R rows) (.R 2)/\k=0/\(∀x∈rows,aI x<=n)/\ln=(rows.length:Nat)|_=>False,
 fun ds j out=>match ds with
  |[_,_,_,.R rows,_,_]=>match j with
   |0=>out=[]/\rows.all (gT n)=false
   |_=>out=[]/\rows.all (gT n)=true
  |_=>False⟩
def nW (n:Nat):gu:=⟨BP,fun ds=>match ds with|[.int .i64 _,.str nn,.int .i64 _,.R rows,.int .i64 k]=>aW O (.str nn) .str/\aW O (.R rows) (.R 2)/\k=0/\(∀x∈rows,aI x<=n)|_=>False,
 fun ds j out=>match ds with
  |[_,_,_,.R rows,_]=>match j with
   |0=>out=[]/\rows.all (gT n)=false
   |_=>out=[]/\rows.all (gT n)=true
  |_=>False⟩
def aOk (y:bH T) (n:Nat) (u:(zZ n).aA T) (l:(zi n).aA T) (e:(Br n).aA T):(C9 n).aA T 100:=by
 intro ds A
 match ds,A with
 |[.int .i64 W,.str nn,.int .i64 a',.R rows,.int .i64 _],⟨w,E,rfl,hex⟩=>
 obtain⟨P,F,hlen,hkr⟩:=bW E;cases F;refine vL (c:=C9 n) mI mixed (lT y) aal.one aal.bX (fun j o N=>?_) rfl rfl aal.self aal.jC (mK (cs:=[Jc,Jb,(zZ n),(zi n),(Br n)]) rfl (all_cons (H_ y) (all_cons (Ld y) (all_cons u (all_cons l (all_cons e all_nil)))))) (mP (ls:=[]) rfl all_nil)
  (lQ:=fun i m ds=>∃(k:Nat),ds=[.int .i64 W,.str nn,.int .i64 a',.R rows,.int .i64 k]/\m=rows.length-k/\k<=rows.length/\rows.all (mZ n)=(rows.drop k).all (mZ n)) (m:=rows.length) ⟨0,rfl,rfl,gK _,rfl⟩ ?_
 ·exact Gx
 ·intro i st m c' q b'
  match i,q with
  |0,q=>
   obtain rfl:=bI q;obtain⟨k,rfl,rfl,d',hc⟩:=b';refine⟨ay aO (ay w (ay aO (ay E (ay aO aX)))),?_⟩;refine iR rfl (fun h=>?_) (fun h=>?_)
   ·exact arJ
   ·refine fV rfl ⟨[_,_,_,_,_],rfl,.inr ⟨1,_,_,_,rfl,rfl,ay aO (ay w (ay aO (ay E (ay aO aX)))),rfl,?_⟩⟩
    have h:¬k<rows.length:=rM;exact NV
  |i+1,q=>simp[auR] at q
def aOl (y:bH T) (n:Nat) (u:(zZ n).aA T) (l:(zi n).aA T) (e:(Br n).aA T):(C_ n).aA T 100:=by
 intro ds A
 match ds,A with
 |[.int .i64 d',.str nn,.int .i64 e',.R rows,.int .i64 _,.int .i64 _],⟨F,P,rfl,W,rfl⟩=>
 obtain⟨c',a',hlen,b'⟩:=bW P;cases a';refine vL (c:=C_ n) mI mixed (lT y) aam.one aam.bX (fun j o N=>?_) rfl rfl aam.self aam.jC (mK (cs:=[Jc,Jb,(zZ n),(zi n),(Br n)]) rfl (all_cons (H_ y) (all_cons (Ld y) (all_cons u (all_cons l (all_cons e all_nil)))))) (mP (ls:=[]) rfl all_nil)
  (lQ:=fun i m ds=>∃(k:Nat),ds=[.int .i64 d',.str nn,.int .i64 e',.R rows,.int .i64 (rows.length:Nat),.int .i64 k]/\m=rows.length-k/\k<=rows.length/\rows.all (gT n)=(rows.drop k).all (gT n)) (m:=rows.length) ⟨0,rfl,rfl,gK _,rfl⟩ ?_
 ·exact Gx
 ·intro i st m i' q f'
  match i,q with
  |0,q=>
   obtain rfl:=bI q;obtain⟨k,rfl,rfl,m',hc⟩:=f';refine⟨ay aO (ay F (ay aO (ay P (ay aO (ay aO aX))))),?_⟩;refine iR rfl (fun h=>?_) (fun h=>?_)
   ·replace h:k<rows.length:=by simpa using h
    refine lM (mg rfl bS) ?_;refine lM (mg rfl rM) ?_;obtain⟨row,hrow,w⟩:=kZ b' h;have E:=W _ (kg hrow);obtain⟨k1,t1,x1,c1,rfl,j',k',l'⟩:=oF w;refine nT (jD (vC rfl (gP (gI rfl rfl hrow rfl) (gP (gI rfl rfl hrow rfl) (gP (gI rfl rfl hrow rfl) (gP (gI rfl rfl hrow rfl) uy))))) qh) rfl rfl ⟨⟨w,E⟩,rfl⟩ (fun g' post hR _ _=>?_);obtain⟨hR,h'⟩:=hR;replace hR:g'=.one (.bool ((gT n) [.int .i64 k1,.str t1,.int .i64 x1,.R c1])):=hR;subst hR h';refine iR rfl (fun hb=>?_) (fun hb=>?_)
    ·replace hb:(gT n) [.int .i64 k1,.str t1,.int .i64 x1,.R c1]=true:=by simpa using hb
     refine fV rfl ⟨[_,_,_,_,_,_],rfl,.inl ⟨_,wO,?_,k+1,?_,rfl,?_,?_⟩⟩
     ·omega
     ·exact yw
     ·omega
     ·rw[hc,ny hrow,Ip,hb,UF]
    ·exact apY
   ·exact R_
  |i+1,q=>simp[auS] at q
def aOm (y:bH T) (n:Nat) (u:(zZ n).aA T) (l:(zi n).aA T) (e:(Br n).aA T):(nW n).aA T 100:=by
 intro ds A
 match ds,A with
 |[.int .i64 d',.str nn,.int .i64 e',.R rows,.int .i64 _],⟨F,P,rfl,W⟩=>
 obtain⟨c',a',hlen,b'⟩:=bW P;cases a';refine vL (c:=nW n) mI mixed (lT y) aan.one aan.bX (fun j o N=>?_) rfl rfl aan.self aan.jC (mK (cs:=[Jc,Jb,(zZ n),(zi n),(Br n)]) rfl (all_cons (H_ y) (all_cons (Ld y) (all_cons u (all_cons l (all_cons e all_nil)))))) (mP (ls:=[]) rfl all_nil)
  (lQ:=fun i m ds=>∃(k:Nat),ds=[.int .i64 d',.str nn,.int .i64 e',.R rows,.int .i64 k]/\m=rows.length-k/\k<=rows.length/\rows.all (gT n)=(rows.drop k).all (gT n)) (m:=rows.length) ⟨0,rfl,rfl,gK _,rfl⟩ ?_
 ·exact Gx
 ·intro i st m i' q f'
  match i,q with
  |0,q=>
   obtain rfl:=bI q;obtain⟨k,rfl,rfl,m',hc⟩:=f';refine⟨ay aO (ay F (ay aO (ay P (ay aO aX)))),?_⟩;refine iR rfl (fun h=>?_) (fun h=>?_)
   ·replace h:k<rows.length:=by simpa using h
    refine lM (mg rfl bS) ?_;obtain⟨row,hrow,w⟩:=kZ b' h;have E:=W _ (kg hrow);obtain⟨k1,t1,x1,c1,rfl,j',k',l'⟩:=oF w;refine nT (jD (vC rfl (gP (gI rfl rfl hrow rfl) (gP (gI rfl rfl hrow rfl) (gP (gI rfl rfl hrow rfl) (gP (gI rfl rfl hrow rfl) uy))))) qh) rfl rfl ⟨⟨w,E⟩,rfl⟩ (fun g' post hR _ _=>?_);obtain⟨hR,h'⟩:=hR;replace hR:g'=.one (.bool ((gT n) [.int .i64 k1,.str t1,.int .i64 x1,.R c1])):=hR;subst hR h';refine iR rfl (fun hb=>?_) (fun hb=>?_)
    ·replace hb:(gT n) [.int .i64 k1,.str t1,.int .i64 x1,.R c1]=true:=by simpa using hb
     refine fV rfl ⟨[_,_,_,_,_],rfl,.inl ⟨_,wO,?_,k+1,?_,rfl,?_,?_⟩⟩
     ·omega
     ·exact yw
     ·omega
     ·rw[hc,ny hrow,Ip,hb,UF]
    ·exact apY
   ·exact R_
  |i+1,q=>simp[auT] at q
def aLR.qE (h:P:=by(try simp only[tD,rD,iD,sZ,↓tO,↓uU])<;>(first|(simp[gT,qo,nth,nk,nt,tI,tk,jh,iD,tD,rD];done)|(rw[DA.one.injEq,D.bool.injEq,AP];simp[gT,qo,nth,nk,nt,tI,tk,jh,iD,tD,rD, *];done)|(rw[DA.one.injEq,D.bool.injEq,AP];simp[gT,qo,nth,nk,nt,tI,tk,jh,iD,tD,rD, *];omega)|(rw[DA.one.injEq,D.bool.injEq,AP];simp[gT,qo,nth,nk,nt,tI,tk,jh,iD,tD,rD, *];rintro rfl;simp;done)|(simp[gT,qo,nth,nk,nt,tI,tk,jh,iD,tD,rD, *];done)|(cases c0 with|nil=>(simp[gT,qo,nth,nk,nt,tI,tk,jh,iD,tD,rD, *];done)|cons e j=>(simp[gT,qo,nth,nk,nt,tI,tk,jh,iD,tD,rD, *];done))|(simp[gT,qo,nth,nk,nt,tI,tk,jh,iD,tD,rD, *];omega)|(simp_all[gT,qo,nth,nk,nt,tI,tk,jh,iD,tD,rD];done)|(simp_all[gT,qo,nth,nk,nt,tI,tk,jh,iD,tD,rD];omega))):P:=h
open aLR in
def aOo (g':bH T) (n:Nat) (y:(zZ n).aA T) (w:(zi n).aA T) (h:(Br n).aA T):(Br (n+1)).aA T:=by
 intro V pre ⟨u',Z⟩
 match V,u' with
 |[.agg b0],⟨z',hex⟩=>
 obtain⟨e0,f0,g0,c0,rfl,A',D',yE⟩:=oF z';have A:fG T _ _:=(ac (H_ g') Rf (ac (Ld g') aeD (ac y aoA (ac w aov (ac h aBU an)))));have aD:=(lc (aOk g' n y w h) nb (lc (aOl g' n y w h) nb (lc (aOm g' n y w h) nb ln)));obtain rfl:=Z;have hall:∀x∈c0,aI x<=n:=fun x F'=>by have t':=qj F';rw[vD] at hex;omega
 refine sV g' aLU A.1 aD.1 A.2 aD.2 aLT (ay aO (ay (mo A') (ay aO (ay (eP D' yE) aX)))) ?_;refine au aj (fun L'=>?_) (fun L'=>?_)
 ·refine au aj (fun t'=>aU) (fun t'=>?_)
  refine au aj (fun h'=>?_) (fun h'=>?_)
  ·refine au aj (fun v'=>aU) (fun v'=>?_)
   refine au aj (fun w'=>aU) (fun w'=>?_);refine au aj (fun i'=>aU) (fun i'=>?_);refine au aj (fun j'=>?_) (fun j'=>?_)
   ·refine au aj (fun P=>au aj (fun f'=>aU) (fun f'=>aU)) (fun P=>?_)
    exact Og
   ·refine au aj (fun P=>?_) (fun P=>?_)
    ·refine eT M Ju fun E=>?_
     refine au aj (fun F=>?_) (fun F=>aU);refine eT M Oz fun E=>?_;refine au aj (fun W=>aU) (fun W=>?_);refine au aj (fun k'=>have k':¬(c0).length<=6:=aC;aU) (fun k'=>?_)
     replace k':(c0).length<=6:=aC;refine qp rfl ⟨l9,l9,rfl,xg⟩ (fun j x S' ks out e hR E=>?_)
     match j,e,hR with
     |0,e,⟨N,a'⟩=>
      subst N;replace e:(C9 n).sig.outs[0]?=some (x,S',ks):=e;cases e;replace a':(c0).all (mZ n)=false:=a';exact Ae
     |1,e,⟨N,a'⟩=>
      subst N;replace e:(C9 n).sig.outs[1]?=some (x,S',ks):=e;cases e;replace a':(c0).all (mZ n)=true:=a';refine eH.succ (eH.zero ?_);refine qp rfl ⟨l9,l9,rfl,xg,rfl⟩ (fun j x S' ks out e hR E=>?_)
      match j,e,hR with
      |0,e,⟨N,l⟩=>
       subst N;replace e:(C_ n).sig.outs[0]?=some (x,S',ks):=e;cases e;replace l:(c0).all (gT n)=false:=l;exact Ae
      |1,e,⟨N,l⟩=>
       subst N;replace e:(C_ n).sig.outs[1]?=some (x,S',ks):=e;cases e;replace l:(c0).all (gT n)=true:=l;exact Dj
      |j+2,e,_=>simp[lam,C_,Pn] at e
     |j+2,e,_=>simp[lam,C9,Pm] at e
    ·refine au aj (fun f'=>?_) (fun f'=>?_)
     ·refine au aj (fun F=>have F:¬(c0).length<=6:=aC;aU) (fun F=>?_)
      replace F:(c0).length<=6:=aC;refine qp rfl ⟨l9,l9,rfl,xg⟩ (fun j x S' ks out e hR E=>?_)
      match j,e,hR with
      |0,e,⟨N,b'⟩=>
       subst N;replace e:(nW n).sig.outs[0]?=some (x,S',ks):=e;cases e;replace b':(c0).all (gT n)=false:=b';exact Ae
      |1,e,⟨N,b'⟩=>
       subst N;replace e:(nW n).sig.outs[1]?=some (x,S',ks):=e;cases e;replace b':(c0).all (gT n)=true:=b';exact Dj
      |j+2,e,_=>simp[lam,nW,BP] at e
     ·refine au aj (fun F=>?_) (fun F=>?_)
      ·refine au aj (fun c'=>aU) (fun c'=>?_)
       refine qp rfl ⟨l9,l9,rfl,xg⟩ (fun j x S' ks out e hR E=>?_)
       match j,e,hR with
       |0,e,⟨N,q⟩=>
        subst N;replace e:(nW n).sig.outs[0]?=some (x,S',ks):=e;cases e;replace q:(c0).all (gT n)=false:=q;exact Ae
       |1,e,⟨N,q⟩=>
        subst N;replace e:(nW n).sig.outs[1]?=some (x,S',ks):=e;cases e;replace q:(c0).all (gT n)=true:=q;exact Dj
       |j+2,e,_=>simp[lam,nW,BP] at e
      ·refine au aj (fun c'=>?_) (fun c'=>aU)
       refine au aj (fun W=>have W:¬(c0).length=2:=aC;aU) (fun W=>?_)
       replace W:(c0).length=2:=aC;obtain⟨M',P',rfl,x',y'⟩:=qN yE aC;obtain⟨l',m',n',o',rfl,T',W'⟩:=oD x';obtain⟨p',q',r',s',rfl,X',a0⟩:=oD y';refine aR ?_;refine eT M (fun k=>Y5 k (bF:=by exact(hall _ jS))) fun E=>?_
       refine au aj (fun E'=>?_) (fun E'=>aU);refine qp rfl ⟨l9,l9,rfl,xg⟩ (fun j x S' ks out e hR E=>?_)
       match j,e,hR with
       |0,e,⟨N,l⟩=>
        subst N;replace e:(nW n).sig.outs[0]?=some (x,S',ks):=e;cases e;replace l:([[(.int .i64 l'),(.str m'),(.int .i64 n'),(.R o')],[(.int .i64 p'),(.str q'),(.int .i64 r'),(.R s')]]).all (gT n)=false:=l;exact Ae
       |1,e,⟨N,l⟩=>
        subst N;replace e:(nW n).sig.outs[1]?=some (x,S',ks):=e;cases e;replace l:([[(.int .i64 l'),(.str m'),(.int .i64 n'),(.R o')],[(.int .i64 p'),(.str q'),(.int .i64 r'),(.R s')]]).all (gT n)=true:=l;exact Dj
       |j+2,e,_=>simp[lam,nW,BP] at e
  ·exact arO
 ·refine au aj (fun t'=>?_) (fun t'=>?_)
  ·refine au aj (fun h'=>aU) (fun h'=>?_)
   exact arO
  ·refine au aj (fun h'=>aU) (fun h'=>?_)
   refine au aj (fun v'=>aU) (fun v'=>?_);refine au aj (fun w'=>?_) (fun w'=>?_)
   ·refine au aj (fun i'=>au aj (fun j'=>aU) (fun j'=>aU)) (fun i'=>?_)
    exact Og
   ·refine au aj (fun i'=>?_) (fun i'=>?_)
    ·refine eT M Ju fun E=>?_
     refine au aj (fun P=>?_) (fun P=>aU);refine eT M Oz fun E=>?_;refine au aj (fun F=>aU) (fun F=>?_);refine au aj (fun c'=>have c':¬(c0).length<=6:=aC;aU) (fun c'=>?_)
     replace c':(c0).length<=6:=aC;refine qp rfl ⟨l9,l9,rfl,xg⟩ (fun j x S' ks out e hR E=>?_)
     match j,e,hR with
     |0,e,⟨N,q⟩=>
      subst N;replace e:(C9 n).sig.outs[0]?=some (x,S',ks):=e;cases e;replace q:(c0).all (mZ n)=false:=q;exact Ae
     |1,e,⟨N,q⟩=>
      subst N;replace e:(C9 n).sig.outs[1]?=some (x,S',ks):=e;cases e;replace q:(c0).all (mZ n)=true:=q;refine eH.succ (eH.zero ?_);refine qp rfl ⟨l9,l9,rfl,xg,rfl⟩ (fun j x S' ks out e hR E=>?_)
      match j,e,hR with
      |0,e,⟨N,u⟩=>
       subst N;replace e:(C_ n).sig.outs[0]?=some (x,S',ks):=e;cases e;replace u:(c0).all (gT n)=false:=u;exact Ae
      |1,e,⟨N,u⟩=>
       subst N;replace e:(C_ n).sig.outs[1]?=some (x,S',ks):=e;cases e;replace u:(c0).all (gT n)=true:=u;exact Dj
      |j+2,e,_=>simp[lam,C_,Pn] at e
     |j+2,e,_=>simp[lam,C9,Pm] at e
    ·refine au aj (fun j'=>?_) (fun j'=>?_)
     ·refine au aj (fun P=>have P:¬(c0).length<=6:=aC;aU) (fun P=>?_)
      replace P:(c0).length<=6:=aC;refine qp rfl ⟨l9,l9,rfl,xg⟩ (fun j x S' ks out e hR E=>?_)
      match j,e,hR with
      |0,e,⟨N,d'⟩=>
       subst N;replace e:(nW n).sig.outs[0]?=some (x,S',ks):=e;cases e;replace d':(c0).all (gT n)=false:=d';exact Ae
      |1,e,⟨N,d'⟩=>
       subst N;replace e:(nW n).sig.outs[1]?=some (x,S',ks):=e;cases e;replace d':(c0).all (gT n)=true:=d';exact Dj
      |j+2,e,_=>simp[lam,nW,BP] at e
     ·refine au aj (fun P=>?_) (fun P=>?_)
      ·refine au aj (fun f'=>aU) (fun f'=>?_)
       refine qp rfl ⟨l9,l9,rfl,xg⟩ (fun j x S' ks out e hR E=>?_)
       match j,e,hR with
       |0,e,⟨N,e'⟩=>
        subst N;replace e:(nW n).sig.outs[0]?=some (x,S',ks):=e;cases e;replace e':(c0).all (gT n)=false:=e';exact Ae
       |1,e,⟨N,e'⟩=>
        subst N;replace e:(nW n).sig.outs[1]?=some (x,S',ks):=e;cases e;replace e':(c0).all (gT n)=true:=e';exact Dj
       |j+2,e,_=>simp[lam,nW,BP] at e
      ·refine au aj (fun f'=>?_) (fun f'=>aU)
       refine au aj (fun F=>have F:¬(c0).length=2:=aC;aU) (fun F=>?_)
       replace F:(c0).length=2:=aC;obtain⟨M',P',rfl,x',y'⟩:=qN yE aC;obtain⟨l',m',n',o',rfl,T',W'⟩:=oD x';obtain⟨p',q',r',s',rfl,X',a0⟩:=oD y';refine aR ?_;refine eT M (fun k=>Y5 k (bF:=by exact(hall _ jS))) fun E=>?_
       refine au aj (fun W=>?_) (fun W=>aU);refine qp rfl ⟨l9,l9,rfl,xg⟩ (fun j x S' ks out e hR E=>?_)
       match j,e,hR with
       |0,e,⟨N,u⟩=>
        subst N;replace e:(nW n).sig.outs[0]?=some (x,S',ks):=e;cases e;replace u:([[(.int .i64 l'),(.str m'),(.int .i64 n'),(.R o')],[(.int .i64 p'),(.str q'),(.int .i64 r'),(.R s')]]).all (gT n)=false:=u;exact Ae
       |1,e,⟨N,u⟩=>
        subst N;replace e:(nW n).sig.outs[1]?=some (x,S',ks):=e;cases e;replace u:([[(.int .i64 l'),(.str m'),(.int .i64 n'),(.R o')],[(.int .i64 p'),(.str q'),(.int .i64 r'),(.R s')]]).all (gT n)=true:=u;exact Dj
       |j+2,e,_=>simp[lam,nW,BP] at e
end
end
end Go.Proofs.YtdjcfaaongngeaaGreatDoor

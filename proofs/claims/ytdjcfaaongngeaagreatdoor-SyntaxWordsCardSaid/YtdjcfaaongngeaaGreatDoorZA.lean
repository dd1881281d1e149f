/- A part of the proof: see the last text. -/
import Derived.Test.YtdjcfaaongngeaaGreatDoorZv
import Derived.Test.YtdjcfaaongngeaaGreatDoorZx
import Derived.Test.YtdjcfaaongngeaaGreatDoorZy
import Derived.Test.YtdjcfaaongngeaaGreatDoorZz
set_option linter.all false
set_option maxRecDepth 100000
set_option maxHeartbeats 0
namespace Go.Proofs.YtdjcfaaongngeaaGreatDoor
noncomputable section
variable {b g i:Nat}{T:Nat->ah D}{a j:Nat->ah Obj}{W w:ak}{v m:av}{t:Rw}{l L:G Rw}{p:G D}{q:G Nat}{e:G (G D)}{k o:Int}{u:dh}{A:dA}{F:dF av}
section
open Go Go.RowKit
def iV.snoc {fz:Nat->ah Obj} {z:Nat} {r:G D} (e:r.length=z):∀{rows:G (G D)} {arr:dF av} {d:Nat},iV fz z rows arr d->mR fz r arr (d+rows.length*z)->iV fz z (rows++[r]) arr d
 |[],arr,d,_,h=>⟨e,by simpa using h,True.intro⟩
 |q::rows,arr,d,⟨j,l,u⟩,h=>⟨j,l,u.snoc e (by rw[gD,Iw] at h;rw[show d+z+rows.length*z=d+(rows.length*z+z) by omega];exact h)⟩
def kH.toC {fz:Nat->ah Obj}:∀{r:G D} {us:G av} {arr:dF av} {d:Nat},kH fz r us->(∀j u,us[j]?=some u->arr[d+j]?=some u)->mR fz r arr d
 |[],_,_,_,_,_=>True.intro
 |c::r,us,arr,d,⟨u,y,e,l,q⟩,h=>by
  subst e;refine⟨⟨u,h 0 u rfl,l⟩,q.toC fun j v w=>?_⟩;rw[show d+1+j=d+(j+1) by omega]
  exact h (j+1) v (by simpa using w)
structure nu (fz:Nat->Option Obj) (W:World) (base:Nat) (e:TypeId) (size:Nat) (v:Value) (rows:List (List D)):Prop where
 own:∃xs,W.ownsRow base e size v rows.length xs/\iV fz size rows xs.toArray 0
 out:∀g,v.ownBlock=some g->fz g=none
def nu.nil (fz:Nat->ah Obj) (W:ak) (base:Nat) (e:dh) (size:Nat):nu fz W base e size (.slice none 0 0) []:=
 ⟨⟨[],Qd _ _ _ _,True.intro⟩,fun g h=>by cases h⟩
def nu.lt {fz:Nat->ah Obj} {W:ak} {base:Nat} {e:dh} {size:Nat} {v:av} {rows:G (G D)} (h:nu fz W base e size v rows) {g:Nat} (j:v.ownBlock=some g):base<=g/\g<W.heap.size:=by
 obtain⟨q,l,_⟩:=h.own;exact l.lt g j
def nu.gZ {size:Nat} {rows:G (G D)} (h:nu a W i u size v rows) (l:dX a j) (hn:∀g,v.ownBlock=some g->j g=none) (q:∀g,v.ownBlock=some g->w.heap[g]?=W.heap[g]?):nu j w i u size v rows:=by
 obtain⟨y,A,E⟩:=h.own;exact⟨⟨y,Aw A fun b u=>q b u,E.mono l⟩,hn⟩
def nu.snoc {fz:Nat->ah Obj} {W w':ak} {base:Nat} {e:dh} {size:Nat} {v:av} {rows:G (G D)} {r:G D} {l:G av} {g cap:Nat} (h:nu fz W base e size v rows) (E:dX fz (dM W)) (U:kH fz r l) (F:r.length=size)
 (y:∀w,W.ownsRow base e size v rows.length w->qz W w' base e size v rows.length w 1 l g cap):nu fz w' base e size (.slice (some ⟨g,0,none⟩) (rows.length+1) cap) (rows++[r]):=by
 obtain⟨w,A,P⟩:=h.own;have y:=y w A;refine⟨⟨w++l,by rw[mD,List.length_singleton];exact y.own,(P.congr fun j T=>?_).snoc F (U.toC fun j u a'=>?_)⟩,fun q b'=>?_⟩
 ·rw[jW,Ee,Ee,oI (by rw[A.1];exact T)]
 ·rw[jW,Ee,<-A.1,nI I]
  simpa using a'
 ·cases b'
  rcases y.nG with c'|⟨rfl,_⟩
  ·exact h.out _ c'
  ·cases hf:fz W.heap.size with
   |none=>rfl
   |some o=>have:=(kF.1 (E _ _ hf)).1;omega
def qz.ext {w':ak} {n:Nat} {y:G av} {m:Nat} {l:G av} {cap:Nat} (h:qz W w' b u i v n y m l g cap) (w:dX a (dM W)) (hn:∀g,v.ownBlock=some g->a g=none):dX a (dM w'):=fun q o j=>by
 refine(h.grown.block q (kF.1 (w q o j)).1 fun u=>?_).trans (w q o j);rw[hn q u.symm] at j;cases j
def sw (fz:Nat->ah Obj) (W:ak) (v:av):Nat->ah Obj:=fun g=>if v.ownBlock=some g then W.heap[g]? else fz g
def nu.ext (h:nu a W b u i v e):dX a (sw a W v):=fun g o j=>by
 unfold sw;rw[bB fun u=>by rw[h.out g u] at j;cases j]
 exact j
def YU (h:dX a (dM W)):dX (sw a W v) (dM W):=fun g o e=>by
 unfold sw at e;split at e
 ·exact e
 ·exact h g o e
def nu.done (h:nu a W b u i v e):DR (sw a W v) (.R e) v:=by
 obtain⟨q,⟨b',y⟩,A⟩:=h.own;rcases y with⟨rfl,l⟩|⟨g,cap,w,rfl,l,E,F,P,c',T⟩
 ·exact⟨none,0,by rw[l],by omega,gK _,.inl (qx l)⟩
 ·refine⟨_,cap,rfl,F,P,.inr ⟨g,0,w,u,(0,0),i,rfl,(bK (rfl:(Value.slice (some ⟨g,0,none⟩) e.length cap).ownBlock=some g)).trans E,(A.mono h.ext).congr fun j a'=>?_⟩⟩
  have u:q.toArray[0+j]?=q[j]?:=bS;rw[u,<-T,uX a'];simp
set_option maxRecDepth 20000
def dead (c:bR):bR:=⟨c.sig,fun _ _=>False,fun _ _ _ _=>True⟩
def qM {T:Nat->ah D} {c:bR}:(dead c).aA T:=fun _ _ h=>h.elim
def db {c:bR}:(dead c).eZ ⟨[],false,false⟩:=fun h=>by cases h
def aC1 (c:gu):gu:=⟨c.sig,fun _=>False,fun _ _ _=>True⟩
def aC2 {T:Nat->ah D} {c:gu} {dK:iB->Prop}:(aC1 c).Ok T Tryz.prog dK O fM:=fun _ h=>h.elim
section
variable {T:Nat->ah D} (hT:bH T)
include hT
def aDL:(Bp 0).aA T:=by
 intro V pre ⟨e,Z⟩
 match V,e with
 |[.agg F,.one d1],⟨h,j,E,hex⟩=>
 obtain⟨P,W,c0,a',rfl,l,q,u⟩:=jT h;obtain⟨b',rfl,w,y⟩:=bW j;have A:fG T _ _:=(ac (qM (c:=XT)) db (ac (qM (c:=Rs 0)) db an));refine mY (la:=kR) hT aub A.1 all_nil A.2 bn aua (kD l q u (ay (eP w y) aX)) Z (fun hq=>?_);exact R9
def aL6:(CZ 0).aA T:=by
 intro V pre ⟨e,Z⟩
 match V,e with
 |[.agg F,.one d1],⟨h,j,E,hex⟩=>
 obtain⟨P,W,c0,a',rfl,l,q,u⟩:=jT h;obtain⟨b',rfl,w,y⟩:=bW j;have A:fG T _ _:=(ac (qM (c:=XJ)) db (ac (qM (c:=Rv 0)) db an));refine mY (la:=kR) hT aur A.1 all_nil A.2 bn auq (kD l q u (ay (eP w y) aX)) Z (fun hq=>?_);exact R9
def aCF:(E9 0).aA T:=by
 intro V pre ⟨e,Z⟩
 match V,e with
 |[.agg F,.one d1],⟨h,j,E,hex⟩=>
 obtain⟨P,W,c0,a',rfl,l,q,u⟩:=jT h;obtain⟨b',rfl,w,y⟩:=bW j;have A:fG T _ _:=(ac (qM (c:=Xq)) db (ac (qM (c:=Rk 0)) db (ac (qM (c:=E9 0)) db (ac (qM (c:=Jc)) db (ac (qM (c:=Jb)) db an)))));refine mY (la:=kR) hT atP A.1 all_nil A.2 bn atO (kD l q u (ay (eP w y) aX)) Z (fun hq=>?_);exact R9
def aEi:(E_ 0).aA T:=by
 intro V pre ⟨e,Z⟩
 match V,e with
 |[.agg u],⟨h,hex⟩=>
 obtain⟨w,y,c0,E,rfl,j,l,q⟩:=jT h;have A:fG T _ _:=(ac (qM (c:=RB 0)) db (ac (qM (c:=Rt 0)) db (ac (qM (c:=Ry 0)) db (ac (qM (c:=XC)) db (ac (qM (c:=Bp 0)) db (ac (qM (c:=Je)) db an))))));refine mY (la:=kR) hT aue A.1 all_nil A.2 bn aud (kD j l q aX) Z (fun hq=>?_);exact R9
def aMb:(Gp 0).aA T:=by
 intro V pre ⟨e,Z⟩
 match V,e with
 |[.agg u],⟨h,hex⟩=>
 obtain⟨w,y,c0,E,rfl,j,l,q⟩:=jT h;have A:fG T _ _:=(ac (qM (c:=Ny 0)) db (ac (qM (c:=XH)) db (ac (qM (c:=NA 0)) db (ac (qM (c:=CZ 0)) db (ac (qM (c:=XD)) db (ac (qM (c:=Bq 0)) db (ac (qM (c:=Nz)) db (ac (qM (c:=Gr 0)) db an))))))));have aD:=(lc (f:=38) (aC2 (T:=T) (c:=wu 0)) nb ln);refine mY (la:=kR) hT auw A.1 aD.1 A.2 aD.2 auv (kD j l q aX) Z (fun hq=>?_);exact R9
omit hT in
def aaP {r:Rw} (h:aJ O r fC):¬aI r<=0:=by
 obtain⟨k,t,x,c,rfl,_,_⟩:=oD h;rw[vD];omega
omit hT in
def aGz {r:Rw} (h:aJ O r eB):¬aI r<=0:=by
 obtain⟨k,t,c,o,rfl,_,_⟩:=aT h;rw[wY];omega
def aNh:∀n,(Gs n).aA T:=fun n=>by
 induction n with
 |zero=>
  exact N8
 |succ n e=>exact aNi hT n e
def aMq:∀n,(Gq n).aA T:=fun n=>by
 induction n with
 |zero=>
  exact N8
 |succ n e=>exact aMr hT n e
def aDa:∀n,(Gj n).aA T:=fun n=>by
 induction n with
 |zero=>
  exact N8
 |succ n e=>exact aDb hT n e
def aL4:∀n,(Gn n).aA T:=fun n=>by
 induction n with
 |zero=>
  exact N8
 |succ n e=>exact aL5 hT n e
def ao4:∀n,(CX n).aA T:=fun n=>by
 induction n with
 |zero=>
  intro V pre ⟨e,_⟩
  match V,e with
  |[.agg l,.one d1],⟨h,_,hn⟩=>exact absurd hn (aaP h)
 |succ n j=>exact aCS hT n j
def arW:∀n,(Gm n).aA T:=fun n=>by
 induction n with
 |zero=>
  intro V pre ⟨e,_⟩
  match V,e with
  |[.agg l,.one d1,.one q],⟨h,_,_,hn,_⟩=>exact absurd hn (aaP h)
 |succ n j=>exact aEm hT n j (aFG hT)
def aFM:∀n,(aeW n).aA T:=fun n=>by
 induction n with
 |zero=>
  exact N8
 |succ n e=>exact aFN hT n (ao4 hT (n+1)) (atI hT n e)
def aMm:∀n,n<=1000000->(zZ n).aA T:=fun n=>by
 induction n with
 |zero=>
  exact ap9
 |succ n e=>exact fun h=>aMn hT n (auU hT (n+1) h (arW hT (n+1))) (e I)
def aOf:∀n,(RD n).aA T:=fun n=>by
 induction n with
 |zero=>
  exact N8
 |succ n e=>exact aOh hT n (aOe hT n (atI hT n (aFM hT n)) (ao4 hT n)) e
def aOn:∀n,n<=1000000->(Br n).aA T:=fun n=>by
 induction n with
 |zero=>
  exact ap9
 |succ n e=>exact fun h=>aOo hT n (aMm hT n I) (auU hT n I (arW hT n)) (e I)
def aNQ:∀n,(C8 n).aA T:=fun n=>by
 induction n with
 |zero=>
  intro V pre ⟨e,_⟩
  match V,e with
  |[.agg l,.one d1],⟨j,_,_,hn⟩=>exact absurd hn (aGz j)
 |succ n h=>exact aNR hT n (aNI hT) (aNG hT n (aND hT n h) h)
def awu:Je.aA T:=aOi hT (aNh hT) (aDa hT) (aOf hT)
def auZ (n:Nat) (hn:n+100<=1000000):(Gr n).aA T:=aMw hT n hn (aMq hT) (aL4 hT) (aOn hT)
def aN2 (n:Nat):(yu n).aA T:=aN1 hT n (aEo hT n (aNQ hT n) (awu hT))
def aeQ:∀n,(E9 n).aA T
 |0=>aCF hT
 |n+1=>aCG hT n (aCE hT n (aeQ n)) (aeQ n)
def aMt (n:Nat) (hn:n+100<=1000000):(Bq n).aA T:=aMs hT n (aMg hT n (aeQ hT n) (auZ hT n hn))
def agh:∀n,n+99<=1000000->(Bp n).aA T/\(E_ n).aA T
 |0,_=>⟨aDL hT,aEi hT⟩
 |n+1,h=>by
  obtain⟨j,hf⟩:=agh n I;have hn:n+100<=1000000:=I;have e:=aN2 hT n;have l:=aN8 hT n hn e;exact⟨aDM hT n (aGf hT n hn e (aDO hT n j) j hf),aEj hT n hn (aN6 hT n hn e) (aGn hT n hn l e j (av4 hT)) (aMG hT n hn l e (av4 hT)) j (awu hT)⟩
def auV:∀n,3*n+99<=1000000->(CZ n).aA T/\(Gp n).aA T
 |0,_=>⟨aL6 hT,aMb hT⟩
 |n+1,h=>by
  obtain⟨j,hf⟩:=auV n I;have hn:n+100<=1000000:=I;have e:=aMt hT n hn;exact⟨aL7 hT n (aMj hT n hn e (aL9 hT n j) hf j),aMc hT n hn (aL2 (q:=[]) hT n hn e) (aMv hT n hn e) j e (aMo hT) (auZ hT (3*n+2) I)⟩
end
def aNk:(Tryz.prog.globals.size<4611686018427387904):=by
 have h:Tryz.prog.globals.size=Tryz.prog.globals.size:=rfl;exact Cr aS
def aHh (h:aJ O p fl):∃k o,p=[.int .i64 k,.int .i64 o]:=by
 obtain⟨_,_,rfl,e,q0⟩:=dW h;obtain⟨_,_,rfl,j,q1⟩:=dW q0;obtain⟨k,rfl⟩:=aW.int e;obtain⟨o,rfl⟩:=aW.int j;obtain rfl:=wE q1;exact⟨k,o,rfl⟩
def ZA {c:bR} (hc:c.aA T) (w:c.sig.recv=some fl) {V:G DA} (l:c.eU V [.int .i64 k,.int .i64 o]) {us:G av}
 (q:jN W b k o) (F:dX a (dM W)) (y:a b=none) (P:ug T a) (a':vW a V us):
 Calls Tryz.prog c.sig.f (List.toArray (.pointer (some ⟨b,0,none⟩)::us)) W fun e W'=>∃u h j k' o',e=.returned u/\c.fP V [.int .i64 k,.int .i64 o] j [.int .i64 k',.int .i64 o']/\iw O c.sig.res j/\uY h j u/\dX a h/\dX h (dM W')/\
  (∀g o,h g=some o->a g=some o\/W.heap.size<=g)/\jN W' b k' o'/\Sb b W W':=by
 obtain⟨j,post,b',c',A,E⟩:=hc V _ l;have e:c.sig.rk=fl:=by unfold bJ.rk;rw[w]
 rw[e] at A;rw[w] at E;obtain⟨k',o',rfl⟩:=aHh A;obtain⟨j',q⟩:=q;refine(Cw.at_ aNk E q F y P a').mono ?_;rintro e W' ⟨u,h,rfl,d',e',f',g',h',i'⟩;exact⟨u,h,j,k',o',rfl,b',c',d',e',f',g',h',i'⟩
structure Sl where
 a:Option Addr
 n:Nat
 c:Nat
structure Fv where
 k:Int
 nm:ByteArray
 ps:Sl
 tk:Int
 tn:ByteArray
 ti:Int
 ta:Sl
 fs:Sl
 bd:Sl
abbrev Fv.list (x:Fv):G av:=[.int .i64 x.k,.string x.nm,.slice x.ps.a x.ps.n x.ps.c,.int .i64 x.tk,.string x.tn,.int .i64 x.ti,.slice x.ta.a x.ta.n x.ta.c,.slice x.fs.a x.fs.n x.fs.c,.slice x.bd.a x.bd.n x.bd.c]
abbrev Fv.val (x:Fv):av:=.agg #[.int .i64 x.k,.string x.nm,.slice x.ps.a x.ps.n x.ps.c,.int .i64 x.tk,.string x.tn,.int .i64 x.ti,.slice x.ta.a x.ta.n x.ta.c,.slice x.fs.a x.fs.n x.fs.c,.slice x.bd.a x.bd.n x.bd.c]
def aEp {row:G D} {us:G av} (h:aJ O row tq) (e:kH a row us):∃x:Fv,us=x.list/\x.k=nk row:=by
 obtain⟨_,_,rfl,j,q0⟩:=dW h;obtain⟨_,_,rfl,l,q1⟩:=dW q0;obtain⟨_,_,rfl,q,q2⟩:=dW q1;obtain⟨_,_,rfl,u,q3⟩:=dW q2;obtain⟨_,_,rfl,w,y⟩:=dW q3;obtain⟨_,_,rfl,A,E⟩:=dW y;obtain⟨_,_,rfl,F,P⟩:=dW E;obtain⟨_,_,rfl,T,W⟩:=dW P;obtain⟨_,_,rfl,a',b'⟩:=dW W;obtain rfl:=wE b';obtain⟨k,rfl⟩:=j.int;obtain⟨nm,rfl,_⟩:=l.str;obtain⟨ps,rfl,_⟩:=bW q;obtain⟨tk,rfl⟩:=u.int;obtain⟨tn,rfl,_⟩:=w.str;obtain⟨ti,rfl⟩:=A.int;obtain⟨ta,rfl,_⟩:=bW F;obtain⟨fs,rfl,_⟩:=bW T;obtain⟨bd,rfl,_⟩:=bW a';obtain⟨_,_,rfl,rfl,_,_,rfl,⟨rfl,_⟩,_,_,rfl,⟨c',c2,rfl,_⟩,_,_,rfl,rfl,_,_,rfl,⟨rfl,_⟩,_,_,rfl,rfl,_,_,rfl,⟨d',c6,rfl,_⟩,_,_,rfl,⟨e',f',rfl,_⟩,_,_,rfl,⟨g',h',rfl,_⟩,rfl⟩:=e;exact⟨⟨k,bC nm,⟨c',_,c2⟩,tk,bC tn,ti,⟨d',_,c6⟩,⟨e',_,f'⟩,⟨g',_,h'⟩⟩,rfl,rfl⟩
def arS (hc:(E_ i).aA T) {x:Nv} (w:aJ O p eB) (hn:aI p<=i) (Z:mU [.int .i64 k,.int .i64 o])
 (A:jN W b k o) (E:dX a (dM W)) (q:a b=none) (F:ug T a) (P:kH a p [.int .i64 x.k,.string x.s,.slice x.a x.n x.c,.int .i64 x.o]):
 Calls Tryz.prog 33 #[.pointer (some ⟨b,0,none⟩),x.val] W fun e W'=>∃(y:Fv) (row:G D) (h:Nat->ah Obj) (k' o':Int),e=.returned y.val/\bG (oZ i p) (fun t=>.agg t) iQ [.int .i64 k,.int .i64 o] (.agg row) [.int .i64 k',.int .i64 o']/\y.k=nk row/\row.length=9/\kH h row y.list/\
  dX a h/\dX h (dM W')/\(∀g o,h g=some o->a g=some o\/W.heap.size<=g)/\jN W' b k' o'/\Sb b W W':=by
 refine(ZA hc rfl (V:=[.agg p]) (us:=[x.val]) ⟨⟨w,fun _=>hn⟩,Z⟩ A E q F ⟨_,_,rfl,⟨_,rfl,P⟩,rfl⟩).mono ?_;rintro e W' ⟨u,h,i',k',o',rfl,a',b',j,c',d',e',f',g'⟩;obtain⟨row,rfl,l⟩:=b';obtain⟨us,rfl,j⟩:=j;obtain⟨y,rfl,h'⟩:=aEp l j;exact⟨y,row,h,k',o',rfl,a',h',l.length,j,c',d',e',f',g'⟩
def LC {j q:Type} {f:j->q->dV Fa j} {x:q}:∀{l:G q} {s:j},bO f s (l++[x])=aL (bO f s l) fun t=>f t x
 |[],s=>by simp only[qW,bO,aL];cases f s x<;>rfl
 |a::l,s=>by
  simp only[wM,bO];cases h:f s a with
  |error e=>rfl
  |ok t=>exact LC
def PI {e:Type} {l:G e} {x:e} (h:l[i]?=some x):l.take (i+1)=l.take i++[x]:=by
 obtain⟨J,rfl⟩:=gN.1 h;rw[P_ J]
def BG (f:Rw):aK:=nk f==1||nk f==2||nk f==3
def Pz (n:Nat) (pack:aK):G Rw->Rw->dV Fa (G Rw):=eO fun x=>aL (oZ n x) fun f=>if pack&&!(nk f==1||nk f==2||nk f==3) then .error (eD x) else .ok f
def aif {pack:aK}:Pz b pack l t=aL (aL (oZ b t) fun f=>if pack&&!(nk f==1||nk f==2||nk f==3) then .error (eD t) else .ok f) fun y=>.ok (l++[y]):=rfl
structure Bf (n:Nat) (pack:Bool) (l:List Rw) (k0 o0:Int) (i:Nat) (k o:Int) (fs:List Rw):Prop where
 ok:k0=0->(k=0/\o=0/\bO (Pz n pack) [] (l.take i)=.ok fs)\/(k≠0/\bO (Pz n pack) [] (l.take i)=.error (k,o))
 bad:k0≠0->k=k0/\o=o0
 len:fs.length=i
def Bf.start {n:Nat} {pack:aK} (h:k=0->o=0):Bf n pack l k o 0 k o []:=
 ⟨fun e=>.inl ⟨e,h e,by simp only[aa7,bO]⟩,fun _=>⟨rfl,rfl⟩,rfl⟩
def Bf.DT {pack:aK} {j q:Int} (h:Bf b pack l j q i k o L):mU [.int .i64 k,.int .i64 o]:=by
 by_cases e:j=0
 ·rcases h.ok e with⟨rfl,rfl,_⟩|⟨u,_⟩
  ·exact .inl rfl
  ·exact .inr ⟨(k,o),u,rfl⟩
 ·obtain⟨rfl,rfl⟩:=h.bad e
  exact .inr ⟨(k,o),e,rfl⟩
def xQ {c d:Int} (h:[D.int .i64 k,.int .i64 o]=dL (c,d)):k=c/\o=d:=by
 simp only[dL,nV,D.int.injEq,IB,tZ] at h;exact h
def Bf.step {pack:aK} {a' b':Int} {j u:Int} {x row:Rw} (h:Bf b pack l a' b' i k o L) (d':l[i]?=some x) (c':bG (oZ b x) (fun t=>.agg t) iQ [.int .i64 k,.int .i64 o] (.agg row) [.int .i64 j,.int .i64 u]):
 Bf b pack l a' b' (i+1) (if pack&&!BG row then oz j 2 else j) (if pack&&!BG row then rO j u (no x) else u) (L++[row]):=by
 have E:k≠0->j=k/\u=o:=fun F=>xQ ((c'.oq (f:=(k,o)) F).1);have q:k≠0->(if pack&&!BG row then oz j 2 else j)=k/\(if pack&&!BG row then rO j u (no x) else u)=o:=fun F=>by
  obtain⟨rfl,rfl⟩:=E F;simp[oz,rO,F]
 refine⟨fun e=>?_,fun e=>?_,by rw[mD,h.len];rfl⟩
 ·rw[PI d',LC]
  rcases h.ok e with⟨rfl,rfl,P⟩|⟨P,w⟩
  ·rw[P,mq]
   rcases c'.vv with⟨t,w,T,y⟩|⟨f,w,T,y,_⟩
   ·obtain⟨rfl,rfl⟩:=xQ (c:=0) (d:=0) T
    have y:DA.agg row=DA.agg t:=y;cases y;rw[aif,w,mq];cases Z:(pack&&!(nk row==1||nk row==2||nk row==3)) with
    |true=>
     have A:(pack&&!BG row)=true:=Z;simp only[A,qX];exact .inr ⟨by simp[oz],by simp[oz,rO,eD,aL]⟩
    |false=>
     have A:(pack&&!BG row)=false:=Z;simp only[A,Il,Me];exact .inl ⟨trivial,trivial,rfl⟩
   ·obtain⟨e1,W⟩:=xQ (c:=f.1) (d:=f.2) y
    subst e1 W;refine .inr ⟨by simp[oz,T],?_⟩
    rw[aif,w];simp[oz,rO,T,aL]
  ·obtain⟨e1,W⟩:=q P
   rw[e1,W,w];exact .inr ⟨P,rfl⟩
 ·obtain⟨rfl,rfl⟩:=h.bad e
  exact q e
structure Pv where
 s:ByteArray
 a:Option Addr
 n:Nat
 c:Nat
abbrev Pv.val (x:Pv):av:=.agg #[.string x.s,.slice x.a x.n x.c]
def Ay (arr:dF av) (q:Nat):Pv:=⟨match arr[q]? with|some (.string s)=>s|_=>⟨#[]⟩,match arr[q+1]? with|some (.slice a _ _)=>a|_=>none,match arr[q+1]? with|some (.slice _ n _)=>n|_=>0,match arr[q+1]? with|some (.slice _ _ c)=>c|_=>0⟩
structure Qk (W:World) (g q:Nat) (x:Pv):Prop where
 c0:W.cell? ⟨g,q,none⟩=some (.string x.s)
 c1:W.cell? ⟨g,q+1,none⟩=some (.slice x.a x.n x.c)
def Qk.below {x:Pv} (h:Qk W g b x) (e:Below i W w) (j:g<i):Qk w g b x:=
 ⟨(e.cell (p:=⟨g,b,none⟩) j).trans h.c0,(e.cell (p:=⟨g,b+1,none⟩) j).trans h.c1⟩
def abG (e:Nat) (W:ak) (h:av) (len:Nat) (arr:dF av):Prop:=
 ∃a cap,h=.slice a len cap/\(len=0\/∃g,a=some ⟨g,0,none⟩/\g<e/\∀i,i<len->Qk W g (i*2) (Ay arr (i*2)))
def Kc (rows:G (G D)):Prop:=∀r∈rows,∃nm fs,r=[.str nm,.R fs]
def nu.pks {fz:Nat->ah Obj} {e:dh} {rows:G (G D)} (h:nu fz W b e 2 v rows) (P:Kc rows):∃arr,abG W.heap.size W v rows.length arr/\∀i (J:i<rows.length),(Ay arr (i*2)).s=bC (wd rows[i])/\∀x∈wd rows[i],x<256:=by
 obtain⟨q,A,T⟩:=h.own;rcases A.2 with⟨rfl,y⟩|⟨g,cap,c',rfl,y,a',d',e',f',g'⟩
 ·exact⟨#[],⟨none,0,by rw[y],.inl y⟩,fun i J=>by omega⟩
 ·have key:∀i (J:i<rows.length),∃nm a n c,wd rows[i]=nm/\q[i*2]?=some (.string (bC nm))/\q[i*2+1]?=some (.slice a n c)/\∀x∈nm,x<256:=fun i J=>by
   obtain⟨_,E⟩:=T.get (i:=i) (r:=rows[i]) Dl;obtain⟨nm,fs,e⟩:=P _ (zG J);rw[e] at E⊢;obtain⟨⟨h',q0,rfl,q1⟩,⟨i',q2,a,c,rfl,_⟩,_⟩:=E;refine⟨nm,a,fs.length,c,rfl,?_,?_,q1⟩
   ·simpa using q0
   ·simpa using q2
  have l:∀j u,q[j]?=some u->W.cell? ⟨g,j,none⟩=some u:=fun j u b'=>by
   have:=A.cells (g:=g) rfl j u b'
   rwa[oH,jW] at this
  refine⟨q.toArray,⟨_,cap,rfl,.inr ⟨g,rfl,(kF.1 a').1,fun i J=>?_⟩⟩,fun i J=>?_⟩
  ·obtain⟨nm,a,n,c,e,w,e1,_⟩:=key i J
   have:Ay q.toArray (i*2)=⟨bC nm,a,n,c⟩:=by simp[Ay,w,e1]
   rw[this];exact⟨l _ _ w,l _ _ e1⟩
  ·obtain⟨nm,a,n,c,e,w,e1,F⟩:=key i J
   exact⟨by simp[Ay,w,e],by rw[e];exact F⟩
def aM9 (x:Pv) (j:Nat) (q:dA) (w:ak) (h:w.cell? ⟨j,0,none⟩=some (.string q)):
 Calls Tryz.prog 32 #[x.val,.pointer (some ⟨j,0,none⟩)] w fun e A=>e=.returned (.bool (x.s.toList==q.toList))/\Below w.heap.size w A:=by
 have u:=rX w _ h;have y:=(iN w.heap.size w);have l:=jB y (.cells #[.string x.s,.slice x.a x.n x.c] 65);have F:=(l.cell (p:=⟨j,0,none⟩) u).trans h;have E:=Q l;clear l y;dsimp only[Pv.val];go_enter Tryz.func32,Tryz.ntmps32;go_wp2_with fail;go_ret;exact⟨rfl,E.out⟩
def aFr (a:ah Addr) (cap len u:Nat) (q:dA) (arr:dF av) (w:ak) (f':len<=1000000) (T:abG w.heap.size w (.slice a len cap) len arr) (W:w.cell? ⟨u,0,none⟩=some (.string q)):
 Calls Tryz.prog 48 #[.slice a len cap,.func (.func 32) #[] #[.pointer (some ⟨u,0,none⟩)]] w fun e W'=>∃r:Int,e=.returned (.int .i64 r)/\(0<=r↔∃i,i<len/\((Ay arr (i*2)).s.toList==q.toList)=true)/\Below w.heap.size w W':=by
 have g':=Q T;have HP:=Q W;clear T W;go_enter Tryz.func48,Tryz.ntmps48;go_wp2_with fail;go_loopg [8] len (fun h' v wr=>∃k:Nat,h'=len-k/\k<=len/\v=.int .i64 (k:Nat)/\Hid ((∀i,i<k->((Ay arr (i*2)).s.toList==q.toList)=false)/\Below w.heap.size w wr))
 case atStart=>exact⟨0,by omega,gK _,rfl,⟨fun i J=>by omega,iN _ _⟩⟩
 case round=>
  obtain⟨k,a',o',rfl,j⟩:=hrel;rename ak=>d_
  have i':=Q a';clear a'
  by_cases A:k<len
  ·have b':(0:Int)<=(k:Int):=by omega
   have p':(k:Int)<(len:Int):=I;have q':IntKind.i64.wrap ((k:Int)+1)=(k:Int)+1:=vS I I;obtain⟨g,c',E⟩:∃g,a=some ⟨g,0,none⟩/\Qk d_ g (k*2) (Ay arr (k*2)):=by
    obtain⟨j',k',e,d'|⟨g,d',l',m'⟩⟩:=g'.out
    ·omega
    ·have e1:a=j':=by cases e;rfl
     exact⟨g,e1.trans d',(m' k A).below j.out.2 l'⟩
   subst c';have F:=(j.out.2.cell (p:=⟨u,0,none⟩) (rX w _ HP.out)).trans HP.out;obtain⟨v,P⟩:∃v,Ay arr (k*2)=v:=⟨_,rfl⟩;have y:=Q (aM9 v u q d_ F);rw[P] at E;obtain⟨c0,c1⟩:=E;have e':=Q P;clear F P;cases hQ:(v.s.toList==q.toList) with
   |true=>
    rw[hQ] at y;go_wp2_with (refine(y.out).mono ?_;rintro e aB ⟨rfl,l⟩);go_ret;exact⟨k,rfl,⟨fun _=>⟨k,A,by rw[e'.out];exact hQ⟩,fun _=>b'⟩,j.out.2.trans (l.mono j.out.2.size)⟩
   |false=>
    rw[hQ] at y;go_wp2_with (refine(y.out).mono ?_;rintro e aB ⟨rfl,l⟩);have n':Hid ((∀i,i<k+1->((Ay arr (i*2)).s.toList==q.toList)=false)/\Below w.heap.size w aB):=⟨fun i J=>(Iu i k).elim (j.out.1 i) (fun h=>ai1 (ai2 J) h▸(by rw[e'.out];exact hQ)),j.out.2.trans (l.mono j.out.2.size)⟩
    go_roundg (len-(k+1))
    case measure=>have:=i'.out;omega
    case rel=>exact⟨k+1,rfl,by omega,by simp,n'⟩
  ·obtain rfl:k=len:=by omega
   go_wp2_with fail;go_ret;exact⟨-1,rfl,⟨fun h=>absurd h jK,fun⟨i,J,h⟩=>by rw[j.out.1 i J] at h;cases h⟩,j.out.2⟩
def aFi (a:ah Addr) (cap len h:Nat) (q:dA) (arr:dF av) (w:ak) (j:len<=1000000) (l:abG w.heap.size w (.slice a len cap) len arr) (u:w.cell? ⟨h,0,none⟩=some (.string q)):
 Calls Tryz.prog 31 #[.slice a len cap,.func (.func 32) #[] #[.pointer (some ⟨h,0,none⟩)]] w fun e W'=>∃b,e=.returned (.bool b)/\(b=true↔∃i,i<len/\((Ay arr (i*2)).s.toList==q.toList)=true)/\Below w.heap.size w W':=by
 have A:=Q (aFr a cap len h q arr w j l u);clear l u;go_enter Tryz.func31,Tryz.ntmps31;go_wp2_with (refine(A.out).mono ?_;rintro e aB ⟨r,rfl,U,y⟩);go_ret;exact⟨_,rfl,by simp,y⟩
def sG (arr:dF av) (q:Nat):Nv:=⟨match arr[q]? with|some (.int _ n)=>n|_=>0,match arr[q+1]? with|some (.string s)=>s|_=>⟨#[]⟩,match arr[q+2]? with|some (.slice a _ _)=>a|_=>none,match arr[q+2]? with|some (.slice _ n _)=>n|_=>0,match arr[q+2]? with|some (.slice _ _ c)=>c|_=>0,match arr[q+3]? with|some (.int _ n)=>n|_=>0⟩
abbrev Nv.list (x:Nv):G av:=[.int .i64 x.k,.string x.s,.slice x.a x.n x.c,.int .i64 x.o]
structure II (W:World) (g q:Nat) (x:Nv):Prop where
 c0:W.cell? ⟨g,q,none⟩=some (.int .i64 x.k)
 c1:W.cell? ⟨g,q+1,none⟩=some (.string x.s)
 c2:W.cell? ⟨g,q+2,none⟩=some (.slice x.a x.n x.c)
 c3:W.cell? ⟨g,q+3,none⟩=some (.int .i64 x.o)
def Pd {c:G (G D)} (c':dR O c [C,.str,.R b,C]) (h:DR j (.R c) v):∃arr d a cap,v=.slice a c.length cap/\c.length<=cap/\(c=[]\/∃g,a=some ⟨g,d,none⟩/\∀i,i<c.length->∀W,dX j (dM W)->II W g (d+i*4) (sG arr (d+i*4)))/\∀i (J:i<c.length),kH j c[i] (sG arr (d+i*4)).list:=by
 obtain⟨a,cap,rfl,A,g',d'⟩:=h;rcases d' with rfl|⟨g,d,arr,h',fr,z,rfl,l,e'⟩
 ·exact⟨#[],0,a,cap,rfl,A,.inl rfl,fun i J=>by simp at J⟩
 ·have key:∀i (J:i<c.length),(∀W,dX j (dM W)->II W g (d+i*4) (sG arr (d+i*4)))/\kH j c[i] (sG arr (d+i*4)).list:=fun i J=>by
   have U:=c'.get (gM J);obtain⟨q,E⟩:=e'.get (i:=i) (r:=c[i]) Dl;obtain⟨k,t,F,o,e,_,_⟩:=aT U;rw[e] at q E⊢;have q:4=z:=q;subst q;obtain⟨⟨i',q0,rfl⟩,⟨j',q1,rfl,e1⟩,⟨k',q2,hc⟩,⟨l',q3,rfl⟩,_⟩:=E;obtain⟨w,y,rfl,P⟩:=hc;have T:arr[d+i*4+1]?=some (.string (bC t)):=q1;have a':arr[d+i*4+2]?=some (.slice w F.length y):=q2;have b':arr[d+i*4+3]?=some (.int .i64 o):=q3;have f':sG arr (d+i*4)=⟨k,bC t,w,F.length,y,o⟩:=by simp[sG,q0,T,a',b']
   rw[f'];exact⟨fun W u=>⟨Gu (u _ _ l) q0,Gu (u _ _ l) T,Gu (u _ _ l) a',Gu (u _ _ l) b'⟩,_,_,rfl,rfl,_,_,rfl,⟨rfl,e1⟩,_,_,rfl,⟨w,y,rfl,P⟩,_,_,rfl,rfl,rfl⟩
  exact⟨arr,d,_,cap,rfl,A,.inr ⟨g,rfl,fun i J=>(key i J).1⟩,fun i J=>(key i J).2⟩
structure iT (T:Nat->Option D) (fz:Nat->Option Obj) (lo:Nat) (W:World) (bp bo:Nat) (k o:Int) (vp vt:Value) (ps ts:List Rw):Prop where
 p:jN W bp k o
 out:∃Tt,W.heap[bo]?=some (.cells #[vp,vt] Tt (0,0))
 gp:nu fz W lo 65 2 vp ps
 gt:nu fz W lo 62 1 vt ts
 ne:bp≠bo
 np:∀g,vp.ownBlock=some g->g≠bp/\g≠bo
 nt:∀g,vt.ownBlock=some g->g≠bp/\g≠bo
 JE:∀g,vp.ownBlock=some g->vt.ownBlock≠some g
 fp:fz bp=none
 fo:fz bo=none
 ext:dX fz (dM W)
 kE:ug T fz
def iT.gZ {T:Nat->ah D} {fz q:Nat->ah Obj} {lo:Nat} {W W':ak} {bp bo:Nat} {k o k' o':Int} {A E:av} {ps ts:G Rw} (h:iT T fz lo W bp bo k o A E ps ts) (Z:jN W' bp k' o') (w:Sb bp W W') (y:dX fz q) (F:dX q (dM W')) (hn:∀g o,q g=some o->fz g=some o\/W.heap.size<=g):
 iT T q lo W' bp bo k' o' A E ps ts:=by
 have l:∀g,g<W.heap.size->fz g=none->q g=none:=fun g j hf=>by
  cases e:q g with
  |none=>rfl
  |some c'=>
   rcases hn g c' e with P|P
   ·rw[P] at hf;cases hf
   ·omega
 obtain⟨d',N⟩:=h.out;have u:=(kF.1 N).1;obtain⟨e',a'⟩:=h.p;have b':=(kF.1 a').1;exact⟨Z,⟨d',(w.block bo u (nJ h.ne)).trans N⟩,h.gp.gZ y (fun g j=>l g (h.gp.lt j).2 (h.gp.out g j)) (fun g j=>w.block g (h.gp.lt j).2 (h.np g j).1),h.gt.gZ y (fun g j=>l g (h.gt.lt j).2 (h.gt.out g j)) (fun g j=>w.block g (h.gt.lt j).2 (h.nt g j).1),
  h.ne,h.np,h.nt,h.JE,l bp b' h.fp,l bo u h.fo,F,h.kE.mono y⟩
def iT.pY {W':ak} {bo:Nat} {k' o':Int} {ts:G Rw} (h:iT T a b W i bo k o v m l ts) (Z:jN W' i k' o') (q:Sb i W W'):iT T a b W' i bo k' o' v m l ts:=
 h.gZ Z q (.refl _) (fun g u j=>(q.block g (kF.1 (h.ext g u j)).1 fun e=>by rw[e,h.fp] at j;cases j).trans (h.ext g u j)) fun _ _ j=>.inl j
def iT.alloc {T:Nat->ah D} {fz:Nat->ah Obj} {lo:Nat} {W:ak} {bp bo:Nat} {k o:Int} {e j:av} {ps ts:G Rw} (h:iT T fz lo W bp bo k o e j ps ts) (x:Obj):iT T fz lo (W.alloc x) bp bo k o e j ps ts:=
 h.pY (h.p.alloc x) ((Sb.refl bp W).alloc x)
def Vb (s:dV Fa Rw) (k o:Int) (ps e:G Rw):Prop:=(∃p,s=.ok p/\k=0/\o=0/\e=ps++[p])\/(k≠0/\s=.error (k,o))
structure uf (bp bo:Nat) (v:Value) (W W':World):Prop where
 os:W'.os=W.os
 tape:W'.tape=W.tape
 output:W'.output=W.output
 size:W.heap.size<=W'.heap.size
 block:∀g,g<W.heap.size->g≠bp->g≠bo->v.ownBlock≠some g->W'.heap[g]?=W.heap[g]?
def Sb.Ai {W':ak} (h:Sb b W W'):uf b i v W W':=⟨h.os,h.tape,h.output,h.size,fun g e j _ _=>h.block g e j⟩
def uf.trans {bp bo:Nat} {v:av} {d_ aB W:ak} (h:uf bp bo v d_ aB) (k:uf bp bo v aB W):uf bp bo v d_ W:=
 ⟨k.os.trans h.os,k.tape.trans h.tape,k.output.trans h.output,fF h.size k.size,fun g q e j l=>(k.block g R6 e j l).trans (h.block g q e j l)⟩
def Vf (T:Nat->ah D) (n:Nat) (fz:Nat->ah Obj) (lo:Nat) (W:ak) (bp bo:Nat) (u w:av) (ps ts:G Rw) (r:Rw) (c:G Rw) (e:AJ) (W':ak):Prop:=
 e=.returned (.tuple #[])/\∃h k o l j,iT T h lo W' bp bo k o l w j ts/\dX fz h/\Kc j/\Vb (yK n ps r (c.drop 1)) k o ps j/\uf bp bo u W W'/\∀q,q<W.heap.size->fz q=none->h q=none
def aGZ {fz:Nat->ah Obj} {W:ak} {bo:Nat} {ts:G Rw} {x:Nv} {c:G Rw} (hS:iT T fz g W i bo 0 0 v m L ts) (OJ:Kc L) (hn:x.n=c.length) (L':1<=c.length) (D':c.length<=1000000) (M':L.length<=1000000)
 (f':c.length<2\/8<=L.length\/62<c.length):
 Calls Tryz.prog 15 #[.pointer (some ⟨i,0,none⟩),x.val,.pointer (some ⟨bo,0,none⟩)] W (Vf T b fz g W i bo v m L ts [.int .i64 x.k,.str q,.R c,.int .i64 x.o] c):=by
 obtain⟨a,cap,x'⟩:∃a cap,v=.slice a L.length cap:=by
  exact arG
 obtain⟨k,s,w,P',A,u⟩:=x;dsimp only at hn;subst hn;have h0:=hS.alloc (.cells #[.int .i64 k,.string s,.slice w c.length A,.int .i64 u] 46);have hlt:W.heap.size<(W.alloc (.cells #[.int .i64 k,.string s,.slice w c.length A,.int .i64 u] 46)).heap.size:=bS;have E':i<W.heap.size:=by obtain⟨T',h⟩:=hS.p;exact(kF.1 h).1
 have F':(W.alloc (.cells #[.int .i64 k,.string s,.slice w c.length A,.int .i64 u] 46)).cell? ⟨W.heap.size,2,none⟩=some (.slice w c.length A):=N9;have Mg:=Q ((Sb.refl i W).alloc (.cells #[.int .i64 k,.string s,.slice w c.length A,.int .i64 u] 46));obtain⟨d_,hU⟩:∃d_,W.alloc (.cells #[.int .i64 k,.string s,.slice w c.length A,.int .i64 u] 46)=d_:=⟨_,rfl⟩;have c':∀aB,Sb i d_ aB->(aB.cell? ⟨W.heap.size,0,none⟩=some (.int .i64 k)/\aB.cell? ⟨W.heap.size,1,none⟩=some (.string s)/\aB.cell? ⟨W.heap.size,2,none⟩=some (.slice w c.length A)/\aB.cell? ⟨W.heap.size,3,none⟩=some (.int .i64 u)):=fun aB hV=>by
  exact af6
 have o':∀aB,Sb i d_ aB->aB.cell? ⟨bo,0,none⟩=some v:=fun aB hV=>by
  exact aq5
 have p':jN d_ i 0 0:=by rw[<-hU];exact h0.p
 have q':iT T fz g d_ i bo 0 0 v m L ts:=by rw[<-hU];exact h0
 have r':Sb i W d_:=afM;obtain⟨W',X',a0,b0⟩:=c' d_ (Sb.refl _ _);subst x';have j':=Q c';have k':=Q o';have l':=Q p';have m':=Q q';have n':=Q r';have e':=Q OJ;clear c' o' p' q' r' h0 hS OJ hlt Mg F';dsimp only[Nv.val]
 by_cases b':c.length<2
 ·have y':¬(2:Int)<=(c.length:Int):=by omega
  have z':IntKind.i64.wrap ((c.length:Int)-2)=(c.length:Int)-2:=vS I I;have A':¬(60:Int)<(c.length:Int)-2:=I;have d':yK b L [.int .i64 k,.str q,.R c,.int .i64 u] (c.drop 1)=.error (2,u):=by
   rw[yQ I];rfl
  by_cases g':8<=L.length
  ·have h':(8:Int)<=(L.length:Int):=by omega
   clear f' b' g';go_enter UM,UO;go_wp2_with (first
    |(refine(Po i 0 0 false ⟨k,s,w,c.length,A,u⟩ d_ l'.out).mono ?_;rintro r aB ⟨rfl,hf,e⟩;obtain⟨v0,v1,s',t'⟩:=j'.out aB e;have u':=k'.out aB e;have E:=Q hf;have F:=Q e;clear hf e)
    |(refine(Gy i 2 u 4 ⟨k,s,w,c.length,A,u⟩ aB E.out).mono ?_;rintro r v' ⟨rfl,hf,e⟩;have P:=Q hf;have a':=Q (F.out.trans e);clear hf e)
    |(refine(Av i _ _ _ P.out).mono ?_;rintro r w' ⟨rfl,rfl⟩))
   refine ni (Iz rfl _ _ _) rfl ⟨rfl,fz,2,u,_,L,m'.out.pY P.out a'.out,.refl _,e'.out,.inr ⟨by decide,d'⟩,(n'.out.trans a'.out).Ai,fun _ _ h=>h⟩
  ·have h':¬(8:Int)<=(L.length:Int):=by omega
   clear f' b' g';go_enter UM,UO;go_wp2_with (first
    |(refine(Po i 0 0 false ⟨k,s,w,c.length,A,u⟩ d_ l'.out).mono ?_;rintro r aB ⟨rfl,hf,e⟩;obtain⟨v0,v1,s',t'⟩:=j'.out aB e;have u':=k'.out aB e;have E:=Q hf;have F:=Q e;clear hf e)
    |(refine(Gy i 2 u 4 ⟨k,s,w,c.length,A,u⟩ aB E.out).mono ?_;rintro r v' ⟨rfl,hf,e⟩;have P:=Q hf;have a':=Q (F.out.trans e);clear hf e)
    |(refine(Av i _ _ _ E.out).mono ?_;rintro r w' ⟨rfl,rfl⟩))
   refine ni (Iz rfl _ _ _) rfl ⟨rfl,fz,2,u,_,L,m'.out.pY E.out F.out,.refl _,e'.out,.inr ⟨by decide,d'⟩,(n'.out.trans F.out).Ai,fun _ _ h=>h⟩
 ·have y':(2:Int)<=(c.length:Int):=by omega
  have z':IntKind.i64.wrap ((c.length:Int)-2)=(c.length:Int)-2:=vS I I;have i':8<=L.length\/62<c.length:=f'.resolve_left b';have d':yK b L [.int .i64 k,.str q,.R c,.int .i64 u] (c.drop 1)=.error (4,u):=by
   match c,b' with
   |y::z::l,_=>exact bK (by simp only[gD] at i'⊢;omega)
   |[y],b'=>exact absurd bS b'
   |[],b'=>exact absurd bS b'
  by_cases g':8<=L.length
  ·have h':(8:Int)<=(L.length:Int):=by omega
   clear f' b' g' i';go_enter UM,UO;go_wp2_with (first
    |(refine(Po i 0 0 true ⟨k,s,w,c.length,A,u⟩ d_ l'.out).mono ?_;rintro r aB ⟨rfl,hf,e⟩;obtain⟨v0,v1,s',t'⟩:=j'.out aB e;have u':=k'.out aB e;have E:=Q hf;have F:=Q e;clear hf e)
    |(refine(Gy i 0 0 4 ⟨k,s,w,c.length,A,u⟩ aB E.out).mono ?_;rintro r v' ⟨rfl,hf,e⟩;have P:=Q hf;have a':=Q (F.out.trans e);clear hf e)
    |(refine(Av i _ _ _ P.out).mono ?_;rintro r w' ⟨rfl,rfl⟩))
   refine ni (Iz rfl _ _ _) rfl ⟨rfl,fz,4,u,_,L,m'.out.pY P.out a'.out,.refl _,e'.out,.inr ⟨by decide,d'⟩,(n'.out.trans a'.out).Ai,fun _ _ h=>h⟩
  ·have h':¬(8:Int)<=(L.length:Int):=by omega
   have A':(60:Int)<(c.length:Int)-2:=I;clear f' b' g' i';go_enter UM,UO;go_wp2_with (first
    |(refine(Po i 0 0 true ⟨k,s,w,c.length,A,u⟩ d_ l'.out).mono ?_;rintro r aB ⟨rfl,hf,e⟩;obtain⟨v0,v1,s',t'⟩:=j'.out aB e;have u':=k'.out aB e;have E:=Q hf;have F:=Q e;clear hf e)
    |(refine(Gy i 0 0 4 ⟨k,s,w,c.length,A,u⟩ aB E.out).mono ?_;rintro r v' ⟨rfl,hf,e⟩;have P:=Q hf;have a':=Q (F.out.trans e);clear hf e)
    |(refine(Av i _ _ _ P.out).mono ?_;rintro r w' ⟨rfl,rfl⟩))
   refine ni (Iz rfl _ _ _) rfl ⟨rfl,fz,4,u,_,L,m'.out.pY P.out a'.out,.refl _,e'.out,.inr ⟨by decide,d'⟩,(n'.out.trans a'.out).Ai,fun _ _ h=>h⟩
def iT.uF {bo:Nat} {ts:G Rw} (h:iT T a b W i bo k o v m l ts) (Z:w.heap[i]?=W.heap[i]?) (N:w.heap[bo]?=W.heap[bo]?) (e:∀g,v.ownBlock=some g->w.heap[g]?=W.heap[g]?) (j:∀g,m.ownBlock=some g->w.heap[g]?=W.heap[g]?) (q:dX a (dM w)):
 iT T a b w i bo k o v m l ts:=by
 obtain⟨u,y⟩:=h.p;obtain⟨A,E⟩:=h.out;exact⟨⟨u,Z.trans y⟩,⟨A,N.trans E⟩,h.gp.gZ (.refl _) h.gp.out e,h.gt.gZ (.refl _) h.gt.out j,h.ne,h.np,h.nt,h.JE,h.fp,h.fo,q,h.kE⟩
def jN.lt (h:jN W b k o):b<W.heap.size:=by obtain⟨T,h⟩:=h;exact(kF.1 h).1
def iT.yH (h:iT T a b W g i k o v m l L):g<W.heap.size:=h.p.lt
def iT.DL (h:iT T a b W g i k o v m l L):i<W.heap.size:=by obtain⟨T,h⟩:=h.out;exact(kF.1 h).1
structure zI (T:Nat->Option D) (n:Nat) (pack:Bool) (Js:Nat->Option Obj) (lo:Nat) (W0:World) (bp bo:Nat) (vp vt:Value) (ps ts:List Rw) (l:List Rw) (k3 o3:Int) (i:Nat) (wC:Nat->Option Obj) (k o:Int) (fs:List Rw) (vf:Value) (W:World):Prop where
 s:iT T wC lo W bp bo k o vp vt ps ts
 r:Bf n pack l k3 o3 i k o fs
 g:nu wC W lo 72 9 vf fs
 x:dX Js wC
 ng:∀g,vf.ownBlock=some g->g≠bp/\g≠bo/\vp.ownBlock≠some g/\vt.ownBlock≠some g/\W0.heap.size<=g
 fr:uf bp bo vp W0 W
 nn:∀q,q<W0.heap.size->Js q=none->wC q=none
def uf.alloc {bp bo:Nat} {v:av} {W W':ak} (h:uf bp bo v W W') (o:Obj):uf bp bo v W (W'.alloc o):=h.trans ((Sb.refl bp W').alloc o).Ai
def zI.gZ {T:Nat->ah D} {n:Nat} {pack:aK} {n':Nat->ah Obj} {lo:Nat} {p':ak} {bp bo:Nat} {q' r':av} {ps ts:G Rw} {l:G Rw} {w' x':Int} {i:Nat} {c' u:Nat->ah Obj} {k o h' j' k' l':Int} {fs:G Rw} {d':av} {W aB A:ak} {f:Fv} {r row:Rw} {g cap:Nat}
 (h:zI T n pack n' lo p' bp bo q' r' ps ts l w' x' i c' k o fs d' W) (on P:Obj) (U:l[i]?=some r)
 (y':bG (oZ n r) (fun t=>.agg t) iQ [.int .i64 k,.int .i64 o] (.agg row) [.int .i64 h',.int .i64 j']) (s':row.length=9)
 (f':Sb bp (W.alloc on) aB) (i':dX c' u) (z':dX u (dM aB)) (o':∀g o,u g=some o->c' g=some o\/(W.alloc on).heap.size<=g) (A':jN aB bp h' j') (P':kH u row f.list)
 (F:Sb bp aB A) (D':jN A bp k' l') (E':k'=if pack&&!BG row then oz h' 2 else h') (F':l'=if pack&&!BG row then rO h' j' (no r) else j')
 {g':ak} (L':∀m',(A.alloc P).ownsRow lo 72 9 d' fs.length m'->qz (A.alloc P) g' lo 72 9 d' fs.length m' 1 f.list g cap):
 zI T n pack n' lo p' bp bo q' r' ps ts l w' x' (i+1) u k' l' (fs++[row]) (.slice (some ⟨g,0,none⟩) (fs.length+1) cap) g'/\(∀q,q<W.heap.size->q≠bp->d'.ownBlock≠some q->g'.heap[q]?=W.heap[q]?)/\(∀q,q<W.heap.size->c' q=none->u q=none):=by
 have a':∀q,q<W.heap.size->c' q=none->u q=none:=fun q j hf=>by
  cases e:u q with
  |none=>rfl
  |some T'=>
   rcases o' q T' e with y|y
   ·rw[y] at hf;cases hf
   ·simp at y;omega
 have W':=h.s.alloc on;have X':=W'.gZ A' f' i' z' o';have a0:=X'.pY D' F;have e':=a0.alloc P;have h0:(W.alloc on).heap.size=W.heap.size+1:=bS;have i0:=f'.size;have j0:=F.size;have k0:(A.alloc P).heap.size=A.heap.size+1:=bS;have b':∀q,q<W.heap.size->q≠bp->(A.alloc P).heap[q]?=W.heap[q]?:=fun q j hn=>
  (jV A P q I).trans ((F.block q I hn).trans ((f'.block q I hn).trans (jV W on q j)))
 have t':nu u (A.alloc P) lo 72 9 d' fs:=h.g.gZ i' (fun q j=>a' q (h.g.lt j).2 (h.g.out q j)) fun q j=>b' q (h.g.lt j).2 (h.ng q j).1;obtain⟨m',u',_⟩:=t'.own;have E:=L' m' u';have v':dX u (dM g'):=E.ext e'.ext fun q j=>t'.out q j;have w:∀q,q<(A.alloc P).heap.size->d'.ownBlock≠some q->g'.heap[q]?=(A.alloc P).heap[q]?:=fun q j hn=>E.grown.block q j (fun e=>hn e.symm);have b0:iT T u lo g' bp bo k' l' q' r' ps ts:=e'.uF (w bp e'.yH fun e=>(h.ng bp e).1 rfl) (w bo e'.DL fun e=>(h.ng bo e).2.1 rfl) (fun q j=>w q (e'.gp.lt j).2 fun e=>(h.ng q e).2.2.1 j) (fun q j=>w q (e'.gt.lt j).2 fun e=>(h.ng q e).2.2.2.1 j) v';have l0:p'.heap.size<=W.heap.size:=h.fr.size;have M':d'.ownBlock=some g\/W.heap.size<=g:=by
  rcases E.nG with y|⟨y,_⟩
  ·exact .inl y
  ·exact .inr I
 refine⟨⟨b0,by rw[E',F'];exact h.r.step U y',t'.snoc e'.ext P' s' L',h.x.trans i',fun q j=>?_,?_,fun q j e=>a' q (by have:=h.fr.size;omega) (h.nn q j e)⟩,fun q j hn e0=>(w q I e0).trans (b' q j hn),a'⟩
 ·obtain rfl:g=q:=by
   have j:some g=some q:=j;exact bI j
  rcases M' with y|y
  ·exact h.ng _ y
  ·refine⟨fun e=>?_,fun e=>?_,fun e=>?_,fun e=>?_,by omega⟩
   ·have:=h.s.yH;omega
   ·have:=h.s.DL;omega
   ·have:=(h.s.gp.lt e).2;omega
   ·have:=(h.s.gt.lt e).2;omega
 ·refine⟨?_,?_,?_,?_,fun q j y f0 g0=>?_⟩
  ·exact E.grown.os.trans ((F.os.trans f'.os).trans h.fr.os)
  ·exact E.grown.tape.trans ((F.tape.trans f'.tape).trans h.fr.tape)
  ·exact E.grown.output.trans ((F.output.trans f'.output).trans h.fr.output)
  ·have:=E.grown.size;omega
  ·exact((w q I fun e=>by have:=(h.ng q e).2.2.2.2;omega).trans (b' q I y)).trans (h.fr.block q j y f0 g0)
def aGv (w:bH T) {x:Nv} (A:aJ O p eB) (Z:mU [.int .i64 k,.int .i64 o])
 (j:jN W b k o) (E:dX a (dM W)) (l:a b=none) (F:ug T a) (P:kH a p x.list):
 Calls Tryz.prog 30 #[.pointer (some ⟨b,0,none⟩),x.val] W fun e W'=>∃(nm:G Nat) (h:Nat->ah Obj) (k' o':Int),e=.returned (.string (bC nm))/\(∀y∈nm,y<256)/\nm.length<=gB/\bG (n_ p) (fun s=>.one (.str s)) iQ [.int .i64 k,.int .i64 o] (.one (.str nm)) [.int .i64 k',.int .i64 o']/\
  dX a h/\dX h (dM W')/\(∀g o,h g=some o->a g=some o\/W.heap.size<=g)/\jN W' b k' o'/\Sb b W W':=by
 refine(ZA (Ar w) rfl (V:=[.agg p]) (us:=[x.val]) ⟨A,Z⟩ j E l F ⟨_,_,rfl,⟨_,rfl,P⟩,rfl⟩).mono ?_;rintro e W' ⟨u,h,j',k',o',rfl,a',b',c',d',e',f',g',h'⟩;obtain⟨d,rfl,q⟩:=b';obtain⟨nm,rfl,i'⟩:=q.str;obtain⟨rfl,j⟩:u=.string (bC nm)/\∀y∈nm,y<256:=c';exact⟨nm,h,k',o',rfl,j,i',a',d',e',f',g',h'⟩
def asJ:(Tryz.prog.info? 72).map (fun i=>(i.zero,i.size,i.bytes))=some (some (.agg #[.int .i64 0,.string ⟨#[]⟩,.slice none 0 0,.int .i64 0,.string ⟨#[]⟩,.int .i64 0,.slice none 0 0,.slice none 0 0,.slice none 0 0]),9,152):=by kernel_rfl
def asM:(Tryz.prog.info? 65).map (fun i=>(i.zero,i.size,i.bytes))=some (some (.agg #[.string ⟨#[]⟩,.slice none 0 0]),2,40):=by kernel_rfl
def asK:(Tryz.prog.info? 62).map (fun i=>(i.zero,i.size,i.bytes))=some (some (.slice none 0 0),1,24):=by kernel_rfl
def qG (W:ak) (b:Nat) (s:dA) (v:av):Prop:=∃T,W.heap[b]?=some (.cells #[.string s,v] T (0,0))
def qG.c0 (h:qG W b A v):W.cell? ⟨b,0,none⟩=some (.string A):=by obtain⟨T,h⟩:=h;simp[World.cell?,h]
def qG.c1 (h:qG W b A v):W.cell? ⟨b,1,none⟩=some v:=by obtain⟨T,h⟩:=h;simp[World.cell?,h]
def qG.z (h:qG W b A v) (j:Nat):W.frozen? ⟨b,j,none⟩=false:=by obtain⟨T,h⟩:=h;simp[World.frozen?,h]
def qG.same (h:qG W b A v) (e:w.heap[b]?=W.heap[b]?):qG w b A v:=by obtain⟨T,h⟩:=h;exact⟨T,e.trans h⟩
def qG.lt (h:qG W b A v):b<W.heap.size:=by obtain⟨T,h⟩:=h;exact(kF.1 h).1
def qG.put (h:qG W b A v) (u:av):qG (W.setCell ⟨b,1,none⟩ u) b A u:=by
 obtain⟨T,h⟩:=h;exact⟨T,by simpa using o_ (o:=1) (u:=u) h⟩
def qG.new (W:ak) (s:dA) (T:dh):qG (W.alloc (.cells #[.string s,.slice none 0 0] T)) W.heap.size s (.slice none 0 0):=⟨T,lu W _⟩
def qG.below (h:qG W b A v) (e:Below g W w) (j:b<g):qG w b A v:=h.same (e.block b j)
def Sb.aeH {aB:ak} (h:Sb b w aB) (e:Below aB.heap.size aB W):Sb b w W:=h.trans ⟨e.os,e.tape,e.output,e.size,fun g j _=>e.block g j⟩
def iT.below {ts:G Rw} (h:iT T a b W g i k o v m l ts) (e:Below W.heap.size W w):iT T a b w g i k o v m l ts:=by
 obtain⟨j,Z⟩:=h.p;exact h.pY ⟨j,(e.block g h.yH).trans Z⟩ ((Sb.refl g W).aeH e)
def awe {P:bA} {ops:dF Oper} {o:Oper} {a:Act} {aj:Act->ak->Prop} {aY:Exit->Act->ak->Prop} {E:Prop} (d:Nat) (_:o.dst=some d) (l:o.guard=none) (f:ig) (args:dF av) (j:(execOp a.eval o).run P w=.ok (.enter f args) w)
 (h:Calls P f args w fun e w'=>∃v,e=.returned v/\aj (a.put o.dst v) w'):if Region.wanted o (yielded ops a.tmps)=true then Oper.wp P o a w aj aY else E:=aaG l f args j h
def Um (pack:aK) (row:Rw) (k:Int):Int:=if pack&&!BG row then oz k 2 else k
def Un (pack:aK) (row:Rw) (k o f:Int):Int:=if pack&&!BG row then rO k o f else o
def aNo {row:Rw} {q f e:Int} (h:jN W b (if(q==1||q==2||q==3) then k else oz k 2) (if(q==1||q==2||q==3) then o else rO k o f)) (j:q=nk row) (hf:f=e):jN W b (Um true row k) (Un true row k o e):=by
 subst j hf;have e:(nk row==1||nk row==2||nk row==3)=BG row:=rfl
 rw[e] at h;unfold Um Un;cases Z:BG row<;>(rw[Z] at h;exact h)
def uf.drew {bp bo:Nat} {v:av} {W W':ak} (h:uf bp bo v W W'):uf bp bo v W W'.drew:=⟨h.os,h.tape,h.output,h.size,h.block⟩
def TD {A:dh} {size n:Nat} {j l:G av} (h:w.ownsRow b u size v n j) (k:w.ownsRow i A size v n l):j=l:=by
 rcases h.2 with⟨rfl,q⟩|⟨g,cap,e,rfl,q,E,a',b',c',F⟩
 ·subst q
  exact(qx (by rw[h.1,UK])).trans (qx (by rw[k.1,UK])).symm
 ·rcases k.2 with⟨u,_⟩|⟨d',P,T,u,e',y,f',g',h',W⟩
  ·cases u
  ·cases u
   rw[E] at y;cases y;rw[<-F,<-W]
def iT.drew {T:Nat->ah D} {fz:Nat->ah Obj} {lo:Nat} {W:ak} {bp bo:Nat} {k o:Int} {e j:av} {ps ts:G Rw} (h:iT T fz lo W bp bo k o e j ps ts):iT T fz lo W.drew bp bo k o e j ps ts:=
 h.pY h.p ⟨rfl,rfl,rfl,bq _,fun _ _ _=>rfl⟩
def iT.oc (h:iT T a b W g i k o v m l L):W.cell? ⟨i,0,none⟩=some v/\W.cell? ⟨i,1,none⟩=some m/\∀j,W.frozen? ⟨i,j,none⟩=false:=by
 obtain⟨T,h⟩:=h.out;exact⟨by simp[World.cell?,h],by simp[World.cell?,h],fun j=>by simp[World.frozen?,h]⟩
def iT.BK (h:iT T a b W g i k o v m l L) {e:ah Nat} (q:W.grownBy w e) (hn:e≠some i):w.cell? ⟨i,0,none⟩=some v/\w.cell? ⟨i,1,none⟩=some m/\∀j,w.frozen? ⟨i,j,none⟩=false:=by
 obtain⟨T,N⟩:=h.out;have N:=(q.block i h.DL (nJ hn)).trans N;exact⟨by simp[World.cell?,N],by simp[World.cell?,N],fun j=>by simp[World.frozen?,N]⟩
def iT.nM {bo:Nat} {ts:G Rw} (h:iT T a b W i bo k o v m l ts) {j:av} (w:dX a (sw a W j)) (u:∀g,j.ownBlock=some g->g≠i/\g≠bo/\v.ownBlock≠some g/\m.ownBlock≠some g):iT T (sw a W j) b W i bo k o v m l ts:=by
 have hn:∀g,j.ownBlock≠some g->a g=none->sw a W j g=none:=fun g y A=>by unfold sw;rw[bB y];exact A
 exact⟨h.p,h.out,h.gp.gZ w (fun g e=>hn g (fun q=>(u g q).2.2.1 e) (h.gp.out g e)) (fun _ _=>rfl),h.gt.gZ w (fun g e=>hn g (fun q=>(u g q).2.2.2 e) (h.gt.out g e)) (fun _ _=>rfl),h.ne,h.np,h.nt,h.JE,hn i (fun q=>(u i q).1 rfl) h.fp,hn bo (fun q=>(u bo q).2.1 rfl) h.fo,YU h.ext,h.kE.mono w⟩
def iT.aoi {bo:Nat} {r:Rw} {a' d':G av} {g cap:Nat} (h:iT T a b W i bo k o v m l L) (U:kH a r a') (i':r.length=2) (N:W.ownsRow b 65 2 v l.length d') (E:qz W w b 65 2 v l.length d' 1 a' g cap):
 iT T a b (w.setCell ⟨bo,0,none⟩ (.slice (some ⟨g,0,none⟩) (l.length+1) cap)) i bo k o (.slice (some ⟨g,0,none⟩) (l.length+1) cap) m (l++[r]) L/\uf i bo v W (w.setCell ⟨bo,0,none⟩ (.slice (some ⟨g,0,none⟩) (l.length+1) cap)):=by
 have y:∀q,q<W.heap.size->v.ownBlock≠some q->w.heap[q]?=W.heap[q]?:=fun q A hn=>E.grown.block q A (fun e=>hn e.symm);have e':=y bo h.DL fun e=>(h.np bo e).2 rfl;have f':=y i h.yH fun e=>(h.np i e).1 rfl;have g':v.ownBlock=some g\/g=W.heap.size:=E.nG.imp id (·.1)
 have P:g≠i/\g≠bo/\m.ownBlock≠some g:=by
  rcases g' with e|rfl
  ·exact⟨(h.np g e).1,(h.np g e).2,h.JE g e⟩
  ·exact⟨fun e=>by have:=h.yH;omega,fun e=>by have:=h.DL;omega,fun e=>by have:=(h.gt.lt e).2;omega⟩
 have F:∀q,(Value.slice (some ⟨g,0,none⟩) (l.length+1) cap).ownBlock=some q->g=q:=fun q e=>by
  exact afL
 obtain⟨j',Z⟩:=h.p;obtain⟨k',c'⟩:=h.out;have j:∀q,q≠bo->(w.setCell ⟨bo,0,none⟩ (.slice (some ⟨g,0,none⟩) (l.length+1) cap)).heap[q]?=w.heap[q]?:=fun q A=>jF A;have b':nu a w b 65 2 (.slice (some ⟨g,0,none⟩) (l.length+1) cap) (l++[r]):=h.gp.snoc h.ext U i' fun q' l'=>by
  obtain rfl:=TD N l';exact E
 have h':=E.ext h.ext h.gp.out;refine⟨⟨⟨j',(j i h.ne).trans (f'.trans Z)⟩,⟨k',by simpa using o_ (o:=0) (u:=.slice (some ⟨g,0,none⟩) (l.length+1) cap) (e'.trans c')⟩,b'.gZ (.refl _) b'.out fun q e=>j q (F q e▸P.2.1),h.gt.gZ (.refl _) h.gt.out fun q e=>(j q (h.nt q e).2).trans (y q (h.gt.lt e).2 fun m'=>h.JE q m' e),h.ne,fun q e=>F q e▸⟨P.1,P.2.1⟩,h.nt,fun q e=>F q e▸P.2.2,h.fp,h.fo,fun q n' A=>(j q fun e=>by rw[e,h.fo] at A;cases A).trans (h' q n' A),h.kE⟩,⟨E.grown.os,E.grown.tape,E.grown.output,by simp only[abo];exact E.grown.size,fun q A _ o' p'=>(j q o').trans (y q A p')⟩⟩
def iT.aoj {bo:Nat} {r:Rw} {a' e':G av} {g cap:Nat} (h:iT T a b W i bo k o v m l L) (U:kH a r a') (i':r.length=1) (N:W.ownsRow b 62 1 m L.length e') (E:qz W w b 62 1 m L.length e' 1 a' g cap):
 iT T a b (w.setCell ⟨bo,1,none⟩ (.slice (some ⟨g,0,none⟩) (L.length+1) cap)) i bo k o v (.slice (some ⟨g,0,none⟩) (L.length+1) cap) l (L++[r])/\uf i bo m W (w.setCell ⟨bo,1,none⟩ (.slice (some ⟨g,0,none⟩) (L.length+1) cap)):=by
 have y:∀q,q<W.heap.size->m.ownBlock≠some q->w.heap[q]?=W.heap[q]?:=fun q A hn=>E.grown.block q A (fun e=>hn e.symm);have f':=y bo h.DL fun e=>(h.nt bo e).2 rfl;have g':=y i h.yH fun e=>(h.nt i e).1 rfl;have P:g≠i/\g≠bo/\v.ownBlock≠some g:=by
  rcases E.nG with e|⟨rfl,_⟩
  ·exact⟨(h.nt g e).1,(h.nt g e).2,fun b'=>h.JE g b' e⟩
  ·exact⟨fun e=>by have:=h.yH;omega,fun e=>by have:=h.DL;omega,fun e=>by have:=(h.gp.lt e).2;omega⟩
 have F:∀q,(Value.slice (some ⟨g,0,none⟩) (L.length+1) cap).ownBlock=some q->g=q:=fun q e=>by
  exact afL
 obtain⟨j',Z⟩:=h.p;obtain⟨k',d'⟩:=h.out;have j:∀q,q≠bo->(w.setCell ⟨bo,1,none⟩ (.slice (some ⟨g,0,none⟩) (L.length+1) cap)).heap[q]?=w.heap[q]?:=fun q A=>jF A;have c':nu a w b 62 1 (.slice (some ⟨g,0,none⟩) (L.length+1) cap) (L++[r]):=h.gt.snoc h.ext U i' fun p' l'=>by
  obtain rfl:=TD N l';exact E
 have h':=E.ext h.ext h.gt.out;refine⟨⟨⟨j',(j i h.ne).trans (g'.trans Z)⟩,⟨k',by simpa using o_ (o:=1) (u:=.slice (some ⟨g,0,none⟩) (L.length+1) cap) (f'.trans d')⟩,h.gp.gZ (.refl _) h.gp.out fun q e=>(j q (h.np q e).2).trans (y q (h.gp.lt e).2 fun b'=>h.JE q e b'),c'.gZ (.refl _) c'.out fun q e=>j q (F q e▸P.2.1),h.ne,h.np,fun q e=>F q e▸⟨P.1,P.2.1⟩,fun q e b'=>P.2.2 (by rw[F q b'];exact e),h.fp,h.fo,fun q m' A=>(j q fun e=>by rw[e,h.fo] at A;cases A).trans (h' q m' A),h.kE⟩,⟨E.grown.os,E.grown.tape,E.grown.output,by simp only[abo];exact E.grown.size,fun q A _ n' o'=>(j q n').trans (y q A o')⟩⟩
def zI.set {n:Nat} {pack:aK} {lo:Nat} {bp bo:Nat} {ts:G Rw} {F P:Int} {A:Nat->ah Obj} {fs:G Rw} {E:av}
 (h:zI T n pack a lo w bp bo v m L ts l F P i A k o fs E W) (j:Nat) (u:av) (a':b≠bp) (b':b≠bo) (c':v.ownBlock≠some b) (d':m.ownBlock≠some b) (e':E.ownBlock≠some b) (f':A b=none) (m':w.heap.size<=b):zI T n pack a lo w bp bo v m L ts l F P i A k o fs E (W.setCell ⟨b,j,none⟩ u):=by
 have y:∀q,q≠b->(W.setCell ⟨b,j,none⟩ u).heap[q]?=W.heap[q]?:=fun q g'=>jF g';exact⟨h.s.uF (y bp (nJ a')) (y bo (nJ b')) (fun g e=>y g fun q=>c' (q▸e)) (fun g e=>y g fun q=>d' (q▸e)) (fun g h' e=>(y g fun q=>by rw[q,f'] at e;cases e).trans (h.s.ext g h' e)),h.r,h.g.gZ (.refl _) h.g.out fun g e=>y g fun q=>e' (q▸e),h.x,h.ng,
  ⟨h.fr.os,h.fr.tape,h.fr.output,by simp only[abo];exact h.fr.size,fun g i' j' k' l'=>(y g I).trans (h.fr.block g i' j' k' l')⟩,h.nn⟩
def aha {r:Rw} {x:Nv} (j:aJ O r eB) (h:kH a r x.list):x.o=no r:=by
 obtain⟨k,t,c,o,rfl,_,_⟩:=aT j;obtain⟨_,_,e1,y,_,_,l,A,_,_,q,E,_,_,u,e,w⟩:=h;subst l q u w;simp only[nV] at e1;have e:_=Value.int .i64 o:=e;have:=e1.2.2.2.1.trans e;exact(ajd this).2
def aGW {c:G Rw} (h:2<=c.length) (q:L.length<8) (e:c.length<=62):yK b L t (c.drop 1)=aL (n_ c[1]) fun nm=>if(bg L).contains nm then .error (KT c[1]) else aL (bO (Pz b true) [] (c.drop 2)) fun fs=>.ok [.str nm,.R fs]:=by
 match c,h with
 |y::z::l,_=>
  simp only[gD] at e;have e1:¬(8<=L.length\/60<l.length):=I;have j:¬60<l.length:=I;show(if 8<=L.length\/60<l.length then _ else _)=_
  rw[bB e1];simp only[uH,bB j]
  rfl
def aG1 {c:G Rw} {w A:Int} {h:aK} (W:2<=c.length) (a':l.length<8) (F:c.length<=62) (P:bG (n_ c[1]) (fun s=>.one (.str s)) iQ [.int .i64 0,.int .i64 0] (.one (.str q)) [.int .i64 w,.int .i64 A])
 (b':h=(bg l).contains q) (U:Bf b true (c.drop 2) (if h then oz w 6 else w) (if h then rO w A (no c[1]) else A) (c.drop 2).length k o L):Vb (yK b l t (c.drop 1)) k o l (l++[[.str q,.R L]]):=by
 rw[aGW W a' F];rcases P.vv with⟨x,E,j,u⟩|⟨f,E,j,u,_⟩
 ·obtain⟨rfl,rfl⟩:=xQ (c:=0) (d:=0) j
  have u:DA.one (.str q)=DA.one (.str x):=u;cases u;rw[E,mq,<-b'];cases h with
  |true=>
   obtain⟨rfl,rfl⟩:=U.bad (by simp[oz])
   exact .inr ⟨by simp[oz],by simp[oz,rO,KT]⟩
  |false=>
   simp only[Il,Me] at U⊢;rcases U.ok rfl with⟨rfl,rfl,y⟩|⟨y,T⟩
   ·rw[FU] at y
    rw[y];exact .inl ⟨_,rfl,rfl,rfl,rfl⟩
   ·rw[FU] at T
    rw[T];exact .inr ⟨y,rfl⟩
 ·obtain⟨e1,c'⟩:=xQ (c:=f.1) (d:=f.2) u
  subst e1 c';have e:(if h then oz f.1 6 else f.1)=f.1/\(if h then rO f.1 f.2 (no c[1]) else f.2)=f.2:=by cases h<;>simp[oz,rO,j]
  rw[e.1,e.2] at U;obtain⟨rfl,rfl⟩:=U.bad j;rw[E];exact .inr ⟨j,rfl⟩
def aHe {nm:G Nat} {j:aK} (q:∀x∈nm,x<256) (h:j=true↔∃i,i<l.length/\((Ay F (i*2)).s.toList==(bC nm).toList)=true) (hn:∀i (J:i<l.length),(Ay F (i*2)).s=bC (wd l[i])/\∀x∈wd l[i],x<256):j=(bg l).contains nm:=by
 have key:j=true↔(bg l).contains nm=true:=by
  rw[h,List.contains_iff_mem,bg,FQ];constructor
  ·rintro⟨i,J,e⟩
   rw[(hn i J).1,Np (hn i J).2 q] at e;exact⟨l[i],zG J,by simpa using e⟩
  ·rintro⟨p,Z,e⟩
   obtain⟨i,J,rfl⟩:=UH.1 Z;exact⟨i,J,by rw[(hn i J).1,Np (hn i J).2 q,e];simp⟩
 exact AP.2 key
structure Vi (T:Nat->Option D) (fz YW:Nat->Option Obj) (lo:Nat) (W:World) (bp bo:Nat) (vp vt:Value) (ps ts:List Rw) (b:Nat) (nm:List Nat) (c:List Rw) (h2:2<=c.length) (k3 o3:Int) (aB:World):Prop where
 s:iT T YW lo aB bp bo k3 o3 vp vt ps ts
 pb:qG aB b (bC nm) (.slice none 0 0)
 x:dX fz YW
 fr:uf bp bo vp W aB
 fb:YW b=none
 nn:∀q,q<W.heap.size->fz q=none->YW q=none
 ge:W.heap.size<=b
 nb:vp.ownBlock≠some b/\vt.ownBlock≠some b
 nmb:(∀x∈nm,x<256)/\nm.length<=gB
 law:∃k2 o2 bb,bG (n_ c[1]) (fun s=>.one (.str s)) iQ [.int .i64 0,.int .i64 0] (.one (.str nm)) [.int .i64 k2,.int .i64 o2]/\bb=(bg ps).contains nm/\k3=(if bb then oz k2 6 else k2)/\o3=(if bb then rO k2 o2 (no c[1]) else o2)
def Vi.start {T:Nat->ah D} {fz j:Nat->ah Obj} {lo:Nat} {W:ak} {bp bo:Nat} {w y:av} {ps ts:G Rw} {b:Nat} {nm:G Nat} {c:G Rw} {F:2<=c.length} {l q:Int} {aB:ak} (h:Vi T fz j lo W bp bo w y ps ts b nm c F l q aB) (n:Nat):
 zI T n true fz lo W bp bo w y ps ts (c.drop 2) l q 0 j l q [] (.slice none 0 0) aB:=by
 refine⟨h.s,Bf.start fun e=>?_,nu.nil _ _ _ _ _,h.x,(fun g e=>by cases e),h.fr,h.nn⟩
 obtain⟨d',e',A,P,_,E,a'⟩:=h.law;rcases P.vv with⟨x,_,u,_⟩|⟨f,_,u,b',_⟩
 ·obtain⟨rfl,rfl⟩:=xQ (c:=0) (d:=0) u
  cases A with
  |true=>rw[E] at e;simp[oz] at e
  |false=>exact a'
 ·obtain⟨e1,c'⟩:=xQ (c:=f.1) (d:=f.2) b'
  subst e1 c';cases A<;>(rw[E] at e;simp[oz,u] at e)
def aG0 (E4:bH T) (n3:(E_ b).aA T) {fz:Nat->ah Obj} {lo:Nat} {W:ak} {bp bo:Nat} {f':av} {ts:G Rw} {x:Nv} {t:G Nat} (hS:iT T fz lo W bp bo 0 0 m f' l ts) (OJ:Kc l) (hn:x.n=L.length)
 (W0:2<=L.length) (X0:l.length<8) (o3:L.length<=62) (i0:dR O L eB) (a1:DR fz (.R L) (.slice x.a L.length x.c)) (T1:∀y∈L,aI y<=b) (j5:lo<=W.heap.size):
 Calls Tryz.prog 15 #[.pointer (some ⟨bp,0,none⟩),x.val,.pointer (some ⟨bo,0,none⟩)] W (Vf T b fz lo W bp bo m f' l ts [.int .i64 x.k,.str t,.R L,.int .i64 x.o] L):=by
 obtain⟨a,cap,r3⟩:∃a cap,m=.slice a l.length cap:=by
  exact arG
 obtain⟨k,s,s3,x5,W',M0⟩:=x;dsimp only at hn a1;subst hn;obtain⟨arr,d,F4,g3,u3,rQ,b1,f1⟩:=Pd i0 a1;obtain⟨rfl,rfl⟩:s3=F4/\W'=g3:=by cases u3;exact⟨rfl,rfl⟩
 obtain⟨g,v3,W1⟩:∃g,s3=some ⟨g,d,none⟩/\∀i,i<L.length->∀W,dX fz (dM W)->II W g (d+i*4) (sG arr (d+i*4)):=by
  rcases b1 with e|⟨g,e,h⟩
  ·rw[e] at W0;simp at W0
  ·exact⟨g,e,h⟩
 clear b1;subst v3;have h0:=hS.alloc (.cells #[.int .i64 k,.string s,.slice (some ⟨g,d,none⟩) L.length W',.int .i64 M0] 46);have L4:bp<W.heap.size:=hS.yH;have M4:bo<W.heap.size:=hS.DL;have Mg:=Q ((Sb.refl bp W).alloc (.cells #[.int .i64 k,.string s,.slice (some ⟨g,d,none⟩) L.length W',.int .i64 M0] 46));have hlt:W.heap.size<(W.alloc (.cells #[.int .i64 k,.string s,.slice (some ⟨g,d,none⟩) L.length W',.int .i64 M0] 46)).heap.size:=bS;obtain⟨d_,hU⟩:∃d_,W.alloc (.cells #[.int .i64 k,.string s,.slice (some ⟨g,d,none⟩) L.length W',.int .i64 M0] 46)=d_:=⟨_,rfl⟩;have x':∀aB,Sb bp d_ aB->(aB.cell? ⟨W.heap.size,0,none⟩=some (.int .i64 k)/\aB.cell? ⟨W.heap.size,1,none⟩=some (.string s)/\aB.cell? ⟨W.heap.size,2,none⟩=some (.slice (some ⟨g,d,none⟩) L.length W')/\aB.cell? ⟨W.heap.size,3,none⟩=some (.int .i64 M0)):=fun aB hV=>by
  exact af6
 have X1:∀aB,Sb bp d_ aB->aB.cell? ⟨bo,0,none⟩=some m:=fun aB hV=>by
  exact aq5
 have a2:jN d_ bp 0 0:=by rw[<-hU];exact h0.p
 have b2:iT T fz lo d_ bp bo 0 0 m f' l ts:=by rw[<-hU];exact h0
 have d2:Sb bp W d_:=afM;obtain⟨y5,z5,A5,D5⟩:=x' d_ (Sb.refl _ _);obtain⟨y1,g1⟩:∃y,sG arr (d+1*4)=y:=⟨_,rfl⟩;have w3:=Q (f1 1 I);have f2:kH fz L[1] y1.list:=by rw[<-g1];exact w3.out
 have g2:aJ O L[1] eB:=i0.get (gM I);have k5:(2:Int)<=(L.length:Int):=I;have l5:(1:Int)<(L.length:Int):=I;have m5:¬(8:Int)<=(l.length:Int):=I;have n5:IntKind.i64.wrap ((L.length:Int)-2)=(L.length:Int)-2:=vS I I;have o5:¬(60:Int)<(L.length:Int)-2:=I;have M1:=Q x';have x3:=Q X1;have P4:=Q a2;have D':=Q b2;have h3:=Q d2;have h2:=Q OJ;have j0:=Q W1;have h1:=Q g1;have i2:=Q f2;have j2:=Q g2;have y3:=Q i0;have A3:=Q f1;have D3:=Q T1;have E3:=Q n3;have k0:=asJ;have i3:=asK;have y':=asM;clear i0 f1 T1 n3;obtain⟨F3,k0,X'⟩:=lq.1 k0;simp only[eG] at X';obtain⟨k2,l2,m2⟩:=X';obtain⟨M3,y',l0⟩:=lq.1 y';simp only[eG] at l0;obtain⟨n2,o2,r2⟩:=l0;have P3:=Q k0;have T3:=Q k2;have W3:=Q l2;have X3:=Q m2;have a4:=Q y';have b4:=Q n2;have d4:=Q o2;have e4:=Q r2;clear k0 k2 l2 m2 y' n2 o2 r2 i3;clear x' X1 a2 b2 d2 h0 hS OJ hlt Mg W1 f2 g2 a1 u3 w3 g1;subst r3;go_enter UM,UO;go_wp2_with (first
  |(refine(Po bp 0 0 true ⟨k,s,some ⟨g,d,none⟩,L.length,W',M0⟩ d_ P4.out).mono ?_;rintro r aB ⟨rfl,hf,m'⟩;obtain⟨v0,v1,E5,F5⟩:=M1.out aB m';have L5:=x3.out aB m';obtain⟨w0,j3,f4,P0⟩:=j0.out 1 I aB (D'.out.pY hf m').ext;rw[h1.out] at w0 j3 f4 P0;have g':=Q hf;have F:=Q m';clear hf m')
  |(refine(Av bp _ _ _ g'.out).mono ?_;rintro r M5 ⟨rfl,rfl⟩)
  |(refine(aGv E4 j2.out (.inl rfl) g'.out (D'.out.pY g'.out F.out).ext D'.out.fp D'.out.kE i2.out).mono ?_;rintro r A ⟨nm,h',i1,P1,rfl,g4,h4,r',P,b',a',m0,i'⟩
    have E':=Q (((D'.out.pY g'.out F.out).gZ m0 i' P b' a').alloc (.cells #[.string (bC nm),.slice none 0 0] 65));have o0:=Q ((F.out.trans i').alloc (.cells #[.string (bC nm),.slice none 0 0] 65));obtain⟨w0,j3,f4,P0⟩:=M1.out _ o0.out;have P5:=x3.out _ o0.out;obtain⟨z0,z1,z2,z3⟩:=j0.out 1 I _ (P.trans E'.out.ext);rw[h1.out] at z0 z1 z2 z3;have r0:=Q (qG.new A (bC nm) 65);have p0:=r0.out.c0;have p1:=r0.out.c1;have e':=Q (⟨g4,h4,r',P,a',i'⟩:_/\_/\_/\_/\_/\_);have i4:Hid (∀q,q<W.heap.size->fz q=none->h' q=none):=Q (fun q a0 e=>by
     cases e2:h' q with
     |none=>rfl
     |some j4=>
      rcases a' q j4 e2 with F'|F'
      ·rw[F'] at e;cases e
      ·have:=h3.out.size;have:=F.out.size;omega)
    have k4:Hid (h' A.heap.size=none):=Q (by
     cases e:h' A.heap.size with
     |none=>rfl
     |some j4=>exact absurd (kF.1 (b' _ _ e)).1 (Ck _))
    obtain⟨k3,s2,u2⟩:=E'.out.gp.pks h2.out;have v2:=Q (aFi a cap l.length _ _ k3 _ I s2 p0);have w2:=Q u2;have j1:Hid (W.heap.size<=A.heap.size/\(Value.slice a l.length cap).ownBlock≠some A.heap.size/\f'.ownBlock≠some A.heap.size):=⟨by have:=h3.out.size;have:=F.out.size;have:=i'.size;omega,fun e=>by have:=(((D'.out.pY g'.out F.out).gZ m0 i' P b' a').gp.lt e).2;omega,fun e=>by have:=(((D'.out.pY g'.out F.out).gZ m0 i' P b' a').gt.lt e).2;omega⟩
    clear g4 h4 r' P b' a' m0 i' s2 u2 p0 p1)
  |(refine(v2.out).mono ?_;rintro r z' ⟨k1,rfl,a0,T0⟩
    have j':=Q (E'.out.below T0);have l1:=Q (o0.out.aeH T0);have m1:Hid (∀aB n' p',iT T h' lo aB bp bo n' p' (.slice a l.length cap) f' l ts->Sb bp z' aB->n'=(if k1 then oz i1 6 else i1)->p'=(if k1 then rO i1 P1 (no L[1]) else P1)->Vi T fz h' lo W bp bo (.slice a l.length cap) f' l ts A.heap.size nm L W0 n' p' aB):=Q (fun aB n' p' e1 e2 F' l3=>by
     have l4:=((r0.out.below T0 bS).same (e2.block A.heap.size (by have:=T0.size;simp at this;omega) (by have:=E'.out.p;have:=(D'.out.pY g'.out F.out).yH;have:=e'.out.2.2.2.2.2.size;omega)))
     exact⟨e1,l4,e'.out.2.2.2.1,(((h3.out.trans o0.out).aeH T0).trans e2).Ai,k4.out,i4.out,j1.out.1,j1.out.2,⟨e'.out.1,e'.out.2.1⟩,i1,P1,k1,e'.out.2.2.1,aHe e'.out.1 a0 w2.out,F',l3⟩)
    obtain⟨q0,q1,q2,q3⟩:=M1.out z' l1.out;obtain⟨T4,W4,X4,a5⟩:=j0.out 1 I z' (e'.out.2.2.2.1.trans j'.out.ext);rw[h1.out] at T4 W4 X4 a5;clear a0 T0;cases k1)
  |(refine(Gy bp i1 P1 6 y1 z' j'.out.p).mono ?_;rintro r z' ⟨rfl,hf,m'⟩
    have j':=Q (j'.out.pY hf m');have m4:=Q m';obtain⟨q0,q1,q2,q3⟩:=M1.out z' (l1.out.trans m');clear hf m'))
 all_goals
  obtain⟨n',p',HL⟩:∃n' p',Hid (Vi T fz h' lo W bp bo (.slice a l.length cap) f' l ts A.heap.size nm L W0 n' p' z'):=by
   first
    |exact⟨_,_,Q (m1.out z' _ _ j'.out (Sb.refl _ _) rfl rfl)⟩
    |exact⟨_,_,Q (m1.out z' _ _ j'.out m4.out rfl (by rw[aha j2.out i2.out];rfl))⟩
  clear m1 j' l1 E' e' r0 v2 w2 j1 q0 q1 q2 q3;go_loopg [59] (L.length-2) (fun b5 v wr=>∃(i:Nat) (s0:Nat->ah Obj) (k o:Int) (fs:G Rw) (q':av),b5=L.length-2-i/\i<=L.length-2/\v=.int .i64 (i:Nat)/\Hid (zI T b true fz lo W bp bo (.slice a l.length cap) f' l ts (L.drop 2) n' p' i s0 k o fs q' wr/\qG wr A.heap.size (bC nm) q'/\q'.ownBlock≠some A.heap.size/\s0 A.heap.size=none))
  case atStart=>exact⟨0,_,_,_,_,_,rfl,gK _,rfl,HL.out.start b,HL.out.pb,(fun e=>by cases e),HL.out.fb⟩
  case round=>
   obtain⟨i,s0,k',o',fs,q',n4,p5,rfl,u⟩:=hrel;rename ak=>E
   have d5:=Q n4;clear n4;rcases Iu i (L.length-2) with hlt|q5
   ·try(exfalso;omega)
    all_goals
     have o4:(i:Int)<(L.length:Int)-2:=I;have X':(0:Int)<=(i:Int):=I;have r5:IntKind.i64.wrap ((i:Int)+1)=(i:Int)+1:=vS I I;obtain⟨d',x2⟩:∃y,sG arr (d+(i+2)*4)=y:=⟨_,rfl⟩;have t0:=A3.out (i+2) I;have o1:=y3.out.get (gM (show i+2<L.length by omega))
     have r1:=D3.out _ (zG (show i+2<L.length by omega))
     have s1:(L.drop 2)[i]?=some (L[i+2]'I):=by rw[P9,ai0 2 i];exact gM _
     obtain⟨b0,y2⟩:∃r,L[i+2]'(show i+2<L.length by omega)=r:=⟨_,rfl⟩
     have u1:=j0.out (i+2) I E (u.out.1.x.trans u.out.1.s.ext);rw[x2] at u1 t0;rw[y2] at t0 o1 r1 s1;rw[show d+(i+2)*4=d+8+i*4 by omega] at u1
     obtain⟨c0,c1,c2,c3⟩:=u1;have s':Hid (kH fz b0 d'.list/\aJ O b0 eB/\aI b0<=b/\(L.drop 2)[i]?=some b0):=⟨t0,o1,r1,s1⟩;have A2:=Q hlt;clear x2 t0 o1 r1 s1 y2 hlt;go_wp2_with fail;refine(arS E3.out s'.out.2.1 s'.out.2.2.1 u.out.1.r.DT (u.out.1.s.alloc _).p (u.out.1.s.alloc _).ext u.out.1.s.fp u.out.1.s.kE (s'.out.1.mono u.out.1.x)).mono ?_;rintro r aB ⟨y,row,t',L',w1,rfl,r',D2,x1,A1,P,b',a',u0,u'⟩;have F:=Q ((u.out.1.s.alloc _).gZ u0 u' P b' a');have p4:Hid (∀w g c2 x0,Sb bp (aB.alloc (.cells #[.int .i64 y.k,.string y.nm,.slice y.ps.a y.ps.n y.ps.c,.int .i64 y.tk,.string y.tn,.int .i64 y.ti,.slice y.ta.a y.ta.n y.ta.c,.slice y.fs.a y.fs.n y.fs.c,.slice y.bd.a y.bd.n y.bd.c] 72)) w->jN w bp (Um true row L') (Un true row L' w1 (no b0))->(∀e0,(w.alloc (.cells #[.int .i64 y.k,.string y.nm,.slice y.ps.a y.ps.n y.ps.c,.int .i64 y.tk,.string y.tn,.int .i64 y.ti,.slice y.ta.a y.ta.n y.ta.c,.slice y.fs.a y.fs.n y.fs.c,.slice y.bd.a y.bd.n y.bd.c] 72)).ownsRow lo 72 9 q' fs.length e0->qz (w.alloc (.cells #[.int .i64 y.k,.string y.nm,.slice y.ps.a y.ps.n y.ps.c,.int .i64 y.tk,.string y.tn,.int .i64 y.ti,.slice y.ta.a y.ta.n y.ta.c,.slice y.fs.a y.fs.n y.fs.c,.slice y.bd.a y.bd.n y.bd.c] 72)) x0 lo 72 9 q' fs.length e0 1 y.list g c2)->
      zI T b true fz lo W bp bo (.slice a l.length cap) f' l ts (L.drop 2) n' p' (i+1) t' (Um true row L') (Un true row L' w1 (no b0)) (fs++[row]) (.slice (some ⟨g,0,none⟩) (fs.length+1) c2) x0/\(∀q,q<E.heap.size->q≠bp->q'.ownBlock≠some q->x0.heap[q]?=E.heap[q]?)/\(∀q,q<E.heap.size->s0 q=none->t' q=none)):=
      Q (fun w g c2 x0 e1 e2 F'=>u.out.1.gZ (.cells #[.int .i64 d'.k,.string d'.s,.slice d'.a d'.n d'.c,.int .i64 d'.o] 46) (.cells #[.int .i64 y.k,.string y.nm,.slice y.ps.a y.ps.n y.ps.c,.int .i64 y.tk,.string y.tn,.int .i64 y.ti,.slice y.ta.a y.ta.n y.ta.c,.slice y.fs.a y.fs.n y.fs.c,.slice y.bd.a y.bd.n y.bd.c] 72) s'.out.2.2.2 r' x1 u' P b' a' u0 A1 (((Sb.refl bp aB).alloc _).trans e1) e2 rfl rfl F')
     have M':Hid (_/\_/\_/\_/\_/\_/\_/\_/\_):=⟨r',D2,x1,A1,P,b',a',u0,u'⟩;have E2:aB.heap[E.heap.size]?=_:=(u'.block E.heap.size bS (by have:=u.out.1.s.yH;omega)).trans (lu E _)
     have F2:aB.heap[A.heap.size]?=_:=(u'.block A.heap.size (by have:=u.out.2.1.lt;simp;omega) R8).trans (jV E _ _ u.out.2.1.lt)
     have q4:=Q E2;have r4:=Q F2;clear r' D2 x1 A1 P b' a' u0 u' E2 F2;go_wp2_with fail;obtain⟨fB,f0⟩:∃fB,aB.alloc (.cells #[.int .i64 y.k,.string y.nm,.slice y.ps.a y.ps.n y.ps.c,.int .i64 y.tk,.string y.tn,.int .i64 y.ti,.slice y.ta.a y.ta.n y.ta.c,.slice y.fs.a y.fs.n y.fs.c,.slice y.bd.a y.bd.n y.bd.c] 72)=fB:=⟨_,rfl⟩;rw[f0];have s4:Hid (iT T t' lo fB bp bo L' w1 (.slice a l.length cap) f' l ts):=Q (by rw[<-f0];exact F.out.alloc _)
     have v':fB.heap[E.heap.size]?=_:=(by rw[<-f0];exact jV aB _ _ (by have P':=M'.out.2.2.2.2.2.2.2.2.size;(try simp at P');omega):fB.heap[E.heap.size]?=aB.heap[E.heap.size]?).trans q4.out
     have M2:fB.heap[A.heap.size]?=_:=(by rw[<-f0];exact jV aB _ _ (by have P':=M'.out.2.2.2.2.2.2.2.2.size;have:=u.out.2.1.lt;(try simp at P');omega):fB.heap[A.heap.size]?=aB.heap[A.heap.size]?).trans r4.out
     have D1:fB.heap[aB.heap.size]?=some (.cells #[.int .i64 y.k,.string y.nm,.slice y.ps.a y.ps.n y.ps.c,.int .i64 y.tk,.string y.tn,.int .i64 y.ti,.slice y.ta.a y.ta.n y.ta.c,.slice y.fs.a y.fs.n y.fs.c,.slice y.bd.a y.bd.n y.bd.c] 72):=by rw[<-f0];exact lu aB _
     have n0:fB.cell? ⟨E.heap.size,0,none⟩=some (.int .i64 d'.k):=by rw[gX fB _ 0 _ _ _ v'];rfl
     have n1:fB.cell? ⟨E.heap.size,1,none⟩=some (.string d'.s):=by rw[gX fB _ 1 _ _ _ v'];rfl
     have T5:fB.cell? ⟨E.heap.size,2,none⟩=some (.slice d'.a d'.n d'.c):=by rw[gX fB _ 2 _ _ _ v'];rfl
     have W5:fB.cell? ⟨E.heap.size,3,none⟩=some (.int .i64 d'.o):=by rw[gX fB _ 3 _ _ _ v'];rfl
     have e5:fB.cell? ⟨aB.heap.size,0,none⟩=some (.int .i64 y.k):=by rw[gX fB _ 0 _ _ _ D1];rfl
     have s5:=Q v';have t5:=Q M2;have P2:=Q D1;have A0:=Q f0;clear v' M2 D1 f0;go_region_law (first
      |(refine awe 69 rfl rfl 34 #[.int .i64 y.k] aS ?_;refine(aFt y.k _).mono ?_;rintro e X5 ⟨rfl,rfl⟩;refine⟨_,rfl,?_⟩)
      |(refine awe 71 rfl rfl 29 #[.pointer (some ⟨bp,0,none⟩),.bool (y.k==1||y.k==2||y.k==3),d'.val] aS ?_;refine(Po bp L' w1 (y.k==1||y.k==2||y.k==3) d' fB.drew s4.out.p).mono ?_;rintro e w ⟨rfl,T2,w'⟩;refine⟨_,rfl,?_⟩;have t4:=Q (aNo T2 M'.out.2.1 (aha s'.out.2.1 s'.out.1));have D0:Hid (Sb bp fB w):=Q ⟨w'.os,w'.tape,w'.output,w'.size,w'.block⟩;clear T2 w'))
     all_goals
      have W2:Hid (∀q,q<E.heap.size->q≠bp->w.heap[q]?=E.heap[q]?):=Q (fun q a0 hn=>by
       have P':=M'.out.2.2.2.2.2.2.2.2;have X0:Below fB.heap.size fB fB:=iN _ _;have u4:q<aB.heap.size:=by have:=P'.size;(try simp at this);omega
       have v4:q<fB.heap.size:=by rw[<-A0.out];simp;omega
       exact(D0.out.block q v4 hn).trans ((by rw[<-A0.out];exact jV aB _ q u4:fB.heap[q]?=aB.heap[q]?).trans ((P'.block q gJ hn).trans (jV E _ q a0))))
      have E1:=u.out.2.1.same (W2.out A.heap.size u.out.2.1.lt R8);have a6:=E1.c1;have c':=(D0.out.block aB.heap.size (kF.1 P2.out).1 (by have:=F.out.yH;omega)).trans P2.out
      have e5:w.cell? ⟨aB.heap.size,0,none⟩=some (.int .i64 y.k):=by rw[gX w _ 0 _ _ _ c'];rfl
      have b6:w.cell? ⟨aB.heap.size,1,none⟩=some (.string y.nm):=by rw[gX w _ 1 _ _ _ c'];rfl
      have d6:w.cell? ⟨aB.heap.size,2,none⟩=some (.slice y.ps.a y.ps.n y.ps.c):=by rw[gX w _ 2 _ _ _ c'];rfl
      have e6:w.cell? ⟨aB.heap.size,3,none⟩=some (.int .i64 y.tk):=by rw[gX w _ 3 _ _ _ c'];rfl
      have f6:w.cell? ⟨aB.heap.size,4,none⟩=some (.string y.tn):=by rw[gX w _ 4 _ _ _ c'];rfl
      have g6:w.cell? ⟨aB.heap.size,5,none⟩=some (.int .i64 y.ti):=by rw[gX w _ 5 _ _ _ c'];rfl
      have h6:w.cell? ⟨aB.heap.size,6,none⟩=some (.slice y.ta.a y.ta.n y.ta.c):=by rw[gX w _ 6 _ _ _ c'];rfl
      have i6:w.cell? ⟨aB.heap.size,7,none⟩=some (.slice y.fs.a y.fs.n y.fs.c):=by rw[gX w _ 7 _ _ _ c'];rfl
      have j6:w.cell? ⟨aB.heap.size,8,none⟩=some (.slice y.bd.a y.bd.n y.bd.c):=by rw[gX w _ 8 _ _ _ c'];rfl
      have u5:=Q E1;obtain⟨e0,E0,_⟩:=u.out.1.g.own;have F0:w.ownsRow lo 72 9 q' fs.length e0:=Aw E0 fun q e=>W2.out q (u.out.1.g.lt e).2 (u.out.1.ng q e).1;have X2:=Q F0;have a3:Hid (fs.length=i):=Q u.out.1.r.len;have FZ:Hid (lo<=w.heap.size/\E.heap.size<=w.heap.size):=by
       have P':=M'.out.2.2.2.2.2.2.2.2.size;have X0:=D0.out.size;have u4:=u.out.1.fr.size;rw[<-A0.out] at X0;simp at X0
       try simp at P'
       exact Q I
      clear E1 c' E0 F0;go_wp2_with (at_builtin;refine FL _ rfl _ _ 62 rfl lo 72 F3 _ 9 152 Tryz.underlying62 P3.out T3.out W3.out X3.out rfl I q' fs.length e0 rfl (Ej X2.out _) ⟨w.heap.size,0,none⟩ 1 1 y.list rfl rfl ?c1 ?c2 ?c3 ?c4 ?c5 ?c6 ?_)
      case c1=>exact xS (cs:=y.list.toArray) (lu w _)
      case c2=>simp[Value.oneCell']
      case c3=>omega
      case c4=>have:=a3.out;unfold maxLen;omega
      case c5=>have:=a3.out;omega
      case c6=>have:=FZ.out.1;simp;omega
      intro A' c2 P0 g0;obtain⟨b3,d3,e3⟩:=p4.out w A' c2 P0 (by rw[A0.out];exact D0.out) t4.out (fun k6 f5=>by
       obtain rfl:=TD (Ej X2.out _) f5;exact g0)
      have w4:A'≠A.heap.size:=by
       rcases g0.nG with e|⟨e,_⟩
       ·exact fun q=>u.out.2.2.1 (q▸e)
       ·have:=FZ.out.2
        have:=u.out.2.1.lt;simp at e;omega
      have L0:=u.out.2.1.same (d3 A.heap.size u.out.2.1.lt R8 u.out.2.2.1);have g5:=L0.c1;have z1:=L0.z 1;have F1:=e3 A.heap.size u.out.2.1.lt u.out.2.2.2;have x4:Hid (zI T b true fz lo W bp bo (.slice a l.length cap) f' l ts (L.drop 2) n' p' (i+1) t' (Um true row L') (Un true row L' w1 (no b0)) (fs++[row]) (.slice (some ⟨A',0,none⟩) (fs.length+1) c2) (P0.setCell ⟨A.heap.size,1,none⟩ (.slice (some ⟨A',0,none⟩) (fs.length+1) c2))/\qG (P0.setCell ⟨A.heap.size,1,none⟩ (.slice (some ⟨A',0,none⟩) (fs.length+1) c2)) A.heap.size (bC nm) (.slice (some ⟨A',0,none⟩) (fs.length+1) c2)/\(Value.slice (some ⟨A',0,none⟩) (fs.length+1) c2).ownBlock≠some A.heap.size/\t' A.heap.size=none):=by
       have l':(Value.slice (some ⟨A',0,none⟩) (fs.length+1) c2).ownBlock≠some A.heap.size:=fun e=>by
        have e:some A'=some A.heap.size:=e;exact w4 (bI e)
       exact⟨b3.set 1 _ R8 R8 HL.out.nb.1 HL.out.nb.2 l' F1 HL.out.ge,L0.put _,l',F1⟩
      clear g0 b3 d3 e3 L0 F1;go_wp2_with fail;go_roundg (L.length-2-(i+1))
      case measure=>have:=d5.out;have:=A2.out;omega
      case rel=>exact⟨i+1,t',_,_,_,_,rfl,by have:=A2.out;omega,by simp,x4⟩
   ·obtain rfl:i=L.length-2:=by omega
    have o4:¬((L.length-2:Nat):Int)<(L.length:Int)-2:=I;obtain⟨va,T',rfl⟩:∃va m3,q'=.slice va fs.length m3:=by
     obtain⟨va,m3,e,_⟩:=u.out.1.g.done;exact⟨va,m3,e⟩
    obtain⟨l6,_,_⟩:=u.out.1.s.oc;obtain⟨m6,_,_⟩:=(u.out.1.s.alloc (.cells #[.string (bC nm),.slice va fs.length T'] 65)).oc;have q0:=u.out.2.1.c0;have q1:=u.out.2.1.c1;have L1:=Q (u.out.1.s.nM u.out.1.g.ext fun g e=>⟨(u.out.1.ng g e).1,(u.out.1.ng g e).2.1,(u.out.1.ng g e).2.2.1,(u.out.1.ng g e).2.2.2.1⟩);have y4:=Q u.out.1.g.done;obtain⟨e0,l',_⟩:=u.out.1.s.gp.own;have f3:=Q l';have FZ:Hid (lo<=E.heap.size):=Q (by have:=u.out.1.fr.size;omega)
    clear l';go_wp2_with fail;go_region_law ((refine D9 _ rfl (.tmp 83) (.tmp 85) 22 rfl lo 65 M3 _ 2 40 Tryz.underlying22 a4.out b4.out d4.out e4.out rfl I (.slice a l.length cap) l.length e0 Fu ((f3.out.alloc _).drew) ⟨E.heap.size,0,none⟩ 1 1 [.string (bC nm),.slice va fs.length T'] Fu rfl (xS (cs:=#[.string (bC nm),.slice va fs.length T']) (t:=65) (fr:=(0,0)) (lu E _)) Ah I wB I RS ?_;intro g5 c2 j3 g0;obtain⟨n6,o6,h5⟩:=(L1.out.alloc _).drew.BK g0.grown (fun e=>(L1.out.np bo e).2 rfl);have z0:=h5 0;have i5:=Q g0;clear g0))
    all_goals
     go_end0;obtain⟨z4,A4⟩:=(L1.out.alloc (.cells #[.string (bC nm),.slice va fs.length T'] 65)).drew.aoi (r:=[.str nm,.R fs]) ⟨_,_,rfl,⟨rfl,HL.out.nmb.1⟩,_,_,rfl,y4.out,rfl⟩ rfl ((f3.out.alloc _).drew) i5.out;have D4:=u.out.1.fr.alloc (.cells #[.string (bC nm),.slice va fs.length T'] 65);refine⟨rfl,_,k',o',_,_,z4,u.out.1.x.trans u.out.1.g.ext,fun r U=>?_,?_,D4.drew.trans A4,fun q a0 e=>?_⟩
     ·rcases qV.1 U with e|e
      ·exact h2.out r e
      ·rw[yR.1 e];exact⟨nm,fs,rfl⟩
     ·obtain⟨v5,w5,k1,e1,e2,F',l3⟩:=HL.out.law
      refine aG1 W0 X0 o3 e1 e2 ?_;rw[<-F',<-l3,sK];exact u.out.1.r
     ·unfold sw
      rw[bB fun e2=>by have:=(u.out.1.ng q e2).2.2.2.2;omega]
      exact u.out.1.nn q a0 e
def asN:(Tryz.prog.info? 62).map (fun i=>(i.zero,i.size,i.bytes))=some (some (.slice none 0 0),1,24):=asK
def nu.R (h:nu j W b u g v e):∃a cap,v=.slice a e.length cap:=by
 obtain⟨a,c,u,_⟩:=h.done;exact⟨a,c,u⟩
def uf.below {lo:Nat} {W':ak} (h:uf b i v W W') (l:lo<=b) (q:lo<=i) (j:∀g,v.ownBlock=some g->lo<=g) (u:lo<=W.heap.size):Below lo W W':=
 ⟨h.os,h.tape,h.output,h.size,fun g w=>h.block g I I I fun e=>by have:=j g e;omega⟩
def yM (n:Nat) (ts:G Rw) (r:Rw) (l:G Rw):dV Fa (G Rw):=if 6<=ts.length then .error (zl r) else uH n r l false
def Vd (s:dV Fa (G Rw)) (k o:Int) (ts e:G Rw):Prop:=(∃fs,s=.ok fs/\k=0/\o=0/\e=ts++[[.R fs]])\/(k≠0/\s=.error (k,o))
def ajs (T:Nat->ah D) (n:Nat) (fz:Nat->ah Obj) (lo:Nat) (W:ak) (bp bo:Nat) (u:av) (ps ts:G Rw) (r:Rw) (c:G Rw) (e:AJ) (W':ak):Prop:=
 e=.returned (.tuple #[])/\∃h k o l j,iT T h lo W' bp bo k o u l ps j/\dX fz h/\Vd (yM n ts r (c.drop 1)) k o ts j/\Below lo W W'/\∀q,q<W.heap.size->fz q=none->h q=none
structure Ms (T:Nat->Option D) (fz:Nat->Option Obj) (lo:Nat) (W:World) (bp bo:Nat) (vp vt:Value) (ps ts:List Rw) (c:List Rw) (xo:Int) (k3 o3:Int) (aB:World):Prop where
 s:iT T fz lo aB bp bo k3 o3 vp vt ps ts
 fr:uf bp bo vp W aB
 law:(k3=0/\o3=0/\ts.length<6/\c.length<=61)\/(k3=4/\o3=xo/\(6<=ts.length\/61<c.length))
def Ms.start {T:Nat->ah D} {fz:Nat->ah Obj} {lo:Nat} {W:ak} {bp bo:Nat} {u w:av} {ps ts:G Rw} {c:G Rw} {y j l:Int} {aB:ak} (h:Ms T fz lo W bp bo u w ps ts c y j l aB) (n:Nat):
 zI T n false fz lo W bp bo u w ps ts (c.drop 1) j l 0 fz j l [] (.slice none 0 0) aB:=by
 refine⟨h.s,Bf.start fun e=>?_,nu.nil _ _ _ _ _,.refl _,(fun g e=>by cases e),h.fr,fun _ _ h=>h⟩
 rcases h.law with⟨_,q,_⟩|⟨q,_⟩
 ·exact q
 ·rw[q] at e;cases e
def aNP {u w k' o':Int} {fs:G Rw} (A:(u=0/\w=0/\l.length<6/\L.length<=61)\/(u=4/\w=o/\(6<=l.length\/61<L.length)))
 (U:Bf b false (L.drop 1) u w (L.length-1) k' o' fs):Vd (yM b l [.int .i64 k,.str q,.R L,.int .i64 o] (L.drop 1)) k' o' l (l++[[.R fs]]):=by
 have j:(L.drop 1).length=L.length-1:=sK;rcases A with⟨rfl,rfl,E,F⟩|⟨rfl,rfl,E⟩
 ·have e:yM b l [.int .i64 k,.str q,.R L,.int .i64 o] (L.drop 1)=bO (Pz b false) [] (L.drop 1):=by
   unfold yM uH;rw[bB I,bB I]
   rfl
  rw[e];rcases U.ok rfl with⟨rfl,rfl,h⟩|⟨h,y⟩
  ·rw[<-j,FU] at h
   exact .inl ⟨fs,h,rfl,rfl,rfl⟩
  ·rw[<-j,FU] at y
   exact .inr ⟨h,y⟩
 ·obtain⟨rfl,rfl⟩:=U.bad jK
  refine .inr ⟨by decide,?_⟩
  unfold yM uH
  by_cases h:6<=l.length
  ·rw[bK h];rfl
  ·rw[bB h,bK I];rfl
def aNO (i1:(E_ b).aA T) {fz:Nat->ah Obj} {lo:Nat} {W:ak} {bp bo:Nat} {j1:av} {ts:G Rw} {x:Nv} {t:G Nat} (u':iT T fz lo W bp bo 0 0 m j1 l ts) (hn:x.n=L.length)
 (h0:1<=L.length) (v2:L.length<=1000000) (b3:ts.length<=1000000) (v':dR O L eB) (w':DR fz (.R L) (.slice x.a L.length x.c)) (i0:∀y∈L,aI y<=b) (k1:lo<=W.heap.size) (j0:lo<=bp) (k0:lo<=bo):
 Calls Tryz.prog 16 #[.pointer (some ⟨bp,0,none⟩),x.val,.pointer (some ⟨bo,0,none⟩)] W (ajs T b fz lo W bp bo m l ts [.int .i64 x.k,.str t,.R L,.int .i64 x.o] L):=by
 obtain⟨a,cap,l1⟩:=u'.gt.R;obtain⟨k,s,m1,i3,P,w⟩:=x;dsimp only at hn w';subst hn;obtain⟨arr,d,w2,g1,o1,rQ,x',l0⟩:=Pd v' w';obtain⟨rfl,rfl⟩:m1=w2/\P=g1:=by cases o1;exact⟨rfl,rfl⟩
 obtain⟨g,r1,m0⟩:∃g,m1=some ⟨g,d,none⟩/\∀i,i<L.length->∀W,dX fz (dM W)->II W g (d+i*4) (sG arr (d+i*4)):=by
  rcases x' with e|⟨g,e,h⟩
  ·rw[e] at h0;simp at h0
  ·exact⟨g,e,h⟩
 clear x';subst r1;have s1:=u'.alloc (.cells #[.int .i64 k,.string s,.slice (some ⟨g,d,none⟩) L.length P,.int .i64 w] 46);have x2:bp<W.heap.size:=u'.yH;have y2:bo<W.heap.size:=u'.DL;have Mg:=Q ((Sb.refl bp W).alloc (.cells #[.int .i64 k,.string s,.slice (some ⟨g,d,none⟩) L.length P,.int .i64 w] 46));have hlt:W.heap.size<(W.alloc (.cells #[.int .i64 k,.string s,.slice (some ⟨g,d,none⟩) L.length P,.int .i64 w] 46)).heap.size:=bS;obtain⟨d_,hU⟩:∃d_,W.alloc (.cells #[.int .i64 k,.string s,.slice (some ⟨g,d,none⟩) L.length P,.int .i64 w] 46)=d_:=⟨_,rfl⟩;have E:∀aB,Sb bp d_ aB->(aB.cell? ⟨W.heap.size,0,none⟩=some (.int .i64 k)/\aB.cell? ⟨W.heap.size,1,none⟩=some (.string s)/\aB.cell? ⟨W.heap.size,2,none⟩=some (.slice (some ⟨g,d,none⟩) L.length P)/\aB.cell? ⟨W.heap.size,3,none⟩=some (.int .i64 w)):=fun aB hV=>by
  exact af6
 have y':iT T fz lo d_ bp bo 0 0 m j1 l ts:=by rw[<-hU];exact s1
 have o0:Sb bp W d_:=afM;obtain⟨j3,k3,l3,m3⟩:=E d_ (Sb.refl _ _);obtain⟨_,n3,_⟩:=y'.oc;have d3:IntKind.i64.wrap ((L.length:Int)-1)=(L.length:Int)-1:=vS I I;have z':(1:Int)<=(L.length:Int):=I;have u1:=Q E;have A':=Q y';have h1:=Q o0;have v1:=Q m0;have w1:=Q v';have x1:=Q l0;have A1:=Q i0;have D1:=Q i1;have g':=asJ;have h':=asN;obtain⟨E1,g',b'⟩:=lq.1 g';simp only[eG] at b';obtain⟨r0,s0,t0⟩:=b';obtain⟨F1,h',D'⟩:=lq.1 h';simp only[eG] at D';obtain⟨u0,v0,w0⟩:=D';have L1:=Q g';have M1:=Q r0;have P1:=Q s0;have T1:=Q t0;have W1:=Q h';have X1:=Q u0;have a2:=Q v0;have b2:=Q w0;clear E y' o0 s1 u' hlt Mg m0 l0 v' w' i0 i1 o1 g' r0 s0 t0 h' u0 v0 w0;subst l1;have b0:(6<=ts.length\/(ts.length<6/\61<L.length))\/(ts.length<6/\L.length<=61):=I;have e3:Hid (6<=ts.length\/ts.length<6):=Q I;rcases b0 with(c'|⟨c',a'⟩)|⟨c',a'⟩
 case' inr=>
  have d2:¬(6:Int)<=(ts.length:Int):=I;have e2:¬(60:Int)<(L.length:Int)-1:=I;have i':Hid (∀aB,iT T fz lo aB bp bo 0 0 m (.slice a ts.length cap) l ts->Sb bp d_ aB->Ms T fz lo W bp bo m (.slice a ts.length cap) l ts L w 0 0 aB):=Q (fun aB e1 d'=>⟨e1,(h1.out.trans d').Ai,.inl ⟨rfl,rfl,c',a'⟩⟩);have j':=A';have l':=Q (Sb.refl bp d_);clear c' a' z';rename ak=>s'
  go_enter Tryz.func16,Tryz.ntmps16;go_wp2_with fail
 case' inl.inr=>
  have d2:¬(6:Int)<=(ts.length:Int):=I;have e2:(60:Int)<(L.length:Int)-1:=I;have i':Hid (∀aB,iT T fz lo aB bp bo 4 w m (.slice a ts.length cap) l ts->Sb bp d_ aB->Ms T fz lo W bp bo m (.slice a ts.length cap) l ts L w 4 w aB):=Q (fun aB e1 d'=>⟨e1,(h1.out.trans d').Ai,.inr ⟨rfl,rfl,.inr a'⟩⟩);clear c' a' z';go_enter Tryz.func16,Tryz.ntmps16;go_wp2_with (refine(Gy bp 0 0 4 ⟨k,s,some ⟨g,d,none⟩,L.length,P,w⟩ d_ A'.out.p).mono ?_;rintro r s' ⟨rfl,hf,F⟩;have j':=Q (A'.out.pY hf F);have l':=Q F;obtain⟨q0,q1,q2,q3⟩:=u1.out s' F;clear hf F)
 case' inl.inl=>
  have d2:(6:Int)<=(ts.length:Int):=I;have i':Hid (∀aB,iT T fz lo aB bp bo 4 w m (.slice a ts.length cap) l ts->Sb bp d_ aB->Ms T fz lo W bp bo m (.slice a ts.length cap) l ts L w 4 w aB):=Q (fun aB e1 d'=>⟨e1,(h1.out.trans d').Ai,.inr ⟨rfl,rfl,.inl c'⟩⟩);clear c' z';go_enter Tryz.func16,Tryz.ntmps16;go_wp2_with (refine(Gy bp 0 0 4 ⟨k,s,some ⟨g,d,none⟩,L.length,P,w⟩ d_ A'.out.p).mono ?_;rintro r s' ⟨rfl,hf,F⟩;have j':=Q (A'.out.pY hf F);have l':=Q F;obtain⟨q0,q1,q2,q3⟩:=u1.out s' F;clear hf F)
 all_goals
  obtain⟨e0,f0,HL⟩:∃e0 f0,Hid (Ms T fz lo W bp bo m (.slice a ts.length cap) l ts L w e0 f0 s'):=⟨_,_,Q (i'.out s' j'.out l'.out)⟩;clear i' j' l';go_loopg [6,29] (L.length-1) (fun A2 D2 v wr=>∃(i:Nat) (x0:Nat->ah Obj) (k o:Int) (fs:G Rw) (va:ah Addr) (f2:Nat),A2=L.length-1-i/\i<=L.length-1/\D2=.slice va fs.length f2/\v=.int .i64 (i:Nat)/\Hid (zI T b false fz lo W bp bo m (.slice a ts.length cap) l ts (L.drop 1) e0 f0 i x0 k o fs (.slice va fs.length f2) wr))
  case atStart=>exact⟨0,_,_,_,[],none,0,rfl,gK _,rfl,rfl,HL.out.start b⟩
  case round=>
   obtain⟨i,x0,k',o',fs,va,A,g2,f3,rfl,rfl,u⟩:=hrel;rename ak=>E'
   have E2:=Q g2;clear g2;rcases Iu i (L.length-1) with hlt|g3
   ·try(exfalso;omega)
    all_goals
     have h2:(i:Int)<(L.length:Int)-1:=I;have b':(0:Int)<=(i:Int):=I;have h3:IntKind.i64.wrap ((i:Int)+1)=(i:Int)+1:=vS I I;obtain⟨e',A0⟩:∃y,sG arr (d+(i+1)*4)=y:=⟨_,rfl⟩;have m':=x1.out (i+1) I;have F':=w1.out.get (gM (show i+1<L.length by omega))
     have L':=A1.out _ (zG (show i+1<L.length by omega))
     have M':(L.drop 1)[i]?=some (L[i+1]'I):=by rw[P9,ai0 1 i];exact gM _
     obtain⟨g0,D0⟩:∃r,L[i+1]'(show i+1<L.length by omega)=r:=⟨_,rfl⟩
     have P':=v1.out (i+1) I E' (u.out.x.trans u.out.s.ext);rw[A0] at P' m';rw[D0] at m' F' L' M';rw[show d+(i+1)*4=d+4+i*4 by omega] at P'
     obtain⟨c0,c1,c2,c3⟩:=P';have n':Hid (kH fz g0 e'.list/\aJ O g0 eB/\aI g0<=b/\(L.drop 1)[i]?=some g0):=⟨m',F',L',M'⟩;have E0:=Q hlt;clear A0 m' F' L' M' D0 hlt;go_wp2_with fail;refine(arS D1.out n'.out.2.1 n'.out.2.2.1 u.out.r.DT (u.out.s.alloc _).p (u.out.s.alloc _).ext u.out.s.fp u.out.s.kE (n'.out.1.mono u.out.x)).mono ?_;rintro r aB ⟨y,row,F0,i2,j2,rfl,L0,k2,M0,P0,T0,W0,X0,T',p'⟩;have l2:Hid (∀g c2 W',(∀f',(aB.alloc (.cells #[.int .i64 y.k,.string y.nm,.slice y.ps.a y.ps.n y.ps.c,.int .i64 y.tk,.string y.tn,.int .i64 y.ti,.slice y.ta.a y.ta.n y.ta.c,.slice y.fs.a y.fs.n y.fs.c,.slice y.bd.a y.bd.n y.bd.c] 72)).ownsRow lo 72 9 (.slice va fs.length A) fs.length f'->qz (aB.alloc (.cells #[.int .i64 y.k,.string y.nm,.slice y.ps.a y.ps.n y.ps.c,.int .i64 y.tk,.string y.tn,.int .i64 y.ti,.slice y.ta.a y.ta.n y.ta.c,.slice y.fs.a y.fs.n y.fs.c,.slice y.bd.a y.bd.n y.bd.c] 72)) W' lo 72 9 (.slice va fs.length A) fs.length f' 1 y.list g c2)->
      zI T b false fz lo W bp bo m (.slice a ts.length cap) l ts (L.drop 1) e0 f0 (i+1) F0 i2 j2 (fs++[row]) (.slice (some ⟨g,0,none⟩) (fs.length+1) c2) W'):=
      Q (fun g c2 W' F2=>(u.out.gZ (.cells #[.int .i64 e'.k,.string e'.s,.slice e'.a e'.n e'.c,.int .i64 e'.o] 46) (.cells #[.int .i64 y.k,.string y.nm,.slice y.ps.a y.ps.n y.ps.c,.int .i64 y.tk,.string y.tn,.int .i64 y.ti,.slice y.ta.a y.ta.n y.ta.c,.slice y.fs.a y.fs.n y.fs.c,.slice y.bd.a y.bd.n y.bd.c] 72) n'.out.2.2.2 L0 M0 p' T0 W0 X0 T' P0 (Sb.refl bp aB) T' rfl rfl F2).1)
     obtain⟨f',q',_⟩:=u.out.g.own;have r':aB.ownsRow lo 72 9 (.slice va fs.length A) fs.length f':=Aw q' fun q e=>(p'.block q (by have:=(u.out.g.lt e).2;simp;omega) (u.out.ng q e).1).trans (jV E' _ q (u.out.g.lt e).2)
     have a1:=Q r';have b1:Hid (fs.length=i):=Q u.out.r.len;have FZ:Hid (lo<=aB.heap.size):=by
      have M2:=p'.size;have o3:=u.out.fr.size;simp at M2;exact Q I
     clear L0 k2 M0 P0 T0 W0 X0 T' p' q' r';go_wp2_with (at_builtin;refine FL _ rfl _ _ 62 rfl lo 72 E1 _ 9 152 Tryz.underlying62 L1.out M1.out P1.out T1.out rfl I (.slice va fs.length A) fs.length f' rfl (Ej a1.out _) ⟨aB.heap.size,0,none⟩ 1 1 y.list rfl rfl ?c1 ?c2 ?c3 ?c4 ?c5 ?c6 ?_)
     case c1=>exact xS (cs:=y.list.toArray) (lu aB _)
     case c2=>simp[Value.oneCell']
     case c3=>omega
     case c4=>have:=b1.out;unfold maxLen;omega
     case c5=>have:=b1.out;omega
     case c6=>have:=FZ.out;simp;omega
     intro m2 c2 P2 t';have n2:=Q (l2.out m2 c2 P2 (fun r3 T2=>by
      obtain rfl:=TD (Ej a1.out _) T2;exact t'))
     clear t';go_wp2_with fail;go_roundg (L.length-1-(i+1))
     case measure=>have:=E2.out;have:=E0.out;omega
     case rel=>exact⟨i+1,F0,i2,j2,fs++[row],some ⟨m2,0,none⟩,c2,rfl,by have:=E0.out;omega,by simp,by simp,by rw[mD];exact n2⟩
   ·obtain rfl:i=L.length-1:=by omega
    have h2:¬((L.length-1:Nat):Int)<(L.length:Int)-1:=I;obtain⟨_,s3,_⟩:=u.out.s.oc;obtain⟨_,u3,_⟩:=(u.out.s.alloc (.cells #[.slice va fs.length A] 62)).oc;have X':=Q (u.out.s.nM u.out.g.ext fun g e=>⟨(u.out.ng g e).1,(u.out.ng g e).2.1,(u.out.ng g e).2.2.1,(u.out.ng g e).2.2.2.1⟩);have o2:=Q u.out.g.done;obtain⟨f',a0,_⟩:=u.out.s.gt.own;have f1:=Q a0;have FZ:Hid (lo<=E'.heap.size):=Q (by have:=u.out.fr.size;omega)
    clear a0;go_wp2_with (at_builtin;refine FL _ rfl _ _ 23 rfl lo 62 F1 _ 1 24 Tryz.underlying23 W1.out X1.out a2.out b2.out rfl I (.slice a ts.length cap) ts.length f' rfl (Ej f1.out _) ⟨E'.heap.size,0,none⟩ 1 1 [.slice va fs.length A] rfl rfl (xS (cs:=#[.slice va fs.length A]) (t:=62) (fr:=(0,0)) (lu E' _)) Ah I wB I RS ?_);intro v3 c2 w3 t';obtain⟨x3,y3,W2⟩:=(X'.out.alloc _).BK t'.grown (fun e=>(X'.out.nt bo e).2 rfl);have z0:=W2 1;have X2:=Q t';clear t';go_wp2_with fail
    all_goals
     go_end0;obtain⟨r2,s2⟩:=(X'.out.alloc (.cells #[.slice va fs.length A] 62)).aoj (r:=[.R fs]) ⟨_,_,rfl,o2.out,rfl⟩ rfl (Ej f1.out _) X2.out;have u2:=u.out.fr.alloc (.cells #[.slice va fs.length A] 62);exact⟨rfl,_,k',o',_,_,r2,u.out.x.trans u.out.g.ext,aNP HL.out.law u.out.r,(u2.below j0 k0 (fun g e=>(HL.out.s.gp.lt e).1) k1).trans (s2.below j0 k0 (fun g e=>(HL.out.s.gt.lt e).1) RS),fun q a3 e=>by
      unfold sw;rw[bB fun d'=>by have:=(u.out.ng q d').2.2.2.2;omega]
      exact u.out.nn q a3 e⟩
def aoc {c:dG} {st:Stack} {e:Int×Nat} (h:act c b st=.error e):e.1≠0:=by
 unfold act at h
 repeat' split at h
 all_goals first|(cases h;done)|(cases h;simp)
def awE {acc:G dG} {st:Stack} {e:Int×Nat} (h:Ik b acc st=.error e):e.1≠0:=by
 unfold Ik at h;split at h
 ·cases h
 ·cases h;simp
def afE {st:Stack} {e:Int×Nat} (h:Dg b st=.error e):e.1≠0:=by
 unfold Dg at h;split at h
 ·cases h
 ·cases h;simp
def go_nz:∀(s:G dG) {pos:Nat} {m:Mode} {st:Stack} {e:Int×Nat},go s pos m st=.error e->e.1≠0
 |[],pos,.plain,st,e,h=>afE h
 |[],pos,.comment,st,e,h=>afE h
 |[],pos,.word start acc,st,e,h=>by
  unfold go at h;split at h
  ·exact afE h
  ·rename_i l j
   cases h;exact awE j
 |[],pos,.text _ _,st,e,h=>by unfold go at h;cases h;simp
 |[],pos,.escape _ _,st,e,h=>by unfold go at h;cases h;simp
 |c::s,pos,.plain,st,e,h=>by
  unfold go at h;split at h
  ·exact go_nz s h
  ·rename_i l j
   cases h;exact aoc j
 |c::s,pos,.comment,st,e,h=>by
  unfold go at h;split at h
  ·exact go_nz s h
  ·exact go_nz s h
 |c::s,pos,.word start acc,st,e,h=>by
  unfold go at h;split at h
  ·exact go_nz s h
  ·split at h
   ·split at h
    ·exact go_nz s h
    ·rename_i l j
     cases h;exact aoc j
   ·rename_i l j
    cases h;exact awE j
 |c::s,pos,.text start acc,st,e,h=>by
  unfold go at h;split at h
  ·split at h
   ·exact go_nz s h
   ·cases h;simp
  ·split at h
   ·split at h
    ·exact go_nz s h
    ·exact go_nz s h
   ·cases h;simp
 |c::s,pos,.escape start acc,st,e,h=>by
  unfold go at h;split at h
  ·exact go_nz s h
  ·cases h;simp
def atE {s:G dG} (h:parse s=.error (k,b)):k≠0:=by
 unfold parse at h;split at h
 ·exact go_nz s h
 ·cases h;decide
def ahX {j q:Type} {f:j->q->dV Fa j}:∀{l m:G q} {s:j},bO f s (l++m)=aL (bO f s l) fun t=>bO f t m
 |[],m,s=>rfl
 |a::l,m,s=>by
  simp only[wM,bO];cases h:f s a with
  |error e=>rfl
  |ok t=>exact ahX
structure sN (n:Nat) (l:List Rw) (i:Nat) (k o:Int) (ps ts:List Rw):Prop where
 st:(k=0/\o=0/\bO (m_ n) ([],[]) (l.take i)=.ok (ps,ts)/\ps.length<=8/\ts.length<=6)\/(k≠0/\bO (m_ n) ([],[]) (l.take i)=.error (k,o))
def sN.start {n:Nat}:sN n l 0 0 0 [] []:=⟨.inl ⟨rfl,rfl,by simp only[aa7,bO],by simp,by simp⟩⟩
def sN.stop {ts:G Rw} (h:sN b l i k o L ts) (j:k≠0):bO (m_ b) ([],[]) l=.error (k,o):=by
 rcases h.st with⟨e,_⟩|⟨_,q⟩
 ·exact absurd e j
 ·rw[<-UJ i l,ahX,q];rfl
def sN.full {ts:G Rw} (h:sN b l l.length k o L ts) (q:k=0):o=0/\bO (m_ b) ([],[]) l=.ok (L,ts):=by
 rcases h.st with⟨_,e,j,_⟩|⟨e,_⟩
 ·rw[FU] at j;exact⟨e,j⟩
 ·exact absurd q e
def sN.KF {ts:G Rw} (h:sN b l i k o L ts) (j:k=0):o=0/\bO (m_ b) ([],[]) (l.take i)=.ok (L,ts)/\L.length<=8/\ts.length<=6:=by
 rcases h.st with⟨_,e⟩|⟨e,_⟩
 ·exact e
 ·exact absurd j e
def aGX {c:G Rw} {p:Rw} (h:yK b L t c=.ok p):L.length<8:=by
 match c,h with
 |a::l,h=>
  have h:(if 8<=L.length\/60<l.length then _ else _)=Except.ok p:=h
  split at h
  ·cases h
  ·rename_i hn;omega
def aNN {fs:G Rw} (h:yM b l t L=.ok fs):l.length<6:=by
 unfold yM at h;split at h
 ·cases h
 ·omega
def sN.pack {j ts:G Rw} {r:Rw} {c:G Rw} (h:sN b l i 0 0 L ts) (q:l[i]?=some r) (u:m_ b (L,ts) r=aL (yK b L r c) fun p=>.ok (L++[p],ts)) (N:Vb (yK b L r c) k o L j):sN b l (i+1) k o j ts:=by
 obtain⟨_,w,E,y⟩:=h.KF rfl;refine⟨?_⟩;rw[PI q,LC,w,mq,u];rcases N with⟨p,e,rfl,rfl,rfl⟩|⟨A,e⟩
 ·have:=aGX e
  rw[e];exact .inl ⟨rfl,rfl,rfl,by simp;omega,y⟩
 ·rw[e]
  exact .inr ⟨A,rfl⟩
def sN.task {ts j:G Rw} {r:Rw} {c:G Rw} (h:sN b l i 0 0 L ts) (q:l[i]?=some r) (u:m_ b (L,ts) r=aL (yM b ts r c) fun fs=>.ok (L,ts++[[.R fs]])) (N:Vd (yM b ts r c) k o ts j):sN b l (i+1) k o L j:=by
 obtain⟨_,w,y,E⟩:=h.KF rfl;refine⟨?_⟩;rw[PI q,LC,w,mq,u];rcases N with⟨p,e,rfl,rfl,rfl⟩|⟨A,e⟩
 ·have:=aNN e
  rw[e];exact .inl ⟨rfl,rfl,rfl,y,by simp;omega⟩
 ·rw[e]
  exact .inr ⟨A,rfl⟩
def sN.bad {ts e j:G Rw} (h:sN b l i 0 0 L ts) (q:l[i]?=some t) (u:k≠0) (w:m_ b (L,ts) t=.error (k,o)):sN b l (i+1) k o e j:=by
 obtain⟨_,y,_⟩:=h.KF rfl;refine⟨.inr ⟨u,?_⟩⟩;rw[PI q,LC,y,mq,w]
def word (r:Rw):G Nat:=if nk r=3/\0<(nc r).length/\nk (nth (nc r) 0)=1 then nt (nth (nc r) 0) else[]
def aiH {r:Rw} (h:word r≠[]):nk r=3/\0<(nc r).length/\nk (nth (nc r) 0)=1:=by
 unfold word at h;split at h
 ·assumption
 ·exact absurd rfl h
def aiB (h:word t≠[]):m_ b (l,L) t=if word t==vI&&decide (L.length=0) then aL (yK b l t ((nc t).drop 1)) fun p=>.ok (l++[p],L)
 else if word t==xI then aL (yM b L t ((nc t).drop 1)) fun fs=>.ok (l,L++[[.R fs]]) else .error (eD t):=by
 obtain⟨u,w,y⟩:=aiH h;have e:word t=nt (nth (nc t) 0):=bK ⟨u,w,y⟩;unfold m_;rw[bK (by simp[u,w,y]),e]
 by_cases Z:(nt (nth (nc t) 0)==vI&&decide (L.length=0))=true
 ·rw[bK Z,bK Z]
 ·rw[bB Z,bB Z]
  by_cases j:(nt (nth (nc t) 0)==xI)=true
  ·rw[bK j,bK j]
   unfold yM
   by_cases q:6<=L.length
   ·rw[bK q,bK q];rfl
   ·rw[bB q,bB q]
  ·rw[bB j,bB j]
def aaO (h:word t=vI) (e:L.length=0):m_ b (l,L) t=aL (yK b l t ((nc t).drop 1)) fun p=>.ok (l++[p],L):=by
 rw[aiB (by rw[h];decide),bK (by simp[h,e])]
def aiA (h:word t=xI):m_ b (l,L) t=aL (yM b L t ((nc t).drop 1)) fun fs=>.ok (l,L++[[.R fs]]):=by
 rw[aiB (by rw[h];decide),bB (by rw[h];simp[vI,xI]),bK (by simp[h])]
def aiz (h:¬(word t=vI/\L.length=0)) (q:word t≠xI):m_ b (l,L) t=.error (eD t):=by
 by_cases j:word t=[]
 ·unfold m_
  by_cases hc:(nk t==3&&(decide (0<(nc t).length)&&nk (nth (nc t) 0)==1))=true
  ·rw[bK hc]
   have u:nk t=3/\0<(nc t).length/\nk (nth (nc t) 0)=1:=by simpa using hc
   have e:nt (nth (nc t) 0)=[]:=(bK u:word t=nt (nth (nc t) 0)).symm.trans j;rw[e]
   rfl
  ·rw[bB hc]
 ·rw[aiB j,bB rM,bB (by simpa using q)]
def zM (s:dA) (ps ts:G Rw) (k o:Int):Prop:=match parse (bytes s) with
 |.error e=>ps=[]/\ts=[]/\k=e.1/\o=(e.2:Nat)
 |.ok l=>match aax (nR l) with
  |.ok p=>ps=p.1/\ts=p.2/\k=0/\o=0
  |.error f=>ps=[]/\ts=[]/\k=f.1/\o=f.2
def Vh (s:dA) (w:ak) (e:AJ) (W':ak):Prop:=
 Below w.heap.size w W'/\∃ps ts h j k o,e=.returned (.tuple #[.agg #[h,j],.agg #[.int .i64 k,.int .i64 o]])/\DR (dM W') (.R ps) h/\DR (dM W') (.R ts) j/\zM s ps ts k o
def apq (fz:Nat->ah Obj):DR fz (.R []) (.slice none 0 0):=⟨none,0,rfl,bq _,gK _,.inl rfl⟩
structure qb (w aB:World):Prop where
 b:Below w.heap.size w aB
 s:aB.heap[w.heap.size]?=some (.cells #[.slice none 0 0,.slice none 0 0] 25 (0,0))
 f:aB.heap[w.heap.size+1]?=some (.cells #[.int .i64 0,.int .i64 0] 28 (0,0))
def qb.new {aB:ak} {n:Nat} (e:Below n ((w.alloc (.cells #[.slice none 0 0,.slice none 0 0] 25)).alloc (.cells #[.int .i64 0,.int .i64 0] 28)) aB) (hn:n=((w.alloc (.cells #[.slice none 0 0,.slice none 0 0] 25)).alloc (.cells #[.int .i64 0,.int .i64 0] 28)).heap.size):qb w aB:=by
 have j:n=w.heap.size+1+1:=by rw[hn];simp
 subst j;refine⟨(jB (jB (iN w.heap.size w) _) _).trans (e.mono I),(e.block _ I).trans ?_,(e.block _ I).trans ?_⟩
 ·rw[jV _ _ _ bS];exact lu _ _
 ·have h:=lu (w.alloc (.cells #[.slice none 0 0,.slice none 0 0] 25)) (.cells #[.int .i64 0,.int .i64 0] 28)
  simpa using h
def qb.size {w aB:ak} (h:qb w aB):w.heap.size+1+1<=aB.heap.size:=(kF.1 h.f).1
def qb.alloc {w aB:ak} (h:qb w aB) (o:Obj):qb w (aB.alloc o):=⟨jB h.b _,(jV aB o _ R6).trans h.s,(jV aB o _ R6).trans h.f⟩
def qb.cells (h:qb w W):W.cell? ⟨w.heap.size,0,none⟩=some (.slice none 0 0)/\W.cell? ⟨w.heap.size,1,none⟩=some (.slice none 0 0)/\W.cell? ⟨w.heap.size+1,0,none⟩=some (.int .i64 0)/\W.cell? ⟨w.heap.size+1,1,none⟩=some (.int .i64 0)/\W.frozen? ⟨w.heap.size,0,none⟩=false/\W.frozen? ⟨w.heap.size,1,none⟩=false/\W.frozen? ⟨w.heap.size+1,0,none⟩=false/\W.frozen? ⟨w.heap.size+1,1,none⟩=false:=by
 have e:=h.s;have j:=h.f;refine⟨?_,?_,?_,?_,?_,?_,?_,?_⟩<;>simp[World.cell?,World.frozen?,e,j]
def rT (aB:ak) (b:Nat) (x y k o:av):ak:=(((aB.setCell ⟨b,0,none⟩ x).setCell ⟨b,1,none⟩ y).setCell ⟨b+1,0,none⟩ k).setCell ⟨b+1,1,none⟩ o
def avz {k o:av} (e:g≠b) (h:g≠b+1):(rT W b v m k o).heap[g]?=W.heap[g]?:=by
 unfold rT;rw[jF h,jF h,jF e,jF e]
def qb.put (h:qb w W) (x y k o:av):Below w.heap.size w (rT W w.heap.size x y k o)/\(rT W w.heap.size x y k o).cell? ⟨w.heap.size,0,none⟩=some x/\(rT W w.heap.size x y k o).cell? ⟨w.heap.size,1,none⟩=some y/\(rT W w.heap.size x y k o).cell? ⟨w.heap.size+1,0,none⟩=some k/\(rT W w.heap.size x y k o).cell? ⟨w.heap.size+1,1,none⟩=some o:=by
 have e:(rT W w.heap.size x y k o).heap[w.heap.size]?=some (.cells #[x,y] 25 (0,0)):=by
  unfold rT;rw[jF I,jF I]
  simpa using o_ (o:=1) (u:=y) (o_ (o:=0) (u:=x) h.s)
 have hf:(rT W w.heap.size x y k o).heap[w.heap.size+1]?=some (.cells #[k,o] 28 (0,0)):=by
  unfold rT;have j:((W.setCell ⟨w.heap.size,0,none⟩ x).setCell ⟨w.heap.size,1,none⟩ y).heap[w.heap.size+1]?=some (.cells #[.int .i64 0,.int .i64 0] 28 (0,0)):=by
   rw[jF I,jF I];exact h.f
  simpa using o_ (o:=1) (u:=o) (o_ (o:=0) (u:=k) j)
 refine⟨?_,by simp[World.cell?,e],by simp[World.cell?,e],by simp[World.cell?,hf],by simp[World.cell?,hf]⟩
 exact⟨h.b.os,h.b.tape,h.b.output,fF h.b.size (by simp[rT]),fun g l=>(avz I I).trans (h.b.block g l)⟩
def aNc {x y k o:av} (j:dX a (dM W)) (l:a b=none) (q:a (b+1)=none):dX a (dM (rT W b x y k o)):=fun g u h=>(avz (fun e=>by rw[e,l] at h;cases h) (fun e=>by rw[e,q] at h;cases h)).trans (j g u h)
def TG {ps ts:G Rw} (h:qb w W) (j:ps=[]/\ts=[]) (U:zM A ps ts k o):Vh A w (.returned (.tuple #[.agg #[.slice none 0 0,.slice none 0 0],.agg #[.int .i64 k,.int .i64 o]])) (rT W w.heap.size (.slice none 0 0) (.slice none 0 0) (.int .i64 k) (.int .i64 o)).drew:=by
 have e:=(h.put (.slice none 0 0) (.slice none 0 0) (.int .i64 k) (.int .i64 o)).1;obtain⟨rfl,rfl⟩:=j;exact⟨⟨e.os,e.tape,e.output,e.size,e.block⟩,[],[],_,_,k,o,rfl,apq _,apq _,U⟩
def qb.below {V':ak} (h:qb w W) (e:Below (w.heap.size+1+1) W V'):qb w V':=⟨h.b.trans (e.mono I),(e.block _ I).trans h.s,(e.block _ I).trans h.f⟩
def Pf {T:Nat} (y:O.getD T []=[C,.str,.R T,C]) {r:Rw} {x:Nv} (A:aJ O r [C,.str,.R T,C]) (h:kH j r x.list):∃t c,r=[.int .i64 x.k,.str t,.R c,.int .i64 x.o]/\(x.s=bC t/\∀b∈t,b<256)/\x.n=c.length/\c.length<=gB/\dR O c [C,.str,.R T,C]/\DR j (.R c) (.slice x.a c.length x.c):=by
 obtain⟨k,t,c,o,rfl,E,hc⟩:=aT A;obtain⟨_,_,e1,e,_,_,F,⟨P,W⟩,_,_,a',l,_,_,b',q,c'⟩:=h;subst F a' b' c';simp only[nV] at e1;have e:_=Value.int .i64 k:=e;have q:_=Value.int .i64 o:=q;have d':=(ajd (e1.1.trans e)).2;have e':=(ajd (e1.2.2.2.1.trans q)).2;have es:=Value.string.inj (e1.2.1.trans P);have u:=l;obtain⟨a,m,f',_⟩:=u;have g':=e1.2.2.1.trans f';have w:x.n=c.length:=by injection g'
 rw[y] at hc;refine⟨t,c,by rw[d',e'],⟨es,W⟩,w,E,hc,?_⟩
 rw[<-e1.2.2.1] at l;rw[<-w];exact l
def aOr {r:Rw} {x:Nv} (g':aJ O r eB) (h:kH j r x.list):∃P a',O1 x P a'=bC (word r)/\(∀b∈word r,b<256)/\(x.k=3->0<x.n->∃g d,x.a=some ⟨g,d,none⟩/\∀W,dX j (dM W)->W.cell? ⟨g,d,none⟩=some (.int .i64 P)/\W.cell? ⟨g,d+1,none⟩=some (.string a')):=by
 obtain⟨t,c,rfl,⟨k',l⟩,u,l',w,A⟩:=Pf (T:=1) rfl g' h
 match c,u,w,A with
 |[],u,w,A=>
  have e:word [.int .i64 x.k,.str t,.R [],.int .i64 x.o]=[]:=bB fun q=>absurd q.2.1 (Ck _);have u:x.n=0:=u;refine⟨0,⟨#[]⟩,?_,fun b l=>by(rw[e] at l;cases l),fun _ q=>by omega⟩
  rw[e];exact bB fun q=>by omega
 |y::c,u,w,A=>
  obtain⟨arr,d,a,cap,h',_,b',c'⟩:=Pd w A;obtain⟨g,i',E⟩:∃g,a=some ⟨g,d,none⟩/\∀i,i<(y::c).length->∀W,dX j (dM W)->II W g (d+i*4) (sG arr (d+i*4)):=by
   rcases b' with e|h
   ·cases e
   ·exact h
  have d':x.a=a:=by cases h';rfl
  have e':=c' 0 bS;obtain⟨t1,c1,e1,⟨es,f'⟩,_⟩:=Pf (T:=1) rfl (w.get (i:=0) rfl) e';have e1:y=_:=e1;have hn:0<x.n:=by rw[u];simp
  refine⟨(sG arr (d+0*4)).k,(sG arr (d+0*4)).s,?_,?_,fun _ _=>⟨g,d,d'.trans i',fun W j'=>?_⟩⟩
  ·by_cases hc:x.k=3/\(sG arr (d+0*4)).k=1
   ·have F:word [.int .i64 x.k,.str t,.R (y::c),.int .i64 x.o]=t1:=by
     rw[e1];exact bK ⟨hc.1,Nat.succ_pos _,hc.2⟩
    rw[F,<-es];exact bK ⟨hc.1,hn,hc.2⟩
   ·have F:word [.int .i64 x.k,.str t,.R (y::c),.int .i64 x.o]=[]:=by
     rw[e1];exact bB fun q=>hc ⟨q.1,q.2.2⟩
    rw[F];exact bB fun q=>hc ⟨q.1,q.2.2⟩
  ·intro b l
   unfold word at l;split at l
   ·rw[e1] at l;exact f' b l
   ·cases l
  ·have:=E 0 bS W j'
   rw[UK,qy] at this⊢;exact⟨this.c0,this.c1⟩
def aGY (P:bH T) (a':(E_ b).aA T) {bo:Nat} {x:Nv} {t:G Nat} {c:G Rw} (q:iT T a g W i bo 0 0 v m l L) (e:Kc l) (hn:x.n=c.length)
 (b':1<=c.length) (j:c.length<=1000000) (u:l.length<=1000000) (w:dR O c eB) (A:DR a (.R c) (.slice x.a c.length x.c)) (E:∀y∈c,aI y<=b) (F:g<=W.heap.size):
 Calls Tryz.prog 15 #[.pointer (some ⟨i,0,none⟩),x.val,.pointer (some ⟨bo,0,none⟩)] W (Vf T b a g W i bo v m l L [.int .i64 x.k,.str t,.R c,.int .i64 x.o] c):=by
 by_cases h:2<=c.length/\l.length<8/\c.length<=62
 ·exact aG0 P a' q e hn h.1 h.2.1 h.2.2 w A E F
 ·exact aGZ q e hn b' j u I
structure oN (T:Nat->Option D) (n:Nat) (L:List Rw) (Js:Nat->Option Obj) (w:World) (bp bo:Nat) (i:Nat) (wC:Nat->Option Obj) (k o:Int) (ps ts:List Rw) (vp vt:Value) (W:World):Prop where
 s:iT T wC (w.heap.size+1+1) W bp bo k o vp vt ps ts
 x:dX Js wC
 n0:wC w.heap.size=none
 n1:wC (w.heap.size+1)=none
 rc:qb w W
 pk:Kc ps
 r:sN n L i k o ps ts
 lp:w.heap.size+1+1<=bp
 lo:w.heap.size+1+1<=bo
def oN.below {T:Nat->ah D} {n:Nat} {L:G Rw} {e:Nat->ah Obj} {w:ak} {bp bo i:Nat} {j:Nat->ah Obj} {k o:Int} {ps ts:G Rw} {l q:av} {W W':ak} (h:oN T n L e w bp bo i j k o ps ts l q W) (u:Below W.heap.size W W'):oN T n L e w bp bo i j k o ps ts l q W':=
 ⟨h.s.below u,h.x,h.n0,h.n1,h.rc.below (u.mono h.rc.size),h.pk,h.r,h.lp,h.lo⟩
def oN.alloc {T:Nat->ah D} {n:Nat} {L:G Rw} {e:Nat->ah Obj} {w:ak} {bp bo i:Nat} {j:Nat->ah Obj} {k o:Int} {ps ts:G Rw} {l q:av} {W:ak} (h:oN T n L e w bp bo i j k o ps ts l q W) (u:Obj):oN T n L e w bp bo i j k o ps ts l q (W.alloc u):=
 h.below (jB (iN W.heap.size W) u)
def Sb.aoJ {W':ak} (h:Sb b W W') (e:i<=b) (j:i<=W.heap.size):Below i W W':=⟨h.os,h.tape,h.output,h.size,fun g l=>h.block g I I⟩
def oN.bad {T:Nat->ah D} {n:Nat} {L:G Rw} {e:Nat->ah Obj} {w:ak} {bp bo i:Nat} {j:Nat->ah Obj} {ps ts:G Rw} {l q:av} {aB V':ak} {r:Rw} {o:Int} (h:oN T n L e w bp bo i j 0 0 ps ts l q aB) (U:L[i]?=some r) (hn:¬(word r=vI/\ts.length=0)) (y:word r≠xI) (N:o=no r)
 (hf:jN V' bp (oz 0 2) (rO 0 0 o)) (u:Sb bp aB V'):oN T n L e w bp bo (i+1) j (oz 0 2) (rO 0 0 o) ps ts l q V':=by
 subst N;exact⟨h.s.pY hf u,h.x,h.n0,h.n1,h.rc.below (u.aoJ h.lp h.rc.size),h.pk,h.r.bad U jK (aiz hn y),h.lp,h.lo⟩
def oN.pack {T:Nat->ah D} {n:Nat} {L:G Rw} {u:Nat->ah Obj} {w:ak} {bp bo i:Nat} {y:Nat->ah Obj} {ps ts:G Rw} {E A:av} {aB V':ak} {r:Rw} {e:AJ} (h:oN T n L u w bp bo i y 0 0 ps ts E A aB) (U:L[i]?=some r) (P:word r=vI) (W:ts.length=0)
 (a':Vf T n y (w.heap.size+1+1) aB bp bo E A ps ts r (nc r) e V'):e=.returned (.tuple #[])/\∃j k o l q,oN T n L u w bp bo (i+1) j k o l ts q A V':=by
 obtain⟨rfl,j,k,o,q,l,b',c',d',e',f',F⟩:=a';have g':=f'.below h.lp h.lo (fun g e=>(h.s.gp.lt e).1) h.rc.size;have h':=h.rc.size;exact⟨rfl,j,k,o,l,q,b',h.x.trans c',F _ I h.n0,F _ I h.n1,h.rc.below g',d',h.r.pack U (aaO P W) e',h.lp,h.lo⟩
def oN.task {T:Nat->ah D} {n:Nat} {L:G Rw} {u:Nat->ah Obj} {w:ak} {bp bo i:Nat} {y:Nat->ah Obj} {ps ts:G Rw} {A F:av} {aB V':ak} {r:Rw} {e:AJ} (h:oN T n L u w bp bo i y 0 0 ps ts A F aB) (U:L[i]?=some r) (P:word r=xI)
 (W:ajs T n y (w.heap.size+1+1) aB bp bo A ps ts r (nc r) e V'):e=.returned (.tuple #[])/\∃j k o l q,oN T n L u w bp bo (i+1) j k o ps l A q V':=by
 obtain⟨rfl,j,k,o,q,l,a',b',c',d',E⟩:=W;have e':=h.rc.size;exact⟨rfl,j,k,o,l,q,a',h.x.trans b',E _ I h.n0,E _ I h.n1,h.rc.below d',h.pk,h.r.task U (aiA P) c',h.lp,h.lo⟩
def oN.start {T:Nat->ah D} {n:Nat} {L:G Rw} {w W1:ak} (u:ug T (dM w)) (h:qb w W1) (t1 t2 t3:dh):
 oN T n L (fun g=>if g=w.heap.size\/g=w.heap.size+1 then none else W1.heap[g]?) w (W1.heap.size+1) (W1.heap.size+1+1) 0 (fun g=>if g=w.heap.size\/g=w.heap.size+1 then none else W1.heap[g]?) 0 0 [] [] (.slice none 0 0) (.slice none 0 0) (((W1.alloc (.cells #[.int .i64 0,.int .i64 0] t1)).alloc (.cells #[.int .i64 0,.int .i64 0] t2)).alloc (.cells #[.slice none 0 0,.slice none 0 0] t3)):=by
 have A:=h.size;have l:∀g,W1.heap.size<=g->(if g=w.heap.size\/g=w.heap.size+1 then none else W1.heap[g]?)=none:=fun g j=>by
  rw[bB I];exact Array.getElem?_eq_none j
 have y:dX (dM w) (fun g=>if g=w.heap.size\/g=w.heap.size+1 then none else W1.heap[g]?):=fun g o j=>by
  have q:g<w.heap.size:=(kF.1 j).1;show(if _ then _ else _)=_
  rw[bB I,h.b.block g q];exact j
 refine⟨⟨⟨t2,?_⟩,⟨t3,?_⟩,nu.nil _ _ _ _ _,nu.nil _ _ _ _ _,by omega,(fun g e=>by cases e),(fun g e=>by cases e),(fun g e=>by cases e),l _ I,l _ I,fun g o j=>?_,u.mono y⟩,.refl _,bK (.inl rfl),bK (.inr rfl),((h.alloc _).alloc _).alloc _,fun r U=>(by cases U),sN.start,by omega,by omega⟩
 ·rw[jV _ _ _ bS]
  have:=lu (W1.alloc (.cells #[.int .i64 0,.int .i64 0] t1)) (.cells #[.int .i64 0,.int .i64 0] t2)
  simpa using this
 ·have:=lu ((W1.alloc (.cells #[.int .i64 0,.int .i64 0] t1)).alloc (.cells #[.int .i64 0,.int .i64 0] t2)) (.cells #[.slice none 0 0,.slice none 0 0] t3)
  simpa using this
 ·have j:(if g=w.heap.size\/g=w.heap.size+1 then none else W1.heap[g]?)=some o:=j
  split at j
  ·cases j
  ·have q:=(kF.1 j).1
   exact(jV _ _ _ gJ).trans ((jV _ _ _ gJ).trans ((jV _ _ _ q).trans j))
def oN.done {T:Nat->ah D} {n:Nat} {L:G Rw} {P:Nat->ah Obj} {w:ak} {bp bo:Nat} {u:Nat->ah Obj} {o:Int} {ps ts:G Rw} {j A:av} {aB:ak} {s:dA} {l:Fr} (h:oN T n L P w bp bo L.length u 0 o ps ts j A aB) (Z:parse (bytes s)=.ok l) (i':nR l=L) (hn:bM L=n):
 Vh s w (.returned (.tuple #[.agg #[j,A],.agg #[.int .i64 0,.int .i64 0]])) (rT aB w.heap.size j A (.int .i64 0) (.int .i64 0)):=by
 obtain⟨rfl,U⟩:=h.r.full rfl;have W:∀g,j.ownBlock=some g->w.heap.size+1+1<=g:=fun g e=>(h.s.gp.lt e).1;have a':∀g,A.ownBlock=some g->w.heap.size+1+1<=g:=fun g e=>(h.s.gt.lt e).1;have b':=h.s.gp.done;have c':=h.s.gp.ext;have d':∀g,j.ownBlock≠some g->u g=none->sw u aB j g=none:=fun g j' k'=>by unfold sw;rw[bB j'];exact k'
 have E:nu (sw u aB j) aB (w.heap.size+1+1) 62 1 A ts:=h.s.gt.gZ c' (fun g e=>d' g (fun q=>h.s.JE g q e) (h.s.gt.out g e)) fun _ _=>rfl;have e':=E.done;have f':=E.ext;have g':dX (sw (sw u aB j) aB A) (dM aB):=YU (YU h.s.ext);have h':∀g,g<w.heap.size+1+1->u g=none->sw (sw u aB j) aB A g=none:=fun g l' e=>by
  unfold sw;rw[bB fun q=>by have:=a' g q;omega,bB fun q=>by have:=W g q;omega]
  exact e
 have F:=aNc (x:=j) (y:=A) (k:=.int .i64 0) (o:=.int .i64 0) g' (h' _ I h.n0) (h' _ I h.n1);refine⟨(h.rc.put j A (.int .i64 0) (.int .i64 0)).1,ps,ts,j,A,0,0,rfl,(b'.mono f').mono F,e'.mono F,?_⟩;unfold zM;rw[Z];dsimp only;unfold aax;rw[i',hn,U];exact⟨rfl,rfl,rfl,rfl⟩
def oN.fail {bo:Nat} {ps ts:G Rw} {l:Fr} (h:oN T b L a w g bo i j k o ps ts v m W) (e:k≠0) (Z:parse (bytes A)=.ok l) (q:nR l=L) (hn:bM L=b):
 zM A [] [] k o:=by
 unfold zM;rw[Z];dsimp only;unfold aax;rw[q,hn,h.r.stop e];exact⟨rfl,rfl,rfl,rfl⟩
def PN {t:G Nat} (u:∀b∈q,b<256) (w:∀b∈t,b<256) {l:G dG} (j:(bC t).toList=l):(bC q).toList=l↔q=t:=by
 have h:=Np u w;rw[j] at h;constructor
 ·intro e
  rw[e,ajf] at h
  simpa using h.symm
 ·rintro rfl;exact j
def ahk:(bC vI).toList=[112,97,99,107,97,103,101]:=by rw[CW];rfl
def aix:(bC xI).toList=[116,97,115,107]:=by rw[CW];rfl
def atJ (M0:bH T) (s:dA) (w:ak) (z':s.size<=9223372036854775807) (P0:ug T (dM w)):Calls Tryz.prog 5 #[.string s] w (Vh s w):=by
 cases Z:parse (bytes s) with
 |error e=>
  obtain⟨k,o⟩:=e;have r':=atE Z;have f':(k==0)=false:=by simpa using r'
  have F1:(k !=0)=true:=by simpa using r'
  have HP:=Q Z;clear Z;go_enter Tryz.func5,Tryz.ntmps5;go_wp2_with (refine(ahh s _ z').mono ?_;rintro e W1 ⟨c',hc⟩;rw[HP.out] at hc;obtain rfl:=hc;have d':=qb.new c' rfl;have q':=Q d';clear c' d')
  obtain⟨aB,hV⟩:∃aB,W1.alloc (.cells #[.int .i64 k,.int .i64 (o:Nat)] 28)=aB:=⟨_,rfl⟩;rw[hV];have T0:aB.cell? ⟨W1.heap.size,0,none⟩=some (.int .i64 k):=YJ;have W0:aB.cell? ⟨W1.heap.size,1,none⟩=some (.int .i64 (o:Nat)):=YJ;have d':qb w aB:=by rw[<-hV];exact q'.out.alloc _
  obtain⟨X0,a1,b1,f1,z0,z1,z2,z3⟩:=d'.cells;have E':=Q d';have g':=q'.out.size;have F':¬W1.heap.size=w.heap.size:=I;have L':¬w.heap.size=W1.heap.size:=I;have M':¬W1.heap.size=w.heap.size+1:=I;have P':¬w.heap.size+1=W1.heap.size:=I;clear d' hV g';go_region;go_wp2_with fail;obtain⟨_,p0,p1,p2,p3⟩:=E'.out.put (.slice none 0 0) (.slice none 0 0) (.int .i64 k) (.int .i64 (o:Nat));refine ni (v:=.tuple #[.agg #[.slice none 0 0,.slice none 0 0],.agg #[.int .i64 k,.int .i64 (o:Nat)]]) ?_ rfl (TG (ps:=[]) (ts:=[]) E'.out ⟨rfl,rfl⟩ aql);unfold rT at p0 p1 p2 p3;simp[results,abh,go_sem,p0,p1,p2,p3]
 |ok l=>
  obtain⟨T',W'⟩:=ahi Z;have s':(nR l).length<=65536:=afS;have l':=SF (T:=1) (.inl rfl) T' I;have X':bM (nR l)<=65536:=by rw[RH];exact W'
  have m':=(agh M0 (bM (nR l)) I).2;obtain⟨L,hL⟩:∃L,nR l=L:=⟨_,rfl⟩;rw[hL] at s' l' X' m';obtain⟨n,hn⟩:∃n,bM L=n:=⟨_,rfl⟩;rw[hn] at m' X';have HP:=Q Z;have HL:=Q hL;have A':=Q hn;have g1:=Q l';have a0:=Q m';have h1:=Q P0;clear Z hL hn l' m' P0 T' W';go_enter Tryz.func5,Tryz.ntmps5;go_wp2_with (refine(ahh s _ z').mono ?_;rintro e W1 ⟨c',hc⟩;rw[HP.out] at hc;obtain⟨v,F,rfl,b0,i1⟩:=hc;have d':=qb.new c' rfl;have t':=apr (fz:=fun g=>if g=w.heap.size\/g=w.heap.size+1 then none else W1.heap[g]?) (fun b o L1=>bB (by have:=i1 b o L1;simp at this;omega)) b0;rw[HL.out] at t';obtain⟨arr,d,a,cap,rfl,rQ,e0,h'⟩:=Pd g1.out t';have q':=Q d';have j1:=Q e0;have k1:=Q h';clear c' d' b0 i1 t' e0 h')
  have f0:=Q (oN.start (n:=n) (L:=L) h1.out q'.out 28 44 25);have M1:L.length<=65536:=s';clear s';go_loopg [24] L.length (fun P1 v wr=>∃(i:Nat) (g0:Nat->ah Obj) (k o:Int) (ps ts:G Rw) (l1 m1:av),P1=L.length-i/\i<=L.length/\v=.int .i64 (i:Nat)/\Hid (oN T n L (fun g=>if g=w.heap.size\/g=w.heap.size+1 then none else W1.heap[g]?) w (W1.heap.size+1) (W1.heap.size+1+1) i g0 k o ps ts l1 m1 wr))
  case atStart=>exact⟨0,_,_,_,_,_,_,_,rfl,gK _,rfl,f0.out⟩
  case round=>
   obtain⟨i,g0,k,o,ps,ts,l1,m1,r',l',rfl,j⟩:=hrel;rename ak=>e'
   have Bc:=Q r';clear r' f0;rcases Iu i L.length with q|m2
   ·have o1:(i:Int)<(L.length:Int):=by omega
    have n2:(0:Int)<=(i:Int):=I;have o2:IntKind.i64.wrap ((i:Int)+1)=(i:Int)+1:=vS I I;obtain⟨g,r1,h0⟩:∃g,a=some ⟨g,d,none⟩/\II e' g (d+i*4) (sG arr (d+i*4)):=by
     rcases j1.out with e|⟨g,e,h⟩
     ·rw[e] at q;simp at q
     ·exact⟨g,e,h i q e' (j.out.x.trans j.out.s.ext)⟩
    subst r1;obtain⟨yi,i0⟩:∃y,sG arr (d+i*4)=y:=⟨_,rfl⟩;have a':=k1.out i q;have i':=g1.out.get (gM q);have u':L[i]?=some L[i]:=gM q;have v':aI L[i]<=n:=by rw[<-A'.out];exact qj (zG q)
    obtain⟨E,j0⟩:∃r,L[i]=r:=⟨_,rfl⟩;rw[i0] at h0 a';rw[j0] at a' i' v' u';obtain⟨c0,c1,c2,c3⟩:=h0;obtain⟨T1,X1,k0,f',l0⟩:=aOr i' a';obtain⟨t,c,m0,-,o0,r0,s0,h'⟩:=Pf (T:=1) rfl i' a';have b':Hid (L[i]?=some E/\aI E<=n/\aJ O E eB/\kH _ E yi.list):=⟨u',v',i',a'⟩;have n':=Q m0;have u:Hid (yi.n=c.length/\c.length<=gB/\dR O c eB/\DR _ (.R c) (.slice yi.a c.length yi.c)):=⟨o0,r0,s0,h'⟩;have s1:=Q k0;have t0:=Q f';have u1:=Q l0;have qC:=Q q;clear i0 a' i' u' v' j0 k0 f' l0 m0 o0 r0 s0 h' q;go_wp2_with fail;refine(aFQ yi T1 X1 _ (by have:=u.out.1;have:=u.out.2.1;unfold gB at this;omega) (fun e1 a2=>(by obtain⟨g,d,b2,d2⟩:=u1.out e1 a2;exact⟨g,d,b2,d2 _ (j.out.x.trans (j.out.alloc _).s.ext)⟩))).mono ?_
    rintro e aB ⟨rfl,c'⟩;rw[s1.out];have v1:=(j.out.alloc _).below c';have HV:=Q v1;have e2:=Q c';clear c' v1;obtain⟨va,r2,rfl⟩:=HV.out.s.gt.R;have xD:=PN t0.out jK ahk;have yF:=PN t0.out jK aix;have j':aB.heap[e'.heap.size]?=_:=(e2.out.block e'.heap.size bS).trans (lu e' _);have n0:aB.cell? ⟨e'.heap.size,0,none⟩=some (.int .i64 yi.k):=by rw[gX aB _ 0 _ _ _ j'];rfl
    have n1:aB.cell? ⟨e'.heap.size,1,none⟩=some (.string yi.s):=by rw[gX aB _ 1 _ _ _ j'];rfl
    have f2:aB.cell? ⟨e'.heap.size,2,none⟩=some (.slice yi.a yi.n yi.c):=by rw[gX aB _ 2 _ _ _ j'];rfl
    have g2:aB.cell? ⟨e'.heap.size,3,none⟩=some (.int .i64 yi.o):=by rw[gX aB _ 3 _ _ _ j'];rfl
    obtain⟨_,w1,_⟩:=HV.out.s.oc;clear j'
    by_cases A:k=0
    ·subst A
     obtain rfl:o=0:=(HV.out.r.KF rfl).1;obtain⟨_,_,x1,A1⟩:=HV.out.r.KF rfl;have u0:Hid (ps.length<=1000000/\ts.length<=1000000):=⟨by omega,by omega⟩
     have v0:Hid (∀y∈c,aI y<=n):=Q (fun y h2=>by
      have y2:=b'.out.2.1;have A2:aI y+1<=aI E:=wz (by rw[n'.out];exact h2)
      omega)
     have w0:Hid (word E≠[]->1<=c.length):=Q (fun i2=>by
      have:=(aiH i2).2.1;rw[n'.out] at this;exact this)
     have x0:Hid (c.length<=1000000):=Q (by have:=u.out.2.1;unfold gB at this;omega)
     clear x1 A1
     by_cases hcp:word E=vI/\ts.length=0
     ·have D1:=xD.2 hcp.1
      have j2:(ts.length:Int)=0:=I;have w':=Q hcp;clear xD yF hcp;go_wp2_with (first
       |(refine(Av (W1.heap.size+1) _ _ _ HV.out.s.p).mono ?_;rintro r D' ⟨rfl,rfl⟩)
       |(refine(aGY M0 a0.out (t:=t) HV.out.s HV.out.pk u.out.1 (w0.out (by rw[w'.out.1];decide)) x0.out u0.out.1 u.out.2.2.1 (u.out.2.2.2.mono HV.out.x) v0.out HV.out.rc.size).mono ?_
         rintro e k2 x';obtain⟨rfl,E1,k',o',s2,u2,W⟩:=HV.out.pack b'.out.1 w'.out.1 w'.out.2 (by rw[n'.out];exact x')
         have wQ:=Q W;clear x' W))
      exact YA
     ·by_cases hct:word E=xI
      ·have p':=yF.2 hct
       have v2:¬(bC (word E)).toList=[112,97,99,107,97,103,101]:=by rw[p'];decide
       have A0:=Q hct;clear xD yF hcp hct;go_wp2_with (first
        |(refine(Av (W1.heap.size+1) _ _ _ HV.out.s.p).mono ?_;rintro r D' ⟨rfl,rfl⟩)
        |(refine(aNO a0.out (t:=t) HV.out.s u.out.1 (w0.out (by rw[A0.out];decide)) x0.out u0.out.2 u.out.2.2.1 (u.out.2.2.2.mono HV.out.x) v0.out HV.out.rc.size HV.out.lp HV.out.lo).mono ?_
          rintro e k2 x';obtain⟨rfl,E1,k',o',w2,x2,W⟩:=HV.out.task b'.out.1 A0.out (by rw[n'.out];exact x')
          have wQ:=Q W;clear x' W))
       exact YA
      ·have p':¬(bC (word E)).toList=[116,97,115,107]:=fun e=>hct (yF.1 e)
       have HNB:=Q (fun V' hf z'=>HV.out.bad (V':=V') b'.out.1 hcp hct (aha b'.out.2.2.1 b'.out.2.2.2) hf z')
       by_cases hcw:word E=vI
       ·have D1:=xD.2 hcw
        have j2:¬(ts.length:Int)=0:=by
         have:¬ts.length=0:=fun e=>hcp ⟨hcw,e⟩;omega
        exact aqF
       ·have D1:((bC (word E)).toList==[112,97,99,107,97,103,101])=false:=by
         rw[zH];exact fun e=>hcw (xD.1 e)
        have l2:((bC (word E)).toList==[116,97,115,107])=false:=by
         rw[zH];exact p'
        clear p';exact aqF
    ·have f':(k==0)=false:=by simpa using A
     have y':=Q A;have P:=Q HV.out.rc;obtain⟨X0,a1,b1,f1,z0,z1,z2,z3⟩:=P.out.cells;have T0:=HV.out.s.p.c0;have W0:=HV.out.s.p.c1;have g':=q'.out.size;have F':¬W1.heap.size+1=w.heap.size:=I;have L':¬w.heap.size=W1.heap.size+1:=I;have M':¬W1.heap.size+1=w.heap.size+1:=I;have P':¬w.heap.size+1=W1.heap.size+1:=I;clear A g' xD yF n0 n1 f2 g2 w1;go_wp2_with (refine(Av (W1.heap.size+1) _ _ _ HV.out.s.p).mono ?_;rintro r D' ⟨rfl,rfl⟩);go_region
     all_goals
      go_wp2_with fail;obtain⟨_,p0,p1,p2,p3⟩:=P.out.put (.slice none 0 0) (.slice none 0 0) (.int .i64 k) (.int .i64 o);refine ni (v:=.tuple #[.agg #[.slice none 0 0,.slice none 0 0],.agg #[.int .i64 k,.int .i64 o]]) ?_ rfl (TG (ps:=[]) (ts:=[]) P.out ⟨rfl,rfl⟩ (HV.out.fail y'.out HP.out HL.out A'.out));unfold rT at p0 p1 p2 p3;simp[results,abh,go_sem,p0,p1,p2,p3]
   ·obtain rfl:i=L.length:=by omega
    have o1:¬(L.length:Int)<(L.length:Int):=I;have P:=Q j.out.rc;obtain⟨X0,a1,b1,f1,z0,z1,z2,z3⟩:=P.out.cells;have T0:=j.out.s.p.c0;have W0:=j.out.s.p.c1;obtain⟨D2,E2,_⟩:=j.out.s.oc;have g':=q'.out.size;have F':¬W1.heap.size+1=w.heap.size:=I;have L':¬w.heap.size=W1.heap.size+1:=I;have M':¬W1.heap.size+1=w.heap.size+1:=I;have P':¬w.heap.size+1=W1.heap.size+1:=I;clear g'
    by_cases A:k=0
    ·subst A
     obtain rfl:o=0:=(j.out.r.full rfl).1;obtain⟨D0,E0,rfl⟩:=j.out.s.gp.R;obtain⟨F0,L0,rfl⟩:=j.out.s.gt.R;go_wp2_with (refine(Av (W1.heap.size+1) _ _ _ j.out.s.p).mono ?_;rintro r D' ⟨rfl,rfl⟩);obtain⟨_,p0,p1,p2,p3⟩:=P.out.put (.slice D0 ps.length E0) (.slice F0 ts.length L0) (.int .i64 0) (.int .i64 0);refine ni (v:=.tuple #[.agg #[.slice D0 ps.length E0,.slice F0 ts.length L0],.agg #[.int .i64 0,.int .i64 0]]) ?_ rfl (j.out.done HP.out HL.out A'.out);unfold rT at p0 p1 p2 p3;simp[results,abh,go_sem,p0,p1,p2,p3]
    ·have f':(k==0)=false:=by simpa using A
     have y':=Q A;clear A;go_wp2_with (refine(Av (W1.heap.size+1) _ _ _ j.out.s.p).mono ?_;rintro r D' ⟨rfl,rfl⟩);go_region
     all_goals
      go_wp2_with fail;obtain⟨_,p0,p1,p2,p3⟩:=P.out.put (.slice none 0 0) (.slice none 0 0) (.int .i64 k) (.int .i64 o);refine ni (v:=.tuple #[.agg #[.slice none 0 0,.slice none 0 0],.agg #[.int .i64 k,.int .i64 o]]) ?_ rfl (TG (ps:=[]) (ts:=[]) P.out ⟨rfl,rfl⟩ (j.out.fail y'.out HP.out HL.out A'.out));unfold rT at p0 p1 p2 p3;simp[results,abh,go_sem,p0,p1,p2,p3]
def aFE:(Tryz.prog.info? 9).map (fun i=>(i.zero,i.size,i.bytes))=some (some (.string ⟨#[]⟩),1,16):=by kernel_rfl
def aDh {fz:Nat->ah Obj} {a:ah Addr} {cap:Nat} (E:∀r∈l,r.length=4) (h:DR fz (.R l) (.slice a l.length cap)) (j:Nat) (F:j<=l.length) {d:Nat} (P:a=some ⟨g,d,none⟩):DR fz (.R (l.drop j)) (.slice (some ⟨g,d+j*4,none⟩) (l.length-j) (cap-j)):=by
 obtain⟨T,u,e,c',d',W⟩:=h;obtain⟨rfl,rfl⟩:a=T/\cap=u:=by cases e;exact⟨rfl,rfl⟩
 have w:(l.drop j).length=l.length-j:=sK;refine⟨_,cap-j,by rw[w],by rw[w];omega,by omega,?_⟩
 by_cases hc:l.length=j
 ·exact .inl (qx I)
 ·rcases W with rfl|⟨b,o,arr,a',fr,z,rfl,b',y⟩
  ·simp at F;simp at hc;omega
  ·obtain⟨rfl,rfl⟩:b=g/\o=d:=by cases P;exact⟨rfl,rfl⟩
   have A:z=4:=by
    have q:0<l.length:=I;have:=(y.get (i:=0) (r:=l[0]) (gM q)).1;rw[E _ (zG q)] at this;exact this.symm
   subst A;exact .inr ⟨b,o+j*4,arr,a',fr,4,rfl,b',y.drop j⟩
def aDi {a:ah Addr} (h:l=[]):DR j (.R l) (.slice a 0 0):=by
 subst h;exact⟨a,0,rfl,bq _,gK _,.inl rfl⟩
def aDc (P:bH T) {x:Nv} {a':dh} (b':aJ O t fZ) (Z:mU [.int .i64 k,.int .i64 o]) (h:jN W b k o) (c':dX a (dM W)) (w:a b=none) (d':ug T a) (e':kH a t x.list)
 (j:nu a W g a' 1 v l) (hn:v.ownBlock≠some b) (A:dR O l [.str]) (E:l.length<=gB):
 Calls Tryz.prog 21 #[.pointer (some ⟨b,0,none⟩),x.val,v] W fun e W'=>∃(nm:G Nat) (k' o':Int),e=.returned (.string (bC nm))/\(∀y∈nm,y<256)/\nm.length<=gB/\bG (ku t (bg l)) (fun s=>.one (.str s)) iQ [.int .i64 k,.int .i64 o] (.one (.str nm)) [.int .i64 k',.int .i64 o']/\jN W' b k' o'/\Sb b W W':=by
 have q:sw a W v b=none:=by unfold sw;rw[bB hn];exact w
 refine(ZA (Ub P) rfl (V:=[.agg t,.one (.R l)]) (us:=[x.val,v]) ⟨⟨b',eP E A⟩,Z⟩ h (YU c') q (d'.mono j.ext) ⟨_,_,rfl,⟨_,rfl,e'.mono j.ext⟩,_,_,rfl,j.done,rfl⟩).mono ?_;rintro e W' ⟨u,m',n',k',o',rfl,f',g',h',p',q',r',i',j'⟩;obtain⟨d,rfl,F⟩:=g';obtain⟨nm,rfl,l'⟩:=F.str;obtain⟨rfl,h⟩:u=.string (bC nm)/\∀y∈nm,y<256:=h';exact⟨nm,k',o',rfl,h,l',f',i',j'⟩
def au6 (c':(aoU i).aA T) {r:Rw} {x:Nv} {a:ah Addr} {m cap:Nat} {pk:aK} (d':aJ O r fZ) (A:dR O l fZ) (E:l.length<=gB) (F:∀y∈l,aI y<=i) (Z:mU [.int .i64 k,.int .i64 o])
 (e':jN W b k o) (f':dX j (dM W)) (P:j b=none) (g':ug T j) (h':kH j r x.list) (a':DR j (.R l) (.slice a m cap)):
 Calls Tryz.prog 22 #[.pointer (some ⟨b,0,none⟩),x.val,.slice a m cap,.bool pk] W fun e W'=>∃(fs:G Rw) (va:ah Addr) (q:Nat) (h:Nat->ah Obj) (k' o':Int),e=.returned (.slice va fs.length q)/\bG (uH i r l pk) (fun t=>.one (.R t)) iQ [.int .i64 k,.int .i64 o] (.one (.R fs)) [.int .i64 k',.int .i64 o']/\DR h (.R fs) (.slice va fs.length q)/\
  dX j h/\dX h (dM W')/\(∀g o,h g=some o->j g=some o\/W.heap.size<=g)/\jN W' b k' o'/\Sb b W W':=by
 refine(ZA c' rfl (V:=[.agg r,.one (.R l),.one (.bool pk)]) (us:=[x.val,.slice a m cap,.bool pk]) ⟨⟨d',eP E A,rfl,fun _=>F⟩,Z⟩ e' f' P g' ⟨_,_,rfl,⟨_,rfl,h'⟩,_,_,rfl,a',_,_,rfl,rfl,rfl⟩).mono ?_;rintro e W' ⟨u,h,s',k',o',rfl,i',j',w,l',m',n',p',q'⟩;obtain⟨d,rfl,b'⟩:=j';obtain⟨fs,rfl,_⟩:=bW b';have w:DR h (.R fs) u:=w;obtain⟨va,q,rfl,r'⟩:=w;exact⟨fs,va,q,h,k',o',rfl,i',⟨va,q,rfl,r'⟩,l',m',n',p',q'⟩
def arV:∀{l:Fr},zJ l->∀r∈nR l,nc r=[]\/nk r=3
 |.nil,_,r,h=>by cases h
 |.cons k t c o q,⟨_,e,_,j⟩,r,h=>by
  rcases g_.1 h with rfl|h
  ·rcases e with rfl|rfl
   ·exact .inr rfl
   ·exact .inl rfl
  ·exact arV j r h
def aMN {r:Rw} {c:G Rw} {F P c' d':Int} {fs:G Rw} {seen:G (G Nat)} (f':2<=c.length) (h':L.length<8) (e':seen=bg L) (g':(F=0/\P=0/\c.length<=62)\/(F=4/\P=no r/\62<c.length))
 (E:bG (ku c[1] seen) (fun s=>.one (.str s)) iQ [.int .i64 F,.int .i64 P] (.one (.str q)) [.int .i64 c',.int .i64 d'])
 (h:bG (uH b r (c.drop 2) true) (fun t=>.one (.R t)) iQ [.int .i64 c',.int .i64 d'] (.one (.R fs)) [.int .i64 k,.int .i64 o]):Vb (yK b L r (c.drop 1)) k o L (L++[[.str q,.R fs]]):=by
 have key:yK b L r (c.drop 1)=if 62<c.length then .error (zl r) else aL (ku c[1] seen) fun q=>aL (uH b r (c.drop 2) true) fun fs=>.ok [.str q,.R fs]:=by
  subst e'
  match c,f' with
  |y::z::l,_=>
   show(if 8<=L.length\/60<l.length then _ else _)=_
   by_cases w:60<l.length
   ·rw[bK (.inr w),bK (by simp only[gD];omega)]
   ·rw[bB I,bB (by simp only[gD];omega)]
    show _=aL (aL (n_ z) fun q=>if(bg L).contains q then .error (KT z) else .ok q) _
    show aL (n_ z) _=_;cases n_ z with
    |error e=>rfl
    |ok q=>
     simp only[mq]
     by_cases hc:(bg L).contains q=true
     ·rw[bK hc,bK hc];rfl
     ·rw[bB hc,bB hc];rfl
 rw[key];rcases g' with⟨rfl,rfl,w⟩|⟨rfl,rfl,w⟩
 ·rw[bB I]
  rcases E.vv with⟨x,e1,A,j⟩|⟨f,e1,A,j,_⟩
  ·obtain⟨rfl,rfl⟩:=xQ (c:=0) (d:=0) A
   have j:DA.one (.str q)=DA.one (.str x):=j;cases j;rw[e1,mq];rcases h.vv with⟨y,T,W,u⟩|⟨f,T,W,u,_⟩
   ·obtain⟨rfl,rfl⟩:=xQ (c:=0) (d:=0) W
    have u:DA.one (.R fs)=DA.one (.R y):=u;cases u;rw[T];exact .inl ⟨_,rfl,rfl,rfl,rfl⟩
   ·obtain⟨a',b'⟩:=xQ (c:=f.1) (d:=f.2) u
    subst a' b';rw[T];exact .inr ⟨W,rfl⟩
  ·obtain⟨a',b'⟩:=xQ (c:=f.1) (d:=f.2) j
   subst a' b';obtain⟨rfl,rfl⟩:=xQ (c:=f.1) (d:=f.2) (h.oq (f:=f) A).1;rw[e1];exact .inr ⟨A,rfl⟩
 ·rw[bK w]
  obtain⟨rfl,rfl⟩:=xQ (c:=4) (d:=no r) (E.oq (f:=(4,no r)) bS).1;obtain⟨rfl,rfl⟩:=xQ (c:=4) (d:=no r) (h.oq (f:=(4,no r)) bS).1;exact .inr ⟨by decide,rfl⟩
def aMZ {r:Rw} {fs:G Rw} (A:L.length<6) (q:bG (uH b r l false) (fun t=>.one (.R t)) iQ [.int .i64 0,.int .i64 0] (.one (.R fs)) [.int .i64 k,.int .i64 o]):Vd (yM b L r l) k o L (L++[[.R fs]]):=by
 unfold yM;rw[bB I];rcases q.vv with⟨y,h,j,e⟩|⟨f,h,j,e,_⟩
 ·obtain⟨rfl,rfl⟩:=xQ (c:=0) (d:=0) j
  have e:DA.one (.R fs)=DA.one (.R y):=e;cases e;exact .inl ⟨_,h,rfl,rfl,rfl⟩
 ·obtain⟨u,w⟩:=xQ (c:=f.1) (d:=f.2) e
  subst u w;exact .inr ⟨j,h⟩
structure qc (T:Nat->Option D) (Js:Nat->Option Obj) (w:World) (bp bo:Nat) (wC:Nat->Option Obj) (k o:Int) (ps ts:List Rw) (vp vt v8:Value) (Tw:List Rw) (W:World):Prop where
 s:iT T wC (w.heap.size+1+1) W bp bo k o vp vt ps ts
 x:dX Js wC
 n0:wC w.heap.size=none
 n1:wC (w.heap.size+1)=none
 rc:qb w W
 g:nu wC W (w.heap.size+1+1) 9 1 v8 Tw
 ng:∀g,v8.ownBlock=some g->g≠bp/\g≠bo/\vp.ownBlock≠some g/\vt.ownBlock≠some g
 lp:w.heap.size+1+1<=bp
 lo:w.heap.size+1+1<=bo
def qc.gZ {T:Nat->ah D} {A:Nat->ah Obj} {w:ak} {bp bo:Nat} {q j:Nat->ah Obj} {k o k' o':Int} {ps ts:G Rw} {a' b' c':av} {E:G Rw} {W W':ak} (h:qc T A w bp bo q k o ps ts a' b' c' E W) (hf:jN W' bp k' o') (P:Sb bp W W') (y:dX q j) (d':dX j (dM W')) (F:∀g o,j g=some o->q g=some o\/W.heap.size<=g):qc T A w bp bo j k' o' ps ts a' b' c' E W':=by
 have l:∀g,g<W.heap.size->q g=none->j g=none:=fun g u hf=>by
  cases e:j g with
  |none=>rfl
  |some f'=>
   rcases F g f' e with e'|e'
   ·rw[e'] at hf;cases hf
   ·omega
 have g':=h.rc.size;exact⟨h.s.gZ hf P y d' F,h.x.trans y,l _ I h.n0,l _ I h.n1,h.rc.below (P.aoJ h.lp h.rc.size),h.g.gZ y (fun g u=>l g (h.g.lt u).2 (h.g.out g u)) (fun g u=>P.block g (h.g.lt u).2 (h.ng g u).1),h.ng,h.lp,h.lo⟩
def qc.pY {T:Nat->ah D} {j:Nat->ah Obj} {w:ak} {bp bo:Nat} {l:Nat->ah Obj} {k o k' o':Int} {ps ts:G Rw} {u y A:av} {q:G Rw} {W W':ak} (h:qc T j w bp bo l k o ps ts u y A q W) (hf:jN W' bp k' o') (E:Sb bp W W'):qc T j w bp bo l k' o' ps ts u y A q W':=
 h.gZ hf E (.refl _) (h.s.pY hf E).ext fun _ _ e=>.inl e
def qc.alloc {T:Nat->ah D} {e:Nat->ah Obj} {w:ak} {bp bo:Nat} {j:Nat->ah Obj} {k o:Int} {ps ts:G Rw} {u y A:av} {l:G Rw} {W:ak} (h:qc T e w bp bo j k o ps ts u y A l W) (q:Obj):qc T e w bp bo j k o ps ts u y A l (W.alloc q):=
 h.pY (h.s.p.alloc q) ((Sb.refl bp W).alloc q)
def qc.drew {T:Nat->ah D} {e:Nat->ah Obj} {w:ak} {bp bo:Nat} {j:Nat->ah Obj} {k o:Int} {ps ts:G Rw} {q u y:av} {l:G Rw} {W:ak} (h:qc T e w bp bo j k o ps ts q u y l W):qc T e w bp bo j k o ps ts q u y l W.drew:=
 h.pY h.s.p ⟨rfl,rfl,rfl,bq _,fun _ _ _=>rfl⟩
def ahc {g q:Nat} (e:(Value.slice (some ⟨g,0,none⟩) b i).ownBlock=some q):g=q:=by
 exact afL
def qc.name {bo:Nat} {F:av} {y:G Rw} {P:ak} {nm:G Nat} {b':G av} {cap:Nat} (h:qc T a w i bo j k o l L v m F y W) (e':∀b∈nm,b<256) (N:W.ownsRow (w.heap.size+1+1) 9 1 F y.length b')
 (A:qz W P (w.heap.size+1+1) 9 1 F y.length b' 1 [.string (bC nm)] g cap):qc T a w i bo j k o l L v m (.slice (some ⟨g,0,none⟩) (y.length+1) cap) (y++[[.str nm]]) P:=by
 have u:∀q,q<W.heap.size->F.ownBlock≠some q->P.heap[q]?=W.heap[q]?:=fun q E hn=>A.grown.block q E (fun e=>hn e.symm);have c':=A.ext h.s.ext h.g.out;have g':=h.rc.size;have a':∀q,q<w.heap.size+1+1->P.heap[q]?=W.heap[q]?:=fun q E=>u q I fun e=>by have:=(h.g.lt e).1;omega
 have d':g≠i/\g≠bo/\v.ownBlock≠some g/\m.ownBlock≠some g:=by
  rcases A.nG with e|⟨rfl,_⟩
  ·exact h.ng g e
  ·exact⟨fun e=>by have:=h.s.yH;omega,fun e=>by have:=h.s.DL;omega,fun e=>by have:=(h.s.gp.lt e).2;omega,fun e=>by have:=(h.s.gt.lt e).2;omega⟩
 refine⟨h.s.uF (u i h.s.yH fun e=>(h.ng i e).1 rfl) (u bo h.s.DL fun e=>(h.ng bo e).2.1 rfl) (fun q E=>u q (h.s.gp.lt E).2 fun e=>(h.ng q e).2.2.1 E) (fun q E=>u q (h.s.gt.lt E).2 fun e=>(h.ng q e).2.2.2 E) c',h.x,h.n0,h.n1,h.rc.below ⟨A.grown.os,A.grown.tape,A.grown.output,A.grown.size,a'⟩,?_,fun q e=>ahc e▸d',h.lp,h.lo⟩;exact h.g.snoc h.s.ext ⟨_,_,rfl,⟨rfl,e'⟩,rfl⟩ rfl fun h' f'=>by
  obtain rfl:=TD N f';exact A
def qc.pack {A:av} {y:G Rw} {E:ak} {r:Rw} {u F:G av} {cap:Nat} (h:qc T a w b i j k o l L v m A y W) (U:kH j r u) (c':r.length=2) (N:W.ownsRow (w.heap.size+1+1) 65 2 v l.length F)
 (P:qz W E (w.heap.size+1+1) 65 2 v l.length F 1 u g cap):qc T a w b i j k o (l++[r]) L (.slice (some ⟨g,0,none⟩) (l.length+1) cap) m A y (E.setCell ⟨i,0,none⟩ (.slice (some ⟨g,0,none⟩) (l.length+1) cap)):=by
 obtain⟨d',a'⟩:=h.s.aoi U c' N P;have e':=a'.below h.lp h.lo (fun g e=>(h.s.gp.lt e).1) h.rc.size;refine⟨d',h.x,h.n0,h.n1,h.rc.below e',h.g.gZ (.refl _) h.g.out (fun q e=>a'.block q (h.g.lt e).2 (h.ng q e).1 (h.ng q e).2.1 (h.ng q e).2.2.1),fun q e=>⟨(h.ng q e).1,(h.ng q e).2.1,fun f'=>?_,(h.ng q e).2.2.2⟩,h.lp,h.lo⟩;obtain rfl:=ahc f';rcases P.nG with b'|⟨b',_⟩
 ·exact(h.ng _ e).2.2.1 b'
 ·have:=(h.g.lt e).2;omega
def qc.task {A:av} {y:G Rw} {E:ak} {r:Rw} {u F:G av} {cap:Nat} (h:qc T a w b i j k o l L v m A y W) (U:kH j r u) (c':r.length=1) (N:W.ownsRow (w.heap.size+1+1) 62 1 m L.length F)
 (P:qz W E (w.heap.size+1+1) 62 1 m L.length F 1 u g cap):qc T a w b i j k o l (L++[r]) v (.slice (some ⟨g,0,none⟩) (L.length+1) cap) A y (E.setCell ⟨i,1,none⟩ (.slice (some ⟨g,0,none⟩) (L.length+1) cap)):=by
 obtain⟨d',a'⟩:=h.s.aoj U c' N P;have e':=a'.below h.lp h.lo (fun g e=>(h.s.gt.lt e).1) h.rc.size;refine⟨d',h.x,h.n0,h.n1,h.rc.below e',h.g.gZ (.refl _) h.g.out (fun q e=>a'.block q (h.g.lt e).2 (h.ng q e).1 (h.ng q e).2.1 (h.ng q e).2.2.2),fun q e=>⟨(h.ng q e).1,(h.ng q e).2.1,(h.ng q e).2.2.1,fun f'=>?_⟩,h.lp,h.lo⟩;obtain rfl:=ahc f';rcases P.nG with b'|⟨b',_⟩
 ·exact(h.ng _ e).2.2.2 b'
 ·have:=(h.g.lt e).2;omega
structure Bd (T:Nat->Option D) (n:Nat) (L:List Rw) (Js:Nat->Option Obj) (w:World) (bp bo:Nat) (i:Nat) (wC:Nat->Option Obj) (k o:Int) (ps ts:List Rw) (vp vt v8:Value) (Tw:List Rw) (W:World):Prop where
 m:qc T Js w bp bo wC k o ps ts vp vt v8 Tw W
 r:sN n L i k o ps ts
 eq:bg Tw=bg ps
 kr:dR O Tw [.str]
 pk:Kc ps
def Bd.bad {T:Nat->ah D} {n:Nat} {L:G Rw} {j:Nat->ah Obj} {w:ak} {bp bo i:Nat} {l:Nat->ah Obj} {ps ts:G Rw} {u y A:av} {q:G Rw} {aB V':ak} {r:Rw} {e o:Int} (h:Bd T n L j w bp bo i l 0 0 ps ts u y A q aB) (U:L[i]?=some r) (E:e≠0) (F:m_ n (ps,ts) r=.error (e,o))
 (hf:jN V' bp (oz 0 e) (rO 0 0 o)) (P:Sb bp aB V'):Bd T n L j w bp bo (i+1) l e o ps ts u y A q V':=⟨h.m.pY (by simpa[oz,rO] using hf) P,h.r.bad U E F,h.eq,h.kr,h.pk⟩
def Bd.prI {bo:Nat} {ts:G Rw} {q:av} {e:G Rw} {aB:ak} (h:Bd T b L a w g bo i j k o l ts v m q e aB):oN T b L a w g bo i j k o l ts v m aB:=⟨h.m.s,h.m.x,h.m.n0,h.m.n1,h.m.rc,h.pk,h.r,h.m.lp,h.m.lo⟩
def oN.rfI {bo:Nat} {aB:ak} (h:oN T b L a w i bo 0 j 0 0 [] [] v m aB):Bd T b L a w i bo 0 j 0 0 [] [] v m (.slice none 0 0) [] aB:=⟨⟨h.s,h.x,h.n0,h.n1,h.rc,nu.nil _ _ _ _ _,(fun g e=>by cases e),h.lp,h.lo⟩,h.r,rfl,True.intro,h.pk⟩
def aNV {ts:G Rw} (h:word t=vI) (e:ts.length=0) (j:2<=(nc t).length) (q:8<=L.length):m_ b (L,ts) t=.error (4,no t):=by
 rw[aaO h e]
 match nc t,j with
 |y::z::l,_=>
  show aL (if 8<=L.length\/60<l.length then _ else _) _=_
  rw[bK (.inl q)];rfl
def aNW (h:word t=xI) (e:6<=L.length):m_ b (l,L) t=.error (4,no t):=by
 rw[aiA h];unfold yM;rw[bK e];rfl
def aNT (e:(nc t).length<=1) (j:word t≠xI):m_ b (l,L) t=.error (2,no t):=by
 by_cases h:word t=vI/\L.length=0
 ·rw[aaO h.1 h.2]
  have q:(nc t).drop 1=[]:=List.drop_eq_nil_of_le e;rw[q];rfl
 ·exact aiz h j
def aGD (h:bg l=bg L):l.length=L.length:=by
 have:=iE List.length h
 simpa[bg] using this
end
end
end Go.Proofs.YtdjcfaaongngeaaGreatDoor

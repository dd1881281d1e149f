/- A part of the proof: see the last text. -/
import Derived.Test.YtdjcfaaongngeaaGreatDoorZp
import Derived.Test.YtdjcfaaongngeaaGreatDoorZr
set_option linter.all false
set_option maxRecDepth 100000
set_option maxHeartbeats 0
namespace Go.Proofs.YtdjcfaaongngeaaGreatDoor
noncomputable section
variable {b g i:Nat}{T:Nat->ah D}{a j:Nat->ah Obj}{W w:ak}{v:av}{P:Prop}{t:Rw}{l L:G Rw}{p:G D}{d:D}{q:G Nat}{e:G (G D)}{k o:Int}{u:dh}{F:dF av}{X:G (G Nat)}
section
open Go Go.RowKit
def ath:∀{x t:G Nat},(∀b∈x,b<256)->(∀b∈t,b<256)->x.map UInt8.ofNat=t.map UInt8.ofNat->x=t
 |[],[],_,_,_=>rfl
 |[],_::_,_,_,h=>by cases h
 |_::_,[],_,_,h=>by cases h
 |a::x,b::t,e,j,h=>by
  simp only[AU,nV] at h;rw[(ofNat_inj (e a jG) (j b jG)).1 h.1,ath (fun c hc=>e c (gF _ hc)) (fun c hc=>j c (gF _ hc)) h.2]
def Np {t:G Nat} (j:∀b∈q,b<256) (l:∀b∈t,b<256):((bC q).toList==(bC t).toList)=(q==t):=by
 rw[CW,CW]
 by_cases h:q=t
 ·subst h;simp
 ·rw[zH.2 h,zH.2 fun e=>h (ath j l e)]
def Gu {T:dh} {fr:Nat×Nat} {u:av} (h:dM W g=some (.cells F T fr)) (e:F[b]?=some u):W.cell? ⟨g,b,none⟩=some u:=by
 have h:W.heap[g]?=some (.cells F T fr):=h;simp[World.cell?,h,e]
def aOw (h:DR (dM W) (.R (X.map bw)) v):Ew W.heap.size W v X/\∀w∈X,∀x∈w,x<256:=by
 obtain⟨a,cap,rfl,a',b',j⟩:=h;rw[tX];rcases j with j|⟨g,d,arr,T,fr,z,rfl,y,A⟩
 ·obtain rfl:X=[]:=List.map_eq_nil_iff.1 j
  exact⟨⟨a,cap,rfl,.inl rfl⟩,fun w l=>(by cases l)⟩
 ·have key:∀i,i<X.length->W.cell? ⟨g,d+i,none⟩=some (.string (bC (X[i]?.getD [])))/\∀x∈X[i]?.getD [],x<256:=fun i J=>by
   obtain⟨q,E⟩:=A.get (i:=i) (r:=bw X[i]) Dl;have q:1=z:=q;subst q;obtain⟨⟨u,F,rfl,P⟩,_⟩:=E;have e:X[i]?.getD []=X[i]:=Dl;rw[e];exact⟨Gu y (by rw[<-F];congr 1;omega),P⟩
  refine⟨⟨some ⟨g,d,none⟩,cap,rfl,.inr ⟨g,d,rfl,(kF.1 y).1,fun i J=>(key i J).1⟩⟩,fun w l=>?_⟩;obtain⟨i,J,rfl⟩:=UH.1 l;have:=(key i J).2
  simpa[J] using this
def aeJ {ws:G (G Nat)} {j:Nat} (h:j<ws.length):ws.reverse[j]?=some (rz ws j).2:=by
 have e:ws.length-1-j<ws.length:=I;simp[rz,e,aiV h]
def aFV {ws:G (G Nat)} {j:Nat} (hj:j<ws.length) (h:((rz ws j).2==q)=true) (J:∀i,i<j->((rz ws i).2==q)=false):Aq q ws=some j:=by
 unfold Aq;rw[awV];refine⟨by simpa using hj,?_,fun i e=>?_⟩
 ·have:=aeJ hj
  rw[gM yx] at this;rw[bI this];exact h
 ·have:=aeJ (ws:=ws) (j:=i) I
  rw[gM gJ] at this;rw[bI this,J i e];decide
def as0 {ws:G (G Nat)} (h:∀i,i<ws.length->((rz ws i).2==q)=false):Aq q ws=none:=by
 unfold Aq;rw[awU];intro x e;obtain⟨i,J,rfl⟩:=UH.1 e;have:=aeJ (ws:=ws) (j:=i) (by simpa using J)
 rw[gM J] at this;rw[bI this];exact h i (by simpa using J)
def avb:∀{rows:G Rw},dR O rows [.str]->(bg rows).map bw=rows
 |[],_=>rfl
 |r::rs,⟨e,h⟩=>by
  obtain⟨t,rfl⟩:=aiG e;show bw t::(bg rs).map bw=_;rw[avb h];rfl
def apt (e:∀x∈q,x<256):uY a (.agg (ty k q o [])) (vQ k (bC q) o):=
 ⟨[.int .i64 k,.string (bC q),.int .i64 o,.slice none 0 0],rfl,_,_,rfl,rfl,_,_,rfl,⟨rfl,e⟩,_,_,rfl,rfl,_,_,rfl,⟨none,0,rfl,bq _,gK _,.inl rfl⟩,rfl⟩
def apo:uY a (.agg (dL (k,o))) (vF k o):=⟨[.int .i64 k,.int .i64 o],rfl,_,_,rfl,rfl,_,_,rfl,rfl,rfl⟩
def aOs (k o:Int) (t:G Nat) (c:G Rw) (ws:G (G Nat)):(∃e s i,zF [.int .i64 k,.str t,.R c,.int .i64 o] ws=.ok (ty e s i [])/\(s=[]\/s=t))\/zF [.int .i64 k,.str t,.R c,.int .i64 o] ws=.error (2,o):=by
 unfold zF;split
 ·exact .inl ⟨_,_,_,rfl,.inl rfl⟩
 ·split
  ·exact .inl ⟨_,_,_,rfl,.inl rfl⟩
  ·split
   ·exact .inl ⟨_,_,_,rfl,.inl rfl⟩
   ·split
    ·exact .inl ⟨_,_,_,rfl,.inr rfl⟩
    ·exact .inr rfl
def awG {t:G Nat} (y:∀x∈t,x<256) (T:∀w∈X,∀x∈w,x<256) (h:Vl (bC t) o X (yI [.int .i64 k,.str t,.R l,.int .i64 o]) v):
 (∃F s i,zF [.int .i64 k,.str t,.R l,.int .i64 o] X=.ok (ty F s i [])/\v=.tuple #[vQ F (bC s) i,vF 0 0])\/(zF [.int .i64 k,.str t,.R l,.int .i64 o] X=.error (2,o)/\v=.tuple #[vQ 0 (bC []) 0,vF 2 o]):=by
 have W:((bC t).toList==[65,110,121])=(t==BH):=by rw[<-Np (t:=BH) y jK,CW BH];rfl
 have a':((bC t).toList==[78,101,118,101,114])=(t==BJ):=by rw[<-Np (t:=BJ) y jK,CW BJ];rfl
 have e:∀i,i<X.length->((bC (rz X i).2).toList==(bC t).toList)=((rz X i).2==t):=fun i J=>Np (T _ (by
  have A:X.length-1-i<X.length:=I;simp[rz,A])) y
 unfold Vl at h;rw[W,a'] at h;unfold zF;rw[show nt [.int .i64 k,.str t,.R l,.int .i64 o]=t from rfl]
 rcases h with⟨h,rfl⟩|⟨q,⟨h,rfl⟩|⟨E,⟨j,P,A,b',rfl⟩|⟨u,⟨h,rfl⟩|⟨h,rfl⟩⟩⟩⟩
 ·rw[bK h];exact .inl ⟨_,_,_,rfl,rfl⟩
 ·rw[bB (by rw[q];decide),bK h];exact .inl ⟨_,_,_,rfl,rfl⟩
 ·rw[bB (by rw[q];decide),bB (by rw[E];decide),aFV P (by rw[<-e j P];exact A) (fun i J=>by rw[<-e i I];exact b' i J)]
  exact .inl ⟨_,_,_,rfl,rfl⟩
 ·rw[bB (by rw[q];decide),bB (by rw[E];decide),as0 (fun i J=>by rw[<-e i J];exact u i J)]
  simp only[h,qX];exact .inl ⟨_,_,_,rfl,rfl⟩
 ·rw[bB (by rw[q];decide),bB (by rw[E];decide),as0 (fun i J=>by rw[<-e i J];exact u i J)]
  simp only[h,Il,Me];exact .inr ⟨rfl,rfl⟩
def aNI (q':bH T):(RA).aA T:=by
 intro V pre ⟨A,Z⟩
 match V,A with
 |[.agg M',.one d1],⟨E,r'⟩=>
 obtain rfl:=Z;obtain⟨k,t,c,o,rfl,P',v0⟩:=aT E;obtain⟨rows,rfl,t',v1⟩:=bW r';obtain⟨ws,rfl⟩:∃ws:G (G Nat),rows=ws.map bw:=⟨_,(avb v1).symm⟩;have F:ws.length<=1000000:=by simpa[gB] using t'
 obtain⟨h,f',u',g'⟩:∃h,TR (zF [.int .i64 k,.str t,.R c,.int .i64 o] ws) h/\iw O RA.sig.res h/\∀(res:av),(∀x∈t,x<256)->(∀w∈ws,∀x∈w,x<256)->Vl (bC t) o ws (yI [.int .i64 k,.str t,.R c,.int .i64 o]) res->∀fz,uY fz h res:=by
  have h':aW O (.str t) .str:=(kV (kV E).2).1;rcases aOs k o t c ws with⟨v',s,i,e,i'⟩|e
  ·refine⟨.dD [.agg (ty v' s i []),.agg aM],.inl ⟨_,e,rfl⟩,⟨_,rfl,_,_,rfl,⟨_,rfl,ay aO (ay (by rcases i' with rfl|rfl;exact mo jK;exact h') (ay aO (ay OH aX)))⟩,_,_,rfl,⟨_,rfl,ay aO (ay aO aX)⟩,rfl⟩,fun res j P N fz=>?_⟩
   rcases awG j P N with⟨j',s',w',l,rfl⟩|⟨l,rfl⟩
   ·rw[l] at e
    simp only[aaZ,ty,nV,D.int.injEq,D.str.injEq,IB,tZ] at e;obtain⟨rfl,rfl,rfl⟩:=e;exact⟨_,rfl,_,_,rfl,apt (by rcases i' with rfl|rfl;exact fun x a'=>(by cases a');exact j),_,_,rfl,apo,rfl⟩
   ·rw[l] at e;cases e
  ·refine⟨.dD [.agg jm,.agg (dL (2,o))],.inr ⟨_,e,(by decide:(2:Int)≠0),rfl⟩,⟨_,rfl,_,_,rfl,⟨_,rfl,ay aO (ay (mo jK) (ay aO (ay OH aX)))⟩,_,_,rfl,⟨_,rfl,ay aO (ay aO aX)⟩,rfl⟩,fun res j P N fz=>?_⟩
   rcases awG j P N with⟨j',s',w',l,rfl⟩|⟨l,rfl⟩
   ·rw[l] at e;cases e
   ·exact⟨_,rfl,_,_,rfl,apt (fun x a'=>(by cases a')),_,_,rfl,apo,rfl⟩
 refine⟨h,[],⟨by show TR (zF _ (bg (ws.map bw))) h;rw[kS];exact f',rfl⟩,u',rfl,?_⟩
 refine om.H6 fun W us j x'=>?_;obtain⟨v0,y',rfl,⟨T',rfl,X',z',rfl,rfl,a0,A',rfl,⟨rfl,y⟩,b0,D',rfl,k',e0,E',rfl,rfl,rfl⟩,F',L',rfl,l',rfl⟩:=x';obtain⟨m',n'⟩:=aOw l';obtain⟨b',c',rfl,d'⟩:=k';obtain⟨a,cap,rfl,e'⟩:=m';refine(aNH k o (bC t) b' _ c' a cap ws W (yI [.int .i64 k,.str t,.R c,.int .i64 o]) F ⟨a,cap,rfl,e'⟩ fun W' q=>?_).mono ?_
 ·obtain⟨o',post,⟨hR,rfl⟩,_,_,hc⟩:=Ur q' [.agg [.int .i64 k,.str t,.R c,.int .i64 o]] [] ⟨E,rfl⟩
  obtain rfl:o'=.one (.bool (yI [.int .i64 k,.str t,.R c,.int .i64 o])):=hR;refine(om.at_ hc (j.below q (bq _)) (us:=[.agg #[.int .i64 k,.string (bC t),.slice b' c.length c',.int .i64 o]]) ⟨_,_,rfl,⟨_,rfl,_,_,rfl,rfl,_,_,rfl,⟨rfl,y⟩,_,_,rfl,DR.mono (qO q (bq _)) ⟨b',c',rfl,d'⟩,_,_,rfl,rfl,rfl⟩,rfl⟩).mono ?_;rintro e f0 ⟨u,rfl,p',rfl⟩;exact⟨rfl,p'⟩
 ·rintro e W' ⟨res,rfl,q,N⟩
  exact⟨res,rfl,q,g' res y n' N⟩
end
section
open Go Go.RowKit Go.Shelf
attribute [local go_sem] abb
def zo (fz:Nat->ah Obj) (lo J:Nat) (W:ak):Nat->ah Obj:=fun g=>if g<lo then fz g else if g<J then none else match W.heap[g]? with
 |some (.cells a T f)=>some (.cells a T f)
 |_=>none
def ar4 {f:Nat×Nat} (e:b<=g) (j:i<=g) (h:W.heap[g]?=some (.cells F u f)):zo a b i W g=some (.cells F u f):=by
 unfold zo;rw[bB I,bB I,h]
def Sm {W':ak} (h:∀g a T f,i<=g->W.heap[g]?=some (.cells a T f)->W'.heap[g]?=some (.cells a T f)):dX (zo j b i W) (zo j b i W'):=fun g o l=>by
 unfold zo at l⊢;split
 ·rename_i q;rw[bK q] at l;exact l
 ·rename_i q
  rw[bB q] at l;split
  ·rename_i u;rw[bK u] at l;exact l
  ·rename_i u
   rw[bB u] at l;split at l
   ·rename_i a T f e
    rw[h g a T f I e];exact l
   ·cases l
def YX (h:dX a (dM w)):dX a (zo a w.heap.size b W):=fun g o e=>by
 have j:g<w.heap.size:=(kF.1 (h g o e)).1;unfold zo;rw[bK j];exact e
def ar6:dX (zo a w.heap.size b W) (Aj a w W):=fun g o j=>by
 unfold zo at j;unfold Aj;split at j
 ·rename_i h;rw[bK h];exact j
 ·rename_i h
  rw[bB h];split at j
  ·cases j
  ·split at j
   ·rename_i e;rw[e];exact j
   ·cases j
def ar5 {row:ah Nat} (e:W.grownBy w row) (U:∀r,row=some r->∃o:Obj,W.heap[r]?=some o/\o.isCells=false):dX (zo a b g W) (zo a b g w):=
 Sm fun _ _ _ _ _ h=>grownBy_keeps_cells e U h rfl▸h
structure Q4 (W:World) (b:Nat) (u:Tv):Prop where
 c0:W.cell? ⟨b,0,none⟩=some (.int .i64 u.k)
 c1:W.cell? ⟨b,1,none⟩=some (.string u.s)
 c2:W.cell? ⟨b,2,none⟩=some (.int .i64 u.i)
 c3:W.cell? ⟨b,3,none⟩=some (.slice u.a u.n u.c)
 z0:W.frozen? ⟨b,0,none⟩=false
 z1:W.frozen? ⟨b,1,none⟩=false
 z2:W.frozen? ⟨b,2,none⟩=false
 z3:W.frozen? ⟨b,3,none⟩=false
def Q4.kept {W':ak} {u:Tv} {row:ah Nat} (h:Q4 W b u) (e:W.grownBy W' row) (U:∀r,row=some r->∃o:Obj,W.heap[r]?=some o/\o.isCells=false):Q4 W' b u:=
 ⟨El h.c0 e U,El h.c1 e U,El h.c2 e U,El h.c3 e U,(abr h.c0 e U).trans h.z0,(abr h.c1 e U).trans h.z1,(abr h.c2 e U).trans h.z2,(abr h.c3 e U).trans h.z3⟩
def Q4.alloc {W:ak} {b:Nat} {u:Tv} (h:Q4 W b u) (o:Obj):Q4 (W.alloc o) b u:=h.kept (Mc W o none) (fun r e=>by cases e)
def Q4.new (W:ak) (T:dh) (u:Tv):Q4 (W.alloc (.cells #[.int .i64 u.k,.string u.s,.int .i64 u.i,.slice u.a u.n u.c] T)) W.heap.size u:=by
 constructor<;>simp[go_sem]
def wJ (W:ak) (b:Nat) (u:Tv):ak:=(((W.setCell ⟨b,0,none⟩ (.int .i64 u.k)).setCell ⟨b,1,none⟩ (.string u.s)).setCell ⟨b,2,none⟩ (.int .i64 u.i)).setCell ⟨b,3,none⟩ (.slice u.a u.n u.c)
def Q4.set {v:Tv} (h:Q4 W b v) (u:Tv):Q4 (wJ W b u) b u:=by
 obtain⟨c0,c1,c2,c3,z0,z1,z2,z3⟩:=h;constructor<;>simp[wJ,go_sem,c0,c1,c2,c3,z0,z1,z2,z3]
def avx (W:ak) (b:Nat) (u:Tv):KeepsOthers W (wJ W b u):=(((xR _ _ _).trans (xR _ _ _)).trans (xR _ _ _)).trans (xR _ _ _)
def Pw {u:Tv} (h:g≠b):(wJ W b u).heap[g]?=W.heap[g]?:=by
 unfold wJ;rw[PX _ _ _ _ h,PX _ _ _ _ h,PX _ _ _ _ h,PX _ _ _ _ h]
def Uf {u:Tv} (h:Below g w W) (e:g<=b):Below g w (wJ W b u):=
 (((h.setCell (p:=⟨b,0,none⟩) e _).setCell (p:=⟨b,1,none⟩) e _).setCell (p:=⟨b,2,none⟩) e _).setCell (p:=⟨b,3,none⟩) e _
def Q4.block {W':ak} {u:Tv} (h:Q4 W b u) (e:W'.heap[b]?=W.heap[b]?):Q4 W' b u:=by
 have c (j:Nat):W'.cell? ⟨b,j,none⟩=W.cell? ⟨b,j,none⟩:=vU (a:=⟨b,j,none⟩) e;have f (j:Nat):W'.frozen? ⟨b,j,none⟩=W.frozen? ⟨b,j,none⟩:=axb (a:=⟨b,j,none⟩) e;exact⟨(c 0).trans h.c0,(c 1).trans h.c1,(c 2).trans h.c2,(c 3).trans h.c3,(f 0).trans h.z0,(f 1).trans h.z1,(f 2).trans h.z2,(f 3).trans h.z3⟩
def sM (fz:Nat->ah Obj) (t:G D) (u:Tv):Prop:=kH fz t [.int .i64 u.k,.string u.s,.int .i64 u.i,.slice u.a u.n u.c]
def sM.inv {u:Tv} (h:sM a p u):∃d0 d1 j l,p=[d0,d1,j,l]/\DR a d0 (.int .i64 u.k)/\DR a d1 (.string u.s)/\DR a j (.int .i64 u.i)/\DR a l (.slice u.a u.n u.c):=by
 have step:∀{p:G D} {u:av} {us:G av},kH a p (u::us)->∃d r,p=d::r/\DR a d u/\kH a r us:=by
  intro p u us h
  match p,h with
  |d::r,⟨P,F,e,q,w⟩=>cases e;exact⟨d,r,rfl,q,w⟩
 obtain⟨d0,T,rfl,y,h⟩:=step h;obtain⟨d1,W,rfl,q,h⟩:=step h;obtain⟨j,a',rfl,w,h⟩:=step h;obtain⟨l,A,rfl,E,h⟩:=step h
 match A,h with
 |[],_=>exact⟨d0,d1,j,l,rfl,y,q,w,E⟩
def aps {t:G D} {v u:Tv} {T:dh} {fr:Nat×Nat} (E:sM a p v) (F:sM a t u) (P:a g=some (.cells #[.int .i64 v.k,.string v.s,.int .i64 v.i,.slice v.a v.n v.c,.int .i64 u.k,.string u.s,.int .i64 u.i,.slice u.a u.n u.c] T fr)):
 sM a (ty k [] 0 [p,t]) ⟨k,⟨#[]⟩,0,some ⟨g,0,none⟩,2,2⟩:=by
 obtain⟨a',b',c',d',rfl,e,h,j,l⟩:=E.inv;obtain⟨e',t1,t2,t3,rfl,q,w,y,A⟩:=F.inv;exact⟨_,_,rfl,rfl,_,_,rfl,⟨rfl,fun x W=>(by cases W)⟩,_,_,rfl,rfl,_,_,rfl,⟨_,2,rfl,bq _,by unfold maxLen;omega,.inr ⟨g,0,_,T,fr,4,rfl,P,rfl,⟨⟨_,rfl,e⟩,⟨_,rfl,h⟩,⟨_,rfl,j⟩,⟨_,rfl,l⟩,True.intro⟩,rfl,⟨⟨_,rfl,q⟩,⟨_,rfl,w⟩,⟨_,rfl,y⟩,⟨_,rfl,A⟩,True.intro⟩,True.intro⟩⟩,rfl⟩
def sM.mono {a b:Nat->ah Obj} (e:dX a b) {t:G D} {u:Tv} (h:sM a t u):sM b t u:=kH.mono e h
def D8 (pre:G Et) (ts:G (G D)):G D:=pre.foldl (fun t x=>ty 6 [] 0 [x.2.1,t]) (ty 3 [] 0 ts)
def av1 (pre:G Et) (x:Et) (ts:G (G D)):D8 (pre++[x]) ts=ty 6 [] 0 [x.2.1,D8 pre ts]:=by simp[D8]
def IC (fz:Nat->ah Obj) (pre:G Et):Prop:=∀x∈pre,sM fz x.2.1 x.2.2
structure yT (fz:Nat->Option Obj) (w:World) (J:Nat) (ts:List (List D)) (pre:List Et) (W:World):Prop where
 sz:J<=W.heap.size
 r:∃z,Q4 W w.heap.size z
 t:∃u,Q4 W (w.heap.size+1) u/\(IC fz pre->sM (zo fz w.heap.size J W) (D8 pre ts) u)
def yT.own (fz:Nat->ah Obj) (w:ak) (J:Nat) (ts:G (G D)):Own (yT fz w J ts):=fun pre A aD row j e U=>by
 obtain⟨sz,⟨z,l⟩,u,q,y⟩:=j;exact⟨fF sz e.size,⟨z,l.kept e U⟩,u,q.kept e U,fun h=>(y h).mono (ar5 e U)⟩
abbrev atB (W:ak) (b:Nat) (v u:Tv):ak:=wJ (W.alloc (.cells #[.int .i64 v.k,.string v.s,.int .i64 v.i,.slice v.a v.n v.c,.int .i64 u.k,.string u.s,.int .i64 u.i,.slice u.a u.n u.c] 68)) b ⟨6,⟨#[]⟩,0,some ⟨W.heap.size,0,none⟩,2,2⟩
def ahd (b:Nat) (v u:Tv) (e:g<W.heap.size) (h:g≠b):(atB W b v u).heap[g]?=W.heap[g]?:=(Pw h).trans (jV W _ g e)
def avy (W:ak) (b:Nat) (u:Tv):(wJ W b u).heap.size=W.heap.size:=by simp[wJ,World.setCell]
def yT.step {pre:G Et} {v z u:Tv} (h:dX j (dM w)) (a':w.heap.size+3<=W.heap.size) (l:Q4 W w.heap.size z) (E:Q4 W (w.heap.size+1) u)
 (F:IC j pre->sM (zo j w.heap.size (w.heap.size+3) W) (D8 pre e) u):yT j w (w.heap.size+3) e (pre++[(i,p,v)]) (atB W (w.heap.size+1) v u):=by
 refine⟨by rw[avy];simp;omega,⟨z,l.block (ahd _ v u I I)⟩,_,(E.alloc _).set _,fun q=>?_⟩
 rw[av1];refine aps (v:=v) (u:=u) ((q _ (aiX _ jG)).mono (YX h)) ((F fun y P=>q y (aiW _ P)).mono (Sm fun g a T f b' A=>(ahd _ v u (kF.1 A).1 I).trans A)) (T:=68) (fr:=(0,0)) (ar4 I I ((Pw I).trans (abn W _)))
def aNf (fz:Nat->ah Obj) (a:ah Addr) (cap:Nat) (q:ah Addr) (y:Nat) (bs ts:G (G D)) (arr:dF av) (d:Nat) (w:ak) (e':dX fz (dM w)) (g':bs.length<=1000000) (y':zN w.heap.size w (.slice a bs.length cap) bs arr d)
 (n':DR fz (.R ts) (.slice q ts.length y)):
 Calls Tryz.prog 83 #[.slice a bs.length cap,.slice q ts.length y] w fun e W'=>∃u:Tv,e=.returned u.val/\Below w.heap.size w W'/\(IC fz (upto (pW bs arr d) bs.length)->sM (Aj fz w W') (D8 (upto (pW bs arr d) bs.length) ts) u):=by
 refine(UZ (n:=5)).1 ?_;refine callsIn_of_wp_marks Tryz.func83 rfl trivial ?_ rfl;simp only[Tryz.ntmps83,wN,gD,lN,Nat.reduceAdd,Nat.reduceSub,FM,FN,FT,Ed,qW,wM]
 gi_wp2_with (refine⟨trivial,?_⟩;gi_at_call 108;refine(aCx _ _ trivial rfl _ _ _ _).mono ?_;rintro e w' ⟨rfl,rfl⟩)
 obtain⟨E,j⟩:∃E,(((w.alloc (.cells #[.int .i64 0,.string ⟨#[]⟩,.int .i64 0,.slice none 0 0] 68)).alloc (.cells #[.int .i64 3,.string ⟨#[]⟩,.int .i64 0,.slice q ts.length y] 68)).alloc (.cells #[.slice a bs.length cap] 66))=E:=⟨_,rfl⟩;rw[j];have f':Below w.heap.size w E:=by rw[<-j];exact jB (jB (jB (iN w.heap.size w) _) _) _
 have h0:E.heap.size=w.heap.size+3:=by rw[<-j];simp
 have o':Q4 E w.heap.size ⟨0,⟨#[]⟩,0,none,0,0⟩:=by rw[<-j];exact((Q4.new w _ ⟨0,⟨#[]⟩,0,none,0,0⟩).alloc _).alloc _
 have p':Q4 E (w.heap.size+1) ⟨3,⟨#[]⟩,0,q,ts.length,y⟩:=by
  rw[<-j];have:=Q4.new (w.alloc (.cells #[.int .i64 0,.string ⟨#[]⟩,.int .i64 0,.slice none 0 0] 68)) 68 ⟨3,⟨#[]⟩,0,q,ts.length,y⟩;rw[Md] at this;exact this.alloc _
 have q':E.cell? ⟨w.heap.size+1+1,0,none⟩=some (.slice a bs.length cap):=by rw[<-j];exact World.cell?_alloc_at _ _ _ _ bS
 refine wpIn_rangeFunc_ownH rfl I (gf:=129) (lb:=#[.pointer (some ⟨w.heap.size+1+1,0,none⟩)]) rfl trivial (enters_of Tryz.func129 aS rfl)
  (aCy Fence.wide _ trivial rfl I (w.heap.size+1+1) w.heap.size (.slice a bs.length cap) bs arr d g' E I I q' (y'.below f')) asW (aFS I I) (iN _ _) (fun _=>rfl)
  (fun pre W=>yT fz w (w.heap.size+3) ts pre W/\Below w.heap.size w W)
  (fun _ _ _=>False)
  (OwnFrom.and ((yT.own _ _ _ _).from _) (ajh (bq _) I))
  (fun _ _ _ _ _ h' _ _=>h')
  ⟨⟨by omega,⟨_,o'⟩,_,p',fun _=>⟨_,_,rfl,rfl,_,_,rfl,⟨rfl,fun x z'=>(by cases z')⟩,_,_,rfl,rfl,_,_,rfl,DR.mono (YX e') n',rfl⟩⟩,f'⟩
  (fun x i' W=>∃b',w.heap.size+3<=b'/\Q4 W b' x.2.2/\i'={tmps:=#[.slice a bs.length cap,.slice q ts.length y,undef,undef,.pointer (some ⟨w.heap.size,0,none⟩),.pointer (some ⟨w.heap.size+1,0,none⟩),undef,.pointer (some ⟨b',0,none⟩),.slice q ts.length y,.agg #[.int .i64 3,.string ⟨#[]⟩,.int .i64 0,.slice q ts.length y],.slice a bs.length cap,.func (.func 129) #[] #[.pointer (some ⟨w.heap.size+1+1,0,none⟩)],.int .i64 (x.1:Int),x.2.2.val,undef,undef,undef,undef,undef],defers:=[]})
  (fun x i'=>Own.from (fun s A aD row h' j' U=>by obtain⟨b',r',k',A'⟩:=h';exact⟨b',r',k'.kept j' U,A'⟩) _) ?assign ?body ?done ?stop
 case assign=>
  rintro l pre ⟨i,t,v⟩ W aj ⟨J,F⟩ l';dsimp only[Tv.val]
  gi_wp2
  have c':=J.sz;exact l' _ _ ((KeepsOthers.alloc _ _).from _) ⟨(iN _ W).alloc F.size _,jV W _ _ I⟩ ⟨yT.own fz w _ ts _ W _ none J (Mc W _ none) (fun r e=>by cases e),jB F _⟩ ⟨W.heap.size,by omega,Q4.new W _ v,rfl⟩
 case body=>
  rintro l pre ⟨i,t,v⟩ i' W i0 U ⟨⟨c',⟨z,P⟩,u,d',m'⟩,F⟩ ⟨b',L',D',rfl⟩ M';obtain⟨q0,q1,q2,q3,_,_,_,_⟩:=D';obtain⟨p0,p1,p2,p3,y0,y1,E',F'⟩:=id d';have s':=d'.alloc (.cells #[.int .i64 v.k,.string v.s,.int .i64 v.i,.slice v.a v.n v.c,.int .i64 u.k,.string u.s,.int .i64 u.i,.slice u.a u.n u.c] 68);obtain⟨P',T',X',a0,b0,e0,f0,g0⟩:=id s';dsimp only[Tv.val]
  gi_wp2
  exact⟨((KeepsOthers.alloc _ _).trans (avx _ _ ⟨6,⟨#[]⟩,0,some ⟨W.heap.size,0,none⟩,2,2⟩)).from _,⟨Uf (u:=⟨6,⟨#[]⟩,0,some ⟨W.heap.size,0,none⟩,2,2⟩) ((iN w.heap.size W).alloc F.size _) I,ahd _ v u I I⟩,
   yT.step e' c' P d' m',Uf (u:=⟨6,⟨#[]⟩,0,some ⟨W.heap.size,0,none⟩,2,2⟩) (jB F _) I⟩
 case done=>
  rintro D j0 W k0 rfl ⟨⟨c',⟨z,P⟩,u,d',m'⟩,F⟩ l';obtain⟨p0,p1,p2,p3,y0,y1,E',F'⟩:=id d';obtain⟨l0,m0,o0,r0,s0,t0,u0,v0⟩:=id P
  gi_wp2
  have a':=(avx W w.heap.size u).same D _ l' rfl;refine⟨by simp,.inl ⟨_,_,rfl,U2 a',?_⟩⟩
  obtain⟨t',u',v',x',_,_,_,_⟩:=(P.set u).kept (abt _ D (.deferred none)) (fun r e=>by cases e;exact⟨_,a',rfl⟩)
  refine⟨u.val,by simp[results,Tryz.results83,go_sem,wJ] at t' u' v' x'⊢;simp[t',u',v',x'],u,rfl,(Uf F (bq _)).trans (UY (w:=w) (bq _) _ D _ _ I a' rfl rfl),fun j'=>((m' j').mono ((Sm (W':=wJ W w.heap.size u) fun g a T f r' k'=>(Pw I).trans k').trans (ar5 (abt _ D (.deferred none)) (fun r e=>by cases e;exact⟨_,a',rfl⟩)))).mono ar6⟩
 case stop=>
  rintro D c pre W _ _ h _;exact h.elim
end
section
open Go Go.RowKit
def aaG {P:bA} {ops:dF Oper} {o:Oper} {a:Act} {aj:Act->ak->Prop} {aY:Exit->Act->ak->Prop} {E:Prop} (l:o.guard=none) (f:ig) (args:dF av) (j:(execOp a.eval o).run P w=.ok (.enter f args) w)
 (h:Calls P f args w fun e w'=>∃v,e=.returned v/\aj (a.put o.dst v) w'):if Region.wanted o (yielded ops a.tmps)=true then Oper.wp P o a w aj aY else E:=by
 rw[bK (by simp[Region.wanted,l])]
 unfold Oper.wp;rw[j,Oper.upon_enter];refine h.mono fun e y q=>?_;obtain⟨v,rfl,u⟩:=q;exact u
def yT.step2 {aB:ak} {pre:G Et} {x:Et} {z u:Tv} (F:dX j (dM w)) (f':w.heap.size+2<=b) (g':b<=W.heap.size) (P:Q4 W w.heap.size z) (b':Q4 W (w.heap.size+1) u)
 (c':IC j pre->sM (zo j w.heap.size b W) (D8 pre e) u) (A:Below W.heap.size W aB) (E:W.heap.size<=g)
 (d':aB.heap[g]?=some (.cells #[.int .i64 x.2.2.k,.string x.2.2.s,.int .i64 x.2.2.i,.slice x.2.2.a x.2.2.n x.2.2.c,.int .i64 u.k,.string u.s,.int .i64 u.i,.slice u.a u.n u.c] 68 (0,0))):yT j w b e (pre++[x]) (wJ aB (w.heap.size+1) ⟨6,⟨#[]⟩,0,some ⟨g,0,none⟩,2,2⟩):=by
 have l:∀h,h<W.heap.size->h≠w.heap.size+1->(wJ aB (w.heap.size+1) ⟨6,⟨#[]⟩,0,some ⟨g,0,none⟩,2,2⟩).heap[h]?=W.heap[h]?:=fun h a' q=>(Pw q).trans (A.block h a');have h':=A.size;refine⟨by rw[avy];omega,⟨z,P.block (l _ I I)⟩,_,(b'.block (A.block _ I)).set _,fun E=>?_⟩
 rw[av1];exact aps (v:=x.2.2) (u:=u) ((E _ (aiX _ jG)).mono (YX F)) ((c' fun y e'=>E y (aiW _ e')).mono (Sm fun g a T f a' q=>(l g (kF.1 q).1 I).trans q)) (T:=68) (fr:=(0,0)) (ar4 I I ((Pw I).trans d'))
def aDJ (v u:Tv) (w:ak):Calls Tryz.prog 93 #[v.val,u.val] w fun e W'=>e=.returned (Tv.val ⟨6,⟨#[]⟩,0,some ⟨w.heap.size+1+1+1,0,none⟩,2,2⟩)/\Below w.heap.size w W'/\
 W'.heap[w.heap.size+1+1+1]?=some (.cells #[.int .i64 v.k,.string v.s,.int .i64 v.i,.slice v.a v.n v.c,.int .i64 u.k,.string u.s,.int .i64 u.i,.slice u.a u.n u.c] 68 (0,0)):=by
 refine(UZ (n:=5)).1 ?_;refine J8 Tryz.func93 rfl trivial ?_ rfl;simp only[Tryz.ntmps93,wN,gD,lN,Nat.reduceAdd,Nat.reduceSub,FM,FN,FT,Ed,qW,wM];dsimp only[Tv.val]
 gi_wp2
 refine ni (v:=.agg #[.int .i64 6,.string ⟨#[]⟩,.int .i64 0,.slice (some ⟨w.heap.size+1+1+1,0,none⟩) 2 2]) (by simp[results,Tryz.results93,go_sem]) rfl ⟨rfl,jB (jB (jB (jB (iN w.heap.size w) _) _) _) _,?_⟩
 have h:=abn (((w.alloc (.cells #[.int .i64 v.k,.string v.s,.int .i64 v.i,.slice v.a v.n v.c] 68)).alloc (.cells #[.int .i64 u.k,.string u.s,.int .i64 u.i,.slice u.a u.n u.c] 68)).alloc (.cells #[.int .i64 6,.string ⟨#[]⟩,.int .i64 0,.slice (some ⟨w.heap.size+1+1+1,0,none⟩) 2 2] 68)) (.cells #[.int .i64 v.k,.string v.s,.int .i64 v.i,.slice v.a v.n v.c,.int .i64 u.k,.string u.s,.int .i64 u.i,.slice u.a u.n u.c] 68)
 simpa only[Md] using h
def aMV (fz:Nat->ah Obj) (a:ah Addr) (cap:Nat) (y:ah Addr) (A:Nat) (bs ts:G (G D)) (arr:dF av) (d:Nat) (w:ak) (f':dX fz (dM w)) (i':bs.length<=1000000) (j':zN w.heap.size w (.slice a bs.length cap) bs arr d)
 (E:DR fz (.R ts) (.slice y ts.length A)):
 Calls Tryz.prog 63 #[.slice a bs.length cap,.slice y ts.length A] w fun e W'=>∃u:Tv,e=.returned u.val/\Below w.heap.size w W'/\(IC fz (upto (pW bs arr d) bs.length)->sM (Aj fz w W') (D8 (upto (pW bs arr d) bs.length) ts) u):=by
 obtain⟨len,h⟩:∃r,bs.length=r:=⟨_,rfl⟩;rw[h] at j' i'⊢;obtain⟨k',g'⟩:∃r,ts.length=r:=⟨_,rfl⟩;rw[g'] at E⊢;have x0:IntKind.i64.wrap ((len:Int)-1)=(len:Int)-1:=vS I I;have T':=Q j';have X':=Q E;have p':=Q f';have HL:=Q h;clear j' E f' h g';go_enter Tryz.func63,Tryz.ntmps63;go_wp2_with fail;obtain⟨fB,l'⟩:∃fB,(w.alloc (.cells #[.int .i64 0,.string ⟨#[]⟩,.int .i64 0,.slice none 0 0] 68)).alloc (.cells #[.int .i64 3,.string ⟨#[]⟩,.int .i64 0,.slice y k' A] 68)=fB:=⟨_,rfl⟩;have a0:Hid (yT fz w (w.heap.size+2) ts [] fB/\Below w.heap.size w fB):=by
  rw[<-l'];refine⟨⟨by simp,⟨_,(Q4.new w _ ⟨0,⟨#[]⟩,0,none,0,0⟩).alloc _⟩,⟨3,⟨#[]⟩,0,y,k',A⟩,?_,fun _=>⟨_,_,rfl,rfl,_,_,rfl,⟨rfl,fun x F=>(by cases F)⟩,_,_,rfl,rfl,_,_,rfl,DR.mono (YX p'.out) X'.out,rfl⟩⟩,jB (jB (iN w.heap.size w) _) _⟩
  have:=Q4.new (w.alloc (.cells #[.int .i64 0,.string ⟨#[]⟩,.int .i64 0,.slice none 0 0] 68)) 68 ⟨3,⟨#[]⟩,0,y,k',A⟩
  rwa[Md] at this
 rw[l'];clear l';obtain⟨d',P⟩:∃r,w.heap.size+1=r:=⟨_,rfl⟩;rw[P];obtain⟨b0,W⟩:∃r,w.heap.size=r:=⟨_,rfl⟩;rw[W];have e0:=Q (And.intro W P);clear W P;go_loopg [6] len (fun f0 v wr=>∃k,f0=len-k/\k<=len/\v=.int .i64 ((len:Int)-1-k)/\Hid (yT fz w (w.heap.size+2) ts (upto (pW bs arr d) k) wr/\Below w.heap.size w wr))
 case atStart=>exact⟨0,by omega,gK _,by simp,a0⟩
 case round=>
  obtain⟨k,q',A0,rfl,g0⟩:=hrel;rename ak=>d_
  obtain⟨a',b'⟩:=e0.out;obtain⟨⟨sz,⟨z,l⟩,u,e',r'⟩,s'⟩:=g0.out;rw[a'] at l;rw[b'] at e';have h0:=Q q';have h':=Q sz;have t':=Q r';have q:=Q s';have u':=Q e';have v':=Q l;have m':=Q a';have w':=Q b';clear q' sz r' s' a' b'
  by_cases D0:k<len
  ·obtain⟨m,x'⟩:∃m:Nat,k+1+m=len:=⟨len-(k+1),by omega⟩
   have J:(len:Int)-1-k=(m:Int):=I;have E0:(0:Int)<=(m:Int):=I;have F0:(m:Int)<(len:Int):=I;have L0:IntKind.i64.wrap ((m:Int)-1)=(m:Int)-1:=vS I I;rw[J];obtain⟨x,F⟩:∃x:Et,pW bs arr d k=x:=⟨_,rfl⟩;obtain⟨g,y',z'⟩:∃g,a=some ⟨g,d,none⟩/\Ev d_ g (d+m*4) x.2.2:=by
    obtain⟨i0,j0,e,j|⟨g,j,n',k0⟩⟩:=T'.out
    ·have:=HL.out;rw[j] at this;simp at this;omega
    ·have e1:a=i0:=by cases e;rfl
     refine⟨g,e1.trans j,?_⟩;have l0:=(k0 m af5).below q.out n';rw[<-F];have m0:bs.length-1-k=m:=af5
     simpa[pW,m0,NR] using l0
   subst y';obtain⟨c0,c1,c2,c3⟩:=z';obtain⟨p0,p1,p2,p3,y0,y1,o0,r0⟩:=e';have s0:=Q F;have o':=Q x';clear F x' l J;go_wp2_with fail;go_region_law (refine aaG rfl 93 #[.agg #[.int .i64 x.2.2.k,.string x.2.2.s,.int .i64 x.2.2.i,.slice x.2.2.a x.2.2.n x.2.2.c],.agg #[.int .i64 u.k,.string u.s,.int .i64 u.i,.slice u.a u.n u.c]] aS ?_;refine(aDJ x.2.2 u d_.drew).mono ?_;rintro e aB ⟨rfl,c',A'⟩;refine⟨_,rfl,?_⟩;obtain⟨M0,P0,T0,W0,X0,a1,b1,f1⟩:=u'.out.block (W':=aB) (c'.block d' (by have:=w'.out;have:=h'.out;show d'<d_.heap.size;omega));have D':=Q c';have t0:=Q A';clear c' A')
   all_goals
    have E':Hid (yT fz w (w.heap.size+2) ts (upto (pW bs arr d) (k+1)) (wJ aB d' ⟨6,⟨#[]⟩,0,some ⟨d_.heap.size+1+1+1,0,none⟩,2,2⟩)/\Below w.heap.size w (wJ aB d' ⟨6,⟨#[]⟩,0,some ⟨d_.heap.size+1+1+1,0,none⟩,2,2⟩)):=by
     have j:Below d_.heap.size d_ aB:=(iN d_.heap.size d_).drew.trans D'.out;have u0:=w'.out;have v0:=m'.out;subst u0;rw[PK,s0.out];refine⟨yT.step2 (u:=u) p'.out (bq _) h'.out (v0▸v'.out) u'.out t'.out j I t0.out,Uf (q.out.trans (j.mono q.out.size)) I⟩
    go_wp2_with fail;go_roundg (len-(k+1))
    case measure=>have:=h0.out;have:=o'.out;omega
    case rel=>exact⟨k+1,rfl,by have:=o'.out;omega,by have:=o'.out;simp;omega,E'⟩
  ·obtain rfl:k=len:=by omega
   have J:(k:Int)-1-k=-1:=I;rw[J];obtain⟨p0,p1,p2,p3,y0,y1,o0,r0⟩:=e';obtain⟨g1,h1,i1,j1,k1,l1,m1,o1⟩:=l;go_wp2_with fail;obtain⟨F',L',M',P',_,_,_,_⟩:=v'.out.set u
   (try simp only[Exit.inBlock,Exit.then])
   refine ni (v:=u.val) (by simp[wJ] at F' L' M' P';simp[results,Tryz.results63,go_sem,F',L',M',P']) rfl ⟨u,rfl,Uf q.out (by have:=m'.out;omega),fun w0=>((t'.out w0).mono (Sm (W':=wJ d_ b0 u) fun g a T f j n'=>(Pw (by have:=m'.out;omega)).trans n')).mono ar6⟩
def aGl (bs:G (G D)) (arr:dF av) (d:Nat):(upto (pW bs arr d) bs.length).map (fun x=>x.2.1)=bs.reverse:=by
 apply List.ext_getElem
 ·simp[upto]
 ·intro i j e
  have J:i<bs.length:=by simpa using e
  have h:bs.length-1-i<bs.length:=I;simp[upto,pW,NR,h]
def aNe (bs ts:G (G D)) (arr:dF av) (d:Nat):D8 (upto (pW bs arr d) bs.length) ts=yL bs ts:=by
 have h:∀(l:G Et) (t:G D),l.foldl (fun t x=>ty 6 [] 0 [x.2.1,t]) t=(l.map (fun x=>x.2.1)).foldl (fun t b=>ty 6 [] 0 [b,t]) t:=fun l t=>by rw[List.foldl_map]
 unfold D8 yL;rw[h,aGl,List.foldl_reverse]
def awq {fz:Nat->ah Obj} {bs:G (G D)} (u:dX fz (dM W)) (e':dR O bs fC) (h:DR fz (.R bs) v):∃arr d a cap,v=.slice a bs.length cap/\zN W.heap.size W v bs arr d/\IC fz (upto (pW bs arr d) bs.length):=by
 obtain⟨a,cap,rfl,i',j',f'⟩:=h;rcases f' with rfl|⟨g,d,arr,T,fr,z,rfl,E,g'⟩
 ·exact⟨#[],0,a,cap,rfl,⟨a,cap,rfl,.inl rfl⟩,fun x w=>by simp[upto] at w⟩
 ·have key:∀i (J:i<bs.length),Ev W g (d+i*4) (oh arr (d+i*4))/\sM fz bs[i] (oh arr (d+i*4)):=fun i J=>by
   have U:=e'.get (gM J);obtain⟨l,F⟩:=g'.get (i:=i) (r:=bs[i]) Dl;obtain⟨k,t,x,c,e,_,_⟩:=oD U;rw[e] at l F⊢;have l:4=z:=l;subst l;obtain⟨⟨k',q0,rfl⟩,⟨l',q1,rfl,e1⟩,⟨m',q2,rfl⟩,⟨n',q3,hc⟩,_⟩:=F;obtain⟨y,A,rfl,P⟩:=hc;have q:=u g _ E;have a':arr[d+i*4+1]?=some (.string (bC t)):=q1;have b':arr[d+i*4+2]?=some (.int .i64 x):=q2;have c':arr[d+i*4+3]?=some (.slice y c.length A):=q3;have h':oh arr (d+i*4)=⟨k,bC t,x,y,c.length,A⟩:=by simp[oh,q0,a',b',c']
   rw[h'];exact⟨⟨Gu q q0,Gu q a',Gu q b',Gu q c'⟩,_,_,rfl,rfl,_,_,rfl,⟨rfl,e1⟩,_,_,rfl,rfl,_,_,rfl,⟨y,A,rfl,P⟩,rfl⟩
  refine⟨arr,d,_,cap,rfl,⟨_,cap,rfl,.inr ⟨g,rfl,(kF.1 (u g _ E)).1,fun i J=>(key i J).1⟩⟩,fun x w=>?_⟩;obtain⟨j,d',rfl⟩:=FQ.1 w;have d':=aa4.1 d';have:=(key (bs.length-1-j) I).2
  simpa[pW,NR,show bs.length-1-j<bs.length by omega] using this
def asv {ts:G (G D)} (h:dR O e fC) (j:aW O (.R ts) (.R 2)):aJ O (yL e ts) fC:=by
 induction e with
 |nil=>exact ay aO (ay (mo jK) (ay aO (ay j aX)))
 |cons b e l=>exact ay aO (ay (mo jK) (ay aO (ay (eP (by simp[gB]) ⟨h.1,l h.2,True.intro⟩) aX)))
def av3 {bs ts:G (G D)} {f:ig} (E:dR O bs fC) (F:bs.length<=gB)
 (h:∀(fz:Nat->ah Obj) (a:ah Addr) (cap:Nat) (j:ah Addr) (l:Nat) (bs ts:G (G D)) (arr:dF av) (d:Nat) (w:ak),dX fz (dM w)->bs.length<=1000000->zN w.heap.size w (.slice a bs.length cap) bs arr d->DR fz (.R ts) (.slice j ts.length l)->
  Calls Tryz.prog f #[.slice a bs.length cap,.slice j ts.length l] w fun e W'=>∃u:Tv,e=.returned u.val/\Below w.heap.size w W'/\(IC fz (upto (pW bs arr d) bs.length)->sM (Aj fz w W') (D8 (upto (pW bs arr d) bs.length) ts) u)):
 om T Tryz.prog f [.one (.R bs),.one (.R ts)] (.agg (yL bs ts)):=by
 refine om.aGN fun W us fz _ q y=>?_;obtain⟨v0,d',rfl,P,v1,e',rfl,A,rfl⟩:=y;obtain⟨arr,d,a,cap,rfl,a',b'⟩:=awq q E P;obtain⟨j,l,rfl,f'⟩:=id A;refine(h fz a cap j l bs ts arr d W q F a' A).mono ?_;rintro e W' ⟨u,rfl,c',y⟩;refine⟨u.val,rfl,c',_,rfl,?_⟩;have:=y b';rw[aNe] at this;exact this
def av4 (_:bH T):(KI).aA T:=by
 intro V pre ⟨e,Z⟩
 match V,e with
 |[.one d0,.one d1],⟨j,h⟩=>
 obtain rfl:=Z;obtain⟨bs,rfl,l,v0⟩:=bW j;obtain⟨ts,rfl,q,v1⟩:=bW h;exact⟨.agg (yL bs ts),[],⟨rfl,rfl⟩,⟨_,rfl,asv v0 h⟩,rfl,av3 v0 l aNf⟩
def aMo (_:bH T):(Nz).aA T:=by
 intro V pre ⟨e,Z⟩
 match V,e with
 |[.one d0,.one d1],⟨j,h⟩=>
 obtain rfl:=Z;obtain⟨bs,rfl,l,v0⟩:=bW j;obtain⟨ts,rfl,q,v1⟩:=bW h;exact⟨.agg (yL bs ts),[],⟨rfl,rfl⟩,⟨_,rfl,asv v0 h⟩,rfl,av3 v0 l aMV⟩
def atC {n:Nat} {vars:G (G Nat)}:∀{l:G Rw} {s0 s:G (G Nat)×G Rw},(∀x∈l,aJ O x (y8 8))->bO (fun s x=>aL (mQ x) fun j=>aL (ku j.1 s.1) fun q=>aL (iJ n j.2 vars) fun t=>.ok (s.1++[q],s.2++[t])) s0 l=.ok s->bM s.2<=bM s0.2+bM l
 |[],s0,s,_,h=>by cases h;exact J4 _ _
 |x::l,s0,s,u,h=>by
  unfold bO at h;cases h1:mQ x with
  |error e=>simp only[h1,aL] at h;cases h
  |ok j=>
   cases h2:ku j.1 s0.1 with
   |error e=>simp only[h1,h2,aL] at h;cases h
   |ok q=>
    cases h3:iJ n j.2 vars with
    |error e=>simp only[h1,h2,h3,aL] at h;cases h
    |ok t=>
     simp only[h1,h2,h3,aL] at h;have y:=atC (fun x A=>u x (gF _ A)) h;obtain⟨a,b⟩:=j;obtain⟨_,w⟩:=TF h1;have E:=Ov (T:=8) rfl ((O_ (T:=8) rfl (u x jG)).2 b w) h3;have F:=wz w;simp only[Yc,bM] at y⊢;omega
def awz {r:Rw} {a:G (G Nat)} (j:aJ O r (y8 8)) (h:yN (iJ b) r X=.ok (a,L)):bM L<=aI r:=by
 unfold yN at h;obtain⟨l,q,u⟩:=Ea h;obtain⟨rfl,_⟩:=zm q;obtain⟨e,hc⟩:=O_ (T:=8) rfl j;have w:=atC (s:=(a,L)) hc u;simp only[bM] at w;omega
def ar3 {fs b:G Rw} {f:Rw} {c0 c1 c2 c3 c4 c5 c6 e j:D} (h:fm k q L t fs b=[c0,c1,c2,c3,c4,c5,c6,e,j]):K8 [c0,c1,c2,c3,c4,c5,c6,e,j]=t:=by
 have u:=iE List.length h;simp only[fm,mD,gD,lN] at u;obtain⟨a,b,c,d,rfl⟩:=aGa (l:=t) I;rw[<-h]
 rfl
def aC3 {e:Fa} [Decidable P] {c1 c2 c3 c4 c5 c6 j q:D} (w:∀x∈L,aJ O x (y8 8)) (y:∀x∈L,aI x<=b) (A:P->3<=L.length) (h:(if P then Gv (iJ b) k L else .error e)=.ok [d,c1,c2,c3,c4,c5,c6,j,q]):aI (K8 [d,c1,c2,c3,c4,c5,c6,j,q])<=b+1:=by
 split at h
 ·rename_i Z
  have u:=ag8 (l:=L) (i:=2) (by have:=A Z;omega)
  unfold Gv at h;obtain⟨nm,_,h⟩:=Ea h;obtain⟨l,_,h⟩:=Ea h;obtain⟨ps,_,h⟩:=Ea h;obtain⟨t,E,h⟩:=Ea h;have F:=Ov (T:=8) rfl (w _ u) E;have W:=y _ u;split at h
  ·rw[ar3 (f:=[]) (PY h)];omega
  ·obtain⟨a',_,h⟩:=Ea h
   obtain⟨fs,_,h⟩:=Ea h;rw[ar3 (f:=[]) (PY h)];omega
 ·cases h
def av2 {ts:G Rw}:∀{bs:G Rw},dR O bs fC->aI (yL bs ts)<=2*bM bs+bM ts+1
 |[],_=>by show aI (ty 3 [] 0 ts)<=_;rw[Yb];omega
 |b::bs,⟨e,h⟩=>by
  have j:=av2 (ts:=ts) h;show aI (ty 6 [] 0 [b,yL bs ts])<=_;rw[Yb];obtain⟨k,t,i,c,rfl,_⟩:=oF e;have:=vD (k:=k) (i:=i) (t:=t) (c:=c);simp only[bM];omega
def aM0 (j:∀x∈l,aJ O x (y8 8)) (h:bO (eO fun x=>iJ b x X) [] l=.ok L):bM L<=bM l:=by
 have e:=ahY (w:=aI) (fun x q y u=>Ov (T:=8) rfl (j x q) u) h;rw[<-afw] at e;simp only[bM] at e;omega
end
end
end Go.Proofs.YtdjcfaaongngeaaGreatDoor

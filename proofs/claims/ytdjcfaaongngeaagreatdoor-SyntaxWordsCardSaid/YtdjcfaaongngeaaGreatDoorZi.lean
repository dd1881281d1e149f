/- A part of the proof: see the last text. -/
import Derived.Test.YtdjcfaaongngeaaGreatDoorZf
import Derived.Test.YtdjcfaaongngeaaGreatDoorZh
set_option linter.all false
set_option maxRecDepth 100000
set_option maxHeartbeats 0
namespace Go.Proofs.YtdjcfaaongngeaaGreatDoor
noncomputable section
variable {b g i:Nat}{W w:ak}{v:av}{p:G D}{y:H}{s:Mp}{A:dA}{E:G H}{X:G (G Nat)}
section
open Go Go.RowKit Go.Shelf
attribute [local go_sem] abb
def upto {e:Type} (f:Nat->e) (k:Nat):G e:=(List.range k).map f
def PK {e:Type} (f:Nat->e) (k:Nat):upto f (k+1)=upto f k++[f k]:=by simp[upto,List.range_succ]
def awr {e:Type} (f:Nat->e) (k:Nat):(upto f k).length=k:=by simp[upto]
def vS {x:Int} (e:-2000000<=x) (h:x<=2000000):IntKind.i64.wrap x=x:=by
 exact Yt
def rz (ws:G (G Nat)) (j:Nat):Nat×G Nat:=(ws.length-1-j,ws[ws.length-1-j]?.getD [])
def aCr (F:Fence) (n:Nat) (h:F.fn 166) (P:F.round=none) (hn:1<=n) (l q j g d len cap:Nat) (ws:G (G Nat)) (i':ws.length=len) (j':len<=1000000) (k':g<j) (fu T:G (Nat×G Nat)->ak->Prop)
 (l':∀pre x W,fu pre W->pre.length<len->YieldAt F (n-1) Tryz.prog l #[.int .i64 (x.1:Int),.string (bC x.2)] W fun e W'=>
  (e=.returned (.bool true)/\fu (pre++[x]) W'/\Below j W W')\/(e=.returned (.bool false)/\T (pre++[x]) W'))
 (W:ak) (a':W.cell? ⟨q,0,none⟩=some (.slice (some ⟨g,d,none⟩) len cap)) (b':q<j) (hc:∀i,i<len->W.cell? ⟨g,d+i,none⟩=some (.string (bC (ws[i]?.getD [])))) (m':fu [] W):
 CallsIn F n Tryz.prog 166 #[.func (.yield l) #[] #[],.pointer (some ⟨q,0,none⟩)] W fun e W'=>(∃v,e=.returned v)/\
  ((∃c',c'=upto (rz ws) len/\fu c' W')\/(∃pre,(∃k,k<=len/\pre=upto (rz ws) k)/\T pre W')):=by
 refine J8 Tryz.func166 rfl h ?_ P;simp only[Tryz.ntmps166,wN,gD,lN,Nat.reduceAdd,Nat.reduceSub,FM,FN,FT,Ed,qW,wM];have d':IntKind.i64.wrap ((len:Int)-1)=(len:Int)-1:=vS I I
 gi_wp2
 gi_loopw [3] (fun i wr=>∃k:Nat,k<=len/\i=.int .i64 ((len:Int)-1-k)/\fu (upto (rz ws) k) wr/\Below j W wr)
  (fun i _=>((intOf i)+1).toNat)
 case atStart=>exact⟨0,gK _,by simp[d'],m',iN _ _⟩
 case round=>
  obtain⟨k,t',rfl,y,u⟩:=hrel
  by_cases e':k<len
  ·obtain⟨m,u'⟩:∃m:Nat,k+1+m=len:=⟨len-(k+1),by omega⟩
   have J:(len:Int)-1-k=(m:Int):=I;have f':wr.cell? ⟨g,d+m,none⟩=some (.string (bC (ws[m]?.getD []))):=(u.cell (p:=⟨g,d+m,none⟩) k').trans (hc m I);have q':wr.cell? ⟨q,0,none⟩=some (.slice (some ⟨g,d,none⟩) len cap):=(u.cell (p:=⟨q,0,none⟩) b').trans a';have w:rz ws k=(m,ws[m]?.getD []):=by simp[rz,show ws.length-1-k=m by omega]
   obtain⟨x,n'⟩:∃x,ws[m]?.getD []=x:=⟨_,rfl⟩;rw[n'] at f' w;have A:IntKind.i64.wrap ((m:Int)-1)=(m:Int)-1:=vS I I;have r':(m:Int)<(len:Int):=I;have s':(0:Int)<=(m:Int):=I;rw[J];obtain⟨fn,o',assign,body,p',hR⟩:=l' _ (m,x) wr y (by rw[awr];exact e')
   dsimp only at p'
   gi_wp2
   refine hR.mono ?_;rintro e v' (⟨rfl,g',h'⟩|⟨rfl,E⟩)
   ·gi_wp2
    go_roundw
    case rel=>exact⟨k+1,by omega,by simp[A];omega,by rw[PK,w];exact g',u.trans h'⟩
    case measure=>simp[intOf,A]
   ·gi_wp2
    refine ni (Iz rfl _ _ _) rfl ?_;exact⟨⟨_,rfl⟩,.inr ⟨_,⟨k+1,by omega,by rw[PK,w]⟩,E⟩⟩
  ·obtain rfl:k=len:=by omega
   have J:(k:Int)-1-k=-1:=I;rw[J]
   gi_wp2
   go_end0;exact⟨⟨_,rfl⟩,.inl ⟨_,rfl,y⟩⟩
def aCs (F:Fence) (n:Nat) (h:F.fn 166) (j:F.round=none) (l q cap:Nat) (a:ah Addr) (fu:G (Nat×G Nat)->ak->Prop) (W:ak) (y:W.cell? ⟨q,0,none⟩=some (.slice a 0 cap)) (w:fu [] W):
 CallsIn F n Tryz.prog 166 #[.func (.yield l) #[] #[],.pointer (some ⟨q,0,none⟩)] W fun e W'=>(∃v,e=.returned v)/\fu [] W':=by
 refine J8 Tryz.func166 rfl h ?_ j;simp only[Tryz.ntmps166,wN,gD,lN,Nat.reduceAdd,Nat.reduceSub,FM,FN,FT,Ed,qW,wM]
 gi_wp2
 gi_loopw [3] (fun i wr=>i=.int .i64 (-1)/\fu [] wr) (fun _ _=>0)
 case atStart=>exact⟨rfl,w⟩
 case round=>
  obtain⟨rfl,u⟩:=hrel
  gi_wp2
  go_end0;exact⟨⟨_,rfl⟩,u⟩
def aCt (F:Fence) (n:Nat) (h:F.fn 152) (j:F.round=none) (a:ah Addr) (len cap:Nat) (w:ak):
 CallsIn F n Tryz.prog 152 #[.slice a len cap] w fun e w'=>e=.returned (.func (.func 166) #[] #[.pointer (some ⟨w.heap.size,0,none⟩)])/\w'=w.alloc (.cells #[.slice a len cap] 36):=by
 refine J8 Tryz.func152 rfl h ?_ j;simp only[Tryz.ntmps152,wN,gD,lN,Nat.reduceAdd,Nat.reduceSub,FM,FN,FT,Ed,qW,wM]
 gi_wp2
 go_ret;exact⟨rfl,rfl⟩
def Ew (e:Nat) (W:ak) (h:av) (ws:G (G Nat)):Prop:=
 ∃a cap,h=.slice a ws.length cap/\(ws=[]\/∃g d,a=some ⟨g,d,none⟩/\g<e/\∀i,i<ws.length->W.cell? ⟨g,d+i,none⟩=some (.string (bC (ws[i]?.getD []))))
def Ew.below (h:Below b W w):Ew b W v X->Ew b w v X
 |⟨a,cap,e,.inl j⟩=>⟨a,cap,e,.inl j⟩
 |⟨a,cap,e,.inr ⟨g,d,j,l,q⟩⟩=>⟨a,cap,e,.inr ⟨g,d,j,l,fun i J=>(h.cell (p:=⟨g,d+i,none⟩) l).trans (q i J)⟩⟩
def Ew.mono {m:Nat} (h:b<=m):Ew b W v X->Ew m W v X
 |⟨a,cap,e,.inl j⟩=>⟨a,cap,e,.inl j⟩
 |⟨a,cap,e,.inr ⟨g,d,j,l,q⟩⟩=>⟨a,cap,e,.inr ⟨g,d,j,lZ l h,q⟩⟩
def aCu (F:Fence) (n:Nat) (h:F.fn 166) (y:F.round=none) (hn:1<=n) (q j:Nat) (P:av) (ws:G (G Nat)) (E:ws.length<=1000000) (w:ak) (T:q<j) (u:j<=w.heap.size)
 (hc:w.cell? ⟨q,0,none⟩=some P) (c':Ew j w P ws):
 SeqStopsK F n Tryz.prog 166 #[.pointer (some ⟨q,0,none⟩)] (fun x:Nat×G Nat=>#[Value.int .i64 (x.1:Int),Value.string (bC x.2)]) (Below j) (fun d'=>d'=upto (rz ws) ws.length) (fun pre=>∃k,k<=ws.length/\pre=upto (rz ws) k) ws.length w:=fun l fu e' W a' _ _ f' b'=>by
 have A:=(a'.cell (p:=⟨q,0,none⟩) (show q<w.heap.size by omega)).trans hc
 rcases c'.below (a'.mono u) with⟨a,cap,rfl,rfl|⟨g,d,rfl,g',jY⟩⟩
 ·exact(aCs F n h y l q cap a fu W A b').mono fun e W' ⟨h',i'⟩=>⟨h',.inl ⟨_,rfl,i'⟩⟩
 ·exact aCr F n h y hn l q j g d ws.length cap ws rfl E g' fu e' f' W A T jY b'
end
section
open Go Go.RowKit
section
variable {E:Env} {P:bA} {base:Nat} {ρ:Mp} {s:St} {w w':ak}
def HR.newAt (h:HR E base ρ s w) (o:AO) (l:Loc) (b':w.heap.size<=l.g) (d':Alike w w') (l':w.heap.size<=w'.heap.size) (y:∀g,g<w.heap.size->w'.heap[g]?=w.heap[g]?)
 (N:OR E base (ρ.on s.nx l) w' l o):
 HR E base (ρ.on s.nx l) (s.new o) w'/\fA ρ s w (ρ.on s.nx l) (s.new o) w':=by
 have e':Ext ρ (ρ.on s.nx l):=Mp.JH (h.fresh.1);refine⟨⟨fun b o' A=>?_,fun b h' i' j' F k' A c' hn f' j q=>?_,Mp.YR h.fresh s rfl rfl o,by have:=h.base;omega,fun g o' a'=>(y g (h.Bv a')).trans (h.nM g o' a'),fun b o' F A f' j=>?_⟩,⟨e',St.ag3 s s rfl o,d'.os,d'.tape,d'.output,by omega,fun g a' _=>y g a',fun b o' F A j=>?_,fun b _ g'=>Mp.pO g',fun _ _ h=>.inl h⟩⟩
 ·rcases Tr.jc A with⟨rfl,rfl⟩|⟨P,u⟩
  ·exact⟨_,Mp.nS _ _ _,N⟩
  ·obtain⟨F,W,T⟩:=h.pK b o' u
   exact⟨F,e' _ _ W,T.mono e' (y _ T.lt)⟩
 ·rcases Tr.jc A with⟨rfl,rfl⟩|⟨P,u⟩
  ·rcases Tr.jc c' with⟨rfl,rfl⟩|⟨W,T⟩
   ·exact absurd rfl hn
   ·rw[Mp.nS] at j
    rw[Mp.pO W] at q;obtain rfl:=bI j;have:=h.uO T q;intro e;omega
  ·rw[Mp.pO P] at j
   rcases Tr.jc c' with⟨rfl,rfl⟩|⟨W,T⟩
   ·rw[Mp.nS] at q
    obtain rfl:=bI q;have:=h.uO u j;intro e;omega
   ·rw[Mp.pO W] at q
    exact h.apart b h' i' j' F k' u T hn f' j q
 ·rcases Tr.jc A with⟨rfl,rfl⟩|⟨P,u⟩
  ·rw[Mp.nS] at j
   obtain rfl:=bI j;exact h.agm b'
  ·rw[Mp.pO P] at j
   exact h.oC b o' F u f' j
 ·rcases Tr.jc A with⟨rfl,rfl⟩|⟨P,u⟩
  ·rw[Mp.nS] at j
   obtain rfl:=bI j;exact .inl b'
  ·rw[Mp.pO P] at j
   exact .inr ⟨b,o',F,u,j,rfl,id⟩
end
abbrev wP:=Ctx->ig->G H->St->ah (H×St)
def J9 (T:Nat->ah D) (P:bA) (ext:wP):Prop:=∀(vals:G D) X f args st v st',iX (kC T vals) X->ext X f args st=some (v,st')->vV (kC T vals) P f args st v st'
mutual
def Tz (X:Ctx):H->H
 |.S e=>xL X e
 |.agg cs=>.agg (ZF X cs)
 |.tuple cs=>.tuple (ZF X cs)
 |v=>v
def ZF (X:Ctx):G H->G H
 |[]=>[]
 |v::r=>Tz X v::ZF X r
end
def KL (ext:wP) (g:Nat) (s:TS) (f:ig) (args:G H) (st:St):ah (H×St):=match aiu g s.X s.xO f args st with
 |some (v,e)=>some (Tz s.X v,e)
 |none=>match aiq s.X s.wW f args st with
  |some (v,e)=>some (Tz s.X v,e)
  |none=>ext s.X f args st
def as8 (ext:wP) (g:Nat) (s:TS):Lib:=⟨KL ext g s,fun _ _ _ _=>none,true⟩
def XU (ext:wP) (P:bA) (n:Nat) (s:TS):Nat->ig->G H->St->ah (H×St):=fun m=>Nat.rec (motive:=fun _=>ig->G H->St->ah (H×St))
 (fun f args st=>match KL ext P.globals.size s f args st with
  |some r=>some r
  |none=>match rG s.X P (as8 ext P.globals.size s) n (.call f args st) with
   |some (.call v e)=>some (v,e)
   |_=>none)
 (fun _ h f args st=>match KL ext P.globals.size s f args st with
  |some r=>some r
  |none=>match KH (f+1) s.sQ with
   |[]=>(match rG s.X P ⟨h,fun _ _ _ _=>none,true⟩ n (.call f args st) with
    |some (.call v e)=>some (v,e)
    |_=>none)
   |b::r=>(match E8 s.X P (rG s.X P ⟨h,Ih P.globals.size (b::r),false⟩ n) f args st with
    |some (.call v e)=>some (v,e)
    |_=>none)) m
def as7:G En->Nat
 |[]=>0
 |b::r=>if b.L.own=0 then as7 r else 4
def Zu (ext:wP) (P:bA) (n:Nat) (s:TS):Lib:=⟨XU ext P n s (as7 s.sQ),Ih P.globals.size (KH 0 s.sQ),false⟩
structure Eo where
 facts:List (Y×Y)
 vk:List Kd
 gt:List (Nat×Nat)
structure Qf (T:Nat->Option D) (kt:List (List Kd)) (bY:List D) (aD:Eo):Prop where
 facts:∀e v,(e,v)∈aD.facts->den (bP bY) e=den (bP bY) v
 fb:∀e v,(e,v)∈aD.facts->gq bY.length e=true/\gq bY.length v=true
 kinds:aJ kt bY aD.vk
 gt:∀g i,(g,i)∈aD.gt->i<bY.length/\T g=some (bP bY i)
def Eo.ts (aD:Eo) (kt:G (G Kd)) (ks:G Kd):TS:=⟨⟨aD.facts,aD.vk++ks,kt,aD.gt⟩,[],[],[]⟩
section
variable {T:Nat->ah D} {P:bA} {dK:iB->Prop} {kt:G (G Kd)} {bY vals eY:G D} {s:TS} {n:Nat} {aD:Eo}
mutual
def atv {E:Env} {X:Ctx} {ρ:Mp} (l:iX E X):∀{v:H} {u:av},VR E ρ v u->VR E ρ (Tz X v) u
 |.S _,_,⟨_,e,j⟩=>wI l e j
 |.agg _,_,⟨q,e,j⟩=>⟨q,e,ag6 l j⟩
 |.tuple _,_,⟨q,e,j⟩=>⟨q,e,ag6 l j⟩
 |.bool _,_,h=>h
 |.int _ _,_,h=>h
 |.str _,_,h=>h
 |.nilPtr,_,h=>h
 |.ptr _ _,_,h=>h
 |.aV,_,h=>h
 |.rF,_,h=>h
 |.vT,_,h=>h
 |.slice ..,_,h=>h
 |.tC,_,h=>h
 |.map _,_,h=>h
 |.fn ..,_,h=>h
 |.tu,_,h=>h
 |.iface _ _,_,h=>h
 |.nilIface,_,h=>h
 |.wK,_,h=>h
 |.gy ..,_,h=>h
 |.fp ..,_,h=>h
def ag6 {E:Env} {X:Ctx} {ρ:Mp} (e:iX E X):∀{vs:G H} {us:G av},fq E ρ vs us->fq E ρ (ZF X vs) us
 |[],_,h=>h
 |_::_,_,⟨u,us,j,l,q⟩=>⟨u,us,j,atv e l,ag6 e q⟩
end
def atx {E:Env} {X:Ctx} (j:iX E X) {f:ig} {args:G H} {st e:St} (h:vV E P f args st y e):vV E P f args st (Tz X y) e:=fun base ρ w us l U q=>
 uW (h base ρ w us l U q) fun _ _ ⟨u,A,F,T,W,a'⟩=>⟨u,A,F,atv j T,W,a'⟩
def ae6 {ext:wP} (j:J9 T P ext) (h:s.Ok T P dK kt bY vals) {f:ig} {st e:St} (hc:KL ext P.globals.size s f E st=some (y,e)):vV (kC T vals) P f E st y e:=by
 unfold KL at hc;split at hc
 ·rename_i v1 l U
  simp only[aG,eG] at hc;obtain⟨rfl,rfl⟩:=hc;exact atx h.x (aNL h.x (fun c hc=>(h.xO c hc).1) U)
 ·split at hc
  ·rename_i v1 l U
   simp only[aG,eG] at hc;obtain⟨rfl,rfl⟩:=hc;exact atx h.x (aNJ h.x (fun c hc=>(h.wW c hc).1) U)
  ·exact j vals s.X f E st y e h.x hc
def aoW {ext:wP} (l:J9 T P ext) (q:P.follows .mixedOrders=true) (h:s.Ok T P dK kt bY vals):∀(m:Nat) {f:ig} {args:G H} {st e:St} {v:H},XU ext P n s m f args st=some (v,e)->vV (kC T vals) P f args st v e
 |0,f,args,st,e,v,hc=>by
  have hc:(match KL ext P.globals.size s f args st with
   |some r=>some r
   |none=>match rG s.X P (as8 ext P.globals.size s) n (.call f args st) with
    |some (.call v e)=>some (v,e)
    |_=>none)=some (v,e):=hc
  split at hc
  ·rename_i r U
   simp only[aG] at hc;subst hc;exact ae6 l h U
  ·split at hc
   ·rename_i v1 w U
    simp only[aG,eG] at hc;obtain⟨rfl,rfl⟩:=hc;exact Yj (dK:=fun _=>True) q h.x t_.all ⟨fun f args st v e j=>ae6 l h j,fun _ _ _ _ _ _ _ _ _ _ j=>(by cases j),fun _ _=>True.intro⟩ U
   ·cases hc
 |m+1,f,args,st,e,v,hc=>by
  have E:=@aoW ext l q h m;have hc:(match KL ext P.globals.size s f args st with
   |some r=>some r
   |none=>match KH (f+1) s.sQ with
    |[]=>(match rG s.X P ⟨XU ext P n s m,fun _ _ _ _=>none,true⟩ n (.call f args st) with
     |some (.call v e)=>some (v,e)
     |_=>none)
    |b::r=>(match E8 s.X P (rG s.X P ⟨XU ext P n s m,Ih P.globals.size (b::r),false⟩ n) f args st with
     |some (.call v e)=>some (v,e)
     |_=>none))=some (v,e):=hc
  split at hc
  ·rename_i r U
   simp only[aG] at hc;subst hc;exact ae6 l h U
  ·split at hc
   ·split at hc
    ·rename_i v1 w U
     simp only[aG,eG] at hc;obtain⟨rfl,rfl⟩:=hc;exact Yj (dK:=fun _=>True) q h.x t_.all ⟨fun f args st v e j=>E j,fun _ _ _ _ _ _ _ _ _ _ j=>(by cases j),fun _ _=>True.intro⟩ U
    ·cases hc
   ·rename_i b r F
    split at hc
    ·rename_i v1 w U
     simp only[aG,eG] at hc;obtain⟨rfl,rfl⟩:=hc;have W:∀u∈b::r,u.Ok (kC T vals) P dK/\CL P dK u.L=fun x=>x∈dO (X8 P f):=fun u y=>by
      rw[<-F] at y;obtain⟨j,A⟩:=Nq y;refine⟨(h.sQ u j).1,?_⟩;unfold CL;rw[A]
     exact afF (dK:=fun x=>x∈dO (X8 P f)) q h.x (t_.dO _) ⟨fun f args st v e j=>E j,fun id body m nt tm st x tm' e a' b'=>aio W m a' b',fun J=>by cases J⟩
      (fun fn c j A=>by unfold X8;rw[j];show c∈dO (fn.body.getD .skip);rw[A];exact aaH _) U
    ·cases hc
def agO {ext:wP} (e:J9 T P ext) (q:P.follows .mixedOrders=true) (h:s.Ok T P dK kt bY vals):Cu (kC T vals) s.X P dK (Zu ext P n s):=by
 refine⟨fun f args st v l hc=>aoW e q h _ hc,fun id body m nt tm st x tm' l u j=>?_,fun J=>by cases J⟩
 refine aio (C0:=dK) (fun b j=>?_) m u j;obtain⟨w,y⟩:=Nq j;refine⟨(h.sQ b w).1,?_⟩;unfold CL;rw[y]
def Eo.start (l:Qf T kt bY aD) {ks:G Kd} (E:aJ kt eY ks):(aD.ts kt ks).Ok T P dK kt bY (bY++eY):=by
 have j:=l.kinds.length;have F:(⟨⟨aD.facts,aD.vk,kt,aD.gt⟩,[],[],[]⟩:TS).Ok T P dK kt bY bY:=
  ⟨⟨l.facts,fun i k J=>by
    have J:aD.vk[i]?=some k:=J;have q:i<bY.length:=by rw[j];exact(gN.1 J).1
    obtain⟨k',A,w⟩:=l.kinds.get (gM q);rw[J] at A;obtain rfl:=bI A;have:bP bY i=bY[i]:=by unfold bP;rw[gM q]
    show aW kt (bP bY i) k;rw[this];exact w,fun g i u=>⟨(l.gt g i u).2,fun x y=>by
    have q:=(l.gt g i u).1;have W:bP bY i=bY[i]:=by unfold bP;rw[gM q]
    obtain⟨k',_,w⟩:=l.kinds.get (gM q);have y:bP bY i=.any x:=y;rw[<-W,y] at w;exact w⟩⟩,rfl,j,fun e v u=>by
    have:=l.fb e v u;rw[j] at this;exact this,fun g i u=>by have:=(l.gt g i u).1;rw[j] at this;exact this,fun _ h=>Dm,fun _ h=>Dm,fun _ h=>Dm,⟨[],by simp⟩⟩
 exact F.more E
def afr {F:Nat->D}:∀{vs:G H} {es:G Y} {V:G DA},jv vs=some es->iH F vs=some V->∃ds,cZ F es=some ds/\V=ds.map DA.one
 |[],es,V,h,j=>by
  simp only[jv,aG] at h;simp only[iH,aG] at j;subst h;subst j;exact⟨[],rfl,rfl⟩
 |v::vs,es,V,h,j=>by
  simp only[jv] at h;split at h
  ·rename_i e W q A
   simp only[aG] at h;subst h;simp only[iH] at j;split at j
   ·rename_i d ds w E
    simp only[aG] at j;subst j;obtain⟨y,P,rfl⟩:=afr A E;have:∃l,den F e=some l/\d=.one l:=by
     unfold tN at q;split at q<;>first|(cases q;done)|(simp only[aG] at q;subst q;simp only[iU,tN] at w;obtain⟨l,u,T⟩:=lq.1 w;exact⟨l,u,T.symm⟩)
    obtain⟨l,u,rfl⟩:=this;exact⟨l::y,by simp only[cZ,u,P,f_],rfl⟩
   ·cases j
  ·cases h
def DK (ext:wP) (P:bA) (n:Nat) (f:ig) (args:G H) (recv:ah (G H)) (s:TS) (j:Nat) (vs:G H) (_:G (Nat×Nat)):aK:=match recv with
 |none=>match agl (E8 s.X P (rG s.X P (Zu ext P n s) n) f args (sE P)) with
  |some v=>H.sJ [v] vs
  |none=>false
 |some cells=>match agk P (E8 s.X P (rG s.X P (Zu ext P n s) n) f (.ptr P.globals.size 0::args) (sP P cells)) with
  |some (v,cs)=>(cs.length==cells.length)&&((jv cs).isSome&&H.sJ (v::cs) vs)
  |none=>false
variable {Γ:Nat->bR} {Δ:Nat->gu} {sg:G bJ} {lg:G eX}
def xk {ext:wP} (A:J9 T P ext) (d':P.follows .mixedOrders=true) (D':Qf T kt bY aD) {c:bR} {fn:Func} {code:iB} (hf:P.funcs[c.sig.f]?=some fn) (E':fn.body=some code)
 (p':∀i g,sg[i]?=some g->(Γ i).sig=g/\(Γ i).Ok T P kt) (q':∀i g,lg[i]?=some g->(Δ i).sig=g/\(Δ i).Ok T P (fun x=>x∈dO code) kt bY)
 {args:G H} {recv:ah (G H)} {ks:G Kd} {t:Tree} (l':Tree.jC (DK ext P n c.sig.f args recv) sg lg bY.length t (aD.ts kt ks)=true)
 {V:G DA} {pre:G D} (r':aJ kt eY ks) (t':ou (aD.vk++ks).length args=true) (u':iH (bP (bY++eY)) args=some V)
 (q:match c.sig.recv with|none=>recv=none|some _=>∃cells es,recv=some cells/\ou (aD.vk++ks).length cells=true/\jv cells=some es/\cZ (bP (bY++eY)) es=some pre)
 (F':Tree.wp Γ Δ kt (fun _ ds=>∃e post,ds=e::post.map DA.one/\c.fP V pre e post/\iw kt c.sig.res e/\aJ kt post c.sig.rk) t (bY++eY)):
 ∃e post,c.fP V pre e post/\iw kt c.sig.res e/\aJ kt post c.sig.rk/\match c.sig.recv with
  |none=>om T P c.sig.f V e
  |some _=>Cw T P c.sig.f V pre post e:=by
 have v':(aD.ts kt ks).Ok T P (fun x=>x∈dO code) kt bY (bY++eY):=Eo.start D' r';have h0:(aD.vk++ks).length=(bY++eY).length:=v'.len.symm;have j':∀F c',P.funcs[c.sig.f]?=some F->F.body=some c'->c'∈dO code:=fun F c' e' f'=>by
  rw[hf] at e';obtain rfl:=bI e';rw[E'] at f';obtain rfl:=bI f';exact aaH _
 have g':∀(s':TS) (vals:G D) (j:Nat) (vs:G H) (w':G (Nat×Nat)) (ds:G DA),DK ext P n c.sig.f args recv s' j vs w'=true->s'.Ok T P (fun x=>x∈dO code) kt bY vals->(∃r,vals=(bY++eY)++r)->iH (bP vals) vs=some ds->∀e post,ds=e::post.map DA.one->match c.sig.recv with
  |none=>om T P c.sig.f V e
  |some _=>Cw T P c.sig.f V pre post e:=by
  intro s' vals j vs w' ds u w U l e post L';subst L';obtain⟨r,rfl⟩:=U;have k':∀i,i<(aD.vk++ks).length->bP (bY++eY) i=bP (bY++eY++r) i:=fun i J=>PL I;have m':iH (bP (bY++eY++r)) args=some V:=by rw[<-KQ k' t'];exact u'
  have W:iH (kC T (bY++eY++r)).val args=some V:=m';cases U:c.sig.recv with
  |none=>
   rw[U] at q;subst q;simp only[DK] at u;split at u
   ·rename_i v n'
    have a':=H.Az u;subst a';simp only[iH] at l;split at l
    ·rename_i d x' o' h'
     simp only[aG] at h' l;subst h';have y':d=e:=by
      have:=iE List.head? l
      simpa using this
     subst y';exact aHj (E:=kC T (bY++eY++r)) d' w.x (t_.dO _) (agO A d' w) j' n' W o'
    ·cases l
   ·cases u
  |some rk=>
   rw[U] at q;obtain⟨cells,es,rfl,M',z',P'⟩:=q;simp only[DK] at u;split at u
   ·rename_i v cs n'
    simp only[bU,xU] at u;obtain⟨T',W',X'⟩:=u;have a':=H.Az X';subst a';obtain⟨i0,b'⟩:=ai8.1 W';simp only[iH] at l;split at l
    ·rename_i d x' o' h'
     simp only[aG,nV] at l;obtain⟨rfl,rfl⟩:=l;obtain⟨i',a0,b0⟩:=afr b' h';have A':post=i':=by
      have inj:∀{a b:G D},a.map DA.one=b.map DA.one->a=b:=fun{a}=>by
       induction a with
       |nil=>intro b h;cases b with
        |nil=>rfl
        |cons _ _=>cases h
       |cons x a e0=>intro b h;cases b with
        |nil=>cases h
        |cons y b=>simp only[AU,nV,DA.one.injEq] at h;rw[h.1,e0 h.2]
      exact inj b0
     subst A';exact aNn (E:=kC T (bY++eY++r)) d' w.x (t_.dO _) (agO A d' w) j' n' T' W z' (by rw[<-P'];exact(Fh k' (PE z' M')).symm) o' b' a0
    ·cases l
   ·cases u
 obtain⟨j,ds,⟨e,post,rfl,e',f',f0⟩,g0⟩:=LP (claim:=fun _ ds=>∀e post,ds=e::post.map DA.one->match c.sig.recv with
  |none=>om T P c.sig.f V e
  |some _=>Cw T P c.sig.f V pre post e) p' q' g' t (aD.ts kt ks) (bY++eY) l' v' ⟨[],by simp⟩ F'
 exact⟨e,post,e',f',f0,g0 e post rfl⟩
end
structure iq where
 dw:bV
 ks:List Kd
 t:Tree
def aoN (id:Nat):AX->AX
 |.normal=>.exit id
 |x=>x
def targets (e:G iq) (L:eX):G (AX×bV):=e.map (fun s=>(AX.normal,s.dw))++L.outs.map (fun o=>(aoN L.r9 o.1,o.2.1))
def Zt (ext:wP) (P:bA) (n:Nat) (body:iB) (h nt e:Nat) (l:G (AX×bV)) (dw:bV) (s:TS) (j:Nat) (vs:G H) (u:G (Nat×Nat)):aK:=match l[j]?,jv vs with
 |some (x,S'),some es=>match agS u e S' (rG s.X P (Zu ext P n s) n (.code body nt (FK dw.tm) dw.st)) with
  |some (w,q)=>decide (w=x)&&solved (xH h++es) q
  |none=>false
 |_,_=>false
def aaw (J n:Nat) (dw:bV):aK:=match JD [] J dw (FK dw.tm) dw.st with
 |some q=>solved (xH n) q
 |none=>false
def FJ (J e:Nat):G iq->aK
 |[]=>true
 |s::r=>aaw J (e+s.ks.length) s.dw&&FJ J e r
def FI (ext:wP) (P:bA) (n:Nat) (body:iB) (h:Nat) (aD:Eo) (kt:G (G Kd)) (L:eX) (sg:G bJ) (lg:G eX) (e:G iq):G iq->aK
 |[]=>true
 |s::r=>Tree.jC (Zt ext P n body h L.nt L.dw.J (targets e L) s.dw) sg lg h s.t (aD.ts kt s.ks)&&FI ext P n body h aD kt L sg lg e r
section
variable {T:Nat->ah D} {P:bA} {kt:G (G Kd)} {bY:G D} {n:Nat} {aD:Eo}
variable {Γ:Nat->bR} {Δ:Nat->gu} {sg:G bJ} {lg:G eX}
def awc {J l:Nat}:∀{j:G iq} {i:Nat} {s:iq},FJ J l j=true->j[i]?=some s->aaw J (l+s.ks.length) s.dw=true
 |[],_,_,_,h=>by simp at h
 |a::r,0,s,e,h=>by simp at h;subst h;simp only[FJ,bU] at e;exact e.1
 |a::r,i+1,s,e,h=>by simp only[FJ,bU] at e;exact awc e.2 rM
def av9 {ext:wP} {body:iB} {l:Nat} {L:eX} {all:G iq}:∀{j:G iq} {i:Nat} {s:iq},FI ext P n body l aD kt L sg lg all j=true->j[i]?=some s->Tree.jC (Zt ext P n body l L.nt L.dw.J (targets all L) s.dw) sg lg l s.t (aD.ts kt s.ks)=true
 |[],_,_,_,h=>by simp at h
 |a::r,0,s,e,h=>by simp at h;subst h;simp only[FI,bU] at e;exact e.1
 |a::r,i+1,s,e,h=>by simp only[FI,bU] at e;exact av9 e.2 rM
def aGq {dw:bV} {v r:G D} {X:Ctx} {base lo nt:Nat} {l:St} {a:Act} (h:aaw g v.length dw=true) (e':∀b,l.J<=b->s b=none) (b':P.globals.size<=l.J) (c':l.nx=l.J) (d':l.J=g) (f':iX (kC T (v++r)) X)
 (g':x9 (kC T v) zO P base lo nt s l W dw a w):x9 (kC T (v++r)) X P base lo nt s l W dw a w:=by
 unfold aaw at h;split at h
 ·rename_i q h'
  refine atl (E:=kC T v) (E0:=kC T (v++r)) (X:=zO) e' b' c' (by rw[d'];exact h') ?_ f' rfl g'
  have j':cZ (bP (v++r)) (xH v.length)=some v:=SK rfl fun j d F=>by
   have:=JY (vals:=[]) (rest:=r) F
   simpa using this
  have A:cZ (bP v) (xH v.length)=some v:=SK rfl fun j d F=>by
   have:=JY (vals:=[]) (rest:=[]) F
   simpa using this
  have a':(xH v.length).length=v.length:=(Ya A).symm;have key:∀{q:G (Y×Y)},solved (xH v.length) q=true->∀a b,(a,b)∈q->den (bP (v++r)) a=den (bP v) b:=by
   intro q
   induction q with
   |nil=>intro _ a b e;cases e
   |cons p q i'=>
    obtain⟨x,y⟩:=p;intro u a b e;simp only[solved,bU] at u;rcases g_.1 e with e|e
    ·simp only[eG] at e
     obtain⟨rfl,rfl⟩:=e;rw[<-Y.jZ u.2.1,su A u.1];rw[a'] at u;exact(rE (fun i g=>PL g) u.1).symm
    ·exact i' u.2.2 a b e
  exact key h
 ·cases h
def aGh {ext:wP} (x':J9 T P ext) (F':P.follows .mixedOrders=true) (k0:Qf T kt bY aD) {code body:iB} (l':body∈dO code) {L:eX} {A:G iq} (L':∀(j:Nat) o,L.outs[j]?=some o->o.1≠AX.exit L.r9) (n':FJ L.dw.J bY.length A=true) (y':FI ext P n body bY.length aD kt L sg lg A A=true)
 (M':∀i g,sg[i]?=some g->(Γ i).sig=g/\(Γ i).Ok T P kt) (P':∀i g,lg[i]?=some g->(Δ i).sig=g/\(Δ i).Ok T P (fun x=>x∈dO code) kt bY)
 (lQ:Nat->Nat->G D->Prop) (zL:Nat->G D->Prop)
 (l0:∀i s m ds,A[i]?=some s->lQ i m ds->aJ kt ds s.ks/\Tree.wp Γ Δ kt (fun j V=>∃out,V=out.map DA.one/\
  ((∃m',j<A.length/\m'<m/\lQ j m' out)\/∃j' x S' ks,j=A.length+j'/\L.outs[j']?=some (x,S',ks)/\aJ kt out ks/\zL j' out)) s.t (bY++ds)):
 ∀(m i:Nat) (s:iq) (ds:G D),A[i]?=some s->lQ i m ds->∃(j:Nat) (x:AX) (S':bV) (ks:G Kd) (out:G D) (u_:Nat),L.outs[j]?=some (x,S',ks)/\zL j out/\aJ kt out ks/\
  ∀base lo u l w0 a w,P.globals.size<=l.J->l.nx=l.J->l.J=L.dw.J->(∀b,l.J<=b->u b=none)->x9 (kC T (bY++ds)) zO P base lo L.nt u l w0 s.dw a w->
   Code.rounds P body (Exit.inBlock L.r9 fun e e' w'=>e=x.out/\x9 (kC T (bY++out)) zO P base lo L.nt u l w0 S' e' w') u_ a w:=by
 intro m
 induction m using Nat.strongRecOn with
 |ind m z'=>
 intro i s ds h' J;obtain⟨t',m0⟩:=l0 i s m ds h' J;have o0:(aD.ts kt s.ks).Ok T P (fun x=>x∈dO code) kt bY (bY++ds):=Eo.start k0 t';have T':=awc n' h';have o':(bY++ds).length=bY.length+s.ks.length:=by rw[mD,t'.length]
 have p':∀(s':TS) (vals:G D) (j:Nat) (vs:G H) (W':G (Nat×Nat)) (V:G DA),Zt ext P n body bY.length L.nt L.dw.J (targets A L) s.dw s' j vs W'=true->s'.Ok T P (fun x=>x∈dO code) kt bY vals->(∃r,vals=(bY++ds)++r)->iH (bP vals) vs=some V->
  ∀out,V=out.map DA.one->∃x S',(targets A L)[j]?=some (x,S')/\∀base lo u l w0 a w,P.globals.size<=l.J->l.nx=l.J->l.J=L.dw.J->(∀b,l.J<=b->u b=none)->x9 (kC T (bY++ds)) zO P base lo L.nt u l w0 s.dw a w->
   body.wp P (fun e e' w'=>e=x.out/\x9 (kC T (bY++out)) zO P base lo L.nt u l w0 S' e' w') a w:=by
  intro s' vals j vs W' V g' i' U r0 out N;subst N;obtain⟨r,rfl⟩:=U;unfold Zt at g';split at g'
  ·rename_i x S' es F X'
   split at g'
   ·rename_i s0 q t0
    simp only[bU,iL] at g';obtain⟨rfl,a0⟩:=g';obtain⟨u0,v0,x0⟩:=afr X' r0;have inj:∀{a b:G D},a.map DA.one=b.map DA.one->a=b:=fun{a}=>by
     induction a with
     |nil=>intro b h;cases b with
      |nil=>rfl
      |cons _ _=>cases h
     |cons x a z'=>intro b h;cases b with
      |nil=>cases h
      |cons y b=>simp only[AU,nV,DA.one.injEq] at h;rw[h.1,z' h.2]
    obtain rfl:=inj x0;refine⟨s0,S',F,fun base lo u l w0 a w W a' b' c' d'=>?_⟩;have A':cZ (bP (bY++ds++r)) (xH bY.length)=some bY:=SK rfl fun j d hj=>by
     have:=JY (vals:=[]) (rest:=ds++r) hj;rw[tV]
     simpa using this
    have b0:=aGq (P:=P) (by rw[o'];exact T') c' W a' b' i'.x d'
    exact aGr (E:=kC T (bY++ds++r)) (E0:=kC T (bY++out)) (X0:=zO) F' i'.x (t_.dO code) (agO (n:=n) x' F' i') c' W a' l' (by rw[b'];exact t0) (aib (E:=kC T (bY++ds++r)) (RG A' v0) a0) ajv rfl b0
   ·cases g'
  ·cases g'
 obtain⟨j,V,⟨out,rfl,q'⟩,A0⟩:=LP (Uu:=bY++ds) (claim:=fun j V=>∀out,V=out.map DA.one->∃x S',(targets A L)[j]?=some (x,S')/\∀base lo u l w0 a w,P.globals.size<=l.J->l.nx=l.J->l.J=L.dw.J->(∀b,l.J<=b->u b=none)->x9 (kC T (bY++ds)) zO P base lo L.nt u l w0 s.dw a w->
  body.wp P (fun e e' w'=>e=x.out/\x9 (kC T (bY++out)) zO P base lo L.nt u l w0 S' e' w') a w) M' P' p' s.t (aD.ts kt s.ks) (bY++ds) (av9 y' h') o0 ⟨[],by simp⟩ m0
 obtain⟨x,S',F,k'⟩:=A0 out rfl;rcases q' with⟨m',hj,e0,f0⟩|⟨j',D',u',g0,rfl,N,h0,jL⟩
 ·obtain⟨r',v'⟩:∃r',A[j]?=some r':=⟨_,gM hj⟩
  have:(AX.normal,r'.dw)=(x,S'):=by
   unfold targets at F;rw[oI yx,AQ,v'] at F;exact bI F
  obtain⟨rfl,rfl⟩:=Prod.mk.inj this;obtain⟨D0,F0,L0,i0,E',u_,M0,P0,T0,W0⟩:=z' m' e0 j r' out v' f0;refine⟨D0,F0,L0,i0,E',u_+1,M0,P0,T0,fun base lo u l w0 a w W a' b' c' d'=>?_⟩;rw[aby];refine xV (k' base lo u l w0 a w W a' b' c' d') ?_;rintro e e' w' ⟨rfl,f'⟩;exact W0 base lo u l w0 e' w' W a' b' c' f'
 ·have:(aoN L.r9 D',u')=(x,S'):=by
   unfold targets at F;rw[nI bS,tX,L9,AQ,N] at F;exact bI F
  obtain⟨rfl,rfl⟩:=Prod.mk.inj this;refine⟨j',D',u',g0,out,1,N,jL,h0,fun base lo u l w0 a w W a' b' c' d'=>?_⟩;rw[aby];refine xV (k' base lo u l w0 a w W a' b' c' d') ?_;rintro e e' w' ⟨rfl,f'⟩;cases D' with
  |normal=>
   show(if L.r9=L.r9 then _ else _)
   rw[bK rfl];exact⟨rfl,f'⟩
  |exit k=>
   have j0:k≠L.r9:=fun e=>L' j' _ N (by rw[e])
   show(if k=L.r9 then _ else _)
   rw[bB j0];exact⟨rfl,f'⟩
  |ret=>exact⟨rfl,f'⟩
def vL {ext:wP} (y:J9 T P ext) (l':P.follows .mixedOrders=true) (n':Qf T kt bY aD) {code body:iB} {c:gu} (A:(qK code).count c.sig.r9<=1) (q:iW c.sig.r9 code=some (.loop body)) {e:G iq} (W:∀(j:Nat) o,c.sig.outs[j]?=some o->o.1≠AX.exit c.sig.r9) {s0:iq} (o':e[0]?=some s0) (a':s0.dw=c.sig.dw)
 (w:FJ c.sig.dw.J bY.length e=true) (E:FI ext P n body bY.length aD kt c.sig sg lg e e=true)
 (b':∀i g,sg[i]?=some g->(Γ i).sig=g/\(Γ i).Ok T P kt) (c':∀i g,lg[i]?=some g->(Δ i).sig=g/\(Δ i).Ok T P (fun x=>x∈dO code) kt bY)
  (lQ:Nat->Nat->G D->Prop) (m:Nat) (J:lQ 0 m p)
 (p':∀i s m u,e[i]?=some s->lQ i m u->aJ kt u s.ks/\Tree.wp Γ Δ kt (fun j V=>∃out,V=out.map DA.one/\
  ((∃m',j<e.length/\m'<m/\lQ j m' out)\/∃j' x S' ks,j=e.length+j'/\c.sig.outs[j']?=some (x,S',ks)/\aJ kt out ks/\c.fP p j' out)) s.t (bY++u))
 (l:(c.sig.own=0\/CL P (fun x=>x∈dO code) c.sig=fun x=>x∈dO code):=by first|exact Or.inl rfl|exact Or.inl aS):
 ∃(j:Nat) (x:AX) (S':bV) (ks:G Kd) (out:G D),c.sig.outs[j]?=some (x,S',ks)/\c.fP p j out/\aJ kt out ks/\BX T P (fun x=>x∈dO code) c.sig (bY++p) x S' (bY++out):=by
 obtain⟨j,x,S',ks,out,u_,q',r',s',t'⟩:=aGh y l' n' (aCi q) W w E b' c' lQ (c.fP p) p' m 0 s0 p o' J;refine⟨j,x,S',ks,out,q',r',s',fun k' base lo d' u' w0 a e' f' g' h' i' F=>?_⟩;replace l:CL P (fun x=>x∈dO code) c.sig=fun x=>x∈dO code:=by
  rcases l with h|h
  ·unfold CL;rw[h]
  ·exact h
 rw[l] at e';obtain rfl:=Ri A q e';exact wp_block (wp_loop_rounds u_ (t' base lo d' u' w0 a w0 f' g' h' i' (by rw[a'];exact F)))
end
end
section
open Go.RowKit
def jR (p:Int->aK) (l:G dG):aK:=l.all fun c=>p (bt c)
def Q_ {p:Int->aK} (J:i<A.size) (h:jR p ((bytes A).take i)=true):jR p ((bytes A).take (i+1))=p (A[i].toNat:Int):=by
 have e:i<(bytes A).length:=by rw[jX];exact J
 rw[jR,P_ e,List.all_append];rw[jR] at h;rw[h];simp
 rfl
def Ng {p:Int->aK} (h:jR p ((bytes A).take i)=false):jR p (bytes A)=false:=by
 rw[jR,List.all_eq_false] at h⊢;obtain⟨x,e,Z⟩:=h;exact⟨x,J3 e,Z⟩
def RP (s:dA) (F:s.size<=9223372036854775807) (f:ig) (p:Int->aK) (u:∀(args:dF av) (w:ak),(callFunc f args).run Tryz.prog w=.ok (.enter f args) w) (hf:∀(c:Int) (w:ak),Calls Tryz.prog f #[.int .u8 c] w fun e w'=>e=.returned (.bool (p c))/\w=w') (w:ak):
 Calls Tryz.prog 103 #[.string s,.func (.func f) #[] #[]] w fun e w'=>e=.returned (.bool (jR p (bytes s)))/\w=w':=by
 have y:=Q hf;clear hf;go_enter Tryz.func103,Tryz.ntmps103;go_wp2_with fail;go_loopg [5] s.size (fun k v wr=>∃i:Nat,k=s.size-i/\i<=s.size/\v=.int .i64 i/\wr=w/\jR p ((bytes s).take i)=true)
 case atStart=>exact⟨0,rfl,gK _,rfl,rfl,rfl⟩
 case round=>
  obtain⟨i,j,J,rfl,rfl,h⟩:=hrel;have A:=Q j;have A2:=Q h;clear j h;have P:(0:Int)<=(i:Int):=I
  by_cases l:i<s.size
  ·have E:(i:Int)<(s.size:Int):=by omega
   have q:=Q (Q_ (p:=p) l A2.out);go_wp2_with fail;refine(y.out _ _).mono ?_;rintro e w' ⟨rfl,rfl⟩;cases Z:p (s[i].toNat:Int)
   ·have HP:Hid (jR p (bytes s)=false):=Ng (q.out.trans Z)
    clear Z;go_wp2_with fail;go_ret;exact⟨by rw[HP.out];rfl,rfl⟩
   ·have HP:Hid (jR p ((bytes s).take (i+1))=true):=q.out.trans Z
    clear Z;go_wp2_with fail;go_roundg (s.size-(i+1))
    case measure=>have:=A.out;omega
    case rel=>exact⟨i+1,rfl,by omega,by go_num,rfl,HP.out⟩
  ·have Ao:i=s.size:=by omega
   have E:¬(i:Int)<(s.size:Int):=I;have HP:Hid (jR p (bytes s)=true):=by
    exact R4
   clear Ao;go_wp2_with fail;go_ret;exact⟨by rw[HP.out];rfl,rfl⟩
def wF (c:Int):aK:=(c !=45)&&pq c
def aFp (c:Int) (w:ak):Calls Tryz.prog 104 #[.int .u8 c] w fun e w'=>e=.returned (.bool (wF c))/\w=w':=by
 cases h:(c !=45)
 ·go_enter Tryz.func104,Tryz.ntmps104
  go_wp2_with fail;go_ret;exact⟨by simp[wF,h],rfl⟩
 ·go_enter Tryz.func104,Tryz.ntmps104
  go_wp2_with fail;refine(awF _ _).mono ?_;rintro e w' ⟨rfl,rfl⟩;go_wp2_with fail;go_ret;exact⟨by simp[wF,h],rfl⟩
def as6 (c:Int) (b:aK) (h:Hid (zx c=b)) (w:ak):Calls Tryz.prog 73 #[.int .u8 c] w fun e w'=>e=.returned (.bool b)/\w=w':=
 (as5 c w).mono fun _ _ ⟨j,l⟩=>⟨by rw[j,h.out],l⟩
def isIdent (l:G dG):aK:=
 match l with
 |[]=>false
 |c::_=>decide (l.length<=24)&&zx (bt c)&&jR wF l
def aDn (args:dF av) (w:ak):(callFunc 104 args).run Tryz.prog w=.ok (.enter 104 args) w:=by kernel_rfl
def aFK (s:dA) (E:s.size<=9223372036854775807) (w:ak):Calls Tryz.prog 75 #[.string s] w fun e w'=>e=.returned (.bool (isIdent (bytes s)))/\w=w':=by
 by_cases h0:s.size=0
 ·have h:bytes s=[]:=qx Yw
  have q:s=⟨#[]⟩:=by
   cases s with
   |mk d=>
    have:d.toList=[]:=h;have:d=#[]:=by cases d;simp_all
    rw[this]
  subst q;go_enter Tryz.func75,abf;go_wp2_with fail;go_ret;exact⟨rfl,rfl⟩
 ·have l:0<s.size:=by omega
  have u:0<(bytes s).length:=by rw[jX];exact l
  have y:isIdent (bytes s)=(decide (s.size<=24)&&zx (s[0].toNat:Int)&&jR wF (bytes s)):=by
   cases h:bytes s with
   |nil=>rw[h] at u;simp at u
   |cons c r=>
    have hc:s[0]=c:=by
     have F:(bytes s)[0]=c:=by simp[h]
     exact F
    rw[isIdent,hc,<-jX,h]
    rfl
  have HE:=Q y;have T:s.toList.isEmpty=false:=by
   rw[aiO];cases h:s.data.toList with
   |nil=>
    have:(bytes s).length=0:=by rw[bytes,h];rfl
    omega
   |cons=>rfl
  have W:(0:Int)<(s.size:Int):=I;clear y
  by_cases j:s.size<=24
  ·have P:(s.size:Int)<=24:=by omega
   cases hlet:zx (s[0].toNat:Int)
   ·have HL:=Q hlet
    clear hlet;go_enter Tryz.func75,abf;go_wp2_with fail;refine(as6 _ _ HL _).mono ?_;rintro e w' ⟨rfl,rfl⟩;exact aqg
   ·have HL:=Q hlet
    clear hlet;go_enter Tryz.func75,abf;go_wp2_with fail;refine(as6 _ _ HL _).mono ?_;rintro e w' ⟨rfl,rfl⟩;go_wp2_with fail;refine(RP s E _ wF aDn aFp _).mono ?_;rintro e w' ⟨rfl,rfl⟩;go_wp2_with fail;go_ret;exact⟨by rw[HE.out,HL.out,U0 j,aaW,UF];rfl,rfl⟩
  ·have P:¬(s.size:Int)<=24:=by omega
   have A:=Q j;clear j;go_enter Tryz.func75,abf;go_wp2_with fail;go_ret;exact⟨by rw[HE.out,abq A.out,LY,LY];rfl,rfl⟩
end
section
def gL (acc:Nat) (l:G dG):Nat:=l.foldl (fun a c=>a*10+(c.toNat-48)) acc
def JX (acc:Nat):gL acc []=acc:=List.foldl_nil
def LQ (acc:Nat) (c:dG) (r:G dG):gL acc (c::r)=gL (acc*10+(c.toNat-48)) r:=aiT ..
def aOb (a b:G dG):∀acc,gL acc (a++b)=gL (gL acc a) b:=by
 induction a with
 |nil=>intro acc;simp[JX]
 |cons c r e=>intro acc;rw[wM,LQ,LQ,e]
def awt (l:G dG):∀acc,acc*10^l.length<=gL acc l:=by
 induction l with
 |nil=>intro acc;simp[JX]
 |cons c r e=>
  intro acc;rw[LQ,gD,ai6,Nat.mul_comm (10^_) 10,<-Nat.mul_assoc];exact fF (Cm _ (J4 _ _)) (e _)
def aOd (l:G dG) (h:∀c∈l,jJ (bt c)=true):∀acc,gL acc l<(acc+1)*10^l.length:=by
 induction l with
 |nil=>intro acc;simp[JX]
 |cons c r e=>
  intro acc;have hc:=(RI _).1 (h c bS);have q:c.toNat-48<=9:=by unfold bt at hc;omega
  rw[LQ,gD,ai6,Nat.mul_comm (10^_) 10,<-Nat.mul_assoc];refine lZ (e (fun x j=>h x (by simp[j])) _) (Cm _ I)
def afx {c:dG}:jJ (bt c)=true↔48<=c.toNat/\c.toNat<=57:=by
 rw[RI];unfold bt;omega
def aev {p:Int->aK} {l:G dG}:jR p l=true↔∀c∈l,p (bt c)=true:=by simp[jR]
def aG7 (l:G dG) (h:∀c∈l,jJ (bt c)=true):∀acc,acc<=18446744073709551615->Lib.parseUintM 18446744073709551615 acc l=if gL acc l<=18446744073709551615 then .ok (gL acc l) else .range:=by
 induction l with
 |nil=>intro acc q;simp[Lib.parseUintM,JX,q]
 |cons c r w=>
  intro acc q;have hc:=afx.1 (h c bS);have u:=awt r (acc*10+(c.toNat-48));have A:acc*10+(c.toNat-48)<=gL (acc*10+(c.toNat-48)) r:=fF (Nat.le_mul_of_pos_right _ (Nat.pow_pos I)) u;rw[Lib.parseUintM,bK hc,LQ]
  by_cases e:1844674407370955162<=acc
  ·rw[bK e,bB I]
  ·rw[bB e]
   by_cases j:18446744073709551615<acc*10+(c.toNat-48)
   ·rw[bK j,bB I]
   ·rw[bB j,w (fun x y=>h x (by simp[y])) _ I]
def Au:G dG->aK
 |45::_=>true
 |_=>false
def lD:G dG->G dG
 |45::r=>r
 |l=>l
def ZC (c:dG) (r:G dG):Au (c::r)=decide (c=45):=by
 by_cases h:c=45
 ·subst h;rfl
 ·unfold Au
  split
  ·rename_i e;injection e with e;exact absurd e h
  ·simp[h]
def O8 (c:dG) (r:G dG):lD (c::r)=if c=45 then r else c::r:=by
 by_cases h:c=45
 ·subst h;rfl
 ·unfold lD
  split
  ·rename_i e;injection e with e;exact absurd e h
  ·simp[h]
def KM (s:G dG):aK:=!(lD s).isEmpty&&jR jJ (lD s)&&!((lD s).head?==some 48&&!(s==[48]))
def signed (s:G dG) (u:Nat):Int:=if Au s then-(u:Int) else u
def vN (s:G dG):ah Int:=
 if KM s then(if gL 0 (lD s)<9223372036854775808\/(Au s=true/\gL 0 (lD s)=9223372036854775808) then some (signed s (gL 0 (lD s))) else none) else none
def aG6 {s:G dG} (y:lD s≠[]) (h:∀c∈lD s,jJ (bt c)=true):
 Lib.parseIntB 64 s=if gL 0 (lD s)<9223372036854775808\/(Au s=true/\gL 0 (lD s)=9223372036854775808) then .ok (signed s (gL 0 (lD s))) else .range:=by
 cases s with
 |nil=>exact absurd rfl y
 |cons c r=>
  have j:c.toNat=45↔c=45:=by
   constructor
   ·intro e;have:=UW (x:=c);rw[e] at this;exact this.symm
   ·rintro rfl;rfl
  have w:Au (c::r)=decide (c=45):=ZC c r;have l:=O8 c r;have A:(if c.toNat=43\/c.toNat=45 then r else c::r)=lD (c::r):=by
   rw[l]
   by_cases hc:c=45
   ·rw[bK hc,bK (.inr (j.2 hc))]
   ·rw[bB hc,bB]
    rintro(e|e)
    ·have:=afx.1 (h c (by rw[l,bB hc];simp));omega
    ·exact hc (j.1 e)
  have E:Lib.parseUintB 64 (lD (c::r))=if gL 0 (lD (c::r))<=18446744073709551615 then .ok (gL 0 (lD (c::r))) else .range:=by
   rw[Lib.parseUintB,bB y];exact aG7 _ h 0 I
  obtain⟨aB,P⟩:∃aB,gL 0 (lD (c::r))=aB:=⟨_,rfl⟩;rw[P] at E⊢;simp only[Lib.parseIntB,A,E,signed,w]
  by_cases F:aB<=18446744073709551615
  ·rw[bK F]
   by_cases hc:c=45
   ·simp only[hc]
    by_cases q:aB<9223372036854775808\/(decide ((45:dG)=45)=true/\aB=9223372036854775808)
    ·have:¬9223372036854775808<aB:=by omega
     simp[this];omega
    ·have T:9223372036854775808<aB:=by simp at q;omega
     have W:9223372036854775808<=aB/\¬aB=9223372036854775808:=I;simp[T,W]
   ·have u:¬c.toNat=45:=fun e=>hc (j.1 e)
    by_cases q:aB<9223372036854775808
    ·have:¬9223372036854775808<=aB:=by omega
     simp[hc,u,q,this]
    ·have:9223372036854775808<=aB:=by omega
     simp[hc,u,q,this]
  ·rw[bB F]
   have:¬(aB<9223372036854775808\/(decide (c=45)=true/\aB=9223372036854775808)):=I;rw[bB this]
def Ie (s:G dG):ah Int:=
 if(lD s).length<1\/19<(lD s).length\/((lD s).head?=some 48/\(1<(lD s).length\/Au s=true)) then none
 else if jR jJ (lD s)=true then
  (if Au s=true then(if gL 0 (lD s)<=9223372036854775808 then some (-(gL 0 (lD s):Int)) else none)
   else if gL 0 (lD s)<9223372036854775808 then some (gL 0 (lD s)) else none)
 else none
def aOc {c:dG} {r:G dG} (hc:jJ (bt c)=true) (h:c≠48) (j:19<(c::r).length):9223372036854775808<gL 0 (c::r):=by
 have q:=afx.1 hc;have u:1<=c.toNat-48:=by
  have:c.toNat≠48:=fun e=>h (by have:=UW (x:=c);rw[e] at this;exact this.symm)
  omega
 have w:=awt r (0*10+(c.toNat-48));have l:10^19<=10^r.length:=J5 I (by simp at j;omega)
 rw[LQ];have y:1*10^19<=(0*10+(c.toNat-48))*10^r.length:=ai4 I l;omega
def atG (s:G dG):vN s=Ie s:=by
 unfold vN Ie KM;cases hm:lD s with
 |nil=>simp
 |cons c r=>
  by_cases j:jR jJ (c::r)=true
  ·have e:=aev.1 j
   rw[j];simp only[List.isEmpty_cons,Bool.not_false,UF,List.head?_cons,aaX,qX]
   by_cases l:c=48
   ·subst l
    by_cases q:s=[48]
    ·subst q
     have:r=[]:=by simp[lD] at hm;exact hm
     subst this
     rfl
    ·have:1<(48::r).length\/Au s=true:=by
      cases s with
      |nil=>cases hm
      |cons x y=>
       rw[O8] at hm
       by_cases w:x=45
       ·right;rw[ZC];simp[w]
       ·rw[bB w] at hm
        injection hm with e1 e2
        subst e1 e2
        left
        cases y with
        |nil=>exact absurd rfl q
        |cons _ _=>simp
     have A:(s==[48])=false:=by simpa using q
     rw[A];rw[bB bS,bK (.inr (.inr ⟨rfl,this⟩))]
   ·have e1:(!(some c==some (48:dG)&&!(s==[48])))=true:=by simp[l]
    rw[bK e1]
    by_cases u:19<(c::r).length
    ·have F:=aOc (e c bS) l u
     rw[bB I,bK (.inr (.inl u))]
    ·have hn:¬((c::r).length<1\/19<(c::r).length\/(some c=some 48/\(1<(c::r).length\/Au s=true))):=by
      rintro(h|h|h)
      ·simp at h
      ·exact u h
      ·exact l (bI h.1)
     rw[bB hn];unfold signed;cases hneg:Au s
     ·simp
     ·simp only[IB,qX]
      by_cases E:gL 0 (c::r)<=9223372036854775808
      ·rw[bK E,bK I]
      ·rw[bB E,bB I]
  ·have e:jR jJ (c::r)=false:=by simpa using j
   rw[e];simp
end
section
open Go
abbrev Rw:=G D
def iD:D->Int
 |.int _ n=>n
 |_=>0
def tD:D->G Nat
 |.str l=>l
 |_=>[]
def rD:D->G Rw
 |.R r=>r
 |_=>[]
def jh (r:Rw) (j:Nat):D:=match r[j]? with
 |some d=>d
 |none=>.bool false
def nk (r:Rw):Int:=iD (jh r 0)
def nt (r:Rw):G Nat:=tD (jh r 1)
def nc (r:Rw):G Rw:=rD (jh r 2)
def no (r:Rw):Int:=iD (jh r 3)
def tI (r:Rw):Int:=iD (jh r 2)
def tk (r:Rw):G Rw:=rD (jh r 3)
def wd (r:Rw):G Nat:=tD (jh r 0)
def bD:D->aK
 |.bool b=>b
 |_=>false
def nth (l:G Rw) (i:Nat):Rw:=match l[i]? with
 |some r=>r
 |none=>[]
def wrap (n:Int):Int:=IntKind.i64.wrap n
abbrev Fa:=Int×Int
def eD (r:Rw):Fa:=(2,no r)
def zl (r:Rw):Fa:=(4,no r)
def Bt (r:Rw):Fa:=(5,no r)
def KT (r:Rw):Fa:=(6,no r)
def bO {h j:Type} (f:h->j->dV Fa h):h->G j->dV Fa h
 |s,[]=>.ok s
 |s,a::l=>match f s a with
  |.error e=>.error e
  |.ok t=>bO f t l
def aL {h j:Type} (x:dV Fa h) (f:h->dV Fa j):dV Fa j:=match x with
 |.error e=>.error e
 |.ok a=>f a
def mq {e h:Type} {a:e} {f:e->dV Fa h}:aL (.ok a) f=f a:=rfl
def LM {h j:Type} {e:Fa} {f:h->dV Fa j}:aL (.error e:dV Fa h) f=.error e:=rfl
def Pb (b:aK) (e:Fa):dV Fa Unit:=if b then .ok () else .error e
def G8:G Nat:=[108,101,116]
def GL:G Nat:=[97,115,115,105,103,110]
def GQ:G Nat:=[100,111]
def GZ:G Nat:=[105,102]
def Hr:G Nat:=[119,104,105,108,101]
def G_:G Nat:=[110,101,119]
def GY:G Nat:=[103,101,116]
def Ho:G Nat:=[115,101,116]
def wG:G Nat:=[116,117,112,108,101]
def GV:G Nat:=[101,108,101,109,101,110,116]
def G5:G Nat:=[105,115]
def Hl:G Nat:=[115,97,109,101]
def GK:G Nat:=[97,100,100]
def Hq:G Nat:=[115,117,98]
def G9:G Nat:=[109,117,108]
def G7:G Nat:=[108,101,115,115]
def He:G Nat:=[110,111,116]
def GN:G Nat:=[99,111,110,99,97,116]
def Hf:G Nat:=[111,117,116,112,117,116]
def GX:G Nat:=[102,97,105,108]
def G6:G Nat:=[108,97,116,101,115,116]
def GU:G Nat:=[101,100,105,116]
def Hg:G Nat:=[112,97,117,115,101]
def OX:G Nat:=[116,114,117,101]
def OV:G Nat:=[102,97,108,115,101]
def OW:G Nat:=[110,105,108]
def DF:G Nat:=[117,110,105,111,110]
def Dx:G Nat:=[101,120,105,115,116,115]
def BH:G Nat:=[65,110,121]
def BJ:G Nat:=[78,101,118,101,114]
def Du:G Nat:=[97,98,115,116,114,97,99,116]
def DC:G Nat:=[115,116,114,117,99,116]
def Dz:G Nat:=[109,101,116,104,111,100]
def Dv:G Nat:=[100,101,108,101,116,101]
def Dy:G Nat:=[108,111,97,100]
def DJ:G Nat:=[117,110,108,111,97,100]
def Dw:G Nat:=[101,118,97,108]
def vI:G Nat:=[112,97,99,107,97,103,101]
def xI:G Nat:=[116,97,115,107]
def xM:G (G Nat):=[BH,BJ,wG,DF,Dx]
def BR:G (G Nat):=[Du,DC,Dz,Dv,Dy,DJ,Dw,vI,xI,G8,GL,GQ,GZ,Hr,G_,GY,Ho,wG,GV,G5,Hl,GK,Hq,G9,G7,He,GN,Hf,GX,G6,GU,Hg,OX,OV,OW,DF,Dx,BH,BJ]
def JB (t:G Nat):aK:=isIdent (t.map UInt8.ofNat)
def DV (t:G Nat):ah Int:=vN (t.map UInt8.ofNat)
def ty (k:Int) (nm:G Nat) (e:Int) (l:G Rw):Rw:=[.int .i64 k,.str nm,.int .i64 e,.R l]
def jm:Rw:=ty 0 [] 0 []
def rU:Nat->Rw->Int
 |0,_=>1
 |n+1,t=>(tk t).foldl (fun a x=>wrap (a+rU n x)) 1
def oQ:Nat->Rw->Int
 |0,_=>1
 |n+1,t=>wrap ((tk t).foldl (fun a x=>max a (oQ n x)) 0+1)
def qL (f:Rw->Int->aK) (k u:Int):Nat->G Rw->aK
 |_,[]=>true
 |i,x::r=>f x (if k==6&&i==1 then wrap (u+1) else wrap (u+0))&&qL f k u (i+1) r
def jy:Nat->Rw->Int->aK
 |0,_,_=>true
 |n+1,t,u=>!(nk t==5&&decide (u<=tI t))&&qL (jy n) (nk t) u 0 (tk t)
def mZ:Nat->Rw->aK
 |0,_=>true
 |n+1,t=>nk t==5||jy (n+1) t 0||(nk t==2&&(tk t).all (mZ n))
def qo (n:Nat) (t:Rw):aK:=
 if(nk t !=2&&!(nt t==[]))||(nk t !=5&&tI t !=0) then false
 else if nk t==0||nk t==1 then decide ((tk t).length=0)
 else if nk t==2 then JB (nt t)&&!xM.contains (nt t)&&decide ((tk t).length<=6)&&(tk t).all (mZ n)
 else if nk t==3 then decide ((tk t).length<=6)
 else if nk t==4 then decide (2<=(tk t).length)
 else if nk t==5 then decide ((tk t).length=0)&&decide (0<=tI t)&&decide (tI t<=200)
 else if nk t==6 then decide ((tk t).length=2)&&jy n (nth (tk t) 0) 0
 else false
def gT:Nat->Rw->aK
 |0,_=>true
 |n+1,t=>qo n t&&(tk t).all (gT n)
def uS (n:Nat) (t:Rw):Int:=if decide (200<rU n t)||decide (12<oQ n t) then 4 else if gT n t then 0 else 2
def Aq (s:G Nat) (l:G (G Nat)):ah Nat:=l.reverse.findIdx? (fun x=>x==s)
def yI (r:Rw):aK:=nk r==1&&JB (nt r)&&!xM.contains (nt r)
def zF (r:Rw) (vars:G (G Nat)):dV Fa Rw:=
 if nt r==BH then .ok jm
 else if nt r==BJ then .ok (ty 1 [] 0 [])
 else match Aq (nt r) vars with
  |some j=>.ok (ty 5 [] j [])
  |none=>if yI r then .ok (ty 2 (nt r) 0 []) else .error (eD r)
def eO {e:Type} (f:e->dV Fa Rw) (acc:G Rw) (x:e):dV Fa (G Rw):=aL (f x) fun y=>.ok (acc++[y])
def NU (f:Rw->G (G Nat)->dV Fa Rw) (r:Rw) (args:G Rw) (vars:G (G Nat)):dV Fa Rw:=if args.length=3 then(if yI (nth args 0) then aL (f (nth args 1) []) fun x=>aL (f (nth args 2) (vars++[nt (nth args 0)])) fun y=>.ok (ty 6 [] 0 [x,y]) else .error (eD (nth args 0))) else .error (eD r)
def Tc (f:Rw->G (G Nat)->dV Fa Rw) (r:Rw) (h:Rw) (args:G Rw) (vars:G (G Nat)):dV Fa Rw:=
 if nt h==Dx then NU f r args vars
 else if nt h==wG then aL (bO (eO fun x=>f x vars) [] args) fun l=>.ok (ty 3 [] 0 l)
 else if nt h==DF then(if args.length<2 then .error (eD r) else aL (bO (eO fun x=>f x vars) [] args) fun l=>.ok (ty 4 [] 0 l))
 else if args.length=0 then .error (eD r)
 else if yI h then aL (bO (eO fun x=>f x vars) [] args) fun l=>.ok (ty 2 (nt h) 0 l)
 else .error (eD h)
def Li (f:Rw->G (G Nat)->dV Fa Rw) (r:Rw) (vars:G (G Nat)):dV Fa Rw:=
 if decide (0<(nc r).length)&&nk (nth (nc r) 0)==1 then Tc f r (nth (nc r) 0) ((nc r).drop 1) vars else .error (eD r)
def ji:Nat->Rw->G (G Nat)->dV Fa Rw
 |0,r,_=>.error (eD r)
 |n+1,r,vars=>if nk r==1 then zF r vars else if nk r==3 then Li (ji n) r vars else .error (eD r)
mutual
def uz:D->Nat
 |.R rows=>bM rows+1
 |_=>0
def bM:G (G D)->Nat
 |[]=>0
 |r::rs=>aI r+bM rs
def aI:G D->Nat
 |[]=>0
 |d::ds=>uz d+aI ds
end
def jM (t:Rw):Int:=uS (aI t) t
def iJ (n:Nat) (r:Rw) (vars:G (G Nat)):dV Fa Rw:=aL (ji n r vars) fun t=>if jM t=0 then .ok t else .error (jM t,no r)
def ex (k:Int) (nm:G Nat) (n:Int) (s:G Nat) (t:Rw) (args form:G Rw):Rw:=[.int .i64 k,.str nm,.int .i64 n,.str s]++t++[.R args,.R form]
def fm (k:Int) (nm:G Nat) (ps:G Rw) (t:Rw) (e body:G Rw):Rw:=[.int .i64 k,.str nm,.R ps]++t++[.R e,.R body]
def n_ (r:Rw):dV Fa (G Nat):=if nk r==1&&(JB (nt r)&&!BR.contains (nt r)) then .ok (nt r) else .error (eD r)
def Ap (r:Rw):dV Fa (G Nat):=if nk r==1&&JB (nt r) then .ok (nt r) else .error (eD r)
def O7 (r:Rw) (e:G (G Nat)):dV Fa (G Nat):=aL (n_ r) fun nm=>if e.contains nm then .ok nm else .error (Bt r)
def Uy (r:Rw) (e:G (G Nat)):dV Fa Rw:=match DV (nt r) with
 |some v=>.ok (ex 1 [] v [] jm [] [])
 |none=>
  if nt r==OX then .ok (ex 2 [] 1 [] jm [] [])
  else if nt r==OV then .ok (ex 2 [] 0 [] jm [] [])
  else if nt r==OW then .ok (ex 3 [] 0 [] jm [] [])
  else aL (O7 r e) fun nm=>.ok (ex 5 nm 0 [] jm [] [])
def sU (r:Rw):dV Fa (G Rw):=if nk r==3 then(if(nc r).length<=6 then .ok (nc r) else .error (zl r)) else .error (eD r)
def mQ (r:Rw):dV Fa (Rw×Rw):=if nk r==3&&decide ((nc r).length=2) then .ok (nth (nc r) 0,nth (nc r) 1) else .error (eD r)
def ku (r:Rw) (seen:G (G Nat)):dV Fa (G Nat):=aL (n_ r) fun nm=>if seen.contains nm then .error (KT r) else .ok nm
def bw (w:G Nat):Rw:=[.str w]
def bg (l:G Rw):G (G Nat):=l.map wd
section
variable (X:Rw->G (G Nat)->dV Fa Rw) (F:Rw->dV Fa Rw) (fB:Rw->G (G Nat)->dV Fa Rw)
def w9 (l:G Rw) (e:G (G Nat)):dV Fa (G Rw):=bO (eO fun x=>X x e) [] l
def vO (k n:Int) (args:G Rw) (e:G (G Nat)):dV Fa Rw:=aL (w9 X args e) fun l=>.ok (ex k [] n [] jm l [])
def Hu (n:Nat) (r:Rw):dV Fa Unit:=Pb (decide (n<=6)) (zl r)
def Lh (w:G Nat) (r h:Rw) (args:G Rw) (e:G (G Nat)):dV Fa Rw:=
 if w==G8 then(if args.length=3 then aL (n_ (nth args 0)) fun nm=>aL (X (nth args 1) e) fun x=>aL (X (nth args 2) (e++[nm])) fun y=>.ok (ex 6 nm 0 [] jm [x,y] []) else .error (eD r))
 else if w==GL then(if args.length=2 then aL (n_ (nth args 0)) fun nm=>if e.contains nm then aL (w9 X (args.drop 1) e) fun l=>.ok (ex 7 nm 0 [] jm l []) else .error (Bt (nth args 0)) else .error (eD r))
 else if w==GQ then(if 1<=args.length then vO X 8 0 args e else .error (eD r))
 else if w==GZ then(if args.length=3 then vO X 9 0 args e else .error (eD r))
 else if w==Hr then(if args.length=2 then vO X 10 0 args e else .error (eD r))
 else if w==G_ then(if 1<=args.length then aL (Hu (args.length-1) r) fun _=>aL (fB (nth args 0) []) fun t=>aL (w9 X (args.drop 1) e) fun l=>.ok (ex 11 [] 0 [] t l []) else .error (eD r))
 else if w==GY then(if args.length=2 then aL (w9 X (args.take 1) e) fun l=>aL (Ap (nth args 1)) fun nm=>.ok (ex 12 nm 0 [] jm l []) else .error (eD r))
 else if w==Ho then(if args.length=3 then aL (X (nth args 0) e) fun x=>aL (Ap (nth args 1)) fun nm=>aL (X (nth args 2) e) fun y=>.ok (ex 13 nm 0 [] jm [x,y] []) else .error (eD r))
 else if w==wG then aL (Hu args.length r) fun _=>vO X 14 0 args e
 else if w==GV then(if args.length=2 then aL (w9 X (args.take 1) e) fun l=>match DV (nt (nth args 1)) with
  |some k=>if nk (nth args 1)==1&&(decide (0<=k)&&decide (k<6)) then .ok (ex 15 [] k [] jm l []) else .error (eD (nth args 1))
  |none=>.error (eD (nth args 1)) else .error (eD r))
 else if w==G5 then(if args.length=2 then aL (w9 X (args.take 1) e) fun l=>aL (fB (nth args 1) []) fun t=>.ok (ex 16 [] 0 [] t l []) else .error (eD r))
 else if w==GK then(if args.length=2 then vO X 17 1 args e else .error (eD r))
 else if w==Hq then(if args.length=2 then vO X 17 2 args e else .error (eD r))
 else if w==G9 then(if args.length=2 then vO X 17 3 args e else .error (eD r))
 else if w==G7 then(if args.length=2 then vO X 17 4 args e else .error (eD r))
 else if w==He then(if args.length=1 then vO X 17 5 args e else .error (eD r))
 else if w==GN then(if args.length=2 then vO X 17 6 args e else .error (eD r))
 else if w==Hl then(if args.length=2 then vO X 17 7 args e else .error (eD r))
 else if w==Hf then(if args.length=1 then vO X 18 0 args e else .error (eD r))
 else if w==GX then(if args.length=1 then vO X 19 0 args e else .error (eD r))
 else if w==G6 then(if 1<=args.length then aL (Hu (args.length-1) r) fun _=>aL (n_ (nth args 0)) fun nm=>aL (w9 X (args.drop 1) e) fun l=>.ok (ex 21 nm 0 [] jm l []) else .error (eD r))
 else if w==GU then(if args.length=1 then aL (F (nth args 0)) fun f=>if nk f==7 then .error (eD (nth args 0)) else .ok (ex 22 [] 0 [] jm [] [f]) else .error (eD r))
 else if w==Hg then(if args.length=0 then .ok (ex 23 [] 0 [] jm [] []) else .error (eD r))
 else aL (Hu args.length r) fun _=>aL (n_ h) fun nm=>aL (w9 X args e) fun l=>.ok (ex 20 nm 0 [] jm l [])
def Ta (r:Rw) (e:G (G Nat)):dV Fa Rw:=if nk r==3&&(decide (0<(nc r).length)&&nk (nth (nc r) 0)==1) then Lh X F fB (nt (nth (nc r) 0)) r (nth (nc r) 0) ((nc r).drop 1) e else .error (eD r)
def Hz (l:G Rw):dV Fa (G (G Nat)):=bO (fun ps x=>aL (ku x ps) fun q=>.ok (ps++[q])) [] l
def ahe (vars:G (G Nat)) (l:G Rw):dV Fa (G (G Nat)×G Rw):=bO (fun s x=>aL (mQ x) fun e=>aL (ku e.1 s.1) fun q=>aL (fB e.2 vars) fun t=>.ok (s.1++[q],s.2++[t])) ([],[]) l
def aEf (vars:G (G Nat)) (l:G Rw):dV Fa (G Rw):=bO (eO fun x=>aL (mQ x) fun e=>aL (Ap e.1) fun q=>aL (fB e.2 vars) fun t=>.ok (D.str q::t)) [] l
def yL (bounds ts:G Rw):Rw:=bounds.foldr (fun b t=>ty 6 [] 0 [b,t]) (ty 3 [] 0 ts)
def Gv (k:Int) (c:G Rw):dV Fa Rw:=aL (n_ (nth c 0)) fun nm=>aL (sU (nth c 1)) fun l=>aL (Hz l) fun ps=>aL (fB (nth c 2) ps.reverse) fun t=>
    if k=1 then .ok (fm 1 nm (ps.map bw) t [] [])
    else aL (sU (nth c 3)) fun l=>aL (aEf fB ps.reverse l) fun fs=>.ok (fm k nm (ps.map bw) t fs [])
def yN (r:Rw) (vars:G (G Nat)):dV Fa (G (G Nat)×G Rw):=aL (sU r) fun l=>ahe fB vars l
def Hw (c:G Rw):dV Fa Rw:=aL (n_ (nth c 0)) fun nm=>aL (yN fB (nth c 1) []) fun vb=>aL (yN fB (nth c 2) vb.1) fun e=>aL (X (nth c 3) e.1) fun b=>.ok (fm 3 nm (e.1.map bw) (yL vb.2 e.2) [] [b])
def Gw (c:G Rw):dV Fa Rw:=aL (n_ (nth c 0)) fun nm=>aL (yN fB (nth c 1) []) fun vb=>aL (sU (nth c 2)) fun l=>aL (bO (eO fun x=>fB x vb.1) [] l) fun ts=>.ok (fm 4 nm [] (yL vb.2 ts) [] [])
def K8 (f:Rw):Rw:=[jh f 3,jh f 4,jh f 5,jh f 6]
def Jp (r h:Rw) (c:G Rw):dV Fa Rw:=
 if nt h==Du&&decide (c.length=3) then Gv fB 1 c
 else if nt h==DC&&decide (c.length=4) then Gv fB 2 c
 else if nt h==Dz&&decide (c.length=4) then Hw X fB c
 else if nt h==Dv&&decide (c.length=3) then Gw fB c
 else if nt h==Dy&&decide (c.length=1) then aL (n_ (nth c 0)) fun nm=>.ok (fm 5 nm [] jm [] [])
 else if nt h==DJ&&decide (c.length=1) then aL (n_ (nth c 0)) fun nm=>.ok (fm 6 nm [] jm [] [])
 else if nt h==Dw&&decide (c.length=1) then aL (X (nth c 0) []) fun b=>.ok (fm 7 [] [] jm [] [b])
 else .error (eD r)
def Jo (r:Rw):dV Fa Rw:=if nk r==3&&(decide (0<(nc r).length)&&nk (nth (nc r) 0)==1) then Jp X fB r (nth (nc r) 0) ((nc r).drop 1) else .error (eD r)
def Jq (r:Rw):dV Fa Rw:=aL (Jo X fB r) fun f=>if jM (K8 f)=0 then .ok f else .error (jM (K8 f),no r)
end
mutual
def wZ:Nat->Rw->G (G Nat)->dV Fa Rw
 |0,r,_=>.error (eD r)
 |n+1,r,e=>if nk r==1 then Uy r e else if nk r==2 then .ok (ex 4 [] 0 (nt r) jm [] []) else Ta (wZ n) (oZ n) (iJ n) r e
def oZ:Nat->Rw->dV Fa Rw
 |0,r=>.error (eD r)
 |n+1,r=>Jq (wZ n) (iJ n) r
end
def uH (n:Nat) (r:Rw) (l:G Rw) (pack:aK):dV Fa (G Rw):=if 60<l.length then .error (zl r) else bO (eO fun x=>aL (oZ n x) fun f=>if pack&&!(nk f==1||nk f==2||nk f==3) then .error (eD x) else .ok f) [] l
def yK (n:Nat) (ps:G Rw) (r:Rw) (c:G Rw):dV Fa Rw:=match c with
 |[]=>.error (eD r)
 |a::l=>if 8<=ps.length\/60<l.length then .error (zl r)
  else aL (n_ a) fun nm=>if(bg ps).contains nm then .error (KT a)
   else aL (uH n r l true) fun fs=>.ok [.str nm,.R fs]
def m_ (n:Nat) (s:G Rw×G Rw) (r:Rw):dV Fa (G Rw×G Rw):=
 if nk r==3&&(decide (0<(nc r).length)&&nk (nth (nc r) 0)==1) then
  (if nt (nth (nc r) 0)==vI&&decide (s.2.length=0) then aL (yK n s.1 r ((nc r).drop 1)) fun p=>.ok (s.1++[p],s.2)
  else if nt (nth (nc r) 0)==xI then(if 6<=s.2.length then .error (zl r) else aL (uH n r ((nc r).drop 1) false) fun fs=>.ok (s.1,s.2++[[.R fs]]))
  else .error (eD r))
 else .error (eD r)
def aax (l:G Rw):dV Fa (G Rw×G Rw):=bO (m_ (bM l)) ([],[]) l
end
section
open Go.Shelf
def Tryz.aF6:Go.Shelf.Ren:=⟨fun|16=>115|n=>n,fun|24=>36|9=>9|4=>4|n=>n,fun|n=>n⟩
def Tryz.agL:Go.Proofs.Lays2.n16 Tryz.prog Tryz.aF6:={
 mixed:=by kernel_rfl
 f16:=Tryz.func115.trans (iE some aS)
 t4:=UR
 a4:=Tryz.isAgg4
 z4:=Tryz.sizeOf4
 v4:=Tryz.zeroValue4
 t9:=A_
 a9:=Tryz.isAgg9
 z9:=abj
 v9:=abm
 t24:=abl
 a24:=Tryz.isAgg36
 z24:=Tryz.sizeOf36
 v24:=Tryz.zeroValue36
 i9:=by kernel_rfl}
open Go.RowKit Go.Lib in
def Tryz.slices_Clone_string (b off n c:Nat) (h:G dA) (w:ak) (u:n<=h.length) (l:n*16<=140737488355328) (hc:∀j,j<h.length->w.cell? ⟨b,off+j,none⟩=some (.string (h.getD j ByteArray.empty))):
 Calls Tryz.prog 115 #[.slice (some ⟨b,off,none⟩) n c] w fun e w'=>∃q,e=.returned q/\w'.ownsRow w.heap.size 9 1 q n ((h.take n).map (Value.string))/\q≠.slice none 0 0/\Below w.heap.size w w':=Any.slices_Clone_string Tryz.agL b off n c h w u l hc
open Go.RowKit Go.Lib in
def Tryz.slices_Clone_string_nil (n c:Nat) (w:ak):
 Calls Tryz.prog 115 #[.slice none n c] w fun e w'=>e=.returned (.slice none 0 0)/\w'=w:=Any.slices_Clone_string_nil Tryz.agL n c w
open Go.RowKit Go.Lib in
def Tryz.slices_Clone_string_zero (a:Addr) (c:Nat) (w:ak):
 Calls Tryz.prog 115 #[.slice (some a) 0 c] w fun e w'=>∃h,e=.returned h/\w'.ownsRow w.heap.size 9 1 h 0 []/\h≠.slice none 0 0/\Below w.heap.size w w':=Any.slices_Clone_string_zero Tryz.agL a c w
end
end
end Go.Proofs.YtdjcfaaongngeaaGreatDoor

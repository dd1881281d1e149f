/- A part of the proof: see the last text. -/
import Derived.Test.YtdjcfaaongngeaaGreatDoorZi
import Derived.Test.YtdjcfaaongngeaaGreatDoorZj
set_option linter.all false
set_option maxRecDepth 100000
set_option maxHeartbeats 0
namespace Go.Proofs.YtdjcfaaongngeaaGreatDoor
noncomputable section
variable {b g i:Nat}{T:Nat->ah D}{P:Prop}{t:Rw}{l L:G Rw}{c:G (G Kd)}{p:G D}{d:D}{q:G Nat}{e:G (G D)}{x:Y}{y:H}{k o:Int}{E:G H}{X:G (G Nat)}
section
open Go Go.RowKit
section
variable {Γ:Nat->bR} {Δ:Nat->gu} {kt:G (G Kd)} {aY:Nat->G DA->Prop} {vals:G D}
def iR {e:Y} {t f:Tree} {b:aK} (h:den (bP vals) e=some (.bool b)) (j:b=true->Tree.wp Γ Δ kt aY t vals) (hf:b=false->Tree.wp Γ Δ kt aY f vals):Tree.wp Γ Δ kt aY (.B e t f) vals:=by
 unfold Tree.wp;rw[h];cases b with
 |true=>exact j rfl
 |false=>exact hf rfl
def lM {e v:Y} {t:Tree} (h:den (bP vals) e=den (bP vals) v) (j:Tree.wp Γ Δ kt aY t vals):Tree.wp Γ Δ kt aY (.fact e v t) vals:=by
 unfold Tree.wp;exact⟨h,j⟩
def nT {pre:G H} {t:Tree} {V:G DA} {ds:G D} {es:G Y} (e:iH (bP vals) E=some V) (h:jv pre=some es) (j:cZ (bP vals) es=some ds) (l:(Γ g).eU V ds)
 (q:∀da post,(Γ g).fP V ds da post->iw kt (Γ g).sig.res da->aJ kt post (Γ g).sig.rk->Tree.wp Γ Δ kt aY t (vals++(nX da++post))):Tree.wp Γ Δ kt aY (.call g E pre t) vals:=by
 unfold Tree.wp;exact⟨V,ds,es,e,h,j,l,q⟩
def uV {ins:G Y} {ts:iO} {ds:G D} (e:cZ (bP vals) ins=some ds) (h:(Δ g).eU ds)
 (l:∀j x S' ks out,(Δ g).sig.outs[j]?=some (x,S',ks)->(Δ g).fP ds j out->aJ kt out ks->iO.wp Γ Δ kt aY ts j (vals++out)):Tree.wp Γ Δ kt aY (.bX g ins ts) vals:=by
 unfold Tree.wp;exact⟨ds,e,h,l⟩
def fV {e:G (Nat×Nat)} {V:G DA} (h:iH (bP vals) E=some V) (l:aY g V):Tree.wp Γ Δ kt aY (.leaf g E e) vals:=by
 unfold Tree.wp;exact⟨V,h,l⟩
end
def aM:G D:=[.int .i64 0,.int .i64 0]
def dL (f:Fa):G D:=[.int .i64 f.1,.int .i64 f.2]
def bG {α:Type} (s:dV Fa α) (enc:α->DA) (any:DA->Prop) (pre:G D) (da:DA) (post:G D):Prop:=
 (pre=aM/\((∃x,s=.ok x/\post=aM/\da=enc x)\/∃f,s=.error f/\f.1≠0/\post=dL f/\any da))\/(∃f,f.1≠0/\pre=dL f/\post=dL f/\any da)
def mU (pre:G D):Prop:=pre=aM\/∃f:Fa,f.1≠0/\pre=dL f
def nD {f:Fa} (h:aM=dL f):f.1=0:=by
 simp only[aM,dL,nV,D.int.injEq,IB] at h;exact h.1.symm
def aEh {f g:Fa} (h:dL f=dL g):f=g:=by
 simp only[dL,nV,D.int.injEq,IB,tZ] at h;exact Prod.ext h.1 h.2
section
variable {α:Type} {s:dV Fa α} {enc:α->DA} {any:DA->Prop} {post:G D} {da:DA}
def bG.vv (h:bG s enc any aM da post):(∃x,s=.ok x/\post=aM/\da=enc x)\/∃f,s=.error f/\f.1≠0/\post=dL f/\any da:=by
 rcases h with⟨_,h⟩|⟨f,e,j,_⟩
 ·exact h
 ·exact absurd (nD j) e
def bG.oq {f:Fa} (hf:f.1≠0) (h:bG s enc any (dL f) da post):post=dL f/\any da:=by
 rcases h with⟨h,_⟩|⟨g,_,e,j,l⟩
 ·exact absurd (nD h.symm) hf
 ·obtain rfl:=aEh e
  exact⟨j,l⟩
def bG.ok {x:α} (h:s=.ok x):bG s enc any aM (enc x) aM:=.inl ⟨rfl,.inl ⟨x,h,rfl,rfl⟩⟩
def bG.err {f:Fa} (h:s=.error f) (hf:f.1≠0) (e:any da):bG s enc any aM da (dL f):=.inl ⟨rfl,.inr ⟨f,h,hf,rfl,e⟩⟩
def bG.fail {f:Fa} (hf:f.1≠0) (e:any da):bG s enc any (dL f) da (dL f):=.inr ⟨f,hf,rfl,rfl,e⟩
end
section
variable {F:Nat->D} {a b i e:Y} {x y z d:D} {rows:G (G D)} {row:G D} {j n:Nat}
def gI {k:tQ} (e:den F a=some (.R rows)) (J:den F i=some (.int k (n:Nat))) (U:rows[n]?=some row) (h:row[j]?=some d):den F (.cell a i j)=some d:=by
 simp only[den,e,J,f_];show(match rows[n]? with|some row=>row[j]?|none=>none)=_
 rw[U];exact h
def mJ {op:BinOp} (e:den F a=some x) (j:den F b=some y) (h:jl op x y=some z):den F (.bin op a b)=some z:=by
 simp only[den,e,j,f_,h]
def apd {c:aK} (e:den F a=some (.bool c)):den F (.not a)=some (.bool !c):=by
 simp only[den,e,f_,Tx]
def uq (e:den F a=some (.R rows)):den F (.len a)=some (.int .i64 rows.length):=by
 simp only[den,e,f_,sD]
def KR {r:G Y} (e:den F a=some (.R rows)) (U:cZ F r=some row):den F (.snoc a r)=some (.R (rows++[row])):=by
 simp only[den,e,U,f_,LJ]
def gP {r:G Y} (e:den F a=some d) (U:cZ F r=some p):cZ F (a::r)=some (d::p):=by
 simp only[cZ,e,U,f_]
def uy:cZ F []=some []:=rfl
def sj (h:den F e=some d):iU F (.S e)=some (.one d):=by
 simp only[iU,tN,h,Co]
def vC {es:G Y} {ds:G D} (e:jv E=some es) (h:cZ F es=some ds):iU F (.agg E)=some (.agg ds):=by
 simp only[iU,e,h,Co]
def jD {v:H} {x:DA} {e:G DA} (h:iU F v=some x) (U:iH F E=some e):iH F (v::E)=some (x::e):=by
 simp only[iH,h,U]
def qh:iH F []=some []:=rfl
def uw (h:F g=.int .i64 k) (hf:k≠0):den F (.bin .eql (.var g) (.int .i64 0))=some (.bool false):=by
 simp only[den,h,f_,jl,qX];rw[show(k==0)=false by simpa using hf]
def mg {c:aK} (h:den F e=some (.bool c)) (hc:c=true):den F e=den F (.bool true):=by
 rw[h,hc];rfl
end
section
variable {Γ:Nat->bR} {Δ:Nat->gu} {kt:G (G Kd)} {aY:Nat->G DA->Prop} {vals:G D} {t:Tree} {r:iO} {j:Nat}
def p9 (h:Tree.wp Γ Δ kt aY t vals):iO.wp Γ Δ kt aY (.cons t r) 0 vals:=by
 unfold iO.wp;exact h
def Eb (h:iO.wp Γ Δ kt aY r j vals):iO.wp Γ Δ kt aY (.cons t r) (j+1) vals:=by
 unfold iO.wp;exact h
end
abbrev C:Kd:=.int .i64
def eB:G Kd:=[C,.str,.R 1,C]
def fZ:G Kd:=[C,.str,.R 8,C]
def fC:G Kd:=[C,.str,C,.R 2]
def kFd:G Kd:=[.str,C,.str,C,.R 2]
def kEx:G Kd:=[C,.str,C,.str,C,.str,C,.R 2,.R 4,.R 5]
def tq:G Kd:=[C,.str,.R 0,C,.str,C,.R 2,.R 3,.R 4]
def OU:G Kd:=[.str,.R 5]
def O:G (G Kd):=[[.str],eB,fC,kFd,kEx,tq,OU,[.R 5],fZ,[C]]
def fl:G Kd:=[C,C]
def aO {k:tQ}:aW c (.int k o) (.int k):=rfl
def zu {b:aK}:aW c (.bool b) .bool:=rfl
def mo (h:q.length<=gB):aW c (.str q) .str:=⟨rfl,h⟩
def eP (h:e.length<=gB) (U:dR c e (c.getD b [])):aW c (.R e) (.R b):=⟨b,rfl,h,U⟩
def OH:aW c (.R []) (.R b):=⟨b,rfl,gK _,True.intro⟩
def aX:aJ c [] []:=rfl
def ay {ds:G D} {k:Kd} {ks:G Kd} (h:aW c d k) (e:aJ c ds ks):aJ c (d::ds) (k::ks):=⟨k,ks,rfl,h,e⟩
def nZ {k:Kd} (h:aW c d k):iw c (.one k) (.one d):=⟨d,rfl,h⟩
def agC {ks:G Kd} (h:aJ c p ks):iw c (.agg ks) (.agg p):=⟨p,rfl,h⟩
def asC {ds:G DA} {rs:G RT} (h:fH c rs ds):iw c (.dD rs) (.dD ds):=⟨ds,rfl,h⟩
def agE:fH c [] []:=rfl
def SH {d:DA} {ds:G DA} {r:RT} {rs:G RT} (h:iw c r d) (e:fH c rs ds):fH c (r::rs) (d::ds):=⟨d,ds,rfl,h,e⟩
def dW {k:Kd} {ks:G Kd} (h:aJ c p (k::ks)):∃d ds,p=d::ds/\aW c d k/\aJ c ds ks:=by
 cases p with
 |nil=>cases(show(k::ks)=[] from h)
 |cons d ds=>
  obtain⟨k',r,e,j,q⟩:=h;cases e;exact⟨d,ds,rfl,j,q⟩
def wE (h:aJ c p []):p=[]:=by
 cases p with
 |nil=>rfl
 |cons d ds=>obtain⟨k',r,e,_⟩:=h;cases e
def bW (h:aW c d (.R b)):∃rows,d=.R rows/\rows.length<=gB/\dR c rows (c.getD b []):=by
 obtain⟨rows,rfl,_⟩:=h.fn rfl;obtain⟨q,e,j,l⟩:=h;cases e;exact⟨rows,rfl,j,l⟩
def jT {kt:G (G Kd)} (h:aJ kt p [C,.str,.R b,C]):∃k t c o,p=[.int .i64 k,.str t,.R c,.int .i64 o]/\t.length<=gB/\c.length<=gB/\dR kt c (kt.getD b []):=by
 obtain⟨d1,w,rfl,e,h⟩:=dW h;obtain⟨y,A,rfl,j,h⟩:=dW h;obtain⟨E,F,rfl,l,h⟩:=dW h;obtain⟨P,W,rfl,q,h⟩:=dW h;obtain rfl:=wE h;obtain⟨k,rfl⟩:=e.int;obtain⟨t,rfl,u⟩:=j.str;obtain⟨c,rfl,hc,U⟩:=bW l;obtain⟨o,rfl⟩:=q.int;exact⟨k,t,c,o,rfl,u,hc,U⟩
def oF {kt:G (G Kd)} (h:aJ kt p [C,.str,C,.R b]):∃k t i c,p=[.int .i64 k,.str t,.int .i64 i,.R c]/\t.length<=gB/\c.length<=gB/\dR kt c (kt.getD b []):=by
 obtain⟨d1,w,rfl,e,h⟩:=dW h;obtain⟨y,A,rfl,j,h⟩:=dW h;obtain⟨E,F,rfl,l,h⟩:=dW h;obtain⟨P,W,rfl,q,h⟩:=dW h;obtain rfl:=wE h;obtain⟨k,rfl⟩:=e.int;obtain⟨t,rfl,u⟩:=j.str;obtain⟨i,rfl⟩:=l.int;obtain⟨c,rfl,hc,U⟩:=bW q;exact⟨k,t,i,c,rfl,u,hc,U⟩
def aEd (h:aJ c p fl):∃k o,p=[.int .i64 k,.int .i64 o]:=by
 obtain⟨d1,l,rfl,e,h⟩:=dW h;obtain⟨q,u,rfl,j,h⟩:=dW h;obtain rfl:=wE h;obtain⟨k,rfl⟩:=e.int;obtain⟨o,rfl⟩:=j.int;exact⟨k,o,rfl⟩
def Ym {kt:G (G Kd)} (h:aJ kt p kEx):∃a b c d e f g i j k,p=[a,b,c,d,e,f,g,i,j,k]/\aW kt a C/\aW kt b .str/\aW kt c C/\aW kt d .str/\aW kt e C/\aW kt f .str/\aW kt g C/\aW kt i (.R 2)/\aW kt j (.R 4)/\aW kt k (.R 5):=by
 obtain⟨d1,W,rfl,l,h⟩:=dW h;obtain⟨a',b',rfl,q,h⟩:=dW h;obtain⟨c',d',rfl,u,h⟩:=dW h;obtain⟨e',f',rfl,w,h⟩:=dW h;obtain⟨g',h',rfl,y,h⟩:=dW h;obtain⟨i',j',rfl,A,h⟩:=dW h;obtain⟨k',l',rfl,E,h⟩:=dW h;obtain⟨m',n',rfl,F,h⟩:=dW h;obtain⟨o',p',rfl,P,h⟩:=dW h;obtain⟨d0,q',rfl,T,h⟩:=dW h;obtain rfl:=wE h;exact⟨_,_,_,_,_,_,_,_,_,_,rfl,l,q,u,w,y,A,E,F,P,T⟩
def Ot {kt:G (G Kd)} (h:aJ kt p tq):∃a b c d e f g i j,p=[a,b,c,d,e,f,g,i,j]/\aW kt a C/\aW kt b .str/\aW kt c (.R 0)/\aW kt d C/\aW kt e .str/\aW kt f C/\aW kt g (.R 2)/\aW kt i (.R 3)/\aW kt j (.R 4):=by
 obtain⟨d1,T,rfl,l,h⟩:=dW h;obtain⟨W,a',rfl,q,h⟩:=dW h;obtain⟨b',c',rfl,u,h⟩:=dW h;obtain⟨d',e',rfl,w,h⟩:=dW h;obtain⟨f',g',rfl,y,h⟩:=dW h;obtain⟨h',i',rfl,A,h⟩:=dW h;obtain⟨j',k',rfl,E,h⟩:=dW h;obtain⟨l',m',rfl,F,h⟩:=dW h;obtain⟨n',o',rfl,P,h⟩:=dW h;obtain rfl:=wE h;exact⟨_,_,_,_,_,_,_,_,_,rfl,l,q,u,w,y,A,E,F,P⟩
def PO (h:aJ c p [.str]):∃t,p=[.str t]/\t.length<=gB:=by
 obtain⟨d1,l,rfl,e,h⟩:=dW h;obtain rfl:=wE h;obtain⟨t,rfl,j⟩:=e.str;exact⟨t,rfl,j⟩
def Dt {ks:G Kd} (h:iw c (.agg ks) (.agg p)):aJ c p ks:=by
 obtain⟨ds,e,j⟩:=h;cases e;exact j
def asB {x:D} {k:Kd} (h:iw c (.one k) (.one x)):aW c x k:=by
 obtain⟨d,e,j⟩:=h;cases e;exact j
def SG {x:DA} {k:Kd} (h:iw c (.one k) x):∃d,x=.one d/\aW c d k:=h
def asA {x:DA} {ks:G Kd} (h:iw c (.agg ks) x):∃ds,x=.agg ds/\aJ c ds ks:=h
def OL {x:DA} {j l:RT} (h:iw c (.dD [j,l]) x):∃a b,x=.dD [a,b]/\iw c j a/\iw c l b:=by
 obtain⟨ds,rfl,a,V,rfl,q,b,e,rfl,u,w⟩:=h;obtain rfl:e=[]:=w;exact⟨a,b,rfl,q,u⟩
def kZ {ks:G Kd} (h:dR c e ks) {n:Nat} (hn:n<e.length):∃row,e[n]?=some row/\aJ c row ks:=
 ⟨e[n],gM hn,h.get (gM hn)⟩
def OI {ks:G Kd} (h:dR c e ks) (U:aJ c p ks):dR c (e++[p]) ks:=
 dR.of fun r j=>by
  rcases qV.1 j with j|j
  ·exact h.mem r j
  ·obtain rfl:=yR.1 j;exact U
def wrap_small (h:b<1000001):IntKind.i64.wrap ((b:Int)+1)=((b+1:Nat):Int):=by
 exact Yt
def ny {e:Type} {l:G e} {a:e} (h:l[b]?=some a):l.drop b=a::l.drop (b+1):=by
 have hn:=(gN.1 h).1;rw[awT hn]
 congr 1
 exact(gN.1 h).2
def sZ:DA->Int
 |.one d=>iD d
 |_=>0
def lU (f:ig) (res:RT) (eU:G DA->Prop) (fP:G DA->DA->Prop):bR:=⟨⟨f,none,res⟩,fun V pre=>eU V/\pre=[],fun V _ e post=>fP V e/\post=[]⟩
def mX (f:ig) (res:RT) (eU:G DA->G D->Prop) (fP:G DA->G D->DA->G D->Prop):bR:=⟨⟨f,some fl,res⟩,fun V pre=>eU V pre/\mU pre,fP⟩
def iQ:DA->Prop:=fun _=>True
def aon:DA->Prop:=fun x=>x=.one (.R [])
def aew:DA->Prop:=fun x=>x=.agg jm
def aBr (r:Rw):DA->Prop:=fun x=>x=.one (.R [])\/x=.one (.R (nc r))
def aBt (r:Rw):DA->Prop:=fun x=>∃a b,x=.dD [.one (.R a),.one (.R b)]/\bM b<=aI r
def aBs (n:Nat):DA->Prop:=fun x=>∃g,x=.agg g/\aI (K8 g)<=n+1
def aCQ (a:ah Addr) (c:Nat) (w:ak):Calls Tryz.prog 115 #[.slice a 0 c] w fun e w'=>(∃j,e=.returned (.slice j 0 0))/\Below w.heap.size w w':=by
 cases a with
 |none=>exact(Tryz.slices_Clone_string_nil 0 c w).mono fun e w' ⟨l,u⟩=>⟨⟨none,l⟩,u▸iN _ _⟩
 |some y=>
  have q:∀(w:ak) (a:ah Addr) (n c h c':Nat),(binOp .eql 36 (.slice a n c) (.slice none h c')).run Tryz.prog w=.ok (.bool a.isNone) w:=fun w a n c h c'=>Lib.run_eql_slice_nil w _ _ a n c h c' abl;go_enter Tryz.func115,Tryz.ntmps115;go_wp2_with fail;go_ret;exact⟨⟨_,rfl⟩,(iN _ w).alloc (bq _) _⟩
def awH (X:Ctx) (e:Y):aK:=match pI X e with
 |some (.R T)=>decide (X.kt.getD T []=[.str])
 |_=>false
def z_:wP:=fun X f args s=>if f=115 then match args with
 |[.S e]=>if awH X e then(match vM X (.bin .gtr (.len e) (.int .i64 0)) with
  |.bool true=>some (.gy s.nx e 1,s.new (.seq 1 e))
  |.bool false=>some (.vT,s)
  |_=>none) else none
 |_=>none
 else none
def ave {kt:G (G Kd)} {fz:Nat->ah Obj} {arr:dF av}:∀{rows:G (G D)} {d:Nat},dR kt rows [.str]->iV fz 1 rows arr d->∃ls:G (G Nat),rows=ls.map (fun l=>[D.str l])/\∀j l,ls[j]?=some l->arr[d+j]?=some (.string (bC l))/\∀x∈l,x<256
 |[],_,_,_=>⟨[],rfl,fun j l h=>by simp at h⟩
 |r::rs,d,⟨A,E⟩,⟨q,F,P⟩=>by
  obtain⟨ls,T,W⟩:=ave E P;cases r with
  |nil=>simp at q
  |cons x a'=>
   cases a' with
   |cons _ _=>simp at q
   |nil=>
    obtain⟨k,ks,w,b',_⟩:=A;simp only[nV] at w;obtain⟨rfl,_⟩:=w;obtain⟨l,rfl,_⟩:=b'.str;obtain⟨⟨u,y,e⟩,_⟩:=F;refine⟨l::ls,by rw[T];rfl,fun j l' hj=>?_⟩
    cases j with
    |zero=>simp at hj;subst hj;exact⟨by rw[qy,y,e.1],e.2⟩
    |succ j=>
     have:=W j l' yx;exact⟨by rw[<-this.1];congr 1;omega,this.2⟩
def avd {fz:Nat->ah Obj} {arr:dF av}:∀{ls:G (G Nat)} {d:Nat},(∀j l,ls[j]?=some l->arr[d+j]?=some (.string (bC l))/\∀x∈l,x<256)->iV fz 1 (ls.map fun l=>[D.str l]) arr d
 |[],_,_=>True.intro
 |l::ls,d,h=>⟨rfl,⟨⟨_,(h 0 l rfl).1,rfl,(h 0 l rfl).2⟩,True.intro⟩,avd fun j l' hj=>by
   have:=h (j+1) l' yx;exact⟨by rw[<-this.1];congr 1;omega,this.2⟩⟩
def mI:J9 T Tryz.prog z_:=by
 intro vals X f args s v s' m' h;unfold z_ at h;split at h
 rotate_left
 ·cases h
 rename_i hf;subst hf;split at h
 rotate_left
 ·cases h
 rename_i e;split at h
 rotate_left
 ·cases h
 rename_i P;have A:=JF m' (.bin .gtr (.len e) (.int .i64 0));unfold awH at P;split at P
 rotate_left
 ·cases P
 rename_i m0 i';simp only[iL] at P;intro base ρ w us o0 U b0;obtain⟨u,v',rfl,⟨d,n',b'⟩,hn⟩:=b0;obtain rfl:v'=[]:=hn;obtain⟨rows,rfl,_⟩:=aW.fn (xJ m' n' i') rfl;obtain⟨r0,x',d',e'⟩:=xJ m' n' i';cases x';rw[P] at e';obtain⟨e0,cap,rfl,y',l0,W⟩:=b';simp only[den] at A;have f':den (kC T vals).val e=some (.R rows):=n';rw[f'] at A;simp only[f_,sD,jl,qX] at A;split at h
 ·rename_i g'
  rw[g'] at A;simp only[den,aG,D.bool.injEq] at A;have E:0<rows.length:=by simpa using A.symm
  simp only[aG,eG] at h;obtain⟨rfl,rfl⟩:=h;rcases W with W|⟨g,d0,arr,f0,fr,z,rfl,z',b'⟩
  ·rw[W] at E;simp at E
  ·have o':z=1:=by
    cases rows with
    |nil=>simp at E
    |cons r rs=>
     have s0:r.length=1:=e'.1.length;have t0:r.length=z:=b'.1;omega
   subst o';obtain⟨ls,rfl,j'⟩:=ave e' b';have p':w.heap[g]?=some (.cells arr f0 fr):=U.nM g _ z';have c':(ls.map fun l=>[D.str l]).length=ls.length:=tX ..;rw[c'] at d' E y'⊢;have h':∀j,j<(ls.map bC).length->w.cell? ⟨g,d0+j,none⟩=some (.string ((ls.map bC).getD j ByteArray.empty)):=fun j a'=>by
    rw[tX] at a';rw[gX w _ _ _ _ _ p',(j' j _ (gM a')).1];simp[List.getD,AQ,gM a']
   refine uW (Tryz.slices_Clone_string g d0 ls.length cap (ls.map bC) w (by rw[tX];exact bq _) (by unfold gB at d';omega) h') ?_
   rintro g0 w' ⟨u0,rfl,q',A',y⟩;obtain⟨_,⟨D',_⟩|⟨E',F,k',rfl,l',F',L',M',r',P'⟩⟩:=q'
   ·exact absurd D' A'
   have t':∀k,k<w.heap.size->w'.heap[k]?=w.heap[k]?:=fun k P=>y.block k P;have u':∀j l,ls[j]?=some l->k'[0+j]?=some (.string (bC l))/\∀x∈l,x<256:=fun j l a'=>by
    have T':j<ls.length:=(gN.1 a').1;refine⟨?_,(j' j l a').2⟩;have W':=iE (fun q=>q[j]?) P';simp only[ai5,List.getElem?_take,bK T',AZ (show(ls.map bC).length<=ls.length by rw[tX];exact bq _),AQ,a',Co] at W'
    rw[jW,<-J2];exact W'
   obtain⟨h0,i0⟩:=U.newAt (.seq 1 e) ⟨E',0,F⟩ l' ⟨y.os,y.tape,y.output⟩ y.size t' ⟨fF U.base l',k',_,_,F',f',by rw[r'];simp,by rw[c'];show ls.length*1<=F;omega,avd u'⟩
   exact⟨_,_,rfl,⟨⟨E',0,F⟩,F,_,Mp.nS _ _ _,f',by rw[c'],by rw[c'];exact L',M',by simp⟩,h0,i0⟩
 ·rename_i g'
  rw[g'] at A;simp only[den,aG,D.bool.injEq] at A;have o':rows.length=0:=by
   have:¬(0:Int)<(rows.length:Int):=by simpa using A.symm
   omega
  simp only[aG,eG] at h;obtain⟨rfl,rfl⟩:=h;rw[o'];refine uW (aCQ e0 cap w) ?_;rintro g0 w' ⟨⟨j0,rfl⟩,y⟩;exact⟨_,ρ,rfl,⟨j0,rfl⟩,U.off y.size (fun b o l g' k0=>y.block _ (U.uO g' k0)) (fun g o X'=>y.block _ (U.Bv X')),(fA.refl U).off ⟨y.os,y.tape,y.output⟩ y.size fun g a0=>y.block g a0⟩
 ·cases h
abbrev bR.aA (c:bR) (T:Nat->ah D):Prop:=c.Ok T Tryz.prog O
def tT:D:=JV xM
def tS:D:=JV BR
def fM:G D:=[tT,tT,tS]
def B3:Eo:=⟨[],[.R 0,.R 0,.R 0],[(3,0),(4,1),(1,2)]⟩
structure bH (T:Nat->Option D):Prop where
 t1:T 3=some tT
 t2:T 4=some tT
 t3:T 1=some tS
 err:∃ev,T 6=some (.any ev)/\(ev=.nilIface\/∃te pe,ev=.iface te pe)
def JQ:xM.length<=gB/\∀l∈xM,l.length<=gB:=by decide+kernel
def aaq:BR.length<=gB/\∀l∈BR,l.length<=gB:=by decide+kernel
def lT (h:bH T):Qf T O fM B3:=by
 refine⟨fun e v j=>(by cases j),fun e v j=>(by cases j),ay (PG rfl _ JQ.1 JQ.2) (ay (PG rfl _ JQ.1 JQ.2) (ay (PG rfl _ aaq.1 aaq.2) aX)),fun g i j=>?_⟩
 simp only[B3,g_,eG,Ef,FV] at j;rcases j with⟨rfl,rfl⟩|⟨rfl,rfl⟩|⟨rfl,rfl⟩
 ·exact⟨by decide,h.t1⟩
 ·exact⟨by decide,h.t2⟩
 ·exact⟨by decide,h.t3⟩
def aGE:bR:=⟨⟨0,none,.dD []⟩,fun _ _=>False,fun _ _ _ _=>False⟩
def ql (cs:G bR) (i:Nat):bR:=match cs[i]? with
 |some c=>c
 |none=>aGE
def noL:gu:=⟨⟨0,0,⟨[],[],0⟩,[]⟩,fun _=>False,fun _ _ _=>False⟩
def lam (ls:G gu) (i:Nat):gu:=match ls[i]? with
 |some c=>c
 |none=>noL
def mK {P:bA} {kt:G (G Kd)}:∀{cs:G bR} {e:G bJ},cs.map (·.sig)=e->(∀c∈cs,c.Ok T P kt)->∀i g,e[i]?=some g->(ql cs i).sig=g/\(ql cs i).Ok T P kt:=by
 intro cs e q h i g j;subst q;rw[AQ] at j;obtain⟨c,l,u⟩:=lq.1 j;unfold ql;rw[l];exact⟨u,h c (kg l)⟩
def mP {P:bA} {dK:iB->Prop} {kt:G (G Kd)} {bY:G D}:∀{ls:G gu} {e:G eX},ls.map (·.sig)=e->(∀c∈ls,c.Ok T P dK kt bY)->∀i g,e[i]?=some g->(lam ls i).sig=g/\(lam ls i).Ok T P dK kt bY:=by
 intro cs w q h i g j;subst q;rw[AQ] at j;obtain⟨c,l,u⟩:=lq.1 j;unfold lam;rw[l];exact⟨u,h c (kg l)⟩
def all_nil {e:Type} {p:e->Prop}:∀c∈([]:G e),p c:=fun _ h=>by cases h
def all_cons {e:Type} {p:e->Prop} {a:e} {l:G e} (h:p a) (j:∀c∈l,p c):∀c∈a::l,p c:=fun c hc=>by
 rcases g_.1 hc with rfl|hc
 ·exact h
 ·exact j c hc
def aGP (h:mU p):(∃k o,p=[.int .i64 k,.int .i64 o]):=by
 rcases h with rfl|⟨f,_,rfl⟩
 ·exact⟨0,0,rfl⟩
 ·exact⟨f.1,f.2,rfl⟩
def OD {b:Int}:aJ c [.int .i64 o,.int .i64 b] fl:=ay aO (ay aO aX)
def kU (f:ig):iB:=match Tryz.prog.funcs[f]? with
 |some fn=>fn.body.getD .skip
 |none=>.skip
abbrev gu.aA (l:gu) (T:Nat->ah D) (f:ig):Prop:=l.Ok T Tryz.prog (fun x=>x∈dO (kU f)) O fM
def Tg:∀{a b:G (G Nat)},a.map bw=b.map bw↔a=b:=by
 intro a b;constructor
 ·intro h
  have e:=iE (List.map wd) h;rw[Iq,Iq] at e;have j:wd∘bw=id:=rfl;rw[j,aa3,aa3] at e;exact e
 ·intro h;rw[h]
def kS {l:G (G Nat)}:bg (l.map bw)=l:=by
 unfold bg;rw[Iq];exact List.map_id' l
def lY:bg []=[]:=rfl
def LU:bg (X.map bw++[[.str q]])=X++[q]:=by
 have:X.map bw++[[.str q]]=(X++[q]).map bw:=by rw[aa2];rfl
 rw[this,kS]
def vR:bg [[.str q]]=[q]:=rfl
def uT:bg (l++[[.str q]])=bg l++[q]:=by
 unfold bg;rw[aa2]
 rfl
def OE {k:Kd} (h:aJ c [d] [k]):aW c d k:=by
 obtain⟨k',r,e,h,_⟩:=h;cases e;exact h
def agD {k:Kd} (h:iw c (.one k) (.one d)):aW c d k:=by
 obtain⟨j,e,h⟩:=h;cases e;exact h
def qj (h:t∈l):aI t<=bM l:=by
 induction l with
 |nil=>cases h
 |cons a l e=>
  simp only[bM];rcases g_.1 h with rfl|h
  ·omega
  ·have:=e h;omega
def aC8 {r:Rw} {j:Nat} (h:r[j]?=some d):uz d<=aI r:=by
 induction r generalizing j with
 |nil=>simp at h
 |cons a l e=>
  simp only[aI];cases j with
  |zero=>simp at h;subst h;omega
  |succ j=>have:=e (j:=j) rM;omega
def wY {k:Int}:aI [.int .i64 k,.str q,.R l,.int .i64 o]=bM l+1:=by
 simp[aI,uz]
def vD {k i:Int} {t:G Nat} {c:G Rw}:aI [.int .i64 k,.str t,.int .i64 i,.R c]=bM c+1:=by
 simp[aI,uz]
def wz {r:Rw} (h:t∈nc r):aI t+1<=aI r:=by
 unfold nc jh at h;split at h
 ·rename_i d e
  have j:=aC8 e;cases d with
  |R l=>
   have q:=qj (show t∈l from h)
   simp only[uz] at j;omega
  |_=>cases h
 ·cases h
def ag8 (h:i<l.length):nth l i∈l:=by
 unfold nth;rw[gM h];exact zG h
def zm (h:sU t=.ok l):l=nc t/\l.length<=6:=by
 unfold sU at h;split at h
 ·split at h
  ·rename_i e
   cases h;exact⟨rfl,e⟩
  ·cases h
 ·cases h
def TF {r b:Rw} (h:mQ r=.ok (t,b)):t∈nc r/\b∈nc r:=by
 unfold mQ at h;split at h
 ·rename_i e
  simp only[bU,iL] at e;cases h;exact⟨ag8 I,ag8 I⟩
 ·cases h
def ahf {fB:Rw->G (G Nat)->dV Fa Rw} {vars:G (G Nat)}:∀{l:G Rw} {s0 s:G (G Nat)×G Rw},bO (fun s x=>aL (mQ x) fun j=>aL (ku j.1 s.1) fun q=>aL (fB j.2 vars) fun t=>.ok (s.1++[q],s.2++[t])) s0 l=.ok s->s.1.length=s0.1.length+l.length
 |[],s0,s,h=>by cases h;rfl
 |x::l,s0,s,h=>by
  unfold bO at h;cases h1:mQ x with
  |error e=>simp only[h1,aL] at h;cases h
  |ok j=>
   cases h2:ku j.1 s0.1 with
   |error e=>simp only[h1,h2,aL] at h;cases h
   |ok q=>
    cases h3:fB j.2 vars with
    |error e=>simp only[h1,h2,h3,aL] at h;cases h
    |ok t=>
     simp only[h1,h2,h3,aL] at h;rw[ahf h];simp;omega
def ato:∀{l:G Rw} {s0 s:G (G Nat)},bO (fun ps x=>aL (ku x ps) fun q=>.ok (ps++[q])) s0 l=.ok s->s.length=s0.length+l.length
 |[],s0,s,h=>by cases h;rfl
 |x::l,s0,s,h=>by
  unfold bO at h;cases h1:ku x s0 with
  |error e=>simp only[h1,aL] at h;cases h
  |ok q=>
   simp only[h1,aL] at h;rw[ato h];simp;omega
def ag1 {r:Rw} {a:G (G Nat)} (h:aL (sU r) Hz=.ok a):a.length<=6:=by
 cases h1:sU r with
 |error e=>rw[h1] at h;cases h
 |ok l=>
  rw[h1] at h;obtain⟨_,j⟩:=zm h1;have:=ato (s:=a) h
  simpa[this] using j
def aaR:bg l.reverse=(bg l).reverse:=by
 unfold bg;rw[List.map_reverse]
def ZG {a:Rw}:nth (a::l) 0=a:=rfl
def ZH {b:Rw}:nth (t::b::l) 1=b:=rfl
def ZI {b c:Rw}:nth (t::b::c::l) 2=c:=rfl
def ag7 {b c d:Rw}:nth (t::b::c::d::l) 3=d:=rfl
def aGx {e:Type} {aj:G (G Nat)->dV Fa e}:(aL (sU t) fun l=>aL (Hz l) aj)=aL (aL (sU t) Hz) aj:=by
 cases sU t<;>rfl
def Fw {a b c e f g h i:D}:K8 [a,b,c,d,e,f,g,h,i]=[d,e,f,g]:=rfl
def Uv {fB:Rw->G (G Nat)->dV Fa Rw} {a:G (G Nat)} (h:yN fB t X=.ok (a,L)):a.length<=6:=by
 unfold yN at h;cases h1:sU t with
 |error e=>rw[h1] at h;cases h
 |ok l=>
  rw[h1] at h;obtain⟨_,j⟩:=zm h1;have:=ahf (s:=(a,L)) h
  simpa[this] using j
def kL {σ:Type} (step:σ->Rw->dV Fa σ) (s0:σ) (rows:G Rw) (pre:G D) (k:Nat) (s:σ) (p:G D):Prop:=
 (pre=aM/\((p=aM/\bO step s0 rows=bO step s (rows.drop k))\/∃f,bO step s0 rows=.error f/\f.1≠0/\p=dL f))\/∃f,f.1≠0/\pre=dL f/\p=dL f
section
variable {σ:Type} {step:σ->Rw->dV Fa σ} {s0 s s':σ} {rows:G Rw} {row:Rw} {pre:G D} {k:Nat} {f:Fa}
def kL.start (h:mU pre):kL step s0 rows pre 0 s0 pre:=by
 rcases h with rfl|⟨f,hf,rfl⟩
 ·exact .inl ⟨rfl,.inl ⟨rfl,rfl⟩⟩
 ·exact .inr ⟨f,hf,rfl,rfl⟩
def kL.next (h:kL step s0 rows pre k s aM) (U:rows[k]?=some row) (e:step s row=.ok s'):kL step s0 rows pre (k+1) s' aM:=by
 rcases h with⟨j,⟨_,l⟩|⟨f,_,q,u⟩⟩|⟨f,hf,_,h⟩
 ·refine .inl ⟨j,.inl ⟨rfl,?_⟩⟩
  rw[l,ny U,bO,e]
 ·exact absurd (nD u) q
 ·exact absurd (nD h) hf
def kL.err (h:kL step s0 rows pre k s aM) (U:rows[k]?=some row) (e:step s row=.error f) (hf:f.1≠0):kL step s0 rows pre (k+1) s' (dL f):=by
 rcases h with⟨j,⟨_,l⟩|⟨g,_,q,u⟩⟩|⟨g,w,_,h⟩
 ·refine .inl ⟨j,.inr ⟨f,?_,hf,rfl⟩⟩
  rw[l,ny U,bO,e]
 ·exact absurd (nD u) q
 ·exact absurd (nD h) w
def kL.bad (hf:f.1≠0) (h:kL step s0 rows pre k s (dL f)):kL step s0 rows pre (k+1) s' (dL f):=by
 rcases h with⟨j,⟨e,_⟩|e⟩|e
 ·exact absurd (nD e.symm) hf
 ·exact .inl ⟨j,.inr e⟩
 ·exact .inr e
def kL.done {enc:σ->DA} {any:DA->Prop} (h:kL step s0 rows pre k s p) (l:p=aM->rows.length<=k) (j:any (enc s)):bG (bO step s0 rows) enc any pre (enc s) p:=by
 rcases h with⟨rfl,⟨rfl,e⟩|⟨f,e,q,rfl⟩⟩|⟨f,hf,rfl,rfl⟩
 ·refine .inl ⟨rfl,.inl ⟨s,?_,rfl,rfl⟩⟩
  rw[e,yQ (l rfl)]
  rfl
 ·exact .inl ⟨rfl,.inr ⟨f,e,q,rfl,j⟩⟩
 ·exact .inr ⟨f,hf,rfl,rfl,j⟩
def kL.jE (h:kL step s0 rows pre k s aM):pre=aM:=by
 rcases h with⟨rfl,_⟩|⟨f,hf,_,h⟩
 ·rfl
 ·exact absurd (nD h) hf
def kL.DT (h:kL step s0 rows pre k s p):mU p:=by
 rcases h with⟨rfl,⟨rfl,e⟩|⟨f,e,j,rfl⟩⟩|⟨f,hf,rfl,rfl⟩
 ·exact .inl rfl
 ·exact .inr ⟨f,j,rfl⟩
 ·exact .inr ⟨f,hf,rfl⟩
end
def TR (s:dV Fa Rw) (e:DA):Prop:=(∃t,s=.ok t/\e=.dD [.agg t,.agg aM])\/∃f,s=.error f/\f.1≠0/\e=.dD [.agg jm,.agg (dL f)]
def TR.ok {s:dV Fa Rw} {t:Rw} (h:s=.ok t):TR s (.dD [.agg t,.agg aM]):=.inl ⟨t,h,rfl⟩
def TR.err {s:dV Fa Rw} {f:Fa} (h:s=.error f) (hf:f.1≠0):TR s (.dD [.agg jm,.agg (dL f)]):=.inr ⟨f,h,hf,rfl⟩
def aC4 {F:Nat->D} (h:den F x=some (.R (p::e))):den F (.sub x (.int .i64 1) (.len x))=some (.R e):=by
 simp only[den,h,f_,sD];show(if 1<=(p::e).length/\(p::e).length<=(p::e).length then some (D.R (((p::e).take (p::e).length).drop 1)) else none)=_
 rw[bK ⟨by simp,bq _⟩,AZ (bq _)]
 rfl
def aC5 {F:Nat->D} {q:G D} (h:den F x=some (.R (p::q::e))):den F (.sub x (.int .i64 2) (.len x))=some (.R e):=by
 simp only[den,h,f_,sD];show(if 2<=(p::q::e).length/\(p::q::e).length<=(p::q::e).length then some (D.R (((p::q::e).take (p::q::e).length).drop 2)) else none)=_
 rw[bK ⟨by simp,bq _⟩,AZ (bq _)]
 rfl
def aC7 {F:Nat->D} (h:den F x=some (.R (p::e))):den F (.sub x (.int .i64 0) (.int .i64 1))=some (.R [p]):=by
 simp only[den,h,f_];show(if 0<=1/\1<=(p::e).length then some (D.R (((p::e).take 1).drop 0)) else none)=_
 rw[bK ⟨by simp,by simp⟩]
 rfl
def aOB {i:Int} (e:-1<=i) (h:i<=2000000):IntKind.i64.wrap i=i:=by
 exact Yt
def aF9 {e:Type} {l:G e} (h:l.length=3):∃a b c,l=[a,b,c]:=by
 match l,h with
 |[a,b,c],_=>exact⟨a,b,c,rfl⟩
def aGa {e:Type} {l:G e} (h:l.length=4):∃a b c d,l=[a,b,c,d]:=by
 match l,h with
 |[a,b,c,d],_=>exact⟨a,b,c,d,rfl⟩
def den_nz {F:Nat->D} {f:Int} (h:F b=.int .i64 f) (hf:f≠0):den F (.bin .neq (.var b) (.int .i64 0))=some (.bool true):=by
 simp only[den,h,f_,jl,qX];rw[show(f !=0)=true by simpa using hf]
def X9:Y×aK->ah (Y×Int×ah Int)
 |(.bin op (.len b) (.int .i64 k),c)=>match op,c with
  |.eql,true=>some (b,k,some k)
  |.eql,false=>some (b,if k=0 then 1 else 0,none)
  |.neq,false=>some (b,k,some k)
  |.neq,true=>some (b,if k=0 then 1 else 0,none)
  |.lss,true=>some (b,0,some (k-1))
  |.lss,false=>some (b,k,none)
  |.leq,true=>some (b,0,some k)
  |.leq,false=>some (b,k+1,none)
  |.gtr,true=>some (b,k+1,none)
  |.gtr,false=>some (b,0,some k)
  |.geq,true=>some (b,k,none)
  |.geq,false=>some (b,0,some (k-1))
  |_,_=>none
 |(.bin op (.int .i64 k) (.len b),c)=>match op,c with
  |.lss,true=>some (b,k+1,none)
  |.lss,false=>some (b,0,some k)
  |.leq,true=>some (b,k,none)
  |.leq,false=>some (b,0,some (k-1))
  |_,_=>none
 |_=>none
section
variable {F:Nat->D}
def ao7 {p:Y×aK} {b:Y} {J:ah Int} {rows:G (G D)} (h:den F p.1=some (.bool p.2)) (hc:X9 p=some (b,o,J)) (q:den F b=some (.R rows)):o<=rows.length/\∀m,J=some m->(rows.length:Int)<=m:=by
 unfold X9 at hc;split at hc
 ·rename_i op l k c
  have e:l=b:=by
   exact aqR
  subst e;simp only[den,q,f_,sD,jl,qX] at h;split at hc<;>first|(cases hc;done)|(simp only[aG,eG,D.bool.injEq,xU,zH,bne_iff_ne,bne_eq_false_iff_eq,iL,ajg,IB] at hc h;obtain⟨rfl,rfl⟩:=hc;constructor<;>first|(intro m j;cases j;done)|(intro m j;simp only[aG] at j;omega)|(split<;>omega)|omega)
 ·rename_i op k l c
  have e:l=b:=by
   exact aqR
  subst e;simp only[den,q,f_,sD,jl,qX] at h;split at hc<;>first|(cases hc;done)|(simp only[aG,eG,D.bool.injEq,iL,ajg,IB] at hc h;obtain⟨rfl,rfl⟩:=hc;constructor<;>first|(intro m j;cases j;done)|(intro m j;simp only[aG] at j;omega)|omega)
 ·cases hc
end
section
variable (kt:G (G Kd)) (L:G (Y×aK)) (ks:G Kd)
def O5 (e:Y) (m:Nat):aK:=L.any fun p=>match X9 p with
 |some (b,lo,_)=>decide ((m:Int)<=lo)&&Y.same b e
 |none=>false
def Jz (e:Y) (m:Nat):aK:=L.any fun p=>match X9 p with
 |some (b,_,some h)=>decide (h<=(m:Int))&&Y.same b e
 |_=>false
def knb (e:Y):aK:=L.any fun p=>p.2&&Y.same p.1 e
def FB:Y->Nat->aK
 |.sub a lo J,m=>decide (m=0)||(O5 L (.sub a lo J) m||(match lo,J with
  |.int _ (.ofNat k),.len b=>Y.same a b&&FB a (m+k)
  |.int _ (.ofNat k),.int _ (.ofNat h)=>decide (m+k<=h)
  |_,_=>false))
 |.snoc a r,m=>decide (m<=1)||(O5 L (.snoc a r) m||FB a (m-1))
 |e,m=>decide (m=0)||O5 L e m
def isNil:Y->aK
 |.d9=>true
 |_=>false
def GI:Y->Nat->aK
 |.d9,_=>true
 |.snoc a r,m=>Jz L (.snoc a r) m||(decide (1<=m)&&GI a (m-1))
 |.sub a lo J,m=>Jz L (.sub a lo J) m||GI a m
 |.cat a b,m=>Jz L (.cat a b) m||(isNil a&&GI b m)
 |e,m=>Jz L e m||(decide (gB<=m)&&(match mM ks kt e with|some (.R _)=>true|_=>false))
mutual
def ck:Y->Kd->aK
 |.var i,k=>match ks[i]? with
  |some k'=>decide (k'=k)
  |none=>false
 |.int k' _,k=>decide (k=.int k')
 |.bool _,k=>decide (k=.bool)
 |.str l,k=>decide (k=.str)&&decide (l.length<=gB)
 |.len a,k=>decide (k=.int .i64)&&(match mM ks kt a with
  |some (.R T)=>ck a (.R T)
  |some .str=>ck a .str
  |_=>false)
 |.cell a i j,k=>match mM ks kt a,i with
  |some (.R T),.int _ (.ofNat n)=>FB L a (n+1)&&decide ((kt.getD T [])[j]?=some k)&&ck a (.R T)
  |some (.R T),.var v=>(knb L (.bin .lss (.var v) (.len a))&&knb L (.bin .geq (.var v) (.int .i64 0)))&&decide ((kt.getD T [])[j]?=some k)&&ck a (.R T)
  |_,_=>false
 |.bin op a b,k=>match op with
  |.eql|.neq=>decide (k=.bool)&&(match mM ks kt a with
   |some (.int c)=>ck a (.int c)&&ck b (.int c)
   |some .bool=>ck a .bool&&ck b .bool
   |some .str=>ck a .str&&ck b .str
   |_=>false)
  |.lss|.leq|.gtr|.geq=>decide (k=.bool)&&(match mM ks kt a with
   |some (.int c)=>ck a (.int c)&&ck b (.int c)
   |_=>false)
  |.add|.sub=>(match k with
   |.int c=>ck a (.int c)&&ck b (.int c)
   |_=>false)
  |_=>false
 |.not a,k=>decide (k=.bool)&&ck a .bool
 |.sub a lo J,k=>match lo,J,k with
  |.int _ (.ofNat n),.len b,.R T=>Y.same a b&&FB L a n&&ck a (.R T)
  |.int _ (.ofNat n),.int _ (.ofNat m),.R T=>decide (n<=m)&&FB L a m&&ck a (.R T)
  |_,_,_=>false
 |.d9,k=>match k with
  |.R _=>true
  |_=>false
 |.snoc a r,k=>match k with
  |.R T=>GI kt L ks (.snoc a r) gB&&ck a (.R T)&&zk r (kt.getD T [])
  |_=>false
 |.cat a b,k=>match k with
  |.R T=>ck b (.R T)&&(isNil a||(Jz L (.cat a b) gB&&ck a (.R T)))
  |_=>false
 |_,_=>false
def zk:G Y->G Kd->aK
 |[],[]=>true
 |a::r,k::q=>ck a k&&zk r q
 |_,_=>false
end
mutual
def Fj:Y->aK
 |.d9=>true
 |.snoc a r=>Fj a&&Ye r
 |.cat a b=>Fj a&&Fj b
 |e=>match mM ks kt e with
  |some (.R T)=>ck kt L ks e (.R T)
  |_=>false
def Ye:G Y->aK
 |[]=>true
 |a::r=>(match mM ks kt a with
  |some k=>ck kt L ks a k
  |none=>Fj a)&&Ye r
end
def af8:Y->aK
 |.bin op (.int k n) (.len a)=>decide (k=.i64)&&Fj kt L ks a&&(match op with
  |.lss=>FB L a (n+1).toNat
  |.leq=>FB L a n.toNat
  |_=>false)
 |.bin op (.len a) (.int k n)=>decide (k=.i64)&&decide (0<=n)&&Fj kt L ks a&&(match op with
  |.leq=>GI kt L ks a n.toNat
  |_=>false)
 |.bin op (.len a) (.len b)=>decide (op=.leq)&&Y.same a b&&Fj kt L ks a
 |_=>false
def Db:H->RT->aK
 |v,.one k=>match tN v with
  |some e=>ck kt L ks e k
  |none=>false
 |.agg cs,.agg q=>match jv cs with
  |some es=>zk kt L ks es q
  |none=>false
 |.tuple [a,b],.dD [r,q]=>Db a r&&Db b q
 |_,_=>false
def wX:G H->G RT->aK
 |[],[]=>true
 |v::vs,r::rs=>Db kt L ks v r&&wX vs rs
 |_,_=>false
end
section
variable {F:Nat->D} {kt:G (G Kd)} {L:G (Y×aK)} {ks:G Kd}
def wR (F:Nat->D) (L:G (Y×aK)):Prop:=∀p∈L,den F p.1=some (.bool p.2)
def Ct (kt:G (G Kd)) (F:Nat->D) (ks:G Kd):Prop:=∀i k,ks[i]?=some k->aW kt (F i) k
def agP (hL:wR F L) {e:Y} {rows:G (G D)} (h:O5 L e g=true) (l:den F e=some (.R rows)):g<=rows.length:=by
 unfold O5 at h;obtain⟨p,Z,j⟩:=aiP.1 h;split at j
 ·rename_i b lo x hc
  simp only[bU,iL] at j;obtain rfl:=Y.jZ j.2;have:=(ao7 (hL p Z) hc l).1;omega
 ·cases j
def SC (hL:wR F L) {e:Y} {m:Nat} {rows:G (G D)} (h:Jz L e m=true) (l:den F e=some (.R rows)):rows.length<=m:=by
 unfold Jz at h;obtain⟨p,Z,j⟩:=aiP.1 h;split at j
 ·rename_i b lo x hc
  simp only[bU,iL] at j;obtain rfl:=Y.jZ j.2;have:=(ao7 (hL p Z) hc l).2 _ rfl;omega
 ·cases j
def asV (hL:wR F L) (h:knb L x=true):den F x=some (.bool true):=by
 obtain⟨p,Z,j⟩:=aiP.1 h;simp only[bU] at j;obtain rfl:=Y.jZ j.2;rw[hL p Z,j.1]
def aOj (h:den F (.bin .lss (.var g) (.len x))=some (.bool true)) (j:den F (.bin .geq (.var g) (.int .i64 0))=some (.bool true)) (l:den F x=some (.R e)):∃n:Nat,F g=.int .i64 n/\n<e.length:=by
 simp only[den,l,f_,sD] at h j;cases hv:F g with
 |int k n=>
  rw[hv] at h j;unfold jl at h j;simp only at h j;split at h
  ·rename_i q
   subst q;simp only[qX,aG,D.bool.injEq,iL] at h j;obtain⟨m,rfl⟩:=aiM j;exact⟨m,rfl,by omega⟩
  ·cases h
 |bool b=>rw[hv] at h;cases h
 |str b=>rw[hv] at h;cases h
 |R b=>rw[hv] at h;cases h
 |any b=>rw[hv] at h;cases h
def zy (hL:wR F L) (h:(decide (b=0)||O5 L x b)=true) (j:den F x=some (.R e)):b<=e.length:=by
 simp only[wL,iL] at h;rcases h with h|h
 ·omega
 ·exact agP hL h j
def aii {a lo J:Y} (h:den F (.sub a lo J)=some (.R e)):∃r l m j q,den F a=some (.R r)/\den F lo=some (.int j (.ofNat l))/\den F J=some (.int q (.ofNat m))/\l<=m/\m<=r.length/\e=(r.take m).drop l:=by
 simp only[den] at h;obtain⟨x,u,h⟩:=kW.1 h;obtain⟨y,w,h⟩:=kW.1 h;obtain⟨z,A,h⟩:=kW.1 h;unfold Uo at h;split at h
 ·split at h
  ·rename_i hc
   cases h;exact⟨_,_,_,_,_,u,w,A,hc.1,hc.2,rfl⟩
  ·cases h
 ·split at h<;>cases h
 ·cases h
def av6 {a:Y} {r:G Y} (h:den F (.snoc a r)=some (.R e)):∃rs row,den F a=some (.R rs)/\cZ F r=some row/\e=rs++[row]:=by
 simp only[den] at h;obtain⟨x,j,h⟩:=kW.1 h;obtain⟨y,l,h⟩:=kW.1 h;unfold LJ at h;split at h
 ·cases h
  exact⟨_,_,j,l,rfl⟩
 ·cases h
def afu {b:Y} {rb:G (G D)} (h:den F x=some (.R e)) (j:den F b=some (.R rb)):den F (.cat x b)=some (.R (e++rb)):=by
 simp only[den,h,j,f_,ND]
def asw {kt:G (G Kd)} {q:G Kd}:∀{a b:G (G D)},dR kt a q->dR kt b q->dR kt (a++b) q
 |[],_,_,h=>h
 |_::_,_,h,k=>⟨h.1,asw h.2 k⟩
def aCL {b:Y} (j:isNil x=true) (h:den F b=some (.R e)):den F (.cat x b)=some (.R e):=by
 unfold isNil at j;split at j
 ·simp only[den,h,f_,ND,qW]
 ·cases j
def aCM {a b:Y} {rows:G (G D)} (l:isNil a=true) (h:den F (.cat a b)=some (.R rows)):den F b=some (.R rows):=by
 unfold isNil at l;split at l
 ·simp only[den,f_] at h
  obtain⟨x,q,j⟩:=kW.1 h;unfold ND at j;split at j
  ·rename_i e
   cases e;cases j;exact q
  ·cases j
 ·cases l
def O6 (hL:wR F L):∀{e:Y} {m:Nat} {rows:G (G D)},FB L e m=true->den F e=some (.R rows)->m<=rows.length
 |.sub a lo J,m,rows,h,j=>by
  simp only[FB,wL,iL] at h;rcases h with h|h|h
  ·omega
  ·exact agP hL h j
  ·split at h
   ·rename_i k b
    simp only[bU] at h;obtain rfl:=Y.jZ h.1;obtain⟨r,l,q,A,E,w,u,y,P,T,rfl⟩:=aii j;have b':=O6 hL h.2 w;simp only[den,w,f_,sD,aG,D.int.injEq] at u y;have W:r.length=q:=UG y.2;have a':k=l:=UG u.2;simp only[sK,oL];omega
   ·rename_i c' k d' q
    obtain⟨r,l,p,A,E,w,u,y,P,T,rfl⟩:=aii j;replace h:=Cr h;simp only[den,aG,D.int.injEq] at u y;have W:q=p:=UG y.2;have a':k=l:=UG u.2;simp only[sK,oL];omega
   ·cases h
 |.snoc a r,m,rows,h,j=>by
  simp only[FB,wL,iL] at h;obtain⟨rs,row,w,u,rfl⟩:=av6 j;simp only[mD,gD,lN];rcases h with h|h|h
  ·omega
  ·have:=agP hL h j
   simpa using this
  ·have:=O6 hL h w
   omega
 |.var _,_,_,h,j=>zy hL h j
 |.int _ _,_,_,h,j=>zy hL h j
 |.bool _,_,_,h,j=>zy hL h j
 |.str _,_,_,h,j=>zy hL h j
 |.len _,_,_,h,j=>zy hL h j
 |.cell ..,_,_,h,j=>zy hL h j
 |.byte ..,_,_,h,j=>zy hL h j
 |.bin ..,_,_,h,j=>zy hL h j
 |.not _,_,_,h,j=>zy hL h j
 |.neg _,_,_,h,j=>zy hL h j
 |.conv ..,_,_,h,j=>zy hL h j
 |.d9,_,_,h,j=>zy hL h j
 |.cat ..,_,_,h,j=>zy hL h j
 |.lit _,_,_,h,j=>zy hL h j
def BF (q:Ct kt F ks) (hL:wR F L) {m:Nat} (h:(Jz L x m||(decide (gB<=m)&&(match mM ks kt x with|some (.R _)=>true|_=>false)))=true) (j:den F x=some (.R e)):e.length<=m:=by
 simp only[wL,bU,iL] at h;rcases h with h|⟨y,l⟩
 ·exact SC hL h j
 ·split at l
  ·rename_i T u
   obtain⟨_,w,A,_⟩:=bW (Lg q _ _ _ j u);cases w;omega
  ·cases l
def SE (u:Ct kt F ks) (hL:wR F L):∀{e:Y} {m:Nat} {rows:G (G D)},GI kt L ks e m=true->den F e=some (.R rows)->rows.length<=m
 |.sub a lo J,m,rows,h,j=>by
  simp only[GI,wL] at h;rcases h with h|h
  ·exact SC hL h j
  ·obtain⟨r,l,q,A,E,w,y,P,T,W,rfl⟩:=aii j
   have:=SE u hL h w;simp only[sK,oL];omega
 |.snoc a r,m,rows,h,j=>by
  simp only[GI,wL,bU,iL] at h;rcases h with h|h
  ·exact SC hL h j
  ·obtain⟨rs,row,w,y,rfl⟩:=av6 j
   have:=SE u hL h.2 w;simp only[mD,gD,lN];omega
 |.d9,m,rows,_,j=>by
  simp only[den,aG,D.R.injEq] at j;subst j;exact gK _
 |.var _,_,_,h,j=>BF u hL h j
 |.int _ _,_,_,h,j=>BF u hL h j
 |.bool _,_,_,h,j=>BF u hL h j
 |.str _,_,_,h,j=>BF u hL h j
 |.len _,_,_,h,j=>BF u hL h j
 |.cell ..,_,_,h,j=>BF u hL h j
 |.byte ..,_,_,h,j=>BF u hL h j
 |.bin ..,_,_,h,j=>BF u hL h j
 |.not _,_,_,h,j=>BF u hL h j
 |.neg _,_,_,h,j=>BF u hL h j
 |.conv ..,_,_,h,j=>BF u hL h j
 |.cat a b,m,rows,h,j=>by
  simp only[GI,wL,bU] at h;rcases h with h|h
  ·exact SC hL h j
  ·exact SE u hL h.2 (aCM h.1 j)
 |.lit _,_,_,h,j=>BF u hL h j
def Dn (kt:G (G Kd)) (F:Nat->D) (e:Y) (k:Kd):Prop:=∃d,den F e=some d/\aW kt d k
def Dn.R {e:Y} {T:Nat} (h:Dn kt F e (.R T)):∃rows,den F e=some (.R rows)/\rows.length<=gB/\dR kt rows (kt.getD T []):=by
 obtain⟨d,j,l⟩:=h;obtain⟨rows,rfl,q,u⟩:=bW l;exact⟨rows,j,q,u⟩
def Dn.int {e:Y} {c:tQ} (h:Dn kt F e (.int c)):∃n,den F e=some (.int c n):=by
 obtain⟨d,j,l⟩:=h;obtain⟨n,rfl⟩:=l.int;exact⟨n,j⟩
def aDe {op:BinOp} {a b:Y} {k:Kd} (u:∀k,mM ks kt a=some k->ck kt L ks a k=true->Dn kt F a k) (Sw:∀k,ck kt L ks a k=true->Dn kt F a k) (hb:∀k,ck kt L ks b k=true->Dn kt F b k) (h:ck kt L ks (.bin op a b) k=true):Dn kt F (.bin op a b) k:=by
 have E1:∀{x y z},den F a=some x->den F b=some y->jl op x y=some z->aW kt z k->Dn kt F (.bin op a b) k:=fun e j l q=>⟨_,mJ e j l,q⟩;unfold ck at h;split at h
 ·exact aqW
 ·exact aqW
 all_goals first
  |(cases h;done)
  |(simp only[bU,iL] at h
    obtain⟨rfl,h⟩:=h;split at h
    ·simp only[bU] at h
     obtain⟨n,e⟩:=(Sw _ h.1).int;obtain⟨m,j⟩:=(hb _ h.2).int;exact E1 e j (bK rfl) rfl
    ·cases h)
  |(split at h
    ·simp only[bU] at h
     obtain⟨n,e⟩:=(Sw _ h.1).int;obtain⟨m,j⟩:=(hb _ h.2).int;exact E1 e j (bK rfl) rfl
    ·cases h)
mutual
def vw (u:Ct kt F ks) (hL:wR F L):∀{e:Y} {k:Kd},ck kt L ks e k=true->Dn kt F e k
 |.var i,k,h=>by
  unfold ck at h;split at h
  ·rename_i k' e'
   obtain rfl:=Cr h;exact⟨_,rfl,u i _ e'⟩
  ·cases h
 |.int k' n,k,h=>by
  unfold ck at h;obtain rfl:=Cr h;exact⟨_,rfl,rfl⟩
 |.bool b,k,h=>by
  unfold ck at h;obtain rfl:=Cr h;exact⟨_,rfl,rfl⟩
 |.str l,k,h=>by
  unfold ck at h;simp only[bU,iL] at h;obtain⟨rfl,h⟩:=h;exact⟨_,rfl,rfl,h⟩
 |.d9,k,h=>by
  unfold ck at h;split at h
  ·exact⟨_,rfl,OH⟩
  ·cases h
 |.len a,k,h=>by
  unfold ck at h;simp only[bU,iL] at h;obtain⟨rfl,h⟩:=h;split at h
  ·obtain⟨rows,q,_⟩:=(vw u hL h).R
   exact⟨_,uq q,rfl⟩
  ·obtain⟨d,q,E⟩:=vw u hL h
   obtain⟨l,rfl,_⟩:=E.str;exact⟨.int .i64 l.length,by simp only[den,q,f_,sD],rfl⟩
  ·cases h
 |.cell a i j,k,h=>by
  unfold ck at h;split at h
  ·rename_i T j' n f'
   simp only[bU,iL] at h;obtain⟨rows,q,_,w⟩:=(vw u hL h.2).R;have y:=O6 hL h.1.1 q;obtain⟨row,P,A⟩:=kZ w (n:=n) I;have W:=A.length;have a':j<(kt.getD T []).length:=(gN.1 h.1.2).1;obtain⟨k',b',c'⟩:=A.get (gM (W▸a'));rw[h.1.2] at b';cases b';exact⟨_,gI q rfl P (gM (W▸a')),c'⟩
  ·rename_i T v f'
   simp only[bU,iL] at h;obtain⟨rows,q,_,w⟩:=(vw u hL h.2).R;obtain⟨n,y,d'⟩:=aOj (asV hL h.1.1.1) (asV hL h.1.1.2) q;obtain⟨row,P,A⟩:=kZ w d';have W:=A.length;have a':j<(kt.getD T []).length:=(gN.1 h.1.2).1;obtain⟨k',b',c'⟩:=A.get (gM (W▸a'));rw[h.1.2] at b';cases b';exact⟨_,gI q (show den F (.var v)=some (.int .i64 n) by simp only[den,y]) P (gM (W▸a')),c'⟩
  ·cases h
 |.bin op a b,k,h=>aDe (fun _ _ h=>vw u hL h) (fun _ h=>vw u hL h) (fun _ h=>vw u hL h) h
 |.not a,k,h=>by
  unfold ck at h;simp only[bU,iL] at h;obtain⟨rfl,h⟩:=h;obtain⟨d,q,E⟩:=vw u hL h;obtain⟨b,rfl⟩:=E.bool;exact⟨_,apd q,rfl⟩
 |.sub a lo J,k,h=>by
  unfold ck at h;split at h
  ·rename_i g' n b T
   simp only[bU] at h;obtain rfl:=Y.jZ h.1.1;obtain⟨rows,q,E,w⟩:=(vw u hL h.2).R;have y:=O6 hL h.1.2 q;refine⟨.R ((rows.take rows.length).drop n),?_,eP gJ (dR.of fun r U=>w.mem r (J3 (AY U)))⟩;simp only[den,q,f_,sD];show(if n<=rows.length/\rows.length<=rows.length then some _ else none)=_
   rw[bK ⟨y,bq _⟩]
  ·rename_i g' n l' m T
   simp only[bU,iL] at h;obtain⟨rows,q,E,w⟩:=(vw u hL h.2).R;have y:=O6 hL h.1.2 q;refine⟨.R ((rows.take m).drop n),?_,eP gJ (dR.of fun r U=>w.mem r (J3 (AY U)))⟩;simp only[den,q,f_,Uo];rw[bK ⟨h.1.1,y⟩]
  ·cases h
 |.snoc a r,k,h=>by
  unfold ck at h;split at h
  ·rename_i T
   simp only[bU] at h;obtain⟨rows,q,E,w⟩:=(vw u hL h.1.2).R;obtain⟨row,y,P⟩:=Fe u hL h.2;have A:den F (.snoc a r)=some (.R (rows++[row])):=KR q y;exact⟨_,A,eP (SE u hL h.1.1 A) (OI w P)⟩
  ·cases h
 |.byte ..,_,h=>by unfold ck at h;cases h
 |.neg _,_,h=>by unfold ck at h;cases h
 |.conv ..,_,h=>by unfold ck at h;cases h
 |.cat a b,k,h=>by
  unfold ck at h;split at h
  ·simp only[bU,wL] at h
   obtain⟨rows,q,E,w⟩:=(vw u hL h.1).R;rcases h.2 with y|⟨y,P⟩
   ·exact⟨_,aCL y q,eP E w⟩
   ·obtain⟨ra,h',m',i'⟩:=(vw u hL P).R
    have A:den F (.cat a b)=some (.R (ra++rows)):=afu h' q;exact⟨_,A,eP (SC hL y A) (asw i' w)⟩
  ·cases h
 |.lit _,_,h=>by unfold ck at h;cases h
def Fe (e:Ct kt F ks) (hL:wR F L):∀{es:G Y} {q:G Kd},zk kt L ks es q=true->∃ds,cZ F es=some ds/\aJ kt ds q
 |[],[],_=>⟨[],rfl,rfl⟩
 |[],_::_,h=>by unfold zk at h;cases h
 |_::_,[],h=>by unfold zk at h;cases h
 |a::r,k::q,h=>by
  unfold zk at h;simp only[bU] at h;obtain⟨d,j,l⟩:=vw e hL h.1;obtain⟨ds,u,w⟩:=Fe e hL h.2;exact⟨_,gP j u,ay l w⟩
end
def Ab (j:Ct kt F ks) (hL:wR F L) (h:(match mM ks kt x with|some (.R T)=>ck kt L ks x (.R T)|_=>false)=true):∃rows,den F x=some (.R rows):=by
 split at h
 ·obtain⟨rows,l,_⟩:=(vw j hL h).R
  exact⟨rows,l⟩
 ·cases h
mutual
def KS (j:Ct kt F ks) (hL:wR F L):∀{e:Y},Fj kt L ks e=true->∃rows,den F e=some (.R rows)
 |.d9,_=>⟨[],rfl⟩
 |.snoc a r,h=>by
  unfold Fj at h;simp only[bU] at h;obtain⟨rows,l⟩:=KS j hL h.1;obtain⟨ds,q⟩:=apl j hL h.2;exact⟨_,KR l q⟩
 |.var _,h=>Ab j hL h
 |.int _ _,h=>Ab j hL h
 |.bool _,h=>Ab j hL h
 |.str _,h=>Ab j hL h
 |.len _,h=>Ab j hL h
 |.cell ..,h=>Ab j hL h
 |.byte ..,h=>Ab j hL h
 |.bin ..,h=>Ab j hL h
 |.not _,h=>Ab j hL h
 |.neg _,h=>Ab j hL h
 |.conv ..,h=>Ab j hL h
 |.sub ..,h=>Ab j hL h
 |.cat a b,h=>by
  unfold Fj at h;simp only[bU] at h;obtain⟨ra,u⟩:=KS j hL h.1;obtain⟨rb,l⟩:=KS j hL h.2;exact⟨_,afu u l⟩
 |.lit _,h=>Ab j hL h
def apl (e:Ct kt F ks) (hL:wR F L):∀{es:G Y},Ye kt L ks es=true->∃ds,cZ F es=some ds
 |[],_=>⟨[],rfl⟩
 |a::r,h=>by
  unfold Ye at h;simp only[bU] at h;obtain⟨ds,q⟩:=apl e hL h.2;have j:=h.1;split at j
  ·obtain⟨d,l,_⟩:=vw e hL j
   exact⟨_,gP l q⟩
  ·obtain⟨rows,l⟩:=KS e hL j
   exact⟨_,gP l q⟩
end
def aEb (l:Ct kt F ks) (hL:wR F L) (h:af8 kt L ks x=true):den F x=some (.bool true):=by
 unfold af8 at h;split at h
 ·rename_i op k n a
  simp only[bU,iL] at h;obtain⟨⟨rfl,j⟩,h⟩:=h;obtain⟨rows,h2⟩:=KS l hL j;split at h
  ·exact apN
  ·exact apN
  ·cases h
 ·rename_i op a k n
  simp only[bU,iL] at h;obtain⟨⟨⟨rfl,q⟩,j⟩,h⟩:=h;obtain⟨rows,h2⟩:=KS l hL j;split at h
  ·have:=SE l hL h h2
   refine mJ (uq h2) rfl ?_;simp only[jl,qX,aG,D.bool.injEq,iL];omega
  ·cases h
 ·rename_i op a b
  simp only[bU,iL] at h;obtain⟨⟨rfl,j⟩,h⟩:=h;obtain rfl:=Y.jZ j;obtain⟨rows,h2⟩:=KS l hL h;refine mJ (uq h2) (uq h2) ?_;simp[jl]
 ·cases h
end
abbrev lW:ah (G H):=some [.S (.var 3),.S (.var 4)]
abbrev oP:H:=.agg [.S (.var 5),.S (.var 6),.S (.var 7),.S (.var 8)]
abbrev TC (f:ig) (args:G H) (recv:ah (G H)) (sg:G bJ) (lg:G eX) (t:Tree) (ks:G Kd):Prop:=Tree.jC (DK z_ Tryz.prog 200 f args recv) sg lg fM.length t (B3.ts O ks)=true
def tc {f:ig} {recv:ah (G H)} {sg:G bJ} {lg:G eX} {t:Tree} {ks:G Kd} (h:Tree.jC (DK z_ Tryz.prog 200 f E recv) sg lg fM.length t (B3.ts O ks)=true:=by kernel_rfl):TC f E recv sg lg t ks:=h
def KN (vals:G D) (L:G (Y×aK)):Prop:=∀p∈L,gq vals.length p.1=true/\den (bP vals) p.1=some (.bool p.2)
def oO (n:Nat) (L:G (Y×aK)) (e:Y) (b:aK):G (Y×aK):=if gq n e then(e,b)::L else L
def knL (L:G (Y×aK)) (e:Y):ah aK:=match L.find? (fun p=>Y.same p.1 e) with
 |some p=>some p.2
 |none=>none
section
variable {vals:G D} {L:G (Y×aK)} {ks:G Kd}
def KN.f (h:KN vals L):wR (bP vals) L:=fun p Z=>(h p Z).2
def KN.app (h:KN vals L) (r:G D):KN (vals++r) L:=fun p Z=>by
 obtain⟨e,j⟩:=h p Z;refine⟨r_ bS e,?_⟩;rw[<-j];exact(rE (fun i J=>PL J) e).symm
def KN.nil:KN vals []:=fun _ h=>by cases h
def KN.add (h:KN vals L) (j:aJ O vals ks) {b:aK} (l:den (bP vals) x=some (.bool b)):KN vals (oO ks.length L x b):=by
 unfold oO;split
 ·rename_i q
  intro p Z;rcases g_.1 Z with rfl|Z
  ·exact⟨by rw[j.length];exact q,l⟩
  ·exact h p Z
 ·exact h
def KN.kn (h:KN vals L) {b:aK} (j:knL L x=some b):den (bP vals) x=some (.bool b):=by
 unfold knL at j;split at j
 ·rename_i p Z
  cases j;have l:Y.same p.1 x=true:=aiS (p:=fun p:Y×aK=>Y.same p.1 x) Z;obtain rfl:=Y.jZ l;exact(h p (aiY Z)).2
 ·cases j
def qQ (h:aJ O vals ks):Ct O (bP vals) ks:=fun i k e=>by
 have j:=h.length;have J:=(gN.1 e).1;obtain⟨k',l,q⟩:=h.get (gM (j▸J));rw[e] at l;cases l;unfold bP;rw[gM (j▸J)];exact q
end
mutual
def Jf {F:Nat->D} {L:G (Y×aK)} {ks:G Kd} (w:Ct O F ks) (hL:wR F L):∀{v:H} {r:RT},Db O L ks v r=true->∃A,iU F v=some A/\iw O r A:=by
 intro v r h;unfold Db at h;split at h
 ·split at h
  ·rename_i e j
   obtain⟨d,l,u⟩:=vw w hL h;refine⟨.one d,?_,nZ u⟩;unfold tN at j;split at j<;>first|(cases j;done)|(simp only[aG] at j;subst j;simp only[iU,tN,l,Co])
  ·cases h
 ·split at h
  ·rename_i es j
   obtain⟨ds,l,u⟩:=Fe w hL h;exact⟨_,vC j l,agC u⟩
  ·cases h
 ·rename_i a b r q
  simp only[bU] at h;obtain⟨x,l,u⟩:=Jf w hL h.1;obtain⟨y,E,P⟩:=Jf w hL h.2;exact⟨.dD [x,y],by simp only[iU,iH,l,E,Co],asC (SH u (SH P agE))⟩
 ·cases h
end
def Fb {F:Nat->D} {L:G (Y×aK)} {ks:G Kd} (e:Ct O F ks) (hL:wR F L):∀{vs:G H} {rs:G RT},wX O L ks vs rs=true->∃V,iH F vs=some V/\fH O rs V
 |[],[],_=>⟨[],rfl,agE⟩
 |[],_::_,h=>by unfold wX at h;cases h
 |_::_,[],h=>by unfold wX at h;cases h
 |v::vs,r::rs,h=>by
  unfold wX at h;simp only[bU] at h;obtain⟨w,j,l⟩:=Jf e hL h.1;obtain⟨V,q,u⟩:=Fb e hL h.2;exact⟨_,jD j q,SH l u⟩
structure BI where
 ar:List RT
 st:Bool
 bd:Bool
def bR.eZ (c:bR) (b:BI):Prop:=b.bd=true->∀(V:G DA) (f:Fa),f.1≠0->fH O b.ar V->c.eU V (if b.st then dL f else[])/\(b.st=true->∀e post,c.fP V (dL f) e post->post=dL f)
def Bb:G bR->G BI->Prop
 |c::cs,b::bs=>c.eZ b/\Bb cs bs
 |_,bs=>bs=[]
def OA:∀{cs:G bR} {bs:G BI},Bb cs bs->∀(i:Nat) (b:BI),bs[i]?=some b->(ql cs i).eZ b
 |c::cs,b::bs,⟨j,_⟩,0,e,hb=>by
  cases hb;exact j
 |c::cs,b::bs,⟨_,l⟩,i+1,e,hb=>OA l i e Af
 |[],bs,h,i,b,hb=>by rw[show bs=[] from h] at hb;simp at hb
 |_::_,[],_,i,b,hb=>by simp at hb
def GD {cs:G bR} {sg:G bJ} (h:cs.map (·.sig)=sg) {g:bJ} (e:sg[b]?=some g):(ql cs b).sig=g:=by
 subst h;rw[AQ] at e;obtain⟨c,j,l⟩:=lq.1 e;unfold ql;rw[j];exact l
def isF (v:Nat):Y->ah aK
 |.bin op (.var i) (.int .i64 k)=>if i=v/\k=0 then(match op with
  |.eql=>some false
  |.neq=>some true
  |_=>none) else none
 |_=>none
def isVar (v:Nat):H->aK
 |.S (.var i)=>i==v
 |_=>false
def ahl (v:Nat):G H->aK
 |[p,q]=>isVar v p&&isVar (v+1) q
 |_=>false
def bJ.kf (g:bJ):G Kd:=nY g.res++g.rk
structure LI where
 ik:List Kd
 bd:Bool
 pp:Nat
 pi:Nat
 eq:List (List (Nat×Nat))
def gu.eZ (l:gu) (b:LI):Prop:=b.bd=true->∀(ds:G D) (f:Fa),f.1≠0->aJ O ds b.ik->ds[b.pp]?=some (.int .i64 f.1)->ds[b.pp+1]?=some (.int .i64 f.2)->ds[b.pi]?=some (.int .i64 0)->l.eU ds/\∀j out,l.fP ds j out->(∃r,out=dL f++r)/\(b.eq.getD j []).map (fun p=>out[p.2]?)=(b.eq.getD j []).map fun p=>ds[p.1]?
def xW:G gu->G LI->Prop
 |c::cs,b::bs=>c.eZ b/\xW cs bs
 |_,bs=>bs=[]
def asZ:∀{cs:G gu} {bs:G LI},xW cs bs->∀(i:Nat) (b:LI),bs[i]?=some b->(lam cs i).eZ b
 |c::cs,b::bs,⟨j,_⟩,0,e,hb=>by
  cases hb;exact j
 |c::cs,b::bs,⟨_,l⟩,i+1,e,hb=>asZ l i e Af
 |[],bs,h,i,b,hb=>by rw[show bs=[] from h] at hb;simp at hb
 |_::_,[],_,i,b,hb=>by simp at hb
def Zr {cs:G gu} {sg:G eX} (h:cs.map (·.sig)=sg) {g:eX} (e:sg[b]?=some g):(lam cs b).sig=g:=by
 subst h;rw[AQ] at e;obtain⟨c,j,l⟩:=lq.1 e;unfold lam;rw[j];exact l
def Nj (ins:G Y) (p v:Nat):aK:=match ins[p]? with
 |some (.var i)=>i==v
 |_=>false
def atZ (ins:G Y) (p:Nat):aK:=match ins[p]? with
 |some (.int .i64 k)=>decide (k=0)
 |_=>false
def mvT (n:Nat) (ins:G Y) (q:G (Nat×Nat)) (v:Nat):Y:=match q.find? (fun p=>Nj ins p.1 v) with
 |some p=>.var (n+p.2)
 |none=>.var v
def ZB (n:Nat) (ins:G Y) (q:G (Nat×Nat)) (L:G (Y×aK)) (e:Nat):G (Y×aK):=
 L++(L.map (fun p=>(lJ ((List.range' 0 n).map (mvT n ins q)) p.1,p.2))).filter (fun p=>gq e p.1)
mutual
def Tree.bad (sg:G bJ) (bs:G BI) (lg:G eX) (lb:G LI) (h:G (Y×aK)->G Kd->Nat->Nat->G H->aK):Tree->G (Y×aK)->G Kd->Nat->aK
 |.leaf j vs _,L,ks,v=>h L ks v j vs
 |.B e t f,L,ks,v=>match isF v e with
  |some true=>Tree.bad sg bs lg lb h t L ks v
  |some false=>Tree.bad sg bs lg lb h f L ks v
  |none=>match knL L e with
   |some true=>Tree.bad sg bs lg lb h t L ks v
   |some false=>Tree.bad sg bs lg lb h f L ks v
   |none=>ck O L ks e .bool&&(Tree.bad sg bs lg lb h t (oO ks.length L e true) ks v&&Tree.bad sg bs lg lb h f (oO ks.length L e false) ks v)
 |.fact e x t,L,ks,v=>(match x with
  |.bool true=>af8 O L ks e
  |_=>false)&&Tree.bad sg bs lg lb h t (oO ks.length L e true) ks v
 |.call i args pre t,L,ks,v=>match sg[i]?,bs[i]? with
  |some g,some b=>(b.bd&&wX O L ks args b.ar)&&(match g.recv with
   |none=>!b.st&&pre.isEmpty&&Tree.bad sg bs lg lb h t L (ks++g.kf) v
   |some rk=>b.st&&decide (rk=fl)&&ahl v pre&&Tree.bad sg bs lg lb h t L (ks++g.kf) (ks.length+(nY g.res).length))
  |_,_=>false
 |.bX i ins ts,L,ks,v=>match lg[i]?,lb[i]? with
  |some g,some b=>(b.bd&&zk O L ks ins b.ik)&&(Nj ins b.pp v&&Nj ins (b.pp+1) (v+1)&&atZ ins b.pi)&&iO.bad sg bs lg lb h ts g.outs ins b.eq L ks
  |_,_=>false
def iO.bad (sg:G bJ) (bs:G BI) (lg:G eX) (lb:G LI) (e:G (Y×aK)->G Kd->Nat->Nat->G H->aK):iO->G (AX×bV×G Kd)->G Y->G (G (Nat×Nat))->G (Y×aK)->G Kd->aK
 |.nil,outs,_,_,_,_=>outs.isEmpty
 |.cons t r,outs,ins,q,L,ks=>match outs with
  |[]=>true
  |o::os=>Tree.bad sg bs lg lb e t (ZB ks.length ins (q.getD 0 []) L (ks.length+o.2.2.length)) (ks++o.2.2) ks.length&&iO.bad sg bs lg lb e r os ins q.tail L ks
end
def apf {F:Nat->D}:∀{es:G Y} {ds:G D} {p:Nat} {e:Y},cZ F es=some ds->es[p]?=some e->∃d,ds[p]?=some d/\den F e=some d:=fun h Z=>(afv h).2 _ _ Z
def aeA {F:Nat->D} {es:G Y} {ds:G D} {p:Nat} (h:cZ F es=some ds) (Z:Nj es p b=true):ds[p]?=some (F b):=by
 unfold Nj at Z;split at Z
 ·rename_i i J
  obtain rfl:=eq_of_beq Z;obtain⟨d,j,e⟩:=apf h J;simp only[den,aG] at e;rw[j,e]
 ·cases Z
def aBz {F:Nat->D} {es:G Y} (h:cZ F es=some p) (Z:atZ es b=true):p[b]?=some (.int .i64 0):=by
 unfold atZ at Z;split at Z
 ·rename_i k J
  obtain rfl:=Cr Z;obtain⟨d,j,e⟩:=apf h J;simp only[den,aG] at e;rw[j,<-e]
 ·cases Z
structure aU6 (f:Fa) (vals:List D) (v:Nat):Prop where
 a:vals[v]?=some (.int .i64 f.1)
 b:vals[v+1]?=some (.int .i64 f.2)
section
variable {f:Fa} {vals:G D} {v:Nat}
def aU6.app (h:aU6 f vals v) (r:G D):aU6 f (vals++r) v:=
 ⟨by rw[oI (gN.1 h.a).1];exact h.a,by rw[oI (gN.1 h.b).1];exact h.b⟩
def aU6.va (h:aU6 f vals v):bP vals v=.int .i64 f.1:=by unfold bP;rw[h.a]
def aU6.vb (h:aU6 f vals v):bP vals (v+1)=.int .i64 f.2:=by unfold bP;rw[h.b]
def Zn (h:isVar v y=true):y=.S (.var v):=by
 unfold isVar at h;split at h
 ·obtain rfl:=eq_of_beq h;rfl
 ·cases h
def aHi (h:ahl v E=true):E=[.S (.var v),.S (.var (v+1))]:=by
 unfold ahl at h;split at h
 ·simp only[bU] at h
  rw[Zn h.1,Zn h.2]
 ·cases h
def asO (h:aU6 f vals v) (hf:f.1≠0) {b:aK} (j:isF v x=some b):den (bP vals) x=some (.bool b):=by
 unfold isF at j;split at j
 ·rename_i op i k
  split at j
  ·rename_i hc
   obtain⟨rfl,rfl⟩:=hc;split at j
   ·cases j;exact uw h.va hf
   ·cases j;exact den_nz h.va hf
   ·cases j
  ·cases j
 ·cases j
end
def apg {F:Nat->D} {g:Nat->Y}:∀{vals:G D} {k:Nat},(∀i d,vals[i]?=some d->den F (g (k+i))=some d)->cZ F ((List.range' k vals.length).map g)=some vals
 |[],_,_=>rfl
 |d::vals,k,h=>by
  have j:den F (g k)=some d:=h 0 d rfl;have l:cZ F ((List.range' (k+1) vals.length).map g)=some vals:=apg fun i e q=>by
   rw[Nat.add_right_comm];exact h (i+1) e (by simpa using q)
  show cZ F (g k::(List.range' (k+1) vals.length).map g)=some (d::vals);simp only[cZ,j,l,f_,Co]
def aGk {α:Type} {f g:Nat×Nat->α} {q:G (Nat×Nat)} (h:q.map f=q.map g) {p:Nat×Nat} (Z:p∈q):f p=g p:=by
 induction q with
 |nil=>cases Z
 |cons a q e=>
  simp only[AU,nV] at h;rcases g_.1 Z with rfl|Z
  ·exact h.1
  ·exact e h.2 Z
def KN.move {vals:G D} {L:G (Y×aK)} {ks e:G Kd} (h:KN vals L) (w:aJ O vals ks) {out ds:G D} (j:aJ O out e) {ins:G Y} (y:cZ (bP vals) ins=some ds) {q:G (Nat×Nat)} (A:q.map (fun p=>out[p.2]?)=q.map fun p=>ds[p.1]?):KN (vals++out) (ZB ks.length ins q L (ks.length+e.length)):=by
 have e1:=w.length;have E:=j.length;intro p Z;rcases qV.1 Z with Z|Z
 ·exact h.app out p Z
 ·obtain⟨Z,F⟩:=List.mem_filter.1 Z
  obtain⟨r,U,rfl⟩:=FQ.1 Z;obtain⟨P,T⟩:=h r U;refine⟨by simpa[e1,E] using F,?_⟩
  have W:cZ (bP (vals++out)) ((List.range' 0 ks.length).map (mvT ks.length ins q))=some vals:=by
   rw[<-e1];refine apg fun i d J=>?_;have l:=(gN.1 J).1;rw[jW];unfold mvT;split
   ·rename_i p Z
    have a':=aeA y (aiS (p:=fun p:Nat×Nat=>Nj ins p.1 i) Z);have u:out[p.2]?=ds[p.1]?:=aGk A (aiY Z);rw[a'] at u;have b':bP vals i=d:=by unfold bP;rw[J]
    simp only[den,bP];rw[nI I,L9,u,b']
   ·simp only[den,bP]
    rw[oI l,J]
  rw[<-T];exact su W (by simpa[e1] using P)
mutual
def zY {sg:G bJ} {bs:G BI} {lg:G eX} {lb:G LI} {m':G (Y×aK)->G Kd->Nat->Nat->G H->aK} {cs:G bR} {ls:G gu} {aY:Nat->G DA->Prop}
 (w:cs.map (·.sig)=sg) (y:Bb cs bs) (A:ls.map (·.sig)=lg) (E:xW ls lb) {f:Fa} (hf:f.1≠0)
 (P:∀(L:G (Y×aK)) (ks:G Kd) (v j:Nat) (vs:G H) (vals:G D),m' L ks v j vs=true->aJ O vals ks->KN vals L->aU6 f vals v->∃V,iH (bP vals) vs=some V/\aY j V):
 ∀{t:Tree} {L:G (Y×aK)} {ks:G Kd} {v:Nat} {vals:G D},Tree.bad sg bs lg lb m' t L ks v=true->aJ O vals ks->KN vals L->aU6 f vals v->Tree.wp (ql cs) (lam ls) O aY t vals
 |.leaf j vs rr,L,ks,v,vals,h,l,hL,q=>by
  unfold Tree.bad at h;obtain⟨V,F,a'⟩:=P L ks v j vs vals h l hL q;exact fV F a'
 |.B e t u,L,ks,v,vals,h,l,hL,q=>by
  unfold Tree.bad at h;split at h
  ·rename_i b'
   exact iR (asO q hf b') (fun _=>zY w y A E hf P h l hL q) (fun h=>by cases h)
  ·rename_i b'
   exact iR (asO q hf b') (fun h=>by cases h) (fun _=>zY w y A E hf P h l hL q)
  ·split at h
   ·rename_i b'
    exact iR (hL.kn b') (fun _=>zY w y A E hf P h l hL q) (fun h=>by cases h)
   ·rename_i b'
    exact iR (hL.kn b') (fun h=>by cases h) (fun _=>zY w y A E hf P h l hL q)
   ·simp only[bU] at h
    obtain⟨d,F,a'⟩:=vw (qQ l) hL.f h.1;obtain⟨b,rfl⟩:=a'.bool;refine iR F (fun c'=>?_) (fun c'=>?_)
    ·subst c';exact zY w y A E hf P h.2.1 l (hL.add l F) q
    ·subst c';exact zY w y A E hf P h.2.2 l (hL.add l F) q
 |.fact e x t,L,ks,v,vals,h,l,hL,q=>by
  unfold Tree.bad at h;simp only[bU] at h;obtain⟨i',h⟩:=h;split at i'
  ·have F:=aEb (qQ l) hL.f i'
   exact lM (by rw[F];rfl) (zY w y A E hf P h l (hL.add l F) q)
  ·cases i'
 |.call i args pre t,L,ks,v,vals,h,l,hL,q=>by
  unfold Tree.bad at h;split at h
  ·rename_i g b j' c'
   simp only[bU] at h;obtain⟨V,F,a'⟩:=Fb (qQ l) hL.f h.1.2;have g':=GD w j';have d':=OA y i b c' h.1.1 V f hf a';obtain⟨_,h⟩:=h;split at h
   ·rename_i U
    simp only[bU,Im] at h;obtain⟨⟨e',f'⟩,h⟩:=h;obtain rfl:=List.isEmpty_iff.1 f';rw[e'] at d';refine nT F rfl rfl d'.1 (fun h' post hR T W=>?_);rw[g'] at T W;exact zY w y A E hf P h (l.append (T.flat.append W)) (hL.app _) (q.app _)
   ·rename_i rk U
    simp only[bU,iL] at h;obtain⟨⟨⟨e',k'⟩,f'⟩,h⟩:=h;obtain rfl:=aHi f';subst k';rw[e'] at d';have n':=d'.2 rfl;refine nT F rfl (show cZ (bP vals) [.var v,.var (v+1)]=some (dL f) by simp only[cZ,den,f_,q.va,q.vb];rfl) d'.1 (fun h' post hR T W=>?_)
    obtain rfl:=n' h' post hR;rw[g'] at T W;refine zY w y A E hf P h (l.append (T.flat.append W)) (hL.app _) ?_;have e1:=l.length;have l':=T.flat.length;rw[<-e1,<-l'];exact⟨by rw[nI I,L9,nI I,aa8];rfl,by rw[nI I,nI I,show vals.length+(nX h').length+1-vals.length-(nX h').length=1 by omega];rfl⟩
  ·cases h
 |.bX i ins ts,L,ks,v,vals,h,l,hL,q=>by
  unfold Tree.bad at h;split at h
  ·rename_i g b j' c'
   simp only[bU] at h;obtain⟨⟨⟨F,a'⟩,⟨e',f'⟩,k'⟩,h⟩:=h;obtain⟨ds,e1,l'⟩:=Fe (qQ l) hL.f a';have g':=Zr A j';obtain⟨p',q'⟩:=asZ E i b c' F ds f hf l' (by rw[aeA e1 e',q.va]) (by rw[aeA e1 f',q.vb]) (aBz e1 k')
   refine uV e1 p' (fun j x S' s' out N hR o'=>?_);rw[g'] at N;obtain⟨U,r'⟩:=q' j out hR;exact Xm w y A E hf P h l hL N o' U e1 r'
  ·cases h
def Xm {sg:G bJ} {bs:G BI} {lg:G eX} {lb:G LI} {P:G (Y×aK)->G Kd->Nat->Nat->G H->aK} {cs:G bR} {ls:G gu} {aY:Nat->G DA->Prop}
 (u:cs.map (·.sig)=sg) (w:Bb cs bs) (y:ls.map (·.sig)=lg) (A:xW ls lb) {f:Fa} (hf:f.1≠0)
 (T:∀(L:G (Y×aK)) (ks:G Kd) (v j:Nat) (vs:G H) (vals:G D),P L ks v j vs=true->aJ O vals ks->KN vals L->aU6 f vals v->∃V,iH (bP vals) vs=some V/\aY j V):
 ∀{ts:iO} {outs:G (AX×bV×G Kd)} {L:G (Y×aK)} {ks:G Kd} {vals:G D} {j:Nat} {o:AX×bV×G Kd} {out:G D} {ins:G Y} {q:G (G (Nat×Nat))} {ds:G D},iO.bad sg bs lg lb P ts outs ins q L ks=true->aJ O vals ks->KN vals L->outs[j]?=some o->aJ O out o.2.2->(∃r,out=dL f++r)->cZ (bP vals) ins=some ds->(q.getD j []).map (fun p=>out[p.2]?)=(q.getD j []).map (fun p=>ds[p.1]?)->iO.wp (ql cs) (lam ls) O aY ts j (vals++out)
 |.nil,outs,L,ks,vals,j,o,out,ins,q,ds,h,l,hL,N,e,U,E,F=>by
  unfold iO.bad at h;obtain rfl:=List.isEmpty_iff.1 h;simp at N
 |.cons t r,outs,L,ks,vals,j,o,out,ins,q,ds,h,l,hL,N,e,U,E,F=>by
  unfold iO.bad at h;split at h
  ·simp at N
  ·rename_i o' os
   simp only[bU] at h;cases j with
   |zero=>
    cases N;obtain⟨W,rfl⟩:=U;have e1:=l.length;refine p9 (zY u w y A hf T h.1 (l.append e) (hL.move l e E F) ?_);rw[<-e1];exact⟨by rw[nI I,aa8];rfl,by rw[nI I,L9];rfl⟩
   |succ j=>exact Eb (Xm u w y A hf T h.2 l hL (by simpa using N) e U E (by cases q with
    |nil=>rfl
    |cons a q=>simpa using F))
end
def QS {α:Type} (pre:G D) (s:dV Fa α) (enc:α->DA) (any:DA->Prop) (rt:RT):Nat->G DA->Prop:=fun _ ds=>∃e post,ds=e::post.map DA.one/\bG s enc any pre e post/\iw O rt e/\aJ O post fl
def QP (fP:DA->Prop) (rt:RT):Nat->G DA->Prop:=fun _ ds=>∃e,ds=[e]/\fP e/\iw O rt e
def O4 (rt:RT) (la:H->aK) (L:G (Y×aK)) (ks:G Kd) (v _:Nat) (vs:G H):aK:=match vs with
 |[x,p,q]=>Db O L ks x rt&&isVar v p&&isVar (v+1) q&&la x
 |_=>false
def Em (la:H->aK) (any:DA->Prop):Prop:=∀(F:Nat->D) (x:H) (e:DA),la x=true->iU F x=some e->any e
def kR:H->aK:=fun _=>true
def asY:H->aK:=fun x=>H.same x (.agg [.S (.int .i64 0),.S (.str []),.S (.int .i64 0),.S .d9])
def asX:H->aK:=fun x=>H.same x (.S .d9)
def Nh:Em kR iQ:=fun _ _ _ _ _=>True.intro
def Ni:Em asY aew:=fun F x e h j=>by
 obtain rfl:=H.jZ h;cases(show some (DA.agg jm)=some e from j)
 rfl
def any_nil:Em asX aon:=fun F x e h j=>by
 obtain rfl:=H.jZ h;cases(show some (DA.one (.R []))=some e from j)
 rfl
def K (sg:G bJ) (bs:G BI) (lg:G eX) (lb:G LI) (cs:G bR) (ls:G gu) (aY:Nat->G DA->Prop) (t:Tree) (L:G (Y×aK)) (ks:G Kd) (vals:G D):Prop:=
 cs.map (·.sig)=sg->Bb cs bs->ls.map (·.sig)=lg->xW ls lb->aJ O vals ks->KN vals L->Tree.wp (ql cs) (lam ls) O aY t vals
section
variable {sg:G bJ} {bs:G BI} {lg:G eX} {lb:G LI} {cs:G bR} {ls:G gu} {aY:Nat->G DA->Prop} {t u:Tree} {L:G (Y×aK)} {ks:G Kd} {vals:G D}
variable {i j:Nat} {args tF:G H} {g:bJ} {ar:G RT} {V:G DA} {es:G Y} {α β:Type} {s:dV Fa α} {enc:α->DA} {any:DA->Prop} {s':dV Fa β} {enc':β->DA} {any':DA->Prop} {rt:RT} {la:H->aK} {rr:G (Nat×Nat)} {bd:aK} {pre:G D}
def K.B {e:Y} {b:aK} (h:den (bP vals) e=some (.bool b)) (E:b=true->K sg bs lg lb cs ls aY t (oO ks.length L e true) ks vals) (hf:b=false->K sg bs lg lb cs ls aY u (oO ks.length L e false) ks vals):K sg bs lg lb cs ls aY (.B e t u) L ks vals:=
 fun l q w y j hL=>iR h (fun A=>by subst A;exact E rfl l q w y j (hL.add j h)) (fun A=>by subst A;exact hf rfl l q w y j (hL.add j h))
def au {b:aK} {aD:Prop} (h:den (bP vals) x=some (.bool b)/\(b=true)=P/\(b=false)=aD) (j:P->K sg bs lg lb cs ls aY t (oO ks.length L x true) ks vals) (hf:aD->K sg bs lg lb cs ls aY u (oO ks.length L x false) ks vals):K sg bs lg lb cs ls aY (.B x t u) L ks vals:=
 K.B h.1 (fun x=>j (h.2.1▸x)) (fun x=>hf (h.2.2▸x))
def fO (h:den (bP vals) x=some (.bool true)) (j:K sg bs lg lb cs ls aY t (oO ks.length L x true) ks vals):K sg bs lg lb cs ls aY (.B x t u) L ks vals:=
 K.B h (fun _=>j) (fun h=>by cases h)
def jo (h:den (bP vals) x=some (.bool false)) (j:K sg bs lg lb cs ls aY u (oO ks.length L x false) ks vals):K sg bs lg lb cs ls aY (.B x t u) L ks vals:=
 K.B h (fun h=>by cases h) (fun _=>j)
def aR {b:aK} (y:K sg bs lg lb cs ls aY t (oO ks.length L x true) ks vals) (h:den (bP vals) x=some (.bool b):=by exact M) (A:b=true:=by exact d_):K sg bs lg lb cs ls aY (.fact x (.bool true) t) L ks vals:=
 fun j l q u w hL=>by
  subst A;exact lM (by rw[h];rfl) (y j l q u w (hL.add w h))
def S_ (w:Em la any') {f:Fa} (hf:f.1≠0) {pre:G D} (y:∀e,any' e->bG s' enc' any' pre e (dL f)):∀(L:G (Y×aK)) (ks:G Kd) (v j:Nat) (vs:G H) (vals:G D),O4 rt la L ks v j vs=true->aJ O vals ks->KN vals L->aU6 f vals v->
 ∃V,iH (bP vals) vs=some V/\∃e post,V=e::post.map DA.one/\bG s' enc' any' pre e post/\iw O rt e/\aJ O post fl:=by
 intro L ks v j vs vals h A hL l;unfold O4 at h;split at h
 ·rename_i x p q
  simp only[bU] at h;obtain⟨⟨⟨E,F⟩,P⟩,T⟩:=h;obtain⟨e,u,W⟩:=Jf (qQ A) hL.f E;obtain rfl:=Zn F;obtain rfl:=Zn P;refine⟨_,jD u (jD (sj (show den _ (.var v)=some (.int .i64 f.1) by simp only[den,l.va])) (jD (sj (show den _ (.var (v+1))=some (.int .i64 f.2) by simp only[den,l.vb])) qh)),e,dL f,rfl,y e (w _ _ _ T u),W,OD⟩
 ·cases h
def dH (P:iH (bP vals) args=some V) (W:fH O ar V->(ql cs i).eU V aM)
 (T:∀y,s=.ok y->iw O g.res (enc y)->K sg bs lg lb cs ls (QS aM s' enc' any' rt) t L (ks++g.kf) (vals++(nX (enc y)++aM)))
 (hR:∀j post,(ql cs i).fP V aM j post->bG s enc any aM j post:=by exact fun _ _ h=>h) (a':∀f,s=.error f->f.1≠0->s'=.error f:=by exact qF)
 (b':sg[i]?=some g:=by rfl) (_:bs[i]?=some ⟨ar,true,bd⟩:=by rfl) (c':jv tF=some es:=by rfl) (d':cZ (bP vals) es=some aM:=by rfl)
 (e':Em la any':=by first|exact Nh|exact Ni|exact any_nil)
 (hc:wX O L ks args ar=true:=by kernel_rfl)
 (l:(decide (g.rk=fl)&&Tree.bad sg bs lg lb (O4 rt la) t L (ks++g.kf) (ks.length+(nY g.res).length))=true:=by kernel_rfl):K sg bs lg lb cs ls (QS aM s' enc' any' rt) (.call i args tF t) L ks vals:=by
 intro q A E F w hL;obtain⟨f',e1,g'⟩:=Fb (qQ w) hL.f hc;rw[P] at e1;cases e1;have h':=GD q b';refine nT P c' d' (W g') (fun j post U e u=>?_);rw[h'] at e u;simp only[bU,iL] at l;rcases(hR j post U).vv with⟨y,hy,rfl,rfl⟩|⟨f,hy,hf,rfl,k'⟩
 ·exact T y hy e q A E F (w.append (e.flat.append u)) (hL.app _)
 ·have i':=w.length
  have j':=e.flat.length;refine zY q A E F hf (S_ e' hf (fun j h=>bG.err (a' f hy hf) hf h)) l.2 (w.append (e.flat.append u)) (hL.app _) ?_;rw[<-i',<-j'];exact⟨by rw[nI I,L9,nI I,aa8];rfl,by rw[nI I,nI I,show vals.length+(nX j).length+1-vals.length-(nX j).length=1 by omega];rfl⟩
def rV (P:iH (bP vals) args=some V) (a':fH O ar V->(ql cs i).eU V aM) (hR:∀e post,(ql cs i).fP V aM e post->bG s enc any aM e post)
 (T:∀y,s=.ok y->iw O g.res (enc y)->K sg bs lg lb cs ls aY t L (ks++g.kf) (vals++(nX (enc y)++aM)))
 (A:∀f e,s=.error f->f.1≠0->iw O g.res e->any e->K sg bs lg lb cs ls aY t L (ks++g.kf) (vals++(nX e++dL f)))
 (b':sg[i]?=some g:=by rfl) (_:bs[i]?=some ⟨ar,true,bd⟩:=by rfl) (c':jv tF=some es:=by rfl) (d':cZ (bP vals) es=some aM:=by rfl)
 (hc:wX O L ks args ar=true:=by kernel_rfl):K sg bs lg lb cs ls aY (.call i args tF t) L ks vals:=by
 intro j q u w E hL;obtain⟨e',e1,f'⟩:=Fb (qQ E) hL.f hc;rw[P] at e1;cases e1;have g':=GD j b';refine nT P c' d' (a' f') (fun e post U h l=>?_);rw[g'] at h l;rcases(hR e post U).vv with⟨y,F,rfl,rfl⟩|⟨f,F,hf,rfl,W⟩
 ·exact T y F h j q u w (E.append (h.flat.append l)) (hL.app _)
 ·exact A f e F hf h W j q u w (E.append (h.flat.append l)) (hL.app _)
def lF (l:iH (bP vals) args=some V) (q:fH O ar V->(ql cs i).eU V aM) (hR:∀e post,(ql cs i).fP V aM e post->bG s enc any aM e post)
 (h:∀f e,s=.error f->f.1≠0->iw O g.res e->any e->K sg bs lg lb cs ls aY t L (ks++g.kf) (vals++(nX e++dL f)))
 (j:∀y,s=.ok y->iw O g.res (enc y)->K sg bs lg lb cs ls aY t L (ks++g.kf) (vals++(nX (enc y)++aM)))
 (u:sg[i]?=some g:=by rfl) (w:bs[i]?=some ⟨ar,true,bd⟩:=by rfl) (A:jv tF=some es:=by rfl) (E:cZ (bP vals) es=some aM:=by rfl)
 (hc:wX O L ks args ar=true:=by kernel_rfl):K sg bs lg lb cs ls aY (.call i args tF t) L ks vals:=rV l q hR j h u w A E hc
def yO {f:Fa} (hf:f.1≠0) (u:iH (bP vals) args=some V) (T:fH O ar V->(ql cs i).eU V (dL f))
 (w:∀e,iw O g.res e->any e->K sg bs lg lb cs ls aY t L (ks++g.kf) (vals++(nX e++dL f)))
 (hR:∀e post,(ql cs i).fP V (dL f) e post->bG s enc any (dL f) e post:=by exact fun _ _ h=>h) (W:sg[i]?=some g:=by rfl) (_:bs[i]?=some ⟨ar,true,bd⟩:=by rfl) (a':jv tF=some es:=by rfl) (b':cZ (bP vals) es=some (dL f):=by rfl)
 (hc:wX O L ks args ar=true:=by kernel_rfl):K sg bs lg lb cs ls aY (.call i args tF t) L ks vals:=by
 intro l y A E F hL;obtain⟨c',e1,d'⟩:=Fb (qQ F) hL.f hc;rw[u] at e1;cases e1;have e':=GD l W;refine nT u a' b' (T d') (fun e post U j q=>?_);rw[e'] at j q;obtain⟨rfl,P⟩:=(hR e post U).oq hf;exact w e j P l y A E (F.append (j.flat.append q)) (hL.app _)
def awK {f:Fa} (hf:f.1≠0) (w:iH (bP vals) args=some V)
 (y:∀e,iw O g.res e->any e->K sg bs lg lb cs ls aY t L (ks++g.kf) (vals++(nX e++dL f)))
 (T:sg[i]?=some g:=by rfl) (W:bs[i]?=some ⟨ar,true,true⟩:=by rfl) (a':jv tF=some es:=by rfl) (b':cZ (bP vals) es=some (dL f):=by rfl)
 (hR:∀e post,(ql cs i).fP V (dL f) e post->bG s enc any (dL f) e post:=by exact fun _ _ h=>h) (hc:wX O L ks args ar=true:=by kernel_rfl):K sg bs lg lb cs ls aY (.call i args tF t) L ks vals:=by
 intro l q A E F hL;obtain⟨c',e1,d'⟩:=Fb (qQ F) hL.f hc;rw[w] at e1;cases e1;have e':=GD l T;have f':=OA q i _ W rfl V f hf d';refine nT w a' b' f'.1 (fun e post U j u=>?_);rw[e'] at j u;obtain⟨rfl,P⟩:=(hR e post U).oq hf;exact y e j P l q A E (F.append (j.flat.append u)) (hL.app _)
def awL {f:Fa} (hf:f.1≠0) (u:iH (bP vals) args=some V)
 (w:∀e,iw O g.res e->K sg bs lg lb cs ls aY t L (ks++g.kf) (vals++(nX e++dL f)))
 (P:sg[i]?=some g:=by rfl) (T:bs[i]?=some ⟨ar,true,true⟩:=by rfl) (W:jv tF=some es:=by rfl) (a':cZ (bP vals) es=some (dL f):=by rfl)
 (hc:wX O L ks args ar=true:=by kernel_rfl):K sg bs lg lb cs ls aY (.call i args tF t) L ks vals:=by
 intro j l y A E hL;obtain⟨b',e1,c'⟩:=Fb (qQ E) hL.f hc;rw[u] at e1;cases e1;have d':=GD j P;have F:=OA l i _ T rfl V f hf c';refine nT u W a' F.1 (fun e post U h q=>?_);rw[d'] at h q;obtain rfl:=F.2 rfl e post U;exact w e h j l y A (E.append (h.flat.append q)) (hL.app _)
def aiJ (u:iH (bP vals) args=some V)
 (w:∀j,iw O g.res j->K sg bs lg lb cs ls aY t L (ks++g.kf) (vals++nX j))
 (P:sg[i]?=some g:=by rfl) (T:bs[i]?=some ⟨ar,false,true⟩:=by rfl) (W:tF=[]:=by rfl) (y:g.recv=none:=by rfl)
 (hc:wX O L ks args ar=true:=by kernel_rfl):K sg bs lg lb cs ls aY (.call i args tF t) L ks vals:=by
 intro l q A E F hL;subst W;obtain⟨a',e1,b'⟩:=Fb (qQ F) hL.f hc;rw[u] at e1;cases e1;have c':=GD l P;have d':=OA q i _ T rfl V (1,0) jK b';refine nT u rfl rfl d'.1 (fun j post U h e=>?_);rw[c'] at h e;have e':post=[]:=by
  have:g.rk=[]:=by unfold bJ.rk;rw[y]
  rw[this] at e;exact qx e.length
 subst e';rw[Ci];refine w j h l q A E (F.append ?_) (hL.app _);have:=h.flat.append e;rw[Ci] at this;exact this
def kX {u:DA->Prop} (w:iH (bP vals) args=some V) (T:fH O ar V->(ql cs i).eU V [])
 (y:∀e,u e->iw O g.res e->K sg bs lg lb cs ls aY t L (ks++g.kf) (vals++nX e)) (hR:∀e post,(ql cs i).fP V [] e post->u e/\post=[]:=by exact fun _ _ h=>h)
 (W:sg[i]?=some g:=by rfl) (_:bs[i]?=some ⟨ar,false,bd⟩:=by rfl) (a':tF=[]:=by rfl)
 (hc:wX O L ks args ar=true:=by kernel_rfl):K sg bs lg lb cs ls aY (.call i args tF t) L ks vals:=by
 intro l A E F P hL;subst a';obtain⟨b',e1,c'⟩:=Fb (qQ P) hL.f hc;rw[w] at e1;cases e1;have d':=GD l W;refine nT w rfl rfl (T c') (fun e post U j q=>?_);rw[d'] at j q;obtain⟨e',rfl⟩:=hR e post U;rw[Ci];refine y e e' j l A E F (P.append ?_) (hL.app _);have:=j.flat.append q;rw[Ci] at this;exact this
def eT {X:DA} (q:iH (bP vals) args=some V) (u:fH O ar V->(ql cs i).eU V [])
 (l:iw O g.res X->K sg bs lg lb cs ls aY t L (ks++g.kf) (vals++nX X)) (hR:∀j post,(ql cs i).fP V [] j post->j=X/\post=[]:=by exact fun _ _ h=>h)
 (w:sg[i]?=some g:=by rfl) (y:bs[i]?=some ⟨ar,false,bd⟩:=by rfl) (A:tF=[]:=by rfl)
 (hc:wX O L ks args ar=true:=by kernel_rfl):K sg bs lg lb cs ls aY (.call i args tF t) L ks vals:=
 kX q u (fun j e h=>by subst e;exact l h) hR w y A hc
def oG (N:den (bP vals) x=some (.int .i64 o):=by exact M) (q:s'=.error (k,o):=by exact qE) (e:(Db O L ks y rt&&la y)=true:=by kernel_rfl) (h:k≠0:=by decide)
 (u:Em la any':=by first|exact Nh|exact Ni|exact any_nil):K sg bs lg lb cs ls (QS aM s' enc' any' rt) (.leaf j [y,.int .i64 k,.S x] rr) L ks vals:=by
 intro F P T W w hL;simp only[bU] at e;obtain⟨A,l,E⟩:=Jf (qQ w) hL.f e.1;exact fV (jD l (jD (show iU _ (.int .i64 k)=some (.one (.int .i64 k)) from rfl) (jD (sj N) qh))) ⟨A,dL (k,o),rfl,bG.err q h (u _ _ _ e.2 l),E,OD⟩
def dJ (N:den (bP vals) (.var b)=some (.int .i64 0):=by exact M) (e:den (bP vals) x=some (.int .i64 o):=by exact M) (l:s'=.error (k,o):=by exact qE) (q:(Db O (oO ks.length L (.bin .eql (.var b) (.int .i64 0)) true) ks y rt&&la y)=true:=by kernel_rfl) (h:k≠0:=by decide)
 (w:Em la any':=by first|exact Nh|exact Ni|exact any_nil):K sg bs lg lb cs ls (QS aM s' enc' any' rt) (.B (.bin .eql (.var b) (.int .i64 0)) (.leaf j [y,.int .i64 k,.S x] rr) u) L ks vals:=
 fO (mJ N rfl rfl) (oG e l q h w)
def dQ {x p q:H} {y:β} (e:iU (bP vals) x=some (enc' y):=by exact M) (l:s'=.ok y:=by exact qE) (u:iH (bP vals) [p,q]=some (aM.map .one):=by rfl) (w:Db O L ks x rt=true:=by kernel_rfl):K sg bs lg lb cs ls (QS aM s' enc' any' rt) (.leaf j [x,p,q] rr) L ks vals:=by
 intro F P T W A hL;obtain⟨a',h,E⟩:=Jf (qQ A) hL.f w;rw[e] at h;cases h;exact fV (jD e u) ⟨_,aM,rfl,bG.ok l,E,OD⟩
def aU {fP:DA->Prop} {e:DA} (h:iU (bP vals) y=some e:=by exact M) (q:fP e:=by exact qE) (u:Db O L ks y rt=true:=by kernel_rfl):K sg bs lg lb cs ls (QP fP rt) (.leaf j [y] rr) L ks vals:=by
 intro E F P T w hL;obtain⟨W,l,A⟩:=Jf (qQ w) hL.f u;rw[h] at l;cases l;exact fV (jD h qh) ⟨_,rfl,q,A⟩
def jf {p q:H} {e:DA} {f:Fa} (h:iU (bP vals) y=some e) (u:bG s' enc' any' pre e (dL f)) (w:iH (bP vals) [p,q]=some ((dL f).map .one):=by rfl) (A:Db O L ks y rt=true:=by kernel_rfl):K sg bs lg lb cs ls (QS pre s' enc' any' rt) (.leaf j [y,p,q] rr) L ks vals:=by
 intro P T W a' E hL;obtain⟨b',l,F⟩:=Jf (qQ E) hL.f A;rw[h] at l;cases l;exact fV (jD h w) ⟨_,dL f,rfl,u,F,OD⟩
def PW (W:jv tF=some es) (E:iH (bP vals) args=some V) (a':cZ (bP vals) es=some [.int .i64 k,.int .i64 o]) (b':s'=.error (k,o))
 (c':sg[i]?=some g:=by rfl) (d':bs[i]?=some ⟨ar,true,true⟩:=by rfl) (e:k≠0:=by decide)
 (e':Em la any':=by first|exact Nh|exact Ni|exact any_nil)
 (hc:wX O L ks args ar=true:=by kernel_rfl)
 (j:(decide (g.rk=fl)&&Tree.bad sg bs lg lb (O4 rt la) t L (ks++g.kf) (ks.length+(nY g.res).length))=true:=by kernel_rfl):K sg bs lg lb cs ls (QS aM s' enc' any' rt) (.call i args tF t) L ks vals:=by
 intro u w F P A hL;obtain⟨f',e1,g'⟩:=Fb (qQ A) hL.f hc;rw[E] at e1;cases e1;have h':=GD u c';have T:=OA w i _ d' rfl V (k,o) e g';refine nT E W a' T.1 (fun q post U l y=>?_);rw[h'] at l y;simp only[bU,iL] at j;obtain rfl:=T.2 rfl q post U;have i':=A.length;have j':=l.flat.length;refine zY u w F P (f:=(k,o)) e (S_ e' e (fun q h=>bG.err b' e h)) j.2 (A.append (l.flat.append y)) (hL.app _) ?_;rw[<-i',<-j'];exact⟨by rw[nI I,L9,nI I,aa8];rfl,by rw[nI I,nI I,show vals.length+(nX q).length+1-vals.length-(nX q).length=1 by omega];rfl⟩
def eH (sg:G bJ) (bs:G BI) (lg:G eX) (lb:G LI) (cs:G bR) (ls:G gu) (aY:Nat->G DA->Prop) (r:iO) (n:Nat) (L:G (Y×aK)) (ks:G Kd) (vals:G D):Prop:=
 cs.map (·.sig)=sg->Bb cs bs->ls.map (·.sig)=lg->xW ls lb->aJ O vals ks->KN vals L->iO.wp (ql cs) (lam ls) O aY r n vals
def eH.zero {r:iO} (h:K sg bs lg lb cs ls aY t L ks vals):eH sg bs lg lb cs ls aY (.cons t r) 0 L ks vals:=fun a b c d e f=>p9 (h a b c d e f)
def eH.succ {r:iO} {n:Nat} (h:eH sg bs lg lb cs ls aY r n L ks vals):eH sg bs lg lb cs ls aY (.cons t r) (n+1) L ks vals:=fun a b c d e f=>Eb (h a b c d e f)
def K.bX {ins:G Y} {ts:iO} {ds:G D} {ik:G Kd} (l:cZ (bP vals) ins=some ds) (u:aJ O ds ik->(lam ls i).eU ds)
 (w:∀j x S' h out,(lam ls i).sig.outs[j]?=some (x,S',h)->(lam ls i).fP ds j out->aJ O out h->eH sg bs lg lb cs ls aY ts j L (ks++h) (vals++out)) (hc:zk O L ks ins ik=true:=by kernel_rfl):K sg bs lg lb cs ls aY (.bX i ins ts) L ks vals:=
 fun a b e f c d=>uV l (u (by
  obtain⟨F,e1,y⟩:=Fe (qQ c) d.f hc;rw[l] at e1;cases e1;exact y)) (fun j x S' h out A E q=>w j x S' h out A E q a b e f (c.append q) (d.app _))
def qp {ins:G Y} {ts:iO} {ds:G D} (q:cZ (bP vals) ins=some ds) (u:(lam ls i).eU ds)
 (w:∀j x S' h out,(lam ls i).sig.outs[j]?=some (x,S',h)->(lam ls i).fP ds j out->aJ O out h->eH sg bs lg lb cs ls aY ts j L (ks++h) (vals++out)):K sg bs lg lb cs ls aY (.bX i ins ts) L ks vals:=
 fun a b e f c d=>uV q u (fun j x S' h out y A l=>w j x S' h out y A l a b e f (c.append l) (d.app _))
def K.go (h:K sg bs lg lb cs ls aY t L ks vals) (j:aJ O vals ks) (hL:KN vals L) (l:Bb cs bs) (e:xW ls lb) (q:cs.map (·.sig)=sg:=by rfl) (u:ls.map (·.sig)=lg:=by rfl):Tree.wp (ql cs) (lam ls) O aY t vals:=h q l u e j hL
end
section
variable {Γ:Nat->bR} {Δ:Nat->gu} {aY Q':Nat->G DA->Prop}
mutual
def Tree.mono (l:∀j ds,aY j ds->Q' j ds):∀{t:Tree} {vals:G D},Tree.wp Γ Δ O aY t vals->Tree.wp Γ Δ O Q' t vals
 |.leaf j vs rr,vals,h=>by
  unfold Tree.wp at h⊢;obtain⟨V,q,w⟩:=h;exact⟨V,q,l j V w⟩
 |.B e t u,vals,h=>by
  unfold Tree.wp at h⊢;split at h
  ·exact Tree.mono l h
  ·exact Tree.mono l h
  ·exact h
 |.fact e v t,vals,h=>by
  unfold Tree.wp at h⊢;exact⟨h.1,Tree.mono l h.2⟩
 |.call i args pre t,vals,h=>by
  unfold Tree.wp at h⊢;obtain⟨V,ds,es,q,w,y,A,E⟩:=h;exact⟨V,ds,es,q,w,y,A,fun F post a b c=>Tree.mono l (E F post a b c)⟩
 |.bX i ins ts,vals,h=>by
  unfold Tree.wp at h⊢;obtain⟨ds,q,w,y⟩:=h;exact⟨ds,q,w,fun j x S' ks out a b c=>iO.mono l (y j x S' ks out a b c)⟩
def iO.mono (e:∀j ds,aY j ds->Q' j ds):∀{r:iO} {n:Nat} {vals:G D},iO.wp Γ Δ O aY r n vals->iO.wp Γ Δ O Q' r n vals
 |.nil,n,vals,h=>by unfold iO.wp at h;exact h.elim
 |.cons t r,n,vals,h=>by
  unfold iO.wp at h⊢
  match n,h with
  |0,h=>exact Tree.mono e h
  |n+1,h=>exact iO.mono e h
end
end
def lK:G Kd:=[.R 0,.R 0,.R 0]
def Zf {T:Nat->ah D} (e:bH T):aJ O fM lK:=(lT e).kinds
section
variable {T:Nat->ah D} {c:bR} {n f:Nat} {sg:G bJ} {bs:G BI} {lg:G eX} {lb:G LI} {cs:G bR} {ls:G gu} {t:Tree} {ks:G Kd} {xs:G D} {V:G DA} {pre:G D} {args:G H} {rt:RT} {α:Type} {s:dV Fa α} {enc:α->DA} {any:DA->Prop} {la:H->aK} {L:G (Y×aK)}
def U6 (T:Nat->ah D) (c:bR) (V:G DA) (pre:G D):Prop:=∃e post,c.fP V pre e post/\iw O c.sig.res e/\aJ O post c.sig.rk/\match c.sig.recv with
 |none=>om T Tryz.prog c.sig.f V e
 |some _=>Cw T Tryz.prog c.sig.f V pre post e
def Jr (A:bH T) (q:∃fn,Tryz.prog.funcs[f]?=some fn/\fn.body=some (kU f))
 (E:∀c∈cs,c.aA T) (w:∀l∈ls,l.aA T f) (d':Bb cs bs) (F:xW ls lb)
 (y:Tree.jC (DK z_ Tryz.prog n f args lW) sg lg fM.length t (B3.ts O (fl++ks))=true) (P:aJ O xs ks)
 (e':K sg bs lg lb cs ls (QS aM s enc any rt) t L (lK++(fl++ks)) (fM++(aM++xs)))
 (hL:KN (fM++(aM++xs)) L:=by exact KN.nil) (e:c.sig=⟨f,some fl,rt⟩:=by rfl) (hR:∀j post,bG s enc any aM j post->c.fP V aM j post:=by exact fun _ _ h=>h)
 (W:iH (bP (fM++(aM++xs))) args=some V:=by rfl) (jY:cs.map (·.sig)=sg:=by rfl) (u:ls.map (·.sig)=lg:=by rfl)
 (a':ou (lK++(fl++ks)).length args=true:=by kernel_rfl):U6 T c V aM:=by
 obtain⟨fn,b',f'⟩:=q;have c':aJ O (aM++xs) (fl++ks):=(show aJ O aM fl from OD).append P
 refine xk (c:=c) mI mixed (lT A) (fn:=fn) (by rw[e];exact b') f' (mK jY E) (mP u w) (recv:=some [.S (.var 3),.S (.var 4)]) (n:=n) (pre:=aM) (by rw[e];exact y) c' a' W ?_ ?_
 ·rw[e]
  exact⟨[.S (.var 3),.S (.var 4)],[.var 3,.var 4],rfl,rfl,rfl,rfl⟩
 ·have g':=e'.go ((Zf A).append c') hL d' F jY u
  have e1:c.sig.res=rt:=by rw[e]
  have h':c.sig.rk=fl:=by rw[e];rfl
  rw[e1,h'];exact Tree.mono (fun _ ds ⟨j,post,i',j',k',l'⟩=>⟨j,post,i',hR j post j',k',l'⟩) g'
def Sk (A:bH T) (q:∃fn,Tryz.prog.funcs[f]?=some fn/\fn.body=some (kU f))
 (E:∀c∈cs,c.aA T) (w:∀l∈ls,l.aA T f) (d':Bb cs bs) (F:xW ls lb)
 (y:Tree.jC (DK z_ Tryz.prog n f args lW) sg lg fM.length t (B3.ts O (fl++ks))=true) (P:aJ O xs ks) {fa:Fa}
 (e':K sg bs lg lb cs ls (QS (dL fa) s enc any rt) t L (lK++(fl++ks)) (fM++(dL fa++xs)))
 (hL:KN (fM++(dL fa++xs)) L:=by exact KN.nil) (e:c.sig=⟨f,some fl,rt⟩:=by rfl) (hR:∀j post,bG s enc any (dL fa) j post->c.fP V (dL fa) j post:=by exact fun _ _ h=>h)
 (W:iH (bP (fM++(dL fa++xs))) args=some V:=by rfl) (jY:cs.map (·.sig)=sg:=by rfl) (u:ls.map (·.sig)=lg:=by rfl)
 (a':ou (lK++(fl++ks)).length args=true:=by kernel_rfl):U6 T c V (dL fa):=by
 obtain⟨fn,b',f'⟩:=q;have c':aJ O (dL fa++xs) (fl++ks):=(show aJ O (dL fa) fl from OD).append P
 refine xk (c:=c) mI mixed (lT A) (fn:=fn) (by rw[e];exact b') f' (mK jY E) (mP u w) (recv:=some [.S (.var 3),.S (.var 4)]) (n:=n) (pre:=dL fa) (by rw[e];exact y) c' a' W ?_ ?_
 ·rw[e]
  exact⟨[.S (.var 3),.S (.var 4)],[.var 3,.var 4],rfl,rfl,rfl,rfl⟩
 ·have g':=e'.go ((Zf A).append c') hL d' F jY u
  have e1:c.sig.res=rt:=by rw[e]
  have h':c.sig.rk=fl:=by rw[e];rfl
  rw[e1,h'];exact Tree.mono (fun _ ds ⟨j,post,i',j',k',l'⟩=>⟨j,post,i',hR j post j',k',l'⟩) g'
def mY (b':bH T) (e:∃fn,Tryz.prog.funcs[f]?=some fn/\fn.body=some (kU f))
 (y:∀c∈cs,c.aA T) (j:∀l∈ls,l.aA T f) (c':Bb cs bs) (A:xW ls lb)
 (q:Tree.jC (DK z_ Tryz.prog n f args lW) sg lg fM.length t (B3.ts O (fl++ks))=true) (E:aJ O xs ks) (Z:mU pre)
 (d':pre=aM->K sg bs lg lb cs ls (QS aM s enc any rt) t L (lK++(fl++ks)) (fM++(aM++xs)))
 (hL:∀a b:Int,KN (fM++([.int .i64 a,.int .i64 b]++xs)) L:=by exact fun _ _=>KN.nil) (u:c.sig=⟨f,some fl,rt⟩:=by rfl) (hR:∀pre a' post,bG s enc any pre a' post->c.fP V pre a' post:=by exact fun _ _ _ h=>h)
 (F:∀a b:Int,iH (bP (fM++([.int .i64 a,.int .i64 b]++xs))) args=some V:=by intro _ _;rfl) (jY:cs.map (·.sig)=sg:=by rfl) (P:ls.map (·.sig)=lg:=by rfl)
 (W:ou (lK++(fl++ks)).length args=true:=by kernel_rfl) (e':Em la any:=by first|exact Nh|exact Ni|exact any_nil)
 (hf:Tree.bad sg bs lg lb (O4 rt la) t L (lK++(fl++ks)) 3=true:=by kernel_rfl):U6 T c V pre:=by
 rcases Z with rfl|⟨fa,w,rfl⟩
 ·exact Jr b' e y j c' A q E (d' rfl) (hL 0 0) u (hR _) (F 0 0) jY P W
 ·refine Sk b' e y j c' A q E (fun f' g' h' i' j' k'=>?_) (hL fa.1 fa.2) u (hR _) (F fa.1 fa.2) jY P W
  exact zY f' g' h' i' w (S_ e' w (fun a' h=>bG.fail w h)) hf j' k' ⟨rfl,rfl⟩
def sV (E:bH T) (q:∃fn,Tryz.prog.funcs[f]?=some fn/\fn.body=some (kU f))
 (F:∀c∈cs,c.aA T) (y:∀l∈ls,l.aA T f) (c':Bb cs bs) (P:xW ls lb)
 (A:Tree.jC (DK z_ Tryz.prog n f args none) sg lg fM.length t (B3.ts O ks)=true) (u:aJ O xs ks) {fP:DA->Prop}
 (d':K sg bs lg lb cs ls (QP fP rt) t L (lK++ks) (fM++xs))
 (hL:KN (fM++xs) L:=by exact KN.nil) (e:c.sig=⟨f,none,rt⟩:=by rfl) (hR:∀j,fP j->c.fP V [] j []:=by exact fun _ h=>⟨h,rfl⟩)
 (W:iH (bP (fM++xs)) args=some V:=by rfl) (jY:cs.map (·.sig)=sg:=by rfl) (w:ls.map (·.sig)=lg:=by rfl)
 (a':ou (lK++ks).length args=true:=by kernel_rfl):U6 T c V []:=by
 obtain⟨fn,b',e'⟩:=q;refine xk (c:=c) mI mixed (lT E) (fn:=fn) (by rw[e];exact b') e' (mK jY F) (mP w y) (recv:=none) (n:=n) (pre:=[]) (by rw[e];exact A) u a' W ?_ ?_
 ·rw[e]
 ·have f':=d'.go ((Zf E).append u) hL c' P jY w
  have e1:c.sig.res=rt:=by rw[e]
  have g':c.sig.rk=[]:=by rw[e];rfl
  rw[e1,g'];exact Tree.mono (fun _ ds ⟨j,h',i',j'⟩=>⟨j,[],h',hR j i',j',rfl⟩) f'
end
abbrev dx:Y:=(.var 5)
abbrev dB:Y:=(.var 7)
abbrev bQ:Y:=(.var 3)
abbrev fE:Y:=(.var 4)
abbrev fQ:Y:=(.var 8)
abbrev dN:Y:=(.var 6)
abbrev bZ:Y:=(.var 9)
abbrev iF:Y:=(.str [])
abbrev dU:Y:=(.var 10)
abbrev iK:Y:=(.var 15)
abbrev jr:Y:=(.var 16)
abbrev fI:Y:=(.var 11)
abbrev fK:Y:=(.var 12)
abbrev h_:Y:=(.var 13)
abbrev iY:Y:=(.var 14)
abbrev jQ:Y:=(.var 17)
abbrev jq:Y:=(.var 18)
abbrev kQ:Y:=(.var 19)
abbrev pU:Y:=(.var 20)
abbrev lG:Y:=(.var 21)
abbrev wU:Y:=(.var 22)
abbrev Bl:Y:=(.var 23)
abbrev kT:H:=(.str [])
abbrev zh:Y:=(.var 25)
abbrev EB:Y:=(.var 26)
abbrev yV:Y:=(.var 24)
abbrev CF:Y:=(.var 27)
abbrev Bn:Y:=(.var 33)
abbrev CG:Y:=(.var 34)
abbrev Kn:Y:=(.var 35)
abbrev MF:Y:=(.var 36)
abbrev V5:Y:=(.var 37)
abbrev acK:Y:=(.var 38)
abbrev EO:Y:=(.var 28)
abbrev zR:Y:=(.var 29)
abbrev ED:Y:=(.var 30)
abbrev yZ:Y:=(.var 31)
abbrev zf:Y:=(.var 32)
abbrev aF:H:=(.S .d9)
abbrev fU:H:=(.ptr 10 0)
abbrev jk:H:=(.ptr 12 0)
abbrev iM:H:=(.ptr 11 0)
abbrev ER:H:=(.ptr 23 0)
abbrev aj1:Y:=(.bool true)
abbrev jI:Y:=(.int .i64 3)
abbrev iP:Y:=(.int .i64 2)
abbrev aH:Y:=(.int .i64 0)
abbrev cO:Y:=(.int .i64 1)
abbrev pV:H:=(.int .i64 2)
abbrev alN:Y:=(.bool false)
abbrev yX:Y:=(.int .i64 4)
abbrev QU:H:=(.bool false)
abbrev Ku:Y:=(.int .i64 5)
abbrev vo:Y:=(.int .i64 6)
abbrev WQ:H:=(.int .i64 4)
abbrev WT:Y:=(.int .i64 7)
abbrev Ws:Y:=(.int .i64 12)
abbrev adC:Y:=(.int .i64 11)
abbrev Qr:Y:=(.int .i64 13)
abbrev acf:Y:=(.int .i64 14)
abbrev acg:Y:=(.int .i64 15)
abbrev aAQ:Y:=(.int .i64 17)
abbrev aAj:Y:=(.int .i64 22)
abbrev acL:Y:=(.int .i64 23)
abbrev acJ:Y:=(.int .i64 21)
abbrev ael:Y:=(.int .i64 20)
abbrev anB:Y:=(.int .i64 200)
abbrev Gc:Tree:=(.leaf 1 [] [])
abbrev MU:H:=(.S (.var 39))
abbrev KC:H:=(.S (.var 40))
abbrev Ez:Tree:=(.leaf 2 [] [])
abbrev MZ:H:=(.S (.var 41))
abbrev MC:H:=(.S (.var 42))
abbrev Qz:H:=(.S (.var 43))
abbrev ayn:Y:=(.int .i64 (-1))
abbrev mG:Y:=(.int .i64 1000000)
abbrev acs:Y:=(.str [110,105,108])
abbrev ac0:Y:=(.str [108,101,116])
abbrev ad5:Y:=(.str [110,101,119])
abbrev aco:Y:=(.str [103,101,116])
abbrev adn:Y:=(.str [115,101,116])
abbrev adJ:Y:=(.str [109,117,108])
abbrev adp:Y:=(.str [110,111,116])
abbrev abU:Y:=(.str [108,111,97,100])
abbrev abS:Y:=(.str [101,118,97,108])
abbrev ac5:Y:=(.str [115,97,109,101])
abbrev adT:Y:=(.str [102,97,105,108])
abbrev ab2:Y:=(.str [116,114,117,101])
abbrev acG:Y:=(.str [108,101,115,115])
abbrev adE:Y:=(.str [101,100,105,116])
abbrev aRg:bV:=⟨[(2,.bool false)],[],11⟩
abbrev aRn:bV:=⟨[(4,.bool false)],[],12⟩
abbrev abP:Y:=(.str [102,97,108,115,101])
abbrev acZ:Y:=(.str [78,101,118,101,114])
abbrev abM:Y:=(.str [112,97,117,115,101])
abbrev MG:Y:=(.str [116,117,112,108,101])
abbrev VZ:Y:=(.str [117,110,105,111,110])
abbrev acu:Y:=(.str [119,104,105,108,101])
abbrev acr:Y:=(.str [99,111,110,99,97,116])
abbrev aQT:G Y:=[.var 9,.var 10,.var 11,.var 12]
abbrev aS5:G Y:=[.var 13,.var 14,.var 15,.var 16]
abbrev abR:Y:=(.str [115,116,114,117,99,116])
abbrev aeb:Y:=(.str [117,110,108,111,97,100])
abbrev adk:Y:=(.str [97,115,115,105,103,110])
abbrev ado:Y:=(.str [108,97,116,101,115,116])
abbrev WB:Y:=(.str [101,120,105,115,116,115])
abbrev aed:Y:=(.str [109,101,116,104,111,100])
abbrev acB:Y:=(.str [100,101,108,101,116,101])
abbrev ab1:Y:=(.str [111,117,116,112,117,116])
abbrev acI:Y:=(.str [101,108,101,109,101,110,116])
abbrev adB:Y:=(.str [97,98,115,116,114,97,99,116])
abbrev aTi:G Y:=[.var 3,.var 4,.var 5,.var 6,.int .i64 0]
abbrev aUB:Y:=(.snoc .d9 [.var 12,.var 13,.var 14,.var 15])
abbrev aSc:Y:=(.snoc .d9 [.var 20,.var 21,.var 22,.var 23])
abbrev aTb:G Y:=[.var 9,.var 10,.var 11,.var 12,.var 13,.int .i64 0]
abbrev aSY:G Y:=[.var 7,.var 8,.var 3,.var 4,.var 5,.var 6,.int .i64 0]
abbrev aTM:G Y:=[.var 8,.var 9,.var 10,.var 11,.var 12,.var 13,.var 14,.var 15,.var 16]
abbrev aRT:G Y:=[.var 9,.var 10,.var 11,.var 12,.var 13,.var 14,.var 15,.var 16,.var 17]
abbrev aQI:G Y:=[.var 12,.var 13,.var 14,.var 15,.var 16,.var 17,.var 18,.var 19,.var 20]
abbrev aRb:G Y:=[.var 10,.var 11,.var 12,.var 13,.var 14,.var 15,.var 16,.var 17,.var 18]
abbrev aQ7:G Y:=[.var 8,.var 9,.var 10,.var 11,.var 12,.var 13,.var 14,.var 15,.var 16,.var 17]
abbrev aTz:G Y:=[.var 9,.var 10,.var 11,.var 12,.var 13,.var 14,.var 15,.var 16,.var 17,.var 18]
abbrev aRa:G Y:=[.var 27,.var 28,.var 29,.var 30,.var 31,.var 32,.var 33,.var 34,.var 35,.var 36]
abbrev aUh:G Y:=[.var 24,.var 25,.var 26,.var 27,.var 28,.var 29,.var 30,.var 31,.var 32,.var 33]
abbrev aQ3:G Y:=[.var 15,.var 16,.var 17,.var 18,.var 19,.var 20,.var 21,.var 22,.var 23,.var 24]
abbrev aSr:G Y:=[.var 12,.var 13,.var 14,.var 15,.var 16,.var 17,.var 18,.var 19,.var 20,.var 21]
abbrev aTh:G Y:=[.var 13,.var 14,.var 15,.var 16,.var 17,.var 18,.var 19,.var 20,.var 21,.var 22]
abbrev aTE:G Y:=[.var 25,.var 26,.var 27,.var 28,.var 29,.var 30,.var 31,.var 32,.var 33,.var 34]
abbrev dY:H:=(.S bQ)
abbrev fJ:H:=(.S fE)
abbrev aN:H:=(.S aH)
abbrev aQ:H:=(.S iF)
abbrev dz:H:=(.S fQ)
abbrev aUw:G H:=[.S fE]
abbrev ayY:H:=(.S alN)
abbrev aRd:G H:=[.S alN]
abbrev cu:H:=(.S dx)
abbrev b_:H:=(.S dN)
abbrev MR:H:=(.S yX)
abbrev q9:H:=(.S iP)
abbrev dS:H:=(.S dB)
abbrev eu:H:=(.S bZ)
abbrev dP:H:=(.S dU)
abbrev iG:H:=(.S iK)
abbrev jg:H:=(.S jr)
abbrev dI:H:=(.S fI)
abbrev bT:H:=(.S fK)
abbrev kN:H:=(.S jQ)
abbrev mV:H:=(.S jq)
abbrev dZ:H:=(.S h_)
abbrev fD:H:=(.S iY)
abbrev aAX:H:=(.S aj1)
abbrev aRN:G H:=[.S aj1]
abbrev MX:H:=(.S jI)
abbrev Cy:H:=(.S vo)
abbrev qH:H:=(.S wU)
abbrev rZ:H:=(.S Bl)
abbrev lS:H:=(.S kQ)
abbrev mW:H:=(.S pU)
abbrev wh:H:=(.S zh)
abbrev vZ:H:=(.S EB)
abbrev qJ:H:=(.S lG)
abbrev Bj:H:=(.S CF)
abbrev qZ:H:=(.S yV)
abbrev IY:H:=(.S Bn)
abbrev Bh:H:=(.S CG)
abbrev za:H:=(.S Kn)
abbrev yU:H:=(.S MF)
abbrev EJ:H:=(.S V5)
abbrev I5:H:=(.S acK)
abbrev wT:H:=(.S EO)
abbrev zU:H:=(.S zR)
abbrev aSq:G H:=[.S bZ]
abbrev aQv:G H:=[.S dB]
abbrev aTP:G H:=[.S dN]
abbrev I4:H:=(.S cO)
abbrev MW:H:=(.S Ku)
abbrev M_:H:=(.S ED)
abbrev Kj:H:=(.S WT)
abbrev akz:H:=(.S adC)
abbrev ajI:H:=(.S acf)
abbrev VK:H:=(.S acg)
abbrev yj:H:=(.S aAQ)
abbrev alf:H:=(.S aAj)
abbrev amC:H:=(.S acJ)
abbrev am9:H:=(.S ael)
abbrev mF:Y:=(.len dB)
abbrev wm:Y:=(.len dN)
abbrev IZ:Y:=(.len jr)
abbrev ads:Y:=(.len jQ)
abbrev IW:Y:=(.len bZ)
abbrev MH:Y:=(.len bQ)
abbrev qg:Y:=(.len dx)
abbrev MS:Y:=(.len fE)
abbrev Qy:Y:=(.len iK)
abbrev sO:Y:=(.len dU)
abbrev QI:Y:=(.len fI)
abbrev acy:Y:=(.len iY)
abbrev QW:SO:=(.seq 1 dx)
abbrev WL:SO:=(.seq 5 iK)
abbrev Qm:SO:=(.seq 1 dU)
abbrev QD:H:=(.gy 12 dx 1)
abbrev amU:H:=(.gy 15 iK 5)
abbrev ajQ:H:=(.gy 13 dU 1)
abbrev ac7:Y:=(.cat .d9 fI)
abbrev VP:bV:=⟨[(2,QU)],[],11⟩
abbrev Wu:bV:=⟨[(4,QU)],[],12⟩
abbrev aUc:Tree:=(.leaf 0 [.S yX] [])
abbrev aRK:Tree:=(.leaf 0 [.S aH] [])
abbrev WO:Tree:=(.leaf 0 [.S ayn] [])
abbrev aTt:Tree:=(.leaf 0 [.S cO] [])
abbrev aUC:G H:=[.S (.var 0),.S fE]
abbrev aTJ:bV:=⟨[(3,.S bQ)],[],11⟩
abbrev aRM:G H:=[WQ,.S fQ]
abbrev WY:Y:=(.cell dB aH 0)
abbrev kM:Y:=(.cell dB aH 1)
abbrev al9:Y:=(.cell dB aH 2)
abbrev ak2:Y:=(.cell dB aH 3)
abbrev ayW:Y:=(.cell dB cO 0)
abbrev aA6:Y:=(.cell dB cO 1)
abbrev aza:Y:=(.cell dB cO 2)
abbrev aBg:Y:=(.cell dB cO 3)
abbrev adv:Y:=(.cell dN dB 0)
abbrev CB:Y:=(.cell dN dB 2)
abbrev acC:Y:=(.cell dN dB 3)
abbrev akt:Y:=(.cell fQ bZ 0)
abbrev EN:Y:=(.cell fQ bZ 2)
abbrev acv:Y:=(.cell fQ bZ 3)
abbrev ak0:Y:=(.cell dN dB 1)
abbrev amm:Y:=(.cell jr jQ 0)
abbrev ET:Y:=(.cell jr jQ 2)
abbrev alu:Y:=(.cell jr jQ 3)
abbrev alQ:Y:=(.cell jQ jq 0)
abbrev EA:Y:=(.cell jQ jq 2)
abbrev al5:Y:=(.cell jQ jq 3)
abbrev VH:Y:=(.cell bQ dx 0)
abbrev WW:Y:=(.cell dx dB 0)
abbrev azi:Y:=(.cell dN fQ 0)
abbrev azo:Y:=(.cell dN fQ 1)
abbrev ay9:Y:=(.cell dN fQ 2)
abbrev aAC:Y:=(.cell dN fQ 3)
abbrev anI:Y:=(.cell dN aH 0)
abbrev akT:Y:=(.cell dN aH 1)
abbrev alV:Y:=(.cell dN aH 2)
abbrev anM:Y:=(.cell dN aH 3)
abbrev ac2:Y:=(.cell bQ fE 0)
abbrev aer:Y:=(.cell dx dB 1)
abbrev amX:Y:=(.cell dx dB 2)
abbrev ak5:Y:=(.cell dx dB 3)
abbrev aj9:Y:=(.cell dx fQ 0)
abbrev ako:Y:=(.cell dx fQ 1)
abbrev an0:Y:=(.cell dx fQ 2)
abbrev amV:Y:=(.cell dx fQ 3)
abbrev aAJ:Y:=(.cell iK jr 0)
abbrev azd:Y:=(.cell iK jr 1)
abbrev aym:Y:=(.cell iK jr 2)
abbrev azl:Y:=(.cell iK jr 3)
abbrev amq:Y:=(.cell dx aH 0)
abbrev QY:Y:=(.cell dx aH 1)
abbrev ayp:Y:=(.cell dx aH 2)
abbrev akn:Y:=(.cell dx aH 3)
abbrev ayK:Y:=(.cell dx cO 0)
abbrev VN:Y:=(.cell dx cO 1)
abbrev ayG:Y:=(.cell dx cO 2)
abbrev akb:Y:=(.cell dx cO 3)
abbrev aAs:Y:=(.cell dx iP 0)
abbrev azK:Y:=(.cell dx iP 1)
abbrev azT:Y:=(.cell dx iP 2)
abbrev aAr:Y:=(.cell dx iP 3)
abbrev az9:Y:=(.cell iY iK 0)
abbrev anf:Y:=(.cell iY iK 1)
abbrev az8:Y:=(.cell iY iK 2)
abbrev azn:Y:=(.cell iY iK 3)
abbrev ayb:Y:=(.cell dB fQ 0)
abbrev ayd:Y:=(.cell dB fQ 1)
abbrev ayo:Y:=(.cell dB fQ 2)
abbrev aAN:Y:=(.cell dB fQ 3)
abbrev aA7:Y:=(.cell fQ bZ 1)
abbrev amr:Y:=(.cell bQ fE 1)
abbrev anZ:Y:=(.cell bQ fE 2)
abbrev akL:Y:=(.cell bQ fE 3)
abbrev anV:Y:=(.cell bQ fE 4)
abbrev alA:Y:=(.cell bQ fE 5)
abbrev amc:Y:=(.cell bQ fE 6)
abbrev anF:Y:=(.cell bQ fE 7)
abbrev ajP:Y:=(.cell bQ fE 8)
abbrev aSO:G Y:=[.cell dx cO 1]
abbrev amJ:Y:=(.cell jr jQ 1)
abbrev ajT:Y:=(.cell dU aH 0)
abbrev aj0:Y:=(.cell dU aH 1)
abbrev ak8:Y:=(.cell dU aH 2)
abbrev anD:Y:=(.cell dU aH 3)
abbrev WG:Y:=(.cell dU cO 0)
abbrev alo:Y:=(.cell dU cO 1)
abbrev akx:Y:=(.cell dU cO 2)
abbrev alR:Y:=(.cell dU cO 3)
abbrev aQY:G H:=[.S bQ,.S fE]
abbrev aTZ:G H:=[.S bZ,.S dU]
abbrev aSu:G H:=[.S fI,.S fK]
abbrev aRR:G H:=[.S jr,.S jQ]
abbrev aRw:G H:=[.S h_,.S iY]
abbrev aTg:G H:=[.S Bl,.S yV]
abbrev aT7:G H:=[.S fK,.S h_]
abbrev aTa:G H:=[.S aH,.S aH]
abbrev aRS:G H:=[.S iP,.S dN]
abbrev aT6:G H:=[.S zh,.S EB]
abbrev aRQ:G H:=[.S CF,.S EO]
abbrev aQJ:G H:=[.S dN,.S dB]
abbrev aTX:G H:=[.S dx,.S dN]
abbrev aSw:G H:=[.S dU,.S fI]
abbrev aRI:G H:=[.S iY,.S iK]
abbrev Wi:Y:=(.bin .eql dx jI)
abbrev iC:Y:=(.bin .eql bQ aH)
abbrev EK:Y:=(.bin .eql bQ cO)
abbrev Bg:Y:=(.bin .geq fQ aH)
abbrev yY:Y:=(.bin .geq dB aH)
abbrev acA:Y:=(.bin .add dB cO)
abbrev aep:Y:=(.bin .add bZ cO)
abbrev F9:Y:=(.bin .eql bQ Ku)
abbrev Qn:Y:=(.bin .eql dx cO)
abbrev VQ:Y:=(.bin .neq dx jI)
abbrev adq:Y:=(.bin .geq jQ aH)
abbrev Vt:Y:=(.bin .add jQ cO)
abbrev adN:Y:=(.bin .geq jq aH)
abbrev V_:Y:=(.bin .add jq cO)
abbrev Ky:Y:=(.bin .geq dx aH)
abbrev adb:Y:=(.bin .add dx cO)
abbrev amh:Y:=(.bin .add fQ cO)
abbrev WJ:Y:=(.bin .neq bQ Ku)
abbrev VE:Y:=(.bin .neq dx aH)
abbrev amf:Y:=(.bin .leq dx anB)
abbrev Nc:Y:=(.bin .eql bQ iP)
abbrev MI:Y:=(.bin .eql bQ jI)
abbrev QV:Y:=(.bin .eql bQ yX)
abbrev anv:Y:=(.bin .eql bQ vo)
abbrev acE:Y:=(.bin .geq fE aH)
abbrev Mw:Y:=(.bin .neq fK aH)
abbrev amK:Y:=(.bin .neq iY aH)
abbrev Wn:Y:=(.bin .geq iK aH)
abbrev W9:Y:=(.bin .eql h_ aH)
abbrev VI:Y:=(.bin .geq fK aH)
abbrev adz:Y:=(.bin .eql dU aH)
abbrev aeg:Y:=(.bin .eql jq aH)
abbrev abQ:Y:=(.bin .geq jr aH)
abbrev adu:Y:=(.bin .add jr cO)
abbrev VX:Y:=(.bin .geq h_ aH)
abbrev acS:Y:=(.bin .add iK cO)
abbrev ani:Y:=(.bin .add bQ aH)
abbrev Qw:Y:=(.bin .eql fI aH)
abbrev ayT:Y:=(.bin .neq pU aH)
abbrev aAA:Y:=(.bin .neq bZ aH)
abbrev WU:Y:=(.bin .eql kQ aH)
abbrev aya:Y:=(.bin .eql wU aH)
abbrev aku:Y:=(.bin .eql bQ (.str [65,110,121]))
abbrev aAe:Y:=(.sub dx aH dB)
abbrev Vo:Y:=(.sub dU cO iP)
abbrev VY:Y:=(.sub dU iP jI)
abbrev V8:Y:=(.sub dU aH cO)
abbrev aS7:G H:=[aF,pV,.S fQ]
abbrev aUq:Y:=(.snoc .d9 [.cell jr jQ 1])
abbrev aTS:G H:=[aF,.S dB,.S fQ]
abbrev aTC:G H:=[aF,.S fI,.S fK]
abbrev aTk:G H:=[.S dN,pV,.S fQ]
abbrev aTd:G H:=[aF,.S bQ,.S fE]
abbrev aQR:G H:=[.S bQ,.S fE,.S dx]
abbrev aSL:G H:=[.S bQ,.S fE,.S dB]
abbrev aQU:G H:=[.S bZ,.S dB,.S fQ]
abbrev aTs:G H:=[.S h_,.S fI,.S fK]
abbrev aT4:G H:=[.S dN,.S bQ,.S fE]
abbrev aTF:G H:=[.S dU,.S fI,.S fK]
abbrev aSD:Y:=(.snoc fE [.cell bQ dx 0])
abbrev QF:G Y:=[h_,iY,iK,jr]
abbrev adI:G Y:=[bZ,dU,fI,fK]
abbrev aSA:G H:=[.S fE,kT,.S dx,.aV]
abbrev aRA:G H:=[.S bQ,kT,.S fE,.aV]
abbrev aQF:Tree:=(.leaf 0 [.S dU,.int .i64 6,.S fQ] [])
abbrev aTQ:G H:=[.S fQ,.S bZ,.S dU,.aV]
abbrev aQV:Tree:=(.leaf 0 [.S dB,.S bQ,.S fE] [])
abbrev aR2:G H:=[.S aH,.S iF,aF,.S aH]
abbrev aTn:G H:=[.S aH,.S iF,.S aH,aF]
abbrev aTc:G H:=[.S fK,.S iF,.S h_,aF]
abbrev akV:Y:=(.snoc .d9 [fK,h_,iY,iK])
abbrev aTv:bV:=⟨[(0,.S bQ),(3,.aV),(4,.S fE)],[],10⟩
abbrev akQ:Y:=(.snoc .d9 [pU,lG,wU,Bl])
abbrev Qx:G Y:=[bQ,fE,dx,dN,aH]
abbrev aS0:G H:=[.S bQ,.S fE,.S dx,.S dN]
abbrev aRi:G H:=[.S bQ,.S fE,.S dN,.S dB]
abbrev aUg:G H:=[.S dx,.S dN,.S dB,.S fQ]
abbrev aQQ:G H:=[.S dU,.S fI,.S fK,.S h_]
abbrev aUe:G H:=[.S fQ,.S bZ,.S dU,.S fI]
abbrev aSN:G H:=[.S dN,.S dB,.S fQ,.S bZ]
abbrev aUl:G H:=[.S jQ,.S jq,.S kQ,.S pU]
abbrev aTB:G H:=[.S lG,.S wU,.S Bl,.S yV]
abbrev aSZ:G H:=[.S kQ,.S pU,.S lG,.S wU]
abbrev aR1:G H:=[.S Bl,.S yV,.S zh,.S EB]
abbrev aR6:G H:=[.S aH,.S aH,.S jQ,.S jq]
abbrev aRu:G H:=[.S fK,.S iF,.S h_,.S iY]
abbrev aTU:G H:=[.S h_,.S iY,.S iK,.S jr]
abbrev aUi:G H:=[.S fE,.S dx,.S dN,.S dB]
abbrev aTj:G H:=[.S dB,.S fQ,.S bZ,.S dU]
abbrev aSS:G H:=[.S fK,.S h_,.S iY,.S iK]
abbrev aUu:G H:=[.S pU,.S lG,.S wU,.S Bl]
abbrev aRe:Tree:=(.leaf 0 [.S bQ,.S (.bin .add fE cO)] [])
abbrev aUo:SO:=(.cells false [.S dU,kT,.S fI,.aV])
abbrev aQN:SO:=(.cells false [.S fQ,kT,.S bZ,.aV])
abbrev aQ4:H:=(.agg [.S fQ,.S iF,.S bZ,aF])
abbrev aQH:bV:=⟨[(0,.S bQ),(1,.S fE),(5,.S dx)],[],10⟩
abbrev alC:Y:=(.snoc jr [zf,Bn,CG,Kn])
abbrev ak4:Y:=(.snoc fI [iY,iK,jr,jQ])
abbrev aln:Y:=(.snoc iY [jQ,jq,kQ,pU])
abbrev aRY:bV:=⟨[(0,.S bQ),(1,.S bQ),(5,.S fE)],[],10⟩
abbrev ak7:Y:=(.snoc jq [lG,wU,Bl,yV])
abbrev amj:Y:=(.snoc dN [wU,Bl,yV,zh])
abbrev azI:G Y:=[bZ,dU,fI,fK,h_,aH]
abbrev amO:G Y:=[dB,bQ,fE,dx,dN,aH]
abbrev ajW:Y:=(.snoc iK [kQ,wU,Bl,yV,zh])
abbrev akK:Y:=(.snoc iY [CF,ED,yZ,zf,Bn])
abbrev ana:Y:=(.snoc iK [zR,zf,Bn,CG,Kn])
abbrev ald:G Y:=[dB,fQ,bQ,fE,dx,dN,aH]
abbrev aQw:G H:=[.S dx,kT,.aV,.S dN,kT,.S dB,.aV,.aV,.aV]
abbrev aR8:G H:=[.S dN,kT,.aV,.S dB,kT,.S fQ,.aV,.aV,.aV]
abbrev aUp:G H:=[.S bZ,kT,.aV,.S dU,kT,.S fI,.aV,.aV,.aV]
abbrev aQM:G H:=[.S dB,kT,.aV,.S fQ,kT,.S bZ,.aV,.aV,.aV]
abbrev aRq:G H:=[.S fE,.S dx,.S dN,.S dB,.S fQ,.S bZ,.S dU]
abbrev ayM:G Y:=[fQ,bZ,dU,fI,fK,h_,iY,iK,jr]
abbrev aAa:G Y:=[bZ,dU,fI,fK,h_,iY,iK,jr,jQ]
abbrev aSU:G H:=[.S bZ,.S dU,.aV,.S fI,kT,.S fK,.aV,.aV,.aV]
abbrev aSt:G H:=[.S fQ,.S bZ,.aV,.S dU,kT,.S fI,.aV,.aV,.aV]
abbrev aR5:G H:=[.S fK,.S h_,.aV,.S iY,kT,.S iK,.aV,.aV,.aV]
abbrev aSg:G H:=[.S dU,.S fI,.aV,.S fK,kT,.S h_,.aV,.aV,.aV]
abbrev aAx:G Y:=[fK,h_,iY,iK,jr,jQ,jq,kQ,pU]
abbrev az2:G Y:=[dU,fI,fK,h_,iY,iK,jr,jQ,jq]
abbrev aQ8:G H:=[.S fQ,.S bZ,.aV,.S dU,.S fI,.S fK,.S h_,.aV,.aV]
abbrev aSp:G H:=[.S bZ,.S dU,.gy 13 fI 1,.S fK,kT,.S h_,.aV,.aV,.aV]
abbrev aUf:G H:=[.S dU,.S fI,.gy 13 fK 1,.S h_,kT,.S iY,.aV,.aV,.aV]
abbrev adS:G Y:=[CF,EO,zR,ED,yZ,zf,Bn,CG,Kn,MF]
abbrev akP:G Y:=[fQ,bZ,dU,fI,fK,h_,iY,iK,jr,jQ]
abbrev QM:G Y:=[bZ,dU,fI,fK,h_,iY,iK,jr,jQ,jq]
abbrev aBd:G Y:=[yV,zh,EB,CF,EO,zR,ED,yZ,zf,Bn]
abbrev ayc:G Y:=[iK,jr,jQ,jq,kQ,pU,lG,wU,Bl,yV]
abbrev ax4:G Y:=[fK,h_,iY,iK,jr,jQ,jq,kQ,pU,lG]
abbrev anH:G Y:=[h_,iY,iK,jr,jQ,jq,kQ,pU,lG,wU]
abbrev ab7:G Y:=[zh,EB,CF,EO,zR,ED,yZ,zf,Bn,CG]
abbrev aRV:G H:=[.S fQ,.S bZ,.S dU,.S fI,.S fK,.S h_,.S iY,.aV,.aV]
abbrev aSl:G H:=[.S aH,.S iF,aF,.S aH,.S iF,.S aH,aF,aF,aF]
abbrev aSz:G H:=[.S Ku,.S bZ,aF,.S aH,.S iF,.S aH,aF,aF,aF]
abbrev aUk:G H:=[.S vo,.S bZ,aF,.S aH,.S iF,.S aH,aF,aF,aF]
abbrev aTr:G H:=[.S EO,.S zR,aF,.S Bn,.S CG,.S Kn,.S MF,aF,aF]
abbrev aSQ:G H:=[.S EO,.S zR,aF,.S CG,.S Kn,.S MF,.S V5,aF,aF]
abbrev aRZ:G H:=[.S fQ,.S bZ,.aV,.S dU,.S fI,.S fK,.S h_,.gy 13 iY 5,.aV]
abbrev aRk:G H:=[.S fQ,.S bZ,.gy 13 dU 1,.S fI,.S fK,.S h_,.S iY,.aV,.aV]
abbrev aQ0:G H:=[.S fQ,.S bZ,.S dU,.S fI,.S fK,.S h_,.S iY,.gy 15 iK 5,.aV]
abbrev aRo:G H:=[.S bQ,.S fE,.S dx,.S dN,.S dB,.S fQ,.S bZ,.S dU,.S fI]
abbrev aRJ:G H:=[.S fK,.S h_,.S iY,.S iK,.S jr,.S jQ,.S jq,.S kQ,.S pU]
abbrev aRl:G H:=[.S bZ,.S dU,.S fI,.S fK,.S h_,.S iY,.S iK,.S jr,.S jQ]
abbrev amg:G H:=[.S (.cell fE dx 0),.S (.cell fE dx 1),.S (.cell fE dx 2),.S (.cell fE dx 3)]
abbrev ali:G H:=[.S (.cell jq jI 0),.S (.cell jq jI 1),.S (.cell jq jI 2),.S (.cell jq jI 3)]
abbrev akE:G H:=[.S (.cell dU fI 0),.S (.cell dU fI 1),.S (.cell dU fI 2),.S (.cell dU fI 3)]
abbrev am8:G H:=[.S (.cell fI fK 0),.S (.cell fI fK 1),.S (.cell fI fK 2),.S (.cell fI fK 3)]
abbrev an4:G H:=[.S (.cell dx jI 0),.S (.cell dx jI 1),.S (.cell dx jI 2),.S (.cell dx jI 3)]
abbrev aj2:G H:=[.S (.cell jr iP 0),.S (.cell jr iP 1),.S (.cell jr iP 2),.S (.cell jr iP 3)]
abbrev an5:G H:=[.S (.cell jr jI 0),.S (.cell jr jI 1),.S (.cell jr jI 2),.S (.cell jr jI 3)]
abbrev ajV:G H:=[.S (.cell dx dN 0),.S (.cell dx dN 1),.S (.cell dx dN 2),.S (.cell dx dN 3)]
abbrev aTo:G H:=[.S fQ,.S bZ,.gy 13 dU 1,.S fI,.S fK,.S h_,.S iY,.gy 15 iK 5,.aV]
abbrev aQB:G H:=[.S cO,.S iF,.S dU,.S iF,.S aH,.S iF,.S aH,aF,aF,aF]
abbrev aSf:G H:=[.S iP,.S iF,.S cO,.S iF,.S aH,.S iF,.S aH,aF,aF,aF]
abbrev aSJ:G H:=[.S iP,.S iF,.S aH,.S iF,.S aH,.S iF,.S aH,aF,aF,aF]
abbrev aT1:G H:=[.S jI,.S iF,.S aH,.S iF,.S aH,.S iF,.S aH,aF,aF,aF]
abbrev aST:G H:=[.S Ku,.S fK,.S aH,.S iF,.S aH,.S iF,.S aH,aF,aF,aF]
abbrev aQ2:G H:=[.S yX,.S iF,.S aH,.S dN,.S aH,.S iF,.S aH,aF,aF,aF]
abbrev aUA:G H:=[.S aH,.S iF,.S aH,.S iF,.S aH,.S iF,.S aH,aF,aF,aF]
abbrev aRO:G H:=[.S acg,.S iF,.S fK,.S iF,.S aH,.S iF,.S aH,aF,aF,aF]
abbrev aRs:G H:=[.S acL,.S iF,.S aH,.S iF,.S aH,.S iF,.S aH,aF,aF,aF]
abbrev aSs:G H:=[.S acf,.S iF,.S aH,.S iF,.S aH,.S iF,.S aH,aF,.S fK,aF]
abbrev aQ6:G H:=[.S acJ,.S fK,.S aH,.S iF,.S aH,.S iF,.S aH,aF,.S iK,aF]
abbrev aQG:G H:=[.S ael,.S fK,.S aH,.S iF,.S aH,.S iF,.S aH,aF,.S iK,aF]
abbrev aR9:G H:=[.S WT,.S dU,.S aH,.S iF,.S aH,.S iF,.S aH,aF,.S iY,aF]
abbrev aQO:G H:=[.S acf,.S iF,.S aH,.S iF,.S aH,.S iF,.S aH,aF,.S dU,aF]
abbrev aRv:G H:=[.S acg,.S iF,.S h_,.S iF,.S aH,.S iF,.S aH,aF,.S dU,aF]
abbrev aUb:G H:=[.S acJ,.S dU,.S aH,.S iF,.S aH,.S iF,.S aH,aF,.S h_,aF]
abbrev aSG:G H:=[.S ael,.S dU,.S aH,.S iF,.S aH,.S iF,.S aH,aF,.S h_,aF]
abbrev aRy:G H:=[.S adC,.S iF,.S aH,.S iF,.S fK,.S h_,.S iY,.S iK,.S jq,aF]
abbrev aUz:G H:=[.S adC,.S iF,.S aH,.S iF,.S dU,.S fI,.S fK,.S h_,.S jr,aF]
abbrev aT8:G H:=[.S dU,.S fI,.S fK,.S h_,.S iY,.S iK,.S jr,.S jQ,.S jq,.S kQ]
abbrev aRL:G H:=[.S bQ,.S fE,.S dx,.S dN,.S dB,.S fQ,.S bZ,.S dU,.S fI,.S fK,.S h_]
abbrev aRH:G H:=[.S bQ,.S fE,.S dx,.S dN,.S dB,.S fQ,.S bZ,.S dU,.S fI,.S fK,.S h_,.S iY]
abbrev aSI:G H:=[.S bQ,.S fE,.S dx,.S dN,.S dB,.S fQ,.S bZ,.S dU,.S fI,.S fK,.S h_,.S iY,.S iK]
abbrev aT3:G H:=[.S bQ,.S fE,.S dx,.S dN,.S dB,.S fQ,.S bZ,.S dU,.S fI,.S fK,.S h_,.S iY,.S iK,.S jr,.S jQ,.S jq,.S kQ,.S pU,.S (.bin .add lG cO)]
abbrev ze:G H:=[fJ]
abbrev ayr:G H:=[ayY]
abbrev aAt:G H:=[aAX]
abbrev aek:G H:=[dS]
abbrev azW:H:=(.S WY)
abbrev QX:H:=(.S kM)
abbrev ayB:H:=(.S al9)
abbrev aeh:H:=(.S ak2)
abbrev zS:H:=(.S acA)
abbrev amd:H:=(.S acC)
abbrev adX:H:=(.S aep)
abbrev anG:H:=(.S adv)
abbrev Kt:H:=(.S wm)
abbrev Cx:H:=(.S amh)
abbrev ays:H:=(.S amf)
abbrev aTm:G H:=[.S amf]
abbrev azw:H:=(.S anI)
abbrev azq:H:=(.S akT)
abbrev aBe:H:=(.S alV)
abbrev az0:H:=(.S anM)
abbrev ab5:H:=(.S ak5)
abbrev ad3:H:=(.S amV)
abbrev Na:H:=(.S acy)
abbrev aAV:H:=(.S ajT)
abbrev aBb:H:=(.S aj0)
abbrev ax9:H:=(.S ak8)
abbrev aki:H:=(.S anD)
abbrev azD:H:=(.S WG)
abbrev adR:H:=(.S alo)
abbrev ayh:H:=(.S akx)
abbrev ach:H:=(.S alR)
abbrev ab0:Y:=(.cat .d9 aAe)
abbrev ab6:Y:=(.snoc .d9 ayM)
abbrev ax8:Y:=(.snoc .d9 aBd)
abbrev am4:Y:=(.snoc .d9 QM)
abbrev WR:Y:=(.snoc .d9 ayc)
abbrev ad2:Y:=(.snoc .d9 ax4)
abbrev ay6:Y:=(.snoc .d9 aAx)
abbrev ayS:Y:=(.snoc .d9 az2)
abbrev anr:Tree:=(.leaf 0 [MR] [])
abbrev anu:Tree:=(.leaf 0 [aN] [])
abbrev adl:Tree:=(.leaf 0 [eu] [])
abbrev Wy:Tree:=(.leaf 0 [I4] [])
abbrev azv:G H:=[.S (.var 0),fJ]
abbrev bL:G H:=[dY,fJ]
abbrev QH:G H:=[eu,dP]
abbrev Ey:G H:=[dI,bT]
abbrev QZ:G H:=[jg,kN]
abbrev Gf:G H:=[dZ,fD]
abbrev adQ:G H:=[bT,dZ]
abbrev QC:G H:=[aN,aN]
abbrev Wv:bV:=⟨[(3,dY)],[],11⟩
abbrev alI:G H:=[q9,b_]
abbrev Qu:G H:=[wh,vZ]
abbrev adf:G H:=[b_,dS]
abbrev adW:G H:=[cu,b_]
abbrev yh:G H:=[dP,dI]
abbrev W_:G H:=[fD,iG]
abbrev I6:G H:=[WQ,dz]
abbrev WS:Y:=(.snoc dB aAa)
abbrev ab4:Y:=(.snoc ac7 [fK])
abbrev azP:Y:=(.cell VY aH 0)
abbrev aAz:Y:=(.cell VY aH 1)
abbrev azt:Y:=(.cell VY aH 2)
abbrev azJ:Y:=(.cell VY aH 3)
abbrev aAI:Y:=(.cell V8 aH 0)
abbrev azf:Y:=(.cell V8 aH 1)
abbrev ayE:Y:=(.cell V8 aH 2)
abbrev ayg:Y:=(.cell V8 aH 3)
abbrev Km:Y:=(.bin .lss dB wm)
abbrev QA:Y:=(.bin .eql mF aH)
abbrev Kv:Y:=(.bin .lss aH mF)
abbrev Wo:Y:=(.bin .neq WY cO)
abbrev mH:Y:=(.bin .leq cO mF)
abbrev mE:Y:=(.bin .leq mF mF)
abbrev aem:Y:=(.bin .lss jQ IZ)
abbrev adA:Y:=(.bin .lss jq ads)
abbrev abT:Y:=(.bin .lss dx MH)
abbrev Mx:Y:=(.bin .lss dB qg)
abbrev adi:Y:=(.bin .leq qg qg)
abbrev acw:Y:=(.bin .lss fQ wm)
abbrev adF:Y:=(.bin .eql wm aH)
abbrev akw:Y:=(.bin .gtr wm vo)
abbrev ayJ:Y:=(.bin .lss wm iP)
abbrev aAO:Y:=(.bin .neq wm iP)
abbrev amA:Y:=(.bin .lss aH wm)
abbrev alG:Y:=(.bin .leq wm vo)
abbrev azs:Y:=(.bin .geq wm iP)
abbrev aAm:Y:=(.bin .eql wm iP)
abbrev acR:Y:=(.bin .lss fE MH)
abbrev WK:Y:=(.bin .lss fQ qg)
abbrev adK:Y:=(.bin .lss jr Qy)
abbrev ad1:Y:=(.bin .lss aH qg)
abbrev ac3:Y:=(.bin .lss cO qg)
abbrev aec:Y:=(.bin .lss iP qg)
abbrev adj:Y:=(.bin .lss iK acy)
abbrev ab8:Y:=(.bin .lss fQ mF)
abbrev Wp:Y:=(.bin .gtr mF vo)
abbrev akm:Y:=(.bin .neq MH MH)
abbrev abO:Y:=(.bin .eql sO jI)
abbrev Cz:Y:=(.bin .eql sO iP)
abbrev aen:Y:=(.bin .gtr sO aH)
abbrev Qs:Y:=(.bin .lss aH sO)
abbrev anx:Y:=(.bin .leq cO sO)
abbrev anq:Y:=(.bin .leq sO sO)
abbrev Vq:Y:=(.bin .eql sO cO)
abbrev abW:Y:=(.bin .neq mF iP)
abbrev ad7:Y:=(.bin .lss mF yX)
abbrev ad4:Y:=(.bin .gtr mF yX)
abbrev CK:Y:=(.bin .lss mF jI)
abbrev CJ:Y:=(.bin .gtr mF jI)
abbrev Kr:Y:=(.bin .lss mF iP)
abbrev Wt:Y:=(.bin .gtr mF iP)
abbrev acO:Y:=(.bin .lss cO mF)
abbrev akF:Y:=(.bin .leq iP mF)
abbrev Vw:G H:=[dY,fJ,cu]
abbrev Qo:G H:=[dY,fJ,dS]
abbrev ay5:G H:=[aF,dS,dz]
abbrev azB:G H:=[eu,dS,dz]
abbrev aAP:G H:=[aF,dI,bT]
abbrev ayy:G H:=[dZ,dI,bT]
abbrev azL:G H:=[b_,dY,fJ]
abbrev azr:G H:=[b_,pV,dz]
abbrev aye:G H:=[aF,dY,fJ]
abbrev abV:G H:=[aF,pV,dz]
abbrev aBh:G H:=[dP,dI,bT]
abbrev ru:Y:=(.sub dB cO mF)
abbrev aAZ:Y:=(.sub dx dB qg)
abbrev QO:Y:=(.sub dx cO qg)
abbrev ami:Y:=(.sub dU cO sO)
abbrev aAy:Y:=(.sub dB iP mF)
abbrev aej:G H:=[dY,fJ,.S adb]
abbrev ano:Y:=(.cat (.snoc .d9 [amJ]) iK)
abbrev azx:H:=(.S (.snoc (.snoc .d9 anH) ab7))
abbrev aea:G H:=[fJ,kT,cu,.aV]
abbrev aAW:G H:=[dY,kT,fJ,.aV]
abbrev ajY:Tree:=(.leaf 0 [dP,.int .i64 6,dz] [])
abbrev adg:G H:=[aN,aQ,aF,aN]
abbrev zV:G H:=[dY,fJ,cu,b_]
abbrev M9:G H:=[cu,b_,dS,dz]
abbrev zT:G H:=[aN,aQ,aN,aF]
abbrev aks:G H:=[dP,dI,bT,dZ]
abbrev abN:G H:=[dz,eu,dP,dI]
abbrev Vx:G H:=[b_,dS,dz,eu]
abbrev ade:G H:=[bT,aQ,dZ,aF]
abbrev QT:G H:=[dS,dz,eu,dP]
abbrev alh:G H:=[bT,dZ,fD,iG]
abbrev alE:Y:=(.bin .gtr (.bin .sub sO cO) vo)
abbrev ajX:bV:=⟨[(0,dY),(3,.aV),(4,fJ)],[],10⟩
abbrev alJ:H:=(.agg [kN,mV,lS,mW])
abbrev amB:H:=(.agg [qJ,qH,rZ,qZ])
abbrev akC:H:=(.agg [lS,mW,qJ,qH])
abbrev amk:H:=(.agg [rZ,qZ,wh,vZ])
abbrev ayR:H:=(.agg [dz,aQ,eu,aF])
abbrev alP:H:=(.agg [bT,aQ,dZ,fD])
abbrev akg:H:=(.agg [dZ,fD,iG,jg])
abbrev akI:H:=(.agg [mW,qJ,qH,rZ])
abbrev QG:bV:=⟨[(0,dY),(1,fJ),(5,cu)],[],10⟩
abbrev VT:bV:=⟨[(0,dY),(1,dY),(5,fJ)],[],10⟩
abbrev akh:SO:=(.cells false [dP,kT,dI,.aV])
abbrev alk:SO:=(.cells false [dz,kT,eu,.aV])
abbrev amv:SO:=(.cells false [dz,eu,dP,.aV])
abbrev ajJ:Tree:=(.leaf 2 [aN,aN,kN,mV] [])
abbrev aj4:Tree:=(.leaf 0 [dY,.S (.bin .add fE cO)] [])
abbrev az5:SO:=(.cells false [fJ,cu,b_,dS])
abbrev aTw:G H:=[.S WY,.S kM,.S al9,.S ak2]
abbrev abX:G H:=[.S ayW,.S aA6,.S aza,.S aBg]
abbrev aT9:G H:=[.S adv,.S ak0,.S CB,.S acC]
abbrev abL:G H:=[.S azi,.S azo,.S ay9,.S aAC]
abbrev aTl:G H:=[.S anI,.S akT,.S alV,.S anM]
abbrev aSC:G H:=[.S WW,.S aer,.S amX,.S ak5]
abbrev aSn:G H:=[.S aj9,.S ako,.S an0,.S amV]
abbrev acj:G H:=[.S aAJ,.S azd,.S aym,.S azl]
abbrev abY:G H:=[.S amq,.S QY,.S ayp,.S akn]
abbrev adU:G H:=[.S ayK,.S VN,.S ayG,.S akb]
abbrev acD:G H:=[.S aAs,.S azK,.S azT,.S aAr]
abbrev aes:G H:=[.S az9,.S anf,.S az8,.S azn]
abbrev ax6:G H:=[.S ayb,.S ayd,.S ayo,.S aAN]
abbrev aj6:G H:=[.S akt,.S aA7,.S EN,.S acv]
abbrev akj:G H:=[.S amm,.S amJ,.S ET,.S alu]
abbrev aTK:G H:=[.S ajT,.S aj0,.S ak8,.S anD]
abbrev aSH:G H:=[.S WG,.S alo,.S akx,.S alR]
abbrev aRG:G H:=[dY,fJ,cu,b_,.S acA]
abbrev aRx:G H:=[q9,.S acC,cu,b_,.S acA]
abbrev aly:Tree:=(.leaf 3 [dY,fJ,b_,dS] [(12,12),(13,13)])
abbrev aTO:G H:=[dY,fJ,cu,b_,dS,.S amh]
abbrev WH:bV:=⟨[(3,dY),(7,fJ),(8,.S MS),(9,cu)],[],11⟩
abbrev anh:Y:=(.snoc (.snoc .d9 adI) [iK,jr,jQ,jq])
abbrev anX:G H:=[.S alQ,.S (.cell jQ jq 1),.S EA,.S al5]
abbrev akq:G H:=[fJ,cu,b_,dS,dz,eu,dP]
abbrev aSM:G H:=[dY,dP,cu,b_,dS,dz,.S aep]
abbrev aTq:G H:=[q9,.S acv,cu,b_,dS,dz,.S aep]
abbrev QN:G H:=[cu,kT,.aV,b_,kT,dS,.aV,.aV,.aV]
abbrev anc:G H:=[b_,kT,.aV,dS,kT,dz,.aV,.aV,.aV]
abbrev ak6:G H:=[eu,dP,.aV,dI,kT,bT,.aV,.aV,.aV]
abbrev ajO:G H:=[dz,eu,.aV,dP,kT,dI,.aV,.aV,.aV]
abbrev alL:G H:=[eu,kT,.aV,dP,kT,dI,.aV,.aV,.aV]
abbrev am7:G H:=[bT,dZ,.aV,fD,kT,iG,.aV,.aV,.aV]
abbrev amD:G H:=[dS,kT,.aV,dz,kT,eu,.aV,.aV,.aV]
abbrev ajK:G H:=[dP,dI,.aV,bT,kT,dZ,.aV,.aV,.aV]
abbrev anJ:G H:=[dz,eu,.aV,dP,dI,bT,dZ,.aV,.aV]
abbrev ake:G H:=[dz,eu,dP,dI,bT,dZ,fD,.aV,.aV]
abbrev ant:G H:=[dz,eu,ajQ,dI,bT,dZ,fD,.aV,.aV]
abbrev alv:G H:=[dz,eu,dP,dI,bT,dZ,fD,amU,.aV]
abbrev alg:G H:=[dz,eu,ajQ,dI,bT,dZ,fD,amU,.aV]
abbrev al3:G H:=[eu,dP,.gy 13 fI 1,bT,kT,dZ,.aV,.aV,.aV]
abbrev akv:G H:=[dP,dI,.gy 13 fK 1,dZ,kT,fD,.aV,.aV,.aV]
abbrev acX:G H:=[aN,aQ,aF,aN,aQ,aN,aF,aF,aF]
abbrev ac6:G H:=[dY,fJ,cu,b_,dS,dz,eu,dP,dI]
abbrev acP:G H:=[bT,dZ,fD,iG,jg,kN,mV,lS,mW]
abbrev ac4:G H:=[eu,dP,dI,bT,dZ,fD,iG,jg,kN]
abbrev am0:G H:=[wT,zU,aF,IY,Bh,za,yU,aF,aF]
abbrev anR:G H:=[wT,zU,aF,Bh,za,yU,EJ,aF,aF]
abbrev acY:G H:=[MW,eu,aF,aN,aQ,aN,aF,aF,aF]
abbrev adD:G H:=[Cy,eu,aF,aN,aQ,aN,aF,aF,aF]
abbrev aj7:G H:=[dz,eu,.aV,dP,dI,bT,dZ,.gy 13 iY 5,.aV]
abbrev aAo:G H:=[I4,aQ,dP,aQ,aN,aQ,aN,aF,aF,aF]
abbrev azS:G H:=[q9,aQ,I4,aQ,aN,aQ,aN,aF,aF,aF]
abbrev aAU:G H:=[q9,aQ,aN,aQ,aN,aQ,aN,aF,aF,aF]
abbrev azg:G H:=[MX,aQ,aN,aQ,aN,aQ,aN,aF,aF,aF]
abbrev amT:G H:=[MW,bT,aN,aQ,aN,aQ,aN,aF,aF,aF]
abbrev aAf:G H:=[dP,dI,bT,dZ,fD,iG,jg,kN,mV,lS]
abbrev ayI:G H:=[MR,aQ,aN,b_,aN,aQ,aN,aF,aF,aF]
abbrev adM:G H:=[aN,aQ,aN,aQ,aN,aQ,aN,aF,aF,aF]
abbrev aAF:G H:=[akz,aQ,aN,aQ,bT,dZ,fD,iG,mV,aF]
abbrev azA:G H:=[ajI,aQ,aN,aQ,aN,aQ,aN,aF,bT,aF]
abbrev akY:G H:=[VK,aQ,bT,aQ,aN,aQ,aN,aF,aF,aF]
abbrev azk:G H:=[amC,bT,aN,aQ,aN,aQ,aN,aF,iG,aF]
abbrev azu:G H:=[am9,bT,aN,aQ,aN,aQ,aN,aF,iG,aF]
abbrev ayx:G H:=[Kj,dP,aN,aQ,aN,aQ,aN,aF,fD,aF]
abbrev ayj:G H:=[akz,aQ,aN,aQ,dP,dI,bT,dZ,jg,aF]
abbrev azz:G H:=[ajI,aQ,aN,aQ,aN,aQ,aN,aF,dP,aF]
abbrev akR:G H:=[VK,aQ,dZ,aQ,aN,aQ,aN,aF,dP,aF]
abbrev ayF:G H:=[amC,dP,aN,aQ,aN,aQ,aN,aF,dZ,aF]
abbrev aAq:G H:=[am9,dP,aN,aQ,aN,aQ,aN,aF,dZ,aF]
abbrev ale:G H:=[.S acL,aQ,aN,aQ,aN,aQ,aN,aF,aF,aF]
abbrev alO:G H:=[dY,fJ,cu,b_,dS,dz,eu,dP,dI,bT,dZ]
abbrev akO:G H:=[.S ac2,.S amr,.S anZ,.S akL,.S anV,.S alA,.S amc,.S anF,.S ajP]
abbrev alH:G H:=[.S (.cell Vo aH 0),.S (.cell Vo aH 1),.S (.cell Vo aH 2),.S (.cell Vo aH 3)]
abbrev Wd:G H:=[dY,fJ,cu,b_,dS,dz,eu,dP,dI,bT,dZ,fD]
abbrev aSh:G H:=[Cy,dP,aN,aQ,aN,aQ,aN,aF,.S (.snoc (.snoc .d9 anH) ab7),aF]
abbrev alj:G H:=[dY,fJ,cu,b_,dS,dz,eu,dP,dI,bT,dZ,fD,iG]
abbrev aTx:bV:=⟨[(1,dY),(2,fU),(17,dS),(18,.S mF),(19,dz)],[(10,.cells false [fJ,cu,b_,dS])],11⟩
abbrev alM:G H:=[.S ac2,.S amr,.S anZ,.S akL,.S anV,.S alA,.S amc,.S anF,.S ajP,.S (.cell bQ fE 9)]
abbrev am6:G H:=[q9,.S alu,cu,b_,dS,dz,eu,dP,dI,bT,dZ,fD,iG,jg,.S Vt]
abbrev amY:G H:=[q9,.S al5,cu,b_,dS,dz,eu,dP,dI,bT,dZ,fD,iG,jg,kN,.S V_]
abbrev akr:G H:=[dY,fJ,cu,b_,dS,dz,eu,dP,dI,bT,dZ,fD,iG,jg,kN,mV,lS,mW,.S (.bin .add lG cO)]
abbrev IX:H:=(.S ru)
abbrev azy:H:=(.S adF)
abbrev aS9:G H:=[.S adF]
abbrev alp:H:=(.S ab6)
abbrev alF:H:=(.S WS)
abbrev azh:H:=(.S am4)
abbrev ayQ:H:=(.S ami)
abbrev Kz:H:=(.S ad2)
abbrev anU:H:=(.agg adg)
abbrev MN:H:=(.agg zV)
abbrev aSv:G H:=[.agg zV]
abbrev CO:H:=(.agg M9)
abbrev aTR:G H:=[.agg M9]
abbrev vY:H:=(.agg zT)
abbrev yg:Y:=(.len ru)
abbrev alB:H:=(.agg acX)
abbrev adL:H:=(.agg adQ)
abbrev Vz:H:=(.agg abN)
abbrev ME:H:=(.agg QC)
abbrev amW:H:=(.agg adM)
abbrev azV:H:=(.agg alI)
abbrev ayL:Y:=(.len WS)
abbrev Wj:H:=(.agg ax6)
abbrev acd:H:=(.agg alh)
abbrev aT5:G H:=[.agg alh]
abbrev ajU:H:=(.agg ac4)
abbrev aTu:G H:=[.agg zT]
abbrev ajL:H:=(.agg acY)
abbrev aky:H:=(.agg adD)
abbrev azX:H:=(.agg akY)
abbrev adY:H:=(.agg akR)
abbrev eF:Tree:=(.leaf 0 ayr [])
abbrev zP:Tree:=(.leaf 2 bL [])
abbrev EC:Tree:=(.leaf 0 aAt [])
abbrev Xa:Tree:=(.leaf 0 aek [])
abbrev akZ:Tree:=(.leaf 0 azL [])
abbrev aAg:Tree:=(.leaf 0 azr [])
abbrev Qp:Tree:=(.leaf 0 aye [])
abbrev MK:Tree:=(.leaf 0 aBh [])
abbrev iy:SO:=(.cells false bL)
abbrev Kq:SO:=(.cells false zV)
abbrev wV:SO:=(.cells false QN)
abbrev alz:SO:=(.cells false ake)
abbrev aA2:Tree:=(.leaf 0 [ays] [])
abbrev Mv:SO:=(.cells false M9)
abbrev VJ:SO:=(.cells false anc)
abbrev an1:SO:=(.cells false ak6)
abbrev Vs:SO:=(.cells false aea)
abbrev Xc:SO:=(.cells false adf)
abbrev MJ:SO:=(.cells false aAW)
abbrev Gd:SO:=(.cells false adW)
abbrev VG:SO:=(.cells false ajO)
abbrev adr:SO:=(.cells false ac6)
abbrev acN:SO:=(.cells false acP)
abbrev WA:SO:=(.cells false alL)
abbrev V9:SO:=(.cells false am7)
abbrev WM:SO:=(.cells false amD)
abbrev akD:SO:=(.cells false ajK)
abbrev alW:SO:=(.cells false anJ)
abbrev amH:SO:=(.cells false ant)
abbrev az7:Tree:=(.leaf 0 [.S alG] [])
abbrev ayD:Tree:=(.leaf 0 [.S azs] [])
abbrev aQx:G H:=[.S ru,eu]
abbrev adZ:Tree:=(.leaf 3 alj [(15,15)])
abbrev adh:Tree:=(.leaf 3 Qo [(11,11)])
abbrev aTD:G H:=[.S ami,dI]
abbrev aQy:G H:=[.agg M9,eu]
abbrev aSK:G H:=[.agg zV,dS]
abbrev acH:Y:=(.cell ru aH 0)
abbrev acz:Y:=(.cell ru aH 3)
abbrev ady:Y:=(.cell ru aH 1)
abbrev ace:Y:=(.cell ru cO 0)
abbrev amL:Y:=(.cell ru cO 1)
abbrev alS:Y:=(.cell ru cO 2)
abbrev adG:Y:=(.cell ru cO 3)
abbrev alD:Y:=(.cell ru iP 0)
abbrev amy:Y:=(.cell ru iP 1)
abbrev anl:Y:=(.cell ru iP 2)
abbrev ajS:Y:=(.cell ru iP 3)
abbrev acF:Y:=(.snoc ab0 [dN])
abbrev akk:Y:=(.cell ru aH 2)
abbrev azF:iO:=(.cons (.leaf 0 azB []) .nil)
abbrev aA4:iO:=(.cons (.leaf 0 ayy []) .nil)
abbrev aSk:G H:=[.agg adg,.agg adg]
abbrev aSR:G H:=[.agg abN,.agg adQ]
abbrev aT0:G H:=[.agg zT,.agg alI]
abbrev adw:Y:=(.sub ru aH cO)
abbrev aQz:G H:=[.agg zT,dY,fJ]
abbrev adH:G H:=[.agg aks,fD,iG]
abbrev aQL:G H:=[.agg zT,pV,dz]
abbrev aUx:G H:=[.agg acX,pV,dz]
abbrev aSj:G H:=[.agg acX,dY,fJ]
abbrev aee:G H:=[.agg amT,dZ,fD]
abbrev ayZ:G H:=[.agg aAf,mW,qJ]
abbrev aUm:G H:=[.agg adM,dY,fJ]
abbrev aQK:G H:=[.agg adM,pV,dz]
abbrev aSE:G H:=[.agg ac4,mW,dz]
abbrev aSx:G H:=[.agg ac4,mV,lS]
abbrev aR4:G H:=[.agg acY,dP,dI]
abbrev aSP:G H:=[.agg adD,dP,dI]
abbrev aAT:G H:=[.agg aAF,lS,mW]
abbrev al7:G H:=[.agg azA,dZ,fD]
abbrev aTH:G H:=[.agg akY,dY,fJ]
abbrev azY:G H:=[.agg azk,jg,kN]
abbrev aAb:G H:=[.agg azu,jg,kN]
abbrev alX:G H:=[.agg ayx,iG,jg]
abbrev aA0:G H:=[.agg ayj,kN,mV]
abbrev ama:G H:=[.agg azz,dI,bT]
abbrev aUD:G H:=[.agg akR,dI,bT]
abbrev aAi:G H:=[.agg ayF,fD,iG]
abbrev ay4:G H:=[.agg aAq,fD,iG]
abbrev ane:Tree:=(.leaf 0 [.tuple [ayR,.agg yh]] [])
abbrev aSi:Tree:=(.leaf 0 [.tuple [alP,.agg QC]] [])
abbrev aUa:bV:=⟨[(7,.aV)],[(10,.cells false bL)],11⟩
abbrev anp:G H:=[azW,QX,ayB,aeh]
abbrev aei:G H:=[azw,azq,aBe,az0]
abbrev adO:G H:=[aAV,aBb,ax9,aki]
abbrev azQ:G H:=[azD,adR,ayh,ach]
abbrev aze:Tree:=(.B bZ anu (.leaf 0 [q9] []))
abbrev aUd:Tree:=(.leaf 0 [.tuple [.agg zT,.agg adQ]] [])
abbrev aRj:Tree:=(.leaf 0 [.tuple [.agg abN,.agg QC]] [])
abbrev aRF:Tree:=(.leaf 0 [.tuple [.agg ade,.agg QC]] [])
abbrev aQE:Tree:=(.leaf 0 [.agg zT,pV,aeh] [])
abbrev amQ:Tree:=(.leaf 0 [.agg aAo,dY,fJ] [])
abbrev anT:Tree:=(.leaf 0 [.agg azS,dY,fJ] [])
abbrev ame:Tree:=(.leaf 0 [.agg aAU,dY,fJ] [])
abbrev ala:Tree:=(.leaf 0 [.agg azg,dY,fJ] [])
abbrev amP:Tree:=(.leaf 0 [.agg ayI,dY,fJ] [])
abbrev aTI:Tree:=(.leaf 0 [.agg zT,pV,iG] [])
abbrev aRP:Tree:=(.leaf 0 [.agg zT,dP,dI] [])
abbrev al2:Tree:=(.leaf 0 [.agg am0,lS,mW] [])
abbrev am5:Tree:=(.leaf 0 [.agg anR,lS,mW] [])
abbrev aUj:Tree:=(.leaf 0 [.agg acY,bT,dz] [])
abbrev aS1:Tree:=(.leaf 0 [.agg adD,bT,dz] [])
abbrev amx:Tree:=(.leaf 0 [.agg ale,dY,fJ] [])
abbrev aRt:H:=(.tuple [.agg zT,.agg [fD,b_]])
abbrev aRr:G H:=[.tuple [.agg zT,.agg [fD,b_]]]
abbrev aTp:H:=(.tuple [.agg zT,.agg [lS,mW]])
abbrev aQA:G H:=[.tuple [.agg zT,.agg [lS,mW]]]
abbrev aAH:G H:=[anG,.S ak0,.S CB,amd]
abbrev azU:H:=(.agg [Cy,aQ,aN,.S anh])
abbrev aSy:Y:=(.snoc (.cat .d9 bZ) [.cell ru aH 1])
abbrev Vu:G H:=[.S WW,.S aer,.S amX,ab5]
abbrev WE:G H:=[.S aj9,.S ako,.S an0,ad3]
abbrev ay2:G H:=[dY,fJ,cu,b_,zS]
abbrev ab3:G H:=[.S azP,.S aAz,.S azt,.S azJ]
abbrev azp:G H:=[.S aAI,.S azf,.S ayE,.S ayg]
abbrev aRz:bV:=⟨[(1,fU),(3,dS)],[(10,.cells false zV)],11⟩
abbrev akM:Tree:=(.leaf 0 [q9,amd,cu,b_,zS] [])
abbrev ax2:G H:=[dY,fJ,cu,b_,dS,Cx]
abbrev aSo:G H:=[.agg [Cy,aQ,aN,.S anh],.agg QC]
abbrev aUr:G H:=[q9,ab5,cu,b_,.S ab6,zS]
abbrev aRm:G H:=[kN,mV,cu,b_,.S ab6,zS]
abbrev aUv:G H:=[q9,ad3,cu,b_,.S WS,Cx]
abbrev aSV:G H:=[mV,lS,cu,b_,.S WS,Cx]
abbrev aRW:bV:=⟨[(1,fU),(3,Kt),(4,dS)],[(10,.cells false zV)],11⟩
abbrev aR3:bV:=⟨[(1,fU),(3,dS),(5,dz)],[(10,.cells false zV)],11⟩
abbrev aUy:bV:=⟨[(1,fU),(3,Kt),(5,dS)],[(10,.cells false zV)],11⟩
abbrev aQS:bV:=⟨[(1,fU),(3,dS),(4,dz)],[(10,.cells false zV)],11⟩
abbrev aTL:bV:=⟨[(7,.gy 11 dx 10)],[(10,.cells false bL),(11,.seq 10 dx)],12⟩
abbrev anP:G H:=[dY,dP,cu,b_,dS,dz,adX]
abbrev anL:G H:=[q9,.S acv,cu,b_,dS,dz,adX]
abbrev aQ9:bV:=⟨[(0,fU),(5,.aV),(6,cu),(7,b_)],[(10,.cells false bL)],12⟩
abbrev aQD:bV:=⟨[(1,dY),(2,fJ),(3,fU),(7,eu)],[(10,.cells false M9)],11⟩
abbrev ak1:bV:=⟨[(1,dY),(2,fU),(17,dS),(18,.S mF),(19,dz)],[(10,az5)],11⟩
abbrev aQZ:bV:=⟨[(2,fU),(3,iM),(5,dI)],[(10,.cells false zV),(11,.cells false QT)],12⟩
abbrev aTN:bV:=⟨[(2,fU),(3,iM),(5,qJ)],[(10,.cells false ac6),(11,.cells false acP)],12⟩
abbrev aQX:bV:=⟨[(2,fU),(3,iM),(6,qJ)],[(10,.cells false ac6),(11,.cells false acP)],12⟩
abbrev aTA:bV:=⟨[(2,fU),(3,iM),(5,dS)],[(10,.cells false bL),(11,.cells false adW)],12⟩
abbrev aS3:bV:=⟨[(2,fU),(3,iM),(6,dS)],[(10,.cells false bL),(11,.cells false adW)],12⟩
abbrev aR0:bV:=⟨[(0,fU),(1,cu),(2,b_),(7,.aV),(8,dS)],[(10,.cells false bL)],11⟩
abbrev aSd:bV:=⟨[(0,fU),(2,cu),(3,b_),(9,.aV),(10,dS)],[(10,.cells false bL)],13⟩
abbrev aRf:bV:=⟨[(0,fU),(2,cu),(3,b_),(9,.aV),(10,dS)],[(10,.cells false bL)],12⟩
abbrev amI:G H:=[MX,eu,jg,mW,qJ,qH,rZ,aF,.S ax8]
abbrev aS6:G H:=[Kj,aQ,aF,aN,aQ,aN,aF,aF,.S am4]
abbrev ax1:G H:=[Cy,dP,aN,aQ,aN,aQ,aN,aF,azx,aF]
abbrev aSB:G H:=[VK,aQ,qZ,aQ,aN,aQ,aN,aF,.S ad2,aF]
abbrev alm:G H:=[alf,aQ,aN,aQ,aN,aQ,aN,aF,aF,.S ay6]
abbrev alK:G H:=[alf,aQ,aN,aQ,aN,aQ,aN,aF,aF,.S ayS]
abbrev aTV:bV:=⟨[(0,fU),(2,cu),(8,.aV),(9,.aV),(10,b_),(11,dS)],[(10,.cells false bL)],12⟩
abbrev aQC:bV:=⟨[(0,fU),(4,.aV),(5,.aV),(12,cu),(13,.S qg),(14,b_)],[(10,.cells false bL)],12⟩
abbrev aSe:bV:=⟨[(0,fU),(2,cu),(7,.aV),(10,b_),(11,Kt),(12,dS)],[(10,.cells false bL)],11⟩
abbrev aTf:bV:=⟨[(0,fU),(2,cu),(4,iM),(6,jk),(7,bT)],[(10,.cells false bL),(11,.cells false Vx),(12,akh)],13⟩
abbrev aTy:bV:=⟨[(0,fU),(10,jk),(11,.ptr 14 0),(12,iG),(13,jg),(14,kN)],[(10,.cells false bL),(12,.cells false QN),(14,.cells false ake)],15⟩
abbrev aS8:bV:=⟨[(1,dY),(4,iM),(5,jk),(8,ER),(82,dP),(83,.S sO),(84,dI)],[(11,.cells false aea),(12,.cells false adf),(23,alk)],24⟩
abbrev aRX:bV:=⟨[(1,dY),(4,iM),(5,jk),(8,ER),(82,dI),(83,.S QI),(84,bT)],[(11,.cells false aea),(12,.cells false adf),(23,amv)],30⟩
abbrev aSm:bV:=⟨[(0,fU),(6,iM),(7,jk),(8,.aV),(62,fD),(63,Na),(64,iG)],[(10,.cells false bL),(11,.cells false QN),(12,.cells false anJ)],13⟩
abbrev aRp:bV:=⟨[(0,fU),(6,iM),(7,jk),(8,iG),(62,jg),(63,.S IZ),(64,kN)],[(10,.cells false bL),(11,.cells false QN),(12,.cells false ant),(13,Qm)],15⟩
abbrev aQ1:bV:=⟨[(0,fU),(4,iM),(5,jk),(6,bT),(7,dZ),(8,.aV),(29,fD),(30,Na),(31,iG)],[(10,.cells false bL),(11,.cells false QN),(12,.cells false ajO)],13⟩
abbrev aUs:bV:=⟨[(0,fU),(1,cu),(2,b_),(6,iM),(7,jk),(8,.aV),(26,fD),(27,Na),(28,iG)],[(10,.cells false bL),(11,.cells false amD),(12,.cells false ajK)],13⟩
abbrev aSW:bV:=⟨[(0,fU),(1,cu),(4,iM),(5,jk),(6,dZ),(7,fD),(8,.aV),(31,iG),(32,.S Qy),(33,jg)],[(10,.cells false bL),(11,.cells false anc),(12,.cells false ak6)],13⟩
abbrev aT2:bV:=⟨[(0,fU),(3,iM),(4,jk),(5,.ptr 40 0),(11,jg),(12,kN),(13,.aV),(14,mV),(15,lS)],[(10,.cells false bL),(11,.cells false M9),(12,.cells false alL),(40,.cells false am7)],42⟩
abbrev Kk:G H:=[MN]
abbrev ayi:G H:=[azy]
abbrev Ki:G H:=[vY]
abbrev Xb:H:=(.S acz)
abbrev aeo:H:=(.S ady)
abbrev az6:H:=(.S ace)
abbrev ang:H:=(.S amL)
abbrev ayV:H:=(.S alS)
abbrev anK:H:=(.S adG)
abbrev aAE:H:=(.S alD)
abbrev ay1:H:=(.S amy)
abbrev ayk:H:=(.S anl)
abbrev ayv:H:=(.S ajS)
abbrev azO:H:=(.S acH)
abbrev ay3:H:=(.S akk)
abbrev MQ:H:=(.agg anp)
abbrev Qq:H:=(.agg aAH)
abbrev aef:H:=(.agg aei)
abbrev aRh:G H:=[.agg aei]
abbrev ES:H:=(.agg adO)
abbrev aSX:G H:=[.agg adO]
abbrev Mt:H:=(.agg azQ)
abbrev aSa:G H:=[.agg anp]
abbrev ayA:Tree:=(.leaf 0 ay2 [])
abbrev anE:Tree:=(.leaf 0 ax2 [])
abbrev aAK:iO:=(.cons EC .nil)
abbrev VU:Tree:=(.leaf 0 ayZ [])
abbrev acp:G H:=[anU,anU]
abbrev KA:G H:=[CO,eu]
abbrev uh:G H:=[IX,eu]
abbrev QK:G H:=[MN,dS]
abbrev al6:G H:=[vY,azV]
abbrev amo:G H:=[ayQ,dI]
abbrev alb:Y:=(.cat acF aAZ)
abbrev aRE:G H:=[.agg aei,aN]
abbrev aS2:G H:=[.agg adO,dI]
abbrev Wx:G H:=[.agg azp,dI]
abbrev EM:Y:=(.bin .lss aH yg)
abbrev MO:Y:=(.bin .lss cO yg)
abbrev ab9:Y:=(.bin .lss iP yg)
abbrev ayf:H:=(.tuple [Vz,adL])
abbrev aUt:G H:=[.tuple [Vz,adL]]
abbrev Nb:Y:=(.bin .leq ayL mG)
abbrev acU:Y:=(.bin .eql yg cO)
abbrev Kl:Y:=(.bin .leq cO yg)
abbrev Vv:Y:=(.bin .leq yg yg)
abbrev azM:G H:=[vY,dY,fJ]
abbrev aBa:G H:=[vY,pV,dz]
abbrev ax5:G H:=[alB,pV,dz]
abbrev ax3:G H:=[alB,dY,fJ]
abbrev acn:bV:=⟨[(7,.aV)],[(10,iy)],11⟩
abbrev ayz:G H:=[amW,dY,fJ]
abbrev aAk:G H:=[amW,pV,dz]
abbrev az1:G H:=[ajU,mW,dz]
abbrev ayH:G H:=[ajU,mV,lS]
abbrev aAY:G H:=[ajL,dP,dI]
abbrev azG:G H:=[aky,dP,dI]
abbrev aAR:G H:=[azX,dY,fJ]
abbrev aBf:G H:=[adY,dI,bT]
abbrev aA1:Tree:=(.B Ky aA2 eF)
abbrev Vy:Tree:=(.B iC aAg akZ)
abbrev adV:iO:=(.cons (.leaf 0 ay5 []) azF)
abbrev adx:iO:=(.cons (.leaf 0 aAP []) aA4)
abbrev anO:Y:=(.sub ru cO yg)
abbrev aQ5:G H:=[vY,pV,.S acz]
abbrev aRB:G H:=[adY,pV,.S adG]
abbrev akU:Y:=(.snoc (.cat .d9 bZ) [ady])
abbrev alx:Tree:=(.leaf 0 [.tuple [.agg ade,ME]] [])
abbrev azN:H:=(.tuple [vY,.agg [fD,b_]])
abbrev aAL:H:=(.tuple [vY,.agg [lS,mW]])
abbrev ajZ:Tree:=(.leaf 0 [.agg amI,Bh,za] [])
abbrev amw:Tree:=(.leaf 0 [.agg alm,qJ,qH] [])
abbrev am2:Tree:=(.leaf 0 [.agg ax1,za,yU] [])
abbrev anN:Tree:=(.leaf 0 [.agg alK,lS,mW] [])
abbrev amZ:Tree:=(.call 4 yh bL (.leaf 0 al7 []))
abbrev akH:Tree:=(.call 4 yh Gf (.leaf 0 aAb []))
abbrev an3:iO:=(.cons (.leaf 0 [.tuple [alP,ME]] []) .nil)
abbrev abZ:bV:=⟨[(1,fU),(3,dS)],[(10,Kq)],11⟩
abbrev aTW:Tree:=(.leaf 0 [.tuple [vY,.agg [fD,b_]]] [])
abbrev aUn:Tree:=(.leaf 0 [.tuple [vY,.agg [lS,mW]]] [])
abbrev aSF:G H:=[.S ace,.S amL,.S alS,.S adG]
abbrev aR7:G H:=[.S alD,.S amy,.S anl,.S ajS]
abbrev aQP:G H:=[.S acH,.S ady,.S akk,.S acz]
abbrev akJ:Tree:=(.call 3 [.S aAy,eu] Ey (.leaf 0 aAi []))
abbrev amt:bV:=⟨[(1,fU),(3,Kt),(4,dS)],[(10,Kq)],11⟩
abbrev aj8:bV:=⟨[(1,fU),(3,dS),(5,dz)],[(10,Kq)],11⟩
abbrev anQ:bV:=⟨[(1,fU),(3,Kt),(5,dS)],[(10,Kq)],11⟩
abbrev WC:bV:=⟨[(1,fU),(3,dS),(4,dz)],[(10,Kq)],11⟩
abbrev amN:bV:=⟨[(7,.gy 11 dx 10)],[(10,iy),(11,.seq 10 dx)],12⟩
abbrev akA:G H:=[q9,ab5,cu,b_,alp,zS]
abbrev Vr:G H:=[kN,mV,cu,b_,alp,zS]
abbrev anm:G H:=[q9,ad3,cu,b_,alF,Cx]
abbrev Ww:G H:=[mV,lS,cu,b_,alF,Cx]
abbrev ams:Tree:=(.call 0 [.agg aj6,.S ani,fJ] [] (.leaf 0 anP []))
abbrev am1:bV:=⟨[(0,fU),(5,.aV),(6,cu),(7,b_)],[(10,iy)],12⟩
abbrev anY:bV:=⟨[(1,dY),(2,fJ),(3,fU),(7,eu)],[(10,Mv)],11⟩
abbrev anS:bV:=⟨[(2,fU),(3,iM),(5,qJ)],[(10,adr),(11,acN)],12⟩
abbrev als:bV:=⟨[(2,fU),(3,iM),(6,qJ)],[(10,adr),(11,acN)],12⟩
abbrev alr:bV:=⟨[(2,fU),(3,iM),(5,dS)],[(10,iy),(11,Gd)],12⟩
abbrev ajN:bV:=⟨[(2,fU),(3,iM),(6,dS)],[(10,iy),(11,Gd)],12⟩
abbrev ajR:bV:=⟨[(2,fU),(3,iM),(5,dI)],[(10,Kq),(11,.cells false QT)],12⟩
abbrev WI:bV:=⟨[(0,fU),(1,cu),(2,b_),(7,.aV),(8,dS)],[(10,iy)],11⟩
abbrev akp:bV:=⟨[(0,fU),(2,cu),(3,b_),(9,.aV),(10,dS)],[(10,iy)],13⟩
abbrev amM:bV:=⟨[(0,fU),(2,cu),(3,b_),(9,.aV),(10,dS)],[(10,iy)],12⟩
abbrev acW:G H:=[Kj,aQ,aF,aN,aQ,aN,aF,aF,azh]
abbrev amR:Tree:=(.B adz (.leaf 0 [vY,pV,iG] []) (.leaf 0 [vY,dP,dI] []))
abbrev amE:bV:=⟨[(0,fU),(2,cu),(8,.aV),(9,.aV),(10,b_),(11,dS)],[(10,iy)],12⟩
abbrev amb:bV:=⟨[(0,fU),(4,.aV),(5,.aV),(12,cu),(13,.S qg),(14,b_)],[(10,iy)],12⟩
abbrev amn:bV:=⟨[(0,fU),(2,cu),(7,.aV),(10,b_),(11,Kt),(12,dS)],[(10,iy)],11⟩
abbrev ad6:G H:=[VK,aQ,qZ,aQ,aN,aQ,aN,aF,Kz,aF]
abbrev akN:bV:=⟨[(0,fU),(2,cu),(4,iM),(6,jk),(7,bT)],[(10,iy),(11,.cells false Vx),(12,akh)],13⟩
abbrev al1:bV:=⟨[(0,fU),(10,jk),(11,.ptr 14 0),(12,iG),(13,jg),(14,kN)],[(10,iy),(12,wV),(14,alz)],15⟩
abbrev anb:bV:=⟨[(0,fU),(6,iM),(7,jk),(8,.aV),(62,fD),(63,Na),(64,iG)],[(10,iy),(11,wV),(12,alW)],13⟩
abbrev anC:bV:=⟨[(1,dY),(4,iM),(5,jk),(8,ER),(82,dP),(83,.S sO),(84,dI)],[(11,Vs),(12,Xc),(23,alk)],24⟩
abbrev ajH:bV:=⟨[(1,dY),(4,iM),(5,jk),(8,ER),(82,dI),(83,.S QI),(84,bT)],[(11,Vs),(12,Xc),(23,amv)],30⟩
abbrev akl:bV:=⟨[(0,fU),(6,iM),(7,jk),(8,iG),(62,jg),(63,.S IZ),(64,kN)],[(10,iy),(11,wV),(12,amH),(13,Qm)],15⟩
abbrev anz:bV:=⟨[(0,fU),(4,iM),(5,jk),(6,bT),(7,dZ),(8,.aV),(29,fD),(30,Na),(31,iG)],[(10,iy),(11,wV),(12,VG)],13⟩
abbrev amG:bV:=⟨[(0,fU),(1,cu),(2,b_),(6,iM),(7,jk),(8,.aV),(26,fD),(27,Na),(28,iG)],[(10,iy),(11,WM),(12,akD)],13⟩
abbrev alU:bV:=⟨[(0,fU),(3,iM),(4,jk),(5,.ptr 40 0),(11,jg),(12,kN),(13,.aV),(14,mV),(15,lS)],[(10,iy),(11,Mv),(12,WA),(40,V9)],42⟩
abbrev amu:bV:=⟨[(0,fU),(1,cu),(4,iM),(5,jk),(6,dZ),(7,fD),(8,.aV),(31,iG),(32,.S Qy),(33,jg)],[(10,iy),(11,VJ),(12,an1)],13⟩
abbrev aA5:H:=(.S anO)
abbrev am3:H:=(.agg acW)
abbrev aj3:H:=(.agg ad6)
abbrev akd:H:=(.tuple acp)
abbrev azH:H:=(.tuple al6)
abbrev aRC:G H:=[.tuple al6]
abbrev Kh:Tree:=(.leaf 0 azM [])
abbrev ayw:Tree:=(.leaf 0 aBa [])
abbrev zQ:Tree:=(.leaf 0 ax5 [])
abbrev Gb:Tree:=(.leaf 0 ax3 [])
abbrev wS:Tree:=(.leaf 0 ayi [])
abbrev ac9:Tree:=(.leaf 0 ayz [])
abbrev VW:Tree:=(.leaf 0 aAk [])
abbrev az4:Tree:=(.leaf 0 az1 [])
abbrev al8:Tree:=(.leaf 0 ayH [])
abbrev ada:Tree:=(.leaf 0 aAY [])
abbrev acT:Tree:=(.leaf 0 azG [])
abbrev QJ:Tree:=(.leaf 0 aAR [])
abbrev alq:Tree:=(.leaf 0 aBf [])
abbrev ac8:Tree:=(.leaf 0 [ayf] [])
abbrev V7:Tree:=(.leaf 1 Vr [(13,15)])
abbrev ayN:Tree:=(.leaf 1 Ww [(13,16)])
abbrev Vp:Tree:=(.leaf 1 Vr [(12,14)])
abbrev ay0:Tree:=(.leaf 1 Ww [(12,15)])
abbrev aQW:G H:=[.S anO,eu]
abbrev Kw:iO:=(.cons eF aAK)
abbrev ayP:Tree:=(.call 2 Kk [] adl)
abbrev azR:G H:=[vY,pV,Xb]
abbrev azE:G H:=[adY,pV,anK]
abbrev Qv:Tree:=(.B fQ ayA Gc)
abbrev acQ:Tree:=(.B bZ anE Gc)
abbrev Qt:Tree:=(.B adF aA1 eF)
abbrev aAc:Tree:=(.B bZ akZ Vy)
abbrev aS4:G H:=[.agg acW,lS,mW]
abbrev aTY:G H:=[.agg ad6,qH,rZ]
abbrev aRc:G H:=[.agg ad6,pV,ach]
abbrev aTG:G H:=[.tuple acp,dY,fJ]
abbrev ayC:Tree:=(.call 3 [aef,aN] [] Xa)
abbrev anj:G H:=[az6,ang,ayV,anK]
abbrev aBi:G H:=[aAE,ay1,ayk,ayv]
abbrev adt:G H:=[azO,aeo,ay3,Xb]
abbrev aTT:Tree:=(.leaf 0 [.agg acW,qJ,dz] [])
abbrev azj:Tree:=(.call 4 amo QZ (.leaf 0 aAT []))
abbrev aAu:Tree:=(.call 4 amo Gf (.leaf 0 azY []))
abbrev ak3:Tree:=(.call 3 uh bL (.leaf 0 ama []))
abbrev aA3:Tree:=(.call 3 uh Ey (.leaf 0 ay4 []))
abbrev aRU:Tree:=(.leaf 0 [.tuple acp,pV,dz] [])
abbrev an2:Tree:=(.fT Kv (.call 0 [MQ] bL akH))
abbrev alY:Tree:=(.call 0 [.agg abX] bL (.fT akF akJ))
abbrev aml:Tree:=(.fT (.bin .leq (.len alb) mG) (.leaf 0 [.S alb] []))
abbrev aAv:Tree:=(.B (.bin .gtr fQ Ws) anr (.call 2 Kk [] aze))
abbrev azb:Tree:=(.B amK (.leaf 0 [azN] []) (.leaf 0 [.tuple [Vz,ME]] []))
abbrev al4:Tree:=(.B (.bin .neq kQ aH) (.leaf 0 [aAL] []) (.leaf 0 [.tuple [azU,ME]] []))
abbrev Ko:H:=(.agg anj)
abbrev MV:H:=(.agg aBi)
abbrev adP:H:=(.agg adt)
abbrev aRD:G H:=[.agg adt]
abbrev azm:Tree:=(.leaf 0 azE [])
abbrev M8:Tree:=(.leaf 0 [azH] [])
abbrev ac1:G H:=[aA5,eu]
abbrev WX:Tree:=(.fT Nb ayN)
abbrev VF:Tree:=(.fT Nb ay0)
abbrev aSb:G H:=[.agg anj,aF]
abbrev aTe:G H:=[.agg adt,aF]
abbrev aAw:Tree:=(.bX 1 azI Kw)
abbrev aci:Tree:=(.bX 2 Qx Kw)
abbrev ad8:Tree:=(.call 0 [b_] [] aAc)
abbrev alT:G H:=[akd,dY,fJ]
abbrev ax7:G H:=[am3,lS,mW]
abbrev ayU:G H:=[aj3,qH,rZ]
abbrev ayO:G H:=[aj3,pV,ach]
abbrev ML:Tree:=(.B iC ayw Kh)
abbrev QB:Tree:=(.B iC zQ Gb)
abbrev aA9:Tree:=(.B alG ayP eF)
abbrev aAp:Tree:=(.B aAm ayC eF)
abbrev az3:Tree:=(.B aeg az4 al8)
abbrev aAG:Tree:=(.B aAA zQ zQ)
abbrev gW:Tree:=(.B iC VW ac9)
abbrev anW:Tree:=(.fT anx (.fT anq azj))
abbrev anw:Tree:=(.fT anx (.fT anq aAu))
abbrev acV:Tree:=(.fT mH (.fT mE aA3))
abbrev acM:Tree:=(.B iC (.leaf 0 azR []) Kh)
abbrev ajM:Tree:=(.call 0 [Wj,.S ani] [] acQ)
abbrev amF:Tree:=(.B akm eF (.bX 0 [bQ,aH] Kw))
abbrev alZ:Tree:=(.B iC (.leaf 0 [vY,pV,aeh] []) Kh)
abbrev akf:Tree:=(.B adz (.leaf 0 [ajL,bT,dz] []) ada)
abbrev anA:Tree:=(.B adz (.leaf 0 [aky,bT,dz] []) acT)
abbrev akS:Tree:=(.B (.bin .gtr dB anB) anr (.call 1 Kk [] aAv))
abbrev alc:Tree:=(.B Mw (.leaf 0 [.tuple [vY,adL]] []) (.call 1 [Vz] [] azb))
abbrev Ga:G H:=[adP]
abbrev aAh:iO:=(.cons aAw .nil)
abbrev amS:Tree:=(.leaf 0 ax7 [])
abbrev akB:Tree:=(.leaf 0 ayU [])
abbrev aAn:Tree:=(.leaf 0 ayO [])
abbrev Wq:G H:=[adP,aF]
abbrev MB:Tree:=(.call 7 Ki [] aAG)
abbrev VA:Tree:=(.B akw eF aci)
abbrev WV:Tree:=(.B ayJ eF aci)
abbrev ayq:Tree:=(.B dB aci eF)
abbrev aAS:Tree:=(.B Bg eF aA9)
abbrev azC:Tree:=(.B anv aAp eF)
abbrev ad9:Tree:=(.B ayT az3 al8)
abbrev Wm:Tree:=(.B Qw azm alq)
abbrev akG:Tree:=(.call 3 ac1 Ey (.leaf 0 alX []))
abbrev ay8:Tree:=(.call 3 ac1 W_ (.leaf 0 aA0 []))
abbrev akW:Tree:=(.call 3 [ES,aF] bL anW)
abbrev ak9:Tree:=(.B (.bin .neq dx cO) Vy ad8)
abbrev akX:Tree:=(.fT Qs (.call 0 [ES] bL anw))
abbrev al0:Tree:=(.B iC (.leaf 0 [akd,pV,dz] []) (.leaf 0 alT []))
abbrev aAM:iO:=(.cons eF aAh)
abbrev ay7:Tree:=(.call 1 azv [] aAS)
abbrev aAD:Tree:=(.call 3 [aef] [] ayq)
abbrev V6:Tree:=(.call 5 [acd] [] ad9)
abbrev azZ:Tree:=(.B F9 Qt azC)
abbrev Wh:Tree:=(.B aya aAn akB)
abbrev aj5:Tree:=(.fT Kl (.fT Vv ay8))
abbrev ayt:Tree:=(.B WU (.leaf 0 [am3,qJ,dz] []) amS)
abbrev ayl:Tree:=(.fT amA aAD)
abbrev ayX:Tree:=(.bX 0 Qx aAM)
abbrev ayu:Tree:=(.B dB ay7 eF)
abbrev aAB:Tree:=(.B QV ayD azZ)
abbrev akc:Tree:=(.fT EM (.call 2 Wq bL aj5))
abbrev ank:Tree:=(.B (.bin .neq lG aH) ayt amS)
abbrev azc:Tree:=(.call 0 ze [] ayu)
abbrev aAl:Tree:=(.B akw eF ayX)
abbrev aAd:Tree:=(.B aAO eF ayl)
abbrev aA8:Tree:=(.B MI az7 aAB)
abbrev VD:Tree:=(.B fQ eF aAl)
abbrev Wz:Tree:=(.B anv aAd eF)
abbrev VB:Tree:=(.B Nc azc aA8)
abbrev aaD:bJ:=⟨75,none,(.one (.bool))⟩
abbrev Py:bJ:=⟨105,none,(.one (C))⟩
abbrev avF:bJ:=⟨116,none,(.one (C))⟩
abbrev avL:bJ:=⟨117,none,(.one (C))⟩
abbrev avH:bJ:=⟨98,none,(.one (C))⟩
abbrev avU:bJ:=⟨99,none,(.one (C))⟩
abbrev avE:bJ:=⟨100,none,(.one (.bool))⟩
abbrev aaA:bJ:=⟨65,some [C,C],(.one (.R 8))⟩
abbrev avQ:bJ:=⟨21,some [C,C],(.one (.str))⟩
abbrev aaz:bJ:=⟨66,some [C,C],(.agg [C,.str,C,.R 2])⟩
abbrev avV:bJ:=⟨126,none,(.one (.bool))⟩
abbrev avA:bJ:=⟨125,none,(.one (.bool))⟩
abbrev ah4:bJ:=⟨123,some [C,C],(.agg [C,.str,C,.R 2])⟩
abbrev Uh:bJ:=⟨89,none,(.one (.bool))⟩
abbrev ah9:bJ:=⟨124,none,(.one (.bool))⟩
abbrev Ug:bJ:=⟨36,some [C,C],(.one (.str))⟩
abbrev avG:bJ:=⟨92,some [C,C],(.one (.str))⟩
abbrev avZ:bJ:=⟨145,none,(.one (.bool))⟩
abbrev ah5:bJ:=⟨146,none,(.one (.bool))⟩
abbrev ah7:bJ:=⟨128,none,(.dD [(.agg [C,.str,C,.R 2]),(.agg [C,C])])⟩
abbrev avN:bJ:=⟨86,none,(.one (C))⟩
abbrev avO:bJ:=⟨67,none,(.one (C))⟩
abbrev LH:bJ:=⟨30,some [C,C],(.one (.str))⟩
abbrev avK:bJ:=⟨109,none,(.dD [(.one (C)),(.one (.bool))])⟩
abbrev avS:bJ:=⟨38,some [C,C],(.agg [C,.str,.R 0,C,.str,C,.R 2,.R 3,.R 4])⟩
abbrev avX:bJ:=⟨82,some [C,C],(.dD [(.one (.R 0)),(.one (.R 2))])⟩
abbrev aaB:bJ:=⟨77,some [C,C],(.one (.R 1))⟩
abbrev ah6:bJ:=⟨80,some [C,C],(.dD [(.agg [C,.str,.R 1,C]),(.agg [C,.str,.R 1,C])])⟩
abbrev aia:bJ:=⟨78,some [C,C],(.one (.str))⟩
abbrev Ui:bJ:=⟨79,some [C,C],(.agg [C,.str,C,.R 2])⟩
abbrev aaC:bJ:=⟨53,some [C,C],(.agg [C,.str,C,.str,C,.str,C,.R 2,.R 4,.R 5])⟩
abbrev avR:bJ:=⟨83,none,(.agg [C,.str,C,.R 2])⟩
abbrev avI:bJ:=⟨153,none,(.one (.bool))⟩
abbrev ah8:bJ:=⟨64,some [C,C],(.agg [C,.str,C,.str,C,.str,C,.R 2,.R 4,.R 5])⟩
abbrev avY:bJ:=⟨37,none,(.one (.bool))⟩
abbrev avC:bJ:=⟨120,some [C,C],(.one (.str))⟩
abbrev avB:bJ:=⟨119,none,(.dD [(.one (C)),(.one (.bool))])⟩
abbrev avP:bJ:=⟨151,none,(.one (.R 9))⟩
abbrev avW:bJ:=⟨39,none,(.one (C))⟩
abbrev avT:bJ:=⟨23,none,(.one (.bool))⟩
abbrev avJ:bJ:=⟨69,none,(.one (.bool))⟩
abbrev av0:bJ:=⟨26,none,(.one (.bool))⟩
abbrev avM:bJ:=⟨81,some [C,C],(.one (.str))⟩
def sS (h:p[i]?=some d):den (bP p) (.var i)=some d:=by
 simp only[den,bP,h]
def aC0 {F:Nat->D} {ds:G DA} (h:iH F E=some ds):iU F (.tuple E)=some (.dD ds):=by
 simp only[iU,h,Co]
def M (h:P:=by
 repeat' (first
  |with_reducible apply gP
  |with_reducible apply jD
  |with_reducible apply uy
  |with_reducible apply qh
  |with_reducible apply sS
  |with_reducible apply vC
  |with_reducible apply sj
  |with_reducible apply aC0
  |with_reducible apply gI
  |with_reducible apply mJ
  |with_reducible apply uq
  |with_reducible apply aC4
  |with_reducible apply aC5
  |with_reducible apply aC7
  |with_reducible apply apd
  |with_reducible apply KR
  |with_reducible apply afu
  |exact rfl
  |(show _=_;assumption))
 first
  |done
  |fail):P:=h
def fu (h:P:=by exact fun _ _ h=>h):P:=h
def aC (h:P:=by first|assumption|omega|(intro e;simp_all;first|done|fail)|(simp_all;first|done|fail)|(simp at*;omega)):P:=h
def d_ (h:P:=by first|exact U0 I|exact U0 (by simp only[mD,gD,lN,tX];omega)|(simp;first|done|fail)|(simp;omega)|(simp_all;omega)):P:=h
def nz {aY:Prop} (h:P) (e:P=aY:=by first|(conv=>lhs;simp only[tD,rD,iD,qW,uT,vR,kS,lY,↓tO,↓uU])|rfl):aY:=by rw[<-e];exact h
def u_ (h:P:=by first|(conv=>lhs;simp[tD,rD,iD,sZ])|rfl):P:=h
def rR {aY:Prop} (h:P) (e:P=aY:=by first|(conv=>lhs;simp only[DA.one.injEq,DA.agg.injEq,D.bool.injEq,D.int.injEq,D.str.injEq,tD,rD,iD,sZ,IB,↓tO,↓uU])|rfl):aY:=by rw[<-e];exact h
def JG {s s':dV Fa Rw} {j:DA} (h:TR s j) (e:s=s':=by first|(conv=>lhs;simp only[tD,rD,iD,qW,uT,vR,kS,lY])|rfl):(∃t,s'=.ok t/\j=.dD [.agg t,.agg aM])\/∃f,s'=.error f/\f.1≠0/\j=.dD [.agg jm,.agg (dL f)]:=by rw[<-e];exact h
def aj (h:P:=by exact⟨M,u_,u_⟩):P:=h
def qF (h:P:=by
 intro f hy hf;replace hy:=nz hy;exact qE):P:=h
def QE (h:P:=by first|(simp[nth,nk,nt,nc,no,jh,iD,tD,rD,mq,LM,kS,lY,LU,uT,vR, *]<;>first|done|omega|assumption)|(simp_all[nth,nk,nt,nc,no,jh,iD,tD,rD,mq,LM,kS,lY,LU,uT,vR]<;>omega)):P:=h
def Z0 (h:P:=by first|decide|assumption|(simp;first|done|fail)|simp_all):P:=h
def aA (h:P:=by first|omega|(simp;omega)|(simp;first|done|fail)):P:=h
def HL (h:P:=by first|assumption|(simp only[rD,L8,tX,mD,gD,lN];omega)|omega):P:=h
def nx (h:P:=by first|rfl|(rw[wrap_small Yz]<;>rfl)|(rw[wrap_small Yz];simp[bw];first|done|fail)|(rw[List.map_append]<;>rfl)|(rw[List.map_append,wrap_small Yz]<;>rfl)|(dsimp only;first|(rw[List.map_append]<;>rfl)|(rw[List.map_append,wrap_small Yz]<;>rfl))):P:=h
def dn (h:P:=by intro e;first|omega|(simp_all;first|done|fail)|exact absurd (nD e.symm) hf):P:=h
def ZJ {b:D} (h:mU [d,b]):aW O d C/\aW O b C:=by
 obtain⟨k,o,e⟩:=aGP h;cases e;exact⟨aO,aO⟩
def kV {k:Kd} {ks:G Kd} (h:aJ c (d::p) (k::ks)):aW c d k/\aJ c p ks:=by
 obtain⟨k',r,e,j,l⟩:=h;cases e;exact⟨j,l⟩
def Zp {vals:G D} (h:vals[b]?=some (.R l)) (e:(l.length:Int)=k):KN vals [(.bin .eql (.len (.var b)) (.int .i64 k),true)]:=by
 intro p Z;obtain rfl:=yR.1 Z;refine⟨?_,mJ (uq (sS h)) rfl ?_⟩
 ·have:=(gN.1 h).1
  simpa[gq] using this
 ·simp[jl,e]
def asU {vals:G D} {L:G (Y×aK)} {z:Int} {b:aK} (h:vals[g]?=some (.int .i64 z)) (hL:KN vals L) (e:decide (z=k)=b:=by rfl):KN vals ((.bin .eql (.var g) (.int .i64 k),b)::L):=by
 intro p Z;rcases g_.1 Z with rfl|Z
 ·refine⟨?_,mJ (sS h) rfl (by rw[<-e];rfl)⟩
  have:=(gN.1 h).1
  simpa[gq] using this
 ·exact hL p Z
def bn:xW [] []:=rfl
def nb {l:gu}:l.eZ ⟨[],false,0,0,[]⟩:=fun h=>by cases h
def ln:(∀l∈([]:G gu),l.aA T b)/\xW [] []:=⟨all_nil,rfl⟩
def lc {f:Nat} {l:gu} {b:LI} {ls:G gu} {lb:G LI} (h:l.aA T f) (j:l.eZ b) (e:(∀l∈ls,l.aA T f)/\xW ls lb):(∀c∈l::ls,c.aA T f)/\xW (l::ls) (b::lb):=⟨all_cons h e.1,j,e.2⟩
def fG (T:Nat->ah D) (cs:G bR) (bs:G BI):Prop:=(∀c∈cs,c.aA T)/\Bb cs bs
def an:fG T [] []:=⟨all_nil,rfl⟩
def ac {c:bR} {b:BI} {cs:G bR} {bs:G BI} (h:c.aA T) (j:c.eZ b) (e:fG T cs bs):fG T (c::cs) (b::bs):=⟨all_cons h e.1,j,e.2⟩
section
variable {kt:G (G Kd)}
def DW {r:Rw} (h:iw kt (.agg [C,.str,.R b,C]) (.agg r)):∃k t c o,r=[.int .i64 k,.str t,.R c,.int .i64 o]/\c.length<=gB/\dR kt c (kt.getD b []):=by
 obtain⟨k,t,c,o,e,_,j,l⟩:=jT (Dt h);exact⟨k,t,c,o,e,j,l⟩
def gQ {r:Rw} (h:iw kt (.agg [C,.str,C,.R b]) (.agg r)):∃k t i c,r=[.int .i64 k,.str t,.int .i64 i,.R c]/\c.length<=gB/\dR kt c (kt.getD b []):=by
 obtain⟨k,t,i,c,e,_,j,l⟩:=oF (Dt h);exact⟨k,t,i,c,e,j,l⟩
def nH (h:iw kt (.agg kEx) (.agg t)):∃a b c d e f g i j k,t=[a,b,c,d,e,f,g,i,j,k]:=by
 obtain⟨a,b,c,d,e,f,g,i,j,k,q,_⟩:=Ym (Dt h);exact⟨a,b,c,d,e,f,g,i,j,k,q⟩
def zA (h:iw kt (.agg tq) (.agg t)):∃k b c d e f g i j,t=[.int .i64 k,b,c,d,e,f,g,i,j]:=by
 obtain⟨a,b,c,d,e,f,g,i,j,q,l,_⟩:=Ot (Dt h);obtain⟨k,rfl⟩:=l.int;exact⟨k,b,c,d,e,f,g,i,j,q⟩
def au1 (h:iw kt (.agg fl) (.agg t)):∃k o,t=[.int .i64 k,.int .i64 o]:=aEd (Dt h)
def jd (h:iw kt (.one (.R b)) (.one (.R l))):l.length<=gB/\dR kt l (kt.getD b []):=by
 obtain⟨r,e,j,q⟩:=bW (asB h);cases e;exact⟨j,q⟩
def sH {x:DA} (h:iw kt (.one (.R b)) x):∃l,x=.one (.R l)/\l.length<=gB/\dR kt l (kt.getD b []):=by
 obtain⟨d,rfl,e⟩:=SG h;obtain⟨r,rfl,e,j⟩:=bW e;exact⟨r,rfl,e,j⟩
def FC {x:DA} {c:tQ} (h:iw kt (.one (.int c)) x):∃n,x=.one (.int c n):=by
 obtain⟨d,rfl,e⟩:=SG h;obtain⟨n,rfl⟩:=e.int;exact⟨n,rfl⟩
def au0 {x:DA} (h:iw kt (.one .bool) x):∃n,x=.one (.bool n):=by
 obtain⟨d,rfl,e⟩:=SG h;obtain⟨n,rfl⟩:=e.bool;exact⟨n,rfl⟩
def JM {x:DA} (h:iw kt (.one .str) x):∃n,x=.one (.str n):=by
 obtain⟨d,rfl,e⟩:=SG h;obtain⟨n,rfl,_⟩:=e.str;exact⟨n,rfl⟩
def lV {x:DA} {ks:G Kd} (h:iw kt (.agg ks) x):∃r,x=.agg r:=by
 obtain⟨r,e,_⟩:=asA h;exact⟨r,e⟩
def Ia {x:DA} {a b:RT} (h:iw kt (.dD [a,b]) x):∃y z,x=.dD [y,z]/\iw kt a y/\iw kt b z:=OL h
def tH {y z:DA} {a b:RT} (h:iw kt (.dD [a,b]) (.dD [y,z])):iw kt a y/\iw kt b z:=by
 obtain⟨q,u,e,j,l⟩:=OL h;cases e;exact⟨j,l⟩
def aT {r:Rw} (h:aJ kt r [C,.str,.R b,C]):∃k t c o,r=[.int .i64 k,.str t,.R c,.int .i64 o]/\c.length<=gB/\dR kt c (kt.getD b []):=DW (agC h)
def oD {r:Rw} (h:aJ kt r [C,.str,C,.R b]):∃k t i c,r=[.int .i64 k,.str t,.int .i64 i,.R c]/\c.length<=gB/\dR kt c (kt.getD b []):=gQ (agC h)
def aiG {r:Rw} (h:aJ kt r [.str]):∃t,r=[.str t]:=by
 obtain⟨t,e,_⟩:=PO h;exact⟨t,e⟩
def pJ {ks:G Kd} (U:dR kt l ks) (e:l.length<=gB) (h:l.length≠0):∃a t,l=a::t/\t.length<=gB/\aJ kt a ks/\dR kt t ks:=by
 match l,h with
 |a::t,_=>exact⟨a,t,rfl,fF (yS _) e,U.1,U.2⟩
def Dq {ks:G Kd} (U:dR kt l ks) (e:l.length<=gB) (h:2<=l.length):∃a b t,l=a::b::t/\t.length<=gB/\aJ kt a ks/\aJ kt b ks/\dR kt t ks:=by
 match l,h with
 |a::b::t,_=>exact⟨a,b,t,rfl,by simp only[gD] at e;omega,U.1,U.2.1,U.2.2⟩
def agv {ks:G Kd} (U:dR kt l ks) (e:l.length<=gB) (h:3<=l.length):∃a b c t,l=a::b::c::t/\t.length<=gB/\aJ kt a ks/\aJ kt b ks/\aJ kt c ks/\dR kt t ks:=by
 match l,h with
 |a::b::c::t,_=>exact⟨a,b,c,t,rfl,by simp only[gD] at e;omega,U.1,U.2.1,U.2.2.1,U.2.2.2⟩
def oV (h:l.length=0):l=[]:=qx h
def Fq {ks:G Kd} (U:dR kt l ks) (h:l.length=1):∃a,l=[a]/\aJ kt a ks:=by
 match l,h with
 |[a],_=>exact⟨a,rfl,U.1⟩
def qN {ks:G Kd} (U:dR kt l ks) (h:l.length=2):∃a b,l=[a,b]/\aJ kt a ks/\aJ kt b ks:=by
 match l,h with
 |[a,b],_=>exact⟨a,b,rfl,U.1,U.2.1⟩
def Dh {ks:G Kd} (U:dR kt l ks) (h:l.length=3):∃a b c,l=[a,b,c]/\aJ kt a ks/\aJ kt b ks/\aJ kt c ks:=by
 match l,h with
 |[a,b,c],_=>exact⟨a,b,c,rfl,U.1,U.2.1,U.2.2.1⟩
def Jl {ks:G Kd} (U:dR kt l ks) (h:l.length=4):∃a b c d,l=[a,b,c,d]/\aJ kt a ks/\aJ kt b ks/\aJ kt c ks/\aJ kt d ks:=by
 match l,h with
 |[a,b,c,d],_=>exact⟨a,b,c,d,rfl,U.1,U.2.1,U.2.2.1,U.2.2.2.1⟩
def aMS {r:RT} {rs:G RT} {V:G DA} (h:fH kt (r::rs) V):∃a l,V=a::l/\iw kt r a/\fH kt rs l:=h
def aMU {V:G DA} (h:fH kt [] V):V=[]:=h
def aMT {r:RT} {rs:G RT} {a:DA} {l:G DA} (h:fH kt (r::rs) (a::l)):iw kt r a/\fH kt rs l:=by
 obtain⟨u,l',e,j,q⟩:=h;cases e;exact⟨j,q⟩
end
def asP:ah iB->aK
 |some (.loop _)=>true
 |_=>false
structure ko (f:FuncId) (n id:Nat) (L:eX) (sg:List bJ) (lg:List eX) (j_:List iq):Prop where
 one:(qK (kU f)).count id<=1
 bX:iW id (kU f)=some (.loop (Td (iW id (kU f))))
 self:FJ L.dw.J fM.length j_=true
 jC:FI z_ Tryz.prog n (Td (iW id (kU f))) fM.length B3 O L sg lg j_ j_=true
def ko.of {f:ig} {id:Nat} {L:eX} {q:G bJ} {u:G eX} {j:G iq} (h:(decide ((qK (kU f)).count id<=1)&&(asP (iW id (kU f))&&(FJ L.dw.J fM.length j&&FI z_ Tryz.prog g (Td (iW id (kU f))) fM.length B3 O L q u j j)))=true):ko f g id L q u j:=by
 simp only[bU,iL] at h;obtain⟨w,l,y,A⟩:=h;refine⟨w,?_,y,A⟩;unfold asP at l;split at l
 ·rename_i b e
  rw[e];rfl
 ·cases l
def gU (f:ig):Prop:=∃fn,Tryz.prog.funcs[f]?=some fn/\fn.body=some (kU f)
def gY {f:ig} {fn:Func} (h:Tryz.prog.funcs[f]?=some fn) (j:fn.body.isSome=true):gU f:=by
 refine⟨fn,h,?_⟩;unfold kU;rw[h];obtain⟨b,e⟩:=ai8.1 j;simp only[e,Option.getD_some]
def kD {ks:G Kd} (e:q.length<=gB) (j:l.length<=gB) (u:dR c l (c.getD b [])) (h:aJ c p ks):aJ c (.int .i64 k::.str q::.R l::.int .i64 o::p) (C::.str::.R b::C::ks):=ay aO (ay (mo e) (ay (eP j u) (ay aO h)))
def QL (j_:G iq) (c:gu) (ds:G D) (lQ:Nat->Nat->G D->Prop) (m:Nat):Nat->G DA->Prop:=fun j V=>∃out,V=out.map DA.one/\
 ((∃m' st,j_[j]?=some st/\aJ O out st.ks/\m'<m/\lQ j m' out)\/∃j' x S' ks,j=j_.length+j'/\c.sig.outs[j']?=some (x,S',ks)/\aJ O out ks/\c.fP ds j' out)
def RQ (g:eX):aK:=g.outs.all fun o=>match o.1 with
 |.exit k=>k !=g.r9
 |_=>true
def aDK {g:eX} (h:RQ g=true) (j:Nat) (o:AX×bV×G Kd) (N:g.outs[j]?=some o):o.1≠AX.exit g.r9:=by
 intro e;have l:=Ch.1 h o (kg N);simp[e] at l
def afs {F:Nat->D}:∀{vs:G H} {es:G Y} {out:G D},jv vs=some es->cZ F es=some out->iH F vs=some (out.map DA.one)
 |[],es,out,h,j=>by
  simp only[jv,aG] at h;subst h;simp only[cZ,aG] at j;subst j
  rfl
 |v::vs,es,out,h,j=>by
  simp only[jv] at h;split at h
  ·rename_i e A l q
   simp only[aG] at h;subst h;simp only[cZ] at j;obtain⟨x,u,j⟩:=kW.1 j;obtain⟨E,w,j⟩:=kW.1 j;cases j;have y:iU F v=some (.one x):=by
    unfold tN at l;split at l<;>first|(cases l;done)|(simp only[aG] at l;subst l;simp only[iU,tN,u,Co])
   simp only[iH,y,afs q w,AU]
  ·cases h
section
variable {sg:G bJ} {bs:G BI} {lg:G eX} {lb:G LI} {cs:G bR} {ls:G gu} {L:G (Y×aK)} {ks:G Kd} {vals:G D} {j_:G iq} {c:gu} {ds out:G D} {lQ:Nat->Nat->G D->Prop} {m m' j j':Nat} {vs:G H} {es:G Y} {rr:G (Nat×Nat)} {st:iq} {x:AX} {S':bV} {q:G Kd}
def WZ (h:P:=by
 (try simp only[iL,ajg,iD,rD] at h9)
 rw[show IntKind.i64.wrap _=_ from aOB (by(try simp only[gD]);omega) (by(try simp only[gD]);unfold gB at*;omega)] at h9
 (try simp only[gD] at h9)
 omega):P:=h
def aaT {aY:Nat->G DA->Prop} {t:Tree} {v:Nat} (z:Int) (h:vals[v]?=some (.R l)) (j:(l.length:Int)<=z) (q:K sg bs lg lb cs ls aY t (oO ks.length L (.bin .leq (.len (.var v)) (.int .i64 z)) true) ks vals):K sg bs lg lb cs ls aY t L ks vals:=
 fun a b c d e f=>q a b c d e (f.add e (mJ (uq (sS h)) rfl (by simp[jl,j])))
def nU (l:jv vs=some es) (e:cZ (bP vals) es=some out) (q:m'<m) (u:lQ j m' out) (h:j_[j]?=some st:=by rfl) (hc:zk O L ks es st.ks=true:=by kernel_rfl):K sg bs lg lb cs ls (QL j_ c ds lQ m) (.leaf j vs rr) L ks vals:=by
 intro E F P T w hL;obtain⟨y,e1,A⟩:=Fe (qQ w) hL.f hc;rw[e] at e1;cases e1;exact fV (afs l e) ⟨out,rfl,.inl ⟨m',st,h,A,q,u⟩⟩
def qw (h:jv vs=some es) (e:cZ (bP vals) es=some out) (hR:c.fP ds j' out) (l:j=j_.length+j':=by rfl) (N:c.sig.outs[j']?=some (x,S',q):=by rfl) (hc:zk O L ks es q=true:=by kernel_rfl):K sg bs lg lb cs ls (QL j_ c ds lQ m) (.leaf j vs rr) L ks vals:=by
 intro A E F P u hL;obtain⟨w,e1,y⟩:=Fe (qQ u) hL.f hc;rw[e] at e1;cases e1;exact fV (afs h e) ⟨out,rfl,.inr ⟨j',x,S',q,l,N,y,hR⟩⟩
end
def Te (b':bH T) {f:Nat} {body:iB} {c:gu} {j_:G iq} {s0:iq} {sg:G bJ} {bs:G BI} {cs:G bR}
 (w:(qK (kU f)).count c.sig.r9<=1) (y:iW c.sig.r9 (kU f)=some (.loop body)) (l:FJ c.sig.dw.J fM.length j_=true) (A:FI z_ Tryz.prog b body fM.length B3 O c.sig sg [] j_ j_=true)
 (c':fG T cs bs) (d':aJ O p s0.ks) (lQ:Nat->Nat->G D->Prop) (m:Nat) (J:lQ 0 m p)
 (i':∀i st m e,j_[i]?=some st->lQ i m e->aJ O e st.ks->K sg bs [] [] cs [] (QL j_ c p lQ m) st.t [] (lK++st.ks) (fM++e))
 (e':j_[0]?=some s0:=by rfl) (f':s0.dw=c.sig.dw:=by rfl) (g':RQ c.sig=true:=by kernel_rfl) (jY:cs.map (·.sig)=sg:=by rfl) (E:c.sig.own=0:=by first|rfl|kernel_rfl):
 ∃(j:Nat) (x:AX) (S':bV) (ks:G Kd) (out:G D),c.sig.outs[j]?=some (x,S',ks)/\c.fP p j out/\aJ O out ks/\BX T Tryz.prog (fun x=>x∈dO (kU f)) c.sig (fM++p) x S' (fM++out):=by
 refine vL (c:=c) mI mixed (lT b') w y (aDK g') e' f' l A (mK jY c'.1) (mP (ls:=[]) rfl all_nil) (fun i m e=>lQ i m e/\∀st,j_[i]?=some st->aJ O e st.ks) m ⟨J,fun st h=>by rw[e'] at h;cases h;exact d'⟩ (fun i st m e u h'=>?_) (Or.inl E)
 have F:=h'.2 st u;refine⟨F,?_⟩;have k':=(i' i st m e u h'.1 F).go ((Zf b').append F) KN.nil c'.2 rfl jY rfl;refine Tree.mono (fun j V=>?_) k';rintro⟨out,rfl,⟨m',l',e1,P,W,a'⟩|⟨j',x,S',q,e1,P,W,a'⟩⟩
 ·exact⟨out,rfl,.inl ⟨m',(gN.1 e1).1,W,a',fun st h=>by rw[e1] at h;cases h;exact P⟩⟩
 ·exact⟨out,rfl,.inr ⟨j',x,S',q,e1,P,W,a'⟩⟩
def Xn {f:Fa} {r out:G D} {b:G (Nat×Nat)} {ds:G D} (N:out=p++r) (Z:p=dL f) (h:b.map (fun x=>(dL f++r)[x.2]?)=b.map (fun x=>ds[x.1]?):=by rfl):(∃r,out=dL f++r)/\b.map (fun x=>out[x.2]?)=b.map fun x=>ds[x.1]?:=by
 subst N Z;exact⟨⟨r,rfl⟩,h⟩
def RR (h:P:=by first|exact kL.bad oW hrun|exact hrun.next hrow qE|exact hrun.err hrow qE oW|exact hrun.err (f:=(_,_)) hrow qE Z0):P:=h
def LE (h:P:=by first|exact aA|exact⟨aA,aA⟩|exact⟨aA,qI⟩|exact⟨⟨aA,aA⟩,qI⟩):P:=h
def LN (h:P:=by first
 |exact nU (m':=rows.length-(k+1)) rfl M aA ⟨k+1,_,_,_,nx,rfl,aA,LE,RR⟩
 |exact nU (m':=rows.length-(k+1)) rfl M aA ⟨k+1,a0++[_],_,_,nx,rfl,aA,LE,RR⟩
 |exact nU (m':=rows.length-(k+1)) rfl M aA ⟨k+1,[]++[_],_,_,nx,rfl,aA,LE,RR⟩
 |exact nU (m':=rows.length-(k+1)) rfl M aA ⟨k+1,(a0++[_],a1++[_]),_,_,nx,rfl,aA,LE,RR⟩
 |exact nU (m':=rows.length-(k+1)) rfl M aA ⟨k+1,(a0++[_],[_]++a1),_,_,nx,rfl,aA,LE,RR⟩
 |exact nU (m':=rows.length-(k+1)) rfl M aA ⟨k+1,([]++[_],[]++[_]),_,_,nx,rfl,aA,LE,RR⟩
 |exact nU (m':=rows.length-(k+1)) rfl M aA ⟨k+1,(a0,a1),_,_,nx,rfl,aA,LE,RR⟩
 |exact nU (m':=rows.length+1-(k+1)) rfl M aA ⟨k+1,_,_,nx,rfl,aA,RR⟩):P:=h
def EW (h:P:=by
 repeat' (first
  |(with_reducible have e:=lV hk
    obtain⟨h',rfl⟩:=e
    first
     |obtain⟨q,u,w,y,rfl,A,E⟩:=DW hk
     |obtain⟨q,u,i',w,rfl,A,E⟩:=gQ hk
     |obtain⟨B0,F,T,B3,W,a',b',c',d',j',rfl⟩:=nH hk
     |obtain⟨B0,F,T,B3,W,a',b',c',d',rfl⟩:=zA hk
     |obtain⟨q,y,rfl⟩:=au1 hk
    clear hk)
  |(with_reducible have e:=JM hk
    obtain⟨k',rfl⟩:=e;clear hk)
  |(with_reducible have e:=sH hk
    obtain⟨l',rfl,n',o'⟩:=e;clear hk)
  |(with_reducible have e:=FC hk
    obtain⟨e',rfl⟩:=e;clear hk)
  |(with_reducible have e:=au0 hk
    obtain⟨e',rfl⟩:=e;clear hk)
  |(with_reducible have e:=Ia hk
    obtain⟨_,_,rfl,j,l⟩:=e;clear hk)
  |(have hk:=j
    clear j)
  |(have hk:=l
    clear l)
  |(with_reducible show K _ _ _ _ _ _ _ (.fact _ _ _) _ _ _
    refine aR ?_)
  |(with_reducible show K _ _ _ _ _ _ _ (.B _ _ _) _ _ _
    first
     |refine jo (uw M oW) ?_
     |refine fO (den_nz M oW) ?_
     |refine fO M ?_
     |refine jo M ?_
     |refine au aj (fun f'=>?_) (fun f'=>?_))
  |(with_reducible show K _ _ _ _ _ _ _ (.call _ _ _ _) _ _ _
    first
     |refine awL oW M (fun g' hk=>?_)
     |refine aiJ M (fun g' hk=>?_))
  |(with_reducible show K _ _ _ _ _ _ _ (.leaf _ _ _) _ _ _
    exact LN))):P:=h
def RW (h:P:=by
 first
 |obtain⟨j,e,l,w,rfl,q,u⟩:=aT jO
 |obtain⟨j,e,y,l,rfl,q,u⟩:=oD jO
 |obtain⟨e,rfl⟩:=aiG jO
 exact EW):P:=h
def EX (h:P:=by
 intro l q jA e hk j;replace jA:=nz jA;exact EW):P:=h
def XX (h:P:=by first
 |exact qw (j':=0) rfl M ⟨_,hrun.done dn True.intro,rfl⟩
 |exact qw (j':=1) rfl M ⟨_,hrun.done dn True.intro,rfl⟩
 |exact qw (j':=1) rfl M ⟨_,_,hrun.done dn True.intro,rfl⟩
 |exact qw (j':=0) rfl M ⟨_,_,hrun.done dn True.intro,rfl⟩
 |exact qw (j':=0) rfl M ⟨_,hrun.done dn qD,rfl⟩
 |exact qw (j':=1) rfl M ⟨_,_,hrun.done dn qD,rfl⟩):P:=h
def RL {e:Type} (dw:dV Fa e) (enc:e->DA) (any:DA->Prop) (pre:G D) (s0:e) (h:G D) (j:e->G D):Nat->G D->Prop
 |0,out=>∃p,bG dw enc any pre (enc s0) p/\out=p++h
 |1,out=>∃p s,bG dw enc any pre (enc s) p/\out=p++j s
 |_,_=>False
def IL {e:Type} (step:e->Rw->dV Fa e) (s0:e) (rows:G Rw) (pre:G D) (le:e->Nat->Prop) (h:D->D->D->G D) (j:e->D->D->D->G D):Nat->Nat->G D->Prop
 |0,m,ds=>∃(k:Nat) (p0 p1:D),ds=h p0 p1 (.int .i64 k)/\m=rows.length+1-k/\k<=rows.length/\kL step s0 rows pre k s0 [p0,p1]
 |1,m,ds=>∃(k:Nat) (a:e) (p0 p1:D),ds=j a p0 p1 (.int .i64 k)/\m=rows.length-k/\k<=rows.length/\le a k/\kL step s0 rows pre k a [p0,p1]
 |_,_,_=>False
def sk (l:G iq):G Kd:=match l with
 |s::_=>s.ks
 |[]=>[]
def rP {kt:G (G Kd)} {ks:G Kd} (i:Nat) (h:aJ kt p ks) {k:Kd} (j:p[i]?=some d:=by rfl) (l:ks[i]?=some k:=by rfl):aW kt d k:=by
 obtain⟨k',e,q⟩:=h.get j;rw[l] at e;cases e;exact q
def RL.bad {e:Type} {dw:dV Fa e} {enc:e->DA} {any:DA->Prop} {f:Fa} {s0:e} {l:G D} {u:e->G D} {out ds:G D} {q:G (G (Nat×Nat))} (hf:f.1≠0) (h:RL dw enc any (dL f) s0 l u b out)
 (y:(q.getD 0 []).map (fun x=>(dL f++l)[x.2]?)=(q.getD 0 []).map fun x=>ds[x.1]?) (A:∀s,(q.getD 1 []).map (fun x=>(dL f++u s)[x.2]?)=(q.getD 1 []).map fun x=>ds[x.1]?):(∃r,out=dL f++r)/\(q.getD b []).map (fun x=>out[x.2]?)=(q.getD b []).map fun x=>ds[x.1]?:=by
 match b,h with
 |0,⟨p,w,N⟩=>rw[N,(w.oq hf).1];exact⟨⟨l,rfl⟩,y⟩
 |1,⟨p,s,w,N⟩=>rw[N,(w.oq hf).1];exact⟨⟨u s,rfl⟩,A s⟩
def BL (h:P:=by
 intro _ ds f hf h q u w;have l:=h
 repeat(obtain⟨_,_,rfl,_,h⟩:=dW h)
 obtain rfl:=wE h;obtain rfl:=bI q;obtain rfl:=bI u;obtain rfl:=bI w;refine⟨?_,fun j out hR=>RL.bad hf hR rfl fun _=>rfl⟩
 first
  |exact⟨.inr ⟨f,hf,rfl⟩,l,rfl⟩
  |exact⟨.inr ⟨f,hf,rfl⟩,l,rfl,fun e=>absurd (nD (f:=f) e.symm) hf⟩
  |exact⟨.inr ⟨f,hf,rfl⟩,l,rfl,fun e=>absurd (nD (f:=f) e.symm) hf,fun e=>absurd (nD (f:=f) e.symm) hf⟩):P:=h
def NJ (h:P:=by
 intro a b h;simp only[DA.one.injEq,DA.dD.injEq,D.R.injEq,nV,tZ,Tg] at h
 first
  |exact h
  |exact Prod.ext h.1 h.2):P:=h
def L2 (ks:G Kd) (e h:Nat):G (Y×aK):=oO (lK++ks).length (oO (lK++ks).length [] (.bin .lss (.var e) (.len (.var h))) true) (.bin .geq (.var e) (.int .i64 0)) true
def JC (u':bH T) {f n:Nat} {c:gu} {j_:G iq} {sg:G bJ} {bs:G BI} {cs:G bR} {ds:G D} {F:Type} {step:F->Rw->dV Fa F} {s0:F} {rows:G Rw} {b:D} {kr:G Kd} {f' o':bV} {u y:G Kd} {P E W:Nat} {h' t1 p' e1:Tree}
 (le:F->Nat->Prop) (l:D->D->D->G D) (w:F->D->D->D->G D)
 (hk:ko f n c.sig.r9 c.sig sg [] j_) (v':fG T cs bs) (g':aJ O ds (sk j_)) (Z:mU [d,b]) (U:dR O rows kr)
 (w':∀(k:Nat) (row:Rw),rows[k]?=some row->aJ O row kr->k<rows.length->kL step s0 rows [d,b] k s0 aM->K sg bs [] [] cs [] (QL j_ c ds (IL step s0 rows [d,b] le l w) (rows.length+1-k)) h' (L2 u g P) (lK++u) (fM++l (.int .i64 0) (.int .i64 0) (.int .i64 k)))
 (x':∀(k:Nat) (s:F) (row:Rw),le s k->rows[k]?=some row->aJ O row kr->k<rows.length->kL step s0 rows [d,b] k s aM->K sg bs [] [] cs [] (QL j_ c ds (IL step s0 rows [d,b] le l w) (rows.length-k)) t1 (L2 y E W) (lK++y) (fM++w s (.int .i64 0) (.int .i64 0) (.int .i64 k)))
 (h0:j_[0]?=some ⟨f',u,.B (.bin .lss (.var g) (.len (.var P))) (.fact (.bin .geq (.var g) (.int .i64 0)) (.bool true) h') p'⟩:=by rfl)
 (y':j_[1]?=some ⟨o',y,.B (.bin .lss (.var E) (.len (.var W))) (.fact (.bin .geq (.var E) (.int .i64 0)) (.bool true) t1) e1⟩:=by rfl)
 (q':ds=l d b (.int .i64 0):=by rfl)
 (v0:∀p q i,(fM++l p q i)[g]?=some i/\(fM++l p q i)[P]?=some (.R rows):=by exact fun _ _ _=>⟨rfl,rfl⟩)
 (v1:∀s p q i,(fM++w s p q i)[E]?=some i/\(fM++w s p q i)[W]?=some (.R rows):=by exact fun _ _ _ _=>⟨rfl,rfl⟩)
 (z':∀(k:Nat) (row:Rw) (f:Fa),rows[k]?=some row->aJ O row kr->k<rows.length->f.1≠0->kL step s0 rows [d,b] k s0 [.int .i64 f.1,.int .i64 f.2]->K sg bs [] [] cs [] (QL j_ c ds (IL step s0 rows [d,b] le l w) (rows.length+1-k)) h' (L2 u g P) (lK++u) (fM++l (.int .i64 f.1) (.int .i64 f.2) (.int .i64 k)):=by intro k row f hrow jO h hf hrun;exact RW)
 (A':∀(k:Nat) (s:F) (row:Rw) (f:Fa),le s k->rows[k]?=some row->aJ O row kr->k<rows.length->f.1≠0->kL step s0 rows [d,b] k s [.int .i64 f.1,.int .i64 f.2]->K sg bs [] [] cs [] (QL j_ c ds (IL step s0 rows [d,b] le l w) (rows.length-k)) t1 (L2 y E W) (lK++y) (fM++w s (.int .i64 f.1) (.int .i64 f.2) (.int .i64 k)):=by
  intro k a0 row f c' hrow jO h hf hrun
  first
   |(have D':=a0.1
     clear D';obtain⟨a0,a1⟩:=a0;obtain⟨c',E'⟩:=c';exact RW)
   |exact RW)
 (F':∀(k:Nat) (p0 p1:D),k<=rows.length->¬k<rows.length->kL step s0 rows [d,b] k s0 [p0,p1]->K sg bs [] [] cs [] (QL j_ c ds (IL step s0 rows [d,b] le l w) (rows.length+1-k)) p' (oO (lK++u).length [] (.bin .lss (.var g) (.len (.var P))) false) (lK++u) (fM++l p0 p1 (.int .i64 k)):=by intro k p0 p1 a' h0 hrun;exact XX)
 (L':∀(k:Nat) (s:F) (p0 p1:D),le s k->k<=rows.length->¬k<rows.length->kL step s0 rows [d,b] k s [p0,p1]->K sg bs [] [] cs [] (QL j_ c ds (IL step s0 rows [d,b] le l w) (rows.length-k)) e1 (oO (lK++y).length [] (.bin .lss (.var E) (.len (.var W))) false) (lK++y) (fM++w s p0 p1 (.int .i64 k)):=by intro k s p0 p1 hle a' h0 hrun;exact XX)
 (r':f'=c.sig.dw:=by rfl) (s':RQ c.sig=true:=by kernel_rfl) (jY:cs.map (·.sig)=sg:=by rfl) (i':c.sig.own=0:=by first|rfl|kernel_rfl):
 ∃(j:Nat) (x:AX) (S':bV) (ks:G Kd) (out:G D),c.sig.outs[j]?=some (x,S',ks)/\c.fP ds j out/\aJ O out ks/\BX T Tryz.prog (fun x=>x∈dO (kU f)) c.sig (fM++ds) x S' (fM++out):=by
 have t':sk j_=u:=by
  exact apZ
 rw[t'] at g';have d':∀k:Nat,jl .geq (.int .i64 (k:Int)) (.int .i64 0)=some (.bool true):=fun k=>by
  simp only[jl];simp
 refine Te u' hk.one hk.bX hk.self hk.jC v' g' (IL step s0 rows [d,b] le l w) (rows.length+1) ⟨0,d,b,q',rfl,gK _,kL.start Z⟩ (fun i st m P' A M' T'=>?_) h0 r' s' jY i'
 match i,A,M' with
 |0,A,⟨k,p0,p1,e,k',a',hrun⟩=>
  subst e k';rw[h0] at A;cases A;obtain⟨e',l'⟩:=v0 p0 p1 (.int .i64 k);refine K.B (mJ (sS e') (uq (sS l')) rfl) (fun hb=>?_) (fun hb=>F' k p0 p1 a' Af hrun);have h:k<rows.length:=Af;refine aR ?_ (mJ (sS e') rfl (d' k)) rfl;obtain⟨row,hrow,jO⟩:=kZ U h;rcases hrun.DT with b'|⟨f,hf,b'⟩
  ·cases b'
   exact w' k row hrow jO h hrun
  ·cases b'
   exact z' k row f hrow jO h hf hrun
 |1,A,⟨k,s,p0,p1,e,k',a',n',hrun⟩=>
  subst e k';rw[y'] at A;cases A;obtain⟨e',l'⟩:=v1 s p0 p1 (.int .i64 k);refine K.B (mJ (sS e') (uq (sS l')) rfl) (fun hb=>?_) (fun hb=>L' k s p0 p1 n' a' Af hrun);have h:k<rows.length:=Af;refine aR ?_ (mJ (sS e') rfl (d' k)) rfl;obtain⟨row,hrow,jO⟩:=kZ U h;rcases hrun.DT with b'|⟨f,hf,b'⟩
  ·cases b'
   exact x' k s row n' hrow jO h hrun
  ·cases b'
   exact A' k s row f n' hrow jO h hf hrun
def L3 (ks:G Kd) (e h:Nat):G (Y×aK):=oO (lK++ks).length (oO (lK++ks).length (oO (lK++ks).length [] (.bin .lss (.var e) (.len (.var h))) true) (.bin .eql (.var 3) (.int .i64 0)) true) (.bin .geq (.var e) (.int .i64 0)) true
def Tf (A':bH T) {n:Nat} {c:gu} {j_:G iq} {sg:G bJ} {bs:G BI} {cs:G bR} {ds:G D} {b':Type} {step:b'->Rw->dV Fa b'} {s0:b'} {b:D} {kr:G Kd} {k' q':bV} {h A:G Kd} {P c' W d':Nat} {r' t1 s' e1 w0 t':Tree}
 (le:b'->Nat->Prop) (u:D->D->D->G D) (y:b'->D->D->D->G D)
 (i':ko g n c.sig.r9 c.sig sg [] j_) (D':fG T cs bs) (l':aJ O ds (sk j_)) (Z:mU [d,b]) (U:dR O l kr)
 (E':∀(k:Nat) (row:Rw),l[k]?=some row->aJ O row kr->k<l.length->kL step s0 l [d,b] k s0 aM->K sg bs [] [] cs [] (QL j_ c ds (IL step s0 l [d,b] le u y) (l.length+1-k)) r' (L3 h P c') (lK++h) (fM++u (.int .i64 0) (.int .i64 0) (.int .i64 k)))
 (F':∀(k:Nat) (s:b') (row:Rw),le s k->l[k]?=some row->aJ O row kr->k<l.length->kL step s0 l [d,b] k s aM->K sg bs [] [] cs [] (QL j_ c ds (IL step s0 l [d,b] le u y) (l.length-k)) t1 (L3 A W d') (lK++A) (fM++y s (.int .i64 0) (.int .i64 0) (.int .i64 k)))
 (h0:j_[0]?=some ⟨k',h,.B (.bin .lss (.var P) (.len (.var c'))) (.B (.bin .eql (.var 3) (.int .i64 0)) (.fact (.bin .geq (.var P) (.int .i64 0)) (.bool true) r') w0) s'⟩:=by rfl)
 (L':j_[1]?=some ⟨q',A,.B (.bin .lss (.var W) (.len (.var d'))) (.B (.bin .eql (.var 3) (.int .i64 0)) (.fact (.bin .geq (.var W) (.int .i64 0)) (.bool true) t1) t') e1⟩:=by rfl)
 (u':ds=u d b (.int .i64 0):=by rfl) (v':∀p q i,(fM++u p q i)[3]?=some p:=by exact fun _ _ _=>rfl) (w':∀s p q i,(fM++y s p q i)[3]?=some p:=by exact fun _ _ _ _=>rfl)
 (v0:∀p q i,(fM++u p q i)[P]?=some i/\(fM++u p q i)[c']?=some (.R l):=by exact fun _ _ _=>⟨rfl,rfl⟩)
 (v1:∀s p q i,(fM++y s p q i)[W]?=some i/\(fM++y s p q i)[d']?=some (.R l):=by exact fun _ _ _ _=>⟨rfl,rfl⟩)
 (M':∀(k:Nat) (g:Fa),k<=l.length->k<l.length->g.1≠0->kL step s0 l [d,b] k s0 [.int .i64 g.1,.int .i64 g.2]->K sg bs [] [] cs [] (QL j_ c ds (IL step s0 l [d,b] le u y) (l.length+1-k)) w0 (oO (lK++h).length (oO (lK++h).length [] (.bin .lss (.var P) (.len (.var c'))) true) (.bin .eql (.var 3) (.int .i64 0)) false) (lK++h) (fM++u (.int .i64 g.1) (.int .i64 g.2) (.int .i64 k)):=by intro k g E w hf hrun;exact XX)
 (P':∀(k:Nat) (s:b') (g:Fa),le s k->k<l.length->g.1≠0->kL step s0 l [d,b] k s [.int .i64 g.1,.int .i64 g.2]->K sg bs [] [] cs [] (QL j_ c ds (IL step s0 l [d,b] le u y) (l.length-k)) t' (oO (lK++A).length (oO (lK++A).length [] (.bin .lss (.var W) (.len (.var d'))) true) (.bin .eql (.var 3) (.int .i64 0)) false) (lK++A) (fM++y s (.int .i64 g.1) (.int .i64 g.2) (.int .i64 k)):=by intro k s g hle w hf hrun;exact XX)
 (T':∀(k:Nat) (p0 p1:D),k<=l.length->¬k<l.length->kL step s0 l [d,b] k s0 [p0,p1]->K sg bs [] [] cs [] (QL j_ c ds (IL step s0 l [d,b] le u y) (l.length+1-k)) s' (oO (lK++h).length [] (.bin .lss (.var P) (.len (.var c'))) false) (lK++h) (fM++u p0 p1 (.int .i64 k)):=by intro k p0 p1 E h0 hrun;exact XX)
 (W':∀(k:Nat) (s:b') (p0 p1:D),le s k->k<=l.length->¬k<l.length->kL step s0 l [d,b] k s [p0,p1]->K sg bs [] [] cs [] (QL j_ c ds (IL step s0 l [d,b] le u y) (l.length-k)) e1 (oO (lK++A).length [] (.bin .lss (.var W) (.len (.var d'))) false) (lK++A) (fM++y s p0 p1 (.int .i64 k)):=by intro k s p0 p1 hle E h0 hrun;exact XX)
 (x':k'=c.sig.dw:=by rfl) (y':RQ c.sig=true:=by kernel_rfl) (jY:cs.map (·.sig)=sg:=by rfl) (m':c.sig.own=0:=by first|rfl|kernel_rfl):
 ∃(j:Nat) (x:AX) (S':bV) (ks:G Kd) (out:G D),c.sig.outs[j]?=some (x,S',ks)/\c.fP ds j out/\aJ O out ks/\BX T Tryz.prog (fun x=>x∈dO (kU g)) c.sig (fM++ds) x S' (fM++out):=by
 have z':sk j_=h:=by
  exact apZ
 rw[z'] at l';have g':∀k:Nat,jl .geq (.int .i64 (k:Int)) (.int .i64 0)=some (.bool true):=fun k=>by
  simp only[jl];simp
 refine Te A' i'.one i'.bX i'.self i'.jC D' l' (IL step s0 l [d,b] le u y) (l.length+1) ⟨0,d,b,u',rfl,gK _,kL.start Z⟩ (fun i st m a0 F X' b0=>?_) h0 x' y' jY m'
 match i,F,X' with
 |0,F,⟨k,p0,p1,e,n',E,hrun⟩=>
  subst e n';rw[h0] at F;cases F;obtain⟨h',o'⟩:=v0 p0 p1 (.int .i64 k);refine K.B (mJ (sS h') (uq (sS o')) rfl) (fun hb=>?_) (fun hb=>T' k p0 p1 E Af hrun);have w:k<l.length:=Af;rcases hrun.DT with e'|⟨g,hf,e'⟩
  ·cases e'
   refine fO (mJ (sS (v' _ _ _)) rfl rfl) (aR ?_ (mJ (sS h') rfl (g' k)) rfl);obtain⟨row,f',a'⟩:=kZ U w;exact E' k row f' a' w hrun
  ·cases e'
   exact jo (mJ (sS (v' _ _ _)) rfl (by simp[jl,hf])) (M' k g E w hf hrun)
 |1,F,⟨k,s,p0,p1,e,n',E,p',hrun⟩=>
  subst e n';rw[L'] at F;cases F;obtain⟨h',o'⟩:=v1 s p0 p1 (.int .i64 k);refine K.B (mJ (sS h') (uq (sS o')) rfl) (fun hb=>?_) (fun hb=>W' k s p0 p1 p' E Af hrun);have w:k<l.length:=Af;rcases hrun.DT with e'|⟨g,hf,e'⟩
  ·cases e'
   refine fO (mJ (sS (w' _ _ _ _)) rfl rfl) (aR ?_ (mJ (sS h') rfl (g' k)) rfl);obtain⟨row,f',a'⟩:=kZ U w;exact F' k s row p' f' a' w hrun
  ·cases e'
   exact jo (mJ (sS (w' _ _ _ _)) rfl (by simp[jl,hf])) (P' k s g p' w hf hrun)
section
variable {sg:G bJ} {bs:G BI} {lg:G eX} {lb:G LI} {cs:G bR} {ls:G gu} {L:G (Y×aK)} {ks:G Kd} {vals:G D} {α β:Type} {s':dV Fa β} {enc':β->DA} {any':DA->Prop} {rt:RT} {la:H->aK} {i:Nat}
def Ec {u:Type} {dw:dV Fa u} {enc:u->DA} {any:DA->Prop} {s0:u} {E:G D} {F:u->G D} {ins:G Y} {ds:G D} {ik P T:G Kd} {b:LI} {k':Nat} {l' e' f':bV} {g' h':AX} {c' t1:Tree}
 (e:cZ (bP vals) ins=some ds) (m':aJ O ds ik->(lam ls i).eU ds) (i':∀f,dw=.error f->f.1≠0->s'=.error f)
 (c0:dw=.ok s0->K sg bs lg lb cs ls (QS aM s' enc' any' rt) c' (ZB ks.length ins (b.eq.getD 0 []) L (ks.length+P.length)) (ks++P) (vals++(aM++E)))
 (c1:∀y,dw=.ok y->K sg bs lg lb cs ls (QS aM s' enc' any' rt) t1 (ZB ks.length ins (b.eq.getD 1 []) L (ks.length+T.length)) (ks++T) (vals++(aM++F y)))
 (hR:∀j out,(lam ls i).fP ds j out->RL dw enc any aM s0 E F j out:=by exact fun _ _ h=>h) (J:∀a b,enc a=enc b->a=b:=by exact NJ)
 (n':lg[i]?=some ⟨g,k',l',[(g',e',P),(h',f',T)]⟩:=by rfl) (v':lb[i]?=some b:=by rfl) (j':Em la any':=by first|exact Nh|exact Ni|exact any_nil) (hc:zk O L ks ins ik=true:=by kernel_rfl)
 (q0:∀f:Fa,(b.eq.getD 0 []).map (fun x=>(dL f++E)[x.2]?)=(b.eq.getD 0 []).map fun x=>ds[x.1]?:=by exact fun _=>rfl) (q1:∀(f:Fa) (y:u),(b.eq.getD 1 []).map (fun x=>(dL f++F y)[x.2]?)=(b.eq.getD 1 []).map fun x=>ds[x.1]?:=by exact fun _ _=>rfl)
 (w:iO.bad sg bs lg lb (O4 rt la) (.cons c' (.cons t1 .nil)) [(g',e',P),(h',f',T)] ins b.eq L ks=true:=by kernel_rfl):K sg bs lg lb cs ls (QS aM s' enc' any' rt) (.bX i ins (.cons c' (.cons t1 .nil))) L ks vals:=by
 intro W a' A b' d1 d0;obtain⟨t',e1,o'⟩:=Fe (qQ d1) d0.f hc;rw[e] at e1;cases e1;refine uV e (m' o') (fun j x S' u' out l p' q=>?_);rw[Zr A n'] at l;have q':=hR j out p'
 match j,q',l with
 |0,⟨p,d',N⟩,l=>
  subst N;cases l;rcases d'.vv with⟨z,hy,rfl,hz⟩|⟨f,hy,hf,rfl,_⟩
  ·exact p9 (c0 YD W a' A b' (d1.append q) (d0.move d1 q e (q0 (0,0))))
  ·exact Xm W a' A b' hf (S_ j' hf (fun r' h=>bG.err (i' f hy hf) hf h)) w d1 d0 rfl q ⟨E,rfl⟩ e (q0 f)
 |1,⟨p,y,d',N⟩,l=>
  subst N;cases l;rcases d'.vv with⟨z,hy,rfl,hz⟩|⟨f,hy,hf,rfl,_⟩
  ·exact Eb (p9 (c1 y YD W a' A b' (d1.append q) (d0.move d1 q e (q1 (0,0) y))))
  ·exact Xm W a' A b' hf (S_ j' hf (fun r' h=>bG.err (i' f hy hf) hf h)) w d1 d0 rfl q ⟨F y,rfl⟩ e (q1 f y)
def awJ {q:Type} {dw:dV Fa q} {enc:q->DA} {any:DA->Prop} {s0:q} {F:G D} {P:q->G D} {ins:G Y} {ds:G D} {ik T W:G Kd} {e':Nat} {f' g' h':bV} {i' j':AX} {a' t1:Tree} {aY:Nat->G DA->Prop}
 (d':cZ (bP vals) ins=some ds) (k':aJ O ds ik->(lam ls i).eU ds)
 (l':∀f,dw=.error f->f.1≠0->any (enc s0)->K sg bs lg lb cs ls aY a' L (ks++T) (vals++(dL f++F)))
 (m':∀f y,dw=.error f->f.1≠0->any (enc y)->K sg bs lg lb cs ls aY t1 L (ks++W) (vals++(dL f++P y)))
 (c0:dw=.ok s0->K sg bs lg lb cs ls aY a' L (ks++T) (vals++(aM++F)))
 (c1:∀y,dw=.ok y->K sg bs lg lb cs ls aY t1 L (ks++W) (vals++(aM++P y)))
 (hR:∀j out,(lam ls i).fP ds j out->RL dw enc any aM s0 F P j out:=by exact fun _ _ h=>h) (J:∀a b,enc a=enc b->a=b:=by exact NJ)
 (n':lg[i]?=some ⟨g,e',f',[(i',g',T),(j',h',W)]⟩:=by rfl) (hc:zk O L ks ins ik=true:=by kernel_rfl):K sg bs lg lb cs ls aY (.bX i ins (.cons a' (.cons t1 .nil))) L ks vals:=by
 intro u w l A d1 d0;obtain⟨r',e1,o'⟩:=Fe (qQ d1) d0.f hc;rw[d'] at e1;cases e1;refine uV d' (k' o') (fun j x S' s' out e p' E=>?_);rw[Zr l n'] at e;have q':=hR j out p'
 match j,q',e with
 |0,⟨p,b',N⟩,e=>
  subst N;cases e;rcases b'.vv with⟨z,hy,rfl,hz⟩|⟨f,hy,hf,rfl,c'⟩
  ·exact p9 (c0 YD u w l A (d1.append E) (d0.app _))
  ·exact p9 (l' f hy hf c' u w l A (d1.append E) (d0.app _))
 |1,⟨p,y,b',N⟩,e=>
  subst N;cases e;rcases b'.vv with⟨z,hy,rfl,hz⟩|⟨f,hy,hf,rfl,c'⟩
  ·exact Eb (p9 (c1 y YD u w l A (d1.append E) (d0.app _)))
  ·exact Eb (p9 (m' f y hy hf c' u w l A (d1.append E) (d0.app _)))
def aaS {l:Type} {dw:dV Fa l} {enc:l->DA} {any:DA->Prop} {s0:l} {A:G D} {E:l->G D} {ins:G Y} {ds:G D} {ik F P:G Kd} {e' f' g':bV} {h' i':AX} {T t1:Tree} {aY:Nat->G DA->Prop} {f:Fa} (hf:f.1≠0)
 (W:cZ (bP vals) ins=some ds) (j':aJ O ds ik->(lam ls i).eU ds)
 (c0:any (enc s0)->K sg bs lg lb cs ls aY T L (ks++F) (vals++(dL f++A)))
 (c1:∀y,any (enc y)->K sg bs lg lb cs ls aY t1 L (ks++P) (vals++(dL f++E y)))
 (hR:∀j out,(lam ls i).fP ds j out->RL dw enc any (dL f) s0 A E j out:=by exact fun _ _ h=>h)
 (k':lg[i]?=some ⟨b,g,e',[(h',f',F),(i',g',P)]⟩:=by rfl) (hc:zk O L ks ins ik=true:=by kernel_rfl):K sg bs lg lb cs ls aY (.bX i ins (.cons T (.cons t1 .nil))) L ks vals:=by
 intro a' b' q c' d1 d0;obtain⟨o',e1,l'⟩:=Fe (qQ d1) d0.f hc;rw[W] at e1;cases e1;refine uV W (j' l') (fun j x S' p' out e m' d'=>?_);rw[Zr q k'] at e;have n':=hR j out m'
 match j,n',e with
 |0,⟨p,u,N⟩,e=>
  subst N;cases e;obtain⟨rfl,w⟩:=u.oq hf;exact p9 (c0 w a' b' q c' (d1.append d') (d0.app _))
 |1,⟨p,y,u,N⟩,e=>
  subst N;cases e;obtain⟨rfl,w⟩:=u.oq hf;exact Eb (p9 (c1 y w a' b' q c' (d1.append d') (d0.app _)))
end
def aNY (h:aew (.agg t)):aI t<=b+1:=by
 obtain rfl:=DA.agg.inj h;simp only[jm,ty,aI,uz,bM];omega
def EF (h:P:=by
 repeat' (first
  |(with_reducible have e:=lV hk
    obtain⟨m',rfl⟩:=e
    first
     |obtain⟨w,A,E,F,rfl,W,a'⟩:=DW hk
     |obtain⟨w,A,n',E,rfl,W,a'⟩:=gQ hk
     |obtain⟨B0,b',c',B3,d',e',f',g',h',o',rfl⟩:=nH hk
     |obtain⟨B0,b',c',B3,d',e',f',g',h',rfl⟩:=zA hk
     |obtain⟨w,F,rfl⟩:=au1 hk
    clear hk)
  |(with_reducible have e:=JM hk
    obtain⟨p',rfl⟩:=e;clear hk)
  |(with_reducible have e:=sH hk
    obtain⟨q',rfl,r',s'⟩:=e;clear hk)
  |(with_reducible have e:=FC hk
    obtain⟨i',rfl⟩:=e;clear hk)
  |(with_reducible have e:=au0 hk
    obtain⟨i',rfl⟩:=e;clear hk)
  |(with_reducible have e:=Ia hk
    obtain⟨_,_,rfl,q,u⟩:=e;clear hk)
  |(have hk:=q
    clear q)
  |(have hk:=u
    clear u)
  |(with_reducible show K _ _ _ _ _ _ _ (.fact _ _ _) _ _ _
    refine aR ?_)
  |(with_reducible show K _ _ _ _ _ _ _ (.B _ _ _) _ _ _
    first
     |refine jo (uw M oW) ?_
     |refine fO (den_nz M oW) ?_
     |refine fO M ?_
     |refine jo M ?_
     |refine au aj (fun j'=>?_) (fun j'=>?_))
  |(with_reducible show K _ _ _ _ _ _ _ (.call _ _ _ _) _ _ _
    first
     |refine awK oW M (fun k' hk l'=>?_)
     |refine aiJ M (fun k' hk=>?_))
  |(with_reducible show K _ _ _ _ _ _ _ (.bX _ _ _) _ _ _
    first
     |refine aaS oW M (fun k=>by exact⟨.inr ⟨_,by assumption,rfl⟩,k,rfl,fun l=>absurd (nD l.symm) oW,fun l=>absurd (nD l.symm) oW⟩) (fun j=>?_) (fun y j=>?_)
     |refine aaS oW M (fun k=>by exact⟨.inr ⟨_,by assumption,rfl⟩,k,rfl,fun l=>absurd (nD l.symm) oW⟩) (fun j=>?_) (fun y j=>?_)
     |refine aaS oW M (fun k=>by exact⟨.inr ⟨_,by assumption,rfl⟩,k,rfl⟩) (fun j=>?_) (fun y j=>?_))
  |(with_reducible show K _ _ _ _ _ _ _ (.leaf _ _ _) _ _ _
    first
     |exact jf M (bG.err qE oW qA)
     |exact jf M (bG.fail oW qA)))):P:=h
def EG (h:P:=by
 intro l q jA e hk j;replace jA:=nz jA;exact EF):P:=h
def EH (h:P:=by
 intro l jA e j;replace jA:=nz jA;exact EF):P:=h
def EI (h:P:=by
 intro l q jA e j;replace jA:=nz jA;exact EF):P:=h
end
end
end Go.Proofs.YtdjcfaaongngeaaGreatDoor

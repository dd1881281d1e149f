/- A part of the proof: see the last text. -/
import Derived.Test.YtdjcfaaongngeaaGreatDoorZc
set_option linter.all false
set_option maxRecDepth 100000
set_option maxHeartbeats 0
namespace Go.Proofs.YtdjcfaaongngeaaGreatDoor
noncomputable section
variable {b g i:Nat}{W:ak}{v m:av}{q:G Nat}{y:H}{u:dh}{E:G H}
section
open Go Go.RowKit
section
variable {E:Env} {X:Ctx}
structure Alike (w w':World):Prop where
 os:w'.os=w.os
 tape:w'.tape=w.tape
 output:w'.output=w.output
def Alike.refl (w:ak):Alike w w:=⟨rfl,rfl,rfl⟩
def Mp.on (ρ:Mp) (b:Nat) (l:Loc):Mp:=⟨fun x=>if x=b then some l else ρ x,ρ.fz⟩
def Mp.nS (ρ:Mp) (b:Nat) (l:Loc):ρ.on b l b=some l:=by simp[Mp.on]
def Mp.pO {ρ:Mp} {x:Nat} {l:Loc} (h:x≠b):ρ.on b l x=ρ x:=by simp[Mp.on,h]
def Mp.JH {ρ:Mp} {l:Loc} (h:ρ b=none):Ext ρ (ρ.on b l):=⟨fun x k j=>by
 by_cases e:x=b
 ·subst e;rw[h] at j;cases j
 ·rw[Mp.pO e];exact j,.refl _⟩
section
variable {base:Nat} {ρ:Mp} {s:St} {w w':ak}
def Mp.YR {ρ:Mp} {s:St} {l:Loc} (hf:ρ s.nx=none/\∀b,s.J<=b->ρ b=none) (t:St) (e:t.nx=s.nx) (h:t.J=s.J) (o:AO):(ρ.on s.nx l) (t.new o).nx=none/\∀b,(t.new o).J<=b->(ρ.on s.nx l) b=none:=by
 have key:∀b,max s.J (s.nx+1)<=b->(ρ.on s.nx l) b=none:=fun b j=>by
  rw[Mp.pO I];exact hf.2 b I
 simp only[St.new,e,h];exact⟨key _ (bq _),key⟩
def St.ag3 (s t:St) (e:t.J=s.J) (o:AO):s.J<=(t.new o).J/\((t.new o).nx=s.nx\/s.J<=(t.new o).nx):=by
 simp only[St.new,e];omega
def HR.Bv (h:HR E base ρ s w) {o:Obj} (e:ρ.fz g=some o):g<w.heap.size:=(kF.1 (h.nM g o e)).1
def HR.agm (h:HR E base ρ s w) (e:w.heap.size<=g):ρ.fz g=none:=by
 cases hf:ρ.fz g with
 |none=>rfl
 |some o=>have:=h.Bv hf;omega
def HR.uO (h:HR E base ρ s w) {o:AO} {l:Loc} (e:s.aP.get b=some o) (j:ρ b=some l):l.g<w.heap.size:=(h.at e j).lt
def HR.new (h:HR E base ρ s w) (o:AO) (m:Nat) (c':Alike w w') (i':w'.heap.size=w.heap.size+1) (F:∀g,g<w.heap.size->w'.heap[g]?=w.heap[g]?)
 (N:OR E base (ρ.on s.nx ⟨w.heap.size,0,m⟩) w' ⟨w.heap.size,0,m⟩ o):
 HR E base (ρ.on s.nx ⟨w.heap.size,0,m⟩) (s.new o) w'/\fA ρ s w (ρ.on s.nx ⟨w.heap.size,0,m⟩) (s.new o) w':=by
 have d':Ext ρ (ρ.on s.nx ⟨w.heap.size,0,m⟩):=Mp.JH (h.fresh.1);have a':∀b o',s.aP.get b=some o'->b≠s.nx:=fun b o' u e=>by
  obtain⟨l,y,_⟩:=h.pK b o' u;rw[e,h.fresh.1] at y;cases y
 refine⟨⟨fun b o' u=>?_,fun b f' g' h' l l' u b' hn e' j q=>?_,Mp.YR h.fresh s rfl rfl o,by have:=h.base;omega,fun g o' W=>(F g (h.Bv W)).trans (h.nM g o' W),fun b o' l u e' j=>?_⟩,⟨d',St.ag3 s s rfl o,c'.os,c'.tape,c'.output,by omega,fun g W _=>F g W,fun b o' l u j=>?_,fun b _ a'=>Mp.pO a',fun _ _ h=>.inl h⟩⟩
 ·rcases Tr.jc u with⟨rfl,rfl⟩|⟨y,A⟩
  ·exact⟨_,Mp.nS _ _ _,N⟩
  ·obtain⟨l,T,P⟩:=h.pK b o' A
   exact⟨l,d' _ _ T,P.mono d' (F _ P.lt)⟩
 ·rcases Tr.jc u with⟨rfl,rfl⟩|⟨y,A⟩
  ·rcases Tr.jc b' with⟨rfl,rfl⟩|⟨T,P⟩
   ·exact absurd rfl hn
   ·rw[Mp.nS] at j
    rw[Mp.pO T] at q;obtain rfl:=bI j;have:=h.uO P q;intro e;simp at e;omega
  ·rw[Mp.pO y] at j
   rcases Tr.jc b' with⟨rfl,rfl⟩|⟨T,P⟩
   ·rw[Mp.nS] at q
    obtain rfl:=bI q;have:=h.uO A j;intro e;simp at e;omega
   ·rw[Mp.pO T] at q
    exact h.apart b f' g' h' l l' A P hn e' j q
 ·rcases Tr.jc u with⟨rfl,rfl⟩|⟨y,A⟩
  ·rw[Mp.nS] at j
   obtain rfl:=bI j;exact h.agm (bq _)
  ·rw[Mp.pO y] at j
   exact h.oC b o' l A e' j
 ·rcases Tr.jc u with⟨rfl,rfl⟩|⟨y,A⟩
  ·rw[Mp.nS] at j
   obtain rfl:=bI j;exact .inl (bq _)
  ·rw[Mp.pO y] at j
   exact .inr ⟨b,o',l,A,j,rfl,id⟩
def HR.aho (h:HR E base ρ s w) (o:AO) (m:Nat) (j:Obj) (l:Alike w w') (e:w'.heap=w.heap.push j)
 (N:w'.heap[w.heap.size]?=some j->OR E base (ρ.on s.nx ⟨w.heap.size,0,m⟩) w' ⟨w.heap.size,0,m⟩ o):
 HR E base (ρ.on s.nx ⟨w.heap.size,0,m⟩) (s.new o) w'/\fA ρ s w (ρ.on s.nx ⟨w.heap.size,0,m⟩) (s.new o) w':=
 h.new o m l (by simp[e]) (fun g q=>by rw[e,awM,bB I]) (N (by rw[e];simp))
def HR.gZ (h:HR E base ρ s w) {o o':AO} {l:Loc} (a':s.aP.get b=some o) (P:ρ b=some l) (b':o.wr) (j':Alike w w') (m':w'.heap.size=w.heap.size) (T:∀g,g≠l.g->w'.heap[g]?=w.heap[g]?)
 (N:OR E base ρ w' l o'):
 HR E base ρ ⟨s.aP.set b o',s.nx,s.J⟩ w'/\fA ρ s w ρ ⟨s.aP.set b o',s.nx,s.J⟩ w':=by
 have c':∀d' q l',s.aP.get d'=some q->ρ d'=some l'->d'≠b->l'.g≠l.g:=fun d' q l' n' p' hn e=>h.apart b d' o q l l' a' n' (nJ hn) b' P p' e.symm;refine⟨⟨fun u q y=>?_,fun u q' q r' A s' y i' hn e' j W=>?_,h.fresh,by rw[m'];exact h.base,fun g q k'=>(T g fun e=>by have:=h.oC b o l a' b' P;rw[<-e,k'] at this;cases this).trans (h.nM g q k'),fun u q A y e' j=>?_⟩,⟨Ext.refl _,⟨bq _,.inl rfl⟩,j'.os,j'.tape,j'.output,by omega,fun g k' t'=>T g (nJ (t' b o l a' b' P)),fun u q A y j=>?_,fun _ _ _=>rfl,fun _ _ h=>.inl h⟩⟩
 ·rcases Tr.jc y with⟨rfl,rfl⟩|⟨f',F⟩
  ·exact⟨l,P,N⟩
  ·obtain⟨A,h',g'⟩:=h.pK u q F
   exact⟨A,h',g'.mono (Ext.refl _) (T _ (c' u q A F h' f'))⟩
 ·rcases Tr.jc y with⟨rfl,rfl⟩|⟨f',F⟩
  ·rcases Tr.jc i' with⟨rfl,rfl⟩|⟨h',g'⟩
   ·exact absurd rfl hn
   ·exact h.apart u q' o r' A s' a' g' hn b' j W
  ·rcases Tr.jc i' with⟨rfl,rfl⟩|⟨h',g'⟩
   ·rw[P] at W
    obtain rfl:=bI W;exact c' u q A F j f'
   ·exact h.apart u q' q r' A s' F g' hn e' j W
 ·rcases Tr.jc y with⟨rfl,rfl⟩|⟨f',F⟩
  ·exact h.oC u o A a' b' j
  ·exact h.oC u q A F e' j
 ·rcases Tr.jc y with⟨rfl,rfl⟩|⟨f',F⟩
  ·rw[P] at j
   obtain rfl:=bI j;exact .inr ⟨u,o,l,a',P,rfl,fun _=>b'⟩
  ·exact .inr ⟨u,q,A,F,j,rfl,id⟩
def HR.move (h:HR E base ρ s w) {o o':AO} {l l':Loc} (h':s.aP.get b=some o) (i':ρ b=some l) (j':o.wr) (s':Alike w w') (q':w.heap.size<=w'.heap.size)
 (b':∀g,g<w.heap.size->g≠l.g->w'.heap[g]?=w.heap[g]?) (y:l'.g=l.g\/w.heap.size<=l'.g) (_:base<=l'.g)
 (N:OR E base (ρ.on s.nx l') w' l' o'):
 HR E base (ρ.on s.nx l') (St.new ⟨s.aP.del b,s.nx,s.J⟩ o') w'/\fA ρ s w (ρ.on s.nx l') (St.new ⟨s.aP.del b,s.nx,s.J⟩ o') w':=by
 have t':Ext ρ (ρ.on s.nx l'):=Mp.JH (h.fresh.1);have k':∀A q u,s.aP.get A=some q->ρ A=some u->A≠b->u.g≠l.g:=fun A q u e' j hn e=>h.apart b A o q l u h' e' (nJ hn) j' i' j e.symm;have m':∀A q u,s.aP.get A=some q->ρ A=some u->A≠b->l'.g≠u.g:=fun A q u e' j hn e=>by
  rcases y with y|y
  ·exact k' A q u e' j hn I
  ·have:=h.uO e' j;omega
 refine⟨⟨fun P q F=>?_,fun P u' q v' u x' F r' hn n' j T=>?_,Mp.YR h.fresh _ rfl rfl o',fF h.base q',fun g q W=>(b' g (h.Bv W) fun e=>by have y':=h.oC b o l h' j' i';have a':ρ.fz g=some q:=W;rw[<-e,a'] at y';cases y').trans (h.nM g q W),fun P q u F n' j=>?_⟩,⟨t',St.ag3 s _ rfl o',s'.os,s'.tape,s'.output,q',fun g W z'=>b' g W (nJ (z' b o l h' j' i')),fun P q u F j=>?_,fun P _ A'=>Mp.pO A',fun _ _ h=>.inl h⟩⟩
 ·rcases Tr.jc F with⟨rfl,rfl⟩|⟨a',c'⟩
  ·exact⟨_,Mp.nS _ _ _,N⟩
  ·obtain⟨p',f'⟩:=Tr.K_ c'
   obtain⟨u,g',d'⟩:=h.pK P q f';exact⟨u,t' _ _ g',d'.mono t' (b' _ d'.lt (k' P q u f' g' p'))⟩
 ·rcases Tr.jc F with⟨rfl,rfl⟩|⟨a',c'⟩
  ·rcases Tr.jc r' with⟨rfl,rfl⟩|⟨p',f'⟩
   ·exact absurd rfl hn
   ·rw[show(ρ.on s.nx l') _=some l' from Mp.nS _ _ _] at j
    obtain rfl:=bI j;rw[Mp.pO p'] at T;obtain⟨g',d'⟩:=Tr.K_ f';exact m' u' v' x' d' T g'
  ·rw[Mp.pO a'] at j
   obtain⟨g',d'⟩:=Tr.K_ c';rcases Tr.jc r' with⟨rfl,rfl⟩|⟨p',f'⟩
   ·rw[show(ρ.on s.nx l') _=some l' from Mp.nS _ _ _] at T
    obtain rfl:=bI T;exact nJ (m' P q u d' j g')
   ·rw[Mp.pO p'] at T
    obtain⟨E',D'⟩:=Tr.K_ f';exact h.apart P u' q v' u x' d' D' hn n' j T
 ·rcases Tr.jc F with⟨rfl,rfl⟩|⟨a',c'⟩
  ·rw[show(ρ.on s.nx l') _=some l' from Mp.nS _ _ _] at j
   obtain rfl:=bI j;rcases y with y|y
   ·rw[y];exact h.oC b o l h' j' i'
   ·exact h.agm y
  ·rw[Mp.pO a'] at j
   exact h.oC P q u (Tr.K_ c').2 n' j
 ·rcases Tr.jc F with⟨rfl,rfl⟩|⟨a',c'⟩
  ·rw[show(ρ.on s.nx l') _=some l' from Mp.nS _ _ _] at j
   obtain rfl:=bI j;rcases y with y|y
   ·exact .inr ⟨b,o,l,h',i',y.symm,fun _=>j'⟩
   ·exact .inl y
  ·rw[Mp.pO a'] at j
   exact .inr ⟨P,q,u,(Tr.K_ c').2,j,rfl,id⟩
end
end
section
variable {E:Env} {X:Ctx}
structure zK (E:Env) (P:Program) (ρ:Mp):Prop where
 nG:∀g,g<P.globals.size->∃m,ρ g=some ⟨g,0,m⟩
 kE:∀g d,E.kE g=some d->∃arr T fr u,ρ.fz g=some (.cells arr T fr)/\arr[0]?=some u/\GR ρ.fz d u
structure iX (E:Env) (X:Ctx):Prop where
 facts:∀e v,(e,v)∈X.facts->den E.val e=den E.val v
 kinds:∀i k,X.vk[i]?=some k->aW X.kt (E.val i) k
 bY:∀g i,(g,i)∈X.gt->E.kE g=some (E.val i)/\∀x,E.val i≠.any x
structure jw (E:Env) (X:Ctx) (P:Program) (ρ:Mp):Prop where
 base:zK E P ρ
 ok:iX E X
def zK.mono {P:bA} {ρ j:Mp} (h:zK E P ρ) (e:Ext ρ j):zK E P j:=
 ⟨fun g l=>let ⟨m,q⟩:=h.nG g l;⟨m,e _ _ q⟩,fun g d w=>let ⟨arr,T,fr,u,y,A,F⟩:=h.kE g d w;⟨arr,T,fr,u,e.fz _ _ y,A,F.mono e.fz⟩⟩
def jw.mono {P:bA} {ρ e:Mp} (h:jw E X P ρ) (j:Ext ρ e):jw E X P e:=⟨h.base.mono j,h.ok⟩
def aCo (s:dA):bC (Tp s)=s:=by
 obtain⟨⟨l⟩⟩:=s;unfold bC Tp;simp only[Iq]
 congr 2
 exact(aw3 fun a _=>by simp[Function.comp]).trans (aa3 _)
def aGy (s:dA):∀x∈Tp s,x<256:=by
 intro x e;unfold Tp at e;rw[FQ] at e;obtain⟨c,_,rfl⟩:=e;exact c.toNat_lt
def aty {ρ:Mp} (h:Lm v=some y):VR E ρ y v:=by
 unfold Lm at h;split at h<;>first|(cases h;done)|(simp only[aG] at h;subst h)
 ·exact rfl
 ·exact rfl
 ·exact⟨by rw[aCo],aGy _⟩
 all_goals exact rfl
def ate {ρ:Mp}:∀{e:G av} {cs:G H},e.mapM Lm=some cs->fq E ρ cs e
 |[],cs,h=>by simp at h;subst h;rfl
 |x::r,cs,h=>by
  simp only[aa1,axa,Option.pure_def] at h;cases h1:Lm x with
  |none=>simp[h1] at h
  |some v=>
   cases h2:r.mapM Lm with
   |none=>simp[h1,h2] at h
   |some vs=>simp[h1,h2] at h;subst h;exact⟨x,r,rfl,aty h1,ate h2⟩
def ahb {ρ:Mp} (h:HZ v=some y):VR E ρ y v:=by
 unfold HZ at h;split at h
 ·split at h
  ·rename_i cs _ l e
   simp only[aG] at h;subst h;exact⟨cs.toList,rfl,ate e⟩
  ·cases h
 ·exact aty h
def iA {P:bA} {ρ:Mp} {tm:Tr H} {a:Act} {x:je} (hf:FR E ρ tm a.tmps) (e:jw E X P ρ) (h:rd P tm x=some y):VR E ρ y (a.eval x):=by
 cases x with
 |tmp t=>
  obtain⟨u,j,l⟩:=hf.get t y h;show VR E ρ y (a.tmps.getD t undef);rw[UA,j];exact l
 |const c=>exact ahb h
 |global g=>
  simp only[rd] at h;split at h
  ·simp only[aG] at h;subst h
   obtain⟨m,q⟩:=e.base.nG g ‹_›;exact⟨_,q,rfl⟩
  ·cases h
 |func f=>
  simp only[rd,aG] at h;subst h;exact⟨[],[],rfl,rfl,rfl⟩
def Ib {P:bA} {ρ:Mp} {tm:Tr H} {a:Act} (hf:FR E ρ tm a.tmps) (e:jw E X P ρ):∀{j:G je} {vs:G H},zB P tm j=some vs->fq E ρ vs (j.map a.eval)
 |[],_,h=>by simp[zB] at h;subst h;rfl
 |x::r,vs,h=>by
  simp only[zB] at h;cases h1:rd P tm x with
  |none=>simp[h1] at h
  |some v=>
   cases h2:zB P tm r with
   |none=>simp[h1,h2] at h
   |some us=>
    simp[h1,h2] at h;subst h;exact⟨_,_,rfl,iA hf e h1,Ib hf e h2⟩
def Good (E:Env) (P:bA) (base:Nat) (ρ:Mp) (s:St) (w:ak) (x:Sem Next):nO->Prop
 |.val v s'=>∃u e w',x.run P w=.ok (.value u) w'/\VR E e v u/\HR E base e s' w'/\fA ρ s w e s' w'
 |.skip s'=>∃e w',x.run P w=.ok .skip w'/\HR E base e s' w'/\fA ρ s w e s' w'
 |.enter f args s'=>s'=s/\∃vs,x.run P w=.ok (.enter f (List.toArray vs)) w/\fq E ρ args vs
def Good.same {P:bA} {ρ:Mp} {s:St} {x:Sem Next} {u:av} (h:HR E b ρ s W) (U:x.run P W=.ok (.value u) W) (e:VR E ρ y u):Good E P b ρ s W x (.val y s):=
 ⟨u,ρ,W,U,e,h,fA.refl h⟩
def Zz {e h:Type} (f:e->h) (x:dF e):(List.map f x.toList).toArray=x.map f:=by
 apply aaU;simp
section
variable {P:bA} {base:Nat} {ρ:Mp} {s:St} {w:ak} {tm:Tr H} {a:Act} {o:Oper} {r:nO}
def aso (x:je) (N:o.op=.move x\/o.op=.assign x) (hf:FR E ρ tm a.tmps) (j:jw E X P ρ) (h:HR E base ρ s w) (l:iI P tm s o=some r):Good E P base ρ s w (execOp a.eval o) r:=by
 have e:(rd P tm x).map (fun v=>nO.val v s)=some r:=by rcases N with N|N<;>simpa[iI,N] using l
 obtain⟨v,q,rfl⟩:=lq.1 e;refine Good.same h ?_ (iA hf j q);rcases N with N|N<;>simp[execOp,N]
def aEZ (c x y:je) (N:o.op=.pick c x y) (hf:FR E ρ tm a.tmps) (j:jw E X P ρ) (h:HR E base ρ s w) (e:iI P tm s o=some r):Good E P base ρ s w (execOp a.eval o) r:=by
 simp only[iI,N] at e;split at e
 ·rename_i hc
  obtain⟨v,l,rfl⟩:=lq.1 e;have q:a.eval c=.bool true:=iA hf j hc;exact Good.same h (by simp[execOp,N,q,asBool]) (iA hf j l)
 ·rename_i hc
  obtain⟨v,l,rfl⟩:=lq.1 e;have q:a.eval c=.bool false:=iA hf j hc;exact Good.same h (by simp[execOp,N,q,asBool]) (iA hf j l)
 ·cases e
def aEW (f:Fn) (x y:dF je) (N:o.op=.makeFunc f x y) (hf:FR E ρ tm a.tmps) (j:jw E X P ρ) (h:HR E base ρ s w) (e:iI P tm s o=some r):Good E P base ρ s w (execOp a.eval o) r:=by
 simp only[iI,N] at e;split at e
 ·rename_i us vs l q
  simp only[aG] at e;subst e;refine Good.same h (u:=.func f (x.map a.eval) (y.map a.eval)) (by simp[execOp,N,Instr.makeFunc]) ⟨x.toList.map a.eval,y.toList.map a.eval,by rw[Zz,Zz],Ib hf j l,Ib hf j q⟩
 ·cases e
def aEP (t:je) (k:Nat) (N:o.op=.extract t k) (hf:FR E ρ tm a.tmps) (j:jw E X P ρ) (h:HR E base ρ s w) (e:iI P tm s o=some r):Good E P base ρ s w (execOp a.eval o) r:=by
 simp only[iI,N] at e;split at e
 ·rename_i vs l
  obtain⟨v,q,rfl⟩:=lq.1 e;obtain⟨W,y,A⟩:=iA hf j l;obtain⟨u,F,T⟩:=A.get q;exact Good.same h (by simp[execOp,N,y,Instr.extract,F]) T
 ·cases e
end
end
section
variable {E:Env} {X:Ctx}
section
variable {P:bA} {base:Nat} {ρ:Mp} {s:St} {w:ak} {tm:Tr H} {a:Act} {o:Oper} {r:nO}
def af9 {t k d} (h:Sg P t k=some d):∃fs,P.underlying t=some (.struct fs)/\fs[k]?=some d:=by
 unfold Sg at h;split at h
 ·exact⟨_,‹_›,h⟩
 ·cases h
def awk {t n} (h:uR P t=some n):∃i,P.info? t=some i/\i.size=n:=by
 unfold uR at h;cases J:P.info? t with
 |none=>simp[J] at h
 |some i=>simp[J] at h;exact⟨i,rfl,h⟩
def LG {t d} (h:P.underlying t=some d):(isAgg t).run P w=.ok (OP d) w:=by
 unfold isAgg OP;simp only[underlying];cases d<;>simp[h]
def sI {t n} (h:uR P t=some n):(sizeOf t).run P w=.ok n w:=by
 obtain⟨i,e,j⟩:=awk h;simp[sizeOf,typeInfo,e,j]
def aER (t:dh) (x:je) (k:Nat) (N:o.op=.fieldAddr t x k) (hf:FR E ρ tm a.tmps) (j:jw E X P ρ) (h:HR E base ρ s w) (e:iI P tm s o=some r):Good E P base ρ s w (execOp a.eval o) r:=by
 simp only[iI,N] at e;split at e
 ·rename_i d b q y A
  split at e
  ·rename_i n hn
   simp only[aG] at e;subst e;obtain⟨fs,F,T⟩:=af9 y;obtain⟨l,W,a'⟩:=iA hf j A;refine Good.same h (u:=.pointer (some ⟨l.g,l.d+(q+d.offset),none⟩)) ?_ ⟨l,W,rfl⟩;simp[execOp,N,Instr.fieldAt,underlying,F,T,a',Instr.sureAddr,fieldPlace,sI hn,oH,Eh]
  ·cases e
 ·cases e
def avk {t:dh} {cs:G H} {e:G av} (A:fq E ρ cs e) (h:ZL P t cs b=some y):∃u,(part t (List.toArray e) b).run P w=.ok u w/\VR E ρ y u:=by
 unfold ZL at h;split at h
 ·rename_i d n F T
  split at h
  ·rename_i j
   split at h
   ·rename_i hle
    simp only[aG] at h;subst h;refine⟨.agg (List.toArray ((e.drop b).take n)),?_,⟨_,rfl,(A.drop b).take n⟩⟩;have l:(part t (List.toArray e) b).run P w=.ok (.agg ((List.toArray e).extract b (b+n))) w:=by
     unfold part;simp[LG F,j,sI T]
    rw[l]
    congr 2
    apply aaU;simp[List.take_drop]
   ·cases h
  ·rename_i j
   obtain⟨u,l,W⟩:=A.get h;refine⟨u,?_,W⟩;unfold part;simp[LG F,j,l]
 ·cases h
def aEQ (t:dh) (x:je) (k:Nat) (N:o.op=.field t x k) (hf:FR E ρ tm a.tmps) (j:jw E X P ρ) (h:HR E base ρ s w) (e:iI P tm s o=some r):Good E P base ρ s w (execOp a.eval o) r:=by
 simp only[iI,N] at e;split at e
 ·rename_i d cs l q
  obtain⟨v,y,rfl⟩:=lq.1 e;obtain⟨fs,A,F⟩:=af9 l;obtain⟨c',T,W⟩:=iA hf j q;obtain⟨u,a',b'⟩:=avk (P:=P) (w:=w) W y;refine Good.same h ?_ b';simp[execOp,N,Instr.field,underlying,A,F,T,asAgg,a']
 ·cases e
def avj {v:H} (h:HR E base ρ s w) (Z:VR E ρ y m) (e:s.loadVar P u y=some v):∃d' x,m=.pointer (some d')/\(loadVar u d').run P w=.ok x w/\VR E ρ v x:=by
 unfold St.loadVar at e;split at e
 ·rename_i b q
  obtain⟨l,e',h'⟩:=Z;subst h';split at e
  ·rename_i d n f' i'
   split at e
   ·rename_i W
    obtain⟨cs,a',rfl⟩:=lq.1 e;obtain⟨A,b',g',c'⟩:=h.load e' a';refine⟨_,.agg (List.toArray A),rfl,?_,⟨A,rfl,b'⟩⟩;have F:=FW (P:=P) w ⟨l.g,l.d+q,none⟩ A (fun j v j'=>by rw[oH];exact c' j v j')
    rw[g'] at F;unfold loadVar;simp[LG f',W,sI i',F]
   ·rename_i W
    split at e
    ·rename_i l' a'
     simp only[aG] at e;subst e;obtain⟨A,b',g',c'⟩:=h.load e' a';obtain⟨x,m',rfl,F,k'⟩:=b';refine⟨_,x,rfl,?_,F⟩;have T:=c' 0 x rfl;rw[qy] at T;unfold loadVar;simp[LG f',W,load,Sem.run,T]
    ·cases e
  ·cases e
 ·cases e
def aEU (t:dh) (x:je) (N:o.op=.load t x) (hf:FR E ρ tm a.tmps) (j:jw E X P ρ) (h:HR E base ρ s w) (e:iI P tm s o=some r):Good E P base ρ s w (execOp a.eval o) r:=by
 simp only[iI,N] at e;split at e
 ·rename_i p l
  obtain⟨v,q,rfl⟩:=lq.1 e;obtain⟨T,u,y,A,F⟩:=avj h (iA hf j l) q;refine Good.same h ?_ F;simp[execOp,N,Instr.loadAt,y,Instr.sureAddr,A]
 ·cases e
end
end
section
variable {E:Env} {X:Ctx}
def Cc {x:H}:∀{cs:G H} {vs:Tr H} {o j:Nat},(nN vs o cs).get j=some x->(o<=j/\cs[j-o]?=some x)\/((j<o\/o+cs.length<=j)/\vs.get j=some x)
 |[],vs,o,j,h=>by
  refine .inr ⟨?_,h⟩;simp only[lN,qy];omega
 |c::r,vs,o,j,h=>by
  simp only[nN] at h;rcases Cc (cs:=r) h with⟨l,e⟩|⟨l,e⟩
  ·refine .inl ⟨by omega,?_⟩
   have:j-o=(j-(o+1))+1:=I;rw[this,awW];exact e
  ·rcases Tr.jc e with⟨rfl,rfl⟩|⟨u,q⟩
   ·exact .inl ⟨bq _,by simp⟩
   ·refine .inr ⟨?_,q⟩
    simp only[gD];omega
def VR.cells {ρ:Mp} {v:H} {u:av} (h:VR E ρ v u):fq E ρ v.cells u.cells.toList:=by
 cases v with
 |agg cs=>obtain⟨F,rfl,w⟩:=h;simpa[H.cells,Value.cells] using w
 |tuple cs=>obtain⟨F,rfl,w⟩:=h;exact⟨_,[],rfl,⟨F,rfl,w⟩,rfl⟩
 |bool b=>rw[show u=_ from h];exact⟨_,[],rfl,rfl,rfl⟩
 |int k n=>rw[show u=_ from h];exact⟨_,[],rfl,rfl,rfl⟩
 |str l=>obtain⟨rfl,w⟩:=h;exact⟨_,[],rfl,⟨rfl,w⟩,rfl⟩
 |nilPtr=>rw[show u=_ from h];exact⟨_,[],rfl,rfl,rfl⟩
 |ptr b o=>obtain⟨c,A,rfl⟩:=h;exact⟨_,[],rfl,⟨c,A,rfl⟩,rfl⟩
 |aV=>rw[show u=_ from h];exact⟨_,[],rfl,rfl,rfl⟩
 |rF=>obtain⟨x,c,rfl⟩:=h;exact⟨_,[],rfl,⟨x,c,rfl⟩,rfl⟩
 |vT=>obtain⟨x,rfl⟩:=h;exact⟨_,[],rfl,⟨x,rfl⟩,rfl⟩
 |slice b o n c z=>obtain⟨l,cap,A,rfl,w⟩:=h;exact⟨_,[],rfl,⟨l,cap,A,rfl,w⟩,rfl⟩
 |tC=>rw[show u=_ from h];exact⟨_,[],rfl,rfl,rfl⟩
 |map b=>obtain⟨c,A,rfl⟩:=h;exact⟨_,[],rfl,⟨c,A,rfl⟩,rfl⟩
 |fn f x y=>obtain⟨F,W,rfl,w⟩:=h;exact⟨_,[],rfl,⟨F,W,rfl,w⟩,rfl⟩
 |tu=>rw[show u=_ from h];exact⟨_,[],rfl,rfl,rfl⟩
 |iface t x=>obtain⟨y,rfl,w⟩:=h;exact⟨_,[],rfl,⟨y,rfl,w⟩,rfl⟩
 |nilIface=>rw[show u=_ from h];exact⟨_,[],rfl,rfl,rfl⟩
 |wK=>obtain⟨l,rfl⟩:=h;exact⟨_,[],rfl,⟨l,rfl⟩,rfl⟩
 |S e=>
  obtain⟨d,A,w⟩:=h;have:u.cells.toList=[u]:=by rcases w.form with⟨k,n,rfl⟩|⟨b,rfl⟩|⟨l,rfl⟩|⟨a,n,c,rfl⟩<;>rfl
  rw[this];exact⟨_,[],rfl,⟨d,A,w⟩,rfl⟩
 |gy b e z=>obtain⟨l,cap,rows,A,w,rfl,P⟩:=h;exact⟨_,[],rfl,⟨l,cap,rows,A,w,rfl,P⟩,rfl⟩
 |fp a i j=>obtain⟨rows,k,n,row,arr,T,fr,g,q,A,w,P,a',rfl,b'⟩:=h;exact⟨_,[],rfl,⟨rows,k,n,row,arr,T,fr,g,q,A,w,P,a',rfl,b'⟩,rfl⟩
def VR.one {ρ:Mp} {v:H} {u:av} (h:VR E ρ v u) (w:v.one=true):u.oneCell'=true:=by
 cases v with
 |agg cs=>cases w
 |tuple cs=>cases w
 |str l=>obtain⟨rfl,_⟩:=h;rfl
 |ptr b o=>obtain⟨c,_,rfl⟩:=h;rfl
 |rF=>obtain⟨x,c,rfl⟩:=h;rfl
 |vT=>obtain⟨x,rfl⟩:=h;rfl
 |slice b o n c z=>obtain⟨l,cap,_,rfl,_⟩:=h;rfl
 |map b=>obtain⟨c,_,rfl⟩:=h;rfl
 |fn f x y=>obtain⟨F,P,rfl,_⟩:=h;rfl
 |iface t x=>obtain⟨y,rfl,_⟩:=h;rfl
 |wK=>obtain⟨l,rfl⟩:=h;rfl
 |S e=>obtain⟨d,_,A⟩:=h;rcases A.form with⟨k,n,rfl⟩|⟨b,rfl⟩|⟨l,rfl⟩|⟨a,n,c,rfl⟩<;>rfl
 |gy b e z=>obtain⟨l,cap,rows,_,_,rfl,_⟩:=h;rfl
 |fp a i j=>obtain⟨rows,k,n,row,arr,T,fr,g,q,_,_,_,_,rfl,_⟩:=h;rfl
 |_=>rw[show u=_ from h];rfl
def fq.one {ρ:Mp}:∀{eY:G H} {vs:G av},fq E ρ eY vs->eY.all H.one=true->∀u∈vs,u.oneCell'=true
 |[],_,h,_,u,e=>by rw[show _=[] from h] at e;cases e
 |a::eY,_,⟨x,y,l,q,w⟩,j,u,e=>by
  simp only[Ip,bU] at j;rw[l] at e;rcases g_.1 e with rfl|e
  ·exact q.one j.1
  ·exact w.one j.2 u e
section
variable {P:bA} {base:Nat} {ρ:Mp} {s s':St} {w:ak} {tm:Tr H} {a:Act} {o:Oper} {r:nO}
def HR.store (h:HR E base ρ s w) {b q:Nat} {cs:G H} {y:G av} {l:Loc} (e':ρ b=some l) (b':fq E ρ cs y) (u:s.store b q cs=some s'):
 ∃w',(storeCells ⟨l.g,l.d+q,none⟩ y).run P w=.ok () w'/\HR E base ρ s' w'/\fA ρ s w ρ s' w':=by
 unfold St.store at u;split at u
 ·rename_i vs n f'
  split at u
  ·rename_i hc
   obtain⟨hle,c'⟩:=hc;simp only[aG] at u;subst u;obtain⟨arr,e,fr,g',h',j',k',l'⟩:=h.at f' e';obtain⟨F,rfl⟩:=l' rfl;have h':=h' rfl;have m':=b'.length;have A:=abz (P:=P) l.g (l.d+q) e y 0 arr w g' I (b'.one c');rw[qy] at A;refine⟨_,A,h.gZ f' e' rfl ⟨rfl,rfl,rfl⟩ (by simp[World.setRow]) (fun g n'=>U3 w l.g g _ n') ⟨_,e,(0,0),abA w l.g arr _ e _ g',?_,j',fun j x o'=>?_,fun _=>⟨F,rfl⟩⟩⟩
   ·simp;omega
   ·rcases Cc o' with⟨T,d'⟩|⟨T,d'⟩
    ·obtain⟨v,W,a'⟩:=b'.get d'
     have p':j-q<y.length:=(gN.1 W).1;refine⟨by omega,v,?_,a'⟩
     rw[Ee,tV,nI gJ,oI gJ];simp only[oL,yP];rw[show l.d+j-min (l.d+q) arr.size=j-q by omega]
     exact W
    ·obtain⟨W,v,a',i'⟩:=k' j x d'
     refine⟨W,v,?_,i'⟩;rw[Ee];rcases T with T|T
     ·rw[tV,oI gJ,uX I]
      simpa using a'
     ·rw[nI gJ,P9]
      simp only[mD,oL,yP];rw[show l.d+q+y.length+(l.d+j-(min (l.d+q) arr.size+y.length))=l.d+j by omega]
      simpa using a'
  ·cases u
 ·cases u
def aE1 (t:dh) (x y:je) (N:o.op=.store t x y) (hf:FR E ρ tm a.tmps) (A:jw E X P ρ) (h:HR E base ρ s w) (j:iI P tm s o=some r):Good E P base ρ s w (execOp a.eval o) r:=by
 simp only[iI,N] at j;split at j
 ·rename_i p v T W
  obtain⟨s',e,rfl⟩:=lq.1 j;unfold St.storeVar at e;split at e
  ·rename_i b q
   obtain⟨l,a',b'⟩:=iA hf A T;split at e
   ·rename_i n hn
    split at e
    ·rename_i u
     have hc:=(iA hf A W).cells;obtain⟨w',c',d',e'⟩:=h.store (P:=P) a' hc e;refine⟨ρ,w',?_,d',e'⟩;have F:(a.eval y).cells.size=n:=by rw[<-u,<-hc.length];simp
     simp only[execOp,N,Instr.storeAt,b',Instr.sureAddr,storeVar];simp[sI hn,F,c']
    ·cases e
   ·cases e
  ·cases e
 ·cases j
def HR.cells (h:HR E base ρ s w) {cs:G H} {arr:dF av} (e:dh) (w':ak) (W:Alike w w') (u:w'.heap=w.heap.push (.cells arr e (0,0))) (A:fq E ρ cs (arr.toList.take cs.length)):
 HR E base (ρ.on s.nx ⟨w.heap.size,0,arr.size⟩) (s.cells cs) w'/\fA ρ s w (ρ.on s.nx ⟨w.heap.size,0,arr.size⟩) (s.cells cs) w':=by
 have y:=A.length;have F:arr.toList.length=arr.size:=yP;rw[oL,F] at y;have P:=A.mono (Mp.JH (l:=⟨w.heap.size,0,arr.size⟩) (h.fresh.1));refine h.new _ arr.size W (by simp[u]) (fun g c'=>by rw[u,awM,bB I]) ⟨arr,e,(0,0),by rw[u];simp,by simp,by show cs.length<=arr.size;omega,fun j x a'=>?_,fun _=>⟨h.base,rfl⟩⟩
 rcases Cc a' with⟨_,q⟩|⟨_,q⟩
 ·rw[Cn] at q
  obtain⟨v,T,b'⟩:=P.get q;refine⟨(gN.1 q).1,v,?_,b'⟩;rw[uX (gN.1 q).1] at T
  simpa using T
 ·cases q
end
end
section
variable {E:Env} {X:Ctx}
def agU {ρ:Mp}:∀{e:G av} {cs:G H},e.mapM HZ=some cs->fq E ρ cs e
 |[],cs,h=>by simp at h;subst h;rfl
 |x::r,cs,h=>by
  simp only[aa1,axa,Option.pure_def] at h;cases h1:HZ x with
  |none=>simp[h1] at h
  |some v=>
   cases h2:r.mapM HZ with
   |none=>simp[h1,h2] at h
   |some vs=>simp[h1,h2] at h;subst h;exact⟨x,r,rfl,ahb h1,agU h2⟩
def Uz {P:bA} {ρ:Mp} {cs:G H} (h:LW P u=some cs):∃i z,P.info? u=some i/\i.zero=some z/\fq E ρ cs z.cells.toList:=by
 unfold LW at h;split at h
 ·split at h
  ·exact⟨_,_,‹_›,‹_›,agU h⟩
  ·cases h
 ·cases h
def agf (off:Nat):∀(l:G av) (k:Nat) (cells:dF av),off+k+l.length<=cells.size->
 ((l.zipIdx k).foldl (fun(cs:dF av) (x:av×Nat)=>cs.setIfInBounds (off+x.2) x.1) cells).toList=cells.toList.take (off+k)++l++cells.toList.drop (off+k+l.length)
 |[],k,cells,_=>by simp
 |v::r,k,cells,h=>by
  simp only[List.zipIdx_cons,aiT,gD] at h⊢;rw[agf off r (k+1) _ gJ];have e:off+k<cells.toList.length:=gJ;simp only[UE];rw[show off+(k+1)=off+k+1 by omega,P_ (by simpa using e),aw6 (bq _),List.drop_set_of_lt I]
  simp[tV,Eh,ai0 1]
def aga {ρ:Mp} {place:Nat->ah (Nat×Nat)}:∀{ks:G Nat} {vs:G H} {us:G av} {cs e:G H} {arr:dF av},fq E ρ vs us->fq E ρ cs arr.toList->KZ place cs (ks.zip vs)=some e->
 ∃arr',Instr.fill place arr (ks.zip us)=some arr'/\fq E ρ e arr'.toList
 |[],vs,us,cs,e,arr,_,hc,h=>by simp[KZ] at h;subst h;exact⟨arr,by simp[Instr.fill],hc⟩
 |k::ks,[],us,cs,e,arr,w,hc,h=>by
  rw[show us=[] from w]
  simp[KZ] at h;subst h;exact⟨arr,by simp[Instr.fill],hc⟩
 |k::ks,v::vs,us,cs,e,arr,w,hc,h=>by
  obtain⟨u,W,rfl,A,F⟩:=w;simp only[List.zip_cons_cons,KZ] at h;cases Z:place k with
  |none=>simp[Z] at h
  |some x=>
   obtain⟨q,n⟩:=x;simp only[Z] at h;split at h
   ·rename_i hn
    have j:=A.cells;have l:=j.length;have a':=hc.length;unfold over at h
    by_cases hle:q+v.cells.length<=cs.length
    ·rw[bK hle] at h
     have b':u.cells.size=n:=by rw[<-hn,<-l];simp
     have y:q+u.cells.size<=arr.size:=by
      have:arr.toList.length=arr.size:=yP;omega
     have hf:=agf q u.cells.toList 0 arr (by simpa using y)
     obtain⟨arr',P,T⟩:=aga (ks:=ks) (arr:=(u.cells.toList.zipIdx.foldl (fun(cs:dF av) (x:av×Nat)=>cs.setIfInBounds (q+x.2) x.1) arr)) F (by
      rw[hf,qy,l];exact((hc.take q).append j).append (hc.drop _)) h
     refine⟨arr',?_,T⟩;simp only[List.zip_cons_cons,Instr.fill,Z];rw[bB gJ,<-P]
     congr 1
     rw[<-Array.foldl_toList];simp
    ·rw[bB hle] at h;cases h
   ·cases h
section
variable {P:bA} {base:Nat} {ρ:Mp} {s s':St} {w:ak} {tm:Tr H} {a:Act} {o:Oper} {r:nO}
def aEI (e:dh) (N:o.op=.alloc e) (h:HR E base ρ s w) (j:iI P tm s o=some r):Good E P base ρ s w (execOp a.eval o) r:=by
 simp only[iI,N] at j;split at j
 ·rename_i cs q
  simp only[aG] at j;subst j;obtain⟨i,z,u,y,l⟩:=Uz (E:=E) (ρ:=ρ) q;have hn:=h.cells (cs:=cs) (arr:=z.cells) e (w.alloc (.cells z.cells e)) ⟨rfl,rfl,rfl⟩ rfl (by rw[<-l.length,FU];exact l)
  refine⟨.pointer (some ⟨w.heap.size,0,none⟩),_,_,?_,⟨_,Mp.nS _ _ _,rfl⟩,hn.1,hn.2⟩;simp[execOp,N,Instr.alloc,zeroValue,typeInfo,u,y,newVar,newRow,newObj,Sem.run]
 ·cases j
def aEL (e:dh) (x:je) (N:o.op=.box e x) (hf:FR E ρ tm a.tmps) (q:jw E X P ρ) (h:HR E base ρ s w) (j:iI P tm s o=some r):Good E P base ρ s w (execOp a.eval o) r:=by
 simp only[iI,N] at j;obtain⟨v,u,rfl⟩:=lq.1 j;have l:=(iA hf q u).cells;have hn:=h.cells (cs:=v.cells) (arr:=(a.eval x).cells) e (w.alloc (.cells (a.eval x).cells e)) ⟨rfl,rfl,rfl⟩ rfl (by rw[<-l.length,FU];exact l)
 refine⟨.pointer (some ⟨w.heap.size,0,none⟩),_,_,?_,⟨_,Mp.nS _ _ _,rfl⟩,hn.1,hn.2⟩;simp[execOp,N,Instr.box,newVar,newRow,newObj,Sem.run]
def aiI (a:Act):∀(l:G (Nat×je)),(l.map fun(i,x)=>(i,a.eval x))=(l.map (·.1)).zip ((l.map (·.2)).map a.eval)
 |[]=>rfl
 |x::r=>by simp[aiI a r]
def aEM (t:dh) (parts:dF (Nat×je)) (N:o.op=.build t parts) (hf:FR E ρ tm a.tmps) (y:jw E X P ρ) (h:HR E base ρ s w) (l:iI P tm s o=some r):Good E P base ρ s w (execOp a.eval o) r:=by
 simp only[iI,N] at l;split at l
 ·rename_i cs place vs A j F
  obtain⟨e',T,rfl⟩:=lq.1 l;obtain⟨i,z,W,q,a'⟩:=Uz (E:=E) (ρ:=ρ) A;obtain⟨arr,b',c'⟩:=aga (Ib hf y F) a' T;have d':P.built t ((parts.map fun(i,x)=>(i,a.eval x)).toList)=some arr:=by
   rw[Array.toList_map,aiI,<-b'];unfold atH at j;unfold Program.built;rw[W];cases hu:P.underlying t with
   |none=>simp[hu] at j
   |some d=>
    cases d<;>simp only[hu] at j<;>try(cases j;done)
    case array n e=>
     cases J:P.info? e with
     |none=>simp[J] at j
     |some f'=>simp only[J,aG] at j;subst j;simp[q,J]
    case struct fs=>
     cases Z:fs.toList.mapM (fun f=>(P.info? f.type).map fun i=>(f.offset,i.size)) with
     |none=>simp[Z] at j
     |some ps=>simp only[Z,aG] at j;subst j;simp[q,Z]
  refine Good.same h (u:=.agg arr) ?_ ⟨arr.toList,by simp,c'⟩
  simp only[execOp,N];have:=run_build w t _ arr d';simp[this]
 ·cases l
end
end
section
variable {E:Env} {X:Ctx}
def avc (zero:dF av) (n:Nat) (hn:zero.size=n):∀len,(((Array.range (len*n)).map fun i=>zero[i%n]!).toList)=List.flatten (List.replicate len zero.toList)
 |0=>by simp
 |len+1=>by
  have h:=avc zero n hn len;rw[aw5,List.flatten_append,<-h];simp only[Array.toList_map,Array.toList_range,LZ,List.flatten_nil,Ci];rw[Iw,List.range_add,aa2,Iq]
  congr 1
  apply List.ext_getElem?;intro i
  by_cases J:i<n
  ·have e:i<zero.size:=by omega
   rw[AQ,aw0 J];simp[Function.comp,Nat.mod_eq_of_lt J,e,Nat.add_mod,Nat.mul_mod_left]
  ·rw[awY gJ,awY gJ]
def fq.flat {ρ:Mp} {z:G H} {e:G av} (h:fq E ρ z e):∀n,fq E ρ (List.flatten (List.replicate n z)) (List.flatten (List.replicate n e))
 |0=>by simp[fq]
 |n+1=>by simp only[List.replicate_succ,LZ];exact h.append (h.flat n)
def Yh {P:bA} {e:dh} (h:RO P u=some e):P.underlying u=some (.slice e):=by
 unfold RO at h;split at h
 ·simp only[aG] at h;subst h;assumption
 ·cases h
section
variable {P:bA} {base:Nat} {ρ:Mp} {s s':St} {w:ak} {tm:Tr H} {a:Act} {o:Oper} {r:nO}
def aEN (t:dh) (len:Nat) (parts:dF (Nat×je)) (N:o.op=.buildSlice t len parts) (hf:FR E ρ tm a.tmps) (p':jw E X P ρ) (h:HR E base ρ s w) (j:iI P tm s o=some r):Good E P base ρ s w (execOp a.eval o) r:=by
 simp only[iI,N] at j;split at j
 ·cases j
 ·rename_i e F
  have g':=Yh F;split at j
  ·rename_i z n vs q' d' r'
   split at j
   ·rename_i hc
    obtain⟨h',hle,x'⟩:=hc;split at j
    ·rename_i cs s'
     simp only[aG] at j;subst j;obtain⟨i,W,i',t',j'⟩:=Uz (E:=E) (ρ:=ρ) q';obtain⟨y',u',z'⟩:=awk d';obtain rfl:=bI (i'.symm.trans u');have b':W.cells.size=n:=by rw[<-h',<-j'.length];simp
     have e':fq E ρ (List.flatten (List.replicate len z)) (((Array.range (len*n)).map fun i=>W.cells[i%n]!).toList):=by
      rw[avc W.cells n b' len];exact j'.flat len
     obtain⟨arr,y,T⟩:=aga (Ib hf p' r') e' s';have v':cs.length=arr.size:=by rw[<-T.length];simp
     have hn:=h.cells (cs:=cs) (arr:=arr) e (w.alloc (.cells arr e)) ⟨rfl,rfl,rfl⟩ rfl (by rw[<-T.length,FU];exact T)
     have k':arr.size=len*n:=by
      have l':∀(place:Nat->ah (Nat×Nat)) (l:G (Nat×av)) (c c':dF av),Instr.fill place c l=some c'->c'.size=c.size:=by
       intro place l
       induction l with
       |nil=>intro c c' u;simp[Instr.fill] at u;rw[u]
       |cons x l w'=>
        intro c c' u;obtain⟨k,v⟩:=x;simp only[Instr.fill] at u;cases Z:place k with
        |none=>simp[Z] at u
        |some q=>
         obtain⟨q1,q2⟩:=q;simp only[Z] at u;split at u
         ·cases u
         ·rename_i a'
          rw[w' _ _ u];have m':q1+v.cells.size<=c.size:=by simp at a';omega
          have:=iE List.length (agf q1 v.cells.toList 0 c (by simpa using m'))
          rw[<-Array.foldl_toList];simp only[Array.toList_zipIdx];rw[<-yP,this];simp;omega
      rw[l' _ _ _ _ y];simp
     refine⟨.slice (some ⟨w.heap.size,0,none⟩) len len,_,_,?_,⟨_,len,Mp.nS _ _ _,rfl,bq _,bq _,by unfold maxLen;omega,by rw[k'];simp⟩,hn.1,hn.2⟩
     have f':¬16777216<len*n:=I;have A:(parts.toList.map fun x=>(x.1,a.eval x.2))=(parts.toList.map (·.1)).zip ((parts.toList.map (·.2)).map a.eval):=aiI a parts.toList
     simp only[execOp,N,Instr.buildSlice]
     by_cases F:len*n=0
     ·have n':((Array.range (len*n)).map fun i=>W.cells[i%n]!)=#[]:=by rw[F];simp
      have o':(Array.map (fun x=>(default:av)) (Array.range 0))=#[]:=bS;rw[n',<-A] at y;simp[underlying,g',sI d',F,o',y,newRow,newObj,Sem.run]
     ·rw[<-A] at y
      simp[underlying,g',sI d',F,f',zeroValue,typeInfo,i',t',b',y,newRow,newObj,Sem.run]
    ·cases j
   ·cases j
  ·cases j
end
end
section
variable {E:Env} {X:Ctx}
section
variable {P:bA} {base:Nat} {ρ:Mp} {s s':St} {w:ak} {tm:Tr H} {a:Act} {o:Oper} {r:nO}
def aEX (t:dh) (x:ah je) (N:o.op=.makeMap t x) (hf:FR E ρ tm a.tmps) (q:jw E X P ρ) (h:HR E base ρ s w) (j:iI P tm s o=some r):Good E P base ρ s w (execOp a.eval o) r:=by
 have l:(x=none\/∃y,x=some y/\(∃k n,a.eval y=.int k n)/\∃k e,P.underlying t=some (.map k e))/\r=.val (.map s.nx) (s.new (.map [])):=by
  simp only[iI,N] at j;split at j
  ·simp only[aG] at j
   exact⟨.inl rfl,j.symm⟩
  ·split at j
   ·rename_i y k n k' u A F
    simp only[aG] at j;exact⟨.inr ⟨_,rfl,⟨_,_,iA hf q A⟩,_,_,F⟩,j.symm⟩
   ·cases j
 obtain⟨l,rfl⟩:=l;have hn:=h.aho (.map []) 0 (.map #[] 0) (w':=w.alloc (.map #[] 0)) ⟨rfl,rfl,rfl⟩ rfl fun T=>⟨h.base,#[],0,T,rfl⟩;refine⟨.map (some w.heap.size),_,_,?_,⟨_,Mp.nS _ _ _,rfl⟩,hn.1,hn.2⟩;rcases l with rfl|⟨y,rfl,⟨k,n,W⟩,k',u,a'⟩
 ·simp[execOp,N,Instr.makeMap,newObj,Sem.run]
 ·simp[execOp,N,Instr.makeMap,newObj,Sem.run,W,underlying,a',asInt,asIntOf]
def yt (l:G Nat):(bC l).size=l.length:=by simp[bC,ByteArray.size]
def aoQ (l:G Nat) (i:Nat) (J:i<(bC l).size):(bC l)[i]=UInt8.ofNat (l[i]'(by rw[yt] at J;exact J)):=by
 show(bC l).data[i]=_;simp[bC]
def aEY (x:je) (N:o.op=.nilCheck x) (hf:FR E ρ tm a.tmps) (c':jw E X P ρ) (h:HR E base ρ s w) (F:iI P tm s o=some r):Good E P base ρ s w (execOp a.eval o) r:=by
 simp only[iI,N] at F;split at F
 ·cases F
 ·cases F
 ·cases F
 ·cases F
 ·cases F
 ·cases F
 ·rename_i f p q T
  simp only[aG] at F;subst F;have A:=iA hf c' T;obtain⟨f',g',W,a'⟩:=A;exact Good.same h (by simp[execOp,N,W]) ⟨f',g',rfl,a'⟩
 ·cases F
 ·rename_i v T W a' d' b' e' j' h' i'
  simp only[aG] at F;subst F;have A:=iA hf c' i';refine Good.same h ?_ A;cases v with
  |nilPtr=>exact(T rfl).elim
  |nilIface=>exact(W rfl).elim
  |tu=>exact(a' rfl).elim
  |wK=>exact(d' rfl).elim
  |S i=>exact(b' _ rfl).elim
  |gy i e z=>exact(e' _ _ _ rfl).elim
  |fp a i j=>obtain⟨_,_,_,_,_,_,_,_,_,_,_,_,_,u,_⟩:=A;simp[execOp,N,u]
  |fn f p q=>exact(h' _ _ _ rfl).elim
  |str l=>obtain⟨u,_⟩:=A;simp[execOp,N,u]
  |ptr b q=>obtain⟨c,_,u⟩:=A;simp[execOp,N,u]
  |rF=>obtain⟨c,_,u⟩:=A;simp[execOp,N,u]
  |vT=>obtain⟨c,u⟩:=A;simp[execOp,N,u]
  |slice b q n c z=>obtain⟨l,cap,_,u,_⟩:=A;simp[execOp,N,u]
  |map b=>obtain⟨c,_,u⟩:=A;simp[execOp,N,u]
  |iface t y=>obtain⟨c,u,_⟩:=A;simp[execOp,N,u]
  |agg cs=>obtain⟨c,u,_⟩:=A;simp[execOp,N,u]
  |tuple cs=>obtain⟨c,u,_⟩:=A;simp[execOp,N,u]
  |_=>rw[VR] at A;simp[execOp,N,A]
 ·cases F
def aFd (u:UnOp) (t:dh) (x:je) (N:o.op=.unOp u t x) (hf:FR E ρ tm a.tmps) (q:jw E X P ρ) (h:HR E base ρ s w) (e:iI P tm s o=some r):Good E P base ρ s w (execOp a.eval o) r:=by
 simp only[iI,N] at e;split at e
 ·rename_i k n j
  simp only[aG] at e;subst e;have l:a.eval x=_:=iA hf q j;exact Good.same h (u:=.int k (k.wrap (0-n))) (by simp[execOp,N,l,Op.unary,Op.intArith]) rfl
 ·rename_i b j
  simp only[aG] at e;subst e;have l:a.eval x=_:=iA hf q j;exact Good.same h (u:=.bool (!b)) (by simp[execOp,N,l,Op.unary]) rfl
 ·cases e
end
end
section
variable {E:Env} {X:Ctx}
section
variable {P:bA} {base:Nat} {ρ:Mp} {s s':St} {w:ak} {tm:Tr H} {a:Act} {o:Oper} {r:nO}
def aET (t:dh) (x y:je) (N:o.op=.indexAddr t x y) (hf:FR E ρ tm a.tmps) (b':jw E X P ρ) (h:HR E base ρ s w) (A:iI P tm s o=some r):Good E P base ρ s w (execOp a.eval o) r:=by
 simp only[iI,N] at A;split at A
 ·rename_i j v e' k c' f' g'
  have J:a.eval y=.int e' (k:Int):=iA hf b' g';have d':=iA hf b' f';split at A
  ·rename_i n e b q
   split at A
   ·rename_i F
    obtain⟨z,T,rfl⟩:=lq.1 A;obtain⟨c,W,a'⟩:=d';refine Good.same h (u:=.pointer (some ⟨c.g,c.d+(q+k*z),none⟩)) ?_ ⟨c,W,rfl⟩;simp[execOp,N,Instr.indexAt,J,asIntOf,underlying,c',a',Instr.sureAddr,F,sI T,oH,Eh]
   ·cases A
  ·rename_i e b q n c z
   split at A
   ·rename_i hc
    obtain⟨F,T⟩:=hc;simp only[aG] at A;subst A;obtain⟨l,cap,W,a',_⟩:=d';refine Good.same h (u:=.pointer (some ⟨l.g,l.d+(q+k*z),none⟩)) ?_ ⟨l,W,rfl⟩;simp[execOp,N,Instr.indexAt,J,asIntOf,underlying,c',a',F,sI T,oH,Eh]
   ·cases A
  ·cases A
 ·cases A
def aES (t:dh) (x y:je) (N:o.op=.index t x y) (hf:FR E ρ tm a.tmps) (b':jw E X P ρ) (h:HR E base ρ s w) (q:iI P tm s o=some r):Good E P base ρ s w (execOp a.eval o) r:=by
 simp only[iI,N] at q;split at q
 ·rename_i j v c' k d' g' h'
  have J:a.eval y=.int c' (k:Int):=iA hf b' h';have e':=iA hf b' g';split at q
  ·rename_i n e cs
   split at q
   ·rename_i i'
    split at q
    ·rename_i z j'
     obtain⟨v,F,rfl⟩:=lq.1 q;obtain⟨n',T,W⟩:=e';obtain⟨u,k',l'⟩:=avk (P:=P) (w:=w) W F;refine Good.same h ?_ l';simp[execOp,N,Instr.index,J,asIntOf,underlying,d',T,i',sI j',k']
    ·cases q
   ·cases q
  ·rename_i l
   split at q
   rotate_left
   ·cases q
   rename_i c F;simp only[aG] at q;subst q;obtain⟨T,W⟩:=e';obtain⟨A,f'⟩:=gN.1 F;have m':k<(bC l).size:=by rw[yt];exact A
   have a':((bC l)[k]' m').toNat=c:=by
    rw[aoQ,f'];have:=W c (f'▸zG A);simp;omega
   refine Good.same h (u:=.int .u8 c) ?_ rfl;have U:=run_index_string (P:=P) w t (bC l) c' k d';rw[dif_pos ⟨by omega,by omega⟩] at U
   simp only[aiN,a'] at U;simp[execOp,N,J,T,U]
  ·cases q
 ·cases q
def CV {x:ah je} (hf:FR E ρ tm a.tmps) (e:jw E X P ρ) (h:bound P x tm b=some g):(x.map a.eval=none/\g=b)\/∃k,x.map a.eval=some (.int k (g:Int)):=by
 unfold bound at h;cases x with
 |none=>simp at h;exact .inl ⟨rfl,h.symm⟩
 |some y=>
  simp only at h;split at h
  ·rename_i v j
   unfold atp at h;split at h
   ·rename_i k m
    simp only[aG] at h;subst h;have l:a.eval y=_:=iA hf e j;exact .inr ⟨k,by simp[l]⟩
   ·cases h
  ·cases h
def Pq (e:aK) {len cap:Nat} {lo J:ah av} (u:(J=none/\g=len)\/∃k,J=some (.int k (g:Int))) (y:(lo=none/\b=0)\/∃k,lo=some (.int k (b:Int))) (h:b<=g) (j:g<=cap):
 (Instr.sliceBounds e len cap lo J none).run P w=.ok (b,g,cap) w:=by
 rcases u with⟨rfl,rfl⟩|⟨k,rfl⟩<;>rcases y with⟨rfl,rfl⟩|⟨k',rfl⟩
 ·simp[Instr.sliceBounds]
 ·simp[Instr.sliceBounds,U1,h]
 ·simp[Instr.sliceBounds,U1,j]
 ·simp[Instr.sliceBounds,U1,h,j]
def aM4 (e:aK) {len cap:Nat} {lo J:ah av} {k:tQ} (u:∃k,J=some (.int k (g:Int))) (y:(lo=none/\b=0)\/∃k,lo=some (.int k (b:Int))) (A:b<=g) (h:g<=i) (j:i<=cap):
 (Instr.sliceBounds e len cap lo J (some (.int k (i:Int)))).run P w=.ok (b,g,i) w:=by
 obtain⟨E,rfl⟩:=u;rcases y with⟨rfl,rfl⟩|⟨k',rfl⟩
 ·simp[Instr.sliceBounds,U1,h,j]
 ·simp[Instr.sliceBounds,U1,A,h,j]
def aeM (l:G Nat) (i j:Nat):(bC l).extract i j=bC ((l.take j).drop i):=by
 apply ByteArray.ext;rw[awQ];apply aaU;simp[bC,List.drop_take,List.map_drop,List.map_take]
def aE0 (t:dh) (x:je) (lo J q':ah je) (N:o.op=.slice t x lo J q') (hf:FR E ρ tm a.tmps) (A:jw E X P ρ) (h:HR E base ρ s w) (j:iI P tm s o=some r):Good E P base ρ s w (execOp a.eval o) r:=by
 simp only[iI,N] at j;split at j
 ·rename_i l T a'
  obtain⟨b',f'⟩:=iA hf A a';split at j
  ·rename_i q c'
   split at j
   ·rename_i k d'
    split at j
    ·rename_i hc
     simp only[aG] at j;subst j;have F:=Pq (P:=P) (w:=w) false (cap:=(bC l).size) (CV hf A c') (CV hf A d') hc.1 (by rw[yt];exact hc.2)
     refine Good.same h (u:=.string (bC ((l.take q).drop k))) ?_ ⟨rfl,fun y r'=>f' y (J3 (AY r'))⟩;rw[yt] at F;simp[execOp,N,Instr.sliceAt,Instr.slice,underlying,T,b',yt,F,aeM]
    ·cases j
   ·cases j
  ·cases j
 ·rename_i e b q n c z T a'
  obtain⟨l,cap,b',f',s',t',u',v'⟩:=iA hf A a';split at j
  ·rename_i W
   split at j
   ·rename_i g' c'
    split at j
    ·rename_i k d'
     split at j
     ·rename_i hc
      have F:=Pq (P:=P) (w:=w) true (len:=n) (cap:=cap) (CV hf A c') (CV hf A d') hc.1 I;split at j
      ·rename_i e'
       simp only[aG] at j;subst j;have h':cap≠k:=I;refine Good.same h (u:=.slice (some ⟨l.g,l.d+(q+k*z),none⟩) (g'-k) (cap-k)) ?_ ⟨l,cap-k,b',rfl,by omega,by omega,by omega,?_⟩
       ·simp[execOp,N,Instr.sliceAt,Instr.slice,underlying,T,f',F,sI W,h',oH,Eh]
       ·rw[Nat.sub_mul]
        have:k*z<=cap*z:=Cm _ I;omega
      ·simp only[aG] at j
       subst j;have e':g'=k:=I;refine Good.same h (u:=.slice (if cap=k then some ⟨l.g,l.d+q,none⟩ else some ⟨l.g,l.d+(q+k*z),none⟩) 0 (cap-k)) ?_ ⟨_,_,rfl⟩
       simp[execOp,N,Instr.sliceAt,Instr.slice,underlying,T,f',F,sI W,oH,Eh,e']
     ·cases j
    ·cases j
   ·cases j
  ·cases j
 ·rename_i y e b q n c z T a'
  obtain⟨l,cap,b',f',s',t',u',v'⟩:=iA hf A a';split at j
  ·rename_i W
   obtain⟨W,l'⟩:=W;split at j
   ·rename_i g' m c' j'
    split at j
    ·rename_i k d'
     split at j
     ·rename_i hc
      obtain⟨m',n',x'⟩:=hc;obtain⟨hn,_⟩|⟨o',j'⟩:=CV hf A j'
      ·simp at hn
      have i':a.eval y=.int o' (m:Int):=by simpa using j'
      have w':(∃k,J.map a.eval=some (.int k (g':Int))):=by
       rcases CV hf A c' with⟨k',y'⟩|k'
       ·cases J with
        |none=>simp at l'
        |some _=>simp at k'
       ·exact k'
      have F:=aM4 (P:=P) (w:=w) true (len:=n) (cap:=cap) (k:=o') w' (CV hf A d') m' n' I;split at j
      ·rename_i e'
       simp only[aG] at j;subst j;have h':m≠k:=I;refine Good.same h (u:=.slice (some ⟨l.g,l.d+(q+k*z),none⟩) (g'-k) (m-k)) ?_ ⟨l,m-k,b',rfl,by omega,by omega,by omega,?_⟩
       ·simp[execOp,N,Instr.sliceAt,Instr.slice,underlying,T,f',i',F,sI W,h',oH,Eh]
       ·rw[Nat.sub_mul]
        have:k*z<=m*z:=Cm _ I;have:m*z<=cap*z:=Cm _ I;omega
      ·simp only[aG] at j
       subst j;have e':g'=k/\m=k:=I;obtain⟨rfl,rfl⟩:=e';refine Good.same h (u:=.slice (some ⟨l.g,l.d+q,none⟩) 0 0) ?_ ⟨_,_,rfl⟩;simp[execOp,N,Instr.sliceAt,Instr.slice,underlying,T,f',i',F,sI W,oH,Eh]
     ·cases j
    ·cases j
   ·cases j
  ·cases j
 ·rename_i e T a'
  have b':a.eval x=_:=iA hf A a';split at j
  ·rename_i z W c' d'
   simp only[aG] at j;subst j;have F:=Pq (P:=P) (w:=w) true (len:=0) (cap:=0) (CV hf A c') (CV hf A d') (bq _) (bq _);refine Good.same h (u:=.slice none 0 0) ?_ rfl;simp[execOp,N,Instr.sliceAt,Instr.slice,underlying,T,b',F,sI W]
  ·cases j
 ·rename_i e T a'
  obtain⟨p',cap,b'⟩:=iA hf A a';split at j
  ·rename_i z W c' d'
   simp only[aG] at j;subst j;have F:=Pq (P:=P) (w:=w) true (len:=0) (cap:=cap) (CV hf A c') (CV hf A d') (bq _) (gK _);refine Good.same h (u:=.slice (if cap=0 then p' else p'.map (·.add 0)) 0 cap) ?_ ⟨_,_,rfl⟩
   simp[execOp,N,Instr.sliceAt,Instr.slice,underlying,T,b',F,sI W]
  ·cases j
 ·cases j
end
end
section
variable {E:Env} {X:Ctx}
section
variable {P:bA} {base:Nat} {ρ:Mp} {s s':St} {w:ak} {tm:Tr H} {a:Act} {o:Oper} {r:nO}
structure Eqs (P:Program) (w:World) (t:TypeId) (u v:Value) (b:Bool):Prop where
 eql:(binOp .eql t u v).run P w=.ok (.bool b) w
 neq:(binOp .neq t u v).run P w=.ok (.bool (!b)) w
 guard:∀op X fB,u≠.nilIface\/v≠.nilIface->(eqGuard op t X fB u v).run P w=.ok () w
def agx {op:BinOp} {X fB:je} (e:m≠.nilIface\/v≠.nilIface) (h:∀c,m≠.agg c):(eqGuard op u X fB m v).run P w=.ok () w:=by
 have key:∀(x y:Sem Unit),(match m,v with|.nilIface,.nilIface=>x|.agg _,.agg _=>y|_,_=>pure ()).run P w=.ok () w:=by
  intro x y;split
  ·rcases e with e|e<;>exact(e rfl).elim
  ·exact(h _ rfl).elim
  ·simp
 cases op<;>first|exact key _ _|rfl
def Eqs.of {b:aK} (e:(Op.equal u m v).run P w=.ok b w) (j:∀c,m≠.agg c)
 (l:binOp .eql u m v=do pure (.bool (<-Op.equal u m v))) (q:binOp .neq u m v=do pure (.bool (!(<-Op.equal u m v)))):Eqs P w u m v b:=
 ⟨by rw[l];simp[e],by rw[q];simp[e],fun _ _ _ h=>agx h j⟩
def NT {b:aK} (e:∀d,(Op.equalIn (d+1) u m v).run P w=.ok b w):(Op.equal u m v).run P w=.ok b w:=e 9999
def aDo {t:dh} {x:H} {u v:av} {b:aK} (h:NS P t x y=some b) (hx:VR E ρ x u) (hy:VR E ρ y v):Eqs P w t u v b:=by
 unfold NS at h;split at h
 ·exact NW
 ·exact NW
 ·split at h
  ·rename_i hu
   simp only[aG] at h;subst h;obtain⟨c,_,rfl⟩:=hy;exact aqu
  ·cases h
 ·exact arN
 ·exact NW
 ·split at h
  ·rename_i hu
   simp only[aG] at h;subst h;obtain⟨c,_,_,rfl,_⟩:=hx;exact RZ
  ·cases h
 ·exact NW
 ·exact arN
 ·exact NW
 ·split at h
  ·rename_i hu
   simp only[aG] at h;subst h;obtain⟨_,_,rfl,_⟩:=hx;exact RZ
  ·cases h
 ·split at h
  ·rename_i hu
   simp only[aG] at h;subst h;obtain⟨_,rfl,_⟩:=hy;exact aqu
  ·cases h
 ·split at h
  ·rename_i hu
   simp only[aG] at h;subst h;obtain⟨_,rfl,_⟩:=hx;exact RZ
  ·cases h
 ·exact NW
 ·cases h
def CW (l:G Nat):(bC l).toList=l.map UInt8.ofNat:=by
 unfold bC;exact ByteArray.toList_mk _
def ofNat_inj (e:g<256) (j:b<256):(UInt8.ofNat g=UInt8.ofNat b)↔g=b:=by
 constructor
 ·intro h
  have:=iE UInt8.toNat h;simp at this;omega
 ·rintro rfl;rfl
def agW:∀{x y:G Nat},(∀c∈x,c<256)->(∀c∈y,c<256)->(x.map UInt8.ofNat=y.map UInt8.ofNat↔x=y)
 |[],[],_,_=>by simp
 |[],_::_,_,_=>by simp
 |_::_,[],_,_=>by simp
 |a::x,b::y,e,h=>by
  simp only[AU,nV];rw[ofNat_inj (e a bS) (h b bS),agW (fun c hc=>e c (by simp[hc])) (fun c hc=>h c (by simp[hc]))]
def as4:∀{x y:G Nat},(∀c∈x,c<256)->(∀c∈y,c<256)->Op.bytesLess (x.map UInt8.ofNat) (y.map UInt8.ofNat)=uN x y
 |[],[],_,_=>by simp[Op.bytesLess,uN]
 |[],_::_,_,_=>by simp[Op.bytesLess,uN]
 |_::_,[],_,_=>by simp[Op.bytesLess,uN]
 |a::x,b::y,e,h=>by
  have j:=e a bS;have l:=h b bS;have q:(UInt8.ofNat a<UInt8.ofNat b)↔a<b:=by
   rw[UInt8.lt_iff_toNat_lt];simp;omega
  have u:(UInt8.ofNat a==UInt8.ofNat b)=(a==b):=by
   rw[AP];simp only[xU];exact ofNat_inj j l
  simp only[AU,Op.bytesLess,uN,u,q,as4 (x:=x) (y:=y) (fun c hc=>e c (by simp[hc])) (fun c hc=>h c (by simp[hc]))]
def aBZ {t:dh} {op:BinOp} {k k':tQ} {n m:Int} {v:H} (h:nP P t op (.int k n) (.int k' m)=some v):∃u,(binOp op t (.int k n) (.int k' m)).run P w=.ok u w/\VR E ρ v u:=by
 have q:∀{x:H},(if m=0 then none else some x)=some v->m≠0/\x=v:=by
  intro x l;split at l
  ·cases l
  ·exact⟨‹_›,bI l⟩
 cases op
 case shl=>
  simp only[nP] at h;split at h
  ·rename_i j
   simp only[aG] at h;subst h;exact⟨.int k (k.wrap (n*2^(min m.toNat k.bits))),by simp[binOp,Op.shift,Int.not_lt.2 j],rfl⟩
  ·cases h
 case shr=>
  simp only[nP] at h;split at h
  ·rename_i j
   simp only[aG] at h;subst h;exact⟨.int k (n.fdiv (2^(min m.toNat k.bits))),by simp[binOp,Op.shift,Int.not_lt.2 j],rfl⟩
  ·cases h
 case add=>
  simp only[nP] at h;split at h
  ·rename_i e
   subst e;simp only[aG] at h;subst h;exact⟨.int k (k.wrap (n+m)),by simp[binOp,Op.intArith],rfl⟩
  ·cases h
 case sub=>
  simp only[nP] at h;split at h
  ·rename_i e
   subst e;simp only[aG] at h;subst h;exact⟨.int k (k.wrap (n-m)),by simp[binOp,Op.intArith],rfl⟩
  ·cases h
 case mul=>
  simp only[nP] at h;split at h
  ·rename_i e
   subst e;simp only[aG] at h;subst h;exact⟨.int k (k.wrap (n*m)),by simp[binOp,Op.intArith],rfl⟩
  ·cases h
 case quo=>
  simp only[nP] at h;split at h
  ·rename_i e
   subst e;obtain⟨j,rfl⟩:=q h;exact⟨.int k (k.wrap (n.tdiv m)),by simp[binOp,Op.intDiv,j],rfl⟩
  ·cases h
 case rem=>
  simp only[nP] at h;split at h
  ·rename_i e
   subst e;obtain⟨j,rfl⟩:=q h;exact⟨.int k (n.tmod m),by simp[binOp,Op.intDiv,j],rfl⟩
  ·cases h
 case eql=>
  simp only[nP] at h;split at h
  ·rename_i e
   subst e;simp only[aG] at h;subst h;exact⟨.bool (n==m),by simp[binOp,Op.intCmp],rfl⟩
  ·cases h
 case neq=>
  simp only[nP] at h;split at h
  ·rename_i e
   subst e;simp only[aG] at h;subst h;exact⟨.bool (n !=m),by simp[binOp,Op.intCmp],rfl⟩
  ·cases h
 case lss=>
  simp only[nP] at h;split at h
  ·rename_i e
   subst e;simp only[aG] at h;subst h;exact⟨.bool (decide (n<m)),by simp[binOp,Op.intCmp],rfl⟩
  ·cases h
 case leq=>
  simp only[nP] at h;split at h
  ·rename_i e
   subst e;simp only[aG] at h;subst h;exact⟨.bool (decide (n<=m)),by simp[binOp,Op.intCmp],rfl⟩
  ·cases h
 case gtr=>
  simp only[nP] at h;split at h
  ·rename_i e
   subst e;simp only[aG] at h;subst h;exact⟨.bool (decide (m<n)),by simp[binOp,Op.intCmp],rfl⟩
  ·cases h
 case geq=>
  simp only[nP] at h;split at h
  ·rename_i e
   subst e;simp only[aG] at h;subst h;exact⟨.bool (decide (m<=n)),by simp[binOp,Op.intCmp],rfl⟩
  ·cases h
 all_goals
  simp only[nP] at h;split at h<;>cases h
def aB0 {t:dh} {op:BinOp} {y:G Nat} {v:H} (j:∀c∈q,c<256) (l:∀c∈y,c<256) (h:nP P t op (.str q) (.str y)=some v):∃u,(binOp op t (.string (bC q)) (.string (bC y))).run P w=.ok u w/\VR E ρ v u:=by
 have heq:((bC q).toList==(bC y).toList)=(q==y):=by
  rw[AP];simp only[xU,CW];exact agW j l
 have e:Op.bytesLess (bC q).toList (bC y).toList=uN q y:=by rw[CW,CW,as4 j l]
 cases op
 case add=>
  simp only[nP] at h;split at h
  ·rename_i F
   simp only[aG] at h;subst h;refine⟨.string (bC (q++y)),?_,rfl,fun c hc=>(qV.1 hc).elim (j c) (l c)⟩;have A:bC q++bC y=bC (q++y):=by
    apply ByteArray.ext;rw[ByteArray.data_append];simp[bC]
   have hn:¬((((bC q).size+(bC y).size:Nat):Int)>IntKind.i64.max):=by
    rw[yt,yt];have:IntKind.i64.max=9223372036854775807:=jK;omega
   simp only[binOp,Op.stringOp,A,bB hn]
   rfl
  ·cases h
 case eql=>simp only[nP,aG] at h;subst h;exact⟨.bool (q==y),by simp only[binOp,Op.stringOp,heq];rfl,rfl⟩
 case neq=>simp only[nP,aG] at h;subst h;exact⟨.bool (!(q==y)),by simp only[binOp,Op.stringOp,heq];rfl,rfl⟩
 case lss=>simp only[nP,aG] at h;subst h;exact⟨.bool (uN q y),by simp only[binOp,Op.stringOp,e];rfl,rfl⟩
 case leq=>simp only[nP,aG] at h;subst h;exact⟨.bool (uN q y||q==y),by simp only[binOp,Op.stringOp,e,heq];rfl,rfl⟩
 case gtr=>simp only[nP,aG] at h;subst h;exact⟨.bool (!(uN q y||q==y)),by simp only[binOp,Op.stringOp,e,heq];rfl,rfl⟩
 case geq=>simp only[nP,aG] at h;subst h;exact⟨.bool (!uN q y),by simp only[binOp,Op.stringOp,e];rfl,rfl⟩
 all_goals cases h
def aBY {op:BinOp} {x:H} {v:H} (j:∀k n k' m,x=.int k n->y=.int k' m->False) (q:∀l m,x=.str l->y=.str m->False) (h:nP P u op x y=some v):
 ∃b,NS P u x y=some b/\((op=.eql/\v=.bool b)\/(op=.neq/\v=.bool (!b))):=by
 unfold nP at h;split at h
 ·exact(j _ _ _ _ rfl rfl).elim
 ·exact(q _ _ rfl rfl).elim
 ·split at h
  ·obtain⟨b,e,rfl⟩:=lq.1 h
   exact⟨b,e,.inl ⟨rfl,rfl⟩⟩
  ·obtain⟨b,e,rfl⟩:=lq.1 h
   exact⟨b,e,.inr ⟨rfl,rfl⟩⟩
  ·cases h
def ah0 {t:dh} {op:BinOp} {X fB:je} {x v:H} {j q:av} (T:VR E ρ x j) (W:VR E ρ y q) (hn:j≠.nilIface\/q≠.nilIface\/(Lc X||Lc fB)=true) (h:nP P t op x y=some v):
 ∃u,((eqGuard op t X fB j q).run P w=.ok () w)/\(binOp op t j q).run P w=.ok u w/\VR E ρ v u:=by
 by_cases e':∃k n k' m,x=.int k n/\y=.int k' m
 ·obtain⟨k,n,k',m,rfl,rfl⟩:=e'
  obtain⟨u,F,a'⟩:=aBZ (P:=P) (ρ:=ρ) (w:=w) h;rw[show j=_ from T,show q=_ from W]
  exact⟨u,agx (.inl bS) bS,F,a'⟩
 ·by_cases F:∃l m,x=.str l/\y=.str m
  ·obtain⟨l,m,rfl,rfl⟩:=F
   obtain⟨rfl,b'⟩:=T;obtain⟨rfl,h'⟩:=W;obtain⟨u,i',j'⟩:=aB0 (P:=P) (ρ:=ρ) (w:=w) b' h' h;exact⟨u,agx (.inl bS) bS,i',j'⟩
  ·obtain⟨b,a',b'⟩:=aBY (fun k n k' m e c'=>e' ⟨k,n,k',m,e,c'⟩) (fun l m e c'=>F ⟨l,m,e,c'⟩) h
   have d':=aDo (w:=w) a' T W;have f':(eqGuard op t X fB j q).run P w=.ok () w:=by
    by_cases A:j≠.nilIface\/q≠.nilIface
    ·exact d'.guard _ _ _ A
    ·have e1:j=.nilIface:=Classical.not_not.1 fun e=>A (.inl e)
     have g':q=.nilIface:=Classical.not_not.1 fun e=>A (.inr e);have hc:(Lc X||Lc fB)=true:=by
      rcases hn with hn|hn|hn
      ·exact(hn e1).elim
      ·exact(hn g').elim
      ·exact hn
     rw[e1,g'];cases X<;>cases fB<;>simp[Lc] at hc<;>cases op<;>rfl
   rcases b' with⟨rfl,rfl⟩|⟨rfl,rfl⟩
   ·exact⟨_,f',d'.eql,rfl⟩
   ·exact⟨_,f',d'.neq,rfl⟩
def VR.atr {x:H} (h:VR E ρ x .nilIface):x=.nilIface:=by
 cases x with
 |nilIface=>rfl
 |str l=>obtain⟨h,_⟩:=h;cases h
 |ptr b o=>obtain⟨_,_,h⟩:=h;cases h
 |rF=>obtain⟨_,_,h⟩:=h;cases h
 |vT=>obtain⟨_,h⟩:=h;cases h
 |wK=>obtain⟨_,h⟩:=h;cases h
 |slice b o n c z=>obtain⟨_,_,_,h,_⟩:=h;cases h
 |map b=>obtain⟨_,_,h⟩:=h;cases h
 |fn f x y=>obtain⟨_,_,h,_⟩:=h;cases h
 |iface t y=>obtain⟨_,h,_⟩:=h;cases h
 |agg cs=>obtain⟨_,h,_⟩:=h;cases h
 |tuple cs=>obtain⟨_,h,_⟩:=h;cases h
 |S e=>obtain⟨d,_,h⟩:=h;rcases h.form with⟨_,_,h⟩|⟨_,h⟩|⟨_,h⟩|⟨_,_,_,h⟩<;>cases h
 |gy b e z=>obtain⟨_,_,_,_,_,h,_⟩:=h;cases h
 |fp a i j=>obtain⟨_,_,_,_,_,_,_,_,_,_,_,_,_,h,_⟩:=h;cases h
 |_=>rw[VR] at h;cases h
def aEK (op:BinOp) (t c':dh) (x y:je) (N:o.op=.binOp op t x y c') (hf:FR E ρ tm a.tmps) (j:jw E X P ρ) (h:HR E base ρ s w) (e:iI P tm s o=some r):Good E P base ρ s w (execOp a.eval o) r:=by
 simp only[iI,N] at e;split at e
 ·rename_i l A
  split at e
  ·rename_i hc
   obtain⟨v,F,rfl⟩:=lq.1 e;obtain⟨u,T,W,a'⟩:=ah0 (P:=P) (w:=w) (iA hf j l) (iA hf j A) (.inr (.inr hc)) F;exact Good.same h (by simp[execOp,N,T,W]) a'
  ·cases e
 ·rename_i p q d' l A
  obtain⟨v,F,rfl⟩:=lq.1 e;have Z:=iA hf j l;have b':=iA hf j A;obtain⟨u,T,W,a'⟩:=ah0 (P:=P) (w:=w) (X:=x) (fB:=y) Z b' (by
   by_cases e1:a.eval x=.nilIface
   ·refine .inr (.inl fun e'=>?_)
    rw[e1] at Z;rw[e'] at b';exact d' Z.atr b'.atr
   ·exact .inl e1) F
  exact Good.same h (by simp[execOp,N,T,W]) a'
 ·cases e
end
end
section
variable {E:Env} {X:Ctx}
end
end
section
open Go
def findF:G (Y×Y)->Y->ah Y
 |[],_=>none
 |(a,v)::r,e=>if Y.same a e then some v else findF r e
def Di:G (Y×Y)->Y->ah Y
 |[],_=>none
 |(a,v)::r,e=>match a,v with
  |.bin .eql x (.str l),.bool true=>if Y.same x e then some (.str l) else Di r e
  |.bin .eql x (.int k n),.bool true=>if Y.same x e then some (.int k n) else Di r e
  |_,_=>Di r e
def DN (X:Ctx) (e:Y):Y:=match findF X.facts e with
 |some v=>v
 |none=>match e with
  |.bin .eql x (.str l)=>match Di X.facts x with
   |some (.str l')=>.bool (l'==l)
   |_=>e
  |.bin .eql x (.int k n)=>match Di X.facts x with
   |some (.int k' h)=>if k'=k then .bool (h==n) else e
   |_=>e
  |.len x=>match Di X.facts (.len x) with
   |some (.int k n)=>.int k n
   |_=>e
  |_=>e
def vM (X:Ctx) (e:Y):Y:=match e with
 |.not x=>match DN X x with
  |.bool b=>.bool (!b)
  |_=>DN X e
 |.bin .geq a b=>match DN X e with
  |.bool c=>.bool c
  |_=>match DN X (.bin .lss a b) with
   |.bool c=>.bool (!c)
   |_=>e
 |.bin .lss a b=>match DN X e with
  |.bool c=>.bool c
  |_=>match DN X (.bin .geq a b) with
   |.bool c=>.bool (!c)
   |_=>e
 |.len (.sub a (.int .i64 (.ofNat lo)) (.int .i64 (.ofNat J)))=>match DN X (.len a) with
  |.int .i64 (.ofNat n)=>if lo<=J/\J<=n then .int .i64 (J-lo:Nat) else e
  |_=>DN X e
 |_=>DN X e
def aeC:Y->H
 |.int k n=>.int k n
 |.bool b=>.bool b
 |.str l=>.str l
 |e=>.S e
def xL (X:Ctx) (e:Y):H:=aeC (vM X e)
def zD:H->ah Y
 |.int k n=>some (.int k n)
 |.bool b=>some (.bool b)
 |.str l=>some (.str l)
 |.S e=>some e
 |.aV=>some .d9
 |.vT=>some .d9
 |_=>none
def Ii:G H->ah (G Y)
 |[]=>some []
 |v::r=>match zD v,Ii r with
  |some e,some es=>some (e::es)
  |_,_=>none
def asR:Y->aK
 |.bool true=>true
 |_=>false
def holds (X:Ctx) (e:Y):aK:=asR (vM X e)
def pI (X:Ctx) (e:Y):ah Kd:=mM X.vk X.kt e
def isInt:ah Kd->aK
 |some (.int _)=>true
 |_=>false
def nzS:Y->aK
 |.int _ n=>!decide (n=0)
 |_=>false
def aeI (P:bA) (t:dh) (op:BinOp) (e:Y):ah Kd->ah Kd->aK
 |some (.int k),some (.int k')=>decide (k=k')&&(match op with
  |.add|.sub|.mul|.eql|.neq|.lss|.leq|.gtr|.geq=>true
  |.quo|.rem=>nzS e
  |_=>false)
 |some .str,some .str=>match op with
  |.eql|.neq|.lss|.leq|.gtr|.geq=>true
  |_=>false
 |some .bool,some .bool=>match op,P.underlying t with
  |.eql,some .bool|.neq,some .bool=>true
  |_,_=>false
 |_,_=>false
def Pe (X:Ctx):Y->aK
 |.int _ (.ofNat _)=>true
 |e=>holds X (.bin .geq e (.int .i64 0))
def Dc (X:Ctx) (op:BinOp) (a b:Y):aK:=match op,a,b with
 |.lss,.int _ n,.int _ m=>decide (n<m)
 |.leq,.int _ n,.int _ m=>decide (n<=m)
 |op,a,b=>holds X (.bin op a b)
def Zi (X:Ctx) (a i:Y):aK:=Pe X i&&Dc X .lss i (vM X (.len a))
def afa (X:Ctx) (a i:Y):Nat->Nat->G H
 |_,0=>[]
 |j,n+1=>xL X (.cell a i j)::afa X a i (j+1) n
def Ja (P:bA) (X:Ctx) (v:ah je) (tm:Tr H) (h:Y):ah Y:=match v with
 |none=>some h
 |some x=>match rd P tm x with
  |some v=>match zD v with
   |some e=>if isInt (pI X e) then some e else none
   |none=>none
  |none=>none
def OY (X:Ctx) (e:Y):G (H×H)->Nat->ah (ah (Nat×H))
 |[],_=>some none
 |(k',v)::r,i=>match k' with
  |.str l=>match vM X (.bin .eql e (.str l)) with
   |.bool true=>some (some (i,v))
   |.bool false=>OY X e r (i+1)
   |_=>none
  |.int k n=>match vM X (.bin .eql e (.int k n)) with
   |.bool true=>some (some (i,v))
   |.bool false=>OY X e r (i+1)
   |_=>none
  |_=>none
def agJ (P:bA) (t:dh):ah Kd->aK
 |some (.int _)=>match P.underlying t with
  |some (.int _)=>true
  |_=>false
 |some .str=>match P.underlying t with
  |some .string=>true
  |_=>false
 |_=>false
def BM (z:Nat):Nat->G Y->Y->Y
 |0,_,acc=>acc
 |n+1,cs,acc=>BM z n (cs.drop z) (.snoc acc (cs.take z))
def St.del (s:St) (b:Nat):St:=⟨s.aP.del b,s.nx,s.J⟩
def sF:Y->ah Nat
 |.d9=>some 0
 |.snoc a _=>match sF a with
  |some n=>some (n+1)
  |none=>none
 |_=>none
def roA (s:St):H->ah Y
 |.gy b e z=>match s.aP.get b with
  |some (.row h j)=>if z=h/\Y.same e j=true then some e else none
  |_=>none
 |.slice b 0 n _ z=>match s.aP.get b with
  |some (.row h e)=>if z=h/\sF e=some n then some e else none
  |_=>none
 |v=>zD v
def St.aar (s:St) (b z:Nat) (e:Y):St:=⟨s.aP.set b (.row z e),s.nx,s.J⟩
def YS (s:St) (v:H):ah (Y×St):=match roA s v with
 |some e=>some (e,s)
 |none=>match v with
  |.gy b e z=>match s.aP.get b with
   |some (.seq h j)=>if z=h/\Y.same e j=true then some (e,s.aar b z e) else none
   |_=>none
  |.slice b 0 n _ z=>match s.aP.get b,s.load b 0 (n*z) with
   |some (.cells false _ _),some cs=>match Ii cs with
    |some es=>some (BM z n es .d9,s.aar b z (BM z n es .d9))
    |none=>none
   |_,_=>none
  |_=>none
def Ox (s:St):G H->ah (G Y×St)
 |[]=>some ([],s)
 |v::r=>match YS s v with
  |some (e,h)=>match Ox h r with
   |some (es,j)=>some (e::es,j)
   |none=>none
  |none=>none
def LB (X:Ctx) (e:Y):ah Nat:=match pI X e with
 |some (.R T)=>some (X.kt.getD T []).length
 |_=>none
def aic (X:Ctx) (s:St) (z:Nat):H->ah (Y×St)
 |.S e=>if LB X e=some z then some (e,s) else none
 |.gy b e h=>match s.aP.get b with
  |some (.seq j l)=>if h=z/\j=z/\Y.same e l=true then some (e,s) else none
  |_=>none
 |.slice b o n _ h=>if h=z then(match s.load b o (n*z) with
  |some cs=>match Ox s cs with
   |some (es,q)=>some (BM z n es .d9,q)
   |none=>none
  |none=>none) else none
 |_=>none
def Da (a:Y):Y->Y
 |.d9=>a
 |.snoc b r=>.snoc (Da a b) r
 |b=>.cat a b
def agd (X:Ctx) (e:Y):aK:=match sF e with
 |some n=>decide (n<=1000000)
 |none=>holds X (.bin .leq (.len e) (.int .i64 1000000))
def Uk (X:Ctx) (e:Y):aK:=match sF e with
 |some n=>decide (0<n)
 |none=>holds X (.bin .gtr (.len e) (.int .i64 0))
def afC (X:Ctx) (s:St) (z:Nat) (j:Y):H->ah (Y×St)
 |.aV=>if Uk X j then some (.d9,s) else none
 |.vT=>if Uk X j then some (.d9,s) else none
 |.gy b e h=>match s.aP.get b with
  |some (.seq l q)=>if h=z/\l=z/\Y.same e q=true then some (e,s.del b) else none
  |_=>none
 |.slice b 0 n _ h=>if h=z then(match s.aP.get b,s.load b 0 (n*z) with
  |some (.cells false _ _),some cs=>match Ii cs with
   |some es=>some (BM z n es .d9,s.del b)
   |none=>none
  |_,_=>none) else none
 |_=>none
def aey (X:Ctx) (P:bA) (s:St) (t u:dh) (x y:H):ah (H×St):=
 match RO P t,P.underlying u with
 |some e,some (.slice _)=>match P.info? e,LW P e with
  |some i,some l=>if l.length=i.size/\i.bytes<=1000 then(match aic X s i.size y with
   |some (h,q)=>match afC X q i.size h x with
    |some (ex,j)=>if agd X (Da ex h) then some (.gy j.nx (Da ex h) i.size,j.new (.seq i.size (Da ex h))) else none
    |none=>none
   |none=>none) else none
  |_,_=>none
 |_,_=>none
def agN (X:Ctx) (P:bA) (t:dh) (v:H):ah Y:=match P.underlying t,v with
 |some .string,.S e=>if pI X e=some .str then some (.len e) else none
 |some (.slice _),.S e=>if(LB X e).isSome then some (.len e) else none
 |some (.slice _),.gy _ e _=>some (.len e)
 |_,_=>none
def atj (X:Ctx) (a b:H):ah H:=match zD a,zD b with
 |some e1,some e=>match pI X e1,pI X e with
  |some (.int k),some (.int k')=>if k=k' then(match vM X (.bin .lss e1 e) with
   |.bool true=>some b
   |.bool false=>some a
   |_=>none) else none
  |_,_=>none
 |_,_=>none
def Ll (X:Ctx):ah H->ah H
 |some (.S e)=>some (xL X e)
 |r=>r
def nC (X:Ctx) (P:bA) (tm:Tr H) (s:St) (o:Oper):ah nO:=
 match o.op with
 |.binOp op t x y _=>match rd P tm x,rd P tm y with
  |some a,some b=>match zD a,zD b with
   |some e1,some w=>if aeI P t op w (pI X e1) (pI X w) then some (.val (xL X (.bin op e1 w)) s) else none
   |_,_=>none
  |_,_=>none
 |.pick c x y=>match rd P tm c with
  |some (.S e)=>match xL X e with
   |.bool true=>(rd P tm x).map (.val · s)
   |.bool false=>(rd P tm y).map (.val · s)
   |_=>none
  |_=>none
 |.unOp op _ x=>match op,rd P tm x with
  |.neg,some (.S e)=>if isInt (pI X e) then some (.val (xL X (.neg e)) s) else none
  |.not,some (.S e)=>if pI X e=some .bool then some (.val (xL X (.not e)) s) else none
  |_,_=>none
 |.convert F T x=>match P.underlying F,P.underlying T,rd P tm x with
  |some _,some (.int k),some (.S e)=>if isInt (pI X e) then some (.val (xL X (.conv k e)) s) else none
  |some _,some .string,some (.S e)=>if pI X e=some .str then some (.val (.S e) s) else none
  |_,_,_=>none
 |.load t p=>match rd P tm p with
  |some (.fp a i j)=>match P.underlying t,uR P t,LB X a with
   |some d,some n,some z=>if j+n<=z then(if OP d then some (.val (.agg (afa X a i j n)) s) else if n=1 then some (.val (xL X (.cell a i j)) s) else none) else none
   |_,_,_=>none
  |some (.ptr g 0)=>match P.underlying t,s.aP.get g,X.gt.find? (fun p=>p.1==g) with
   |some d,none,some (_,i)=>if OP d=false/\g<P.globals.size then some (.val (xL X (.var i)) s) else none
   |_,_,_=>none
  |_=>none
 |.fieldAddr t x f=>match Sg P t f,rd P tm x with
  |some d,some (.fp a i j)=>match uR P d.type with
   |some (_+1)=>some (.val (.fp a i (j+d.offset)) s)
   |_=>none
  |_,_=>none
 |.indexAddr t x i=>match P.underlying t,rd P tm x,rd P tm i with
  |some (.slice e),some (.S a),some A=>match zD A,LB X a,uR P e with
   |some q,some z,some E=>if z=E/\isInt (pI X q)=true/\Zi X a q=true then some (.val (.fp a q 0) s) else none
   |_,_,_=>none
  |_,_,_=>none
 |.index t x i=>match P.underlying t,rd P tm x,rd P tm i with
  |some .string,some a',some A=>match zD a',zD A with
   |some a,some q=>if pI X a=some .str/\isInt (pI X q)=true/\Zi X a q=true then some (.val (xL X (.byte a q)) s) else none
   |_,_=>none
  |_,_,_=>none
 |.slice t x lo J b'=>match b',P.underlying t,rd P tm x with
  |none,some (.slice e),some (.S a)=>match uR P e,LB X a,Ja P X J tm (vM X (.len a)),Ja P X lo tm (.int .i64 0) with
   |some z,some E,some h,some l=>if z=E/\Pe X l=true/\Dc X .leq l h=true/\Dc X .leq h (vM X (.len a))=true then some (.val (xL X (.sub a l h)) s) else none
   |_,_,_,_=>none
  |none,some .string,some (.S a)=>match Ja P X J tm (vM X (.len a)),Ja P X lo tm (.int .i64 0) with
   |some h,some l=>if pI X a=some .str/\Pe X l=true/\Dc X .leq l h=true/\Dc X .leq h (vM X (.len a))=true then some (.val (xL X (.sub a l h)) s) else none
   |_,_=>none
  |_,_,_=>none
 |.lookup t m k ok=>match P.underlying t,rd P tm m,rd P tm k with
  |some (.map kt e),some v,some (.S W)=>if agJ P kt (pI X W) then(match s.entries v,zeroV P e with
   |some es,some z=>match OY X W es 0 with
    |some (some (_,v))=>some (.val (if ok then .tuple [v,.bool true] else v) s)
    |some none=>some (.val (if ok then .tuple [z,.bool false] else z) s)
    |none=>none
   |_,_=>none) else none
  |_,_,_=>none
 |.call c=>match c.callee with
  |.builtin .len=>match c.argTypes.toList,zB P tm c.args.toList with
   |t::_,some [v]=>match agN X P t v with
    |some e=>some (.val (xL X e) s)
    |none=>none
   |_,_=>none
  |.builtin .append=>match c.argTypes.toList,zB P tm c.args.toList with
   |[t,u],some [x,y]=>match aey X P s t u x y with
    |some (v,s')=>some (.val v s')
    |none=>none
   |_,_=>none
  |.builtin .max=>match zB P tm c.args.toList with
   |some [x,y]=>match atj X x y with
    |some v=>some (.val v s)
    |none=>none
   |_=>none
  |_=>none
 |_=>none
def rH (X:Ctx) (P:bA) (tm:Tr H) (s:St) (o:Oper):ah nO:=match iI P tm s o with
 |some r=>some r
 |none=>nC X P tm s o
mutual
def H.same:H->H->aK
 |.bool a,.bool b=>a==b
 |.int k a,.int j b=>decide (k=j)&&decide (a=b)
 |.str a,.str b=>a==b
 |.nilPtr,.nilPtr=>true
 |.ptr a b,.ptr c d=>a==c&&b==d
 |.aV,.aV=>true
 |.rF,.rF=>true
 |.vT,.vT=>true
 |.slice a b c d e,.slice q h c' w l=>a==q&&b==h&&c==c'&&d==w&&e==l
 |.tC,.tC=>true
 |.map a,.map b=>a==b
 |.S a,.S b=>Y.same a b
 |.gy b e z,.gy h l y=>b==h&&z==y&&Y.same e l
 |.fp a i j,.fp b A j'=>j==j'&&Y.same i A&&Y.same a b
 |.tu,.tu=>true
 |.fn (.func f) a b,.fn (.func g) c d=>f==g&&H.sJ a c&&H.sJ b d
 |.nilIface,.nilIface=>true
 |.iface t a,.iface u b=>t==u&&H.same a b
 |.agg eY,.agg bs=>H.sJ eY bs
 |.tuple eY,.tuple bs=>H.sJ eY bs
 |_,_=>false
def H.sJ:G H->G H->aK
 |[],[]=>true
 |a::eY,b::bs=>H.same a b&&H.sJ eY bs
 |_,_=>false
end
inductive AX where
 |normal
 |exit (id:Nat)
 |ret
 deriving DecidableEq
inductive lC where
 |code (c:Code) (nt:Nat) (tm:Tr H) (s:St)
 |call (f:FuncId) (args:List H) (s:St)
inductive gV where
 |code (x:AX) (tm:Tr H) (s:St)
 |call (v:H) (s:St)
def H8 (nt:Nat) (tm:Tr H) (d:ah Nat) (v:H):ah (Tr H):=match d with
 |some t=>if t<nt then some (tm.set t v) else none
 |none=>some tm
def Cb (X:Ctx) (ops:G Oper) (tm:Tr H) (o:Oper):ah aK:=match o.guard with
 |none=>some true
 |some (j,e)=>match ops[j]? with
  |some p=>match p.dst with
   |some d=>match Ll X (tm.get d) with
    |some (.bool b)=>some (b==e)
    |some (.tuple [])=>some false
    |_=>none
   |none=>none
  |none=>none
def yJ (X:Ctx) (P:bA) (self:lC->ah gV) (tm:Tr H) (s:St) (o:Oper):ah (H×St):=match rH X P tm s o with
 |some (.val v s')=>some (v,s')
 |some (.skip s')=>some (.tuple [],s')
 |some (.enter f args s')=>match self (.call f args s') with
  |some (.call v e)=>some (v,e)
  |_=>none
 |none=>none
def LD (X:Ctx) (P:bA) (self:lC->ah gV) (ops:G Oper) (nt:Nat) (l:G Oper):Tr H->St->ah (Tr H×St):=
 List.rec (motive:=fun _=>Tr H->St->ah (Tr H×St)) (fun tm s=>some (tm,s)) (fun o _ e tm s=>match Cb X ops tm o with
  |some true=>match yJ X P self tm s o with
   |some (v,s')=>match H8 nt tm o.dst v with
    |some tm'=>e tm' s'
    |none=>none
   |none=>none
  |some false=>match H8 nt tm o.dst (.tuple []) with
   |some tm'=>e tm' s
   |none=>none
  |none=>none) l
def aM2 (X:Ctx) (P:bA) (self:lC->ah gV) (ops:G Oper) (nt:Nat) (tm:Tr H) (s:St):LD X P self ops nt [] tm s=some (tm,s):=rfl
def aM1 (X:Ctx) (P:bA) (self:lC->ah gV) (ops:G Oper) (nt:Nat) (o:Oper) (rest:G Oper) (tm:Tr H) (s:St):LD X P self ops nt (o::rest) tm s=(match Cb X ops tm o with
 |some true=>match yJ X P self tm s o with
  |some (v,s')=>match H8 nt tm o.dst v with
   |some tm'=>LD X P self ops nt rest tm' s'
   |none=>none
  |none=>none
 |some false=>match H8 nt tm o.dst (.tuple []) with
  |some tm'=>LD X P self ops nt rest tm' s
  |none=>none
 |none=>none):=rfl
inductive RK where
 |skip
 |pure
 |read
 |alloc (b:AO)
 |put (b:Nat) (o0 o1:AO)
 |chain (aD:St)
structure Rec where
 tm:Tr H
 v:H
 k:RK
def OT (P:bA):Op->aK
 |.move _|.assign _|.pick ..|.build ..|.nilCheck _|.binOp ..|.unOp ..|.makeInterface ..|.makeFunc ..|.slice ..|.fieldAddr ..|.field ..|.indexAddr ..|.index ..|.typeAssert ..|.extract ..=>true
 |.convert e h _=>match P.underlying e,P.underlying h with
  |some (.slice _),_=>false
  |some _,some (.slice _)=>false
  |some _,some _=>true
  |_,_=>false
 |.call c=>match c.callee with
  |.builtin .max=>true
  |.builtin .min=>true
  |.builtin .len=>match c.argTypes.toList with
   |t::_=>match P.underlying t with
    |some (.map _ _)=>false
    |some _=>true
    |none=>false
   |[]=>false
  |_=>false
 |_=>false
def OQ (P:bA):Op->aK
 |.alloc _|.box ..|.buildSlice ..|.makeMap ..|.makeSlice ..|.range ..=>true
 |.convert e h _=>match P.underlying e,P.underlying h with
  |some .string,some (.slice _)=>true
  |_,_=>false
 |_=>false
def GJ (P:bA):Op->aK
 |.load ..|.lookup ..=>true
 |.convert e h _=>match P.underlying e,P.underlying h with
  |some (.slice _),some .string=>true
  |_,_=>false
 |.call c=>match c.callee with
  |.builtin .len=>true
  |_=>false
 |_=>false
def Hy (ops:G Oper) (o:Oper):G Nat:=
 (o.op.operands.toList.filterMap fun|.tmp t=>some t|_=>none)++(match o.guard with
  |some (j,_)=>match ops[j]? with
   |some p=>p.dst.toList
   |none=>[]
  |none=>[])
def JR (tm:Tr H):G Nat->Tr H
 |[]=>.leaf
 |t::r=>match tm.get t with
  |some v=>(JR tm r).set t v
  |none=>JR tm r
def Ti (h:G Nat) (o:Oper):Nat:=(o.after.toList.filter (Region.binds .any)).foldl (fun s e=>s|||(2^e.on|||h.getD e.on 0)) 0
def O9:G Oper->G Nat->G Nat
 |[],e=>e
 |o::r,e=>O9 r (e++[Ti e o])
def allI {e:Type} (f:Nat->e->aK):G e->Nat->aK
 |[],_=>true
 |o::r,i=>f i o&&allI f r (i+1)
def aie (ops:G Oper) (h:G Nat):aK:=
 allI (fun i o=>h.getD i 0==Ti h o&&o.after.toList.all (fun e=>!Region.binds .any e||decide (e.on<i))&&
  (match o.dst with
   |some d=>allI (fun j p=>decide (j=i)||!(p.dst==some d)) ops 0
   |none=>true)&&
  (Hy ops o).all (fun t=>allI (fun j p=>!(p.dst==some t)||decide (j=i)||(h.getD i 0).testBit j||(h.getD j 0).testBit i) ops 0)) ops 0
def pE (e:G Nat):ah Nat->Nat
 |none=>0
 |some c=>e.getD c 0|||2^c
def zW (m e:Nat) (aP:Tr AO):G (Nat×Nat×AO)->Tr AO
 |[]=>aP
 |(j,b,h)::r=>if m.testBit j&&!e.testBit j then(zW m e aP r).set b h else zW m e aP r
def aFO:Op->aK
 |.store ..=>true
 |_=>false
def Ls (X:Ctx) (P:bA) (e:Tr H) (o:Oper) (J:Nat) (aP:Tr AO):ah (Nat×AO×AO):=match o.op with
 |.store _ a _=>match rd P e a with
  |some (.ptr b _)=>match aP.get b with
   |some h=>match rH X P e ⟨Tr.set b h .leaf,J,J⟩ o with
    |some (.skip s')=>if s'.J=J then(match s'.aP.get b with
     |some j=>some (b,h,j)
     |none=>none) else none
    |_=>none
   |none=>none
  |_=>none
 |_=>none
def aGS (m:Nat):ah Nat->aK
 |some c=>m.testBit c
 |none=>true
def Zj (h:G Nat) (e:G (Nat×St)) (i:Nat):ah Nat->aK
 |some c=>!(h.getD c 0).testBit i&&e.all fun p=>decide (p.1<=c)||!(h.getD i 0).testBit p.1
 |none=>e.all fun p=>!(h.getD i 0).testBit p.1
def ahR (X:Ctx) (P:bA) (self:lC->ah gV) (ops:G Oper) (h:G Nat) (j i:Nat) (o:Oper) (e:Tr H) (c:ah Nat) (aD:St) (al:G (Nat×Nat×AO)):ah Rec:=
 match Cb X ops e o with
 |none=>none
 |some false=>some ⟨e,.tuple [],.skip⟩
 |some true=>
  if OT P o.op then match rH X P e ⟨.leaf,0,0⟩ o with
   |some (.val v _)=>some ⟨e,v,.pure⟩
   |_=>none
  else if OQ P o.op then match rH X P e ⟨.leaf,j+i,0⟩ o with
   |some (.val v s')=>match s'.aP.get (j+i) with
    |some l=>some ⟨e,v,.alloc l⟩
    |none=>none
   |_=>none
  else if GJ P o.op then match rH X P e ⟨zW (h.getD i 0) (pE h c) aD.aP al,aD.J,aD.J⟩ o with
   |some (.val v _)=>some ⟨e,v,.read⟩
   |_=>none
  else if aFO o.op then match Ls X P e o aD.J (zW (h.getD i 0) (pE h c) aD.aP al) with
   |some (b,q,u)=>some ⟨e,.tuple [],.put b q u⟩
   |none=>none
  else if aGS (h.getD i 0) c then match yJ X P self e ⟨zW (h.getD i 0) (pE h c) aD.aP al,aD.J,aD.J⟩ o with
   |some (v,B')=>some ⟨e,v,.chain B'⟩
   |none=>none
  else none
structure aji where
 aZ:List Rec
 tm:Tr H
 c:Option Nat
 aD:St
 al:List (Nat×Nat×AO)
def Jk (X:Ctx) (P:bA) (self:lC->ah gV) (ops:G Oper) (h:G Nat) (e nt:Nat):G Oper->Nat->G Rec->Tr H->ah Nat->St->G (Nat×Nat×AO)->ah aji
 |[],_,acc,tm,c,aD,al=>some ⟨acc,tm,c,aD,al⟩
 |o::rest,i,acc,tm,c,aD,al=>match ahR X P self ops h e i o (JR tm (Hy ops o)) c aD al with
  |none=>none
  |some r=>match H8 nt tm o.dst r.v with
   |none=>none
   |some tm'=>match r.k with
    |.alloc j=>Jk X P self ops h e nt rest (i+1) (acc++[r]) tm' c aD ((i,e+i,j)::al)
    |.put b _ j=>Jk X P self ops h e nt rest (i+1) (acc++[r]) tm' c aD ((i,b,j)::al)
    |.chain B'=>Jk X P self ops h e nt rest (i+1) (acc++[r]) tm' (some i) B' al
    |_=>Jk X P self ops h e nt rest (i+1) (acc++[r]) tm' c aD al
def BO:G Rec->Nat->G (Nat×St)
 |[],_=>[]
 |r::rest,i=>match r.k with
  |.chain aD=>(i,aD)::BO rest (i+1)
  |_=>BO rest (i+1)
def aft (aP:Tr AO):G Nat->Tr AO
 |[]=>aP
 |b::r=>(aft aP r).del b
def KV (e:G Nat) (i h:Nat):G Rec->Nat->G Nat
 |[],_=>[]
 |r::rest,f=>match r.k with
  |.put b _ _=>if !(e.getD i 0).testBit f&&!h.testBit f&&!(e.getD f 0).testBit i then b::KV e i h rest (f+1) else KV e i h rest (f+1)
  |_=>KV e i h rest (f+1)
def XY (X:Ctx) (P:bA) (e:G Nat) (al:G (Nat×Nat×AO)) (aZ:G Rec) (h:G (Nat×St)) (i:Nat) (o:Oper) (r:Rec) (c:ah Nat) (aD:St):aK:=
 if Zj e h i c then
  match rH X P r.tm ⟨aft (zW (e.getD i 0) (pE e c) aD.aP al) (KV e i (pE e c) aZ 0),aD.J,aD.J⟩ o with
  |some (.val u _)=>H.same u r.v
  |_=>false
 else true
def XZ (e:G Nat) (i j:Nat):aK:=(e.getD i 0).testBit j||(e.getD j 0).testBit i
def atA (e:G Nat) (h:Nat) (aZ:G Rec):aK:=
 allI (fun i r=>match r.k with
  |.put b _ _=>allI (fun j l=>decide (j=i)||(match l.k with
   |.chain _=>XZ e i j
   |.put q _ _=>!(q==b)||XZ e i j
   |.alloc _=>!(h+j==b)||(e.getD i 0).testBit j
   |_=>true)) aZ 0
  |_=>true) aZ 0
def Zm (aP:Tr AO) (b:Nat):aK:=match aP.get b with
 |some _=>false
 |none=>true
def ahj (X:Ctx) (P:bA) (ops:G Oper) (h:G Nat) (j:Nat) (al:G (Nat×Nat×AO)) (e:G (Nat×St)) (B0:St) (aZ:G Rec):aK:=
 atA h j aZ&&allI (fun i r=>match r.k with
  |.read=>match ops[i]? with
   |some o=>XY X P h al aZ e i o r none B0&&e.all (fun p=>XY X P h al aZ e i o r (some p.1) p.2)
   |none=>false
  |.alloc _=>Zm B0.aP (j+i)&&e.all (fun p=>(pE h (some p.1)).testBit i||Zm p.2.aP (j+i))
  |_=>true) aZ 0
def Yg (X:Ctx) (P:bA) (self:lC->ah gV) (ops:G Oper) (nt:Nat) (tm:Tr H) (s:St):ah (Tr H×St):=
 if aie ops (O9 ops []) then
  match Jk X P self ops (O9 ops []) s.J nt ops 0 [] tm none ⟨s.aP,s.J+ops.length,s.J+ops.length⟩ [] with
  |none=>none
  |some e=>if ahj X P ops (O9 ops []) s.J e.al (BO e.aZ 0) ⟨s.aP,s.J+ops.length,s.J+ops.length⟩ e.aZ then
   some (e.tm,⟨zW (2^ops.length-1) (pE (O9 ops []) e.c) e.aD.aP e.al,e.aD.J,e.aD.J⟩)
   else none
 else none
def DX (P:bA) (tm:Tr H) (s:St):G ResultVar->ah (G H)
 |[]=>some []
 |.tmp t::r=>match tm.get t,DX P tm s r with
  |some v,some vs=>some (v::vs)
  |_,_=>none
 |.cell a t::r=>match tm.get a with
  |some p=>match s.loadVar P t p,DX P tm s r with
   |some v,some vs=>some (v::vs)
   |_,_=>none
  |none=>none
def oneOf:G H->H
 |[v]=>v
 |vs=>.tuple vs
def Gg:Nat->G H->Tr H->Tr H
 |_,[],t=>t
 |i,v::r,t=>Gg (i+1) r (t.set i v)
structure Lib where
 call:FuncId->List H->St->Option (H×St)
 bX:Nat->Nat->Tr H->St->Option (AX×Tr H×St)
 inl:Bool
def uQ (X:Ctx) (P:bA) (e:Lib) (self:lC->ah gV):lC->ah gV
 |.code c nt tm s=>match c with
  |.skip=>some (.code .normal tm s)
  |.label _=>some (.code .normal tm s)
  |.region _ ops false=>match LD X P self ops.toList nt ops.toList tm s with
   |some (tm',s')=>some (.code .normal tm' s')
   |none=>none
  |.region _ ops true=>match Yg X P self ops.toList nt tm s with
   |some (tm',s')=>some (.code .normal tm' s')
   |none=>none
  |.seq a b=>match self (.code a nt tm s) with
   |some (.code .normal tm' s')=>self (.code b nt tm' s')
   |some (.code x tm' s')=>some (.code x tm' s')
   |_=>none
  |.cond c a b=>match Ll X (rd P tm c) with
   |some (.bool true)=>self (.code a nt tm s)
   |some (.bool false)=>self (.code b nt tm s)
   |_=>none
  |.block id body=>match e.bX id nt tm s with
   |some (x,tm',s')=>some (.code x tm' s')
   |none=>match self (.code body nt tm s) with
    |some (.code (.exit j) tm' s')=>if j=id then some (.code .normal tm' s') else some (.code (.exit j) tm' s')
    |some (.code x tm' s')=>some (.code x tm' s')
    |_=>none
  |.loop body=>match self (.code body nt tm s) with
   |some (.code .normal tm' s')=>self (.code (.loop body) nt tm' s')
   |some (.code x tm' s')=>some (.code x tm' s')
   |_=>none
  |.scope body=>self (.code body nt tm s)
  |.rangeFunc g _ _ _=>match rd P tm g with
   |some (.fn (.func gf) [] cap)=>if enters P gf then match self (.call gf (.wK::cap) s) with
    |some (.call _ s')=>some (.code .normal tm s')
    |_=>none
    else none
   |_=>none
  |.exit id=>some (.code (.exit id) tm s)
  |.ret=>some (.code .ret tm s)
  |_=>none
 |.call f args s=>match e.call f args s with
  |some (v,s')=>some (.call v s')
  |none=>if e.inl=true then match P.funcs[f]? with
   |none=>none
   |some fn=>match fn.body with
    |none=>none
    |some c=>if args.length<=fn.ntmps then match self (.code c fn.ntmps (Gg 0 args .leaf) s) with
     |some (.code .normal tm' s')|some (.code .ret tm' s')=>match DX P tm' s' fn.results.toList with
      |some vs=>some (.call (oneOf vs) s')
      |none=>none
     |_=>none
     else none
   else none
def aNa (X:Ctx) (P:bA) (self:lC->ah gV) (a b:iB) (nt:Nat) (tm:Tr H) (s:St):ah gV:=match self (.code a nt tm s) with
 |some (.code .normal tm' s')=>self (.code b nt tm' s')
 |some (.code x tm' s')=>some (.code x tm' s')
 |_=>none
def aME (X:Ctx) (P:bA) (self:lC->ah gV) (ops:dF Oper) (e:aK) (nt:Nat) (tm:Tr H) (s:St):ah gV:=match e with
 |false=>match LD X P self ops.toList nt ops.toList tm s with
  |some (tm',s')=>some (.code .normal tm' s')
  |none=>none
 |true=>match Yg X P self ops.toList nt tm s with
  |some (tm',s')=>some (.code .normal tm' s')
  |none=>none
def ao6 (X:Ctx) (P:bA) (self:lC->ah gV) (c:je) (a b:iB) (nt:Nat) (tm:Tr H) (s:St):ah gV:=match Ll X (rd P tm c) with
 |some (.bool true)=>self (.code a nt tm s)
 |some (.bool false)=>self (.code b nt tm s)
 |_=>none
def aCj (e:Lib) (self:lC->ah gV) (id:Nat) (body:iB) (nt:Nat) (tm:Tr H) (s:St):ah gV:=match e.bX id nt tm s with
 |some (x,tm',s')=>some (.code x tm' s')
 |none=>match self (.code body nt tm s) with
  |some (.code (.exit j) tm' s')=>if j=id then some (.code .normal tm' s') else some (.code (.exit j) tm' s')
  |some (.code x tm' s')=>some (.code x tm' s')
  |_=>none
def aGg (self:lC->ah gV) (body:iB) (nt:Nat) (tm:Tr H) (s:St):ah gV:=match self (.code body nt tm s) with
 |some (.code .normal tm' s')=>self (.code (.loop body) nt tm' s')
 |some (.code x tm' s')=>some (.code x tm' s')
 |_=>none
def aMy (X:Ctx) (P:bA) (self:lC->ah gV) (g:je) (tm:Tr H) (s:St):ah gV:=match rd P tm g with
 |some (.fn (.func gf) [] cap)=>if enters P gf then match self (.call gf (.wK::cap) s) with
  |some (.call _ s')=>some (.code .normal tm s')
  |_=>none
  else none
 |_=>none
def E8 (X:Ctx) (P:bA) (self:lC->ah gV) (f:ig) (args:G H) (s:St):ah gV:=match P.funcs[f]? with
 |none=>none
 |some fn=>match fn.body with
  |none=>none
  |some c=>if args.length<=fn.ntmps then match self (.code c fn.ntmps (Gg 0 args .leaf) s) with
   |some (.code .normal tm' s')|some (.code .ret tm' s')=>match DX P tm' s' fn.results.toList with
    |some vs=>some (.call (oneOf vs) s')
    |none=>none
   |_=>none
   else none
def aCJ (X:Ctx) (P:bA) (e:Lib) (self:lC->ah gV) (f:ig) (args:G H) (s:St):ah gV:=match e.call f args s with
 |some (v,s')=>some (.call v s')
 |none=>if e.inl=true then E8 X P self f args s else none
def aCU:iB->Ctx->bA->Lib->(lC->ah gV)->Nat->Tr H->St->ah gV:=fun c=>Code.rec (motive:=fun _=>Ctx->bA->Lib->(lC->ah gV)->Nat->Tr H->St->ah gV)
 (fun _ _ _ _ _ tm s=>some (.code .normal tm s))
 (fun _ ops e X P _ self nt tm s=>aME X P self ops e nt tm s)
 (fun a b _ _ X P _ self nt tm s=>aNa X P self a b nt tm s)
 (fun c a b _ _ X P _ self nt tm s=>ao6 X P self c a b nt tm s)
 (fun id body _ _ _ h self nt tm s=>aCj h self id body nt tm s)
 (fun body _ _ _ _ self nt tm s=>aGg self body nt tm s)
 (fun g _ _ _ _ _ X P _ self _ tm s=>aMy X P self g tm s)
 (fun id _ _ _ _ _ tm s=>some (.code (.exit id) tm s))
 (fun body _ _ _ _ self nt tm s=>self (.code body nt tm s))
 (fun _ _ _ _ _ _ tm s=>some (.code .normal tm s))
 (fun _ _ _ _ _ _ _ _=>none)
 (fun _ _ _ _ _ tm s=>some (.code .ret tm s))
 (fun _ _ _ _ _ _ _ _=>none) c
def awd:lC->Ctx->bA->Lib->(lC->ah gV)->ah gV:=fun r=>lC.rec (motive:=fun _=>Ctx->bA->Lib->(lC->ah gV)->ah gV)
 (fun c nt tm s X P e self=>aCU c X P e self nt tm s) (fun f args s X P e self=>aCJ X P e self f args s) r
def aNw (X:Ctx) (P:bA) (e:Lib) (self:lC->ah gV) (r:lC):awd r X P e self=uQ X P e self r:=by
 cases r with
 |call f args s=>rfl
 |code c nt tm s=>
  cases c with
  |region id ops h=>cases h<;>rfl
  |cond c a b=>show ao6 X P self c a b nt tm s=_;rfl
  |_=>rfl
def rG (X:Ctx) (P:bA) (e:Lib) (n:Nat):lC->ah gV:=Nat.rec (motive:=fun _=>lC->ah gV) (fun _=>none) (fun _ h r=>awd r X P e h) n
def apD (X:Ctx) (P:bA) (e:Lib) (r:lC):rG X P e 0 r=none:=rfl
def apC (X:Ctx) (P:bA) (e:Lib) (n:Nat) (r:lC):rG X P e (n+1) r=uQ X P e (rG X P e n) r:=aNw X P e (rG X P e n) r
section
variable {P:bA} {tm:Tr H} {s:St} {o:Oper} {r:nO}
def aeO {b:Builtin} {ts:G dh} (Z:b=.max\/b=.min\/(b=.len/\(match ts with|t::_=>(match P.underlying t with|some (.map _ _)=>false|some _=>true|none=>false)|[]=>false)=true)) (h:Gi P s b ts E=some r):
 ∃v,r=.val v s/\∀s',Gi P s' b ts E=some (.val v s'):=by
 rcases Z with rfl|rfl|⟨rfl,Z⟩<;>simp only[Gi] at h⊢
 ·split at h<;>first|(cases h;done)|(simp only[aG] at h;subst h;exact⟨_,rfl,fun s'=>rfl⟩)|(simp_all;done)
 ·cases h
 all_goals(repeat' split at h)<;>first|(cases h;done)|(simp only[aG] at h;subst h;refine⟨_,rfl,fun s'=>?_⟩;simp_all;done)|(simp_all;done)
def atK (Z:OT P o.op=true) (h:iI P tm s o=some r):∃v,r=.val v s/\∀s',iI P tm s' o=some (.val v s'):=by
 cases N:o.op<;>simp only[N,OT] at Z<;>(try(cases Z;done))<;>simp only[iI,N] at h⊢
 case call c=>
  cases U:zB P tm c.args.toList with
  |none=>simp[U] at h
  |some args=>
   simp only[U] at h⊢;split at Z
   ·rename_i hc;simp only[hc] at h⊢;exact aeO (.inl rfl) h
   ·rename_i hc;simp only[hc] at h⊢;exact aeO (.inr (.inl rfl)) h
   ·rename_i hc;simp only[hc] at h⊢;exact aeO (.inr (.inr ⟨rfl,Z⟩)) h
   ·cases Z
 all_goals(repeat' split at h)<;>first|(cases h;done)|(simp only[aG] at h;subst h;refine⟨_,rfl,fun s'=>?_⟩;simp_all;done)|(obtain⟨v,e,rfl⟩:=lq.1 h;refine⟨_,rfl,fun s'=>?_⟩;simp_all;done)|(simp_all;done)
def aBq (Z:OQ P o.op=true) (h:iI P tm s o=some r):∃v e,r=.val v (s.new e)/\∀s':St,s'.nx=s.nx->iI P tm s' o=some (.val v (s'.new e)):=by
 cases N:o.op<;>simp only[N,OQ] at Z<;>(try(cases Z;done))<;>simp only[iI,N,St.cells] at h⊢
 all_goals(repeat' split at h)<;>first|(cases h;done)|(simp only[aG] at h;subst h;refine⟨_,_,rfl,fun s' j=>?_⟩;simp_all;done)|(obtain⟨v,l,rfl⟩:=lq.1 h;refine⟨_,_,rfl,fun s' j=>?_⟩;simp_all;done)|(simp_all;done)
def aMC (Z:GJ P o.op=true) (h:iI P tm s o=some r):∃v,r=.val v s:=by
 cases N:o.op<;>simp only[N,GJ] at Z<;>(try(cases Z;done))<;>simp only[iI,N] at h
 case call c=>
  split at Z<;>(try(cases Z;done))<;>rename_i hc<;>simp only[hc] at h
  split at h
  ·cases h
  ·simp only[Gi] at h
   (repeat' split at h)<;>first|(cases h;done)|(simp only[aG] at h;exact⟨_,h.symm⟩)|(simp_all;done)
 all_goals(repeat' split at h)<;>first|(cases h;done)|(simp only[aG] at h;exact⟨_,h.symm⟩)|(obtain⟨v,e,rfl⟩:=lq.1 h;exact⟨_,rfl⟩)|(simp_all;done)
end
mutual
def H.jZ:∀{a b:H},H.same a b=true->a=b
 |.bool _,b,h=>by cases b<;>simp_all[H.same]
 |.int _ _,b,h=>by cases b<;>simp_all[H.same]
 |.str _,b,h=>by cases b<;>simp_all[H.same]
 |.nilPtr,b,h=>by cases b<;>simp_all[H.same]
 |.ptr _ _,b,h=>by cases b<;>simp_all[H.same]
 |.aV,b,h=>by cases b<;>simp_all[H.same]
 |.rF,b,h=>by cases b<;>simp_all[H.same]
 |.vT,b,h=>by cases b<;>simp_all[H.same]
 |.slice ..,b,h=>by cases b<;>simp_all[H.same]
 |.tC,b,h=>by cases b<;>simp_all[H.same]
 |.map _,b,h=>by cases b<;>simp_all[H.same]
 |.fn f x y,b,h=>by
  cases b with
  |fn g l q=>
   cases f<;>cases g<;>first
    |simp[H.same] at h;done
    |simp only[H.same,bU,xU] at h
     rw[h.1.1,H.Az h.1.2,H.Az h.2]
  |_=>simp[H.same] at h
 |.tu,b,h=>by cases b<;>simp_all[H.same]
 |.nilIface,b,h=>by cases b<;>simp_all[H.same]
 |.wK,b,h=>by cases b<;>simp_all[H.same]
 |.gy ..,b,h=>by
  cases b with
  |gy b e z=>
   simp only[H.same,bU,xU] at h;rw[h.1.1,h.1.2,Y.jZ h.2]
  |_=>simp[H.same] at h
 |.fp ..,b,h=>by
  cases b with
  |fp a i j=>
   simp only[H.same,bU,xU] at h;rw[h.1.1,Y.jZ h.1.2,Y.jZ h.2]
  |_=>simp[H.same] at h
 |.S _,b,h=>by
  cases b with
  |S e=>exact iE H.S (Y.jZ (by simpa[H.same] using h))
  |_=>simp[H.same] at h
 |.iface t a,b,h=>by
  cases b with
  |iface u c=>
   simp only[H.same,bU,xU] at h;rw[h.1,H.jZ h.2]
  |_=>simp[H.same] at h
 |.agg eY,b,h=>by
  cases b with
  |agg bs=>exact iE H.agg (H.Az (by simpa[H.same] using h))
  |_=>simp[H.same] at h
 |.tuple eY,b,h=>by
  cases b with
  |tuple bs=>exact iE H.tuple (H.Az (by simpa[H.same] using h))
  |_=>simp[H.same] at h
def H.Az:∀{eY bs:G H},H.sJ eY bs=true->eY=bs
 |[],bs,h=>by cases bs<;>simp_all[H.sJ]
 |a::eY,bs,h=>by
  cases bs with
  |nil=>simp[H.sJ] at h
  |cons b bs=>
   simp only[H.sJ,bU] at h;rw[H.jZ h.1,H.Az h.2]
end
def au3 {tm:Tr H} {x:H} (h:(JR tm q).get b=some x):b∈q/\tm.get b=some x:=by
 induction q with
 |nil=>
  unfold JR at h;rw[Tr.o9] at h;cases h
 |cons u r e=>
  unfold JR at h;split at h
  ·rename_i v w
   rcases Tr.jc h with⟨y,j⟩|⟨_,j⟩
   ·rw[y,j]
    exact⟨jG,w⟩
   ·exact⟨gF _ (e j).1,(e j).2⟩
  ·exact⟨gF _ (e h).1,(e h).2⟩
def KD {e:Type} {f:Nat->e->aK}:∀{l:G e} {k i:Nat} {o:e},allI f l k=true->l[i]?=some o->f (k+i) o=true
 |[],_,_,_,_,h=>by simp at h
 |a::r,k,0,o,h,J=>by
  simp only[allI,bU] at h;simp at J;subst J;exact h.1
 |a::r,k,i+1,o,h,J=>by
  simp only[allI,bU] at h;have:=KD (i:=i) h.2 (by simpa using J)
  rw[show k+(i+1)=k+1+i by omega]
  exact this
def Xd {m w:Nat} {aP:Tr AO} {b:Nat} {o:AO}:∀{al:G (Nat×Nat×AO)},al.Pairwise (fun p q=>q.1<p.1)->(zW m w aP al).get b=some o->
 (∃j,(j,b,o)∈al/\m.testBit j=true/\w.testBit j=false/\∀j' o',(j',b,o')∈al->m.testBit j'=true->w.testBit j'=false->j'<=j)\/
 (aP.get b=some o/\∀j o',(j,b,o')∈al->¬(m.testBit j=true/\w.testBit j=false))
 |[],_,h=>.inr ⟨h,fun j o' e=>by cases e⟩
 |(j,c',d')::r,Z,h=>by
  have y:=aa5.1 Z;simp only[zW] at h;split at h
  ·rename_i hc
   simp only[bU,Im] at hc;rcases Tr.jc h with⟨rfl,rfl⟩|⟨F,T⟩
   ·refine .inl ⟨j,jG,hc.1,hc.2,fun j' o' e _ _=>?_⟩
    rcases g_.1 e with e|e
    ·simp only[eG] at e;omega
    ·have:=y.1 _ e;exact Nat.le_of_lt this
   ·rcases Xd y.2 T with⟨k,l,u,W,a'⟩|⟨l,u⟩
    ·refine .inl ⟨k,gF _ l,u,W,fun j' o' e A E=>?_⟩
     rcases g_.1 e with e|e
     ·simp only[eG] at e;exact absurd e.2.1 F
     ·exact a' j' o' e A E
    ·refine .inr ⟨l,fun j' o' e=>?_⟩
     rcases g_.1 e with e|e
     ·simp only[eG] at e;exact absurd e.2.1 F
     ·exact u j' o' e
  ·rename_i hc
   have P:¬(m.testBit j=true/\w.testBit j=false):=fun⟨b',T⟩=>hc (by simp[b',T])
   rcases Xd y.2 h with⟨k,l,u,W,a'⟩|⟨l,u⟩
   ·refine .inl ⟨k,gF _ l,u,W,fun j' o' e A E=>?_⟩
    rcases g_.1 e with e|e
    ·simp only[eG] at e;rw[e.1] at A E;exact absurd ⟨A,E⟩ P
    ·exact a' j' o' e A E
   ·refine .inr ⟨l,fun j' o' e=>?_⟩
    rcases g_.1 e with e|e
    ·simp only[eG] at e;rw[e.1];exact P
    ·exact u j' o' e
def apa {aP:Tr AO} {b:Nat} {o:AO}:∀{l:G Nat},(aft aP l).get b=some o->b∉l/\aP.get b=some o
 |[],h=>⟨by simp,h⟩
 |x::r,h=>by
  obtain⟨e,j⟩:=Tr.K_ h;obtain⟨q,u⟩:=apa j;exact⟨by simp[e,q],u⟩
def apE {q:G Nat} {i A:Nat}:∀{aZ:G Rec} {k f:Nat} {r:Rec} {b:Nat} {u w:AO},aZ[f]?=some r->r.k=.put b u w->(q.getD i 0).testBit (k+f)=false->A.testBit (k+f)=false->(q.getD (k+f) 0).testBit i=false->b∈KV q i A aZ k
 |[],_,_,_,_,_,_,h,_,_,_,_=>by simp at h
 |a::rest,k,0,r,b,u,w,h,y,e,j,l=>by
  simp at h;subst h;simp only[qy] at e j l;simp only[KV,y,e,j,l,Bool.not_false,aaW,qX];exact jG
 |a::rest,k,f+1,r,b,u,w,h,y,e,j,l=>by
  rw[show k+(f+1)=k+1+f by omega] at e j l
  have:=apE (k:=k+1) (f:=f) rM y e j l;simp only[KV];split
  ·split
   ·exact gF _ this
   ·exact this
  ·exact this
def ahm:∀{aZ:G Rec} {k i:Nat} {r:Rec} {aD:St},aZ[i]?=some r->r.k=.chain aD->(k+i,aD)∈BO aZ k
 |[],_,_,_,_,h,_=>by simp at h
 |a::rest,k,0,r,aD,h,e=>by
  simp at h;subst h;simp only[BO,e];exact jG
 |a::rest,k,i+1,r,aD,h,e=>by
  have:=ahm (k:=k+1) (i:=i) rM e;rw[show k+(i+1)=k+1+i by omega]
  simp only[BO];split
  ·exact gF _ this
  ·exact this
def ati {q:G Nat} {j:Nat}:∀(l:G Edge) (s:Nat),(l.foldl (fun s e=>s|||(2^e.on|||q.getD e.on 0)) s).testBit j=true↔s.testBit j=true\/∃e∈l,e.on=j\/(q.getD e.on 0).testBit j=true
 |[],s=>by simp
 |e::l,s=>by
  rw[aiT,ati l];simp only[aa9,wL,g_,exists_eq_or_imp,ai7,iL];exact⟨fun h=>by rcases h with(h|h)|h<;>simp_all,fun h=>by rcases h with h|h|h<;>simp_all⟩
def Tj {o:Oper}:(Ti q o).testBit b=true↔∃e∈o.after,Region.binds .any e=true/\(e.on=b\/(q.getD e.on 0).testBit b=true):=by
 unfold Ti;rw[ati];simp only[Nat.zero_testBit,Il,false_or,List.mem_filter,awO];exact⟨fun⟨e,⟨h,l⟩,u⟩=>⟨e,h,l,u⟩,fun⟨e,h,l,u⟩=>⟨e,⟨h,l⟩,u⟩⟩
end
section
open Go Go.RowKit
section
variable {E:Env} {X:Ctx}
abbrev MP:=Nat->AO->Prop
structure HP (E:Env) (base:Nat) (ρ:Mp) (M:MP) (J:Nat) (w:World):Prop where
 pK:∀b o,M b o->∃l,ρ b=some l/\OR E base ρ w l o
 apart:∀b b' o o' l l',M b o->M b' o'->b≠b'->o.wr->ρ b=some l->ρ b'=some l'->l.g≠l'.g
 fresh:∀b,J<=b->ρ b=none
 base:base<=w.heap.size
 nM:∀g o,ρ.fz g=some o->w.heap[g]?=some o
 oC:∀b o l,M b o->o.wr->ρ b=some l->ρ.fz l.g=none
structure TP (ρ:Mp) (s:St) (w:World) (σ:Mp) (M:MP) (J:Nat) (w':World):Prop where
 ext:Ext ρ σ
 nx:s.J<=J
 os:w'.os=w.os
 tape:w'.tape=w.tape
 output:w'.output=w.output
 size:w.heap.size<=w'.heap.size
 block:∀g,g<w.heap.size->(∀b o l,s.aP.get b=some o->o.wr->ρ b=some l->l.g≠g)->w'.heap[g]?=w.heap[g]?
 from_:∀b o l,M b o->σ b=some l->w.heap.size<=l.g\/∃b0 o0 l0,s.aP.get b0=some o0/\ρ b0=some l0/\l0.g=l.g/\(o.wr->o0.wr)
 qR:∀b,b<s.J->b≠s.nx->σ b=ρ b
 wD:∀g o,σ.fz g=some o->ρ.fz g=some o\/w.heap.size<=g\/∃b o' l,s.aP.get b=some o'/\o'.wr/\ρ b=some l/\l.g=g
section
variable {base:Nat} {ρ σ τ:Mp} {s A A':St} {M M':MP} {J hi':Nat} {w w' w'':ak}
def HP.sub (h:HP E base ρ M J w) (j:∀b o,A.aP.get b=some o->M b o) (hn:ρ A.nx=none) (y:J<=A.J):HR E base ρ A w:=
 ⟨fun b o e=>h.pK b o (j b o e),fun b u o o' l l' e q=>h.apart b u o o' l l' (j _ _ e) (j _ _ q),⟨hn,fun b e=>h.fresh b I⟩,h.base,h.nM,fun b o l e=>h.oC b o l (j b o e)⟩
def HP.mono (h:HP E base ρ M J w) (j:∀b o,M' b o->M b o):HP E base ρ M' J w:=
 ⟨fun b o e=>h.pK b o (j b o e),fun b u o o' l l' e q=>h.apart b u o o' l l' (j _ _ e) (j _ _ q),h.fresh,h.base,h.nM,fun b o l e=>h.oC b o l (j b o e)⟩
def MP.step (M:MP) (A A':St):MP:=fun b o=>A'.aP.get b=some o\/(M b o/\A.aP.get b=none)
def HP.step (h:HP E base σ M J w) (k':∀b o,A.aP.get b=some o->M b o) (f':HR E base τ A' w') (t:fA σ A w τ A' w'):HP E base τ (M.step A A') A'.J w':=by
 have g':∀b o l,M b o->σ b=some l->l.g<w.heap.size:=fun b o l j F=>by
  obtain⟨r',q,P⟩:=h.pK b o j;rw[F] at q;obtain rfl:=bI q;exact P.lt
 have T:∀b o l,M b o->τ b=some l->σ b=some l:=fun b o l j F=>by
  obtain⟨r',q,_⟩:=h.pK b o j;rw[t.ext _ _ q] at F;obtain rfl:=bI F;exact q
 refine⟨fun b o j=>?_,fun b m' o o' l l' j u hn a' F e'=>?_,f'.fresh.2,f'.base,f'.nM,fun b o l j a' F=>?_⟩
 ·rcases j with j|⟨j,W⟩
  ·exact f'.pK b o j
  ·obtain⟨l,q,P⟩:=h.pK b o j
   refine⟨l,t.ext _ _ q,P.mono t.ext (t.block _ P.lt fun b' c' d' h' p' q'=>?_)⟩;refine h.apart b' b c' o d' l (k' _ _ h') j (fun e=>?_) p' q' q;rw[e,W] at h';cases h'
 ·rcases j with j|⟨j,W⟩
  ·rcases u with u|⟨u,i'⟩
   ·exact f'.apart b m' o o' l l' j u hn a' F e'
   ·have y:=T _ _ _ u e'
    intro e;rcases t.from_ b o l j F with q|⟨b',c',d',q,P,j',n'⟩
    ·have:=g' _ _ _ u y;omega
    ·refine h.apart b' m' c' o' d' l' (k' _ _ q) u (fun e=>?_) (n' a') P y (j'.trans e)
     rw[e,i'] at q;cases q
  ·have y:=T _ _ _ j F
   rcases u with u|⟨u,i'⟩
   ·intro e
    rcases t.from_ m' o' l' u e' with q|⟨b',c',d',q,P,j',n'⟩
    ·have:=g' _ _ _ j y;omega
    ·refine h.apart b b' o c' l d' j (k' _ _ q) (fun e=>?_) a' y P (e.trans j'.symm)
     rw[<-e,W] at q;cases q
   ·exact h.apart b m' o o' l l' j u hn a' y (T _ _ _ u e')
 ·rcases j with j|⟨j,W⟩
  ·exact f'.oC b o l j a' F
  ·have y:=T _ _ _ j F
   cases hf:τ.fz l.g with
   |none=>rfl
   |some s'=>
    rcases t.wD _ _ hf with q|q|⟨b',c',d',q,P,j',n'⟩
    ·have:=h.oC b o l j a' y;rw[q] at this;cases this
    ·have:=g' _ _ _ j y;omega
    ·refine absurd n' (h.apart b' b c' o d' l (k' _ _ q) j (fun e=>?_) P j' y)
     rw[e,W] at q;cases q
def TP.step (k:TP ρ s w σ M J w') (h:HP E base σ M J w') (e':∀b o,A.aP.get b=some o->M b o) (t:fA σ A w' τ A' w'') (l':s.J<=A.J) (n':A.nx=s.nx\/s.J<=A.nx):
 TP ρ s w τ (M.step A A') A'.J w'':=by
 refine⟨k.ext.trans t.ext,fF l' t.nx.1,t.os.trans k.os,t.tape.trans k.tape,t.output.trans k.output,fF k.size t.size,fun g d' hn=>?_,fun b o l q u=>?_,fun b q m'=>(t.qR b (lZ q l') I).trans (k.qR b q m'),fun g o d'=>?_⟩
 ·rw[t.block g (lZ d' k.size) fun b o l q f' u e=>?_]
  ·exact k.block g d' hn
  ·rcases k.from_ b o l (e' _ _ q) u with j|⟨y,F,P,j,T,W,a'⟩
   ·omega
   ·exact hn y F P j (a' f') T (W.trans e)
 ·rcases q with q|⟨q,_⟩
  ·rcases t.from_ b o l q u with j|⟨y,F,P,j,T,W,a'⟩
   ·exact .inl (fF k.size j)
   ·rcases k.from_ y F P (e' _ _ j) T with b'|⟨g',h',c',b',i',j',k'⟩
    ·exact .inl I
    ·exact .inr ⟨g',h',c',b',i',j'.trans W,fun f'=>k' (a' f')⟩
  ·obtain⟨c',j,_⟩:=h.pK b o q
   rw[t.ext _ _ j] at u;obtain rfl:=bI u;exact k.from_ b o c' q j
 ·rcases t.wD g o d' with j|j|⟨y,F,P,j,T,W,a'⟩
  ·exact k.wD g o j
  ·exact .inr (.inl (fF k.size j))
  ·rcases k.from_ y F P (e' _ _ j) W with b'|⟨g',h',c',b',i',j',k'⟩
   ·exact .inr (.inl I)
   ·exact .inr (.inr ⟨g',h',c',b',k' T,i',j'.trans a'⟩)
def TP.mono (k:TP ρ s w σ M J w') (e:∀b o,M' b o->M b o):TP ρ s w σ M' J w':=
 ⟨k.ext,k.nx,k.os,k.tape,k.output,k.size,k.block,fun b o l h j=>k.from_ b o l (e _ _ h) j,k.qR,k.wD⟩
def TP.gZ (k:TP ρ s w σ M J w') (e:∀b o,A.aP.get b=some o->M b o) (h:J<=A.J) (j:A.nx=s.nx\/s.J<=A.nx):fA ρ s w σ A w':=
 ⟨k.ext,⟨fF k.nx h,j⟩,k.os,k.tape,k.output,k.size,k.block,fun b o l q u=>k.from_ b o l (e _ _ q) u,k.qR,k.wD⟩
end
end
end
end
end Go.Proofs.YtdjcfaaongngeaaGreatDoor

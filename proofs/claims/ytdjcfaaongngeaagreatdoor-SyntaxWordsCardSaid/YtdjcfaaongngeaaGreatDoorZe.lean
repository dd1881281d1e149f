/- A part of the proof: see the last text. -/
import Derived.Test.YtdjcfaaongngeaaGreatDoorZa
set_option linter.all false
set_option maxRecDepth 100000
set_option maxHeartbeats 0
namespace Go.Proofs.YtdjcfaaongngeaaGreatDoor
noncomputable section
variable {b g i:Nat}{W w:ak}{v m:av}{u:dh}{F:dF av}
section
open Go.RowKit
inductive qB where
 |nil:qB
 |val (v:Value) (rest:qB):qB
 |row (size:Nat) (kids:qB) (rest:qB):qB
def qB.len:qB->Nat
 |.nil=>0
 |.val _ r=>r.len+1
 |.row _ _ r=>r.len+1
def qB.app:qB->qB->qB
 |.nil,b=>b
 |.val v r,b=>.val v (r.app b)
 |.row s k r,b=>.row s k (r.app b)
abbrev jP:=Nat->Nat->Prop
def xX (F:jP) (w w':ak):Prop:=∀b o,F b o->w'.cell? ⟨b,o,none⟩=w.cell? ⟨b,o,none⟩
def asz (w:ak) (o:Obj) (k:Nat) (h:k<w.heap.size):(w.alloc o).heap[k]?=w.heap[k]?:=by
 first
 |exact abw w o k h
 |exact abw w o h
def IK (w:ak) (F:jP) (size:Nat) (h:av) (e:G av):Prop:=
 (h=.slice none 0 0/\e=[])\/
 ∃b off n cap,h=.slice (some ⟨b,off,none⟩) n cap/\n<=cap/\cap<=maxLen/\e.length=n*size/\
  ∀j u,e[j]?=some u->F b (off+j)/\w.cell? ⟨b,off+j,none⟩=some u
def qY (w:ak) (F:jP):qB->G av->Prop
 |.nil,e=>e=[]
 |.val v r,e=>∃h,e=v::h/\qY w F r h
 |.row sz kids r,e=>∃j l h,e=j::h/\IK w F sz j l/\qY w F kids l/\qY w F r h
def IK.mono {w:ak} {F q:jP} {y:G av} (h:IK w F g v y) (A:xX F w W) (hf:∀b o,F b o->q b o):IK W q g v y:=by
 rcases h with h|⟨b,off,n,cap,E,P,T,a',e⟩
 ·exact .inl h
 ·exact .inr ⟨b,off,n,cap,E,P,T,a',fun j u l=>⟨hf _ _ (e j u l).1,(A _ _ (e j u l).1).trans (e j u l).2⟩⟩
def qY.mono {w w':ak} {F u:jP} (e:xX F w w') (hf:∀b o,F b o->u b o):∀{d:qB} {y:G av},qY w F d y->qY w' u d y
 |.nil,_,h=>h
 |.val _ _,_,⟨j,l,q⟩=>⟨j,l,q.mono e hf⟩
 |.row _ _ _,_,⟨A,E,j,l,q,P,T⟩=>⟨A,E,j,l,q.mono e hf,P.mono e hf,T.mono e hf⟩
def qY.len {w:ak} {F:jP}:∀{d:qB} {j:G av},qY w F d j->j.length=d.len
 |.nil,_,h=>by rw[show _=[] from h];rfl
 |.val _ _,_,⟨_,e,l⟩=>by rw[e,gD,l.len];rfl
 |.row _ _ _,_,⟨_,_,_,e,_,_,q⟩=>by rw[e,gD,q.len];rfl
def qY.app {w:ak} {F:jP} {e:qB} {j:G av} (l:qY w F e j):∀{d:qB} {A:G av},qY w F d A->qY w F (d.app e) (A++j)
 |.nil,_,h=>by rw[show _=[] from h];exact l
 |.val _ _,_,⟨q,u,y⟩=>⟨q++j,by rw[u];rfl,qY.app l y⟩
 |.row _ _ _,_,⟨E,q,us,u,y,P,T⟩=>⟨E,q,us++j,by rw[u];rfl,y,P,qY.app l T⟩
def Rd (w:ak) (F:jP) (size:Nat) (d:qB) (h:av):Prop:=∃e,IK w F size h e/\qY w F d e
def Rd.mono {w w':ak} {F e:jP} {size:Nat} {d:qB} {j:av} (h:Rd w F size d j) (l:xX F w w') (hf:∀b o,F b o->e b o):Rd w' e size d j:=
 let ⟨q,u,y⟩:=h;⟨q,u.mono l hf,y.mono l hf⟩
def Rd.nil (w:ak) (F:jP) (size:Nat):Rd w F size .nil (.slice none 0 0):=⟨[],.inl ⟨rfl,rfl⟩,rfl⟩
structure qz (w w':World) (base:Nat) (e:TypeId) (size:Nat) (v:Value) (n:Nat) (xs:List Value) (m:Nat) (news:List Value) (g cap:Nat):Prop where
 own:w'.ownsRow base e size (.slice (some ⟨g,0,none⟩) (n+m) cap) (n+m) (xs++news)
 grown:w.grownBy w' v.ownBlock
 nG:v.ownBlock=some g\/(g=w.heap.size/\w.grownBy w' none)
 lt:g<w'.heap.size
 fix:∀b j,b<w.heap.size->(v.ownBlock=some b->j<n*size)->w'.cell? ⟨b,j,none⟩=w.cell? ⟨b,j,none⟩
def aGU {e:dh} {n cap:Nat} {q l:G av} (h:W.ownsRow b e i v n (q++l)) (y:v=.slice (some ⟨g,0,none⟩) n cap):
 ∀j u,l[j]?=some u->W.cell? ⟨g,q.length+j,none⟩=some u:=fun j u A=>by
 have hc:=h.cells (g:=g) (by rw[y];rfl) (q.length+j) u (by rw[nI I];simpa using A)
 rwa[oH,jW] at hc
def aGV {n cap:Nat} {y:G av} (h:W.ownsRow b u i v n y) (q:v=.slice (some ⟨g,0,none⟩) n cap) (j:Nat):W.frozen? ⟨g,j,none⟩=false:=by
 rcases h.2 with⟨l,_⟩|⟨A,E,P,l,_,F,_⟩
 ·rw[q] at l;cases l
 ·rw[q] at l
  have:g=A:=by injection l with l;injection l with l;injection l
  subst this;simp[World.frozen?,F]
def qz.four {w':ak} {n:Nat} {l:G av} {b c d:av} {cap:Nat} (h:qz W w' i u 4 v n l 1 [m,b,c,d] g cap) (q:l.length=n*4):
 (w'.cell? ⟨g,n*4,none⟩=some m/\w'.cell? ⟨g,n*4+1,none⟩=some b/\w'.cell? ⟨g,n*4+2,none⟩=some c/\w'.cell? ⟨g,n*4+3,none⟩=some d)/\∀j,w'.frozen? ⟨g,j,none⟩=false:=by
 have hc:=aGU h.own rfl;rw[q] at hc;exact⟨⟨hc 0 m rfl,hc 1 b rfl,hc 2 c rfl,hc 3 d rfl⟩,aGV h.own rfl⟩
def o_ {o:Nat} {e:dh} {fr:Nat×Nat} {u:av} (h:W.heap[g]?=some (.cells F e fr)):(W.setCell ⟨g,o,none⟩ u).heap[g]?=some (.cells (F.setIfInBounds o u) e fr):=by
 simp[World.setCell,Array.getElem?_modify,h]
def jF {w:ak} {o:Nat} {u:av} (h:b≠g):(w.setCell ⟨g,o,none⟩ u).heap[b]?=w.heap[b]?:=PX w ⟨g,o,none⟩ u b h
def Ke (w w':ak):Prop:=w'.heap.size=w.heap.size/\w'.os=w.os/\w'.tape=w.tape/\w'.output=w.output
def Ke.trans {a b c:ak} (h:Ke a b) (k:Ke b c):Ke a c:=⟨k.1.trans h.1,k.2.1.trans h.2.1,k.2.2.1.trans h.2.2.1,k.2.2.2.trans h.2.2.2⟩
def tL (w:ak) (a:Addr) (u:av):Ke w (w.setCell a u):=⟨by simp[World.setCell],rfl,rfl,rfl⟩
def BZ (w:ak) (g q:Nat) (a b c d:av):ak:=(((w.setCell ⟨g,q,none⟩ a).setCell ⟨g,q+1,none⟩ b).setCell ⟨g,q+2,none⟩ c).setCell ⟨g,q+3,none⟩ d
def aay {z u:av} (h:b≠g):(BZ W g i v m z u).heap[b]?=W.heap[b]?:=by
 unfold BZ;rw[jF h,jF h,jF h,jF h]
@[simp] theorem aU4 {W:ak} {g i:Nat} {v m z u:av}:(BZ W g i v m z u).heap.size=W.heap.size:=by simp[BZ,World.setCell]
def avw (w:ak) (g q:Nat) (x y z u:av):Ke w (BZ w g q x y z u):=
 (((tL _ _ _).trans (tL _ _ _)).trans (tL _ _ _)).trans (tL _ _ _)
def avv {k cap:Nat} {l:G av} {z2 z3 a b c d:av} (h:W.ownsRow i u 4 (.slice (some ⟨g,0,none⟩) (k+1) cap) (k+1) (l++[v,m,z2,z3])) (E:l.length=k*4):
 ∃j,(BZ W g (k*4) a b c d).heap[g]?=some (.cells j u (0,0))/\i<=g/\k+1<=cap/\cap<=maxLen/\j.size=cap*4/\j.toList.take ((k+1)*4)=l++[a,b,c,d]:=by
 rcases h.2 with⟨y,_⟩|⟨c',F,j,y,P,T,w,e,a',b'⟩
 ·cases y
 ·injection y with e1 _ e3
  injection e1 with e1
  injection e1 with e1
  subst e1 e3;refine⟨_,o_ (o_ (o_ (o_ T))),P,w,e,by simp[a'],?_⟩
  have q:j.toList=l++([v,m,z2,z3]++j.toList.drop ((k+1)*4)):=by
   rw[<-tV,<-b',UJ]
  have A:(k+1)*4=l.length+4:=I;simp only[UE];rw[q,<-E,A];simp[List.take_append,AZ]
section
variable {P:bA} (w:ak)
def aM3 (t ty:dh) (base:Nat) (e:dh) (i:TypeInfo) (z:av) (size bytes:Nat) (g':P.underlying t=some (.slice e)) (J:P.info? e=some i) (k':i.zero=some z)
 (h:i.size=size) (b':i.bytes=bytes) (l':z.cells.size=size) (m':0<size)
 (v:av) (n:Nat) (c':G av) (E:w.ownsRow base e size v n c')
 (a':Addr) (m c:Nat) (l:G av) (d':l.length=m*size) (y:∀j u,l[j]?=some u->w.cell? (a'.add j)=some u) (n':∀u∈l,u.oneCell'=true)
 (o':0<m) (i':n+m<=maxLen) (A:(n+m)*bytes<=140737488355328) (h':base<=w.heap.size):
 ∃g cap w',(Builtin.append_ #[t,t] ty #[v,.slice (some a') m c]).run P w=.ok (.slice (some ⟨g,0,none⟩) (n+m) cap) w'/\qz w w' base e size v n c' m l g cap:=by
 obtain⟨g,cap,w',U,p',q',T',r'⟩:=run_append_lies (P:=P) w t ty base e i z size bytes g' J k' h b' l' m' v n c' E a' m c l d' y n' o' i' A h' _ rfl;have z':n+m<=9223372036854775807:=by simp only[maxLen] at i';omega
 have fresh:∀cs:dF av,w'=w.drew.alloc (.cells cs e)->Value.slice (some ⟨g,0,none⟩) (n+m) cap=.slice (some ⟨w.heap.size,0,none⟩) (n+m) cap->qz w w' base e size v n c' m l g cap:=by
  intro cs A' e';have s':g=w.heap.size:=by injection e' with e';injection e' with e';injection e'
  subst A';refine⟨p',q',.inr ⟨s',⟨rfl,rfl,rfl,by simp,fun k D' _=>asz w.drew _ k D'⟩⟩,r',fun b j t' _=>vU (asz w.drew _ b t')⟩
 refine⟨g,cap,w',U,?_⟩;rcases E.2 with⟨rfl,rfl⟩|⟨q,c0,T,rfl,F',f',u',L',v',M'⟩
 ·have F:=run_append_nil (P:=P) w t ty e i z g' J k' a' m c l (by rw[h];exact d') y o' I (by rw[b'];rw[jW] at A;omega)
  rw[F] at U
  injection U with e1 e2
  refine fresh _ e2.symm ?_;rw[<-e1,jW]
  injection e1 with _ _ e1
  rw[e1]
 ·by_cases W:n+m<=c0
  ·have F:=run_append_room (P:=P) w t ty e i g' J q n c0 T f' a' m c l (by rw[h];exact d') y n' W (by rw[h,d',v',<-Cj];exact Cm _ W)
   rw[F] at U
   injection U with e1 e2
   have x':q=g:=by injection e1 with e1;injection e1 with e1;injection e1
   subst x';refine⟨p',q',.inl rfl,r',fun b j t' E'=>?_⟩;subst e2
   by_cases j':b=q
   ·subst j'
    have y':=E' rfl;rw[cell_setRow_same w b j T _ e (0,0) f',gX w b j T e (0,0) f',h];have P':j<T.size:=by
     have:=Cm size u';omega
    rw[Ee,tV,oI gJ,uX y'];simp
   ·exact vU (U3 w q b _ j')
  ·have F:=run_append_grow (P:=P) w t ty e i z g' J k' ⟨q,0,none⟩ n c0 c' (by rw[h];exact E.1) (E.cells (g:=q) rfl) a' m c l (by rw[h];exact d') y I I (growslice_fits I (by rw[b'];exact A))
   rw[F] at U
   injection U with e1 e2
   refine fresh _ e2.symm ?_;rw[<-e1]
   injection e1 with _ _ e1
   rw[e1]
def awI {o:Oper} {a:Act} {aj:Act->ak->Prop} {aY:Exit->Act->ak->Prop} (s x:je) (t:dh)
 (N:o.op=.call {callee:=.builtin .append,args:=#[s,x],argTypes:=#[t,t]})
 (base:Nat) (e:dh) (i:TypeInfo) (z:av) (size bytes:Nat) (e':P.underlying t=some (.slice e)) (J:P.info? e=some i) (f':i.zero=some z)
 (y:i.size=size) (a':i.bytes=bytes) (b':z.cells.size=size) (c':0<size)
 (v:av) (n:Nat) (F:G av) (g':a.eval s=v) (T:w.ownsRow base e size v n F)
 (W:Addr) (m c:Nat) (l:G av) (h':a.eval x=.slice (some W) m c) (i':l.length=m*size) (A:∀j u,l[j]?=some u->w.cell? (W.add j)=some u) (j':∀u∈l,u.oneCell'=true)
 (k':0<m) (d':n+m<=maxLen) (q:(n+m)*bytes<=140737488355328) (E:base<=w.heap.size)
 (h:∀g cap w',qz w w' base e size v n F m l g cap->aj (a.put o.dst (.slice (some ⟨g,0,none⟩) (n+m) cap)) w'):o.wp P a w aj aY:=by
 obtain⟨g,cap,w',U,l'⟩:=aM3 (P:=P) w t o.type base e i z size bytes e' J f' y a' b' c' v n F T W m c l i' A j' k' d' q E;unfold Oper.wp execOp;simp only[N,resolve,invoke,builtin,Ma,Qb,Ei,List.map_toArray,AU,List.map_nil,g',h',U];exact h g cap w' l'
def FL {ops:dF Oper} {rest:G Oper} {o:Oper} {a:Act} {aY:Exit->Act->ak->Prop} (a':o.guard=none) (s x:je) (t:dh)
 (N:o.op=.call {callee:=.builtin .append,args:=#[s,x],argTypes:=#[t,t]})
 (base:Nat) (e:dh) (i:TypeInfo) (z:av) (size bytes:Nat) (f':P.underlying t=some (.slice e)) (J:P.info? e=some i) (g':i.zero=some z)
 (y:i.size=size) (b':i.bytes=bytes) (c':z.cells.size=size) (d':0<size)
 (v:av) (n:Nat) (F:G av) (h':a.eval s=v) (T:w.ownsRow base e size v n F)
 (W:Addr) (m c:Nat) (l:G av) (i':a.eval x=.slice (some W) m c) (j':l.length=m*size) (A:∀j u,l[j]?=some u->w.cell? (W.add j)=some u) (k':∀u∈l,u.oneCell'=true)
 (l':0<m) (e':n+m<=maxLen) (q:(n+m)*bytes<=140737488355328) (E:base<=w.heap.size)
 (h:∀g cap w',qz w w' base e size v n F m l g cap->wpList P ops aY rest (a.put o.dst (.slice (some ⟨g,0,none⟩) (n+m) cap)) w'):wpList P ops aY (o::rest) a w:=
 wpList_plain a' fun _ m'=>awI w s x t N base e i z size bytes f' J g' y b' c' d' v n F h' T W m c l i' j' A k' l' e' q E fun g cap w' n'=>m' _ _ (h g cap w' n')
def D9 {ops:dF Oper} {o:Oper} {a:Act} {aj:Act->ak->Prop} {aY:Exit->Act->ak->Prop} {E:Prop} (b':o.guard=none) (s x:je) (t:dh)
 (N:o.op=.call {callee:=.builtin .append,args:=#[s,x],argTypes:=#[t,t]})
 (base:Nat) (e:dh) (i:TypeInfo) (z:av) (size bytes:Nat) (g':P.underlying t=some (.slice e)) (J:P.info? e=some i) (h':i.zero=some z)
 (y:i.size=size) (c':i.bytes=bytes) (d':z.cells.size=size) (e':0<size)
 (v:av) (n:Nat) (T:G av) (i':a.eval s=v) (W:w.ownsRow base e size v n T)
 (a':Addr) (m c:Nat) (l:G av) (j':a.eval x=.slice (some a') m c) (k':l.length=m*size) (A:∀j u,l[j]?=some u->w.cell? (a'.add j)=some u) (l':∀u∈l,u.oneCell'=true)
 (m':0<m) (f':n+m<=maxLen) (q:(n+m)*bytes<=140737488355328) (F:base<=w.heap.size)
 (h:∀g cap w',qz w w' base e size v n T m l g cap->aj (a.put o.dst (.slice (some ⟨g,0,none⟩) (n+m) cap)) w'):
 if Region.wanted o (yielded ops a.tmps)=true then Oper.wp P o a w aj aY else E:=by
 have n':Region.wanted o (yielded ops a.tmps)=true:=by simp[Region.wanted,b']
 rw[bK n'];exact awI w s x t N base e i z size bytes g' J h' y c' d' e' v n T i' W a' m c l j' k' A l' m' f' q F h
end
structure U4 (w w':World) (base:Nat) (e:TypeId) (ob:Nat) (T:TypeId) (r:Nat) (cur:Array Value) (cv:Value) (k:Nat) (xs:List Value) (news:List Value) (g c2:Nat):Prop where
 own:w'.ownsRow base e 4 (.slice (some ⟨g,0,none⟩) (k+1) c2) (k+1) (xs++news)
 nG:cv.ownBlock=some g\/w.heap.size<=g
 top:w'.heap[ob]?=some (.cells (cur.setIfInBounds r (.slice (some ⟨g,0,none⟩) (k+1) c2)) T (0,0))
 other:∀b,b<w.heap.size->b≠ob->cv.ownBlock≠some b->w'.heap[b]?=w.heap[b]?
 fix:∀b j,b<w.heap.size->b≠ob->(cv.ownBlock=some b->j<k*4)->w'.cell? ⟨b,j,none⟩=w.cell? ⟨b,j,none⟩
 size:w.heap.size<=w'.heap.size
 os:w'.os=w.os
 tape:w'.tape=w.tape
 output:w'.output=w.output
def add_mid {l:ak} {aC:Obj} {F y:G av} {c2 j q:Nat} (A:qz (W.alloc aC).drew l b u 4 v i F 1 y g c2) (w:v.ownBlock≠some j) (lo:j<W.heap.size)
 (bt:W.cell? ⟨j,q,none⟩=some m) (fo:W.frozen? ⟨j,q,none⟩=false):l.cell? ⟨j,q,none⟩=some m/\l.frozen? ⟨j,q,none⟩=false/\¬g=j:=by
 have E:l.heap[j]?=W.heap[j]?:=(A.grown.block j gJ (nJ w)).trans (jV W aC j lo);refine⟨(vU E).trans bt,(axb E).trans fo,?_⟩;rintro rfl;rcases A.nG with h|⟨h,_⟩
 ·exact w h
 ·simp at h;omega
def aok {w c' X:ak} {aC:Obj} {y r:Nat} {e T:dh} {k:Nat} {o':G av} {c2:Nat} {z1 z2 z3 a b c d:av}
 (h':qz (W.alloc aC).drew c' i e 4 v k o' 1 [m,z1,z2,z3] g c2) (q':o'.length=k*4)
 (y':w.heap.size<=W.heap.size) (i':∀b,b<w.heap.size->W.heap[b]?=w.heap[b]?) (j':W.os=w.os/\W.tape=w.tape/\W.output=w.output)
 (lo:y<w.heap.size) (N:w.heap[y]?=some (.cells F T (0,0))) (r':v.ownBlock≠some y) (d':¬g=y)
 (k':X=(BZ c' g (k*4) a b c d).setCell ⟨y,r,none⟩ (.slice (some ⟨g,0,none⟩) (k+1) c2)\/X=BZ (c'.setCell ⟨y,r,none⟩ (.slice (some ⟨g,0,none⟩) (k+1) c2)) g (k*4) a b c d):
 U4 w X i e y T r F v k o' [a,b,c,d] g c2:=by
 have P:=h'.grown;have l':c'.heap[y]?=some (.cells F T (0,0)):=by
  rw[P.block y gJ (nJ r')];exact(jV W aC y I).trans ((i' y lo).trans N)
 have s':∃A,X.heap[g]?=some (.cells A e (0,0))/\i<=g/\k+1<=c2/\c2<=maxLen/\A.size=c2*4/\A.toList.take ((k+1)*4)=o'++[a,b,c,d]:=by
  rcases k' with rfl|rfl
  ·rw[jF d']
   exact avv h'.own q'
  ·exact avv (h'.own.kept (row:=some y) ⟨rfl,rfl,rfl,by simp[World.setCell],fun q _ m'=>jF (by rintro rfl;exact m' rfl)⟩ (.inr (by simpa[Value.ownBlock] using d'))) q'
 have t':X.heap[y]?=some (.cells (F.setIfInBounds (r) (.slice (some ⟨g,0,none⟩) (k+1) c2)) T (0,0)):=by
  rcases k' with rfl|rfl
  ·exact o_ (by rw[aay (nJ d')];exact l')
  ·rw[aay (nJ d')]
   exact o_ l'
 have p':∀q,q≠y->q≠g->X.heap[q]?=c'.heap[q]?:=by
  intro q a' E;rcases k' with rfl|rfl
  ·rw[jF a',aay E]
  ·rw[aay E,jF a']
 have e':Ke c' X:=by
  rcases k' with rfl|rfl
  ·exact(avw _ _ _ _ _ _ _).trans (tL _ _ _)
  ·exact(tL _ _ _).trans (avw _ _ _ _ _ _ _)
 have z':=e'.1;have A':W.heap.size+1<=c'.heap.size:=by have:=P.size;simpa using this
 have b':v.ownBlock=some g\/w.heap.size<=g:=by
  rcases h'.nG with h|⟨h,_⟩
  ·exact .inl h
  ·simp at h;exact .inr I
 refine⟨⟨?_,.inr ?_⟩,b',t',?_,?_,by omega,?_,?_,?_⟩
 ·simp;omega
 ·obtain⟨A,a',E,g',v',w',x'⟩:=s'
  exact⟨g,c2,A,rfl,E,a',g',v',w',x'⟩
 ·intro q m' a' E
  have g':q≠g:=by
   rintro rfl;rcases b' with h|h
   ·exact E h
   ·omega
  rw[p' q a' g',P.block q gJ (nJ E)];exact(jV W aC q I).trans (i' q m')
 ·intro q j m' a' E
  have n':c'.cell? ⟨q,j,none⟩=w.cell? ⟨q,j,none⟩:=by
   rw[h'.fix q j gJ E];exact vU ((jV W aC q I).trans (i' q m'))
  by_cases g':q=g
  ·subst g'
   rcases b' with h|h
   ·have D':=E h
    have l:∀(fB:ak) (o:Nat) (u:av),k*4<=o->(fB.setCell ⟨q,o,none⟩ u).cell? ⟨q,j,none⟩=fB.cell? ⟨q,j,none⟩:=fun fB o u N=>World.cell?_setCell_other _ _ _ _ (by intro u';injection u' with _ u';omega)
    have f':∀(fB:ak) (o:Nat) (u:av),(fB.setCell ⟨y,o,none⟩ u).cell? ⟨q,j,none⟩=fB.cell? ⟨q,j,none⟩:=fun fB o u=>vU (jF a');rw[<-n'];rcases k' with rfl|rfl
    ·rw[f'];unfold BZ
     rw[l _ _ _ I,l _ _ _ I,l _ _ _ I,l _ _ _ I]
    ·unfold BZ
     rw[l _ _ _ I,l _ _ _ I,l _ _ _ I,l _ _ _ I,f']
   ·omega
  ·rw[<-n']
   exact vU (p' q a' g')
 ·rw[e'.2.1,P.os];exact j'.1
 ·rw[e'.2.2.1,P.tape];exact j'.2.1
 ·rw[e'.2.2.2,P.output];exact j'.2.2
def avt {j fB:ak} {r:Nat} {c d e:av} (h:W=((((j.setCell ⟨g,b,none⟩ v).setCell ⟨g,b+1,none⟩ m).setCell ⟨g,b+2,none⟩ c).setCell ⟨g,b+3,none⟩ d).setCell ⟨i,r,none⟩ e):W=(BZ j g b v m c d).setCell ⟨i,r,none⟩ e\/W=fB:=.inl h
def avu {j fB:ak} {r:Nat} {c d e:av} (h:W=((((j.setCell ⟨i,r,none⟩ e).setCell ⟨g,b,none⟩ v).setCell ⟨g,b+1,none⟩ m).setCell ⟨g,b+2,none⟩ c).setCell ⟨g,b+3,none⟩ d):W=fB\/W=BZ (j.setCell ⟨i,r,none⟩ e) g b v m c d:=.inr h
def rC (c:dG):av:=.int .u8 (c.toNat:Int)
def aGj (l:G dG):l.map ((fun n:Int=>UInt8.ofNat n.toNat)∘fun c:dG=>(c.toNat:Int))=l:=by
 induction l with
 |nil=>rfl
 |cons c l e=>rw[AU,e];simp
def aff {P:bA} {base:Nat} {acc:G dG} (h:w.ownsRow base u 1 v acc.length (acc.map rC)) (hb:∀b,v.ownBlock=some b->W.heap[b]?=w.heap[b]?)
 (j l:dh) (q:P.underlying j=some (.slice u)) (y:P.underlying u=some (.int .u8)) (A:P.underlying l=some .string):
 (convert j l v).run P W=.ok (.string ⟨acc.toArray⟩) W:=by
 have E:W.ownsRow base u 1 v acc.length (acc.map rC):=by
  exact ap4
 rcases E.2 with⟨rfl,hn⟩|⟨g,cap,F,rfl,T,e,rest⟩
 ·have:acc=[]:=qx hn
  subst this;exact run_convert_bytes_nil W j u q y 0 0 l A
 ·have hc:=E.cells (g:=g) rfl
  have U:=run_convert_bytes_arg (P:=P) W j u q y g 0 acc.length cap (acc.map fun c=>(c.toNat:Int)) bS (fun i J=>by
   have:=hc i (rC acc[i]) Dl;rw[oH] at this;rw[this];simp[rC,List.getD,J]) l A
  rw[U]
  congr 3
  simp only[strOfNums,Iq];rw[aGj]
end
end
end Go.Proofs.YtdjcfaaongngeaaGreatDoor

/- A part of the proof: see the last text. -/
import Derived.Test.YtdjcfaaongngeaaGreatDoorZb
import Derived.Test.YtdjcfaaongngeaaGreatDoorZe
set_option linter.all false
set_option maxRecDepth 100000
set_option maxHeartbeats 0
namespace Go.Proofs.YtdjcfaaongngeaaGreatDoor
noncomputable section
section
open Go.RowKit
attribute [local go_sem↓] P8 PZ
def asL:(Tryz.prog.info? 46).map (fun i=>(i.zero,i.size,i.bytes))=some (some (.agg #[.int .i64 0,.string ⟨#[]⟩,.slice none 0 0,.int .i64 0]),4,56):=by kernel_rfl
def aBj (w:ak) (base pb j n cap:Nat) (A:dF av) (l:ah Addr) (k q:Nat) (b':G av) (F o:Int) (t:dA) (P:ah Addr) (kn T:Nat)
 (a':w.cell? ⟨pb,2,none⟩=some (.slice (some ⟨j,0,none⟩) (n+1) cap))
 (N:Hid (w.heap[j]?=some (.cells A 46 (0,0)))) (hn:n+1<=cap) (rQ:cap<=9223372036854775807)
 (l':Hid (A[n*4+2]?=some (.slice l k q))) (u:w.ownsRow base 46 4 (.slice l k q) k b') (F':k<=65536) (u':base<=w.heap.size)
 (e':(Value.slice l k q).ownBlock≠some j):
 Calls Tryz.prog 71 #[.pointer (some ⟨pb,0,none⟩),.agg #[.int .i64 F,.string t,.slice P kn T,.int .i64 o]] w fun e w'=>
  e=.returned (.tuple #[])/\∃g c2,U4 w w' base 46 j 46 (n*4+2) A (.slice l k q) k b' [.int .i64 F,.string t,.slice P kn T,.int .i64 o] g c2:=by
 obtain⟨v',f',g',h',i'⟩:=Qe asL;have lp:=rX w _ a';have lo:j<w.heap.size:=(kF.1 N.out).1;have m':∀o,(w.alloc o).cell? ⟨pb,2,none⟩=some (.slice (some ⟨j,0,none⟩) (n+1) cap):=fun o=>(World.cell?_alloc_past _ _ _ lp).trans a';go_enter Tryz.func71,Tryz.ntmps71;go_wp2_with fail;go_quiet (fail);go_wp2_with fail;obtain⟨W,y⟩:∃W,(w.alloc (.cells #[.int .i64 F,.string t,.slice P kn T,.int .i64 o] 46)).drewN nq=W:=⟨_,rfl⟩;rw[y];have j':W.heap.size=w.heap.size+1:=by rw[<-y];simp
 have E:∀b,b<w.heap.size->W.heap[b]?=w.heap[b]?:=fun b x'=>by rw[<-y];exact jV w _ b x'
 have h:W.heap[w.heap.size]?=some (.cells #[.int .i64 F,.string t,.slice P kn T,.int .i64 o] 46 (0,0)):=by rw[<-y];exact lu w _
 have k':W.os=w.os/\W.tape=w.tape/\W.output=w.output:=by rw[<-y];exact⟨rfl,rfl,rfl⟩
 have c':W.ownsRow base 46 4 (.slice l k q) k b':=by rw[<-y];exact u.alloc _
 have L':W.cell? ⟨w.heap.size,0,none⟩=some (.int .i64 F):=by rw[gX W _ 0 _ _ _ h];rfl
 have M':W.cell? ⟨w.heap.size,1,none⟩=some (.string t):=by rw[gX W _ 1 _ _ _ h];rfl
 have P':W.cell? ⟨w.heap.size,2,none⟩=some (.slice P kn T):=by rw[gX W _ 2 _ _ _ h];rfl
 have T':W.cell? ⟨w.heap.size,3,none⟩=some (.int .i64 o):=by rw[gX W _ 3 _ _ _ h];rfl
 have bt:W.cell? ⟨j,n*4+2,none⟩=some (.slice l k q):=by
  rw[gX W _ _ A 46 (0,0) (by rw[E _ lo];exact N.out)];exact l'.out
 have W':w.heap.size<W.heap.size:=I;have y':j<W.heap.size:=I;have fo:W.frozen? ⟨j,n*4+2,none⟩=false:=by simp[World.frozen?,E _ lo,N.out]
 have D':(k:Int)<(k:Int)+1:=I;have n':=Q j';have o':=Q E;have E':=Q h;have p':=Q k';have q':=Q g';have r':=Q h';have s':=Q i';have t':=Q f';clear y j' E h k' a' m' g' h' i' f';go_region_law ((refine D9 _ rfl (.tmp 19) (.tmp 22) 40 rfl base 46 v' _ 4 56 Tryz.underlying40 t'.out q'.out r'.out s'.out rfl I (.slice l k q) k b' Fu ((c'.alloc _).drew) ⟨W.heap.size,0,none⟩ 1 1 [.int .i64 0,.string ⟨#[]⟩,.slice none 0 0,.int .i64 0] Fu rfl (xS (cs:=#[.int .i64 0,.string ⟨#[]⟩,.slice none 0 0,.int .i64 0]) (t:=46) (fr:=(0,0)) (lu W _)) Ah I wB I gJ ?_;intro g c2 X' d';obtain⟨⟨q0,q1,q2,q3⟩,a0⟩:=d'.four u.1;obtain⟨b0,e0,z'⟩:=add_mid d' e' y' bt fo;have A':=Q d';clear d'))
 all_goals
  go_end0;refine⟨rfl,g,c2,?_⟩;refine aok A'.out u.1 (by have:=n'.out;omega) o'.out p'.out lo N.out e' z' ?_
  first
   |(with_reducible refine avt ?_;with_reducible rfl)
   |(with_reducible refine avu ?_;with_reducible rfl)
end
variable {b g i:Nat}{W w:ak}{v m:av}{k o:Int}{u:dh}{A:dA}
section
open Go.RowKit
def Fr.pF:Fr->qB
 |.nil=>.nil
 |.cons k t c o r=>.val (.int .i64 k) (.val (.string ⟨t.toArray⟩) (.row 4 c.pF (.val (.int .i64 o) r.pF)))
def Fr.afp:∀(a b:Fr),(a.app b).pF=a.pF.app b.pF
 |.nil,_=>rfl
 |.cons _ _ _ _ r,b=>by simp[Fr.app,Fr.pF,qB.app,Fr.afp r b]
def Fr.KP:∀a:Fr,a.pF.len=a.len*4
 |.nil=>rfl
 |.cons _ _ _ _ r=>by simp[Fr.pF,qB.len,Fr.len,Fr.KP r];omega
def Lp (k:Int) (e:av) (p:Nat):G av:=[.int .i64 k,.string ⟨#[]⟩,e,.int .i64 p]
def kindOf (st:Stack):Int:=if st.isEmpty then 0 else 3
def B_:Stack->G av->G av
 |(p,_)::st,e::iZ=>B_ st iZ++Lp (kindOf st) e p
 |_,_=>[]
structure Ve (w:World) (F:jP) (base:Nat) (cv:Value) (l:Fr):Prop where
 own:∃ys,w.ownsRow base 46 4 cv l.len ys/\qY w F l.pF ys
 fixed:∀b,cv.ownBlock=some b->∀j,F b j↔j<l.len*4
def vg (w:ak) (F:jP) (base:Nat):Stack->G av->Prop
 |[],[]=>True
 |(_,l)::st,e::iZ=>Ve w F base e l/\(∀u∈iZ,∀b,e.ownBlock=some b->u.ownBlock≠some b)/\vg w F base st iZ
 |_,_=>False
def vg.len {w:ak} {F:jP} {base:Nat}:∀{st:Stack} {iZ:G av},vg w F base st iZ->iZ.length=st.length
 |[],[],_=>rfl
 |(_,_)::_,_::_,⟨_,_,h⟩=>by simp[h.len]
def Ul:∀{st:Stack} {iZ:G av},iZ.length=st.length->(B_ st iZ).length=st.length*4
 |[],[],_=>rfl
 |(_,_)::st,_::iZ,h=>by
  simp only[gD,Nat.add_right_cancel_iff] at h;simp[B_,Lp,Ul h];omega
def Aw {w w':ak} {n:Nat} {j:G av} (h:w.ownsRow g u i v n j) (hb:∀b,v.ownBlock=some b->w'.heap[b]?=w.heap[b]?):w'.ownsRow g u i v n j:=by
 exact ap4
def Ve.gZ {w':ak} {F q:jP} {l:Fr} (h:Ve W F g v l) (E:xX F W w') (u:∀b j,F b j->q b j)
 (y:∀b,v.ownBlock=some b->w'.heap[b]?=W.heap[b]?/\∀j,q b j->F b j):Ve w' q g v l:=by
 obtain⟨⟨P,T,w⟩,A⟩:=h;exact⟨⟨P,Aw T (fun b e=>(y b e).1),w.mono E u⟩,fun b e j=>⟨fun hf=>(A b e j).1 ((y b e).2 j hf),fun a'=>u b j ((A b e j).2 a')⟩⟩
def vg.gZ {w w':ak} {F e:jP} {base:Nat} (h:xX F w w') (l:∀b j,F b j->e b j):
 ∀{st:Stack} {iZ:G av},vg w F base st iZ->(∀u∈iZ,∀b,u.ownBlock=some b->w'.heap[b]?=w.heap[b]?/\∀j,e b j->F b j)->vg w' e base st iZ
 |[],[],_,_=>trivial
 |(_,_)::_,y::_,⟨A,E,P⟩,q=>⟨A.gZ h l (q y bS),E,vg.gZ h l P fun u T=>q u (by simp[T])⟩
def vg.lt {w:ak} {F:jP} {base b:Nat} {u:av} (e:u.ownBlock=some b):∀{st:Stack} {iZ:G av},vg w F base st iZ->u∈iZ->b<w.heap.size
 |[],[],_,h=>by cases h
 |(_,_)::_,_::_,⟨⟨⟨_,j,_⟩,_⟩,_,l⟩,h=>by
  rcases g_.1 h with rfl|h
  ·exact(j.lt b e).2
  ·exact vg.lt e l h
structure PS (w:World) (F:jP) (base pb:Nat) (s:ByteArray) (pos:Nat) (st:Stack) (ob cap:Nat) (cur:Array Value) (iZ:List Value):Prop where
 Z:w.heap[pb]?=some (.cells #[.string s,.int .i64 pos,.slice (some ⟨ob,0,none⟩) st.length cap] 82 (0,0))
 N:w.heap[ob]?=some (.cells cur 46 (0,0))
 jY:cur.size=cap*4
 hle:st.length<=cap
 rQ:cap<=maxLen
 cells:cur.toList.take (st.length*4)=B_ st iZ
 ok:vg w F base st iZ
 jL:pb≠ob
 bp:base<=pb
 bo:base<=ob
 fp:∀j,¬F pb j
 fo:∀j,¬F ob j
 uF:∀u∈iZ,u.ownBlock≠some pb/\u.ownBlock≠some ob
 bw:base<=w.heap.size
 fw:∀b j,F b j->b<w.heap.size
 fb:∀b j,F b j->base<=b
def pQ (w:ak) (F:jP) (base pb:Nat) (s:dA) (pos:Nat) (st:Stack):Prop:=∃ob cap cur iZ,PS w F base pb s pos st ob cap cur iZ
section
variable {w w':ak} {F:jP} {base pb:Nat} {s:dA} {pos:Nat} {st:Stack} {ob cap:Nat} {cur:dF av} {iZ:G av}
def PS.lp (h:PS w F base pb s pos st ob cap cur iZ):pb<w.heap.size:=(kF.1 h.Z).1
def PS.lo (h:PS w F base pb s pos st ob cap cur iZ):ob<w.heap.size:=(kF.1 h.N).1
def PS.p0 (h:PS w F base pb s pos st ob cap cur iZ):w.cell? ⟨pb,0,none⟩=some (.string s):=by rw[gX w _ _ _ _ _ h.Z];rfl
def PS.p1 (h:PS w F base pb s pos st ob cap cur iZ):w.cell? ⟨pb,1,none⟩=some (.int .i64 pos):=by rw[gX w _ _ _ _ _ h.Z];rfl
def PS.p2 (h:PS w F base pb s pos st ob cap cur iZ):w.cell? ⟨pb,2,none⟩=some (.slice (some ⟨ob,0,none⟩) st.length cap):=by rw[gX w _ _ _ _ _ h.Z];rfl
def PS.pf (h:PS w F base pb s pos st ob cap cur iZ) (j:Nat):w.frozen? ⟨pb,j,none⟩=false:=by simp[World.frozen?,h.Z]
def PS.ext (h:PS w F base pb s pos st ob cap cur iZ) (q:w.heap.size<=w'.heap.size) (l:∀b,b<w.heap.size->w'.heap[b]?=w.heap[b]?):PS w' F base pb s pos st ob cap cur iZ:=by
 have y:xX F w w':=fun b o hf=>vU (l b (h.fw b o hf));refine⟨(l _ h.lp).trans h.Z,(l _ h.lo).trans h.N,h.jY,h.hle,h.rQ,h.cells,h.ok.gZ y (fun _ _ h=>h) (fun u A b e=>⟨?_,fun _ h=>h⟩),h.jL,h.bp,h.bo,h.fp,h.fo,h.uF,fF h.bw q,fun b j hf=>lZ (h.fw b j hf) q,h.fb⟩;exact l b (vg.lt e h.ok A)
def PS.setPos (h:PS w F base pb s pos st ob cap cur iZ) (q:Nat):PS (w.setCell ⟨pb,1,none⟩ (.int .i64 q)) F base pb s q st ob cap cur iZ:=by
 have j:∀b,b≠pb->(w.setCell ⟨pb,1,none⟩ (.int .i64 q)).heap[b]?=w.heap[b]?:=fun b y=>jF y;have A:xX F w (w.setCell ⟨pb,1,none⟩ (.int .i64 q)):=fun b o hf=>vU (j b (by rintro rfl;exact h.fp o hf))
 have l:(w.setCell ⟨pb,1,none⟩ (.int .i64 q)).heap.size=w.heap.size:=(tL w _ _).1;refine⟨o_ h.Z,(j _ (nJ h.jL)).trans h.N,h.jY,h.hle,h.rQ,h.cells,h.ok.gZ A (fun _ _ h=>h) (fun u E b e=>⟨j b ?_,fun _ h=>h⟩),h.jL,h.bp,h.bo,h.fp,h.fo,h.uF,by rw[l];exact h.bw,by rw[l];exact h.fw,h.fb⟩
 rintro rfl;exact(h.uF u E).1 e
def PS.top {l:Fr} (h:PS w F base pb s pos ((b,l)::st) ob cap cur (v::iZ)):cur[st.length*4+2]?=some v/\cur[st.length*4+3]?=some (.int .i64 b)/\cur[st.length*4]?=some (.int .i64 (kindOf st))/\cur[st.length*4+1]?=some (.string ⟨#[]⟩):=by
 have q:=Ul h.ok.2.2.len;have e:∀j,j<4->cur[st.length*4+j]?=(Lp (kindOf st) v b)[j]?:=by
  intro j y;have u:(cur.toList.take (((b,l)::st).length*4))[st.length*4+j]?=cur[st.length*4+j]?:=by
   rw[uX gJ];simp
  rw[<-u,h.cells];simp only[B_];rw[nI I,q];simp
 exact⟨e 2 I,e 3 I,e 0 I,e 1 I⟩
def PS.added {l:Fr} (h:PS w F base pb s pos ((i,l)::st) ob cap cur (v::iZ)) {b':G av} (h':w.ownsRow base 46 4 v l.len b') (i':qY w F l.pF b')
 {t:G dG} {kids:Fr} (s':Rd w F 4 kids.pF m) {c2:Nat}
 (q:U4 w w' base 46 ob 46 (st.length*4+2) cur v l.len b' [.int .i64 k,.string ⟨t.toArray⟩,m,.int .i64 o] g c2):
 (∃t',pQ w' t' base pb s pos ((i,l.app (.cons k t kids o .nil))::st))/\Below base w w':=by
 have T:=h.uF v bS;have d':∀b,v.ownBlock=some b->base<=b/\b<w.heap.size:=fun b e=>h'.lt b e;obtain⟨W,P,y⟩:=h.ok;have e':g≠ob:=by
  rintro rfl;rcases q.nG with e|e
  ·exact T.2 e
  ·have:=h.lo;omega
 have f':g≠pb:=by
  rintro rfl;rcases q.nG with e|e
  ·exact T.1 e
  ·have:=h.lp;omega
 have l':base<=g:=by
  rcases q.nG with e|e
  ·exact(d' g e).1
  ·exact fF h.bw e
 have c':xX F w w':=fun b j hf=>q.fix b j (h.fw b j hf) (by rintro rfl;exact h.fo j hf) (fun e=>(W.fixed b e j).1 hf)
 refine⟨⟨fun b j=>F b j\/(b=g/\j<(l.len+1)*4),ob,cap,_,.slice (some ⟨g,0,none⟩) (l.len+1) c2::iZ,?_,q.top,by simpa using h.jY,h.hle,h.rQ,?_,⟨⟨⟨b'++[.int .i64 k,.string ⟨t.toArray⟩,m,.int .i64 o],?_,?_⟩,?_⟩,?_,y.gZ c' (fun _ _ hf=>.inl hf) ?_⟩,h.jL,h.bp,h.bo,?_,?_,?_,fF h.bw q.size,?_,?_⟩,?_⟩
 ·exact(q.other pb h.lp h.jL T.1).trans h.Z
 ·have u':=Ul y.len
  have hc:=h.cells;simp only[B_,gD] at hc⊢;have a':cur.toList=B_ st iZ++(Lp (kindOf st) v i++cur.toList.drop ((st.length+1)*4)):=by
   rw[<-tV,<-hc,UJ]
  have j':(st.length+1)*4=(B_ st iZ).length+4:=I;rw[UE,a',<-u',j'];simp[Lp,List.take_append,AZ]
 ·rw[Fr.S9];exact q.own
 ·rw[Fr.afp]
  refine qY.app (e:=Fr.pF (.cons k t kids o .nil)) ?_ (i'.mono c' fun _ _ hf=>.inl hf);obtain⟨v',m',n'⟩:=s';exact⟨_,rfl,_,rfl,m,v',_,rfl,m'.mono c' fun _ _ hf=>.inl hf,n'.mono c' fun _ _ hf=>.inl hf,_,rfl,rfl⟩
 ·intro b e j
  have E:g=b:=by simpa[Value.ownBlock] using e
  subst E;rw[Fr.S9];show F g j\/(g=g/\j<(l.len+1)*4)↔j<(l.len+1)*4;refine⟨fun hf=>?_,fun x'=>.inr ⟨rfl,x'⟩⟩;rcases hf with hf|hf
  ·rcases q.nG with e|e
   ·have:=(W.fixed g e j).1 hf;omega
   ·have:=h.fw g j hf;omega
  ·exact hf.2
 ·intro u A b e
  have E:g=b:=by simpa[Value.ownBlock] using e
  subst E;rcases q.nG with e|e
  ·exact P u A g e
  ·intro o'
   have:=vg.lt o' y A;omega
 ·intro u A b e
  have p':b<w.heap.size:=vg.lt e y A;have g':v.ownBlock≠some b:=fun E=>P u A b E e;have q':b≠ob:=by rintro rfl;exact(h.uF u (by simp[A])).2 e
  refine⟨q.other b p' q' g',fun j hf=>?_⟩;rcases hf with hf|⟨rfl,_⟩
  ·exact hf
  ·rcases q.nG with E|E
   ·exact(g' E).elim
   ·omega
 ·rintro j (hf|⟨e,_⟩)
  ·exact h.fp j hf
  ·exact f' e.symm
 ·rintro j (hf|⟨e,_⟩)
  ·exact h.fo j hf
  ·exact e' e.symm
 ·intro u A
  rcases g_.1 A with rfl|A
  ·exact⟨by simpa[Value.ownBlock] using f',by simpa[Value.ownBlock] using e'⟩
  ·exact h.uF u (by simp[A])
 ·rintro b j (hf|⟨rfl,_⟩)
  ·exact lZ (h.fw b j hf) q.size
  ·rcases q.own.2 with⟨k',_⟩|⟨D',y',z',k',_,r',_⟩
   ·cases k'
   ·injection k' with e1
    injection e1 with e1
    injection e1 with e1
    rw[<-e1] at r';exact(kF.1 r').1
 ·rintro b j (hf|⟨rfl,_⟩)
  ·exact h.fb b j hf
  ·exact l'
 ·refine⟨q.os,q.tape,q.output,q.size,fun b A'=>q.other b (lZ A' h.bw) (by have:=h.bo;omega) ?_⟩
  intro e;have:=(d' b e).1;omega
end
attribute [local go_sem↓] P8 PZ
def Sd (k:Int) (pos:Nat):G PanicEntry:=[{v:=.iface 28 (.agg #[.int .i64 k,.int .i64 pos]),recovered:=false}]
def aG3 (w:ak) (pb h n cap pos:Nat) (s:dA) (j:w.cell? ⟨pb,0,none⟩=some (.string s)) (l:w.cell? ⟨pb,1,none⟩=some (.int .i64 pos)) (q:w.cell? ⟨pb,2,none⟩=some (.slice (some ⟨h,0,none⟩) (n+1) cap))
 (u:pos<s.size) (y:s.size<=65536) (hc:((s[pos].toNat:Int)==40)=true) (A:40<=n) (hn:n<=65536):
 Calls Tryz.prog 43 #[.pointer (some ⟨pb,0,none⟩)] w fun e w'=>e=.panicked (Sd 9 pos)/\∃m,w'=w.drewN m:=by
 have E:(0:Int)<=(pos:Int):=I;have F:(pos:Int)<(s.size:Int):=I;go_enter Tryz.func43,abe;go_wp2_with fail;go_quiet (fail);go_wp2_with fail;refine(Bu _ _ _).mono ?_;rintro e w' ⟨rfl,rfl⟩;exact⟨rfl,rfl,_,rfl⟩
def aG4 (w:ak) (pb h cap pos:Nat) (s:dA) (j:w.cell? ⟨pb,0,none⟩=some (.string s)) (l:w.cell? ⟨pb,1,none⟩=some (.int .i64 pos)) (q:w.cell? ⟨pb,2,none⟩=some (.slice (some ⟨h,0,none⟩) 1 cap))
 (u:pos<s.size) (y:s.size<=65536) (hc:((s[pos].toNat:Int)==40)=false):
 Calls Tryz.prog 43 #[.pointer (some ⟨pb,0,none⟩)] w fun e w'=>e=.panicked (Sd 2 pos)/\∃m,w'=w.drewN m:=by
 have A:(0:Int)<=(pos:Int):=I;have E:(pos:Int)<(s.size:Int):=I;go_enter Tryz.func43,abe;go_wp2_with fail;go_quiet (fail);go_wp2_with fail;go_quiet (fail);go_wp2_with fail;refine(Bu _ _ _).mono ?_;rintro e w' ⟨rfl,rfl⟩;exact⟨rfl,rfl,_,rfl⟩
structure abH (w w':World) (base pb ob n:Nat) (s:ByteArray) (pos:Nat) (xs:List Value) (g c2:Nat):Prop where
 own:w'.ownsRow base 46 4 (.slice (some ⟨g,0,none⟩) (n+1) c2) (n+1) (xs++Lp 3 (.slice none 0 0) pos)
 nG:g=ob\/w.heap.size<=g
 head:w'.heap[pb]?=some (.cells #[.string s,.int .i64 ((pos+1:Nat):Int),.slice (some ⟨g,0,none⟩) (n+1) c2] 82 (0,0))
 other:∀b,b<w.heap.size->b≠pb->b≠ob->w'.heap[b]?=w.heap[b]?
 size:w.heap.size<=w'.heap.size
 os:w'.os=w.os
 tape:w'.tape=w.tape
 output:w'.output=w.output
def aHl {pb q n cap pos:Nat} {y:G av} {c2:Nat} (jL:¬pb=q)
 (j:U4 w W i 46 pb 82 2 #[.string A,.int .i64 pos,.slice (some ⟨q,0,none⟩) n cap] (.slice (some ⟨q,0,none⟩) n cap) n y (Lp 3 (.slice none 0 0) pos) g c2) (lp:pb<w.heap.size):
 abH w (W.setCell ⟨pb,1,none⟩ (.int .i64 ((pos:Int)+1))) i pb q n A pos y g c2:=by
 have u:=tL W ⟨pb,1,none⟩ (.int .i64 ((pos:Int)+1));have l:g=q\/w.heap.size<=g:=by
  rcases j.nG with h|h
  ·exact .inl (by simpa[Value.ownBlock] using h.symm)
  ·exact .inr h
 have E:g≠pb:=by
  rcases l with rfl|h
  ·exact fun h=>jL h.symm
  ·omega
 refine⟨Aw j.own fun b e=>jF ?_,l,?_,fun b P F T=>?_,?_,?_,?_,?_⟩
 ·have:g=b:=by simpa[Value.ownBlock] using e
  rw[<-this];exact E
 ·rw[o_ j.top];simp
 ·rw[jF F]
  exact j.other b P F (by simpa[Value.ownBlock] using nJ T)
 ·rw[u.1];exact j.size
 ·rw[u.2.1];exact j.os
 ·rw[u.2.2.1];exact j.tape
 ·rw[u.2.2.2];exact j.output
def aG5 (w:ak) (base pb j n cap pos:Nat) (s:dA) (E:G av)
 (Z:Hid (w.heap[pb]?=some (.cells #[.string s,.int .i64 pos,.slice (some ⟨j,0,none⟩) (n+1) cap] 82 (0,0))))
 (l:w.ownsRow base 46 4 (.slice (some ⟨j,0,none⟩) (n+1) cap) (n+1) E) (l':base<=w.heap.size) (jL:¬pb=j)
 (s':pos<s.size) (y':s.size<=65536) (hc:((s[pos].toNat:Int)==40)=true) (z':n<40):
 Calls Tryz.prog 43 #[.pointer (some ⟨pb,0,none⟩)] w fun e w'=>e=.returned (.tuple #[])/\∃g c2,abH w w' base pb j (n+1) s pos E g c2:=by
 have A':(0:Int)<=(pos:Int):=I;have D':(pos:Int)<(s.size:Int):=I;have p0:w.cell? ⟨pb,0,none⟩=some (.string s):=afV;have p1:w.cell? ⟨pb,1,none⟩=some (.int .i64 pos):=afV;have p2:w.cell? ⟨pb,2,none⟩=some (.slice (some ⟨j,0,none⟩) (n+1) cap):=afV;have pf:w.frozen? ⟨pb,2,none⟩=false:=by simp[World.frozen?,Z.out]
 have d':w.frozen? ⟨pb,1,none⟩=false:=by simp[World.frozen?,Z.out]
 have t':decide ((40:Int)<=(n:Int))=false:=gJ;have u':(0:Int)<=(n:Int)+1:=I;have v':(n:Int)+1<(n:Int)+1+1:=I;obtain⟨e',P,T,a',b'⟩:=Qe asL;have f':=Q T;have g':=Q a';have h':=Q b';have i':=Q P;clear T a' b' P;go_enter Tryz.func43,abe;go_wp2_with fail;go_quiet (fail);rename Nat=>m'
 go_wp2_with fail;go_quiet (fail);rename Nat=>n'
 go_wp2_with fail;obtain⟨W,h⟩:∃W,(w.drewN m').drewN n'=W:=⟨_,rfl⟩;rw[h];have u:W.heap=w.heap:=by rw[<-h];rfl
 have j':W.heap.size=w.heap.size:=by rw[u]
 have c':W.os=w.os/\W.tape=w.tape/\W.output=w.output:=by rw[<-h];exact⟨rfl,rfl,rfl⟩
 have F:W.ownsRow base 46 4 (.slice (some ⟨j,0,none⟩) (n+1) cap) (n+1) E:=by rw[<-h];exact l
 have q0:W.cell? ⟨pb,0,none⟩=some (.string s):=by rw[<-h];exact p0
 have q1:W.cell? ⟨pb,1,none⟩=some (.int .i64 pos):=by rw[<-h];exact p1
 have q2:W.cell? ⟨pb,2,none⟩=some (.slice (some ⟨j,0,none⟩) (n+1) cap):=by rw[<-h];exact p2
 have o':W.frozen? ⟨pb,2,none⟩=false:=by rw[<-h];exact pf
 have p':W.frozen? ⟨pb,1,none⟩=false:=by rw[<-h];exact d'
 have lp:pb<W.heap.size:=rX W _ q0;have y:(Value.slice (some ⟨j,0,none⟩) (n+1) cap).ownBlock≠some pb:=by simpa[Value.ownBlock] using nJ jL
 have x':base<=W.heap.size:=I;have q:=Q u;have k':=Q c';clear h u j' c' p0 p1 p2 pf d';go_region_law ((refine D9 _ rfl (.tmp 63) (.tmp 70) 40 rfl base 46 e' _ 4 56 Tryz.underlying40 i'.out f'.out g'.out h'.out rfl I (.slice (some ⟨j,0,none⟩) (n+1) cap) (n+1) E Fu ((F.alloc _).drew) ⟨W.heap.size,0,none⟩ 1 1 [.int .i64 0,.string ⟨#[]⟩,.slice none 0 0,.int .i64 0] Fu rfl (xS (cs:=#[.int .i64 0,.string ⟨#[]⟩,.slice none 0 0,.int .i64 0]) (t:=46) (fr:=(0,0)) (lu W _)) Ah I wB I gJ ?_;intro g c2 E' A;obtain⟨⟨z0,z1,z2,z3⟩,F'⟩:=A.four l.1;obtain⟨L',M',q'⟩:=add_mid A y lp q2 o';obtain⟨P',T',_⟩:=add_mid A y lp q1 p';have r':=Q A;clear A))
 all_goals
  go_wp2_with fail;go_end0;refine⟨rfl,g,c2,?_⟩;refine aHl jL (aok r'.out l.1 (by rw[q.out];exact bq _) (fun b _=>by rw[q.out]) k'.out (by rw[<-q.out];exact lp) Z.out y q' ?_) (by rw[<-q.out];exact lp)
  first
   |(with_reducible refine avt ?_;with_reducible rfl)
   |(with_reducible refine avu ?_;with_reducible rfl)
attribute [local go_sem↓] P8 PZ
section
variable {w w':ak} {F:jP} {base pb:Nat} {s:dA} {pos:Nat} {st:Stack} {ob cap:Nat} {cur:dF av} {iZ:G av}
def JI {n:Nat} {j:G av} (h:W.ownsRow b u i v n j):∃a c,v=.slice a n c:=by
 rcases h.2 with⟨rfl,rfl⟩|⟨g,c,cur,rfl,_⟩
 ·exact⟨_,_,rfl⟩
 ·exact⟨_,_,rfl⟩
def Xf {l:Fr} (h:PS w F base pb s pos ((b,l)::st) ob cap cur (v::iZ)) {t:G dG} {kids:Fr} {q:ah Addr} {u:Nat} (A:Rd w F 4 kids.pF (.slice q i u)) (E:l.len<=65536):
 Calls Tryz.prog 71 #[.pointer (some ⟨pb,0,none⟩),.agg #[.int .i64 k,.string ⟨t.toArray⟩,.slice q i u,.int .i64 o]] w fun e w'=>
  e=.returned (.tuple #[])/\(∃P,pQ w' P base pb s pos ((b,l.app (.cons k t kids o .nil))::st))/\Below base w w':=by
 obtain⟨T,j,y⟩:=h.ok.1.own;obtain⟨W,a',rfl⟩:=JI j;have rQ:=h.rQ;unfold maxLen at rQ;refine(aBj w base pb ob st.length cap cur W l.len a' T k o ⟨t.toArray⟩ q i u (by simpa using h.p2) h.N (by simpa using h.hle) I h.top.1 j E h.bw (h.uF _ bS).2).mono ?_
 rintro e w' ⟨rfl,g,c2,b'⟩;exact⟨rfl,h.added j y A b'⟩
def PS.aHg {l:Fr} (h:PS w F base pb s pos ((i,l)::st) ob cap cur (v::iZ))
 (b':w'.heap[pb]?=some (.cells #[.string s,.int .i64 pos,.slice (some ⟨ob,0,none⟩) st.length cap] 82 (0,0))) (W:w.heap.size<=w'.heap.size) (y:∀b,b<w.heap.size->b≠pb->w'.heap[b]?=w.heap[b]?):
 PS w' F base pb s pos st ob cap cur iZ/\Rd w' F 4 l.pF v:=by
 have A:xX F w w':=fun b o hf=>vU (y b (h.fw b o hf) (by rintro rfl;exact h.fp o hf))
 obtain⟨⟨⟨c',lI,E⟩,P⟩,a',q⟩:=h.ok;have hle:=h.hle;refine⟨⟨b',(y _ h.lo (nJ h.jL)).trans h.N,h.jY,by simp at hle;omega,h.rQ,?_,q.gZ A (fun _ _ h=>h) (fun u hu b e=>⟨y b (vg.lt e q hu) ?_,fun _ h=>h⟩),h.jL,h.bp,h.bo,h.fp,h.fo,fun u hu=>h.uF u (by simp[hu]),fF h.bw W,fun b j hf=>lZ (h.fw b j hf) W,h.fb⟩,?_⟩
 ·have hc:=h.cells
  have d':=Ul q.len;have T:cur.toList.take (st.length*4)=(cur.toList.take (((i,l)::st).length*4)).take (st.length*4):=by
   rw[List.take_take];congr 1;simp only[gD];omega
  rw[T,hc];simp only[B_];rw[<-d',List.take_left]
 ·rintro rfl
  exact(h.uF u (by simp[hu])).1 e
 ·refine⟨c',?_,E.mono A fun _ _ h=>h⟩
  refine IK.mono (w:=w) (F:=F) ?_ A fun _ _ h=>h;rcases lI.2 with⟨rfl,e'⟩|⟨g,c,f',rfl,_,i',T,g',j',k'⟩
  ·refine .inl ⟨rfl,qx ?_⟩
   rw[lI.1,e']
  ·refine .inr ⟨g,0,l.len,c,rfl,T,g',lI.1,fun j u hu=>?_⟩
   have h':j<l.len*4:=by
    exact afZ
   rw[jW];refine⟨(P g rfl j).2 h',?_⟩;have:=lI.cells (g:=g) rfl j u hu
   rwa[oH,jW] at this
def aG2 {l l':Fr} (h:PS w F base pb s pos ((g,l)::(i,l')::st) ob cap cur (v::m::iZ)) (x':pos<s.size) (z':s.size<=65536) (hc:((s[pos].toNat:Int)==40)=false) (hn:st.length<=65536) (t':l'.len<=65536):
 Calls Tryz.prog 43 #[.pointer (some ⟨pb,0,none⟩)] w fun e w'=>e=.returned (.tuple #[])/\(∃u',pQ w' u' base pb s (pos+1) ((i,l'.app (.cons 3 [] l g .nil))::st))/\Below base w w':=by
 have A':(0:Int)<=(pos:Int):=I;have D':(pos:Int)<(s.size:Int):=I;obtain⟨E',u,d'⟩:=h.ok.1.own;obtain⟨A,E,rfl⟩:=JI u;have p0:=h.p0;have p1:=h.p1;have p2:w.cell? ⟨pb,2,none⟩=some (.slice (some ⟨ob,0,none⟩) (st.length+1+1) cap):=h.p2;have pf:=h.pf 2;have lp:=h.lp;have lo:=h.lo;obtain⟨t2,t3,h',t1⟩:=h.top;have c0:w.cell? ⟨ob,(st.length+1)*4,none⟩=some (.int .i64 3):=by rw[gX w _ _ _ _ _ h.N];exact h'
 have c1:w.cell? ⟨ob,(st.length+1)*4+1,none⟩=some (.string ⟨#[]⟩):=by rw[gX w _ _ _ _ _ h.N];exact t1
 have c2:w.cell? ⟨ob,(st.length+1)*4+2,none⟩=some (.slice A l.len E):=by rw[gX w _ _ _ _ _ h.N];exact t2
 have c3:w.cell? ⟨ob,(st.length+1)*4+3,none⟩=some (.int .i64 g):=by rw[gX w _ _ _ _ _ h.N];exact t3
 have hle:st.length+1+1<=cap:=h.hle;have rQ:=h.rQ;unfold maxLen at rQ;have jL:¬pb=ob:=h.jL;have aP:=Q h;clear h h' t1 t2 t3 u d';have F':(((st.length:Int)+1)==0)=false:=gJ;go_enter Tryz.func43,abe;go_wp2_with fail;go_quiet (fail);rename Nat=>i'
 go_wp2_with fail;go_quiet (fail);rename Nat=>j'
 obtain⟨W,j⟩:∃W,w.drewN (i'+j')=W:=⟨_,rfl⟩;have a':(w.drewN i').drewN j'=W:=by rw[<-j];simp
 first|rw[j]|rw[a']
 have d0:W.cell? ⟨ob,(st.length+1)*4,none⟩=some (.int .i64 3):=by rw[<-j];exact c0
 have d1:W.cell? ⟨ob,(st.length+1)*4+1,none⟩=some (.string ⟨#[]⟩):=by rw[<-j];exact c1
 have L':W.cell? ⟨ob,(st.length+1)*4+2,none⟩=some (.slice A l.len E):=by rw[<-j];exact c2
 have M':W.cell? ⟨ob,(st.length+1)*4+3,none⟩=some (.int .i64 g):=by rw[<-j];exact c3
 have q2:W.cell? ⟨pb,2,none⟩=some (.slice (some ⟨ob,0,none⟩) (st.length+1+1) cap):=by rw[<-j];exact p2
 have P':W.frozen? ⟨pb,2,none⟩=false:=by rw[<-j];exact pf
 have P:PS W F base pb s pos ((g,l)::(i,l')::st) ob cap cur (.slice A l.len E::m::iZ):=by rw[<-j];exact aP.out.ext (bq _) fun _ _=>rfl
 have k':Below base w W:=by rw[<-j];exact⟨rfl,rfl,rfl,bq _,fun _ _=>rfl⟩
 have m':=P.lp;have y':=P.lo;have HP:=Q P;have n':=Q k';clear P k' j a' aP p0 p1 p2 pf c0 c1 c2 c3 lp lo;go_wp2_with fail;obtain⟨aB,q⟩:∃aB,(W.setCell ⟨pb,2,none⟩ (.slice (some ⟨ob,0,none⟩) (List.length st+1) cap)).alloc (.cells #[.int .i64 3,.string ⟨#[]⟩,.slice A l.len E,.int .i64 g] 46)=aB:=⟨_,rfl⟩;rw[q];have y:=HP.out.aHg (w':=aB) (by rw[<-q,jV _ _ _ (by rw[(tL W _ _).1];exact m'),o_ HP.out.Z];rfl) (by rw[<-q];simp[World.setCell]) (fun b v' o'=>by rw[<-q,jV _ _ _ (by rw[(tL W _ _).1];exact v')];exact jF o')
 have b':Below base W aB:=by
  rw[<-q];exact((iN base W).setCell HP.out.bp _).alloc (by rw[(tL W _ _).1];exact HP.out.bw) _
 clear q;refine(Xf (t:=[]) (kids:=l) y.1 y.2 t').mono ?_;rintro e T' ⟨rfl,⟨F2,p',e',f',g',T⟩,c'⟩;have W':=T.p1;have X':=T.pf 1;have q':=Q T;have r':=Q c';have s':=Q b';clear T c' b' y;go_wp2_with fail;go_end0;exact⟨rfl,⟨F2,p',e',f',g',by have:=q'.out.setPos (pos+1);rwa[rW] at this⟩,((n'.out.trans s'.out).trans r'.out).setCell q'.out.bp _⟩
end
def bytes (s:dA):G dG:=s.data.toList
def jX (s:dA):(bytes s).length=s.size:=by rw[bytes,yP];rfl
def xZ (pos:Nat) (st:Stack):Prop:=st≠[]/\st.length<=41/\∀x∈st,x.2.len<=pos
def xZ.mono {p:Nat} {st:Stack} (h:xZ p st) (e:p<=b):xZ b st:=⟨h.1,h.2.1,fun x j=>fF (h.2.2 x j) e⟩
def xZ.addTop {p q:Nat} {st:Stack} (h:xZ p st) (A:p<q) {k:Int} {t:G dG} {kids:Fr} {o:Nat}:xZ q (addTop k t kids o st):=by
 obtain⟨u,w,j⟩:=h;cases st with
 |nil=>exact(u rfl).elim
 |cons x st=>
  obtain⟨a,l⟩:=x;refine⟨by simp[Go.Proofs.YtdjcfaaongngeaaGreatDoor.addTop],by simpa[Go.Proofs.YtdjcfaaongngeaaGreatDoor.addTop] using w,fun y e=>?_⟩
  rcases g_.1 e with rfl|e
  ·have:=j (a,l) bS
   simp only[Fr.S9,Fr.len] at this⊢;omega
  ·have:=j y (by simp[e]);omega
def Stepped (base pb:Nat) (s:dA) (pos:Nat) (fP:IJ) (w:ak) (e:AJ) (w':ak):Prop:=
 Below base w w'/\((e=.returned (.tuple #[])/\∃l h j,pQ w' l base pb s h j/\pos<h/\h<=s.size/\xZ h j/\go ((bytes s).drop h) h .plain j=fP)\/
  ∃k o,e=.panicked (Sd k o)/\fP=.error (k,o))
def go_plain {s:G dG} {pos:Nat} {st:Stack} (h:pos<s.length):go (s.drop pos) pos .plain st=match act s[pos] pos st with
 |.ok (m,j)=>go (s.drop (pos+1)) (pos+1) m j
 |.error e=>.error e:=by
 rw[Ac h];rfl
def Below.vE {w':ak} {m:Nat} (h:w'=w.drewN m):Below b w w':=by rw[h];exact⟨rfl,rfl,rfl,bq _,fun _ _=>rfl⟩
def PS.aGT {F:jP} {st:Stack} {l cap:Nat} {e:dF av} {j:G av} (h:PS w F b g A i st l cap e j):
 w.ownsRow b 46 4 (.slice (some ⟨l,0,none⟩) st.length cap) st.length (B_ st j):=
 ⟨Ul h.ok.len,.inr ⟨l,cap,e,rfl,h.bo,h.N,h.hle,h.rQ,h.jY,h.cells⟩⟩
def PS.aho {w':ak} {F:jP} {pb:Nat} {pos:Nat} {st:Stack} {W cap:Nat} {a':dF av} {y:G av} (h:PS w F i pb A pos st W cap a' y) (b':st≠[]) {c2:Nat}
 (l:abH w w' i pb W st.length A pos (B_ st y) g c2):pQ w' F i pb A (pos+1) ((pos,.nil)::st)/\Below i w w':=by
 have d':g≠pb:=by
  rcases l.nG with rfl|e
  ·exact nJ h.jL
  ·have:=h.lp;omega
 have e':∀j,¬F g j:=fun j hf=>by
  rcases l.nG with rfl|e
  ·exact h.fo j hf
  ·have:=h.fw g j hf;omega
 have g':xX F w w':=fun b j hf=>vU (l.other b (h.fw b j hf) (by rintro rfl;exact h.fp j hf) (by rintro rfl;exact h.fo j hf))
 obtain⟨f',E⟩:=l.own;rcases E with⟨e,_⟩|⟨n',c',P,e,T,h',i',j',k',l'⟩
 ·cases e
 injection e with e1 _ e3
 injection e1 with e1
 injection e1 with e1
 subst e1 e3;have m':kindOf st=3:=by
  cases st with
  |nil=>exact(b' rfl).elim
  |cons=>rfl
 refine⟨⟨g,c2,P,.slice none 0 0::y,l.head,h',k',i',j',?_,⟨⟨⟨[],Qd _ _ _ _,rfl⟩,fun b e=>by simp[Value.ownBlock] at e⟩,fun u _ b e=>by simp[Value.ownBlock] at e,h.ok.gZ g' (fun _ _ h=>h) (fun u q b e=>⟨l.other b (vg.lt e h.ok q) ?_ ?_,fun _ h=>h⟩)⟩,nJ d',h.bp,T,h.fp,e',?_,fF h.bw l.size,fun b j hf=>lZ (h.fw b j hf) l.size,h.fb⟩,?_⟩
 ·simp only[B_,m',gD]
  exact l'
 ·rintro rfl
  exact(h.uF u q).1 e
 ·rintro rfl
  exact(h.uF u q).2 e
 ·intro u q
  rcases g_.1 q with rfl|q
  ·simp[Value.ownBlock]
  ·refine⟨(h.uF u q).1,fun e=>?_⟩
   rcases l.nG with rfl|o'
   ·exact(h.uF u q).2 e
   ·have:=vg.lt e h.ok q;omega
 ·exact⟨l.os,l.tape,l.output,l.size,fun b T=>l.other b (lZ T h.bw) (by have:=h.bp;omega) (by have:=h.bo;omega)⟩
def nK (h:¬k=o):(k==o)=false:=by simpa using h
def pz (h:k=o):(k==o)=true:=by simpa using h
def atD {F:jP} {pos:Nat} {st:Stack} (h:pQ w F b i A pos st) (hL:xZ pos st) (hlt:pos<A.size) (T:A.size<=65536) (hc:(A[pos].toNat:Int)=40\/(A[pos].toNat:Int)=41):
 Calls Tryz.prog 43 #[.pointer (some ⟨i,0,none⟩)] w (Stepped b i A pos (go ((bytes A).drop pos) pos .plain st) w):=by
 have b':pos<(bytes A).length:=Dk;rw[go_plain b'];obtain⟨c',cap,m',W,h⟩:=h;obtain⟨u,q,E⟩:=hL;rcases hc with hc|hc
 ·have P:bt (bytes A)[pos]=40:=hc
  cases st with
  |nil=>exact(u rfl).elim
  |cons x st=>
   by_cases h':40<=st.length
   ·refine(aG3 w i c' st.length cap pos A h.p0 h.p1 (by simpa using h.p2) hlt T (pz hc) h' (by rw[gD] at q;omega)).mono ?_
    rintro e w' ⟨rfl,m,d'⟩;refine⟨Below.vE d',.inr ⟨9,pos,rfl,?_⟩⟩;rw[an9 P (by rw[gD];omega)]
   ·refine(aG5 w b i c' st.length cap pos A _ (Q (by simpa using h.Z)) (by simpa using h.aGT) h.bw h.jL hlt T (pz hc) I).mono ?_
    rintro e w' ⟨rfl,g,c2,i'⟩;obtain⟨e',f'⟩:=h.aho u i';refine⟨f',.inl ⟨rfl,F,pos+1,_,e',by omega,by omega,⟨by simp,by simp at q⊢;omega,fun y j=>?_⟩,?_⟩⟩
    ·rcases g_.1 j with rfl|j
     ·exact gK _
     ·have:=E y j;omega
    ·rw[aod P (by rw[gD];omega)]
 ·have P:bt (bytes A)[pos]=41:=hc
  cases st with
  |nil=>exact(u rfl).elim
  |cons x st=>
   cases st with
   |nil=>
    refine(aG4 w i c' cap pos A h.p0 h.p1 (by simpa using h.p2) hlt T (nK I)).mono ?_
    rintro e w' ⟨rfl,m,d'⟩;refine⟨Below.vE d',.inr ⟨2,pos,rfl,?_⟩⟩;rw[aob P]
   |cons y st=>
    obtain⟨p,l⟩:=x;obtain⟨j',l'⟩:=y;have g':=h.ok.len
    match W,g' with
    |o'::n'::W,_=>
     have a':=E (j',l') bS;refine(aG2 h hlt T (nK I) (by simp at q;omega) (by simp at a';omega)).mono ?_
     rintro e w' ⟨rfl,⟨k',e'⟩,f'⟩;refine⟨f',.inl ⟨rfl,k',pos+1,_,e',by omega,by omega,⟨by simp,by simp at q⊢;omega,fun y j=>?_⟩,?_⟩⟩
     ·rcases g_.1 j with rfl|j
      ·simp only[Fr.S9,Fr.len] at a'⊢
       omega
      ·have:=E y (by simp[j]);omega
     ·rw[an7 P]
attribute [local go_sem↓] P8 PZ
def Xp (s:dA) (a b:Nat):bytes (s.extract a b)=((bytes s).drop a).take (b-a):=by
 simp[bytes,awQ]
def aFu (s:dA) (pos:Nat) (c:dG):Lib.indexByte (s.extract pos s.size).data.toList c=Lib.indexByte ((bytes s).drop pos) c:=by
 have h:=Xp s pos s.size
 rw[AZ (by rw[sK,jX];exact bq _)] at h
 rw[<-h];rfl
def go_comment_index (st:Stack):∀(l:G dG) (pos:Nat),go l pos .comment st=if 0<=Lib.indexByte l 10 then go (l.drop (Lib.indexByte l 10).toNat) (pos+(Lib.indexByte l 10).toNat) .plain st else go [] (pos+l.length) .plain st
 |[],_=>by simp[Lib.indexByte,go]
 |c::l,pos=>by
  have q:=go_comment_index st l (pos+1)
  by_cases hc:c=10
  ·subst hc
   simp[Lib.indexByte,go,bt,act]
  ·have u:(bt c==10)=false:=by
    simp only[bt,zH,ne_eq];intro h;exact hc (UInt8.toNat.inj (by have A:(c.toNat:Int)=10:=h;show c.toNat=10;omega))
   have y:=Lib.indexByte_ge l 10;simp only[go,u,Il,Me];rw[q];have e:(c==10)=false:=by simpa using hc
   by_cases J:Lib.indexByte l 10=-1
   ·have j:Lib.indexByte (c::l) 10=-1:=by simp[Lib.indexByte,e,J]
    rw[J,j,bB I,bB I,gD,show pos+1+l.length=pos+(l.length+1) by omega]
    rfl
   ·have j:Lib.indexByte (c::l) 10=Lib.indexByte l 10+1:=by simp[Lib.indexByte,e,J]
    have w:(Lib.indexByte l 10+1).toNat=(Lib.indexByte l 10).toNat+1:=I;rw[j,bK I,bK I,w,aa0,show pos+1+(Lib.indexByte l 10).toNat=pos+((Lib.indexByte l 10).toNat+1) by omega]
section
variable {w:ak} {F:jP} {base pb:Nat} {s:dA} {pos:Nat} {st:Stack}
def asG (s:dA) (pos:Nat) (i:Int) (J:Hid (Lib.indexByte ((bytes s).drop pos) 10=i)) (w:ak):
 Calls Tryz.prog 70 #[.string (s.extract pos s.size),.int .u8 10] w fun e w'=>e=.returned (.int .i64 i)/\w'=w:=by
 refine(Tryz.strings_IndexByte (s.extract pos s.size) 10 w).mono ?_;rintro e w' ⟨rfl,rfl⟩;refine⟨?_,rfl⟩;have h:=aFu s pos 10;rw[J.out] at h;rw[<-h]
 rfl
def asH:∀(l:G dG) (c:dG),Lib.indexByte l c<l.length\/(Lib.indexByte l c=-1/\l=[])
 |[],_=>.inr ⟨rfl,rfl⟩
 |b::l,c=>by
  left
  have:=asH l c;simp only[Lib.indexByte,gD];split
  ·omega
  ·split
   ·omega
   ·rcases this with h|h
    ·omega
    ·omega
def aCW {e:dF av} {j:G av} (h:PS w F base pb s pos st b g e j) (hL:xZ pos st) (m:Nat) (hn:0<i) (q:pos+i<=s.size):
 Stepped base pb s pos (go ((bytes s).drop (pos+i)) (pos+i) .plain st) w (.returned (.tuple #[])) ((w.drewN m).setCell ⟨pb,1,none⟩ (.int .i64 ((pos:Int)+i))):=by
 have l:=(h.ext (w':=w.drewN m) (bq _) fun _ _=>rfl).setPos (pos+i);rw[rW] at l;exact⟨(Below.vE (m:=m) rfl).setCell h.bp _,.inl ⟨rfl,F,pos+i,st,⟨b,g,e,j,l⟩,by omega,q,hL.mono I,rfl⟩⟩
def aCX {e:dF av} {j:G av} (h:PS w F base pb s pos st b g e j) (hL:xZ pos st) (m:Nat) (q:pos<s.size):
 Stepped base pb s pos (go ((bytes s).drop s.size) s.size .plain st) w (.returned (.tuple #[])) ((w.drewN m).setCell ⟨pb,1,none⟩ (.int .i64 (s.size:Int))):=by
 have l:=(h.ext (w':=w.drewN m) (bq _) fun _ _=>rfl).setPos s.size;exact⟨(Below.vE (m:=m) rfl).setCell h.bp _,.inl ⟨rfl,F,s.size,st,⟨b,g,e,j,l⟩,by omega,by omega,hL.mono I,rfl⟩⟩
def aCY (h:pQ w F base pb s pos st) (hL:xZ pos st) (hlt:pos<s.size) (g':s.size<=65536) (hc:(s[pos].toNat:Int)=59):
 Calls Tryz.prog 42 #[.pointer (some ⟨pb,0,none⟩)] w (Stepped base pb s pos (go ((bytes s).drop pos) pos .plain st) w):=by
 have e:pos<(bytes s).length:=Dk;have u:bt (bytes s)[pos]=59:=hc;obtain⟨i,J⟩:∃i,Lib.indexByte ((bytes s).drop pos) 10=i:=⟨_,rfl⟩;have P:=Lib.indexByte_ge ((bytes s).drop pos) 10;have j:=asH ((bytes s).drop pos) 10;have y:¬(bytes s)[pos]=10:=by
  intro h;rw[h] at u;simp[bt] at u
 have A:go ((bytes s).drop pos) pos .plain st=if 0<=i then go ((bytes s).drop (pos+i.toNat)) (pos+i.toNat) .plain st else go ((bytes s).drop s.size) s.size .plain st:=by
  have W:go ((bytes s).drop pos) pos .plain st=go ((bytes s).drop pos) pos .comment st:=by
   rw[go_plain e,an8 u,go_comment_more e (nK I)]
  rw[W,go_comment_index,J];split
  ·rw[List.drop_drop]
  ·rw[yQ (i:=s.size) RY,sK,jX,show pos+(s.size-pos)=s.size by omega]
 have d':¬i=0:=by
  intro a';have:=(Lib.indexByte_some (l:=(bytes s).drop pos) (c:=10) (o:=0) (by rw[J,a'];rfl)).1
  rw[P9] at this;rw[qy,gM e] at this;exact y (by injection this)
 rw[A];rw[J] at P j;rw[sK,jX] at j;have b':i<(s.size:Int)-pos:=by
  rcases j with h|h
  ·omega
  ·omega
 have T:=Q J;clear J A j y u e;obtain⟨h',cap,e',f',h⟩:=h;have p0:=h.p0;have p1:=h.p1;have pf:=h.pf 1;have aP:=Q h;have HL:=Q hL;clear h hL;have i':(0:Int)<=(pos:Int):=I;have j':(pos:Int)<=(s.size:Int):=I
 by_cases q:0<=i
 ·obtain⟨n,rfl⟩:=aiM q
  rw[bK q,aiN];go_enter Tryz.func42,Tryz.ntmps42;go_wp2_with fail;go_quiet ((go_at_call 70;exact Io (asG _ _ _ T _)));rename Nat=>E
  go_wp2_with fail;refine ni (Iz rfl _ _ _) rfl ?_;exact aCW aP.out HL.out E I I
 ·have c':i=-1:=by omega
  subst c';rw[bB I];go_enter Tryz.func42,Tryz.ntmps42;go_wp2_with fail;go_quiet ((go_at_call 70;exact Io (asG _ _ _ T _)));rename Nat=>E
  go_wp2_with fail;go_end0;exact aCX aP.out HL.out E hlt
def Ux (c:Int) (b:aK) (h:Hid (pq c=b)) (w:ak):Calls Tryz.prog 45 #[.int .u8 c] w fun e w'=>e=.returned (.bool b)/\w'=w:=
 (awF c w).mono fun _ _ ⟨j,l⟩=>⟨by rw[j,h.out],l.symm⟩
def piece (s:dA) (a b:Nat):G dG:=((bytes s).drop a).take (b-a)
def aHb {s:dA} {a:Nat} (h:b<=s.size):(piece s a b).length=b-a:=by
 rw[piece,oL,sK,jX];omega
def aHc (h:b<A.size) (e:g<=b):piece A g (b+1)=piece A g b++[A[b]]:=by
 have j:b<(bytes A).length:=KY;rw[piece,piece,show b+1-g=(b-g)+1 by omega,P_ (by rw[sK];omega),List.getElem_drop]
 congr 1
 simp only[show g+(b-g)=b by omega]
 rfl
def atF (s:dA) (a:Nat):piece s a a=[]:=by simp[piece]
def go_word_step {st:Stack} (h:g<A.size) (e:b<=g) (j:pq (A[g].toNat:Int)=true):
 go ((bytes A).drop g) g (.word b (piece A b g)) st=go ((bytes A).drop (g+1)) (g+1) (.word b (piece A b (g+1))) st:=by
 have l:g<(bytes A).length:=KY;rw[go_word_more b _ l j,aHc h e]
 rfl
def axp (base pb:Nat) (s:dA) (pos:Nat) (st:Stack) (F:jP) (j cap:Nat) (e:dF av) (h:G av) (fP:IJ) (w:ak) (k q:Nat) (wr:ak):Prop:=
 k=s.size-q/\PS wr F base pb s q st j cap e h/\pos<=q/\q<=s.size/\Below base w wr/\go ((bytes s).drop q) q (.word pos (piece s pos q)) st=fP
def PU {fP:IJ} (l:b<=s.size) (u:∀h:b<s.size,pq (s[b].toNat:Int)=false) (j:go ((bytes s).drop b) b (.word pos (piece s pos b)) st=fP):
 (¬b-pos<=24->fP=.error (4,pos))/\(b-pos<=24->go ((bytes s).drop b) b .plain (addTop 1 (piece s pos b) .nil pos st)=fP):=by
 have h:=go_word_done (s:=bytes s) (pos:=b) (st:=st) pos (piece s pos b) (fun e=>u (by rw[jX] at e;exact e))
 rw[j] at h;have e:=aHb (s:=s) (a:=pos) l;refine⟨fun w=>?_,fun w=>?_⟩
 ·rw[h,Ik,bB I]
 ·rw[h,Ik,bK I]
def afI (s:dA) (a b:Nat):s.extract a b=⟨(piece s a b).toArray⟩:=by
 have h:=Xp s a b
 have e:(s.extract a b).data=(piece s a b).toArray:=by
  apply aaU;exact h
 rw[<-e]
def aOv (h:pQ w F base pb s pos st) (hL:xZ pos st) (hlt:pos<s.size) (W':s.size<=65536) (hc:pq (s[pos].toNat:Int)=true):
 Calls Tryz.prog 46 #[.pointer (some ⟨pb,0,none⟩)] w (Stepped base pb s pos (go ((bytes s).drop pos) pos .plain st) w):=by
 have f':pos<(bytes s).length:=Dk;obtain⟨fP,hR⟩:∃fP,go ((bytes s).drop pos) pos .plain st=fP:=⟨_,rfl⟩;have q':go ((bytes s).drop pos) pos (.word pos (piece s pos pos)) st=fP:=by
  rw[<-hR,go_plain f',aog (show pq (bt (bytes s)[pos])=true from hc),atF,go_word_more pos [] f' hc]
  rfl
 rw[hR];obtain⟨h',cap,A,j,h⟩:=h;have p1:=h.p1;have aP:=Q h;have HL:=Q hL;have D':=Q hc;have HR:=Q q';clear h hL hc hR q' f';go_enter Tryz.func46,Tryz.ntmps46;go_wp2_with fail;go_loopg [] (s.size-pos) (fun k wr=>∃q,axp base pb s pos st F h' cap A j fP w k q wr)
 case atStart=>exact⟨pos,rfl,aP.out,bq _,by omega,iN _ _,HR.out⟩
 case round=>
  obtain⟨q,x',E,r',g',s',t'⟩:=hrel;have q0:=E.p0;have q1:=E.p1;have y':=E.pf 1;have E':=Q x';have A2:=Q E;have A3:=Q s';have i':=Q t';clear x' E s' t';have X':(0:Int)<=(q:Int):=I
  by_cases j':q<s.size
  ·have F':(q:Int)<(s.size:Int):=by omega
   cases hwb:pq (s[q].toNat:Int)
   ·have k':=Q (PU g' (fun _=>hwb) i'.out)
    have l':=Q hwb;have z':pos<q:=by
     rcases ai3 r' with h|h
     ·exact h
     ·subst h;have:=D'.out;rw[hwb] at this;cases this
    clear hwb i'
    by_cases y:q-pos<=24
    ·have u':¬(24:Int)<(q:Int)-(pos:Int):=by omega
     go_wp2_with fail;go_quiet ((go_at_call 45;exact Io (Ux _ _ l' _)));rename Nat=>m1
     go_wp2_with fail;obtain⟨W,hW⟩:∃W,wr.drewN m1=W:=⟨_,rfl⟩;rw[hW];have v0:W.cell? ⟨pb,0,none⟩=some (.string s):=by rw[<-hW];exact q0
     have v1:W.cell? ⟨pb,1,none⟩=some (.int .i64 q):=by rw[<-hW];exact q1
     have P:PS W F base pb s q st h' cap A j:=aqQ;have T:Below base w W:=arx;have a':=Q P;have b':=Q T;have L':(pos:Int)<=(q:Int):=I;have M':(q:Int)<=(s.size:Int):=I;clear hW P T q0 q1 y' A2 A3;go_still_tail 13,aS;change wpList _ _ _ _ _ W.drew;have c':PS W.drew F base pb s q st h' cap A j:=a'.out.ext (bq _) fun _ _=>rfl;have d':Below base w W.drew:=b'.out.drew;have e':=Q c';have m':=Q d';clear c' d' a' b' v0 v1
     generalize W.drew=aB at*
     go_wp2_with fail;rw[afI];have u:=HL.out
     match st,j,u,e'.out,e'.out.ok.len with
     |(p,l)::st,P'::j,u,n',_=>
      have v':=u.2.2 (p,l) bS;refine(Xf (kids:=.nil) n' (Rd.nil _ _ _) (by simp at v';omega)).mono ?_
      rintro e T' ⟨rfl,⟨F2,o'⟩,p'⟩;go_wp2_with fail;go_end0;exact⟨m'.out.trans p',.inl ⟨rfl,F2,q,_,o',by omega,g',u.addTop (k:=1) (t:=piece s pos q) (kids:=.nil) (o:=pos) I,k'.out.2 y⟩⟩
    ·have u':(24:Int)<(q:Int)-(pos:Int):=by omega
     go_wp2_with fail;go_quiet ((go_at_call 45;exact Io (Ux _ _ l' _)));rename Nat=>m1
     go_wp2_with fail;refine(Bu _ _ _).mono ?_;rintro e w' ⟨rfl,rfl⟩;exact⟨rfl,A3.out.trans (Below.vE (m:=m1) rfl),.inr ⟨4,pos,rfl,k'.out.1 y⟩⟩
   ·have l':=Q hwb
    clear hwb;go_wp2_with fail;go_quiet ((go_at_call 45;exact Io (Ux _ _ l' _)));rename Nat=>m1
    go_wp2_with fail;go_roundg (s.size-(q+1))
    case measure=>have:=E'.out;omega
    case rel=>
     have A':=(A2.out.ext (w':=wr.drewN m1) (bq _) fun _ _=>rfl).setPos (q+1);rw[rW] at A';exact⟨q+1,rfl,A',by omega,by omega,A3.out.trans ((Below.vE (m:=m1) rfl).setCell A2.out.bp _),by rw[<-go_word_step j' r' l'.out];exact i'.out⟩
  ·have F':decide (q<s.size)=false:=by simp;omega
   have k':=Q (PU g' (fun h=>absurd h j') i'.out);clear i';have z':pos<q:=I
   by_cases y:q-pos<=24
   ·have u':¬(24:Int)<(q:Int)-(pos:Int):=by omega
    go_wp2_with fail;go_quiet (fail);rename Nat=>m1
    go_wp2_with fail;obtain⟨W,hW⟩:∃W,wr.drewN m1=W:=⟨_,rfl⟩;rw[hW];have v0:W.cell? ⟨pb,0,none⟩=some (.string s):=by rw[<-hW];exact q0
    have v1:W.cell? ⟨pb,1,none⟩=some (.int .i64 q):=by rw[<-hW];exact q1
    have P:PS W F base pb s q st h' cap A j:=aqQ;have T:Below base w W:=arx;have a':=Q P;have b':=Q T;have L':(pos:Int)<=(q:Int):=I;have M':(q:Int)<=(s.size:Int):=I;clear hW P T q0 q1 y' A2 A3;go_still_tail 13,aS;change wpList _ _ _ _ _ W.drew;have c':PS W.drew F base pb s q st h' cap A j:=a'.out.ext (bq _) fun _ _=>rfl;have d':Below base w W.drew:=b'.out.drew;have e':=Q c';have m':=Q d';clear c' d' a' b' v0 v1
    generalize W.drew=aB at*
    go_wp2_with fail;rw[afI];have u:=HL.out
    match st,j,u,e'.out,e'.out.ok.len with
    |(p,l)::st,P'::j,u,n',_=>
     have v':=u.2.2 (p,l) bS;refine(Xf (kids:=.nil) n' (Rd.nil _ _ _) (by simp at v';omega)).mono ?_
     rintro e T' ⟨rfl,⟨F2,o'⟩,p'⟩;go_wp2_with fail;go_end0;exact⟨m'.out.trans p',.inl ⟨rfl,F2,q,_,o',by omega,g',u.addTop (k:=1) (t:=piece s pos q) (kids:=.nil) (o:=pos) I,k'.out.2 y⟩⟩
   ·have u':(24:Int)<(q:Int)-(pos:Int):=by omega
    go_wp2_with fail;go_quiet (fail);rename Nat=>m1
    go_wp2_with fail;refine(Bu _ _ _).mono ?_;rintro e w' ⟨rfl,rfl⟩;exact⟨rfl,A3.out.trans (Below.vE (m:=m1) rfl),.inr ⟨4,pos,rfl,k'.out.1 y⟩⟩
end
end
end
end Go.Proofs.YtdjcfaaongngeaaGreatDoor

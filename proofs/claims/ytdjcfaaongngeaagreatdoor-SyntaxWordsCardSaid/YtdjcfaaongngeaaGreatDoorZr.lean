/- A part of the proof: see the last text. -/
import Derived.Test.YtdjcfaaongngeaaGreatDoorZn
set_option linter.all false
set_option maxRecDepth 100000
set_option maxHeartbeats 0
namespace Go.Proofs.YtdjcfaaongngeaaGreatDoor
noncomputable section
variable {b g i:Nat}{T:Nat->ah D}{W w:ak}{v m:av}{P:Prop}{d:D}{q:G Nat}{k o:Int}{A:dA}{X:G (G Nat)}
section
open Go Go.RowKit Go.Shelf
attribute [local go_sem] abb
structure Tv where
 k:Int
 s:ByteArray
 i:Int
 a:Option Addr
 n:Nat
 c:Nat
abbrev Tv.val (x:Tv):av:=.agg #[.int .i64 x.k,.string x.s,.int .i64 x.i,.slice x.a x.n x.c]
abbrev Et:=Nat×G D×Tv
def oh (arr:dF av) (q:Nat):Tv:=⟨match arr[q]? with|some (.int _ n)=>n|_=>0,match arr[q+1]? with|some (.string s)=>s|_=>⟨#[]⟩,match arr[q+2]? with|some (.int _ n)=>n|_=>0,
 match arr[q+3]? with|some (.slice a _ _)=>a|_=>none,match arr[q+3]? with|some (.slice _ n _)=>n|_=>0,match arr[q+3]? with|some (.slice _ _ c)=>c|_=>0⟩
structure Ev (W:World) (g q:Nat) (x:Tv):Prop where
 c0:W.cell? ⟨g,q,none⟩=some (.int .i64 x.k)
 c1:W.cell? ⟨g,q+1,none⟩=some (.string x.s)
 c2:W.cell? ⟨g,q+2,none⟩=some (.int .i64 x.i)
 c3:W.cell? ⟨g,q+3,none⟩=some (.slice x.a x.n x.c)
def Ev.below {x:Tv} (h:Ev W g b x) (e:Below i W w) (j:g<i):Ev w g b x:=
 ⟨(e.cell (p:=⟨g,b,none⟩) j).trans h.c0,(e.cell (p:=⟨g,b+1,none⟩) j).trans h.c1,(e.cell (p:=⟨g,b+2,none⟩) j).trans h.c2,(e.cell (p:=⟨g,b+3,none⟩) j).trans h.c3⟩
def NR (rows:G (G D)) (arr:dF av) (d i:Nat):Et:=(i,rows[i]?.getD [],oh arr (d+i*4))
def pW (rows:G (G D)) (arr:dF av) (d j:Nat):Et:=NR rows arr d (rows.length-1-j)
def J_ (e h:Nat) (W W':ak):Prop:=Below e W W'/\W'.heap[h]?=W.heap[h]?
def asW {dK:ak} (h:J_ b g W w) (k:J_ b g w dK):J_ b g W dK:=⟨h.1.trans k.1,k.2.trans h.2⟩
def aFS (hn:b<=w.heap.size) (u:g<w.heap.size) (W:ak) (l:Nat) (o o':Obj) (e:w.heap.size<=l) (h:W.heap[l]?=some o) (j:o.isCells=false) (q:o.isWalk=false):J_ b g W (W.putObj l o'):=
 ⟨UY hn W l o o' e h j q,aje I⟩
def aCv (F:Fence) (n:Nat) (h:F.fn 129) (T:F.round=none) (hn:1<=n) (l q j g d len cap:Nat) (rows:G (G D)) (arr:dF av) (i':rows.length=len) (j':len<=1000000) (k':g<j) (fu a':G Et->ak->Prop)
 (l':∀pre x W,fu pre W->pre.length<len->YieldAt F (n-1) Tryz.prog l #[.int .i64 (x.1:Int),x.2.2.val] W fun e W'=>
  (e=.returned (.bool true)/\fu (pre++[x]) W'/\J_ j q W W')\/(e=.returned (.bool false)/\a' (pre++[x]) W'))
 (W:ak) (b':W.cell? ⟨q,0,none⟩=some (.slice (some ⟨g,d,none⟩) len cap)) (hc:∀i,i<len->Ev W g (d+i*4) (oh arr (d+i*4))) (m':fu [] W):
 CallsIn F n Tryz.prog 129 #[.func (.yield l) #[] #[],.pointer (some ⟨q,0,none⟩)] W fun e W'=>(∃v,e=.returned v)/\
  ((∃c',c'=upto (pW rows arr d) len/\fu c' W')\/(∃pre,(∃k,k<=len/\pre=upto (pW rows arr d) k)/\a' pre W')):=by
 refine J8 Tryz.func129 rfl h ?_ T;simp only[Tryz.ntmps129,wN,gD,lN,Nat.reduceAdd,Nat.reduceSub,FM,FN,FT,Ed,qW,wM];have o':IntKind.i64.wrap ((len:Int)-1)=(len:Int)-1:=vS I I
 gi_wp2
 gi_loopw [3] (fun i wr=>∃k:Nat,k<=len/\i=.int .i64 ((len:Int)-1-k)/\fu (upto (pW rows arr d) k) wr/\J_ j q W wr)
  (fun i _=>((intOf i)+1).toNat)
 case atStart=>exact⟨0,gK _,by simp,m',iN _ _,rfl⟩
 case round=>
  obtain⟨k,t',rfl,y,u⟩:=hrel
  by_cases d':k<len
  ·obtain⟨m,u'⟩:∃m:Nat,k+1+m=len:=⟨len-(k+1),by omega⟩
   have J:(len:Int)-1-k=(m:Int):=I;have A:=(hc m I).below u.1 k';have p':wr.cell? ⟨q,0,none⟩=some (.slice (some ⟨g,d,none⟩) len cap):=(vU (a:=⟨q,0,none⟩) u.2).trans b';obtain⟨x,E⟩:∃x:Et,pW rows arr d k=x:=⟨_,rfl⟩;have w:x=NR rows arr d m:=by rw[<-E];simp[pW,show rows.length-1-k=m by omega]
   have e1:(x.1:Int)=(m:Int):=by rw[w];rfl
   have e':Ev wr g (d+m*4) x.2.2:=by rw[w];exact A
   clear A w;obtain⟨y0,y1,v',w'⟩:=e';have q':IntKind.i64.wrap ((m:Int)-1)=(m:Int)-1:=vS I I;have r':(m:Int)<(len:Int):=I;have s':(0:Int)<=(m:Int):=I;rw[J];obtain⟨fn,n',assign,body,f',hR⟩:=l' _ x wr y (by rw[awr];exact d')
   dsimp only[Tv.val] at f';rw[e1] at f'
   gi_wp2
   refine hR.mono ?_;rintro e x' (⟨rfl,g',h'⟩|⟨rfl,P⟩)
   ·gi_wp2
    go_roundw
    case rel=>exact⟨k+1,by omega,by simp;omega,by rw[PK,E];exact g',asW u h'⟩
    case measure=>simp[intOf]
   ·gi_wp2
    refine ni (Iz rfl _ _ _) rfl ?_;exact⟨⟨_,rfl⟩,.inr ⟨_,⟨k+1,by omega,by rw[PK,E]⟩,P⟩⟩
  ·obtain rfl:k=len:=by omega
   have J:(k:Int)-1-k=-1:=I;rw[J]
   gi_wp2
   go_end0;exact⟨⟨_,rfl⟩,.inl ⟨_,rfl,y⟩⟩
def aCw (F:Fence) (n:Nat) (h:F.fn 129) (j:F.round=none) (l q cap:Nat) (a:ah Addr) (fu:G Et->ak->Prop) (W:ak) (y:W.cell? ⟨q,0,none⟩=some (.slice a 0 cap)) (w:fu [] W):
 CallsIn F n Tryz.prog 129 #[.func (.yield l) #[] #[],.pointer (some ⟨q,0,none⟩)] W fun e W'=>(∃v,e=.returned v)/\fu [] W':=by
 refine J8 Tryz.func129 rfl h ?_ j;simp only[Tryz.ntmps129,wN,gD,lN,Nat.reduceAdd,Nat.reduceSub,FM,FN,FT,Ed,qW,wM]
 gi_wp2
 gi_loopw [3] (fun i wr=>i=.int .i64 (-1)/\fu [] wr) (fun _ _=>0)
 case atStart=>exact⟨rfl,w⟩
 case round=>
  obtain⟨rfl,u⟩:=hrel
  gi_wp2
  go_end0;exact⟨⟨_,rfl⟩,u⟩
def aCx (F:Fence) (n:Nat) (h:F.fn 108) (j:F.round=none) (a:ah Addr) (len cap:Nat) (w:ak):
 CallsIn F n Tryz.prog 108 #[.slice a len cap] w fun e w'=>e=.returned (.func (.func 129) #[] #[.pointer (some ⟨w.heap.size,0,none⟩)])/\w'=w.alloc (.cells #[.slice a len cap] 66):=by
 refine J8 Tryz.func108 rfl h ?_ j;simp only[Tryz.ntmps108,wN,gD,lN,Nat.reduceAdd,Nat.reduceSub,FM,FN,FT,Ed,qW,wM]
 gi_wp2
 go_ret;exact⟨rfl,rfl⟩
def zN (e:Nat) (W:ak) (h:av) (rows:G (G D)) (arr:dF av) (d:Nat):Prop:=
 ∃a cap,h=.slice a rows.length cap/\(rows=[]\/∃g,a=some ⟨g,d,none⟩/\g<e/\∀i,i<rows.length->Ev W g (d+i*4) (oh arr (d+i*4)))
def zN.below {j:Nat} {A aD:ak} (h:Below j A aD) {q:av} {rows:G (G D)} {arr:dF av} {d:Nat}:zN j A q rows arr d->zN j aD q rows arr d
 |⟨a,cap,e,.inl l⟩=>⟨a,cap,e,.inl l⟩
 |⟨a,cap,e,.inr ⟨g,l,u,w⟩⟩=>⟨a,cap,e,.inr ⟨g,l,u,fun i J=>(w i J).below h u⟩⟩
def aCy (F:Fence) (n:Nat) (h:F.fn 129) (y:F.round=none) (hn:1<=n) (q j:Nat) (P:av) (rows:G (G D)) (arr:dF av) (d:Nat) (E:rows.length<=1000000) (w:ak) (T:q<w.heap.size) (u:j<=w.heap.size)
 (hc:w.cell? ⟨q,0,none⟩=some P) (c':zN j w P rows arr d):
 SeqStopsK F n Tryz.prog 129 #[.pointer (some ⟨q,0,none⟩)] (fun x:Et=>#[Value.int .i64 (x.1:Int),x.2.2.val]) (J_ j q) (fun d'=>d'=upto (pW rows arr d) rows.length) (fun pre=>∃k,k<=rows.length/\pre=upto (pW rows arr d) k) rows.length w:=fun l fu e' W a' _ _ f' b'=>by
 have A:=(a'.cell (p:=⟨q,0,none⟩) T).trans hc;rcases c'.below (a'.mono u) with⟨a,cap,rfl,rfl|⟨g,rfl,g',jY⟩⟩
 ·exact(aCw F n h y l q cap a fu W A b').mono fun e W' ⟨h',i'⟩=>⟨h',.inl ⟨_,rfl,i'⟩⟩
 ·exact aCv F n h y hn l q j g d rows.length cap rows arr rfl E g' fu e' f' W A jY b'
attribute [local go_sem] abb
def jB (h:Below w.heap.size w W) (o:Obj):Below w.heap.size w (W.alloc o):=h.alloc h.size o
structure Vk (W:World) (b c:Nat) (i:Int):Prop where
 c0:W.cell? ⟨b,0,none⟩=some (.int .i64 5)
 c1:W.cell? ⟨b,1,none⟩=some (.string ⟨#[]⟩)
 c2:W.cell? ⟨b,2,none⟩=some (.int .i64 i)
 c3:W.cell? ⟨b,3,none⟩=some (.slice none 0 0)
 d0:W.cell? ⟨c,0,none⟩=some (.int .i64 0)
 d1:W.cell? ⟨c,1,none⟩=some (.int .i64 0)
def Vk.kept {W':ak} {i:Int} {row:ah Nat} (h:Vk W b g i) (e:W.grownBy W' row) (U:∀r,row=some r->∃o:Obj,W.heap[r]?=some o/\o.isCells=false):Vk W' b g i:=
 ⟨El h.c0 e U,El h.c1 e U,El h.c2 e U,El h.c3 e U,El h.d0 e U,El h.d1 e U⟩
structure Wc (W:World) (b:Nat) (k:Int) (s:ByteArray) (a2:Option Addr) (n2 m2:Nat) (o:Int):Prop where
 c0:W.cell? ⟨b,0,none⟩=some (.int .i64 k)
 c1:W.cell? ⟨b,1,none⟩=some (.string s)
 c2:W.cell? ⟨b,2,none⟩=some (.slice a2 n2 m2)
 c3:W.cell? ⟨b,3,none⟩=some (.int .i64 o)
 q0:W.cell? ⟨b+1+1,0,none⟩=some (.int .i64 0)
 q1:W.cell? ⟨b+1+1,1,none⟩=some (.string ⟨#[]⟩)
 q2:W.cell? ⟨b+1+1,2,none⟩=some (.int .i64 0)
 q3:W.cell? ⟨b+1+1,3,none⟩=some (.slice none 0 0)
 p0:W.cell? ⟨b+1+1+1,0,none⟩=some (.int .i64 0)
 p1:W.cell? ⟨b+1+1+1,1,none⟩=some (.int .i64 0)
 z0:W.frozen? ⟨b+1+1,0,none⟩=false
 z1:W.frozen? ⟨b+1+1,1,none⟩=false
 z2:W.frozen? ⟨b+1+1,2,none⟩=false
 z3:W.frozen? ⟨b+1+1,3,none⟩=false
 y0:W.frozen? ⟨b+1+1+1,0,none⟩=false
 y1:W.frozen? ⟨b+1+1+1,1,none⟩=false
def Wc.below {l:ah Addr} {q:Nat} (h:Wc W b k A l i q o) (u:Below g W w) (y:b+3<g):Wc w b k A l i q o:=by
 have c (d j:Nat) (e:d<g):w.cell? ⟨d,j,none⟩=W.cell? ⟨d,j,none⟩:=u.cell (p:=⟨d,j,none⟩) e;have f (d j:Nat) (e:d<g):w.frozen? ⟨d,j,none⟩=W.frozen? ⟨d,j,none⟩:=u.frozen (p:=⟨d,j,none⟩) e;constructor
 all_goals first|rw[c _ _ I]|rw[f _ _ I]
 all_goals first|exact h.c0|exact h.c1|exact h.c2|exact h.c3|exact h.q0|exact h.q1|exact h.q2|exact h.q3|exact h.p0|exact h.p1|exact h.z0|exact h.z1|exact h.z2|exact h.z3|exact h.y0|exact h.y1
def aOA {j:Nat} (h:j<=1000000):wrap64 (j:Int)=j:=by
 unfold wrap64;omega
def six {P T z0 z1:av} (v0 v1 j l q u:av) (q0:W.cell? ⟨b,0,none⟩=some v) (q1:W.cell? ⟨b,1,none⟩=some m) (q2:W.cell? ⟨b,2,none⟩=some P) (q3:W.cell? ⟨b,3,none⟩=some T)
 (p0:W.cell? ⟨g,0,none⟩=some z0) (p1:W.cell? ⟨g,1,none⟩=some z1) (a':Below w.heap.size w W) (hc:w.heap.size<=b) (E:w.heap.size<=g) (A:b≠g) (b':w.heap.size<=i) (c':W.heap[i]?=some (.deferred (some []))):
 ∃X,((((((W.setCell ⟨b,0,none⟩ v0).setCell ⟨b,1,none⟩ v1).setCell ⟨b,2,none⟩ j).setCell ⟨b,3,none⟩ l).setCell ⟨g,0,none⟩ q).setCell ⟨g,1,none⟩ u)=X/\X.heap[i]?=some (.deferred (some []))/\Below w.heap.size w (X.putObj i (.deferred none))/\
  (X.putObj i (.deferred none)).cell? ⟨b,0,none⟩=some v0/\(X.putObj i (.deferred none)).cell? ⟨b,1,none⟩=some v1/\(X.putObj i (.deferred none)).cell? ⟨b,2,none⟩=some j/\(X.putObj i (.deferred none)).cell? ⟨b,3,none⟩=some l/\
  (X.putObj i (.deferred none)).cell? ⟨g,0,none⟩=some q/\(X.putObj i (.deferred none)).cell? ⟨g,1,none⟩=some u:=by
 refine⟨_,rfl,?_⟩;have y:=((((((xR W ⟨b,0,none⟩ v0).trans (xR _ ⟨b,1,none⟩ v1)).trans (xR _ ⟨b,2,none⟩ j)).trans (xR _ ⟨b,3,none⟩ l)).trans (xR _ ⟨g,0,none⟩ q)).trans (xR _ ⟨g,1,none⟩ u));have h:=y.same i _ c' rfl;have F:Below w.heap.size w ((((((W.setCell ⟨b,0,none⟩ v0).setCell ⟨b,1,none⟩ v1).setCell ⟨b,2,none⟩ j).setCell ⟨b,3,none⟩ l).setCell ⟨g,0,none⟩ q).setCell ⟨g,1,none⟩ u):=(((((a'.setCell (p:=⟨b,0,none⟩) hc _).setCell (p:=⟨b,1,none⟩) hc _).setCell (p:=⟨b,2,none⟩) hc _).setCell (p:=⟨b,3,none⟩) hc _).setCell (p:=⟨g,0,none⟩) E _).setCell (p:=⟨g,1,none⟩) E _;refine⟨h,F.trans (UY (bq _) _ i _ _ b' h rfl rfl),?_⟩;refine⟨?_,?_,?_,?_,?_,?_⟩<;>exact El (by simp[go_sem,q0,q1,q2,q3,p0,p1,A,A.symm]) (abt _ i (.deferred none)) (fun r e=>by cases e;exact⟨_,h,rfl⟩)
def aFI (F:Fence) (n:Nat) (h:F.fn 141) (j:F.round=none) (k o:Int) (s:dA) (l:ah Addr) (q u:Nat) (w:ak):
 CallsIn F n Tryz.prog 141 #[.agg #[.int .i64 k,.string s,.slice l q u,.int .i64 o]] w fun e w'=>e=.returned (.agg #[.int .i64 2,.int .i64 o])/\Below w.heap.size w w':=by
 refine J8 Tryz.func141 rfl h ?_ j;simp only[Tryz.ntmps141,wN,gD,lN,Nat.reduceAdd,Nat.reduceSub,FM,FN,FT,Ed,qW,wM]
 gi_wp2
 refine ni (v:=.agg #[.int .i64 2,.int .i64 o]) (by simp[results,Tryz.results141,go_sem]) rfl ⟨rfl,?_⟩
 exact jB (jB (iN w.heap.size w) _) _
def vQ (k:Int) (s:dA) (i:Int):av:=.agg #[.int .i64 k,.string s,.int .i64 i,.slice none 0 0]
def vF (k o:Int):av:=.agg #[.int .i64 k,.int .i64 o]
def Vl (s:dA) (o:Int) (ws:G (G Nat)) (nm:aK) (res:av):Prop:=
 ((s.toList==[65,110,121])=true/\res=.tuple #[vQ 0 ⟨#[]⟩ 0,vF 0 0])\/((s.toList==[65,110,121])=false/\
 (((s.toList==[78,101,118,101,114])=true/\res=.tuple #[vQ 1 ⟨#[]⟩ 0,vF 0 0])\/((s.toList==[78,101,118,101,114])=false/\
 ((∃j:Nat,j<ws.length/\((bC (rz ws j).2).toList==s.toList)=true/\(∀i,i<j->((bC (rz ws i).2).toList==s.toList)=false)/\res=.tuple #[vQ 5 ⟨#[]⟩ j,vF 0 0])\/((∀i,i<ws.length->((bC (rz ws i).2).toList==s.toList)=false)/\
 ((nm=true/\res=.tuple #[vQ 2 s 0,vF 0 0])\/(nm=false/\res=.tuple #[vQ 0 ⟨#[]⟩ 0,vF 2 o])))))))
def aNH (k o:Int) (s:dA) (c':ah Addr) (d' e':Nat) (a:ah Addr) (cap:Nat) (ws:G (G Nat)) (w:ak) (nm:aK) (z':ws.length<=1000000) (A0:Ew w.heap.size w (.slice a ws.length cap) ws)
 (e0:∀W,Below w.heap.size w W->Calls Tryz.prog 153 #[.agg #[.int .i64 k,.string s,.slice c' d' e',.int .i64 o]] W fun e W'=>e=.returned (.bool nm)/\Below W.heap.size W W'):
 Calls Tryz.prog 139 #[.agg #[.int .i64 k,.string s,.slice c' d' e',.int .i64 o],.slice a ws.length cap] w fun e W'=>∃res,e=.returned res/\Below w.heap.size w W'/\Vl s o ws nm res:=by
 refine(UZ (n:=5)).1 ?_;refine callsIn_of_wp_marks Tryz.func139 rfl trivial ?_ rfl;simp only[Tryz.ntmps139,wN,gD,lN,Nat.reduceAdd,Nat.reduceSub,FM,FN,FT,Ed,qW,wM];cases hA:(s.toList==[65,110,121]) with
 |true=>
  gi_wp2
  refine⟨.tuple #[vQ 0 ⟨#[]⟩ 0,vF 0 0],by simp[results,UQ,go_sem,vQ,vF],_,rfl,?_,.inl ⟨hA,rfl⟩⟩
  exact jB (jB (jB (jB (iN w.heap.size w) _) _) _) _
 |false=>
  cases hV:(s.toList==[78,101,118,101,114]) with
  |true=>
   gi_wp2
   refine⟨.tuple #[vQ 1 ⟨#[]⟩ 0,vF 0 0],by simp[results,UQ,go_sem,vQ,vF],_,rfl,?_,.inr ⟨hA,.inl ⟨hV,rfl⟩⟩⟩
   exact jB (jB (jB (jB (iN w.heap.size w) _) _) _) _
  |false=>
   gi_wp2_with (refine⟨trivial,?_⟩;gi_at_call 152;refine(aCt _ _ trivial rfl _ _ _ _).mono ?_;rintro e w' ⟨rfl,rfl⟩)
   obtain⟨h,E⟩:∃h,(((((w.alloc (.cells #[.int .i64 k,.string s,.slice c' d' e',.int .i64 o] 46)).alloc (.cells #[.slice a ws.length cap] 36)).alloc (.cells #[.int .i64 0,.string ⟨#[]⟩,.int .i64 0,.slice none 0 0] 68)).alloc (.cells #[.int .i64 0,.int .i64 0] 28)).alloc (.cells #[.slice a ws.length cap] 36))=h:=⟨_,rfl⟩;rw[E];have f':Below w.heap.size w h:=by rw[<-E];exact jB (jB (jB (jB (jB (iN w.heap.size w) _) _) _) _) _
   have s1:h.heap.size=w.heap.size+5:=by rw[<-E];simp
   have f0:h.cell? ⟨w.heap.size+1,0,none⟩=some (.slice a ws.length cap):=by rw[<-E];simp[go_sem]<;>omega
   have g0:h.cell? ⟨w.heap.size+1+1+1+1,0,none⟩=some (.slice a ws.length cap):=by rw[<-E];exact World.cell?_alloc_at _ _ _ _ bS
   have p':Wc h w.heap.size k s c' d' e' o:=by rw[<-E];constructor<;>simp[go_sem]
   have h0:Ew h.heap.size h (.slice a ws.length cap) ws:=(A0.below f').mono I;refine wpIn_rangeFunc_ownG rfl I (gf:=166) (lb:=#[.pointer (some ⟨w.heap.size+1+1+1+1,0,none⟩)]) rfl trivial (enters_of Tryz.func166 aS rfl)
    (aCu Fence.wide _ trivial rfl I (w.heap.size+1+1+1+1) h.heap.size (.slice a ws.length cap) ws z' h I (bq _) g0 h0) belowK_t (UY (bq _)) (iN _ _) (fun _=>rfl)
    (fun pre W=>(∀x∈pre,((bC x.2).toList==s.toList)=false)/\Below h.heap.size h W)
    (fun c pre W=>(c=.ret/\∃P last,pre=P++[last]/\(∀x∈P,((bC x.2).toList==s.toList)=false)/\((bC last.2).toList==s.toList)=true/\Vk W (w.heap.size+1+1) (w.heap.size+1+1+1) (wrap64 ((ws.length:Int)-1-last.1)))/\Below w.heap.size w W)
    (OwnFrom.and (Own.from (fun s A aD row A' i0 U=>A') _) (ajh (bq _) (bq _)))
    (fun c=>OwnFrom.and (Own.from (fun s A aD row A' i0 U=>by obtain⟨hc,P,last,e1,D',E',D0⟩:=A';exact⟨hc,P,last,e1,D',E',D0.kept i0 U⟩) _) (ajh (bq _) I))
    ⟨by simp,iN _ _⟩
    (fun x=>{tmps:=#[.agg #[.int .i64 k,.string s,.slice c' d' e',.int .i64 o],.slice a ws.length cap,.pointer (some ⟨w.heap.size,0,none⟩),.pointer (some ⟨w.heap.size+1,0,none⟩),.pointer (some ⟨w.heap.size+1+1,0,none⟩),.pointer (some ⟨w.heap.size+1+1+1,0,none⟩),.int .i64 (x.1:Int),.string (bC x.2),.pointer (some ⟨w.heap.size,1,none⟩),.string s,.bool false,.bool false,undef,undef,.bool false,.bool false,undef,undef,.slice a ws.length cap,.func (.func 166) #[] #[.pointer (some ⟨w.heap.size+1+1+1+1,0,none⟩)],.int .i64 (x.1:Int),.string (bC x.2),undef,undef,undef,undef,undef,undef,undef,undef,undef,undef,undef,undef,undef,undef,undef,undef,undef,undef,undef,undef,undef],defers:=[]}) ?assign ?body ?done ?stop
   case assign=>
    intro l x W aj F
    gi_wp2
    exact F
   case body=>
    rintro l pre x W ⟨Z,u⟩ _;have E0:=(u.cell (p:=⟨w.heap.size+1,0,none⟩) (show w.heap.size+1<h.heap.size by omega)).trans f0
    obtain⟨c0,c1,c2,c3,q0,q1,q2,q3,p0,p1,z0,z1,z2,z3,y0,y1⟩:=p'.below u I
    gi_wp2
    ·have F':((bC x.2).toList==s.toList)=true:=by assumption
     refine⟨((((((xR _ _ _).trans (xR _ _ _)).trans (xR _ _ _)).trans (xR _ _ _)).trans (xR _ _ _)).trans (xR _ _ _)).from _,⟨rfl,pre,x,rfl,Z,F',?_⟩,?_⟩
     ·constructor<;>simp[go_sem,q0,q1,q2,q3,p0,p1]
     ·exact(((((((f'.trans (u.mono (show w.heap.size<=h.heap.size by omega))).setCell (p:=⟨_,0,none⟩) gJ _).setCell (p:=⟨_,1,none⟩) gJ _).setCell (p:=⟨_,2,none⟩) gJ _).setCell (p:=⟨_,3,none⟩) gJ _).setCell (p:=⟨_,0,none⟩) gJ _).setCell (p:=⟨_,1,none⟩) gJ _)
    ·have F':((bC x.2).toList==s.toList)=false:=by assumption
     exact⟨KeepsFrom.refl _ _,iN _ _,fun y F0=>(qV.1 F0).elim (Z y) (fun e=>by obtain rfl:=yR.1 e;exact F'),u⟩
   case done=>
    rintro D u1 W L0 rfl ⟨j0,u⟩ F;have T:=p'.below u I;obtain⟨c0,c1,c2,c3,q0,q1,q2,q3,p0,p1,z0,z1,z2,z3,y0,y1⟩:=id T;have a':=f'.trans (u.mono (show w.heap.size<=h.heap.size by omega))
    have q':=(kF.1 F).1;have m1:=u.size;have r':∀i,i<ws.length->((bC (rz ws i).2).toList==s.toList)=false:=fun i J=>j0 _ (FQ.2 ⟨i,aa4.2 J,rfl⟩);cases nm with
    |true=>
     gi_wp2_with (refine⟨trivial,?_⟩;gi_at_call 153;refine(UZ.2 (e0 W a')).mono ?_;rintro e M0 ⟨rfl,q⟩;obtain⟨k0,l0,m0,o0,s',t',u',v',x',y',r0,s0,t0,u0,v0,w0⟩:=T.below q I;have g':=(q.block D q').trans F)
     obtain⟨X,L',h',i',j',l',b',m',d0,d1⟩:=six (.int .i64 2) (.string s) (.int .i64 0) (.slice none 0 0) (.int .i64 0) (.int .i64 0) s' t' u' v' x' y' (a'.trans (q.mono I)) I I I I g';rw[L'];refine⟨by simp,.inl ⟨_,_,rfl,U2 h',?_⟩⟩
     exact⟨.tuple #[vQ 2 s 0,vF 0 0],by simp[results,UQ,go_sem,vQ,vF,j',l',b',m',d0,d1],_,rfl,i',.inr ⟨hA,.inr ⟨hV,.inr ⟨r',.inl ⟨rfl,rfl⟩⟩⟩⟩⟩
    |false=>
     gi_wp2_with (first
      |(refine⟨trivial,?_⟩;gi_at_call 153;refine(UZ.2 (e0 W a')).mono ?_;rintro e M0 ⟨rfl,q⟩;have n':=T.below q I;obtain⟨k0,l0,m0,o0,s',t',u',v',x',y',r0,s0,t0,u0,v0,w0⟩:=id n';have g':=(q.block D q').trans F;have o1:=q.size)
      |(refine⟨trivial,?_⟩;gi_at_call 141;refine(aFI _ _ trivial rfl _ _ _ _ _ _ _).mono ?_;rintro e v1 ⟨rfl,o'⟩;obtain⟨P0,T0,W0,X0,M',P',T',X',a0,b0,a1,b1,f1,g1,h1,i1⟩:=n'.below o' I;have x0:=(o'.block D I).trans g'))
     obtain⟨X,L',h',i',j',l',b',m',d0,d1⟩:=six (.int .i64 0) (.string ⟨#[]⟩) (.int .i64 0) (.slice none 0 0) (.int .i64 2) (.int .i64 o) M' P' T' X' a0 b0 ((a'.trans (q.mono I)).trans (o'.mono I)) I I I I x0;rw[L'];refine⟨by simp,.inl ⟨_,_,rfl,U2 h',?_⟩⟩
     exact⟨.tuple #[vQ 0 ⟨#[]⟩ 0,vF 2 o],by simp[results,UQ,go_sem,vQ,vF,j',l',b',m',d0,d1],_,rfl,i',.inr ⟨hA,.inr ⟨hV,.inr ⟨r',.inr ⟨rfl,rfl⟩⟩⟩⟩⟩
   case stop=>
    rintro D c pre W L0 ⟨k',r1,rfl⟩ ⟨⟨rfl,P,last,e1,D',E',hR⟩,u⟩ F
    gi_wp2
    refine⟨by simp,.inl ⟨_,_,rfl,U2 F,?_⟩⟩
    obtain⟨j',l',b',m',d0,d1⟩:=hR.kept (abt _ D (.deferred none)) (fun r e=>by cases e;exact⟨_,F,rfl⟩)
    obtain⟨j,rfl⟩:∃j,k'=j+1:=by
     cases k' with
     |zero=>simp[upto] at e1
     |succ j=>exact⟨j,rfl⟩
    rw[PK] at e1;obtain⟨rfl,j1⟩:=List.append_inj' e1 rfl;obtain rfl:rz ws j=last:=by simpa using j1
    have k1:wrap64 ((ws.length:Int)-1-((rz ws j).1:Nat))=(j:Int):=by
     have l1:(rz ws j).1=ws.length-1-j:=rfl;rw[l1,show(ws.length:Int)-1-((ws.length-1-j:Nat):Int)=(j:Int) by omega]
     exact aOA I
    rw[k1] at b';refine⟨.tuple #[vQ 5 ⟨#[]⟩ j,vF 0 0],by simp[results,UQ,go_sem,vQ,vF,j',l',b',m',d0,d1],_,rfl,u.trans (UY (w:=w) (bq _) W D _ _ I F rfl rfl),.inr ⟨hA,.inr ⟨hV,.inl ⟨j,by omega,E',fun i J=>D' _ (FQ.2 ⟨i,aa4.2 J,rfl⟩),rfl⟩⟩⟩⟩
end
variable {t:Rw}{l:G Rw}
section
open Go Go.RowKit
def atS:G bJ:=[Uh,ah9]
def ZM:eX:=⟨1,51,akN,[(.ret,⟨[(6,jk)],[(10,iy),(12,.cells false [cu,kT,b_,.aV])],13⟩,[C,C,C,C]),(.normal,⟨[(0,fU),(4,iM),(6,jk)],[(10,iy),(11,Mv),(12,.cells false [eu,kT,dP,.aV])],13⟩,[C,C,C,.str,.R 8,C,C,C])]⟩
def atQ:G iq:=[⟨akN,[C,C,.R 0,C,.str,.R 8,C,C,C,C],.B VI (.fT (.bin .lss fK qg) (.B (.bin .eql (.cell dx fK 0) dB) (.leaf 1 [dY,fJ,MW,.S (.bin .sub (.bin .sub qg cO) fK)] []) (.leaf 0 [dY,fJ,cu,b_,dS,dz,eu,dP,dI,.S (.bin .sub fK cO)] []))) (.leaf 2 [dY,fJ,b_,dS,dz,eu,dP,dI] [])⟩]
def aHy:Tree:=.B (.bin .eql dN (.str [65,110,121])) Kh (.B (.bin .eql dN acZ) (.leaf 0 [.agg [I4,aQ,aN,aF],dY,fJ] []) (.bX 0 [bQ,fE,bZ,dx,dN,dB,fQ,aH,aH,.bin .sub IW cO] (.cons (.leaf 0 [.agg ade,dP,dI] []) (.cons (.call 0 [dZ] [] (.B jq (.call 1 [dZ] [] (.B kQ amR (.leaf 0 [.agg [q9,dZ,aN,aF],dP,dI] []))) amR)) .nil))))
def ZN:ko 135 200 1 ZM atS [] atQ:=.of aS
def aHz:TC 135 [oP,.S (.var 9)] lW atS [ZM] aHy (fl++fZ++[.R 0]):=tc
def aHA:gU 135:=gY Tryz.func135 aS
def aFX {k:Nat} (h:∀j<k,∀x,X.reverse[j]?=some x->x≠q) (e:X.reverse[k]?=some q):Aq q X=some k:=by
 unfold Aq;rw[awV];obtain⟨u,w⟩:=gN.1 e;refine⟨u,by simp[w],fun j y=>?_⟩
 have:=h j y _ (gM I)
 simpa using this
def aFW (h:∀j<X.length,∀x,X.reverse[j]?=some x->x≠q):Aq q X=none:=by
 unfold Aq;rw[awU];intro x u;obtain⟨j,e,w⟩:=UH.1 u;have:=h j (by simpa using e) x (by rw[gM e,w])
 simpa using this
def aMK {t:G Nat} (e:b<l.length) (h:l[l.length-1-b]?=some [.str t]):(bg l).reverse[b]?=some t:=by
 rw[aiV (by unfold bg;simpa using e)]
 unfold bg;rw[tX,AQ,h]
 rfl
def LV {n:Nat} {i:Int} (h:n<=1000000) (e:-1<=i) (j:i<=n):IntKind.i64.wrap i=i:=by
 exact Yt
def Rl:gu:=⟨ZM,fun ds=>match ds with|[.int .i64 _,.int .i64 _,.R rows,.int .i64 _,.str t,.R c,.int .i64 _,.int .i64 _,.int .i64 _,.int .i64 i]=>aW O (.R rows) (.R 0)/\aW O (.str t) .str/\aW O (.R c) (.R 8)/\i=(rows.length:Int)-1|_=>False,
 fun ds j out=>match ds with
  |[.int .i64 p,.int .i64 q,.R rows,.int .i64 k,.str t,.R c,.int .i64 o,.int .i64 y,.int .i64 z,_]=>match j with
   |0=>∃m:Nat,Aq t (bg rows)=some m/\out=[.int .i64 p,.int .i64 q,.int .i64 5,.int .i64 m]
   |_=>Aq t (bg rows)=none/\out=[.int .i64 p,.int .i64 q,.int .i64 k,.str t,.R c,.int .i64 o,.int .i64 y,.int .i64 z]
  |_=>False⟩
def aCH (a':bH T):Rl.Ok T Tryz.prog (fun x=>x∈dO (kU 135)) O fM:=by
 intro ds b'
 match ds,b' with
 |[.int .i64 p,.int .i64 q,.R rows,.int .i64 f',.str t,.R c,.int .i64 o,.int .i64 y,.int .i64 z,.int .i64 _],⟨g',h',i',rfl⟩=>
 obtain⟨o',j',c',k'⟩:=bW g';cases j';have e:rows.length<=1000000:=c';refine vL (c:=Rl) mI mixed (lT a') ZN.one ZN.bX (fun j o N=>?_) rfl rfl ZN.self ZN.jC (mK (cs:=[Jc,Jb]) rfl (all_cons (H_ a') (all_cons (Ld a') all_nil))) (mP (ls:=[]) rfl all_nil)
  (lQ:=fun i m ds=>∃(k:Nat),ds=[.int .i64 p,.int .i64 q,.R rows,.int .i64 f',.str t,.R c,.int .i64 o,.int .i64 y,.int .i64 z,.int .i64 ((rows.length:Int)-1-k)]/\m=rows.length-k/\k<=rows.length/\∀j<k,∀x,(bg rows).reverse[j]?=some x->x≠t) (m:=rows.length) ⟨0,by simp,rfl,gK _,fun j A=>absurd A (Nat.not_lt_zero _)⟩ ?_
 ·exact Gx
 ·intro i st m r' l p'
  match i,l with
  |0,l=>
   obtain rfl:=bI l;obtain⟨k,rfl,rfl,t',E⟩:=p';refine⟨ay aO (ay aO (ay g' (ay aO (ay h' (ay i' (ay aO (ay aO (ay aO (ay aO aX))))))))),?_⟩;refine iR rfl (fun h=>?_) (fun h=>?_)
   ·replace h:0<=(rows.length:Int)-1-k:=by simpa using h
    have l':k<rows.length:=I;obtain⟨u,m'⟩:∃u:Nat,u=rows.length-1-k:=⟨_,rfl⟩;have n':(rows.length:Int)-1-k=(u:Nat):=I;obtain⟨row,F,P⟩:=kZ k' (n:=u) I;obtain⟨d',rfl,s'⟩:=PO P;have W:(bg rows).reverse[k]?=some d':=aMK l' (by rw[<-m'];exact F)
    rw[n'];refine lM (mg rfl gJ) ?_;refine iR (mJ (gI rfl rfl F rfl) rfl rfl) (fun w=>?_) (fun w=>?_)
    ·replace w:d'=t:=by simpa using w
     subst w;refine fV rfl ⟨[_,_,_,_],rfl,.inr ⟨0,_,_,_,rfl,rfl,ay aO (ay aO (ay aO (ay aO aX))),k,aFX E W,?_⟩⟩;show _=[D.int .i64 p,D.int .i64 q,D.int .i64 5,D.int .i64 k];have e1:IntKind.i64.wrap ((rows.length:Int)-1)=(rows.length:Int)-1:=LV e I I;have q':IntKind.i64.wrap ((rows.length:Int)-1-(u:Int))=(k:Int):=by rw[LV e I I];omega
     show[D.int .i64 p,D.int .i64 q,D.int .i64 5,D.int .i64 (IntKind.i64.wrap (IntKind.i64.wrap ((rows.length:Int)-1)-(u:Int)))]=_;rw[e1,q']
    ·replace w:¬d'=t:=by simpa using w
     refine fV rfl ⟨[_,_,_,_,_,_,_,_,_,_],rfl,.inl ⟨_,wO,?_,k+1,?_,rfl,?_,?_⟩⟩
     ·omega
     ·show[D.int .i64 p,D.int .i64 q,D.R rows,D.int .i64 f',D.str t,D.R c,D.int .i64 o,D.int .i64 y,D.int .i64 z,D.int .i64 (IntKind.i64.wrap ((u:Int)-1))]=_
      rw[LV e I I,show(u:Int)-1=(rows.length:Int)-1-((k+1:Nat):Int) by omega]
     ·omega
     ·intro j A x e'
      rcases Nat.lt_succ_iff_lt_or_eq.1 A with A|rfl
      ·exact E j A x e'
      ·rw[W] at e'
       cases e';exact w
   ·replace h:¬0<=(rows.length:Int)-1-k:=by simpa using h
    refine fV rfl ⟨[_,_,_,_,_,_,_,_],rfl,.inr ⟨1,_,_,_,rfl,rfl,ay aO (ay aO (ay aO (ay h' (ay i' (ay aO (ay aO (ay aO aX))))))),aFW (fun j A=>E j ?_),rfl⟩⟩;have:(bg rows).length=rows.length:=by simp[bg]
    omega
  |i+1,l=>simp[atQ] at l
def aHx.qE (h:P:=by first|(simp only[zF,yI,jm,ty,BH,BJ,eD];exact QE)|exact QE):P:=h
open aHx in
def aCI (q:bH T):(Xq).aA T:=by
 intro V pre ⟨y,Z⟩
 match V,y with
 |[.agg l',.one d1],⟨F,P,jL,w⟩=>
 obtain⟨E,u,c0,W,rfl,a',b',c'⟩:=jT F;obtain⟨l,rfl,d',e'⟩:=bW P;have A:fG T _ _:=(ac (H_ q) Rf (ac (Ld q) aeD an));have aD:=(lc (aCH q) nb ln);subst jL;refine Jr q aHA A.1 aD.1 A.2 aD.2 aHz (kD a' b' c' (ay (eP d' e') aX)) ?_;replace w:E=1:=w;refine au aj (fun g'=>dQ) (fun g'=>?_);refine au aj (fun h'=>dQ) (fun h'=>?_);refine qp (ds:=[(.int .i64 0),(.int .i64 0),(.R l),(.int .i64 E),(.str u),(.R c0),(.int .i64 W),(.int .i64 0),(.int .i64 0),(.int .i64 (((l).length:Int)-1))]) (by show some [D.int .i64 0,.int .i64 0,.R l,.int .i64 E,.str u,.R c0,.int .i64 W,.int .i64 0,.int .i64 0,.int .i64 (IntKind.i64.wrap (((l).length:Int)-1))]=_;rw[LV (n:=(l).length) oW I I]) ⟨l9,l9,l9,rfl⟩ (fun j x S' ks out e hR f'=>?_)
 match j,e,hR with
 |0,e,⟨i',h,N⟩=>
  subst N;replace e:Rl.sig.outs[0]?=some (x,S',ks):=e;cases e;replace h:Aq u (bg (l))=some i':=h;refine eH.zero ?_;exact dQ
 |1,e,⟨h,N⟩=>
  subst N;replace e:Rl.sig.outs[1]?=some (x,S',ks):=e;cases e;replace h:Aq u (bg (l))=none:=h;refine eH.succ (eH.zero ?_);refine eT M Ju fun f'=>?_;refine au aj (fun j'=>?_) (fun j'=>dJ);refine eT M Oz fun f'=>?_;exact au aj (fun k'=>dJ) (fun k'=>dQ)
 |j+2,e,_=>simp[lam,Rl,ZM] at e
def auJ:G bJ:=[]
def aad:eX:=⟨0,20,ajX,[(.normal,⟨[(3,.aV)],[],10⟩,[]),(.normal,⟨[(3,.gy 10 bQ 1)],[(10,.seq 1 bQ)],11⟩,[.R 0])]⟩
def auI:G iq:=[⟨ajX,[.R 0,C],.B acE (.fT acR (.leaf 1 [dY,.S (.snoc .d9 [ac2]),.S (.bin .sub fE cO)] [(10,11)])) Ez⟩,⟨⟨[(0,dY),(3,.gy 10 fE 1),(4,cu)],[(10,.seq 1 fE)],11⟩,[.R 0,.R 0,C],.B Ky (.fT abT (.fT (.bin .leq (.len (.snoc fE [VH])) mG) (.leaf 1 [dY,.S (.snoc fE [VH]),.S (.bin .sub dx cO)] [(10,12)]))) (.leaf 3 ze [(10,10)])⟩]
def aK3:Tree:=.bX 0 [bQ,.bin .sub MH cO] (.cons (.leaf 0 [aF] []) (.cons (.leaf 0 ze []) .nil))
def aae:ko 91 200 0 aad auJ [] auI:=.of aS
def aK4:TC 91 [.S (.var 3)] none auJ [aad] aK3 ([.R 0]):=tc
def aK5:gU 91:=gY Tryz.func91 aS
def au4 {rows:G Rw} {k:Nat} (e:k<rows.length) (h:rows[rows.length-1-k]?=some t):rows.reverse.take (k+1)=rows.reverse.take k++[t]:=by
 rw[List.take_add_one,aiV e,h]
 rfl
def asu {T k:Nat} (e:l.length<=gB) (h:dR O l (O.getD T [])):aW O (.R (l.reverse.take k)) (.R T):=
 eP (by rw[oL,L8];omega) (dR.of fun r j=>h.mem r (List.mem_reverse.1 (J3 j)))
def XM:gu:=⟨aad,fun ds=>match ds with|[.R rows,.int .i64 i]=>aW O (.R rows) (.R 0)/\i=(rows.length:Int)-1|_=>False,
 fun ds j out=>match ds with
  |[.R rows,_]=>match j with
   |0=>rows=[]/\out=[]
   |_=>out=[.R rows.reverse]
  |_=>False⟩
def aML (g':bH T):XM.aA T 91:=by
 intro ds a'
 match ds,a' with
 |[.R rows,.int .i64 _],⟨b',rfl⟩=>
 obtain⟨f',c',y,A⟩:=bW b';cases c';have w:rows.length<=1000000:=y;refine vL (c:=XM) mI mixed (lT g') aae.one aae.bX (fun j o N=>?_) rfl rfl aae.self aae.jC (mK (cs:=[]) rfl all_nil) (mP (ls:=[]) rfl all_nil)
  (lQ:=fun i m ds=>match i with
   |0=>ds=[.R rows,.int .i64 ((rows.length:Int)-1)]/\m=rows.length+1
   |1=>∃k:Nat,ds=[.R rows,.R (rows.reverse.take k),.int .i64 ((rows.length:Int)-1-k)]/\m=rows.length-k/\k<=rows.length
   |_=>False) (m:=rows.length+1) ⟨rfl,rfl⟩ ?_
 ·exact Gx
 ·intro i st m i' l d'
  match i,l with
  |0,l=>
   obtain rfl:=bI l;obtain⟨rfl,rfl⟩:=d';refine⟨ay b' (ay aO aX),?_⟩;refine iR rfl (fun h=>?_) (fun h=>?_)
   ·replace h:0<=(rows.length:Int)-1:=by simpa using h
    obtain⟨q,E⟩:∃q:Nat,q=rows.length-1:=⟨_,rfl⟩;have F:(rows.length:Int)-1=(q:Nat):=I;obtain⟨row,e,u⟩:=kZ A (n:=q) I;obtain⟨h',rfl,e'⟩:=PO u;have P:=au4 (rows:=rows) (k:=0) I (show rows[rows.length-1-0]?=_ by rw[Cn,<-E];exact e)
    rw[F];refine lM (mg rfl gJ) ?_;refine fV (jD rfl (jD (sj (KR rfl (gP (gI rfl rfl e rfl) uy))) (jD rfl qh))) ⟨[_,_,_],rfl,.inl ⟨rows.length-1,Qa,?_,1,?_,rfl,?_⟩⟩
    ·omega
    ·rw[P,LV w I I]
     rfl
    ·omega
   ·replace h:¬0<=(rows.length:Int)-1:=by simpa using h
    exact fV rfl ⟨[],rfl,.inr ⟨0,_,_,_,rfl,rfl,aX,qx I,rfl⟩⟩
  |1,l=>
   obtain rfl:=bI l;obtain⟨k,rfl,rfl,k'⟩:=d';have W:=asu (T:=0) (k:=k) y A;refine⟨ay b' (ay W (ay aO aX)),?_⟩;refine iR rfl (fun h=>?_) (fun h=>?_)
   ·replace h:0<=(rows.length:Int)-1-k:=by simpa using h
    obtain⟨q,E⟩:∃q:Nat,q=rows.length-1-k:=⟨_,rfl⟩;have F:(rows.length:Int)-1-k=(q:Nat):=I;obtain⟨row,e,u⟩:=kZ A (n:=q) I;obtain⟨h',rfl,e'⟩:=PO u;have P:=au4 (rows:=rows) (k:=k) I (by rw[<-E];exact e)
    rw[F];refine lM (mg rfl gJ) ?_;refine lM (mg (mJ (uq (KR rfl (gP (gI rfl rfl e rfl) uy))) rfl rfl) (by simp only[iL,mD,oL,L8,gD,lN];omega)) ?_
    refine fV (jD rfl (jD (sj (KR rfl (gP (gI rfl rfl e rfl) uy))) (jD rfl qh))) ⟨[_,_,_],rfl,.inl ⟨rows.length-(k+1),Qa,?_,k+1,?_,rfl,?_⟩⟩
    ·omega
    ·rw[P,LV w I I,show(q:Int)-1=(rows.length:Int)-1-((k+1:Nat):Int) by omega]
     rfl
    ·omega
   ·replace h:¬0<=(rows.length:Int)-1-k:=by simpa using h
    have j':k=rows.length:=I;refine fV rfl ⟨[_],rfl,.inr ⟨1,_,_,_,rfl,rfl,ay W aX,?_⟩⟩;show[D.R (rows.reverse.take k)]=[D.R rows.reverse];rw[AZ (by rw[L8];omega)]
  |i+2,l=>simp[auI] at l
def au5 (y:bH T):XK.aA T:=by
 intro V pre ⟨u,Z⟩
 match V,u with
 |[.one d0],e=>
 obtain⟨rows,rfl,h,A⟩:=bW e;obtain rfl:=Z;have l:rows.length<=1000000:=h;obtain⟨fn,hf,E⟩:=aK5;refine xk (c:=XK) mI mixed (lT y) hf E (mK (cs:=[]) rfl all_nil) (mP (ls:=[XM]) rfl (all_cons (aML y) all_nil)) (pre:=[]) aK4 (ay e aX) rfl rfl rfl ?_;refine uV (ds:=[.R rows,.int .i64 ((rows.length:Int)-1)]) (by show some [D.R rows,.int .i64 (IntKind.i64.wrap ((rows.length:Int)-1))]=_;rw[LV l I I]) ⟨e,rfl⟩ (fun j x S' ks out w hR P=>?_)
 match j,w,hR with
 |0,_,⟨F,N⟩=>
  subst N F;exact p9 (fV rfl ⟨_,[],rfl,⟨(show DA.one (.R [])=.one (.R (([]:G Rw).reverse)) from rfl),rfl⟩,nZ OH,aX⟩)
 |1,_,N=>
  replace N:out=[.R rows.reverse]:=N;subst N;have q:=asu (T:=0) (k:=rows.length) h A;rw[AZ (by rw[L8];exact bq _)] at q
  exact Eb (p9 (fV rfl ⟨_,[],rfl,⟨rfl,rfl⟩,nZ q,aX⟩))
 |j+2,w,_=>simp[lam,XM,aad] at w
def Ca {rows a:G Rw} {row:Rw} (e:rows[b]?=some row) (h:bM a+bM (rows.drop b)<=bM rows) (j:aI t<=aI row):bM (a++[t])+bM (rows.drop (b+1))<=bM rows:=by
 rw[ny e] at h;simp only[Yc,bM] at h⊢;omega
def aN9 {a b:Rw} (e:aJ O b (y8 8)) (h:iJ g b X=.ok t):aI t<=aI [.int .i64 k,.str q,.R [a,b],.int .i64 o]:=by
 have:=Ov (T:=8) rfl e h;rw[wY];simp only[bM];omega
def aOa (h:(DA.agg t)=.agg jm):aI t<=aI [.int .i64 k,.str q,.R l,.int .i64 o]:=by
 cases h;rw[wY];simp only[jm,ty,aI,uz,bM];omega
def auE:G bJ:=[aaA,avQ,aaz]
def JK:eX:=⟨0,74,amE,[(.normal,⟨[(8,.aV),(9,.aV)],[(10,iy)],12⟩,[C,C]),(.normal,⟨[(8,QD),(9,.gy 13 dN 4)],[(10,iy),(12,QW),(13,.seq 4 dN)],14⟩,[C,C,.R 0,.R 2])]⟩
def auD:G iq:=[⟨amE,[C,C,.R 0,.R 8,C],.B Km (.B iC (.fT yY (.B (.bin .eql adv jI) (.B (.bin .eql (.len CB) iP) (.call 1 [.agg [.S (.cell CB aH 0),.S (.cell CB aH 1),.S (.cell CB aH 2),.S (.cell CB aH 3)],aF] bL (.call 2 [.agg [.S (.cell CB cO 0),.S (.cell CB cO 1),.S (.cell CB cO 2),.S (.cell CB cO 3)],cu] QH (.leaf 1 [iG,jg,cu,.S (.snoc .d9 [fQ]),.S (.snoc .d9 [fI,fK,h_,iY]),b_,zS] [(12,35),(13,37)]))) akM) akM)) zP) zP⟩,⟨⟨[(0,fU),(2,cu),(8,.gy 12 dN 1),(9,.gy 13 dB 4),(10,dz),(11,eu)],[(10,iy),(12,.seq 1 dN),(13,.seq 4 dB)],14⟩,[C,C,.R 0,.R 0,.R 2,.R 8,C],.B (.bin .lss bZ (.len fQ)) (.B iC (.fT (.bin .geq bZ aH) (.B (.bin .eql akt jI) (.B (.bin .eql (.len EN) iP) (.call 1 [.agg [.S (.cell EN aH 0),.S (.cell EN aH 1),.S (.cell EN aH 2),.S (.cell EN aH 3)],b_] bL (.fT (.bin .leq (.len (.snoc dN [dU])) mG) (.call 2 [.agg [.S (.cell EN cO 0),.S (.cell EN cO 1),.S (.cell EN cO 2),.S (.cell EN cO 3)],cu] Ey (.fT (.bin .leq (.len (.snoc dB QF)) mG) (.leaf 1 [kN,mV,cu,.S (.snoc dN [dU]),.S (.snoc dB QF),dz,adX] [(12,37),(13,39)]))))) (.leaf 1 anL [(12,12),(13,13)])) (.leaf 1 anL [(12,12),(13,13)]))) aly) aly⟩]
def aKO:Tree:=.call 0 [CO] bL (.bX 0 [fI,fK,bZ,dU,aH] (.cons (.leaf 0 [.tuple [aF,aF],dZ,fD] []) (.cons (.leaf 0 [.tuple [iG,jg],dZ,fD] []) .nil)))
def aac:ko 62 200 0 JK auE [] auD:=.of aS
def auF:TC 62 [oP,.S (.var 9)] lW auE [JK] aKO (fl++fZ++[.R 0]):=tc
def auG:gU 62:=gY Tryz.func62 aS
def Aa (n:Nat):gu:=⟨JK,fun ds=>match ds with|[h,l,u,e,y]=>mU [h,l]/\aW O u (.R 0)/\aW O e (.R 8)/\y=.int .i64 0/\([h,l]=aM->∀x∈rD e,aI x<=n)/\([h,l]=aM->(rD u).length+n<=1000000)|_=>False,
 fun ds j out=>match ds with
 |[h,l,u,e,_]=>match j with
  |0=>∃p:G D,bG (bO (fun s x=>aL (mQ x) fun w=>aL (ku w.1 s.1) fun q=>aL (iJ n w.2 (bg (rD u))) fun t=>.ok (s.1++[q],s.2++[t])) (([],[]):G (G Nat)×G Rw) (rD e)) (fun p=>.dD [.one (.R (p.1.map bw)),.one (.R p.2)]) (fun x=>∃a b,x=.dD [.one (.R a),.one (.R b)]/\([h,l]=aM->bM b<=bM (rD e))/\([h,l]≠aM->b=[])) [h,l] ((fun p=>.dD [.one (.R (p.1.map bw)),.one (.R p.2)]) (([],[]):G (G Nat)×G Rw)) p/\out=p
  |1=>∃(p:G D) (s:G (G Nat)×G Rw),bG (bO (fun s x=>aL (mQ x) fun w=>aL (ku w.1 s.1) fun q=>aL (iJ n w.2 (bg (rD u))) fun t=>.ok (s.1++[q],s.2++[t])) (([],[]):G (G Nat)×G Rw) (rD e)) (fun p=>.dD [.one (.R (p.1.map bw)),.one (.R p.2)]) (fun x=>∃a b,x=.dD [.one (.R a),.one (.R b)]/\([h,l]=aM->bM b<=bM (rD e))/\([h,l]≠aM->b=[])) [h,l] ((fun p=>.dD [.one (.R (p.1.map bw)),.one (.R p.2)]) s) p/\out=p++[.R (s.1.map bw),.R s.2]
  |_=>False
 |_=>False⟩
def Y8 {e j l q:D} (h:aJ O [d,e,j,l,q] [C,C,(.R 0),(.R 8),C]) (Z:mU [d,e]) (J:q=.int .i64 0) (e1:[d,e]=aM->∀x∈rD l,aI x<=b) (y:[d,e]=aM->(rD j).length+b<=1000000):(Aa b).eU [d,e,j,l,q]:=by
 obtain⟨A,h⟩:=kV h;obtain⟨E,h⟩:=kV h;obtain⟨u,h⟩:=kV h;obtain⟨w,h⟩:=kV h;obtain⟨F,h⟩:=kV h;exact⟨Z,u,w,J,e1,y⟩
def aCc:(Aa b).eZ ⟨[C,C,(.R 0),(.R 8),C],true,0,4,[[],[]]⟩:=by
 intro _ ds f hf h w A E;obtain⟨F,a',rfl,_,q0⟩:=dW h;obtain⟨P,b',rfl,_,q1⟩:=dW q0;obtain⟨q,c',rfl,_,q2⟩:=dW q1;obtain⟨u,d',rfl,_,q3⟩:=dW q2;obtain⟨W,e',rfl,_,T⟩:=dW q3;obtain rfl:=wE T;obtain rfl:=bI w;obtain rfl:=bI A;obtain rfl:=bI E;refine⟨Y8 h (.inr ⟨f,hf,rfl⟩) rfl (fun l=>absurd (nD (f:=f) l.symm) hf) (fun l=>absurd (nD (f:=f) l.symm) hf),fun j out hR=>?_⟩
 match j,hR with
 |0,⟨p,e,N⟩=>exact Xn (r:=[]) (N.trans (Ci _).symm) (bG.oq hf e).1
 |1,⟨p,y,e,N⟩=>exact Xn N (bG.oq hf e).1
def JK.qE (h:P:=by first|(simp only[yN,ahe,mQ,eD];exact QE)|exact QE):P:=h
open JK in
def aMu (r':bH T) (n:Nat) (hn:n+100<=1000000) (h':(Bq n).aA T):(Aa n).Ok T Tryz.prog (fun x=>x∈dO (kU 62)) O fM:=by
 intro ds s'
 match ds,s' with
 |[u,w,i',k',j1],⟨Z,W,a',e0,hex,b'⟩=>
 subst e0;have f0:aJ O [u,w,i',k',.int .i64 0] _:=(ay (ZJ Z).1 (ay (ZJ Z).2 (ay W (ay a' (ay aO aX)))));obtain⟨vars,rfl,a0,b0⟩:=bW W;obtain⟨rows,rfl,lH,c'⟩:=bW a';have l1:rows.length<=1000000:=lH;replace hex:[u,w]=aM->∀x∈rows,aI x<=n:=hex;replace b':[u,w]=aM->vars.length+n<=1000000:=b';have A:fG T _ _:=(ac (JL r') CQ (ac (Ub r') Xi (ac h' CS an)));refine Te (c:=Aa n) (f:=62) r' aac.one aac.bX aac.self aac.jC A f0 (fun i m ds=>match i with
  |0=>∃(k:Nat) (p0 p1:D),ds=[p0,p1,.R vars,.R rows,.int .i64 k]/\m=rows.length+1-k/\k<=rows.length/\kL (fun s x=>aL (mQ x) fun l'=>aL (ku l'.1 s.1) fun q=>aL (iJ n l'.2 (bg vars)) fun t=>.ok (s.1++[q],s.2++[t])) (([],[]):G (G Nat)×G Rw) rows [u,w] k (([],[]):G (G Nat)×G Rw) [p0,p1]
  |1=>∃(k:Nat) (E:G (G Nat)) (y:G Rw) (p0 p1:D),ds=[p0,p1,.R vars,.R (E.map bw),.R y,.R rows,.int .i64 k]/\m=rows.length-k/\k<=rows.length/\E.length<=k/\y.length<=k/\([u,w]=aM/\bM y+bM (rows.drop k)<=bM rows)/\kL (fun s x=>aL (mQ x) fun l'=>aL (ku l'.1 s.1) fun q=>aL (iJ n l'.2 (bg vars)) fun t=>.ok (s.1++[q],s.2++[t])) (([],[]):G (G Nat)×G Rw) rows [u,w] k (E,y) [p0,p1]
  |_=>False) (rows.length+1) ⟨0,_,_,rfl,rfl,gK _,kL.start Z⟩ fun i st m k1 F g0 m1=>?_
 match i,F with
 |0,F=>
  obtain rfl:=bI F;obtain⟨k,p0,p1,rfl,rfl,h0,e⟩:=g0;rcases e.DT with j|⟨f,hf,j⟩
  ·simp only[aM,dL,nV,tZ] at j
   obtain⟨rfl,rfl⟩:=j;replace hex:=hex e.jE;replace b':=b' e.jE;refine au aj (fun f'=>?_) (fun f'=>qw (j':=0) rfl M ⟨_,(e.done dn ⟨_,_,rfl,fun _=>gK _,fun _=>rfl⟩),rfl⟩);refine fO M ?_;refine aR ?_;obtain⟨row,hrow,d'⟩:=kZ c' (n:=k) I;have mh:=hex _ (kg hrow);obtain⟨i0,j0,e',l,rfl,k0,n'⟩:=aT d';refine au aj (fun t'=>?_) (fun t'=>nU (m':=rows.length+1-(k+1)) rfl M aA ⟨k+1,(.int .i64 2),(.int .i64 l),nx,rfl,aA,(e.err (f:=(2,l)) hrow qE Z0)⟩);refine au aj (fun g'=>?_) (fun g'=>have g':¬(e').length=2:=aC;nU (m':=rows.length+1-(k+1)) rfl M aA ⟨k+1,(.int .i64 2),(.int .i64 l),nx,rfl,aA,(e.err (f:=(2,l)) hrow qE Z0)⟩)
   replace g':(e').length=2:=aC;obtain⟨m0,o0,rfl,u',v'⟩:=qN n' aC;obtain⟨r0,s0,t0,u0,rfl,v0,w0⟩:=aT u';obtain⟨x0,A0,D0,E0,rfl,F0,L0⟩:=aT v';refine rV M Y6 fu (fun o' hy3 h=>?_) fun w' p' hy3 P h l0=>?_
   ·replace hy3:=nz hy3
    refine rV M (fun k=>Fx k (bF:=apK)) fu (fun M0 hy4 h=>?_) fun P0 p' hy4 q' h Zc=>?_
    ·obtain⟨x',y',z',A',rfl,T0,W0⟩:=gQ h
     replace hy4:=nz hy4;exact nU (m':=rows.length-(k+1)) rfl M aA ⟨k+1,([]++[o']),([]++[[(.int .i64 x'),(.str y'),(.int .i64 z'),(.R A')]]),_,_,nx,rfl,aA,aA,aA,⟨e.jE,(Ca hrow (fF (L_ (jW _)) Jh) Oa)⟩,(e.next hrow qE)⟩
    ·replace hy4:=nz hy4
     obtain⟨X0,rfl⟩:=lV h;obtain⟨D',E',F',L',rfl,a1,b1⟩:=gQ h;exact nU (m':=rows.length-(k+1)) rfl M aA ⟨k+1,([]++[o']),([]++[[(.int .i64 D'),(.str E'),(.int .i64 F'),(.R L')]]),_,_,nx,rfl,aA,aA,aA,⟨e.jE,(Ca hrow (fF (L_ (jW _)) Jh) Oa)⟩,(e.err hrow qE q')⟩
   ·replace hy3:=nz hy3
    obtain⟨M',rfl⟩:=JM h;refine yO (f:=w') P M (fun k=>(CS rfl _ _ P k).1) fun p' h Zc=>?_;obtain⟨e1,rfl⟩:=lV h;obtain⟨P',T',W',X',rfl,f1,g1⟩:=gQ h;exact nU (m':=rows.length-(k+1)) rfl M aA ⟨k+1,([]++[M']),([]++[[(.int .i64 P'),(.str T'),(.int .i64 W'),(.R X')]]),_,_,nx,rfl,aA,aA,aA,⟨e.jE,(Ca hrow (fF (L_ (jW _)) Jh) Oa)⟩,(e.err hrow qE P)⟩
  ·simp only[aM,dL,nV,tZ] at j
   obtain⟨rfl,rfl⟩:=j;refine au aj (fun f'=>?_) (fun f'=>qw (j':=0) rfl M ⟨_,(e.done dn ⟨_,_,rfl,fun _=>gK _,fun _=>rfl⟩),rfl⟩);refine jo (uw M hf) ?_;exact qw (j':=0) rfl M ⟨_,(e.done dn ⟨_,_,rfl,fun _=>gK _,fun _=>rfl⟩),rfl⟩
 |1,F=>
  obtain rfl:=bI F;obtain⟨k,E,y,p0,p1,rfl,rfl,h0,h1,i1,hinv,e⟩:=g0;rcases e.DT with j|⟨f,hf,j⟩
  ·simp only[aM,dL,nV,tZ] at j
   obtain⟨rfl,rfl⟩:=j;replace hex:=hex e.jE;replace b':=b' e.jE;refine au aj (fun f'=>?_) (fun f'=>qw (j':=1) rfl M ⟨_,(E,y),(e.done dn ⟨_,_,rfl,fun _=>fF (J4 _ _) hinv.2,fun j=>absurd hinv.1 j⟩),rfl⟩);refine fO M ?_;refine aR ?_;obtain⟨row,hrow,d'⟩:=kZ c' (n:=k) I;have mh:=hex _ (kg hrow);obtain⟨i0,j0,e',l,rfl,k0,n'⟩:=aT d';refine au aj (fun t'=>?_) (fun t'=>nU (m':=rows.length-(k+1)) rfl M aA ⟨k+1,E,y,(.int .i64 2),(.int .i64 l),nx,rfl,aA,aA,aA,⟨hinv.1,apU⟩,(e.err (f:=(2,l)) hrow qE Z0)⟩);refine au aj (fun g'=>?_) (fun g'=>have g':¬(e').length=2:=aC;nU (m':=rows.length-(k+1)) rfl M aA ⟨k+1,E,y,(.int .i64 2),(.int .i64 l),nx,rfl,aA,aA,aA,⟨hinv.1,apU⟩,(e.err (f:=(2,l)) hrow qE Z0)⟩)
   replace g':(e').length=2:=aC;obtain⟨m0,o0,rfl,u',v'⟩:=qN n' aC;obtain⟨r0,s0,t0,u0,rfl,v0,w0⟩:=aT u';obtain⟨x0,A0,D0,E0,rfl,F0,L0⟩:=aT v';refine rV M Y6 fu (fun o' hy3 h=>?_) fun w' p' hy3 P h l0=>?_
   ·replace hy3:=nz hy3
    refine aR ?_;refine rV M (fun k=>Fx k (bF:=apK)) fu (fun M0 hy4 h=>?_) fun P0 p' hy4 q' h Zc=>?_
    ·obtain⟨x',y',z',A',rfl,T0,W0⟩:=gQ h
     replace hy4:=nz hy4;refine aR ?_;exact nU (m':=rows.length-(k+1)) rfl M aA ⟨k+1,(E++[o']),(y++[[(.int .i64 x'),(.str y'),(.int .i64 z'),(.R A')]]),_,_,nx,rfl,aA,aA,aA,⟨e.jE,(Ca hrow hinv.2 Oa)⟩,(e.next hrow qE)⟩
    ·replace hy4:=nz hy4
     obtain⟨X0,rfl⟩:=lV h;obtain⟨D',E',F',L',rfl,a1,b1⟩:=gQ h;refine aR ?_;exact nU (m':=rows.length-(k+1)) rfl M aA ⟨k+1,(E++[o']),(y++[[(.int .i64 D'),(.str E'),(.int .i64 F'),(.R L')]]),_,_,nx,rfl,aA,aA,aA,⟨e.jE,(Ca hrow hinv.2 Oa)⟩,(e.err hrow qE q')⟩
   ·replace hy3:=nz hy3
    obtain⟨M',rfl⟩:=JM h;refine aR ?_;refine yO (f:=w') P M (fun k=>(CS rfl _ _ P k).1) fun p' h Zc=>?_;obtain⟨e1,rfl⟩:=lV h;obtain⟨P',T',W',X',rfl,f1,g1⟩:=gQ h;refine aR ?_;exact nU (m':=rows.length-(k+1)) rfl M aA ⟨k+1,(E++[M']),(y++[[(.int .i64 P'),(.str T'),(.int .i64 W'),(.R X')]]),_,_,nx,rfl,aA,aA,aA,⟨e.jE,(Ca hrow hinv.2 Oa)⟩,(e.err hrow qE P)⟩
  ·simp only[aM,dL,nV,tZ] at j
   obtain⟨rfl,rfl⟩:=j;refine au aj (fun f'=>?_) (fun f'=>qw (j':=1) rfl M ⟨_,(E,y),(e.done dn ⟨_,_,rfl,fun _=>fF (J4 _ _) hinv.2,fun j=>absurd hinv.1 j⟩),rfl⟩);refine jo (uw M hf) ?_;exact qw (j':=1) rfl M ⟨_,(E,y),(e.done dn ⟨_,_,rfl,fun _=>fF (J4 _ _) hinv.2,fun j=>absurd hinv.1 j⟩),rfl⟩
 |i+2,F=>simp[auD] at F
def aKN.qE (h:P:=by(try simp only[tD,rD,iD,qW,uT,vR,kS,lY,↓tO,↓uU])<;>(unfold yN;(first|rw[hy0]|rw[hy]);first|rfl|exact hy1)):P:=h
open aKN in
def aMv (e':bH T) (n:Nat) (hn:n+100<=1000000) (P:(Bq n).aA T):(NA n).aA T:=by
 intro V pre ⟨r',Z⟩
 match V,r' with
 |[.agg y',.one d1],⟨s',t',l',f'⟩=>
 obtain⟨k0,t0,c0,o0,rfl,m',n',o'⟩:=jT s';obtain⟨c',rfl,p',q'⟩:=bW t';have A:fG T _ _:=(ac (JL e') CQ (ac (Ub e') Xi (ac P CS an)));have aD:=(lc (aMu e' n hn P) aCc ln);rcases Z with rfl|⟨f,hf,rfl⟩
 ·refine Jr e' auG A.1 aD.1 A.2 aD.2 auF (kD m' n' o' (ay (eP p' q') aX)) ?_
  replace l':(c').length+n<=1000000:=l' rfl;replace f':=f' rfl;refine rV M Y4 fu (fun y0 hy0 W=>?_) fun a' w' hy0 F W u'=>?_
  ·have z':=jd W
   obtain⟨hE0,x'⟩:=zm hy0;refine K.bX M (fun k=>Y8 k (.inl rfl) rfl (fun _=>by first|exact f'|assumption|(intro x g';have g':x∈y0:=g';rw[hE0] at g';have:=wz g';omega)) (fun _=>HL)) fun j x S' ks out h hR W=>?_
   match j,h,hR with
   |0,h,⟨p,e,N⟩=>
    replace e:bG (bO (fun s x=>aL (mQ x) fun u=>aL (ku u.1 s.1) fun q=>aL (iJ n u.2 (bg (c'))) fun t=>.ok (s.1++[q],s.2++[t])) (([],[]):G (G Nat)×G Rw) (y0)) (fun p=>.dD [.one (.R (p.1.map bw)),.one (.R p.2)]) (fun x=>∃a b,x=.dD [.one (.R a),.one (.R b)]/\(aM=aM->bM b<=bM (y0))/\(aM≠aM->b=[])) aM ((fun p=>.dD [.one (.R (p.1.map bw)),.one (.R p.2)]) (([],[]):G (G Nat)×G Rw)) p:=e
    try simp only[kS,lY] at e
    subst N;replace h:(Aa n).sig.outs[0]?=some (x,S',ks):=h;cases h;rcases e.vv with⟨z1,hy1,l,b'⟩|⟨v',hy1,d',l,Lb⟩
    ·subst l
     obtain⟨h',i'⟩:=z1;simp only[DA.one.injEq,DA.dD.injEq,D.R.injEq,nV,tZ,Tg] at b';obtain⟨rfl,rfl⟩:=b';refine eH.zero ?_;exact dQ (y:=(([]:G (G Nat)),([]:G Rw)))
    ·subst l
     refine eH.zero ?_;exact jf M (bG.err qE d' N_)
   |1,h,⟨p,y1,e,N⟩=>
    obtain⟨w,E⟩:=y1;replace e:bG (bO (fun s x=>aL (mQ x) fun u=>aL (ku u.1 s.1) fun q=>aL (iJ n u.2 (bg (c'))) fun t=>.ok (s.1++[q],s.2++[t])) (([],[]):G (G Nat)×G Rw) (y0)) (fun p=>.dD [.one (.R (p.1.map bw)),.one (.R p.2)]) (fun x=>∃a b,x=.dD [.one (.R a),.one (.R b)]/\(aM=aM->bM b<=bM (y0))/\(aM≠aM->b=[])) aM ((fun p=>.dD [.one (.R (p.1.map bw)),.one (.R p.2)]) (w,E)) p:=e
    try simp only[kS,lY] at e
    subst N;replace h:(Aa n).sig.outs[1]?=some (x,S',ks):=h;cases h;rcases e.vv with⟨z1,hy1,l,b'⟩|⟨v',hy1,d',l,Lb⟩
    ·subst l
     obtain⟨h',i'⟩:=z1;simp only[DA.one.injEq,DA.dD.injEq,D.R.injEq,nV,tZ,Tg] at b';obtain⟨rfl,rfl⟩:=b';refine eH.succ (eH.zero ?_);exact dQ (y:=((w:G (G Nat)),(E:G Rw)))
    ·subst l
     refine eH.succ (eH.zero ?_);exact jf M (bG.err qE d' N_)
   |j+2,h,_=>simp[lam,Aa,JK] at h
  ·obtain⟨j',rfl,A',D'⟩:=sH W
   refine K.bX M (fun k=>Y8 k (.inr ⟨_,F,rfl⟩) rfl (fun l=>absurd (nD (f:=a') l.symm) F) (fun l=>absurd (nD (f:=a') l.symm) F)) fun j x S' ks out h hR W=>?_
   match j,h,hR with
   |0,h,⟨p,e,N⟩=>
    replace e:bG (bO (fun s x=>aL (mQ x) fun u=>aL (ku u.1 s.1) fun q=>aL (iJ n u.2 (bg (c'))) fun t=>.ok (s.1++[q],s.2++[t])) (([],[]):G (G Nat)×G Rw) (j')) (fun p=>.dD [.one (.R (p.1.map bw)),.one (.R p.2)]) (fun x=>∃a b,x=.dD [.one (.R a),.one (.R b)]/\((dL a')=aM->bM b<=bM (j'))/\((dL a')≠aM->b=[])) (dL a') ((fun p=>.dD [.one (.R (p.1.map bw)),.one (.R p.2)]) (([],[]):G (G Nat)×G Rw)) p:=e
    try simp only[kS,lY] at e
    subst N;replace h:(Aa n).sig.outs[0]?=some (x,S',ks):=h;cases h;obtain⟨l,Lb⟩:=e.oq F
    ·subst l
     refine eH.zero ?_;exact jf M (bG.err qE F N_)
   |1,h,⟨p,y1,e,N⟩=>
    obtain⟨w,E⟩:=y1;replace e:bG (bO (fun s x=>aL (mQ x) fun u=>aL (ku u.1 s.1) fun q=>aL (iJ n u.2 (bg (c'))) fun t=>.ok (s.1++[q],s.2++[t])) (([],[]):G (G Nat)×G Rw) (j')) (fun p=>.dD [.one (.R (p.1.map bw)),.one (.R p.2)]) (fun x=>∃a b,x=.dD [.one (.R a),.one (.R b)]/\((dL a')=aM->bM b<=bM (j'))/\((dL a')≠aM->b=[])) (dL a') ((fun p=>.dD [.one (.R (p.1.map bw)),.one (.R p.2)]) (w,E)) p:=e
    try simp only[kS,lY] at e
    subst N;replace h:(Aa n).sig.outs[1]?=some (x,S',ks):=h;cases h;obtain⟨l,Lb⟩:=e.oq F
    ·subst l
     refine eH.succ (eH.zero ?_);exact jf M (bG.err qE F N_)
   |j+2,h,_=>simp[lam,Aa,JK] at h
 ·refine Sk (fa:=f) e' auG A.1 aD.1 A.2 aD.2 auF (kD m' n' o' (ay (eP p' q') aX)) ?_
  refine yO (f:=f) hf M (fun k=>(CQ rfl _ _ hf k).1) fun w' W u'=>?_;obtain⟨k',rfl,E',F'⟩:=sH W;refine K.bX M (fun k=>Y8 k (.inr ⟨_,hf,rfl⟩) rfl (fun l=>absurd (nD (f:=f) l.symm) hf) (fun l=>absurd (nD (f:=f) l.symm) hf)) fun j x S' ks out h hR W=>?_
  match j,h,hR with
  |0,h,⟨p,e,N⟩=>
   replace e:bG (bO (fun s x=>aL (mQ x) fun u=>aL (ku u.1 s.1) fun q=>aL (iJ n u.2 (bg (c'))) fun t=>.ok (s.1++[q],s.2++[t])) (([],[]):G (G Nat)×G Rw) (k')) (fun p=>.dD [.one (.R (p.1.map bw)),.one (.R p.2)]) (fun x=>∃a b,x=.dD [.one (.R a),.one (.R b)]/\((dL f)=aM->bM b<=bM (k'))/\((dL f)≠aM->b=[])) (dL f) ((fun p=>.dD [.one (.R (p.1.map bw)),.one (.R p.2)]) (([],[]):G (G Nat)×G Rw)) p:=e
   try simp only[kS,lY] at e
   subst N;replace h:(Aa n).sig.outs[0]?=some (x,S',ks):=h;cases h;obtain⟨l,Lb⟩:=e.oq hf
   ·subst l
    refine eH.zero ?_;exact jf M (bG.fail hf N_)
  |1,h,⟨p,y1,e,N⟩=>
   obtain⟨w,E⟩:=y1;replace e:bG (bO (fun s x=>aL (mQ x) fun u=>aL (ku u.1 s.1) fun q=>aL (iJ n u.2 (bg (c'))) fun t=>.ok (s.1++[q],s.2++[t])) (([],[]):G (G Nat)×G Rw) (k')) (fun p=>.dD [.one (.R (p.1.map bw)),.one (.R p.2)]) (fun x=>∃a b,x=.dD [.one (.R a),.one (.R b)]/\((dL f)=aM->bM b<=bM (k'))/\((dL f)≠aM->b=[])) (dL f) ((fun p=>.dD [.one (.R (p.1.map bw)),.one (.R p.2)]) (w,E)) p:=e
   try simp only[kS,lY] at e
   subst N;replace h:(Aa n).sig.outs[1]?=some (x,S',ks):=h;cases h;obtain⟨l,Lb⟩:=e.oq hf
   ·subst l
    refine eH.succ (eH.zero ?_);exact jf M (bG.fail hf N_)
  |j+2,h,_=>simp[lam,Aa,JK] at h
def aun:G bJ:=[Ug,⟨90,some [C,C],(.one (.R 0))⟩,⟨91,none,(.one (.R 0))⟩,aaz,aaA,avG]
def TM:eX:=⟨0,114,al1,[(.normal,⟨[(10,jk),(11,.ptr 14 0)],[(10,iy),(12,wV),(14,alz)],15⟩,[C,C,C,C,C,C,.str,.R 0,C,.str,C,.R 2]),(.normal,⟨[(10,jk),(11,.ptr 14 0)],[(10,iy),(12,wV),(14,.cells false alv),(15,WL)],16⟩,[C,C,C,C,C,C,.str,.R 0,C,.str,C,.R 2,.R 3])]⟩
def ahE:G iq:=[⟨al1,[C,C,C,C,C,C,.str,.R 0,C,.str,C,.R 2,.R 0,.R 8,C],.B aem (.B iC (.fT adq (.B (.bin .eql amm jI) (.B (.bin .eql (.len ET) iP) (.call 5 [.agg [.S (.cell ET aH 0),.S (.cell ET aH 1),.S (.cell ET aH 2),.S (.cell ET aH 3)]] bL (.call 3 [.agg [.S (.cell ET cO 0),.S (.cell ET cO 1),.S (.cell ET cO 2),.S (.cell ET cO 3)],iG] [lS,mW] (.leaf 1 [wh,vZ,cu,b_,dS,dz,eu,dP,dI,bT,dZ,fD,.S (.snoc .d9 [jq,lG,wU,Bl,yV]),iG,jg,.S Vt] [(15,55)]))) (.leaf 0 am6 [])) (.leaf 0 am6 []))) (.leaf 2 Wd [])) (.leaf 2 Wd [])⟩,⟨⟨[(0,fU),(10,jk),(11,.ptr 14 0),(12,jg),(13,kN),(14,mV)],[(10,iy),(12,wV),(14,.cells false alv),(15,WL)],16⟩,[C,C,C,C,C,C,.str,.R 0,C,.str,C,.R 2,.R 3,.R 0,.R 8,C],.B adA (.B iC (.fT adN (.B (.bin .eql alQ jI) (.B (.bin .eql (.len EA) iP) (.call 5 [.agg [.S (.cell EA aH 0),.S (.cell EA aH 1),.S (.cell EA aH 2),.S (.cell EA aH 3)]] bL (.call 3 [.agg [.S (.cell EA cO 0),.S (.cell EA cO 1),.S (.cell EA cO 2),.S (.cell EA cO 3)],jg] [mW,qJ] (.fT (.bin .leq (.len ajW) mG) (.leaf 1 [vZ,Bj,cu,b_,dS,dz,eu,dP,dI,bT,dZ,fD,.S ajW,jg,kN,.S V_] [(15,56)])))) (.leaf 1 amY [(15,15)])) (.leaf 1 amY [(15,15)]))) adZ) adZ⟩]
def aJD:Tree:=.B (.bin .eql IW fI) (.fT (.bin .lss aH IW) (.call 0 [.agg [.S (.cell bZ aH 0),.S (.cell bZ aH 1),.S (.cell bZ aH 2),.S (.cell bZ aH 3)]] bL (.fT (.bin .lss cO IW) (.call 1 [.agg [.S (.cell bZ cO 0),.S (.cell bZ cO 1),.S (.cell bZ cO 2),.S (.cell bZ cO 3)]] Gf (.call 2 [iG] [] (.fT (.bin .lss iP IW) (.call 3 [.agg [.S (.cell bZ iP 0),.S (.cell bZ iP 1),.S (.cell bZ iP 2),.S (.cell bZ iP 3)],mV] QZ (.B (.bin .eql dU cO) (.leaf 0 [.agg [dP,bT,iG,lS,mW,qJ,qH,aF,aF],rZ,qZ] []) (.fT (.bin .lss jI IW) (.call 4 [.agg [.S (.cell bZ jI 0),.S (.cell bZ jI 1),.S (.cell bZ jI 2),.S (.cell bZ jI 3)]] [rZ,qZ] (.bX 0 [EB,CF,aH,aH,aH,dU,fK,iK,kQ,pU,lG,wU,jq,zh,aH] (.cons (.leaf 0 [.agg [IY,Bh,za,yU,EJ,I5,MU,aF,aF],wT,zU] []) (.cons (.leaf 0 [.agg [IY,Bh,za,yU,EJ,I5,MU,KC,aF],wT,zU] []) .nil))))))))))))) QB
def aJC:ko 61 200 0 TM aun [] ahE:=.of aS
def ZX:TC 61 [oP,.S (.var 9),.S (.var 10),.S (.var 11)] lW aun [TM] aJD (fl++fZ++[.R 8]++[C]++[C]):=tc
def ZY:gU 61:=gY Tryz.func61 aS
def afg (n:Nat):gu:=⟨TM,fun ds=>match ds with|[e,h,T,W,a',b',c',y,A,E,F,P,u,w,d']=>mU [e,h]/\aJ O ds (sk ahE)/\d'=.int .i64 0/\([e,h]=aM->∀x∈rD w,aI x<=n)/\([e,h]=aM->(rD u).length+n<=1000000)|_=>False,
 fun ds j out=>match ds with|[e,h,T,W,a',b',c',y,A,E,F,P,u,w,_]=>RL (bO (eO fun x=>aL (mQ x) fun e'=>aL (Ap e'.1) fun q=>aL (iJ n e'.2 (bg (rD u))) fun t=>.ok (D.str q::t)) ([]:G Rw) (rD w)) (fun l=>.one (.R l)) iQ [e,h] ([]:G Rw) [T,W,a',b',c',y,A,E,F,P] (fun s=>[T,W,a',b',c',y,A,E,F,P,.R s]) j out|_=>False⟩
def aB6:(afg b).eZ ⟨sk ahE,true,0,14,[[(2,2),(3,3),(4,4),(5,5),(6,6),(7,7),(8,8),(9,9),(10,10),(11,11)],[(2,2),(3,3),(4,4),(5,5),(6,6),(7,7),(8,8),(9,9),(10,10),(11,11)]]⟩:=BL
def TM.qE (h:P:=by first|(simp only[eO,mQ,eD];exact QE)|exact QE):P:=h
open TM in
def aL1 (P:bH T) (n:Nat) (hn:n+100<=1000000) (a':(Bq n).aA T):(afg n).Ok T Tryz.prog (fun x=>x∈dO (kU 61)) O fM:=by
 intro ds k'
 match ds,k' with
 |[b',c',d',e',f',g',h',u,w,y,E,F,r',s',u0],⟨Z,hk,t',hex,e⟩=>
 subst t';obtain⟨vars,rfl,p',q'⟩:=bW (rP 12 hk);obtain⟨rows,rfl,lH,W⟩:=bW (rP 13 hk);have v0:rows.length<=1000000:=lH;replace hex:[b',c']=aM->∀x∈rows,aI x<=n:=hex;replace e:[b',c']=aM->vars.length+n<=1000000:=e;have A:fG T _ _:=(ac (Lv P) KG (ac (auX P) aoy (ac (au5 P) aoC (ac a' CS (ac (JL P) CQ (ac (ahQ P) aeE an))))));refine Tf (c:=afg n) (s0:=([]:G Rw)) (step:=eO fun x=>aL (mQ x) fun u'=>aL (Ap u'.1) fun q=>aL (iJ n u'.2 (bg vars)) fun t=>.ok (D.str q::t)) P (fun a k=>a.length<=k) (fun p q i=>[p,q,d',e',f',g',h',u,w,y,E,F,.R vars,.R rows,i]) (fun a p q i=>[p,q,d',e',f',g',h',u,w,y,E,F,.R a,.R vars,.R rows,i]) aJC A hk Z W (fun k row hrow h v' hrun=>?_) fun k a0 row A' hrow h v' hrun=>?_
 ·replace hex:=hex hrun.jE
  replace e:=e hrun.jE;have mh:=hex _ (kg hrow);obtain⟨w',x',j,y',rfl,z',i'⟩:=aT h;refine au aj (fun l'=>?_) (fun l'=>LN);refine au aj (fun l=>?_) (fun l=>have l:¬(j).length=2:=aC;LN)
  replace l:(j).length=2:=aC;obtain⟨D',E',rfl,n',o'⟩:=qN i' aC;obtain⟨F',L',M',P',rfl,T',W'⟩:=aT n';obtain⟨X',b0,e0,f0,rfl,g0,h0⟩:=aT o';refine lF M Y7 fu ?_ fun i0 hy3 hk=>?_;exact EX;refine lF M (fun k=>Fx k (oU:=Yo) (bF:=YB)) fu ?_ fun j0 hy4 hk=>?_;exact EX;obtain⟨k0,l0,m0,o0,rfl,r0,t0⟩:=gQ hk;replace hy4:=nz hy4;exact LN
 ·replace hex:=hex hrun.jE
  replace e:=e hrun.jE;have mh:=hex _ (kg hrow);obtain⟨w',x',j,y',rfl,z',i'⟩:=aT h;refine au aj (fun l'=>?_) (fun l'=>LN);refine au aj (fun l=>?_) (fun l=>have l:¬(j).length=2:=aC;LN)
  replace l:(j).length=2:=aC;obtain⟨D',E',rfl,n',o'⟩:=qN i' aC;obtain⟨F',L',M',P',rfl,T',W'⟩:=aT n';obtain⟨X',b0,e0,f0,rfl,g0,h0⟩:=aT o';refine lF M Y7 fu ?_ fun i0 hy3 hk=>?_;exact EX;refine lF M (fun k=>Fx k (oU:=Yo) (bF:=YB)) fu ?_ fun j0 hy4 hk=>?_;exact EX;obtain⟨k0,l0,m0,o0,rfl,r0,t0⟩:=gQ hk;replace hy4:=nz hy4;exact Yr
def aum.qE (h:P:=by(try simp only[tD,rD,iD,List.nil_append,uT,vR,kS,lY,↓tO,↓uU])<;>(first|rfl|(rw[if_neg I];rfl)|(refine(if_neg I).trans ?_;rfl)|(refine(if_pos bS).trans ?_;unfold Gv;(try simp only[rD,ZG,ZH,ZI,ag7]);(first|rw[hy1]|rw[hy]|rw[jA]);first|rfl|(rw[mq,aGx];(first|rw[hy2]|rw[hy]|rw[jA]);first|rfl|(rw[mq];(try rw[aaR,kS] at hy4);(try rw[aaR,kS] at jA);(try dsimp only);(first|rw[hy4]|rw[hy]|rw[jA]);first|rfl|(rw[mq,if_neg jK];(first|rw[qm]|rw[hy]|rw[jA]);first|rfl|(rw[mq];show aL (bO _ _ _) _=_;(try rw[aaR,kS] at zw);(try rw[aaR,kS] at jA);(first|rw[zw]|rw[hy]|rw[jA]);rfl))))))):P:=h
def aum.qA (h:P:=by exact⟨_,rfl,(by rw[Fw];first|(simp only[aI,uz,bM];omega)|exact aNY oW|exact fF (Ov (T:=8) rfl oW hy4) (fF (hex _ jS) (J4 _ _)))⟩):P:=h
open aum in
def aL2 {T:Nat->ah D} (h:bH T) (n:Nat) (hn:n+100<=1000000) (j:(Bq n).aA T):(Ny n).aA T:=by
 intro V pre ⟨b',Z⟩
 match V,b' with
 |[.agg m0,.one d1,.one o0,.one r0],⟨z',A',D',E',W,hex⟩=>
 obtain⟨s0,t0,c0,F',rfl,y,E,F⟩:=jT z';obtain⟨u0,rfl,P,e⟩:=bW A';obtain⟨L',rfl⟩:=D'.int;obtain⟨M',rfl⟩:=E'.int;have A:fG T _ _:=(ac (Lv h) KG (ac (auX h) aoy (ac (au5 h) aoC (ac j CS (ac (JL h) CQ (ac (ahQ h) aeE an))))));have aD:=(lc (aL1 h n hn j) aB6 ln);replace W:(L'=1/\M'=3)\/(L'=2/\M'=4):=W;rcases W with⟨rfl,rfl⟩|⟨rfl,rfl⟩
 ·rcases Z with rfl|⟨f,hf,rfl⟩
  ·refine Jr h ZY A.1 aD.1 A.2 aD.2 ZX (kD y E F (ay (eP P e) (ay aO (ay aO aX)))) ?_
   replace hex:=hex rfl;refine au aj (fun l=>?_) (fun l=>?_)
   ·obtain⟨c',d',e',rfl,q,u,w⟩:=Dh e aC
    obtain⟨f',g',h',i',rfl,j',k'⟩:=aT q;obtain⟨l',m',n',o',rfl,p',q'⟩:=aT u;obtain⟨r',s',t',u',rfl,v',w'⟩:=aT w;refine aR ?_;refine lF M Dp fu ?_ fun y1 hy1 hk=>?_;exact EG;refine aR ?_;refine lF M asc fu ?_ fun W' hy2 hk=>?_;exact EG;have P':=ag1 hy2;refine eT M asf fun hk=>?_;have x':=jd hk;refine aR ?_;refine lF M (fun k=>Fx k (oU:=Yo) (bF:=YB)) fu ?_ fun X' hy4 hk=>?_;exact EG;obtain⟨v0,w0,x0,A0,rfl,D0,E0⟩:=gQ hk;replace hy4:=nz hy4;exact Oh
   ·refine fO M ?_
    exact jf M (bG.err (f:=(2,F')) qE af0 qA)
  ·refine Sk (fa:=f) h ZY A.1 aD.1 A.2 aD.2 ZX (kD y E F (ay (eP P e) (ay aO (ay aO aX)))) ?_
   refine au aj (fun l=>?_) (fun l=>?_)
   ·obtain⟨c',d',e',rfl,q,u,w⟩:=Dh e aC
    obtain⟨f',g',h',i',rfl,j',k'⟩:=aT q;obtain⟨l',m',n',o',rfl,p',q'⟩:=aT u;obtain⟨r',s',t',u',rfl,v',w'⟩:=aT w;refine aR ?_;exact EF
   ·refine jo (uw M hf) ?_
    exact jf M (bG.fail hf qA)
 ·rcases Z with rfl|⟨f,hf,rfl⟩
  ·refine Jr h ZY A.1 aD.1 A.2 aD.2 ZX (kD y E F (ay (eP P e) (ay aO (ay aO aX)))) ?_
   replace hex:=hex rfl;refine au aj (fun l=>?_) (fun l=>?_)
   ·obtain⟨c',d',e',a0,rfl,q,u,w,y'⟩:=Jl e aC
    obtain⟨f',g',h',i',rfl,j',k'⟩:=aT q;obtain⟨l',m',n',o',rfl,p',q'⟩:=aT u;obtain⟨r',s',t',u',rfl,v',w'⟩:=aT w;obtain⟨b0,e0,f0,g0,rfl,h0,i0⟩:=aT y';refine aR ?_;refine lF M Dp fu ?_ fun y1 hy1 hk=>?_;exact EG;refine aR ?_;refine lF M asc fu ?_ fun W' hy2 hk=>?_;exact EG;have P':=ag1 hy2;refine eT M asf fun hk=>?_;have x':=jd hk;refine aR ?_;refine lF M (fun k=>Fx k (oU:=Yo) (bF:=YB)) fu ?_ fun X' hy4 hk=>?_;exact EG;obtain⟨F0,L0,M0,P0,rfl,T0,W0⟩:=gQ hk;replace hy4:=nz hy4;refine jo M ?_;refine aR ?_;refine lF M Y4 fu ?_ fun j0 qm hk=>?_;exact EG;have X0:=jd hk;obtain⟨T',l0⟩:=zm qm;refine awJ M (fun k=>by exact⟨.inl rfl,k,rfl,(fun _=>by first|exact hex|assumption|(intro x a';have a':x∈j0:=a';rw[T'] at a';have k0:=wz a';exact fF (Ir k0) (hex _ jS))),(fun _=>HL)⟩) ?_ ?_ (fun zw=>?_) fun a1 zw=>?_
    exact EH;exact EI
    ·replace zw:=nz zw
     exact dQ
    ·replace zw:=nz zw
     exact dQ
   ·refine fO M ?_
    exact jf M (bG.err (f:=(2,F')) qE af0 qA)
  ·refine Sk (fa:=f) h ZY A.1 aD.1 A.2 aD.2 ZX (kD y E F (ay (eP P e) (ay aO (ay aO aX)))) ?_
   refine au aj (fun l=>?_) (fun l=>?_)
   ·obtain⟨c',d',e',a0,rfl,q,u,w,y'⟩:=Jl e aC
    obtain⟨f',g',h',i',rfl,j',k'⟩:=aT q;obtain⟨l',m',n',o',rfl,p',q'⟩:=aT u;obtain⟨r',s',t',u',rfl,v',w'⟩:=aT w;obtain⟨b0,e0,f0,g0,rfl,h0,i0⟩:=aT y';refine aR ?_;exact EF
   ·refine jo (uw M hf) ?_
    exact jf M (bG.fail hf qA)
end
end
end Go.Proofs.YtdjcfaaongngeaaGreatDoor

/- SyntaxWords returns true for every slice of integers and leaves it alone: for the text that is composed of the words which the integers choose, Parse returns the session or the fault of the specification. Conditions: none beyond those of the card: the package variables hold what the program's text lays. -/
import Derived.Test.YtdjcfaaongngeaaGreatDoorZB
set_option linter.all false
set_option maxRecDepth 100000
set_option maxHeartbeats 0
namespace Go.Proofs.YtdjcfaaongngeaaGreatDoor
noncomputable section
section
open Go.RowKit
def aDm (n m:Int) (e:0<m):n%m=if n.tmod m<0 then n.tmod m+m else n.tmod m:=by
 have h:=Int.emod_nonneg n (by omega:m≠0)
 have j:=Int.emod_lt_of_pos n e;rw[Int.tmod_eq_emod];split<;>rename_i hc
 ·split<;>omega
 ·have:(m.natAbs:Int)=m:=by omega
  rw[this];split<;>omega
def aGo (n m:Int) (u:0<m) (A:m<=4294967296) (w:ak):Calls Tryz.prog 10 #[.int .i64 n,.int .i64 m] w fun e w'=>e=.returned (.int .i64 (n%m))/\w=w':=by
 have E:¬m=0:=I;have j:-m<n.tmod m/\n.tmod m<m:=by
  have y:=Int.natAbs_tmod n m;have T:(n.tmod m).natAbs<m.natAbs:=by rw[y];exact Nat.mod_lt _ I
  omega
 have l:=aDm n m u;have q:=Q l;clear l;obtain⟨r,U⟩:∃r,n.tmod m=r:=⟨_,rfl⟩;rw[U] at j;obtain⟨F,P⟩:=j;have W:IntKind.i64.wrap (n.tmod m)=r:=by rw[U,IntKind.wrap_i64];omega
 have HR:=Q U
 by_cases h:r<0
 ·go_enter Tryz.func10,Tryz.ntmps10
  go_wp2;go_ret;exact⟨by rw[q.out,HR.out,bK h];rfl,rfl⟩
 ·go_enter Tryz.func10,Tryz.ntmps10
  go_wp2;go_ret;exact⟨by rw[q.out,HR.out,bB I];rfl,rfl⟩
def aOy {P:bA} (w:ak) {ops:dF Oper} {rest:G Oper} {o:Oper} {a:Act} {aY:Exit->Act->ak->Prop} (A:o.guard=none) (s x:je) (t u:dh)
 (N:o.op=.call {callee:=.builtin .append,args:=#[s,x],argTypes:=#[t,u]}) (e:dh) (i:TypeInfo) (E:P.underlying t=some (.slice e)) (J:P.info? e=some i) (b off n cap:Nat) (F:a.eval s=.slice (some ⟨b,off,none⟩) n cap)
 (v:av) (T:a.eval x=v) (m:Nat) (l:G av) (y:Src P i.size u v m l w) (q:n+m<=cap)
 (hc:∀j,j<l.length->(w.cell? ⟨b,off+n*i.size+j,none⟩).isSome=true) (hf:∀j,j<l.length->w.frozen? ⟨b,off+n*i.size+j,none⟩=false)
 (h:wpList P ops aY rest (a.put o.dst (.slice (some ⟨b,off,none⟩) (n+m) cap)) (w.setCells b (off+n*i.size) l)):wpList P ops aY (o::rest) a w:=by
 refine wpList_plain A fun aj W=>?_;have U:=run_append_room_src (P:=P) w t u o.type e i E J b off n cap v m l y q hc hf;unfold Oper.wp execOp;simp only[N,resolve,invoke,builtin,Ma,Qb,Ei,List.map_toArray,AU,List.map_nil,F,T,U];exact W _ _ h
def JO (n:Nat) (c:dG):dA:=⟨(List.replicate n c).toArray⟩
def aCC (n:Nat) (c:dG):bytes (JO n c)=List.replicate n c:=by simp[bytes,JO]
def aMH (n:Nat) (c:dG):(JO n c).size=n:=by rw[<-jX,aCC,aw2]
def ajr (w:ak) (c:dG) (n:Nat) (k:Nat) (h j:av) (wr:ak):Prop:=
 ∃(i:Nat) (e:dF av),k=n-i/\i<=n/\j=.int .i64 (i:Nat)/\h=.slice (some ⟨w.heap.size,0,none⟩) i n/\wr.heap[w.heap.size]?=some (.cells e 5 (0,0))/\e.size=n/\e.toList.take i=(List.replicate i c).map rC/\Below w.heap.size w wr
def aMI (c:dG) (n:Nat) (hn:n<=70000) (w:ak):Calls Tryz.prog 11 #[.string ⟨#[c]⟩,.int .i64 n] w fun e w'=>e=.returned (.string (JO n c))/\Below w.heap.size w w':=by
 obtain⟨ti,q,b',u,c'⟩:=Qe agG;have v':∀W:ak,(Instr.makeSlice 79 (.int .i64 0) (.int .i64 (n:Int))).run Tryz.prog W=.ok (.slice (some ⟨W.heap.size,0,none⟩) 0 n) (W.alloc (.cells (madeCells #[.int .u8 0] n) 5)):=fun W=>by
  have h:=run_make (P:=Tryz.prog) W 79 5 ti (.int .u8 0) Cq q b' .i64 .i64 0 (n:Int) I I (by rw[c'];omega) I
  rw[u] at h
  simpa[Value.cells] using h
 have o':max (n:Int) 0=(n:Int):=I;have y:=Q u;have f':=Q q;clear b' u c' q;have y':(0:Int)<=(n:Int):=I;go_enter Tryz.func11,Tryz.ntmps11;go_wp2_with fail;go_loopg [5,6] n (fun k p' q' wr=>ajr w c n k p' q' wr)
 case atStart=>exact⟨0,_,rfl,gK _,rfl,rfl,lu w _,by simp[madeCells],rfl,(iN _ _).alloc (bq _) _⟩
 case round=>
  obtain⟨i,A,g',J,rfl,rfl,h',jY,d',i'⟩:=hrel;have r':=Q g';have T:=Q h';have a':=Q jY;have j':=Q d';have k':=Q i';clear g' h' jY d' i'
  by_cases x':i<n
  ·have z':(i:Int)<(n:Int):=by omega
   have E:Src Tryz.prog ti.size 9 (.string ⟨#[c]⟩) 1 [rC c] wr:=by rw[y.out];exact Src.ofString wr A_ ⟨#[c]⟩
   have s':=Q E;clear E;go_wp2_with (at_builtin;refine aOy _ rfl _ _ 79 9 rfl 5 ti Cq f'.out w.heap.size 0 i n rfl (.string ⟨#[c]⟩) rfl 1 [rC c] s'.out I ?hc ?hf ?_)
   case hc=>
    intro j t';have l':j=0:=by simp at t';omega
    subst l';rw[gX wr _ _ _ _ _ T.out,y.out];have:=a'.out;simp;omega
   case hf=>intro j _;simp[World.frozen?,T.out]
   have l:ajr w c n (n-(i+1)) (.slice (some ⟨w.heap.size,0,none⟩) (i+1) n) (.int .i64 ((i+1:Nat):Int)) (wr.setCells w.heap.size (i*ti.size) [rC c]):=by
    refine⟨i+1,A.setIfInBounds i (rC c),rfl,by omega,rfl,rfl,?_,by simpa using a'.out,?_,?_⟩
    ·rw[y.out,ai5]
     exact o_ T.out
    ·have u':i<A.toList.length:=by have:=a'.out;simp;omega
     rw[UE,P_ (by simpa using u'),aw6 (bq _),j'.out,List.getElem_set_self,aw5,aa2]
     rfl
    ·exact k'.out.setCell (bq _) _
   have m':=Q l;clear l;go_wp2_with fail;go_roundg (n-(i+1))
   case measure=>have:=r'.out;omega
   case rel=>exact m'.out
  ·have n':i=n:=by omega
   subst n';have F:wr.ownsRow w.heap.size 5 1 (.slice (some ⟨w.heap.size,0,none⟩) (List.replicate i c).length i) (List.replicate i c).length ((List.replicate i c).map rC):=
    ⟨by simp,.inr ⟨w.heap.size,i,A,rfl,bq _,T.out,by simp,by unfold maxLen;omega,by rw[a'.out];simp,by rw[<-j'.out];simp⟩⟩
   have e':=aff (P:=Tryz.prog) F (fun _ _=>rfl) 79 9 Cq UU A_;rw[aw2] at e';change _=Result.ok (Value.string (JO i c)) wr at e';clear F;go_wp2_with fail;go_ret;exact⟨rfl,k'.out⟩
end
variable {g:Nat}{T:Nat->ah D}{W:ak}
section
open Go Go.RowKit
def PV:G (G Nat):=[[40],[41],[40],[41],[40,116,97,115,107],[40,112,97,99,107,97,103,101,32,112],[40,101,118,97,108],[40,109,101,116,104,111,100,32,102,32,40,41,32,40,40,120,32,73,110,116,41,41],[40,115,116,114,117,99,116,32,83,32,40,41,32,65,110,121,32,40,41],[40,108,101,116,32,120],[40,97,100,100],[40,105,102],[40,116,117,112,108,101],[40,102],[120],[49],[116,114,117,101],[34,115,34],[110,105,108],[40,110,101,119,32,68,111,116],[40,111,117,116,112,117,116],[40,101,100,105,116],[40,108,111,97,100,32,112,41],[40,112,97,117,115,101,41],[40,103,101,116],[105,116,101,109],[40,105,115],[73,110,116],[65,110,121]]
def abE (w:ak) (a:ah Addr) (len:Nat):Prop:=len<=17592186044416/\∀i,i<len->∃b off z,a=some ⟨b,off,none⟩/\w.cell? ⟨b,off+i,none⟩=some (.int .i64 z)
def aOx:∀l∈PV,l.length<=22:=by
 have h:(PV.all fun l=>decide (l.length<=22))=true:=aS;intro l e
 simpa using Ch.1 h l e
def axn (W:ak) (n:Nat) (k:Nat) (e h j:av) (wr:ak):Prop:=
 ∃(i:Nat) (s:dA) (d:Int),k=80-i/\i<=80/\i<=n/\e=.string s/\s.size<=i*23/\h=.int .i64 d/\-((i*22:Nat):Int)<=d/\d<=((i*22:Nat):Int)/\j=.int .i64 (i:Nat)/\Below W.heap.size W wr
def axo (e:ak) (x:dA) (d0:Int) (k:Nat) (h l:av) (wr:ak):Prop:=
 ∃(j:Nat) (d:Int),k=x.size-j/\j<=x.size/\h=.int .i64 d/\d0-(j:Int)<=d/\d<=d0+(j:Int)/\l=.int .i64 (j:Nat)/\wr=e
def aGp (z:Int):∃r:Nat,r<29/\∀W:ak,Calls Tryz.prog 10 #[.int .i64 z,.int .i64 29] W fun e w'=>e=.returned (.int .i64 (r:Int))/\w'=W:=by
 obtain⟨r,U⟩:∃r:Nat,z%29=(r:Int):=aiM (Int.emod_nonneg _ I);have:=Int.emod_lt_of_pos z (b:=29) I;refine⟨r,by omega,fun W=>(aGo z 29 I I W).mono fun _ _ h=>⟨by rw[h.1,U],h.2.symm⟩⟩
def aF0 (g':bH T) (a:ah Addr) (len cap:Nat) (W:ak) (J:abE W a len) (t0:Es W 0 PV) (u0:ug T (dM W)):Calls Tryz.prog 4 #[.slice a len cap] W fun e W'=>e=.returned (.bool true)/\Below W.heap.size W W':=by
 obtain⟨b,off,m1,arr,m2,fr,v0,-,-,-,w0⟩:=t0.at_;have o1:=Q J;have x0:=Q v0;have A0:=Q w0;have D0:=Q u0;clear J t0 u0 v0 w0;go_enter Tryz.func4,Tryz.ntmps4;go_wp2_with fail;go_loopg [3,4,5] 80 (fun k r1 e0 s1 wr=>axn W len k r1 e0 s1 wr)
 case atStart=>exact⟨0,_,0,rfl,by omega,gK _,rfl,bq _,rfl,by omega,by omega,rfl,iN _ _⟩
 case round=>
  obtain⟨i,s,d,E0,u1,X1,rfl,F0,rfl,E,F,rfl,h⟩:=hrel;have v1:=Q E0;have w1:=Q F0;have A3:=Q (And.intro E F);have a':=Q h;have z0:s.size<=1840:=I;clear E0 F0 E F h;have n2:(0:Int)<=(i:Int):=I
  by_cases h':i<len/\i<80
  ·obtain⟨h',a2⟩:=h'
   have L0:(i:Int)<(len:Int):=I;have x1:(i:Int)<80:=I;obtain⟨lb,lo,z,rfl,f0⟩:=o1.out.2 i h';obtain⟨r,U,M0⟩:=aGp z;obtain⟨x,c'⟩:∃x,PV[r]?=some x:=⟨_,gM (show r<PV.length from U)⟩
   have w':=aOx x (kg c');have c0:wr.cell? ⟨0,0,none⟩=some (.slice (some ⟨b,off,none⟩) 29 m1):=(a'.out.cell (rX W _ x0.out)).trans x0.out;have c1:wr.cell? ⟨lb,lo+i,none⟩=some (.int .i64 z):=(a'.out.cell (rX W _ f0)).trans f0;have c2:wr.cell? ⟨b,off+r,none⟩=some (.string (bC x)):=(a'.out.cell (rX W _ (A0.out r x c'))).trans (A0.out r x c');have A1:(bC x).size<=22:=by rw[yt];exact w'
   generalize bC x=y at c2 A1
   have o2:(0:Int)<=(r:Int):=I;have r2:(r:Int)<29:=I;have D1:=Q M0;clear M0 c' w' f0;go_wp2_with fail;go_quiet ((go_at_call 10;exact Io (D1.out _)));rename Nat=>e'
   have E1:=Q (a'.out.trans (Below.vE (w:=wr) (m:=e') rfl))
   generalize wr.drewN e'=wo at*
   clear c0 c1 c2 a';have z1:(y++⟨#[32]⟩:dA).size<=23:=by rw[aiL];show y.size+1<=23;omega
   have z2:(s++(y++⟨#[32]⟩):dA).size<=(i+1)*23:=by rw[aiL];have:=w1.out;omega
   have z3:(s++(y++⟨#[32]⟩):dA).size<=1863:=I;go_wp2_with fail;go_loopg [4,7] y.size (fun k e0 F1 P0=>axo wo y d k e0 F1 P0)
   case atStart=>exact⟨0,d,rfl,gK _,rfl,by omega,by omega,rfl,rfl⟩
   case round=>
    obtain⟨j,e,x',s2,rfl,y',z',rfl,rfl⟩:=hrel;have g0:=Q x';have b':=Q (And.intro y' z');have u2:IntKind.i64.wrap (e+1)=e+1:=wrap_i64 RV RV;have P0:IntKind.i64.wrap (e-1)=e-1:=wrap_i64 RV RV;clear x' y' z';have v2:(0:Int)<=(j:Int):=I
    by_cases b2:j<y.size
    ·have w2:(j:Int)<(y.size:Int):=by omega
     by_cases i':(y[j].toNat:Int)=40
     ·have L1:=pz i'
      have gb:((y[j].toNat:Int)==41)=false:=by rw[i'];rfl
      clear i';go_wp2_with fail;go_roundg (y.size-(j+1))
      case measure=>have:=g0.out;omega
      case rel=>exact⟨j+1,e+1,rfl,by omega,rfl,by have:=b'.out;omega,by have:=b'.out;omega,rfl,rfl⟩
     ·have L1:=nK i'
      clear i'
      by_cases h:(y[j].toNat:Int)=41
      ·have gb:=pz h
       clear h;go_wp2_with fail;go_roundg (y.size-(j+1))
       case measure=>have:=g0.out;omega
       case rel=>exact⟨j+1,e-1,rfl,by omega,rfl,by have:=b'.out;omega,by have:=b'.out;omega,rfl,rfl⟩
      ·have gb:=nK h
       clear h;go_wp2_with fail;go_roundg (y.size-(j+1))
       case measure=>have:=g0.out;omega
       case rel=>exact⟨j+1,e,rfl,by omega,rfl,by have:=b'.out;omega,by have:=b'.out;omega,rfl,rfl⟩
    ·have d2:decide (j<y.size)=false:=by simp;omega
     go_wp2_with fail;go_roundg (80-(i+1))
     case measure=>have:=v1.out;omega
     case rel=>exact⟨i+1,_,e,rfl,by omega,by omega,rfl,z2,rfl,by have:=A3.out;have:=b'.out;omega,by have:=A3.out;have:=b'.out;omega,rfl,E1.out⟩
  ·have c':len<=i\/i<len/\80<=i:=by omega
   obtain⟨n,e2⟩:∃n:Nat,max d 0=(n:Int):=⟨(max d 0).toNat,by omega⟩
   have hn:n<=1760:=RV;have T0:=Q (D0.out.mono (qO a'.out (bq _)));have z1:(JO n 41).size<=1760:=by rw[aMH];exact hn
   have z2:(s++JO n 41).size<=3600:=by rw[aiL];omega
   rcases c' with c'|⟨f2,g2⟩
   case' inr=>
    have L0:(i:Int)<(len:Int):=I;have x1:decide (i<80)=false:=gJ
   case' inl=>have L0:decide (i<len)=false:=by simp;omega
   all_goals
    go_wp2_with fail;refine(aMI 41 n I wr).mono ?_;rintro e W0 ⟨rfl,j'⟩;have X0:=Q (T0.out.mono (qO j' (bq _)));have A':=Q (a'.out.trans (j'.mono a'.out.size));clear j';go_wp2_with fail
    generalize s++JO n 41=txt at*
    have D':txt.size<=9223372036854775807:=I;go_wp2_with (refine(atJ g' txt _ D' X0.out).mono ?_;rintro e W1 ⟨E',ps,ts,x2,y2,k,o,rfl,E,F,F'⟩;obtain⟨va,h0,rfl⟩:=Jj E;obtain⟨vb,i0,rfl⟩:=Jj F;have q:Hid (Below W0.heap.size W0 W1/\DR (dM W1) (.R ps) (.slice va ps.length h0)/\DR (dM W1) (.R ts) (.slice vb ts.length i0)/\zM txt ps ts k o):=⟨E',E,F,F'⟩;clear E' E F F')
    obtain⟨h,p0,p1,p2,p3⟩:=Zq W1 (.slice va ps.length h0) (.slice vb ts.length i0) (.int .i64 k) (.int .i64 o) 25 28;obtain⟨d_,l'⟩:∃d_,(W1.alloc (.cells #[.slice va ps.length h0,.slice vb ts.length i0] 25)).alloc (.cells #[.int .i64 k,.int .i64 o] 28)=d_:=⟨_,rfl⟩;rw[l'] at h p0 p1 p2 p3⊢;clear l';have L':=Q (X0.out.mono (qO (q.out.1.trans (h.mono q.out.1.size)) (bq _)));have HP:=Q (And.intro p0 (And.intro p1 (And.intro p2 p3)));have a1:=Q h;clear h p0 p1 p2 p3;go_wp2_with (refine(au2 g' txt _ D' L'.out).mono ?_;rintro e A ⟨M',h2,i2,j2,k2,k',o',rfl,m',n',P'⟩;obtain⟨rfl,rfl,rfl,rfl⟩:=avs q.out.2.2.2 P';obtain⟨p',q',rfl⟩:=Jj m';obtain⟨r',s',rfl⟩:=Jj n';have d':Hid (Below d_.heap.size d_ A/\DR (dM A) (.R ps) (.slice p' ps.length q')/\DR (dM A) (.R ts) (.slice r' ts.length s')):=⟨M',m',n'⟩;clear M' m' n' P')
    obtain⟨h,p0,p1,p2,p3⟩:=Zq A (.slice p' ps.length q') (.slice r' ts.length s') (.int .i64 k) (.int .i64 o) 25 28;obtain⟨f',l'⟩:∃f',(A.alloc (.cells #[.slice p' ps.length q',.slice r' ts.length s'] 25)).alloc (.cells #[.int .i64 k,.int .i64 o] 28)=f':=⟨_,rfl⟩;rw[l'] at h p0 p1 p2 p3⊢;clear l';have u:Hid (Below d_.heap.size d_ f'):=Q (d'.out.1.trans (h.mono d'.out.1.size));have T':=Q (L'.out.mono (qO u.out (bq _)));have b1:=Q (And.intro p0 (And.intro p1 (And.intro p2 p3)));have f1:=Q h;clear h p0 p1 p2 p3;go_wp2_with (refine(ao2 g' _ T'.out).mono ?_;rintro e aB ⟨rfl,X'⟩;have l:=Q X';clear X';obtain⟨q0,q1,q2,q3⟩:=HP.out;obtain⟨s0,t',u',j0⟩:=b1.out;have l1:=rX d_ _ q0;have l2:=rX d_ _ q2;have k0:=rX f' _ s0;have l0:=rX f' _ u';have M1:=u.out.size;replace q0:=(l.out.cell (p:=⟨W1.heap.size,0,none⟩) YM).trans ((u.out.cell (p:=⟨W1.heap.size,0,none⟩) l1).trans q0);replace q1:=(l.out.cell (p:=⟨W1.heap.size,1,none⟩) YM).trans ((u.out.cell (p:=⟨W1.heap.size,1,none⟩) l1).trans q1);replace q2:=(l.out.cell (p:=⟨W1.heap.size+1,0,none⟩) YO).trans ((u.out.cell (p:=⟨W1.heap.size+1,0,none⟩) l2).trans q2);replace q3:=(l.out.cell (p:=⟨W1.heap.size+1,1,none⟩) YO).trans ((u.out.cell (p:=⟨W1.heap.size+1,1,none⟩) l2).trans q3);replace s0:=(l.out.cell (p:=⟨A.heap.size,0,none⟩) k0).trans s0;replace t':=(l.out.cell (p:=⟨A.heap.size,1,none⟩) k0).trans t';replace u':=(l.out.cell (p:=⟨A.heap.size+1,0,none⟩) l0).trans u';replace j0:=(l.out.cell (p:=⟨A.heap.size+1,1,none⟩) l0).trans j0;clear l1 l2 k0 l0 M1)
    have m0:=rX aB _ q0;have e':=rX aB _ s0;go_wp2_with (refine(arP k o aB).mono ?_;rintro e o0 ⟨rfl,P⟩;replace q0:=(P.cell (p:=⟨W1.heap.size,0,none⟩) m0).trans q0;replace q1:=(P.cell (p:=⟨W1.heap.size,1,none⟩) m0).trans q1;replace s0:=(P.cell (p:=⟨A.heap.size,0,none⟩) e').trans s0;replace t':=(P.cell (p:=⟨A.heap.size,1,none⟩) e').trans t';have a0:=Q P;clear P m0 e' q2 q3 u' j0)
    have v':dX (dM f') (dM o0):=(qO l.out (bq _)).trans (qO a0.out (bq _));have e1:dX (dM W1) (dM o0):=(qO a1.out (bq _)).trans ((qO u.out (bq _)).trans v');have r0:dX (dM A) (dM o0):=(qO f1.out (bq _)).trans v';have P1:=Q (avn g' (avr g' q.out.2.2.2) (T'.out.mono v') (q.out.2.1.mono e1) (q.out.2.2.1.mono e1) (d'.out.2.1.mono r0) (d'.out.2.2.mono r0));clear e1 r0 v';go_wp2_with (refine P1.out.mono ?_;rintro e A2 ⟨rfl,b0⟩;have g1:=Q b0;clear b0)
    refine ni (abx rfl _ _ _) rfl ⟨rfl,?_⟩;have h1:=q.out.1.trans (a1.out.mono q.out.1.size);have i1:=h1.trans (u.out.mono h1.size);have j1:=i1.trans (l.out.mono i1.size);have k1:=j1.trans (a0.out.mono j1.size);have T1:=k1.trans (g1.out.mono k1.size);exact A'.out.trans (T1.mono A'.out.size)
end
section
open Go Go.ChangeShapes Go.WideShapes Go.ChangeAt Go.RowKit
def own:ownKnob Tryz.prog.godebug=none:=by kernel_rfl
def agp:Tryz.prog.globalNamed "telpher/typeterm.reserved" =some 3:=by kernel_rfl
def ail:(Tryz.prog.globals[3]?).map (·.type)=some 36:=by kernel_rfl
def agq:Tryz.prog.globalNamed "telpher/typetext.reserved" =some 4:=by kernel_rfl
def ain:(Tryz.prog.globals[4]?).map (·.type)=some 36:=by kernel_rfl
def agn:Tryz.prog.globalNamed "telpher/syntax.reserved" =some 1:=by kernel_rfl
def aik:(Tryz.prog.globals[1]?).map (·.type)=some 36:=by kernel_rfl
def gWd:Tryz.prog.globalNamed "telpher/tellaw18.words" =some 0:=by kernel_rfl
def tWd:(Tryz.prog.globals[0]?).map (·.type)=some 36:=by kernel_rfl
def Sn:Tryz.prog.globalNamed "strconv.ErrRange" =some 6:=by kernel_rfl
def tER:(Tryz.prog.globals[6]?).map (·.type)=some 167:=by kernel_rfl
def laidOut:laidOutB Tryz.prog=true:=by kernel_rfl
def aCz:Tryz.prog.bytesOf 3=8:=by kernel_rfl
def afb:Tryz.prog.cellsOf 9=1:=by kernel_rfl
def ae9:Tryz.prog.cellsOf 206=1:=by kernel_rfl
def star: "*" ++ "errors.errorString" = "*errors.errorString" :=by decide
def ahV (u:dh) (h:Tryz.prog.typeName? 3 u=some "*errors.errorString"):u=204:=
 typeName_ptr_named (nm:= "errors.errorString") (by rw[star];kernel_rfl) aS jK u (by rw[star];exact h)
def aFH {aP:Type} {enc:dh×av->aP} {a:ah Addr} {len:Nat} {d:DataW aP} {p:G MemPlace} (h:DataW.Trod enc Tryz.prog W 0 (fun _=>true) true 35 (.slice a len g) d p)
 (E:∀u w,d=.slice u w->(u.length+w.length)*8<=reachBytes):abE W a len:=by
 obtain⟨fuel,hf⟩:=h;rcases open_ints ajc abk aS hf with⟨jY,_⟩|⟨x,l,c,F,jY,_,b',c',P,y,e,a'⟩
 ·simp[Value.cells] at jY
  obtain⟨rfl,rfl,rfl⟩:=jY;exact⟨by omega,fun i J=>by omega⟩
 ·simp[Value.cells] at jY
  obtain⟨rfl,rfl,rfl⟩:=jY;simp only[eG] at y;obtain⟨rfl,rfl⟩:=y;simp only[qX] at P;have T:=E _ _ rfl;simp only[lits,tX,oL,sK,reachBytes] at T;refine⟨by omega,fun i J=>?_⟩
  obtain⟨b,off,q⟩:=x;have A:=e 0 I;have j:q=none:=by simpa[Addr.add] using World.cell?_spot A
  subst j;refine⟨b,off,F.getD i 0,rfl,?_⟩;have:=e i I
  rwa[oH] at this
def SY {aP:Type}:G (String×DataW aP):=[("math/bits.deBruijn32tab",Rows.laid_math_bits_deBruijn32tab),("math/bits.deBruijn64tab",Rows.laid_math_bits_deBruijn64tab),("internal/strconv.uint64pow10",Rows.laid_internal_strconv_uint64pow10),("strconv.ErrRange",Rows.laid_strconv_ErrRange),("strconv.ErrSyntax",Rows.laid_strconv_ErrSyntax),("telpher/typeterm.reserved",Rows.laid_telpher_typeterm_reserved),("telpher/typetext.reserved",Rows.laid_telpher_typetext_reserved),("telpher/syntax.reserved",Rows.laid_telpher_syntax_reserved),("telpher/tellaw18.words",Rows.laid_telpher_tellaw18_words)]
def ais (e:av) (g:Nat):ah D:=if g=3\/g=4 then some tT else if g=1 then some tS else if g=6 then some (.any e) else none
def aGM {W:ak} (h:laidMetH Tryz.prog SY W):(∃T,bH T/\ug T (dM W))/\Es W 0 PV:=by
 rw[aw7 _ _ _ aS] at h;obtain⟨a0,s0,g',-,-,-⟩:=laid_sentinel h.tail.tail.tail Sn tER ai9 ahV aja ajb rfl rfl A_ ae9 afb;obtain⟨ps,⟨l',m',h',n',p0,q0,j,w,y,A,⟨o',t1,i',p',p1,q1,l,E,F,P,⟨q',t2,j',r',p2,q2,q,a',b',c',⟨s',t3,k',t',p3,q3,u,d',e',f',_,_⟩,_⟩,_⟩,_⟩,_,_⟩:=h.tail.tail.tail.tail.tail;obtain rfl:=bI (agp.symm.trans j);obtain rfl:=bI (agq.symm.trans l);obtain rfl:=bI (agn.symm.trans q);obtain rfl:=bI (gWd.symm.trans u);obtain rfl:=bI (tWd.symm.trans d');obtain rfl:=bI (ail.symm.trans w);obtain rfl:=bI (ain.symm.trans E);obtain rfl:=bI (aik.symm.trans a');have e1:Es W 3 xM:=Lr jK jK (fun v e=>by have:=Iy j y 0;rw[e] at this;simpa using this) A
 have e2:Es W 4 xM:=Lr jK jK (fun v e=>by have:=Iy l F 0;rw[e] at this;simpa using this) P
 have e3:Es W 1 BR:=Lr jK jK (fun v e=>by have:=Iy q b' 0;rw[e] at this;simpa using this) c'
 have e4:=Iy Sn g' 0;refine⟨?_,Lr (Cr aS) (Cr aS) (fun v e=>by have:=Iy u e' 0;rw[e] at this;simpa using this) f'⟩
 exact aqo
def aDg (os:Os) (args:dF av):laidMetH Tryz.prog SY ((World.doorLaid Tryz.prog 77 os).forCall (fun _ _=>0) ⟨#[],args,[]⟩).memory:=
 laidMetH_of_parts3 (fuel:=8) (laidMet_of_run' 8 aS aS) aS aS
def aGd (os:Os) (u:os.Started) (aP:Type) (enc:dh×av->aP):
 ReturnsInHanded {} Tryz.checked os 4 .any (fun w args=>(Rows.syntaxWordsSpec.pre enc Tryz.prog Tryz.f4 [] false w args/\laidMetH Tryz.prog SY w)/\sizedMet enc Tryz.prog Tryz.f4 (OpenSpec.ofChange Rows.syntaxWordsSpec) false w args)
  (Rows.syntaxWordsSpec.post enc Tryz.prog Tryz.f4 false true false false):=by
 refine axc (C:=Tryz.checked) (X:=fun w _=>laidMetH Tryz.prog SY w) (fun _ _ _ j' h=>h.of_heap j') own u aS Tryz.func4
  (awR (enc:=enc) (C:=Tryz.checked) (os:=os) (X:=fun w _=>laidMetH Tryz.prog SY w) false (World.doorLaid Tryz.prog 77 os) #[.slice none 0 0] 8 rfl (World.shaped_of_RefB aS aS) aS aS aS (aDg os _)) ?_
 intro W base args ds k' c' l d' _ e' hL _;have y:∀(j:Nat) t v,Tryz.f4.params[j]?=some t->args[j]?=some v->Value.okWide Tryz.prog W .any base t v:=l;have f':=d';obtain⟨p,q,F,l',rfl,s',t'⟩:=d';have g':DataW.TrodAll enc Tryz.prog W 0 (fun _=>true) true Tryz.f4.params.toList args.toList ds p:=F;have A:(DataW.weightsEach Tryz.prog (Tryz.f4.params.toList++Rows.syntaxWordsSpec.plain.varTypes Tryz.prog) (ds++k')).all (·<=reachBytes)=true:=e'
 rw[Tryz.params4] at g' y A;obtain⟨v0,d0,rfl,rfl,a'⟩:=trodAll_one g';obtain⟨rfl,rfl⟩:=trodVars_none l';obtain⟨h',E,b',rfl⟩:=okWide_slice ajc (y 0 35 v0 rfl rfl);have i':∀x∈p,x.block<W.heap.size:=by obtain⟨m,m'⟩:=a';exact DataW.trod_lt m _ _ _ m'
 have n':abE W h' E:=aFH a' fun u' v' e=>by
  subst e;have:=sized_slice A (j:=0) (t:=35) (e:=3) rfl rfl ajc
  rwa[aCz] at this
 clear F l;obtain⟨⟨T,o',p'⟩,q'⟩:=aGM hL;refine(aF0 o' h' E b' W n' q' p').mono fun e W' ⟨r',P⟩=>?_;subst r';exact⟨_,rfl,_,_,_,[],_,[],f',trodAll_mk1 (shut_bool UR _),trodAll_mk1 (Below.trod laidOut aS (Cr aS) a' P i'),rfl,P.frame _,fun h=>by cases h⟩
def aNC:Rows.SyntaxWordsSaid:=
 aw9 4 Tryz.f4 rfl rfl rfl rfl rfl rfl rfl ⟨rfl,rfl,rfl,rfl,rfl⟩ rfl rfl rfl rfl rfl aS Tryz.func4 aS
  (Cr aS) (by unfold Func.isWrapper;first|(rw[bK (by decide+kernel)];kernel_rfl)|(rw[bB (by decide+kernel)];exact⟨rfl,rfl⟩))
  (fun os e aP enc _=>aGd os e aP enc)
theorem syntaxWords_holds:Rows.SyntaxWordsCardSaid:=
 awS .later [] [.data,.data,.data,.sentinel,.sentinel,.widerDeep,.widerDeep,.widerDeep,.data] true (true,"ce2f6d22ec1ab6b6983773e5a5673d6df0ad457cbc35673e0a1c7c6e2101b5e8") true
  aNC (fun _ h=>by cases h) aS (fun _ h=>by cases h) syntaxWords_row_tie rfl ⟨rfl,rfl⟩ aS rfl
  (fun f fn hf l=>by
   obtain rfl:f=4:=bI ((show Tryz.prog.funcNamed "telpher/tellaw18.SyntaxWords" =some 4 by kernel_rfl).symm.trans hf)|>.symm
   obtain rfl:fn=Tryz.f4:=(bI (Tryz.func4.symm.trans l)).symm;exact⟨by kernel_rfl,fun j t q=>by
    rw[Tryz.params4] at q;have w:t∈[35]:=by have:=awN q;simp at this⊢;omega
    have e:([35].all fun u=>!Tryz.prog.wantsStandIn u)=true:=aS;exact(show Tryz.prog.wantsStandIn t=false by simpa using Ch.1 e t w)⟩)
  aS
end
end
end Go.Proofs.YtdjcfaaongngeaaGreatDoor

/- A part of the proof: see the last text. -/
import Derived.Test.YtdjcfaaongngeaaGreatDoorZf
import Derived.Test.YtdjcfaaongngeaaGreatDoorZh
set_option linter.all false
set_option maxRecDepth 100000
set_option maxHeartbeats 0
namespace Go.Proofs.YtdjcfaaongngeaaGreatDoor
noncomputable section
variable {b g:Nat}{W:ak}{v:av}{c:G (G Kd)}{F:dF av}{X:G (G Nat)}
section
open Go Go.RowKit Go.ChangeShapes Go.WideShapes Go.ChangeAt
def JV (L:G (G Nat)):D:=.R (L.map fun l=>[.str l])
def XW (v:Nat):G (G Nat)->Nat->G (Y×Y)
 |[],_=>[]
 |l::r,i=>(.cell (.var v) (.int .i64 i) 0,.str l)::XW v r (i+1)
def aaM (v:Nat) (L:G (G Nat)):G (Y×Y):=(.len (.var v),.int .i64 L.length)::XW v L 0
def aoZ {F:Nat->D} {v:Nat} {q:G (G Nat)} (h:F v=JV q):∀{L:G (G Nat)} {i:Nat},q.drop i=L->∀e x,(e,x)∈XW v L i->den F e=den F x
 |[],i,_,e,x,j=>by cases j
 |l::r,i,u,e,x,j=>by
  simp only[XW] at j;rcases g_.1 j with j|j
  ·simp only[eG] at j
   obtain⟨rfl,rfl⟩:=j;have J:q[i]?=some l:=by
    have:(q.drop i)[0]?=some l:=by rw[u];rfl
    simpa using this
   simp only[den,h,f_];show(match(q.map fun l=>[D.str l])[i]? with|some row=>row[0]?|none=>none)=_
   rw[AQ,J]
   rfl
  ·refine aoZ h (L:=r) (i:=i+1) ?_ e x j
   have:(q.drop i).tail=r:=by rw[u];rfl
   rw[<-this,aiZ]
def air {F:Nat->D} {L:G (G Nat)} (h:F b=JV L):∀e x,(e,x)∈aaM b L->den F e=den F x:=by
 intro e x j;rcases g_.1 j with j|j
 ·simp only[eG] at j
  obtain⟨rfl,rfl⟩:=j;simp only[den,h,f_,JV,sD,tX]
 ·exact aoZ h (L:=L) (i:=0) rfl e x j
def PG (e:c.getD b []=[.str]) (L:G (G Nat)) (h:L.length<=gB) (j:∀l∈L,l.length<=gB):aW c (JV L) (.R b):=
 ⟨b,rfl,by rw[tX];exact h,dR.of fun row U=>by
   obtain⟨l,q,rfl⟩:=FQ.1 U;rw[e];exact⟨.str,[],rfl,⟨rfl,j l q⟩,rfl⟩⟩
def NG (h:W.cell? ⟨b,g,none⟩=some v):∃arr e fr,W.heap[b]?=some (.cells arr e fr)/\arr[g]?=some v:=by
 unfold World.cell? at h;split at h
 ·rename_i arr e fr j
  exact⟨arr,e,fr,j,by simpa using h⟩
 ·cases h
structure Es (W:World) (g:Nat) (L:List (List Nat)):Prop where
 ne:L≠[]
 byte:∀l∈L,∀x∈l,x<256
 at_:∃b off cap arr e fr,W.cell? ⟨g,0,none⟩=some (.slice (some ⟨b,off,none⟩) L.length cap)/\L.length<=cap/\cap<=maxLen/\W.heap[b]?=some (.cells arr e fr)/\∀i l,L[i]?=some l->W.cell? ⟨b,off+i,none⟩=some (.string (bC l))
def avf {fz:Nat->ah Obj} {arr:dF av}:∀{L:G (G Nat)} {d:Nat},(∀l∈L,∀x∈l,x<256)->(∀i l,L[i]?=some l->arr[d+i]?=some (.string (bC l)))->iV fz 1 (L.map fun l=>[.str l]) arr d
 |[],_,_,_=>True.intro
 |l::r,d,e,h=>⟨rfl,⟨⟨_,by simpa using h 0 l rfl,rfl,e l jG⟩,True.intro⟩,avf (fun l' j=>e l' (gF _ j)) fun i l' J=>by
   have:=h (i+1) l' (by simpa using J)
   rw[<-this];congr 1;omega⟩
def aiv (h:Es W g X):∃arr T fr u,dM W g=some (.cells arr T fr)/\arr[0]?=some u/\DR (dM W) (JV X) u:=by
 obtain⟨b,off,cap,ra,F,P,hc,q,w,e,y⟩:=h.at_;obtain⟨a',ge,gf,A,E⟩:=NG hc;refine⟨a',ge,gf,_,A,E,some ⟨b,off,none⟩,cap,by simp,by simpa using q,w,.inr ⟨b,off,ra,F,P,1,rfl,e,avf h.byte fun i l J=>?_⟩⟩
 obtain⟨c',d',e',j,b'⟩:=NG (y i l J);rw[e] at j;simp only[aG,Obj.cells.injEq] at j;obtain⟨rfl,_,_⟩:=j;exact b'
def mixed:Tryz.prog.follows .mixedOrders=true:=by kernel_rfl
def Lr {held:aK} {aP:Type} {enc:dh×av->aP} {fuel:Nat} {L:G (G Nat)} {p:G MemPlace} (P:L≠[]) (j:∀l∈L,∀x∈l,x<256) (n':∀v,F=#[v]->W.cell? ⟨g,0,none⟩=some v)
 (o':DataW.trod enc Tryz.prog W 0 (fun _=>true) held fuel 36 F.toList=some (.slice (L.map fun t=>.lit (.string (t.map UInt8.ofNat))) [],p)):Es W g L:=by
 have c':Tryz.prog.cellsOf 9=1:=aS;rcases DataW.trod_slice abl o' with⟨_,u⟩|⟨a,len,cap,e,rest,n,_,jY,u,_,y',z',p',g',w,_⟩
 ·simp at u
 ·simp only[eG,DataW.slice.injEq] at u
  obtain⟨⟨T,h'⟩,_⟩:=u;have y:L.length=len:=by
   have:=iE List.length T;simp at this;omega
  have w':rest.length=0:=by
   have:=iE List.length h'
   simpa using this.symm
  have rQ:cap=len:=by
   have:=(w rfl).1;omega
  have a':∀i l,L[i]?=some l->W.cell? (a.add i)=some (.string (bC l)):=fun i l J=>by
   have d':i<len:=by have:=(gN.1 J).1;omega
   have e':=g' i d';rw[c',ai5] at e';have i':e[i]?=some (e[i]'I):=gM _;rw[i'] at e';obtain⟨vs,q',j'⟩:=kW.1 e';have k':(e[i]'I).1=.lit (.string (l.map UInt8.ofNat)):=by
    have:=iE (fun x=>x[i]?) T;simp only[AQ,J,i',Co,aG] at this;exact this.symm
   generalize e[i]'I=x at j' k'
   obtain⟨d,q⟩:=x;obtain rfl:d=_:=k';obtain⟨s,e1,l',_⟩:=DataW.trod_string A_ j';subst e1;simp only[eG,DataW.lit.injEq,Lit.string.injEq] at l';rw[cell_of_cells?_one q'];have r':s=bC l:=by
    obtain⟨⟨R⟩⟩:=s;have s':l.map UInt8.ofNat=R:=l'.1;rw[<-s']
    rfl
   rw[r']
  obtain⟨A,b'⟩:∃A,L[0]?=some A:=by
   cases hL:L with
   |nil=>exact absurd hL P
   |cons a r=>exact⟨a,rfl⟩
  obtain⟨b,off,f'⟩:=a;have E:f'=none:=by
   have t':=a' 0 A b'
   simpa[Addr.add] using World.cell?_spot t'
  subst E;have h:∀i l,L[i]?=some l->W.cell? ⟨b,off+i,none⟩=some (.string (bC l)):=fun i l J=>by
   have:=a' i l J
   rwa[oH] at this
  obtain⟨ra,u',v',m',x'⟩:=NG (h 0 A b');refine⟨P,j,b,off,L.length,ra,u',v',?_,bq _,by omega,m',h⟩
  have:=n' _ (Array.eq_one_of_toList jY);rw[y];rw[rQ] at this;exact this
end
section
open Go.RowKit
structure gH (w wr:World) (pb:Nat) (s:ByteArray) (q:Nat) (fk fo:Int):Prop where
 size:w.heap.size<=wr.heap.size
 lp:pb<w.heap.size
 head:wr.heap[pb]?=some (.cells #[.string s,.int .i64 q,.int .i64 fk,.int .i64 fo] 92 (0,0))
 other:∀b,b<w.heap.size->b≠pb->wr.heap[b]?=w.heap[b]?
 os:wr.os=w.os
 tape:wr.tape=w.tape
 output:wr.output=w.output
section
variable {w wr w1 w2:ak} {pb:Nat} {s:dA} {q q':Nat} {fk fo fk' fo':Int}
def gH.start (h:w.heap[pb]?=some (.cells #[.string s,.int .i64 q,.int .i64 fk,.int .i64 fo] 92 (0,0))):gH w w pb s q fk fo:=
 ⟨bq _,(kF.1 h).1,h,fun _ _ _=>rfl,rfl,rfl,rfl⟩
def gH.again (h:gH w wr pb s q fk fo):gH wr wr pb s q fk fo:=gH.start h.head
def gH.trans (h:gH w w1 pb s q fk fo) (k:gH w1 w2 pb s q' fk' fo'):gH w w2 pb s q' fk' fo':=
 ⟨fF h.size k.size,h.lp,k.head,fun b j e=>(k.other b (lZ j h.size) e).trans (h.other b j e),k.os.trans h.os,k.tape.trans h.tape,k.output.trans h.output⟩
def gH.drewN (h:gH w wr pb s q fk fo) (m:Nat):gH w (wr.drewN m) pb s q fk fo:=⟨h.size,h.lp,h.head,h.other,h.os,h.tape,h.output⟩
def gH.drew (h:gH w wr pb s q fk fo):gH w wr.drew pb s q fk fo:=⟨h.size,h.lp,h.head,h.other,h.os,h.tape,h.output⟩
def gH.setPos (h:gH w wr pb s q fk fo) (q':Nat):gH w (wr.setCell ⟨pb,1,none⟩ (.int .i64 q')) pb s q' fk fo:=
 ⟨by rw[(tL wr _ _).1];exact h.size,h.lp,by rw[o_ h.head];rfl,fun b j e=>(jF e).trans (h.other b j e),h.os,h.tape,h.output⟩
def gH.aNb (h:gH w wr pb s q fk fo) (k o:Int):gH w ((wr.setCell ⟨pb,2,none⟩ (.int .i64 k)).setCell ⟨pb,3,none⟩ (.int .i64 o)) pb s q k o:=
 ⟨by rw[(tL _ _ _).1,(tL _ _ _).1];exact h.size,h.lp,by rw[o_ (o_ h.head)];rfl,fun b j e=>by rw[jF e,jF e];exact h.other b j e,h.os,h.tape,h.output⟩
def gH.grown (h:gH w wr pb s q fk fo) {row:ah Nat} (j:wr.grownBy w1 row) (U:∀k,row=some k->w.heap.size<=k):gH w w1 pb s q fk fo:=by
 have lp:=h.lp;refine⟨fF h.size j.size,lp,(j.block pb (lZ lp h.size) (fun e=>by have:=U pb e.symm;omega)).trans h.head,
  fun b l u=>(j.block b (lZ l h.size) (fun e=>by have:=U b e.symm;omega)).trans (h.other b l u),j.os.trans h.os,j.tape.trans h.tape,j.output.trans h.output⟩
def gH.Px (h:gH w wr pb s q fk fo) {o:Nat} (l:w.heap.size<=g) (u:av):gH w (wr.setCell ⟨g,o,none⟩ u) pb s q fk fo:=by
 have lp:=h.lp;refine⟨by rw[(tL wr _ _).1];exact h.size,lp,(jF I).trans h.head,fun b j e=>(jF I).trans (h.other b j e),h.os,h.tape,h.output⟩
def gH.alloc (h:gH w wr pb s q fk fo) (o:Obj):gH w (wr.alloc o) pb s q fk fo:=h.grown (Mc wr o none) (fun k e=>by cases e)
def gH.p0 (h:gH w wr pb s q fk fo):wr.cell? ⟨pb,0,none⟩=some (.string s):=by rw[gX wr _ _ _ _ _ h.head];rfl
def gH.p1 (h:gH w wr pb s q fk fo):wr.cell? ⟨pb,1,none⟩=some (.int .i64 q):=by rw[gX wr _ _ _ _ _ h.head];rfl
def gH.p2 (h:gH w wr pb s q fk fo):wr.cell? ⟨pb,2,none⟩=some (.int .i64 fk):=by rw[gX wr _ _ _ _ _ h.head];rfl
def gH.p3 (h:gH w wr pb s q fk fo):wr.cell? ⟨pb,3,none⟩=some (.int .i64 fo):=by rw[gX wr _ _ _ _ _ h.head];rfl
def gH.pf (h:gH w wr pb s q fk fo) (j:Nat):wr.frozen? ⟨pb,j,none⟩=false:=by simp[World.frozen?,h.head]
def DY (h:w.heap[pb]?=some (.cells #[.string s,.int .i64 q,.int .i64 0,.int .i64 fo] 92 (0,0))) (k o:Int):
 Calls Tryz.prog 56 #[.pointer (some ⟨pb,0,none⟩),.int .i64 k,.int .i64 o] w fun e w'=>e=.returned (.tuple #[])/\gH w w' pb s q k o:=by
 have j:=gH.start h;have p2:=j.p2;have p3:=j.p3;have l:=j.pf 2;have u:=j.pf 3;have HL:=Q j;clear h j;go_enter Tryz.func56,Tryz.ntmps56;go_wp2_with fail;go_end0;exact⟨rfl,HL.out.aNb k o⟩
def axj (s:dA) (q:Nat) (pb:Nat) (fk fo:Int) (w:ak) (w':ak):Prop:=
 ∃q',gH w w' pb s q' fk fo/\q<=q'/\q'<=s.size/\(∀h:q'<s.size,¬(s[q'].toNat:Int)=32/\¬(s[q'].toNat:Int)=10/\¬(s[q'].toNat:Int)=59)/\∀st,go ((bytes s).drop q) q .plain st=go ((bytes s).drop q') q' .plain st
def axh (s:dA) (pos pb:Nat) (fk fo:Int) (w:ak) (k:Nat) (wr:ak):Prop:=
 ∃q,k=s.size-q/\gH w wr pb s q fk fo/\pos<=q/\q<=s.size/\∀st,go ((bytes s).drop pos) pos .plain st=go ((bytes s).drop q) q .plain st
def axi (s:dA) (q0 pb:Nat) (fk fo:Int) (w:ak) (k:Nat) (wr:ak):Prop:=
 ∃q,k=s.size-q/\gH w wr pb s q fk fo/\q0<=q/\q<=s.size/\∀st,go ((bytes s).drop q0) q0 .comment st=go ((bytes s).drop q) q .comment st
def go_space_step (h:q<s.size) (hc:(s[q].toNat:Int)=32\/(s[q].toNat:Int)=10) (st:Stack):go ((bytes s).drop q) q .plain st=go ((bytes s).drop (q+1)) (q+1) .plain st:=by
 have e:q<(bytes s).length:=KY;rw[go_plain e,aoe (show bt (bytes s)[q]=32\/bt (bytes s)[q]=10 from hc)]
def go_semi_step (h:q<s.size) (hc:(s[q].toNat:Int)=59) (st:Stack):go ((bytes s).drop q) q .plain st=go ((bytes s).drop q) q .comment st:=by
 have e:q<(bytes s).length:=KY;have j:bt (bytes s)[q]=59:=hc;rw[go_plain e,an8 j,go_comment_more e (nK I)]
def go_com_more (h:q<s.size) (hc:¬(s[q].toNat:Int)=10) (st:Stack):go ((bytes s).drop q) q .comment st=go ((bytes s).drop (q+1)) (q+1) .comment st:=by
 have e:q<(bytes s).length:=KY;exact go_comment_more e (nK hc)
def go_com_done (hc:∀h:q<s.size,(s[q].toNat:Int)=10) (st:Stack):go ((bytes s).drop q) q .comment st=go ((bytes s).drop q) q .plain st:=
 go_comment_done fun e=>pz (hc (by rw[jX] at e;exact e))
def aNj (h:w.heap[pb]?=some (.cells #[.string s,.int .i64 b,.int .i64 fk,.int .i64 fo] 92 (0,0))) (F':s.size<=65536) (Z:b<=s.size):
 Calls Tryz.prog 55 #[.pointer (some ⟨pb,0,none⟩)] w fun e w'=>e=.returned (.tuple #[])/\axj s b pb fk fo w w':=by
 have p':=gH.start h;have HL:=Q p';clear h p';go_enter Tryz.func55,Tryz.ntmps55;go_wp2_with fail;go_loopg [] (s.size-b) (fun k wr=>axh s b pb fk fo w k wr)
 case atStart=>exact⟨b,rfl,HL.out,bq _,Z,fun _=>rfl⟩
 case round=>
  obtain⟨q,q',l,i',b',j'⟩:=hrel;have q0:=l.p0;have q1:=l.p1;have r':=l.pf 1;have L':(0:Int)<=(q:Int):=I;have h':=Q q';have T:=Q l;have W:=Q j';clear q' l j'
  by_cases P:q<s.size
  ·have v':(q:Int)<(s.size:Int):=by omega
   by_cases y:(s[q].toNat:Int)=32
   ·have x':=pz y
    have A:=Q (go_space_step P (.inl y));clear y;go_wp2_with fail;go_quiet (fail);rename Nat=>u
    go_wp2_with fail;go_quiet (fail);rename Nat=>E
    go_wp2_with fail;go_roundg (s.size-(q+1))
    case measure=>have:=h'.out;omega
    case rel=>exact⟨q+1,rfl,(T.out.drewN (u+E)).setPos (q+1),by omega,by omega,fun st=>(W.out st).trans (A.out st)⟩
   have x':=nK y
   by_cases F:(s[q].toNat:Int)=10
   ·have gb:=pz F
    have A:=Q (go_space_step P (.inr F));clear y F;go_wp2_with fail;go_quiet (fail);rename Nat=>u
    go_wp2_with fail;go_quiet (fail);rename Nat=>E
    go_wp2_with fail;go_roundg (s.size-(q+1))
    case measure=>have:=h'.out;omega
    case rel=>exact⟨q+1,rfl,(T.out.drewN (u+E)).setPos (q+1),by omega,by omega,fun st=>(W.out st).trans (A.out st)⟩
   have gb:=nK F
   by_cases hc:(s[q].toNat:Int)=59
   ·have gc:=pz hc
    have A:=Q (go_semi_step P hc);have y':Hid ((s[q].toNat:Int)=59):=hc;clear y F hc;go_wp2_with fail;go_quiet (fail);rename Nat=>u
    go_wp2_with fail;go_quiet (fail);rename Nat=>E
    go_wp2_with fail;obtain⟨s',c'⟩:∃g:Nat,g=gk:=⟨_,rfl⟩;have k':Hid (s'=s.size-q):=by have:=h'.out;exact c'.trans this
    have l':=Q c';clear c' h' q0 q1 r';have t':=Q (T.out.drewN (u+E));clear T
    generalize wr.drewN (u+E)=wo at*
    go_loopg [] (s.size-q) (fun k wr=>axi s q pb fk fo w k wr)
    case atStart=>exact⟨q,rfl,t'.out,bq _,b',fun _=>rfl⟩
    case round=>
     obtain⟨q3,m',j,u',n',d'⟩:=hrel;have q0:=j.p0;have q1:=j.p1;have r':=j.pf 1;have M':(0:Int)<=(q3:Int):=I;have z':=Q m';have o':=Q j;have B3:=Q d';clear m' j d'
     by_cases e':q3<s.size
     ·have A':(q3:Int)<(s.size:Int):=by omega
      by_cases a':(s[q3].toNat:Int)=10
      ·have D':((s[q3].toNat:Int) !=10)=false:=by simp[a']
       have E':q<q3:=by
        rcases ai3 u' with h|h
        ·exact h
        ·subst h;have:=y'.out;omega
       have f':=Q (go_com_done (fun _=>a'));clear a';go_wp2_with fail;go_quiet (fail);rename Nat=>g'
       go_wp2_with fail;go_roundg (s.size-q3)
       case measure=>have:=k'.out;have:=l'.out;omega
       case rel=>exact⟨q3,rfl,o'.out.drewN g',by omega,n',fun st=>(((W.out st).trans (A.out st)).trans (B3.out st)).trans (f'.out st)⟩
      ·have D':((s[q3].toNat:Int) !=10)=true:=by simpa using a'
       have f':=Q (go_com_more e' a');clear a';go_wp2_with fail;go_quiet (fail);rename Nat=>g'
       go_wp2_with fail;go_roundg (s.size-(q3+1))
       case measure=>have:=z'.out;omega
       case rel=>exact⟨q3+1,rfl,(o'.out.drewN g').setPos (q3+1),by omega,by omega,fun st=>(B3.out st).trans (f'.out st)⟩
     ·have A':decide (q3<s.size)=false:=by simp;omega
      have f':=Q (go_com_done (q:=q3) (s:=s) (fun h=>absurd h e'));go_wp2_with fail;go_quiet (fail);rename Nat=>g'
      go_wp2_with fail;go_roundg (s.size-q3)
      case measure=>have:=k'.out;have:=l'.out;omega
      case rel=>exact⟨q3,rfl,o'.out.drewN g',by omega,n',fun st=>(((W.out st).trans (A.out st)).trans (B3.out st)).trans (f'.out st)⟩
   ·have gc:=nK hc
    have A:=Q (show∀h:q<s.size,¬(s[q].toNat:Int)=32/\¬(s[q].toNat:Int)=10/\¬(s[q].toNat:Int)=59 from fun _=>⟨y,F,hc⟩)
    clear y F hc;go_wp2_with fail;go_quiet (fail);rename Nat=>u
    go_wp2_with fail;go_quiet (fail);rename Nat=>E
    go_wp2_with fail;refine ni (Iz rfl _ _ _) rfl ?_;exact⟨rfl,q,T.out.drewN (u+E),i',b',A.out,W.out⟩
  ·have v':decide (q<s.size)=false:=by simp;omega
   go_wp2_with fail;go_quiet (fail);rename Nat=>u
   go_wp2_with fail;go_end0;exact⟨rfl,q,T.out.drewN u,i',b',fun h=>absurd h P,W.out⟩
end
end
end
end Go.Proofs.YtdjcfaaongngeaaGreatDoor

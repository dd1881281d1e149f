/- A part of the proof: see the last text. -/
import Derived.Test.YtdjcfaaongngeaaGreatDoorZf
set_option linter.all false
set_option maxRecDepth 100000
set_option maxHeartbeats 0
namespace Go.Proofs.YtdjcfaaongngeaaGreatDoor
noncomputable section
variable {b g i:Nat}{W:ak}
section
open Go.RowKit
def agG:(Tryz.prog.info? 5).map (fun i=>(i.zero,i.size,i.bytes))=some (some (.int .u8 0),1,1):=by kernel_rfl
structure oM (w wr:World) (pb:Nat) (s:ByteArray) (q ob n cap:Nat):Prop where
 size:w.heap.size<=wr.heap.size
 head:wr.heap[pb]?=some (.cells #[.string s,.int .i64 q,.slice (some ⟨ob,0,none⟩) n cap] 82 (0,0))
 other:∀b,b<w.heap.size->b≠pb->wr.heap[b]?=w.heap[b]?
 os:wr.os=w.os
 tape:wr.tape=w.tape
 output:wr.output=w.output
section
variable {w wr w1:ak} {F:jP} {base pb:Nat} {s:dA} {pos q:Nat} {st:Stack} {ob cap n:Nat} {cur:dF av} {iZ:G av}
def oM.start (h:PS w F base pb s pos st ob cap cur iZ):oM w w pb s pos ob st.length cap:=⟨bq _,h.Z,fun _ _ _=>rfl,rfl,rfl,rfl⟩
def oM.lp (h:oM w wr pb s q ob n cap):pb<wr.heap.size:=(kF.1 h.head).1
def oM.drewN (h:oM w wr pb s q ob n cap) (m:Nat):oM w (wr.drewN m) pb s q ob n cap:=⟨h.size,h.head,h.other,h.os,h.tape,h.output⟩
def oM.setPos (h:oM w wr pb s q ob n cap) (j:Nat):oM w (wr.setCell ⟨pb,1,none⟩ (.int .i64 j)) pb s j ob n cap:=
 ⟨by rw[(tL wr _ _).1];exact h.size,by rw[o_ h.head];rfl,fun b l e=>(jF e).trans (h.other b l e),h.os,h.tape,h.output⟩
def oM.grown (h:oM w wr pb s q ob n cap) (lp:pb<w.heap.size) {row:ah Nat} (j:wr.grownBy w1 row) (U:∀k,row=some k->w.heap.size<=k):oM w w1 pb s q ob n cap:=
 ⟨fF h.size j.size,(j.block pb h.lp (fun e=>by have:=U pb e.symm;omega)).trans h.head,
  fun b l u=>(j.block b (lZ l h.size) (fun e=>by have:=U b e.symm;omega)).trans (h.other b l u),j.os.trans h.os,j.tape.trans h.tape,j.output.trans h.output⟩
def oM.below (h:oM w wr pb s q ob n cap) (Z:base<=pb) (j:base<=w.heap.size):Below base w wr:=
 ⟨h.os,h.tape,h.output,h.size,fun b e=>h.other b I I⟩
def oM.ps (h:PS w F base pb s pos st ob cap cur iZ) (l:oM w wr pb s q ob st.length cap):PS wr F base pb s q st ob cap cur iZ:=by
 have y:=l.other;have E:xX F w wr:=fun b o hf=>vU (y b (h.fw b o hf) (by rintro rfl;exact h.fp o hf))
 refine⟨l.head,(y _ h.lo (nJ h.jL)).trans h.N,h.jY,h.hle,h.rQ,h.cells,h.ok.gZ E (fun _ _ h=>h) (fun u A b e=>⟨y b (vg.lt e h.ok A) ?_,fun _ h=>h⟩),h.jL,h.bp,h.bo,h.fp,h.fo,h.uF,fF h.bw l.size,fun b j hf=>lZ (h.fw b j hf) l.size,h.fb⟩;rintro rfl;exact(h.uF u A).1 e
def oM.p0 (h:oM w wr pb s q ob n cap):wr.cell? ⟨pb,0,none⟩=some (.string s):=by rw[gX wr _ _ _ _ _ h.head];rfl
def oM.p1 (h:oM w wr pb s q ob n cap):wr.cell? ⟨pb,1,none⟩=some (.int .i64 q):=by rw[gX wr _ _ _ _ _ h.head];rfl
def oM.pf (h:oM w wr pb s q ob n cap) (j:Nat):wr.frozen? ⟨pb,j,none⟩=false:=by simp[World.frozen?,h.head]
section
variable {L:G dG} {acc:G dG}
def go_text_end:go ([]:G dG) q (.text pos acc) st=.error (2,q):=rfl
def go_text_close (h:q<L.length) (hc:bt L[q]=34):go (L.drop q) q (.text pos acc) st=if acc.length<=2000 then go (L.drop (q+1)) (q+1) .plain (addTop 2 acc .nil pos st) else .error (4,pos):=by
 rw[Ac h];simp[go,hc]
def go_text_bad (h:q<L.length) (hc:¬bt L[q]=34) (e:AB (bt L[q])=false):go (L.drop q) q (.text pos acc) st=.error (2,q):=by
 rw[Ac h];simp[go,hc,e]
def go_text_byte (h:q<L.length) (hc:¬bt L[q]=34) (e:AB (bt L[q])=true) (j:¬bt L[q]=92):go (L.drop q) q (.text pos acc) st=go (L.drop (q+1)) (q+1) (.text pos (acc++[L[q]])) st:=by
 rw[Ac h];simp[go,hc,e,j]
def go_text_escape_end (h:q+1=L.length) (e:bt (L[q]'I)=92):go (L.drop q) q (.text pos acc) st=.error (2,q):=by
 rw[Ac I,yQ (i:=q+1) I];simp[go,e,AB]
def go_text_escape_bad (h:q+1<L.length) (e:bt (L[q]'I)=92) (j:¬bt L[q+1]=34) (l:¬bt L[q+1]=92):go (L.drop q) q (.text pos acc) st=.error (2,q):=by
 rw[Ac I,Ac h];simp[go,e,j,l,AB]
def go_text_escape (h:q+1<L.length) (j:bt (L[q]'I)=92) (e:bt L[q+1]=34\/bt L[q+1]=92):go (L.drop q) q (.text pos acc) st=go (L.drop (q+2)) (q+2) (.text pos (acc++[L[q+1]])) st:=by
 rw[Ac I,Ac h];rcases e with e|e<;>simp[go,j,e,AB]
end
def PD (c:Int) (b:aK) (h:Hid (AB c=b)) (w:ak):Calls Tryz.prog 72 #[.int .u8 c] w fun e w'=>e=.returned (.bool b)/\w=w':=
 (aNz c w).mono fun _ _ ⟨j,l⟩=>⟨by rw[j,h.out],l⟩
def ajo (w:ak) (pb:Nat) (s:dA) (pos:Nat) (st:Stack) (ob cap:Nat) (fP:IJ) (k q:Nat) (acc:G dG) (e:av) (wr:ak):Prop:=
 k=s.size-q/\oM w wr pb s q ob st.length cap/\pos<q/\q<=s.size/\acc.length<=q/\wr.ownsRow w.heap.size 5 1 e acc.length (acc.map rC)/\go ((bytes s).drop q) q (.text pos acc) st=fP
def ahD {fP:IJ} {acc:G dG} {c:dG} {c2:Nat} (lp:pb<w.heap.size) (l:oM w w1 pb s q ob st.length cap)
 (lI:w1.ownsRow w.heap.size 5 1 (.slice (some ⟨g,0,none⟩) (acc.length+1) c2) (acc.length+1) (acc.map rC++[.int .u8 (c.toNat:Int)])) (u:pos<i) (y:i<=s.size) (A:acc.length+1<=i) (j:go ((bytes s).drop i) i (.text pos (acc++[c])) st=fP):
 ajo w pb s pos st ob cap fP (s.size-i) i (acc++[c]) (.slice (some ⟨g,0,none⟩) (acc.length+1) c2) (w1.setCell ⟨pb,1,none⟩ (.int .i64 i)):=by
 refine⟨rfl,l.setPos i,u,y,by simpa using A,?_,j⟩
 have h:=Aw (w':=w1.setCell ⟨pb,1,none⟩ (.int .i64 i)) lI (fun b e=>jF YI)
 simpa[rC] using h
def aL0 (h:pQ w F base pb s pos st) (hL:xZ pos st) (hlt:pos<s.size) (w0:s.size<=65536) (hc:(s[pos].toNat:Int)=34):
 Calls Tryz.prog 44 #[.pointer (some ⟨pb,0,none⟩)] w (Stepped base pb s pos (go ((bytes s).drop pos) pos .plain st) w):=by
 have p':pos<(bytes s).length:=Dk;obtain⟨fP,hR⟩:∃fP,go ((bytes s).drop pos) pos .plain st=fP:=⟨_,rfl⟩;have F':go ((bytes s).drop (pos+1)) (pos+1) (.text pos []) st=fP:=by
  rw[<-hR,go_plain p',aof (show bt (bytes s)[pos]=34 from hc)]
 rw[hR];obtain⟨ob,cap,cur,iZ,h⟩:=h;have p1:=h.p1;have pf:=h.pf 1;have lp:=h.lp;have aP:=Q h;have HL:=Q hL;have x0:=Q hc;have HR:=Q F';obtain⟨ti,L',M',P',T'⟩:=Qe agG;have q':=Q M';have r':=Q P';have s':=Q T';have t':=Q L';clear h hL hc hR F' p' M' P' T' L';go_enter Tryz.func44,Tryz.ntmps44;go_wp2_with fail;go_loopg [3] (s.size-(pos+1)) (fun k l0 wr=>∃q acc,ajo w pb s pos st ob cap fP k q acc l0 wr)
 case atStart=>exact⟨pos+1,[],rfl,by have:=(oM.start aP.out).setPos (pos+1);rwa[rW] at this,by omega,by omega,gK _,Qd _ _ _ _,HR.out⟩
 case round=>
  obtain⟨q,acc,f',u,r0,s0,t0,lI,E⟩:=hrel;obtain⟨ba,bc,f0⟩:=JI lI;subst f0;have q0:=u.p0;have q1:=u.p1;have X':=u.pf 1;have A0:(0:Int)<=(q:Int):=I
  by_cases a0:q<s.size
  ·have D0:(q:Int)<(s.size:Int):=by omega
   have k':q<(bytes s).length:=by rw[jX];exact a0
   by_cases T:(s[q].toNat:Int)=34
   ·have g0:=pz T
    have j:=E;rw[go_text_close k' T] at j
    by_cases u':acc.length<=2000
    ·rw[bK u'] at j
     have u0:∀(m:Nat) (v:av),(convert 79 9 (.slice ba acc.length bc)).run Tryz.prog ((wr.drewN m).setCell ⟨pb,1,none⟩ v)=.ok (.string ⟨acc.toArray⟩) ((wr.drewN m).setCell ⟨pb,1,none⟩ v):=fun m v=>
      aff lI (fun b e=>by
       have E0:=lI.lt b e;exact jF (w:=wr.drewN m) I) _ _ Cq UU A_
     have b0:¬(2000:Int)<(acc.length:Int):=I;have W:=Q u;have c':=Q j;clear f' u lI E j T;go_wp2_with fail;go_quiet (fail);rename Nat=>P
     go_wp2_with fail;go_quiet (fail);rename Nat=>a'
     go_wp2_with fail;have j':=oM.ps aP.out ((W.out.drewN (P+a')).setPos (q+1));have W':=((W.out.drewN (P+a')).setPos (q+1)).below aP.out.bp aP.out.bw;rw[rW] at j' W';have m':=HL.out;have v':=c'.out
     match st,iZ,m',j',j'.ok.len,v' with
     |(p,l)::st,F0::iZ,m',j',_,v'=>
      have m0:=m'.2.2 (p,l) bS;refine(Xf (kids:=.nil) j' (Rd.nil _ _ _) (by simp at m0;omega)).mono ?_
      rintro e L0 ⟨rfl,⟨F2,h0⟩,i0⟩;go_wp2_with fail;refine ni (Iz rfl _ _ _) rfl ?_;exact⟨W'.trans i0,.inl ⟨rfl,F2,q+1,_,h0,by omega,by omega,m'.addTop (k:=2) (t:=acc) (kids:=.nil) (o:=pos) I,v'⟩⟩
    ·rw[bB u'] at j
     have b0:(2000:Int)<(acc.length:Int):=I;have W:=Q u;have c':=Q j;clear f' u lI E j T;go_wp2_with fail;go_quiet (fail);rename Nat=>P
     go_wp2_with fail;go_quiet (fail);rename Nat=>a'
     go_wp2_with fail;refine(Bu _ _ _).mono ?_;rintro e w' ⟨rfl,rfl⟩;exact⟨rfl,(((W.out.drewN _).setPos (q+1)).below aP.out.bp aP.out.bw),.inr ⟨4,pos,rfl,c'.out.symm⟩⟩
   ·have g0:=nK T
    cases hsb:AB (s[q].toNat:Int)
    ·have j:=E
     rw[go_text_bad k' T hsb] at j;have W:=Q u;have c':=Q j;have g':=Q hsb;clear f' u lI E j T hsb;go_wp2_with fail;go_quiet (fail);rename Nat=>P
     go_wp2_with fail;go_quiet (fail);rename Nat=>a'
     go_wp2_with fail;refine(PD _ _ g' _).mono ?_;rintro e w' ⟨rfl,rfl⟩;go_wp2_with fail;refine(Bu _ _ _).mono ?_;rintro e w' ⟨rfl,rfl⟩;exact⟨rfl,((W.out.drewN _).below aP.out.bp aP.out.bw),.inr ⟨2,q,rfl,c'.out.symm⟩⟩
    ·by_cases b':(s[q].toNat:Int)=92
     ·have j0:=pz b'
      by_cases e':q+1=s.size
      ·have j:=E
       rw[go_text_escape_end (L:=bytes s) (by rw[jX];exact e') b'] at j
       have b0:(((q:Int)+1)==(s.size:Int))=true:=pz I;have W:=Q u;have c':=Q j;have g':=Q hsb;have n':=Q e';clear f' u lI E j T b' hsb e';go_wp2_with fail;go_quiet (fail);rename Nat=>P
       go_wp2_with fail;go_quiet (fail);rename Nat=>a'
       go_wp2_with fail;refine(PD _ _ g' _).mono ?_;rintro e w' ⟨rfl,rfl⟩;go_wp2_with fail;go_quiet (fail);rename Nat=>h'
       go_wp2_with fail;refine(Bu _ _ _).mono ?_;rintro e w' ⟨rfl,rfl⟩;exact⟨rfl,((W.out.drewN _).below aP.out.bp aP.out.bw),.inr ⟨2,q,rfl,c'.out.symm⟩⟩
      ·have asy:q+1<s.size:=by omega
       have b0:(((q:Int)+1)==(s.size:Int))=false:=nK I;have M0:(0:Int)<=(q:Int)+1:=I;have P0:(q:Int)+1<(s.size:Int):=I;have T0:((q:Int)+1).toNat=q+1:=I
       by_cases l':(s[q+1].toNat:Int)=34
       ·have n1:((s[q+1].toNat:Int) !=34)=false:=by simp[l']
        have j:=E;rw[go_text_escape (L:=bytes s) Ob b' (.inl l')] at j
        have W:=Q u;have c':=Q j;have g':=Q hsb;have n':=Q f';clear f' u E j T b' hsb e' l';go_wp2_with fail;go_quiet (fail);rename Nat=>P
        go_wp2_with fail;go_quiet (fail);rename Nat=>a'
        go_wp2_with fail;refine(PD _ _ g' _).mono ?_;rintro e w' ⟨rfl,rfl⟩;go_wp2_with fail;go_quiet (fail);rename Nat=>h'
        go_wp2_with fail;have A:=(W.out.drewN (P+a'+h')).setPos (q+1);rw[rW] at A;have d':=Aw (w':=(wr.drewN (P+a'+h')).setCell ⟨pb,1,none⟩ (.int .i64 ((q:Int)+1))) lI (fun b e=>jF (w:=wr.drewN (P+a'+h')) YI)
        first
         |(generalize e0:(wr.drewN (P+a'+h')).setCell ⟨pb,1,none⟩ (.int .i64 ((q:Int)+1))=aB at*)
        have v0:=A.p0;have v1:=A.p1;rw[rW] at v1;have x':=Q A;have y':=Q d';clear A d' lI e0 q0 q1 X';go_quiet (fail);rename Nat=>z'
        go_wp2_with (at_builtin;refine FL _ rfl _ _ 79 rfl w.heap.size 5 ti (.int .u8 0) 1 1 Cq t'.out q'.out r'.out s'.out rfl I (.slice ba acc.length bc) acc.length (acc.map rC) rfl (Ej (w:=aB.drewN z') y'.out _) ⟨aB.heap.size,0,none⟩ 1 1 [.int .u8 (s[q+1].toNat:Int)] rfl rfl ?c1 ?c2 ?c3 ?c4 ?c5 ?c6 ?_)
        case c1=>exact abp _ _ _
        case c2=>simp[Value.oneCell']
        case c3=>omega
        case c4=>unfold maxLen;omega
        case c5=>omega
        case c6=>have:=x'.out.size;simp;omega
        intro g c2 w1 i';have y:=((x'.out.drewN z').grown lp (Mc _ _ none) (fun k e=>by cases e)).grown lp i'.grown (fun k e=>(y'.out.lt k e).1)
        have E':=y.p1;rw[rW] at E';have k0:=y.pf 1;have A':=Q y;have D':=Q i'.own;clear y i' v0 v1;go_wp2_with fail;go_roundg (s.size-(q+2))
        case measure=>have:=n'.out;omega
        case rel=>exact⟨q+2,acc++[s[q+1]],ahD lp A'.out D'.out I I I c'.out⟩
       ·have n1:((s[q+1].toNat:Int) !=34)=true:=by simpa using l'
        by_cases o':(s[q+1].toNat:Int)=92
        ·have o0:((s[q+1].toNat:Int) !=92)=false:=by simp[o']
         have j:=E;rw[go_text_escape (L:=bytes s) Ob b' (.inr o')] at j
         have W:=Q u;have c':=Q j;have g':=Q hsb;have n':=Q f';clear f' u E j T b' hsb e' l' o';go_wp2_with fail;go_quiet (fail);rename Nat=>P
         go_wp2_with fail;go_quiet (fail);rename Nat=>a'
         go_wp2_with fail;refine(PD _ _ g' _).mono ?_;rintro e w' ⟨rfl,rfl⟩;go_wp2_with fail;go_quiet (fail);rename Nat=>h'
         go_wp2_with fail;have A:=(W.out.drewN (P+a'+h')).setPos (q+1);rw[rW] at A;have d':=Aw (w':=(wr.drewN (P+a'+h')).setCell ⟨pb,1,none⟩ (.int .i64 ((q:Int)+1))) lI (fun b e=>jF (w:=wr.drewN (P+a'+h')) YI)
         first
          |(generalize e0:(wr.drewN (P+a'+h')).setCell ⟨pb,1,none⟩ (.int .i64 ((q:Int)+1))=aB at*)
         have v0:=A.p0;have v1:=A.p1;rw[rW] at v1;have x':=Q A;have y':=Q d';clear A d' lI e0 q0 q1 X';go_quiet (fail);rename Nat=>z'
         go_wp2_with (at_builtin;refine FL _ rfl _ _ 79 rfl w.heap.size 5 ti (.int .u8 0) 1 1 Cq t'.out q'.out r'.out s'.out rfl I (.slice ba acc.length bc) acc.length (acc.map rC) rfl (Ej (w:=aB.drewN z') y'.out _) ⟨aB.heap.size,0,none⟩ 1 1 [.int .u8 (s[q+1].toNat:Int)] rfl rfl ?c1 ?c2 ?c3 ?c4 ?c5 ?c6 ?_)
         case c1=>exact abp _ _ _
         case c2=>simp[Value.oneCell']
         case c3=>omega
         case c4=>unfold maxLen;omega
         case c5=>omega
         case c6=>have:=x'.out.size;simp;omega
         intro g c2 w1 i';have y:=((x'.out.drewN z').grown lp (Mc _ _ none) (fun k e=>by cases e)).grown lp i'.grown (fun k e=>(y'.out.lt k e).1)
         have E':=y.p1;rw[rW] at E';have k0:=y.pf 1;have A':=Q y;have D':=Q i'.own;clear y i' v0 v1;go_wp2_with fail;go_roundg (s.size-(q+2))
         case measure=>have:=n'.out;omega
         case rel=>exact⟨q+2,acc++[s[q+1]],ahD lp A'.out D'.out I I I c'.out⟩
        ·have o0:((s[q+1].toNat:Int) !=92)=true:=by simpa using o'
         have j:=E;rw[go_text_escape_bad (L:=bytes s) Ob b' l' o'] at j
         have W:=Q u;have c':=Q j;have g':=Q hsb;clear f' u lI E j T b' hsb e' l' o';go_wp2_with fail;go_quiet (fail);rename Nat=>P
         go_wp2_with fail;go_quiet (fail);rename Nat=>a'
         go_wp2_with fail;refine(PD _ _ g' _).mono ?_;rintro e w' ⟨rfl,rfl⟩;go_wp2_with fail;go_quiet (fail);rename Nat=>h'
         go_wp2_with fail;refine(Bu _ _ _).mono ?_;rintro e w' ⟨rfl,rfl⟩;exact⟨rfl,((W.out.drewN _).below aP.out.bp aP.out.bw),.inr ⟨2,q,rfl,c'.out.symm⟩⟩
     ·have j0:=nK b'
      have j:=E;rw[go_text_byte k' T hsb b'] at j;have W:=Q u;have c':=Q j;have g':=Q hsb;have n':=Q f';clear f' u E j T b' hsb;go_wp2_with fail;go_quiet (fail);rename Nat=>P
      go_wp2_with fail;go_quiet (fail);rename Nat=>a'
      go_wp2_with fail;refine(PD _ _ g' _).mono ?_;rintro e w' ⟨rfl,rfl⟩;go_wp2_with (at_builtin;refine FL _ rfl _ _ 79 rfl w.heap.size 5 ti (.int .u8 0) 1 1 Cq t'.out q'.out r'.out s'.out rfl I (.slice ba acc.length bc) acc.length (acc.map rC) rfl (Ej (w:=wr.drewN (P+a')) lI _) ⟨wr.heap.size,0,none⟩ 1 1 [.int .u8 (s[q].toNat:Int)] rfl rfl ?c1 ?c2 ?c3 ?c4 ?c5 ?c6 ?_)
      case c1=>exact abp _ _ _
      case c2=>simp[Value.oneCell']
      case c3=>omega
      case c4=>unfold maxLen;omega
      case c5=>omega
      case c6=>have:=W.out.size;simp;omega
      intro g c2 w1 i';have y:=((W.out.drewN (P+a')).grown lp (Mc _ _ none) (fun k e=>by cases e)).grown lp i'.grown (fun k e=>(lI.lt k e).1)
      have E':=y.p1;have k0:=y.pf 1;have A':=Q y;have D':=Q i'.own;clear y i' lI q0 q1 X';go_wp2_with fail;go_roundg (s.size-(q+1))
      case measure=>have:=n'.out;omega
      case rel=>exact⟨q+1,acc++[s[q]],ahD lp A'.out D'.out I I I c'.out⟩
  ·have j:fP=.error (2,s.size):=by
    rw[<-E,yQ (by rw[jX];omega),go_text_end,show q=s.size by omega]
   have W:=Q u;have c':=Q j;clear f' u lI E j;go_wp2_with fail;go_quiet (fail);rename Nat=>P
   go_wp2_with fail;refine(Bu _ _ _).mono ?_;rintro e w' ⟨rfl,rfl⟩;exact⟨rfl,(W.out.drewN P).below aP.out.bp aP.out.bw,.inr ⟨2,s.size,rfl,c'.out⟩⟩
end
def Vg (base pb:Nat) (s:dA) (w:ak) (e:AJ) (w':ak):Prop:=
 Below base w w'/\((e=.returned (.tuple #[])/\∃j p l h,pQ w' j base pb s h [(p,l)]/\parse (bytes s)=.ok l)\/
  ∃k o,e=.panicked (Sd k o)/\parse (bytes s)=.error (k,o))
section
variable {w:ak} {F:jP} {base pb:Nat} {s:dA}
def aBo (h:pQ w F base pb s 0 [(0,.nil)]) (j:¬s.size<=65536) (l:s.size<=9223372036854775807):
 Calls Tryz.prog 28 #[.pointer (some ⟨pb,0,none⟩)] w (Vg base pb s w):=by
 obtain⟨y,cap,q,u,h⟩:=h;have p0:=h.p0;have hR:parse (bytes s)=.error (4,0):=by rw[parse,jX,bB j]
 have A:(65536:Int)<(s.size:Int):=I;have HR:=Q hR;clear h hR;go_enter Tryz.func28,Tryz.ntmps28;go_wp2_with fail;refine(Bu _ _ _).mono ?_;rintro e w' ⟨rfl,rfl⟩;exact⟨rfl,iN _ _,.inr ⟨4,0,rfl,HR.out⟩⟩
def abB (base pb:Nat) (s:dA) (w:ak) (k:Nat) (wr:ak):Prop:=
 ∃q st F,k=s.size-q/\pQ wr F base pb s q st/\xZ q st/\q<=s.size/\Below base w wr/\go ((bytes s).drop q) q .plain st=parse (bytes s)
def Ra {st:Stack} {w':ak} {e:AJ} (b':b=s.size-g) (u:Below base w W) (j:go ((bytes s).drop g) g .plain st=parse (bytes s))
 (h:Stepped base pb s g (go ((bytes s).drop g) g .plain st) W e w'):(e=.returned (.tuple #[])/\∃k',k'<b/\abB base pb s w k' w')\/(∃b o,e=.panicked (Sd b o)/\Below base w w'/\parse (bytes s)=.error (b,o)):=by
 obtain⟨y,F⟩:=h;rcases F with⟨rfl,P,A,E,l,c',T,q,a'⟩|⟨b,o,rfl,l⟩
 ·exact .inl ⟨rfl,s.size-A,by omega,A,E,P,rfl,l,q,T,u.trans y,a'.trans j⟩
 ·exact .inr ⟨b,o,rfl,u.trans y,j▸l⟩
def pQ.drewN {w:ak} {F:jP} {base pb:Nat} {s:dA} {pos:Nat} {st:Stack} (h:pQ w F base pb s pos st) (m:Nat):pQ (w.drewN m) F base pb s pos st:=
 let ⟨l,cap,e,j,h⟩:=h;⟨l,cap,e,j,h.ext (bq _) fun _ _=>rfl⟩
def aom {st:Stack} {F:jP} (h:pQ W F base pb s b st) (hL:xZ b st) (y:Below base w W) (e:go ((bytes s).drop b) b .plain st=parse (bytes s)) (hlt:b<s.size) (hc:bt s[b]=32\/bt s[b]=10) (m:Nat):
 abB base pb s w (s.size-(b+1)) ((W.drewN m).setCell ⟨pb,1,none⟩ (.int .i64 ((b:Int)+1))):=by
 obtain⟨A,cap,j,l,h⟩:=h;have u:=(h.ext (w':=W.drewN m) (bq _) fun _ _=>rfl).setPos (b+1);rw[rW] at u;refine⟨b+1,st,F,rfl,⟨A,cap,j,l,u⟩,hL.mono I,by omega,y.trans ((Below.vE (m:=m) rfl).setCell h.bp _),?_⟩
 rw[<-e,go_plain (s:=bytes s) (pos:=b) Dk,aoe (show bt ((bytes s)[b]'Dk)=32\/bt ((bytes s)[b]'Dk)=10 from hc)]
def apv {st:Stack} (h:¬st.length=1):Dg b st=.error (2,b):=by
 match st,h with
 |[],_=>rfl
 |[_],h=>exact(h rfl).elim
 |_::_::_,_=>rfl
def aBn {st:Stack} {F:jP} (h:pQ W F base pb s b st) (e:Below base w W) (N:st.length=1) (j:Dg s.size st=parse (bytes s)) (m:Nat):
 Vg base pb s w (.returned (.tuple #[])) (W.drewN m):=by
 match st,N,h with
 |[(p,l)],_,h=>
  exact⟨e.trans (Below.vE (m:=m) rfl),.inl ⟨rfl,F,p,l,b,h.drewN m,j.symm⟩⟩
def aBm (h:pQ w F base pb s 0 [(0,.nil)]) (m':s.size<=65536):
 Calls Tryz.prog 28 #[.pointer (some ⟨pb,0,none⟩)] w (Vg base pb s w):=by
 have hR:go ((bytes s).drop 0) 0 .plain [(0,.nil)]=parse (bytes s):=by rw[parse,jX,bK m',aiR]
 have aP:=Q h;obtain⟨x',cap,s',t',h⟩:=h;have p0:=h.p0;have F':¬(65536:Int)<(s.size:Int):=I;have HR:=Q hR;clear h hR;go_enter Tryz.func28,Tryz.ntmps28;go_wp2_with fail;go_loopg [] s.size (fun k wr=>abB base pb s w k wr)
 case atStart=>exact⟨0,_,F,rfl,aP.out,⟨by simp,by simp,fun x u'=>by simp at u';subst u';exact bq _⟩,gK _,iN _ _,HR.out⟩
 case round=>
  obtain⟨q,st,F,v',T,hL,L',o',p'⟩:=hrel;have HP:=Q T;obtain⟨x',cap,s',t',T⟩:=T;have q0:=T.p0;have q1:=T.p1;have q2:=T.p2;have M':=T.pf 1;have P':(0:Int)<=(q:Int):=I;have HL:=Q hL;have l':=Q v';have f':=Q o';have g':=Q p';have rQ:=T.rQ;unfold maxLen at rQ;have hle:=T.hle;clear v' hL o' p' T
  by_cases hlt:q<s.size
  ·have y':(q:Int)<(s.size:Int):=by omega
   by_cases d':(s[q].toNat:Int)=32
   ·have z':=pz d'
    have P:=Q (show bt s[q]=32\/bt s[q]=10 from .inl d')
    clear d';go_wp2_with fail;go_quiet (fail);rename Nat=>l
    go_wp2_with fail;go_quiet (fail);rename Nat=>u
    go_wp2_with fail;go_roundg (s.size-(q+1))
    case measure=>have:=l'.out;omega
    case rel=>exact aom HP.out HL.out f'.out g'.out hlt (P.out) (l+u)
   have z':=nK d'
   by_cases e':(s[q].toNat:Int)=10
   ·have gb:=pz e'
    have P:=Q (show bt s[q]=32\/bt s[q]=10 from .inr e')
    clear d' e';go_wp2_with fail;go_quiet (fail);rename Nat=>l
    go_wp2_with fail;go_quiet (fail);rename Nat=>u
    go_wp2_with fail;go_roundg (s.size-(q+1))
    case measure=>have:=l'.out;omega
    case rel=>exact aom HP.out HL.out f'.out g'.out hlt (P.out) (l+u)
   have gb:=nK e'
   by_cases hc:(s[q].toNat:Int)=59
   ·have gc:=pz hc
    have P:=Q hc;clear d' e' hc;go_wp2_with fail;go_quiet (fail);rename Nat=>l
    go_wp2_with fail;go_quiet (fail);rename Nat=>u
    go_wp2_with fail;have y:pQ (wr.drewN (l+u)) F base pb s q st:=HP.out.drewN (l+u);have A:Below base w (wr.drewN (l+u)):=f'.out.trans (Below.vE (m:=l+u) rfl);refine(aCY y HL.out hlt m' P.out).mono ?_;intro e w' E;rcases Ra l'.out A g'.out E with⟨rfl,k',W,j⟩|⟨k,o,rfl,a',b'⟩
    ·have c':=Q j
     clear j E y A;go_wp2_with fail;go_roundg k'
     case measure=>exact W
     case rel=>exact c'.out
    ·exact⟨rfl,a',.inr ⟨k,o,rfl,b'⟩⟩
   have gc:=nK hc
   by_cases h':(s[q].toNat:Int)=40
   ·have A':=pz h'
    have P:=Q h';clear d' e' hc h';go_wp2_with fail;go_quiet (fail);rename Nat=>l
    go_wp2_with fail;go_quiet (fail);rename Nat=>u
    go_wp2_with fail;have y:pQ (wr.drewN (l+u)) F base pb s q st:=HP.out.drewN (l+u);have A:Below base w (wr.drewN (l+u)):=f'.out.trans (Below.vE (m:=l+u) rfl);refine(atD y HL.out hlt m' (.inl P.out)).mono ?_;intro e w' E;rcases Ra l'.out A g'.out E with⟨rfl,k',W,j⟩|⟨k,o,rfl,a',b'⟩
    ·have c':=Q j
     clear j E y A;go_wp2_with fail;go_roundg k'
     case measure=>exact W
     case rel=>exact c'.out
    ·exact⟨rfl,a',.inr ⟨k,o,rfl,b'⟩⟩
   have A':=nK h'
   by_cases j':(s[q].toNat:Int)=41
   ·have ge:=pz j'
    have P:=Q j';clear d' e' hc h' j';go_wp2_with fail;go_quiet (fail);rename Nat=>l
    go_wp2_with fail;go_quiet (fail);rename Nat=>u
    go_wp2_with fail;have y:pQ (wr.drewN (l+u)) F base pb s q st:=HP.out.drewN (l+u);have A:Below base w (wr.drewN (l+u)):=f'.out.trans (Below.vE (m:=l+u) rfl);refine(atD y HL.out hlt m' (.inr P.out)).mono ?_;intro e w' E;rcases Ra l'.out A g'.out E with⟨rfl,k',W,j⟩|⟨k,o,rfl,a',b'⟩
    ·have c':=Q j
     clear j E y A;go_wp2_with fail;go_roundg k'
     case measure=>exact W
     case rel=>exact c'.out
    ·exact⟨rfl,a',.inr ⟨k,o,rfl,b'⟩⟩
   have ge:=nK j'
   by_cases hf:(s[q].toNat:Int)=34
   ·have gf:=pz hf
    have P:=Q hf;clear d' e' hc h' j' hf;go_wp2_with fail;go_quiet (fail);rename Nat=>l
    go_wp2_with fail;go_quiet (fail);rename Nat=>u
    go_wp2_with fail;have y:pQ (wr.drewN (l+u)) F base pb s q st:=HP.out.drewN (l+u);have A:Below base w (wr.drewN (l+u)):=f'.out.trans (Below.vE (m:=l+u) rfl);refine(aL0 y HL.out hlt m' P.out).mono ?_;intro e w' E;rcases Ra l'.out A g'.out E with⟨rfl,k',W,j⟩|⟨k,o,rfl,a',b'⟩
    ·have c':=Q j
     clear j E y A;go_wp2_with fail;go_roundg k'
     case measure=>exact W
     case rel=>exact c'.out
    ·exact⟨rfl,a',.inr ⟨k,o,rfl,b'⟩⟩
   have gf:=nK hf;cases hw:pq (s[q].toNat:Int)
   ·have P:=Q (an6 (c:=(bytes s)[q]'Dk) (pos:=q) (st:=st) hw d' e' hc h' j' hf)
    have n':=Q hw;clear d' e' hc h' j' hf hw;go_wp2_with fail;go_quiet (fail);rename Nat=>l
    go_wp2_with fail;go_quiet (fail);rename Nat=>u
    go_wp2_with fail;refine(Ux _ _ n' _).mono ?_;rintro e w' ⟨rfl,rfl⟩;go_wp2_with fail;refine(Bu _ _ _).mono ?_;rintro e w' ⟨rfl,rfl⟩;refine⟨rfl,f'.out.trans (Below.vE (m:=l+u) rfl),.inr ⟨2,q,rfl,?_⟩⟩;rw[<-g'.out,go_plain Dk,P.out]
   ·have n':=Q hw
    clear d' e' hc h' j' hf hw;go_wp2_with fail;go_quiet (fail);rename Nat=>l
    go_wp2_with fail;go_quiet (fail);rename Nat=>u
    go_wp2_with fail;refine(Ux _ _ n' _).mono ?_;rintro e w' ⟨rfl,rfl⟩;go_wp2_with fail;have y:pQ (wr.drewN (l+u)) F base pb s q st:=HP.out.drewN (l+u);have A:Below base w (wr.drewN (l+u)):=f'.out.trans (Below.vE (m:=l+u) rfl);refine(aOv y HL.out hlt m' n'.out).mono ?_;intro e w' E;rcases Ra l'.out A g'.out E with⟨rfl,k',W,j⟩|⟨k,o,rfl,a',b'⟩
    ·have c':=Q j
     clear j E y A;go_wp2_with fail;go_roundg k'
     case measure=>exact W
     case rel=>exact c'.out
    ·exact⟨rfl,a',.inr ⟨k,o,rfl,b'⟩⟩
  ·have y':¬(q:Int)<(s.size:Int):=by omega
   have T':decide (q<s.size)=false:=gJ;have q':q=s.size:=I;have P:Hid (Dg s.size st=parse (bytes s)):=by
    have:=g'.out
    rwa[go_end (by rw[jX];omega),q'] at this
   clear q'
   by_cases i':st.length=1
   ·have D':¬(1:Int)<(st.length:Int):=by omega
    have r':=Q i';clear i';go_wp2_with fail;go_quiet (fail);rename Nat=>l
    go_wp2_with fail;go_end0;exact aBn HP.out f'.out r'.out P.out l
   ·have E':0<st.length:=List.length_pos_iff.2 HL.out.1
    have D':(1:Int)<(st.length:Int):=I;have r':=Q i';clear i';go_wp2_with fail;go_quiet (fail);rename Nat=>l
    go_wp2_with fail;refine(Bu _ _ _).mono ?_;rintro e w' ⟨rfl,rfl⟩;exact⟨rfl,f'.out.trans (Below.vE (m:=l) rfl),.inr ⟨2,s.size,rfl,by rw[<-P.out,apv (by have:=r'.out;omega)]⟩⟩
end
end
end
end Go.Proofs.YtdjcfaaongngeaaGreatDoor

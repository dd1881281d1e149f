/- A part of the proof: see the last text. -/
import Derived.Test.YtdjcfaaongngeaaGreatDoorZq
import Derived.Test.YtdjcfaaongngeaaGreatDoorZt
set_option linter.all false
set_option maxRecDepth 100000
set_option maxHeartbeats 0
namespace Go.Proofs.YtdjcfaaongngeaaGreatDoor
noncomputable section
variable {b:Nat}{T:Nat->ah D}{W w:ak}{P:Prop}{t:Rw}{l:G Rw}{q:G Nat}{k o:Int}{X:G (G Nat)}
section
open Go Go.RowKit
structure Nv where
 k:Int
 s:ByteArray
 a:Option Addr
 n:Nat
 c:Nat
 o:Int
abbrev Nv.val (x:Nv):av:=.agg #[.int .i64 x.k,.string x.s,.slice x.a x.n x.c,.int .i64 x.o]
def Sb.refl (b:Nat) (W:ak):Sb b W W:=⟨rfl,rfl,rfl,bq _,fun _ _ _=>rfl⟩
def Sb.alloc {b:Nat} {W W':ak} (h:Sb b W W') (o:Obj):Sb b W (W'.alloc o):=
 ⟨h.os,h.tape,h.output,fF h.size bS,fun g e hn=>(jV W' o g R6).trans (h.block g e hn)⟩
def Sb.cell (h:Sb b W w) (j:Nat) (v:av):Sb b W (w.setCell ⟨b,j,none⟩ v):=
 ⟨h.os,h.tape,h.output,by simp only[abo];exact h.size,fun g e hn=>(PX w ⟨b,j,none⟩ v g hn).trans (h.block g e hn)⟩
def Sb.trans {b:Nat} {d_ aB W:ak} (h:Sb b d_ aB) (k:Sb b aB W):Sb b d_ W:=
 ⟨k.os.trans h.os,k.tape.trans h.tape,k.output.trans h.output,fF h.size k.size,fun g e hn=>(k.block g R6 hn).trans (h.block g e hn)⟩
def jN (W:ak) (b:Nat) (k o:Int):Prop:=∃T,W.heap[b]?=some (.cells #[.int .i64 k,.int .i64 o] T (0,0))
def jN.c0 (h:jN W b k o):W.cell? ⟨b,0,none⟩=some (.int .i64 k):=by obtain⟨T,h⟩:=h;simp[World.cell?,h]
def jN.c1 (h:jN W b k o):W.cell? ⟨b,1,none⟩=some (.int .i64 o):=by obtain⟨T,h⟩:=h;simp[World.cell?,h]
def jN.z (h:jN W b k o) (j:Nat):W.frozen? ⟨b,j,none⟩=false:=by obtain⟨T,h⟩:=h;simp[World.frozen?,h]
def jN.alloc {W:ak} {b:Nat} {k o:Int} (h:jN W b k o) (x:Obj):jN (W.alloc x) b k o:=by
 obtain⟨T,h⟩:=h;exact⟨T,(jV W x b (kF.1 h).1).trans h⟩
def jN.put (h:jN W b k o) (k' o':Int):jN ((W.setCell ⟨b,0,none⟩ (.int .i64 k')).setCell ⟨b,1,none⟩ (.int .i64 o')) b k' o':=by
 obtain⟨T,h⟩:=h;refine⟨T,?_⟩;have e:=o_ (o:=0) (u:=.int .i64 k') h;have j:=o_ (o:=1) (u:=.int .i64 o') e
 simpa using j
def Av (b:Nat) (k o:Int) (W:ak) (h:jN W b k o):Calls Tryz.prog 14 #[.pointer (some ⟨b,0,none⟩)] W fun e W'=>e=.returned (.bool (k==0))/\W'=W:=by
 have c0:=h.c0;go_enter Tryz.func14,Tryz.ntmps14;go_wp2_with fail;go_ret;exact⟨rfl,rfl⟩
def FE (b:Nat) (k o:Int) (W:ak) (h:jN W b k o):Calls Tryz.prog 19 #[.pointer (some ⟨b,0,none⟩)] W fun e W'=>e=.returned (.bool (k==0))/\W'=W:=by
 have c0:=h.c0;go_enter Tryz.func19,Tryz.ntmps19;go_wp2_with fail;go_ret;exact⟨rfl,rfl⟩
def oz (k e:Int):Int:=if k=0 then e else k
def rO (k o f:Int):Int:=if k=0 then f else o
def Gy (b:Nat) (k o e:Int) (x:Nv) (W:ak) (h:jN W b k o):Calls Tryz.prog 17 #[.pointer (some ⟨b,0,none⟩),.int .i64 e,x.val] W fun r W'=>r=.returned (.tuple #[])/\jN W' b (oz k e) (rO k o x.o)/\Sb b W W':=by
 have j:=h.alloc (.cells #[.int .i64 x.k,.string x.s,.slice x.a x.n x.c,.int .i64 x.o] 46);have c0:=j.c0;have c1:=j.c1;have z0:=j.z 0;have z1:=j.z 1;have w:(W.alloc (.cells #[.int .i64 x.k,.string x.s,.slice x.a x.n x.c,.int .i64 x.o] 46)).cell? ⟨W.heap.size,3,none⟩=some (.int .i64 x.o):=N9;have H1:=Q j;have l:¬W.heap.size=b:=fun q=>by obtain⟨T,h⟩:=h;have:=(kF.1 h).1;omega
 clear h j;dsimp only[Nv.val]
 by_cases hk:k=0
 ·subst hk
  go_enter Tryz.func17,Tryz.ntmps17;go_wp2_with (refine(Av b 0 o _ H1.out).mono ?_;rintro r aB ⟨rfl,rfl⟩);exact apS
 ·have u:(k==0)=false:=by simp[hk]
  go_enter Tryz.func17,Tryz.ntmps17;go_wp2_with (refine(Av b k o _ H1.out).mono ?_;rintro r aB ⟨rfl,rfl⟩);exact aqz
def Pp (b:Nat) (k o e:Int) (x:Nv) (W:ak) (h:jN W b k o):Calls Tryz.prog 20 #[.pointer (some ⟨b,0,none⟩),.int .i64 e,x.val] W fun r W'=>r=.returned (.tuple #[])/\jN W' b (oz k e) (rO k o x.o)/\Sb b W W':=by
 have j:=h.alloc (.cells #[.int .i64 x.k,.string x.s,.slice x.a x.n x.c,.int .i64 x.o] 59);have c0:=j.c0;have c1:=j.c1;have z0:=j.z 0;have z1:=j.z 1;have w:(W.alloc (.cells #[.int .i64 x.k,.string x.s,.slice x.a x.n x.c,.int .i64 x.o] 59)).cell? ⟨W.heap.size,3,none⟩=some (.int .i64 x.o):=N9;have H1:=Q j;have l:¬W.heap.size=b:=fun q=>by obtain⟨T,h⟩:=h;have:=(kF.1 h).1;omega
 clear h j;dsimp only[Nv.val]
 by_cases hk:k=0
 ·subst hk
  go_enter Tryz.func20,Tryz.ntmps20;go_wp2_with fail;exact apS
 ·have u:(k==0)=false:=by simp[hk]
  go_enter Tryz.func20,Tryz.ntmps20;go_wp2_with fail;exact aqz
def Po (b:Nat) (k o:Int) (q:aK) (x:Nv) (W:ak) (h:jN W b k o):Calls Tryz.prog 29 #[.pointer (some ⟨b,0,none⟩),.bool q,x.val] W fun r W'=>r=.returned (.tuple #[])/\jN W' b (if q then k else oz k 2) (if q then o else rO k o x.o)/\Sb b W W':=by
 have e:=Q (h.alloc (.cells #[.int .i64 x.k,.string x.s,.slice x.a x.n x.c,.int .i64 x.o] 46));have j:=Q (Gy b k o 2 x _ e.out);clear h;dsimp only[Nv.val] at j⊢;cases q with
 |true=>
  go_enter Tryz.func29,Tryz.ntmps29;go_wp2_with fail;go_end0;exact⟨rfl,e.out,(Sb.refl b W).alloc _⟩
 |false=>
  go_enter Tryz.func29,Tryz.ntmps29;go_wp2_with (refine(j.out).mono ?_;rintro r aB ⟨rfl,hf,l⟩);go_end0;exact⟨rfl,hf,((Sb.refl b W).alloc _).trans l⟩
def aFt (k:Int) (W:ak):Calls Tryz.prog 34 #[.int .i64 k] W fun r W'=>r=.returned (.bool (k==1||k==2||k==3))/\W'=W:=by
 go_enter Tryz.func34,Tryz.ntmps34;cases h1:k==1<;>cases h2:k==2<;>cases h3:k==3<;>(go_wp2_with fail;refine ni (abx rfl _ _ _) rfl ⟨rfl,rfl⟩)
def O1 (x:Nv) (e:Int) (h:dA):dA:=if x.k=3/\0<x.n/\e=1 then h else⟨#[]⟩
def Ht (x:Nv) (e:Int):aK:=decide (x.k=3/\0<x.n/\e=1)
def aFQ (x:Nv) (e:Int) (h:dA) (W:ak) (E:x.n<=1000000) (hc:x.k=3->0<x.n->∃g d,x.a=some ⟨g,d,none⟩/\W.cell? ⟨g,d,none⟩=some (.int .i64 e)/\W.cell? ⟨g,d+1,none⟩=some (.string h)):
 Calls Tryz.prog 13 #[x.val] W fun r W'=>r=.returned (.tuple #[.string (O1 x e h),.bool (Ht x e)])/\Below W.heap.size W W':=by
 obtain⟨k,s,a,n,c,o⟩:=x;dsimp only[Nv.val] at*;have l:=Q (jB (iN W.heap.size W) (.cells #[.int .i64 k,.string s,.slice a n c,.int .i64 o] 46))
 by_cases j:k=3
 ·by_cases hn:0<n
  ·obtain⟨g,d,rfl,c0,c1⟩:=hc j hn
   have w:g<W.heap.size:=rX W _ c0;have T:=(l.out.cell (p:=⟨g,d,none⟩) w).trans c0;have e1:=(l.out.cell (p:=⟨g,d+1,none⟩) w).trans c1;have F:((n:Int)==0)=false:=gJ;have P:(0:Int)<(n:Int):=I;subst j;clear hc
   by_cases u:e=1
   ·subst u
    rw[show O1 (⟨3,s,some ⟨g,d,none⟩,n,c,o⟩:Nv) 1 h=h from bK ⟨rfl,hn,rfl⟩,show Ht (⟨3,s,some ⟨g,d,none⟩,n,c,o⟩:Nv) 1=true by simp[Ht,hn]]
    go_enter Tryz.func13,abd;go_wp2_with fail;go_ret2;exact⟨rfl,l.out⟩
   ·have y:(e==1)=false:=by simp[u]
    have A:(e !=1)=true:=by simp[u]
    rw[show O1 (⟨3,s,some ⟨g,d,none⟩,n,c,o⟩:Nv) e h=⟨#[]⟩ from bB fun q=>u q.2.2,show Ht (⟨3,s,some ⟨g,d,none⟩,n,c,o⟩:Nv) e=false by simp[Ht,u]]
    go_enter Tryz.func13,abd;go_wp2_with fail;go_ret2;exact⟨rfl,l.out⟩
  ·obtain rfl:n=0:=by omega
   subst j;clear hc;rw[show O1 (⟨3,s,a,0,c,o⟩:Nv) e h=⟨#[]⟩ from bB fun q=>by have:=q.2.1;simp at this,show Ht (⟨3,s,a,0,c,o⟩:Nv) e=false by simp[Ht]]
   go_enter Tryz.func13,abd;go_wp2_with fail;go_ret2;exact⟨rfl,l.out⟩
 ·have y:(k==3)=false:=by simp[j]
  have A:(k !=3)=true:=by simp[j]
  clear hc;rw[show O1 (⟨k,s,a,n,c,o⟩:Nv) e h=⟨#[]⟩ from bB fun q=>j q.1,show Ht (⟨k,s,a,n,c,o⟩:Nv) e=false by simp[Ht,j]]
  go_enter Tryz.func13,abd;go_wp2_with fail;go_ret2;exact⟨rfl,l.out⟩
def afH {X:Rw->G (G Nat)->dV Fa Rw} {l:G (G Nat)}:w9 X [t] l=aL (X t l) fun x=>.ok [x]:=by
 cases h:X t l<;>simp[w9,bO,eO,aL,h]
def asg {h:Type} {aj:G Nat->dV Fa h}:(aL (n_ t) fun nm=>if X.contains nm then aj nm else .error (Bt t))=aL (O7 t X) aj:=by
 unfold O7;cases n_ t with
 |error e=>rfl
 |ok q=>
  show(if X.contains q then aj q else .error (Bt t))=aL (if X.contains q then .ok q else .error (Bt t)) aj
  split<;>rfl
def aKi:G bJ:=[Ug,avG,avC,aaz,⟨121,some [C,C],(.one (.R 4))⟩,avS,avB,ah8]
def aKj:Tree:=.B (.bin .eql bZ ac0) (.B abO (.call 0 [ES] bL (.B W9 (.call 7 [.agg alH,dI] Gf (.fT (.bin .leq (.len ac7) mG) (.fT (.bin .leq (.len ab4) mG) (.B (.bin .eql zh aH) (.call 7 [.agg ab3,.S ab4] Qu (.leaf 0 [.agg [Cy,bT,aN,aQ,aN,aQ,aN,aF,.S (.snoc WR adS),aF],EJ,I5] [])) (.leaf 0 [.agg [Cy,bT,aN,aQ,aN,aQ,aN,aF,.S WR,aF],wh,vZ] []))))) (.fT (.bin .leq (.len ac7) mG) (.fT (.bin .leq (.len ab4) mG) (.leaf 0 [.agg [Cy,bT,aN,aQ,aN,aQ,aN,aF,aF,aF],dZ,fD] []))))) gW) (.B (.bin .eql bZ adk) (.B Cz (.call 2 [ES,dI] bL (.B W9 (.call 7 [.agg alH,dI] Gf (.leaf 0 [.agg [Kj,bT,aN,aQ,aN,aQ,aN,aF,.S WR,aF],wh,vZ] [])) (.leaf 0 [.agg [Kj,bT,aN,aQ,aN,aQ,aN,aF,aF,aF],dZ,fD] []))) gW) (.B (.bin .eql bZ (.str [100,111])) (.B aen (.call 4 yh bL (.leaf 0 [.agg [.S (.int .i64 8),aQ,aN,aQ,aN,aQ,aN,aF,bT,aF],dZ,fD] [])) gW) (.B (.bin .eql bZ (.str [105,102])) (.B abO (.call 4 yh bL (.leaf 0 [.agg [.S (.int .i64 9),aQ,aN,aQ,aN,aQ,aN,aF,bT,aF],dZ,fD] [])) gW) (.B (.bin .eql bZ acu) (.B Cz (.call 4 yh bL (.leaf 0 [.agg [.S (.int .i64 10),aQ,aN,aQ,aN,aQ,aN,aF,bT,aF],dZ,fD] [])) gW) (.B (.bin .eql bZ ad5) (.B aen (.B alE (.B iC (.fT Qs (.call 3 [ES,aF] I6 anW)) (.fT Qs akW)) (.fT Qs akW)) gW) (.B (.bin .eql bZ aco) (.B Cz (.B iC (.call 7 Wx bL (.call 1 [Mt] [qH,rZ] (.leaf 0 [.agg [.S Ws,qZ,aN,aQ,aN,aQ,aN,aF,Kz,aF],wh,vZ] []))) (.call 1 [Mt] bL (.leaf 0 [.agg [.S Ws,bT,aN,aQ,aN,aQ,aN,aF,aF,aF],dZ,fD] []))) gW) (.B (.bin .eql bZ adn) (.B abO (.B iC (.call 7 Wx bL (.call 1 [Mt] [qH,rZ] (.B (.bin .eql zh aH) (.call 7 [.agg ab3,dI] Qu (.leaf 0 [.agg [.S Qr,qZ,aN,aQ,aN,aQ,aN,aF,.S (.snoc ad2 adS),aF],EJ,I5] [])) (.leaf 0 [.agg [.S Qr,qZ,aN,aQ,aN,aQ,aN,aF,Kz,aF],wh,vZ] [])))) (.call 1 [Mt] bL (.B W9 (.call 7 [.agg ab3,dI] Gf (.leaf 0 [.agg [.S Qr,bT,aN,aQ,aN,aQ,aN,aF,.S WR,aF],wh,vZ] [])) (.leaf 0 [.agg [.S Qr,bT,aN,aQ,aN,aQ,aN,aF,aF,aF],dZ,fD] [])))) gW) (.B (.bin .eql bZ MG) (.B (.bin .gtr sO vo) (.B iC (.call 4 yh I6 (.leaf 0 al7 [])) amZ) amZ) (.B (.bin .eql bZ acI) (.B Cz (.B iC (.call 7 Wx bL (.call 6 [adR] [] (.B zh (.B (.bin .eql WG cO) (.B (.bin .geq yV aH) (.B (.bin .lss yV vo) akB Wh) Wh) Wh) Wh))) (.call 6 [adR] [] (.B h_ (.B (.bin .eql WG cO) (.B VI (.B (.bin .lss fK vo) QJ QJ) QJ) QJ) QJ))) gW) (.B (.bin .eql bZ (.str [105,115])) (.B Cz (.B iC (.call 7 Wx bL (.call 3 [Mt,aF] [qH,rZ] (.leaf 0 [.agg [.S (.int .i64 16),aQ,aN,aQ,qZ,wh,vZ,Bj,Kz,aF],wT,zU] []))) (.call 3 [Mt,aF] bL (.leaf 0 [.agg [.S (.int .i64 16),aQ,aN,aQ,bT,dZ,fD,iG,aF,aF],jg,kN] []))) gW) (.B (.bin .eql bZ ac5) (.B Cz (.call 4 yh bL (.leaf 0 [.agg [yj,aQ,Kj,aQ,aN,aQ,aN,aF,bT,aF],dZ,fD] [])) gW) (.B (.bin .eql bZ (.str [97,100,100])) (.B Cz (.call 4 yh bL (.leaf 0 [.agg [yj,aQ,I4,aQ,aN,aQ,aN,aF,bT,aF],dZ,fD] [])) gW) (.B (.bin .eql bZ (.str [115,117,98])) (.B Cz (.call 4 yh bL (.leaf 0 [.agg [yj,aQ,q9,aQ,aN,aQ,aN,aF,bT,aF],dZ,fD] [])) gW) (.B (.bin .eql bZ adJ) (.B Cz (.call 4 yh bL (.leaf 0 [.agg [yj,aQ,MX,aQ,aN,aQ,aN,aF,bT,aF],dZ,fD] [])) gW) (.B (.bin .eql bZ acG) (.B Cz (.call 4 yh bL (.leaf 0 [.agg [yj,aQ,MR,aQ,aN,aQ,aN,aF,bT,aF],dZ,fD] [])) gW) (.B (.bin .eql bZ acr) (.B Cz (.call 4 yh bL (.leaf 0 [.agg [yj,aQ,Cy,aQ,aN,aQ,aN,aF,bT,aF],dZ,fD] [])) gW) (.B (.bin .eql bZ adp) (.B Vq (.B iC (.call 7 [ES,dI] bL (.leaf 0 [.agg [yj,aQ,MW,aQ,aN,aQ,aN,aF,Kz,aF],qH,rZ] [])) (.leaf 0 [.agg [yj,aQ,MW,aQ,aN,aQ,aN,aF,aF,aF],dY,fJ] [])) gW) (.B (.bin .eql bZ ab1) (.B Vq (.B iC (.call 7 [ES,dI] bL (.leaf 0 [.agg [.S (.int .i64 18),aQ,aN,aQ,aN,aQ,aN,aF,Kz,aF],qH,rZ] [])) (.leaf 0 [.agg [.S (.int .i64 18),aQ,aN,aQ,aN,aQ,aN,aF,aF,aF],dY,fJ] [])) gW) (.B (.bin .eql bZ adT) (.B Vq (.B iC (.call 7 [ES,dI] bL (.leaf 0 [.agg [.S (.int .i64 19),aQ,aN,aQ,aN,aQ,aN,aF,Kz,aF],qH,rZ] [])) (.leaf 0 [.agg [.S (.int .i64 19),aQ,aN,aQ,aN,aQ,aN,aF,aF,aF],dY,fJ] [])) gW) (.B (.bin .eql bZ adE) (.B Vq (.call 5 [ES] bL (.B (.bin .eql lG aH) (.B (.bin .neq fK WT) amw (.leaf 0 [.agg alm,pV,aki] [])) amw)) gW) (.B (.bin .eql bZ abM) (.B (.bin .eql sO aH) amx (.B iC (.leaf 0 [.agg ale,pV,dz] []) amx)) (.B (.bin .eql bZ ado) (.B aen (.B alE (.B iC (.fT Qs (.call 0 [ES] I6 anw)) akX) akX) gW) (.B (.bin .gtr sO vo) (.B iC (.fT Kv (.call 0 [MQ] I6 akH)) an2) an2)))))))))))))))))))))))
def aKk:TC 95 [oP,.S (.var 9),.S (.var 10),.S (.var 11)] lW aKi [] aKj (fl++fZ++[.str]++[.R 8]++[.R 0]):=tc
def aKl:gU 95:=gY Tryz.func95 aS
def aKh.qE (h:P:=by first|(simp[afH,↓asg,Lh,vO,Hu,Pb,G8,GL,GQ,GZ,Hr,G_,GY,Ho,wG,GV,G5,GK,Hq,G9,G7,He,GN,Hl,Hf,GX,G6,GU,Hg,eD,zl,Bt,ex,jm,ty,nth,nk,nt,nc,no,jh,iD,tD,rD,mq,LM,kS,lY,LU,uT,vR, *]<;>first|done|omega|assumption)|(simp_all[afH,↓asg,Lh,vO,Hu,Pb,G8,GL,GQ,GZ,Hr,G_,GY,Ho,wG,GV,G5,GK,Hq,G9,G7,He,GN,Hl,Hf,GX,G6,GU,Hg,eD,zl,Bt,ex,jm,ty,nth,nk,nt,nc,no,jh,iD,tD,rD,mq,LM,kS,lY,LU,uT,vR]<;>omega)|(obtain rfl:[]=_:=PY (show(Except.ok []:dV Fa (G Rw))=.ok _ by assumption);simp[afH,↓asg,Lh,vO,Hu,Pb,G8,GL,GQ,GZ,Hr,G_,GY,Ho,wG,GV,G5,GK,Hq,G9,G7,He,GN,Hl,Hf,GX,G6,GU,Hg,eD,zl,Bt,ex,jm,ty,nth,nk,nt,nc,no,jh,iD,tD,rD,mq,LM,kS,lY,LU,uT,vR, *];done)|(cases(show(Except.ok []:dV Fa (G Rw))=.error _ by assumption))|(have e:¬lB.length<=6:=(by(try simp only[gD] at*);omega);simp[afH,↓asg,Lh,vO,Hu,Pb,G8,GL,GQ,GZ,Hr,G_,GY,Ho,wG,GV,G5,GK,Hq,G9,G7,He,GN,Hl,Hf,GX,G6,GU,Hg,eD,zl,Bt,ex,jm,ty,nth,nk,nt,nc,no,jh,iD,tD,rD,mq,LM,kS,lY,LU,uT,vR,e, *];done)):P:=h
open aKh in
def aMj (P':bH T) (n:Nat) (hn:n+100<=1000000) (T':(Bq n).aA T) (z':(XF n).aA T) (L':(Gp n).aA T) (M':(CZ n).aA T):(Rv n).aA T:=by
 intro V pre ⟨D0,Z⟩
 match V,D0 with
 |[.agg E3,.one d1,.one F3,.one M3],⟨h1,i1,j1,k1,jL,x0,A0,hex⟩=>
 obtain⟨P3,T3,c0,W3,rfl,l1,m1,W'⟩:=jT h1;obtain⟨t1,rfl,o1⟩:=i1.str;obtain⟨h,rfl,r1,qP⟩:=bW j1;obtain⟨g2,rfl,s1,u1⟩:=bW k1;have A:fG T _ _:=(ac (Lv P') KG (ac (ahQ P') aeE (ac (auW P') aox (ac T' CS (ac z' aBK (ac L' Xj (ac (auY P') aoz (ac M' I9 an))))))));subst jL;refine Jr P' aKl A.1 all_nil A.2 bn aKk (kD l1 m1 W' (ay (mo o1) (ay (eP r1 qP) (ay (eP s1 u1) aX)))) ?_;replace A0:(g2).length+n<1000000:=A0 rfl;replace hex:=hex rfl;replace x0:0<c0.length:=x0;have hall:∀x∈h,aI x<=n:=hex.1;refine aaT (v:=11) 999999 rfl I ?_;refine au aj (fun h2=>?_) (fun h2=>?_)
 ·refine au aj (fun X'=>?_) (fun X'=>have X':¬(h).length=3:=aC;dJ)
  replace X':(h).length=3:=aC;obtain⟨u,b',v1,rfl,j,q,a0⟩:=Dh qP aC;obtain⟨w,y,E,F,rfl,P,W⟩:=aT j;obtain⟨c',d',e',f',rfl,g',h'⟩:=aT q;obtain⟨E0,F0,L0,w1,rfl,M0,P0⟩:=aT a0;refine dH M Dp fun X3 hy2 e=>?_;refine fO M ?_;refine dH M (fun k=>yA k (bF:=by exact(hall _ jS))) fun i2 hy3 e=>?_
  obtain⟨a4,b4,c4,d4,e4,f4,g4,h4,i4,j4,rfl⟩:=nH e;replace hy3:=nz hy3;refine aR ?_;refine aR ?_;refine fO M ?_;refine dH M (fun k=>yA k (bF:=by exact(hall _ jS))) fun x1 hy4 e=>?_
  obtain⟨j2,k2,l2,m2,n2,o2,r2,s2,u2,v2,rfl⟩:=nH e;replace hy4:=nz hy4;exact dQ
 ·refine au aj (fun X'=>?_) (fun X'=>?_)
  ·refine au aj (fun b0=>?_) (fun b0=>have b0:¬(h).length=2:=aC;dJ)
   replace b0:(h).length=2:=aC;obtain⟨u,b',rfl,j,q⟩:=qN qP aC;obtain⟨w,y,E,F,rfl,P,W⟩:=aT j;obtain⟨c',d',e',f',rfl,g',h'⟩:=aT q;refine dH M asb fun i2 hy3 e=>?_;replace hy3:=nz hy3;refine fO M ?_;refine dH M (fun k=>yA k (bF:=by exact(hall _ jS))) fun x1 hy4 e=>?_
   obtain⟨w2,x2,y2,A2,D2,E2,F2,M2,P2,T2,rfl⟩:=nH e;replace hy4:=nz hy4;exact dQ
  ·refine au aj (fun b0=>?_) (fun b0=>?_)
   ·refine au aj (fun e0=>?_) (fun e0=>?_)
    ·replace e0:¬(h).length<=0:=aC
     refine dH M (fun k=>Ak k (bF:=Ag)) fun x1 hy4 e=>?_;have k4:=jd e;replace hy4:=nz hy4;exact dQ
    ·replace e0:(h).length<=0:=aC
     obtain rfl:=oV (l:=h) aC;exact dJ
   ·refine au aj (fun e0=>?_) (fun e0=>?_)
    ·refine au aj (fun f0=>?_) (fun f0=>have f0:¬(h).length=3:=aC;dJ)
     replace f0:(h).length=3:=aC;obtain⟨u,b',v1,rfl,j,q,a0⟩:=Dh qP aC;obtain⟨w,y,E,F,rfl,P,W⟩:=aT j;obtain⟨c',d',e',f',rfl,g',h'⟩:=aT q;obtain⟨E0,F0,L0,w1,rfl,M0,P0⟩:=aT a0;refine dH M (fun k=>Ak k (bF:=Ag)) fun l4 qm e=>?_;have m4:=jd e;exact KX
    ·refine au aj (fun f0=>?_) (fun f0=>?_)
     ·refine au aj (fun g0=>?_) (fun g0=>have g0:¬(h).length=2:=aC;dJ)
      replace g0:(h).length=2:=aC;obtain⟨u,b',rfl,j,q⟩:=qN qP aC;obtain⟨w,y,E,F,rfl,P,W⟩:=aT j;obtain⟨c',d',e',f',rfl,g',h'⟩:=aT q;refine dH M (fun k=>Ak k (bF:=Ag)) fun n4 zw e=>?_;have o4:=jd e;replace zw:=nz zw;exact dQ
     ·refine au aj (fun g0=>?_) (fun g0=>?_)
      ·refine au aj (fun h0=>?_) (fun h0=>?_)
       ·replace h0:¬(h).length<=0:=aC
        refine au aj (fun i'=>?_) (fun i'=>?_)
        ·have h9:=i'
         replace i':¬(h).length<=7:=WZ;exact ap8
        ·have h9:=i'
         replace i':(h).length<=7:=WZ;clear h9;obtain⟨u,lB,rfl,E',j,F'⟩:=pJ qP aC aC;obtain⟨w,y,E,F,rfl,P,W⟩:=aT j;refine aR ?_;refine dH M (fun k=>Fx k (bF:=by exact(hall _ jS))) fun W2 o' e=>?_
         obtain⟨E0,F0,xC,L0,rfl,M0,P0⟩:=gQ e;replace o':=nz o';refine aR ?_;refine aR ?_;refine dH M (fun k=>Ak k (bF:=Ag)) fun A1 jA e=>?_;have p4:=jd e;replace jA:=nz jA;exact dQ
       ·replace h0:(h).length<=0:=aC
        obtain rfl:=oV (l:=h) aC;exact dJ
      ·refine au aj (fun h0=>?_) (fun h0=>?_)
       ·refine au aj (fun i'=>?_) (fun i'=>have i':¬(h).length=2:=aC;dJ)
        replace i':(h).length=2:=aC;obtain⟨u,b',rfl,j,q⟩:=qN qP aC;obtain⟨w,y,E,F,rfl,P,W⟩:=aT j;obtain⟨c',d',e',f',rfl,g',h'⟩:=aT q;refine fO M ?_;refine dH M (fun k=>yA k (bF:=by exact(hall _ jS))) fun W2 o' e=>?_
        obtain⟨C0,D1,E1,F1,L1,M1,P1,T1,W1,X1,rfl⟩:=nH e;replace o':=nz o';refine dH M Y7 fun A1 jA e=>?_;exact dQ
       ·refine au aj (fun i'=>?_) (fun i'=>?_)
        ·refine au aj (fun i0=>?_) (fun i0=>have i0:¬(h).length=3:=aC;dJ)
         replace i0:(h).length=3:=aC;obtain⟨u,b',v1,rfl,j,q,a0⟩:=Dh qP aC;obtain⟨w,y,E,F,rfl,P,W⟩:=aT j;obtain⟨c',d',e',f',rfl,g',h'⟩:=aT q;obtain⟨E0,F0,L0,w1,rfl,M0,P0⟩:=aT a0;refine fO M ?_;refine dH M (fun k=>yA k (bF:=by exact(hall _ jS))) fun A1 jA e=>?_
         obtain⟨w2,x2,y2,A2,D2,E2,F2,M2,P2,T2,rfl⟩:=nH e;replace jA:=nz jA;refine dH M Y7 fun a2 A' e=>?_;refine fO M ?_;refine dH M (fun k=>yA k (bF:=by exact(hall _ jS))) fun b2 j' e=>?_
         obtain⟨j2,k2,l2,m2,n2,o2,r2,s2,u2,v2,rfl⟩:=nH e;replace j':=nz j';exact dQ
        ·refine au aj (fun i0=>?_) (fun i0=>?_)
         ·refine au aj (fun h9=>?_) (fun h9=>?_)
          ·replace h9:¬(h).length<=6:=aC
           refine fO M ?_;exact PW rfl M M qE
          ·replace h9:(h).length<=6:=aC
           refine dH M (fun k=>Ak k (bF:=Ag)) fun a2 A' e=>?_;have b3:=jd e;replace A':=nz A';exact dQ
         ·refine au aj (fun h9=>?_) (fun h9=>?_)
          ·refine au aj (fun p'=>?_) (fun p'=>have p':¬(h).length=2:=aC;dJ)
           replace p':(h).length=2:=aC;obtain⟨u,b',rfl,j,q⟩:=qN qP aC;obtain⟨w,y,E,F,rfl,P,W⟩:=aT j;obtain⟨c',d',e',f',rfl,g',h'⟩:=aT q;refine fO M ?_;refine dH M (fun k=>yA k (bF:=by exact(hall _ jS))) fun b2 j' e=>?_
           obtain⟨C0,D1,E1,F1,L1,M1,P1,T1,W1,X1,rfl⟩:=nH e;replace j':=nz j';refine kX M ase fun q4 hR e=>?_;rcases nz hR with⟨d3,T0,rfl⟩|⟨T0,rfl⟩
           ·refine fO M ?_
            exact au aj (fun k'=>au aj (fun l'=>au aj (fun m'=>dQ) (fun m'=>dJ)) (fun l'=>dJ)) (fun k'=>dJ)
           ·refine jo M ?_
            exact dJ
          ·refine au aj (fun p'=>?_) (fun p'=>?_)
           ·refine au aj (fun q'=>?_) (fun q'=>have q':¬(h).length=2:=aC;dJ)
            replace q':(h).length=2:=aC;obtain⟨u,b',rfl,j,q⟩:=qN qP aC;obtain⟨w,y,E,F,rfl,P,W⟩:=aT j;obtain⟨c',d',e',f',rfl,g',h'⟩:=aT q;refine fO M ?_;refine dH M (fun k=>yA k (bF:=by exact(hall _ jS))) fun e3 j0 e=>?_
            obtain⟨C0,D1,E1,F1,L1,M1,P1,T1,W1,X1,rfl⟩:=nH e;replace j0:=nz j0;refine dH M (fun k=>Fx k (bF:=by exact(hall _ jS))) fun d2 n' e=>?_
            obtain⟨r4,s4,t4,u4,rfl,v4,w4⟩:=gQ e;replace n':=nz n';exact dQ
           ·refine au aj (fun q'=>?_) (fun q'=>?_)
            ·refine au aj (fun r'=>?_) (fun r'=>have r':¬(h).length=2:=aC;dJ)
             replace r':(h).length=2:=aC;obtain⟨u,b',rfl,j,q⟩:=qN qP aC;obtain⟨w,y,E,F,rfl,P,W⟩:=aT j;obtain⟨c',d',e',f',rfl,g',h'⟩:=aT q;refine dH M (fun k=>Ak k (bF:=Ag)) fun d2 n' e=>?_;have f3:=jd e;replace n':=nz n';exact dQ
            ·refine au aj (fun r'=>?_) (fun r'=>?_)
             ·refine au aj (fun k'=>?_) (fun k'=>have k':¬(h).length=2:=aC;dJ)
              replace k':(h).length=2:=aC;obtain⟨u,b',rfl,j,q⟩:=qN qP aC;obtain⟨w,y,E,F,rfl,P,W⟩:=aT j;obtain⟨c',d',e',f',rfl,g',h'⟩:=aT q;refine dH M (fun k=>Ak k (bF:=Ag)) fun g3 k0 e=>?_;have h3:=jd e;replace k0:=nz k0;exact dQ
             ·refine au aj (fun k'=>?_) (fun k'=>?_)
              ·refine au aj (fun l'=>?_) (fun l'=>have l':¬(h).length=2:=aC;dJ)
               replace l':(h).length=2:=aC;obtain⟨u,b',rfl,j,q⟩:=qN qP aC;obtain⟨w,y,E,F,rfl,P,W⟩:=aT j;obtain⟨c',d',e',f',rfl,g',h'⟩:=aT q;refine dH M (fun k=>Ak k (bF:=Ag)) fun i3 l0 e=>?_;have j3:=jd e;replace l0:=nz l0;exact dQ
              ·refine au aj (fun l'=>?_) (fun l'=>?_)
               ·refine au aj (fun m'=>?_) (fun m'=>have m':¬(h).length=2:=aC;dJ)
                replace m':(h).length=2:=aC;obtain⟨u,b',rfl,j,q⟩:=qN qP aC;obtain⟨w,y,E,F,rfl,P,W⟩:=aT j;obtain⟨c',d',e',f',rfl,g',h'⟩:=aT q;refine dH M (fun k=>Ak k (bF:=Ag)) fun k3 m0 e=>?_;have l3:=jd e;replace m0:=nz m0;exact dQ
               ·refine au aj (fun m'=>?_) (fun m'=>?_)
                ·refine au aj (fun s'=>?_) (fun s'=>have s':¬(h).length=2:=aC;dJ)
                 replace s':(h).length=2:=aC;obtain⟨u,b',rfl,j,q⟩:=qN qP aC;obtain⟨w,y,E,F,rfl,P,W⟩:=aT j;obtain⟨c',d',e',f',rfl,g',h'⟩:=aT q;refine dH M (fun k=>Ak k (bF:=Ag)) fun m3 o0 e=>?_;have n3:=jd e;replace o0:=nz o0;exact dQ
                ·refine au aj (fun s'=>?_) (fun s'=>?_)
                 ·refine au aj (fun t'=>?_) (fun t'=>have t':¬(h).length=2:=aC;dJ)
                  replace t':(h).length=2:=aC;obtain⟨u,b',rfl,j,q⟩:=qN qP aC;obtain⟨w,y,E,F,rfl,P,W⟩:=aT j;obtain⟨c',d',e',f',rfl,g',h'⟩:=aT q;refine dH M (fun k=>Ak k (bF:=Ag)) fun o3 r0 e=>?_;have r3:=jd e;replace r0:=nz r0;exact dQ
                 ·refine au aj (fun t'=>?_) (fun t'=>?_)
                  ·refine au aj (fun u'=>?_) (fun u'=>have u':¬(h).length=1:=aC;dJ)
                   replace u':(h).length=1:=aC;obtain⟨u,rfl,j⟩:=Fq qP aC;obtain⟨w,y,E,F,rfl,P,W⟩:=aT j;refine fO M ?_;refine dH M (fun k=>yA k (bF:=by exact(hall _ jS))) fun s3 s0 e=>?_
                   obtain⟨B0,W0,X0,B3,a1,b1,e1,f1,g1,e2,rfl⟩:=nH e;replace s0:=nz s0;exact dQ
                  ·refine au aj (fun u'=>?_) (fun u'=>?_)
                   ·refine au aj (fun v'=>?_) (fun v'=>have v':¬(h).length=1:=aC;dJ)
                    replace v':(h).length=1:=aC;obtain⟨u,rfl,j⟩:=Fq qP aC;obtain⟨w,y,E,F,rfl,P,W⟩:=aT j;refine fO M ?_;refine dH M (fun k=>yA k (bF:=by exact(hall _ jS))) fun u3 t0 e=>?_
                    obtain⟨B0,W0,X0,B3,a1,b1,e1,f1,g1,e2,rfl⟩:=nH e;replace t0:=nz t0;exact dQ
                   ·refine au aj (fun v'=>?_) (fun v'=>?_)
                    ·refine au aj (fun w'=>?_) (fun w'=>have w':¬(h).length=1:=aC;dJ)
                     replace w':(h).length=1:=aC;obtain⟨u,rfl,j⟩:=Fq qP aC;obtain⟨w,y,E,F,rfl,P,W⟩:=aT j;refine fO M ?_;refine dH M (fun k=>yA k (bF:=by exact(hall _ jS))) fun v3 u0 e=>?_
                     obtain⟨B0,W0,X0,B3,a1,b1,e1,f1,g1,e2,rfl⟩:=nH e;replace u0:=nz u0;exact dQ
                    ·refine au aj (fun w'=>?_) (fun w'=>?_)
                     ·refine au aj (fun x'=>?_) (fun x'=>have x':¬(h).length=1:=aC;dJ)
                      replace x':(h).length=1:=aC;obtain⟨u,rfl,j⟩:=Fq qP aC;obtain⟨w,y,E,F,rfl,P,W⟩:=aT j;refine dH M (fun k=>ags k (bF:=by exact(hall _ jS))) fun w3 X2 e=>?_
                      obtain⟨B0,W0,X0,B3,a1,b1,e1,f1,g1,rfl⟩:=zA e;refine fO M ?_;exact au aj (fun a'=>dQ) (fun a'=>oG)
                     ·refine au aj (fun x'=>?_) (fun x'=>?_)
                      ·refine au aj (fun v0=>dQ) (fun v0=>?_)
                       obtain⟨u,lB,rfl,E',j,F'⟩:=pJ qP aC aC;obtain⟨w,y,E,F,rfl,P,W⟩:=aT j;exact dJ
                      ·refine au aj (fun v0=>?_) (fun v0=>?_)
                       ·refine au aj (fun a'=>?_) (fun a'=>?_)
                        ·replace a':¬(h).length<=0:=aC
                         refine au aj (fun y'=>?_) (fun y'=>?_)
                         ·have h9:=y'
                          replace y':¬(h).length<=7:=WZ;exact ap8
                         ·have h9:=y'
                          replace y':(h).length<=7:=WZ;clear h9;obtain⟨u,lB,rfl,E',j,F'⟩:=pJ qP aC aC;obtain⟨w,y,E,F,rfl,P,W⟩:=aT j;refine aR ?_;refine dH M Dp fun f2 D' e=>?_;refine aR ?_;refine aR ?_;refine dH M (fun k=>Ak k (bF:=Ag)) fun x3 w0 e=>?_;have y3:=jd e;replace w0:=nz w0;exact dQ
                        ·replace a':(h).length<=0:=aC
                         obtain rfl:=oV (l:=h) aC;exact dJ
                       ·refine au aj (fun a'=>?_) (fun a'=>?_)
                        ·replace a':¬(h).length<=6:=aC
                         refine fO M ?_;obtain⟨u,lB,rfl,E',j,F'⟩:=pJ W' aC aC;obtain⟨w,y,E,F,rfl,P,W⟩:=aT j;exact Yu
                        ·replace a':(h).length<=6:=aC
                         obtain⟨u,lB,rfl,E',j,F'⟩:=pJ W' aC aC;obtain⟨w,y,E,F,rfl,P,W⟩:=aT j;refine aR ?_;refine dH M Dp fun A3 a3 e=>?_;refine dH M (fun k=>Ak k (bF:=Ag)) fun f2 D' e=>?_;have D3:=jd e;replace D':=nz D';exact dQ
def aDd {x:Rw} (h:ku x X=.ok q):q=nt x:=by
 unfold ku n_ at h;split at h
 ·simp only[aL] at h
  split at h
  ·cases h
  ·exact(PY h).symm
 ·cases h
def atm:∀{a:G (G Nat)},bO (fun(s:G (G Nat)×G (G Nat)) x=>aL (ku x s.1) fun q=>.ok (s.1++[q],nt x::s.2)) (a,a.reverse) l=aL (bO (fun ps x=>aL (ku x ps) fun q=>.ok (ps++[q])) a l) fun ps=>.ok (ps,ps.reverse):=by
 induction l with
 |nil=>intro a;rfl
 |cons x l j=>
  intro a;unfold bO;cases h:ku x a with
  |error e=>simp only[h,aL]
  |ok q=>
   obtain rfl:q=nt x:=aDd h;show bO _ (a++[nt x],nt x::a.reverse) l=aL (bO _ (a++[nt x]) l) _;rw[<-j];simp
def ag0 {a b:G (G Nat)} (h:bO (fun(s:G (G Nat)×G (G Nat)) x=>aL (ku x s.1) fun q=>.ok (s.1++[q],nt x::s.2)) ([],[]) l=.ok (a,b)):Hz l=.ok a/\a.reverse=b:=by
 have e:=atm (l:=l) (a:=[]);rw[show([]:G (G Nat)).reverse=[] from rfl,h] at e
 unfold Hz;cases h1:bO (fun ps x=>aL (ku x ps) fun q=>.ok (ps++[q])) ([]:G (G Nat)) l with
 |error f=>rw[h1] at e;cases e
 |ok ps=>
  rw[h1] at e;simp only[aL,aaZ,eG] at e;obtain⟨rfl,rfl⟩:=e;exact⟨rfl,rfl⟩
def atn {f:Fa} (h:bO (fun(s:G (G Nat)×G (G Nat)) x=>aL (ku x s.1) fun q=>.ok (s.1++[q],nt x::s.2)) ([],[]) l=.error f):Hz l=.error f:=by
 have e:=atm (l:=l) (a:=[]);rw[show([]:G (G Nat)).reverse=[] from rfl,h] at e
 unfold Hz;cases h1:bO (fun ps x=>aL (ku x ps) fun q=>.ok (ps++[q])) ([]:G (G Nat)) l with
 |error g=>rw[h1] at e;simpa[aL] using e.symm
 |ok ps=>rw[h1] at e;cases e
def agZ {r:Rw} {a:G (G Nat)} (e:sU r=.ok l) (h:bO (fun(s:G (G Nat)×G (G Nat)) x=>aL (ku x s.1) fun q=>.ok (s.1++[q],nt x::s.2)) ([],[]) l=.ok (a,X)):X.length<=6:=by
 obtain⟨j,rfl⟩:=ag0 h;have:=ag1 (r:=r) (a:=a) (by rw[e];exact j)
 simpa using this
def aak:G bJ:=[LH,avM,aaB,ah6,aia,Ui]
def TY:eX:=⟨0,89,amG,[(.normal,⟨[(0,fU),(1,cu),(2,b_),(6,iM),(7,jk),(8,.aV)],[(10,iy),(11,WM),(12,akD)],13⟩,[C,C,C,.R 1,C,C,C,C,.str,C,C]),(.normal,⟨[(0,fU),(1,cu),(2,b_),(6,iM),(7,jk),(8,.gy 14 iK 1)],[(10,iy),(11,WM),(12,.cells false akv),(13,.seq 1 fK),(14,.seq 1 iK)],15⟩,[C,C,C,.R 1,C,C,C,C,.str,.R 0,C,C,.R 0])]⟩
def ahM:G iq:=[⟨amG,[C,C,C,.R 1,C,C,C,C,.str,C,C,.R 1,C],.B adj (.fT Wn (.call 4 [.agg aes,aF] bL (.leaf 1 [kN,mV,cu,b_,dS,dz,eu,dP,dI,.S (.snoc .d9 [jr]),bT,dZ,.S (.snoc .d9 [anf]),fD,.S acS] [(13,25),(14,26)]))) (.leaf 2 alO [])⟩,⟨⟨[(0,fU),(1,cu),(2,b_),(6,iM),(7,jk),(8,.gy 14 iK 1),(26,jg),(27,.S IZ),(28,kN)],[(10,iy),(11,WM),(12,.cells false akv),(13,.seq 1 fK),(14,.seq 1 iK)],15⟩,[C,C,C,.R 1,C,C,C,C,.str,.R 0,C,C,.R 0,.R 1,C],.B aem (.fT adq (.call 4 [.agg akj,bT] bL (.fT (.bin .leq (.len (.snoc fK [jq])) mG) (.fT (.bin .leq (.len ano) mG) (.leaf 1 [lS,mW,cu,b_,dS,dz,eu,dP,dI,.S (.snoc fK [jq]),dZ,fD,.S ano,jg,.S Vt] [(13,27),(14,29)]))))) (.leaf 3 alj [(13,13),(14,14)])⟩]
def T9:eX:=⟨2,89,anb,[(.normal,⟨[(6,iM),(7,jk)],[(10,iy),(11,wV),(12,alW)],13⟩,[C,C,C,C,C,C,.str,C,.str,C,.R 2]),(.normal,⟨[(6,iM),(7,jk)],[(10,iy),(11,wV),(12,.cells false aj7),(13,.seq 5 iY)],14⟩,[C,C,C,C,C,C,.str,C,.str,C,.R 2,.R 3])]⟩
def ahN:G iq:=[⟨anb,[C,C,C,C,C,C,.str,C,.str,C,.R 2,.R 1,C],.B adj (.fT Wn (.call 3 [.agg aes] bL (.call 1 [.agg [jg,kN,mV,lS]] [qZ,wh] (.call 5 [akI,aF] [Bj,wT] (.leaf 1 [IY,Bh,cu,b_,dS,dz,eu,dP,dI,bT,dZ,.S (.snoc .d9 [EB,zR,ED,yZ,zf]),fD,.S acS] [(13,30)]))))) (.leaf 2 alO [])⟩,⟨⟨[(0,fU),(6,iM),(7,jk),(8,.aV),(62,iG),(63,.S Qy),(64,jg)],[(10,iy),(11,wV),(12,.cells false aj7),(13,.seq 5 iY)],14⟩,[C,C,C,C,C,C,.str,C,.str,C,.R 2,.R 3,.R 1,C],.B adK (.fT abQ (.call 3 [.agg acj] bL (.call 1 [alJ] Qu (.call 5 [amB,aF] [wT,zU] (.fT (.bin .leq (.len akK) mG) (.leaf 1 [Bh,za,cu,b_,dS,dz,eu,dP,dI,bT,dZ,.S akK,iG,.S adu] [(13,31)])))))) (.leaf 3 Wd [(13,13)])⟩]
def T_:eX:=⟨2,89,akl,[(.normal,⟨[(6,iM),(7,jk)],[(10,iy),(11,wV),(12,amH),(13,Qm)],15⟩,[C,C,C,C,C,C,.str,.R 0,C,.str,C,.R 2]),(.normal,⟨[(6,iM),(7,jk)],[(10,iy),(11,wV),(12,.cells false alg),(13,Qm),(15,WL)],16⟩,[C,C,C,C,C,C,.str,.R 0,C,.str,C,.R 2,.R 3])]⟩
def ahO:G iq:=[⟨akl,[C,C,C,C,C,C,.str,.R 0,C,.str,C,.R 2,.R 0,.R 1,C],.B aem (.fT adq (.call 3 [.agg akj] bL (.call 1 [.agg [mV,lS,mW,qJ]] [vZ,Bj] (.call 5 [.agg [qH,rZ,qZ,wh],iG] [zU,M_] (.leaf 1 [za,yU,cu,b_,dS,dz,eu,dP,dI,bT,dZ,fD,.S (.snoc .d9 [EO,yZ,zf,Bn,CG]),iG,jg,.S Vt] [(15,32)]))))) (.leaf 2 Wd [])⟩,⟨⟨[(0,fU),(6,iM),(7,jk),(8,jg),(62,kN),(63,.S ads),(64,mV)],[(10,iy),(11,wV),(12,.cells false alg),(13,Qm),(15,WL)],16⟩,[C,C,C,C,C,C,.str,.R 0,C,.str,C,.R 2,.R 3,.R 0,.R 1,C],.B adA (.fT adN (.call 3 [.agg anX] bL (.call 1 [akC] [Bj,wT] (.call 5 [amk,jg] [M_,.S yZ] (.fT (.bin .leq (.len ana) mG) (.leaf 1 [yU,EJ,cu,b_,dS,dz,eu,dP,dI,bT,dZ,fD,.S ana,jg,kN,.S V_] [(15,33)])))))) adZ⟩]
def aLC:Tree:=.fT amA (.call 0 [aef] bL (.fT (.bin .lss cO wm) (.call 2 [.agg [.S (.cell dN cO 0),.S (.cell dN cO 1),.S (.cell dN cO 2),.S (.cell dN cO 3)]] [dz,eu] (.bX 0 [fI,fK,dx,dN,aH,aH,aH,dx,dB,aH,aH,dU,aH] (.cons (.fT (.bin .lss iP IZ) (.call 5 [.agg aj2,aF] Gf (.B (.bin .eql iK cO) (.leaf 0 [.agg [mW,qJ,aF,qZ,wh,vZ,Bj,aF,aF],wT,zU] []) (.fT (.bin .lss jI IZ) (.call 2 [.agg an5] [wT,zU] (.bX 1 [yZ,zf,jQ,jq,kQ,pU,lG,yV,zh,EB,CF,ED,aH] (.cons (.leaf 0 [.agg [I5,MU,aF,KC,MZ,MC,Qz,aF,aF],IY,Bh] []) (.cons (.leaf 0 [.agg [I5,MU,aF,KC,MZ,MC,Qz,.S (.var 44),aF],IY,Bh] []) .nil)))))))) (.cons (.fT (.bin .lss iP IZ) (.call 5 [.agg aj2,wh] Gf (.B (.bin .eql iK cO) (.leaf 0 [.agg [mW,qJ,qH,vZ,Bj,wT,zU,aF,aF],M_,.S yZ] []) (.fT (.bin .lss jI IZ) (.call 2 [.agg an5] [M_,.S yZ] (.bX 2 [Bn,CG,jQ,jq,kQ,pU,lG,wU,EB,CF,EO,zR,zh,zf,aH] (.cons (.leaf 0 [.agg [KC,MZ,MC,Qz,.S (.var 44),.S (.var 45),.S (.var 46),aF,aF],za,yU] []) (.cons (.leaf 0 [.agg [KC,MZ,MC,Qz,.S (.var 44),.S (.var 45),.S (.var 46),.S (.var 47),aF],za,yU] []) .nil)))))))) .nil))))))
def aLz:ko 50 200 0 TY aak [] ahM:=.of aS
def aLA:ko 50 200 2 T9 aak [] ahN:=.of aS
def aLB:ko 50 200 2 T_ aak [] ahO:=.of aS
def auO:TC 50 [.S (.var 5),.S (.var 6)] lW aak [TY,T9,T_] aLC (fl++[C]++[.R 1]):=tc
def auP:gU 50:=gY Tryz.func50 aS
def afl (n:Nat):gu:=⟨TY,fun ds=>match ds with|[y,A,E,F,P,T,W,e,h,l,u,w,a']=>mU [y,A]/\aJ O ds (sk ahM)/\a'=.int .i64 0|_=>False,
 fun ds j out=>match ds with|[y,A,E,F,P,T,W,e,h,l,u,w,_]=>RL (bO (fun s x=>aL (ku x s.1) fun q=>.ok (s.1++[q],nt x::s.2)) (([],[]):G (G Nat)×G (G Nat)) (rD w)) (fun p=>.dD [.one (.R (p.1.map bw)),.one (.R (p.2.map bw))]) iQ [y,A] (([],[]):G (G Nat)×G (G Nat)) [E,F,P,T,W,e,h,l,u] (fun s=>[E,F,P,T,W,e,h,.R (s.1.map bw),l,u,.R (s.2.map bw)]) j out|_=>False⟩
def afm (n:Nat):gu:=⟨T9,fun ds=>match ds with|[h,u,F,P,T,W,a',w,y,A,E,e,b']=>mU [h,u]/\aJ O ds (sk ahN)/\b'=.int .i64 0/\([h,u]=aM->∀x∈rD e,aI x<=n)|_=>False,
 fun ds j out=>match ds with|[h,u,F,P,T,W,a',w,y,A,E,e,_]=>RL (bO (eO fun x=>aL (mQ x) fun c'=>aL (Ap c'.1) fun q=>aL (iJ n c'.2 ([]:G (G Nat))) fun t=>.ok (D.str q::t)) ([]:G Rw) (rD e)) (fun l=>.one (.R l)) iQ [h,u] ([]:G Rw) [F,P,T,W,a',w,y,A,E] (fun s=>[F,P,T,W,a',w,y,A,E,.R s]) j out|_=>False⟩
def afn (n:Nat):gu:=⟨T_,fun ds=>match ds with|[e,h,T,W,a',b',c',y,A,E,F,P,u,w,d']=>mU [e,h]/\aJ O ds (sk ahO)/\d'=.int .i64 0/\([e,h]=aM->∀x∈rD w,aI x<=n)/\([e,h]=aM->(rD u).length+n<=1000000)|_=>False,
 fun ds j out=>match ds with|[e,h,T,W,a',b',c',y,A,E,F,P,u,w,_]=>RL (bO (eO fun x=>aL (mQ x) fun e'=>aL (Ap e'.1) fun q=>aL (iJ n e'.2 (bg (rD u))) fun t=>.ok (D.str q::t)) ([]:G Rw) (rD w)) (fun l=>.one (.R l)) iQ [e,h] ([]:G Rw) [T,W,a',b',c',y,A,E,F,P] (fun s=>[T,W,a',b',c',y,A,E,F,P,.R s]) j out|_=>False⟩
def aCe:(afl b).eZ ⟨sk ahM,true,0,12,[[(2,2),(3,3),(4,4),(5,5),(6,6),(7,7),(8,8),(9,9),(10,10)],[(2,2),(3,3),(4,4),(5,5),(6,6),(7,7),(8,8),(9,10),(10,11)]]⟩:=BL
def TY.qE (h:P:=by first|(simp[tD,eO,nth,nk,nt,nc,no,jh,iD,rD,mq,LM,kS,lY,LU,uT,vR, *]<;>first|done|omega)|(simp_all[tD,eO,nth,nk,nt,nc,no,jh,iD,rD,mq,LM,kS,lY,LU,uT,vR]<;>omega)):P:=h
open TY in
def aN3 (u:bH T) (n:Nat) (hn:n+100<=1000000) (a':(yu n).aA T):(afl n).Ok T Tryz.prog (fun x=>x∈dO (kU 50)) O fM:=by
 intro ds b'
 match ds,b' with
 |[n',o',y,E,F,P,W,e,h,j,l,c',r'],⟨Z,hk,d'⟩=>
 subst d';obtain⟨rows,rfl,lH,w⟩:=bW (rP 11 hk);have s':rows.length<=1000000:=lH;have A:fG T _ _:=(ac (Ar u) Bo (ac (SI u) Rc (ac (Fp u) EU (ac (JJ u) I8 (ac (Ji u) I7 (ac a' CU an))))));refine JC (c:=afl n) (s0:=(([],[]):G (G Nat)×G (G Nat))) (step:=fun s x=>aL (ku x s.1) fun q=>.ok (s.1++[q],nt x::s.2)) u (fun a k=>a.1.length<=k/\a.2.length<=k) (fun p q i=>[p,q,y,E,F,P,W,e,h,j,l,.R rows,i]) (fun a p q i=>[p,q,y,E,F,P,W,e,h,.R (a.1.map bw),j,l,.R (a.2.map bw),.R rows,i]) aLz A hk Z w (fun k row hrow jO e' hrun=>?_) fun k ⟨a0,a1⟩ row ⟨p',q'⟩ hrow jO e' hrun=>?_
 ·obtain⟨f',g',h',i',rfl,k',l'⟩:=aT jO
  refine lF M Y0 fu ?_ fun y1 hy1 hk=>?_;exact EX;replace hy1:=nz hy1;exact LN
 ·obtain⟨f',g',h',i',rfl,k',l'⟩:=aT jO
  refine lF M Y0 fu ?_ fun y1 hy1 hk=>?_;exact EX;replace hy1:=nz hy1;refine aR ?_;exact Yr
def aCf:(afm b).eZ ⟨sk ahN,true,0,12,[[(2,2),(3,3),(4,4),(5,5),(6,6),(7,7),(8,8),(9,9),(10,10)],[(2,2),(3,3),(4,4),(5,5),(6,6),(7,7),(8,8),(9,9),(10,10)]]⟩:=BL
def T9.qE (h:P:=by first|(simp[tD,eO,mQ,eD,nth,nk,nt,nc,no,jh,iD,rD,mq,LM,kS,lY,LU,uT,vR, *]<;>first|done|omega)|(simp_all[tD,eO,mQ,eD,nth,nk,nt,nc,no,jh,iD,rD,mq,LM,kS,lY,LU,uT,vR]<;>omega)):P:=h
open T9 in
def aN4 (u:bH T) (n:Nat) (hn:n+100<=1000000) (a':(yu n).aA T):(afm n).Ok T Tryz.prog (fun x=>x∈dO (kU 50)) O fM:=by
 intro ds b'
 match ds,b' with
 |[c',d',y,E,F,P,W,e,h,j,l,e',k'],⟨Z,hk,f',hex⟩=>
 subst f';obtain⟨rows,rfl,lH,w⟩:=bW (rP 11 hk);have l':rows.length<=1000000:=lH;replace hex:[c',d']=aM->∀x∈rows,aI x<=n:=hex;have A:fG T _ _:=(ac (Ar u) Bo (ac (SI u) Rc (ac (Fp u) EU (ac (JJ u) I8 (ac (Ji u) I7 (ac a' CU an))))));refine JC (c:=afm n) (s0:=([]:G Rw)) (step:=eO fun x=>aL (mQ x) fun g'=>aL (Ap g'.1) fun q=>aL (iJ n g'.2 ([]:G (G Nat))) fun t=>.ok (D.str q::t)) u (fun a k=>a.length<=k) (fun p q i=>[p,q,y,E,F,P,W,e,h,j,l,.R rows,i]) (fun a p q i=>[p,q,y,E,F,P,W,e,h,j,l,.R a,.R rows,i]) aLA A hk Z w (fun k row hrow jO h' hrun=>?_) fun k a0 row i' hrow jO h' hrun=>?_
 ·replace hex:=hex hrun.jE
  exact aqw
 ·replace hex:=hex hrun.jE
  exact aqn
def aCg:(afn b).eZ ⟨sk ahO,true,0,14,[[(2,2),(3,3),(4,4),(5,5),(6,6),(7,7),(8,8),(9,9),(10,10),(11,11)],[(2,2),(3,3),(4,4),(5,5),(6,6),(7,7),(8,8),(9,9),(10,10),(11,11)]]⟩:=BL
def T_.qE (h:P:=by first|(simp[tD,eO,mQ,eD,nth,nk,nt,nc,no,jh,iD,rD,mq,LM,kS,lY,LU,uT,vR, *]<;>first|done|omega)|(simp_all[tD,eO,mQ,eD,nth,nk,nt,nc,no,jh,iD,rD,mq,LM,kS,lY,LU,uT,vR]<;>omega)):P:=h
open T_ in
def aN5 (y:bH T) (n:Nat) (hn:n+100<=1000000) (e':(yu n).aA T):(afn n).Ok T Tryz.prog (fun x=>x∈dO (kU 50)) O fM:=by
 intro ds f'
 match ds,f' with
 |[F,P,W,a',b',c',d',h,j,l,u,w,i',k',q'],⟨Z,hk,l',hex,e⟩=>
 subst l';obtain⟨vars,rfl,g',h'⟩:=bW (rP 12 hk);obtain⟨rows,rfl,lH,E⟩:=bW (rP 13 hk);have r':rows.length<=1000000:=lH;replace hex:[F,P]=aM->∀x∈rows,aI x<=n:=hex;replace e:[F,P]=aM->vars.length+n<=1000000:=e;have A:fG T _ _:=(ac (Ar y) Bo (ac (SI y) Rc (ac (Fp y) EU (ac (JJ y) I8 (ac (Ji y) I7 (ac e' CU an))))));refine JC (c:=afn n) (s0:=([]:G Rw)) (step:=eO fun x=>aL (mQ x) fun n'=>aL (Ap n'.1) fun q=>aL (iJ n n'.2 (bg vars)) fun t=>.ok (D.str q::t)) y (fun a k=>a.length<=k) (fun p q i=>[p,q,W,a',b',c',d',h,j,l,u,w,.R vars,.R rows,i]) (fun a p q i=>[p,q,W,a',b',c',d',h,j,l,u,w,.R a,.R vars,.R rows,i]) aLB A hk Z E (fun k row hrow jO o' hrun=>?_) fun k a0 row p' hrow jO o' hrun=>?_
 ·replace hex:=hex hrun.jE
  replace e:=e hrun.jE;exact aqw
 ·replace hex:=hex hrun.jE
  replace e:=e hrun.jE;exact aqn
def aLy.qE (h:P:=by(try simp only[tD,rD,iD,qW,uT,vR,kS,lY,↓tO,↓uU])<;>(unfold Gv;simp only[rD,ZG,ZH,ZI,ag7];(first|rw[hy0]|rw[hy]);first|rfl|(rw[mq];(first|rw[hy1]|rw[hy]);first|rfl|(rw[mq];first|(rw[atn hy2];rfl)|(rw[atn hy];rfl)|(rw[(ag0 hy2).1,mq,(ag0 hy2).2];(try simp only[rD,kS,lY] at hy3);(first|rw[hy3]|rw[hy]);first|rfl|(rw[mq,bB jK];(first|rw[hy4]|rw[hy]);first|rfl|(rw[mq];show aL (bO _ _ _) _=_;(first|rw[qm]|rw[hy]);rfl))))))):P:=h
open aLy in
def aN6 (l:bH T) (n:Nat) (hn:n+100<=1000000) (h:(yu n).aA T):(RB n).aA T:=by
 intro V pre ⟨P,Z⟩
 match V,P with
 |[.one d0,.one d1],⟨f',g',j,hex⟩=>
 obtain⟨h',rfl⟩:=f'.int;obtain⟨E,rfl,F,u⟩:=bW g';have A:fG T _ _:=(ac (Ar l) Bo (ac (SI l) Rc (ac (Fp l) EU (ac (JJ l) I8 (ac (Ji l) I7 (ac h CU an))))));have aD:=(lc (aN3 l n hn h) aCe (lc (aN4 l n hn h) aCf (lc (aN5 l n hn h) aCg ln)));replace j:(h'=1/\E.length=3)\/(h'=2/\E.length=4):=j;rcases j with⟨rfl,j⟩|⟨rfl,j⟩
 ·refine mY (L:=[(.bin .eql (.var 5) (.int .i64 1),true),(.bin .eql (.len (.var 6)) (.int .i64 3),true)]) (la:=kR) l auP A.1 aD.1 A.2 aD.2 auO (ay aO (ay (eP F u) aX)) Z (fun W=>?_) (hL:=fun _ _=>(asU (z:=1) rfl (Zp rfl (by rw[show E.length=3 from j]<;>rfl))))
  subst W;replace hex:=hex rfl;obtain⟨t',u',v',rfl,k',l',m'⟩:=Dh u aC;obtain⟨w',x',y',z',rfl,A',D'⟩:=aT k';obtain⟨E',F',L',M',rfl,P',T'⟩:=aT l';obtain⟨W',X',a0,b0,rfl,e0,f0⟩:=aT m';refine aR ?_;refine dH M Bw fun y0 hy0 e=>?_;refine aR ?_;refine dH M K9 fun y1 hy1 e=>?_;have n':=jd e;obtain⟨i',Jw⟩:=zm hy1;refine Ec (la:=kR) M (fun k=>by exact⟨.inl rfl,k,rfl⟩) ?_ (fun hy2=>?_) fun a' hy2=>?_
  exact qF
  ·replace hy2:=nz hy2
   refine aR ?_;refine dH M (fun k=>Bz k (oU:=N7) (bF:=Oi)) fun b' hy3 e=>?_;obtain⟨g0,h0,i0,j0,rfl,k0,l0⟩:=gQ e;replace hy3:=nz hy3;exact Oh
  ·obtain⟨c',d'⟩:=a'
   replace hy2:=nz hy2;refine aR ?_;refine dH M (fun k=>Bz k (oU:=N7) (bF:=Oi)) fun b' hy3 e=>?_;obtain⟨m0,o0,r0,s0,rfl,t0,u0⟩:=gQ e;replace hy3:=nz hy3;exact Oh
 ·refine mY (L:=[(.bin .eql (.var 5) (.int .i64 1),false),(.bin .eql (.len (.var 6)) (.int .i64 4),true)]) (la:=kR) l auP A.1 aD.1 A.2 aD.2 auO (ay aO (ay (eP F u) aX)) Z (fun W=>?_) (hL:=fun _ _=>(asU (z:=2) rfl (Zp rfl (by rw[show E.length=4 from j]<;>rfl))))
  subst W;replace hex:=hex rfl;obtain⟨v0,w0,x0,A0,rfl,o',p',hR,q'⟩:=Jl u aC;obtain⟨D0,E0,F0,L0,rfl,M0,P0⟩:=aT o';obtain⟨T0,W0,X0,a1,rfl,b1,e1⟩:=aT p';obtain⟨f1,g1,h1,i1,rfl,j1,k1⟩:=aT hR;obtain⟨l1,m1,o1,r1,rfl,s1,u1⟩:=aT q';refine aR ?_;refine dH M Bw fun y0 hy0 e=>?_;refine aR ?_;refine dH M K9 fun y1 hy1 e=>?_;have n':=jd e;obtain⟨i',Jw⟩:=zm hy1;refine Ec (la:=kR) M (fun k=>by exact⟨.inl rfl,k,rfl⟩) ?_ (fun hy2=>?_) fun a' hy2=>?_
  exact qF
  ·replace hy2:=nz hy2
   refine aR ?_;refine dH M (fun k=>Bz k (oU:=N7) (bF:=Oi)) fun b' hy3 e=>?_;obtain⟨v1,w1,x1,A1,rfl,D1,E1⟩:=gQ e;replace hy3:=nz hy3;refine jo M ?_;refine aR ?_;refine dH M K9 fun e' hy4 e=>?_;have r':=jd e;obtain⟨w,j'⟩:=zm hy4;refine Ec (la:=kR) M (fun k=>by exact⟨.inl rfl,k,rfl,(fun _=>by first|exact hex|assumption|(intro x q;have q:x∈e':=q;rw[w] at q;have y:=wz q;exact fF (Ir y) (hex _ jS)))⟩) ?_ (fun qm=>?_) fun s' qm=>?_
   exact qF
   ·exact KX
   ·exact KX
  ·obtain⟨c',d'⟩:=a'
   replace hy2:=nz hy2;refine aR ?_;refine dH M (fun k=>Bz k (oU:=N7) (bF:=Oi)) fun b' hy3 e=>?_;obtain⟨F1,L1,M1,P1,rfl,T1,W1⟩:=gQ e;replace hy3:=nz hy3;refine jo M ?_;refine aR ?_;refine dH M K9 fun e' hy4 e=>?_;have r':=jd e;obtain⟨w,j'⟩:=zm hy4;refine Ec (la:=kR) M (fun k=>by exact⟨.inl rfl,k,rfl,(fun _=>by first|exact hex|assumption|(intro x q;have q:x∈e':=q;rw[w] at q;have y:=wz q;exact fF (Ir y) (hex _ jS))),(fun _=>(by first|assumption|(have y:=agZ hy1 hy2;simp only[rD,tX];omega)|(have y:=agZ hy1 hy2;omega)))⟩) ?_ (fun qm=>?_) fun s' qm=>?_
   exact qF
   ·exact KX
   ·exact KX
end
end
end Go.Proofs.YtdjcfaaongngeaaGreatDoor

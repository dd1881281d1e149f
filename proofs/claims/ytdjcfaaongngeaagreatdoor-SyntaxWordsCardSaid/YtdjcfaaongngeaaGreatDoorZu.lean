/- A part of the proof: see the last text. -/
import Derived.Test.YtdjcfaaongngeaaGreatDoorZg
import Derived.Test.YtdjcfaaongngeaaGreatDoorZj
set_option linter.all false
set_option maxRecDepth 100000
set_option maxHeartbeats 0
namespace Go.Proofs.YtdjcfaaongngeaaGreatDoor
noncomputable section
variable {b g i:Nat}{W w:ak}{v m:av}{k o:Int}{u:dh}{A:dA}
section
open Go.RowKit
attribute [local go_sem↓] P8 PZ
def ajp (s:dA) (pos pb:Nat) (w:ak) (e:AJ) (w':ak):Prop:=
 ∃(h:Nat) (fk:Int) (fo:Nat) (t:G dG),e=.returned (.agg #[.int .i64 2,.string ⟨t.toArray⟩,.slice none 0 0,.int .i64 pos])/\gH w w' pb s h fk fo/\pos<h/\h<=s.size/\
  ((fk=0/\fo=0/\∀st,go ((bytes s).drop pos) pos .plain st=go ((bytes s).drop h) h .plain (addTop 2 t .nil pos st))\/(¬fk=0/\∀st,go ((bytes s).drop pos) pos .plain st=.error (fk,fo)))
section
variable {w w0 wr w1 X:ak} {pb nb rb:Nat} {s:dA} {pos q:Nat}
structure rY (X:World) (nb rb:Nat) (pos:Nat) (t:List UInt8):Prop where
 hn:X.heap[nb]?=some (.cells #[.int .i64 2,.string ⟨t.toArray⟩,.slice none 0 0,.int .i64 pos] 59 (0,0))
 U:X.heap[rb]?=some (.cells #[.int .i64 0,.string ⟨#[]⟩,.slice none 0 0,.int .i64 0] 59 (0,0))
def rY.low {t:G dG} (h:rY w0 nb rb pos t) (e:gH w0 X pb s q k o) (j:nb≠pb) (l:rb≠pb):rY X nb rb pos t:=
 ⟨(e.other nb (kF.1 h.hn).1 j).trans h.hn,(e.other rb (kF.1 h.U).1 l).trans h.U⟩
def rY.n {t:G dG} (h:rY X nb rb pos t):X.cell? ⟨nb,0,none⟩=some (.int .i64 2)/\X.cell? ⟨nb,1,none⟩=some (.string ⟨t.toArray⟩)/\X.cell? ⟨nb,2,none⟩=some (.slice none 0 0)/\X.cell? ⟨nb,3,none⟩=some (.int .i64 pos)/\X.frozen? ⟨nb,1,none⟩=false:=by
 refine⟨?_,?_,?_,?_,by simp[World.frozen?,h.hn]⟩<;>(rw[gX X _ _ _ _ _ h.hn];rfl)
def rY.r {t:G dG} (h:rY X nb rb pos t):X.cell? ⟨rb,0,none⟩=some (.int .i64 0)/\X.cell? ⟨rb,1,none⟩=some (.string ⟨#[]⟩)/\X.cell? ⟨rb,2,none⟩=some (.slice none 0 0)/\X.cell? ⟨rb,3,none⟩=some (.int .i64 0)/\∀j,X.frozen? ⟨rb,j,none⟩=false:=by
 refine⟨?_,?_,?_,?_,fun j=>by simp[World.frozen?,h.U]⟩<;>(rw[gX X _ _ _ _ _ h.U];rfl)
def rY.aNd {t e:G dG} (h:rY X nb rb pos t) (j:rb≠nb):rY (X.setCell ⟨nb,1,none⟩ (.string ⟨e.toArray⟩)) nb rb pos e:=
 ⟨by rw[o_ h.hn];rfl,(jF j).trans h.U⟩
def Lu {t:G dG} {fk:Int} {fo:Nat} (e:gH w X pb s q fk fo) (U:w.heap.size<=rb) (j:pos<q) (l:q<=s.size)
 (h:(fk=0/\fo=0/\∀st,go ((bytes s).drop pos) pos .plain st=go ((bytes s).drop q) q .plain (addTop 2 t .nil pos st))\/(¬fk=0/\∀st,go ((bytes s).drop pos) pos .plain st=.error (fk,fo))) (a b c d:av):
 ajp s pos pb w (.returned (.agg #[.int .i64 2,.string ⟨t.toArray⟩,.slice none 0 0,.int .i64 pos])) ((((X.setCell ⟨rb,0,none⟩ a).setCell ⟨rb,1,none⟩ b).setCell ⟨rb,2,none⟩ c).setCell ⟨rb,3,none⟩ d):=
 ⟨q,fk,fo,t,rfl,(((e.Px U _).Px U _).Px U _).Px U _,j,l,h⟩
def ajq (w0:ak) (pb:Nat) (s:dA) (pos:Nat) (k q:Nat) (acc:G dG) (e:av) (wr:ak):Prop:=
 k=s.size-q/\gH w0 wr pb s q 0 0/\pos<q/\q<=s.size/\acc.length<=q/\wr.ownsRow w0.heap.size 5 1 e acc.length (acc.map rC)/\∀st,go ((bytes s).drop pos) pos .plain st=go ((bytes s).drop q) q (.text pos acc) st
def ahW {acc:G dG} {c:dG} {c2:Nat} (j:gH w0 w1 pb s q 0 0)
 (lI:w1.ownsRow w0.heap.size 5 1 (.slice (some ⟨g,0,none⟩) (acc.length+1) c2) (acc.length+1) (acc.map rC++[.int .u8 (c.toNat:Int)])) (u:pos<i) (w:i<=s.size) (y:acc.length+1<=i) (l:∀st,go ((bytes s).drop pos) pos .plain st=go ((bytes s).drop i) i (.text pos (acc++[c])) st):
 ajq w0 pb s pos (s.size-i) i (acc++[c]) (.slice (some ⟨g,0,none⟩) (acc.length+1) c2) (w1.setCell ⟨pb,1,none⟩ (.int .i64 i)):=by
 have lp:=j.lp;refine⟨rfl,j.setPos i,u,w,by simpa using y,?_,l⟩
 have h:=Aw (w':=w1.setCell ⟨pb,1,none⟩ (.int .i64 i)) lI (fun b e=>jF YI)
 simpa[rC] using h
def aK9 (w:ak) (pb pos:Nat):rY (((w.setCell ⟨pb,1,none⟩ (.int .i64 ((pos+1:Nat):Int))).alloc (.cells #[.int .i64 0,.string ⟨#[]⟩,.slice none 0 0,.int .i64 0] 59)).alloc (.cells #[.int .i64 2,.string ⟨#[]⟩,.slice none 0 0,.int .i64 pos] 59)) (w.heap.size+1) w.heap.size pos []:=by
 have e:=(tL w ⟨pb,1,none⟩ (.int .i64 ((pos+1:Nat):Int))).1;refine⟨?_,?_⟩
 ·have h:=lu ((w.setCell ⟨pb,1,none⟩ (.int .i64 ((pos+1:Nat):Int))).alloc (.cells #[.int .i64 0,.string ⟨#[]⟩,.slice none 0 0,.int .i64 0] 59)) (.cells #[.int .i64 2,.string ⟨#[]⟩,.slice none 0 0,.int .i64 pos] 59)
  rw[Md,e] at h;exact h
 ·have h:=lu (w.setCell ⟨pb,1,none⟩ (.int .i64 ((pos+1:Nat):Int))) (.cells #[.int .i64 0,.string ⟨#[]⟩,.slice none 0 0,.int .i64 0] 59)
  rw[e] at h;rw[jV _ _ _ (by rw[Md,e];omega)]
  exact h
def aMR (h:w.heap[pb]?=some (.cells #[.string s,.int .i64 pos,.int .i64 0,.int .i64 0] 92 (0,0))) (L1:s.size<=65536) (hlt:pos<s.size) (hc:(s[pos].toNat:Int)=34):
 Calls Tryz.prog 57 #[.pointer (some ⟨pb,0,none⟩)] w (ajp s pos pb w):=by
 have P':pos<(bytes s).length:=Dk;have hR:∀st,go ((bytes s).drop pos) pos .plain st=go ((bytes s).drop (pos+1)) (pos+1) (.text pos []) st:=fun st=>by
  rw[go_plain P',aof (show bt (bytes s)[pos]=34 from hc)]
 have T':=gH.start h;have p1:=T'.p1;have pf:=T'.pf 1;have lp:=T'.lp;have aP:=Q T';have HR:=Q hR;obtain⟨ti,o0,r0,s0,t0⟩:=Qe agG;have W':=Q r0;have X':=Q s0;have a0:=Q t0;have b0:=Q o0;clear h T' hc hR P' r0 s0 t0 o0;go_enter Tryz.func57,Tryz.ntmps57;go_wp2_with fail;have e0:=(((aP.out.setPos (pos+1)).alloc (.cells #[.int .i64 0,.string ⟨#[]⟩,.slice none 0 0,.int .i64 0] 59)).alloc (.cells #[.int .i64 2,.string ⟨#[]⟩,.slice none 0 0,.int .i64 pos] 59));have f0:rY (((w.setCell ⟨pb,1,none⟩ (.int .i64 ((pos+1:Nat):Int))).alloc (.cells #[.int .i64 0,.string ⟨#[]⟩,.slice none 0 0,.int .i64 0] 59)).alloc (.cells #[.int .i64 2,.string ⟨#[]⟩,.slice none 0 0,.int .i64 pos] 59)) (w.heap.size+1) w.heap.size pos []:=aK9 w pb pos;rw[rW] at e0 f0;obtain⟨w0,g0⟩:∃w0,(((w.setCell ⟨pb,1,none⟩ (.int .i64 ((pos:Int)+1))).alloc (.cells #[.int .i64 0,.string ⟨#[]⟩,.slice none 0 0,.int .i64 0] 59)).alloc (.cells #[.int .i64 2,.string ⟨#[]⟩,.slice none 0 0,.int .i64 pos] 59))=w0:=⟨_,rfl⟩;have m1:=Q g0;rw[g0];have k':Hid (gH w w0 pb s (pos+1) 0 0):=by rw[<-g0];exact e0
 have r':Hid (rY w0 (w.heap.size+1) w.heap.size pos []):=by rw[<-g0];exact f0
 have m':w.heap.size<=w.heap.size:=bq _;have c':w.heap.size+1≠pb:=I;have d':w.heap.size≠pb:=I;clear g0 e0 f0 m1 p1 pf;go_loopg [4] (s.size-(pos+1)) (fun k o1 wr=>∃q acc,ajq w0 pb s pos k q acc o1 wr)
 case atStart=>exact⟨pos+1,[],rfl,k'.out.again,by omega,by omega,gK _,Qd _ _ _ _,HR.out⟩
 case round=>
  obtain⟨q,acc,l',l,x1,A1,D1,A,W⟩:=hrel;obtain⟨ba,bc,e1⟩:=JI A;subst e1;have q0:=l.p0;have q1:=l.p1;have P0:=l.pf 1;have M1:(0:Int)<=(q:Int):=I
  by_cases T0:q<s.size
  ·have P1:(q:Int)<(s.size:Int):=by omega
   have A':q<(bytes s).length:=by rw[jX];exact T0
   by_cases b':(s[q].toNat:Int)=34
   ·have f1:=pz b'
    have j:∀st,go ((bytes s).drop pos) pos .plain st=if acc.length<=2000 then go ((bytes s).drop (q+1)) (q+1) .plain (addTop 2 acc .nil pos st) else .error (4,pos):=fun st=>by
     rw[W st,go_text_close A' b']
    have E1:∀(m:Nat) (v:av),(convert 79 9 (.slice ba acc.length bc)).run Tryz.prog ((wr.drewN m).setCell ⟨pb,1,none⟩ v)=.ok (.string ⟨acc.toArray⟩) ((wr.drewN m).setCell ⟨pb,1,none⟩ v):=fun m v=>
     aff A (fun b e=>by
      have T1:=A.lt b e;have:=l.lp;exact jF (w:=wr.drewN m) I) _ _ Cq UU A_
    have s':=r'.out.low l c' d';obtain⟨n0,n1,W0,r1,s1⟩:=s'.n;obtain⟨u0,x0,A0,D0,g1⟩:=s'.r;have P:=Q l;have h1:=Q s';have F1:w.heap.size+1<wr.heap.size:=(kF.1 s'.hn).1
    by_cases h0:acc.length<=2000
    ·have X0:¬(2000:Int)<(acc.length:Int):=by omega
     have f':Hid (∀st,go ((bytes s).drop pos) pos .plain st=go ((bytes s).drop (q+1)) (q+1) .plain (addTop 2 acc .nil pos st)):=fun st=>by rw[j st,bK h0]
     clear l' l A W j b' s';go_wp2_with fail;go_quiet (fail);rename Nat=>y
     go_wp2_with fail;go_quiet (fail);rename Nat=>F
     go_wp2_with fail;refine ni (v:=.agg #[.int .i64 2,.string ⟨acc.toArray⟩,.slice none 0 0,.int .i64 pos]) (by simp[results,Tryz.results57,go_sem,u0,x0,A0,D0]) rfl ?_
     exact Lu (fk:=0) (fo:=0) (((k'.out.trans (P.out.drewN (y+F))).setPos (q+1)).Px (g:=w.heap.size+1) I _) m' I I (.inl ⟨rfl,rfl,f'.out⟩) _ _ _ _
    ·have X0:(2000:Int)<(acc.length:Int):=by omega
     have f':Hid (∀st,go ((bytes s).drop pos) pos .plain st=.error (4,pos)):=fun st=>by rw[j st,bB h0]
     clear l' l A W j b' s';go_wp2_with fail;go_quiet (fail);rename Nat=>y
     go_wp2_with fail;go_quiet (fail);rename Nat=>F
     go_wp2_with fail;have F':=((k'.out.trans (P.out.drewN (y+F))).setPos (q+1)).Px (g:=w.heap.size+1) (o:=1) I (.string ⟨acc.toArray⟩);have i0:rY (((wr.drewN (y+F)).setCell ⟨pb,1,none⟩ (.int .i64 ((q+1:Nat):Int))).setCell ⟨w.heap.size+1,1,none⟩ (.string ⟨acc.toArray⟩)) (w.heap.size+1) w.heap.size pos acc:=(rY.low (h1.out) ((P.out.again.drewN (y+F)).setPos (q+1)) c' d').aNd I;rw[rW] at F' i0;refine(DY F'.head _ _).mono ?_;rintro e j0 ⟨rfl,hf⟩;have a':=F'.trans hf;have E:=rY.low i0 hf c' d';have n':=Q a';have g':=Q E;clear a' E hf F' i0 u0 x0 A0 D0 g1 n0 n1 W0 r1 s1;have o':=g'.out.n;have p':=g'.out.r;obtain⟨t',u',v',x',y'⟩:=o';obtain⟨NI,NK,NM,NP,z'⟩:=p';go_wp2_with fail;refine ni (v:=.agg #[.int .i64 2,.string ⟨List.toArray acc⟩,.slice none 0 0,.int .i64 pos]) Oc rfl ?_;exact Lu n'.out m' I I (.inr ⟨by omega,f'.out⟩) _ _ _ _
   have f1:=nK b';cases hsb:AB (s[q].toNat:Int)
   ·have j:∀st,go ((bytes s).drop pos) pos .plain st=.error (2,q):=fun st=>by
     rw[W st,go_text_bad A' b' hsb]
    have E0:¬(32<=(s[q].toNat:Int)/\(s[q].toNat:Int)<=126):=fun h=>by
     rw[(awf _).2 h] at hsb;cases hsb
    have P:=Q l;have f':=Q j;clear l' l A W j hsb
    by_cases F0:(s[q].toNat:Int)<32
    ·clear E0 b'
     go_wp2_with fail;go_quiet (fail);rename Nat=>y
     go_wp2_with fail;go_quiet (fail);rename Nat=>F
     go_wp2_with fail;refine(DY (P.out.drewN (y+F)).head _ _).mono ?_;rintro e j0 ⟨rfl,hf⟩;have a':=k'.out.trans ((P.out.drewN (y+F)).trans hf);have E:=rY.low (r'.out.low (P.out.drewN (y+F)) c' d') hf c' d';have n':=Q a';have g':=Q E;clear a' E hf;have o':=g'.out.n;have p':=g'.out.r;obtain⟨t',u',v',x',y'⟩:=o';obtain⟨NI,NK,NM,NP,z'⟩:=p';go_wp2_with fail;refine ni (v:=.agg #[.int .i64 2,.string ⟨List.toArray []⟩,.slice none 0 0,.int .i64 pos]) Oc rfl ?_;exact Lu n'.out m' I I (.inr ⟨by omega,f'.out⟩) _ _ _ _
    ·have a1:decide ((s[q].toNat:Int)<32)=false:=by simpa using F0
     have u1:(126:Int)<(s[q].toNat:Int):=I;clear E0 b' F0;go_wp2_with fail;go_quiet (fail);rename Nat=>y
     go_wp2_with fail;go_quiet (fail);rename Nat=>F
     go_wp2_with fail;refine(DY (P.out.drewN (y+F)).head _ _).mono ?_;rintro e j0 ⟨rfl,hf⟩;have a':=k'.out.trans ((P.out.drewN (y+F)).trans hf);have E:=rY.low (r'.out.low (P.out.drewN (y+F)) c' d') hf c' d';have n':=Q a';have g':=Q E;clear a' E hf;have o':=g'.out.n;have p':=g'.out.r;obtain⟨t',u',v',x',y'⟩:=o';obtain⟨NI,NK,NM,NP,z'⟩:=p';go_wp2_with fail;refine ni (v:=.agg #[.int .i64 2,.string ⟨List.toArray []⟩,.slice none 0 0,.int .i64 pos]) Oc rfl ?_;exact Lu n'.out m' I I (.inr ⟨by omega,f'.out⟩) _ _ _ _
   have L0:=(awf _).1 hsb;have a1:decide ((s[q].toNat:Int)<32)=false:=gJ;have l1:decide ((126:Int)<(s[q].toNat:Int))=false:=gJ;have W1:decide (s[q].toNat<32)=false:=gJ;have X1:decide (126<s[q].toNat)=false:=gJ;have a2:¬(126:Int)<(s[q].toNat:Int):=I;have b2:¬(s[q].toNat:Int)<32:=I
   by_cases e':(s[q].toNat:Int)=92
   ·have i1:=pz e'
    clear L0
    by_cases j':q+1=s.size
    ·have j:∀st,go ((bytes s).drop pos) pos .plain st=.error (2,q):=fun st=>by
      rw[W st,go_text_escape_end (L:=bytes s) (by rw[jX];exact j') e']
     have X0:(((q:Int)+1)==(s.size:Int))=true:=pz I;have P:=Q l;have f':=Q j;have L':=Q j';clear l' l A W j b' e' hsb j';go_wp2_with fail;go_quiet (fail);rename Nat=>y
     go_wp2_with fail;go_quiet (fail);rename Nat=>F
     go_wp2_with fail;go_quiet (fail);rename Nat=>h'
     go_wp2_with fail;refine(DY (P.out.drewN (y+F+h')).head _ _).mono ?_;rintro e j0 ⟨rfl,hf⟩;have a':=k'.out.trans ((P.out.drewN (y+F+h')).trans hf);have E:=rY.low (r'.out.low (P.out.drewN (y+F+h')) c' d') hf c' d';have n':=Q a';have g':=Q E;clear a' E hf;have o':=g'.out.n;have p':=g'.out.r;obtain⟨t',u',v',x',y'⟩:=o';obtain⟨NI,NK,NM,NP,z'⟩:=p';go_wp2_with fail;refine ni (v:=.agg #[.int .i64 2,.string ⟨List.toArray []⟩,.slice none 0 0,.int .i64 pos]) Oc rfl ?_;exact Lu n'.out m' I I (.inr ⟨by omega,f'.out⟩) _ _ _ _
    ·have asy:q+1<s.size:=by omega
     have X0:(((q:Int)+1)==(s.size:Int))=false:=nK I;have d2:(0:Int)<=(q:Int)+1:=I;have e2:(q:Int)+1<(s.size:Int):=I;have f2:((q:Int)+1).toNat=q+1:=I;clear hsb
     by_cases D':(s[q+1].toNat:Int)=34
     ·have n1:((s[q+1].toNat:Int) !=34)=false:=by simp[D']
      have j:∀st,go ((bytes s).drop pos) pos .plain st=go ((bytes s).drop (q+2)) (q+2) (.text pos (acc++[s[q+1]])) st:=fun st=>by
       rw[W st,go_text_escape (L:=bytes s) Ob e' (.inl D')]
       rfl
      have P:=Q l;have f':=Q j;have L':=Q l';clear l' l W j b' e' j' D';go_wp2_with fail;go_quiet (fail);rename Nat=>y
      go_wp2_with fail;go_quiet (fail);rename Nat=>F
      go_wp2_with fail;go_quiet (fail);rename Nat=>h'
      go_wp2_with fail;have T:=(P.out.drewN (y+F+h')).setPos (q+1);rw[rW] at T;have i':=Aw (w':=(wr.drewN (y+F+h')).setCell ⟨pb,1,none⟩ (.int .i64 ((q:Int)+1))) A (fun b e=>jF (w:=wr.drewN (y+F+h')) (by have:=(A.lt b e).1;have:=P.out.lp;omega))
      generalize hV:(wr.drewN (y+F+h')).setCell ⟨pb,1,none⟩ (.int .i64 ((q:Int)+1))=aB at*
      have v0:=T.p0;have v1:=T.p1;rw[rW] at v1;have E':=Q T;have k0:=Q i';have b1:=E'.out.size;have j1:pb<aB.heap.size:=lZ E'.out.lp b1;clear T i' A hV q0 q1 P0;go_region_held3 (fun w'=>w'.cell? ⟨pb,0,none⟩=some (.string s)/\w'.cell? ⟨pb,1,none⟩=some (.int .i64 ((q:Int)+1)))
       (first
        |go_keep
        |exact⟨Le,Lf⟩)
       ((refine D9 _ nQ _ _ _ nQ w0.heap.size 5 ti _ 1 1 Cq b0.out W'.out X'.out a0.out rfl I (.slice ba acc.length bc) acc.length (acc.map rC) nQ ((k0.out.alloc _).drew) ⟨aB.heap.size,0,none⟩ 1 1 [.int .u8 (s[q+1].toNat:Int)] nQ nQ (xS (cs:=#[.int .u8 (s[q+1].toNat:Int)]) (t:=5) (fr:=(0,0)) (lu aB _)) Ah I wB I gJ ?_;intro g c2 w1 q';have u:=(E'.out.drew.alloc _).grown q'.grown (fun k e=>(k0.out.lt k e).1);have Le:=u.p0;have Lf:=u.p1;rw[rW] at Lf;have k1:=u.pf 1;have l0:=Q u;have m0:=Q q'.own;clear u q'))
      go_wp2_with fail;go_roundg (s.size-(q+2))
      case measure=>have:=L'.out;omega
      case rel=>exact⟨q+2,acc++[s[q+1]],ahW l0.out m0.out I I I f'.out⟩
     ·have n1:((s[q+1].toNat:Int) !=34)=true:=by simpa using D'
      by_cases M':(s[q+1].toNat:Int)=92
      ·have W0:((s[q+1].toNat:Int) !=92)=false:=by simp[M']
       have j:∀st,go ((bytes s).drop pos) pos .plain st=go ((bytes s).drop (q+2)) (q+2) (.text pos (acc++[s[q+1]])) st:=fun st=>by
        rw[W st,go_text_escape (L:=bytes s) Ob e' (.inr M')]
        rfl
       have P:=Q l;have f':=Q j;have L':=Q l';clear l' l W j b' e' j' D' M';go_wp2_with fail;go_quiet (fail);rename Nat=>y
       go_wp2_with fail;go_quiet (fail);rename Nat=>F
       go_wp2_with fail;go_quiet (fail);rename Nat=>h'
       go_wp2_with fail;have T:=(P.out.drewN (y+F+h')).setPos (q+1);rw[rW] at T;have i':=Aw (w':=(wr.drewN (y+F+h')).setCell ⟨pb,1,none⟩ (.int .i64 ((q:Int)+1))) A (fun b e=>jF (w:=wr.drewN (y+F+h')) (by have:=(A.lt b e).1;have:=P.out.lp;omega))
       generalize hV:(wr.drewN (y+F+h')).setCell ⟨pb,1,none⟩ (.int .i64 ((q:Int)+1))=aB at*
       have v0:=T.p0;have v1:=T.p1;rw[rW] at v1;have E':=Q T;have k0:=Q i';have b1:=E'.out.size;have j1:pb<aB.heap.size:=lZ E'.out.lp b1;clear T i' A hV q0 q1 P0;go_region_held3 (fun w'=>w'.cell? ⟨pb,0,none⟩=some (.string s)/\w'.cell? ⟨pb,1,none⟩=some (.int .i64 ((q:Int)+1)))
        (first
         |go_keep
         |exact⟨Le,Lf⟩)
        ((refine D9 _ nQ _ _ _ nQ w0.heap.size 5 ti _ 1 1 Cq b0.out W'.out X'.out a0.out rfl I (.slice ba acc.length bc) acc.length (acc.map rC) nQ ((k0.out.alloc _).drew) ⟨aB.heap.size,0,none⟩ 1 1 [.int .u8 (s[q+1].toNat:Int)] nQ nQ (xS (cs:=#[.int .u8 (s[q+1].toNat:Int)]) (t:=5) (fr:=(0,0)) (lu aB _)) Ah I wB I gJ ?_;intro g c2 w1 q';have u:=(E'.out.drew.alloc _).grown q'.grown (fun k e=>(k0.out.lt k e).1);have Le:=u.p0;have Lf:=u.p1;rw[rW] at Lf;have k1:=u.pf 1;have l0:=Q u;have m0:=Q q'.own;clear u q'))
       go_wp2_with fail;go_roundg (s.size-(q+2))
       case measure=>have:=L'.out;omega
       case rel=>exact⟨q+2,acc++[s[q+1]],ahW l0.out m0.out I I I f'.out⟩
      ·have W0:((s[q+1].toNat:Int) !=92)=true:=by simpa using M'
       have j:∀st,go ((bytes s).drop pos) pos .plain st=.error (2,q):=fun st=>by
        rw[W st,go_text_escape_bad (L:=bytes s) Ob e' D' M']
       have P:=Q l;have f':=Q j;clear l' l A W j b' e' j' D' M';go_wp2_with fail;go_quiet (fail);rename Nat=>y
       go_wp2_with fail;go_quiet (fail);rename Nat=>F
       go_wp2_with fail;go_quiet (fail);rename Nat=>h'
       go_wp2_with fail;refine(DY (P.out.drewN (y+F+h')).head _ _).mono ?_;rintro e j0 ⟨rfl,hf⟩;have a':=k'.out.trans ((P.out.drewN (y+F+h')).trans hf);have E:=rY.low (r'.out.low (P.out.drewN (y+F+h')) c' d') hf c' d';have n':=Q a';have g':=Q E;clear a' E hf;have o':=g'.out.n;have p':=g'.out.r;obtain⟨t',u',v',x',y'⟩:=o';obtain⟨NI,NK,NM,NP,z'⟩:=p';go_wp2_with fail;refine ni (v:=.agg #[.int .i64 2,.string ⟨List.toArray []⟩,.slice none 0 0,.int .i64 pos]) Oc rfl ?_;exact Lu n'.out m' I I (.inr ⟨by omega,f'.out⟩) _ _ _ _
   ·have i1:=nK e'
    have j:∀st,go ((bytes s).drop pos) pos .plain st=go ((bytes s).drop (q+1)) (q+1) (.text pos (acc++[s[q]])) st:=fun st=>by
     rw[W st,go_text_byte A' b' hsb e']
     rfl
    have P:=Q l;have f':=Q j;have L':=Q l';clear l' l W j b' e' hsb L0;go_wp2_with fail;go_quiet (fail);rename Nat=>y
    go_wp2_with fail;go_quiet (fail);rename Nat=>F
    go_wp2_with (at_builtin;refine FL _ rfl _ _ 79 rfl w0.heap.size 5 ti (.int .u8 0) 1 1 Cq b0.out W'.out X'.out a0.out rfl I (.slice ba acc.length bc) acc.length (acc.map rC) rfl (Ej (w:=wr.drewN (y+F)) A _) ⟨wr.heap.size,0,none⟩ 1 1 [.int .u8 (s[q].toNat:Int)] rfl rfl ?c1 ?c2 ?c3 ?c4 ?c5 ?c6 ?_)
    case c1=>exact abp _ _ _
    case c2=>simp[Value.oneCell']
    case c3=>omega
    case c4=>unfold maxLen;omega
    case c5=>omega
    case c6=>have:=P.out.size;simp;omega
    intro g c2 w1 q';have u:=((P.out.drewN (y+F)).grown (Mc _ _ none) (fun k e=>by cases e)).grown q'.grown (fun k e=>(A.lt k e).1)
    have g2:=u.p1;have k1:=u.pf 1;have l0:=Q u;have m0:=Q q'.own;clear u q' A q0 q1 P0;go_wp2_with fail;go_roundg (s.size-(q+1))
    case measure=>have:=L'.out;omega
    case rel=>exact⟨q+1,acc++[s[q]],ahW l0.out m0.out I I I f'.out⟩
  ·have j:∀st,go ((bytes s).drop pos) pos .plain st=.error (2,s.size):=fun st=>by
    rw[W st,yQ (by rw[jX];omega),go_text_end,show q=s.size by omega]
   have P:=Q l;have f':=Q j;clear l' l A W j;go_wp2_with fail;go_quiet (fail);rename Nat=>y
   go_wp2_with fail;have M0:=(P.out.drewN y).again;refine(DY M0.head _ _).mono ?_;rintro e j0 ⟨rfl,hf⟩;have a':=k'.out.trans ((P.out.drewN y).trans hf);have E:=rY.low (r'.out.low (P.out.drewN y) c' d') hf c' d';have n':=Q a';have g':=Q E;clear a' E hf M0;have o':=g'.out.n;have p':=g'.out.r;obtain⟨t',u',v',x',y'⟩:=o';obtain⟨NI,NK,NM,NP,z'⟩:=p';go_wp2_with fail;refine ni (v:=.agg #[.int .i64 2,.string ⟨List.toArray []⟩,.slice none 0 0,.int .i64 pos]) Oc rfl ?_;exact Lu n'.out m' I I (.inr ⟨by omega,f'.out⟩) _ _ _ _
end
def aFD:(Tryz.prog.info? 59).map (fun i=>(i.zero,i.size,i.bytes))=some (some (.agg #[.int .i64 0,.string ⟨#[]⟩,.slice none 0 0,.int .i64 0]),4,56):=by kernel_rfl
structure Row (w:World) (wr:World) (F:jP) (v:Value) (l:Fr) (n:Nat) (ys:List Value):Prop where
 len:n=l.len
 enc:qY wr F l.pF ys
 low:∀b j,F b j->w.heap.size<=b/\b<wr.heap.size
 exact:∀b,v.ownBlock=some b->∀j,F b j↔j<n*4
def Row.gZ {X:ak} {F:jP} {l:Fr} {e:G av} (h:Row w W F v l g e) (q:W.heap.size<=X.heap.size) (u:∀b,w.heap.size<=b->b<W.heap.size->X.heap[b]?=W.heap[b]?):Row w X F v l g e:=
 ⟨h.len,h.enc.mono (fun b j hf=>vU (u b (h.low b j hf).1 (h.low b j hf).2)) (fun _ _ h=>h),fun b j hf=>⟨(h.low b j hf).1,lZ (h.low b j hf).2 q⟩,h.exact⟩
def Row.added {y:ak} {F F2:jP} {l:Fr} {A:G av} (h:Row w W F v l i A) {t:G dG} {kids:Fr} (c':Rd W F2 4 kids.pF m) (T:W.ownsRow w.heap.size 59 4 v i A)
 (q:∀b j,F2 b j->w.heap.size<=b/\b<W.heap.size/\v.ownBlock≠some b) {c2:Nat} (i':w.heap.size<=W.heap.size)
 (u:qz W y w.heap.size 59 4 v i A 1 [.int .i64 k,.string ⟨t.toArray⟩,m,.int .i64 o] g c2):
 ∃d',Row w y d' (.slice (some ⟨g,0,none⟩) (i+1) c2) (l.app (.cons k t kids o .nil)) (i+1) (A++[.int .i64 k,.string ⟨t.toArray⟩,m,.int .i64 o]):=by
 have e':xX F W y:=fun b j hf=>u.fix b j (h.low b j hf).2 (fun e=>(h.exact b e j).1 hf);have E:xX F2 W y:=fun b j hf=>u.fix b j (q b j hf).2.1 (fun e=>((q b j hf).2.2 e).elim);have P:=u.grown.size;refine⟨fun b j=>F b j\/F2 b j\/(b=g/\j<(i+1)*4),by rw[Fr.S9,h.len];rfl,?_,?_,?_⟩
 ·rw[Fr.afp]
  refine qY.app (e:=Fr.pF (.cons k t kids o .nil)) ?_ (h.enc.mono e' fun _ _ hf=>.inl hf);obtain⟨f',a',b'⟩:=c';exact⟨_,rfl,_,rfl,m,f',_,rfl,a'.mono E fun _ _ hf=>.inr (.inl hf),b'.mono E fun _ _ hf=>.inr (.inl hf),_,rfl,rfl⟩
 ·rintro b j (hf|hf|⟨rfl,_⟩)
  ·exact⟨(h.low b j hf).1,lZ (h.low b j hf).2 P⟩
  ·exact⟨(q b j hf).1,lZ (q b j hf).2.1 P⟩
  ·refine⟨?_,u.lt⟩
   rcases u.nG with e|⟨e,_⟩
   ·exact(T.lt b e).1
   ·omega
 ·intro b e j
  have g':g=b:=by simpa[Value.ownBlock] using e
  subst g';refine⟨fun hf=>?_,fun h'=>.inr (.inr ⟨rfl,h'⟩)⟩;rcases hf with hf|hf|hf
  ·rcases u.nG with e|⟨e,_⟩
   ·have:=(h.exact g e j).1 hf;omega
   ·have:=(h.low g j hf).2;omega
  ·rcases u.nG with e|⟨e,_⟩
   ·exact((q g j hf).2.2 e).elim
   ·have:=(q g j hf).2.1;omega
  ·exact hf.2
def ajm (s:dA) (q0 j pb:Nat) (w:ak) (e:AJ) (w':ak):Prop:=
 ∃(v:av) (n:Nat) (y:G av) (q:Nat) (fk:Int) (fo:Nat),e=.returned v/\gH w w' pb s q fk fo/\w'.ownsRow w.heap.size 59 4 v n y/\q<=65577-j/\q0<=q/\
  ((¬fk=0/\∀p (u:Stack),u.length=j->go ((bytes s).drop q0) q0 .plain ((p,.nil)::u)=.error (fk,fo))\/
   (fk=0/\fo=0/\q<=s.size/\∃l F,Row w w' F v l n y/\(j=0->∀p,go ((bytes s).drop q0) q0 .plain [(p,.nil)]=.ok l)/\
    (0<j->∃h:q<s.size,(s[q].toNat:Int)=41/\∀p (u:Stack),u.length=j->go ((bytes s).drop q0) q0 .plain ((p,.nil)::u)=go ((bytes s).drop q) q .plain ((p,l)::u))))
def Va (s:dA) (q0 h pb:Nat) (w:ak) (k:Nat) (v:av) (wr:ak):Prop:=
 ∃(n:Nat) (j:G av) (q:Nat) (fk:Int) (fo:Nat),(fk=0->k=s.size-q+1)/\gH w wr pb s q fk fo/\wr.ownsRow w.heap.size 59 4 v n j/\n<=q/\q<=65577-h/\q0<=q/\
  ((¬fk=0/\∀p (e:Stack),e.length=h->go ((bytes s).drop q0) q0 .plain ((p,.nil)::e)=.error (fk,fo))\/
   (fk=0/\fo=0/\q<=s.size/\∃l F,Row w wr F v l n j/\∀p (e:Stack),e.length=h->go ((bytes s).drop q0) q0 .plain ((p,.nil)::e)=go ((bytes s).drop q) q .plain ((p,l)::e)))
def ZE {w':ak} {n:Nat} {l:G av} {q:Nat} {fo:Nat} (u:gH w w' i A q k fo) (j:w'.ownsRow w.heap.size 59 4 v n l) (y:q<=65577-g) (E:b<=q) (F:¬k=0)
 (h:∀p (e:Stack),e.length=g->go ((bytes A).drop b) b .plain ((p,.nil)::e)=.error (k,fo)):ajm A b g i w (.returned v) w':=
 ⟨v,n,l,q,k,fo,rfl,u,j,y,E,.inl ⟨F,h⟩⟩
def DU {X:ak} {size n:Nat} {j:G av} (h:W.ownsRow w.heap.size u size v n j) (l:gH W X g A i k o) (Z:g<w.heap.size):X.ownsRow w.heap.size u size v n j:=
 Aw h fun b u=>l.other b (h.lt b u).2 (by have:=(h.lt b u).1;omega)
def Row.Pg {X:ak} {F:jP} {l:Fr} {n:Nat} {e:G av} (h:Row w W F v l n e) (j:gH W X g A i k o) (Z:g<w.heap.size):Row w X F v l n e:=
 h.gZ j.size fun b y u=>j.other b u I
attribute [local go_sem↓] P8 PZ
def Ue (c:Int) (b:aK) (h:Hid (pq c=b)) (w:ak):Calls Tryz.prog 58 #[.int .u8 c] w fun e w'=>e=.returned (.bool b)/\w'=w:=
 (ahT c w).mono fun _ _ ⟨j,l⟩=>⟨by rw[j,h.out],l.symm⟩
def XV (q:Nat):((q+1:Nat):Int)=(q:Int)+1:=by omega
def atq (e:W.heap.size=g) (a b c d:av) (t:dh):∀j u,[a,b,c,d][j]?=some u->(W.alloc (.cells #[a,b,c,d] t)).cell? ((⟨g,0,none⟩:Addr).add j)=some u:=by
 subst e;exact xS (cs:=#[a,b,c,d]) (lu W _)
def Row.rd {wr:ak} {F:jP} {l:Fr} {e:G av} (h:Row W wr F v l b e) (lI:wr.ownsRow i 59 4 v b e):Rd wr F 4 l.pF v:=by
 refine⟨e,?_,h.enc⟩;rcases lI.2 with⟨rfl,q⟩|⟨g,c,y,rfl,_,T,A,E,w,a'⟩
 ·refine .inl ⟨rfl,qx ?_⟩
  rw[lI.1,q]
 ·refine .inr ⟨g,0,b,c,rfl,A,E,lI.1,fun j u hu=>?_⟩
  have P:j<b*4:=by
   exact afZ
  rw[jW];refine⟨(h.exact g rfl j).2 P,?_⟩;have:=lI.cells (g:=g) rfl j u hu
  rwa[oH,jW] at this
def go_open_step {st:Stack} (h:b<A.size) (hc:(A[b].toNat:Int)=40) (e:st.length<=40):go ((bytes A).drop b) b .plain st=go ((bytes A).drop (b+1)) (b+1) .plain ((b,.nil)::st):=by
 have j:b<(bytes A).length:=KY;rw[go_plain j,aod (show bt (bytes A)[b]=40 from hc) e]
def go_close_step {l l':Fr} {st:Stack} (h:b<A.size) (hc:(A[b].toNat:Int)=41):go ((bytes A).drop b) b .plain ((g,l)::(i,l')::st)=go ((bytes A).drop (b+1)) (b+1) .plain ((i,l'.app (.cons 3 [] l g .nil))::st):=by
 have e:b<(bytes A).length:=KY;rw[go_plain e,an7 (show bt (bytes A)[b]=41 from hc)]
def aGu {depth pb:Nat} {aB u v':ak} {w' l':ah Addr} {n oc a' m' q1 q2 gk:Nat} {x' g':G av} {E:Int} {P:Nat} {l:Fr} {F:jP} {c2:Nat} {aC:Obj}
 (A':q1<A.size->A.size-(q1+1)+1<gk) (i0:depth<40) (t':q1<A.size) (D':(A[q1].toNat:Int)=40) (e0:n<=q1) (P':i<=q1)
 (y':gH W aB pb A (q1+1) 0 0) (b':aB.ownsRow W.heap.size 59 4 (.slice w' n oc) n x') (n':Row W aB F (.slice w' n oc) l n x')
 (E':∀p (q:Stack),q.length=depth->go ((bytes A).drop i) i .plain ((p,.nil)::q)=go ((bytes A).drop q1) q1 .plain ((p,l)::q))
 (u':gH aB u pb A q2 E P) (w:u.ownsRow aB.heap.size 59 4 (.slice l' a' m') a' g') (f0:q2<=65577-(depth+1)) (g0:q1+1<=q2)
 (o':(¬E=0/\∀p (q:Stack),q.length=depth+1->go ((bytes A).drop (q1+1)) (q1+1) .plain ((p,.nil)::q)=.error (E,P))\/
  (E=0/\P=0/\q2<=A.size/\∃p' F2,Row aB u F2 (.slice l' a' m') p' a' g'/\(depth+1=0->∀p,go ((bytes A).drop (q1+1)) (q1+1) .plain [(p,.nil)]=.ok p')/\
   (0<depth+1->∃h:q2<A.size,(A[q2].toNat:Int)=41/\∀p (q:Stack),q.length=depth+1->go ((bytes A).drop (q1+1)) (q1+1) .plain ((p,.nil)::q)=go ((bytes A).drop q2) q2 .plain ((p,p')::q))))
 (q':qz (((u.setCell ⟨pb,1,none⟩ (.int .i64 ((q2:Int)+1)))).alloc aC) v' W.heap.size 59 4 (.slice w' n oc) n x' 1 [.int .i64 3,.string ⟨#[]⟩,.slice l' a' m',.int .i64 q1] g c2):
 ∃k',k'<gk/\Va A i depth pb W k' (.slice (some ⟨g,0,none⟩) (n+1) c2) v':=by
 have lp:=y'.lp;have h0:=y'.size;have c':gH W (((u.setCell ⟨pb,1,none⟩ (.int .i64 ((q2:Int)+1)))).alloc aC) pb A (q2+1) E P:=by
  have:=((y'.trans u').setPos (q2+1)).alloc aC
  rwa[rW] at this
 have T:gH aB (((u.setCell ⟨pb,1,none⟩ (.int .i64 ((q2:Int)+1)))).alloc aC) pb A (q2+1) E P:=by
  have:=(u'.setPos (q2+1)).alloc aC
  rwa[rW] at this
 have d':=DU b' T lp;have e':gH W v' pb A (q2+1) E P:=c'.grown q'.grown (fun k e=>(d'.lt k e).1);have f':∀p (q:Stack),q.length=depth->go ((bytes A).drop i) i .plain ((p,.nil)::q)=go ((bytes A).drop (q1+1)) (q1+1) .plain ((q1,.nil)::(p,l)::q):=fun p q h=>by
  rw[E' p q h,go_open_step t' D' gJ]
 have T':=A' t';rcases o' with⟨hf,W'⟩|⟨rfl,rfl,X',p',F2,r',_,h'⟩
 ·exact⟨0,by omega,n+1,_,q2+1,E,P,fun h=>absurd h hf,e',q'.own,by omega,by omega,by omega,.inl ⟨hf,fun p q h=>by rw[f' p q h,W' q1 ((p,l)::q) (by simp[h])]⟩⟩
 ·obtain⟨z',F',h'⟩:=h' I
  have i':∀b,aB.heap.size<=b->b<u.heap.size->(((u.setCell ⟨pb,1,none⟩ (.int .i64 ((q2:Int)+1)))).alloc aC).heap[b]?=u.heap[b]?:=fun b a0 L'=>by
   rw[jV _ _ _ (by rw[(tL u _ _).1];exact L'),jF I]
  have M':u.heap.size<=(((u.setCell ⟨pb,1,none⟩ (.int .i64 ((q2:Int)+1)))).alloc aC).heap.size:=by rw[Md,(tL u _ _).1];omega
  have y:=r'.gZ M' i';have j':(((u.setCell ⟨pb,1,none⟩ (.int .i64 ((q2:Int)+1)))).alloc aC).ownsRow aB.heap.size 59 4 (.slice l' a' m') a' g':=Aw w fun b e=>i' b (w.lt b e).1 (w.lt b e).2;obtain⟨b0,s'⟩:=(n'.Pg T lp).added (k:=3) (o:=q1) (t:=[]) (y.rd j') d' (fun b j hf=>⟨by have:=(y.low b j hf).1;omega,(y.low b j hf).2,fun e=>by have a0:=(b'.lt b e).2;have L':=(y.low b j hf).1;omega⟩) c'.size q'
  exact⟨A.size-(q2+1)+1,by omega,n+1,_,q2+1,0,0,fun _=>rfl,e',q'.own,by omega,by omega,by omega,.inr ⟨rfl,rfl,by omega,_,b0,s',fun p q h=>by rw[f' p q h,h' q1 ((p,l)::q) (by simp[h]),go_close_step z' F']⟩⟩
def Qi (s:dA) (q1 q2:Nat) (k:Int) (t:G dG) (e:Int) (h:Nat):Prop:=
 (e=0/\h=0/\∀st,go ((bytes s).drop q1) q1 .plain st=go ((bytes s).drop q2) q2 .plain (addTop k t .nil q1 st))\/(¬e=0/\∀st,go ((bytes s).drop q1) q1 .plain st=.error (e,h))
def Tn {pb:Nat} {fB b':ak} {c':ah Addr} {n oc q1 q2 gk:Nat} {d':G av} {q:Int} {u:Nat} {l:Fr} {F:jP} {c2:Nat} {t:G dG}
 (m':A.size-(q1+1)+1<gk) (q':A.size<=65536) (r':i<=40) (n':q1<A.size) (o':n<=q1) (h':b<=q1) (p':q1<q2) (e':q2<=A.size)
 (g':gH W fB pb A q2 q u) (E:fB.ownsRow W.heap.size 59 4 (.slice c' n oc) n d') (f':Row W fB F (.slice c' n oc) l n d')
 (a':∀p (j:Stack),j.length=i->go ((bytes A).drop b) b .plain ((p,.nil)::j)=go ((bytes A).drop q1) q1 .plain ((p,l)::j))
 (P:Qi A q1 q2 k t q u)
 (T:qz fB b' W.heap.size 59 4 (.slice c' n oc) n d' 1 [.int .i64 k,.string ⟨t.toArray⟩,.slice none 0 0,.int .i64 q1] g c2):
 ∃k',k'<gk/\Va A b i pb W k' (.slice (some ⟨g,0,none⟩) (n+1) c2) b':=by
 have y:gH W b' pb A q2 q u:=g'.grown T.grown (fun k e=>(E.lt k e).1);rcases P with⟨rfl,rfl,i'⟩|⟨hf,j'⟩
 ·obtain⟨l',w⟩:=f'.added (k:=k) (o:=q1) (t:=t) (kids:=.nil) (F2:=fun _ _=>False) (Rd.nil _ _ _) E (fun _ _ h=>h.elim) g'.size T
  exact⟨A.size-q2+1,by omega,n+1,_,q2,0,0,fun _=>rfl,y,T.own,by omega,by omega,by omega,.inr ⟨rfl,rfl,e',_,l',w,fun p j h=>by rw[a' p j h,i'];rfl⟩⟩
 ·exact⟨0,by omega,n+1,_,q2,q,u,fun h=>absurd h hf,y,T.own,by omega,by omega,by omega,.inl ⟨hf,fun p j h=>by rw[a' p j h,j']⟩⟩
def aGt {j:ak} {n q1 gk:Nat} {E:G av} {l:Fr}
 (F:0<gk) (b':A.size<=65536) (c':g<=40) (a':q1<A.size) (P:n<=q1) (q:b<=q1) (w:gH W j i A q1 2 q1) (u:j.ownsRow W.heap.size 59 4 v n E)
 (T:∀p (e:Stack),e.length=g->go ((bytes A).drop b) b .plain ((p,.nil)::e)=go ((bytes A).drop q1) q1 .plain ((p,l)::e)) (y:∀st,go ((bytes A).drop q1) q1 .plain st=.error (2,q1)):
 ∃k',k'<gk/\Va A b g i W k' v j:=
 ⟨0,F,n,E,q1,2,q1,fun h=>absurd h I,w,u,P,by omega,q,.inl ⟨by omega,fun p e h=>by rw[T p e h,y]⟩⟩
def axe (s:dA) (q1 pb:Nat) (w:ak) (k:Nat) (wr:ak):Prop:=
 ∃q,k=s.size-q/\gH w wr pb s q 0 0/\q1<=q/\q<=s.size/\∀st,go ((bytes s).drop q1) q1 .plain st=go ((bytes s).drop q) q (.word q1 (piece s q1 q)) st
def abF (depth:Nat):Prop:=∀(w:ak) (pb:Nat) (s:dA) (q0:Nat),w.heap[pb]?=some (.cells #[.string s,.int .i64 q0,.int .i64 0,.int .i64 0] 92 (0,0))->s.size<=65536->q0<=s.size->
 Calls Tryz.prog 35 #[.pointer (some ⟨pb,0,none⟩),.int .i64 depth] w (ajm s q0 depth pb w)
section
variable {w:ak} {pb:Nat} {s:dA} {q0 depth:Nat}
def att (hd:depth<=40) (b1:depth<40->abF (depth+1)):abF depth:=by
 intro w pb s q0 h hs A1;have P0:=gH.start h;have lp:=P0.lp;have HL:=Q P0;have D1:=Q b1;clear h P0 b1;obtain⟨ti,u0,v0,w0,x0⟩:=Qe aFD;have Mj:=Q v0;have Ml:=Q w0;have Mq:=Q x0;have Mi:=Q u0;clear v0 w0 x0 u0;have d0:(0:Int)<=(depth:Int):=I;go_enter Tryz.func35,Tryz.ntmps35;go_wp2_with fail;go_loopg [5] (s.size-q0+1) (fun k v wr=>Va s q0 depth pb w k v wr)
 case atStart=>exact⟨0,[],q0,0,0,fun _=>rfl,HL.out,Qd _ _ _ _,gK _,by omega,bq _,.inr ⟨rfl,rfl,A1,.nil,fun _ _=>False,⟨rfl,rfl,fun _ _ h=>h.elim,fun b e=>by simp[Value.ownBlock] at e⟩,fun _ _ _=>rfl⟩⟩
 case round=>
  obtain⟨n,ys,q,fk,fo,z',b',c',k2,e1,f1,k0⟩:=hrel;obtain⟨oa,oc,g1⟩:=JI c';subst g1;have p2:=b'.p2;rcases k0 with⟨hf,n'⟩|⟨rfl,rfl,h1,l,F,A',n'⟩
  ·have gf:=nK hf
   have D':=Q b';have l0:=Q c';have m0:=Q n';have o0:=Q hf;clear z' b' c' n' hf;go_wp2_with fail;go_ret;exact ZE D'.out l0.out e1 f1 o0.out m0.out
  ·have z':=z' rfl
   have D':=Q b';have l0:=Q c';have m0:=Q n';have o0:=Q A';have E':=Q z';clear b' c' n' A' z';go_wp2_with fail;refine(aNj D'.out.head hs h1).mono ?_;rintro e l' ⟨rfl,q1,t',l2,q',F',A0⟩;have y:=Q (D'.out.trans t');have h':=Q (DU l0.out t' lp);have B3:Hid (∀p (E:Stack),E.length=depth->go ((bytes s).drop q0) q0 .plain ((p,.nil)::E)=go ((bytes s).drop q1) q1 .plain ((p,l)::E)):=fun p E h=>(m0.out p E h).trans (A0 _);have v':=Q (o0.out.Pg t' lp);have E1:=Q F';have F1:=y.out.p0;have L1:=y.out.p1;have M1:=y.out.p2;have P1:=y.out.pf 1;clear D' l0 m0 o0 t' A0 F' p2;have o2:(0:Int)<=(q1:Int):=I
   by_cases r':q1=s.size
   ·have T1:((q1:Int)==(s.size:Int))=true:=pz I
    have r0:=Q r';clear r'
    by_cases A:depth=0
    ·have L':¬(0:Int)<(depth:Int):=by omega
     have x':=Q A;clear A;go_wp2_with fail;go_quiet (fail);rename Nat=>j
     go_wp2_with fail;go_ret;refine⟨_,n,ys,q1,0,0,rfl,y.out.drewN j,h'.out,by omega,by omega,.inr ⟨rfl,rfl,q',l,F,v'.out.gZ (bq _) (fun _ _ _=>rfl),fun _ p=>?_,fun h=>by have:=x'.out;omega⟩⟩
     rw[B3.out p [] (by rw[x'.out];rfl),go_end (by rw[jX,r0.out];exact bq _)]
     rfl
    ·have L':(0:Int)<(depth:Int):=by omega
     go_wp2_with fail;go_quiet (fail);rename Nat=>j
     go_wp2_with fail;refine(DY (y.out.drewN (j)).head _ _).mono ?_;rintro e d' ⟨rfl,hf⟩;have M':=Q ((y.out.drewN (j)).trans hf);have P':=Q (DU ((show(l'.drewN (j)).ownsRow w.heap.size 59 4 (.slice oa n oc) n ys from h'.out)) hf lp)
     clear hf;go_wp2_with fail;go_ret;exact ZE M'.out P'.out I I I (fun p E h=>by rw[B3.out p E h,go_end (by rw[jX,r0.out];exact bq _),apv (by rw[gD];omega)])
   have T1:((q1:Int)==(s.size:Int))=false:=nK I;have hlt:q1<s.size:=I;have r2:(q1:Int)<(s.size:Int):=I;have e':q1<(bytes s).length:=Dk;clear r'
   by_cases T:(s[q1].toNat:Int)=41
   ·have i1:=pz T
    have D0:=Q T;clear T
    by_cases A:depth=0
    ·have L':((depth:Int)==0)=true:=pz I
     have x':=Q A;clear A;go_wp2_with fail;go_quiet (fail);rename Nat=>j
     go_wp2_with fail;go_quiet (fail);rename Nat=>u
     go_wp2_with fail;refine(DY (y.out.drewN (j+u)).head _ _).mono ?_;rintro e d' ⟨rfl,hf⟩;have M':=Q ((y.out.drewN (j+u)).trans hf);have P':=Q (DU ((show(l'.drewN (j+u)).ownsRow w.heap.size 59 4 (.slice oa n oc) n ys from h'.out)) hf lp)
     clear hf;go_wp2_with fail;go_ret;exact ZE M'.out P'.out I I I (fun p E h=>by rw[B3.out p E h,go_plain e'];have m2:=x'.out;have:E=[]:=qx I;rw[this,aob (show bt (bytes s)[q1]=41 from D0.out)])
    ·have L':((depth:Int)==0)=false:=nK I
     go_wp2_with fail;go_quiet (fail);rename Nat=>j
     go_wp2_with fail;go_quiet (fail);rename Nat=>u
     go_wp2_with fail;go_ret;exact⟨_,n,ys,q1,0,0,rfl,y.out.drewN (j+u),h'.out,by omega,by omega,.inr ⟨rfl,rfl,q',l,F,v'.out.gZ (bq _) (fun _ _ _=>rfl),fun h=>absurd h A,fun _=>⟨hlt,D0.out,B3.out⟩⟩⟩
   have i1:=nK T
   by_cases a':(s[q1].toNat:Int)=40
   ·have j1:=pz a'
    have E0:=Q a';clear a' T
    by_cases A:depth=40
    ·have L':((depth:Int)==40)=true:=pz I
     have x':=Q A;clear A;go_wp2_with fail;go_quiet (fail);rename Nat=>j
     go_wp2_with fail;go_quiet (fail);rename Nat=>u
     go_wp2_with fail;refine(DY (y.out.drewN (j+u)).head _ _).mono ?_;rintro e d' ⟨rfl,hf⟩;have M':=Q ((y.out.drewN (j+u)).trans hf);have P':=Q (DU ((show(l'.drewN (j+u)).ownsRow w.heap.size 59 4 (.slice oa n oc) n ys from h'.out)) hf lp)
     clear hf;go_wp2_with fail;go_ret;exact ZE M'.out P'.out I I I (fun p E h=>by rw[B3.out p E h,go_plain e',an9 (show bt (bytes s)[q1]=40 from E0.out) (by have:=x'.out;simp;omega)])
    ·have L':((depth:Int)==40)=false:=nK I
     go_wp2_with fail;go_quiet (fail);rename Nat=>j
     go_wp2_with fail;go_quiet (fail);rename Nat=>u
     go_wp2_with fail;have u':=(y.out.drewN (j+u)).setPos (q1+1);rw[XV] at u';obtain⟨aB,i'⟩:∃aB,(l'.drewN (j+u)).setCell ⟨pb,1,none⟩ (.int .i64 ((q1:Int)+1))=aB:=⟨_,rfl⟩;have T':gH l' aB pb s (q1+1) 0 0:=by
      have:=(y.out.again.drewN (j+u)).setPos (q1+1);rw[XV] at this;rw[<-i'];exact this
     rw[i'] at u';rw[i'];have W':=Q u';have D2:=Q (DU h'.out T' lp);have W1:=Q (v'.out.Pg T' lp);have X':=D1.out I aB pb s (q1+1) W'.out.head hs I;rw[XV] at X';clear u' T' i';refine uW X' ?_;rintro e d' ⟨s2,X1,n2,q2,k1,l1,rfl,W,m',m1,o1,P⟩;obtain⟨a2,b2,r1⟩:=JI m';subst r1;have t1:=W.p1;have u2:=W.pf 1;have a0:=Q W;have t0:=Q m';have T0:=Q P;have b0:((d'.setCell ⟨pb,1,none⟩ (.int .i64 ((q2:Int)+1)))).heap.size=d'.heap.size:=(tL d' _ _).1;have F0:=Q b0;have d2:w.heap.size<=d'.heap.size:=fF W'.out.size W.size;clear X' W m' P b0;have e2:Hid ((d'.setCell ⟨pb,1,none⟩ (.int .i64 ((q2:Int)+1))).ownsRow w.heap.size 59 4 (.slice oa n oc) n ys):=by
      have:=DU D2.out (a0.out.setPos (q2+1)) lp
      rwa[XV] at this
     go_wp2_with (at_builtin;refine FL _ rfl _ _ 52 rfl w.heap.size 59 ti _ 4 56 Qc Mi.out Mj.out Ml.out Mq.out rfl I (.slice oa n oc) n ys rfl (Ej e2.out _) ⟨d'.heap.size,0,none⟩ 1 1 [.int .i64 3,.string ⟨#[]⟩,.slice a2 X1 b2,.int .i64 q1] rfl rfl ?c1 ?c2 ?c3 ?c4 ?c5 ?c6 ?_)
     case c1=>exact atq F0.out _ _ _ _ _
     case c2=>simp[Value.oneCell']
     case c3=>omega
     case c4=>unfold maxLen;omega
     case c5=>omega
     case c6=>rw[Md,F0.out];omega
     intro g c2 u1 hA;obtain⟨k',yC,xw⟩:=aGu (gk:=gk) (fun _=>by have:=E'.out;omega) I hlt E0.out I I W'.out D2.out W1.out B3.out a0.out t0.out m1 o1 T0.out hA
     exact afK
   have j1:=nK a';have f2:0<gk:=by have:=E'.out;omega
   by_cases f':(s[q1].toNat:Int)=34
   ·have v1:=pz f'
    have w1:=Q f';clear f' a' T;go_wp2_with fail;go_quiet (fail);rename Nat=>j
    go_wp2_with fail;go_quiet (fail);rename Nat=>u
    go_wp2_with fail;refine(aMR (y.out.drewN (j+u)).head hs hlt w1.out).mono ?_;rintro e d' ⟨q2,k1,l1,t,rfl,W,W0,X0,P⟩;have x1:=((y.out.drewN (j+u)).trans W).alloc (.cells #[.int .i64 2,.string ⟨t.toArray⟩,.slice none 0 0,.int .i64 q1] 59);have s':=W.alloc (.cells #[.int .i64 2,.string ⟨t.toArray⟩,.slice none 0 0,.int .i64 q1] 59);have a0:=Q x1;have t0:=Q (DU (show(l'.drewN (j+u)).ownsRow w.heap.size 59 4 (.slice oa n oc) n ys from h'.out) s' lp)
    have g2:=Q ((v'.out.gZ (X:=l'.drewN (j+u)) (bq _) (fun _ _ _=>rfl)).Pg s' lp);have T0:=Q P;clear W x1 s' P;go_wp2_with (at_builtin;refine FL _ rfl _ _ 52 rfl w.heap.size 59 ti _ 4 56 Qc Mi.out Mj.out Ml.out Mq.out rfl I (.slice oa n oc) n ys rfl t0.out ⟨d'.heap.size,0,none⟩ 1 1 [.int .i64 2,.string ⟨t.toArray⟩,.slice none 0 0,.int .i64 q1] rfl rfl ?c1 ?c2 ?c3 ?c4 ?c5 ?c6 ?_)
    case c1=>exact atq rfl _ _ _ _ _
    case c2=>simp[Value.oneCell']
    case c3=>omega
    case c4=>unfold maxLen;omega
    case c5=>omega
    case c6=>exact a0.out.size
    intro g c2 u1 hA;obtain⟨k',yC,xw⟩:=Tn (gk:=gk) (by have:=E'.out;omega) hs hd hlt I I W0 X0 a0.out t0.out g2.out B3.out T0.out hA
    exact afK
   have v1:=nK f';cases hw:pq (s[q1].toNat:Int)
   ·have r0:Hid (∀st,go ((bytes s).drop q1) q1 .plain st=.error (2,q1)):=fun st=>by
     have e0:=E1.out hlt;rw[go_plain e',an6 (c:=(bytes s)[q1]) hw e0.1 e0.2.1 e0.2.2 a' T f']
    have y':=Q hw;clear f' a' T hw;go_wp2_with fail;go_quiet (fail);rename Nat=>j
    go_wp2_with fail;go_quiet (fail);rename Nat=>u
    go_wp2_with fail;refine(Ue _ _ y' _).mono ?_;rintro e w' ⟨rfl,rfl⟩;go_wp2_with fail;refine(DY (y.out.drewN (j+u)).head _ _).mono ?_;rintro e u1 ⟨rfl,hf⟩;have hA:True:=trivial;obtain⟨k',yC,xw⟩:=aGt (gk:=gk) f2 hs hd hlt I I ((y.out.drewN (j+u)).trans hf) (DU (show(l'.drewN (j+u)).ownsRow w.heap.size 59 4 (.slice oa n oc) n ys from h'.out) hf lp) B3.out r0.out
    exact afK
   have y':=Q hw;clear f' a' T hw;go_wp2_with fail;go_quiet (fail);rename Nat=>j
   go_wp2_with fail;go_quiet (fail);rename Nat=>u
   go_wp2_with fail;refine(Ue _ _ y' _).mono ?_;rintro e w' ⟨rfl,rfl⟩;go_wp2_with fail;obtain⟨g0,f0⟩:∃g:Nat,g=gk:=⟨_,rfl⟩;have A5':Hid (g0=s.size-q+1):=by have:=E'.out;exact f0.trans this
   have U9:=Q f0;obtain⟨aB,i'⟩:∃aB,l'.drewN (j+u)=aB:=⟨_,rfl⟩;rw[i'];have VL:Hid (gH w aB pb s q1 0 0):=by rw[<-i'];exact y.out.drewN (j+u)
   have VO:Hid (aB.ownsRow w.heap.size 59 4 (.slice oa n oc) n ys):=by rw[<-i'];exact h'.out
   have VR:Hid (Row w aB F (.slice oa n oc) l n ys):=by rw[<-i'];exact v'.out.gZ (bq _) (fun _ _ _=>rfl)
   have h2:Hid (∀st,go ((bytes s).drop q1) q1 .plain st=go ((bytes s).drop q1) q1 (.word q1 (piece s q1 q1)) st):=fun st=>by
    rw[go_plain e',aog (show pq (bt (bytes s)[q1])=true from y'.out),atF,go_word_more q1 [] e' y'.out]
    rfl
   clear f0 i' E' y h' v' F1 L1 M1 P1;go_loopg [] (s.size-q1) (fun k wr=>axe s q1 pb aB k wr)
   case atStart=>exact⟨q1,rfl,VL.out.again,bq _,q',h2.out⟩
   case round=>
    obtain⟨q3,L0,o',M0,JA,h0⟩:=hrel;have s0:=o'.p0;have s1:=o'.p1;have sf:=o'.pf 1;have v2:(0:Int)<=(q3:Int):=I;have W':=Q L0;have D2:=Q o';have i0:=Q h0;clear L0 o' h0
    by_cases j0:q3<s.size
    ·have i2:(q3:Int)<(s.size:Int):=by omega
     cases hw3:pq (s[q3].toNat:Int)
     ·have SB:q1<q3:=by
       rcases ai3 M0 with h|h
       ·exact h
       ·subst h;have:=y'.out;exact Bool.noConfusion (this.symm.trans hw3)
      have j':=Q hw3;clear hw3;have p':Hid (∀h:q3<s.size,pq (s[q3].toNat:Int)=false):=fun _=>j'.out
      by_cases g':q3-q1<=24
      ·have a1:¬(24:Int)<(q3:Int)-(q1:Int):=by omega
       have HC:Hid (Qi s q1 q3 1 (piece s q1 q3) 0 0):=.inl ⟨rfl,rfl,fun st=>(i0.out st).trans ((PU JA p'.out rfl).2 g').symm⟩;go_wp2_with fail;go_quiet ((go_at_call 58;exact Io (Ue _ _ j' _)));exact apW
      ·have a1:(24:Int)<(q3:Int)-(q1:Int):=by omega
       have HC:Hid (Qi s q1 q3 1 (piece s q1 q3) 4 q1):=.inr ⟨by omega,fun st=>(i0.out st).trans ((PU JA p'.out rfl).1 g')⟩
       go_wp2_with fail;go_quiet ((go_at_call 58;exact Io (Ue _ _ j' _)));exact arL
     ·have j':=Q hw3
      clear hw3;go_wp2_with fail;go_quiet ((go_at_call 58;exact Io (Ue _ _ j' _)));rename Nat=>j2
      go_wp2_with fail;go_roundg (s.size-(q3+1))
      case measure=>have:=W'.out;omega
      case rel=>exact⟨q3+1,rfl,(D2.out.drewN j2).setPos (q3+1),by omega,by omega,fun st=>(i0.out st).trans (go_word_step j0 M0 j'.out)⟩
    ·have i2:decide (q3<s.size)=false:=by simp;omega
     have SB:q1<q3:=I;have p':Hid (∀h:q3<s.size,pq (s[q3].toNat:Int)=false):=fun h=>absurd h j0
     by_cases g':q3-q1<=24
     ·have a1:¬(24:Int)<(q3:Int)-(q1:Int):=by omega
      have HC:Hid (Qi s q1 q3 1 (piece s q1 q3) 0 0):=.inl ⟨rfl,rfl,fun st=>(i0.out st).trans ((PU JA p'.out rfl).2 g').symm⟩;go_wp2_with fail;go_quiet (fail);exact apW
     ·have a1:(24:Int)<(q3:Int)-(q1:Int):=by omega
      have HC:Hid (Qi s q1 q3 1 (piece s q1 q3) 4 q1):=.inr ⟨by omega,fun st=>(i0.out st).trans ((PU JA p'.out rfl).1 g')⟩
      go_wp2_with fail;go_quiet (fail);exact arL
def aGF (m:Nat):∀depth,depth+m=40->abF depth:=by
 induction m with
 |zero=>exact fun d h=>att I (fun j=>by omega)
 |succ m e=>exact fun d h=>att I (fun _=>e (d+1) I)
end
end
end
end Go.Proofs.YtdjcfaaongngeaaGreatDoor

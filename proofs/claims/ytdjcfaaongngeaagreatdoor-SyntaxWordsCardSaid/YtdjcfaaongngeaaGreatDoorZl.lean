/- A part of the proof: see the last text. -/
import Derived.Test.YtdjcfaaongngeaaGreatDoorZi
import Derived.Test.YtdjcfaaongngeaaGreatDoorZj
set_option linter.all false
set_option maxRecDepth 100000
set_option maxHeartbeats 0
namespace Go.Proofs.YtdjcfaaongngeaaGreatDoor
noncomputable section
variable {b i:Nat}{k:Int}{A:dA}
section
open Go.RowKit
def aBX {l:G dG} (h:bytes A=l):A=⟨l.toArray⟩:=by
 rw[<-h];simp[bytes]
def aCB (l:G dG):bytes ⟨l.toArray⟩=l:=by simp[bytes]
def aBW (h:bytes A≠[]):A.toList.isEmpty=false:=by
 rw[aiO];cases hb:A.data.toList with
 |nil=>exact absurd hb h
 |cons=>rfl
def Yi (args:dF av) (w:ak):(callFunc 74 args).run Tryz.prog w=.ok (.enter 74 args) w:=by kernel_rfl
def Zy (s:dA):dA:=⟨(lD (bytes s)).toArray⟩
def aNX (s:dA):(⟨(Lib.trimPrefix s.data.toList (⟨#[45]⟩:dA).data.toList).toArray⟩:dA)=Zy s:=by
 unfold Zy bytes
 congr 2
 cases h:s.data.toList with
 |nil=>rfl
 |cons c r=>
  rw[O8]
  by_cases hc:c=45
  ·subst hc;simp[Lib.trimPrefix,Lib.hasPrefix]
  ·simp[Lib.trimPrefix,Lib.hasPrefix,hc,nJ hc]
def aCA (s:dA):bytes (Zy s)=lD (bytes s):=aCB _
def og (s:G dG):av:=match vN s with
 |some v=>.tuple #[.int .i64 v,.bool true]
 |none=>.tuple #[.int .i64 0,.bool false]
def ajj (w:ak):Prop:=∃e,w.cell? ⟨6,0,none⟩=some e/\(e=.nilIface\/∃h j,e=.iface h j)
def aHd (s:dA) (n':s.size<=281474976710656) (w:ak) (E:ajj w):
 Calls Tryz.prog 109 #[.string s] w fun e w'=>e=.returned (og (bytes s))/\Below w.heap.size w w':=by
 have o':=Q E;clear E;obtain⟨D,f'⟩:∃D,Zy s=D:=⟨_,rfl⟩;have l:Hid (bytes D=lD (bytes s)):=by rw[<-f'];exact aCA s
 have F:Hid (∀w:ak,Calls Tryz.prog 130 #[.string s,.string ⟨#[45]⟩] w fun e w'=>e=.returned (.string D)/\w'=w):=by
  intro w;have:=Tryz.strings_TrimPrefix s ⟨#[45]⟩ w
  rwa[aNX,f'] at this
 have A:D.size<=9223372036854775807:=by
  rw[<-jX,l.out];have P:(lD (bytes s)).length<=(bytes s).length:=by
   cases bytes s with
   |nil=>exact bq _
   |cons c r=>rw[O8];split<;>simp
  rw[jX] at P;omega
 clear f'
 by_cases h0:D.size=0
 ·have j:bytes D=[]:=qx Yw
  have h':D=⟨#[]⟩:=aBX (by rw[j])
  have q:Hid (og (bytes s)=.tuple #[.int .i64 0,.bool false]):=by
   have:vN (bytes s)=none:=by rw[vN,KM,<-l.out,j];rfl
   show _=_;rw[og,this]
  subst h';go_enter UL,UN;go_wp2_with fail;refine(F.out _).mono ?_;rintro e w' ⟨rfl,rfl⟩;go_wp2_with fail;go_ret2;exact⟨q.out.symm▸rfl,iN _ _⟩
 ·have p':0<D.size:=by omega
  have u':(0:Int)<(D.size:Int):=I;have v':D.toList.isEmpty=false:=aBW (by intro e;have:=jX D;rw[e] at this;simp at this;omega)
  have a':Hid (∃r,bytes D=D[0]::r):=by
   show∃r,_;cases j:bytes D with
   |nil=>have:=jX D;rw[j] at this;simp at this;omega
   |cons c r=>
    have P:(bytes D)[0]'(by rw[j];simp)=c:=by simp[j]
    exact⟨r,by rw[<-P];rfl⟩
  cases hall:jR jJ (bytes D)
  ·have u:=Q hall
   have q:Hid (og (bytes s)=.tuple #[.int .i64 0,.bool false]):=by
    have:vN (bytes s)=none:=by rw[vN,KM,<-l.out,hall];simp
    show _=_;rw[og,this]
   clear hall;go_enter UL,UN;go_wp2_with fail;refine(F.out _).mono ?_;rintro e w' ⟨rfl,rfl⟩;go_wp2_with fail;refine(RP D A _ jJ Yi RJ _).mono ?_;rintro e w' ⟨rfl,rfl⟩;rw[u.out];go_wp2_with fail;go_ret2;exact⟨q.out.symm▸rfl,iN _ _⟩
  ·have u:=Q hall
   clear hall;have b':(s.toList==[48])=(bytes s==[48]):=by rw[aiO];rfl
   have i':Hid (KM (bytes s)=!(((D[0].toNat:Int)==48)&&!(s.toList==[48]))):=by
    show _=_;obtain⟨r,U⟩:=a'.out;have e1:(some D[0]==some (48:dG))=((D[0].toNat:Int)==48):=by
     have g':∀c:dG,(some c==some (48:dG))=((c.toNat:Int)==48):=by
      intro c
      by_cases h:c=48
      ·subst h;rfl
      ·have q':¬(c.toNat:Int)=48:=fun e=>h (by have r':c.toNat=48:=I;have:=UW (x:=c);rw[r'] at this;exact this.symm)
       rw[nK q']
       simpa using h
     exact g' _
    rw[KM,<-l.out,u.out,U,b',<-e1]
    rfl
   clear b'
   by_cases y:(((D[0].toNat:Int)==48)&&!(s.toList==[48]))=true
   ·have q:Hid (og (bytes s)=.tuple #[.int .i64 0,.bool false]):=by
     have:vN (bytes s)=none:=by rw[vN,i'.out,y];simp
     show _=_;rw[og,this]
    obtain⟨q0,q1⟩:((D[0].toNat:Int)==48)=true/\(s.toList==[48])=false:=by simpa using y
    clear y;go_enter UL,UN;go_wp2_with fail;refine(F.out _).mono ?_;rintro e w' ⟨rfl,rfl⟩;go_wp2_with fail;refine(RP D A _ jJ Yi RJ _).mono ?_;rintro e w' ⟨rfl,rfl⟩;rw[u.out];go_wp2_with fail;go_ret2;exact⟨q.out.symm▸rfl,iN _ _⟩
   ·have j':lD (bytes s)≠[]:=by obtain⟨r,U⟩:=a'.out;rw[<-l.out,U];simp
    have HP:=Q (aG6 j' (aev.1 (l.out▸u.out)));have c':Hid (KM (bytes s)=true):=by show _=_;rw[i'.out,Bool.eq_false_iff.2 y];rfl
    have d':((D[0].toNat:Int)==48)=false\/(((D[0].toNat:Int)==48)=true/\(s.toList==[48])=true):=by
     cases P:((D[0].toNat:Int)==48)
     ·exact .inl rfl
     ·cases g':(s.toList==[48])
      ·rw[P,g'] at y;simp at y
      ·exact .inr ⟨rfl,rfl⟩
    clear y j'
    by_cases hR:gL 0 (lD (bytes s))<9223372036854775808\/(Au (bytes s)=true/\gL 0 (lD (bytes s))=9223372036854775808)
    ·obtain⟨v,E⟩:∃v,signed (bytes s) (gL 0 (lD (bytes s)))=v:=⟨_,rfl⟩
     have T:Hid (Lib.parseIntB 64 s.data.toList=.ok v):=by have:=HP.out;rw[bK hR,E] at this;exact this
     have q:Hid (og (bytes s)=.tuple #[.int .i64 v,.bool true]):=by
      have:vN (bytes s)=some v:=by rw[vN,c'.out,bK rfl,bK hR,E]
      show _=_;rw[og,this]
     clear hR E;rcases d' with q0|⟨q0,q1⟩<;>
     (go_enter UL,UN
      go_wp2_with fail;refine(F.out _).mono ?_;rintro e w' ⟨rfl,rfl⟩;go_wp2_with fail;refine(RP D A _ jJ Yi RJ _).mono ?_;rintro e w' ⟨rfl,rfl⟩;rw[u.out];go_wp2_with fail;refine(Tryz.strconv_ParseInt_10_at64_ok s I v T.out _).mono ?_;rintro e k' ⟨rfl,l'⟩;have j:Below w'.heap.size w' k':=by
       rcases l' with rfl|⟨t,rfl⟩
       ·exact iN _ _
       ·exact Lib.bytesWorld_below _ _ _
      clear l';go_wp2_with fail;go_ret2;exact⟨q.out.symm▸rfl,j⟩)
    ·have T:Hid (Lib.parseIntB 64 s.data.toList=.range):=by have:=HP.out;rw[bB hR] at this;exact this
     have q:Hid (og (bytes s)=.tuple #[.int .i64 0,.bool false]):=by
      have:vN (bytes s)=none:=by rw[vN,c'.out,bK rfl,bB hR]
      show _=_;rw[og,this]
     clear hR;obtain⟨s',e',W⟩:=o'.out;have t':=Q e';have m':=Q W;clear e' W;rcases d' with q0|⟨q0,q1⟩<;>
     (go_enter UL,UN
      go_wp2_with fail;refine(F.out _).mono ?_;rintro e w' ⟨rfl,rfl⟩;go_wp2_with fail;refine(RP D A _ jJ Yi RJ _).mono ?_;rintro e w' ⟨rfl,rfl⟩;rw[u.out];go_wp2_with fail;refine(Tryz.strconv_ParseInt_10_at64_range s n' T.out s' _ t'.out m'.out).mono ?_;rintro e k' ⟨u_,rfl,x',_,j⟩;go_wp2_with fail;go_ret2;exact⟨q.out.symm▸rfl,j⟩)
def wrap_i64 {z:Int} (h:-9223372036854775808<=z) (e:z<=9223372036854775807):IntKind.i64.wrap z=z:=by rw[IntKind.wrap_i64];omega
def aMh (s:dA) (d':s.size<=9223372036854775807) (w:ak):Calls Tryz.prog 89 #[.string s] w fun e w'=>e=.returned (.bool (isIdent (bytes s)))/\w=w':=by
 by_cases h0:s.size=0
 ·have h:bytes s=[]:=qx Yw
  have E:(s.size:Int)<1:=I;have u:Hid (isIdent (bytes s)=false):=by show _=_;rw[h];rfl
  go_enter Tryz.func89,abg;go_wp2_with fail;go_ret;exact⟨by rw[u.out];rfl,rfl⟩
 ·have F:0<s.size:=by omega
  have E:¬(s.size:Int)<1:=I;have b':(0:Int)<(s.size:Int):=I;have HE:Hid (isIdent (bytes s)=(decide (s.size<=24)&&zx (s[0].toNat:Int)&&jR wF (bytes s))):=by
   show _=_;cases h:bytes s with
   |nil=>have:=jX s;rw[h] at this;simp at this;omega
   |cons c r=>
    have hc:s[0]=c:=by
     have P:(bytes s)[0]'(by rw[h];simp)=c:=by simp[h]
     exact P
    rw[isIdent,hc,<-jX,h]
    rfl
  by_cases q:s.size<=24
  ·have T:¬(24:Int)<(s.size:Int):=by omega
   cases hlet:zx (s[0].toNat:Int)
   ·have HL:=Q hlet
    clear hlet;go_enter Tryz.func89,abg;go_wp2_with fail;refine(ahS _ _).mono ?_;rintro e w' ⟨rfl,rfl⟩;rw[HL.out];exact aqg
   ·have HL:=Q hlet
    clear hlet;have HE2:Hid (isIdent (bytes s)=jR wF (bytes s)):=by show _=_;rw[HE.out,HL.out,U0 q];rfl
    clear HE;go_enter Tryz.func89,abg;go_wp2_with fail;refine(ahS _ _).mono ?_;rintro e w' ⟨rfl,rfl⟩;rw[HL.out];go_wp2_with fail;go_loopg [3] s.size (fun k v wr=>∃i:Nat,k=s.size-i/\i<=s.size/\v=.int .i64 i/\wr=w/\jR wF ((bytes s).take i)=true)
    case atStart=>exact⟨0,rfl,gK _,rfl,rfl,rfl⟩
    case round=>
     obtain⟨i,y,J,rfl,rfl,j⟩:=hrel;have W:=Q y;have A2:=Q j;clear y j;have e':(0:Int)<=(i:Int):=I
     by_cases A:i<s.size
     ·have a':(i:Int)<(s.size:Int):=by omega
      have c':IntKind.i64.wrap ((i:Int)+1)=(i:Int)+1:=wrap_i64 I I;have l:=Q (Q_ (p:=wF) A A2.out);cases Z:pq (s[i].toNat:Int)
      ·have HW:=Q Z
       have HP:Hid (jR wF (bytes s)=false):=Ng (l.out.trans (by rw[wF,Z,Bool.and_false]))
       exact arj
      ·have HW:=Q Z
       cases hq:((s[i].toNat:Int)==45)
       ·have HP:Hid (jR wF ((bytes s).take (i+1))=true):=l.out.trans (by rw[wF,Z,bne,hq];rfl)
        clear Z;go_wp2_with fail;refine(ahT _ _).mono ?_;rintro e w' ⟨rfl,rfl⟩;rw[HW.out];go_wp2_with fail;go_roundg (s.size-(i+1))
        case measure=>have:=W.out;omega
        case rel=>exact⟨i+1,rfl,by omega,by go_num,rfl,HP.out⟩
       ·have HP:Hid (jR wF (bytes s)=false):=Ng (l.out.trans (by rw[wF,bne,hq];rfl))
        exact arj
     ·have Ao:i=s.size:=by omega
      have a':¬(i:Int)<(s.size:Int):=I;have HP:Hid (jR wF (bytes s)=true):=by
       exact R4
      clear Ao;go_wp2_with fail;go_ret;exact⟨by rw[HE2.out,HP.out];rfl,rfl⟩
  ·have T:(24:Int)<(s.size:Int):=by omega
   have u:Hid (isIdent (bytes s)=false):=by show _=_;rw[HE.out,abq q];rfl
   clear HE;go_enter Tryz.func89,abg;go_wp2_with fail;go_ret;exact⟨by rw[u.out];rfl,rfl⟩
def aiD (J:i<A.size):gL 0 ((bytes A).take (i+1))=gL 0 ((bytes A).take i)*10+(A[i].toNat-48):=by
 have e:i<(bytes A).length:=by rw[jX];exact J
 rw[P_ e,aOb,LQ,JX]
 rfl
def aiC (h:jR jJ ((bytes A).take i)=true):gL 0 ((bytes A).take i)<10^i:=by
 have e:=aOd ((bytes A).take i) (aev.1 h) 0;refine lZ e ?_;rw[jW,Nat.one_mul];exact J5 I (List.length_take_le _ _)
def aGA (h:b<=9223372036854775808):wrap64 (IntKind.u64.wrap (-(b:Int)))=-(b:Int):=by
 have e1:IntKind.u64.wrap (-(b:Int))=(-(b:Int))%18446744073709551616:=by simp[IntKind.wrap,IntKind.bits,IntKind.signed]
 rw[e1];unfold wrap64;omega
def Ph {s:G dG} (h:Ie s=none):og s=.tuple #[.int .i64 0,.bool false]:=by rw[og,atG,h]
def aGR {s:G dG} (h:Ie s=some k):og s=.tuple #[.int .i64 k,.bool true]:=by rw[og,atG,h]
def aMM (s:dA) (l0:s.size<=9223372036854775807) (w:ak):
 Calls Tryz.prog 119 #[.string s] w fun e w'=>e=.returned (og (bytes s))/\w=w':=by
 by_cases h0:s.size=0
 ·have y:bytes s=[]:=qx Yw
  have q0:¬(0:Int)<(s.size:Int):=I;have q1:(s.size:Int)<1:=I;have j':Hid (og (bytes s)=.tuple #[.int .i64 0,.bool false]):=Ph (by rw[y];rfl)
  clear y;go_enter J6,J7;go_wp2_with fail;go_ret2;exact⟨by rw[j'.out];rfl,rfl⟩
 have e0:0<s.size:=I;have q0:(0:Int)<(s.size:Int):=I;obtain⟨T,aD,k',P',i0,A⟩:∃(T:dA) (aD:aK),Hid (bytes T=lD (bytes s))/\Hid (Au (bytes s)=aD)/\T.size<=s.size/\((((s[0].toNat:Int)==45)=true/\s.extract 1 s.size=T/\aD=true)\/(((s[0].toNat:Int)==45)=false/\s=T/\aD=false)):=by
  have p':∃r,bytes s=s[0]::r:=by
   cases y:bytes s with
   |nil=>have:=jX s;rw[y] at this;simp at this;omega
   |cons c r=>
    have f':(bytes s)[0]'(by rw[y];simp)=c:=by simp[y]
    exact⟨r,by rw[<-f'];rfl⟩
  obtain⟨r,U⟩:=p'
  by_cases g':s[0]=45
  ·refine⟨s.extract 1 s.size,true,?_,?_,?_,.inl ⟨?_,rfl,rfl⟩⟩
   ·show _=_
    rw[Xp,U,O8,bK g'];have:r.length+1=s.size:=by rw[<-jX,U];rfl
    simp only[aa0,aiR];exact AZ I
   ·show _=_;rw[U,ZC];simp[g']
   ·rw[<-jX,<-jX,Xp];simp
   ·rw[g'];rfl
  ·refine⟨s,false,?_,?_,bq _,.inr ⟨?_,rfl,rfl⟩⟩
   ·show _=_;rw[U,O8,bB g']
   ·show _=_;rw[U,ZC];simp[g']
   ·refine nK fun e=>g' ?_
    have T':s[0].toNat=45:=I;have:=UW (x:=s[0]);rw[T'] at this;exact this.symm
 by_cases W':T.size<1
 ·have j':Hid (og (bytes s)=.tuple #[.int .i64 0,.bool false]):=Ph (by rw[Ie,<-k'.out,jX,bK (.inl W')])
  have f0:(T.size:Int)<1:=I;rcases A with⟨q1,o',rfl⟩|⟨q1,rfl,rfl⟩<;>
  (go_enter J6,J7
   go_wp2_with fail;go_ret2;exact⟨by rw[j'.out];rfl,rfl⟩)
 have f0:¬(T.size:Int)<1:=I;have j0:(0:Int)<(T.size:Int):=I;have k0:0<T.size:=I
 by_cases y:19<T.size
 ·have j':Hid (og (bytes s)=.tuple #[.int .i64 0,.bool false]):=Ph (by rw[Ie,<-k'.out,jX,bK (.inr (.inl y))])
  have t1:(19:Int)<(T.size:Int):=I;rcases A with⟨q1,o',rfl⟩|⟨q1,rfl,rfl⟩<;>
  (go_enter J6,J7
   go_wp2_with fail;go_ret2;exact⟨by rw[j'.out];rfl,rfl⟩)
 have t1:¬(19:Int)<(T.size:Int):=I;have p':∃r,bytes T=T[0]::r:=by
  cases y:bytes T with
  |nil=>have:=jX T;rw[y] at this;simp at this;omega
  |cons c r=>
   have f':(bytes T)[0]'(by rw[y];simp)=c:=by simp[y]
   exact⟨r,by rw[<-f'];rfl⟩
 have s':Hid ((bytes T).head?=some 48↔((T[0].toNat:Int)==48)=true):=by
  obtain⟨r,U⟩:=p';show _↔_;rw[U];show some T[0]=some 48↔_;have l':∀c:dG,some c=some 48↔((c.toNat:Int)==48)=true:=by
   intro c;constructor
   ·intro e;injection e with e;rw[e];rfl
   ·intro e
    have q':(c.toNat:Int)=48:=by simpa using e
    have T':c.toNat=48:=I;have:=UW (x:=c);rw[T'] at this;rw[<-this];rfl
  exact l' _
 clear p'
 by_cases hc:((T[0].toNat:Int)==48)=true/\(1<T.size\/aD=true)
 ·have j':Hid (og (bytes s)=.tuple #[.int .i64 0,.bool false]):=Ph (by rw[Ie,P'.out,<-k'.out,jX,bK (.inr (.inr ⟨s'.out.2 hc.1,hc.2⟩))])
  obtain⟨t2,t3⟩:=hc;rcases A with⟨q1,o',rfl⟩|⟨q1,rfl,rfl⟩
  ·clear t3
   by_cases g0:(1:Int)<(T.size:Int)<;>
   (go_enter J6,J7
    go_wp2_with fail;go_ret2;exact⟨by rw[j'.out];rfl,rfl⟩)
  ·have g0:(1:Int)<(s.size:Int):=by rcases t3 with t3|t3;omega;cases t3
   clear t3;go_enter J6,J7;go_wp2_with fail;go_ret2;exact⟨by rw[j'.out];rfl,rfl⟩
 have HR:Hid (Ie (bytes s)=if jR jJ (bytes T)=true then(if aD=true then(if gL 0 (bytes T)<=9223372036854775808 then some (-(gL 0 (bytes T):Int)) else none) else if gL 0 (bytes T)<9223372036854775808 then some (gL 0 (bytes T)) else none) else none):=by
  show _=_;rw[Ie,P'.out,<-k'.out,jX,bB];rintro(h|h|h)
  ·exact W' h
  ·exact y h
  ·exact hc ⟨s'.out.1 h.1,h.2⟩
 have t':((T[0].toNat:Int)==48)=false\/(((T[0].toNat:Int)==48)=true/\(¬(1:Int)<(T.size:Int))/\aD=false):=by
  cases f':((T[0].toNat:Int)==48)
  ·exact .inl rfl
  ·refine .inr ⟨rfl,fun l'=>hc ⟨f',.inl I⟩,?_⟩
   cases aD
   ·rfl
   ·exact absurd ⟨f',.inr rfl⟩ hc
 clear hc s' P' k' W' y;have E:Hid (∀(x:av),(if aD=true then(if gL 0 (bytes T)<=9223372036854775808 then some (-(gL 0 (bytes T):Int)) else none) else if gL 0 (bytes T)<9223372036854775808 then some (gL 0 (bytes T):Int) else none)=none->jR jJ (bytes T)=true->x=.tuple #[.int .i64 0,.bool false]->x=og (bytes s)):=
  fun x f' l' q'=>by rw[q',Ph (by rw[HR.out,bK l',f'])]
 have u:Hid (∀(x:av) (v:Int),(if aD=true then(if gL 0 (bytes T)<=9223372036854775808 then some (-(gL 0 (bytes T):Int)) else none) else if gL 0 (bytes T)<9223372036854775808 then some (gL 0 (bytes T):Int) else none)=some v->jR jJ (bytes T)=true->x=.tuple #[.int .i64 v,.bool true]->x=og (bytes s)):=
  fun x v f' l' q'=>by rw[q',aGR (by rw[HR.out,bK l',f'])]
 have h':Hid (∀(x:av),jR jJ (bytes T)=false->x=.tuple #[.int .i64 0,.bool false]->x=og (bytes s)):=
  fun x l' q'=>by rw[q',Ph (by rw[HR.out,l'];rfl)]
 clear HR;have l:(((s[0].toNat:Int)==45)=true/\s.extract 1 s.size=T/\aD=true/\((T[0].toNat:Int)==48)=false)\/(((s[0].toNat:Int)==45)=false/\s=T/\aD=false/\((T[0].toNat:Int)==48)=false)\/(((s[0].toNat:Int)==45)=false/\s=T/\aD=false/\((T[0].toNat:Int)==48)=true/\(¬(1:Int)<(T.size:Int))):=by
  rcases A with⟨D',E',u'⟩|⟨D',E',u'⟩
  ·rcases t' with r'|⟨r',a0,X'⟩
   ·exact .inl ⟨D',E',u',r'⟩
   ·rw[u'] at X';cases X'
  ·rcases t' with r'|⟨r',a0,X'⟩
   ·exact .inr (.inl ⟨D',E',u',r'⟩)
   ·exact .inr (.inr ⟨D',E',u',r',a0⟩)
 clear A t';rcases l with⟨q1,o',rfl,t2⟩|⟨q1,rfl,rfl,t2⟩|⟨q1,rfl,rfl,t2,t3⟩
 ·go_enter J6,J7
  go_wp2_with fail;go_loopg [6,7] T.size (fun v' n v wr=>∃i:Nat,v'=T.size-i/\i<=T.size/\n=.int .u64 ((gL 0 ((bytes T).take i):Nat):Int)/\v=.int .i64 i/\wr=w/\jR jJ ((bytes T).take i)=true)
  case atStart=>exact⟨0,rfl,gK _,by simp[JX],rfl,rfl,rfl⟩
  case round=>
   obtain⟨i,m',J,rfl,rfl,rfl,l⟩:=hrel;have x':=Q m';have A2:=Q l;clear m' l;have b0:(0:Int)<=(i:Int):=I;have j:=aiC A2.out
   by_cases F:i<T.size
   ·have y':(i:Int)<(T.size:Int):=by omega
    have F':IntKind.i64.wrap ((i:Int)+1)=(i:Int)+1:=wrap_i64 I I;have P:=Q (Q_ (p:=jJ) F A2.out);have Mh:=Q (aiD F);have W:10^i<=10^18:=J5 I I;have c':gL 0 ((bytes T).take i)<1000000000000000000:=lZ j W;clear j W;obtain⟨aB,q⟩:∃aB,gL 0 ((bytes T).take i)=aB:=⟨_,rfl⟩;rw[q] at c' Mh⊢;clear q;cases Z:jJ (T[i].toNat:Int)
    ·have d':=Q Z
     have HP:Hid (jR jJ (bytes T)=false):=Ng (P.out.trans Z);clear Z;go_wp2_with fail;refine(LA _ _).mono ?_;rintro e w' ⟨rfl,rfl⟩;rw[d'.out];go_wp2_with fail;go_ret2;exact⟨iE _ (h'.out _ HP.out rfl),rfl⟩
    ·have d':=Q Z
     have HP:Hid (jR jJ ((bytes T).take (i+1))=true):=P.out.trans Z;have z':=(RI _).1 Z;obtain⟨L',M'⟩:=z';have n':(0:Int)<=(aB:Int):=I;have a':(aB:Int)<1000000000000000000:=I;have A':Hid ((10:Int)*(aB:Int)+((T[i].toNat:Int)-48)=((gL 0 ((bytes T).take (i+1)):Nat):Int)):=afW;clear Z;go_wp2_with fail;refine(LA _ _).mono ?_;rintro e w' ⟨rfl,rfl⟩;rw[d'.out];go_wp2_with fail;go_roundg (T.size-(i+1))
     case measure=>have:=x'.out;omega
     case rel=>exact⟨i+1,rfl,by omega,by rw[<-A'.out],by go_num,rfl,HP.out⟩
   ·have Ao:i=T.size:=by omega
    have y':¬(i:Int)<(T.size:Int):=I;have HP:Hid (jR jJ (bytes T)=true):=by
     exact R4
    have e':gL 0 ((bytes T).take i)<10000000000000000000:=lZ j (J5 I (by omega:i<=19))
    have b':gL 0 ((bytes T).take i)=gL 0 (bytes T):=by rw[Ao,AZ RY]
    obtain⟨aB,q⟩:∃aB,gL 0 (bytes T)=aB:=⟨_,rfl⟩;rw[b',q] at e'⊢;rw[q] at E u;clear q b' j Ao;have n':(0:Int)<=(aB:Int):=I
    by_cases i':aB<=9223372036854775808
    ·have a':(aB:Int)<=9223372036854775808:=by omega
     go_wp2_with fail;go_ret2;exact⟨iE _ (u.out _ (wrap64 (IntKind.u64.wrap (-(aB:Int)))) (by rw[aGA i'];simp[i']) HP.out rfl),rfl⟩
    ·have a':¬(aB:Int)<=9223372036854775808:=by omega
     go_wp2_with fail;go_ret2;exact⟨iE _ (E.out _ (by simp[i']) HP.out rfl),rfl⟩
 ·go_enter J6,J7
  go_wp2_with fail;go_loopg [6,7] s.size (fun v' n v wr=>∃i:Nat,v'=s.size-i/\i<=s.size/\n=.int .u64 ((gL 0 ((bytes s).take i):Nat):Int)/\v=.int .i64 i/\wr=w/\jR jJ ((bytes s).take i)=true)
  case atStart=>exact⟨0,rfl,gK _,by simp[JX],rfl,rfl,rfl⟩
  case round=>
   obtain⟨i,m',J,rfl,rfl,rfl,l⟩:=hrel;have x':=Q m';have A2:=Q l;clear m' l;have b0:(0:Int)<=(i:Int):=I;have j:=aiC A2.out
   by_cases F:i<s.size
   ·have y':(i:Int)<(s.size:Int):=by omega
    have F':IntKind.i64.wrap ((i:Int)+1)=(i:Int)+1:=wrap_i64 I I;have P:=Q (Q_ (p:=jJ) F A2.out);have Mh:=Q (aiD F);have W:10^i<=10^18:=J5 I I;have c':gL 0 ((bytes s).take i)<1000000000000000000:=lZ j W;clear j W;obtain⟨aB,q⟩:∃aB,gL 0 ((bytes s).take i)=aB:=⟨_,rfl⟩;rw[q] at c' Mh⊢;clear q;cases Z:jJ (s[i].toNat:Int)
    ·have d':=Q Z
     have HP:Hid (jR jJ (bytes s)=false):=Ng (P.out.trans Z);clear Z;go_wp2_with fail;refine(LA _ _).mono ?_;rintro e w' ⟨rfl,rfl⟩;rw[d'.out];go_wp2_with fail;go_ret2;exact⟨iE _ (h'.out _ HP.out rfl),rfl⟩
    ·have d':=Q Z
     have HP:Hid (jR jJ ((bytes s).take (i+1))=true):=P.out.trans Z;have z':=(RI _).1 Z;obtain⟨L',M'⟩:=z';have n':(0:Int)<=(aB:Int):=I;have a':(aB:Int)<1000000000000000000:=I;have A':Hid ((10:Int)*(aB:Int)+((s[i].toNat:Int)-48)=((gL 0 ((bytes s).take (i+1)):Nat):Int)):=afW;clear Z;go_wp2_with fail;refine(LA _ _).mono ?_;rintro e w' ⟨rfl,rfl⟩;rw[d'.out];go_wp2_with fail;go_roundg (s.size-(i+1))
     case measure=>have:=x'.out;omega
     case rel=>exact⟨i+1,rfl,by omega,by rw[<-A'.out],by go_num,rfl,HP.out⟩
   ·have Ao:i=s.size:=by omega
    have y':¬(i:Int)<(s.size:Int):=I;have HP:Hid (jR jJ (bytes s)=true):=by
     exact R4
    have e':gL 0 ((bytes s).take i)<10000000000000000000:=lZ j (J5 I (by omega:i<=19))
    have b':gL 0 ((bytes s).take i)=gL 0 (bytes s):=by rw[Ao,AZ RY]
    obtain⟨aB,q⟩:∃aB,gL 0 (bytes s)=aB:=⟨_,rfl⟩;rw[b',q] at e'⊢;rw[q] at E u;clear q b' j Ao;have n':(0:Int)<=(aB:Int):=I
    by_cases i':aB<9223372036854775808
    ·have a':(aB:Int)<9223372036854775808:=by omega
     go_wp2_with fail;go_ret2;exact⟨iE _ (u.out _ (aB:Int) (by simp[i']) HP.out rfl),rfl⟩
    ·have a':¬(aB:Int)<9223372036854775808:=by omega
     go_wp2_with fail;go_ret2;exact⟨iE _ (E.out _ (by simp[i']) HP.out rfl),rfl⟩
 ·go_enter J6,J7
  go_wp2_with fail;go_loopg [6,7] s.size (fun v' n v wr=>∃i:Nat,v'=s.size-i/\i<=s.size/\n=.int .u64 ((gL 0 ((bytes s).take i):Nat):Int)/\v=.int .i64 i/\wr=w/\jR jJ ((bytes s).take i)=true)
  case atStart=>exact⟨0,rfl,gK _,by simp[JX],rfl,rfl,rfl⟩
  case round=>
   obtain⟨i,m',J,rfl,rfl,rfl,l⟩:=hrel;have x':=Q m';have A2:=Q l;clear m' l;have b0:(0:Int)<=(i:Int):=I;have j:=aiC A2.out
   by_cases F:i<s.size
   ·have y':(i:Int)<(s.size:Int):=by omega
    have F':IntKind.i64.wrap ((i:Int)+1)=(i:Int)+1:=wrap_i64 I I;have P:=Q (Q_ (p:=jJ) F A2.out);have Mh:=Q (aiD F);have W:10^i<=10^18:=J5 I I;have c':gL 0 ((bytes s).take i)<1000000000000000000:=lZ j W;clear j W;obtain⟨aB,q⟩:∃aB,gL 0 ((bytes s).take i)=aB:=⟨_,rfl⟩;rw[q] at c' Mh⊢;clear q;cases Z:jJ (s[i].toNat:Int)
    ·have d':=Q Z
     have HP:Hid (jR jJ (bytes s)=false):=Ng (P.out.trans Z);clear Z;go_wp2_with fail;refine(LA _ _).mono ?_;rintro e w' ⟨rfl,rfl⟩;rw[d'.out];go_wp2_with fail;go_ret2;exact⟨iE _ (h'.out _ HP.out rfl),rfl⟩
    ·have d':=Q Z
     have HP:Hid (jR jJ ((bytes s).take (i+1))=true):=P.out.trans Z;have z':=(RI _).1 Z;obtain⟨L',M'⟩:=z';have n':(0:Int)<=(aB:Int):=I;have a':(aB:Int)<1000000000000000000:=I;have A':Hid ((10:Int)*(aB:Int)+((s[i].toNat:Int)-48)=((gL 0 ((bytes s).take (i+1)):Nat):Int)):=afW;clear Z;go_wp2_with fail;refine(LA _ _).mono ?_;rintro e w' ⟨rfl,rfl⟩;rw[d'.out];go_wp2_with fail;go_roundg (s.size-(i+1))
     case measure=>have:=x'.out;omega
     case rel=>exact⟨i+1,rfl,by omega,by rw[<-A'.out],by go_num,rfl,HP.out⟩
   ·have Ao:i=s.size:=by omega
    have y':¬(i:Int)<(s.size:Int):=I;have HP:Hid (jR jJ (bytes s)=true):=by
     exact R4
    have e':gL 0 ((bytes s).take i)<10000000000000000000:=lZ j (J5 I (by omega:i<=19))
    have b':gL 0 ((bytes s).take i)=gL 0 (bytes s):=by rw[Ao,AZ RY]
    obtain⟨aB,q⟩:∃aB,gL 0 (bytes s)=aB:=⟨_,rfl⟩;rw[b',q] at e'⊢;rw[q] at E u;clear q b' j Ao;have n':(0:Int)<=(aB:Int):=I
    by_cases i':aB<9223372036854775808
    ·have a':(aB:Int)<9223372036854775808:=by omega
     go_wp2_with fail;go_ret2;exact⟨iE _ (u.out _ (aB:Int) (by simp[i']) HP.out rfl),rfl⟩
    ·have a':¬(aB:Int)<9223372036854775808:=by omega
     go_wp2_with fail;go_ret2;exact⟨iE _ (E.out _ (by simp[i']) HP.out rfl),rfl⟩
end
end
end Go.Proofs.YtdjcfaaongngeaaGreatDoor

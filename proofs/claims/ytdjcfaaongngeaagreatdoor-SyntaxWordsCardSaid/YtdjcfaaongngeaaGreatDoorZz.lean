/- A part of the proof: see the last text. -/
import Derived.Test.YtdjcfaaongngeaaGreatDoorZt
import Derived.Test.YtdjcfaaongngeaaGreatDoorZu
set_option linter.all false
set_option maxRecDepth 100000
set_option maxHeartbeats 0
namespace Go.Proofs.YtdjcfaaongngeaaGreatDoor
noncomputable section
variable {b g i:Nat}{T:Nat->ah D}{a j:Nat->ah Obj}{W w:ak}{v:av}{p:G D}{q:G Nat}{e:G (G D)}{k o:Int}{A:dA}{F:dF av}
section
open Go.RowKit
def Vj (s:dA) (w:ak) (e:AJ) (w':ak):Prop:=
 Below w.heap.size w w'/\match parse (bytes s) with
  |.ok l=>∃v F,e=.returned (.tuple #[v,.agg #[.int .i64 0,.int .i64 0]])/\Rd w' F 4 l.pF v/\∀b o,F b o->w.heap.size<=b
  |.error (k,o)=>e=.returned (.tuple #[.slice none 0 0,.agg #[.int .i64 k,.int .i64 o]])
section
variable {w:ak} {s:dA}
def aMP (s:dA) (w:ak) (e:¬s.size<=65536) (h:s.size<=9223372036854775807):Calls Tryz.prog 18 #[.string s] w (Vj s w):=by
 have hR:parse (bytes s)=.error (4,0):=by rw[parse,jX,bB e]
 have j:(65536:Int)<(s.size:Int):=I;have HR:=Q hR;clear hR;go_enter Tryz.func18,Tryz.ntmps18;go_wp2_with fail;refine ni (v:=.tuple #[.slice none 0 0,.agg #[.int .i64 4,.int .i64 0]]) (by simp[results,Tryz.results18,go_sem]) rfl ?_
 refine⟨?_,by rw[HR.out];rfl⟩
 first
  |exact(iN _ _).alloc (bq _) _
  |exact(((iN _ _).alloc (bq _) _).setCell (bq _) _).setCell (bq _) _
def BS (w:ak) (s:dA):ak:=
 (w.alloc (.cells #[.int .i64 0,.int .i64 0] 28)).alloc (.cells #[.string s,.int .i64 0,.int .i64 0,.int .i64 0] 92)
def aMW (w:ak) (s:dA):(BS w s).heap[w.heap.size]?=some (.cells #[.int .i64 0,.int .i64 0] 28 (0,0)):=by
 unfold BS;rw[jV _ _ _ bS];exact lu w _
def aMX (w:ak) (s:dA):(BS w s).heap[w.heap.size+1]?=some (.cells #[.string s,.int .i64 0,.int .i64 0,.int .i64 0] 92 (0,0)):=by
 have h:=lu (w.alloc (.cells #[.int .i64 0,.int .i64 0] 28)) (.cells #[.string s,.int .i64 0,.int .i64 0,.int .i64 0] 92)
 simpa[BS] using h
def aMY (w:ak) (s:dA):Below w.heap.size w (BS w s):=
 ((iN _ _).alloc (bq _) _).alloc bS _
def aMQ {j X:ak} {F:jP} {l:Fr} {u:G av} (e:Row (BS W A) j F v l g u) (q:j.ownsRow i 59 4 v g u)
 (Z:parse (bytes A)=.ok l) (y:Below W.heap.size W X) (E:∀b,W.heap.size+1+1<=b->X.heap[b]?=j.heap[b]?):Vj A W (.returned (.tuple #[v,.agg #[.int .i64 0,.int .i64 0]])) X:=by
 refine⟨y,?_⟩;rw[Z];have T:(BS W A).heap.size=W.heap.size+1+1:=by simp[BS]
 have P:xX F j X:=fun b o hf=>vU (E b (by have:=(e.low b o hf).1;omega))
 exact⟨v,F,rfl,(e.rd q).mono P fun _ _ h=>h,fun b o hf=>by have:=(e.low b o hf).1;omega⟩
def aMO (s:dA) (w:ak) (P:s.size<=65536):Calls Tryz.prog 18 #[.string s] w (Vj s w):=by
 have l':¬(65536:Int)<(s.size:Int):=I;have u:parse (bytes s)=go ((bytes s).drop 0) 0 .plain [(0,.nil)]:=by rw[parse,jX,bK P,aiR]
 have HP:=Q u;clear u;go_enter Tryz.func18,Tryz.ntmps18;go_wp2_with fail;change Calls _ _ _ (BS w s) _;refine(aGF 40 0 rfl (BS w s) (w.heap.size+1) s 0 (aMX w s) P (gK _)).mono ?_;rintro e w1 ⟨v,n,m',q,fk,fo,rfl,h,j,h',i',A⟩;have T:(BS w s).heap.size=w.heap.size+1+1:=by simp[BS]
 have n0:w1.heap[w.heap.size]?=some (.cells #[.int .i64 0,.int .i64 0] 28 (0,0)):=(h.other _ I I).trans (aMW w s);have c0:w1.cell? ⟨w.heap.size,0,none⟩=some (.int .i64 0):=af2;have c1:w1.cell? ⟨w.heap.size,1,none⟩=some (.int .i64 0):=af2;have z0:w1.frozen? ⟨w.heap.size,0,none⟩=false:=by simp[World.frozen?,n0]
 have z1:w1.frozen? ⟨w.heap.size,1,none⟩=false:=by simp[World.frozen?,n0]
 have p2:=h.p2;have p3:=h.p3;have W:Below w.heap.size w w1:=(aMY w s).trans ⟨h.os,h.tape,h.output,h.size,fun b d'=>h.other b I I⟩;have j':w.heap.size+1<w1.heap.size:=by have:=h.size;omega
 obtain⟨va,e',f'⟩:=JI j;subst f';have a':=Q W;have g':=Q j;clear W h j n0 T;rcases A with⟨hf,b'⟩|⟨rfl,rfl,k',l,F,y,c',_⟩
 ·have gf:(fk !=0)=true:=by simpa using hf
  have E:=Q (b' 0 [] rfl);clear hf b';go_wp2_with fail;go_region;go_wp2_with fail;refine ni (v:=.tuple #[.slice none 0 0,.agg #[.int .i64 fk,.int .i64 fo]]) (by simp[results,Tryz.results18,go_sem,c0,c1]) rfl ?_
  exact⟨((a'.out.setCell (bq _) _).setCell (bq _) _).drew,by rw[HP.out,E.out]⟩
 ·have E:=Q (c' rfl 0)
  have HR:=Q y;clear c' y;go_wp2_with fail;refine ni (v:=.tuple #[.slice va n e',.agg #[.int .i64 0,.int .i64 0]]) (by simp[results,Tryz.results18,go_sem,c0,c1]) rfl ?_
  refine aMQ HR.out g'.out (HP.out.trans E.out) ((a'.out.setCell (bq _) _).setCell (bq _) _) ?_;intro b d';rw[jF I,jF I]
def avg (s:dA) (w:ak) (e:s.size<=9223372036854775807):Calls Tryz.prog 18 #[.string s] w (Vj s w):=by
 by_cases h:s.size<=65536
 ·exact aMO s w h
 ·exact aMP s w h e
end
end
section
open Go Go.RowKit
def aFs (a:ah Addr) (cap len:Nat) (bs:G (G D)) (arr:dF av) (d:Nat) (w:ak) (j:bs.length=len) (W:len<=1000000) (A:zN w.heap.size w (.slice a len cap) bs arr d) (aY:Nat->aK)
 (E:∀i,i<len->∀W',Below w.heap.size w W'->Calls Tryz.prog 161 #[(oh arr (d+i*4)).val] W' fun e a'=>e=.returned (.bool (aY i))/\Below W'.heap.size W' a'):
 Calls Tryz.prog 147 #[.slice a len cap,.func (.func 161) #[] #[]] w fun e W'=>∃r:Int,e=.returned (.int .i64 r)/\(0<=r↔∃i,i<len/\aY i=true)/\Below w.heap.size w W':=by
 have b':=Q E;have HI:=Q A;have HL:=Q j;clear E A j;go_enter Tryz.func147,Tryz.ntmps147;go_wp2_with fail;go_loopg [8] len (fun c' v wr=>∃k:Nat,c'=len-k/\k<=len/\v=.int .i64 (k:Nat)/\Hid ((∀i,i<k->aY i=false)/\Below w.heap.size w wr))
 case atStart=>exact⟨0,by omega,gK _,rfl,⟨fun i J=>by omega,iN _ _⟩⟩
 case round=>
  obtain⟨k,F,g',rfl,HW⟩:=hrel;rename ak=>d_
  have d':=Q F;clear F
  by_cases u:k<len
  ·have P:(0:Int)<=(k:Int):=by omega
   have h':(k:Int)<(len:Int):=I;have i':IntKind.i64.wrap ((k:Int)+1)=(k:Int)+1:=vS I I;obtain⟨g,T,y⟩:∃g,a=some ⟨g,d,none⟩/\Ev d_ g (d+k*4) (oh arr (d+k*4)):=by
    exact aqI
   subst T;obtain⟨v,e'⟩:∃v,oh arr (d+k*4)=v:=⟨_,rfl⟩;have l:=Q (b'.out k u d_ HW.out.2);rw[e'] at l y;obtain⟨c0,c1,c2,c3⟩:=y;cases hQ:aY k with
   |true=>
    rw[hQ] at l;go_wp2_with (refine(l.out).mono ?_;rintro e aB ⟨rfl,q⟩);go_ret;exact⟨k,rfl,⟨fun _=>⟨k,u,hQ⟩,fun _=>P⟩,HW.out.2.trans (q.mono HW.out.2.size)⟩
   |false=>
    rw[hQ] at l;go_wp2_with (refine(l.out).mono ?_;rintro e aB ⟨rfl,q⟩);have f':Hid ((∀i,i<k+1->aY i=false)/\Below w.heap.size w aB):=⟨fun i J=>(Iu i k).elim (HW.out.1 i) (fun h=>ai1 (ai2 J) h▸hQ),HW.out.2.trans (q.mono HW.out.2.size)⟩;go_roundg (len-(k+1))
    case measure=>have:=d'.out;omega
    case rel=>exact⟨k+1,rfl,by omega,by simp,f'⟩
  ·obtain rfl:k=len:=by omega
   go_wp2_with fail;go_ret;exact⟨-1,rfl,⟨fun h=>absurd h jK,fun⟨i,J,h⟩=>by rw[HW.out.1 i J] at h;cases h⟩,HW.out.2⟩
def aFj (a:ah Addr) (cap len:Nat) (bs:G (G D)) (arr:dF av) (d:Nat) (w:ak) (h:bs.length=len) (j:len<=1000000) (l:zN w.heap.size w (.slice a len cap) bs arr d) (aY:Nat->aK)
 (q:∀i,i<len->∀W',Below w.heap.size w W'->Calls Tryz.prog 161 #[(oh arr (d+i*4)).val] W' fun e y=>e=.returned (.bool (aY i))/\Below W'.heap.size W' y):
 Calls Tryz.prog 133 #[.slice a len cap,.func (.func 161) #[] #[]] w fun e W'=>∃b,e=.returned (.bool b)/\(b=true↔∃i,i<len/\aY i=true)/\Below w.heap.size w W':=by
 have A:=Q (aFs a cap len bs arr d w h j l aY q);clear q l h;go_enter Tryz.func133,Tryz.ntmps133;go_wp2_with (refine(A.out).mono ?_;rintro e aB ⟨r,rfl,U,u⟩);go_ret;exact⟨_,rfl,by simp[U],u⟩
def aFq (a:ah Addr) (cap len:Nat) (bs:G (G D)) (arr:dF av) (d:Nat) (w:ak) (j:bs.length=len) (W:len<=1000000) (A:zN w.heap.size w (.slice a len cap) bs arr d) (aY:Nat->aK)
 (E:∀i,i<len->∀W',Below w.heap.size w W'->Calls Tryz.prog 134 #[(oh arr (d+i*4)).val] W' fun e a'=>e=.returned (.bool (aY i))/\Below W'.heap.size W' a'):
 Calls Tryz.prog 147 #[.slice a len cap,.func (.func 134) #[] #[]] w fun e W'=>∃r:Int,e=.returned (.int .i64 r)/\(0<=r↔∃i,i<len/\aY i=true)/\Below w.heap.size w W':=by
 have b':=Q E;have HI:=Q A;have HL:=Q j;clear E A j;go_enter Tryz.func147,Tryz.ntmps147;go_wp2_with fail;go_loopg [8] len (fun c' v wr=>∃k:Nat,c'=len-k/\k<=len/\v=.int .i64 (k:Nat)/\Hid ((∀i,i<k->aY i=false)/\Below w.heap.size w wr))
 case atStart=>exact⟨0,by omega,gK _,rfl,⟨fun i J=>by omega,iN _ _⟩⟩
 case round=>
  obtain⟨k,F,g',rfl,HW⟩:=hrel;rename ak=>d_
  have d':=Q F;clear F
  by_cases u:k<len
  ·have P:(0:Int)<=(k:Int):=by omega
   have h':(k:Int)<(len:Int):=I;have i':IntKind.i64.wrap ((k:Int)+1)=(k:Int)+1:=vS I I;obtain⟨g,T,y⟩:∃g,a=some ⟨g,d,none⟩/\Ev d_ g (d+k*4) (oh arr (d+k*4)):=by
    exact aqI
   subst T;obtain⟨v,e'⟩:∃v,oh arr (d+k*4)=v:=⟨_,rfl⟩;have l:=Q (b'.out k u d_ HW.out.2);rw[e'] at l y;obtain⟨c0,c1,c2,c3⟩:=y;cases hQ:aY k with
   |true=>
    rw[hQ] at l;go_wp2_with (refine(l.out).mono ?_;rintro e aB ⟨rfl,q⟩);go_ret;exact⟨k,rfl,⟨fun _=>⟨k,u,hQ⟩,fun _=>P⟩,HW.out.2.trans (q.mono HW.out.2.size)⟩
   |false=>
    rw[hQ] at l;go_wp2_with (refine(l.out).mono ?_;rintro e aB ⟨rfl,q⟩);have f':Hid ((∀i,i<k+1->aY i=false)/\Below w.heap.size w aB):=⟨fun i J=>(Iu i k).elim (HW.out.1 i) (fun h=>ai1 (ai2 J) h▸hQ),HW.out.2.trans (q.mono HW.out.2.size)⟩;go_roundg (len-(k+1))
    case measure=>have:=d'.out;omega
    case rel=>exact⟨k+1,rfl,by omega,by simp,f'⟩
  ·obtain rfl:k=len:=by omega
   go_wp2_with fail;go_ret;exact⟨-1,rfl,⟨fun h=>absurd h jK,fun⟨i,J,h⟩=>by rw[HW.out.1 i J] at h;cases h⟩,HW.out.2⟩
def aFh (a:ah Addr) (cap len:Nat) (bs:G (G D)) (arr:dF av) (d:Nat) (w:ak) (h:bs.length=len) (j:len<=1000000) (l:zN w.heap.size w (.slice a len cap) bs arr d) (aY:Nat->aK)
 (q:∀i,i<len->∀W',Below w.heap.size w W'->Calls Tryz.prog 134 #[(oh arr (d+i*4)).val] W' fun e y=>e=.returned (.bool (aY i))/\Below W'.heap.size W' y):
 Calls Tryz.prog 133 #[.slice a len cap,.func (.func 134) #[] #[]] w fun e W'=>∃b,e=.returned (.bool b)/\(b=true↔∃i,i<len/\aY i=true)/\Below w.heap.size w W':=by
 have A:=Q (aFq a cap len bs arr d w h j l aY q);clear q l h;go_enter Tryz.func133,Tryz.ntmps133;go_wp2_with (refine(A.out).mono ?_;rintro e aB ⟨r,rfl,U,u⟩);go_ret;exact⟨_,rfl,by simp[U],u⟩
def aol {p:G D->aK} {b:aK} (h:b=true↔∃i,i<e.length/\(!(p (e[i]?.getD [])))=true):(!b)=e.all p:=by
 cases b with
 |true=>
  obtain⟨i,J,l⟩:=h.1 rfl;refine(Bool.eq_false_iff.2 fun j=>?_).symm;have:=Ch.1 j e[i] (zG J);simp[J,this] at l
 |false=>
  refine(Ch.2 fun x q=>?_).symm;obtain⟨i,J,rfl⟩:=UH.1 q;cases Z:p e[i] with
  |true=>rfl
  |false=>exact absurd (h.2 ⟨i,J,by simp[J,Z]⟩) jK
def aGH (v:Tv) (w:ak) (b:aK) (h:Calls Tryz.prog 162 #[v.val] (w.alloc (.cells #[.int .i64 v.k,.string v.s,.int .i64 v.i,.slice v.a v.n v.c] 68)) fun e l=>e=.returned (.bool b)/\Below (w.heap.size+1) (w.alloc (.cells #[.int .i64 v.k,.string v.s,.int .i64 v.i,.slice v.a v.n v.c] 68)) l):
 Calls Tryz.prog 161 #[v.val] w fun e l=>e=.returned (.bool (!b))/\Below w.heap.size w l:=by
 have q:=Q h;clear h;dsimp only[Tv.val] at q⊢;go_enter Tryz.func161,Tryz.ntmps161;cases b with
 |true=>
  go_wp2_with (refine(q.out).mono ?_;rintro e aB ⟨rfl,j⟩);go_ret;exact⟨rfl,(jB (iN w.heap.size w) _).trans (j.mono (yS _))⟩
 |false=>
  go_wp2_with (refine(q.out).mono ?_;rintro e aB ⟨rfl,j⟩);go_ret;exact⟨rfl,(jB (iN w.heap.size w) _).trans (j.mono (yS _))⟩
def aGG (v:Tv) (w:ak) (b:aK) (h:Calls Tryz.prog 118 #[v.val] (w.alloc (.cells #[.int .i64 v.k,.string v.s,.int .i64 v.i,.slice v.a v.n v.c] 68)) fun e l=>e=.returned (.bool b)/\Below (w.heap.size+1) (w.alloc (.cells #[.int .i64 v.k,.string v.s,.int .i64 v.i,.slice v.a v.n v.c] 68)) l):
 Calls Tryz.prog 134 #[v.val] w fun e l=>e=.returned (.bool (!b))/\Below w.heap.size w l:=by
 have q:=Q h;clear h;dsimp only[Tv.val] at q⊢;go_enter Tryz.func134,Tryz.ntmps134;cases b with
 |true=>
  go_wp2_with (refine(q.out).mono ?_;rintro e aB ⟨rfl,j⟩);go_ret;exact⟨rfl,(jB (iN w.heap.size w) _).trans (j.mono (yS _))⟩
 |false=>
  go_wp2_with (refine(q.out).mono ?_;rintro e aB ⟨rfl,j⟩);go_ret;exact⟨rfl,(jB (iN w.heap.size w) _).trans (j.mono (yS _))⟩
def aHf (v:Tv) (w:ak) (q:aK)
 (h:Calls Tryz.prog 133 #[.slice v.a v.n v.c,.func (.func 161) #[] #[]] (w.alloc (.cells #[.int .i64 v.k,.string v.s,.int .i64 v.i,.slice v.a v.n v.c] 68)) fun e W'=>∃b,e=.returned (.bool b)/\(!b)=q/\Below (w.heap.size+1) (w.alloc (.cells #[.int .i64 v.k,.string v.s,.int .i64 v.i,.slice v.a v.n v.c] 68)) W'):
 Calls Tryz.prog 145 #[v.val] w fun e W'=>e=.returned (.bool q)/\Below w.heap.size w W':=by
 have l:=Q h;clear h;dsimp only[Tv.val];go_enter Tryz.func145,Tryz.ntmps145;go_wp2_with (refine(l.out).mono ?_;rintro e aB ⟨b,rfl,rfl,j⟩);go_ret;exact⟨rfl,(jB (iN w.heap.size w) _).trans (j.mono (yS _))⟩
def aOg (v:Tv) (w:ak) (q1 q:aK)
 (y:Calls Tryz.prog 132 #[v.val] (w.alloc (.cells #[.int .i64 v.k,.string v.s,.int .i64 v.i,.slice v.a v.n v.c] 68)) fun e W'=>e=.returned (.bool q1)/\Below (w.heap.size+1) (w.alloc (.cells #[.int .i64 v.k,.string v.s,.int .i64 v.i,.slice v.a v.n v.c] 68)) W')
 (h:∀d_,Below (w.heap.size+1) (w.alloc (.cells #[.int .i64 v.k,.string v.s,.int .i64 v.i,.slice v.a v.n v.c] 68)) d_->Calls Tryz.prog 133 #[.slice v.a v.n v.c,.func (.func 134) #[] #[]] d_ fun e W'=>∃b,e=.returned (.bool b)/\(!b)=q/\Below d_.heap.size d_ W'):
 Calls Tryz.prog 118 #[v.val] w fun e W'=>e=.returned (.bool (q1&&q))/\Below w.heap.size w W':=by
 have u:=Q y;have E:=Q h;clear h y;dsimp only[Tv.val] at u⊢;go_enter Tryz.func118,Tryz.ntmps118;have e1:(w.alloc (.cells #[.int .i64 v.k,.string v.s,.int .i64 v.i,.slice v.a v.n v.c] 68)).cell? ⟨w.heap.size,3,none⟩=some (.slice v.a v.n v.c):=N9;cases q1 with
 |true=>
  go_wp2_with (first
   |(refine(u.out).mono ?_;rintro e aB ⟨rfl,j⟩;have F:=(j.cell (p:=⟨w.heap.size,3,none⟩) (Nat.lt_succ_self _)).trans e1;have l:=Q j;clear j)
   |(refine(E.out _ l.out).mono ?_;rintro e P ⟨b,rfl,rfl,A⟩))
  go_ret;exact⟨by simp,((jB (iN w.heap.size w) _).trans (l.out.mono (yS _))).trans (A.mono (fF (yS _) (by have:=l.out.size;simpa using this)))⟩
 |false=>
  go_wp2_with (refine(u.out).mono ?_;rintro e aB ⟨rfl,j⟩;have F:=(j.cell (p:=⟨w.heap.size,3,none⟩) (Nat.lt_succ_self _)).trans e1;have l:=Q j;clear j)
  go_ret;exact⟨by simp,(jB (iN w.heap.size w) _).trans (l.out.mono (yS _))⟩
def aEJ {bs:G (G D)} (h:IC a (upto (pW bs F b) bs.length)) (J:i<bs.length):sM a bs[i] (oh F (b+i*4)):=by
 have j:=h (pW bs F b (bs.length-1-i)) (FQ.2 ⟨bs.length-1-i,aa4.2 I,rfl⟩);have e:bs.length-1-(bs.length-1-i)=i:=I
 simpa[pW,NR,e,J] using j
def YZ (W:ak) (o:Obj):dX (dM W) (dM (W.alloc o)):=qO (jB (iN W.heap.size W) o) (bq _)
def aez {f:ig} {v:Tv} {b:aK} (h:om T Tryz.prog f [.agg p] (.one (.bool b))) (A:Eu T W) (l:dX (dM W) (dM w)) (q:Eu T w) (U:sM (dM W) p v):
 Calls Tryz.prog f #[v.val] w fun e j=>e=.returned (.bool b)/\Below w.heap.size w j:=by
 refine(h.at_ q (us:=[v.val]) ⟨_,_,rfl,⟨_,rfl,U.mono l⟩,rfl⟩).mono ?_;rintro e j ⟨u,rfl,y,rfl⟩;exact⟨rfl,y⟩
def awp {l:G av} (h:kH j [.int .i64 k,.str q,.int .i64 o,.R e] l):∃v:Tv,l=[.int .i64 v.k,.string v.s,.int .i64 v.i,.slice v.a v.n v.c]/\v.n=e.length/\sM j [.int .i64 k,.str q,.int .i64 o,.R e] v/\DR j (.R e) (.slice v.a e.length v.c):=by
 obtain⟨P,w,rfl,rfl,T,y,rfl,⟨rfl,A⟩,W,E,rfl,rfl,a',F,rfl,u,rfl⟩:=id h;obtain⟨a,cap,rfl,b'⟩:=id u;exact⟨⟨k,bC q,o,a,e.length,cap⟩,rfl,rfl,h,u⟩
def au9 {W1:ak} {a:ah Addr} (h:dR O e fC) (w:e.length<=gB) (j:DR (dM W) (.R e) (.slice a e.length b)) (l:dX (dM W) (dM W1)):
 ∃arr d,zN W1.heap.size W1 (.slice a e.length b) e arr d/\∀i (J:i<e.length),sM (dM W1) e[i] (oh arr (d+i*4)):=by
 obtain⟨arr,d,_,_,_,q,u⟩:=awq (dX.refl _) h (DR.mono l j);exact⟨arr,d,q,fun i J=>aEJ u J⟩
def atI (_:bH T) (n:Nat) (h:(aeW n).aA T):(Ru n).aA T:=by
 intro V pre ⟨u,Z⟩
 match V,u with
 |[.agg n'],⟨f',hn⟩=>
 obtain rfl:=Z;obtain⟨k,t,x,c,rfl,y,v0⟩:=oD f';refine⟨.one (.bool (c.all (mZ n))),[],⟨rfl,rfl⟩,⟨_,rfl,zu⟩,rfl,om.H6 fun W us g' h'=>?_⟩;obtain⟨_,m',rfl,⟨o',rfl,i'⟩,rfl⟩:=h';obtain⟨v,rfl,A,_,j'⟩:=awp i';refine(aHf v W (c.all (mZ n)) ?_).mono fun e W' ⟨j,w⟩=>⟨_,j,w,fun _=>rfl⟩;have E:=jB (iN W.heap.size W) (.cells #[.int .i64 v.k,.string v.s,.int .i64 v.i,.slice v.a v.n v.c] 68);have l:=g'.below E (bq _);obtain⟨arr,d,F,P⟩:=au9 (W1:=W.alloc (.cells #[.int .i64 v.k,.string v.s,.int .i64 v.i,.slice v.a v.n v.c] 68)) v0 y j' (YZ W _);rw[A] at F P l⊢;refine(aFj v.a v.c c.length c arr d _ rfl y F (fun i=>!(mZ n (c[i]?.getD []))) fun i J W' q=>?_).mono fun e W' ⟨b,j,k',w⟩=>⟨b,j,aol k',by simpa using w⟩
 have e1:c[i]?.getD []=c[i]:=Dl;have a':aI c[i]<=n:=by
  have p':=qj (zG J);rw[vD] at hn;omega
 obtain⟨l',post,⟨hR,rfl⟩,_,_,hc⟩:=h [.agg c[i]] [] ⟨⟨v0.get (gM J),a'⟩,rfl⟩;obtain rfl:l'=.one (.bool (mZ n c[i])):=hR;have b':=l.below q (bq _);have c':=qO q (bq _);have d':=jB (iN W'.heap.size W') (.cells #[.int .i64 (oh arr (d+i*4)).k,.string (oh arr (d+i*4)).s,.int .i64 (oh arr (d+i*4)).i,.slice (oh arr (d+i*4)).a (oh arr (d+i*4)).n (oh arr (d+i*4)).c] 68);rw[e1];exact aGH _ W' _ ((aez hc l (c'.trans (YZ W' _)) (b'.below d' (bq _)) (P i J)).mono fun e q' ⟨j,e'⟩=>⟨j,by simpa using e'⟩)
def aOh (_:bH T) (n:Nat) (P:(aoV n).aA T) (h:(RD n).aA T):(RD (n+1)).aA T:=by
 intro V pre ⟨A,Z⟩
 match V,A with
 |[.agg w'],⟨a',hn⟩=>
 obtain rfl:=Z;obtain⟨k,t,x,c,rfl,b',v0⟩:=oD a';obtain⟨c',l',⟨d',rfl⟩,_,_,e'⟩:=P [.agg [.int .i64 k,.str t,.int .i64 x,.R c]] [] ⟨⟨a',hn⟩,rfl⟩;obtain rfl:c'=.one (.bool (qo n [.int .i64 k,.str t,.int .i64 x,.R c])):=d';refine⟨.one (.bool (qo n [.int .i64 k,.str t,.int .i64 x,.R c]&&c.all (gT n))),[],⟨rfl,rfl⟩,⟨_,rfl,zu⟩,rfl,om.H6 fun W us E m'=>?_⟩;obtain⟨_,v',rfl,⟨x',rfl,n'⟩,rfl⟩:=m';obtain⟨v,rfl,f',g',o'⟩:=awp n';have q:=jB (iN W.heap.size W) (.cells #[.int .i64 v.k,.string v.s,.int .i64 v.i,.slice v.a v.n v.c] 68);refine(aOg v W _ (c.all (gT n)) ((aez e' E (YZ W _) (E.below q (bq _)) g').mono fun e p' ⟨j,l⟩=>⟨j,by simpa using l⟩) fun d_ q'=>?_).mono fun e W' ⟨j,F⟩=>⟨_,j,F,fun _=>rfl⟩
 have u:Below W.heap.size W d_:=q.trans (q'.mono (yS _));have w:=E.below u (bq _);obtain⟨arr,d,r',s'⟩:=au9 (W1:=d_) v0 b' o' (qO u (bq _));rw[f'];refine(aFh v.a v.c c.length c arr d _ rfl b' r' (fun i=>!(gT n (c[i]?.getD []))) fun i J W' y=>?_).mono fun e W' ⟨b,j,t',F⟩=>⟨b,j,aol t',F⟩;have e1:c[i]?.getD []=c[i]:=Dl;have h':aI c[i]<=n:=by
  have y':=qj (zG J);rw[vD] at hn;omega
 obtain⟨u',post,⟨hR,rfl⟩,_,_,hc⟩:=h [.agg c[i]] [] ⟨⟨v0.get (gM J),h'⟩,rfl⟩;obtain rfl:u'=.one (.bool (gT n c[i])):=hR;have i':=w.below y (bq _);have j':=qO y (bq _);have k':=jB (iN W'.heap.size W') (.cells #[.int .i64 (oh arr (d+i*4)).k,.string (oh arr (d+i*4)).s,.int .i64 (oh arr (d+i*4)).i,.slice (oh arr (d+i*4)).a (oh arr (d+i*4)).n (oh arr (d+i*4)).c] 68);rw[e1];exact aGG _ W' _ ((aez hc w (j'.trans (YZ W' _)) (i'.below k' (bq _)) (s' i J)).mono fun e p' ⟨j,l⟩=>⟨j,by simpa using l⟩)
def nR:Fr->G Rw
 |.nil=>[]
 |.cons k t c o r=>[.int .i64 k,.str (t.map UInt8.toNat),.R (nR c),.int .i64 o]::nR r
def K7:∀l:Fr,(nR l).length=l.len
 |.nil=>rfl
 |.cons _ _ _ _ r=>by simp[nR,Fr.len,K7 r]
def aCp (t:G dG):bC (t.map UInt8.toNat)=⟨t.toArray⟩:=by
 unfold bC;rw[Iq]
 congr 2
 exact List.map_id'' (fun x=>by simp) t
def afB {W:ak} {F:jP} {fz:Nat->ah Obj} (hf:∀b o,F b o->fz b=W.heap[b]?):∀(l:Fr) {P:G av} {arr:dF av} {d:Nat},qY W F l.pF P->(∀j u,P[j]?=some u->arr[d+j]?=some u)->iV fz 4 (nR l) arr d
 |.nil,_,_,_,_,_=>True.intro
 |.cons k t c o r,P,arr,d,h,w=>by
  obtain⟨z1,rfl,z2,rfl,h',f',z3,rfl,T,q,o',rfl,U⟩:=h;refine⟨rfl,⟨⟨_,w 0 _ rfl,rfl⟩,⟨_,w 1 _ rfl,(aCp t).symm▸rfl,fun x i'=>?_⟩,⟨h',w 2 _ rfl,?_⟩,⟨_,w 3 _ rfl,rfl⟩,True.intro⟩,afB hf r U fun j u a'=>?_⟩
  ·obtain⟨b,_,rfl⟩:=FQ.1 i'
   exact b.toNat_lt
  ·have y:=q.len
   rw[Fr.KP] at y;rcases T with⟨rfl,rfl⟩|⟨b,off,n,cap,rfl,j',k',p',b'⟩
   ·have g':(nR c).length=0:=by rw[K7];simp at y;omega
    exact⟨none,0,by rw[g'],by omega,gK _,.inl (qx g')⟩
   ·have hn:(nR c).length=n:=by rw[K7];omega
    refine⟨_,cap,by rw[hn],by rw[hn];exact j',k',?_⟩
    by_cases l':n=0
    ·exact .inl (qx (hn.trans l'))
    ·obtain⟨c',E⟩:∃u,f'[0]?=some u:=⟨f'[0]'I,gM I⟩
     have hc:=(b' 0 c' E).2;obtain⟨d',e',Ai,A,_⟩:∃arr e fr,W.heap[b]?=some (.cells arr e fr)/\arr[off+0]?=some c':=by
      unfold World.cell? at hc;simp only at hc;split at hc
      ·rename_i c2 e' m' A
       exact⟨c2,e',m',A,by simpa using hc⟩
      ·cases hc
     refine .inr ⟨b,off,d',e',Ai,4,rfl,(hf _ _ (b' 0 c' E).1).trans A,afB hf c q fun j u a'=>?_⟩;have n':=(b' j u a').2
     simpa[World.cell?,A] using n'
  ·have:=w (j+4) u (by simpa using a')
   rw[<-this];congr 1;omega
def apr {F:jP} {fz:Nat->ah Obj} (hf:∀b o,F b o->fz b=W.heap[b]?) {l:Fr} (h:Rd W F 4 l.pF v):DR fz (.R (nR l)) v:=by
 obtain⟨a',A,b'⟩:=h;have q:=b'.len;rw[Fr.KP] at q;rcases A with⟨rfl,rfl⟩|⟨b,off,n,cap,rfl,e',f',j',E⟩
 ·have c':(nR l).length=0:=by rw[K7];simp at q;omega
  exact⟨none,0,by rw[c'],by omega,gK _,.inl (qx c')⟩
 ·have hn:(nR l).length=n:=by rw[K7];omega
  refine⟨_,cap,by rw[hn],by rw[hn];exact e',f',?_⟩
  by_cases g':n=0
  ·exact .inl (qx (hn.trans g'))
  ·obtain⟨d',y⟩:∃u,a'[0]?=some u:=⟨a'[0]'I,gM I⟩
   have hc:=(E 0 d' y).2;obtain⟨P,T,Ai,w⟩:∃arr e fr,W.heap[b]?=some (.cells arr e fr):=by
    unfold World.cell? at hc;simp only at hc;split at hc
    ·rename_i c2 T h' w;exact⟨c2,T,h',w⟩
    ·cases hc
   exact .inr ⟨b,off,P,T,Ai,4,rfl,(hf _ _ (E 0 d' y).1).trans w,afB hf l b' fun j u i'=>by simpa[World.cell?,w] using(E j u i').2⟩
def zJ:Fr->Prop
 |.nil=>True
 |.cons k t c _ r=>t.length<=2000/\(k=3\/c=.nil)/\zJ c/\zJ r
def zJ.app:∀{a b:Fr},zJ a->zJ b->zJ (a.app b)
 |.nil,_,_,h=>h
 |.cons _ _ _ _ _,_,⟨e,j,l,q⟩,h=>⟨e,j,l,q.app h⟩
def av5:∀(a b:Fr),(a.app b).size=a.size+b.size
 |.nil,b=>by simp[Fr.app,Fr.size]
 |.cons _ _ c _ r,b=>by simp only[Fr.app,Fr.size,av5 r b];omega
def IU (st:Stack):Prop:=∀p∈st,zJ p.2
def zC:Stack->Nat
 |[]=>0
 |p::st=>p.2.size+1+zC st
def H7:Mode->Nat
 |.plain=>0
 |.comment=>0
 |_=>1
def aeu {t:G dG} {c:Fr} {o:Nat} {st:Stack} (h:IU st) (e:t.length<=2000) (j:k=3\/c=.nil) (u:zJ c):IU (addTop k t c o st)/\zC (addTop k t c o st)<=zC st+c.size+1:=by
 match st,h with
 |[],_=>exact⟨fun p Z=>(by cases Z),gK _⟩
 |(q,l)::st,h=>
  refine⟨fun p Z=>?_,?_⟩
  ·rcases g_.1 Z with rfl|Z
   ·exact(h (q,l) jG).app ⟨e,j,u,True.intro⟩
   ·exact h p (gF _ Z)
  ·simp only[addTop,zC,av5,Fr.size];omega
def aoa {c:dG} {st e:Stack} {m:Mode} (h:act c g st=.ok (m,e)) (hs:IU st) (u:zC st<=g+1):IU e/\zC e+H7 m<=g+2:=by
 unfold act at h;split at h
 ·exact Yv
 ·split at h
  ·exact Yv
  ·split at h
   ·split at h
    ·cases h
     refine⟨fun p Z=>?_,by simp only[zC,Fr.size,H7];omega⟩
     rcases g_.1 Z with rfl|Z
     ·exact True.intro
     ·exact hs p Z
    ·cases h
   ·split at h
    ·split at h
     ·rename_i p l b r
      cases h;have j:=aeu (k:=3) (t:=[]) (c:=l) (o:=p) (st:=b::r) (fun q w=>hs q (gF _ w)) bS (.inl rfl) (hs (p,l) jG);refine⟨j.1,?_⟩;have y:=j.2;simp only[zC,H7] at u y⊢;omega
     ·cases h
    ·split at h
     ·exact Yv
     ·split at h
      ·exact Yv
      ·cases h
def afD {st:Stack} {l:Fr} {n:Nat} (h:Dg b st=.ok l) (e:IU st) (j:zC st<=n+1):zJ l/\l.size<=n:=by
 unfold Dg at h;split at h
 ·rename_i p q
  cases h;exact⟨e _ jG,by simp only[zC] at j;omega⟩
 ·cases h
def awD {start:Nat} {acc:G dG} {st e:Stack} (h:Ik start acc st=.ok e) (j:IU st):IU e/\zC e<=zC st+1:=by
 unfold Ik at h;split at h
 ·rename_i l
  cases h;have:=aeu (k:=1) (t:=acc) (c:=.nil) (o:=start) j I (.inr rfl) True.intro
  simpa[Fr.size] using this
 ·cases h
def go_inv:∀(s:G dG) {pos:Nat} {m:Mode} {st:Stack} {l:Fr},go s pos m st=.ok l->IU st->zC st+H7 m<=pos+1->zJ l/\l.size<=pos+s.length
 |[],pos,.plain,st,l,h,hs,hz=>afD h hs hz
 |[],pos,.comment,st,l,h,hs,hz=>afD h hs hz
 |[],pos,.word start acc,st,l,h,hs,hz=>by
  unfold go at h;split at h
  ·rename_i q u
   obtain⟨e,j⟩:=awD u hs;exact afD h e (by simp only[H7] at hz;simp;omega)
  ·cases h
 |[],pos,.text _ _,st,l,h,hs,hz=>by unfold go at h;cases h
 |[],pos,.escape _ _,st,l,h,hs,hz=>by unfold go at h;cases h
 |c::s,pos,.plain,st,l,h,hs,hz=>by
  unfold go at h;split at h
  ·rename_i m q w
   obtain⟨e,j⟩:=aoa w hs hz;have:=go_inv s h e I;simp only[gD];exact⟨this.1,by omega⟩
  ·cases h
 |c::s,pos,.comment,st,l,h,hs,hz=>by
  unfold go at h;simp only[gD];exact aqr
 |c::s,pos,.word start acc,st,l,h,hs,hz=>by
  unfold go at h;simp only[gD];split at h
  ·exact aqG
  ·split at h
   ·rename_i q u
    obtain⟨e,j⟩:=awD u hs;split at h
    ·rename_i m y w
     obtain⟨A,F⟩:=aoa w e (by simp only[H7] at hz;omega)
     have:=go_inv s h A I;exact⟨this.1,by omega⟩
    ·cases h
   ·cases h
 |c::s,pos,.text start acc,st,l,h,hs,hz=>by
  unfold go at h;simp only[gD];split at h
  ·split at h
   ·rename_i E
    obtain⟨e,j⟩:=aeu (k:=2) (t:=acc) (c:=.nil) (o:=start) hs E (.inr rfl) True.intro;simp only[Fr.size] at j;have:=go_inv s h e YG;exact⟨this.1,by omega⟩
   ·cases h
  ·split at h
   ·exact aqr
   ·cases h
 |c::s,pos,.escape start acc,st,l,h,hs,hz=>by
  unfold go at h;simp only[gD];split at h
  ·exact aqG
  ·cases h
def ahi {s:G dG} {l:Fr} (h:parse s=.ok l):zJ l/\l.size<=65536:=by
 unfold parse at h;split at h
 ·rename_i e
  have:=go_inv s h (st:=[(0,.nil)]) (fun p Z=>by rw[yR.1 Z];exact True.intro) (by simp[zC,Fr.size,H7])
  exact⟨this.1,by omega⟩
 ·cases h
def RH:∀l:Fr,bM (nR l)=l.size
 |.nil=>rfl
 |.cons k t c o r=>by simp only[nR,bM,wY,Fr.size,RH c,RH r];omega
def SF {T:Nat} (h:T=1\/T=8):∀{l:Fr},zJ l->l.size<=1000000->dR O (nR l) [C,.str,.R T,C]
 |.nil,_,_=>True.intro
 |.cons k t c o r,⟨w,_,j,q⟩,u=>by
  simp only[Fr.size] at u;have y:=Fr.as3 c;have e:O.getD T []=[C,.str,.R T,C]:=by rcases h with rfl|rfl<;>rfl
  exact⟨ay aO (ay (mo (by simp only[tX];unfold gB;omega)) (ay (eP (by rw[K7];unfold gB;omega) (by rw[e];exact SF h j I)) (ay aO aX))),SF h q I⟩
def xC:Ctx:=⟨aaM 0 xM++aaM 1 xM++aaM 2 BR,[.R 0,.R 0,.R 0],O,B3.gt⟩
def ag9 (l:G Nat):H:=match DV l with
 |some v=>.tuple [.int .i64 v,.bool true]
 |none=>.tuple [.int .i64 0,.bool false]
def ae5 (f:ig) (args:G H) (s:St):ah (H×St):=match args with
 |[.str l]=>if l.length<=1000000 then(if f=12 then some (aap s l) else if f=109 then some (ag9 l,s) else none) else none
 |_=>none
def aGI (y:bH T) {s:St} (h:q.length<=1000000):vV (kC T p) Tryz.prog 109 [.str q] s (ag9 q) s:=by
 intro base ρ w us A U E;obtain⟨_,_,rfl,⟨rfl,F⟩,rfl⟩:=E;obtain⟨j,post,⟨hR,_⟩,_,_,P⟩:=ahg y [.one (.str q)] [] ⟨mo h,rfl⟩;have hR:(∃v,DV q=some v/\j=.dD [.one (.int .i64 v),.one (.bool true)])\/(DV q=none/\j=.dD [.one (.int .i64 0),.one (.bool false)]):=hR;refine uW (P (kC T p) rfl base ρ s w _ A U ⟨_,_,rfl,⟨rfl,F⟩,rfl⟩) ?_;rintro e w' ⟨u,W,rfl,l,_,a',b'⟩;refine⟨u,W,rfl,?_,a',b'⟩;unfold ag9;rcases hR with⟨v,e,rfl⟩|⟨e,rfl⟩<;>rw[e]<;>exact l
def as9:Lib:=⟨ae5,fun _ _ _ _=>none,true⟩
def aGb (j:bH T) {X:Ctx}:Cu (kC T p) X Tryz.prog (fun _=>True) as9:=by
 refine⟨fun f args s v s' e=>?_,fun _ _ _ _ _ _ _ _ _ _ h=>Dm,fun _ _=>True.intro⟩;have h:ae5 f args s=some (v,s'):=e;clear e;unfold ae5 at h;split at h
 ·split at h
  ·rename_i hc
   split at h
   ·rename_i hf
    subst hf;have:=aMB (E:=kC T p) (s:=s) hc;simp only[aG] at h;rw[h] at this;exact this
   ·split at h
    ·rename_i hf
     subst hf;cases h;exact aGI j hc
    ·cases h
  ·cases h
 ·cases h
def agH:ah gV->aK
 |some (.call (.bool true) _)=>true
 |_=>false
def aGK {r:ah gV} (h:agH r=true):∃s',r=some (.call (.bool true) s'):=by
 unfold agH at h;split at h
 ·exact⟨_,rfl⟩
 ·cases h
def aOC (j:bH T):iX (kC T fM) xC:=by
 have l:=lT j;refine⟨fun e v h=>?_,fun i k h=>?_,fun g i h=>?_⟩
 ·rcases qV.1 h with h|h
  ·rcases qV.1 h with h|h
   ·exact air (F:=bP fM) rfl e v h
   ·exact air (F:=bP fM) rfl e v h
  ·exact air (F:=bP fM) rfl e v h
 ·match i,h with
  |0,h=>obtain rfl:=bI h;exact PG rfl _ JQ.1 JQ.2
  |1,h=>obtain rfl:=bI h;exact PG rfl _ JQ.1 JQ.2
  |2,h=>obtain rfl:=bI h;exact PG rfl _ aaq.1 aaq.2
  |n+3,h=>cases(show(none:ah Kd)=some k from h)
 ·simp only[xC,B3,g_,eG,Ef,FV] at h
  rcases h with⟨rfl,rfl⟩|⟨rfl,rfl⟩|⟨rfl,rfl⟩
  ·exact⟨j.t1,fun x e=>by cases e⟩
  ·exact⟨j.t2,fun x e=>by cases e⟩
  ·exact⟨j.t3,fun x e=>by cases e⟩
def aM5:agH (rG xC Tryz.prog as9 3000 (.call 7 [] (sE Tryz.prog)))=true:=by kernel_rfl
def ao2 (h:bH T) (W:ak) (j:ug T (dM W)):Calls Tryz.prog 7 #[] W fun e W'=>e=.returned (.bool true)/\Below W.heap.size W W':=by
 obtain⟨s',l⟩:=aGK aM5;have hc:=Yj (E:=kC T fM) mixed (aOC h) t_.all (aGb h) l W.heap.size (Mp.start Tryz.prog W) W [] (av8 j) (aaF W) rfl;refine uW hc ?_;rintro e w' ⟨u,y,rfl,q,A,w⟩;rw[show u=_ from q]
 exact⟨rfl,w.below (aaF (E:=kC T fM) W)⟩
end
end
end Go.Proofs.YtdjcfaaongngeaaGreatDoor

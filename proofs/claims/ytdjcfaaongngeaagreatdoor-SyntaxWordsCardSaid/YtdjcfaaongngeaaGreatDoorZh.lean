/- A part of the proof: see the last text. -/
import Derived.Test.YtdjcfaaongngeaaGreatDoorZd
set_option linter.all false
set_option maxRecDepth 100000
set_option maxHeartbeats 0
namespace Go.Proofs.YtdjcfaaongngeaaGreatDoor
noncomputable section
variable {b g i:Nat}{T:Nat->ah D}{a j:Nat->ah Obj}{W w:ak}{v m:av}{p:G D}{d:D}{q:G Nat}{e:G (G D)}{x:Y}{y:H}{u:dh}{E:G H}{F:dF av}
section
open Go Go.RowKit
section
variable {E:Env} {X:Ctx}
section
variable {P:bA} {base:Nat} {ρ:Mp} {s s':St} {w:ak} {tm:Tr H} {a:Act} {o:Oper} {r:nO}
def aOD {t:dh} (h:zeroV P t=some y):∃u,(zeroValue t).run P w=.ok u w/\VR E ρ y u:=by
 unfold zeroV at h;split at h
 ·rename_i i J
  split at h
  ·rename_i cs e
   obtain⟨vs,j,rfl⟩:=lq.1 h;exact⟨.agg cs,by simp[zeroValue,typeInfo,J,e],cs.toList,by simp,agU j⟩
  ·rename_i v _ e
   exact⟨v,by simp[zeroValue,typeInfo,J,e],ahb h⟩
  ·cases h
 ·cases h
def OZ (h:SQ P u y=true) (c':VR E ρ y v) (b:aK):
 (Instr.checkKey b 10000 u v).run P w=.ok () w/\(∃d,P.underlying u=some d/\((∃j n,d=.int n/\∃m,y=.int j m)\/(d=.string/\∃l,y=.str l)\/(d=.bool/\∃q,y=.bool q))):=by
 have hc:∀d n,P.underlying u=some d->(∀F,d≠.interface F)->(∀m e,d≠.array m e)->(∀f,d≠.struct f)->(Instr.checkKey b (n+1) u v).run P w=.ok () w:=by
  intro d n T W a' b';cases d<;>first|exact(W _ rfl).elim|exact(a' _ _ rfl).elim|exact(b' _ rfl).elim|simp[Instr.checkKey,underlying,T]
 unfold SQ at h;split at h
 ·split at h
  ·rename_i A
   exact⟨hc _ 9999 A bS bS bS,_,A,.inl ⟨_,_,rfl,_,rfl⟩⟩
  ·cases h
 ·split at h
  ·rename_i A
   exact⟨hc _ 9999 A bS bS bS,_,A,.inr (.inl ⟨rfl,_,rfl⟩)⟩
  ·cases h
 ·split at h
  ·rename_i A
   exact⟨hc _ 9999 A bS bS bS,_,A,.inr (.inr ⟨rfl,_,rfl⟩)⟩
  ·cases h
 ·cases h
def ajk (d:AL) (k:H):Prop:=(∃j n,d=.int n/\∃m,k=.int j m)\/(d=.string/\∃l,k=.str l)\/(d=.bool/\∃q,k=.bool q)
def VR.of_int {k:tQ} {n:Int} (h:VR E ρ (.int k n) v):v=.int k n:=h
def VR.of_bool {b:aK} (h:VR E ρ (.bool b) v):v=.bool b:=h
def aeN {y:G Nat} (e:∀c∈q,c<256) (h:∀c∈y,c<256):(bC q==bC y)=(q==y):=by
 rw[beq_toListBytes,CW,CW,AP];simp only[xU];exact agW e h
def Si {d:AL} {k:H} {u:av} (b':ajk d k) (c':VR E ρ k u):∀{es:G (H×H)} {us:G Cg} {i:Nat} {q:ah (Nat×H)},vX E ρ es us->yG k es i=some q->
 (q=none/\Instr.findNow d u us i=some none)\/(∃j v F,q=some (j,v)/\Instr.findNow d u us i=some (some (j,F))/\VR E ρ v F/\i<=j/\∃e,us[j-i]?=some e/\e.key=u/\j-i<es.length)
 |[],us,i,q,e',h=>by
  rw[show us=[] from e']
  simp only[yG,aG] at h;exact .inl ⟨h.symm,rfl⟩
 |(k',v)::es,us,i,q,e',h=>by
  obtain⟨e,A,rfl,f',q',r'⟩:=e';have next:yG k es (i+1)=some q->Instr.sameNow d u e.key=some false->(q=none/\Instr.findNow d u (e::A) i=some none)\/(∃j v F,q=some (j,v)/\Instr.findNow d u (e::A) i=some (some (j,F))/\VR E ρ v F/\i<=j/\∃P,(e::A)[j-i]?=some P/\P.key=u/\j-i<((k',v)::es).length):=by
   intro g' d';rcases Si b' c' r' g' with⟨w,W⟩|⟨j,y,s',w,W,a',h',P,t',u',w'⟩
   ·exact .inl ⟨w,by simp only[Instr.findNow,d'];exact W⟩
   ·refine .inr ⟨j,y,s',w,by simp only[Instr.findNow,d'];exact W,a',by omega,P,?_,u',by simp only[gD];omega⟩
    rw[show j-i=(j-(i+1))+1 by omega]
    simpa using t'
  have T:some (i,v)=q->Instr.sameNow d u e.key=some true->e.key=u->(q=none/\Instr.findNow d u (e::A) i=some none)\/(∃j v F,q=some (j,v)/\Instr.findNow d u (e::A) i=some (some (j,F))/\VR E ρ v F/\i<=j/\∃P,(e::A)[j-i]?=some P/\P.key=u/\j-i<((k',v)::es).length):=by
   intro g' d' m';exact .inr ⟨i,v,e.val,g'.symm,by simp only[Instr.findNow,d'],q',bq _,e,by simp,m',by simp⟩
  simp only[yG] at h;split at h
  ·rename_i j n j' x'
   rcases b' with⟨n',o',rfl,p',w⟩|⟨rfl,l,w⟩|⟨rfl,l,w⟩<;>simp at w
   rw[c'.of_int] at*;rw[f'.of_int] at*;split at h
   ·rename_i v'
    subst v';split at h
    ·rename_i hn
     subst hn;exact T (bI h) (by simp[Instr.sameNow]) rfl
    ·rename_i hn
     exact next h (by simp[Instr.sameNow,hn])
   ·cases h
  ·rename_i l l'
   rcases b' with⟨n',o',rfl,p',w⟩|⟨rfl,i',w⟩|⟨rfl,i',w⟩<;>simp at w
   obtain⟨rfl,W⟩:=c';obtain⟨a',h'⟩:=f';split at h
   ·rename_i hn
    rw[xU] at hn;subst hn;exact T (bI h) (by simp only[Instr.sameNow,a',aeN W h'];simp) a'
   ·rename_i hn
    exact next h (by simp only[Instr.sameNow,a',aeN W h'];simpa using hn)
  ·rename_i l l'
   rcases b' with⟨n',o',rfl,p',w⟩|⟨rfl,i',w⟩|⟨rfl,i',w⟩<;>simp at w
   rw[c'.of_bool] at*;rw[f'.of_bool] at*;split at h
   ·rename_i hn
    rw[xU] at hn;subst hn;exact T (bI h) (by simp[Instr.sameNow]) rfl
   ·rename_i hn
    exact next h (by simp only[Instr.sameNow];simpa using hn)
  ·cases h
end
end
section
variable {E:Env} {X:Ctx}
section
variable {P:bA} {base:Nat} {ρ:Mp} {s s':St} {w:ak} {tm:Tr H} {a:Act} {o:Oper} {r:nO}
def aau {d:AL} {es:G Cg} {q:ah (Nat×av)} (e:P.underlying u=some d) (h:Instr.findNow d v es 0=some q):(Instr.findKey u v es).run P w=.ok q w:=by
 simp[Instr.findKey,underlying,e,h]
def aM7 {t kt e:dh} {u:av} {us:dF Cg} {d:AL} {ok:aK} (l:P.underlying t=some (.map kt e)) (q:(m=.map none/\us=#[])\/∃r cl,m=.map (some r)/\w.heap[r]?=some (.map us cl))
 (hc:∀b,(Instr.checkKey b 10000 kt u).run P w=.ok () w) (y:P.underlying kt=some d) (h:Instr.findNow d u us.toList 0=some (some (g,v))):
 (Instr.lookup t m u ok).run P w=.ok (if ok then .tuple #[v,.bool true] else v) w:=by
 have A:=aau (w:=w) y h;rcases q with⟨rfl,rfl⟩|⟨r,cl,rfl,U⟩
 ·simp[Instr.findNow] at h
 ·simp[Instr.lookup,underlying,l,getObj,Sem.run,U,hc,A]
def aM6 {kt e:dh} {z:av} {us:dF Cg} {d:AL} {ok:aK} (j:P.underlying u=some (.map kt e)) (q:(v=.map none/\us=#[])\/∃r cl,v=.map (some r)/\w.heap[r]?=some (.map us cl))
 (hc:∀b,(Instr.checkKey b 10000 kt m).run P w=.ok () w) (y:P.underlying kt=some d) (A:Instr.findNow d m us.toList 0=some none) (l:(zeroValue e).run P w=.ok z w):
 (Instr.lookup u v m ok).run P w=.ok (if ok then .tuple #[z,.bool false] else z) w:=by
 have h:=aau (w:=w) y A;rcases q with⟨rfl,rfl⟩|⟨r,cl,rfl,U⟩
 ·simp at h
  simp[Instr.lookup,underlying,j,hc,h,l]
 ·simp[Instr.lookup,underlying,j,getObj,Sem.run,U,hc,h,l]
def apw {es:G (H×H)} (h:HR E base ρ s w) (j:VR E ρ y v) (e:s.entries y=some es):∃us,vX E ρ es us.toList/\((v=.map none/\us=#[])\/∃r cl,v=.map (some r)/\w.heap[r]?=some (.map us cl)):=by
 unfold St.entries at e;split at e
 ·simp only[aG] at e
  subst e;exact⟨#[],rfl,.inl ⟨j,rfl⟩⟩
 ·split at e
  ·rename_i b T q
   simp only[aG] at e;subst e;obtain⟨l,u,A⟩:=j;obtain⟨_,arr,cl,F,P⟩:=h.at q u;exact⟨arr,P,.inr ⟨l.g,cl,A,F⟩⟩
  ·cases e
 ·cases e
def aEV (t:dh) (m k:je) (ok:aK) (N:o.op=.lookup t m k ok) (hf:FR E ρ tm a.tmps) (q:jw E X P ρ) (h:HR E base ρ s w) (he:iI P tm s o=some r):Good E P base ρ s w (execOp a.eval o) r:=by
 simp only[iI,N] at he;split at he
 ·rename_i kt e v key hu u y
  have A:=iA hf q u;have hk:=iA hf q y;split at he
  ·rename_i l
   split at he
   ·rename_i es z F h4
    obtain⟨us,h5,h6⟩:=apw h A F;have hc:=fun b=>(OZ (w:=w) l hk b).1;obtain⟨d,hd,hki⟩:=(OZ (w:=w) l hk true).2;split at he
    ·rename_i j v h7
     exact ap2
    ·rename_i h7
     exact aqU
    ·cases he
   ·cases he
  ·cases he
 ·cases he
def vX.push:∀{es:G (H×H)} {us:G Cg} {k v:H} {e:Cg},vX E ρ es us->VR E ρ k e.key->VR E ρ v e.val->vX E ρ (es++[(k,v)]) (us++[e])
 |[],us,k,v,e,h,j,l=>by rw[show us=[] from h];exact⟨e,[],rfl,j,l,rfl⟩
 |_::_,_,_,_,_,⟨u,q,j,l,w,y⟩,A,F=>⟨u,q++[_],by rw[j];rfl,l,w,y.push A F⟩
def vX.set:∀{es:G (H×H)} {us:G Cg} {k v:H} {f:Cg->Cg} (i:Nat),vX E ρ es us->(∀e,VR E ρ k (f e).key/\VR E ρ v (f e).val)->vX E ρ (es.set i (k,v)) (us.modify i f)
 |[],us,k,v,f,i,h,_=>by rw[show us=[] from h];simp[vX]
 |_::_,_,_,_,f,0,⟨j,l,u,_,_,w⟩,q=>⟨f j,l,by rw[u];rfl,(q j).1,(q j).2,w⟩
 |_::_,_,_,_,f,i+1,⟨j,l,u,y,A,w⟩,q=>⟨j,l.modify i f,by rw[u];rfl,y,A,w.set i q⟩
def HR.atg (h:HR E base ρ s w) {es e:G (H×H)} {l:Loc} {arr':dF Cg} {cl:Nat} (j:s.aP.get b=some (.map es)) (q:ρ b=some l) (u:vX E ρ e arr'.toList):
 HR E base ρ ⟨s.aP.set b (.map e),s.nx,s.J⟩ {w with heap:=w.heap.setIfInBounds l.g (.map arr' cl)}/\fA ρ s w ρ ⟨s.aP.set b (.map e),s.nx,s.J⟩ {w with heap:=w.heap.setIfInBounds l.g (.map arr' cl)}:=
 h.gZ (o':=.map e) j q trivial ⟨rfl,rfl,rfl⟩ bS (fun g y=>by simp[aaV (nJ y)]) ⟨(h.at j q).1,arr',cl,by
  have:=h.uO j q;simp[this],u⟩
def aM8 {d:AL} (j:ajk d y) (e:VR E ρ y v):Instr.sameBits 10000 v v=true:=by
 rcases j with⟨q,w,rfl,A,rfl⟩|⟨rfl,l,rfl⟩|⟨rfl,l,rfl⟩
 ·rw[e.of_int];simp[Instr.sameBits]
 ·obtain⟨rfl,h⟩:=e
  simp[Instr.sameBits,aeN h h]
 ·rw[e.of_bool];simp[Instr.sameBits]
def asn (t:dh) (m k x:je) (N:o.op=.mapUpdate t m k x\/o.op=.insert t m k x) (hf:FR E ρ tm a.tmps) (c':jw E X P ρ) (h:HR E base ρ s w) (i':iI P tm s o=some r):Good E P base ρ s w (execOp a.eval o) r:=by
 have W:execOp a.eval o=(do Instr.mapUpdate t (a.eval m) (a.eval k) (a.eval x);pure .skip):=by rcases N with N|N<;>simp only[execOp,N]
 rw[W];have j:s.agV P t (rd P tm m) (rd P tm k) (rd P tm x)=some r:=by rcases N with N|N<;>simpa only[iI,N] using i'
 unfold St.agV at j;clear i' W;split at j
 ·rename_i kt e b key v k' r' s' t'
  obtain⟨l,d',l'⟩:=iA hf c' r';have q:=iA hf c' s';have m':=iA hf c' t';split at j
  ·rename_i a'
   split at j
   ·rename_i es e'
    obtain⟨w',u,rfl⟩:=lq.1 j;have n':=h.at e' d';obtain⟨_,arr,cl,o',T⟩:=n';have hc:=fun b=>(OZ (w:=w) a' q b).1;obtain⟨d,p',A⟩:=(OZ (w:=w) a' q true).2;unfold atf at u;split at u
    ·rename_i i v0 f'
     simp only[aG] at u;subst u;rcases Si A q T f' with⟨y,_⟩|⟨j',v1,u',y,g',x',y',v',b',q',_⟩
     ·cases y
     ·simp only[aG,eG] at y
      obtain⟨rfl,rfl⟩:=y;have F:=aau (w:=w) p' g';rw[Cn] at b';have h':arr[i]?=some v':=by simpa using b'
      have hn:=h.atg (arr':=arr.modify i fun e=>{e with key:=a.eval k,val:=a.eval x}) (cl:=cl) e' d' (by
       rw[Array.toList_modify];exact T.set i fun e=>⟨q,m'⟩)
      refine⟨ρ,_,?_,hn.1,hn.2⟩;simp[Instr.mapUpdate,underlying,k',l',getObj,setObj,Sem.run,o',hc,F,h',q',Instr.keyThatStays,aM8 A q]
    ·rename_i f'
     simp only[aG] at u;subst u;rcases Si A q T f' with⟨_,g'⟩|⟨j',v1,u',y,_⟩
     ·have F:=aau (w:=w) p' g'
      have hn:=h.atg (arr':=arr.push {key:=a.eval k,val:=a.eval x,born:=cl}) (cl:=cl+1) e' d' (by
       rw[Array.toList_push];exact T.push q m')
      refine⟨ρ,_,?_,hn.1,hn.2⟩;simp[Instr.mapUpdate,underlying,k',l',getObj,setObj,Sem.run,o',hc,F]
     ·cases y
    ·cases u
   ·cases j
  ·cases j
 ·cases j
end
end
section
variable {E:Env} {X:Ctx}
section
variable {P:bA} {base:Nat} {ρ:Mp} {s s':St} {w:ak} {tm:Tr H} {a:Act} {o:Oper} {r:nO}
def aat {t ty e:dh} {i:TypeInfo} {j:AL} (l:P.underlying t=some (.slice e)) (J:P.info? e=some i) (q:P.underlying u=some j) (W:∀k,j≠.int k)
 {ba:ah Addr} {n cap:Nat} (A:(Builtin.lenOf v).run P w=.ok b w) (hf:(Builtin.firstCells i.size b v).run P w=.ok F w) (h:n+b<=cap):
 (Builtin.append_ #[t,u] ty #[.slice ba n cap,v]).run P w=((match ba with|some E=>storeCells (E.add (n*i.size)) F.toList|none=>pure ():Sem Unit).run P w).andThen fun _ w'=>.ok (.slice ba (n+b) cap) w':=by
 have T:(match j with|.int _=>true|_=>false)=false:=by
  cases j<;>first|rfl|exact(W _ rfl).elim
 cases ba with
 |none=>simp[Builtin.append_,underlying,l,q,T,sizeOf,typeInfo,J,A,hf,h]
 |some E=>simp[Builtin.append_,underlying,l,q,T,sizeOf,typeInfo,J,A,hf,h]
def aas {t ty e:dh} {i:TypeInfo} {h:AL} (T:P.underlying t=some (.slice e)) (J:P.info? e=some i) (A:i.zero=some v) (W:P.underlying u=some h) (y:∀k,h≠.int k)
 {ba:ah Addr} {n cap:Nat} {olds:dF av} (a':(Builtin.lenOf m).run P w=.ok b w) (hf:(Builtin.firstCells i.size b m).run P w.drew=.ok F w.drew) (E:(Builtin.firstCells i.size n (.slice ba n cap)).run P w.drew=.ok olds w.drew)
 (j:cap<n+b) (d':n+b<=1000000) (b':(n+b)*i.bytes<=1000000000):
 (Builtin.append_ #[t,u] ty #[.slice ba n cap,m]).run P w=
  .ok (.slice (some ⟨w.heap.size,0,none⟩) (n+b) (grownCap w (n+b) cap e)) (w.drew.alloc (.cells (olds++F++Builtin.zeroCells v.cells (grownCap w (n+b) cap e-(n+b))) e)):=by
 have c':(match h with|.int _=>true|_=>false)=false:=by
  cases h<;>first|rfl|exact(y _ rfl).elim
 have hn:¬(n+b<=cap):=I;have l:¬(9223372036854775807<((n:Int)+(b:Int))):=I;have e':Builtin.nextslicecap (n+b) cap*i.bytes<=281474976710656:=growslice_fits j I;have q:¬(281474976710656<Builtin.nextslicecap (n+b) cap*i.bytes):=I;simp[Builtin.append_,underlying,T,W,c',sizeOf,typeInfo,zeroValue,J,A,a',hn,l,q,Question.forced,hf,E,newRow,grownCap]
def cell_of_heap {w w':ak} (h:w'.heap=w.heap) (e:Addr):w'.cell? e=w.cell? e:=by simp[World.cell?,h]
def aGB {a':AL} {cs:G H} (e:ag4 s a' g y=some (i,cs)) (h:HR E base ρ s w) (F:VR E ρ y v):
 ∃A:dF av,(Builtin.lenOf v).run P w=.ok i w/\fq E ρ cs A.toList/\(∀w':ak,w'.heap=w.heap->(Builtin.firstCells g i v).run P w'=.ok A w')/\∀k,a'≠.int k:=by
 unfold ag4 at e;split at e
 ·simp only[aG,eG] at e
  obtain⟨rfl,rfl⟩:=e;rw[show v=_ from F]
  exact⟨#[],by simp[Builtin.lenOf],rfl,fun w' _=>by simp[Builtin.firstCells],by simp⟩
 ·simp only[aG,eG] at e
  obtain⟨rfl,rfl⟩:=e;obtain⟨T,c,rfl⟩:=F;refine⟨#[],by simp[Builtin.lenOf],rfl,fun w' _=>?_,by simp⟩
  cases T with
  |none=>simp[Builtin.firstCells]
  |some T=>
   have:=FW (P:=P) w' T [] bS;simp only[lN] at this;simp[Builtin.firstCells,this]
 ·rename_i b q n c z
  split at e
  ·rename_i m' d'
   simp only[aG,eG] at e;obtain⟨rfl,rfl⟩:=e;obtain⟨l,cap,e',rfl,_⟩:=F;obtain⟨vs,W,f',g'⟩:=h.load e' d';refine⟨vs.toArray,by simp[Builtin.lenOf],by simpa using W,fun w' h'=>?_,by simp⟩
   have:=FW (P:=P) w' ⟨l.g,l.d+q,none⟩ vs (fun j u i'=>by rw[cell_of_heap h',oH];exact g' j u i')
   rw[f'] at this;simp only[Builtin.firstCells];exact this
  ·cases e
 ·rename_i l
  simp only[aG,eG] at e;obtain⟨rfl,rfl⟩:=e;obtain⟨rfl,W⟩:=F;refine⟨(bC l).data.map fun b=>.int .u8 b.toNat,by simp[Builtin.lenOf,yt],?_,fun w' _=>?_,by simp⟩
  ·have j':∀l:G Nat,(∀x∈l,x<256)->fq E ρ (l.map aoR) (l.map fun n=>Value.int .u8 ((UInt8.ofNat n).toNat:Int)):=by
    intro l
    induction l with
    |nil=>intro _;rfl
    |cons x r k'=>
     intro b';have:=b' x bS;refine⟨_,_,rfl,?_,k' fun y l'=>b' y (by simp[l'])⟩
     show _=_;simp;omega
   simpa[bC,Function.comp_def] using j' l W
  ·have c':(bC l).extract 0 l.length=bC l:=by rw[aeM];simp
   simp[Builtin.firstCells,c']
 ·cases e
def HR.fill (h:HR E base ρ s w) {q:Nat} {vs:Tr H} {cs:G H} {u:G av} {l:Loc} (d':s.aP.get b=some (.cells false vs i)) (e':ρ b=some l) (W:fq E ρ cs u) (a':cs.all H.one=true) (hle:q+cs.length<=l.m):
 ∃w',(storeCells ⟨l.g,l.d+q,none⟩ u).run P w=.ok () w'/\HR E base ρ ⟨s.aP.set b (.cells false (nN vs q cs) (max i (q+cs.length))),s.nx,s.J⟩ w'/\fA ρ s w ρ ⟨s.aP.set b (.cells false (nN vs q cs) (max i (q+cs.length))),s.nx,s.J⟩ w':=by
 obtain⟨arr,e,fr,f',g',o',i',j'⟩:=h.at d' e';obtain⟨A,rfl⟩:=j' rfl;have g':=g' rfl;have k':=W.length;have y:=abz (P:=P) l.g (l.d+q) e u 0 arr w f' I (W.one a');rw[qy] at y;refine⟨_,y,h.gZ d' e' rfl ⟨rfl,rfl,rfl⟩ (by simp[World.setRow]) (fun g l'=>U3 w l.g g _ l') ⟨_,e,(0,0),abA w l.g arr _ e _ f',?_,by omega,fun j x m'=>?_,fun _=>⟨A,rfl⟩⟩⟩
 ·simp;omega
 ·rcases Cc m' with⟨F,b'⟩|⟨F,b'⟩
  ·obtain⟨v,c',T⟩:=W.get b'
   have n':j-q<u.length:=(gN.1 c').1;refine⟨by omega,v,?_,T⟩
   rw[Ee,tV,nI gJ,oI gJ];simp only[oL,yP];rw[show l.d+j-min (l.d+q) arr.size=j-q by omega]
   exact c'
  ·obtain⟨c',v,T,h'⟩:=i' j x b'
   refine⟨by omega,v,?_,h'⟩
   rw[Ee];rcases F with F|F
   ·rw[tV,oI gJ,uX I]
    simpa using T
   ·rw[nI gJ,P9]
    simp only[mD,oL,yP];rw[show l.d+q+u.length+(l.d+j-(min (l.d+q) arr.size+u.length))=l.d+j by omega]
    simpa using T
end
end
section
variable {E:Env} {X:Ctx}
section
variable {P:bA} {base:Nat} {ρ:Mp} {s s':St} {w:ak} {tm:Tr H} {a:Act} {o:Oper} {r:nO}
def take_left' {e:Type} {x y:G e} (h:b=x.length):(x++y).take b=x:=by subst h;simp
def aFe {t ty e:dh} {i:TypeInfo} {a':av} {j0:AL} {v:H} {m:Nat} {cs:G H} {X' a0:av} (A:agw s i y m cs=some (v,s')) (M':cs.length=m*i.size) (j':cs.all H.one=true)
 (k':P.underlying t=some (.slice e)) (J:P.info? e=some i) (P':i.zero=some a') (T':a'.cells.size=i.size) (L0:m<=1000000) (m':P.underlying u=some j0) (n':∀k,j0≠.int k) (h:HR E base ρ s w) (E':VR E ρ y X')
 (p':(Builtin.lenOf a0).run P w=.ok m w) (T:fq E ρ cs F.toList) (hf:∀w':ak,w'.heap=w.heap->(Builtin.firstCells i.size m a0).run P w'=.ok F w'):
 ∃k0 b0 w',(Builtin.append_ #[t,u] ty #[X',a0]).run P w=.ok k0 w'/\VR E b0 v k0/\HR E base b0 s' w'/\fA ρ s w b0 s' w':=by
 have f':F.toList.length=cs.length:=T.length;have M0:F.toList.length=F.size:=yP;unfold agw at A;split at A
 ·have E':X'=.slice none 0 0:=E'
  subst E';split at A
  ·rename_i l0
   subst l0;simp only[aG,eG] at A;obtain⟨rfl,rfl⟩:=A;have U:=aat (ty:=ty) (ba:=none) (n:=0) (cap:=0) k' J m' n' p' (hf w rfl) (bq _);exact⟨_,ρ,w,by rw[U];simp,rfl,h,fA.refl h⟩
  ·rename_i l0
   split at A
   ·rename_i m0
    simp only[aG,eG] at A;obtain⟨rfl,rfl⟩:=A;have U:=aas (ty:=ty) (ba:=none) (n:=0) (cap:=0) (olds:=#[]) k' J P' m' n' p' (hf w.drew rfl) (by simp[Builtin.firstCells]) I I (by simpa using m0)
    have b':=abu w (0+m) 0 e;have c':=abv w (0+m) 0 e wB
    generalize grownCap w (0+m) 0 e=nc at U b' c'
    have hn:=h.cells (cs:=cs) (arr:=#[]++F++Builtin.zeroCells a'.cells (nc-(0+m))) e (w.drew.alloc (.cells (#[]++F++Builtin.zeroCells a'.cells (nc-(0+m))) e)) ⟨rfl,rfl,rfl⟩ rfl (by
     rw[awP,awP,qW,take_left' f'.symm];exact T)
    refine⟨_,_,_,U,?_,hn.1,hn.2⟩;rw[jW] at*;refine⟨_,nc,Mp.nS _ _ _,rfl,bq _,b',c',?_⟩;have q':(Builtin.zeroCells a'.cells (nc-m)).size=(nc-m)*i.size:=by unfold Builtin.zeroCells;simp[T']
    have r':F.size=m*i.size:=by rw[<-M',<-f'];simp
    simp only[LX,q',r',wN,lN];have:nc*i.size=m*i.size+(nc-m)*i.size:=by rw[<-Cj];congr 1;omega
    omega
   ·cases A
 ·rename_i b q n c z
  obtain⟨l,cap,h',rfl,T0,x0,o0,A0⟩:=E';split at A
  rotate_left
  ·cases A
  rename_i D0;subst D0;split at A
  ·rename_i F'
   split at A
   ·rename_i vs k t'
    simp only[aG,eG] at A;obtain⟨rfl,rfl⟩:=A;have U:=aat (ty:=ty) (ba:=some ⟨l.g,l.d+q,none⟩) (n:=n) (cap:=cap) k' J m' n' p' (hf w rfl) I;have e':(n+m)*i.size<=cap*i.size:=Cm _ I;rw[Cj] at e';obtain⟨w',i',u',L'⟩:=h.fill (P:=P) (q:=q+n*i.size) t' h' T j' I;simp only[oH,Eh,i',Ei] at U;exact⟨_,ρ,w',U,⟨l,cap,h',rfl,by omega,x0,o0,A0⟩,u',L'⟩
   ·cases A
  ·rename_i F'
   split at A
   rotate_left
   ·cases A
   rename_i e0;split at A
   rotate_left
   ·cases A
   rename_i vs k qR t' r0;simp only[aG,eG] at A;obtain⟨rfl,rfl⟩:=A;obtain⟨olds,i',u',L'⟩:=h.load h' r0;have w0:qR.length=n*i.size:=by rw[<-i'.length];exact u'
   have s0:=h.at t' h';obtain⟨arr,f0,fr,g0,t0,W0,X0,E0⟩:=s0;obtain⟨g',rfl⟩:=E0 rfl;have t0:=t0 rfl
   by_cases v':n+m<=cap
   ·have U:=aat (ty:=ty) (ba:=some ⟨l.g,l.d+q,none⟩) (n:=n) (cap:=cap) k' J m' n' p' (hf w rfl) v'
    have e':(n+m)*i.size<=cap*i.size:=Cm _ v';rw[Cj] at e';have x':=abz (P:=P) l.g (l.d+q+n*i.size) f0 F.toList 0 arr w g0 I (T.one j');rw[qy] at x';simp only[oH,x',Ei] at U;have y':=(i'.append T).mono (Mp.JH (l:=⟨l.g,l.d+q,l.m-q⟩) (h.fresh.1));refine⟨.slice (some ⟨l.g,l.d+q,none⟩) (n+m) cap,ρ.on s.nx ⟨l.g,l.d+q,l.m-q⟩,_,U,⟨_,cap,Mp.nS _ _ _,rfl,bq _,v',o0,by simp;omega⟩,h.move (o':=.cells false (nN .leaf 0 (qR++cs)) (qR++cs).length) (l':=⟨l.g,l.d+q,l.m-q⟩) t' h' rfl ⟨rfl,rfl,rfl⟩ (by simp[World.setRow]) (fun g _ h0=>U3 w l.g g _ h0) (.inl rfl) g'
     ⟨_,f0,(0,0),abA w l.g arr _ f0 _ g0,?_,?_,fun j y z'=>?_,fun _=>⟨g',rfl⟩⟩⟩
    ·simp;omega
    ·simp;omega
    ·rcases Cc z' with⟨_,W⟩|⟨_,W⟩
     ·rw[Cn] at W
      obtain⟨A',d',i0⟩:=y'.get W;refine⟨(gN.1 W).1,A',?_,i0⟩;have D':j<olds.length+F.toList.length:=by have:=(gN.1 d').1;simpa using this
      dsimp only;rw[Ee]
      by_cases u0:j<olds.length
      ·rw[oI u0] at d'
       have hc:=L' j A' d';rw[gX w _ _ _ _ _ g0] at hc;rw[tV,oI gJ,uX I]
       simpa using hc
      ·rw[nI I] at d'
       rw[tV,nI gJ,oI (by simp;simp at D';omega)]
       simp only[oL,yP];rw[show l.d+q+j-min (l.d+q+n*i.size) arr.size=j-olds.length by omega]
       exact d'
     ·cases W
   ·have v0:(Builtin.firstCells i.size n (.slice (some ⟨l.g,l.d+q,none⟩) n cap)).run P w.drew=.ok olds.toArray w.drew:=by
     have:=FW (P:=P) w.drew ⟨l.g,l.d+q,none⟩ olds (fun j u z'=>by rw[cell_of_heap (w:=w) (w':=w.drew) rfl,oH];exact L' j u z')
     rw[u'] at this;simp only[Builtin.firstCells];exact this
    have U:=aas (ty:=ty) k' J P' m' n' p' (hf w.drew rfl) v0 I I e0.2;have b':=abu w (n+m) cap e;have c':=abv w (n+m) cap e wB
    generalize grownCap w (n+m) cap e=nc at U b' c'
    have y':=(i'.append T).mono (Mp.JH (l:=⟨w.heap.size,0,(olds.toArray++F++Builtin.zeroCells a'.cells (nc-(n+m))).size⟩) (h.fresh.1));have P0:olds.length=qR.length:=i'.length;have F0:F.size=cs.length:=by rw[<-f'];simp
    have W':=h.move (o':=.cells false (nN .leaf 0 (qR++cs)) (qR++cs).length) (l':=⟨w.heap.size,0,(olds.toArray++F++Builtin.zeroCells a'.cells (nc-(n+m))).size⟩) (w':=w.drew.alloc (.cells (olds.toArray++F++Builtin.zeroCells a'.cells (nc-(n+m))) e)) t' h' rfl ⟨rfl,rfl,rfl⟩ bS (fun g h0 _=>agA w.drew _ g h0) (.inr (bq _)) h.base
     ⟨_,e,(0,0),lu w.drew _,by simp,by simp only[mD,LX,wN];omega,fun j y z'=>?_,fun _=>⟨h.base,rfl⟩⟩
    ·refine⟨_,_,_,U,⟨_,nc,Mp.nS _ _ _,rfl,bq _,b',c',?_⟩,W'.1,W'.2⟩
     have q':(Builtin.zeroCells a'.cells (nc-(n+m))).size=(nc-(n+m))*i.size:=by unfold Builtin.zeroCells;simp[T']
     have r':F.size=m*i.size:=by rw[<-M',<-f'];simp
     simp only[LX,q',r',wN,u'];have:nc*i.size=n*i.size+m*i.size+(nc-(n+m))*i.size:=by rw[<-Cj,<-Cj];congr 1;omega
     omega
    ·rcases Cc z' with⟨_,W⟩|⟨_,W⟩
     ·rw[Cn] at W
      obtain⟨A',d',i0⟩:=y'.get W;refine⟨(gN.1 W).1,A',?_,i0⟩;have D':=(gN.1 d').1;show(olds.toArray++F++Builtin.zeroCells a'.cells (nc-(n+m)))[0+j]?=some A';rw[jW,UC (by simpa using D'),<-d',<-J2]
      simp
     ·cases W
 ·cases A
end
end
section
variable {E:Env} {X:Ctx}
section
variable {P:bA} {base:Nat} {ρ:Mp} {s s':St} {w:ak} {tm:Tr H} {a:Act} {o:Oper} {r:nO}
def vX.length {ρ:Mp}:∀{es:G (H×H)} {us:G Cg},vX E ρ es us->us.length=es.length
 |[],_,h=>by rw[show _=[] from h];rfl
 |_::_,_,⟨_,_,e,_,_,j⟩=>by rw[e,gD,j.length,gD]
def aF7 {t:dh} {rest:G dh} {u:av} (ty:dh) (j:dF aK) (h:HR E base ρ s w) (hv:VR E ρ y u) (he:Gi P s .len (t::rest) [y]=some r):Good E P base ρ s w (builtin .len (List.toArray (t::rest)) ty j #[u]) r:=by
 simp only[Gi] at he;split at he
 ·rename_i l hu
  simp only[aG] at he;subst he;obtain⟨rfl,_⟩:=hv;exact Good.same h (u:=.int .i64 l.length) (by simp[builtin,Builtin.len_,underlying,hu,goInt,yt]) rfl
 ·rename_i e hu
  exact aqV
 ·rename_i e hu
  simp only[aG] at he;subst he;obtain⟨_,_,rfl⟩:=hv;exact Good.same h (u:=.int .i64 0) NZ rfl
 ·rename_i e b q n c z hu
  simp only[aG] at he;subst he;obtain⟨_,_,_,rfl,_⟩:=hv;exact Good.same h (u:=.int .i64 n) NZ rfl
 ·rename_i k e hu
  exact aqV
 ·rename_i k e b hu
  split at he
  ·rename_i es F
   simp only[aG] at he;subst he;obtain⟨l,T,rfl⟩:=hv;obtain⟨_,arr,cl,W,a'⟩:=h.at F T;have A:=a'.length;rw[yP] at A;exact Good.same h (u:=.int .i64 es.length) (by simp[builtin,Builtin.len_,underlying,hu,goInt,getObj,Sem.run,W,A]) rfl
  ·cases he
 ·rename_i n e hu
  simp only[aG] at he;subst he;exact Good.same h (u:=.int .i64 n) NZ rfl
 ·cases he
def aBw {t:dh} {x v:H} {A F:av} (ty:dh) (h:HR E base ρ s w) (g':VR E ρ x A) (h':VR E ρ y F) (j:aex P s t u x y=some (v,s')):
 ∃T l w',(Builtin.append_ #[t,u] ty #[A,F]).run P w=.ok T w'/\VR E l v T/\HR E base l s' w'/\fA ρ s w l s' w':=by
 unfold aex at j;split at j
 ·rename_i e u' i' j'
  split at j
  ·rename_i i z W k'
   split at j
   ·rename_i m cs l'
    split at j
    ·rename_i hc
     obtain⟨a',q,m',b'⟩:=hc;obtain⟨v',n',o',p',q'⟩:=Uz (E:=E) (ρ:=ρ) k';obtain rfl:=bI (W.symm.trans o');have c':n'.cells.size=i.size:=by rw[<-m',<-q'.length];simp
     obtain⟨r',t',d',e',f'⟩:=aGB (P:=P) l' h h';exact aFe j a' q (Yh i') W p' c' b' j' f' h g' t' d' e'
    ·cases j
   ·cases j
  ·cases j
 ·cases j
def aCq {b:Builtin} {ts:G dh} {args:G H} {us:G av} (ty:dh) (j:dF aK) (h:HR E base ρ s w) (q:fq E ρ args us) (e:Gi P s b ts args=some r):Good E P base ρ s w (builtin b (List.toArray ts) ty j (List.toArray us)) r:=by
 unfold Gi at e;split at e
 ·obtain⟨u,_,rfl,l,rfl⟩:=q
  exact aF7 ty j h l e
 ·obtain⟨u,_,rfl,l,v,_,rfl,y,rfl⟩:=q
  split at e
  ·rename_i d' s' A
   simp only[aG] at e;subst e;obtain⟨F,T,w',W,a',b',c'⟩:=aBw ty h l y A;exact⟨F,T,w',by simp[builtin,W],a',b',c'⟩
  ·cases e
 ·obtain⟨u,_,rfl,l,v,_,rfl,y,rfl⟩:=q
  simp only[aG] at e;subst e;rw[show u=_ from l,show v=_ from y]
  exact Good.same h (by simp[builtin,Builtin.max_,Builtin.max2]) rfl
 ·cases e
end
end
section
variable {E:Env} {X:Ctx}
section
variable {P:bA} {base:Nat} {ρ:Mp} {s s':St} {w:ak} {tm:Tr H} {a:Act} {o:Oper} {r:nO}
def ah1 {g:ig} (args:dF av) (h:enters P g=true):(callFunc g args).run P w=.ok (.enter g args) w:=by
 unfold enters at h;split at h
 ·rename_i fn e
  simp only[bU,Im] at h;have j:¬(fn.body=none):=by intro l;rw[l] at h;simp at h
  have hn:¬(fn.name= "runtime.NumGoroutine"):=by simpa using h.2
  simp[callFunc,e,hn,j]
 ·cases h
def aEO (c:Call) (N:o.op=.call c) (hf:FR E ρ tm a.tmps) (j:jw E X P ρ) (h:HR E base ρ s w) (e:iI P tm s o=some r):Good E P base ρ s w (execOp a.eval o) r:=by
 simp only[iI,N] at e;split at e
 ·cases e
 ·rename_i args F
  have l:=Ib hf j F;have agy:c.args.map a.eval=List.toArray (c.args.toList.map a.eval):=(Zz _ _).symm;split at e
  ·rename_i b hc
   have:=aCq o.type (c.args.map fun|.const _=>true|_=>false) h l e
   have q:execOp a.eval o=builtin b (List.toArray c.argTypes.toList) o.type (c.args.map fun|.const _=>true|_=>false) (List.toArray (c.args.toList.map a.eval)):=by
    exact Yq
   rw[q];exact this
  ·rename_i f hc
   split at e
   ·rename_i g first cap T
    split at e
    ·rename_i u
     simp only[aG] at e;subst e;obtain⟨y,A,W,a',b'⟩:=iA hf j T;refine⟨rfl,y++c.args.toList.map a.eval++A,?_,(a'.append l).append b'⟩;have:=ah1 (P:=P) (w:=w) (List.toArray (y++c.args.toList.map a.eval++A)) u;rw[<-this];simp only[execOp,N,resolve,hc,agy,W,Deferred.ofValue,invoke,Ma,Qb,Ei,Ed]
    ·cases e
   ·cases e
  ·cases e
end
def aDE {P:bA} {ρ:Mp} {s:St} {tm:Tr H} {a:Act} {o:Oper} {r:nO} (hf:FR E ρ tm a.tmps) (l:jw E X P ρ) (h:HR E b ρ s W) (j:iI P tm s o=some r):Good E P b ρ s W (execOp a.eval o) r:=by
 cases N:o.op
 case move x=>exact aso x (.inl N) hf l h j
 case assign x=>exact aso x (.inr N) hf l h j
 case pick c x y=>exact aEZ c x y N hf l h j
 case alloc e=>exact aEI e N h j
 case box e x=>exact aEL e x N hf l h j
 case build t parts=>exact aEM t parts N hf l h j
 case buildSlice t n parts=>exact aEN t n parts N hf l h j
 case load t x=>exact aEU t x N hf l h j
 case store t x y=>exact aE1 t x y N hf l h j
 case nilCheck x=>exact aEY x N hf l h j
 case binOp op t x y q=>exact aEK op t q x y N hf l h j
 case unOp u t x=>exact aFd u t x N hf l h j
 case makeFunc f x y=>exact aEW f x y N hf l h j
 case makeMap t x=>exact aEX t x N hf l h j
 case slice t x lo J A=>exact aE0 t x lo J A N hf l h j
 case fieldAddr t x k=>exact aER t x k N hf l h j
 case field t x k=>exact aEQ t x k N hf l h j
 case indexAddr t x y=>exact aET t x y N hf l h j
 case index t x y=>exact aES t x y N hf l h j
 case lookup t m k ok=>exact aEV t m k ok N hf l h j
 case mapUpdate t m k x=>exact asn t m k x (.inl N) hf l h j
 case insert t m k x=>exact asn t m k x (.inr N) hf l h j
 case extract t k=>exact aEP t k N hf l h j
 case call c=>exact aEO c N hf l h j
 all_goals simp[iI,N] at j
end
section
variable {E:Env} {X:Ctx}
def arQ:∀{l:G (Y×Y)} {e v:Y},findF l e=some v->(e,v)∈l
 |[],_,_,h=>by simp[findF] at h
 |(a,q)::r,e,v,h=>by
  simp only[findF] at h;split at h
  ·rename_i j
   simp only[aG] at h;subst h;rw[Y.jZ j];exact jG
  ·exact gF _ (arQ h)
def Jm:∀{F:G (Y×Y)} {e c:Y},Di F e=some c->(.bin .eql e c,.bool true)∈F/\((∃l,c=.str l)\/∃k n,c=.int k n)
 |[],_,_,h=>by simp[Di] at h
 |(a,v)::r,e,c,h=>by
  simp only[Di] at h;split at h
  ·split at h
   ·rename_i j
    simp only[aG] at h;subst h;rw[Y.jZ j];exact⟨jG,.inl ⟨_,rfl⟩⟩
   ·exact⟨gF _ (Jm h).1,(Jm h).2⟩
  ·split at h
   ·rename_i j
    simp only[aG] at h;subst h;rw[Y.jZ j];exact⟨jG,.inr ⟨_,_,rfl⟩⟩
   ·exact⟨gF _ (Jm h).1,(Jm h).2⟩
  ·exact⟨gF _ (Jm h).1,(Jm h).2⟩
def aDt (w:iX E X) (h:Di X.facts x=some (.str q)):den E.val x=some (.str q):=by
 have u:=w.facts _ _ (Jm h).1;simp only[den] at u;obtain⟨d,y,j⟩:=kW.1 u;simp only[f_] at j;cases d with
 |str l'=>
  simp only[jl,aG,D.bool.injEq,xU] at j;rw[y,j]
 |int _ _=>simp[jl] at j
 |bool _=>simp[jl] at j
 |R _=>simp[jl] at j
 |any _=>simp[jl] at j
def apz (q:iX E X) {k:tQ} {n:Int} (h:Di X.facts x=some (.int k n)):den E.val x=some (.int k n):=by
 have l:=q.facts _ _ (Jm h).1;simp only[den] at l;obtain⟨d,u,j⟩:=kW.1 l;simp only[f_] at j;cases d with
 |int k' y=>
  simp only[jl] at j;split at j
  ·rename_i w
   subst w;simp only[aG,D.bool.injEq,xU] at j;rw[u,j]
  ·cases j
 |str _=>simp[jl] at j
 |bool _=>simp[jl] at j
 |R _=>simp[jl] at j
 |any _=>simp[jl] at j
def HY (j:iX E X) (e:Y):den E.val (DN X e)=den E.val e:=by
 unfold DN;split
 ·rename_i v h
  exact(j.facts _ _ (arQ h)).symm
 ·split
  ·split
   ·rename_i h
    simp only[den,aDt j h,f_,jl]
   ·rfl
  ·split
   ·rename_i h
    split
    ·rename_i l
     simp only[den,apz j h,f_,jl,l,qX]
    ·rfl
   ·rfl
  ·split
   ·rename_i h
    exact(apz j h).symm
   ·rfl
  ·rfl
def aC6 {E:Env} {b:aK} (h:den E.val x=some (.bool b)):den E.val (.not x)=some (.bool !b):=by
 simp only[den,h,f_,Tx]
def aB2 {b:D} {c:aK}:(jl .geq d b=some (.bool c)->jl .lss d b=some (.bool !c))/\(jl .lss d b=some (.bool c)->jl .geq d b=some (.bool !c)):=by
 unfold jl;split
 ·split
  ·simp only[aG,D.bool.injEq]
   refine⟨fun h=>?_,fun h=>?_⟩
   ·rw[<-h,<-decide_not,decide_eq_decide];omega
   ·rw[<-h,<-decide_not,decide_eq_decide];omega
  ·exact afN
 ·simp only[aG,D.bool.injEq]
  exact⟨fun h=>by rw[<-h];simp,fun h=>by rw[<-h]⟩
 ·exact afN
 ·exact afN
def apc {E:Env} {y:Y} {c:aK}:(den E.val (.bin .geq x y)=some (.bool c)->den E.val (.bin .lss x y)=some (.bool !c))/\(den E.val (.bin .lss x y)=some (.bool c)->den E.val (.bin .geq x y)=some (.bool !c)):=by
 simp only[den];cases den E.val x with
 |none=>exact⟨fun h=>Dm,fun h=>by cases h⟩
 |some a=>
  cases den E.val y with
  |none=>exact⟨fun h=>Dm,fun h=>by cases h⟩
  |some b=>exact aB2
def JF (l:iX E X) (e:Y):den E.val (vM X e)=den E.val e:=by
 unfold vM;split
 ·rename_i x
  split
  ·rename_i b h
   have j:=HY l x;rw[h] at j;exact(aC6 j.symm).symm
  ·exact HY l _
 ·rename_i a b
  split
  ·rename_i c h
   rw[<-h];exact HY l _
  ·split
   ·rename_i c h
    have j:=HY l (.bin .lss a b);rw[h] at j;exact(apc.2 j.symm).symm
   ·rfl
 ·rename_i a b
  split
  ·rename_i c h
   rw[<-h];exact HY l _
  ·split
   ·rename_i c h
    have j:=HY l (.bin .geq a b);rw[h] at j;exact(apc.1 j.symm).symm
   ·rfl
 ·rename_i a lo J
  split
  ·rename_i n h
   split
   ·rename_i hlt
    have j:=HY l (.len a);rw[h] at j;simp only[den] at j⊢;obtain⟨x,q,h3⟩:=kW.1 j.symm;rw[q];simp only[f_];unfold sD at h3;split at h3
    ·exact arz
    ·exact arz
    ·cases h3
   ·rfl
  ·exact HY l _
 ·exact HY l _
section
variable {P:bA} {base:Nat} {ρ:Mp} {s s':St} {w:ak} {tm:Tr H} {a:Act} {o:Oper} {r:nO}
def aBB {u:av} (h:den E.val x=some d) (hd:DR ρ.fz d u):VR E ρ (aeC x) u:=by
 unfold aeC;split
 ·exact afX
 ·exact afX
 ·exact afX
 ·exact⟨d,h,hd⟩
def wI (j:iX E X) {u:av} (h:den E.val x=some d) (l:DR ρ.fz d u):VR E ρ (xL X x) u:=aBB (by rw[JF j];exact h) l
def JW {u:av} (j:VR E ρ y u) (h:zD y=some x):∃d,den E.val x=some d/\DR ρ.fz d u:=by
 unfold zD at h;split at h<;>first|(cases h;done)|(simp only[aG] at h;subst h)
 ·exact⟨_,rfl,j⟩
 ·exact⟨_,rfl,j⟩
 ·exact⟨_,rfl,j⟩
 ·exact j
 ·exact⟨.R [],rfl,none,0,j,bq _,gK _,.inl rfl⟩
 ·obtain⟨a,j⟩:=j;exact⟨.R [],rfl,a,0,j,bq _,gK _,.inl rfl⟩
def agz (j:iX E X) (h:holds X x=true):den E.val x=some (.bool true):=by
 unfold holds asR at h;split at h
 ·rename_i l
  rw[<-JF j,l]
  rfl
 ·cases h
def zX:D->H
 |.int k n=>.int k n
 |.bool b=>.bool b
 |.str l=>.str l
 |.R rows=>.S (.lit (.R rows))
 |.any x=>.S (.lit (.any x))
def aeB {u:av} (h:DR ρ.fz d u):VR E ρ (zX d) u:=by
 cases d with
 |R rows=>exact⟨_,rfl,h⟩
 |any _=>exact h.elim
 |_=>exact h
def aBA {u:av} (h:VR E ρ (zX d) u):DR ρ.fz d u:=by
 cases d with
 |R rows=>obtain⟨l,e,j⟩:=h;simp only[den,aG] at e;subst e;exact j
 |any x=>obtain⟨l,e,j⟩:=h;simp only[den,aG] at e;subst e;exact j
 |_=>exact h
def xJ (j:iX E X) {k:Kd} (h:den E.val x=some d) (l:pI X x=some k):aW X.kt d k:=Lg j.kinds x d k h l
def aFg (q:iX E X) (h:den E.val x=some d) (j:isInt (pI X x)=true):∃k n,d=.int k n:=by
 unfold isInt at j;split at j
 ·rename_i k l
  obtain⟨n,rfl⟩:=(xJ q h l).int;exact⟨k,n,rfl⟩
 ·cases j
def Uq (l:iX E X) {u:av} (q:VR E ρ y u) (h:zD y=some x) (w:isInt (pI X x)=true):∃k n,den E.val x=some (.int k n)/\u=.int k n:=by
 obtain⟨d,j,A⟩:=JW q h;obtain⟨k,n,rfl⟩:=aFg l j w;exact⟨k,n,j,A⟩
def aaK (q:iX E X) {u:av} {e:Y} (w:VR E ρ y u) (h:zD y=some e) (A:pI X e=some .str):∃l,den E.val e=some (.str l)/\u=.string (bC l)/\∀x∈l,x<256:=by
 obtain⟨d,j,F⟩:=JW w h;obtain⟨l,rfl,_⟩:=(xJ q j A).str;exact⟨l,j,F⟩
def Ud (l:iX E X) {z:Nat} (h:den E.val x=some d) (j:LB X x=some z):∃rows,d=.R rows/\∀row∈rows,row.length=z:=by
 unfold LB at j;split at j
 ·rename_i T q
  simp only[aG] at j;obtain⟨rows,rfl,u⟩:=aW.fn (xJ l h q) rfl;exact⟨rows,rfl,fun row U=>by rw[<-j];exact(u.mem row U).length⟩
 ·cases j
def afA {z:Nat} (h:DR ρ.fz (.R e) v) (w:∀row∈e,row.length=z):∃j cap,v=.slice j e.length cap/\e.length<=cap/\cap<=maxLen/\(e=[]\/∃g d arr T fr,j=some ⟨g,d,none⟩/\ρ.fz g=some (.cells arr T fr)/\iV ρ.fz z e arr d):=by
 obtain⟨j,cap,y,A,E,l⟩:=h;refine⟨j,cap,y,A,E,?_⟩;rcases l with l|⟨g,d,arr,T,fr,F,P,W,q⟩
 ·exact .inl l
 ·cases e with
  |nil=>exact .inl rfl
  |cons r rs=>
   have:F=z:=by rw[<-q.1];exact w r jG
   subst this;exact .inr ⟨g,d,arr,T,fr,P,W,q⟩
def aB1 (l:iX E X) {t:dh} {op:BinOp} {y:Y} {T:D} (W:den E.val x=some d) (q:den E.val y=some T) (e:aeI P t op y (pI X x) (pI X y)=true):
 ∃a',jl op d T=some a'/\nP P t op (zX d) (zX T)=some (zX a')/\(∀u,DR ρ.fz d u->u≠.nilIface):=by
 unfold aeI at e;split at e
 ·rename_i k k' h j
  obtain⟨n,rfl⟩:=(xJ l W h).int;obtain⟨m,rfl⟩:=(xJ l q j).int;simp only[bU,iL] at e;obtain⟨rfl,e⟩:=e;have hn:∀u,DR ρ.fz (.int k n) u->u≠.nilIface:=fun u w=>by rw[show u=_ from w];simp
  have F:nzS y=true->m≠0:=fun A=>by
   unfold nzS at A;split at A
   ·simp only[den,aG,D.int.injEq] at q
    obtain⟨_,rfl⟩:=q
    simpa using A
   ·cases A
  cases op<;>first|(cases e;done)|exact⟨_,bK rfl,bK rfl,hn⟩|exact⟨_,(bK rfl).trans (bB (F e)),(bK rfl).trans (bB (F e)),hn⟩
 ·rename_i h j
  obtain⟨n,rfl,_⟩:=(xJ l W h).str;obtain⟨m,rfl,_⟩:=(xJ l q j).str;have hn:∀u,DR ρ.fz (.str n) u->u≠.nilIface:=fun u w=>by rw[w.1];simp
  split at e<;>first|(cases e;done)|exact⟨_,rfl,rfl,hn⟩
 ·rename_i h j
  obtain⟨n,rfl⟩:=(xJ l W h).bool;obtain⟨m,rfl⟩:=(xJ l q j).bool;have hn:∀u,DR ρ.fz (.bool n) u->u≠.nilIface:=fun u w=>by rw[show u=_ from w];simp
  split at e<;>first|(cases e;done)|(rename_i b';exact⟨_,rfl,by simp only[zX,nP,NS,b'];rfl,hn⟩)
 ·cases e
def atu (j:iX E X) {k:tQ} {n:Int} (h:den E.val x=some (.int k n)) (hn:Pe X x=true):0<=n:=by
 unfold Pe at hn;split at hn
 ·rename_i k' m
  simp only[den,aG,D.int.injEq] at h;rw[<-h.2];exact Int.natCast_nonneg m
 ·have:=agz j hn
  simp only[den,h,f_,jl] at this;split at this
  ·simpa using this
  ·cases this
def aCT (hx:iX E X) {b:Y} {k k':tQ} {n m:Int} (h1:den E.val x=some (.int k n)) (h2:den E.val b=some (.int k' m)) (h:Dc X .lss x b=true):n<m:=by
 unfold Dc at h;split at h
 ·exact apH
 ·exact absurd ‹BinOp.lss=BinOp.leq› jK
 ·exact arE
def ao5 (hx:iX E X) {b:Y} {k k':tQ} {n m:Int} (h1:den E.val x=some (.int k n)) (h2:den E.val b=some (.int k' m)) (h:Dc X .leq x b=true):n<=m:=by
 unfold Dc at h;split at h
 ·exact absurd ‹BinOp.leq=BinOp.lss› jK
 ·exact apH
 ·exact arE
def asF (j:iX E X) {i:Y} {k:tQ} {n:Int} {L:Nat} (q:den E.val x=some d) (hL:sD d=some (.int .i64 (L:Int))) (l:den E.val i=some (.int k n)) (h:Zi X x i=true):∃m:Nat,n=m/\m<L:=by
 unfold Zi at h;simp only[bU] at h;have u:=atu j l h.1;have w:=aCT j l (by rw[JF j];simp only[den,q,f_];exact hL) h.2
 exact⟨n.toNat,by omega,by omega⟩
def aE2 (op:BinOp) (t c':dh) (x y:je) (N:o.op=.binOp op t x y c') (hf:FR E ρ tm a.tmps) (j:jw E X P ρ) (h:HR E base ρ s w) (e:nC X P tm s o=some r):Good E P base ρ s w (execOp a.eval o) r:=by
 simp only[nC,N] at e;split at e
 ·rename_i va vb d' e'
  split at e
  ·rename_i e1 k' f' g'
   split at e
   ·rename_i h'
    simp only[aG] at e;subst e;obtain⟨d1,l,q⟩:=JW (iA hf j d') f';obtain⟨l',A,i'⟩:=JW (iA hf j e') g';obtain⟨m',j',F,T⟩:=aB1 (ρ:=ρ) j.ok l A h';obtain⟨u,W,a',b'⟩:=ah0 (P:=P) (w:=w) (X:=x) (fB:=y) (aeB (E:=E) q) (aeB i') (.inl (T _ q)) F;exact Good.same h (by simp[execOp,N,W,a']) (wI j.ok (by simp only[den,l,A,f_,j']) (aBA (E:=E) b'))
   ·cases e
  ·cases e
 ·cases e
def aFc (u:UnOp) (t:dh) (x:je) (N:o.op=.unOp u t x) (hf:FR E ρ tm a.tmps) (l:jw E X P ρ) (h:HR E base ρ s w) (j:nC X P tm s o=some r):Good E P base ρ s w (execOp a.eval o) r:=by
 simp only[nC,N] at j;split at j
 ·rename_i e y
  split at j
  ·rename_i A
   simp only[aG] at j;subst j;obtain⟨k,n,q,F⟩:=Uq l.ok (iA hf l y) rfl A;exact Good.same h (u:=.int k (k.wrap (0-n))) (by simp[execOp,N,F,Op.unary,Op.intArith]) (wI l.ok (d:=.int k (k.wrap (0-n))) (by simp only[den,q,f_,ag2]) rfl)
  ·cases j
 ·rename_i e y
  split at j
  ·rename_i A
   simp only[aG] at j;subst j;obtain⟨d,q,T⟩:=iA hf l y;obtain⟨b,rfl⟩:=(xJ l.ok q A).bool;have F:a.eval x=_:=T;exact Good.same h (u:=.bool (!b)) (by simp[execOp,N,F,Op.unary]) (wI l.ok (d:=.bool (!b)) (by simp only[den,q,f_,Tx]) rfl)
  ·cases j
 ·cases j
def aE4 (a' b':dh) (x:je) (N:o.op=.convert a' b' x) (hf:FR E ρ tm a.tmps) (q:jw E X P ρ) (h:HR E base ρ s w) (j:nC X P tm s o=some r):Good E P base ρ s w (execOp a.eval o) r:=by
 simp only[nC,N] at j;split at j
 ·rename_i i k e y A F
  split at j
  ·rename_i T
   simp only[aG] at j;subst j;obtain⟨k',n,W,c'⟩:=Uq q.ok (iA hf q F) rfl T;exact Good.same h (u:=.int k (k.wrap n)) (by simp[execOp,N,c',convert,underlying,y,A,Conv.intToInt]) (wI q.ok (d:=.int k (k.wrap n)) (by simp only[den,W,f_,afe]) rfl)
  ·cases j
 ·rename_i i e y A F
  split at j
  ·rename_i T
   simp only[aG] at j;subst j;obtain⟨l,W,d',e'⟩:=aaK q.ok (iA hf q F) rfl T;exact Good.same h (u:=.string (bC l)) (by simp[execOp,N,d',convert,underlying,y,A]) ⟨_,W,rfl,e'⟩
  ·cases j
 ·cases j
def ao0 (l:iX E X) {e i:Y} {rows:G (G D)} {k:tQ} {n q:Nat} {row:G D} {arr:dF av} (w:den E.val e=some (.R rows)) (y:den E.val i=some (.int k (n:Nat))) (A:rows[n]?=some row) (F:mR ρ.fz row arr q):
 ∀(m j:Nat),j+m<=row.length->∃us,fq E ρ (afa X e i j m) us/\us.length=m/\∀x u,us[x]?=some u->arr[q+j+x]?=some u
 |0,j,_=>⟨[],rfl,rfl,by simp⟩
 |m+1,j,hle=>by
  obtain⟨us,T,W,a'⟩:=ao0 l w y A F m (j+1) I;have P:row[j]?=some (row[j]'I):=gM _;obtain⟨u,b',c'⟩:=F.get P;refine⟨u::us,⟨u,us,rfl,wI l (d:=row[j]'I) ?_ c',T⟩,by simp[W],fun x d' h=>?_⟩
  ·simp only[den,w,y,f_]
   show(match rows[n]? with|some row=>row[j]?|none=>none)=_
   rw[A];exact P
  ·cases x with
   |zero=>simp at h;subst h;exact b'
   |succ x=>
    have:=a' x d' (by simpa using h)
    rw[<-this]
    congr 1
    omega
def aE8 (t:dh) (x:je) (N:o.op=.load t x) (hf:FR E ρ tm a.tmps) (A:jw E X P ρ) (h:HR E base ρ s w) (l:nC X P tm s o=some r):Good E P base ρ s w (execOp a.eval o) r:=by
 simp only[nC,N] at l;split at l
 ·rename_i e i j l'
  obtain⟨rows,k,n,row,arr,T,fr,g,q,b',m',h',p',c',i'⟩:=iA hf A l';have d':=h.nM _ _ p';split at l
  ·rename_i d m z e' n' f'
   obtain⟨s',y,q'⟩:=Ud A.ok b' f';simp only[D.R.injEq] at y;subst y;have t':=q' row (kg h');split at l
   ·rename_i hle
    obtain⟨us,j',r',k'⟩:=ao0 A.ok b' m' h' i' m j I;split at l
    ·rename_i a'
     simp only[aG] at l;subst l;refine Good.same h (u:=.agg (List.toArray us)) ?_ ⟨us,rfl,j'⟩;have F:=FW (P:=P) w ⟨g,q+j,none⟩ us (fun x v u'=>by rw[oH,gX w _ _ _ _ _ d'];exact k' x v u')
     rw[r'] at F;have W:(loadVar t ⟨g,q+j,none⟩).run P w=.ok (.agg (List.toArray us)) w:=by
      unfold loadVar;simp[LG e',a',sI n',F]
     simp[execOp,N,Instr.loadAt,c',Instr.sureAddr,W]
    ·rename_i a'
     split at l
     ·rename_i o'
      subst o';simp only[aG] at l;subst l;obtain⟨u,_,rfl,F,_⟩:=j';have W:=k' 0 u rfl;rw[qy] at W;refine Good.same h (u:=u) ?_ F;have g':(loadVar t ⟨g,q+j,none⟩).run P w=.ok u w:=by
       unfold loadVar;simp[LG e',a',load,Sem.run,gX w _ _ _ _ _ d',W]
      simp[execOp,N,Instr.loadAt,c',Instr.sureAddr,g']
     ·cases l
   ·cases l
  ·cases l
 ·rename_i g l'
  obtain⟨c,b',m'⟩:=iA hf A l';split at l
  ·rename_i d v' i h' p' c'
   split at l
   ·rename_i a'
    simp only[aG] at l;subst l;have i':=aiS c';simp only[xU] at i';have e':=A.ok.bY _ _ (aiY c');subst i';obtain⟨arr,T,fr,u,n',f',y⟩:=A.base.kE _ _ e'.1;replace y:=y.dr e'.2;obtain⟨m,o'⟩:=A.base.nG _ a'.2;rw[o'] at b';obtain rfl:=bI b';refine Good.same h (u:=u) ?_ (wI A.ok (d:=E.val i) rfl y);have g':(loadVar t ⟨v',0+0,none⟩).run P w=.ok u w:=by
     unfold loadVar;simp[LG h',a'.1,load,Sem.run,gX w _ _ _ _ _ (h.nM _ _ n'),f']
    simp[execOp,N,Instr.loadAt,m',Instr.sureAddr,g']
   ·cases l
  ·cases l
 ·cases l
def aE5 (t:dh) (x:je) (k:Nat) (N:o.op=.fieldAddr t x k) (hf:FR E ρ tm a.tmps) (A:jw E X P ρ) (h:HR E base ρ s w) (l:nC X P tm s o=some r):Good E P base ρ s w (execOp a.eval o) r:=by
 simp only[nC,N] at l;split at l
 ·rename_i d e i j F W
  split at l
  ·rename_i n hn
   simp only[aG] at l;subst l;obtain⟨fs,a',b'⟩:=af9 F;obtain⟨rows,c',nn,row,arr,T,fr,g,q,d',e',f',g',h',y⟩:=iA hf A W;refine Good.same h (u:=.pointer (some ⟨g,q+(j+d.offset),none⟩)) ?_ ⟨rows,c',nn,row,arr,T,fr,g,q,d',e',f',g',rfl,y⟩;simp[execOp,N,Instr.fieldAt,underlying,a',b',h',Instr.sureAddr,fieldPlace,sI hn,oH,Eh]
  ·cases l
 ·cases l
def aE7 (t:dh) (x y:je) (N:o.op=.indexAddr t x y) (hf:FR E ρ tm a.tmps) (q:jw E X P ρ) (h:HR E base ρ s w) (j:nC X P tm s o=some r):Good E P base ρ s w (execOp a.eval o) r:=by
 simp only[nC,N] at j;split at j
 ·rename_i q' e r' f' g' h'
  split at j
  ·rename_i s' z t' i' j' k'
   split at j
   ·rename_i hc
    obtain⟨rfl,l',U⟩:=hc;simp only[aG] at j;subst j;obtain⟨d,F,m'⟩:=iA hf q g';obtain⟨rows,rfl,n'⟩:=Ud q.ok F j';obtain⟨k,n,a',J⟩:=Uq q.ok (iA hf q h') i' l';obtain⟨m,rfl,W⟩:=asF q.ok F rfl a' U;obtain⟨u',cap,b',o',p',l⟩:=afA m' n';rcases l with l|⟨g,c',arr,T,fr,l,d',e'⟩
    ·subst l;simp at W
    ·subst l
     have A:rows[m]?=some (rows[m]'W):=gM _;refine Good.same h (u:=.pointer (some ⟨g,c'+m*z+0,none⟩)) ?_ ⟨rows,k,m,_,arr,T,fr,g,c'+m*z,F,a',A,d',rfl,(e'.get A).2⟩;simp[execOp,N,Instr.indexAt,J,asIntOf,underlying,f',b',W,sI k',oH]
   ·cases j
  ·cases j
 ·cases j
def aE6 (t:dh) (x y:je) (N:o.op=.index t x y) (hf:FR E ρ tm a.tmps) (A:jw E X P ρ) (h:HR E base ρ s w) (q:nC X P tm s o=some r):Good E P base ρ s w (execOp a.eval o) r:=by
 simp only[nC,N] at q;split at q
 ·rename_i m' n' d' e' f'
  split at q
  ·rename_i e o' g' h'
   split at q
   ·rename_i hc
    obtain⟨T,W,U⟩:=hc;simp only[aG] at q;subst q;obtain⟨l,a',i',j'⟩:=aaK A.ok (iA hf A e') g' T;obtain⟨k',n,b',J⟩:=Uq A.ok (iA hf A f') h' W;obtain⟨k,rfl,j⟩:=asF A.ok a' rfl b' U;have c':l[k]?=some (l[k]'j):=gM _;have l':k<(bC l).size:=by rw[yt];exact j
    have F:((bC l)[k]' l').toNat=l[k]'j:=by
     rw[aoQ];have:=j' _ (zG j);simp;omega
    refine Good.same h (u:=.int .u8 ((l[k]'j:Nat):Int)) ?_ (wI A.ok (d:=.int .u8 ((l[k]'j:Nat):Int)) ?_ rfl)
    ·have U:=run_index_string (P:=P) w t (bC l) k' k d'
     rw[dif_pos ⟨by omega,by omega⟩] at U
     simp only[aiN,F] at U;simp[execOp,N,J,i',U]
    ·simp only[den,a',b',f_]
     show(match l[k]? with|some c=>some (D.int .u8 (c:Int))|none=>none)=_
     rw[c']
   ·cases q
  ·cases q
 ·cases q
def aoO (l:iX E X) {x:ah je} {j e:Y} (hf:FR E ρ tm a.tmps) (q:jw E X P ρ) (h:Ja P X x tm j=some e):(x.map a.eval=none/\e=j)\/∃k n,x.map a.eval=some (.int k n)/\den E.val e=some (.int k n):=by
 unfold Ja at h;cases x with
 |none=>simp at h;exact .inl ⟨rfl,h.symm⟩
 |some y=>
  simp only at h;split at h
  ·rename_i v u
   split at h
   ·rename_i W w
    split at h
    ·rename_i A
     simp only[aG] at h;subst h;obtain⟨k,n,F,T⟩:=Uq l (iA hf q u) w A;exact .inr ⟨k,n,by simp[T],F⟩
    ·cases h
   ·cases h
  ·cases h
def aoP (j:iX E X) {lo J:ah je} {q e:Y} (hf:FR E ρ tm a.tmps) (a':jw E X P ρ) (f':den E.val e=some d) (hL:sD d=some (.int .i64 (b:Int)))
 (g':Ja P X J tm (vM X (.len e))=some q) (h':Ja P X lo tm (.int .i64 0)=some x) (hn:Pe X x=true) (hle:Dc X .leq x q=true) (b':Dc X .leq q (vM X (.len e))=true):
 ∃(l' u:Nat) (A F:tQ),den E.val x=some (.int A (l':Nat))/\den E.val q=some (.int F (u:Nat))/\l'<=u/\u<=b/\((J.map a.eval=none/\u=b)\/∃k,J.map a.eval=some (.int k (u:Int)))/\((lo.map a.eval=none/\l'=0)\/∃k,lo.map a.eval=some (.int k (l':Int))):=by
 have w:den E.val (vM X (.len e))=some (.int .i64 (b:Int)):=by rw[JF j];simp only[den,f',f_];exact hL
 obtain⟨F,q1,T,c'⟩:∃k n,den E.val q=some (.int k n)/\((J.map a.eval=none/\n=(b:Int))\/J.map a.eval=some (.int k n)):=by
  rcases aoO j hf a' g' with⟨h,rfl⟩|⟨k,n,h,y⟩
  ·exact⟨_,_,w,.inl ⟨h,rfl⟩⟩
  ·exact⟨k,n,y,.inr h⟩
 obtain⟨A,W,l,d'⟩:∃k n,den E.val x=some (.int k n)/\((lo.map a.eval=none/\n=0)\/lo.map a.eval=some (.int k n)):=by
  rcases aoO j hf a' h' with⟨h,rfl⟩|⟨k,n,h,y⟩
  ·exact⟨_,_,rfl,.inl ⟨h,rfl⟩⟩
  ·exact⟨k,n,y,.inr h⟩
 have i':=atu j l hn;have j':=ao5 j l T hle;have k':=ao5 j T w b';have e':W=(W.toNat:Nat):=I;have eq:q1=(q1.toNat:Nat):=I;refine⟨W.toNat,q1.toNat,A,F,by rw[<-e'];exact l,by rw[<-eq];exact T,by omega,by omega,?_,?_⟩
 ·rcases c' with⟨h,y⟩|h
  ·exact .inl ⟨h,by omega⟩
  ·exact .inr ⟨F,by rw[<-eq];exact h⟩
 ·rcases d' with⟨h,y⟩|h
  ·exact .inl ⟨h,by omega⟩
  ·exact .inr ⟨A,by rw[<-e'];exact h⟩
def iV.drop {fz:Nat->ah Obj} {z:Nat}:∀{rs:G (G D)} {arr:dF av} {d:Nat} (k:Nat),iV fz z rs arr d->iV fz z (rs.drop k) arr (d+k*z)
 |[],_,_,k,_=>by rw[List.drop_nil];exact True.intro
 |r::rs,arr,d,0,h=>by simpa using h
 |r::rs,arr,d,k+1,⟨_,_,e⟩=>by
  have:=iV.drop k e;rw[aa0,show d+(k+1)*z=d+z+k*z by rw[Iw];omega]
  exact this
def iV.take {fz:Nat->ah Obj} {z:Nat}:∀{rs:G (G D)} {arr:dF av} {d:Nat} (k:Nat),iV fz z rs arr d->iV fz z (rs.take k) arr d
 |[],_,_,k,_=>by rw[List.take_nil];exact True.intro
 |r::rs,arr,d,0,h=>by rw[aa7];exact True.intro
 |r::rs,arr,d,k+1,⟨e,j,l⟩=>⟨e,j,iV.take k l⟩
def aFb (t:dh) (x:je) (lo J E':ah je) (N:o.op=.slice t x lo J E') (hf:FR E ρ tm a.tmps) (W:jw E X P ρ) (h:HR E base ρ s w) (A:nC X P tm s o=some r):Good E P base ρ s w (execOp a.eval o) r:=by
 simp only[nC,N] at A;split at A
 ·rename_i e0 e f' n'
  obtain⟨d,d',F'⟩:=iA hf W n';split at A
  ·rename_i z f0 q l o' u' p' q'
   split at A
   ·rename_i hc
    obtain⟨rfl,hn,g',h'⟩:=hc;simp only[aG] at A;subst A;obtain⟨rows,rfl,v'⟩:=Ud W.ok d' u';obtain⟨l',F,L',M',e1,r',i',e',s',t'⟩:=aoP W.ok hf W d' rfl p' q' hn g' h';obtain⟨m',cap,j',X',w',j⟩:=afA F' v';have b':=Pq (P:=P) (w:=w) true (len:=rows.length) (cap:=cap) s' t' i' I;have k':((rows.take F).drop l').length=F-l':=gJ;have a':den E.val (.sub e l q)=some (.R ((rows.take F).drop l')):=by
     simp only[den,d',e1,r',f_];show(if l'<=F/\F<=rows.length then _ else _)=_
     rw[bK ⟨i',e'⟩]
    cases m' with
    |none=>
     have x':rows=[]:=by
      rcases j with j|⟨g,y',arr,T,fr,j,_⟩
      ·exact j
      ·cases j
     subst x';simp at e';subst e';have:l'=0:=I;subst this;simp only[lN] at b';refine Good.same h (u:=.slice none 0 cap) ?_ (wI W.ok a' ⟨none,cap,rfl,gK _,w',.inl rfl⟩);simp[execOp,N,Instr.sliceAt,Instr.slice,underlying,f',j',b',sI o']
    |some m'=>
     refine Good.same h (u:=.slice (some (if cap=l' then m' else m'.add (l'*z))) (F-l') (cap-l')) ?_ (wI W.ok a' ⟨_,cap-l',by rw[k'],by rw[k'];omega,by omega,?_⟩)
     ·have a0:=b'
      by_cases c':cap=l'
      ·subst c'
       simp[execOp,N,Instr.sliceAt,Instr.slice,underlying,f',j',b',sI o']
      ·simp[execOp,N,Instr.sliceAt,Instr.slice,underlying,f',j',b',sI o',c']
     ·rcases j with j|⟨g,y',arr,T,fr,j,z',A'⟩
      ·subst j;exact .inl bS
      ·by_cases b0:F=l'
       ·exact .inl (qx I)
       ·obtain rfl:=bI j
        have c':cap≠l':=I;exact .inr ⟨g,y'+l'*z,arr,T,fr,z,by rw[bB c',oH],z',(A'.take F).drop l'⟩
   ·cases A
  ·cases A
 ·rename_i e f' n'
  split at A
  ·rename_i q l p' q'
   split at A
   ·rename_i hc
    obtain⟨D',hn,g',h'⟩:=hc;simp only[aG] at A;subst A;obtain⟨ls,d',P',T'⟩:=aaK W.ok (iA hf W n') rfl D';obtain⟨l',F,L',M',e1,r',i',e',s',t'⟩:=aoP W.ok hf W d' rfl p' q' hn g' h';have b':=Pq (P:=P) (w:=w) false (len:=(bC ls).size) (cap:=(bC ls).size) (by rw[yt];exact s') t' i' (by rw[yt];exact e')
    have a':den E.val (.sub e l q)=some (.str ((ls.take F).drop l')):=by
     simp only[den,d',e1,r',f_];show(if l'<=F/\F<=ls.length then _ else _)=_
     rw[bK ⟨i',e'⟩]
    refine Good.same h (u:=.string (bC ((ls.take F).drop l'))) ?_ (wI W.ok a' ⟨rfl,fun y W'=>T' y (J3 (AY W'))⟩);simp[execOp,N,Instr.sliceAt,Instr.slice,underlying,f',P',b',aeM]
   ·cases A
  ·cases A
 ·cases A
def Zo (y:iX E X) {e:Y} {d:D} (A:den E.val e=some d):∀{es:G (H×H)} {i:Nat} {q:ah (Nat×H)},OY X e es i=some q->yG (zX d) es i=some q
 |[],i,q,h=>by simpa[OY,yG] using h
 |(k',v)::es,i,q,h=>by
  simp only[OY] at h;split at h
  ·rename_i l
   have j:∀b,vM X (.bin .eql e (.str l))=.bool b->∃x,d=.str x/\(x==l)=b:=fun b u=>by
    have:=JF y (.bin .eql e (.str l));rw[u] at this;simp only[den,A,f_] at this;cases d with
    |str x=>
     simp only[jl,aG,D.bool.injEq] at this;exact⟨x,rfl,this.symm⟩
    |_=>simp[jl] at this
   split at h
   ·rename_i u
    obtain⟨x,rfl,w⟩:=j _ u;simp only[zX,yG,w,qX];exact h
   ·rename_i u
    obtain⟨x,rfl,w⟩:=j _ u;simp only[zX,yG,w];exact Zo y A h
   ·cases h
  ·rename_i k n
   have j:∀b,vM X (.bin .eql e (.int k n))=.bool b->∃x,d=.int k x/\(x==n)=b:=fun b u=>by
    have:=JF y (.bin .eql e (.int k n));rw[u] at this;simp only[den,A,f_] at this;cases d with
    |int P x=>
     simp only[jl] at this;split at this
     ·rename_i F
      subst F;simp only[aG,D.bool.injEq] at this;exact⟨x,rfl,this.symm⟩
     ·cases this
    |_=>simp[jl] at this
   split at h
   ·rename_i u
    obtain⟨x,rfl,w⟩:=j _ u;simp only[zX,yG,qX];rw[bK (by simpa using w)]
    exact h
   ·rename_i u
    obtain⟨x,rfl,w⟩:=j _ u;simp only[zX,yG,qX];rw[bB (by simpa using w)]
    exact Zo y A h
   ·cases h
  ·cases h
def aFP (l:iX E X) (q:den E.val x=some d) (h:agJ P u (pI X x)=true):SQ P u (zX d)=true:=by
 unfold agJ at h;split at h
 ·rename_i k j
  obtain⟨n,rfl⟩:=(xJ l q j).int;exact h
 ·rename_i j
  obtain⟨n,rfl,_⟩:=(xJ l q j).str;exact h
 ·cases h
def aE9 (t:dh) (m k:je) (ok:aK) (N:o.op=.lookup t m k ok) (hf:FR E ρ tm a.tmps) (l:jw E X P ρ) (h:HR E base ρ s w) (he:nC X P tm s o=some r):Good E P base ρ s w (execOp a.eval o) r:=by
 simp only[nC,N] at he;split at he
 ·rename_i kt e v c' hu F T
  have W:=iA hf l F;obtain⟨a',q,A⟩:=iA hf l T;have hk:VR E ρ (zX a') (a.eval k):=aeB A;split at he
  ·rename_i y
   have u:=aFP (P:=P) l.ok q y;split at he
   ·rename_i es z b' h4
    obtain⟨us,h5,h6⟩:=apw h W b';have hc:=fun b=>(OZ (w:=w) u hk b).1;obtain⟨d,hd,hki⟩:=(OZ (w:=w) u hk true).2;split at he
    ·rename_i j v h7
     have h7:=Zo l.ok q h7;exact ap2
    ·rename_i h7
     have h7:=Zo l.ok q h7;exact aqU
    ·cases he
   ·cases he
  ·cases he
 ·cases he
def aF8 (q:iX E X) {t:dh} {rest:G dh} {u:av} (ty:dh) (A:dF aK) (h:HR E base ρ s w) (W:VR E ρ y u) (j:agN X P t y=some x):Good E P base ρ s w (builtin .len (List.toArray (t::rest)) ty A #[u]) (.val (xL X x) s):=by
 unfold agN at j;split at j
 ·rename_i a' hu
  split at j
  ·rename_i e
   simp only[aG] at j;subst j;obtain⟨l,F,rfl,T⟩:=aaK q W rfl e;exact Good.same h (u:=.int .i64 l.length) (by simp[builtin,Builtin.len_,underlying,hu,goInt,yt]) (wI q (d:=.int .i64 l.length) (by simp only[den,F,f_,sD]) rfl)
  ·cases j
 ·rename_i b' a' hu
  split at j
  ·rename_i e
   simp only[aG] at j;subst j;obtain⟨d,F,T⟩:=W;obtain⟨z,c'⟩:=ai8.1 e;obtain⟨rows,rfl,_⟩:=Ud q F c';obtain⟨d',cap,rfl,_⟩:=T;exact Good.same h (u:=.int .i64 rows.length) NZ (wI q (d:=.int .i64 rows.length) (by simp only[den,F,f_,sD]) rfl)
  ·cases j
 ·rename_i b' b a' z hu
  simp only[aG] at j;subst j;obtain⟨l,cap,rows,F,T,rfl,_⟩:=W;exact Good.same h (u:=.int .i64 rows.length) NZ (wI q (d:=.int .i64 rows.length) (by simp only[den,T,f_,sD]) rfl)
 ·cases j
end
end
section
variable {E:Env} {X:Ctx}
section
variable {P:bA} {base:Nat} {ρ:Mp} {s s':St} {w:ak} {tm:Tr H} {a:Act} {o:Oper} {r:nO}
def iV.flat {fz:Nat->ah Obj} {z:Nat}:∀{rs:G (G D)} {arr:dF av} {d:Nat},iV fz z rs arr d->mR fz rs.flatten arr d/\rs.flatten.length=rs.length*z
 |[],_,_,_=>⟨True.intro,by simp⟩
 |r::rs,arr,d,⟨l,u,w⟩=>by
  obtain⟨y,A⟩:=iV.flat w;refine⟨?_,by simp only[LZ,mD,gD,A,l,Iw];omega⟩
  have key:∀(cs:G D) (q:Nat),mR fz cs arr q->d+z=q+cs.length->mR fz (cs++rs.flatten) arr q:=by
   intro cs
   induction cs with
   |nil=>intro q _ e;simp at e;rw[<-e];exact y
   |cons c cs E=>intro q ⟨h,j⟩ e;exact⟨h,E (q+1) j (by simp at e;omega)⟩
  exact key r d u I
def mR.of {fz:Nat->ah Obj}:∀{cs:G D} {arr:dF av} {d:Nat},(∀(j:Nat) (c:D),cs[j]?=some c->∃u,arr[d+j]?=some u/\DR fz c u)->mR fz cs arr d
 |[],_,_,_=>True.intro
 |c::cs,arr,d,h=>⟨by simpa using h 0 c rfl,mR.of fun j x hj=>by
   obtain⟨u,e,l⟩:=h (j+1) x yx;exact⟨u,by rw[<-e];congr 1;omega,l⟩⟩
def iV.of {fz:Nat->ah Obj} {z:Nat}:∀{rs:G (G D)} {arr:dF av} {d:Nat},(∀r∈rs,r.length=z)->mR fz rs.flatten arr d->iV fz z rs arr d
 |[],_,_,_,_=>True.intro
 |r::rs,arr,d,l,h=>by
  have U:=l r jG;refine⟨U,mR.of fun j c e=>h.get (j:=j) (by rw[LZ,oI (gN.1 e).1];exact e),iV.of (fun q w=>l q (gF _ w)) (mR.of fun j c e=>?_)⟩
  obtain⟨u,y,A⟩:=h.get (j:=z+j) (c:=c) (by rw[LZ,nI I,show z+j-r.length=j by omega];exact e)
  exact⟨u,by rw[<-y];congr 1;omega,A⟩
def aaN:∀{vs:G H} {es:G Y} {us:G av},Ii vs=some es->fq E ρ vs us->∃ds,cZ E.val es=some ds/\ds.length=us.length/\∀(j:Nat) (c:D),ds[j]?=some c->∃u,us[j]?=some u/\DR ρ.fz c u
 |[],es,us,h,l=>by
  simp only[Ii,aG] at h;subst h;rw[show us=[] from l]
  exact⟨[],rfl,rfl,by simp⟩
 |v::vs,es,us,h,l=>by
  obtain⟨u,b',rfl,q,w⟩:=l;simp only[Ii] at h;split at h
  ·rename_i e c' y A
   simp only[aG] at h;subst h;obtain⟨d,F,P⟩:=JW q y;obtain⟨ds,T,W,a'⟩:=aaN A w;refine⟨d::ds,by simp only[cZ,F,T,f_],by simp[W],fun j c hj=>?_⟩
   cases j with
   |zero=>simp at hj;subst hj;exact⟨u,rfl,P⟩
   |succ j=>simpa using a' j c yx
  ·cases h
def apk {F:Nat->D}:∀{es:G Y} {ds:G D} (k:Nat),cZ F es=some ds->cZ F (es.take k)=some (ds.take k)/\cZ F (es.drop k)=some (ds.drop k)
 |[],ds,k,h=>by
  simp only[cZ,aG] at h;subst h;simp[cZ]
 |e::es,ds,0,h=>⟨by simp[cZ],by simpa using h⟩
 |e::es,ds,k+1,h=>by
  simp only[cZ] at h;obtain⟨d,l,q⟩:=kW.1 h;obtain⟨A,u,j⟩:=kW.1 q;simp only[aG] at j;subst j;obtain⟨w,y⟩:=apk k u;exact⟨by simp only[List.take_succ_cons,cZ,l,w,f_],by simpa using y⟩
def Tk {z:Nat}:∀(n:Nat) {es:G Y} {ds:G D} {acc:Y} {FH:G (G D)},cZ E.val es=some ds->ds.length=n*z->den E.val acc=some (.R FH)->
 ∃rows,den E.val (BM z n es acc)=some (.R (FH++rows))/\rows.flatten=ds/\rows.length=n/\∀r∈rows,r.length=z
 |0,es,ds,acc,FH,j,e,h=>⟨[],by simp only[BM,Ci];exact h,by simp at e;simp[e],rfl,by simp⟩
 |n+1,es,ds,acc,FH,j,e,h=>by
  obtain⟨l,q⟩:=apk z j;rw[Iw] at e;obtain⟨rows,u,w,y,A⟩:=Tk (z:=z) n (acc:=.snoc acc (es.take z)) (FH:=FH++[ds.take z]) q gJ (by simp only[den,h,l,f_,LJ])
  refine⟨ds.take z::rows,by simp only[BM,u,tV,List.singleton_append],by rw[LZ,w,UJ],by simp[y],fun r U=>?_⟩
  rcases g_.1 U with rfl|U
  ·simp;omega
  ·exact A r U
def ae7 {F:Nat->D} {e1:Y} {a:G (G D)} (e:den F e1=some (.R a)):∀{w:Y} {b:G (G D)},den F w=some (.R b)->den F (Da e1 w)=some (.R (a++b))
 |.d9,b,h=>by
  simp only[den,aG,D.R.injEq] at h;subst h
  simpa[Da] using e
 |.snoc c r,b,h=>by
  simp only[den] at h;obtain⟨x,A,E⟩:=kW.1 h;obtain⟨y,P,u⟩:=kW.1 E;unfold LJ at u;split at u
  ·rename_i rows row
   simp only[aG,D.R.injEq] at u;subst u;simp only[Da,den,ae7 e A,P,f_,LJ,tV]
  ·cases u
 |.var i,b,h=>by simp only[Da,den] at h⊢;simp only[e,h,f_,ND]
 |.int _ _,b,h=>by simp[den] at h
 |.bool _,b,h=>by simp[den] at h
 |.str _,b,h=>by simp[den] at h
 |.len x,b,h=>by show(den F e1).bind _=_;rw[e,f_,h];rfl
 |.cell x i j,b,h=>by show(den F e1).bind _=_;rw[e,f_,h];rfl
 |.byte x i,b,h=>by show(den F e1).bind _=_;rw[e,f_,h];rfl
 |.bin op x y,b,h=>by show(den F e1).bind _=_;rw[e,f_,h];rfl
 |.not x,b,h=>by show(den F e1).bind _=_;rw[e,f_,h];rfl
 |.neg x,b,h=>by show(den F e1).bind _=_;rw[e,f_,h];rfl
 |.conv k x,b,h=>by show(den F e1).bind _=_;rw[e,f_,h];rfl
 |.sub x l q,b,h=>by show(den F e1).bind _=_;rw[e,f_,h];rfl
 |.cat x y,b,h=>by show(den F e1).bind _=_;rw[e,f_,h];rfl
 |.lit d,b,h=>by show(den F e1).bind _=_;rw[e,f_,h];rfl
def agM {F:Nat->D}:∀{e:Y} {n:Nat} {rows:G (G D)},sF e=some n->den F e=some (.R rows)->rows.length=n
 |.d9,n,rows,h,j=>by
  simp only[sF,den,aG,D.R.injEq] at h j;subst j;subst h;rfl
 |.snoc c r,n,rows,h,j=>by
  simp only[sF] at h;split at h
  ·rename_i m q
   simp only[aG] at h;subst h;simp only[den] at j;obtain⟨x,u,w⟩:=kW.1 j;obtain⟨y,A,l⟩:=kW.1 w;unfold LJ at l;split at l
   ·simp only[aG,D.R.injEq] at l
    subst l;simp[agM q u]
   ·cases l
  ·cases h
 |.var _,_,_,h,_=>by simp[sF] at h
 |.int _ _,_,_,h,_=>by simp[sF] at h
 |.bool _,_,_,h,_=>by simp[sF] at h
 |.str _,_,_,h,_=>by simp[sF] at h
 |.len _,_,_,h,_=>by simp[sF] at h
 |.cell ..,_,_,h,_=>by simp[sF] at h
 |.byte ..,_,_,h,_=>by simp[sF] at h
 |.bin ..,_,_,h,_=>by simp[sF] at h
 |.not _,_,_,h,_=>by simp[sF] at h
 |.neg _,_,_,h,_=>by simp[sF] at h
 |.conv ..,_,_,h,_=>by simp[sF] at h
 |.sub ..,_,_,h,_=>by simp[sF] at h
 |.cat ..,_,_,h,_=>by simp[sF] at h
 |.lit _,_,_,h,_=>by simp[sF] at h
def arR (hx:iX E X) (hd:den E.val x=some (.R e)) (h:agd X x=true):e.length<=1000000:=by
 unfold agd at h;exact arb
def aNl (hx:iX E X) (hd:den E.val x=some (.R e)) (h:Uk X x=true):0<e.length:=by
 unfold Uk at h;exact arb
def Mp.freeze (ρ:Mp) (g:Nat) (o:Obj):Mp:=⟨ρ.at_,fun x=>if x=g then some o else ρ.fz x⟩
def HR.freeze (h:HR E base ρ s w) {b:Nat} {o:AO} {l:Loc} {q:Obj} (T:s.aP.get b=some o) (b':ρ b=some l) (e':o.wr) (g':w.heap[l.g]?=some q):
 Ext ρ (ρ.freeze l.g q)/\∀z e,OR E base (ρ.freeze l.g q) w l (.row z e)->HR E base (ρ.freeze l.g q) (s.aar b z e) w/\fA ρ s w (ρ.freeze l.g q) (s.aar b z e) w:=by
 have f':Ext ρ (ρ.freeze l.g q):=⟨fun _ _ h=>h,fun g o' j=>by
  show(if g=l.g then some q else ρ.fz g)=some o'
  rw[bB fun e=>by have:=h.oC b o l T e' b';rw[<-e,j] at this;cases this]
  exact j⟩
 refine⟨f',fun z e h'=>⟨⟨fun F o' y=>?_,fun i' j' k' s' m' n' p' q' hn W c' d'=>?_,h.fresh,h.base,fun g o' j=>?_,fun F o' l' y P A=>?_⟩,⟨f',⟨bq _,.inl rfl⟩,rfl,rfl,rfl,bq _,fun _ _ _=>rfl,fun F o' l' y A=>?_,fun _ _ _=>rfl,fun g o' j=>?_⟩⟩⟩
 ·rcases Tr.jc y with⟨rfl,rfl⟩|⟨_,u⟩
  ·exact⟨l,b',h'⟩
  ·obtain⟨l',a',r'⟩:=h.pK F o' u
   exact⟨l',a',r'.mono f' rfl⟩
 ·rcases Tr.jc p' with⟨rfl,rfl⟩|⟨a',u⟩
  ·exact(show False from W).elim
  ·rcases Tr.jc q' with⟨rfl,rfl⟩|⟨r',t'⟩
   ·exact h.apart i' j' k' o m' n' u T hn W c' d'
   ·exact h.apart i' j' k' s' m' n' u t' hn W c' d'
 ·have j:(if g=l.g then some q else ρ.fz g)=some o':=j
  split at j
  ·rename_i e;rw[e,g'];exact j
  ·exact h.nM g o' j
 ·rcases Tr.jc y with⟨rfl,rfl⟩|⟨a',u⟩
  ·exact(show False from P).elim
  ·show(if l'.g=l.g then some q else ρ.fz l'.g)=none
   rw[bB fun e=>h.apart b F o o' l l' T u (nJ a') e' b' A e.symm];exact h.oC F o' l' u P A
 ·rcases Tr.jc y with⟨rfl,rfl⟩|⟨a',u⟩
  ·exact .inr ⟨F,o,l',T,A,rfl,fun P=>(show False from P).elim⟩
  ·exact .inr ⟨F,o',l',u,A,rfl,id⟩
 ·have j:(if g=l.g then some q else ρ.fz g)=some o':=j
  split at j
  ·rename_i e;exact .inr (.inr ⟨b,o,l,T,e',b',e.symm⟩)
  ·exact .inl j
def au7 (h:HR E base ρ s w) {u:av} (A:VR E ρ y u) (hf:roA s y=some x):∃d,den E.val x=some d/\DR ρ.fz d u:=by
 unfold roA at hf;split at hf
 ·rename_i b i' z
  split at hf
  ·rename_i f' g' F
   split at hf
   ·rename_i hc
    obtain⟨rfl,P⟩:=hc;simp only[aG] at hf;subst hf;obtain rfl:=Y.jZ P;obtain⟨l,cap,rows,W,e,rfl,a',b',c'⟩:=A;obtain⟨arr,T,fr,e',d',_,j,q⟩:=h.at F W;rw[e] at j;simp only[aG,D.R.injEq] at j;subst j;exact⟨_,e,some ⟨l.g,l.d,none⟩,cap,rfl,a',b',.inr ⟨l.g,l.d,arr,T,fr,z,rfl,d',q⟩⟩
   ·cases hf
  ·cases hf
 ·rename_i b n c z
  split at hf
  ·rename_i f' g' F
   split at hf
   ·rename_i hc
    obtain⟨rfl,P⟩:=hc;simp only[aG] at hf;subst hf;obtain⟨l,cap,W,rfl,a',b',c',d'⟩:=A;obtain⟨arr,T,fr,rows,j,_,q,h'⟩:=h.at F W;have hn:=agM P q;exact⟨_,q,some ⟨l.g,l.d+0,none⟩,cap,by rw[hn],by omega,c',.inr ⟨l.g,l.d,arr,T,fr,z,rfl,j,h'⟩⟩
   ·cases hf
  ·cases hf
 ·exact JW A hf
def ar0 (h:HR E base ρ s w) {u:av} (f':VR E ρ y u) (hf:YS s y=some (x,s')):
 ∃W,Ext ρ W/\W.at_=ρ.at_/\HR E base W s' w/\fA ρ s w W s' w/\∃d,den E.val x=some d/\DR W.fz d u:=by
 unfold YS at hf;split at hf
 ·rename_i e1 v'
  simp only[aG,eG] at hf;obtain⟨rfl,rfl⟩:=hf;obtain⟨d,q,e⟩:=au7 h f' v';exact⟨ρ,.refl _,rfl,h,fA.refl h,d,q,e⟩
 rename_i k';clear k';split at hf
 ·rename_i b w' z
  split at hf
  ·rename_i P' T' a'
   split at hf
   ·rename_i hc
    obtain⟨rfl,x'⟩:=hc;simp only[aG,eG] at hf;obtain⟨rfl,rfl⟩:=hf;obtain rfl:=Y.jZ x';obtain⟨l,cap,rows,q,e,rfl,l',m',n'⟩:=f';obtain⟨t',arr,T,u',g',b',y',o',d'⟩:=h.at a' q;rw[e] at b';simp only[aG,D.R.injEq] at b';subst b';obtain⟨F,c'⟩:=h.freeze a' q True.intro g';have A:(ρ.freeze l.g (.cells arr T (0,0))).fz l.g=some (.cells arr T (0,0)):=by
     show(if l.g=l.g then _ else _)=_
     rw[bK rfl]
    obtain⟨U,h'⟩:=c' z w' ⟨arr,T,(0,0),rows,A,g',e,d'.mono F.fz⟩;exact⟨_,F,rfl,U,h',_,e,some ⟨l.g,l.d,none⟩,cap,rfl,l',m',.inr ⟨l.g,l.d,arr,T,(0,0),z,rfl,A,d'.mono F.fz⟩⟩
   ·cases hf
  ·cases hf
 ·rename_i b n c z
  split at hf
  ·rename_i vs k cs a' p'
   split at hf
   ·rename_i es q'
    simp only[aG,eG] at hf;obtain⟨rfl,rfl⟩:=hf;obtain⟨l,cap,q,rfl,l',m',n',g'⟩:=f';obtain⟨us,b',y',o'⟩:=h.load q p';obtain⟨arr,T,fr,i',W',X',a0,b0⟩:=h.at a' q;obtain⟨ds,z',e0,A'⟩:=aaN q' b';obtain⟨rows,j',D',E',F'⟩:=Tk (E:=E) (z:=z) n z' I (acc:=.d9) (FH:=[]) rfl;obtain⟨F,c'⟩:=h.freeze a' q rfl i';have A:(ρ.freeze l.g (.cells arr T fr)).fz l.g=some (.cells arr T fr):=by
     show(if l.g=l.g then _ else _)=_
     rw[bK rfl]
    rw[qW] at j';have P:iV ρ.fz z rows arr l.d:=iV.of F' (mR.of fun j c r'=>by
     rw[D'] at r';obtain⟨u,L',M'⟩:=A' j c r';have e':=o' j u L';rw[gX w _ _ _ _ _ i',qy] at e';exact⟨u,e',M'⟩)
    obtain⟨U,h'⟩:=c' z (BM z n es .d9) ⟨arr,T,fr,rows,A,i',j',P.mono F.fz⟩;exact⟨_,F,rfl,U,h',_,j',some ⟨l.g,l.d+0,none⟩,cap,by simp[E'],by omega,n',.inr ⟨l.g,l.d,arr,T,fr,z,rfl,A,P.mono F.fz⟩⟩
   ·cases hf
  ·cases hf
 ·cases hf
def agj:∀{vs:G H} {ρ:Mp} {s s':St} {us:G av} {es:G Y},HR E base ρ s w->fq E ρ vs us->Ox s vs=some (es,s')->
 ∃l,Ext ρ l/\l.at_=ρ.at_/\HR E base l s' w/\fA ρ s w l s' w/\∃ds,cZ E.val es=some ds/\ds.length=us.length/\∀(j:Nat) (c:D),ds[j]?=some c->∃u,us[j]?=some u/\DR l.fz c u
 |[],ρ,s,s',us,es,h,y,hf=>by
  simp only[Ox,aG,eG] at hf;obtain⟨rfl,rfl⟩:=hf;rw[show us=[] from y]
  exact⟨ρ,.refl _,rfl,h,fA.refl h,[],rfl,rfl,by simp⟩
 |v::vs,ρ,s,s',us,es,h,y,hf=>by
  obtain⟨u,l',rfl,a',b'⟩:=y;simp only[Ox] at hf;split at hf
  ·rename_i e n' c'
   split at hf
   ·rename_i m' o' A
    simp only[aG,eG] at hf;obtain⟨rfl,rfl⟩:=hf;obtain⟨l,F,d',U,e',d,f',g'⟩:=ar0 h a' c';obtain⟨h',q,P,T,W,ds,i',j',k'⟩:=agj U (b'.mono F) A;refine⟨h',F.trans q,P.trans d',T,e'.trans W,d::ds,by simp only[cZ,f',i',f_],by simp[j'],fun j c hj=>?_⟩
    cases j with
    |zero=>simp at hj;subst hj;exact⟨u,rfl,g'.mono q.fz⟩
    |succ j=>simpa using k' j c yx
   ·cases hf
  ·cases hf
def aNm (F':iX E X) (h:HR E base ρ s w) {z:Nat} {e:Y} (n':VR E ρ y v) (F:aic X s z y=some (e,s')):
 ∃d',Ext ρ d'/\d'.at_=ρ.at_/\HR E base d' s' w/\fA ρ s w d' s' w/\∃(rows:G (G D)) (A:dF av),den E.val e=some (.R rows)/\(∀r∈rows,r.length=z)/\(Builtin.lenOf v).run P w=.ok rows.length w/\
  (∀w':ak,w'.heap=w.heap->(Builtin.firstCells z rows.length v).run P w'=.ok A w')/\A.size=rows.length*z/\(∀(j:Nat) (c:D),rows.flatten[j]?=some c->∃u,A[j]?=some u/\DR d'.fz c u):=by
 have cells:∀(g d:Nat) (arr:dF av) (T:dh) (fr:Nat×Nat) (rows:G (G D)) (fz:Nat->ah Obj),w.heap[g]?=some (.cells arr T fr)->iV fz z rows arr d->∃A:dF av,
  (∀w':ak,w'.heap=w.heap->(loadCells ⟨g,d,none⟩ (rows.length*z)).run P w'=.ok A w')/\A.size=rows.length*z/\(∀(j:Nat) (c:D),rows.flatten[j]?=some c->∃u,A[j]?=some u/\DR fz c u):=by
  intro g d arr T fr rows fz L' U;obtain⟨W,g'⟩:=U.flat;have r':∀(cs:G D) (q:Nat),mR fz cs arr q->∃us:G av,us.length=cs.length/\(∀(j:Nat) (u:av),us[j]?=some u->arr[q+j]?=some u)/\∀(j:Nat) (c:D),cs[j]?=some c->∃u,us[j]?=some u/\DR fz c u:=by
   intro cs
   induction cs with
   |nil=>intro q _;exact⟨[],rfl,by simp,by simp⟩
   |cons c cs M'=>
    intro q ⟨⟨u,a',c'⟩,b'⟩;obtain⟨us,h',i',j'⟩:=M' (q+1) b';refine⟨u::us,by simp[h'],fun j x hj=>?_,fun j x hj=>?_⟩
    ·cases j with
     |zero=>simp at hj;subst hj;exact a'
     |succ j=>have:=i' j x yx;rw[<-this];congr 1;omega
    ·cases j with
     |zero=>simp at hj;subst hj;exact⟨u,rfl,c'⟩
     |succ j=>simpa using j' j x yx
  obtain⟨us,a',c',b'⟩:=r' _ _ W;refine⟨us.toArray,fun w' e'=>?_,by simp;omega,fun j c hj=>?_⟩
  ·have:=FW (P:=P) w' ⟨g,d,none⟩ us (fun j v hj=>by rw[cell_of_heap e',oH,gX w _ _ _ _ _ L'];exact c' j v hj)
   rw[a',g'] at this;exact this
  ·obtain⟨u,h',i'⟩:=b' j c hj
   exact⟨u,by simpa using h',i'⟩
 unfold aic at F;split at F
 ·rename_i P'
  split at F
  ·rename_i T'
   simp only[aG,eG] at F;obtain⟨rfl,rfl⟩:=F;obtain⟨d,W,g'⟩:=n';obtain⟨rows,rfl,k'⟩:=Ud F' W T';obtain⟨o',cap,rfl,t',u',p'⟩:=afA g' k';refine⟨ρ,.refl _,rfl,h,fA.refl h,rows,?_⟩;rcases p' with rfl|⟨g,d,arr,T,fr,rfl,l',f'⟩
   ·refine⟨#[],W,k',by simp[Builtin.lenOf],fun w' _=>?_,by simp,by simp⟩
    cases o' with
    |none=>simp[Builtin.firstCells]
    |some o'=>
     have:=FW (P:=P) w' o' [] bS;simp only[lN] at this;simp[Builtin.firstCells,this]
   ·obtain⟨A,a',c',b'⟩:=cells g d arr T fr rows ρ.fz (h.nM _ _ l') f'
    exact⟨A,W,k',by simp[Builtin.lenOf],fun w' e'=>by simp only[Builtin.firstCells];exact a' w' e',c',b'⟩
  ·cases F
 ·rename_i b P' v'
  split at F
  ·rename_i h0 i0 W'
   split at F
   ·rename_i hc
    obtain⟨rfl,rfl,X'⟩:=hc;simp only[aG,eG] at F;obtain⟨rfl,rfl⟩:=F;obtain rfl:=Y.jZ X';obtain⟨l,cap,rows,W,g',rfl,t',u',p'⟩:=n';obtain⟨D',arr,T,E',l',f',q',x',m'⟩:=h.at W' W;rw[g'] at f';simp only[aG,D.R.injEq] at f';subst f';obtain⟨A,a',c',b'⟩:=cells l.g l.d arr T (0,0) rows ρ.fz l' m';refine⟨ρ,.refl _,rfl,h,fA.refl h,rows,A,g',fun r U=>?_,by simp[Builtin.lenOf],fun w' e'=>by simp only[Builtin.firstCells];exact a' w' e',c',b'⟩
    obtain⟨i,J⟩:=aiU U;exact(m'.get J).1
   ·cases F
  ·cases F
 ·rename_i b o n c v'
  split at F
  ·rename_i k'
   subst k';split at F
   ·rename_i cs y'
    split at F
    ·rename_i es j0 z'
     simp only[aG,eG] at F;obtain⟨rfl,rfl⟩:=F;obtain⟨l,cap,W,rfl,t',u',p',l'⟩:=n';obtain⟨us,f',q',x'⟩:=h.load W y';obtain⟨d',A',a0,U,b0,ds,a',c',b'⟩:=agj h f' z';obtain⟨rows,h',i',j',e0⟩:=Tk (E:=E) (z:=v') n a' I (acc:=.d9) (FH:=[]) rfl;refine⟨d',A',a0,U,b0,rows,us.toArray,by simpa using h',e0,by simp[Builtin.lenOf,j'],fun w' e'=>?_,by simp[q',j'],fun j c hj=>?_⟩
     ·have:=FW (P:=P) w' ⟨l.g,l.d+o,none⟩ us (fun j v hj=>by rw[cell_of_heap e',oH];exact x' j v hj)
      rw[q'] at this;simp only[Builtin.firstCells,j'];exact this
     ·rw[i'] at hj
      obtain⟨u,f0,g0⟩:=b' j c hj;exact⟨u,by simpa using f0,g0⟩
    ·cases F
   ·cases F
  ·cases F
 ·cases F
def DR.one (h:DR j d v):v.oneCell'=true:=by
 cases d with
 |int k n=>rw[show v=_ from h];rfl
 |bool b=>rw[show v=_ from h];rfl
 |str l=>rw[h.1];rfl
 |R rows=>obtain⟨a,cap,rfl,_⟩:=h;rfl
 |any _=>exact h.elim
def mR.congr {fz:Nat->ah Obj}:∀{cs:G D} {arr arr':dF av} {d e:Nat},mR fz cs arr d->(∀j,j<cs.length->arr'[e+j]?=arr[d+j]?)->mR fz cs arr' e
 |[],_,_,_,_,_,_=>True.intro
 |c::cs,arr,arr',d,e,⟨⟨u,l,q⟩,w⟩,h=>⟨⟨u,by have:=h 0 bS;simp only[qy] at this;rw[this];exact l,q⟩,mR.congr w fun j y=>by
   have:=h (j+1) gJ;rw[show e+1+j=e+(j+1) by omega,show d+1+j=d+(j+1) by omega]
   exact this⟩
def iV.congr {fz:Nat->ah Obj} {z:Nat}:∀{rs:G (G D)} {arr arr':dF av} {d e:Nat},iV fz z rs arr d->(∀j,j<rs.length*z->arr'[e+j]?=arr[d+j]?)->iV fz z rs arr' e
 |[],_,_,_,_,_,_=>True.intro
 |r::rs,arr,arr',d,e,⟨l,q,u⟩,h=>by
  simp only[gD,Iw] at h;exact⟨l,q.congr fun j w=>h j I,iV.congr u fun j w=>by
   have:=h (z+j) I;rw[show e+z+j=e+(z+j) by omega,show d+z+j=d+(z+j) by omega]
   exact this⟩
def iV.append {fz:Nat->ah Obj} {z:Nat}:∀{rs e:G (G D)} {arr:dF av} {d:Nat},iV fz z rs arr d->iV fz z e arr (d+rs.length*z)->iV fz z (rs++e) arr d
 |[],e,arr,d,_,h=>by simpa using h
 |r::rs,e,arr,d,⟨j,l,q⟩,h=>⟨j,l,iV.append q (by rw[show d+z+rs.length*z=d+(r::rs).length*z by rw[gD,Iw];omega];exact h)⟩
structure U8 (base:Nat) (ρ:Mp) (s:St) (w:World) (b:Nat) (l:Loc) (rows:List (List D)) (cap z:Nat) (xv:Value):Prop where
 obj:∃o,s.aP.get b=some o/\o.wr
 loc:ρ b=some l
 val:xv=.slice (some ⟨l.g,l.d,none⟩) rows.length cap
 le:rows.length<=cap/\cap<=maxLen/\cap*z<=l.m
 row:∃arr T,w.heap[l.g]?=some (.cells arr T (0,0))/\arr.size=l.d+l.m/\base<=l.g/\iV ρ.fz z rows arr l.d
def aDl (h:HR E base ρ s w) (W:VR E ρ (.gy b x g) v) (u:s.aP.get b=some (.seq g x)):∃l rows cap,den E.val x=some (.R rows)/\U8 base ρ s w b l rows cap g v:=by
 obtain⟨l,cap,rows,y,A,rfl,e,a',b'⟩:=W;obtain⟨j,arr,T,P,c',q,d',e',F⟩:=h.at u y;rw[A] at q;simp only[aG,D.R.injEq] at q;subst q;exact⟨l,rows,cap,A,⟨_,u,True.intro⟩,y,rfl,⟨e,a',b'⟩,arr,T,c',d',j,F⟩
def apu (h:HR E base ρ s w) {z k:Nat} {vs:Tr H} {cs:G H} {es:G Y} (b':VR E ρ (.slice b 0 g i z) v) (A:s.aP.get b=some (.cells false vs k)) (F:s.load b 0 (g*z)=some cs) (P:Ii cs=some es):
 ∃l rows cap,den E.val (BM z g es .d9)=some (.R rows)/\U8 base ρ s w b l rows cap z v:=by
 obtain⟨l,cap,y,rfl,p',q',c',r'⟩:=b';obtain⟨us,d',s',e'⟩:=h.load y F;obtain⟨arr,T,fr,W,f',t',u',g'⟩:=h.at A y;obtain⟨e,rfl⟩:=g' rfl;obtain⟨ds,h',v',i'⟩:=aaN P d';obtain⟨rows,j',k',l',m'⟩:=Tk (E:=E) (z:=z) g h' I (acc:=.d9) (FH:=[]) rfl;refine⟨l,rows,cap,by simpa using j',⟨_,A,rfl⟩,y,by simp[l'],⟨by omega,c',by omega⟩,arr,T,W,f' rfl,e,iV.of m' (mR.of fun j i a'=>?_)⟩
 rw[k'] at a';obtain⟨u,n',o'⟩:=i' j i a';have q:=e' j u n';rw[gX w _ _ _ _ _ W,qy] at q;exact⟨u,q,o'⟩
def aiy:F.toList[b]?=F[b]?:=by simp
def aFf {t ty e:dh} {i:TypeInfo} {T':AL} {cap:Nat} {l:Loc} {y A:G (G D)} {A':av} {ex:Y} (o0:U8 base ρ s w b l y cap i.size m)
 (W':P.underlying t=some (.slice e)) (J:P.info? e=some i) (X':i.zero=some v) (D':v.cells.size=i.size) (a0:P.underlying u=some T') (r':∀k,T'≠.int k) (h:HR E base ρ s w) (b0:i.bytes<=1000) (f':y.length+A.length<=1000000)
 (e0:(Builtin.lenOf A').run P w=.ok A.length w) (hf:∀w':ak,w'.heap=w.heap->(Builtin.firstCells i.size A.length A').run P w'=.ok F w') (s':F.size=A.length*i.size) (t':∀r∈A,r.length=i.size)
 (m':∀(j:Nat) (c:D),A.flatten[j]?=some c->∃u,F[j]?=some u/\DR ρ.fz c u) (E':∀u∈F.toList,u.oneCell'=true) (b':den E.val ex=some (.R (y++A))):
 ∃f0 F' w',(Builtin.append_ #[t,u] ty #[m,A']).run P w=.ok f0 w'/\VR E F' (.gy s.nx ex i.size) f0/\HR E base F' (St.new (s.del b) (.seq i.size ex)) w'/\fA ρ s w F' (St.new (s.del b) (.seq i.size ex)) w':=by
 obtain⟨⟨x0,g0,u'⟩,g',rfl,⟨hle,h0,i0⟩,arr,T,L',A0,d',e'⟩:=o0;have n':(A.flatten).length=A.length*i.size:=by
  have:∀(l:G (G D)),(∀r∈l,r.length=i.size)->l.flatten.length=l.length*i.size:=by
   exact apX
  exact this A t'
 have v0:F.toList.length=F.size:=yP;have w0:y.length*i.size<=cap*i.size:=Cm _ hle;have c':∀(arr':dF av) (q:Nat),(∀j,j<A.length*i.size->arr'[q+j]?=F[j]?)->iV ρ.fz i.size A arr' q:=fun arr' q r0=>iV.of t' (mR.of fun j c W=>by
  obtain⟨u,s0,t0⟩:=m' j c W;exact⟨u,by rw[r0 j (by rw[<-n'];exact(gN.1 W).1)];exact s0,t0⟩)
 have a':(y++A).length=y.length+A.length:=mD
 by_cases h':y.length+A.length<=cap
 ·have U:=aat (ty:=ty) (ba:=some ⟨l.g,l.d,none⟩) (n:=y.length) (cap:=cap) W' J a0 r' e0 (hf w rfl) h'
  have M':(y.length+A.length)*i.size<=cap*i.size:=Cm _ h';rw[Cj] at M';have i':=abz (P:=P) l.g (l.d+y.length*i.size) T F.toList 0 arr w L' I E';rw[qy] at i';simp only[oH,i',Ei] at U;refine⟨_,ρ.on s.nx l,_,U,⟨l,cap,_,Mp.nS _ _ _,b',by rw[a'],by rw[a'];exact h',h0,i0⟩,h.move (o':=.seq i.size ex) (l':=l) g0 g' u' ⟨rfl,rfl,rfl⟩ (by simp[World.setRow]) (fun g _ P'=>U3 w l.g g _ P') (.inl rfl) d'
   ⟨d',_,T,_,abA w l.g arr _ T _ L',b',?_,?_,?_⟩⟩
  ·simp;omega
  ·rw[a',Cj];omega
  ·refine iV.append (e'.congr fun j W=>?_) (c' _ _ fun j W=>?_)
   ·rw[Ee,tV,oI gJ,uX I,aiy]
   ·rw[Ee,tV,nI gJ,oI gJ]
    simp only[oL,yP];rw[show l.d+y.length*i.size+j-min (l.d+y.length*i.size) arr.size=j by omega,aiy]
 ·have j0:∃olds:G av,olds.length=y.length*i.size/\(∀(j:Nat) (u:av),olds[j]?=some u->arr[l.d+j]?=some u):=⟨(arr.toList.drop l.d).take (y.length*i.size),by simp;omega,fun j u W=>by
   rw[List.getElem?_take] at W;split at W
   ·rw[P9] at W;simpa using W
   ·cases W⟩
  obtain⟨olds,j',v'⟩:=j0;have k0:(Builtin.firstCells i.size y.length (.slice (some ⟨l.g,l.d,none⟩) y.length cap)).run P w.drew=.ok olds.toArray w.drew:=by
   have:=FW (P:=P) w.drew ⟨l.g,l.d,none⟩ olds (fun j u W=>by rw[cell_of_heap (w:=w) (w':=w.drew) rfl,oH,gX w _ _ _ _ _ L'];exact v' j u W)
   rw[j'] at this;simp only[Builtin.firstCells];exact this
  have U:=aas (ty:=ty) W' J X' a0 r' e0 (hf w.drew rfl) k0 I f' (fF (ai4 f' b0) I);have x':=abu w (y.length+A.length) cap e;have y':=abv w (y.length+A.length) cap e wB
  generalize grownCap w (y.length+A.length) cap e=nc at U x' y'
  have l0:(Builtin.zeroCells v.cells (nc-(y.length+A.length))).size=(nc-(y.length+A.length))*v.cells.size:=by unfold Builtin.zeroCells;simp
  have z':=h.move (o':=.seq i.size ex) (l':=⟨w.heap.size,0,(olds.toArray++F++Builtin.zeroCells v.cells (nc-(y.length+A.length))).size⟩) (w':=w.drew.alloc (.cells (olds.toArray++F++Builtin.zeroCells v.cells (nc-(y.length+A.length))) e)) g0 g' u' ⟨rfl,rfl,rfl⟩ bS (fun g P' _=>agA w.drew _ g P') (.inr (bq _)) h.base
   ⟨h.base,_,e,_,lu w.drew _,b',by simp,?_,?_⟩
  ·refine⟨_,_,_,U,⟨_,nc,_,Mp.nS _ _ _,b',by rw[a'],by rw[a'];exact x',y',?_⟩,z'.1,z'.2⟩
   have m0:v.cells.size=i.size:=D';simp only[LX,l0,s',wN,j',m0];have:nc*i.size=y.length*i.size+A.length*i.size+(nc-(y.length+A.length))*i.size:=by rw[<-Cj,<-Cj];congr 1;omega
   omega
  ·rw[a',Cj]
   simp only[LX,wN,j',s'];omega
  ·have p':∀j,j<y.length*i.size->(olds.toArray++F++Builtin.zeroCells v.cells (nc-(y.length+A.length)))[0+j]?=arr[l.d+j]?:=fun j W=>by
    have k':j<olds.length:=I;have u0:olds[j]?=some olds[j]:=gM k';rw[v' j _ u0,jW,Array.append_assoc,UC (by simpa using k')]
    simp[k']
   have q':∀j,j<A.length*i.size->(olds.toArray++F++Builtin.zeroCells v.cells (nc-(y.length+A.length)))[0+y.length*i.size+j]?=F[j]?:=fun j W=>by
    rw[Array.append_assoc,Array.getElem?_append_right gJ,UC gJ]
    congr 1
    simp;omega
   exact iV.append (e'.congr p') (c' _ _ q')
end
end
section
variable {E:Env} {X:Ctx}
section
variable {P:bA} {base:Nat} {ρ:Mp} {s s':St} {w:ak} {tm:Tr H} {a:Act} {o:Oper} {r:nO}
def aEn {ba:ah Addr} {t ty e:dh} {i:TypeInfo} {d':AL} {l:G (G D)} {ex:Y}
 (n':P.underlying t=some (.slice e)) (J:P.info? e=some i) (e':i.zero=some v) (a':v.cells.size=i.size) (o':P.underlying u=some d') (f':∀k,d'≠.int k) (h:HR E base ρ s w) (g':i.bytes<=1000) (p':0<l.length) (b':l.length<=1000000)
 (q':(Builtin.lenOf m).run P w=.ok l.length w) (hf:∀w':ak,w'.heap=w.heap->(Builtin.firstCells i.size l.length m).run P w'=.ok F w') (A:F.size=l.length*i.size) (h':∀r∈l,r.length=i.size)
 (y:∀(j:Nat) (c:D),l.flatten[j]?=some c->∃u,F[j]?=some u/\DR ρ.fz c u) (q:den E.val ex=some (.R l)):
 ∃i' c' w',(Builtin.append_ #[t,u] ty #[.slice ba 0 0,m]).run P w=.ok i' w'/\VR E c' (.gy s.nx ex i.size) i'/\HR E base c' (s.new (.seq i.size ex)) w'/\fA ρ s w c' (s.new (.seq i.size ex)) w':=by
 have j':(Builtin.firstCells i.size 0 (.slice ba 0 0)).run P w.drew=.ok #[] w.drew:=by
  cases ba with
  |none=>simp[Builtin.firstCells]
  |some r'=>
   have:=FW (P:=P) w.drew r' [] bS;simp only[lN] at this;simp[Builtin.firstCells,this]
 have U:=aas (ty:=ty) (ba:=ba) (n:=0) (cap:=0) (olds:=#[]) n' J e' o' f' q' (hf w.drew rfl) j' I I (by rw[jW];exact fF (ai4 b' g') I)
 have T:=abu w (0+l.length) 0 e;have W:=abv w (0+l.length) 0 e wB
 generalize grownCap w (0+l.length) 0 e=nc at U T W
 rw[jW] at*;have k':(Builtin.zeroCells v.cells (nc-l.length)).size=(nc-l.length)*v.cells.size:=by unfold Builtin.zeroCells;simp
 have hn:=h.new (.seq i.size ex) (#[]++F++Builtin.zeroCells v.cells (nc-l.length)).size (w':=w.drew.alloc (.cells (#[]++F++Builtin.zeroCells v.cells (nc-l.length)) e)) ⟨rfl,rfl,rfl⟩ bS (fun g s'=>agA w.drew _ g s')
  ⟨h.base,_,e,_,lu w.drew _,q,by simp,?_,?_⟩
 ·refine⟨_,_,_,U,⟨_,nc,_,Mp.nS _ _ _,q,rfl,T,W,?_⟩,hn.1,hn.2⟩
  simp only[LX,k',A,wN,lN,a'];have:nc*i.size=l.length*i.size+(nc-l.length)*i.size:=by rw[<-Cj];congr 1;omega
  omega
 ·simp only[LX,wN,lN,A]
  omega
 ·refine iV.of h' (mR.of fun j c t'=>?_)
  obtain⟨u,l',u'⟩:=y j c t';refine⟨u,?_,u'⟩;show(#[]++F++Builtin.zeroCells v.cells (nc-l.length))[0+j]?=some u;have m':=(kF.1 l').1;rw[jW,UC (by simpa using m'),<-l']
  simp
def aGC {fz:Nat->ah Obj} (w:F.size=p.length) (h:∀(j:Nat) (c:D),p[j]?=some c->∃u,F[j]?=some u/\DR fz c u):∀u∈F.toList,u.oneCell'=true:=by
 intro u y;obtain⟨j,e⟩:=aiU y;have l:j<p.length:=by have:=(gN.1 e).1;simpa[w] using this
 obtain⟨E,q,A⟩:=h j _ (gM l);rw[aiy] at e;rw[e] at q;obtain rfl:=bI q;exact A.one
def aDk (h:HR E base ρ s w) {P:Y} (q:VR E ρ y v) (j:afC X s g P y=some (x,s')):
 ((∃ba,v=.slice ba 0 0)/\x=.d9/\s'=s/\Uk X P=true)\/∃b l rows cap,den E.val x=some (.R rows)/\s'=s.del b/\U8 base ρ s w b l rows cap g v:=by
 unfold afC at j;split at j
 ·split at j
  ·simp only[aG,eG] at j
   obtain⟨rfl,rfl⟩:=j;exact .inl ⟨⟨none,q⟩,rfl,rfl,‹_›⟩
  ·cases j
 ·split at j
  ·simp only[aG,eG] at j
   obtain⟨rfl,rfl⟩:=j;exact .inl ⟨q,rfl,rfl,‹_›⟩
  ·cases j
 ·rename_i b e a'
  split at j
  ·rename_i d' e' u
   split at j
   ·rename_i hc
    obtain⟨rfl,rfl,b'⟩:=hc;simp only[aG,eG] at j;obtain⟨rfl,rfl⟩:=j;obtain rfl:=Y.jZ b';obtain⟨l,rows,cap,A,F⟩:=aDl h q u;exact .inr ⟨b,l,rows,cap,A,rfl,F⟩
   ·cases j
  ·cases j
 ·rename_i b n c a'
  split at j
  ·rename_i c'
   subst c';split at j
   ·rename_i vs k cs u T
    split at j
    ·rename_i es W
     simp only[aG,eG] at j;obtain⟨rfl,rfl⟩:=j;obtain⟨l,rows,cap,A,F⟩:=apu h q u T W;exact .inr ⟨b,l,rows,cap,A,rfl,F⟩
    ·cases j
   ·cases j
  ·cases j
 ·cases j
def aBx (T:iX E X) {t:dh} {x v:H} {t':av} (ty:dh) (h:HR E base ρ s w) (F':VR E ρ x m) (L':VR E ρ y t') (j:aey X P s t u x y=some (v,s')):
 ∃A W w',(Builtin.append_ #[t,u] ty #[m,t']).run P w=.ok A w'/\VR E W v A/\HR E base W s' w'/\fA ρ s w W s' w':=by
 unfold aey at j;split at j
 ·rename_i e _ u' v'
  split at j
  ·rename_i i e0 e' M'
   split at j
   ·rename_i hc
    split at j
    ·rename_i f' f0 P'
     split at j
     ·rename_i ex g0 T'
      split at j
      ·rename_i F
       simp only[aG,eG] at j;obtain⟨rfl,rfl⟩:=j;obtain⟨W,g',_,U,x',a',W',h',i',y',z',j',k'⟩:=aNm (P:=P) T h L' P';obtain⟨h0,X',a0,A',b0⟩:=Uz (E:=E) (ρ:=ρ) M';obtain rfl:=bI (e'.symm.trans a0);have c':X'.cells.size=i.size:=by rw[<-hc.1,<-b0.length];simp
       have l':a'.flatten.length=a'.length*i.size:=by
        have:∀(l:G (G D)),(∀r∈l,r.length=i.size)->l.flatten.length=l.length*i.size:=by
         exact apX
        exact this a' i'
       have m':=aGC (by rw[j',l']) k'
       rcases aDk (X:=X) U (F'.mono g') T' with⟨⟨ba,rfl⟩,rfl,rfl,b'⟩|⟨b,l,i0,cap,D',rfl,E'⟩
       ·have q:den E.val (Da .d9 f')=some (.R a'):=by simpa using ae7 (e1:=.d9) (a:=[]) rfl h'
        obtain⟨A,n',w',o',p',q',r'⟩:=aEn (ty:=ty) (ex:=Da .d9 f') (Yh u') e' A' c' v' bS U hc.2 (aNl T h' b') (arR T q F) y' z' j' i' k' q;exact⟨A,n',w',o',p',q',x'.trans r'⟩
       ·have q:=ae7 D' h'
        have d':=arR T q F;rw[mD] at d';obtain⟨A,n',w',o',p',q',r'⟩:=aFf (ty:=ty) (ex:=Da ex f') E' (Yh u') e' A' c' v' bS U hc.2 d' y' z' j' i' k' m' q;exact⟨A,n',w',o',p',q',x'.trans r'⟩
      ·cases j
     ·cases j
    ·cases j
   ·cases j
  ·cases j
 ·cases j
def aE3 (c:Call) (N:o.op=.call c) (hf:FR E ρ tm a.tmps) (q:jw E X P ρ) (h:HR E base ρ s w) (j:nC X P tm s o=some r):Good E P base ρ s w (execOp a.eval o) r:=by
 simp only[nC,N] at j;have agy:c.args.map a.eval=List.toArray (c.args.toList.map a.eval):=(Zz _ _).symm;split at j
 ·rename_i hc
  split at j
  ·rename_i t rest v e' T
   split at j
   ·rename_i e l
    simp only[aG] at j;subst j;have W:=Ib hf q T;obtain⟨u,_,a',j',hn⟩:=W;obtain rfl:_=[]:=hn;have:=aF8 q.ok (rest:=rest) o.type (c.args.map fun|.const _=>true|_=>false) h j' l
    have A:execOp a.eval o=builtin .len (List.toArray c.argTypes.toList) o.type (c.args.map fun|.const _=>true|_=>false) (List.toArray (c.args.toList.map a.eval)):=by
     exact Yq
    rw[A,e',a'];exact this
   ·cases j
  ·cases j
 ·rename_i hc
  split at j
  ·rename_i t u x y e' T
   split at j
   ·rename_i v E' l
    simp only[aG] at j;subst j;have W:=Ib hf q T;obtain⟨f',_,a',b',g',_,rfl,c',hn⟩:=W;obtain rfl:_=[]:=hn;obtain⟨p',q',w',r',s',t',u'⟩:=aBx q.ok o.type h b' c' l;have A:execOp a.eval o=builtin .append (List.toArray c.argTypes.toList) o.type (c.args.map fun|.const _=>true|_=>false) (List.toArray (c.args.toList.map a.eval)):=by
     exact Yq
    rw[A,e',a'];exact⟨p',q',w',by simp[builtin,r'],s',t',u'⟩
   ·cases j
  ·cases j
 ·rename_i hc
  split at j
  ·rename_i x y T
   split at j
   ·rename_i v l
    simp only[aG] at j;subst j;have W:=Ib hf q T;obtain⟨f',_,a',b',g',_,rfl,c',hn⟩:=W;obtain rfl:_=[]:=hn;have A:execOp a.eval o=builtin .max c.argTypes o.type (c.args.map fun|.const _=>true|_=>false) (List.toArray (c.args.toList.map a.eval)):=by
     exact Yq
    rw[A,a'];unfold atj at l;split at l
    ·rename_i e1 v' x' y'
     split at l
     ·rename_i k' F' z' A'
      split at l
      ·rename_i D'
       subst D';obtain⟨d1,l',m'⟩:=JW b' x';obtain⟨L',n',o'⟩:=JW c' y';obtain⟨n1,rfl⟩:=(xJ q.ok l' z').int;obtain⟨h',rfl⟩:=(xJ q.ok n' A').int;have F:=JF q.ok (.bin .lss e1 v');simp only[den,l',n',f_,jl,qX] at F;rw[show f'=_ from m',show g'=_ from o']
       split at l
       ·rename_i i'
        rw[i'] at F;simp only[den,aG,D.bool.injEq] at F;simp only[aG] at l;subst l;have d':n1<h':=by simpa using F.symm
        refine Good.same h (u:=.int k' h') (by simp[builtin,Builtin.max_,Builtin.max2,d']) ?_
        rw[show g'=_ from o'] at c'
        exact c'
       ·rename_i i'
        rw[i'] at F;simp only[den,aG,D.bool.injEq] at F;simp only[aG] at l;subst l;have d':¬n1<h':=by simpa using F.symm
        refine Good.same h (u:=.int k' n1) (by simp[builtin,Builtin.max_,Builtin.max2,d']) ?_
        rw[show f'=_ from m'] at b'
        exact b'
       ·cases l
      ·cases l
     ·cases l
    ·cases l
   ·cases j
  ·cases j
 ·cases j
def aFa (c x y:je) (N:o.op=.pick c x y) (hf:FR E ρ tm a.tmps) (l:jw E X P ρ) (h:HR E base ρ s w) (j:nC X P tm s o=some r):Good E P base ρ s w (execOp a.eval o) r:=by
 simp only[nC,N] at j;split at j
 ·rename_i e hc
  obtain⟨d,T,W⟩:=iA hf l hc;have q:=wI l.ok T W;split at j
  ·rename_i u
   obtain⟨v,A,rfl⟩:=lq.1 j;rw[u] at q;have F:a.eval c=.bool true:=q;exact Good.same h (by simp[execOp,N,F,asBool]) (iA hf l A)
  ·rename_i u
   obtain⟨v,A,rfl⟩:=lq.1 j;rw[u] at q;have F:a.eval c=.bool false:=q;exact Good.same h (by simp[execOp,N,F,asBool]) (iA hf l A)
  ·cases j
 ·cases j
def aDG (hf:FR E ρ tm a.tmps) (j:jw E X P ρ) (h:HR E base ρ s w) (e:nC X P tm s o=some r):Good E P base ρ s w (execOp a.eval o) r:=by
 cases N:o.op
 case binOp op t x y A=>exact aE2 op t A x y N hf j h e
 case pick c x y=>exact aFa c x y N hf j h e
 case unOp u t x=>exact aFc u t x N hf j h e
 case convert l q x=>exact aE4 l q x N hf j h e
 case load t x=>exact aE8 t x N hf j h e
 case fieldAddr t x k=>exact aE5 t x k N hf j h e
 case indexAddr t x y=>exact aE7 t x y N hf j h e
 case index t x y=>exact aE6 t x y N hf j h e
 case slice t x lo J F=>exact aFb t x lo J F N hf j h e
 case lookup t m k ok=>exact aE9 t m k ok N hf j h e
 case call c=>exact aE3 c N hf j h e
 all_goals simp[nC,N] at e
def atw {a:Act} {tm:Tr H} {ρ:Mp} {c:je} (hf:FR E ρ tm a.tmps) (j:jw E X P ρ) (h:Ll X (rd P tm c)=some y):VR E ρ y (a.eval c):=by
 unfold Ll at h;split at h
 ·rename_i e l
  simp only[aG] at h;subst h;obtain⟨d,q,u⟩:=iA hf j l;exact wI j.ok q u
 ·exact iA hf j h
def afG (hf:FR E ρ tm a.tmps) (j:jw E X P ρ) (h:HR E base ρ s w) (e:rH X P tm s o=some r):Good E P base ρ s w (execOp a.eval o) r:=by
 unfold rH at e;split at e
 ·rename_i q l
  simp only[aG] at e;subst e;exact aDE hf j h l
 ·exact aDG hf j h e
end
section
variable {P:bA} {tm:Tr H} {s:St} {o:Oper} {r:nO}
def aDH (Z:OT P o.op=true) (h:nC X P tm s o=some r):∃v,r=.val v s/\∀s',nC X P tm s' o=some (.val v s'):=by
 cases N:o.op<;>simp only[N,OT] at Z<;>(try(cases Z;done))<;>simp only[nC,N] at h⊢<;>(try(cases h;done))
 case call c=>
  split at Z
  ·exact ap7
  ·rename_i hc;simp only[hc] at h;cases h
  ·exact ap7
  ·cases Z
 all_goals(repeat' split at h)<;>first|(cases h;done)|(simp only[aG] at h;subst h;refine⟨_,rfl,fun s'=>?_⟩;simp_all;done)|(obtain⟨v,e,rfl⟩:=lq.1 h;refine⟨_,rfl,fun s'=>?_⟩;simp_all;done)|(simp_all;done)
def aDF (Z:OQ P o.op=true):nC X P tm s o=none:=by
 cases N:o.op<;>simp only[N,OQ] at Z<;>(try(cases Z;done))<;>simp only[nC,N]
 split at Z
 ·rename_i e h
  rw[e,h]
 ·cases Z
def aDI (Z:GJ P o.op=true) (h:nC X P tm s o=some r):∃v,r=.val v s:=by
 cases N:o.op<;>simp only[N,GJ] at Z<;>(try(cases Z;done))<;>simp only[nC,N] at h
 case call c=>
  split at Z
  ·rename_i hc
   simp only[hc] at h
   (repeat' split at h)<;>first|(cases h;done)|(simp only[aG] at h;exact⟨_,h.symm⟩)
  ·cases Z
 all_goals(repeat' split at h)<;>first|(cases h;done)|(simp only[aG] at h;exact⟨_,h.symm⟩)
def aHk (Z:OT P o.op=true) (h:rH X P tm s o=some r):∃v,r=.val v s/\∀s',rH X P tm s' o=some (.val v s'):=by
 unfold rH at h⊢;cases h1:iI P tm s o with
 |some l=>
  rw[h1] at h;simp only[aG] at h;subst h;obtain⟨v,e,j⟩:=atK Z h1;exact⟨v,e,fun s'=>by rw[j]⟩
 |none=>
  rw[h1] at h;obtain⟨v,e,j⟩:=aDH Z h;refine⟨v,e,fun s'=>?_⟩;cases h4:iI P tm s' o with
  |none=>exact j s'
  |some l=>
   obtain⟨_,_,q⟩:=atK Z h4;rw[q s] at h1;cases h1
def aBp (Z:OQ P o.op=true) (h:rH X P tm s o=some r):∃v e,r=.val v (s.new e)/\∀s':St,s'.nx=s.nx->rH X P tm s' o=some (.val v (s'.new e)):=by
 unfold rH at h⊢;cases h1:iI P tm s o with
 |some u=>
  rw[h1] at h;simp only[aG] at h;subst h;obtain⟨v,e,j,l⟩:=aBq Z h1;exact⟨v,e,j,fun s' q=>by rw[l s' q]⟩
 |none=>
  rw[h1,aDF Z] at h;cases h
def aMA (Z:GJ P o.op=true) (h:rH X P tm s o=some r):∃v,r=.val v s:=by
 unfold rH at h;cases h1:iI P tm s o with
 |some e=>
  rw[h1] at h;simp only[aG] at h;subst h;exact aMC Z h1
 |none=>
  rw[h1] at h;exact aDI Z h
end
end
section
variable {E:Env} {X:Ctx}
def vV (E:Env) (P:bA) (f:ig) (args:G H) (s:St) (v:H) (s':St):Prop:=
 ∀base ρ w us,zK E P ρ->HR E base ρ s w->fq E ρ args us->Calls P f (List.toArray us) w (fun e w'=>∃u h,e=.returned u/\VR E h v u/\HR E base h s' w'/\fA ρ s w h s' w')
def IQ (E:Env) (P:bA) (self:lC->ah gV):Prop:=∀f args s v s',self (.call f args s)=some (.call v s')->vV E P f args s v s'
structure Mk (lo:Nat) (σ:Mp) (s:St) (w:World) (ds:List Deferred):Prop where
 one:∀d∈ds,∃D,d={target:=.collected D,args:=#[]}/\lo<=D/\w.heap[D]?=some (.deferred (some []))/\σ.fz D=none/\∀b o l,s.aP.get b=some o->σ b=some l->l.g≠D
 apart:ds.Pairwise fun d e=>∀D,d.target=.collected D->e.target≠.collected D
def Mk.nil {lo:Nat} {e:Mp} {s:St} {w:ak}:Mk lo e s w []:=⟨fun _ h=>Dm,.nil⟩
def Mk.gZ {ρ q:Mp} {s s':St} {w':ak} {ds:G Deferred} (h:Mk g ρ s W ds) (t:fA ρ s W q s' w'):Mk g q s' w' ds:=by
 refine⟨fun d a'=>?_,h.apart⟩;obtain⟨D,b',c',P,d',u⟩:=h.one d a';have T:=(kF.1 P).1;have w:q.fz D=none:=by
  cases hf:q.fz D with
  |none=>rfl
  |some e'=>
   rcases t.wD D e' hf with j|j|⟨b,o',l,j,_,y,A⟩
   ·rw[d'] at j;cases j
   ·omega
   ·exact(u b o' l j y A).elim
 refine⟨D,b',c',(t.block D T fun b o l E _ F=>u b o l E F).trans P,w,fun b o l E F e=>?_⟩;rcases t.from_ b o l E F with j|⟨f',g',h',j,y,A,_⟩
 ·omega
 ·exact u f' g' h' j y (A.trans e)
structure At (E:Env) (X:Ctx) (P:Program) (base lo:Nat) (ρ:Mp) (nt:Nat) (tm:Tr H) (s:St) (a:Act) (w:World):Prop where
 yB:jw E X P ρ
 U:HR E base ρ s w
 fr:FR E ρ tm a.tmps
 size:a.tmps.size=nt
 marks:Mk lo ρ s w a.defers
 low:base<=lo/\lo<=w.heap.size
def AX.out:AX->Exit
 |.normal=>.normal
 |.exit i=>.exit i
 |.ret=>.ret
def zL (E:Env) (X:Ctx) (P:bA) (base lo:Nat) (ρ:Mp) (nt:Nat) (s:St) (w:ak) (x:AX) (tm':Tr H) (s':St):Exit->Act->ak->Prop:=
 fun e j w'=>e=x.out/\∃h,At E X P base lo h nt tm' s' j w'/\fA ρ s w h s' w'
def zL.trans {P:bA} {base lo:Nat} {ρ j:Mp} {nt:Nat} {s l:St} {w q:ak} {x:AX} {tm':Tr H} {s':St} (t:fA ρ s w j l q) {e:Exit} {u:Act} {w':ak} (h:zL E X P base lo j nt l q x tm' s' e u w'):zL E X P base lo ρ nt s w x tm' s' e u w':=by
 obtain⟨y,A,F,T⟩:=h;exact⟨y,A,F,t.trans T⟩
def Vm (P:bA) (n:Nat) (c:iB) (aY:Exit->Act->ak->Prop) (a:Act) (w:ak):Prop:=match c with
 |.loop body=>Code.rounds P body aY n a w
 |c=>c.wp P aY a w
def Vm.wp {P:bA} {n:Nat} {c:iB} {aY:Exit->Act->ak->Prop} {a:Act} {w:ak} (h:Vm P n c aY a w):c.wp P aY a w:=by
 unfold Vm at h;split at h
 ·exact wp_loop_rounds n h
 ·exact h
def au8 {P:bA} {c:iB} {aY j:Exit->Act->ak->Prop} (l:∀e a w,aY e a w->j e a w):∀{n:Nat} {a:Act} {w:ak},Code.rounds P c aY n a w->Code.rounds P c j n a w
 |0,_,_,h=>h
 |n+1,a,w,h=>by
  rw[aby] at h⊢;refine xV h fun e a w q=>?_;cases e<;>first|exact au8 l q|exact l _ _ _ q
section
variable {P:bA} {self:lC->ah gV} {base:Nat} {ρ:Mp} {s s':St} {w:ak} {tm:Tr H} {a:Act} {o:Oper}
def aiF:VR E ρ (.tuple []) undef:=⟨[],rfl,rfl⟩
def atz (d':IQ E P self) (hf:FR E ρ tm a.tmps) (W:jw E X P ρ) (h:HR E base ρ s w) (j:yJ X P self tm s o=some (y,s')) {aj:Act->ak->Prop} {aY:Exit->Act->ak->Prop}
 (a':∀u l w',VR E l y u->HR E base l s' w'->fA ρ s w l s' w'->aj (a.put o.dst u) w'):o.wp P a w aj aY:=by
 unfold yJ at j;unfold Oper.wp;split at j
 ·rename_i v1 c' q
  simp only[aG,eG] at j;obtain⟨rfl,rfl⟩:=j;obtain⟨u,l,w',A,b',F,T⟩:=afG hf W h q;rw[A,Oper.upon_value];exact a' u l w' b' F T
 ·rename_i c' q
  simp only[aG,eG] at j;obtain⟨rfl,rfl⟩:=j;obtain⟨l,w',A,F,T⟩:=afG hf W h q;rw[A,Oper.upon_skip];exact a' _ l w' aiF F T
 ·rename_i f args c' q
  obtain⟨rfl,us,A,b'⟩:=afG hf W h q;rw[A,Oper.upon_enter];split at j
  ·rename_i g' h' F
   simp only[aG,eG] at j;obtain⟨rfl,rfl⟩:=j;refine uW (d' f args _ _ _ F base ρ w us W.base h b') ?_;rintro e w' ⟨u,l,rfl,T,e',f'⟩;exact a' u l w' T e' f'
  ·cases j
 ·cases j
def aaQ {ops:dF Oper} (hf:FR E ρ tm a.tmps) (l:iX E X) {b:aK} (h:Cb X ops.toList tm o=some b):Region.wanted o (yielded ops a.tmps)=b:=by
 unfold Cb at h;unfold Region.wanted;split at h
 ·rename_i q
  simp only[aG] at h;rw[q];exact h
 ·rename_i j u q
  rw[q];simp only[J2] at h;split at h
  ·rename_i p Z
   split at h
   ·rename_i d A
    unfold yielded;simp only[Z,f_,A];have key:∀v0,Ll X (tm.get d)=some v0->∃v,a.tmps[d]?=some v/\VR E ρ v0 v:=fun v0 e=>by
     unfold Ll at e;split at e
     ·rename_i a' F
      simp only[aG] at e;subst e;obtain⟨v,P,d0,T,W⟩:=hf.get d _ F;exact⟨v,P,wI l T W⟩
     ·exact hf.get d _ e
    split at h
    ·rename_i x l
     obtain⟨v,w,y⟩:=key _ l;simp only[aG] at h;rw[w,show v=_ from y]
     simp only[];rw[<-h];cases x<;>cases u<;>rfl
    ·rename_i l
     obtain⟨v,w,b',y,c'⟩:=key _ l;simp only[aG] at h;rw[w,y];simp only[];rw[<-h]
     rfl
    ·cases h
   ·cases h
  ·cases h
def Act.ahq (a:Act) (d:ah Tmp) (v:av):(a.put d v).defers=a.defers:=by cases d<;>rfl
def At.put {lo nt:Nat} {tm':Tr H} {v:H} {u:av} {d:ah Nat} {e:Mp} {w':ak} (h:At E X P base lo ρ nt tm s a w) (j:HR E base e s' w') (t:fA ρ s w e s' w') (Z:H8 nt tm d v=some tm') (A:VR E e v u):At E X P base lo e nt tm' s' (a.put d u) w':=by
 have l:Mk lo e s' w' (a.put d u).defers:=by rw[Act.ahq];exact h.marks.gZ t
 have q:base<=lo/\lo<=w'.heap.size:=⟨h.low.1,fF h.low.2 t.size⟩;have hf:=h.fr.mono t.ext;have y:=h.size;unfold H8 at Z;split at Z
 ·split at Z
  ·rename_i F
   simp only[aG] at Z;subst Z;exact⟨h.yB.mono t.ext,j,hf.put I A,by simp[Act.put,y],l,q⟩
  ·cases Z
 ·simp only[aG] at Z
  subst Z;exact⟨h.yB.mono t.ext,j,hf,y,l,q⟩
def ahZ (F:IQ E P self) {ops:dF Oper} {lo nt:Nat} {aY:Exit->Act->ak->Prop} {tm':Tr H}:∀(rest:G Oper) (k:Nat) (tm:Tr H) (s:St) (ρ:Mp) (a:Act) (w:ak),rest=ops.toList.drop k->
 At E X P base lo ρ nt tm s a w->LD X P self ops.toList nt rest tm s=some (tm',s')->(∀l q w',At E X P base lo l nt tm' s' q w'->fA ρ s w l s' w'->aY .normal q w')->wpOps P ops aY (List.range' k rest.length) a w
 |[],k,tm,s,ρ,a,w,U,h,e,y=>by
  simp only[aM2,aG,eG] at e;obtain⟨rfl,rfl⟩:=e;exact y ρ a w h (fA.refl h.U)
 |o::rest,k,tm,s,ρ,a,w,U,h,e,y=>by
  have N:ops[k]?=some o:=by
   rw[<-J2];have:(ops.toList.drop k)[0]?=some o:=R5
   simpa using this
  have A:rest=ops.toList.drop (k+1):=by
   have:(ops.toList.drop k).tail=rest:=R5;rw[<-this,aiZ]
  rw[gD,aa6,wpOps,N];rw[aM1] at e;simp only[];split at e
  ·rename_i T
   rw[aaQ h.fr h.yB.ok T,bK rfl];split at e
   ·rename_i v c' d'
    split at e
    ·rename_i j W
     refine .inl (atz F h.fr h.yB h.U d' fun u l w' e' f' a'=>?_);refine ahZ F rest (k+1) j c' l _ w' A (h.put f' a' W e') e fun g' q b' h' i'=>?_;exact y g' q b' h' (a'.trans i')
    ·cases e
   ·cases e
  ·rename_i T
   rw[aaQ h.fr h.yB.ok T,bB bS];split at e
   ·rename_i j W
    exact ahZ F rest (k+1) j s ρ _ w A (h.put h.U (fA.refl h.U) W aiF) e y
   ·cases e
  ·cases e
end
end
section
variable {E:Env} {X:Ctx}
section
variable {P:bA} {self:lC->ah gV} {ops:G Oper} {ms:G Nat} {N0 nt:Nat} {jU:Tr H} {B0:St}
def F8 (ops:G Oper) (pre:G Rec) (jU:Tr H) (t:Nat) (x:H):Prop:=
 (∀(j:Nat) (p:Oper) (r:Rec),ops[j]?=some p->p.dst=some t->pre[j]?=some r->x=r.v)/\((∀(j:Nat) (p:Oper) (r:Rec),ops[j]?=some p->p.dst=some t->pre[j]?=some r->False)->jU.get t=some x)
def Er (B0:St) (pre:G Rec):ah Nat->St->Prop
 |none,aD=>aD=B0/\∀(j:Nat) (r:Rec) (B':St),pre[j]?=some r->r.k≠.chain B'
 |some c,aD=>(∃r,pre[c]?=some r/\r.k=.chain aD)/\∀(j:Nat) (r:Rec) (B':St),pre[j]?=some r->r.k=.chain B'->j<=c
def bX (N0:Nat) (j:Nat) (r:Rec):ah (Nat×AO):=match r.k with
 |.alloc e=>some (N0+j,e)
 |.put b _ e=>some (b,e)
 |_=>none
def Ka (aZ:G Rec) (N0:Nat) (dw:Nat->Prop) (aD:St):Nat->AO->Prop:=fun b o=>
 (∃(j:Nat) (r:Rec),aZ[j]?=some r/\bX N0 j r=some (b,o)/\dw j/\∀(j':Nat) (e:Rec) (o':AO),aZ[j']?=some e->bX N0 j' e=some (b,o')->dw j'->j'<=j)\/
 (aD.aP.get b=some o/\∀(j:Nat) (r:Rec) (o':AO),aZ[j]?=some r->bX N0 j r=some (b,o')->¬dw j)
def Mr (ms:G Nat) (i:Nat) (c:ah Nat):Nat->Prop:=fun j=>(ms.getD i 0).testBit j=true/\(pE ms c).testBit j=false
def abC (X:Ctx) (P:bA) (self:lC->ah gV) (ops:G Oper) (ms:G Nat) (N0:Nat) (B0:St) (jU:Tr H) (pre:G Rec) (r:Rec) (o:Oper):Prop:=
 (∀t x,r.tm.get t=some x->t∈Hy ops o/\F8 ops pre jU t x)/\
 match r.k with
 |.skip=>Cb X ops r.tm o=some false/\r.v=.tuple []
 |.pure=>Cb X ops r.tm o=some true/\∀s,rH X P r.tm s o=some (.val r.v s)
 |.read=>Cb X ops r.tm o=some true/\GJ P o.op=true
 |.alloc e=>Cb X ops r.tm o=some true/\(Tr.set (N0+pre.length) e .leaf).get (N0+pre.length)=some e/\∀s:St,s.nx=N0+pre.length->rH X P r.tm s o=some (.val r.v (s.new e))
 |.put b h j=>Cb X ops r.tm o=some true/\r.v=.tuple []/\∃(c:ah Nat) (aD:St),Er B0 pre c aD/\Ka pre N0 (Mr ms pre.length c) aD b h/\
  ∃s':St,s'.J=aD.J/\s'.aP.get b=some j/\rH X P r.tm ⟨Tr.set b h .leaf,aD.J,aD.J⟩ o=some (.skip s')
 |.chain B'=>Cb X ops r.tm o=some true/\∃(c:ah Nat) (aD:St) (aP:Tr AO),Er B0 pre c aD/\(∀c0,c=some c0->(ms.getD pre.length 0).testBit c0=true)/\
  (∀b o',aP.get b=some o'->Ka pre N0 (Mr ms pre.length c) aD b o')/\
  yJ X P self r.tm ⟨aP,aD.J,aD.J⟩ o=some (r.v,B')
def FX (X:Ctx) (P:bA) (self:lC->ah gV) (ops:G Oper) (ms:G Nat) (N0:Nat) (B0:St) (jU:Tr H) (nt:Nat) (aZ:G Rec):Prop:=
 ∀(i:Nat) (r:Rec) (o:Oper),aZ[i]?=some r->ops[i]?=some o->abC X P self ops ms N0 B0 jU (aZ.take i) r o/\∀d,o.dst=some d->d<nt
def U7 (ops:G Oper):Prop:=∀(i j:Nat) (o p:Oper) (d:Nat),ops[i]?=some o->ops[j]?=some p->o.dst=some d->p.dst=some d->i=j
def aEc {acc:G Rec} {r:Rec} {o:Oper} (h:FX X P self ops ms N0 B0 jU nt acc) (N:ops[acc.length]?=some o) (U:abC X P self ops ms N0 B0 jU acc r o) (l:∀d,o.dst=some d->d<nt):
 FX X P self ops ms N0 B0 jU nt (acc++[r]):=by
 intro i q o' J e
 by_cases j:i<acc.length
 ·rw[oI j] at J
  rw[List.take_append_of_le_length I];exact h i q o' J e
 ·rw[nI I] at J
  by_cases u:i=acc.length
  ·subst u
   simp at J;subst J;rw[N] at e;obtain rfl:=bI e;rw[List.take_left' rfl];exact⟨U,l⟩
  ·have:([r]:G Rec)[i-acc.length]?=none:=by
    rw[awZ];simp;omega
   rw[this] at J;cases J
def aNS {acc:G Rec} {r:Rec} {o:Oper} {tm tm':Tr H} (T:U7 ops) (N:ops[acc.length]?=some o) (h:∀t x,tm.get t=some x->F8 ops acc jU t x) (Z:H8 nt tm o.dst r.v=some tm'):
 (∀t x,tm'.get t=some x->F8 ops (acc++[r]) jU t x)/\∀d,o.dst=some d->d<nt:=by
 have P:∀(j:Nat) (e:Rec),(acc++[r])[j]?=some e->(j<acc.length/\acc[j]?=some e)\/(j=acc.length/\e=r):=fun j e hj=>by
  by_cases A:j<acc.length
  ·rw[oI A] at hj;exact .inl ⟨A,hj⟩
  ·exact apG
 have E:∀(j:Nat) (e:Rec),acc[j]?=some e->(acc++[r])[j]?=some e:=fun j e hj=>by
  rw[oI (gN.1 hj).1];exact hj
 have F:(acc++[r])[acc.length]?=some r:=bS;unfold H8 at Z;split at Z
 ·rename_i d u
  split at Z
  ·rename_i A
   simp only[aG] at Z;subst Z;refine⟨fun t x W=>?_,fun d' w=>by rw[u] at w;obtain rfl:=bI w;exact A⟩
   rcases Tr.jc W with⟨rfl,rfl⟩|⟨e',f'⟩
   ·refine⟨fun j p e hj l q=>?_,fun y=>(y _ _ _ N u F).elim⟩
    obtain rfl:=T _ _ _ _ _ hj N l u;rw[F] at q;rw[bI q]
   ·obtain⟨a',b'⟩:=h t x f'
    refine⟨fun j p e hj l q=>?_,fun y=>b' fun j p e hj l q=>y j p e hj l (E j e q)⟩;rcases P j e q with⟨_,c'⟩|⟨rfl,_⟩
    ·exact a' j p e hj l c'
    ·rw[N] at hj
     obtain rfl:=bI hj;rw[u] at l;exact absurd (bI l).symm e'
  ·cases Z
 ·rename_i u
  simp only[aG] at Z;subst Z;refine⟨fun t x W=>?_,fun d' w=>by rw[u] at w;cases w⟩
  obtain⟨a',b'⟩:=h t x W;refine⟨fun j p e hj l q=>?_,fun y=>b' fun j p e hj l q=>y j p e hj l (E j e q)⟩;rcases P j e q with⟨_,c'⟩|⟨rfl,_⟩
  ·exact a' j p e hj l c'
  ·rw[N] at hj
   obtain rfl:=bI hj;rw[u] at l;cases l
def Y_ {acc:G Rec} {r e:Rec} {j:Nat} (hj:(acc++[r])[j]?=some e):acc[j]?=some e\/(j=acc.length/\e=r):=by
 by_cases h:j<acc.length
 ·rw[oI h] at hj;exact .inl hj
 ·exact apG
def agK {acc:G Rec} {r:Rec} {c:ah Nat} {aD:St} (h:Er B0 acc c aD) (U:∀B',r.k≠.chain B'):Er B0 (acc++[r]) c aD:=by
 cases c with
 |none=>
  refine⟨h.1,fun j l B' q=>?_⟩;rcases Y_ q with e|⟨_,rfl⟩
  ·exact h.2 j l B' e
  ·exact U B'
 |some c=>
  obtain⟨⟨w,e,y⟩,A⟩:=h;refine⟨⟨w,by rw[oI (gN.1 e).1];exact e,y⟩,fun j l B' q u=>?_⟩
  rcases Y_ q with E|⟨_,rfl⟩
  ·exact A j l B' E u
  ·exact absurd u (U B')
def aFU {acc:G Rec} {r:Rec} {B':St} (U:r.k=.chain B'):Er B0 (acc++[r]) (some acc.length) B':=by
 refine⟨⟨r,by simp,U⟩,fun j l h e _=>?_⟩
 have:=(gN.1 e).1;simp at this;omega
structure Ba (N0:Nat) (acc:List Rec) (al:List (Nat×Nat×AO)):Prop where
 sound:∀j b ob,(j,b,ob)∈al->∃r,acc[j]?=some r/\bX N0 j r=some (b,ob)
 full:∀(j:Nat) (r:Rec) b ob,acc[j]?=some r->bX N0 j r=some (b,ob)->(j,b,ob)∈al
 sorted:al.Pairwise (fun p q=>q.1<p.1)
def Ba.snoc {acc:G Rec} {al:G (Nat×Nat×AO)} {r:Rec} (h:Ba N0 acc al) (U:bX N0 acc.length r=none):Ba N0 (acc++[r]) al:=by
 refine⟨fun j b l q=>?_,fun j w b l q u=>?_,h.sorted⟩
 ·obtain⟨y,e,A⟩:=h.sound j b l q
  exact⟨y,by rw[oI (gN.1 e).1];exact e,A⟩
 ·rcases Y_ q with e|⟨rfl,rfl⟩
  ·exact h.full j w b l e u
  ·rw[U] at u;cases u
def Ba.add {acc:G Rec} {al:G (Nat×Nat×AO)} {r:Rec} {y:AO} (h:Ba N0 acc al) (U:bX N0 acc.length r=some (b,y)):Ba N0 (acc++[r]) ((acc.length,b,y)::al):=by
 refine⟨fun j u e l=>?_,fun j E u e l w=>?_,aa5.2 ⟨fun p Z=>?_,h.sorted⟩⟩
 ·rcases g_.1 l with l|l
  ·simp only[eG] at l
   obtain⟨rfl,rfl,rfl⟩:=l;exact⟨r,by simp,U⟩
  ·obtain⟨A,q,F⟩:=h.sound j u e l
   exact⟨A,by rw[oI (gN.1 q).1];exact q,F⟩
 ·rcases Y_ l with q|⟨rfl,rfl⟩
  ·exact gF _ (h.full j E u e q w)
  ·rw[U] at w
   simp only[aG,eG] at w;obtain⟨rfl,rfl⟩:=w;exact jG
 ·obtain⟨j,u,e⟩:=p
  obtain⟨A,q,_⟩:=h.sound j u e Z;exact(gN.1 q).1
def agQ {aZ:G Rec} {al:G (Nat×Nat×AO)} (e:Ba N0 aZ al) {c:ah Nat} {aD:St} {o:AO} (h:(zW (ms.getD i 0) (pE ms c) aD.aP al).get b=some o):Ka aZ N0 (Mr ms i c) aD b o:=by
 rcases Xd e.sorted h with⟨j,l,q,u,w⟩|⟨l,q⟩
 ·obtain⟨r,A,E⟩:=e.sound j b o l
  exact .inl ⟨j,r,A,E,⟨q,u⟩,fun j' F o' P T y=>w j' o' (e.full j' F b o' P T) y.1 y.2⟩
 ·exact .inr ⟨l,fun j r o' u w=>q j o' (e.full j r b o' u w)⟩
def aHm {j:Tr H} {o:Oper} {aP:Tr AO} {e l:AO} (h:Ls X P j o g aP=some (b,e,l)):aP.get b=some e/\∃s':St,s'.J=g/\s'.aP.get b=some l/\rH X P j ⟨Tr.set b e .leaf,g,g⟩ o=some (.skip s'):=by
 unfold Ls at h;split at h
 ·split at h
  ·split at h
   ·rename_i E _ _ F u
    split at h
    ·rename_i s' w
     split at h
     ·rename_i q
      split at h
      ·rename_i A y
       simp only[aG,eG] at h;obtain⟨rfl,rfl,rfl⟩:=h;exact⟨u,s',q,y,w⟩
      ·cases h
     ·cases h
    ·cases h
   ·cases h
  ·cases h
 ·cases h
def aMD {acc:G Rec} {tm:Tr H} {c:ah Nat} {aD:St} {al:G (Nat×Nat×AO)} {o:Oper} {r:Rec} (c':∀t x,tm.get t=some x->F8 ops acc jU t x) (hc:Er B0 acc c aD) (w:Ba N0 acc al)
 (h:ahR X P self ops ms N0 acc.length o (JR tm (Hy ops o)) c aD al=some r):abC X P self ops ms N0 B0 jU acc r o:=by
 have e:∀t x,(JR tm (Hy ops o)).get t=some x->t∈Hy ops o/\F8 ops acc jU t x:=fun t x E=>⟨(au3 E).1,c' t x (au3 E).2⟩;unfold ahR at h;split at h
 ·cases h
 ·rename_i l
  simp only[aG] at h;subst h;exact⟨e,l,rfl⟩
 ·rename_i l
  split at h
  ·rename_i Z
   split at h
   ·rename_i v F j
    simp only[aG] at h;subst h;obtain⟨d',q,u⟩:=aHk Z j;simp only[nO.val.injEq] at q;obtain⟨rfl,rfl⟩:=q;exact⟨e,l,u⟩
   ·cases h
  ·split at h
   ·rename_i Z
    split at h
    ·rename_i v F j
     obtain⟨d',T,q,u⟩:=aBp Z j;simp only[nO.val.injEq] at q;obtain⟨rfl,rfl⟩:=q;split at h
     ·rename_i e' y
      simp only[St.new] at y;simp only[aG] at h;subst h;have W:e'=T:=by
       rcases Tr.jc y with⟨_,A⟩|⟨A,_⟩
       ·exact A
       ·exact absurd rfl A
      subst W;exact⟨e,l,y,fun s f'=>u s f'⟩
     ·cases h
    ·cases h
   ·split at h
    ·rename_i Z
     split at h
     ·rename_i v F j
      simp only[aG] at h;subst h;exact⟨e,l,Z⟩
     ·cases h
    ·split at h
     ·split at h
      ·rename_i b h' i' j
       simp only[aG] at h;subst h;obtain⟨q,u⟩:=aHm j;exact⟨e,l,rfl,c,aD,hc,agQ w q,u⟩
      ·cases h
     ·split at h
      ·rename_i a'
       split at h
       ·rename_i v B' j
        simp only[aG] at h;subst h;refine⟨e,l,c,aD,_,hc,fun c0 b'=>?_,fun b o' g'=>agQ w g',j⟩;subst b';exact a'
       ·cases h
      ·cases h
def RN (j:U7 ops):∀(rest:G Oper) (i:Nat) (acc:G Rec) (tm:Tr H) (c:ah Nat) (aD:St) (al:G (Nat×Nat×AO)) (e:aji),i=acc.length->rest=ops.drop i->
 FX X P self ops ms N0 B0 jU nt acc->(∀t x,tm.get t=some x->F8 ops acc jU t x)->Er B0 acc c aD->Ba N0 acc al->
 Jk X P self ops ms N0 nt rest i acc tm c aD al=some e->
 FX X P self ops ms N0 B0 jU nt e.aZ/\(∀t x,e.tm.get t=some x->F8 ops e.aZ jU t x)/\Er B0 e.aZ e.c e.aD/\Ba N0 e.aZ e.al/\(acc.length<=ops.length->e.aZ.length=ops.length)
 |[],i,acc,tm,c,aD,al,e,J,U,hf,y,hc,q,h=>by
  simp only[Jk,aG] at h;subst h;refine⟨hf,y,hc,q,fun hle=>?_⟩;have:(ops.drop i).length=0:=R5;rw[sK] at this;simp only;omega
 |o::rest,i,acc,tm,c,aD,al,e,J,U,hf,y,hc,q,h=>by
  have N:ops[acc.length]?=some o:=by
   have:(ops.drop i)[0]?=some o:=R5;rw[<-J]
   simpa using this
  have w:rest=ops.drop (i+1):=by
   have:(ops.drop i).tail=rest:=R5;rw[<-this,aiZ]
  have d':acc.length<ops.length:=(gN.1 N).1;simp only[Jk] at h;split at h
  ·cases h
  ·rename_i r F
   rw[J] at F;have e':=aMD y hc q F;split at h
   ·cases h
   ·rename_i tm' f'
    obtain⟨A,g'⟩:=aNS j N y f';have E:=aEc hf N e' g';have T:i+1=(acc++[r]).length:=Dl;split at h
    ·rename_i u l
     rw[J] at h;have:=RN j rest (acc.length+1) (acc++[r]) tm' c aD ((acc.length,N0+acc.length,u)::al) e bS (by rw[<-J];exact w) E A (agK hc (by rw[l];simp)) (q.add (by simp[bX,l])) h
     exact YQ
    ·rename_i b W u l
     rw[J] at h;have:=RN j rest (acc.length+1) (acc++[r]) tm' c aD ((acc.length,b,u)::al) e bS (by rw[<-J];exact w) E A (agK hc (by rw[l];simp)) (q.add (by simp[bX,l])) h
     exact YQ
    ·rename_i B' l
     rw[J] at h;have:=RN j rest (acc.length+1) (acc++[r]) tm' (some acc.length) B' al e bS (by rw[<-J];exact w) E A (aFU l) (q.snoc (by simp[bX,l])) h
     exact YQ
    ·rename_i a' b' c'
     have h':bX N0 acc.length r=none:=by
      unfold bX;split
      ·rename_i u l;exact(a' u l).elim
      ·rename_i b W u l;exact(b' b W u l).elim
      ·rfl
     have:=RN j rest (i+1) (acc++[r]) tm' c aD al e T w E A (agK hc (fun B' l=>c' B' l)) (q.snoc h') h;exact YQ
end
end
section
variable {E:Env} {X:Ctx}
structure Static (ops:List Oper) (ms:List Nat):Prop where
 mask:∀(i:Nat) (o:Oper),ops[i]?=some o->ms.getD i 0=Ti ms o
 back:∀(i:Nat) (o:Oper) (e:Edge),ops[i]?=some o->e∈o.after->Region.binds .any e=true->e.on<i
 afy:U7 ops
 names:∀(i j:Nat) (o p:Oper) (t:Nat),ops[i]?=some o->ops[j]?=some p->t∈Hy ops o->p.dst=some t->j=i\/(ms.getD i 0).testBit j=true\/(ms.getD j 0).testBit i=true
def aNv {ops:G Oper} {ms:G Nat} (h:aie ops ms=true):Static ops ms:=by
 unfold aie at h;have key:∀(i:Nat) (o:Oper),ops[i]?=some o->_:=fun i o N=>KD (i:=i) h N;simp only[jW,bU,xU,Ch,wL,Im,iL,awO] at key;refine⟨fun i o N=>(key i o N).1.1.1,fun i o e N y A=>?_,fun i j o p d N Z u w=>?_,fun i j o p t N Z E u=>?_⟩
 ·rcases(key i o N).1.1.2 e y with q|q
  ·rw[A] at q;cases q
  ·exact q
 ·have q:=(key i o N).1.2
  rw[u] at q;simp only[] at q;have l:=KD (i:=j) q Z;simp only[jW,wL,iL,Im,zH] at l;rcases l with l|l
  ·exact l.symm
  ·exact absurd w l
 ·have l:=KD (i:=j) ((key i o N).2 t E) Z
  simp only[jW,wL,iL,Im,zH] at l;rcases l with((l|l)|l)|l
  ·exact absurd u l
  ·exact .inl l
  ·exact .inr (.inl l)
  ·exact .inr (.inr l)
section
variable {ops:G Oper} {ms:G Nat}
def Static.lt (h:Static ops ms):∀(i:Nat) (o:Oper) (j:Nat),ops[i]?=some o->(ms.getD i 0).testBit j=true->j<i:=by
 intro i
 induction i using Nat.strongRecOn with
 |_ i w=>
  intro o j N q;rw[h.mask i o N] at q;obtain⟨e,y,A,l⟩:=Tj.1 q;have u:=h.back i o e N y A;rcases l with rfl|l
  ·exact u
  ·have E:=(gN.1 N).1
   have:=w e.on u _ j (gM I) l;omega
def Static.trans (h:Static ops ms):∀(i:Nat) (o:Oper) (c j:Nat),ops[i]?=some o->(ms.getD i 0).testBit c=true->(ms.getD c 0).testBit j=true->(ms.getD i 0).testBit j=true:=by
 intro i
 induction i using Nat.strongRecOn with
 |_ i y=>
  intro o c j N hc q;rw[h.mask i o N] at hc⊢;obtain⟨e,u,w,l⟩:=Tj.1 hc;have A:=h.back i o e N u w;have E:=(gN.1 N).1;refine Tj.2 ⟨e,u,w,.inr ?_⟩;rcases l with rfl|l
  ·exact q
  ·exact y e.on A _ c j (gM I) l q
def Down (ops:G Oper) (L:Nat->Prop):Prop:=∀(i:Nat) (o:Oper) (e:Edge),ops[i]?=some o->L i->e∈o.after->Region.binds .any e=true->L e.on
def Static.below (h:Static ops ms) {L:Nat->Prop} (w:Down ops L):∀(i:Nat) (o:Oper) (j:Nat),ops[i]?=some o->L i->(ms.getD i 0).testBit j=true->L j:=by
 intro i
 induction i using Nat.strongRecOn with
 |_ i A=>
  intro o j N J y;rw[h.mask i o N] at y;obtain⟨e,l,q,u⟩:=Tj.1 y;have E:=h.back i o e N l q;have F:=(gN.1 N).1;rcases u with rfl|u
  ·exact w i o e N J l q
  ·exact A e.on E _ j (gM I) (w i o e N J l q) u
def Static.ready (h:Static ops ms) {L:Nat->Prop} (y:Down ops L) {o:Oper} (N:ops[i]?=some o) (U:∀e∈o.after,Region.binds .any e=true->L e.on) {j:Nat} (w:(ms.getD i 0).testBit j=true):L j:=by
 rw[h.mask i o N] at w;obtain⟨e,l,q,u⟩:=Tj.1 w;have E:=h.back i o e N l q;have A:=(gN.1 N).1;rcases u with rfl|u
 ·exact U e l q
 ·exact h.below y e.on _ j (gM I) (U e l q) u
end
def ahn:∀{aZ:G Rec} {k:Nat} {p:Nat×St},p∈BO aZ k->∃(i:Nat) (r:Rec),p.1=k+i/\aZ[i]?=some r/\r.k=.chain p.2
 |[],_,_,h=>by simp[BO] at h
 |a::rest,k,p,h=>by
  simp only[BO] at h;split at h
  ·rename_i aD e
   rcases g_.1 h with rfl|h
   ·exact⟨0,a,rfl,rfl,e⟩
   ·exact aqE
  ·exact aqE
def Pt (B0:St) (aZ:G Rec) (c:ah Nat) (aD:St):Prop:=(c=none/\aD=B0)\/∃(c0:Nat) (r:Rec),c=some c0/\aZ[c0]?=some r/\r.k=.chain aD
def abD (ms:G Nat) (aZ:G Rec) (i:Nat) (c:ah Nat):Prop:=
 (∀c0,c=some c0->(ms.getD c0 0).testBit i=false)/\∀(c':Nat) (r:Rec) (B':St),aZ[c']?=some r->r.k=.chain B'->(∃c0,c=some c0/\c'<=c0)\/(ms.getD i 0).testBit c'=false
structure Qj (X:Ctx) (P:Program) (ops:List Oper) (ms:List Nat) (N0:Nat) (B0:St) (aZ:List Rec):Prop where
 read:∀(i:Nat) (o:Oper) (r:Rec) (c:Option Nat) (aD:St),ops[i]?=some o->aZ[i]?=some r->r.k=.read->GJ P o.op=true->Pt B0 aZ c aD->abD ms aZ i c->
  ∃A:Tr AO,(∀b o',A.get b=some o'->Ka aZ N0 (Mr ms i c) aD b o'/\∀(f:Nat) (r':Rec) (o0 o1:AO),aZ[f]?=some r'->r'.k=.put b o0 o1->(ms.getD i 0).testBit f=true\/(pE ms c).testBit f=true\/(ms.getD f 0).testBit i=true)/\
   rH X P r.tm ⟨A,aD.J,aD.J⟩ o=some (.val r.v ⟨A,aD.J,aD.J⟩)
 clean:∀(i:Nat) (r:Rec) (ob:AO) (c:Option Nat) (aD:St),aZ[i]?=some r->r.k=.alloc ob->Pt B0 aZ c aD->(pE ms c).testBit i=true\/aD.aP.get (N0+i)=none
 ahp:∀(i j:Nat) (r r':Rec) (b:Nat) (o0 o1:AO) (B':St),aZ[i]?=some r->aZ[j]?=some r'->r.k=.put b o0 o1->r'.k=.chain B'->(ms.getD i 0).testBit j=true\/(ms.getD j 0).testBit i=true
 aHn:∀(i j:Nat) (r r':Rec) (b:Nat) (o0 o1 o2 o3:AO),aZ[i]?=some r->aZ[j]?=some r'->r.k=.put b o0 o1->r'.k=.put b o2 o3->j=i\/(ms.getD i 0).testBit j=true\/(ms.getD j 0).testBit i=true
 Ls:∀(i j:Nat) (r r':Rec) (o0 o1 ob:AO),aZ[i]?=some r->aZ[j]?=some r'->r.k=.put (N0+j) o0 o1->r'.k=.alloc ob->(ms.getD i 0).testBit j=true
def asQ {aP:Tr AO} (h:Zm aP b=true):aP.get b=none:=by
 unfold Zm at h;split at h
 ·cases h
 ·assumption
def ao3 {P:bA} {al:G (Nat×Nat×AO)} {aZ:G Rec} {o:Oper} {r:Rec} {c:ah Nat} {aD:St} (W:Ba g aZ al) (U:GJ P o.op=true)
 (h:XY X P q al aZ (BO aZ 0) i o r c aD=true) (F:abD q aZ i c):
 ∃A:Tr AO,(∀b o',A.get b=some o'->Ka aZ g (Mr q i c) aD b o'/\∀(f:Nat) (l:Rec) (a' b':AO),aZ[f]?=some l->l.k=.put b a' b'->(q.getD i 0).testBit f=true\/(pE q c).testBit f=true\/(q.getD f 0).testBit i=true)/\
  rH X P r.tm ⟨A,aD.J,aD.J⟩ o=some (.val r.v ⟨A,aD.J,aD.J⟩):=by
 have c':Zj q (BO aZ 0) i c=true:=by
  cases c with
  |none=>
   simp only[Zj,Ch,Im];intro p Z;obtain⟨j,l,w,y,E⟩:=ahn Z;rcases F.2 j l p.2 y E with⟨c0,e,_⟩|e
   ·cases e
   ·rw[w,jW];exact e
  |some c=>
   simp only[Zj,Ch,Im,bU,wL,iL];refine⟨F.1 c rfl,fun p Z=>?_⟩;obtain⟨j,l,w,y,E⟩:=ahn Z;rw[w,jW];rcases F.2 j l p.2 y E with⟨c0,e,T⟩|e
   ·rw[bI e];exact .inl T
   ·exact .inr e
 unfold XY at h;rw[bK c'] at h;split at h
 ·rename_i u f' w
  obtain⟨v,y⟩:=aMA U w;simp only[nO.val.injEq] at y;obtain⟨rfl,rfl⟩:=y;obtain rfl:=H.jZ h;refine⟨_,fun b o' d'=>?_,w⟩;obtain⟨E,e⟩:=apa d';refine⟨agQ W e,fun f l a' b' hf e'=>?_⟩;cases T:(q.getD i 0).testBit f with
  |true=>exact .inl rfl
  |false=>
   cases h6:(pE q c).testBit f with
   |true=>exact .inr (.inl rfl)
   |false=>
    cases h7:(q.getD f 0).testBit i with
    |true=>exact .inr (.inr rfl)
    |false=>exact absurd (apE (k:=0) hf e' (by rw[jW];exact T) (by rw[jW];exact h6) (by rw[jW];exact h7)) E
 ·cases h
def aHa {P:bA} {ops:G Oper} {al:G (Nat×Nat×AO)} {B0:St} {aZ:G Rec} (E:Ba g aZ al) (h:ahj X P ops q g al (BO aZ 0) B0 aZ=true):Qj X P ops q g B0 aZ:=by
 unfold ahj at h;simp only[bU] at h;obtain⟨y,h⟩:=h;unfold atA at y;have w:∀(i j:Nat) (r e:Rec) (b:Nat) (l u:AO),aZ[i]?=some r->aZ[j]?=some e->r.k=.put b l u->_:=fun i j r e b l u J hj hk=>by
  have h1:=KD (i:=i) y J;rw[hk] at h1;simp only[] at h1;exact KD (i:=j) h1 hj
 simp only[jW] at w;have key:∀(i:Nat) (r:Rec),aZ[i]?=some r->_:=fun i r U=>KD (i:=i) h U;simp only[jW] at key;refine⟨fun i o r c aD N U hk F Z a'=>?_,fun i r b' c aD U hk Z=>?_,fun i j r e b l u B' J hj hk yC=>?_,fun i j r e b l u c' d' J hj hk yC=>?_,fun i j r e l u b' J hj hk yC=>?_⟩
 ·have h1:=key i r U
  simp only[hk,N,bU,Ch] at h1;rcases Z with⟨rfl,rfl⟩|⟨c0,e,rfl,T,W⟩
  ·exact ao3 E F h1.1 a'
  ·have A:=h1.2 _ (ahm (k:=0) T W)
   simp only[jW] at A;exact ao3 E F A a'
 ·have h1:=key i r U
  simp only[hk,bU,Ch,wL] at h1;rcases Z with⟨rfl,rfl⟩|⟨c0,e,rfl,T,W⟩
  ·exact .inr (asQ h1.1)
  ·have A:=h1.2 _ (ahm (k:=0) T W)
   simp only[jW] at A;exact A.imp id asQ
 ·have h1:=w i j r e b l u J hj hk
  simp only[yC,wL,iL,XZ] at h1;exact aqv
 ·have h1:=w i j r e b l u J hj hk
  simp only[yC,wL,iL,XZ,ajf,Bool.not_true,Il,false_or] at h1;exact h1
 ·have h1:=w i j r e _ l u J hj hk
  simp only[yC,wL,iL,ajf,Bool.not_true,Il,false_or] at h1;exact aqv
end
section
variable {E:Env} {X:Ctx}
def SL (ms:G Nat) (aZ:G Rec) (e:Nat) (L:Nat->Prop) (c:ah Nat) (aD:St):MP:=Ka aZ e (fun j=>L j/\(pE ms c).testBit j=false) aD
def TL (ops:G Oper) (aZ:G Rec) (jU:Tr H) (L:Nat->Prop) (t:Nat) (x:H):Prop:=
 (∀(j:Nat) (p:Oper) (r:Rec),ops[j]?=some p->p.dst=some t->L j->aZ[j]?=some r->x=r.v)/\((∀(j:Nat) (p:Oper),ops[j]?=some p->p.dst=some t->¬L j)->jU.get t=some x)
def Qh (B0:St) (aZ:G Rec) (L:Nat->Prop) (c:ah Nat) (aD:St):Prop:=Pt B0 aZ c aD/\(∀c0,c=some c0->L c0)/\∀(i:Nat) (r:Rec) (B':St),aZ[i]?=some r->r.k=.chain B'->L i->∃c0,c=some c0/\i<=c0
structure DI (E:Env) (X:Ctx) (P:Program) (base:Nat) (ρ:Mp) (s:St) (w0:World) (ops:List Oper) (ms:List Nat) (aZ:List Rec) (jU:Tr H) (B0:St) (nt:Nat) (ds:List Deferred) (L:Nat->Prop) (c:Option Nat) (aD:St) (σ:Mp) (a:Act) (w:World):Prop where
 down:Down ops L
 last:Qh B0 aZ L c aD
 Z:HP E base σ (SL ms aZ s.J L c aD) aD.J w
 tp:TP ρ s w0 σ (SL ms aZ s.J L c aD) aD.J w
 un:∀(i:Nat) (r:Rec) (ob:AO),aZ[i]?=some r->r.k=.alloc ob->¬L i->σ (s.J+i)=none
 fr:∀t x,TL ops aZ jU L t x->∃v,a.tmps[t]?=some v/\VR E σ x v
 size:a.tmps.size=nt
 defers:a.defers=ds
 J:s.J+ops.length<=aD.J
def Add (L:Nat->Prop) (i:Nat):Nat->Prop:=fun j=>L j\/j=i
section
variable {P:bA} {self:lC->ah gV} {base:Nat} {ρ σ:Mp} {s aD B0:St} {w0 w:ak} {ops:G Oper} {ms:G Nat} {aZ:G Rec} {jU:Tr H} {nt:Nat} {ds:G Deferred} {L:Nat->Prop} {c:ah Nat} {a:Act} {i:Nat} {o:Oper} {r:Rec}
def DI.frame (h:DI E X P base ρ s w0 ops ms aZ jU B0 nt ds L c aD σ a w) (l:Static ops ms) (b':aZ.length=ops.length) (N:ops[i]?=some o) (J:¬L i) (U:∀e∈o.after,Region.binds .any e=true->L e.on)
 {F:Tr H} (c':∀t x,F.get t=some x->t∈Hy ops o/\F8 ops (aZ.take i) jU t x):FR E σ F a.tmps:=by
 refine⟨fun t x d'=>h.fr t x ?_⟩;obtain⟨T,e',f'⟩:=c' t x d';refine⟨fun j p W q y hL A=>?_,fun a'=>f' fun j p W q y A=>?_⟩
 ·rcases l.names i j o p t N q T y with rfl|u|u
  ·exact absurd hL J
  ·exact e' j p W q y (by rw[uX (l.lt i o j N u)];exact A)
  ·exact absurd (l.below h.down j p i q hL u) J
 ·have g':j<i:=by
   have:=(gN.1 A).1;rw[oL] at this;omega
  rcases l.names i j o p t N q T y with rfl|u|u
  ·omega
  ·exact a' j p q y (l.ready h.down N U u)
  ·have:=l.lt j p i q u;omega
def DI.apn (h:DI E X P base ρ s w0 ops ms aZ jU B0 nt ds L c aD σ a w) (N:ops[i]?=some o) (U:∀e∈o.after,Region.binds .any e=true->L e.on):Down ops (Add L i):=by
 intro j p e l hL q u;rcases hL with hL|rfl
 ·exact .inl (h.down j p e l hL q u)
 ·rw[N] at l
  obtain rfl:=bI l;exact .inl (U e q u)
def arU {q:Mp} (b':U7 ops) (c':aZ.length=ops.length) (N:ops[i]?=some o) (y:aZ[i]?=some r) (d':∀d,o.dst=some d->d<nt) (A:a.tmps.size=nt)
 (hf:∀t x,TL ops aZ jU L t x->∃v,a.tmps[t]?=some v/\VR E σ x v) (e':Ext σ q) (f':VR E q r.v m):∀t x,TL ops aZ jU (Add L i) t x->∃v,(a.put o.dst m).tmps[t]?=some v/\VR E q x v:=by
 intro t x ⟨F,g'⟩
 by_cases h:o.dst=some t
 ·obtain rfl:=F i o r N h (.inr rfl) y
  refine⟨m,?_,f'⟩;rw[h];have:=d' t h;simp[Act.put,A,this]
 ·have P:TL ops aZ jU L t x:=⟨fun j p h' w l hL T=>F j p h' w l (.inl hL) T,fun W=>g' fun j p w l hL=>by
   rcases hL with hL|rfl
   ·exact W j p w l hL
   ·rw[N] at w
    obtain rfl:=bI w;exact h l⟩
  obtain⟨v,u,i'⟩:=hf t x P;refine⟨v,?_,i'.mono e'⟩;cases hod:o.dst with
  |none=>exact u
  |some d=>
   have a':d≠t:=fun e=>h (by rw[hod,e])
   show(a.tmps.setIfInBounds d m)[t]?=some v;rw[aaV a'];exact u
def size_put (a:Act) (d:ah Nat) (u:av):(a.put d u).tmps.size=a.tmps.size:=by cases d<;>simp[Act.put]
def Qh.add (h:Qh B0 aZ L c aD) (l:aZ[i]?=some r) (u:∀B',r.k≠.chain B'):Qh B0 aZ (Add L i) c aD:=
 ⟨h.1,fun c0 hc=>.inl (h.2.1 c0 hc),fun j w B' q e hL=>by
  rcases hL with hL|rfl
  ·exact h.2.2 j w B' q e hL
  ·rw[l] at q
   obtain rfl:=bI q;exact absurd e (u B')⟩
def aCP (w:Static ops ms) (y:FX X P self ops ms s.J B0 jU nt aZ) (d':aZ.length=ops.length) (e':Down ops L):∀(c0:Nat) (h:Rec) (B':St),aZ[c0]?=some h->h.k=.chain B'->L c0->∀(i:Nat) (r:Rec) (e:St),aZ[i]?=some r->r.k=.chain e->i<c0->L i:=by
 intro c0
 induction c0 using Nat.strongRecOn with
 |_ c0 f'=>
  intro h B' A E hL i r e J u F;have m':=(gN.1 A).1;have N:ops[c0]?=some ops[c0]:=gM I;obtain⟨⟨_,T⟩,_⟩:=y c0 h _ A N;rw[E] at T;obtain⟨_,q,g',aP,W,h',_⟩:=T;have j:(aZ.take c0).length=c0:=by rw[oL];omega
  have l:(aZ.take c0)[i]?=some r:=by rw[uX F];exact J
  cases q with
  |none=>exact absurd u (W.2 i r e l)
  |some q=>
   obtain⟨⟨i',a',j'⟩,k'⟩:=W;have n':=k' i r e l u;have b':q<c0:=by
    have:=(gN.1 a').1;omega
   have c':L q:=w.below e' c0 _ q N hL (by have:=h' q rfl;rw[j] at this;exact this)
   by_cases l':i=q
   ·rw[l'];exact c'
   ·exact f' q b' i' g' (by rw[<-a',uX b']) j' c' i r e J u I
def DI.aFT (h:DI E X P base ρ s w0 ops ms aZ jU B0 nt ds L c aD σ a w) (W:Static ops ms) (f':FX X P self ops ms s.J B0 jU nt aZ) (b':aZ.length=ops.length) (N:ops[i]?=some o) (J:¬L i)
 (U:∀e∈o.after,Region.binds .any e=true->L e.on) {B':St} (y:aZ[i]?=some r) (j':r.k=.chain B') {p:ah Nat} {c':St} (g':Er B0 (aZ.take i) p c') (Z:∀c0,p=some c0->(ms.getD i 0).testBit c0=true):c=p/\aD=c':=by
 have k':=(gN.1 y).1;have after:∀c0,c=some c0->c0<i:=fun c0 hc=>by
  have hL:=h.last.2.1 c0 hc;rcases h.last.1 with⟨j,_⟩|⟨c1,A,j,u,l⟩
  ·rw[j] at hc;cases hc
  ·rw[j] at hc
   obtain rfl:=bI hc;rcases Nat.lt_trichotomy c1 i with q|rfl|q
   ·exact q
   ·exact absurd hL J
   ·exact absurd (aCP W f' b' h.down c1 A aD u l hL i r B' y j' q) J
 cases p with
 |none=>
  obtain⟨rfl,u⟩:=g';rcases h.last.1 with⟨j,l⟩|⟨c1,A,j,l,q⟩
  ·exact⟨j,l⟩
  ·have d':=after c1 j
   exact absurd q (u c1 A aD (by rw[uX d'];exact l))
 |some p=>
  obtain⟨⟨h',u,l⟩,q⟩:=g';have e':p<i:=by
   have:=(gN.1 u).1;rw[oL] at this;omega
  have F:aZ[p]?=some h':=by rw[<-u,uX e']
  have d':L p:=W.ready h.down N U (Z p rfl);obtain⟨c0,T,n'⟩:=h.last.2.2 p h' c' F l d';have l':=after c0 T;rcases h.last.1 with⟨j,_⟩|⟨c1,A,j,i',a'⟩
  ·rw[j] at T;cases T
  ·rw[j] at T
   obtain rfl:=bI T;have m':=q c1 A aD (by rw[uX l'];exact i') a'
   obtain rfl:c1=p:=I;rw[i'] at F;obtain rfl:=bI F;rw[a'] at l;exact⟨j,by injection l⟩
def DI.aFY (h:DI E X P base ρ s w0 ops ms aZ jU B0 nt ds L c aD σ a w) (F:Static ops ms) (o':FX X P self ops ms s.J B0 jU nt aZ) (l':aZ.length=ops.length) (jL:Qj X P ops ms s.J B0 aZ) (N:ops[i]?=some o) (J:¬L i)
 (U:∀e∈o.after,Region.binds .any e=true->L e.on) {c' d':AO} (u:aZ[i]?=some r) (i':r.k=.put b c' d') {p:ah Nat} {a':St} (j':Er B0 (aZ.take i) p a'):c=p/\aD=a':=by
 have m':=(gN.1 u).1;have after:∀c0,c=some c0->c0<i:=fun c0 hc=>by
  have hL:=h.last.2.1 c0 hc;rcases h.last.1 with⟨j,_⟩|⟨c1,W,j,y,l⟩
  ·rw[j] at hc;cases hc
  ·rw[j] at hc
   obtain rfl:=bI hc;have e':c1<ops.length:=by have:=(gN.1 y).1;omega
   rcases jL.ahp i c1 r W b c' d' aD u y i' l with A|A
   ·exact F.lt i o c1 N A
   ·exact absurd (F.below h.down c1 _ i (gM e') hL A) J
 cases p with
 |none=>
  obtain⟨rfl,y⟩:=j';rcases h.last.1 with⟨j,l⟩|⟨c1,W,j,l,A⟩
  ·exact⟨j,l⟩
  ·have f':=after c1 j
   exact absurd A (y c1 W aD (by rw[uX f'];exact l))
 |some p=>
  obtain⟨⟨g',y,l⟩,A⟩:=j';have h':p<i:=by
   have:=(gN.1 y).1;rw[oL] at this;omega
  have T:aZ[p]?=some g':=by rw[<-y,uX h']
  have f':L p:=by
   rcases jL.ahp i p r g' b c' d' a' u T i' l with q|q
   ·exact F.ready h.down N U q
   ·have:=F.lt p _ i (gM I) q;omega
  obtain⟨c0,q,q'⟩:=h.last.2.2 p g' a' T l f';have n':=after c0 q;rcases h.last.1 with⟨j,_⟩|⟨c1,W,j,k',b'⟩
  ·rw[j] at q;cases q
  ·rw[j] at q
   obtain rfl:=bI q;have p':=A c1 W aD (by rw[uX n'];exact k') b'
   obtain rfl:c1=p:=I;rw[k'] at T;obtain rfl:=bI T;rw[b'] at l;exact⟨j,by injection l⟩
def SL.one {u w:AO} (P:SL ms aZ s.J L c aD b u) (T:SL ms aZ s.J L c aD b w):u=w:=by
 rcases P with⟨j,r,l,q,y,W⟩|⟨l,q⟩<;>rcases T with⟨j',A,e,h,E,F⟩|⟨e,h⟩
 ·have e1:=W j' A w e h E
  have a':=F j r u l q y;obtain rfl:j=j':=I;rw[l] at e;obtain rfl:=bI e;rw[q] at h;simp only[aG,eG] at h;exact h.2
 ·exact absurd y (h j r u l q)
 ·exact absurd E (q j' A w e h)
 ·rw[l] at e;exact bI e
def Nr {j:Nat} {r:Rec} {o:AO} (h:bX g j r=some (b,o)):(r.k=.alloc o/\b=g+j)\/∃e,r.k=.put b e o:=by
 unfold bX at h;split at h
 ·rename_i q l
  simp only[aG,eG] at h;obtain⟨rfl,rfl⟩:=h;exact .inl ⟨l,rfl⟩
 ·rename_i u e q l
  simp only[aG,eG] at h;obtain⟨rfl,rfl⟩:=h;exact .inr ⟨e,l⟩
 ·cases h
def SL.part (e':Static ops ms) (jL:Qj X P ops ms s.J B0 aZ) (m':aZ.length=ops.length) (l':Pt B0 aZ c aD) (n':Down ops L) (N:ops[i]?=some o) (U:∀e∈o.after,Region.binds .any e=true->L e.on) {pre:G Rec} (W:∀(j:Nat) (l:Rec),pre[j]?=some l->aZ[j]?=some l)
 (a':∀(j:Nat) (l:Rec),(ms.getD i 0).testBit j=true->aZ[j]?=some l->pre[j]?=some l) {o':AO}
 (h':∀(f:Nat) (l:Rec) (i' q:AO),aZ[f]?=some l->l.k=.put b i' q->L f->(pE ms c).testBit f=false->(ms.getD i 0).testBit f=true)
 (h:Ka pre s.J (Mr ms i c) aD b o'):SL ms aZ s.J L c aD b o':=by
 have T:∀(j:Nat) (l:Rec) (q:AO),aZ[j]?=some l->bX s.J j l=some (b,q)->L j->(pE ms c).testBit j=false->(ms.getD i 0).testBit j=true:=fun j l q k' p' hL f'=>by
  rcases Nr p' with⟨d',g'⟩|⟨i',d'⟩
  ·rcases h with⟨k,rk,A,b',c',_⟩|⟨A,_⟩
   ·have A:=W k rk A
    rcases Nr b' with⟨_,y⟩|⟨q',y⟩
    ·obtain rfl:k=j:=by omega
     exact c'.1
    ·have E:=jL.Ls k j rk l q' o' q A k' (by rw[y,g']) d'
     exact e'.trans i o k j N c'.1 E
   ·rcases jL.clean j l q c aD k' d' l' with y|y
    ·rw[f'] at y;cases y
    ·rw[<-g',A] at y;cases y
  ·exact h' j l i' q k' d' hL f'
 rcases h with⟨j,l,A,b',c',y⟩|⟨A,b'⟩
 ·exact .inl ⟨j,l,W j l A,b',⟨e'.ready n' N U c'.1,c'.2⟩,fun j' u q E F w=>y j' u q (a' j' u (T j' u q E F w.1 w.2) E) F ⟨T j' u q E F w.1 w.2,w.2⟩⟩
 ·exact .inr ⟨A,fun j' u q E F w=>b' j' u q (a' j' u (T j' u q E F w.1 w.2) E) F ⟨T j' u q E F w.1 w.2,w.2⟩⟩
end
end
section
variable {E:Env} {X:Ctx}
section
variable {P:bA} {self:lC->ah gV} {base:Nat} {ρ σ:Mp} {s aD B0:St} {w0 w:ak} {ops:dF Oper} {ms:G Nat} {aZ:G Rec} {jU:Tr H} {nt:Nat} {ds:G Deferred} {L:Nat->Prop} {c:ah Nat} {a:Act} {i:Nat} {o:Oper} {r:Rec}
def DI.go (h:DI E X P base ρ s w0 ops.toList ms aZ jU B0 nt ds L c aD σ a w) (r':IQ E P self) (W:Static ops.toList ms) (q:aZ.length=ops.toList.length) (f':jw E X P ρ) (N:ops[i]?=some o) (J:¬L i) (U:∀e∈o.after,Region.binds .any e=true->L e.on)
 (b':aZ[i]?=some r) (s':∀t x,r.tm.get t=some x->t∈Hy ops.toList o/\F8 ops.toList (aZ.take i) jU t x) (g':∀d,o.dst=some d->d<nt) (t':Cb X ops.toList r.tm o=some true)
 {A d' B':St} {c':ah Nat} (e':∀b o,A.aP.get b=some o->SL ms aZ s.J L c aD b o) (hn:σ A.nx=none) (u':A.J=aD.J) (h':s.J<=A.nx) (i':∀j,j<ops.toList.length->j≠i->s.J+j≠A.nx) (v':yJ X P self r.tm A o=some (r.v,d'))
 (x':Qh B0 aZ (Add L i) c' B') (y:∀b o',SL ms aZ s.J (Add L i) c' B' b o'->MP.step (SL ms aZ s.J L c aD) A d' b o') (a':d'.J=B'.J)
 {aj:Act->ak->Prop} {aY:Exit->Act->ak->Prop} (y':∀F j' w',DI E X P base ρ s w0 ops.toList ms aZ jU B0 nt ds (Add L i) c' B' F j' w'->aj j' w'):wpOp P ops aY i aj a w:=by
 have T:ops.toList[i]?=some o:=by rw[J2];exact N
 have hf:=h.frame W q T J U s';have k':=h.Z.sub e' hn I;unfold wpOp;rw[N];simp only[];rw[aaQ hf f'.ok t',bK rfl];refine .inl (atz r' hf (f'.mono h.tp.ext) k' v' fun u F w' z' l' l=>y' F _ w' ?_);have L':=h.J;have A':=l.nx.1;refine⟨h.apn T U,x',?_,?_,fun j D' E' m' F' hL=>?_,arU W.afy q T b' g' h.size h.fr l.ext z',?_,?_,by omega⟩
 ·have:=(h.Z.step e' l' l).mono y
  rw[a'] at this;exact this
 ·have:=(h.tp.step h.Z e' l I (.inr h')).mono y
  rw[a'] at this;exact this
 ·have n':j<ops.toList.length:=by have:=(gN.1 m').1;omega
  have p':j≠i:=fun e=>hL (.inr e);rw[l.qR (s.J+j) I (i' j n' p')];exact h.un j D' E' m' F' fun q'=>hL (.inl q')
 ·rw[size_put];exact h.size
 ·rw[Act.ahq];exact h.defers
def DI.step (h:DI E X P base ρ s w0 ops.toList ms aZ jU B0 nt ds L c aD σ a w) (j0:IQ E P self) (W:Static ops.toList ms) (k0:FX X P self ops.toList ms s.J B0 jU nt aZ) (jL:Qj X P ops.toList ms s.J B0 aZ) (e':aZ.length=ops.toList.length) (s':jw E X P ρ)
 (N:ops[i]?=some o) (J:¬L i) (U:∀e∈o.after,Region.binds .any e=true->L e.on) {aj:Act->ak->Prop} {aY:Exit->Act->ak->Prop} (h0:∀c' B' l' t' w',DI E X P base ρ s w0 ops.toList ms aZ jU B0 nt ds (Add L i) c' B' l' t' w'->aj t' w'):wpOp P ops aY i aj a w:=by
 have d':ops.toList[i]?=some o:=by rw[J2];exact N
 have o1:=(gN.1 d').1;have q:aZ[i]?=some aZ[i]:=gM I;obtain⟨⟨i0,m'⟩,y'⟩:=k0 i _ o q d';have l0:(aZ.take i).length=i:=by rw[oL];omega
 have W0:=h.J;have p':=h.Z.fresh aD.J (bq _);have X':∀(j:Nat) (u:Rec),(aZ.take i)[j]?=some u->aZ[j]?=some u:=fun j u i'=>by
  have:j<i:=by have:=(gN.1 i').1;omega
  rw[<-i',uX this]
 generalize hgr:aZ[i]=r at*
 have m0:∀(j:Nat) (u:Rec),(ms.getD i 0).testBit j=true->aZ[j]?=some u->(aZ.take i)[j]?=some u:=fun j u y i'=>by
  rw[uX (W.lt i o j d' y)];exact i'
 have v':bX s.J i r=none->∀b o',SL ms aZ s.J (Add L i) c aD b o'->SL ms aZ s.J L c aD b o':=fun X0 b o' y=>by
  rcases y with⟨j,u,l,T,D',E'⟩|⟨l,T⟩
  ·rcases D'.1 with k'|rfl
   ·exact .inl ⟨j,u,l,T,⟨k',D'.2⟩,fun j' b' g' F h' a'=>E' j' b' g' F h' ⟨.inl a'.1,a'.2⟩⟩
   ·rw[q] at l
    obtain rfl:=bI l;rw[X0] at T;cases T
  ·exact .inr ⟨l,fun j' b' g' F h' a'=>T j' b' g' F h' ⟨.inl a'.1,a'.2⟩⟩
 have o0:(pE ms c).testBit i=false:=by
  cases hc:c with
  |none=>simp[pE]
  |some c0=>
   have hL:=h.last.2.1 c0 hc;have a0:c0<ops.toList.length:=by
    rcases h.last.1 with⟨l,_⟩|⟨c1,r1,l,T,_⟩
    ·rw[l] at hc;cases hc
    ·rw[l] at hc
     obtain rfl:=bI hc;have:=(gN.1 T).1;omega
   simp only[pE,aa9,aiK];refine⟨?_,?_⟩
   ·cases y:(ms.getD c0 0).testBit i with
    |false=>rfl
    |true=>exact absurd (W.below h.down c0 _ i (gM a0) hL y) J
   ·rw[ai7]
    exact abq fun e=>J (e▸hL)
 have b0:∀j,j<ops.toList.length->L j->(ms.getD j 0).testBit i=true->False:=fun j i' hL y=>J (W.below h.down j _ i (gM i') hL y);cases uM:r.k with
 |skip=>
  rw[uM] at m';obtain⟨x',F'⟩:=m';have hf:=h.frame W e' d' J U i0;unfold wpOp;rw[N];simp only[];rw[aaQ hf s'.ok x',bB bS];refine h0 c aD σ _ w ⟨h.apn d' U,h.last.add q RU,h.Z.mono (v' Oe),h.tp.mono (v' Oe),fun j u x0 i' q' hL=>h.un j u x0 i' q' fun a1=>hL (.inl a1),arU W.afy e' d' q y' h.size h.fr (Ext.refl _) (by rw[F'];exact aiF),?_,?_,W0⟩
  ·rw[size_put];exact h.size
  ·rw[Act.ahq];exact h.defers
 |pure=>
  rw[uM] at m';obtain⟨x',F'⟩:=m';have z':yJ X P self r.tm ⟨.leaf,aD.J,aD.J⟩ o=some (r.v,⟨.leaf,aD.J,aD.J⟩):=by unfold yJ;rw[F']
  refine h.go j0 W e' s' N J U q i0 y' x' (A:=⟨.leaf,aD.J,aD.J⟩) (B':=aD) (c':=c) (fun b o' y=>(by simp[Tr.o9] at y)) p' rfl YK (fun j i' _=>YP) z' (h.last.add q RU) (fun b o' y=>.inr ⟨v' Oe b o' y,rfl⟩) rfl fun l' t' w'=>h0 c aD l' t' w'
 |read=>
  rw[uM] at m';obtain⟨x',b1⟩:=m';have M0:abD ms aZ i c:=by
   refine⟨fun c0 hc=>?_,fun c' u B' e1 q'=>?_⟩
   ·have hL:=h.last.2.1 c0 hc
    rcases h.last.1 with⟨l,_⟩|⟨c1,r1,l,T,_⟩
    ·rw[l] at hc;cases hc
    ·rw[l] at hc
     obtain rfl:=bI hc;have a0:c1<ops.toList.length:=by have:=(gN.1 T).1;omega
     cases y:(ms.getD c1 0).testBit i with
     |false=>rfl
     |true=>exact absurd (W.below h.down c1 _ i (gM a0) hL y) J
   ·by_cases hL:L c'
    ·exact .inl (h.last.2.2 c' u B' e1 q' hL)
    ·refine .inr ?_
     cases y:(ms.getD i 0).testBit c' with
     |false=>rfl
     |true=>exact absurd (W.ready h.down d' U y) hL
  obtain⟨A,A0,r0⟩:=jL.read i o r c aD d' q uM b1 h.last.1 M0;have E0:∀b o',A.get b=some o'->SL ms aZ s.J L c aD b o':=fun b o' y=>SL.part W jL e' h.last.1 h.down d' U (pre:=aZ) (fun _ _ h=>h) (fun _ _ _ h=>h) (fun f u n' g' hf m' hL L'=>by
   rcases(A0 b o' y).2 f u n' g' hf m' with l|l|l
   ·exact l
   ·rw[L'] at l;cases l
   ·exact(b0 f (by have:=(gN.1 hf).1;omega) hL l).elim) (A0 b o' y).1
  have z':yJ X P self r.tm ⟨A,aD.J,aD.J⟩ o=some (r.v,⟨A,aD.J,aD.J⟩):=by unfold yJ;rw[r0]
  refine h.go j0 W e' s' N J U q i0 y' x' (A:=⟨A,aD.J,aD.J⟩) (B':=aD) (c':=c) E0 p' rfl YK (fun j i' _=>YP) z' (h.last.add q RU) (fun b o' y=>?_) rfl fun l' t' w'=>h0 c aD l' t' w';have F0:=v' Oe b o' y;cases s':A.get b with
  |none=>exact .inr ⟨F0,s'⟩
  |some f'=>
   have:=SL.one F0 (E0 b f' s');subst this;exact .inl s'
 |alloc x0=>
  rw[uM] at m';obtain⟨x',e0,F'⟩:=m';rw[l0] at e0 F';have z':yJ X P self r.tm ⟨.leaf,s.J+i,aD.J⟩ o=some (r.v,St.new ⟨.leaf,s.J+i,aD.J⟩ x0):=by unfold yJ;rw[F' ⟨.leaf,s.J+i,aD.J⟩ rfl]
  refine h.go j0 W e' s' N J U q i0 y' x' (A:=⟨.leaf,s.J+i,aD.J⟩) (B':=aD) (c':=c) (fun b o' y=>(by simp[Tr.o9] at y)) (h.un i r x0 q uM J) rfl (by show s.J<=s.J+i;omega) (fun j i' M'=>(by show s.J+j≠s.J+i;omega)) z' (h.last.add q RU) (fun b o' y=>?_) (by show max aD.J (s.J+i+1)=aD.J;omega) fun l' t' w'=>h0 c aD l' t' w'
  rcases y with⟨j,u,l,T,D',E'⟩|⟨l,T⟩
  ·rcases D'.1 with k'|rfl
   ·exact .inr ⟨.inl ⟨j,u,l,T,⟨k',D'.2⟩,fun j' b' g' F h' a'=>E' j' b' g' F h' ⟨.inl a'.1,a'.2⟩⟩,rfl⟩
   ·rw[q] at l
    obtain rfl:=bI l;rcases Nr T with⟨F,h'⟩|⟨n',F⟩
    ·rw[uM] at F
     injection F with F
     subst F;refine .inl ?_;rw[h'];simp only[St.new];exact e0
    ·rw[uM] at F;cases F
  ·exact .inr ⟨.inr ⟨l,fun j' b' g' F h' a'=>T j' b' g' F h' ⟨.inl a'.1,a'.2⟩⟩,rfl⟩
 |put u' n' g'=>
  rw[uM] at m';obtain⟨x',F',p,s1,P0,L0,u1,f1,g1,r0⟩:=m';rw[l0] at L0;have s0:∀(j:Nat) (u:Rec) (f':AO),aZ[j]?=some u->bX s.J j u=some (u',f')->L j->(ms.getD i 0).testBit j=true:=fun j u f' i' y hL=>by
   have h1:j<ops.toList.length:=by have:=(gN.1 i').1;omega
   rcases Nr y with⟨l,T⟩|⟨P',l⟩
   ·exact jL.Ls i j r u n' g' f' q i' (by rw[uM,T]) l
   ·rcases jL.aHn i j r u u' n' g' P' f' q i' uM l with rfl|T|T
    ·exact absurd hL J
    ·exact T
    ·exact(b0 j h1 hL T).elim
  obtain⟨rfl,rfl⟩:=h.aFY W k0 e' jL d' J U q uM P0;have D0:SL ms aZ s.J L c aD u' n':=SL.part W jL e' h.last.1 h.down d' U X' m0 (fun f u f' P' hf m' hL L'=>s0 f u P' hf (by simp[bX,m']) hL) L0
  have z':yJ X P self r.tm ⟨Tr.set u' n' .leaf,aD.J,aD.J⟩ o=some (r.v,u1):=by unfold yJ;rw[r0,F']
  have t0:∀b o',(Tr.set u' n' .leaf).get b=some o'->b=u'/\o'=n':=fun b o' y=>by
   rcases Tr.jc y with l|⟨_,l⟩
   ·exact l
   ·simp[Tr.o9] at l
  refine h.go j0 W e' s' N J U q i0 y' x' (A:=⟨Tr.set u' n' .leaf,aD.J,aD.J⟩) (B':=aD) (c':=c) (fun b o' y=>?_) p' rfl YK (fun j i' _=>YP) z' (h.last.add q RU) (fun b o' y=>?_) f1 fun l' t' w'=>h0 c aD l' t' w'
  ·obtain⟨rfl,rfl⟩:=t0 b o' y
   exact D0
  ·have f0:b≠u'->(Tr.set u' n' .leaf).get b=none:=fun i1=>by
    cases s':(Tr.set u' n' .leaf).get b with
    |none=>rfl
    |some f'=>exact absurd (t0 b f' s').1 i1
   rcases y with⟨j,u,l,T,D',E'⟩|⟨l,T⟩
   ·by_cases M':j=i
    ·subst M'
     rw[q] at l;obtain rfl:=bI l;simp only[bX,uM,aG,eG] at T;obtain⟨rfl,rfl⟩:=T;exact .inl g1
    ·have T':L j:=D'.1.resolve_right M'
     by_cases W':b=u'
     ·subst W'
      have k':=E' i r g' q Oe ⟨.inr rfl,o0⟩;have F:=W.lt i o j d' (s0 j u o' l T T');omega
     ·exact .inr ⟨.inl ⟨j,u,l,T,⟨T',D'.2⟩,fun j' b' g' F h' a'=>E' j' b' g' F h' ⟨.inl a'.1,a'.2⟩⟩,f0 W'⟩
   ·by_cases W':b=u'
    ·subst W'
     exact absurd ⟨.inr rfl,o0⟩ (T i r g' q Oe)
    ·exact .inr ⟨.inr ⟨l,fun j' b' g' F h' a'=>T j' b' g' F h' ⟨.inl a'.1,a'.2⟩⟩,f0 W'⟩
 |chain B'=>
  rw[uM] at m';obtain⟨x',p,s1,aP,P0,Z,T0,z'⟩:=m';rw[l0] at Z T0;obtain⟨rfl,rfl⟩:=h.aFT W k0 e' d' J U q uM P0 Z;have A':∀(f:Nat) (u:Rec) (b:Nat) (n' g':AO),aZ[f]?=some u->u.k=.put b n' g'->L f->(ms.getD i 0).testBit f=true:=fun f u b n' g' hf q' hL=>by
   rcases jL.ahp f i u r b n' g' B' hf q q' uM with l|l
   ·exact(b0 f (by have:=(gN.1 hf).1;omega) hL l).elim
   ·exact l
  have A0:∀b o',aP.get b=some o'->SL ms aZ s.J L c aD b o':=fun b o' y=>SL.part W jL e' h.last.1 h.down d' U X' m0 (fun f u f' P' hf q' hL _=>A' f u b f' P' hf q' hL) (T0 b o' y);have u0:∀c0,c=some c0->c0<i:=fun c0 hc=>W.lt i o c0 d' (Z c0 hc);refine h.go j0 W e' s' N J U q i0 y' x' (A:=⟨aP,aD.J,aD.J⟩) (B':=B') (c':=some i) A0 p' rfl YK (fun j i' _=>YP) z' ?_ (fun b o' y=>?_) rfl fun l' t' w'=>h0 (some i) B' l' t' w'
  ·refine⟨.inr ⟨i,r,rfl,q,uM⟩,fun c0 hc=>.inr (bI hc).symm,fun j u j1 i' q' hL=>⟨i,rfl,?_⟩⟩
   rcases hL with hL|rfl
   ·obtain⟨c0,l,T⟩:=h.last.2.2 j u j1 i' q' hL
    have:=u0 c0 l;omega
   ·exact bq _
  ·rcases y with⟨j,u,l,T,⟨E',k'⟩,v1⟩|⟨l,T⟩
   ·simp only[pE,aa9,aiK] at k'
    have M':j≠i:=fun e=>by
     subst e;rw[Nat.testBit_two_pow_self] at k';exact absurd k'.2 bS
    have T':L j:=E'.resolve_right M';have L':(pE ms c).testBit j=false:=by
     cases hc:c with
     |none=>simp[pE]
     |some c0=>
      have F:=Z c0 hc;simp only[pE,aa9,aiK];refine⟨?_,?_⟩
      ·cases y:(ms.getD c0 0).testBit j with
       |false=>rfl
       |true=>
        have:=W.trans i o c0 j d' F y;rw[this] at k';cases k'.1
      ·rw[ai7]
       refine abq fun e=>?_;subst e;rw[F] at k';cases k'.1
    have r':u.k=.alloc o'/\b=s.J+j:=by
     rcases Nr T with F|⟨f',F⟩
     ·exact F
     ·have h':=A' j u b f' o' l F T'
      rw[h'] at k';cases k'.1
    have g0:∀(j':Nat) (b':Rec) (f':AO),aZ[j']?=some b'->bX s.J j' b'=some (b,f')->((ms.getD i 0).testBit j'=true\/L j')->j'=j:=fun j' b' f' F h' a'=>by
     rcases Nr h' with⟨_,v0⟩|⟨P',v0⟩
     ·omega
     ·have k1:=jL.Ls j' j b' u P' f' o' F l (by rw[v0,r'.2]) r'.1
      have l1:(ms.getD i 0).testBit j'=true:=a'.elim id fun hL=>A' j' b' b P' f' F v0 hL;have:=W.trans i o j' j d' l1 k1;rw[this] at k';cases k'.1
    refine .inr ⟨.inl ⟨j,u,l,T,⟨T',L'⟩,fun j' b' f' F h' a'=>L_ (g0 j' b' f' F h' (.inr a'.1))⟩,?_⟩;show aP.get b=none;cases hHb:aP.get b with
    |none=>rfl
    |some f'=>
     rcases T0 b f' hHb with⟨j',m1,F,h',a',_⟩|⟨F,_⟩
     ·obtain rfl:=g0 j' m1 f' (X' j' m1 F) h' (.inl a'.1)
      have:=a'.1;rw[this] at k';cases k'.1
     ·rcases jL.clean j u o' c aD l r'.1 h.last.1 with a'|a'
      ·rw[L'] at a';cases a'
      ·rw[<-r'.2,F] at a';cases a'
   ·exact .inl l
def left (l:dF aK):Nat:=l.toList.count false
def count_set:∀(l:G aK) (i:Nat),l[i]?=some false->(l.set i true).count false+1=l.count false
 |[],_,h=>by simp at h
 |b::l,0,h=>by simp at h;subst h;simp
 |b::l,i+1,h=>by
  have:=count_set l i rM;simp only[List.set_cons_succ,List.count_cons];omega
def as2 {l:dF aK} (h:l[b]?=some false):left (l.setIfInBounds b true)+1=left l:=by
 unfold left;rw[UE];exact count_set _ _ (by rw[J2];exact h)
def DI.run (m':IQ E P self) (b':Static ops.toList ms) (h':FX X P self ops.toList ms s.J B0 jU nt aZ) (jL:Qj X P ops.toList ms s.J B0 aZ) (d':aZ.length=ops.toList.length) (n':jw E X P ρ) {aY:Exit->Act->ak->Prop}
 (i':∀c aD σ a w (L:Nat->Prop),(∀i,i<ops.size->L i)->DI E X P base ρ s w0 ops.toList ms aZ jU B0 nt ds L c aD σ a w->aY .normal a w):
 ∀(fuel:Nat) (listed:dF aK) (c:ah Nat) (aD:St) (σ:Mp) (a:Act) (w:ak),listed.size=ops.size->left listed<=fuel->DI E X P base ρ s w0 ops.toList ms aZ jU B0 nt ds (fun i=>listed[i]?=some true) c aD σ a w->wpAny P .any ops aY fuel listed a w:=by
 have A:∀(listed:dF aK) (j:Nat),listed.getD j false=true↔listed[j]?=some true:=fun listed j=>by
  rw[UA];cases h:listed[j]? with
  |none=>simp
  |some b=>cases b<;>simp
 have l:∀(listed:dF aK) (j:Nat),listed.getD j true=false↔listed[j]?=some false:=fun listed j=>by
  rw[UA];cases h:listed[j]? with
  |none=>simp
  |some b=>cases b<;>simp
 have T:∀(listed:dF aK),listed.size=ops.size->Region.ready .any ops listed=[]->∀i,i<ops.size->listed[i]?=some true:=by
  intro listed u U i
  induction i using Nat.strongRecOn with
  |_ i e'=>
   intro J;have F:listed[i]?=some listed[i]:=UD I;cases hb:listed[i] with
   |true=>rw[F,hb]
   |false=>
    exfalso;have:i∈Region.ready .any ops listed:=by
     refine mem_ready.2 ⟨(l _ _).2 (by rw[F,hb]),ops[i],UD J,fun e f' j'=>(A _ _).2 ?_⟩
     have W:=b'.back i ops[i] e (by rw[J2];exact UD J) f' j'
     exact e' e.on W I
    rw[U] at this;cases this
 intro fuel
 induction fuel with
 |zero=>
  intro listed c aD σ a w u o' h;have q:Region.ready .any ops listed=[]:=by
   refine List.eq_nil_iff_forall_not_mem.2 fun i J=>?_;have y:=(l _ _).1 (mem_ready.1 J).1;have:=as2 y;omega
  exact⟨q,i' c aD σ a w _ (T listed u q) h⟩
 |succ fuel e'=>
  intro listed c aD σ a w u o' h;refine⟨fun q=>i' c aD σ a w _ (T listed u q) h,fun i J=>?_⟩;obtain⟨y,o,N,g'⟩:=mem_ready.1 J;have y:=(l _ _).1 y;refine h.step m' b' h' jL d' n' N (by rw[y];simp) (fun e f' hb=>(A _ _).1 (g' e f' hb)) fun c' B' k' p' w' q'=>?_
  refine e' (listed.setIfInBounds i true) c' B' k' p' w' (by simp[u]) (by have:=as2 y;omega) ?_
  have l':(fun j=>(listed.setIfInBounds i true)[j]?=some true)=Add (fun j=>listed[j]?=some true) i:=by
   funext j
   unfold Add
   by_cases a':j=i
   ·subst a'
    have W:=(kF.1 y).1;simp[Array.getElem?_setIfInBounds_self,W]
   ·rw[aaV (nJ a')]
    simp[a']
  rw[l'];exact q'
def aDj (f0:IQ E P self) (g0:P.follows .mixedOrders=true) {id:Nat} {tm tm':Tr H} {s':St} (h:At E X P base g ρ nt tm s a w) (W:Yg X P self ops.toList nt tm s=some (tm',s')) {aY:Exit->Act->ak->Prop}
 (h0:∀σ y' w',At E X P base g σ nt tm' s' y' w'->fA ρ s w σ s' w'->aY .normal y' w'):(Code.region id ops true).wp P aY a w:=by
 refine wp_region_any g0 ?_;unfold Yg at W
 generalize hms:O9 ops.toList []=ms at W
 split at W
 ·rename_i F'
  have E':=aNv F';split at W
  ·cases W
  ·rename_i e n'
   split at W
   ·rename_i z'
    simp only[aG,eG] at W;obtain⟨rfl,rfl⟩:=W;have P':=RN E'.afy ops.toList 0 [] tm none ⟨s.aP,s.J+ops.toList.length,s.J+ops.toList.length⟩ [] e rfl rfl (B0:=⟨s.aP,s.J+ops.toList.length,s.J+ops.toList.length⟩) (jU:=tm)
     (fun i r o J _=>by simp at J) (fun t x p'=>⟨fun j p r _ _ U=>by simp at U,fun _=>p'⟩) ⟨rfl,fun j r B' y=>by simp at y⟩ ⟨fun j b T' y=>(by cases y),fun j r b T' y=>(by simp at y),List.Pairwise.nil⟩ n'
    obtain⟨W',X',d',e',b'⟩:=P';have b':=b' bS;have jL:=aHa e' z';have c':∀i:Nat,(Array.replicate ops.size false)[i]?≠some true:=fun i J=>by
     rw[Array.getElem?_replicate] at J;split at J<;>cases J
    refine DI.run (base:=base) (ρ:=ρ) (s:=s) (w0:=w) (ds:=a.defers) f0 E' W' jL b' h.yB (fun c aD σ y' w' L hL F=>?_) ops.size (Array.replicate ops.size false) none ⟨s.aP,s.J+ops.toList.length,s.J+ops.toList.length⟩ ρ a _ bS ?_ ?_
    ·have a0:e.c=c/\e.aD=aD:=by
      have hc:=F.last;cases hec:e.c with
      |none=>
       rw[hec] at d';rcases hc.1 with⟨q,A⟩|⟨c0,i0,q,A,k'⟩
       ·exact⟨q.symm,d'.1.trans A.symm⟩
       ·exact absurd k' (d'.2 c0 i0 aD A)
      |some c1=>
       rw[hec] at d';obtain⟨⟨j0,m',q'⟩,L'⟩:=d';have f':c1<ops.size:=by
        have:=(gN.1 m').1;simp at b';omega
       obtain⟨c0,a',A'⟩:=hc.2.2 c1 j0 e.aD m' q' (hL c1 f');rcases hc.1 with⟨q,_⟩|⟨c2,k0,q,A,k'⟩
       ·rw[q] at a';cases a'
       ·rw[q] at a'
        obtain rfl:=bI a';have D':=L' c2 k0 aD A k';obtain rfl:c1=c2:=I;rw[m'] at A;obtain rfl:=bI A;rw[q'] at k';exact⟨q.symm,by injection k'⟩
     obtain⟨f',g'⟩:=a0;have r':∀b o,(zW (2^ops.toList.length-1) (pE ms e.c) e.aD.aP e.al).get b=some o->SL ms e.aZ s.J L c aD b o:=fun b o u=>by
      have t':∀(j:Nat) (u':Rec),e.aZ[j]?=some u'->j<ops.toList.length:=fun j u' y=>by
       have:=(gN.1 y).1;omega
      have v':∀j,j<ops.toList.length->(2^ops.toList.length-1).testBit j=true:=fun j y=>by rw[Nat.testBit_two_pow_sub_one];exact U0 y
      rcases Xd e'.sorted u with⟨j,q,_,k',m'⟩|⟨q,A⟩
      ·obtain⟨u',q',L'⟩:=e'.sound j b o q
       refine .inl ⟨j,u',q',L',⟨hL j (by have:=t' j u' q';simpa using this),by rw[<-f'];exact k'⟩,fun j' h' x' a' A' D'=>m' j' x' (e'.full j' h' b x' a' A') (v' j' (t' j' h' a')) (by rw[f'];exact D'.2)⟩
      ·refine .inr ⟨by rw[<-g'];exact q,fun j' h' x' a' A' D'=>A j' x' (e'.full j' h' b x' a' A') ⟨v' j' (t' j' h' a'),by rw[f'];exact D'.2⟩⟩
     have o0:=F.J;have M':HR E base σ ⟨zW (2^ops.toList.length-1) (pE ms e.c) e.aD.aP e.al,e.aD.J,e.aD.J⟩ w':=F.Z.sub r' (by rw[g'];exact F.Z.fresh aD.J (bq _)) (by rw[g'];exact bq _)
     have T:fA ρ s w σ ⟨zW (2^ops.toList.length-1) (pE ms e.c) e.aD.aP e.al,e.aD.J,e.aD.J⟩ w':=F.tp.gZ r' (by rw[g'];exact bq _) (.inr (by show s.J<=e.aD.J;rw[g'];omega))
     refine h0 σ y' w' ⟨h.yB.mono T.ext,M',⟨fun t x p'=>?_⟩,F.size,?_,h.low.1,fF h.low.2 T.size⟩ T
     ·obtain⟨q,A⟩:=X' t x p'
      refine F.fr t x ⟨fun j p r y n' _ U=>q j p r y n' U,fun b0=>A fun j p r y n' _=>b0 j p y n' (hL j ?_)⟩;have:=(gN.1 y).1
      simpa using this
     ·rw[F.defers]
      exact h.marks.gZ T
    ·have:left (Array.replicate ops.size false)<=(Array.replicate ops.size false).size:=by
      unfold left;rw[<-yP];exact List.count_le_length
     simpa using this
    ·have i':∀b o,SL ms e.aZ s.J (fun i=>(Array.replicate ops.size false)[i]?=some true) none ⟨s.aP,s.J+ops.toList.length,s.J+ops.toList.length⟩ b o->s.aP.get b=some o:=fun b o u=>by
      rcases u with⟨j,_,_,_,m',_⟩|⟨u,_⟩
      ·exact absurd m'.1 (c' j)
      ·exact u
     refine⟨fun i o r0 _ hL=>absurd hL (c' i),⟨.inl ⟨rfl,rfl⟩,fun c0 hc=>(by cases hc),fun i r B' _ _ hL=>absurd hL (c' i)⟩,?_,?_,fun i r T' _ _ _=>h.U.fresh.2 _ I,fun t x p'=>?_,h.size,rfl,bq _⟩
     ·refine⟨fun b o u=>?_,fun b l0 o o' l l' u e0=>h.U.apart b l0 o o' l l' (i' _ _ u) (i' _ _ e0),fun b u=>h.U.fresh.2 b (by simp at u;omega),h.U.base,h.U.nM,fun b o l u=>h.U.oC b o l (i' _ _ u)⟩
      obtain⟨l,q,A⟩:=h.U.pK b o (i' _ _ u);exact⟨l,q,A.mono (Ext.refl _) rfl⟩
     ·exact⟨Ext.refl _,by simp,rfl,rfl,rfl,bq _,fun _ _ _=>rfl,fun b o l u m0=>.inr ⟨b,o,l,i' _ _ u,m0,rfl,fun h=>h⟩,fun _ _ _=>rfl,fun _ _ h=>.inl h⟩
     ·exact h.fr.get t x (p'.2 fun j p _ _ hL=>absurd hL (c' j))
   ·cases W
 ·cases W
end
end
section
variable {E:Env} {X:Ctx}
section
variable {P:bA} {base:Nat} {ρ σ:Mp} {s s':St} {w w' w'':ak}
def HR.off (h:HR E base ρ s w) (j:w.heap.size<=w'.heap.size) (e:∀b o l,s.aP.get b=some o->ρ b=some l->w'.heap[l.g]?=w.heap[l.g]?) (q:∀g o,ρ.fz g=some o->w'.heap[g]?=w.heap[g]?):HR E base ρ s w':=
 ⟨fun b o u=>let ⟨l,y,F⟩:=h.pK b o u;⟨l,y,F.mono (Ext.refl _) (e b o l u y)⟩,h.apart,h.fresh,fF h.base j,fun g o A=>(q g o A).trans (h.nM g o A),h.oC⟩
def fA.off (t:fA ρ s w σ s' w') (e:Alike w' w'') (j:w'.heap.size<=w''.heap.size) (h:∀g,g<w.heap.size->w''.heap[g]?=w'.heap[g]?):fA ρ s w σ s' w'':=
 ⟨t.ext,t.nx,e.os.trans t.os,e.tape.trans t.tape,e.output.trans t.output,fF t.size j,fun g l hn=>(h g l).trans (t.block g l hn),t.from_,t.qR,t.wD⟩
inductive IV (P:Program):List Deferred->World->World->Prop
 |nil (w:World):IV P [] w w
 |cons {d:Deferred} {ds:List Deferred} {r:Nat} {w w1 w':World} (ht:d.target=.collected r) (hk:(Instr.takeDeferred r).run P w=.ok [] w1) (h:IV P ds w1 w'):IV P (d::ds) w w'
def agX {lo:Nat}:∀{ds:G Deferred} {w:ak},Mk lo σ s' w ds->base<=lo->HR E base σ s' w->∃w',IV P ds w w'/\HR E base σ s' w'/\Alike w w'/\w'.heap.size=w.heap.size/\∀g,g<lo->w'.heap[g]?=w.heap[g]?
 |[],w,_,_,h=>⟨w,.nil w,h,Alike.refl w,rfl,fun _ _=>rfl⟩
 |d::ds,w,T,h',h=>by
  obtain⟨D,rfl,p',i',j',k'⟩:=T.one d jG;have j:∀k,k≠D->(w.putObj D (.deferred none)).heap[k]?=w.heap[k]?:=fun k l'=>aje l';have A:=aa5.1 T.apart;have c':Mk lo σ s' (w.putObj D (.deferred none)) ds:=by
   refine⟨fun d' F=>?_,A.2⟩;obtain⟨W,u,a',q,e',b'⟩:=T.one d' (gF _ F);have f':W≠D:=fun e=>A.1 d' F D rfl (by rw[u,e])
   exact⟨W,u,a',(j W f').trans q,e',b'⟩
  have m':HR E base σ s' (w.putObj D (.deferred none)):=h.off bS (fun b o l g' n'=>j _ (k' b o l g' n')) fun g o y=>j g fun e=>by rw[e,j'] at y;cases y
  obtain⟨w',u,a',q,b',o'⟩:=agX c' h' m';refine⟨w',.cons rfl (U2 i') u,a',⟨q.os,q.tape,q.output⟩,by simpa using b',fun g y=>(o' g y).trans (j g I)⟩
def aCl (P:bA) (fn:Func) (fP:AJ->ak->Prop):Exit->Act->ak->Prop
 |.normal,a,w|.ret,a,w=>∃w',IV P a.defers w w'/\∃v,(results fn a.tmps).run P w'=.ok v w'/\fP (.returned v) w'
 |_,_,_=>False
def awl {ds:G Deferred} {w':ak} (h:IV P ds W w'):∀(fr:Frame) (cs:G Frame),fr.mode=.returning->fr.defers=ds->Steps P (lone fr cs W) (lone {fr with defers:=[]} cs w'):=by
 induction h with
 |nil W=>intro fr cs _ e;have:({fr with defers:=[]}:Frame)=fr:=by rw[<-e]
         rw[this];exact Steps.refl _ _
 |@cons d ds r W A w' l q _ u=>
  intro fr cs j e;have y:=step_collected (cs:=cs) (by rw[j];simp) e l q
  exact .head y (u {fr with defers:=[]++ds} cs j rfl)
def aoX {f:ig} {fn:Func} {c:iB} {fP:AJ->ak->Prop} (hf:P.funcs[f]?=some fn) (E:fn.body=some c)
 (h:c.wp P (aCl P fn fP) {tmps:=F++Array.replicate (fn.ntmps-F.size) undef,defers:=[]} w):Calls P f F w fP:=by
 intro cs
 let b:Frame:={(default:Frame) with fn:=f,kind:=.normal}
 have u:Frame.enter P f F .normal=b.at {tmps:=F++Array.replicate (fn.ntmps-F.size) undef,defers:=[]} [.code c]:=by
  simp[Frame.enter,Frame.at,hf,E,b]
 obtain⟨e,a',w',q,j⟩:=h b [] cs;rw[<-u] at j;cases e with
 |normal=>
  obtain⟨y,A,v,U,hR⟩:=q;exact⟨.returned v,y,_,hR,Steps.trans j (.head step_end (awl A _ cs rfl rfl)),rfl,rfl,rfl,rfl,fn,hf,U⟩
 |ret=>
  obtain⟨y,A,v,U,hR⟩:=q;obtain⟨T,W⟩:=j;exact⟨.returned v,y,_,hR,Steps.trans W (awl A _ cs rfl rfl),rfl,rfl,rfl,rfl,fn,hf,U⟩
 |panic chain=>exact q.elim
 |exit id=>exact q.elim
 |goto l=>exact q.elim
 |outgrown=>exact q.elim
section steps
variable {b:Frame} {a:Act} {k:G Item} {cs:G Frame}
def aEg (l:Nat) (v:av):(b.at a (.inRangeFunc l::k)).finish v=b.at a (.endRangeFunc l::k):=by
 simp[Frame.finish,Frame.at]
def aNx (h:(Instr.endLoop g).run P w=.ok none w'):
 step P (lone (b.at a (.endRangeFunc g::k)) cs w)=.next (lone (b.at a k) cs w'):=
 step_lone_go (by simp[stepG,stepG.exec,Frame.at,Sem.runT_eq,h,GStep.bare_after])
def aNy {g:je} {ps:dF Tmp} {assign body:iB} {mark:G Deferred} {e h:ak} {d:Deferred} {f:ig} {args:dF av}
 (A:(Instr.enterLoop b.fn a.tmps ps assign body none).run P w=.ok (i,mark) W)
 (u:(resolve a.eval (rangeCall g i) 0).run P W=.ok d e) (y:(invoke d.target d.args).run P e=.ok (.enter f args) h):
 step P (lone (b.at a (.code (.rangeFunc g ps assign body)::k)) cs w)=
  .next (lone (Frame.enter P f args .normal) (b.at {a with defers:=mark++a.defers} (.inRangeFunc i::k)::cs) h):=
 step_lone_go (by
  have q:=Frame.eval_at' b {a with defers:=mark++a.defers} (.inRangeFunc i::k)
  simp only[Frame.at] at q;have j:Sem.run P (resolve ({tmps:=a.tmps,defers:=mark++a.defers}:Act).eval {callee:=.value g,args:=#[.const (.func (.yield i) #[] #[])],argTypes:=#[]} 0) W=.ok d e:=u;simp[stepG,stepG.exec,Frame.at,Sem.runT_eq,A,GStep.bare_after,stepG.apply,q,Ma,j,y,Result.andThen])
end steps
def aOz {g:je} {ps:dF Tmp} {assign body:iB} {aY:Exit->Act->ak->Prop} {a:Act} {gf:ig} {lb:dF av} (T:a.eval g=.func (.func gf) #[] lb) (u:enters P gf=true)
 (h:∀fn,Calls P gf (#[.func (.yield (w.heap.size+1)) #[] #[]]++lb) ((w.alloc (.deferred (some []))).alloc (.loop {state:=.ready,pending:=none,fn,tmps:=a.tmps,params:=ps,assign,body,defers:=w.heap.size}))
  fun e E=>∃v q,e=.returned v/\(Instr.endLoop (w.heap.size+1)).run P E=.ok none q/\aY .normal {a with defers:={target:=.collected w.heap.size,args:=#[]}::a.defers} q):
 (Code.rangeFunc g ps assign body).wp P aY a w:=by
 intro b k cs;have y:(resolve a.eval (rangeCall g (w.heap.size+1)) 0).run P ((w.alloc (.deferred (some []))).alloc (.loop {state:=.ready,pending:=none,fn:=b.fn,tmps:=a.tmps,params:=ps,assign,body,defers:=w.heap.size}))=
  .ok ({target:=.fn (.func gf) lb,args:=#[.func (.yield (w.heap.size+1)) #[] #[]]}:Deferred) ((w.alloc (.deferred (some []))).alloc (.loop {state:=.ready,pending:=none,fn:=b.fn,tmps:=a.tmps,params:=ps,assign,body,defers:=w.heap.size})):=by
  simp[resolve,rangeCall,T,Deferred.ofValue,show a.eval (.const (.func (.yield (w.heap.size+1)) #[] #[]))=.func (.yield (w.heap.size+1)) #[] #[] from rfl]
 have W:∀w,(invoke (.fn (.func gf) lb) #[.func (.yield (w.heap.size+1)) #[] #[]]).run P w=.ok (.enter gf (#[.func (.yield (w.heap.size+1)) #[] #[]]++lb)) w:=fun w=>by
  have:=ah1 (P:=P) (w:=w) (#[.func (.yield (w.heap.size+1)) #[] #[]]++lb) u;rw[<-this];simp[invoke]
 obtain⟨e,E,fr,hR,j,b',l⟩:=h b.fn (b.at {a with defers:=[{target:=.collected w.heap.size,args:=#[]}]++a.defers} (.inRangeFunc (w.heap.size+1)::k)::cs)
 obtain⟨v,q,rfl,A,a'⟩:=hR;have F:=aNy (P:=P) (b:=b) (a:=a) (k:=k) (cs:=cs) (w:=w) (run_enterLoop_outer b.fn a.tmps ps assign body) y (by
  have:=ah1 (P:=P) (w:=(w.alloc (.deferred (some []))).alloc (.loop {state:=.ready,pending:=none,fn:=b.fn,tmps:=a.tmps,params:=ps,assign,body,defers:=w.heap.size})) (#[.func (.yield (w.heap.size+1)) #[] #[]]++lb) u;rw[<-this];simp[invoke])
 refine⟨.normal,_,q,a',.head F (Steps.trans j (.head ?_ (.one (aNx A))))⟩;rw[step_leave_returned l,aEg]
 rfl
def aMJ {tm:Tr H} {rs:G ResultVar} {vs:G H} (hf:FR E σ tm F) (h:HR E base σ s w) (e:DX P tm s rs=some vs):
 ∃us,(rs.mapM fun|ResultVar.tmp t=>(pure (F.getD t undef):Sem av)|.cell a t=>do loadVar t (<-asAddr (F.getD a undef))).run P w=.ok us w/\fq E σ vs us:=by
 induction rs generalizing vs with
 |nil=>simp only[DX,aG] at e;subst e;exact⟨[],by simp,rfl⟩
 |cons r rs a'=>
  cases r with
  |tmp t=>
   simp only[DX] at e;split at e
   ·rename_i v b' j l
    simp only[aG] at e;subst e;obtain⟨us,q,y⟩:=a' l;obtain⟨u,A,T⟩:=hf.get t v j;have W:F.getD t undef=u:=by rw[UA,A];rfl
    refine⟨u::us,?_,⟨u,us,rfl,T,y⟩⟩;rw[aa1];simp only[Ma,Qb,Ei,W];rw[q];simp
   ·cases e
  |cell t ty=>
   simp only[DX] at e;split at e
   ·rename_i p j
    split at e
    ·rename_i v b' l q
     simp only[aG] at e;subst e;obtain⟨us,y,A⟩:=a' q;obtain⟨u,T,W⟩:=hf.get t p j;have g':F.getD t undef=u:=by rw[UA,T];rfl
     obtain⟨c',x,h',d',e'⟩:=avj (P:=P) h W l;refine⟨x::us,?_,⟨x,us,rfl,e',A⟩⟩;rw[aa1];have f':(asAddr (.pointer (some c'))).run P w=.ok c' w:=by simp[asAddr]
     simp only[Ma,Qb,Ei,g',h'];rw[f'];simp only[Ei];rw[d'];simp only[Ei];rw[y];simp
    ·cases e
   ·cases e
def axl {vs:G H} {us:G av} (h:fq E σ vs us):VR E σ (oneOf vs) (if h:(List.toArray us).size=1 then(List.toArray us)[0] else .tuple (List.toArray us)):=by
 cases vs with
 |nil=>rw[show us=[] from h];exact⟨[],rfl,rfl⟩
 |cons v vs=>
  obtain⟨x,l,rfl,e,j⟩:=h;cases vs with
  |nil=>rw[show l=[] from j];exact e
  |cons F A=>
   obtain⟨y,q,rfl,u,w⟩:=j;rw[dif_neg bS];exact⟨_,rfl,⟨x,_,rfl,e,⟨y,q,rfl,u,w⟩⟩⟩
def avl {fn:Func} {tm:Tr H} {vs:G H} (hf:FR E σ tm F) (h:HR E base σ s w) (e:DX P tm s fn.results.toList=some vs):∃v,(results fn F).run P w=.ok v w/\VR E σ (oneOf vs) v:=by
 obtain⟨us,j,l⟩:=aMJ hf h e;refine⟨_,?_,axl l⟩;unfold results;rw[Array.mapM_eq_mapM_toList];simp only[map_eq_pure_bind,Ma]
 erw [j]
 simp only[Ei,Qb]
def aop {x:H}:∀{vs:G H} {i:Nat} {t:Tr H} {k:Nat},(Gg i vs t).get k=some x->(i<=k/\vs[k-i]?=some x)\/t.get k=some x
 |[],_,_,_,h=>.inr h
 |v::r,i,t,k,h=>by
  rcases aop (vs:=r) h with⟨j,e⟩|j
  ·refine .inl ⟨by omega,?_⟩
   rw[show k-i=(k-(i+1))+1 by omega]
   simpa using e
  ·rcases Tr.jc j with⟨rfl,rfl⟩|⟨_,e⟩
   ·exact .inl ⟨bq _,by simp⟩
   ·exact .inr e
def aoq {vs:G H} {us:G av} (h:fq E σ vs us) (ws:dF av):FR E σ (Gg 0 vs .leaf) (List.toArray us++ws):=by
 refine⟨fun t x q=>?_⟩;rcases aop q with⟨_,j⟩|j
 ·obtain⟨v,l,u⟩:=h.get j
  refine⟨v,?_,u⟩;have e:=(gN.1 l).1;rw[Cn] at l e;rw[UC (by simpa using e)]
  simpa using l
 ·simp[Tr.o9] at j
end
end
section
variable {E:Env} {X:Ctx}
def Qg (E:Env) (X:Ctx) (P:bA) (n:Nat) (c:iB) (nt:Nat) (tm:Tr H) (s:St) (x:AX) (tm':Tr H) (s':St):Prop:=
 ∀base lo ρ a w,At E X P base lo ρ nt tm s a w->Vm P n c (zL E X P base lo ρ nt s w x tm' s') a w
structure t_ (dK:Code->Prop):Prop where
 seq:∀{a b},dK (.seq a b)->dK a/\dK b
 cond:∀{x a b},dK (.cond x a b)->dK a/\dK b
 block:∀{id b},dK (.block id b)->dK b
 loop:∀{b},dK (.loop b)->dK b
 scope:∀{b},dK (.scope b)->dK b
def t_.all:t_ (fun _=>True):=⟨fun _=>⟨True.intro,True.intro⟩,fun _=>⟨True.intro,True.intro⟩,fun _=>True.intro,fun _=>True.intro,fun _=>True.intro⟩
structure Cu (E:Env) (X:Ctx) (P:Program) (dK:Code->Prop) (lib:Lib):Prop where
 call:∀f args s v s',lib.call f args s=some (v,s')->vV E P f args s v s'
 bX:∀id body n nt tm s x tm' s',dK (.block id body)->lib.bX id nt tm s=some (x,tm',s')->Qg E X P n (.block id body) nt tm s x tm' s'
 inl:lib.inl=true->∀c,dK c
def U5 (E:Env) (X:Ctx) (P:bA) (dK:iB->Prop) (n:Nat) (self:lC->ah gV):Prop:=∀c nt tm s x tm' s',dK c->self (.code c nt tm s)=some (.code x tm' s')->Qg E X P n c nt tm s x tm' s'
section
variable {P:bA} {lib:Lib} {dK:iB->Prop} {n:Nat} {self:lC->ah gV}
def At.post {ρ:Mp} {tm:Tr H} {s:St} {a:Act} (h:At E X P b g ρ i tm s a w) (x:AX):zL E X P b g ρ i s w x tm s x.out a w:=⟨rfl,ρ,h,fA.refl h.U⟩
def avq {ρ:Mp} {s u s':St} {x:AX} {q tm':Tr H} {aj:Act->ak->Prop} {aY:Exit->Act->ak->Prop}
 (hn:∀l j w',At E X P b g l i q u j w'->fA ρ s w l u w'->aj j w') (e:Exit) (j:Act) (w':ak) (h:zL E X P b g ρ i s w .normal q u e j w'):Exit.then aj aY e j w':=by
 obtain⟨rfl,l,y,A⟩:=h;exact hn l j w' y A
def awm {nt:Nat} {ρ:Mp} {s s':St} {x:AX} {tm':Tr H} {aj:Act->ak->Prop} (q:x≠.normal) (e:Exit) (j:Act) (w':ak) (h:zL E X P b g ρ nt s w x tm' s' e j w'):Exit.then aj (zL E X P b g ρ nt s w x tm' s') e j w':=by
 have l:=h;obtain⟨rfl,u,y,A⟩:=h;cases x with
 |normal=>exact absurd rfl q
 |exit i=>exact l
 |ret=>exact l
def aCV (i0:P.follows .mixedOrders=true) (h':t_ dK) (e':Cu E X P dK lib) (E':IQ E P self) (hc:U5 E X P dK n self) {c:iB} {nt:Nat} {tm:Tr H} {s:St} {x:AX} {tm':Tr H} {s':St}
 (F:dK c) (h:uQ X P lib self (.code c nt tm s)=some (.code x tm' s')):Qg E X P (n+1) c nt tm s x tm' s':=by
 intro base lo ρ a w q;cases c with
 |skip=>
  simp only[uQ,aG,gV.code.injEq] at h;obtain⟨rfl,rfl,rfl⟩:=h;exact wp_skip (q.post .normal)
 |label l=>
  simp only[uQ,aG,gV.code.injEq] at h;obtain⟨rfl,rfl,rfl⟩:=h;exact wp_label (q.post .normal)
 |exit id=>
  simp only[uQ,aG,gV.code.injEq] at h;obtain⟨rfl,rfl,rfl⟩:=h;exact wp_exit (q.post (.exit id))
 |ret=>
  simp only[uQ,aG,gV.code.injEq] at h;obtain⟨rfl,rfl,rfl⟩:=h;exact wp_ret (q.post .ret)
 |region id ops F'=>
  cases F' with
  |false=>
   simp only[uQ] at h;split at h
   ·rename_i c' b' y
    simp only[aG,gV.code.injEq] at h;obtain⟨rfl,rfl,rfl⟩:=h;refine wp_region ?_;have:=ahZ (base:=base) (lo:=lo) (nt:=nt) (tm':=c') (s':=b') (ops:=ops) (aY:=zL E X P base lo ρ nt s w .normal c' b') E' ops.toList 0 tm s ρ a w bS q y (fun A j' w' T a'=>⟨rfl,A,T,a'⟩);rw[aw4]
    simpa using this
   ·cases h
  |true=>
   simp only[uQ] at h;split at h
   ·rename_i c' b' y
    simp only[aG,gV.code.injEq] at h;obtain⟨rfl,rfl,rfl⟩:=h;exact aDj E' i0 q y fun A j' w' T a'=>⟨rfl,A,T,a'⟩
   ·cases h
 |seq P' j0=>
  simp only[uQ] at h;split at h
  ·rename_i c' b' y
   refine wp_seq (xV (hc _ _ _ _ _ _ _ (h'.seq F).1 y base lo ρ a w q).wp (avq (x:=x) (s':=s') (tm':=tm') fun A j' w' T a'=>?_));exact xV (hc _ _ _ _ _ _ _ (h'.seq F).2 h base lo A j' w' T).wp fun e T' W' t'=>t'.trans a'
  ·rename_i u' c' b' l' y
   simp only[aG,gV.code.injEq] at h;obtain⟨rfl,rfl,rfl⟩:=h;exact wp_seq (xV (hc _ _ _ _ _ _ _ (h'.seq F).1 y base lo ρ a w q).wp (awm fun e=>l' e))
  ·cases h
 |cond b P' j0=>
  simp only[uQ] at h;split at h
  ·rename_i y
   exact wp_cond_true (atw q.fr q.yB y) (hc _ _ _ _ _ _ _ (h'.cond F).1 h base lo ρ a w q).wp
  ·rename_i y
   exact wp_cond_false (atw q.fr q.yB y) (hc _ _ _ _ _ _ _ (h'.cond F).2 h base lo ρ a w q).wp
  ·cases h
 |block id body=>
  simp only[uQ] at h;split at h
  ·rename_i P' c' b' y
   simp only[aG,gV.code.injEq] at h;obtain⟨rfl,rfl,rfl⟩:=h;exact e'.bX id body _ nt tm s _ _ _ F y base lo ρ a w q
  split at h
  ·rename_i j c' b' y
   split at h
   ·rename_i L'
    simp only[aG,gV.code.injEq] at h;obtain⟨rfl,rfl,rfl⟩:=h;refine wp_block (xV (hc _ _ _ _ _ _ _ (h'.block F) y base lo ρ a w q).wp ?_);rintro e j' w' ⟨rfl,A,T,a'⟩;simp only[AX.out,Exit.inBlock,L',qX];exact⟨rfl,A,T,a'⟩
   ·rename_i L'
    simp only[aG,gV.code.injEq] at h;obtain⟨rfl,rfl,rfl⟩:=h;refine wp_block (xV (hc _ _ _ _ _ _ _ (h'.block F) y base lo ρ a w q).wp ?_);rintro e j' w' ⟨rfl,A,T,a'⟩;simp only[AX.out,Exit.inBlock,L',Me];exact⟨rfl,A,T,a'⟩
  ·rename_i u' c' b' l' y
   simp only[aG,gV.code.injEq] at h;obtain⟨rfl,rfl,rfl⟩:=h;refine wp_block (xV (hc _ _ _ _ _ _ _ (h'.block F) y base lo ρ a w q).wp ?_);rintro e j' w' ⟨rfl,A,T,a'⟩;cases u' with
   |normal=>exact⟨rfl,A,T,a'⟩
   |exit i=>exact(l' i rfl).elim
   |ret=>exact⟨rfl,A,T,a'⟩
  ·cases h
 |loop body=>
  simp only[uQ] at h;show Code.rounds P body (zL E X P base lo ρ nt s w x tm' s') (n+1) a w;rw[aby];split at h
  ·rename_i c' b' y
   refine xV (hc _ _ _ _ _ _ _ (h'.loop F) y base lo ρ a w q).wp (avq (x:=x) (s':=s') (tm':=tm') fun A j' w' T a'=>?_);exact au8 (fun e T' W' t'=>t'.trans a') (hc _ _ _ _ _ _ _ F h base lo A j' w' T)
  ·rename_i u' c' b' l' y
   simp only[aG,gV.code.injEq] at h;obtain⟨rfl,rfl,rfl⟩:=h;exact xV (hc _ _ _ _ _ _ _ (h'.loop F) y base lo ρ a w q).wp (awm fun e=>l' e)
  ·cases h
 |scope body=>
  simp only[uQ] at h;refine wp_scope_straight (xV (hc _ _ _ _ _ _ _ (h'.scope F) h base lo ρ a w q).wp ?_);intro e j' w' T;have k0:=T;obtain⟨rfl,_⟩:=T;cases x<;>exact k0
 |rangeFunc g ps assign body=>
  simp only[uQ] at h;split at h
  ·rename_i gf cap y
   split at h
   ·rename_i X'
    split at h
    ·rename_i v b' T
     simp only[aG,gV.code.injEq] at h;obtain⟨rfl,rfl,rfl⟩:=h;obtain⟨l0,v',a',t',m0⟩:=iA q.fr q.yB y;rw[show l0=[] from t'] at a'
     refine aOz (lb:=List.toArray v') a' X' fun fn=>?_;have k':∀g,g<w.heap.size->((w.alloc (.deferred (some []))).alloc (.loop {state:=.ready,pending:=none,fn,tmps:=a.tmps,params:=ps,assign,body,defers:=w.heap.size})).heap[g]?=w.heap[g]?:=fun g g'=>by
      rw[jV _ _ _ gJ,jV _ _ _ g']
     have A':((w.alloc (.deferred (some []))).alloc (.loop {state:=.ready,pending:=none,fn,tmps:=a.tmps,params:=ps,assign,body,defers:=w.heap.size})).heap[w.heap.size]?=some (.deferred (some [])):=by
      rw[jV _ _ _ bS];exact abn _ _
     have a0:((w.alloc (.deferred (some []))).alloc (.loop {state:=.ready,pending:=none,fn,tmps:=a.tmps,params:=ps,assign,body,defers:=w.heap.size})).heap[w.heap.size+1]?=some (.loop {state:=.ready,pending:=none,fn,tmps:=a.tmps,params:=ps,assign,body,defers:=w.heap.size}):=by
      have:=abn (w.alloc (.deferred (some []))) (.loop {state:=.ready,pending:=none,fn,tmps:=a.tmps,params:=ps,assign,body,defers:=w.heap.size})
      simpa using this
     have x0:((w.alloc (.deferred (some []))).alloc (.loop {state:=.ready,pending:=none,fn,tmps:=a.tmps,params:=ps,assign,body,defers:=w.heap.size})).heap.size=w.heap.size+2:=bS;have x':Alike w ((w.alloc (.deferred (some []))).alloc (.loop {state:=.ready,pending:=none,fn,tmps:=a.tmps,params:=ps,assign,body,defers:=w.heap.size})):=⟨rfl,rfl,rfl⟩
     generalize(w.alloc (.deferred (some []))).alloc (.loop {state:=.ready,pending:=none,fn,tmps:=a.tmps,params:=ps,assign,body,defers:=w.heap.size})=w1 at*
     have b0:HR E base ρ s w1:=q.U.off I (fun b o l i' e'=>k' _ (q.U.uO i' e')) fun g o g'=>k' g (q.U.Bv g');have p':=E' gf (.wK::cap) s v b' T base ρ w1 (.func (.yield (w.heap.size+1)) #[] #[]::v') q.yB.base b0 ⟨_,v',rfl,⟨_,rfl⟩,m0⟩;have M':(List.toArray (Value.func (.yield (w.heap.size+1)) #[] #[]::v'))=#[.func (.yield (w.heap.size+1)) #[] #[]]++List.toArray v':=bS;rw[M'] at p';refine uW p' ?_;rintro e o' ⟨u,A,rfl,D0,o0,f'⟩;have y':∀b o l,b'.aP.get b=some o->A b=some l->l.g<w.heap.size\/w.heap.size+2<=l.g:=fun b o l i' e'=>by
      rcases f'.from_ b o l i' e' with W|⟨r0,s0,t0,W,q',e0,_⟩
      ·exact .inr I
      ·have:=q.U.uO W q';exact .inl I
     have m':∀g o,A.fz g=some o->g<w.heap.size\/w.heap.size+2<=g:=fun g o g'=>by
      rcases f'.wD g o g' with W|W|⟨r0,s0,t0,W,_,q',e0⟩
      ·exact .inl (q.U.Bv W)
      ·exact .inr I
      ·have:=q.U.uO W q';exact .inl I
     have r':∀g,w.heap.size<=g->g<w.heap.size+2->o'.heap[g]?=w1.heap[g]?:=fun g W q'=>f'.block g I fun b o l i' _ e' e=>by
      have:=q.U.uO i' e';omega
     have f0:o'.heap[w.heap.size+1]?=_:=(r' _ I I).trans a0;have u0:=f'.size;have d':∀(g0:Obj) k,k≠w.heap.size+1->(o'.putObj (w.heap.size+1) g0).heap[k]?=o'.heap[k]?:=fun g0 k v0=>aje v0;refine⟨u,_,rfl,run_endLoop f0 bS,?_⟩;have h0:HR E base A b' (o'.putObj (w.heap.size+1) (.loop {state:=.exhausted,pending:=none,fn,tmps:=a.tmps,params:=ps,assign,body,defers:=w.heap.size})):=o0.off bS (fun b o l i' e'=>d' _ _ (by have:=y' b o l i' e';omega)) fun g o g'=>d' _ _ (by have:=m' g o g';omega)
     have w0:fA ρ s w A b' o':=⟨f'.ext,f'.nx,f'.os.trans x'.os,f'.tape.trans x'.tape,f'.output.trans x'.output,by omega,fun g g' hn=>(f'.block g I hn).trans (k' g g'),fun b o l i' e'=>by
      rcases f'.from_ b o l i' e' with W|W
      ·exact .inl I
      ·exact .inr W,f'.qR,fun g o g'=>by
      rcases f'.wD g o g' with W|W|W
      ·exact .inl W
      ·exact .inr (.inl I)
      ·exact .inr (.inr W)⟩
     have n':fA ρ s w A b' (o'.putObj (w.heap.size+1) (.loop {state:=.exhausted,pending:=none,fn,tmps:=a.tmps,params:=ps,assign,body,defers:=w.heap.size})):=w0.off ⟨rfl,rfl,rfl⟩ bS fun g g'=>d' _ g I;refine⟨rfl,A,⟨q.yB.mono n'.ext,h0,q.fr.mono n'.ext,q.size,?_,q.low.1,fF q.low.2 n'.size⟩,n'⟩;have D':=q.marks.gZ n';refine⟨fun d z'=>?_,aa5.2 ⟨fun d z' D A'=>?_,D'.apart⟩⟩
     ·rcases g_.1 z' with rfl|z'
      ·exact⟨_,rfl,q.low.2,(d' _ _ I).trans ((r' _ (bq _) I).trans A'),(by cases hf:A.fz w.heap.size with|none=>rfl|some o=>have:=m' _ _ hf;omega),fun b o l i' e'=>by have:=y' b o l i' e';omega⟩
      ·exact D'.one d z'
     ·obtain⟨E0,rfl,_,W,_⟩:=q.marks.one d z'
      have:=(kF.1 W).1;intro e
      injection e with e
      injection A' with A'
      omega
    ·cases h
   ·cases h
  ·cases h
 |goto l=>simp[uQ] at h
 |refuse A0=>simp[uQ] at h
def aCK (T:iX E X) (d':Cu E X P dK lib) (hc:U5 E X P dK n self) {f:ig} {args:G H} {s:St} {s':St} (h:uQ X P lib self (.call f args s)=some (.call y s')):vV E P f args s y s':=by
 simp only[uQ] at h;split at h
 ·rename_i v1 l W
  simp only[aG,gV.call.injEq] at h;obtain⟨rfl,rfl⟩:=h;exact d'.call f args s _ _ W
 ·split at h
  rotate_left
  ·cases h
  rename_i a';split at h
  ·cases h
  ·rename_i fn e'
   split at h
   ·cases h
   ·rename_i c A
    split at h
    ·rename_i l'
     intro base ρ w us b' U f';have t':=f'.length;have g':At E X P base w.heap.size ρ fn.ntmps (Gg 0 args .leaf) s {tmps:=List.toArray us++Array.replicate (fn.ntmps-(List.toArray us).size) undef,defers:=[]} w:=
      ⟨⟨b',T⟩,U,aoq f' _,by simp;omega,Mk.nil,U.base,bq _⟩
     have key:∀x q l vs,(x=AX.normal\/x=AX.ret)->self (.code c fn.ntmps (Gg 0 args .leaf) s)=some (.code x q l)->DX P q l fn.results.toList=some vs->
      Calls P f (List.toArray us) w (fun e w'=>∃u j,e=.returned u/\VR E j (oneOf vs) u/\HR E base j l w'/\fA ρ s w j l w'):=fun x q l vs T W m'=>by
      refine aoX e' A (xV (hc _ _ _ _ _ _ _ (d'.inl a' c) W base w.heap.size ρ _ w g').wp ?_);rintro e h' w' ⟨rfl,j,F,n'⟩;obtain⟨o',p',i',q',u',r'⟩:=agX F.marks F.low.1 F.U;obtain⟨u,j',k'⟩:=avl F.fr i' m';have c':∃w',IV P h'.defers _ w'/\∃y,(results fn h'.tmps).run P w'=.ok y w'/\∃u j,Ending.returned y=.returned u/\VR E j (oneOf vs) u/\HR E base j l w'/\fA ρ s w j l w':=
       ⟨o',p',u,j',u,j,rfl,k',i',n'.off q' I fun g b'=>r' g b'⟩
      rcases T with rfl|rfl<;>exact c'
     exact aq8
    ·cases h
def aCm (W:iX E X) (hc:U5 E X P dK n self) {f:ig} (c':∀fn c,P.funcs[f]?=some fn->fn.body=some c->dK c) {args:G H} {s:St} {s':St} (h:E8 X P self f args s=some (.call y s')):vV E P f args s y s':=by
 unfold E8 at h;split at h
 ·cases h
 ·rename_i fn T
  split at h
  ·cases h
  ·rename_i c q
   split at h
   ·rename_i j'
    intro base ρ w us a' U d';have r':=d'.length;have e':At E X P base w.heap.size ρ fn.ntmps (Gg 0 args .leaf) s {tmps:=List.toArray us++Array.replicate (fn.ntmps-(List.toArray us).size) undef,defers:=[]} w:=
     ⟨⟨a',W⟩,U,aoq d' _,by simp;omega,Mk.nil,U.base,bq _⟩
    have key:∀x A l vs,(x=AX.normal\/x=AX.ret)->self (.code c fn.ntmps (Gg 0 args .leaf) s)=some (.code x A l)->DX P A l fn.results.toList=some vs->
     Calls P f (List.toArray us) w (fun e w'=>∃u j,e=.returned u/\VR E j (oneOf vs) u/\HR E base j l w'/\fA ρ s w j l w'):=fun x A l vs W k' l'=>by
     refine aoX T q (xV (hc _ _ _ _ _ _ _ (c' fn c T q) k' base w.heap.size ρ _ w e').wp ?_);rintro e f' w' ⟨rfl,j,F,m'⟩;obtain⟨n',o',g',p',t',q'⟩:=agX F.marks F.low.1 F.U;obtain⟨u,h',i'⟩:=avl F.fr g' l';have b':∃w',IV P f'.defers _ w'/\∃y,(results fn f'.tmps).run P w'=.ok y w'/\∃u j,Ending.returned y=.returned u/\VR E j (oneOf vs) u/\HR E base j l w'/\fA ρ s w j l w':=
      ⟨n',o',u,h',u,j,rfl,i',g',m'.off p' I fun g a'=>q' g a'⟩
     rcases W with rfl|rfl<;>exact b'
    exact aq8
   ·cases h
def Yk (j:P.follows .mixedOrders=true) (l:iX E X) (q:t_ dK) (e:Cu E X P dK lib):∀n,U5 E X P dK n (rG X P lib n)/\IQ E P (rG X P lib n)
 |0=>⟨fun _ _ _ _ _ _ _ _ h=>(by rw[apD] at h;cases h),fun _ _ _ _ _ h=>(by rw[apD] at h;cases h)⟩
 |n+1=>by
  obtain⟨u,y⟩:=Yk j l q e n;exact⟨fun c nt tm s x tm' s' w h=>aCV j q e y u w (by rw[apC] at h;exact h),fun f args s v s' h=>aCK l e u (by rw[apC] at h;exact h)⟩
def Yj (e:P.follows .mixedOrders=true) (j:iX E X) (l:t_ dK) (q:Cu E X P dK lib) {f:ig} {args:G H} {s:St} {s':St} (h:rG X P lib n (.call f args s)=some (.call y s')):vV E P f args s y s':=(Yk e j l q n).2 f args s y s' h
def afF (l:P.follows .mixedOrders=true) (e:iX E X) (q:t_ dK) (u:Cu E X P dK lib) {f:ig} (j:∀fn c,P.funcs[f]?=some fn->fn.body=some c->dK c) {args:G H} {s:St} {s':St} (h:E8 X P (rG X P lib n) f args s=some (.call y s')):vV E P f args s y s':=aCm e (Yk l e q u n).1 j h
def aDD (j:P.follows .mixedOrders=true) (l:iX E X) (q:t_ dK) (u:Cu E X P dK lib) {c:iB} (e:dK c) {tm tm':Tr H} {s s':St} {x:AX} (h:rG X P lib n (.code c b tm s)=some (.code x tm' s')):Qg E X P n c b tm s x tm' s':=(Yk j l q u n).1 c b tm s x tm' s' e h
end
#print axioms Yj
end
section
variable {E:Env} {X:Ctx}
inductive DA where
 |one (d:D)
 |agg (ds:List D)
 |dD (ds:List DA)
def kH (fz:Nat->ah Obj):G D->G av->Prop
 |[],vs=>vs=[]
 |d::ds,vs=>∃u us,vs=u::us/\DR fz d u/\kH fz ds us
mutual
def uY (fz:Nat->ah Obj):DA->av->Prop
 |.one d,v=>DR fz d v
 |.agg ds,v=>∃e,v=.agg (List.toArray e)/\kH fz ds e
 |.dD ds,v=>∃e,v=.tuple (List.toArray e)/\vW fz ds e
def vW (fz:Nat->ah Obj):G DA->G av->Prop
 |[],vs=>vs=[]
 |d::ds,vs=>∃u us,vs=u::us/\uY fz d u/\vW fz ds us
end
def kH.mono {a b:Nat->ah Obj} (e:dX a b):∀{ds:G D} {vs:G av},kH a ds vs->kH b ds vs
 |[],_,h=>h
 |_::_,_,⟨u,us,j,l,q⟩=>⟨u,us,j,l.mono e,kH.mono e q⟩
mutual
def uY.mono {a b:Nat->ah Obj} (e:dX a b):∀{d:DA} {v:av},uY a d v->uY b d v
 |.one _,_,h=>DR.mono e h
 |.agg _,_,⟨j,l,q⟩=>⟨j,l,q.mono e⟩
 |.dD _,_,⟨j,l,q⟩=>⟨j,l,vW.mono e q⟩
def vW.mono {a b:Nat->ah Obj} (e:dX a b):∀{ds:G DA} {vs:G av},vW a ds vs->vW b ds vs
 |[],_,h=>h
 |_::_,_,⟨u,us,j,l,q⟩=>⟨u,us,j,uY.mono e l,vW.mono e q⟩
end
def kH.length {fz:Nat->ah Obj}:∀{ds:G D} {vs:G av},kH fz ds vs->vs.length=ds.length
 |[],_,h=>by rw[show _=[] from h];rfl
 |_::_,_,⟨u,us,e,_,j⟩=>by rw[e,gD,j.length,gD]
def tN:H->ah Y
 |.int k n=>some (.int k n)
 |.bool b=>some (.bool b)
 |.str l=>some (.str l)
 |.S e=>some e
 |_=>none
def jv:G H->ah (G Y)
 |[]=>some []
 |v::r=>match tN v,jv r with
  |some e,some es=>some (e::es)
  |_,_=>none
mutual
def iU (F:Nat->D):H->ah DA
 |.agg cs=>match jv cs with
  |some es=>(cZ F es).map .agg
  |none=>none
 |.tuple vs=>(iH F vs).map .dD
 |v=>match tN v with
  |some e=>(den F e).map .one
  |none=>none
def iH (F:Nat->D):G H->ah (G DA)
 |[]=>some []
 |v::r=>match iU F v,iH F r with
  |some d,some ds=>some (d::ds)
  |_,_=>none
end
section
variable {P:bA} {base:Nat} {ρ σ:Mp} {s s':St} {w w':ak}
def aij {u:av} (h:tN y=some x) (hd:den E.val x=some d):VR E ρ y u↔DR ρ.fz d u:=by
 unfold tN at h;split at h<;>first|(cases h;done)|(simp only[aG] at h;subst h)
 ·exact afJ
 ·exact afJ
 ·exact afJ
 ·exact⟨fun⟨q,j,l⟩=>(by rw[hd] at j;obtain rfl:=bI j;exact l),fun h=>⟨d,hd,h⟩⟩
def JU:∀{vs:G H} {es:G Y} {ds:G D} {us:G av},jv vs=some es->cZ E.val es=some ds->(fq E ρ vs us↔kH ρ.fz ds us)
 |[],es,ds,us,h,j=>by
  simp only[jv,aG] at h;subst h;simp only[cZ,aG] at j;subst j;exact Iff.rfl
 |v::vs,es,ds,us,h,j=>by
  simp only[jv] at h;split at h
  ·rename_i e b' A F
   simp only[aG] at h;subst h;simp only[cZ] at j;obtain⟨d,P,a'⟩:=kW.1 j;obtain⟨c',T,W⟩:=kW.1 a';simp only[aG] at W;subst W;exact⟨fun⟨u,l,q,w,y⟩=>⟨u,l,q,(aij A P).1 w,(JU F T).1 y⟩,fun⟨u,l,q,w,y⟩=>⟨u,l,q,(aij A P).2 w,(JU F T).2 y⟩⟩
  ·cases h
def uo {j:DA} {u:av} (h:(match tN y with|some e=>(den E.val e).map DA.one|none=>none)=some j):VR E ρ y u↔uY ρ.fz j u:=by
 split at h
 ·rename_i e l
  obtain⟨d,q,rfl⟩:=lq.1 h;exact aij l q
 ·cases h
mutual
def Jg:∀{v:H} {e:DA} {u:av},iU E.val v=some e->(VR E ρ v u↔uY ρ.fz e u)
 |.agg cs,e,u,h=>by
  simp only[iU] at h;split at h
  ·rename_i es y
   obtain⟨ds,w,rfl⟩:=lq.1 h;exact⟨fun⟨j,l,q⟩=>⟨j,l,(JU y w).1 q⟩,fun⟨j,l,q⟩=>⟨j,l,(JU y w).2 q⟩⟩
  ·cases h
 |.tuple vs,e,u,h=>by
  simp only[iU] at h;obtain⟨ds,w,rfl⟩:=lq.1 h;exact⟨fun⟨j,l,q⟩=>⟨j,l,(Fg w).1 q⟩,fun⟨j,l,q⟩=>⟨j,l,(Fg w).2 q⟩⟩
 |.bool _,e,u,h=>uo uE
 |.int _ _,e,u,h=>uo uE
 |.str _,e,u,h=>uo uE
 |.nilPtr,e,u,h=>uo uE
 |.ptr _ _,e,u,h=>uo uE
 |.aV,e,u,h=>uo uE
 |.rF,e,u,h=>uo uE
 |.vT,e,u,h=>uo uE
 |.slice ..,e,u,h=>uo uE
 |.tC,e,u,h=>uo uE
 |.map _,e,u,h=>uo uE
 |.fn ..,e,u,h=>uo uE
 |.tu,e,u,h=>uo uE
 |.iface _ _,e,u,h=>uo uE
 |.nilIface,e,u,h=>uo uE
 |.wK,e,u,h=>uo uE
 |.S _,e,u,h=>uo uE
 |.gy ..,e,u,h=>uo uE
 |.fp ..,e,u,h=>uo uE
def Fg:∀{vs:G H} {ds:G DA} {us:G av},iH E.val vs=some ds->(fq E ρ vs us↔vW ρ.fz ds us)
 |[],ds,us,h=>by
  simp only[iH,aG] at h;subst h;exact Iff.rfl
 |v::vs,ds,us,h=>by
  simp only[iH] at h;split at h
  ·rename_i d A w y
   simp only[aG] at h;subst h;exact⟨fun⟨u,e,j,l,q⟩=>⟨u,e,j,(Jg w).1 l,(Fg y).1 q⟩,fun⟨u,e,j,l,q⟩=>⟨u,e,j,(Jg w).2 l,(Fg y).2 q⟩⟩
  ·cases h
end
def YT (s:St):H->ah (H×St)
 |.agg cs=>match Ox s cs with
  |some (es,h)=>some (.agg (es.map H.S),h)
  |none=>none
 |v=>match YS s v with
  |some (e,h)=>some (.S e,h)
  |none=>none
def Gz (s:St):G H->ah (G H×St)
 |[]=>some ([],s)
 |v::r=>match YT s v with
  |some (x,e)=>match Gz e r with
   |some (h,j)=>some (x::h,j)
   |none=>none
  |none=>none
def YV (s:St):H->ah (H×St)
 |.tuple vs=>match Gz s vs with
  |some (e,h)=>some (.tuple e,h)
  |none=>none
 |v=>YT s v
def awj:∀{es:G Y} {ds:G D} {us:G av},cZ E.val es=some ds->ds.length=us.length->(∀(j:Nat) (c:D),ds[j]?=some c->∃u,us[j]?=some u/\DR σ.fz c u)->fq E σ (es.map H.S) us
 |[],ds,us,h,l,_=>by
  simp only[cZ,aG] at h;subst h;cases us with
  |nil=>rfl
  |cons u us=>simp at l
 |e::es,ds,us,h,l,q=>by
  simp only[cZ] at h;obtain⟨d,A,F⟩:=kW.1 h;obtain⟨W,P,w⟩:=kW.1 F;simp only[aG] at w;subst w;cases us with
  |nil=>simp at l
  |cons u us=>
   obtain⟨a',y,T⟩:=q 0 d rfl;simp at y;subst y;exact⟨u,_,rfl,⟨d,A,T⟩,awj P (by simpa using l) fun j c hj=>by simpa using q (j+1) c yx⟩
def ar1 (h:HR E base ρ s w) {x:H} {u:av} (W:VR E ρ y u) (hf:YT s y=some (x,s')):∃σ,Ext ρ σ/\σ.at_=ρ.at_/\HR E base σ s' w/\fA ρ s w σ s' w/\VR E σ x u:=by
 unfold YT at hf;split at hf
 ·rename_i cs
  split at hf
  ·rename_i es a' j
   simp only[aG,eG] at hf;obtain⟨rfl,rfl⟩:=hf;obtain⟨b',rfl,c'⟩:=W;obtain⟨σ,l,q,A,F,ds,P,T,d'⟩:=agj h c' j;exact⟨σ,l,q,A,F,b',rfl,awj P T d'⟩
  ·cases hf
 ·split at hf
  ·rename_i e a' j
   simp only[aG,eG] at hf;obtain⟨rfl,rfl⟩:=hf;obtain⟨σ,l,q,A,F,d,P,T⟩:=ar0 h W j;exact⟨σ,l,q,A,F,d,P,T⟩
  ·cases hf
def Ow:∀{vs e:G H} {ρ:Mp} {s s':St} {us:G av},HR E base ρ s w->fq E ρ vs us->Gz s vs=some (e,s')->∃σ,Ext ρ σ/\σ.at_=ρ.at_/\HR E base σ s' w/\fA ρ s w σ s' w/\fq E σ e us
 |[],e,ρ,s,s',us,h,j,hf=>by
  simp only[Gz,aG,eG] at hf;obtain⟨rfl,rfl⟩:=hf;exact⟨ρ,.refl _,rfl,h,fA.refl h,j⟩
 |v::vs,e,ρ,s,s',us,h,j,hf=>by
  obtain⟨u,l,rfl,A,F⟩:=j;simp only[Gz] at hf;split at hf
  ·rename_i x j' P
   split at hf
   ·rename_i i' k' T
    simp only[aG,eG] at hf;obtain⟨rfl,rfl⟩:=hf;obtain⟨σ,q,W,a',b',c'⟩:=ar1 h A P;obtain⟨d',y,e',f',g',h'⟩:=Ow a' (F.mono q) T;exact⟨d',q.trans y,e'.trans W,f',b'.trans g',u,l,rfl,c'.mono y,h'⟩
   ·cases hf
  ·cases hf
def ar2 (h:HR E base ρ s w) {x:H} {u:av} (e:VR E ρ y u) (hf:YV s y=some (x,s')):∃σ,Ext ρ σ/\σ.at_=ρ.at_/\HR E base σ s' w/\fA ρ s w σ s' w/\VR E σ x u:=by
 unfold YV at hf;split at hf
 ·split at hf
  ·rename_i W a' j
   simp only[aG,eG] at hf;obtain⟨rfl,rfl⟩:=hf;obtain⟨us,rfl,l⟩:=e;obtain⟨σ,q,A,F,P,T⟩:=Ow h l j;exact⟨σ,q,A,F,P,us,rfl,T⟩
  ·cases hf
 ·exact ar1 h e hf
def om (T:Nat->ah D) (P:bA) (f:ig) (V:G DA) (h:DA):Prop:=
 ∀E:Env,E.kE=T->∀base ρ s w us,zK E P ρ->HR E base ρ s w->vW ρ.fz V us->Calls P f (List.toArray us) w (fun e w'=>∃u σ,e=.returned u/\uY σ.fz h u/\σ.at_=ρ.at_/\HR E base σ s w'/\fA ρ s w σ s w')
def sE (P:bA):St:=⟨.leaf,P.globals.size,P.globals.size⟩
def Mp.bare (P:bA) (ρ:Mp):Mp:=⟨fun b=>if b<P.globals.size then ρ b else none,ρ.fz⟩
def aoH {E0:Env} (h:zK E P ρ) (j:E0.kE=E.kE):zK E0 P (ρ.bare P):=
 ⟨fun g e=>let ⟨m,l⟩:=h.nG g e;⟨m,by show(if g<P.globals.size then ρ g else none)=_;rw[bK e];exact l⟩,fun g d q=>h.kE g d (by rw[<-j];exact q)⟩
def aoI {E0:Env} (h:HR E base ρ s w):HR E0 base (ρ.bare P) (sE P) w:=
 ⟨fun b o e=>by(have:(Tr.leaf:Tr AO).get b=some o:=e;rw[Tr.o9] at this;cases this),fun b j o o' l l' e=>by(have:(Tr.leaf:Tr AO).get b=some o:=e;rw[Tr.o9] at this;cases this),
  ⟨bB (Ck _),fun b e=>bB (by have:P.globals.size<=b:=e;omega)⟩,h.base,h.nM,fun b o l e=>by(have:(Tr.leaf:Tr AO).get b=some o:=e;rw[Tr.o9] at this;cases this)⟩
def HR.after (h:HR E base ρ s w) {q:Mp} {E0:Env} {a':St} (u:fA (ρ.bare P) (sE P) w q a' w') (U:HR E0 base q a' w'):HR E base ⟨ρ.at_,q.fz⟩ s w'/\fA ρ s w ⟨ρ.at_,q.fz⟩ s w':=by
 have A:∀b o,(sE P).aP.get b=some o->False:=fun b o e=>by have:(Tr.leaf:Tr AO).get b=some o:=e;rw[Tr.o9] at this;cases this
 have F:∀g,g<w.heap.size->w'.heap[g]?=w.heap[g]?:=fun g y=>u.block g y fun b o l e=>(A b o e).elim;have b':Ext ρ ⟨ρ.at_,q.fz⟩:=⟨fun _ _ h=>h,u.ext.fz⟩;have W:∀g o,q.fz g=some o->ρ.fz g=some o\/w.heap.size<=g:=fun g o y=>by
  rcases u.wD g o y with j|j|⟨b,o',l,j,_⟩
  ·exact .inl j
  ·exact .inr j
  ·exact(A b o' j).elim
 refine⟨⟨fun b o e=>?_,h.apart,h.fresh,fF h.base u.size,U.nM,fun b o l e d' T=>?_⟩,⟨b',⟨bq _,.inl rfl⟩,u.os,u.tape,u.output,u.size,fun g y _=>F g y,fun b o l e T=>.inr ⟨b,o,l,e,T,rfl,id⟩,fun _ _ _=>rfl,fun g o y=>(W g o y).imp id .inl⟩⟩
 ·obtain⟨l,j,c'⟩:=h.pK b o e
  exact⟨l,j,c'.mono b' (F _ c'.lt)⟩
 ·show q.fz l.g=none
  cases hf:q.fz l.g with
  |none=>rfl
  |some e'=>
   rcases W _ _ hf with j|j
   ·have:=h.oC b o l e d' T;rw[j] at this;cases this
   ·have:=h.uO e T;omega
def dM (W:ak):Nat->ah Obj:=fun g=>W.heap[g]?
def Mp.start (P:bA) (W:ak):Mp:=⟨fun b=>if b<P.globals.size then some ⟨b,0,0⟩ else none,dM W⟩
def av8 (h:∀g d,E.kE g=some d->∃arr T fr u,dM W g=some (.cells arr T fr)/\arr[0]?=some u/\GR (dM W) d u):zK E P (Mp.start P W):=
 ⟨fun _ e=>⟨0,bK e⟩,h⟩
def aaF (W:ak):HR E W.heap.size (Mp.start P W) (sE P) W:=
 ⟨fun b o e=>by(have:(Tr.leaf:Tr AO).get b=some o:=e;rw[Tr.o9] at this;cases this),fun b j o o' l l' e=>by(have:(Tr.leaf:Tr AO).get b=some o:=e;rw[Tr.o9] at this;cases this),
  ⟨bB (Ck _),fun b e=>bB (by have:P.globals.size<=b:=e;omega)⟩,bq _,fun _ _ h=>h,fun b o l e=>by(have:(Tr.leaf:Tr AO).get b=some o:=e;rw[Tr.o9] at this;cases this)⟩
variable {lib:Lib} {dK:iB->Prop} {n:Nat}
def agl:ah gV->ah H
 |some (.call v s)=>match YV s v with
  |some (x,_)=>some x
  |none=>none
 |_=>none
def aHj (F:P.follows .mixedOrders=true) (T:iX E X) (W:t_ dK) (a':Cu E X P dK lib) {f:ig} (j:∀fn c,P.funcs[f]?=some fn->fn.body=some c->dK c) {args:G H} {V:G DA} {l:DA} (h:agl (E8 X P (rG X P lib n) f args (sE P))=some y) (b':iH E.val args=some V) (c':iU E.val y=some l):om E.kE P f V l:=by
 intro E0 d' base ρ s w us e' U f';unfold agl at h;split at h
 ·rename_i v0 s0 g'
  split at h
  ·rename_i x q' h'
   simp only[aG] at h;subst h;have q:=aoI (P:=P) (E0:=E) U;refine uW (afF F T W a' j g' base (ρ.bare P) w us (aoH e' d'.symm) q ((Fg (ρ:=ρ.bare P) b').2 f')) ?_;rintro e w' ⟨u,σ,rfl,i',j',k'⟩;obtain⟨A,r',s',l',m',n'⟩:=ar2 j' i' h';obtain⟨o',p'⟩:=U.after (k'.trans m') l';exact⟨u,⟨ρ.at_,A.fz⟩,rfl,(Jg (ρ:=A) c').1 n',rfl,o',p'⟩
  ·cases h
 ·cases h
structure CE where
 f:FuncId
 args:List H
 res:H
def Om (T:G CE) (f:ig) (args:G H):ah H:=match T with
 |[]=>none
 |c::r=>if c.f=f/\H.sJ c.args args=true then some c.res else Om r f args
def aip (T:G CE) (f:ig) (args:G H) (s:St):ah (H×St):=match Gz s args with
 |some (e,h)=>match Om T f e with
  |some v=>some (v,h)
  |none=>none
 |none=>none
def CE.Ok (E:Env) (P:bA) (c:CE):Prop:=∃V e,iH E.val c.args=some V/\iU E.val c.res=some e/\om E.kE P c.f V e
def agb:∀{T:G CE} {f:ig} {args:G H} {v:H},Om T f args=some v->∃c∈T,c.f=f/\c.args=args/\c.res=v
 |[],_,_,_,h=>by simp[Om] at h
 |c::r,f,args,v,h=>by
  simp only[Om] at h;split at h
  ·rename_i hc
   simp only[aG] at h;exact⟨c,jG,hc.1,H.Az hc.2,h⟩
  ·obtain⟨c',e,j⟩:=agb h
   exact⟨c',gF _ e,j⟩
def aNK {T:G CE} (j:∀c∈T,c.Ok E P) {f:ig} {args:G H} (h:aip T f args s=some (y,s')):vV E P f args s y s':=by
 unfold aip at h;split at h
 ·rename_i m' l q
  split at h
  ·rename_i v0 A
   simp only[aG,eG] at h;obtain⟨rfl,rfl⟩:=h;obtain⟨c,F,rfl,rfl,rfl⟩:=agb A;obtain⟨V,n',W,a',b'⟩:=j c F;intro base ρ w us c' U d';obtain⟨σ,e',o',f',g',h'⟩:=Ow U d' q;refine uW (b' E rfl base σ l w us (c'.mono e') f' ((Fg W).1 h')) ?_;rintro e w' ⟨u,i',rfl,j',p',k',l'⟩;exact⟨u,i',rfl,(Jg a').2 j',k',g'.trans l'⟩
  ·cases h
 ·cases h
end
end
def Eu (T:Nat->ah D) (W:ak):Prop:=∀g d,T g=some d->∃arr ty fr u,dM W g=some (.cells arr ty fr)/\arr[0]?=some u/\GR (dM W) d u
def qO (h:Below b W w) (l:W.heap.size<=b):dX (dM W) (dM w):=fun g o e=>by
 have j:g<W.heap.size:=(kF.1 e).1;exact(h.block g I).trans e
def Eu.below {W':ak} (j:Eu T W) (h:Below b W W') (e:W.heap.size<=b):Eu T W':=fun g d l=>by
 obtain⟨arr,ty,fr,u,q,w,y⟩:=j g d l;exact⟨arr,ty,fr,u,qO h e _ _ q,w,y.mono (qO h e)⟩
def om.at_ {P:bA} {f:ig} {V:G DA} {j:DA} (h:om T P f V j) {us:G av} (l:Eu T W) (q:vW (dM W) V us):
 Calls P f (List.toArray us) W fun e W'=>∃u,e=.returned u/\Below W.heap.size W W'/\uY (dM W') j u:=by
 refine uW (h ⟨fun _=>.bool false,T⟩ rfl W.heap.size (Mp.start P W) (sE P) W us (av8 l) (aaF W) q) ?_;rintro e w' ⟨u,a',rfl,w,_,y,A⟩;exact⟨u,rfl,A.below (aaF (E:=⟨fun _=>.bool false,T⟩) W),w.mono fun g o F=>y.nM g o F⟩
def om.H6 {P:bA} {f:ig} {V:G DA} {F:DA}
 (h:∀W us,Eu T W->vW (dM W) V us->Calls P f (List.toArray us) W fun e W'=>∃u,e=.returned u/\Below W.heap.size W W'/\∀fz,uY fz F u):om T P f V F:=by
 intro E d' base ρ s w us e' U f';have y:dX ρ.fz (dM w):=fun g o q=>U.nM g o q;refine uW (h w us (fun g d a'=>?_) (f'.mono y)) ?_
 ·obtain⟨arr,ty,fr,u,g',h',A⟩:=e'.kE g d (by rw[d'];exact a')
  exact⟨arr,ty,fr,u,y _ _ g',h',A.mono y⟩
 ·rintro e w' ⟨u,rfl,j,A⟩
  exact⟨u,ρ,rfl,A _,rfl,U.off j.size (fun b o l b' i'=>j.block _ (U.uO b' i')) (fun g o q=>j.block _ (U.Bv q)),
   (fA.refl U).off ⟨j.os,j.tape,j.output⟩ j.size fun g c'=>j.block g c'⟩
def Aj (fz:Nat->ah Obj) (W W':ak):Nat->ah Obj:=fun g=>if g<W.heap.size then fz g else W'.heap[g]?
def aEq (h:dX a (dM W)):dX a (Aj a W w):=fun g o e=>by
 have j:g<W.heap.size:=(kF.1 (h g o e)).1;show(if g<W.heap.size then a g else _)=_
 rw[bK j];exact e
def om.aGN {P:bA} {f:ig} {V:G DA} {g':DA}
 (h:∀W us fz,Eu T W->dX fz (dM W)->vW fz V us->Calls P f (List.toArray us) W fun e W'=>∃u,e=.returned u/\Below W.heap.size W W'/\uY (Aj fz W W') g' u):om T P f V g':=by
 intro E k' base ρ s w us F U l';have a':dX ρ.fz (dM w):=fun g o j=>U.nM g o j;refine uW (h w us ρ.fz (fun g d h'=>?_) a' l') ?_
 ·obtain⟨arr,ty,fr,u,A,b',f'⟩:=F.kE g d (by rw[k'];exact h')
  exact⟨arr,ty,fr,u,a' _ _ A,b',f'.mono a'⟩
 ·rintro e w' ⟨u,rfl,y,f'⟩
  have d':Ext ρ ⟨ρ.at_,Aj ρ.fz w w'⟩:=⟨fun _ _ h=>h,aEq a'⟩;have e':∀g o,Aj ρ.fz w w' g=some o->ρ.fz g=some o\/w.heap.size<=g:=fun g o F=>by
   unfold Aj at F;split at F
   ·exact .inl F
   ·exact .inr I
  refine⟨u,⟨ρ.at_,Aj ρ.fz w w'⟩,rfl,f',rfl,⟨fun b o q=>?_,U.apart,U.fresh,fF U.base y.size,fun g o j=>?_,fun b o l q m' c'=>?_⟩,⟨d',⟨bq _,.inl rfl⟩,y.os,y.tape,y.output,y.size,fun g i' _=>y.block g i',fun b o l q c'=>.inr ⟨b,o,l,q,c',rfl,id⟩,fun _ _ _=>rfl,fun g o j=>(e' g o j).imp id .inl⟩⟩
  ·obtain⟨l,A,b'⟩:=U.pK b o q
   exact⟨l,A,b'.mono d' (y.block _ b'.lt)⟩
  ·have j:(if g<w.heap.size then ρ.fz g else w'.heap[g]?)=some o:=j
   split at j
   ·rename_i j'
    rw[y.block g j'];exact U.nM g o j
   ·exact j
  ·show Aj ρ.fz w w' l.g=none
   cases hf:Aj ρ.fz w w' l.g with
   |none=>rfl
   |some n'=>
    rcases e' _ _ hf with A|A
    ·have:=U.oC b o l q m' c';rw[A] at this;cases this
    ·have:=U.uO q c';omega
inductive SO where
 |cells (ro:Bool) (L:List H)
 |seq (z:Nat) (e:Y)
structure bV where
 tm:List (Nat×H)
 aP:List (Nat×SO)
 J:Nat
def FK:G (Nat×H)->Tr H
 |[]=>.leaf
 |(t,v)::r=>(FK r).set t v
def LK:SO->AO
 |.cells ro L=>.cells ro (nN .leaf 0 L) L.length
 |.seq z e=>.seq z e
def hOf:G (Nat×SO)->Tr AO
 |[]=>.leaf
 |(b,o)::r=>(hOf r).set b (LK o)
def bV.st (dw:bV):St:=⟨hOf dw.aP,dw.J,dw.J⟩
def Ic:G (Nat×Nat)->Nat->Nat
 |[],b=>b
 |(x,y)::r,b=>if x=b then y else Ic r b
def KE {e:Type} (a b:ah (G e)):ah (G e):=match a,b with
 |some x,some y=>some (x++y)
 |_,_=>none
mutual
def mA (r:Nat->Nat) (J:Nat) (s1:St):H->H->ah (G (Y×Y))
 |.S e,v=>match roA s1 v with
  |some e1=>some [(e,e1)]
  |none=>none
 |.bool a,.bool b=>if a=b then some [] else none
 |.int k a,.int k' b=>if k=k'/\a=b then some [] else none
 |.str a,.str b=>if a=b then some [] else none
 |.nilPtr,.nilPtr=>some []
 |.aV,.aV=>some []
 |.tC,.tC=>some []
 |.tu,.tu=>some []
 |.nilIface,.nilIface=>some []
 |.ptr b o,.ptr h o'=>if b<J/\r b=h/\o=o' then some [] else none
 |.map b,.map h=>if b<J/\r b=h then some [] else none
 |.slice b o n c z,.slice h o' l c' j=>if b<J/\r b=h/\o=o'/\n=l/\c<=c'/\n<=c/\z=j then some [] else none
 |.gy b e z,.gy h q j=>if b<J/\r b=h/\z=j then some [(e,q)] else none
 |.gy b e z,.slice h 0 n _ j=>if b<J/\r b=h/\z=j then(match s1.aP.get h,s1.load h 0 (n*z) with
  |some (.cells false _ k),some cs=>match Ii cs with
   |some es=>if k=n*z then some [(e,BM z n es .d9)] else none
   |none=>none
  |_,_=>none) else none
 |.agg eY,.agg bs=>Lj r J s1 eY bs
 |.tuple eY,.tuple bs=>Lj r J s1 eY bs
 |_,_=>none
def Lj (r:Nat->Nat) (J:Nat) (s1:St):G H->G H->ah (G (Y×Y))
 |[],[]=>some []
 |a::eY,b::bs=>KE (mA r J s1 a b) (Lj r J s1 eY bs)
 |_,_=>none
end
def Zv (r:Nat->Nat) (J:Nat) (s1:St) (vs:Tr H):Nat->G H->ah (G (Y×Y))
 |_,[]=>some []
 |j,a::eY=>match vs.get j with
  |some v=>KE (mA r J s1 a v) (Zv r J s1 vs (j+1) eY)
  |none=>none
def mO (r:Nat->Nat) (J:Nat) (s1:St):SO->AO->ah (G (Y×Y))
 |.cells ro L,.cells h vs n=>if ro=h/\L.length<=n then Zv r J s1 vs 0 L else none
 |.seq z e,.seq j l=>if z=j then some [(e,l)] else none
 |.seq z e,.cells false vs k=>if 0<z/\k/z*z=k then(match BQ vs 0 k with
  |some cs=>match Ii cs with
   |some es=>some [(e,BM z (k/z) es .d9)]
   |none=>none
  |none=>none) else none
 |_,_=>none
def Zx (r:Nat->Nat) (J:Nat) (s1:St) (e:Tr H):G (Nat×H)->ah (G (Y×Y))
 |[]=>some []
 |(t,v)::rest=>match e.get t with
  |some v1=>KE (mA r J s1 v v1) (Zx r J s1 e rest)
  |none=>none
def Zw (r:Nat->Nat) (J:Nat) (s1:St):G (Nat×SO)->ah (G (Y×Y))
 |[]=>some []
 |(b,o)::rest=>match s1.aP.get (r b) with
  |some e=>if b<J then KE (mO r J s1 o e) (Zw r J s1 rest) else none
  |none=>none
def Yf (r:Nat->Nat):G (Nat×SO)->aK
 |[]=>true
 |(b,_)::rest=>rest.all (fun p=>!(r p.1==r b))&&Yf r rest
def JD (r:G (Nat×Nat)) (e:Nat) (dw:bV) (h:Tr H) (s1:St):ah (G (Y×Y)):=
 if r.all (fun p=>decide (e<=p.1))&&decide (e<=dw.J)&&Yf (Ic r) dw.aP then KE (Zx (Ic r) dw.J s1 h dw.tm) (Zw (Ic r) dw.J s1 dw.aP) else none
section
variable {E E0:Env} {X X0:Ctx} {P:bA} {base:Nat} {ρ σ:Mp} {s s1:St} {w w0:ak} {J:Nat} {r:Nat->Nat}
def uZ (E0 E:Env) (q:G (Y×Y)):Prop:=∀a b,(a,b)∈q->den E0.val a=den E.val b
def Rb {e:Type} {a b:ah (G e)} {q:G e} (h:KE a b=some q):∃x y,a=some x/\b=some y/\q=x++y:=by
 unfold KE at h;split at h
 ·simp only[aG] at h
  exact⟨_,_,rfl,rfl,h.symm⟩
 ·cases h
def uZ.left {x y:G (Y×Y)} (h:uZ E0 E (x++y)):uZ E0 E x:=fun a b e=>h a b (aiW _ e)
def uZ.right {x y:G (Y×Y)} (h:uZ E0 E (x++y)):uZ E0 E y:=fun a b e=>h a b (aiX _ e)
def Mp.FD (σ:Mp) (r:Nat->Nat) (J:Nat):Mp:=⟨fun b=>if b<J then σ (r b) else none,σ.fz⟩
def Mp.JN {σ:Mp} {l:Loc} (e:b<J) (h:σ (r b)=some l):(σ.FD r J) b=some l:=by
 show(if b<J then σ (r b) else none)=some l
 rw[bK e];exact h
def Mp.Uc {σ:Mp} {l:Loc} (h:(σ.FD r J) b=some l):b<J/\σ (r b)=some l:=by
 have h:(if b<J then σ (r b) else none)=some l:=h
 split at h
 ·exact⟨‹_›,h⟩
 ·cases h
mutual
def agR (U:HR E base σ s1 w):∀{v v1:H} {q:G (Y×Y)} {u:av},mA r J s1 v v1=some q->uZ E0 E q->VR E σ v1 u->VR E0 (σ.FD r J) v u
 |.S e,v1,q,u,h,he,hv=>by
  simp only[mA] at h;split at h
  ·rename_i e1 j
   simp only[aG] at h;subst h;obtain⟨d,A,F⟩:=au7 U hv j;exact⟨d,by rw[he e e1 jG];exact A,F⟩
  ·cases h
 |.bool a,v1,q,u,h,he,hv=>by
  exact aqp
 |.int k a,v1,q,u,h,he,hv=>by
  cases v1<;>simp only[mA] at h<;>first|(cases h;done)|(split at h<;>first|(cases h;done)|(rename_i hc;obtain⟨rfl,rfl⟩:=hc;exact hv))
 |.str a,v1,q,u,h,he,hv=>by
  exact aqp
 |.nilPtr,v1,q,u,h,he,hv=>by
  exact R3
 |.aV,v1,q,u,h,he,hv=>by
  exact R3
 |.tC,v1,q,u,h,he,hv=>by
  exact R3
 |.tu,v1,q,u,h,he,hv=>by
  exact R3
 |.nilIface,v1,q,u,h,he,hv=>by
  exact R3
 |.ptr b o,v1,q,u,h,he,hv=>by
  cases v1<;>simp only[mA] at h<;>first|(cases h;done)|skip
  split at h
  ·rename_i hc
   obtain⟨j,rfl,rfl⟩:=hc;obtain⟨l,A,F⟩:=hv;exact⟨l,Mp.JN j A,F⟩
  ·cases h
 |.map b,v1,q,u,h,he,hv=>by
  cases v1<;>simp only[mA] at h<;>first|(cases h;done)|skip
  split at h
  ·rename_i hc
   obtain⟨j,rfl⟩:=hc;obtain⟨l,A,F⟩:=hv;exact⟨l,Mp.JN j A,F⟩
  ·cases h
 |.slice b o n c z,v1,q,u,h,he,hv=>by
  cases v1<;>simp only[mA] at h<;>first|(cases h;done)|skip
  split at h
  ·rename_i hc
   obtain⟨j,rfl,rfl,rfl,A,F,rfl⟩:=hc;obtain⟨l,cap,P,y,T,b',c'⟩:=hv;exact⟨l,cap,Mp.JN j P,y,F,fF A b',c'⟩
  ·cases h
 |.gy b e z,v1,q,u,h,he,hv=>by
  cases v1 with
  |gy d' e' f'=>
   simp only[mA] at h;split at h
   ·rename_i hc
    obtain⟨j,rfl,rfl⟩:=hc;simp only[aG] at h;subst h;obtain⟨l,cap,rows,P,y,T⟩:=hv;exact⟨l,cap,rows,Mp.JN j P,by rw[he e e' jG];exact y,T⟩
   ·cases h
  |slice d' o n c f'=>
   cases o with
   |succ o=>simp[mA] at h
   |zero=>
    simp only[mA] at h;split at h
    ·rename_i hc
     obtain⟨j,rfl,rfl⟩:=hc;split at h
     ·rename_i vs k cs g' W
      split at h
      ·rename_i es a'
       split at h
       ·rename_i h'
        simp only[aG] at h;subst h;obtain⟨l,rows,cap,P,y⟩:=apu U hv g' W a';exact⟨l,cap,rows,Mp.JN j y.loc,by rw[he e _ jG];exact P,y.val,y.le.1,y.le.2.1,y.le.2.2⟩
       ·cases h
      ·cases h
     ·cases h
    ·cases h
  |_=>simp[mA] at h
 |.agg eY,v1,q,u,h,he,hv=>by
  exact aqC
 |.tuple eY,v1,q,u,h,he,hv=>by
  exact aqC
 |.rF,v1,q,u,h,he,hv=>by simp[mA] at h
 |.vT,v1,q,u,h,he,hv=>by simp[mA] at h
 |.fn ..,v1,q,u,h,he,hv=>by simp[mA] at h
 |.iface ..,v1,q,u,h,he,hv=>by simp[mA] at h
 |.wK,v1,q,u,h,he,hv=>by simp[mA] at h
 |.fp ..,v1,q,u,h,he,hv=>by simp[mA] at h
def ata (U:HR E base σ s1 w):∀{vs e:G H} {q:G (Y×Y)} {us:G av},Lj r J s1 vs e=some q->uZ E0 E q->fq E σ e us->fq E0 (σ.FD r J) vs us
 |[],e,q,us,h,j,l=>by
  cases e<;>simp only[Lj] at h<;>first|(cases h;done)|exact l
 |v::vs,e,q,us,h,j,l=>by
  cases e with
  |nil=>simp[Lj] at h
  |cons v1 e=>
   simp only[Lj] at h;obtain⟨x,y,F,P,rfl⟩:=Rb h;obtain⟨u,A,rfl,T,W⟩:=l;exact⟨u,A,rfl,agR U F j.left T,ata U P j.right W⟩
end
def atb (U:HR E base σ s1 w) {vs:Tr H}:∀{L:G H} {j:Nat} {q:G (Y×Y)},Zv r J s1 vs j L=some q->uZ E0 E q->∀(i:Nat) (x:H),L[i]?=some x->∃e,vs.get (j+i)=some e/\∀u,VR E σ e u->VR E0 (σ.FD r J) x u
 |[],j,q,h,l,i,x,J=>by simp at J
 |a::eY,j,q,h,l,i,x,A=>by
  simp only[Zv] at h;split at h
  ·rename_i v F
   obtain⟨p,y,P,T,rfl⟩:=Rb h;cases i with
   |zero=>simp at A;subst A;exact⟨v,F,fun u W=>agR U P l.left W⟩
   |succ i=>
    obtain⟨e,a',b'⟩:=atb U T l.right i x (by simpa using A)
    exact⟨e,by rw[<-a'];congr 1;omega,b'⟩
  ·cases h
def aGi (U:HR E base σ s1 w) {o:SO} {F:AO} {q:G (Y×Y)} {l:Loc} (h:mO r J s1 o F=some q) (d':uZ E0 E q) (N:OR E base σ w l F):OR E0 base (σ.FD r J) w l (LK o)/\((LK o).wr->F.wr):=by
 cases o with
 |cells ro L=>
  cases F with
  |cells y' vs n=>
   simp only[mO] at h;split at h
   ·rename_i hc
    obtain⟨rfl,hn⟩:=hc;obtain⟨arr,T,fr,P,W,e',f',g'⟩:=N;refine⟨⟨arr,T,fr,P,W,by omega,fun j x A=>?_,g'⟩,id⟩
    rcases Cc A with⟨_,y⟩|⟨_,y⟩
    ·rw[Cn] at y
     obtain⟨m',a',b'⟩:=atb U h d' j x y;rw[jW] at a';obtain⟨_,v,h',i'⟩:=f' j m' a';exact⟨(gN.1 y).1,v,h',b' v i'⟩
    ·rw[Tr.o9] at y;cases y
   ·cases h
  |_=>simp[mO] at h
 |seq z e=>
  cases F with
  |seq z' n'=>
   simp only[mO] at h;split at h
   ·rename_i j'
    subst j';simp only[aG] at h;subst h;obtain⟨o',arr,T,rows,P,W,e'⟩:=N;exact⟨⟨o',arr,T,rows,P,by rw[d' e n' jG];exact W,e'⟩,fun _=>True.intro⟩
   ·cases h
  |cells ro vs k=>
   cases ro with
   |true=>simp[mO] at h
   |false=>
    simp only[mO] at h;split at h
    ·rename_i j'
     split at h
     ·rename_i cs jY
      split at h
      ·rename_i es k'
       simp only[aG] at h;subst h;obtain⟨arr,T,fr,P,W,e',f',g'⟩:=N;obtain⟨c',rfl⟩:=g' rfl;obtain⟨y,a'⟩:=Lx jY;obtain⟨us,b',h'⟩:=fq.TA (E:=E) (ρ:=σ) (eY:=cs) (fun j=>arr[l.d+j]?) (fun j x A=>by
        obtain⟨_,v,l',U⟩:=f' (0+j) x (a' j x A);exact⟨v,by rw[jW] at l';exact l',U⟩)
       obtain⟨ds,p',A',q'⟩:=aaN k' b';have r':=b'.length;obtain⟨rows,s',t',u',v'⟩:=Tk (E:=E) (z:=z) (k/z) p' I (acc:=.d9) (FH:=[]) rfl;refine⟨⟨c',arr,T,rows,P,by rw[d' e _ jG];simpa using s',W rfl,by rw[u'];omega,iV.of v' (mR.of fun j c A=>?_)⟩,fun _=>rfl⟩
       rw[t'] at A;obtain⟨u,w',x'⟩:=q' j c A;exact⟨u,h' j u w',x'⟩
      ·cases h
     ·cases h
    ·cases h
  |_=>simp[mO] at h
def asr:∀{L:G (Nat×SO)} {b:Nat} {o:AO},(hOf L).get b=some o->∃e,(b,e)∈L/\o=LK e
 |[],b,o,h=>by have:(Tr.leaf:Tr AO).get b=some o:=h;rw[Tr.o9] at this;cases this
 |(w,e)::r,b,o,h=>by
  rcases Tr.jc h with⟨rfl,rfl⟩|⟨_,l⟩
  ·exact⟨e,jG,rfl⟩
  ·obtain⟨j,q,u⟩:=asr l
   exact⟨j,gF _ q,u⟩
def awn:∀{L:G (Nat×H)} {t:Nat} {x:H},(FK L).get t=some x->(t,x)∈L
 |[],t,x,h=>by have:(Tr.leaf:Tr H).get t=some x:=h;rw[Tr.o9] at this;cases this
 |(j,v)::r,t,x,h=>by
  rcases Tr.jc h with⟨rfl,rfl⟩|⟨_,e⟩
  ·exact jG
  ·exact gF _ (awn e)
def atd (U:HR E base σ s1 w) {j:Tr H}:∀{L:G (Nat×H)} {q:G (Y×Y)},Zx r J s1 j L=some q->uZ E0 E q->∀t x,(t,x)∈L->∃A,j.get t=some A/\∀u,VR E σ A u->VR E0 (σ.FD r J) x u
 |[],q,h,l,t,x,e=>by cases e
 |(a',v)::rest,q,h,l,t,x,e=>by
  simp only[Zx] at h;split at h
  ·rename_i v1 F
   obtain⟨p,y,P,T,rfl⟩:=Rb h;rcases g_.1 e with e|e
   ·simp only[eG] at e
    obtain⟨rfl,rfl⟩:=e;exact⟨v1,F,fun u W=>agR U P l.left W⟩
   ·exact atd U T l.right t x e
  ·cases h
def atc (U:HR E base σ s1 w):∀{L:G (Nat×SO)} {q:G (Y×Y)},Zw r J s1 L=some q->uZ E0 E q->∀b o,(b,o)∈L->b<J/\∃j l,s1.aP.get (r b)=some j/\σ (r b)=some l/\OR E0 base (σ.FD r J) w l (LK o)/\((LK o).wr->j.wr)
 |[],q,h,u,b,o,e=>by cases e
 |(a',o')::rest,q,h,u,b,o,e=>by
  simp only[Zw] at h;split at h
  ·rename_i j N
   split at h
   ·rename_i A
    obtain⟨p,y,F,P,rfl⟩:=Rb h;rcases g_.1 e with e|e
    ·simp only[eG] at e
     obtain⟨rfl,rfl⟩:=e;obtain⟨l,T,W⟩:=U.pK _ _ N;exact⟨A,j,l,N,T,aGi U F u.left W⟩
    ·exact atc U P u.right b o e
   ·cases h
  ·cases h
def apm:∀{L:G (Nat×SO)} {b j:Nat} {o o':SO},Yf r L=true->(b,o)∈L->(j,o')∈L->b≠j->r b≠r j
 |[],_,_,_,_,_,h,_,_=>by cases h
 |(x,q)::rest,b,j,o,o',l,h,e,hn=>by
  simp only[Yf,bU,Ch,Im,zH] at l;rcases g_.1 h with h|h<;>rcases g_.1 e with e|e
  ·simp only[eG] at h e
   exact absurd (h.1.trans e.1.symm) hn
  ·simp only[eG] at h
   rw[h.1];exact nJ (l.1 _ e)
  ·simp only[eG] at e
   rw[e.1];exact l.1 _ h
  ·exact apm l.2 h e hn
def ahU {L:G (Nat×Nat)} (h:L.all (fun p=>decide (g<=p.1))=true) (j:b<g):Ic L b=b:=by
 induction L with
 |nil=>rfl
 |cons p r e=>
  simp only[Ip,bU,iL] at h;simp only[Ic];rw[bB I];exact e h.2
def agT {nt:Nat} {f':Mp} {a':St} {m':G (Nat×Nat)} {dw:bV} {q':Tr H} {q:G (Y×Y)} {a:Act} (n':JD m' a'.J dw q' s1=some q) (u':uZ E0 E q) (T':iX E0 X0) (W':E0.kE=E.kE)
 (X':∀b,a'.J<=b->f' b=none) (r0:P.globals.size<=a'.J) (h:At E X P base i σ nt q' s1 a w) (t:fA f' a' w0 σ s1 w) (s0:a'.nx=a'.J):
 At E0 X0 P base i (σ.FD (Ic m') dw.J) nt (FK dw.tm) dw.st a w/\fA f' a' w0 (σ.FD (Ic m') dw.J) dw.st w:=by
 have h':=X';unfold JD at n';split at n'
 rotate_left
 ·cases n'
 rename_i hc;simp only[bU,iL] at hc;obtain⟨⟨e',r'⟩,p'⟩:=hc;obtain⟨x,y,a0,b0,rfl⟩:=Rb n';have e0:=atd (E0:=E0) h.U a0 u'.left;have g':=atc (E0:=E0) h.U b0 u'.right;have u:∀b o,dw.st.aP.get b=some o->∃A,(b,A)∈dw.aP/\o=LK A:=fun b o e=>asr e;refine⟨⟨⟨⟨fun g f0=>?_,fun g d t'=>h.yB.base.kE g d (by rw[<-W'];exact t')⟩,T'⟩,⟨fun b o e=>?_,fun b v' o o' l l' e w' hn i' j j'=>?_,⟨bB (Ck _),fun b e=>bB (by have:dw.J<=b:=e;omega)⟩,h.U.base,h.U.nM,fun b o l e i' j=>?_⟩,⟨fun x' g0 h0=>?_⟩,h.size,⟨fun d t'=>?_,h.marks.apart⟩,h.low⟩,
  ⟨⟨fun b l e=>?_,t.ext.fz⟩,⟨r',.inr r'⟩,t.os,t.tape,t.output,t.size,t.block,fun b o l e j=>?_,fun b e y'=>?_,t.wD⟩⟩
 ·obtain⟨m,i0⟩:=h.yB.base.nG g f0
  exact⟨m,Mp.JN I (by rw[ahU e' I];exact i0)⟩
 ·obtain⟨A,F,rfl⟩:=u b o e
  obtain⟨b',c',l,T,d',W,_⟩:=g' b A F;exact⟨l,Mp.JN b' d',W⟩
 ·obtain⟨A,F,rfl⟩:=u b o e
  obtain⟨z',s',rfl⟩:=u v' o' w';obtain⟨b',c',A',T,d',_,W⟩:=g' b A F;obtain⟨t0,D',u0,E',v0,_,x0⟩:=g' v' z' s';obtain⟨_,j⟩:=Mp.Uc j;obtain⟨_,j'⟩:=Mp.Uc j';exact h.U.apart _ _ c' D' l l' T E' (apm p' F s' hn) (W i') j j'
 ·obtain⟨A,F,rfl⟩:=u b o e
  obtain⟨b',c',A',T,d',_,W⟩:=g' b A F;obtain⟨_,j⟩:=Mp.Uc j;exact h.U.oC _ c' l T (W i') j
 ·obtain⟨j0,F,b'⟩:=e0 x' g0 (awn h0)
  obtain⟨v,T,d'⟩:=h.fr.get x' j0 F;exact⟨v,T,b' v d'⟩
 ·obtain⟨D,F,b',T,F',d'⟩:=h.marks.one d t'
  refine⟨D,F,b',T,F',fun b o l e j=>?_⟩;obtain⟨A,W,rfl⟩:=u b o e;obtain⟨_,c',_,k',_⟩:=g' b A W;obtain⟨_,j⟩:=Mp.Uc j;exact d' _ c' l k' j
 ·have L':b<a'.J:=Nat.lt_of_not_le fun hle=>by rw[h' b hle] at e;cases e
  exact Mp.JN I (by rw[ahU e' L'];exact t.ext _ _ e)
 ·obtain⟨A,F,rfl⟩:=u b o e
  obtain⟨b',c',A',T,d',_,W⟩:=g' b A F;obtain⟨_,j⟩:=Mp.Uc j;rcases t.from_ _ c' l T j with k'|⟨k0,l0,m0,k',o0,M',P'⟩
  ·exact .inl k'
  ·exact .inr ⟨k0,l0,m0,k',o0,M',fun i'=>P' (W i')⟩
 ·show(if b<dw.J then σ (Ic m' b) else none)=f' b
  rw[bK I,ahU e' e];exact t.qR b e y'
end
def dO:iB->G iB
 |.seq a b=>.seq a b::(dO a++dO b)
 |.cond x a b=>.cond x a b::(dO a++dO b)
 |.block id b=>.block id b::dO b
 |.loop b=>.loop b::dO b
 |.scope b=>.scope b::dO b
 |c=>[c]
def aaH (c:iB):c∈dO c:=by
 cases c<;>simp[dO]
def D_:∀{c a b:iB},a∈dO c->b∈dO a->b∈dO c
 |.seq x y,a,b,h,k=>by
  exact arA
 |.cond e x y,a,b,h,k=>by
  exact arA
 |.block id x,a,b,h,k=>by
  exact af7
 |.loop x,a,b,h,k=>by
  exact af7
 |.scope x,a,b,h,k=>by
  exact af7
 |.skip,a,b,h,k=>by simp only[dO,g_,Ef,FV] at h;subst h;exact k
 |.region ..,a,b,h,k=>by simp only[dO,g_,Ef,FV] at h;subst h;exact k
 |.rangeFunc ..,a,b,h,k=>by simp only[dO,g_,Ef,FV] at h;subst h;exact k
 |.exit _,a,b,h,k=>by simp only[dO,g_,Ef,FV] at h;subst h;exact k
 |.label _,a,b,h,k=>by simp only[dO,g_,Ef,FV] at h;subst h;exact k
 |.goto _,a,b,h,k=>by simp only[dO,g_,Ef,FV] at h;subst h;exact k
 |.ret,a,b,h,k=>by simp only[dO,g_,Ef,FV] at h;subst h;exact k
 |.refuse _,a,b,h,k=>by simp only[dO,g_,Ef,FV] at h;subst h;exact k
def t_.dO (c:iB):t_ (fun a=>a∈dO c):=
 ⟨fun h=>⟨D_ h KW,D_ h KW⟩,fun h=>⟨D_ h KW,D_ h KW⟩,
  fun h=>D_ h KW,fun h=>D_ h KW,fun h=>D_ h KW⟩
def qK:iB->G Nat
 |.seq a b=>qK a++qK b
 |.cond _ a b=>qK a++qK b
 |.block id b=>id::qK b
 |.loop b=>qK b
 |.scope b=>qK b
 |_=>[]
def iW (id:Nat):iB->ah iB
 |.seq a b=>match iW id a with
  |some c=>some c
  |none=>iW id b
 |.cond _ a b=>match iW id a with
  |some c=>some c
  |none=>iW id b
 |.block e b=>if e=id then some b else iW id b
 |.loop b=>iW id b
 |.scope b=>iW id b
 |_=>none
def Rh {id:Nat}:∀{c:iB},iW id c=none->∀{b},.block id b∈dO c->False
 |.seq x y,h,b,hb=>by
  exact aq9
 |.cond e x y,h,b,hb=>by
  exact aq9
 |.block l x,h,b,hb=>by
  simp only[iW] at h;split at h
  ·cases h
  ·rename_i j
   simp only[dO,g_] at hb;rcases hb with hb|hb
   ·simp only[aaY] at hb;exact j hb.1.symm
   ·exact Rh h hb
 |.loop x,h,b,hb=>by
  exact aq0
 |.scope x,h,b,hb=>by
  exact aq0
 |.skip,_,b,hb=>by simp[dO] at hb
 |.region ..,_,b,hb=>by simp[dO] at hb
 |.rangeFunc ..,_,b,hb=>by simp[dO] at hb
 |.exit _,_,b,hb=>by simp[dO] at hb
 |.label _,_,b,hb=>by simp[dO] at hb
 |.goto _,_,b,hb=>by simp[dO] at hb
 |.ret,_,b,hb=>by simp[dO] at hb
 |.refuse _,_,b,hb=>by simp[dO] at hb
def OM:∀{c:iB} {id:Nat} {b:iB},.block id b∈dO c->id∈qK c
 |.seq x y,id,b,hb=>by
  exact aq1
 |.cond e x y,id,b,hb=>by
  exact aq1
 |.block h x,id,b,hb=>by
  simp only[dO,g_] at hb;simp only[qK,g_];rcases hb with hb|hb
  ·simp only[aaY] at hb;exact .inl hb.1
  ·exact .inr (OM hb)
 |.loop x,id,b,hb=>by
  exact apV
 |.scope x,id,b,hb=>by
  exact apV
 |.skip,_,b,hb=>by simp[dO] at hb
 |.region ..,_,b,hb=>by simp[dO] at hb
 |.rangeFunc ..,_,b,hb=>by simp[dO] at hb
 |.exit _,_,b,hb=>by simp[dO] at hb
 |.label _,_,b,hb=>by simp[dO] at hb
 |.goto _,_,b,hb=>by simp[dO] at hb
 |.ret,_,b,hb=>by simp[dO] at hb
 |.refuse _,_,b,hb=>by simp[dO] at hb
def Ns {id:Nat}:∀{c b:iB},iW id c=some b->id∈qK c
 |.seq x y,b,h=>by
  exact arB
 |.cond e x y,b,h=>by
  exact arB
 |.block j x,b,h=>by
  simp only[iW] at h;simp only[qK,g_];split at h
  ·rename_i hc;exact .inl hc.symm
  ·exact .inr (Ns h)
 |.loop x,b,h=>Ns (c:=x) h
 |.scope x,b,h=>Ns (c:=x) h
 |.skip,_,h=>by simp[iW] at h
 |.region ..,_,h=>by simp[iW] at h
 |.rangeFunc ..,_,h=>by simp[iW] at h
 |.exit _,_,h=>by simp[iW] at h
 |.label _,_,h=>by simp[iW] at h
 |.goto _,_,h=>by simp[iW] at h
 |.ret,_,h=>by simp[iW] at h
 |.refuse _,_,h=>by simp[iW] at h
def Ri {id:Nat}:∀{c b j:iB},(qK c).count id<=1->iW id c=some b->.block id j∈dO c->j=b
 |.seq x y,b,j,hn,h,hb=>by
  exact aqN
 |.cond e x y,b,j,hn,h,hb=>by
  exact aqN
 |.block l x,b,j,hn,h,hb=>by
  simp only[qK] at hn;simp only[iW] at h;simp only[dO,g_] at hb;split at h
  ·rename_i hc
   subst hc;obtain rfl:=bI h;rcases hb with hb|hb
   ·simp only[aaY] at hb;exact hb.2
   ·have:=aiQ.2 (OM hb)
    simp only[List.count_cons_self] at hn;omega
  ·rename_i hc
   rcases hb with hb|hb
   ·simp only[aaY] at hb;exact absurd hb.1.symm hc
   ·exact Ri (fF List.count_le_count_cons hn) h hb
 |.loop x,b,j,hn,h,hb=>by
  exact aqH
 |.scope x,b,j,hn,h,hb=>by
  exact aqH
 |.skip,_,_,_,h,_=>by simp[iW] at h
 |.region ..,_,_,_,h,_=>by simp[iW] at h
 |.rangeFunc ..,_,_,_,h,_=>by simp[iW] at h
 |.exit _,_,_,_,h,_=>by simp[iW] at h
 |.label _,_,_,_,h,_=>by simp[iW] at h
 |.goto _,_,_,_,h,_=>by simp[iW] at h
 |.ret,_,_,_,h,_=>by simp[iW] at h
 |.refuse _,_,_,_,h,_=>by simp[iW] at h
def Nt {id:Nat}:∀{c b:iB},iW id c=some b->.block id b∈dO c
 |.seq x y,b,h=>by
  exact aqs
 |.cond e x y,b,h=>by
  exact aqs
 |.block j x,b,h=>by
  simp only[iW] at h;simp only[dO,g_];split at h
  ·rename_i hc;subst hc;obtain rfl:=bI h;exact .inl rfl
  ·exact .inr (Nt h)
 |.loop x,b,h=>by
  simp only[dO,g_];exact .inr (Nt (c:=x) h)
 |.scope x,b,h=>by
  simp only[dO,g_];exact .inr (Nt (c:=x) h)
 |.skip,_,h=>by simp[iW] at h
 |.region ..,_,h=>by simp[iW] at h
 |.rangeFunc ..,_,h=>by simp[iW] at h
 |.exit _,_,h=>by simp[iW] at h
 |.label _,_,h=>by simp[iW] at h
 |.goto _,_,h=>by simp[iW] at h
 |.ret,_,h=>by simp[iW] at h
 |.refuse _,_,h=>by simp[iW] at h
def aCi {id:Nat} {c b:iB} (h:iW id c=some (.loop b)):b∈dO c:=
 D_ (Nt h) (by simp[dO,aaH])
def Td:ah iB->iB
 |some (.loop b)=>b
 |_=>.skip
section
variable {E E0:Env} {X X0:Ctx} {P:bA} {base lo nt:Nat} {Ce:Mp} {sB:St} {w0:ak} {lib:Lib} {dK:iB->Prop} {n:Nat}
def x9 (E:Env) (X:Ctx) (P:bA) (base lo nt:Nat) (Ce:Mp) (sB:St) (w0:ak) (dw:bV) (a:Act) (w:ak):Prop:=
 ∃ρ,At E X P base lo ρ nt (FK dw.tm) dw.st a w/\fA Ce sB w0 ρ dw.st w
def aGs {a:Act} {dw:bV} {tm:Tr H} {q:G (Y×Y)} (e:P.globals.size<=sB.J) (j:sB.nx=sB.J) (h:At E X P base lo Ce nt tm sB a w0) (l:JD [] sB.J dw tm sB=some q) (u:uZ E0 E q) (w:iX E0 X0) (y:E0.kE=E.kE):
 x9 E0 X0 P base lo nt Ce sB w0 dw a w0:=
 ⟨_,agT l u w y h.U.fresh.2 e h (fA.refl h.U) j⟩
def agS (r:G (Nat×Nat)) (e:Nat) (dw:bV):ah gV->ah (AX×G (Y×Y))
 |some (.code x h j)=>match JD r e dw h j with
  |some q=>some (x,q)
  |none=>none
 |_=>none
def aGr (F:P.follows .mixedOrders=true) (T:iX E X) (W:t_ dK) (a':Cu E X P dK lib) (b':∀b,sB.J<=b->Ce b=none) (j:P.globals.size<=sB.J) (l:sB.nx=sB.J) {c:iB} (u:dK c) {dw S':bV} {c':G (Nat×Nat)} {x:AX} {q:G (Y×Y)}
 (h:agS c' sB.J S' (rG X P lib n (.code c nt (FK dw.tm) dw.st))=some (x,q)) (d':uZ E0 E q) (y:iX E0 X0) (e':E0.kE=E.kE) {a:Act} (f':x9 E X P base lo nt Ce sB w0 dw a w):
 c.wp P (fun e A w'=>e=x.out/\x9 E0 X0 P base lo nt Ce sB w0 S' A w') a w:=by
 unfold agS at h;split at h
 ·rename_i n' m' o' g'
  split at h
  ·rename_i q1 h'
   simp only[aG,eG] at h;obtain⟨rfl,rfl⟩:=h;obtain⟨ρ,i',j'⟩:=f';refine xV (aDD F T W a' u g' base lo ρ a w i').wp ?_;rintro e A w' ⟨rfl,p',k',l'⟩;exact⟨rfl,_,agT h' d' y e' b' j k' (j'.trans l') l⟩
  ·cases h
 ·cases h
def atl (u:∀b,sB.J<=b->Ce b=none) (e:P.globals.size<=sB.J) (j:sB.nx=sB.J) {dw S':bV} {y:G (Nat×Nat)} {q:G (Y×Y)} (h:JD y sB.J S' (FK dw.tm) dw.st=some q) (A:uZ E0 E q) (l:iX E0 X0) (F:E0.kE=E.kE) {a:Act}
 (T:x9 E X P base lo nt Ce sB w0 dw a w):x9 E0 X0 P base lo nt Ce sB w0 S' a w:=
 let ⟨_,W,a'⟩:=T
 ⟨_,agT h A l F u e W a' j⟩
structure BE where
 id:Nat
 J:Nat
 dw:bV
 x:AX
 S':bV
end
section
variable {E:Env} {X:Ctx}
section
variable {P:bA} {base:Nat} {ρ σ:Mp} {s s':St} {w w':ak}
def Cw (T:Nat->ah D) (P:bA) (f:ig) (V:G DA) (pre post:G D) (q:DA):Prop:=
 ∀E:Env,E.kE=T->∀base ρ s w us b l vs,zK E P ρ->HR E base ρ s w->s.aP.get b=some (.cells false vs pre.length)->ρ b=some l->(∀(j:Nat) (d:D),pre[j]?=some d->∃u,w.cell? ⟨l.g,l.d+j,none⟩=some u/\DR ρ.fz d u)->vW ρ.fz V us->
  Calls P f (List.toArray (.pointer (some ⟨l.g,l.d,none⟩)::us)) w (fun e w'=>∃u σ,e=.returned u/\uY σ.fz q u/\σ.at_=ρ.at_/\∀h es,jv h=some es->cZ E.val es=some post->
   HR E base σ ⟨s.aP.set b (.cells false (nN .leaf 0 h) pre.length),s.nx,s.J⟩ w'/\fA ρ s w σ ⟨s.aP.set b (.cells false (nN .leaf 0 h) pre.length),s.nx,s.J⟩ w')
def sP (P:bA) (cells:G H):St:=⟨Tr.set P.globals.size (.cells false (nN .leaf 0 cells) cells.length) .leaf,P.globals.size+1,P.globals.size+1⟩
def Mp.Gh (P:bA) (ρ:Mp) (l:Loc):Mp:=⟨fun b=>if b<P.globals.size then ρ b else if b=P.globals.size then some l else none,ρ.fz⟩
def BU {cells:G H} {o:AO} (h:(sP P cells).aP.get b=some o):b=P.globals.size/\o=.cells false (nN .leaf 0 cells) cells.length:=by
 have h:(Tr.set P.globals.size (.cells false (nN .leaf 0 cells) cells.length) (.leaf:Tr AO)).get b=some o:=h;rcases Tr.jc h with⟨j,e⟩|⟨_,e⟩
 ·exact⟨j,e⟩
 ·rw[Tr.o9] at e;cases e
def I_ {l:Loc}:(ρ.Gh P l) P.globals.size=some l:=by
 show(if P.globals.size<P.globals.size then ρ P.globals.size else if P.globals.size=P.globals.size then some l else none)=some l
 rw[bB (Ck _),bK rfl]
def aoF {E0:Env} {l:Loc} (h:zK E P ρ) (j:E0.kE=E.kE):zK E0 P (ρ.Gh P l):=
 ⟨fun g e=>let ⟨m,q⟩:=h.nG g e;⟨m,by show(if g<P.globals.size then ρ g else _)=_;rw[bK e];exact q⟩,fun g d u=>h.kE g d (by rw[<-j];exact u)⟩
def aoG {E0:Env} {l:Loc} {vs:Tr H} {cells:G H} {es:G Y} (h:HR E base ρ s w) (e':s.aP.get b=some (.cells false vs p.length)) (f':ρ b=some l) (g':jv cells=some es) (o':cZ E0.val es=some p) (hn:cells.length=p.length)
 (hc:∀(j:Nat) (d:D),p[j]?=some d->∃u,w.cell? ⟨l.g,l.d+j,none⟩=some u/\DR ρ.fz d u):HR E0 base (ρ.Gh P l) (sP P cells) w:=by
 have h':ρ.fz l.g=none:=h.oC b _ l e' rfl f';refine⟨fun y o e=>?_,fun w' x' y' z' A' D' i' j' k'=>?_,⟨?_,fun y e=>?_⟩,h.base,h.nM,fun y o l' e _ a'=>?_⟩
 ·obtain⟨rfl,rfl⟩:=BU e
  obtain⟨arr,T,fr,d',p',q',E',r'⟩:=h.at e' f';refine⟨l,I_,arr,T,fr,d',p',by rw[hn];exact q',fun j x hj=>?_,r'⟩
  rcases Cc hj with⟨_,A⟩|⟨_,A⟩
  ·rw[Cn] at A
   have m':=(gN.1 A).1;have n':fq E0 (ρ.Gh P l) cells ((List.range p.length).map fun j=>(arr[l.d+j]?).getD undef):=by
    refine(JU (ρ:=ρ.Gh P l) g' o').2 ?_;have key:∀(ds:G D) (k:Nat),(∀(j:Nat) (d:D),ds[j]?=some d->∃u,arr[l.d+k+j]?=some u/\DR ρ.fz d u)->kH ρ.fz ds ((List.range' k ds.length).map fun j=>(arr[l.d+j]?).getD undef):=by
     intro ds
     induction ds with
     |nil=>intro k _;rfl
     |cons d ds s'=>
      intro k b';obtain⟨u,q,F⟩:=b' 0 d rfl;rw[qy] at q;refine⟨u,_,?_,F,s' (k+1) fun j t' hj=>?_⟩
      ·simp[aa6,q]
      ·obtain⟨u',W,v'⟩:=b' (j+1) t' yx
       exact⟨u',by rw[<-W];congr 1;omega,v'⟩
    have:=key p 0 fun j d hj=>by
     obtain⟨u,q,F⟩:=hc j d hj;rw[gX w _ _ _ _ _ d'] at q;exact⟨u,by rw[qy];exact q,F⟩
    rw[aw4];exact this
   obtain⟨v,q,F⟩:=n'.get A;have c':j<p.length:=I;obtain⟨u,W,_⟩:=hc j _ (gM c');rw[gX w _ _ _ _ _ d'] at W;rw[AQ,aw0 c'] at q;simp only[Co,W,Option.getD_some,aG] at q;subst q;exact⟨m',u,W,F⟩
  ·rw[Tr.o9] at A;cases A
 ·obtain⟨rfl,_⟩:=BU i'
  obtain⟨rfl,_⟩:=BU j';exact absurd rfl k'
 ·show(if P.globals.size+1<P.globals.size then ρ (P.globals.size+1) else if P.globals.size+1=P.globals.size then some l else none)=none
  rw[bB I,bB I]
 ·have e:P.globals.size+1<=y:=e
  show(if y<P.globals.size then ρ y else if y=P.globals.size then some l else none)=none
  rw[bB I,bB I]
 ·obtain⟨rfl,_⟩:=BU e
  rw[I_] at a';obtain rfl:=bI a';exact h'
def HR.aBk {E0:Env} {l:Loc} {vs q':Tr H} {cells W:G H} {n:Nat} {A:Mp} {D':St} {r':G Y} (h:HR E base ρ s w) (f':s.aP.get b=some (.cells false vs n)) (n':ρ b=some l)
 (c':fA (ρ.Gh P l) (sP P cells) w A D' w') (U:HR E0 base A D' w') (s':D'.aP.get P.globals.size=some (.cells false q' n)) (t':BQ q' 0 n=some W) (g':jv W=some r') (u':cZ E0.val r'=some p) {e':G H} {es:G Y} (W':jv e'=some es) (o0:cZ E.val es=some p):
 HR E base ⟨ρ.at_,A.fz⟩ ⟨s.aP.set b (.cells false (nN .leaf 0 e') n),s.nx,s.J⟩ w'/\fA ρ s w ⟨ρ.at_,A.fz⟩ ⟨s.aP.set b (.cells false (nN .leaf 0 e') n),s.nx,s.J⟩ w':=by
 have v':A P.globals.size=some l:=c'.ext _ _ I_;have h':∀g,g<w.heap.size->g≠l.g->w'.heap[g]?=w.heap[g]?:=fun g a' Zg=>c'.block g a' fun u o l' Fy _ uL=>by
  exact aqZ
 have X':Ext ρ ⟨ρ.at_,A.fz⟩:=⟨fun _ _ h=>h,c'.ext.fz⟩;have x':∀g o,A.fz g=some o->ρ.fz g=some o\/w.heap.size<=g\/g=l.g:=fun g o a'=>by
  rcases c'.wD g o a' with y|y|⟨u,o',l',y,_,q,b'⟩
  ·exact .inl y
  ·exact .inr (.inl y)
  ·obtain⟨rfl,_⟩:=BU y
   rw[I_] at q;obtain rfl:=bI q;exact .inr (.inr b'.symm)
 have i':∀u o l',s.aP.get u=some o->ρ u=some l'->u≠b->l'.g≠l.g:=fun u o l' Fy uL hn e=>h.apart b u _ o l l' f' Fy (nJ hn) rfl n' uL e.symm;have y':A.fz l.g=none:=U.oC _ _ l s' rfl v';have p':W.length=n:=(Lx t').1;have L0:p.length=n:=by
  have:∀(vs:G H) (es:G Y),jv vs=some es->es.length=vs.length:=by
   intro vs
   induction vs with
   |nil=>intro es h;simp[jv] at h;subst h;rfl
   |cons v vs E'=>
    intro es h;simp only[jv] at h;split at h
    ·rename_i e M0 _ q;simp only[aG] at h;subst h;simp[E' _ q]
    ·cases h
  have q:∀{F:Nat->D} (es:G Y) (ds:G D),cZ F es=some ds->ds.length=es.length:=by
   intro F es
   induction es with
   |nil=>intro ds h;simp[cZ] at h;subst h;rfl
   |cons e es E'=>
    intro ds h;simp only[cZ] at h;obtain⟨d,_,d'⟩:=kW.1 h;obtain⟨P0,r0,a0⟩:=kW.1 d';simp only[aG] at a0;subst a0;simp[E' _ r0]
  rw[q _ _ u',this _ _ g',p']
 refine⟨⟨fun u o Fy=>?_,fun F' L' b0 e0 M' P' f0 z' hn A' j' k'=>?_,h.fresh,fF h.base c'.size,U.nM,fun u o l' Fy s0 uL=>?_⟩,⟨X',⟨bq _,.inl rfl⟩,c'.os,c'.tape,c'.output,c'.size,fun g a' g0=>h' g a' fun e=>g0 b _ l f' rfl n' e.symm,fun u o l' Fy uL=>?_,fun _ _ _=>rfl,fun g o a'=>?_⟩⟩
 ·rcases Tr.jc Fy with⟨rfl,rfl⟩|⟨y,q⟩
  ·obtain⟨arr,T,fr,t0,u0,v0,w0,x0⟩:=U.at s' v'
   refine⟨l,n',arr,T,fr,t0,u0,v0,fun j x T'=>?_,x0⟩;rcases Cc T' with⟨_,m'⟩|⟨_,m'⟩
   ·rw[Cn] at m'
    obtain⟨us,A0,D0⟩:=fq.TA (E:=E0) (ρ:=A) (eY:=W) (fun j=>arr[l.d+j]?) (fun j x T'=>by
     obtain⟨_,v,h0,i0⟩:=w0 (0+j) x ((Lx t').2 j x T');exact⟨v,by rw[jW] at h0;exact h0,i0⟩)
    have j0:=(JU (ρ:=A) g' u').1 A0;have k0:fq E ⟨ρ.at_,A.fz⟩ e' us:=(JU (ρ:=⟨ρ.at_,A.fz⟩) W' o0).2 j0;obtain⟨v,l0,F0⟩:=k0.get m';have T0:=k0.length;have m0:j<n:=by
     have W0:=(gN.1 l0).1;have X0:=j0.length;omega
    exact⟨m0,v,D0 j v l0,F0⟩
   ·rw[Tr.o9] at m';cases m'
  ·obtain⟨l',b',d'⟩:=h.pK u o q
   exact⟨l',b',d'.mono X' (h' _ d'.lt (i' u o l' q b' y))⟩
 ·rcases Tr.jc f0 with⟨rfl,rfl⟩|⟨y,q⟩
  ·rcases Tr.jc z' with⟨rfl,rfl⟩|⟨b',d'⟩
   ·exact absurd rfl hn
   ·exact h.apart F' L' _ e0 M' P' f' d' hn rfl j' k'
  ·rcases Tr.jc z' with⟨rfl,rfl⟩|⟨b',d'⟩
   ·exact h.apart F' L' b0 _ M' P' q f' hn A' j' k'
   ·exact h.apart F' L' b0 e0 M' P' q d' hn A' j' k'
 ·show A.fz l'.g=none
  rcases Tr.jc Fy with⟨rfl,rfl⟩|⟨y,q⟩
  ·have uL:ρ u=some l':=uL
   rw[n'] at uL;obtain rfl:=bI uL;exact y'
  ·cases hf:A.fz l'.g with
   |none=>rfl
   |some a1=>
    rcases x' _ _ hf with b'|b'|b'
    ·have:=h.oC u o l' q s0 uL;rw[b'] at this;cases this
    ·have:=h.uO q uL;omega
    ·exact absurd b' (i' u o l' q uL y)
 ·rcases Tr.jc Fy with⟨rfl,rfl⟩|⟨y,q⟩
  ·exact .inr ⟨u,_,l',f',uL,rfl,fun _=>rfl⟩
  ·exact .inr ⟨u,o,l',q,uL,rfl,id⟩
 ·rcases x' g o a' with y|y|y
  ·exact .inl y
  ·exact .inr (.inl y)
  ·rw[y] at a'
   have a':A.fz l.g=some o:=a';rw[y'] at a';cases a'
variable {lib:Lib} {dK:iB->Prop} {n:Nat}
def agk (P:bA):ah gV->ah (H×G H)
 |some (.call v s)=>match YV s v with
  |some (x,e)=>match e.aP.get P.globals.size with
   |some (.cells false vs k)=>match BQ vs 0 k with
    |some cs=>some (x,cs)
    |none=>none
   |_=>none
  |none=>none
 |_=>none
end
end
mutual
def gq (n:Nat):Y->aK
 |.var i=>decide (i<n)
 |.int _ _=>true
 |.bool _=>true
 |.str _=>true
 |.len a=>gq n a
 |.cell a i _=>gq n a&&gq n i
 |.byte a i=>gq n a&&gq n i
 |.bin _ a b=>gq n a&&gq n b
 |.not a=>gq n a
 |.neg a=>gq n a
 |.conv _ a=>gq n a
 |.sub a lo J=>gq n a&&(gq n lo&&gq n J)
 |.d9=>true
 |.snoc a r=>gq n a&&ow n r
 |.cat a b=>gq n a&&gq n b
 |.lit _=>true
def ow (n:Nat):G Y->aK
 |[]=>true
 |a::r=>gq n a&&ow n r
end
mutual
def uj (n:Nat):H->aK
 |.S e=>gq n e
 |.agg cs=>ou n cs
 |.tuple vs=>ou n vs
 |_=>true
def ou (n:Nat):G H->aK
 |[]=>true
 |a::r=>uj n a&&ou n r
end
mutual
def lJ (σ:G Y):Y->Y
 |.var i=>match σ[i]? with
  |some e=>e
  |none=>.var i
 |.int k n=>.int k n
 |.bool b=>.bool b
 |.str l=>.str l
 |.len a=>.len (lJ σ a)
 |.cell a i j=>.cell (lJ σ a) (lJ σ i) j
 |.byte a i=>.byte (lJ σ a) (lJ σ i)
 |.bin op a b=>.bin op (lJ σ a) (lJ σ b)
 |.not a=>.not (lJ σ a)
 |.neg a=>.neg (lJ σ a)
 |.conv k a=>.conv k (lJ σ a)
 |.sub a lo J=>.sub (lJ σ a) (lJ σ lo) (lJ σ J)
 |.d9=>.d9
 |.snoc a r=>.snoc (lJ σ a) (aaJ σ r)
 |.cat a b=>.cat (lJ σ a) (lJ σ b)
 |.lit d=>.lit d
def aaJ (σ:G Y):G Y->G Y
 |[]=>[]
 |a::r=>lJ σ a::aaJ σ r
end
section
variable {F Ep:Nat->D} {n:Nat}
mutual
def rE (h:∀i,i<n->F i=Ep i):∀{e:Y},gq n e=true->den F e=den Ep e
 |.var i,j=>by simp only[gq,iL] at j;simp only[den,h i j]
 |.int _ _,_=>rfl
 |.bool _,_=>rfl
 |.str _,_=>rfl
 |.d9,_=>rfl
 |.lit _,_=>rfl
 |.len a,j=>by simp only[gq] at j;simp only[den,rE h j]
 |.not a,j=>by simp only[gq] at j;simp only[den,rE h j]
 |.neg a,j=>by simp only[gq] at j;simp only[den,rE h j]
 |.conv _ a,j=>by simp only[gq] at j;simp only[den,rE h j]
 |.cell a i _,j=>by simp only[gq,bU] at j;simp only[den,rE h j.1,rE h j.2]
 |.byte a i,j=>by simp only[gq,bU] at j;simp only[den,rE h j.1,rE h j.2]
 |.bin _ a b,j=>by simp only[gq,bU] at j;simp only[den,rE h j.1,rE h j.2]
 |.cat a b,j=>by simp only[gq,bU] at j;simp only[den,rE h j.1,rE h j.2]
 |.sub a lo J,j=>by simp only[gq,bU] at j;simp only[den,rE h j.1,rE h j.2.1,rE h j.2.2]
 |.snoc a r,j=>by simp only[gq,bU] at j;simp only[den,rE h j.1,Fh h j.2]
def Fh (h:∀i,i<n->F i=Ep i):∀{es:G Y},ow n es=true->cZ F es=cZ Ep es
 |[],_=>rfl
 |a::r,e=>by simp only[ow,bU] at e;simp only[cZ,rE h e.1,Fh h e.2]
end
def awi (h:tN y=some x) (j:uj n y=true):gq n x=true:=by
 unfold tN at h;split at h<;>first|(cases h;done)|(simp only[aG] at h;subst h;first|rfl|simpa[uj] using j)
def PE:∀{vs:G H} {es:G Y},jv vs=some es->ou n vs=true->ow n es=true
 |[],es,h,_=>by simp only[jv,aG] at h;subst h;rfl
 |v::vs,es,h,j=>by
  simp only[ou,bU] at j;simp only[jv] at h;split at h
  ·rename_i e u l q
   simp only[aG] at h;subst h;simp only[ow,awi l j.1,PE q j.2,aaW]
  ·cases h
def um (h:∀i,i<n->F i=Ep i) (j:uj n y=true):(match tN y with|some e=>(den F e).map DA.one|none=>none)=(match tN y with|some e=>(den Ep e).map DA.one|none=>none):=by
 cases hs:tN y with
 |none=>rfl
 |some e=>simp only[rE h (awi hs j)]
mutual
def afq (h:∀i,i<n->F i=Ep i):∀{v:H},uj n v=true->iU F v=iU Ep v
 |.agg cs,e=>by
  simp only[uj] at e;simp only[iU];cases hs:jv cs with
  |none=>rfl
  |some es=>simp only[Fh h (PE hs e)]
 |.tuple vs,e=>by
  simp only[uj] at e;simp only[iU,KQ h e]
 |.bool _,e=>by simp only[iU];exact um h e
 |.int _ _,e=>by simp only[iU];exact um h e
 |.str _,e=>by simp only[iU];exact um h e
 |.nilPtr,e=>by simp only[iU];exact um h e
 |.ptr _ _,e=>by simp only[iU];exact um h e
 |.aV,e=>by simp only[iU];exact um h e
 |.rF,e=>by simp only[iU];exact um h e
 |.vT,e=>by simp only[iU];exact um h e
 |.slice ..,e=>by simp only[iU];exact um h e
 |.tC,e=>by simp only[iU];exact um h e
 |.map _,e=>by simp only[iU];exact um h e
 |.fn ..,e=>by simp only[iU];exact um h e
 |.tu,e=>by simp only[iU];exact um h e
 |.iface _ _,e=>by simp only[iU];exact um h e
 |.nilIface,e=>by simp only[iU];exact um h e
 |.wK,e=>by simp only[iU];exact um h e
 |.S _,e=>by simp only[iU];exact um h e
 |.gy ..,e=>by simp only[iU];exact um h e
 |.fp ..,e=>by simp only[iU];exact um h e
def KQ (h:∀i,i<n->F i=Ep i):∀{vs:G H},ou n vs=true->iH F vs=iH Ep vs
 |[],_=>rfl
 |v::vs,e=>by simp only[ou,bU] at e;simp only[iH,afq h e.1,KQ h e.2]
end
def bP (vals:G D) (i:Nat):D:=match vals[i]? with
 |some d=>d
 |none=>.bool false
def afv {σ:G Y} (h:cZ F σ=some p):p.length=σ.length/\∀(i:Nat) (e:Y),σ[i]?=some e->∃d,p[i]?=some d/\den F e=some d:=by
 induction σ generalizing p with
 |nil=>simp only[cZ,aG] at h;subst h;exact⟨rfl,fun i e J=>by simp at J⟩
 |cons a r l=>
  simp only[cZ] at h;obtain⟨d,q,u⟩:=kW.1 h;obtain⟨E,w,j⟩:=kW.1 u;simp only[aG] at j;subst j;obtain⟨y,A⟩:=l w;refine⟨by simp[y],fun i e J=>?_⟩
  cases i with
  |zero=>simp at J;subst J;exact⟨d,rfl,q⟩
  |succ i=>simpa using A i e (by simpa using J)
section
variable {σ:G Y} {ds:G D}
mutual
def su (h:cZ F σ=some ds):∀{e:Y},gq σ.length e=true->den F (lJ σ e)=den (bP ds) e
 |.var i,j=>by
  simp only[gq,iL] at j;obtain⟨_,l⟩:=afv h;obtain⟨d,q,u⟩:=l i _ (gM j);simp only[lJ,gM j,u,den,bP,q]
 |.int _ _,_=>rfl
 |.bool _,_=>rfl
 |.str _,_=>rfl
 |.d9,_=>rfl
 |.lit _,_=>rfl
 |.len a,j=>by simp only[gq] at j;simp only[lJ,den,su h j]
 |.not a,j=>by simp only[gq] at j;simp only[lJ,den,su h j]
 |.neg a,j=>by simp only[gq] at j;simp only[lJ,den,su h j]
 |.conv _ a,j=>by simp only[gq] at j;simp only[lJ,den,su h j]
 |.cell a i _,j=>by simp only[gq,bU] at j;simp only[lJ,den,su h j.1,su h j.2]
 |.byte a i,j=>by simp only[gq,bU] at j;simp only[lJ,den,su h j.1,su h j.2]
 |.bin _ a b,j=>by simp only[gq,bU] at j;simp only[lJ,den,su h j.1,su h j.2]
 |.cat a b,j=>by simp only[gq,bU] at j;simp only[lJ,den,su h j.1,su h j.2]
 |.sub a lo J,j=>by simp only[gq,bU] at j;simp only[lJ,den,su h j.1,su h j.2.1,su h j.2.2]
 |.snoc a r,j=>by simp only[gq,bU] at j;simp only[lJ,den,su h j.1,apj h j.2]
def apj (h:cZ F σ=some ds):∀{es:G Y},ow σ.length es=true->cZ F (aaJ σ es)=cZ (bP ds) es
 |[],_=>rfl
 |a::r,e=>by simp only[ow,bU] at e;simp only[aaJ,cZ,su h e.1,apj h e.2]
end
end
end
inductive RT where
 |one (k:Kd)
 |agg (ks:List Kd)
 |dD (rs:List RT)
mutual
def iw (kt:G (G Kd)):RT->DA->Prop
 |.one k,e=>∃d,e=.one d/\aW kt d k
 |.agg ks,e=>∃ds,e=.agg ds/\aJ kt ds ks
 |.dD rs,e=>∃ds,e=.dD ds/\fH kt rs ds
def fH (kt:G (G Kd)):G RT->G DA->Prop
 |[],V=>V=[]
 |r::rs,V=>∃h e,V=h::e/\iw kt r h/\fH kt rs e
end
mutual
def nY:RT->G Kd
 |.one k=>[k]
 |.agg ks=>ks
 |.dD rs=>Sj rs
def Sj:G RT->G Kd
 |[]=>[]
 |r::rs=>nY r++Sj rs
end
mutual
def nX:DA->G D
 |.one d=>[d]
 |.agg ds=>ds
 |.dD ds=>Oq ds
def Oq:G DA->G D
 |[]=>[]
 |d::ds=>nX d++Oq ds
end
def Ij (n:Nat):G Kd->G H
 |[]=>[]
 |_::r=>.S (.var n)::Ij (n+1) r
mutual
def zn (n:Nat):RT->H
 |.one _=>.S (.var n)
 |.agg ks=>.agg (Ij n ks)
 |.dD rs=>.tuple (Ou n rs)
def Ou (n:Nat):G RT->G H
 |[]=>[]
 |r::rs=>zn n r::Ou (n+(nY r).length) rs
end
def aJ.append {kt:G (G Kd)}:∀{a b:G D} {x y:G Kd},aJ kt a x->aJ kt b y->aJ kt (a++b) (x++y)
 |[],b,x,y,h,k=>by rw[show x=[] from h];exact k
 |_::_,b,x,y,⟨c,r,e,j,l⟩,k=>by rw[e];exact⟨c,r++y,rfl,j,l.append k⟩
mutual
def iw.flat {kt:G (G Kd)}:∀{r:RT} {j:DA},iw kt r j->aJ kt (nX j) (nY r)
 |.one k,_,⟨d,e,h⟩=>by subst e;exact⟨k,[],rfl,h,rfl⟩
 |.agg ks,_,⟨ds,e,h⟩=>by subst e;exact h
 |.dD rs,_,⟨ds,e,h⟩=>by subst e;exact fH.flat h
def fH.flat {kt:G (G Kd)}:∀{rs:G RT} {V:G DA},fH kt rs V->aJ kt (Oq V) (Sj rs)
 |[],_,h=>by rw[show _=[] from h];rfl
 |r::rs,_,⟨q,V,e,j,l⟩=>by subst e;exact(iw.flat j).append (fH.flat l)
end
def aww:∀{ks:G Kd} {n:Nat},∃es,jv (Ij n ks)=some es/\es=(List.range' n ks.length).map Y.var
 |[],n=>⟨[],rfl,rfl⟩
 |k::ks,n=>by
  obtain⟨es,e,h⟩:=aww (ks:=ks) (n:=n+1);exact⟨.var n::es,by simp only[Ij,jv,tN,e],by simp[h,aa6]⟩
def aph {F:Nat->D}:∀{ds:G D} {n:Nat},(∀(j:Nat) (d:D),ds[j]?=some d->F (n+j)=d)->cZ F ((List.range' n ds.length).map Y.var)=some ds
 |[],n,_=>rfl
 |d::ds,n,h=>by
  simp only[gD,aa6,AU,cZ,den,f_];rw[aph (ds:=ds) (n:=n+1) fun j e hj=>by
   have:=h (j+1) e yx;rw[<-this];congr 1;omega]
  rw[show F n=d from h 0 d rfl]
  rfl
def awv {F:Nat->D} {ds:G D} {ks:G Kd} {n:Nat} (e:ds.length=ks.length) (h:∀(j:Nat) (d:D),ds[j]?=some d->F (n+j)=d):∃es,jv (Ij n ks)=some es/\cZ F es=some ds:=by
 obtain⟨es,l,q⟩:=aww (ks:=ks) (n:=n);exact⟨es,l,by rw[q,<-e];exact aph h⟩
mutual
def arX {kt:G (G Kd)} {F:Nat->D}:∀{r:RT} {q:DA} {n:Nat},iw kt r q->(∀(j:Nat) (d:D),(nX q)[j]?=some d->F (n+j)=d)->iU F (zn n r)=some q
 |.one k,_,n,⟨d,e,l⟩,h=>by
  subst e;have:=h 0 d rfl;simp only[zn,iU,tN,den,qy] at this⊢;rw[this];rfl
 |.agg ks,_,n,⟨ds,e,l⟩,h=>by
  subst e;obtain⟨es,u,w⟩:=awv (ks:=ks) (n:=n) l.length h;simp only[zn,iU,u,w,Co]
 |.dD rs,_,n,⟨ds,e,l⟩,h=>by
  subst e;simp only[zn,iU,arZ l h,Co]
def arZ {kt:G (G Kd)} {F:Nat->D}:∀{rs:G RT} {V:G DA} {n:Nat},fH kt rs V->(∀(j:Nat) (d:D),(Oq V)[j]?=some d->F (n+j)=d)->iH F (Ou n rs)=some V
 |[],_,n,h,_=>by rw[show _=[] from h];rfl
 |r::rs,_,n,⟨w,V,q,l,u⟩,h=>by
  subst q;have y:=(iw.flat l).length;simp only[Ou,iH];rw[arX l fun j d e=>h j d (by simp only[Oq];rw[oI (gN.1 e).1];exact e)]
  rw[arZ u fun j d e=>by
   have:=h ((nY r).length+j) d (by simp only[Oq];rw[nI I];rw[<-e];congr 1;omega)
   rw[<-this];congr 1;omega]
end
mutual
def agi:∀{r:RT} {n m:Nat},n+(nY r).length<=m->uj m (zn n r)=true
 |.one k,n,m,h=>by simp only[zn,uj,gq,iL];simp only[nY,gD,lN] at h;omega
 |.agg ks,n,m,h=>by simp only[zn,uj];exact aiE h
 |.dD rs,n,m,h=>by simp only[zn,uj];exact arY h
def arY:∀{rs:G RT} {n m:Nat},n+(Sj rs).length<=m->ou m (Ou n rs)=true
 |[],_,_,_=>rfl
 |r::rs,n,m,h=>by
  simp only[Sj,mD] at h;simp only[Ou,ou,agi (r:=r) (n:=n) (m:=m) I,arY (rs:=rs) (n:=n+(nY r).length) (m:=m) I,aaW]
def aiE:∀{ks:G Kd} {n m:Nat},n+ks.length<=m->ou m (Ij n ks)=true
 |[],_,_,_=>rfl
 |k::ks,n,m,h=>by
  simp only[gD] at h;simp only[Ij,ou,uj,gq,aiE (ks:=ks) (n:=n+1) (m:=m) I,aaX,iL];omega
end
section
variable {E:Env} {X:Ctx}
def kH.get {fz:Nat->ah Obj}:∀{ds:G D} {vs:G av} {j:Nat} {d:D},kH fz ds vs->ds[j]?=some d->∃u,vs[j]?=some u/\DR fz d u
 |[],_,_,_,_,h=>by simp at h
 |_::_,_,0,_,⟨u,us,e,l,_⟩,h=>by simp at h;subst h;exact⟨u,by rw[e];rfl,l⟩
 |_::_,_,j+1,_,⟨u,us,e,_,q⟩,h=>by
  obtain⟨v,w,y⟩:=q.get (j:=j) rM;exact⟨v,by rw[e];simpa using w,y⟩
def aaL:∀{vs:G H} {es:G Y},jv vs=some es->es.length=vs.length
 |[],es,h=>by simp only[jv,aG] at h;subst h;rfl
 |v::vs,es,h=>by
  simp only[jv] at h;split at h
  ·rename_i e l _ j
   simp only[aG] at h;subst h;simp[aaL j]
  ·cases h
def Ya {F:Nat->D} {es:G Y} (h:cZ F es=some p):p.length=es.length:=(afv h).1
structure Cv where
 f:FuncId
 args:List H
 pre:List H
 post:List H
 res:H
def Oo (T:G Cv) (f:ig) (args pre:G H):ah Cv:=match T with
 |[]=>none
 |c::r=>if c.f=f/\H.sJ c.args args=true/\H.sJ c.pre pre=true then some c else Oo r f args pre
def ait (T:G Cv) (f:ig) (args:G H) (s:St):ah (H×St):=match args with
 |.ptr b 0::rest=>match Gz s rest with
  |some (h,e)=>match e.aP.get b with
   |some (.cells false vs k)=>match BQ vs 0 k with
    |some cs=>match Oo T f h cs with
     |some c=>some (c.res,⟨e.aP.set b (.cells false (nN .leaf 0 c.post) k),e.nx,e.J⟩)
     |none=>none
    |none=>none
   |_=>none
  |none=>none
 |_=>none
def Cv.Ok (E:Env) (P:bA) (c:Cv):Prop:=∃V pre post e e1 h,iH E.val c.args=some V/\jv c.pre=some e1/\cZ E.val e1=some pre/\jv c.post=some h/\cZ E.val h=some post/\iU E.val c.res=some e/\Cw E.kE P c.f V pre post e
def agc:∀{T:G Cv} {f:ig} {args pre:G H} {c:Cv},Oo T f args pre=some c->c∈T/\c.f=f/\c.args=args/\c.pre=pre
 |[],_,_,_,_,h=>by simp[Oo] at h
 |c'::r,f,args,pre,c,h=>by
  simp only[Oo] at h;split at h
  ·rename_i hc
   simp only[aG] at h;subst h;exact⟨jG,hc.1,H.Az hc.2.1,H.Az hc.2.2⟩
  ·obtain⟨e,j⟩:=agc h
   exact⟨gF _ e,j⟩
section
variable {P:bA} {base:Nat} {ρ σ:Mp} {s s':St} {w w':ak}
def ao1 (U:HR E base ρ s w) {vs:Tr H} {l:Loc} (P:s.aP.get b=some (.cells false vs g)) (W:ρ b=some l) {cs:G H} {es:G Y} (q:BQ vs 0 g=some cs) (e:jv cs=some es) (y:cZ E.val es=some p):
 p.length=g/\∀(j:Nat) (d:D),p[j]?=some d->∃u,w.cell? ⟨l.g,l.d+j,none⟩=some u/\DR ρ.fz d u:=by
 obtain⟨arr,T,fr,a',j',k',b',l'⟩:=U.at P W;obtain⟨c',d'⟩:=Lx q;obtain⟨us,e',f'⟩:=fq.TA (E:=E) (ρ:=ρ) (eY:=cs) (fun j=>arr[l.d+j]?) (fun j x h=>by
  obtain⟨_,v,A,F⟩:=b' (0+j) x (d' j x h);exact⟨v,by rw[jW] at A;exact A,F⟩)
 have g':=(JU (ρ:=ρ) e y).1 e';refine⟨by rw[Ya y,aaL e,c'],fun j d h=>?_⟩
 obtain⟨u,h',i'⟩:=g'.get h;exact⟨u,by rw[gX w _ _ _ _ _ a'];exact f' j u h',i'⟩
def aNM {T:G Cv} (d':∀c∈T,c.Ok E P) {f:ig} {args:G H} (h:ait T f args s=some (y,s')):vV E P f args s y s':=by
 unfold ait at h;split at h
 rotate_left
 ·cases h
 rename_i b rest;split at h
 rotate_left
 ·cases h
 rename_i D' e' f';split at h
 rotate_left
 ·cases h
 rename_i vs k A;split at h
 rotate_left
 ·cases h
 rename_i cs F;split at h
 rotate_left
 ·cases h
 rename_i c hf;simp only[aG,eG] at h;obtain⟨rfl,rfl⟩:=h;obtain⟨hc,rfl,rfl,rfl⟩:=agc hf;obtain⟨V,pre,post,E',e1,g',h',i',j',k',l',m',n'⟩:=d' c hc;intro base ρ w us o' U p';obtain⟨F',W,rfl,⟨l,q',rfl⟩,a'⟩:=p';obtain⟨σ,b',L',c',r',t'⟩:=Ow U a' f';have q:σ b=some l:=b'.map _ _ q';obtain⟨u',j⟩:=ao1 c' A q F i' j';subst u';rw[qy];refine uW (n' E rfl base σ e' w W b l vs (o'.mono b') c' A q j ((Fg h').1 t')) ?_;rintro e w' ⟨u,v',rfl,x',M',y'⟩;obtain⟨z',A'⟩:=y' c.post g' k' l';exact⟨u,v',rfl,(Jg m').2 x',z',r'.trans A'⟩
variable {lib:Lib} {dK:iB->Prop} {n:Nat}
def aNn (m':P.follows .mixedOrders=true) (n':iX E X) (o':t_ dK) (p':Cu E X P dK lib) {f:ig} (e':∀fn c,P.funcs[f]?=some fn->fn.body=some c->dK c) {args cells q:G H} {V:G DA} {post:G D} {f':DA} {es F:G Y}
 (h:agk P (E8 X P (rG X P lib n) f (.ptr P.globals.size 0::args) (sP P cells))=some (y,q)) (b':q.length=cells.length) (q':iH E.val args=some V) (j:jv cells=some es) (T:cZ E.val es=some p) (r':iU E.val y=some f') (c':jv q=some F) (g':cZ E.val F=some post):
 Cw E.kE P f V p post f':=by
 intro E0 s' base ρ s w us b l vs t' U h' W A d';have hn:cells.length=p.length:=by rw[Ya T,aaL j]
 have i':=aoG (P:=P) (E0:=E) U h' W j T hn A;unfold agk at h;split at h
 rotate_left
 ·cases h
 rename_i v0 s0 u';split at h
 rotate_left
 ·cases h
 rename_i P' T' j';split at h
 rotate_left
 ·cases h
 rename_i F' k k';split at h
 rotate_left
 ·cases h
 rename_i L' a';simp only[aG,eG] at h;obtain⟨rfl,rfl⟩:=h;have v':k=p.length:=by rw[<-hn,<-b'];exact(Lx a').1.symm
 subst v';refine uW (afF m' n' o' p' e' u' base (ρ.Gh P l) w (.pointer (some ⟨l.g,l.d,none⟩)::us) (aoF t' s'.symm) i' ⟨_,_,rfl,⟨l,I_,by rw[qy]⟩,(Fg (ρ:=ρ.Gh P l) q').2 d'⟩) ?_
 rintro e w' ⟨u,σ,rfl,x',y',z'⟩;obtain⟨l',W',X',A',D',E'⟩:=ar2 y' x' j';exact⟨u,⟨ρ.at_,l'.fz⟩,rfl,(Jg (ρ:=l') r').1 E',rfl,fun M' es j d'=>HR.aBk U h' W (z'.trans D') A' k' a' c' g' j d'⟩
end
def avo (X:Ctx) (e:Y):aK:=match pI X e with
 |some (.R _)=>false
 |some _=>true
 |none=>false
mutual
def qU (X:Ctx):H->aK
 |.S e=>avo X e
 |.agg cs=>Ig X cs
 |.tuple cs=>Ig X cs
 |.int _ _=>true
 |.bool _=>true
 |.str _=>true
 |_=>false
def Ig (X:Ctx):G H->aK
 |[]=>true
 |v::r=>qU X v&&Ig X r
end
mutual
def aav (w:iX E X) {ρ F:Mp}:∀{v:H} {u:av},qU X v=true->VR E F v u->VR E ρ v u
 |.S e,u,j,⟨d,q,l⟩=>by
  simp only[qU,avo] at j;refine⟨d,q,?_⟩;cases hk:pI X e with
  |none=>rw[hk] at j;cases j
  |some k=>
   rw[hk] at j;have A:=Lg w.kinds e d k q hk;cases d with
   |int _ _=>exact l
   |bool _=>exact l
   |str _=>exact l
   |R _=>obtain⟨T,rfl,_⟩:=A;cases j
   |any _=>exact A.elim
 |.agg cs,u,j,⟨y,q,l⟩=>⟨y,q,ah3 w (by simpa[qU] using j) l⟩
 |.tuple cs,u,j,⟨y,q,l⟩=>⟨y,q,ah3 w (by simpa[qU] using j) l⟩
 |.int _ _,u,_,h=>h
 |.bool _,u,_,h=>h
 |.str _,u,_,h=>h
 |.nilPtr,_,j,_=>by simp[qU] at j
 |.ptr _ _,_,j,_=>by simp[qU] at j
 |.aV,_,j,_=>by simp[qU] at j
 |.rF,_,j,_=>by simp[qU] at j
 |.vT,_,j,_=>by simp[qU] at j
 |.slice ..,_,j,_=>by simp[qU] at j
 |.tC,_,j,_=>by simp[qU] at j
 |.map _,_,j,_=>by simp[qU] at j
 |.fn ..,_,j,_=>by simp[qU] at j
 |.tu,_,j,_=>by simp[qU] at j
 |.iface _ _,_,j,_=>by simp[qU] at j
 |.nilIface,_,j,_=>by simp[qU] at j
 |.wK,_,j,_=>by simp[qU] at j
 |.gy ..,_,j,_=>by simp[qU] at j
 |.fp ..,_,j,_=>by simp[qU] at j
def ah3 (j:iX E X) {ρ l:Mp}:∀{vs:G H} {us:G av},Ig X vs=true->fq E l vs us->fq E ρ vs us
 |[],_,_,h=>h
 |v::vs,_,e,⟨u,us,q,w,y⟩=>by
  simp only[Ig,bU] at e;exact⟨u,us,q,aav j e.1 w,ah3 j e.2 y⟩
end
def avp {X:Ctx}:∀{vs:G H} {j:Nat} {x:H},Ig X vs=true->vs[j]?=some x->qU X x=true
 |[],_,_,_,h=>by simp at h
 |v::vs,0,x,e,h=>by simp only[Ig,bU] at e;simp at h;subst h;exact e.1
 |v::vs,j+1,x,e,h=>by simp only[Ig,bU] at e;exact avp e.2 rM
def aiq (X:Ctx) (T:G CE) (f:ig) (args:G H) (s:St):ah (H×St):=match Gz s args with
 |some (e,h)=>match Om T f e with
  |some v=>if qU X v then some (v,s) else some (v,h)
  |none=>none
 |none=>none
def aNJ {P:bA} {s s':St} (e':iX E X) {T:G CE} (W:∀c∈T,c.Ok E P) {f:ig} {args:G H} (h:aiq X T f args s=some (y,s')):vV E P f args s y s':=by
 unfold aiq at h;split at h
 ·rename_i v' x' a'
  split at h
  ·rename_i v0 b'
   obtain⟨c,f',g',h',i'⟩:=agb b';obtain⟨V,y',j',k',l'⟩:=W c f';split at h
   ·rename_i m'
    simp only[aG,eG] at h;obtain⟨rfl,rfl⟩:=h;subst g';subst h';subst i';intro base ρ w us F U n';obtain⟨σ,o',z',p',A',q'⟩:=Ow U n' a';refine uW (l' E rfl base (σ.bare P) (sE P) w us (aoH (F.mono o') rfl) (aoI p') ((Fg (ρ:=σ) j').1 q')) ?_;rintro e w' ⟨u,r',rfl,t',D',E',q⟩;have j:∀g,g<w.heap.size->w'.heap[g]?=w.heap[g]?:=fun g F=>q.block g F fun b o l A=>by
     have A:(Tr.leaf:Tr AO).get b=some o:=A;rw[Tr.o9] at A;cases A
    exact⟨u,ρ,rfl,aav e' m' ((Jg (ρ:=r') k').2 t'),U.off q.size (fun b o l A u'=>j _ (U.uO A u')) (fun g o c'=>j _ (U.Bv c')),(fA.refl U).off ⟨q.os,q.tape,q.output⟩ q.size fun g d'=>j g d'⟩
   ·simp only[aG,eG] at h
    obtain⟨rfl,rfl⟩:=h;exact aNK (T:=T) W (by unfold aip;rw[a'];simp only[b'])
  ·cases h
 ·cases h
def HR.setCells {ρ:Mp} {s:St} {w':ak} (h:HR E i ρ s W) {n m':Nat} {vs b':Tr H} {l:Loc} (w:s.aP.get b=some (.cells false vs n)) (c':ρ b=some l) (n':Alike W w') (j':W.heap.size<=w'.heap.size) (P:∀g,g<W.heap.size->g≠l.g->w'.heap[g]?=W.heap[g]?)
 (N:OR E i ρ w' l (.cells false b' m')):HR E i ρ ⟨s.aP.set b (.cells false b' m'),s.nx,s.J⟩ w'/\fA ρ s W ρ ⟨s.aP.set b (.cells false b' m'),s.nx,s.J⟩ w':=by
 have d':∀e' j l',s.aP.get e'=some j->ρ e'=some l'->e'≠b->l'.g≠l.g:=fun e' j l' o' p' hn e=>h.apart b e' _ j l l' w o' (nJ hn) rfl c' p' e.symm;refine⟨⟨fun u j A=>?_,fun u q' j r' y s' A k' hn f' q T=>?_,h.fresh,fF h.base j',fun g j g'=>(P g (h.Bv g') fun e=>by have:=h.oC b _ l w rfl c';rw[<-e,g'] at this;cases this).trans (h.nM g j g'),fun u j y A f' q=>?_⟩,
  ⟨Ext.refl _,⟨bq _,.inl rfl⟩,n'.os,n'.tape,n'.output,j',fun g g' hn=>P g g' fun e=>hn b _ l w rfl c' e.symm,fun u j y A q=>?_,fun _ _ _=>rfl,fun _ _ h=>.inl h⟩⟩
 ·rcases Tr.jc A with⟨rfl,rfl⟩|⟨h',F⟩
  ·exact⟨l,c',N⟩
  ·obtain⟨y,i',a'⟩:=h.pK u j F
   exact⟨y,i',a'.mono (Ext.refl _) (P _ a'.lt (d' u j y F i' h'))⟩
 ·rcases Tr.jc A with⟨rfl,rfl⟩|⟨h',F⟩
  ·rcases Tr.jc k' with⟨rfl,rfl⟩|⟨i',a'⟩
   ·exact absurd rfl hn
   ·exact h.apart u q' _ r' y s' w a' hn rfl q T
  ·rcases Tr.jc k' with⟨rfl,rfl⟩|⟨i',a'⟩
   ·rw[c'] at T
    obtain rfl:=bI T;exact d' u j y F q h'
   ·exact h.apart u q' j r' y s' F a' hn f' q T
 ·rcases Tr.jc A with⟨rfl,rfl⟩|⟨h',F⟩
  ·exact h.oC u _ y w rfl q
  ·exact h.oC u j y F f' q
 ·rcases Tr.jc A with⟨rfl,rfl⟩|⟨h',F⟩
  ·exact .inr ⟨u,_,y,w,q,rfl,fun _=>rfl⟩
  ·exact .inr ⟨u,j,y,F,q,rfl,id⟩
def aiu (g:Nat) (X:Ctx) (T:G Cv) (f:ig) (args:G H) (s:St):ah (H×St):=if g<4611686018427387904 then match args with
 |.ptr b 0::rest=>match Gz s rest with
  |some (h,e)=>match e.aP.get b with
   |some (.cells false vs k)=>match BQ vs 0 k with
    |some cs=>match Oo T f h cs with
     |some c=>if qU X c.res&&Ig X c.post then(match s.aP.get b with
      |some (.cells false _ _)=>some (c.res,⟨s.aP.set b (.cells false (nN .leaf 0 c.post) k),s.nx,s.J⟩)
      |_=>none) else some (c.res,⟨e.aP.set b (.cells false (nN .leaf 0 c.post) k),e.nx,e.J⟩)
     |none=>none
    |none=>none
   |_=>none
  |none=>none
 |_=>none
 else none
def aNL {P:bA} {s s':St} (f':iX E X) {T:G Cv} (g':∀c∈T,c.Ok E P) {f:ig} {args:G H} (h:aiu P.globals.size X T f args s=some (y,s')):vV E P f args s y s':=by
 unfold aiu at h;split at h
 rotate_left
 ·cases h
 rename_i F;split at h
 rotate_left
 ·cases h
 rename_i b rest;split at h
 rotate_left
 ·cases h
 rename_i s0 t0 h';split at h
 rotate_left
 ·cases h
 rename_i vs k a';split at h
 rotate_left
 ·cases h
 rename_i cs W;split at h
 rotate_left
 ·cases h
 rename_i c hf;split at h
 rotate_left
 ·refine aNM (T:=T) g' ?_
  unfold ait;simp only[h',a',W,hf];exact h
 rename_i b';simp only[bU] at b';split at h
 rotate_left
 ·cases h
 rename_i r0 u0 i';simp only[aG,eG] at h;obtain⟨rfl,rfl⟩:=h;obtain⟨hc,rfl,rfl,rfl⟩:=agc hf;obtain⟨V,pre,post,v0,e1,A',D',c',d',E',F',L',M'⟩:=g' c hc;intro base ρ w us P' U T';obtain⟨w0,j',rfl,⟨l,k',rfl⟩,m'⟩:=T';obtain⟨σ,n',x0,o',A0,W'⟩:=Ow U m' h';have uL:σ b=some l:=n'.map _ _ k';obtain⟨X',q⟩:=ao1 o' a' uL W c' d';subst X';rw[qy];have hn:c.pre.length=pre.length:=by rw[Ya d',aaL c']
 have p':=aoG (P:=P) (E0:=E) o' a' uL c' d' hn q;have q':(sP P c.pre).aP.get P.globals.size=some (.cells false (nN .leaf 0 c.pre) pre.length):=by
  show(Tr.set P.globals.size (.cells false (nN .leaf 0 c.pre) c.pre.length) (.leaf:Tr AO)).get P.globals.size=_;rw[hn];exact Tr.get_set_same _ _ _ F
 refine uW (M' E rfl base (σ.Gh P l) (sP P c.pre) w j' P.globals.size l _ (aoF (P'.mono n') rfl) p' q' I_ q ((Fg (ρ:=σ) D').1 W')) ?_;rintro e w' ⟨u,r',rfl,a0,D0,b0⟩;obtain⟨e0,A⟩:=b0 c.post A' E' F';have e':∀g,g<w.heap.size->g≠l.g->w'.heap[g]?=w.heap[g]?:=fun g t' Zg=>A.block g t' fun F0 o l' Fy _ uL=>by
  exact aqZ
 have u':OR E base ρ w' l (.cells false (nN .leaf 0 c.post) pre.length):=by
  have v':r' P.globals.size=some l:=A.ext _ _ I_;obtain⟨arr,f0,fr,g0,h0,i0,j0,k0⟩:=e0.at (Tr.get_set_same _ _ _ F) v';refine⟨arr,f0,fr,g0,h0,i0,fun j x x'=>?_,k0⟩;obtain⟨l0,y,y',z'⟩:=j0 j x x';rcases Cc x' with⟨_,n1⟩|⟨_,n1⟩
  ·exact⟨l0,y,y',aav f' (avp b'.2 (by rw[Cn] at n1;exact n1)) z'⟩
  ·rw[Tr.o9] at n1;cases n1
 obtain⟨m0,o0⟩:=U.setCells i' k' ⟨A.os,A.tape,A.output⟩ A.size e' u';exact⟨u,ρ,rfl,aav f' b'.1 ((Jg (ρ:=r') L').2 a0),m0,o0⟩
structure eX where
 id:Nat
 nt:Nat
 dw:bV
 outs:List (AX×bV×List Kd)
def eX.r9 (L:eX):Nat:=L.id%1000
def eX.own (L:eX):Nat:=L.id/1000
def X8 (P:bA) (f:Nat):iB:=match P.funcs[f]? with
 |some fn=>fn.body.getD .skip
 |none=>.skip
def CL (P:bA) (dK:iB->Prop) (L:eX):iB->Prop:=match L.own with
 |0=>dK
 |f+1=>fun x=>x∈dO (X8 P f)
def kC (T:Nat->ah D) (vals:G D):Env:=⟨bP vals,T⟩
def zO:Ctx:=⟨[],[],[],[]⟩
def ajv {E:Env}:iX E zO:=⟨fun _ _ h=>Dm,fun _ _ h=>Dm,fun _ _ h=>Dm⟩
def BX (T:Nat->ah D) (P:bA) (dK:iB->Prop) (L:eX) (d0:G D) (x:AX) (S':bV) (d1:G D):Prop:=
 ∀body base lo j h w0 a,CL P dK L (.block L.r9 body)->P.globals.size<=h.J->h.nx=h.J->h.J=L.dw.J->(∀b,h.J<=b->j b=none)->x9 (kC T d0) zO P base lo L.nt j h w0 L.dw a w0->
  (Code.block L.r9 body).wp P (fun e l w'=>e=x.out/\x9 (kC T d1) zO P base lo L.nt j h w0 S' l w') a w0
mutual
def awh (σ:G Y):H->H
 |.S e=>.S (lJ σ e)
 |.gy b e z=>.gy b (lJ σ e) z
 |.fp a i j=>.fp (lJ σ a) (lJ σ i) j
 |.agg cs=>.agg (aaI σ cs)
 |.tuple cs=>.tuple (aaI σ cs)
 |v=>v
def aaI (σ:G Y):G H->G H
 |[]=>[]
 |v::r=>awh σ v::aaI σ r
end
def aNA (σ:G Y):SO->SO
 |.cells ro L=>.cells ro (aaI σ L)
 |.seq z e=>.seq z (lJ σ e)
def bV.subst (σ:G Y) (dw:bV):bV:=⟨dw.tm.map fun p=>(p.1,awh σ p.2),dw.aP.map fun p=>(p.1,aNA σ p.2),dw.J⟩
def solved (σ:G Y):G (Y×Y)->aK
 |[]=>true
 |(a,b)::r=>gq σ.length a&&(Y.same (lJ σ a) b&&solved σ r)
def aaE (σ:G Y):G (Y×Y)->aK
 |[]=>true
 |(a,b)::r=>gq σ.length b&&(Y.same a (lJ σ b)&&aaE σ r)
def aib {T:Nat->ah D} {σ:G Y} {ds:G D} (j:cZ E.val σ=some ds):∀{q:G (Y×Y)},solved σ q=true->uZ (kC T ds) E q
 |[],_=>fun a b e=>by cases e
 |(x,y)::r,h=>by
  simp only[solved,bU] at h;intro a b e;rcases g_.1 e with e|e
  ·simp only[eG] at e
   obtain⟨rfl,rfl⟩:=e;rw[<-Y.jZ h.2.1];exact(su j h.1).symm
  ·exact aib j h.2.2 a b e
def av7 {T:Nat->ah D} {σ:G Y} {ds:G D} (j:cZ E.val σ=some ds):∀{q:G (Y×Y)},aaE σ q=true->uZ E (kC T ds) q
 |[],_=>fun a b e=>by cases e
 |(x,y)::r,h=>by
  simp only[aaE,bU] at h;intro a b e;rcases g_.1 e with e|e
  ·simp only[eG] at e
   obtain⟨rfl,rfl⟩:=e;rw[Y.jZ h.2.1];exact su j h.1
  ·exact av7 j h.2.2 a b e
structure En where
 L:eX
 ins:List Y
 x:AX
 S':bV
 out:List Y
def Ih (g:Nat) (T:G En) (id nt:Nat) (tm:Tr H) (s:St):ah (AX×Tr H×St):=match T with
 |[]=>none
 |b::r=>if b.L.r9=id/\b.L.nt=nt/\s.nx=s.J/\s.J=b.L.dw.J/\g<=s.J then(match JD [] s.J b.L.dw tm s with
  |some q=>if solved b.ins q then some (b.x,FK (b.S'.subst b.out).tm,(b.S'.subst b.out).st) else Ih g r id nt tm s
  |none=>Ih g r id nt tm s) else Ih g r id nt tm s
def KH (o:Nat):G En->G En
 |[]=>[]
 |b::r=>if b.L.own=o then b::KH o r else KH o r
def Nq {o:Nat} {b:En}:∀{T:G En},b∈KH o T->b∈T/\b.L.own=o
 |[],h=>by cases h
 |a::r,h=>by
  simp only[KH] at h;split at h
  ·rename_i e
   rcases g_.1 h with rfl|h
   ·exact⟨jG,e⟩
   ·exact⟨gF _ (Nq h).1,(Nq h).2⟩
  ·exact⟨gF _ (Nq h).1,(Nq h).2⟩
def Yl (J:Nat) (S':bV) (out:G Y):aK:=match JD [] J (S'.subst out) (FK S'.tm) S'.st with
 |some q=>aaE out q
 |none=>false
def En.Ok (E:Env) (P:bA) (dK:iB->Prop) (b:En):Prop:=
 Yl b.L.dw.J b.S' b.out=true/\∃d0 d1,cZ E.val b.ins=some d0/\cZ E.val b.out=some d1/\BX E.kE P dK b.L d0 b.x b.S' d1
def aio {P:bA} {dK C0:iB->Prop}:∀{T:G En},(∀b∈T,b.Ok E P C0/\CL P C0 b.L=dK)->∀{id nt:Nat} {body:iB} {tm tm':Tr H} {s s':St} {x:AX} (n:Nat),dK (.block id body)->Ih P.globals.size T id nt tm s=some (x,tm',s')->Qg E X P n (.block id body) nt tm s x tm' s'
 |[],_,_,_,_,_,_,_,_,_,_,_,h=>by simp[Ih] at h
 |b::r,a',id,nt,body,tm,tm',s,s',x,n,b',h=>by
  have F:=aio (T:=r) (fun g' c'=>a' g' (gF _ c')) (id:=id) (nt:=nt) (tm:=tm) (tm':=tm') (s:=s) (s':=s') (x:=x) n b';simp only[Ih] at h;split at h
  ·rename_i hc
   obtain⟨rfl,rfl,l,A,u⟩:=hc;split at h
   ·rename_i q h'
    split at h
    ·rename_i i'
     simp only[aG,eG] at h;obtain⟨rfl,rfl,rfl⟩:=h;obtain⟨⟨j,d0,d1,j',k',l'⟩,d'⟩:=a' b jG;intro base lo ρ a w y;have W:=aGs (E0:=kC E.kE d0) (X0:=zO) u l y h' (aib j' i') ajv rfl;refine xV (l' body base lo ρ s w a (by rw[d'];exact b') u l A y.U.fresh.2 W) ?_
     rintro e o' w' ⟨rfl,e'⟩;unfold Yl at j;split at j
     ·rename_i p' f'
      obtain⟨σ,m',n'⟩:=atl (E0:=E) (X0:=X) y.U.fresh.2 u l (by rw[A];exact f') (av7 k' j) y.yB.ok rfl e'
      exact⟨rfl,σ,m',n'⟩
     ·cases j
    ·exact F h
   ·exact F h
  ·exact F h
end
structure bJ where
 f:FuncId
 recv:Option (List Kd)
 res:RT
structure bR where
 sig:bJ
 eU:List DA->List D->Prop
 fP:List DA->List D->DA->List D->Prop
structure gu where
 sig:eX
 eU:List D->Prop
 fP:List D->Nat->List D->Prop
def bJ.rk (g:bJ):G Kd:=match g.recv with
 |some ks=>ks
 |none=>[]
def bR.Ok (T:Nat->ah D) (P:bA) (kt:G (G Kd)) (c:bR):Prop:=∀V pre,c.eU V pre->∃e post,c.fP V pre e post/\iw kt c.sig.res e/\aJ kt post c.sig.rk/\match c.sig.recv with
 |none=>om T P c.sig.f V e
 |some _=>Cw T P c.sig.f V pre post e
def gu.Ok (T:Nat->ah D) (P:bA) (dK:iB->Prop) (kt:G (G Kd)) (bY:G D) (c:gu):Prop:=∀ds,c.eU ds->∃(j:Nat) (x:AX) (S':bV) (ks:G Kd) (out:G D),c.sig.outs[j]?=some (x,S',ks)/\c.fP ds j out/\aJ kt out ks/\BX T P dK c.sig (bY++ds) x S' (bY++out)
mutual
inductive Tree where
 |leaf (j:Nat) (vs:List H) (rr:List (Nat×Nat))
 |B (e:Y) (t f:Tree)
 |fact (e v:Y) (t:Tree)
 |call (i:Nat) (args pre:List H) (t:Tree)
 |bX (i:Nat) (ins:List Y) (ts:iO)
inductive iO where
 |nil
 |cons (t:Tree) (r:iO)
end
abbrev Tree.fT (e:Y) (t:Tree):Tree:=.fact e (.bool true) t
mutual
def Tree.wp (Γ:Nat->bR) (Δ:Nat->gu) (kt:G (G Kd)) (aY:Nat->G DA->Prop):Tree->G D->Prop
 |.leaf j vs _,vals=>∃V,iH (bP vals) vs=some V/\aY j V
 |.B e t f,vals=>match den (bP vals) e with
  |some (.bool true)=>Tree.wp Γ Δ kt aY t vals
  |some (.bool false)=>Tree.wp Γ Δ kt aY f vals
  |_=>False
 |.fact e v t,vals=>den (bP vals) e=den (bP vals) v/\Tree.wp Γ Δ kt aY t vals
 |.call i args pre t,vals=>∃V ds es,iH (bP vals) args=some V/\jv pre=some es/\cZ (bP vals) es=some ds/\(Γ i).eU V ds/\
  ∀h post,(Γ i).fP V ds h post->iw kt (Γ i).sig.res h->aJ kt post (Γ i).sig.rk->Tree.wp Γ Δ kt aY t (vals++(nX h++post))
 |.bX i ins ts,vals=>∃ds,cZ (bP vals) ins=some ds/\(Δ i).eU ds/\
  ∀j x S' ks out,(Δ i).sig.outs[j]?=some (x,S',ks)->(Δ i).fP ds j out->aJ kt out ks->iO.wp Γ Δ kt aY ts j (vals++out)
def iO.wp (Γ:Nat->bR) (Δ:Nat->gu) (kt:G (G Kd)) (aY:Nat->G DA->Prop):iO->Nat->G D->Prop
 |.nil,_,_=>False
 |.cons t r,j,vals=>match j with
  |0=>Tree.wp Γ Δ kt aY t vals
  |j+1=>iO.wp Γ Δ kt aY r j vals
end
structure TS where
 X:Ctx
 wW:List CE
 xO:List Cv
 sQ:List En
def TS.n (s:TS):Nat:=s.X.vk.length
def TS.Xe (s:TS) (e v:Y):TS:=⟨⟨s.X.facts++[(e,v)],s.X.vk,s.X.kt,s.X.gt⟩,s.wW,s.xO,s.sQ⟩
def TS.CP (s:TS) (ks:G Kd):TS:=⟨⟨s.X.facts,s.X.vk++ks,s.X.kt,s.X.gt⟩,s.wW,s.xO,s.sQ⟩
def TS.Nf (s:TS) (g:bJ) (args pre:G H):TS:=match g.recv with
 |none=>⟨⟨s.X.facts,s.X.vk++nY g.res,s.X.kt,s.X.gt⟩,⟨g.f,args,zn s.n g.res⟩::s.wW,s.xO,s.sQ⟩
 |some ks=>⟨⟨s.X.facts,s.X.vk++(nY g.res++ks),s.X.kt,s.X.gt⟩,s.wW,⟨g.f,args,pre,Ij (s.n+(nY g.res).length) ks,zn s.n g.res⟩::s.xO,s.sQ⟩
def JZ (n:Nat):G Kd->G Y
 |[]=>[]
 |_::r=>.var n::JZ (n+1) r
def xH:Nat->G Y
 |0=>[]
 |n+1=>xH n++[.var n]
def TS.aoh (s:TS) (e:Nat) (L:eX) (ins:G Y) (x:AX) (S':bV) (ks:G Kd):TS:=⟨⟨s.X.facts,s.X.vk++ks,s.X.kt,s.X.gt⟩,s.wW,s.xO,⟨L,xH e++ins,x,S',xH e++JZ s.n ks⟩::s.sQ⟩
mutual
def Tree.jC (lf:TS->Nat->G H->G (Nat×Nat)->aK) (sg:G bJ) (lg:G eX) (h:Nat):Tree->TS->aK
 |.leaf j vs l,s=>lf s j vs l
 |.B e t f,s=>gq s.n e&&(Tree.jC lf sg lg h t (s.Xe e (.bool true))&&Tree.jC lf sg lg h f (s.Xe e (.bool false)))
 |.fact e v t,s=>gq s.n e&&(gq s.n v&&Tree.jC lf sg lg h t (s.Xe e v))
 |.call i args pre t,s=>match sg[i]? with
  |some g=>ou s.n args&&(ou s.n pre&&Tree.jC lf sg lg h t (s.Nf g args pre))
  |none=>false
 |.bX i ins ts,s=>match lg[i]? with
  |some L=>ow s.n ins&&iO.jC lf sg lg h L ins ts L.outs s
  |none=>false
def iO.jC (lf:TS->Nat->G H->G (Nat×Nat)->aK) (sg:G bJ) (lg:G eX) (e:Nat) (L:eX) (ins:G Y):iO->G (AX×bV×G Kd)->TS->aK
 |.nil,_,_=>true
 |.cons _ _,[],_=>false
 |.cons t r,o::outs,s=>Yl L.dw.J o.2.1 (xH e++JZ s.n o.2.2)&&(Tree.jC lf sg lg e t (s.aoh e L ins o.1 o.2.1 o.2.2)&&iO.jC lf sg lg e L ins r outs s)
end
section
variable {T:Nat->ah D} {P:bA} {dK:iB->Prop} {kt:G (G Kd)}
def PL {more:G D} (h:i<p.length):bP p i=bP (p++more) i:=by
 unfold bP;rw[oI h]
def JY {vals rest:G D} (h:p[b]?=some d):bP (vals++(p++rest)) (vals.length+b)=d:=by
 unfold bP;rw[nI I,L9,oI (gN.1 h).1,h]
structure TS.Ok (T:Nat->Option D) (P:Program) (dK:Code->Prop) (kt:List (List Kd)) (bY:List D) (vals:List D) (s:TS):Prop where
 x:iX (kC T vals) s.X
 kt:s.X.kt=kt
 len:vals.length=s.X.vk.length
 fb:∀e v,(e,v)∈s.X.facts->gq s.n e=true/\gq s.n v=true
 gb:∀g i,(g,i)∈s.X.gt->i<s.n
 wW:∀c∈s.wW,c.Ok (kC T vals) P/\ou s.n c.args=true/\uj s.n c.res=true
 xO:∀c∈s.xO,c.Ok (kC T vals) P/\ou s.n c.args=true/\ou s.n c.pre=true/\ou s.n c.post=true/\uj s.n c.res=true
 sQ:∀b∈s.sQ,b.Ok (kC T vals) P dK/\ow s.n b.ins=true/\ow s.n b.out=true
 bY:∃r,vals=bY++r
mutual
def r_ {n m:Nat} (h:n<=m):∀{e:Y},gq n e=true->gq m e=true
 |.var i,j=>by simp only[gq,iL] at j⊢;omega
 |.int _ _,_=>rfl
 |.bool _,_=>rfl
 |.str _,_=>rfl
 |.d9,_=>rfl
 |.lit _,_=>rfl
 |.len a,j=>by simp only[gq] at j⊢;exact r_ h j
 |.not a,j=>by simp only[gq] at j⊢;exact r_ h j
 |.neg a,j=>by simp only[gq] at j⊢;exact r_ h j
 |.conv _ a,j=>by simp only[gq] at j⊢;exact r_ h j
 |.cell a i _,j=>by simp only[gq,bU] at j⊢;exact⟨r_ h j.1,r_ h j.2⟩
 |.byte a i,j=>by simp only[gq,bU] at j⊢;exact⟨r_ h j.1,r_ h j.2⟩
 |.bin _ a b,j=>by simp only[gq,bU] at j⊢;exact⟨r_ h j.1,r_ h j.2⟩
 |.cat a b,j=>by simp only[gq,bU] at j⊢;exact⟨r_ h j.1,r_ h j.2⟩
 |.sub a lo J,j=>by simp only[gq,bU] at j⊢;exact⟨r_ h j.1,r_ h j.2.1,r_ h j.2.2⟩
 |.snoc a r,j=>by simp only[gq,bU] at j⊢;exact⟨r_ h j.1,Rj h j.2⟩
def Rj {n m:Nat} (h:n<=m):∀{es:G Y},ow n es=true->ow m es=true
 |[],_=>rfl
 |a::r,e=>by simp only[ow,bU] at e⊢;exact⟨r_ h e.1,Rj h e.2⟩
end
mutual
def aeK {n m:Nat} (h:n<=m):∀{v:H},uj n v=true->uj m v=true
 |.S e,j=>by simp only[uj] at j⊢;exact r_ h j
 |.agg cs,j=>by simp only[uj] at j⊢;exact EY h j
 |.tuple vs,j=>by simp only[uj] at j⊢;exact EY h j
 |.bool _,_=>rfl
 |.int _ _,_=>rfl
 |.str _,_=>rfl
 |.nilPtr,_=>rfl
 |.ptr _ _,_=>rfl
 |.aV,_=>rfl
 |.rF,_=>rfl
 |.vT,_=>rfl
 |.slice ..,_=>rfl
 |.tC,_=>rfl
 |.map _,_=>rfl
 |.fn ..,_=>rfl
 |.tu,_=>rfl
 |.iface _ _,_=>rfl
 |.nilIface,_=>rfl
 |.wK,_=>rfl
 |.gy ..,_=>rfl
 |.fp ..,_=>rfl
def EY {n m:Nat} (h:n<=m):∀{vs:G H},ou n vs=true->ou m vs=true
 |[],_=>rfl
 |v::vs,e=>by simp only[ou,bU] at e⊢;exact⟨aeK h e.1,EY h e.2⟩
end
def TS.Ok.more {bY vals more:G D} {s:TS} {ks:G Kd} (h:s.Ok T P dK kt bY vals) (F:aJ kt more ks):(s.CP ks).Ok T P dK kt bY (vals++more):=by
 have hn:s.n=vals.length:=h.len.symm;have j:∀i,i<s.n->(kC T vals).val i=(kC T (vals++more)).val i:=fun i J=>PL I;have hle:s.n<=(s.CP ks).n:=by show s.X.vk.length<=(s.X.vk++ks).length;rw[mD];omega
 refine⟨⟨fun e v l=>?_,fun i k J=>?_,fun g i l=>?_⟩,h.kt,?_,fun e v l=>?_,fun g i l=>?_,fun c hc=>?_,fun c hc=>?_,fun b f'=>?_,?_⟩
 ·obtain⟨q,u⟩:=h.fb e v l
  rw[<-rE j q,<-rE j u];exact h.x.facts e v l
 ·have J:(s.X.vk++ks)[i]?=some k:=J
  show aW s.X.kt _ k
  by_cases E:i<s.X.vk.length
  ·rw[oI E] at J
   rw[<-j i E];exact h.x.kinds i k J
  ·rw[nI I] at J
   have a':i-s.X.vk.length<more.length:=by rw[F.length];exact(gN.1 J).1
   obtain⟨k',q,u⟩:=F.get (gM a');rw[J] at q;obtain rfl:=bI q;rw[h.kt];have:=JY (vals:=vals) (rest:=[]) (gM a');rw[Ci,show vals.length+(i-s.X.vk.length)=i by have:=h.len;omega] at this
   rw[show(kC T (vals++more)).val i=_ from this]
   exact u
 ·rw[<-j i (h.gb g i l)]
  exact h.x.bY g i l
 ·show(vals++more).length=(s.X.vk++ks).length
  rw[mD,mD,h.len,F.length]
 ·exact⟨r_ hle (h.fb e v l).1,r_ hle (h.fb e v l).2⟩
 ·exact lZ (h.gb g i l) hle
 ·obtain⟨⟨V,W,q,u,A⟩,w,y⟩:=h.wW c hc
  exact⟨⟨V,W,by rw[<-KQ j w];exact q,by rw[<-afq j y];exact u,A⟩,EY hle w,aeK hle y⟩
 ·obtain⟨⟨V,pre,post,W,e1,g',q,u,A,w,y,h',i'⟩,b',c',d',e'⟩:=h.xO c hc
  exact⟨⟨V,pre,post,W,e1,g',by rw[<-KQ j b'];exact q,u,by rw[<-Fh j (PE u c')];exact A,w,by rw[<-Fh j (PE w d')];exact y,by rw[<-afq j e'];exact h',i'⟩,EY hle b',EY hle c',EY hle d',aeK hle e'⟩
 ·obtain⟨⟨j',d0,d1,q,u,A⟩,w,y⟩:=h.sQ b f'
  exact⟨⟨j',d0,d1,by rw[<-Fh j w];exact q,by rw[<-Fh j y];exact u,A⟩,Rj hle w,Rj hle y⟩
 ·obtain⟨r,U⟩:=h.bY
  exact⟨r++more,by rw[U,tV]⟩
def TS.Ok.fact {vals:G D} {s:TS} {v:Y} (h:s.Ok T P dK kt p vals) (l:gq s.n x=true) (q:gq s.n v=true) (u:den (bP vals) x=den (bP vals) v):(s.Xe x v).Ok T P dK kt p vals:=
 ⟨⟨fun a b j=>by
   rcases qV.1 j with j|j
   ·exact h.x.facts a b j
   ·simp only[yR,eG] at j
    obtain⟨rfl,rfl⟩:=j;exact u,h.x.kinds,h.x.bY⟩,h.kt,h.len,fun a b j=>by
   rcases qV.1 j with j|j
   ·exact h.fb a b j
   ·simp only[yR,eG] at j
    obtain⟨rfl,rfl⟩:=j;exact⟨l,q⟩,h.gb,h.wW,h.xO,h.sQ,h.bY⟩
def RG {F:Nat->D}:∀{a b:G Y} {x y:G D},cZ F a=some x->cZ F b=some y->cZ F (a++b)=some (x++y)
 |[],b,x,y,h,k=>by simp only[cZ,aG] at h;subst h;exact k
 |e::a,b,x,y,h,k=>by
  simp only[cZ] at h;obtain⟨d,l,q⟩:=kW.1 h;obtain⟨ds,u,j⟩:=kW.1 q;simp only[aG] at j;subst j;simp only[wM,cZ,l,f_,RG u k]
def SK {F:Nat->D}:∀{n:Nat} {ds:G D},ds.length=n->(∀(j:Nat) (d:D),ds[j]?=some d->F j=d)->cZ F (xH n)=some ds
 |0,ds,q,_=>by
  obtain rfl:=qx q
  rfl
 |n+1,ds,q,h=>by
  have l:ds≠[]:=fun e=>by rw[e] at q;cases q
  have u:ds=ds.dropLast++[ds.getLast l]:=(List.dropLast_concat_getLast l).symm;have y:cZ F (xH n)=some ds.dropLast:=SK (by rw[List.length_dropLast];omega) fun j d w=>h j d (by rw[u,oI (gN.1 w).1];exact w)
  rw[u];refine RG y ?_;have A:F n=ds.getLast l:=h n _ (by rw[List.getLast_eq_getElem,gM I];congr 1;congr 1;omega)
  simp only[cZ,den,f_,A]
def awy {F:Nat->D}:∀{ks:G Kd} {ds:G D} {n:Nat},ds.length=ks.length->(∀(j:Nat) (d:D),ds[j]?=some d->F (n+j)=d)->cZ F (JZ n ks)=some ds
 |[],ds,n,e,_=>by
  obtain rfl:=qx e
  rfl
 |k::ks,[],n,e,_=>by cases e
 |k::ks,d::ds,n,e,h=>by
  simp only[JZ,cZ,den,f_];rw[show F n=d from h 0 d rfl,awy (ks:=ks) (ds:=ds) (n:=n+1) (by simpa using e) fun j l hj=>by
   have:=h (j+1) l yx;rw[<-this];congr 1;omega]
  rfl
def agF:∀{n m:Nat},n<=m->ow m (xH n)=true
 |0,_,_=>rfl
 |n+1,m,h=>by
  have app:∀(a b:G Y),ow m a=true->ow m b=true->ow m (a++b)=true:=fun a=>by
   induction a with
   |nil=>intro b _ h;exact h
   |cons x a j=>intro b e l;simp only[ow,bU,wM] at e⊢;exact⟨e.1,j b e.2 l⟩
  exact app _ _ (agF I) (by simp only[ow,gq,aaX,iL];omega)
def awx:∀{ks:G Kd} {n m:Nat},n+ks.length<=m->ow m (JZ n ks)=true
 |[],_,_,_=>rfl
 |k::ks,n,m,h=>by
  simp only[gD] at h;simp only[JZ,ow,gq,awx (ks:=ks) (n:=n+1) (m:=m) I,aaX,iL];omega
def aeL {m:Nat}:∀{a b:G Y},ow m a=true->ow m b=true->ow m (a++b)=true
 |[],_,_,h=>h
 |x::a,b,e,j=>by simp only[ow,bU,wM] at e⊢;exact⟨e.1,aeL e.2 j⟩
def TS.Ok.call {vals:G D} {s:TS} {c:bR} {pre:G H} {V:G DA} {ds post:G D} {q:DA} {es:G Y} (h:s.Ok T P dK kt p vals) (a':ou s.n E=true) (Z:ou s.n pre=true) (e':iH (bP vals) E=some V) (f':jv pre=some es) (h':cZ (bP vals) es=some ds)
 (c':iw kt c.sig.res q) (y:aJ kt post c.sig.rk) (b':match c.sig.recv with|none=>om T P c.sig.f V q|some _=>Cw T P c.sig.f V ds post q):(s.Nf c.sig E pre).Ok T P dK kt p (vals++(nX q++post)):=by
 have hn:s.n=vals.length:=h.len.symm;have l:=h.more (c'.flat.append y);have l':(nX q).length=(nY c.sig.res).length:=c'.flat.length;have w:∀i,i<s.n->bP vals i=bP (vals++(nX q++post)) i:=fun i J=>PL I;have A:iU (bP (vals++(nX q++post))) (zn s.n c.sig.res)=some q:=arX c' fun j d d'=>by rw[hn];exact JY d'
 cases U:c.sig.recv with
 |none=>
  rw[U] at b';have W:c.sig.rk=[]:=by unfold bJ.rk;rw[U]
  rw[W] at y l;obtain rfl:post=[]:=by
   cases post with
   |nil=>rfl
   |cons a b=>obtain⟨_,_,h,_⟩:=y;cases h
  rw[Ci] at l A w⊢;rw[Ci] at l;rw[show s.Nf c.sig E pre=⟨⟨s.X.facts,s.X.vk++nY c.sig.res,s.X.kt,s.X.gt⟩,⟨c.sig.f,E,zn s.n c.sig.res⟩::s.wW,s.xO,s.sQ⟩ by unfold TS.Nf;rw[U]]
  have g':(s.CP (nY c.sig.res)).n=s.n+(nY c.sig.res).length:=by show(s.X.vk++_).length=_;rw[mD];rfl
  refine⟨l.x,l.kt,l.len,l.fb,l.gb,fun e u=>?_,l.xO,l.sQ,l.bY⟩;rcases g_.1 u with rfl|u
  ·refine⟨⟨V,q,?_,A,b'⟩,EY (m:=(s.CP (nY c.sig.res)).n) I a',agi (m:=(s.CP (nY c.sig.res)).n) I⟩
   rw[<-e'];exact(KQ w a').symm
  ·exact l.wW e u
 |some ks=>
  rw[U] at b';have W:c.sig.rk=ks:=by unfold bJ.rk;rw[U]
  rw[W] at y l;rw[show s.Nf c.sig E pre=⟨⟨s.X.facts,s.X.vk++(nY c.sig.res++ks),s.X.kt,s.X.gt⟩,s.wW,⟨c.sig.f,E,pre,Ij (s.n+(nY c.sig.res).length) ks,zn s.n c.sig.res⟩::s.xO,s.sQ⟩ by unfold TS.Nf;rw[U]]
  have g':(s.CP (nY c.sig.res++ks)).n=s.n+((nY c.sig.res).length+ks.length):=by show(s.X.vk++_).length=_;rw[mD,mD];rfl
  refine⟨l.x,l.kt,l.len,l.fb,l.gb,l.wW,fun e u=>?_,l.sQ,l.bY⟩;rcases g_.1 u with rfl|u
  ·obtain⟨i',j',k'⟩:=awv (F:=bP (vals++(nX q++post))) (ds:=post) (ks:=ks) (n:=s.n+(nY c.sig.res).length) y.length fun j d d'=>by
    have:=JY (vals:=vals++nX q) (rest:=[]) d';rw[Ci,tV,mD] at this;rw[<-this];congr 1;omega
   refine⟨⟨V,ds,post,q,es,i',?_,f',?_,j',k',A,b'⟩,EY (m:=(s.CP (nY c.sig.res++ks)).n) I a',EY (m:=(s.CP (nY c.sig.res++ks)).n) I Z,aiE (m:=(s.CP (nY c.sig.res++ks)).n) I,agi (m:=(s.CP (nY c.sig.res++ks)).n) I⟩
   ·rw[<-e'];exact(KQ w a').symm
   ·rw[<-h'];exact(Fh w (PE f' Z)).symm
  ·exact l.xO e u
def TS.Ok.bX {bY vals:G D} {s:TS} {L:eX} {ins:G Y} {x:AX} {S':bV} {ks:G Kd} {ds:G D} (h:s.Ok T P dK kt bY vals) (J:ow s.n ins=true) (E:cZ (bP vals) ins=some ds) (y:aJ kt p ks) (F:Yl L.dw.J S' (xH bY.length++JZ s.n ks)=true) (W:BX T P dK L (bY++ds) x S' (bY++p)):
 (s.aoh bY.length L ins x S' ks).Ok T P dK kt bY (vals++p):=by
 have hn:s.n=vals.length:=h.len.symm;have e:=h.more y;have A:∀i,i<s.n->bP vals i=bP (vals++p) i:=fun i J=>PL I;have hle:s.n<=(s.CP ks).n:=by show s.X.vk.length<=(s.X.vk++_).length;rw[mD];omega
 obtain⟨r,U⟩:=h.bY;have q:bY.length<=s.n:=by rw[hn,U,mD];omega
 have l:cZ (bP (vals++p)) (xH bY.length)=some bY:=SK rfl fun j d u=>by
  have:=JY (vals:=[]) (rest:=r++p) u;rw[U,tV]
  simpa using this
 refine⟨e.x,e.kt,e.len,e.fb,e.gb,e.wW,e.xO,fun b w=>?_,e.bY⟩;rcases g_.1 w with rfl|w
 ·refine⟨⟨F,bY++ds,bY++p,RG l ?_,RG l ?_,W⟩,aeL (agF (by exact fF q hle)) (Rj hle J),aeL (agF (by exact fF q hle)) (awx ?_)⟩
  ·rw[<-E];exact(Fh A J).symm
  ·exact awy y.length fun j d u=>by
    have:=JY (vals:=vals) (rest:=[]) u;rw[Ci] at this;rw[hn];exact this
  ·show s.n+ks.length<=(s.X.vk++ks).length
   rw[mD];exact bq _
 ·exact e.sQ b w
variable {Γ:Nat->bR} {Δ:Nat->gu} {sg:G bJ} {lg:G eX} {lf:TS->Nat->G H->G (Nat×Nat)->aK} {bY:G D} {claim:Nat->G DA->Prop} {aY:Nat->G DA->Prop} {Uu:G D}
mutual
def LP (q:∀i g,sg[i]?=some g->(Γ i).sig=g/\(Γ i).Ok T P kt) (u:∀i g,lg[i]?=some g->(Δ i).sig=g/\(Δ i).Ok T P dK kt bY)
 (w:∀s vals j vs d' V,lf s j vs d'=true->s.Ok T P dK kt bY vals->(∃r,vals=Uu++r)->iH (bP vals) vs=some V->claim j V):
 ∀(t:Tree) (s:TS) (vals:G D),Tree.jC lf sg lg bY.length t s=true->s.Ok T P dK kt bY vals->(∃r,vals=Uu++r)->Tree.wp Γ Δ kt aY t vals->∃j V,aY j V/\claim j V
 |.leaf j vs d',s,vals,hc,l,y,h=>by
  obtain⟨V,A,E⟩:=h;exact⟨j,V,E,w s vals j vs d' V hc l y A⟩
 |.B e t f,s,vals,hc,l,y,h=>by
  simp only[Tree.jC,bU] at hc;simp only[Tree.wp] at h;split at h
  ·rename_i e'
   exact LP q u w t _ vals hc.2.1 (l.fact hc.1 rfl (by rw[e'];rfl)) y h
  ·rename_i e'
   exact LP q u w f _ vals hc.2.2 (l.fact hc.1 rfl (by rw[e'];rfl)) y h
  ·exact h.elim
 |.fact e v t,s,vals,hc,l,y,h=>by
  simp only[Tree.jC,bU] at hc;obtain⟨A,E⟩:=h;exact LP q u w t _ vals hc.2.2 (l.fact hc.1 hc.2.1 A) y E
 |.call i args pre t,s,vals,hc,l,⟨r,U⟩,h=>by
  simp only[Tree.jC] at hc;split at hc
  ·rename_i g f'
   obtain⟨F,W⟩:=q i g f';subst F;simp only[bU] at hc;obtain⟨V,ds,es,A,E,g',j',k'⟩:=h;obtain⟨i',post,b',c',a',h'⟩:=W V ds j';exact LP q u w t _ _ hc.2.2 (l.call hc.1 hc.2.1 A E g' c' a' h') ⟨r++(nX i'++post),by rw[U,tV]⟩ (k' i' post b' c' a')
  ·cases hc
 |.bX i ins ts,s,vals,hc,l,y,h=>by
  simp only[Tree.jC] at hc;split at hc
  ·rename_i g f'
   obtain⟨F,W⟩:=u i g f';subst F;simp only[bU] at hc;obtain⟨ds,A,E,g'⟩:=h;obtain⟨j,x,S',ks,out,b',c',a',h'⟩:=W ds E;exact awo q u w ts (Δ i).sig.outs s vals hc.2 l y hc.1 A j x S' ks out b' a' h' (g' j x S' ks out b' c' a')
  ·cases hc
def awo (E:∀i g,sg[i]?=some g->(Γ i).sig=g/\(Γ i).Ok T P kt) (F:∀i g,lg[i]?=some g->(Δ i).sig=g/\(Δ i).Ok T P dK kt bY)
 (W:∀s vals j vs b' V,lf s j vs b'=true->s.Ok T P dK kt bY vals->(∃r,vals=Uu++r)->iH (bP vals) vs=some V->claim j V) {L:eX} {ins:G Y} {ds:G D}:
 ∀(ts:iO) (outs:G (AX×bV×G Kd)) (s:TS) (vals:G D),iO.jC lf sg lg bY.length L ins ts outs s=true->s.Ok T P dK kt bY vals->(∃r,vals=Uu++r)->ow s.n ins=true->cZ (bP vals) ins=some ds->
  ∀(j:Nat) (x:AX) (S':bV) (ks:G Kd) (out:G D),outs[j]?=some (x,S',ks)->aJ kt out ks->BX T P dK L (bY++ds) x S' (bY++out)->iO.wp Γ Δ kt aY ts j (vals++out)->∃j V,aY j V/\claim j V
 |.nil,outs,s,vals,hc,l,a',u,w,j,x,S',ks,out,e,y,A,h=>by cases(show False from h)
 |.cons t r,[],s,vals,hc,l,a',u,w,j,x,S',ks,out,e,y,A,h=>by simp at e
 |.cons t r,o::outs,s,vals,hc,l,⟨q,c'⟩,u,w,0,x,S',ks,out,e,y,A,h=>by
  simp only[iO.jC,bU] at hc;simp only[awX,aG] at e;subst e;exact LP E F W t _ _ hc.2.1 (l.bX u w y hc.1 A) ⟨q++out,by rw[c',tV]⟩ h
 |.cons t r,o::outs,s,vals,hc,l,a',u,w,j+1,x,S',ks,out,e,y,A,h=>by
  simp only[iO.jC,bU] at hc;exact awo E F W r outs s vals hc.2.2 l a' u w j x S' ks out (by simpa using e) y A h
end
end
end
end
end Go.Proofs.YtdjcfaaongngeaaGreatDoor

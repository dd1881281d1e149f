/- A part of the proof: see the last text. -/
import Derived.Test.YtdjcfaaongngeaaGreatDoorZa
set_option linter.all false
set_option maxRecDepth 100000
set_option maxHeartbeats 0
namespace Go.Proofs.YtdjcfaaongngeaaGreatDoor
noncomputable section
variable {b g i:Nat}{a j:Nat->ah Obj}{w:ak}{v:av}{F:dF av}
section
section
inductive Tr (α:Type) where
 |leaf:Tr α
 |node (v:Option α) (l r:Tr α):Tr α
namespace Tr
variable {α:Type}
def get (t:Tr α):Nat->ah α:=
 Tr.rec (motive:=fun _=>Nat->ah α) (fun _=>none) (fun v _ _ e h n=>Bool.rec (motive:=fun _=>ah α) (Bool.rec (motive:=fun _=>ah α) (h (n/2-1)) (e (n/2)) (Nat.beq (n%2) 1)) v (Nat.beq n 0)) t
def put (f:Nat):Nat->ah α->Tr α->Tr α:=
 Nat.rec (motive:=fun _=>Nat->ah α->Tr α->Tr α) (fun _ _ _=>leaf) (fun _ e n x t=>Tr.rec (motive:=fun _=>Tr α)
  (Bool.rec (motive:=fun _=>Tr α) (Bool.rec (motive:=fun _=>Tr α) (node none leaf (e (n/2-1) x leaf)) (node none (e (n/2) x leaf) leaf) (Nat.beq (n%2) 1)) (node x leaf leaf) (Nat.beq n 0))
  (fun v l r _ _=>Bool.rec (motive:=fun _=>Tr α) (Bool.rec (motive:=fun _=>Tr α) (node v l (e (n/2-1) x r)) (node v (e (n/2) x l) r) (Nat.beq (n%2) 1)) (node x l r) (Nat.beq n 0)) t) f
def set (n:Nat) (x:α) (t:Tr α):Tr α:=put 64 n (some x) t
def del (n:Nat) (t:Tr α):Tr α:=put 64 n none t
def NH {e:Type} (a b:Nat) (x y:e):(Bool.rec (motive:=fun _=>e) y x (Nat.beq a b):e)=if a=b then x else y:=by
 by_cases h:a=b
 ·rw[bK h,h,Nat.beq_refl]
 ·rw[bB h]
  cases hb:Nat.beq a b with
  |true=>exact absurd (Nat.eq_of_beq_eq_true hb) h
  |false=>rfl
def o9 (n:Nat):(leaf:Tr α).get n=none:=rfl
def xq (v:ah α) (l r:Tr α) (n:Nat):(node v l r).get n=if n=0 then v else if n%2=1 then l.get (n/2) else r.get (n/2-1):=by
 rw[<-NH,<-NH];rfl
def aHo (n:Nat) (x:ah α) (t:Tr α):put 0 n x t=leaf:=rfl
def atL (f n:Nat) (x:ah α):put (f+1) n x leaf=if n=0 then node x leaf leaf else if n%2=1 then node none (put f (n/2) x leaf) leaf else node none leaf (put f (n/2-1) x leaf):=by
 rw[<-NH,<-NH];rfl
def atM (f n:Nat) (x:ah α) (v:ah α) (l r:Tr α):put (f+1) n x (node v l r)=if n=0 then node x l r else if n%2=1 then node v (put f (n/2) x l) r else node v l (put f (n/2-1) x r):=by
 rw[<-NH,<-NH];rfl
def asl (f:Nat):∀(n m:Nat) (x:ah α) (t:Tr α) (y:α),(put f n x t).get m=some y->(m=n/\x=some y)\/(m≠n/\t.get m=some y):=by
 induction f with
 |zero=>intro n m x t y h;rw[aHo,o9] at h;cases h
 |succ f ih=>
  intro n m x t y h;cases t with
  |leaf=>
   rw[atL] at h
   by_cases hn:n=0
   ·rw[bK hn,xq] at h
    by_cases j:m=0
    ·rw[bK j] at h;exact .inl ⟨by omega,h⟩
    ·rw[bB j] at h;split at h<;>simp[o9] at h
   ·rw[bB hn] at h
    by_cases N:n%2=1
    ·rw[bK N,xq] at h
     by_cases j:m=0
     ·rw[bK j] at h;cases h
     ·rw[bB j] at h
      by_cases Z:m%2=1
      ·rw[bK Z] at h
       exact aqt
      ·rw[bB Z] at h;simp[o9] at h
    ·rw[bB N,xq] at h
     by_cases j:m=0
     ·rw[bK j] at h;cases h
     ·rw[bB j] at h
      by_cases Z:m%2=1
      ·rw[bK Z] at h;simp[o9] at h
      ·rw[bB Z] at h
       exact aqt
  |node v l r=>
   rw[atM] at h
   by_cases hn:n=0
   ·rw[bK hn,xq] at h
    by_cases j:m=0
    ·rw[bK j] at h;exact .inl ⟨by omega,h⟩
    ·rw[bB j] at h;exact .inr ⟨by omega,by rw[xq,bB j];exact h⟩
   ·rw[bB hn] at h
    by_cases N:n%2=1
    ·rw[bK N,xq] at h
     by_cases j:m=0
     ·rw[bK j] at h;exact .inr ⟨by omega,by rw[xq,bK j];exact h⟩
     ·rw[bB j] at h
      by_cases Z:m%2=1
      ·rw[bK Z] at h
       rcases ih _ _ _ _ _ h with⟨u,q⟩|⟨u,q⟩
       ·exact .inl ⟨by omega,q⟩
       ·exact .inr ⟨fun e=>u I,by rw[xq,bB j,bK Z];exact q⟩
      ·rw[bB Z] at h;exact .inr ⟨fun e=>by omega,by rw[xq,bB j,bB Z];exact h⟩
    ·rw[bB N,xq] at h
     by_cases j:m=0
     ·rw[bK j] at h;exact .inr ⟨by omega,by rw[xq,bK j];exact h⟩
     ·rw[bB j] at h
      by_cases Z:m%2=1
      ·rw[bK Z] at h;exact .inr ⟨fun e=>by omega,by rw[xq,bB j,bK Z];exact h⟩
      ·rw[bB Z] at h
       rcases ih _ _ _ _ _ h with⟨u,q⟩|⟨u,q⟩
       ·exact .inl ⟨by omega,q⟩
       ·exact .inr ⟨fun e=>u I,by rw[xq,bB j,bB Z];exact q⟩
def aEH (x:α):∀(f n:Nat) (t:Tr α),n+1<2^f->(put f n (some x) t).get n=some x:=by
 intro f
 induction f with
 |zero=>intro n t h;simp at h
 |succ f ih=>
  intro n t h;rw[ai6] at h;have e:n≠0->n/2-1+1<2^f:=fun hn=>by omega
  cases t with
  |leaf=>
   rw[atL];exact arl
  |node v l r=>
   rw[atM];exact arl
def get_set_same (n:Nat) (x:α) (t:Tr α) (h:n<4611686018427387904):(t.set n x).get n=some x:=
 aEH x 64 n t (lZ (Nat.add_lt_add_right h 1) jK)
def jc {x y:α} {t:Tr α} (h:(t.set b x).get g=some y):(g=b/\y=x)\/(g≠b/\t.get g=some y):=by
 rcases asl _ _ _ _ _ _ h with⟨e,j⟩|h
 ·exact .inl ⟨e,(bI j).symm⟩
 ·exact .inr h
def K_ {y:α} {t:Tr α} (h:(t.del b).get g=some y):g≠b/\t.get g=some y:=by
 rcases asl _ _ _ _ _ _ h with⟨_,e⟩|h
 ·cases e
 ·exact h
end Tr
end
end
section
open Go
inductive D where
 |int (k:IntKind) (n:Int)
 |bool (b:Bool)
 |str (l:List Nat)
 |R (rows:List (List D))
 |any (v:Value)
 deriving Inhabited
inductive Y where
 |var (i:Nat)
 |int (k:IntKind) (n:Int)
 |bool (b:Bool)
 |str (l:List Nat)
 |len (a:Y)
 |cell (a i:Y) (j:Nat)
 |byte (a i:Y)
 |bin (op:BinOp) (a b:Y)
 |not (a:Y)
 |neg (a:Y)
 |conv (k:IntKind) (a:Y)
 |sub (a lo J:Y)
 |d9
 |snoc (a:Y) (row:List Y)
 |cat (a b:Y)
 |lit (d:D)
 deriving Inhabited
structure Env where
 val:Nat->D
 kE:Nat->Option D
def uN:G Nat->G Nat->aK
 |_,[]=>false
 |[],_::_=>true
 |a::x,b::y=>decide (a<b)||(a==b&&uN x y)
def sD:D->ah D
 |.str l=>some (.int .i64 l.length)
 |.R rows=>some (.int .i64 rows.length)
 |_=>none
def aoY (j:Nat):D->D->ah D
 |.R rows,.int _ (.ofNat i)=>match rows[i]? with
  |some row=>row[j]?
  |none=>none
 |_,_=>none
def aoS:D->D->ah D
 |.str l,.int _ (.ofNat i)=>match l[i]? with
  |some c=>some (.int .u8 (c:Int))
  |none=>none
 |_,_=>none
def jl (op:BinOp):D->D->ah D
 |.int k a,.int k' b=>if k=k' then
  match op with
  |.add=>some (.int k (k.wrap (a+b)))
  |.sub=>some (.int k (k.wrap (a-b)))
  |.mul=>some (.int k (k.wrap (a*b)))
  |.quo=>if b=0 then none else some (.int k (k.wrap (a.tdiv b)))
  |.rem=>if b=0 then none else some (.int k (a.tmod b))
  |.eql=>some (.bool (a==b))
  |.neq=>some (.bool (a !=b))
  |.lss=>some (.bool (decide (a<b)))
  |.leq=>some (.bool (decide (a<=b)))
  |.gtr=>some (.bool (decide (b<a)))
  |.geq=>some (.bool (decide (b<=a)))
  |_=>none
  else none
 |.str a,.str b=>
  match op with
  |.add=>some (.str (a++b))
  |.eql=>some (.bool (a==b))
  |.neq=>some (.bool (!(a==b)))
  |.lss=>some (.bool (uN a b))
  |.leq=>some (.bool (uN a b||a==b))
  |.gtr=>some (.bool (!(uN a b||a==b)))
  |.geq=>some (.bool (!uN a b))
  |_=>none
 |.bool a,.bool b=>
  match op with
  |.eql=>some (.bool (a==b))
  |.neq=>some (.bool (!(a==b)))
  |_=>none
 |_,_=>none
def Tx:D->ah D
 |.bool b=>some (.bool (!b))
 |_=>none
def ag2:D->ah D
 |.int k n=>some (.int k (k.wrap (0-n)))
 |_=>none
def afe (k:tQ):D->ah D
 |.int _ n=>some (.int k (k.wrap n))
 |_=>none
def Uo:D->D->D->ah D
 |.R rows,.int _ (.ofNat lo),.int _ (.ofNat J)=>if lo<=J/\J<=rows.length then some (.R ((rows.take J).drop lo)) else none
 |.str l,.int _ (.ofNat lo),.int _ (.ofNat J)=>if lo<=J/\J<=l.length then some (.str ((l.take J).drop lo)) else none
 |_,_,_=>none
def LJ:D->G D->ah D
 |.R rows,row=>some (.R (rows++[row]))
 |_,_=>none
def ND:D->D->ah D
 |.R a,.R b=>some (.R (a++b))
 |_,_=>none
mutual
def den (E:Nat->D):Y->ah D
 |.var i=>some (E i)
 |.int k n=>some (.int k n)
 |.bool b=>some (.bool b)
 |.str l=>some (.str l)
 |.len a=>(den E a).bind sD
 |.cell a i j=>(den E a).bind fun x=>(den E i).bind fun y=>aoY j x y
 |.byte a i=>(den E a).bind fun x=>(den E i).bind fun y=>aoS x y
 |.bin op a b=>(den E a).bind fun x=>(den E b).bind fun y=>jl op x y
 |.not a=>(den E a).bind Tx
 |.neg a=>(den E a).bind ag2
 |.conv k a=>(den E a).bind (afe k)
 |.sub a lo J=>(den E a).bind fun x=>(den E lo).bind fun y=>(den E J).bind fun z=>Uo x y z
 |.d9=>some (.R [])
 |.snoc a row=>(den E a).bind fun x=>(cZ E row).bind fun r=>LJ x r
 |.cat a b=>(den E a).bind fun x=>(den E b).bind fun y=>ND x y
 |.lit d=>some d
def cZ (E:Nat->D):G Y->ah (G D)
 |[]=>some []
 |a::r=>(den E a).bind fun x=>(cZ E r).bind fun e=>some (x::e)
end
mutual
def Y.same:Y->Y->aK
 |.var i,.var j=>i==j
 |.int k n,.int k' y=>decide (k=k')&&decide (n=y)
 |.bool a,.bool b=>a==b
 |.str a,.str b=>a==b
 |.len a,.len b=>Y.same a b
 |.cell a i j,.cell b h j'=>j==j'&&Y.same i h&&Y.same a b
 |.byte a i,.byte b h=>Y.same i h&&Y.same a b
 |.bin op a b,.bin q e l=>decide (op=q)&&Y.same a e&&Y.same b l
 |.not a,.not b=>Y.same a b
 |.neg a,.neg b=>Y.same a b
 |.conv k a,.conv k' b=>decide (k=k')&&Y.same a b
 |.sub a lo J,.sub e u w=>Y.same lo u&&Y.same J w&&Y.same a e
 |.d9,.d9=>true
 |.snoc a r,.snoc b A=>Y.same a b&&Y.sJ r A
 |.cat a b,.cat e l=>Y.same a e&&Y.same b l
 |_,_=>false
def Y.sJ:G Y->G Y->aK
 |[],[]=>true
 |a::eY,b::bs=>Y.same a b&&Y.sJ eY bs
 |_,_=>false
end
mutual
def Y.jZ:∀{a b:Y},Y.same a b=true->a=b
 |.var _,b,h=>by cases b<;>simp_all[Y.same]
 |.int _ _,b,h=>by cases b<;>simp_all[Y.same]
 |.bool _,b,h=>by cases b<;>simp_all[Y.same]
 |.str _,b,h=>by cases b<;>simp_all[Y.same]
 |.d9,b,h=>by cases b<;>simp_all[Y.same]
 |.lit _,b,h=>by cases b<;>simp[Y.same] at h
 |.len a,b,h=>by
  cases b with
  |len c=>rw[Y.jZ (a:=a) (b:=c) (by simpa[Y.same] using h)]
  |_=>simp[Y.same] at h
 |.not a,b,h=>by
  cases b with
  |not c=>rw[Y.jZ (a:=a) (b:=c) (by simpa[Y.same] using h)]
  |_=>simp[Y.same] at h
 |.neg a,b,h=>by
  cases b with
  |neg c=>rw[Y.jZ (a:=a) (b:=c) (by simpa[Y.same] using h)]
  |_=>simp[Y.same] at h
 |.conv k a,b,h=>by
  cases b with
  |conv k' c=>
   simp only[Y.same,bU,iL] at h;rw[h.1,Y.jZ (a:=a) (b:=c) h.2]
  |_=>simp[Y.same] at h
 |.cell a i j,b,h=>by
  cases b with
  |cell c l j'=>
   simp only[Y.same,bU,xU] at h;rw[h.1.1,Y.jZ (a:=i) (b:=l) h.1.2,Y.jZ (a:=a) (b:=c) h.2]
  |_=>simp[Y.same] at h
 |.byte a i,b,h=>by
  cases b with
  |byte c l=>
   simp only[Y.same,bU] at h;rw[Y.jZ (a:=i) (b:=l) h.1,Y.jZ (a:=a) (b:=c) h.2]
  |_=>simp[Y.same] at h
 |.bin op a b,c,h=>by
  cases c with
  |bin A e q=>
   simp only[Y.same,bU,iL] at h;rw[h.1.1,Y.jZ (a:=a) (b:=e) h.1.2,Y.jZ (a:=b) (b:=q) h.2]
  |_=>simp[Y.same] at h
 |.sub a lo J,c,h=>by
  cases c with
  |sub e u w=>
   simp only[Y.same,bU] at h;rw[Y.jZ (a:=lo) (b:=u) h.1.1,Y.jZ (a:=J) (b:=w) h.1.2,Y.jZ (a:=a) (b:=e) h.2]
  |_=>simp[Y.same] at h
 |.snoc a r,c,h=>by
  cases c with
  |snoc e y=>
   simp only[Y.same,bU] at h;rw[Y.jZ (a:=a) (b:=e) h.1,Y.Az (eY:=r) (bs:=y) h.2]
  |_=>simp[Y.same] at h
 |.cat a b,c,h=>by
  cases c with
  |cat e q=>
   simp only[Y.same,bU] at h;rw[Y.jZ (a:=a) (b:=e) h.1,Y.jZ (a:=b) (b:=q) h.2]
  |_=>simp[Y.same] at h
def Y.Az:∀{eY bs:G Y},Y.sJ eY bs=true->eY=bs
 |[],bs,h=>by cases bs<;>simp_all[Y.sJ]
 |a::eY,bs,h=>by
  cases bs with
  |nil=>simp[Y.sJ] at h
  |cons b bs=>
   simp only[Y.sJ,bU] at h;rw[Y.jZ (a:=a) (b:=b) h.1,Y.Az (eY:=eY) (bs:=bs) h.2]
end
inductive Kd where
 |int (k:IntKind)
 |bool
 |str
 |R (T:Nat)
 deriving DecidableEq
def gB:Nat:=1000000
mutual
def aW (kt:G (G Kd)):D->Kd->Prop
 |.int k _,c=>c=.int k
 |.bool _,c=>c=.bool
 |.str l,c=>c=.str/\l.length<=gB
 |.R rows,c=>∃T,c=.R T/\rows.length<=gB/\dR kt rows (kt.getD T [])
 |.any _,_=>False
def aJ (kt:G (G Kd)):G D->G Kd->Prop
 |[],ks=>ks=[]
 |c::cs,ks=>∃k r,ks=k::r/\aW kt c k/\aJ kt cs r
def dR (kt:G (G Kd)):G (G D)->G Kd->Prop
 |[],_=>True
 |r::rs,ks=>aJ kt r ks/\dR kt rs ks
end
def mM (vk:G Kd) (kt:G (G Kd)):Y->ah Kd
 |.var i=>vk[i]?
 |.int k _=>some (.int k)
 |.bool _=>some .bool
 |.str l=>if l.length<=gB then some .str else none
 |.len _=>some (.int .i64)
 |.cell a _ j=>match mM vk kt a with
  |some (.R T)=>(kt.getD T [])[j]?
  |_=>none
 |.byte _ _=>some (.int .u8)
 |.bin op a _=>match op with
  |.add|.sub|.mul|.quo|.rem=>match mM vk kt a with
   |some (.int k)=>some (.int k)
   |_=>none
  |.eql|.neq|.lss|.leq|.gtr|.geq=>some .bool
  |_=>none
 |.not _=>some .bool
 |.neg a=>mM vk kt a
 |.conv k _=>some (.int k)
 |.sub a _ _=>mM vk kt a
 |_=>none
def aJ.get {kt:G (G Kd)}:∀{cs:G D} {ks:G Kd} {j:Nat} {c:D},aJ kt cs ks->cs[j]?=some c->∃k,ks[j]?=some k/\aW kt c k
 |[],_,_,_,_,h=>by simp at h
 |x::cs,ks,0,c,⟨k,r,e,l,_⟩,h=>by
  simp at h;subst h;exact⟨k,by rw[e];rfl,l⟩
 |x::cs,ks,j+1,c,⟨k,r,e,_,q⟩,h=>by
  obtain⟨k',u,w⟩:=q.get (j:=j) rM;exact⟨k',by rw[e];simpa using u,w⟩
def aJ.length {kt:G (G Kd)}:∀{cs:G D} {ks:G Kd},aJ kt cs ks->cs.length=ks.length
 |[],_,h=>by rw[show _=[] from h];rfl
 |x::cs,ks,⟨k,r,e,_,j⟩=>by rw[e,gD,gD,j.length]
def dR.get {kt:G (G Kd)}:∀{rows:G (G D)} {ks:G Kd} {i:Nat} {row:G D},dR kt rows ks->rows[i]?=some row->aJ kt row ks
 |[],_,_,_,_,h=>by simp at h
 |r::rs,ks,0,row,⟨e,_⟩,h=>by simp at h;subst h;exact e
 |r::rs,ks,i+1,row,⟨_,j⟩,h=>j.get (i:=i) rM
def dR.of {kt:G (G Kd)}:∀{rows:G (G D)} {ks:G Kd},(∀row∈rows,aJ kt row ks)->dR kt rows ks
 |[],_,_=>True.intro
 |r::rs,ks,h=>⟨h r jG,dR.of fun row U=>h row (gF _ U)⟩
def dR.mem {kt:G (G Kd)} {rows:G (G D)} {ks:G Kd} (h:dR kt rows ks):∀row∈rows,aJ kt row ks:=fun row U=>by
 obtain⟨i,J⟩:=aiU U;exact h.get J
def aW.fn {kt:G (G Kd)} {k:Kd}:∀{d:D},aW kt d k->∀{T},k=.R T->∃rows,d=.R rows/\dR kt rows (kt.getD T [])
 |.int _ _,h,T,e=>by rw[show k=_ from h] at e;cases e
 |.bool _,h,T,e=>by rw[show k=_ from h] at e;cases e
 |.str _,⟨h,_⟩,T,e=>by rw[show k=_ from h] at e;cases e
 |.R rows,⟨q,j,_,l⟩,T,e=>by
  rw[j] at e;cases e;exact⟨rows,rfl,l⟩
 |.any _,h,T,e=>h.elim
def aW.int {kt:G (G Kd)} {d:D} {k:tQ} (h:aW kt d (.int k)):∃n,d=.int k n:=by
 cases d with
 |int k' n=>cases h;exact⟨n,rfl⟩
 |bool _=>cases h
 |str _=>cases h.1
 |R _=>obtain⟨T,h,_⟩:=h;cases h
 |any _=>exact h.elim
def aW.bool {kt:G (G Kd)} {d:D} (h:aW kt d .bool):∃b,d=.bool b:=by
 cases d with
 |int k' n=>cases h
 |bool b=>exact⟨b,rfl⟩
 |str _=>cases h.1
 |R _=>obtain⟨T,h,_⟩:=h;cases h
 |any _=>exact h.elim
def aW.str {kt:G (G Kd)} {d:D} (h:aW kt d .str):∃l,d=.str l/\l.length<=gB:=by
 cases d with
 |int k' n=>cases h
 |bool b=>cases h
 |str l=>exact⟨l,rfl,h.2⟩
 |R _=>obtain⟨T,h,_⟩:=h;cases h
 |any _=>exact h.elim
def Lg {E:Nat->D} {vk:G Kd} {kt:G (G Kd)} (W:∀i k,vk[i]?=some k->aW kt (E i) k):∀(e:Y) (d:D) (k:Kd),den E e=some d->mM vk kt e=some k->aW kt d k
 |.var i,d,k,h,q=>by
  simp only[den,aG] at h;subst h;exact W i k q
 |.int _ _,d,k,h,q=>by
  simp only[den,mM,aG] at h q;subst h;subst q;rfl
 |.bool _,d,k,h,q=>by
  simp only[den,mM,aG] at h q;subst h;subst q;rfl
 |.str l,d,k,h,q=>by
  simp only[den,mM,aG] at h q;split at q
  ·rename_i d'
   cases q;subst h;exact⟨rfl,d'⟩
  ·cases q
 |.len a,d,k,h,q=>by
  simp only[den,mM,aG] at h q;obtain⟨x,_,w⟩:=kW.1 h;subst q;unfold sD at w;split at w<;>cases w<;>rfl
 |.cell a i j,d,k,h,q=>by
  simp only[den] at h;obtain⟨x,P,w⟩:=kW.1 h;obtain⟨y,_,u⟩:=kW.1 w;simp only[mM] at q;split at q
  ·rename_i T e'
   obtain⟨rows,rfl,f'⟩:=aW.fn (Lg W a x _ P e') rfl;unfold aoY at u;split at u
   ·rename_i e _
    cases e;split at u
    ·rename_i row U
     obtain⟨k',A,b'⟩:=(f'.get U).get u;rw[q] at A;cases A;exact b'
    ·cases u
   ·cases u
  ·cases q
 |.byte a i,d,k,h,q=>by
  simp only[den,mM,aG] at h q;subst q;obtain⟨x,_,w⟩:=kW.1 h;obtain⟨y,_,u⟩:=kW.1 w;unfold aoS at u;split at u
  ·split at u
   ·cases u;rfl
   ·cases u
  ·cases u
 |.bin op a b,d,k,h,q=>by
  simp only[den] at h;obtain⟨x,P,w⟩:=kW.1 h;obtain⟨y,_,u⟩:=kW.1 w;have F:∀k,mM vk kt a=some k->aW kt x k:=fun k q=>Lg W a x k P q;unfold jl at u;split at u
  ·rename_i i' n1 c' j'
   split at u
   ·cases op<;>simp only[mM] at q<;>simp only at u<;>(try(split at u))<;>first|(cases u;done)|(cases q;done)|(simp only[aG] at u q;subst u;subst q;rfl)|(simp only[aG] at u;subst u;(split at q)<;>first|(cases q;done)|(rename_i c' a';cases q;have g':=F _ a';cases g';rfl))
   ·cases u
  ·cases op<;>simp only[mM] at q<;>simp only at u<;>first|(cases u;done)|(cases q;done)|(simp only[aG] at u q;subst u;subst q;rfl)|(simp only[aG] at u;subst u;(split at q)<;>first|(cases q;done)|(rename_i c' a';cases q;cases(F _ a').1))
  ·cases op<;>simp only[mM] at q<;>simp only at u<;>first|(cases u;done)|(cases q;done)|(simp only[aG] at u q;subst u;subst q;rfl)
  ·cases u
 |.not a,d,k,h,q=>by
  simp only[den,mM,aG] at h q;subst q;obtain⟨x,_,w⟩:=kW.1 h;unfold Tx at w;split at w
  ·cases w;rfl
  ·cases w
 |.neg a,d,k,h,q=>by
  simp only[den,mM] at h q;obtain⟨x,P,w⟩:=kW.1 h;have F:=Lg W a x k P q;unfold ag2 at w;split at w
  ·cases w;exact F
  ·cases w
 |.conv k' a,d,k,h,q=>by
  simp only[den,mM,aG] at h q;subst q;obtain⟨x,_,w⟩:=kW.1 h;unfold afe at w;split at w
  ·cases w;rfl
  ·cases w
 |.sub a lo J,d,k,h,q=>by
  simp only[den,mM] at h q;obtain⟨x,P,w⟩:=kW.1 h;obtain⟨y,_,u⟩:=kW.1 w;obtain⟨z,_,A⟩:=kW.1 u;have F:=Lg W a x k P q;unfold Uo at A;split at A
  ·split at A
   ·cases A
    obtain⟨T,b',l',h'⟩:=F;exact⟨T,b',by rw[sK,oL];omega,.of fun row U=>h'.mem row (J3 (AY U))⟩
   ·cases A
  ·split at A
   ·cases A;exact⟨F.1,by rw[sK,oL];have:=F.2;omega⟩
   ·cases A
  ·cases A
 |.d9,d,k,h,q=>by simp[mM] at q
 |.snoc _ _,d,k,h,q=>by simp[mM] at q
 |.cat _ _,d,k,h,q=>by simp[mM] at q
 |.lit _,d,k,h,q=>by simp[mM] at q
inductive H where
 |bool (b:Bool)
 |int (k:IntKind) (n:Int)
 |str (l:List Nat)
 |nilPtr
 |ptr (b o:Nat)
 |aV
 |rF
 |vT
 |slice (b o n c sz:Nat)
 |tC
 |map (b:Nat)
 |fn (f:Fn) (first cap:List H)
 |tu
 |iface (t:TypeId) (v:H)
 |nilIface
 |agg (cs:List H)
 |tuple (vs:List H)
 |wK
 |S (e:Y)
 |gy (b:Nat) (e:Y) (z:Nat)
 |fp (a i:Y) (j:Nat)
 deriving Inhabited
inductive AO where
 |cells (ro:Bool) (vs:Tr H) (n:Nat)
 |map (es:List (H×H))
 |Uj (s:List Nat) (pos:Nat)
 |seq (z:Nat) (e:Y)
 |row (z:Nat) (e:Y)
structure Ctx where
 facts:List (Y×Y)
 vk:List Kd
 kt:List (List Kd)
 gt:List (Nat×Nat)
structure St where
 aP:Tr AO
 nx:Nat
 J:Nat
def H.one:H->aK
 |.agg _|.tuple _=>false
 |_=>true
def H.cells:H->G H
 |.agg cs=>cs
 |v=>[v]
def aoR (c:Nat):H:=.int .u8 (c:Int)
def Tp (s:dA):G Nat:=s.data.toList.map UInt8.toNat
def Lm:av->ah H
 |.bool b=>some (.bool b)
 |.int k n=>some (.int k n)
 |.string s=>some (.str (Tp s))
 |.pointer none=>some .nilPtr
 |.slice none 0 0=>some .aV
 |.map none=>some .tC
 |.nilFunc=>some .tu
 |.nilIface=>some .nilIface
 |_=>none
def HZ:av->ah H
 |.agg cs=>match cs.toList.mapM Lm with
  |some l=>some (.agg l)
  |none=>none
 |v=>Lm v
def rd (P:bA) (tm:Tr H):je->ah H
 |.tmp t=>tm.get t
 |.const v=>HZ v
 |.global g=>if g<P.globals.size then some (.ptr g 0) else none
 |.func f=>some (.fn (.func f) [] [])
def Lc:je->aK
 |.const _=>true
 |_=>false
def zB (P:bA) (tm:Tr H):G je->ah (G H)
 |[]=>some []
 |x::r=>match rd P tm x,zB P tm r with
  |some v,some vs=>some (v::vs)
  |_,_=>none
def BQ (vs:Tr H) (o:Nat):Nat->ah (G H)
 |0=>some []
 |n+1=>match vs.get o,BQ vs (o+1) n with
  |some v,some r=>some (v::r)
  |_,_=>none
def nN (vs:Tr H) (o:Nat):G H->Tr H
 |[]=>vs
 |v::r=>nN (vs.set o v) (o+1) r
def St.new (s:St) (o:AO):St:=⟨s.aP.set s.nx o,max s.J (s.nx+1),max s.J (s.nx+1)⟩
def St.cells (s:St) (cs:G H):St:=s.new (.cells false (nN .leaf 0 cs) cs.length)
def St.load (s:St) (b o n:Nat):ah (G H):=
 match s.aP.get b with
 |some (.cells _ vs _)=>BQ vs o n
 |_=>none
def St.store (s:St) (b o:Nat) (cs:G H):ah St:=
 match s.aP.get b with
 |some (.cells false vs n)=>if o+cs.length<=n/\cs.all H.one=true then some ⟨s.aP.set b (.cells false (nN vs o cs) n),s.nx,s.J⟩ else none
 |_=>none
def OP:AL->aK
 |.struct _|.array _ _=>true
 |_=>false
def uR (P:bA) (t:dh):ah Nat:=(P.info? t).map (·.size)
def LW (P:bA) (t:dh):ah (G H):=match P.info? t with
 |some i=>match i.zero with
  |some z=>z.cells.toList.mapM HZ
  |none=>none
 |none=>none
def zeroV (P:bA) (t:dh):ah H:=match P.info? t with
 |some i=>match i.zero with
  |some (.agg cs)=>(cs.toList.mapM HZ).map .agg
  |some v=>HZ v
  |none=>none
 |none=>none
def aUI:H->ah Nat
 |.int .u8 (.ofNat n)=>if n<256 then some n else none
 |_=>none
def aUW (P:bA) (e:dh):aK:=match P.underlying e with
 |some (.int .u8)=>true
 |_=>false
def St.loadVar (P:bA) (s:St) (t:dh):H->ah H
 |.ptr b o=>match P.underlying t,uR P t with
  |some d,some n=>if OP d then(s.load b o n).map .agg else match s.load b o 1 with
   |some [v]=>some v
   |_=>none
  |_,_=>none
 |_=>none
def St.storeVar (P:bA) (s:St) (t:dh) (v:H):H->ah St
 |.ptr b o=>match uR P t with
  |some n=>if v.cells.length=n then s.store b o v.cells else none
  |none=>none
 |_=>none
def over (cs:G H) (o:Nat) (e:G H):ah (G H):=
 if o+e.length<=cs.length then some (cs.take o++e++cs.drop (o+e.length)) else none
def KZ (place:Nat->ah (Nat×Nat)) (cs:G H):G (Nat×H)->ah (G H)
 |[]=>some cs
 |(i,v)::r=>match place i with
  |some (o,n)=>if v.cells.length=n then(match over cs o v.cells with|some e=>KZ place e r|none=>none) else none
  |none=>none
def Sg (P:bA) (t:dh) (k:Nat):ah Field:=match P.underlying t with
 |some (.struct fs)=>fs[k]?
 |_=>none
def RO (P:bA) (t:dh):ah dh:=match P.underlying t with
 |some (.slice e)=>some e
 |_=>none
def atH (P:bA) (t:dh):ah (Nat->ah (Nat×Nat)):=match P.underlying t with
 |some (.array _ e)=>match P.info? e with
  |some i=>some fun k=>some (k*i.size,i.size)
  |none=>none
 |some (.struct fs)=>match fs.toList.mapM (fun f=>(P.info? f.type).map fun i=>(f.offset,i.size)) with
  |some ps=>some fun k=>ps[k]?
  |none=>none
 |_=>none
def ZL (P:bA) (t:dh) (cs:G H) (o:Nat):ah H:=match P.underlying t,uR P t with
 |some d,some n=>if OP d then(if o+n<=cs.length then some (.agg ((cs.drop o).take n)) else none) else cs[o]?
 |_,_=>none
def atp (v:H):ah Nat:=match v with|.int _ (.ofNat n)=>some n|_=>none
def NS (P:bA) (t:dh):H->H->ah aK
 |.bool a,.bool b=>match P.underlying t with
  |some .bool=>some (a==b)
  |_=>none
 |.nilPtr,.nilPtr=>match P.underlying t with
  |some (.pointer _)=>some true
  |_=>none
 |.nilPtr,.ptr _ _=>match P.underlying t with
  |some (.pointer _)=>some false
  |_=>none
 |.ptr _ _,.nilPtr=>match P.underlying t with
  |some (.pointer _)=>some false
  |_=>none
 |.aV,.aV=>match P.underlying t with
  |some (.slice _)=>some true
  |_=>none
 |.slice ..,.aV=>match P.underlying t with
  |some (.slice _)=>some false
  |_=>none
 |.tC,.tC=>match P.underlying t with
  |some (.map _ _)=>some true
  |_=>none
 |.map _,.tC=>match P.underlying t with
  |some (.map _ _)=>some false
  |_=>none
 |.tu,.tu=>match P.underlying t with
  |some (.func _ _ _)=>some true
  |_=>none
 |.fn ..,.tu=>match P.underlying t with
  |some (.func _ _ _)=>some false
  |_=>none
 |.nilIface,.iface _ _=>match P.underlying t with
  |some (.interface _)=>some false
  |_=>none
 |.iface _ _,.nilIface=>match P.underlying t with
  |some (.interface _)=>some false
  |_=>none
 |.nilIface,.nilIface=>match P.underlying t with
  |some (.interface _)=>some true
  |_=>none
 |_,_=>none
def nP (P:bA) (t:dh) (op:BinOp):H->H->ah H
 |.int k a,.int k' b=>
  match op with
  |.shl=>if 0<=b then some (.int k (k.wrap (a*2^(min b.toNat k.bits)))) else none
  |.shr=>if 0<=b then some (.int k (a.fdiv (2^(min b.toNat k.bits)))) else none
  |_=>if k=k' then
   match op with
   |.add=>some (.int k (k.wrap (a+b)))
   |.sub=>some (.int k (k.wrap (a-b)))
   |.mul=>some (.int k (k.wrap (a*b)))
   |.quo=>if b=0 then none else some (.int k (k.wrap (a.tdiv b)))
   |.rem=>if b=0 then none else some (.int k (a.tmod b))
   |.eql=>some (.bool (a==b))
   |.neq=>some (.bool (a !=b))
   |.lss=>some (.bool (decide (a<b)))
   |.leq=>some (.bool (decide (a<=b)))
   |.gtr=>some (.bool (decide (b<a)))
   |.geq=>some (.bool (decide (b<=a)))
   |_=>none
   else none
 |.str a,.str b=>
  match op with
  |.add=>if a.length+b.length<=1000000 then some (.str (a++b)) else none
  |.eql=>some (.bool (a==b))
  |.neq=>some (.bool (!(a==b)))
  |.lss=>some (.bool (uN a b))
  |.leq=>some (.bool (uN a b||a==b))
  |.gtr=>some (.bool (!(uN a b||a==b)))
  |.geq=>some (.bool (!uN a b))
  |_=>none
 |x,y=>
  match op with
  |.eql=>(NS P t x y).map .bool
  |.neq=>(NS P t x y).map fun b=>.bool (!b)
  |_=>none
def yG (k:H):G (H×H)->Nat->ah (ah (Nat×H))
 |[],_=>some none
 |(k',v)::r,i=>match k,k' with
  |.int j a,.int j' b=>if j=j' then(if a=b then some (some (i,v)) else yG k r (i+1)) else none
  |.str a,.str b=>if a==b then some (some (i,v)) else yG k r (i+1)
  |.bool a,.bool b=>if a==b then some (some (i,v)) else yG k r (i+1)
  |_,_=>none
def SQ (P:bA) (t:dh):H->aK
 |.int _ _=>match P.underlying t with
  |some (.int _)=>true
  |_=>false
 |.str _=>match P.underlying t with
  |some .string=>true
  |_=>false
 |.bool _=>match P.underlying t with
  |some .bool=>true
  |_=>false
 |_=>false
def atf (es:G (H×H)) (k v:H):ah (G (H×H)):=match yG k es 0 with
 |some (some (i,_))=>some (es.set i (k,v))
 |some none=>some (es++[(k,v)])
 |none=>none
def St.entries (s:St):H->ah (G (H×H))
 |.tC=>some []
 |.map b=>match s.aP.get b with
  |some (.map es)=>some es
  |_=>none
 |_=>none
inductive nO where
 |val (v:H) (s:St)
 |skip (s:St)
 |enter (f:FuncId) (args:List H) (s:St)
def St.agV (P:bA) (s:St) (t:dh) (m k x:ah H):ah nO:=match P.underlying t,m,k,x with
 |some (.map kt _),some (.map b),some key,some v=>if SQ P kt key then(match s.aP.get b with
  |some (.map es)=>(atf es key v).map fun e=>.skip ⟨s.aP.set b (.map e),s.nx,s.J⟩
  |_=>none) else none
 |_,_,_,_=>none
def ag4 (st:St) (e:AL) (sz:Nat) (y:H):ah (Nat×G H):=match e,y with
 |.slice _,.aV=>some (0,[])
 |.slice _,.rF=>some (0,[])
 |.slice _,.slice b o n _ _=>match st.load b o (n*sz) with
  |some cs=>some (n,cs)
  |none=>none
 |.string,.str l=>some (l.length,l.map aoR)
 |_,_=>none
def agw (st:St) (i:TypeInfo) (x:H) (m:Nat) (cs:G H):ah (H×St):=match x with
 |.aV=>if m=0 then some (.aV,st) else if m*i.bytes<=1000000000 then some (.slice st.nx 0 m m i.size,st.cells cs) else none
 |.slice b o n c z=>
  if z=i.size then
   if n+m<=c then match st.aP.get b with
    |some (.cells false vs k)=>some (.slice b o (n+m) c z,⟨st.aP.set b (.cells false (nN vs (o+n*z) cs) (max k (o+n*z+cs.length))),st.nx,st.J⟩)
    |_=>none
   else if n+m<=1000000/\(n+m)*i.bytes<=1000000000 then match st.aP.get b,st.load b o (n*z) with
    |some (.cells false _ _),some qR=>some (.slice st.nx 0 (n+m) (n+m) z,St.cells ⟨st.aP.del b,st.nx,st.J⟩ (qR++cs))
    |_,_=>none
   else none
  else none
 |_=>none
def aex (P:bA) (st:St) (t u:dh) (x y:H):ah (H×St):=
 match RO P t,P.underlying u with
 |some e,some h=>match P.info? e,LW P e with
  |some i,some z=>match ag4 st h i.size y with
   |some (m,cs)=>if cs.length=m*i.size/\cs.all H.one=true/\z.length=i.size/\m<=1000000 then agw st i x m cs else none
   |none=>none
  |_,_=>none
 |_,_=>none
def Gi (P:bA) (s:St) (b:Builtin) (ts:G dh) (args:G H):ah nO:=
 match b,ts,args with
 |.len,t::_,[x]=>match P.underlying t,x with
  |some .string,.str l=>some (.val (.int .i64 l.length) s)
  |some (.slice _),.aV=>some (.val (.int .i64 0) s)
  |some (.slice _),.rF=>some (.val (.int .i64 0) s)
  |some (.slice _),.slice _ _ n _ _=>some (.val (.int .i64 n) s)
  |some (.map _ _),.tC=>some (.val (.int .i64 0) s)
  |some (.map _ _),.map b=>match s.aP.get b with
   |some (.map es)=>some (.val (.int .i64 es.length) s)
   |_=>none
  |some (.array n _),_=>some (.val (.int .i64 n) s)
  |_,_=>none
 |.append,[t,u],[x,y]=>match aex P s t u x y with
  |some (v,s')=>some (.val v s')
  |none=>none
 |.max,_,[.int k x,.int _ y]=>some (.val (.int k (if y>x then y else x)) s)
 |_,_,_=>none
def bound (P:bA) (v:ah je) (tm:Tr H) (e:Nat):ah Nat:=match v with
 |none=>some e
 |some x=>match rd P tm x with
  |some v=>atp v
  |none=>none
def enters (P:bA) (g:ig):aK:=match P.funcs[g]? with
 |some fn=>fn.body.isSome&&!(fn.name== "runtime.NumGoroutine")
 |none=>false
def iI (P:bA) (tm:Tr H) (s:St) (o:Oper):ah nO:=
 match o.op with
 |.move x|.assign x=>(rd P tm x).map fun v=>.val v s
 |.pick c a b=>match rd P tm c with
  |some (.bool true)=>(rd P tm a).map fun v=>.val v s
  |some (.bool false)=>(rd P tm b).map fun v=>.val v s
  |_=>none
 |.alloc e=>match LW P e with
  |some z=>some (.val (.ptr s.nx 0) (s.cells z))
  |none=>none
 |.box _ x=>(rd P tm x).map fun v=>.val (.ptr s.nx 0) (s.cells v.cells)
 |.build t parts=>match LW P t,atH P t,zB P tm (parts.toList.map (·.2)) with
  |some z,some place,some vs=>(KZ place z ((parts.toList.map (·.1)).zip vs)).map fun cs=>.val (.agg cs) s
  |_,_,_=>none
 |.buildSlice t len parts=>match RO P t with
  |none=>none
  |some e=>match LW P e,uR P e,zB P tm (parts.toList.map (·.2)) with
   |some z,some n,some vs=>if z.length=n/\len*n<=1000000/\len<=1000000 then match KZ (fun k=>some (k*n,n)) (List.flatten (List.replicate len z)) ((parts.toList.map (·.1)).zip vs) with
    |some cs=>some (.val (.slice s.nx 0 len len n) (s.cells cs))
    |none=>none
    else none
   |_,_,_=>none
 |.load t a=>match rd P tm a with
  |some p=>(s.loadVar P t p).map fun v=>.val v s
  |none=>none
 |.store t a x=>match rd P tm a,rd P tm x with
  |some p,some v=>(s.storeVar P t v p).map .skip
  |_,_=>none
 |.nilCheck x=>match rd P tm x with
  |some .nilPtr|some .nilIface|some .tu|some .wK|some (.S _)|some (.gy ..)=>none
  |some (.fn (.func f) a b)=>some (.val (.fn (.func f) a b) s)
  |some (.fn ..)=>none
  |some v=>some (.val v s)
  |none=>none
 |.binOp op t x y _=>match rd P tm x,rd P tm y with
  |some .nilIface,some .nilIface=>if Lc x||Lc y then(nP P t op .nilIface .nilIface).map fun v=>.val v s else none
  |some a,some b=>(nP P t op a b).map fun v=>.val v s
  |_,_=>none
 |.unOp op _ x=>match op,rd P tm x with
  |.neg,some (.int k n)=>some (.val (.int k (k.wrap (0-n))) s)
  |.not,some (.bool b)=>some (.val (.bool (!b)) s)
  |_,_=>none
 |.makeFunc f first cap=>match zB P tm first.toList,zB P tm cap.toList with
  |some a,some b=>some (.val (.fn f a b) s)
  |_,_=>none
 |.makeMap t x=>match x with
  |none=>some (.val (.map s.nx) (s.new (.map [])))
  |some y=>match rd P tm y,P.underlying t with
   |some (.int _ _),some (.map _ _)=>some (.val (.map s.nx) (s.new (.map [])))
   |_,_=>none
 |.slice t x lo J q=>match q,P.underlying t,rd P tm x with
  |none,some .string,some (.str l)=>match bound P J tm l.length with
   |some h=>match bound P lo tm 0 with
    |some k=>if k<=h/\h<=l.length then some (.val (.str ((l.take h).drop k)) s) else none
    |none=>none
   |none=>none
  |none,some (.slice e),some (.slice b o n c z)=>if uR P e=some z then match bound P J tm n with
   |some h=>match bound P lo tm 0 with
    |some k=>if k<=h/\h<=c then(if k<c then some (.val (.slice b (o+k*z) (h-k) (c-k) z) s) else some (.val .rF s)) else none
    |none=>none
   |none=>none
   else none
  |some y,some (.slice e),some (.slice b o n c z)=>if uR P e=some z/\J.isSome=true then match bound P J tm n,bound P (some y) tm 0 with
   |some h,some m=>match bound P lo tm 0 with
    |some k=>if k<=h/\h<=m/\m<=c then(if k<m then some (.val (.slice b (o+k*z) (h-k) (m-k) z) s) else some (.val .rF s)) else none
    |none=>none
   |_,_=>none
   else none
  |none,some (.slice e),some .aV=>match uR P e,bound P J tm 0,bound P lo tm 0 with
   |some _,some 0,some 0=>some (.val .aV s)
   |_,_,_=>none
  |none,some (.slice e),some .rF=>match uR P e,bound P J tm 0,bound P lo tm 0 with
   |some _,some 0,some 0=>some (.val .rF s)
   |_,_,_=>none
  |_,_,_=>none
 |.fieldAddr t x f=>match Sg P t f,rd P tm x with
  |some d,some (.ptr b o)=>match uR P d.type with
   |some (_+1)=>some (.val (.ptr b (o+d.offset)) s)
   |_=>none
  |_,_=>none
 |.field t x f=>match Sg P t f,rd P tm x with
  |some d,some (.agg cs)=>(ZL P d.type cs d.offset).map fun v=>.val v s
  |_,_=>none
 |.indexAddr t x i=>match P.underlying t,rd P tm x,rd P tm i with
  |some j,some v,some (.int _ (.ofNat k))=>match j,v with
   |.array n e,.ptr b o=>if k<n then(uR P e).map fun z=>.val (.ptr b (o+k*z)) s else none
   |.slice e,.slice b o n _ z=>if k<n/\uR P e=some z then some (.val (.ptr b (o+k*z)) s) else none
   |_,_=>none
  |_,_,_=>none
 |.index t x i=>match P.underlying t,rd P tm x,rd P tm i with
  |some j,some v,some (.int _ (.ofNat k))=>match j,v with
   |.array n e,.agg cs=>if k<n then(match uR P e with|some z=>(ZL P e cs (k*z)).map fun v=>.val v s|none=>none) else none
   |.string,.str l=>match l[k]? with
    |some c=>some (.val (.int .u8 (c:Int)) s)
    |none=>none
   |_,_=>none
  |_,_,_=>none
 |.lookup t m k ok=>match P.underlying t,rd P tm m,rd P tm k with
  |some (.map kt e),some v,some key=>if SQ P kt key then(match s.entries v,zeroV P e with
   |some es,some z=>match yG key es 0 with
    |some (some (_,v))=>some (.val (if ok then .tuple [v,.bool true] else v) s)
    |some none=>some (.val (if ok then .tuple [z,.bool false] else z) s)
    |none=>none
   |_,_=>none) else none
  |_,_,_=>none
 |.mapUpdate t m k x|.insert t m k x=>s.agV P t (rd P tm m) (rd P tm k) (rd P tm x)
 |.extract t k=>match rd P tm t with
  |some (.tuple vs)=>(vs[k]?).map fun v=>.val v s
  |_=>none
 |.call c=>match zB P tm c.args.toList with
  |none=>none
  |some args=>match c.callee with
   |.builtin b=>Gi P s b c.argTypes.toList args
   |.value f=>match rd P tm f with
    |some (.fn (.func g) first cap)=>if enters P g then some (.enter g (first++args++cap) s) else none
    |_=>none
   |_=>none
 |_=>none
end
variable {d:D}
section
open Go Go.RowKit
section
variable {E:Env} {X:Ctx}
structure Loc where
 g:Nat
 d:Nat
 m:Nat
structure Mp where
 at_:Nat->Option Loc
 fz:Nat->Option Obj
instance:CoeFun Mp (fun _=>Nat->ah Loc):=⟨Mp.at_⟩
def bC (l:G Nat):dA:=⟨(l.map UInt8.ofNat).toArray⟩
mutual
def DR (fz:Nat->ah Obj):D->av->Prop
 |.int k n,v=>v=.int k n
 |.bool b,v=>v=.bool b
 |.str l,v=>v=.string (bC l)/\∀x∈l,x<256
 |.R rows,v=>∃a cap,v=.slice a rows.length cap/\rows.length<=cap/\cap<=maxLen/\(rows=[]\/∃g d arr T fr z,a=some ⟨g,d,none⟩/\fz g=some (.cells arr T fr)/\iV fz z rows arr d)
 |.any _,_=>False
def mR (fz:Nat->ah Obj):G D->dF av->Nat->Prop
 |[],_,_=>True
 |c::cs,arr,d=>(∃u,arr[d]?=some u/\DR fz c u)/\mR fz cs arr (d+1)
def iV (fz:Nat->ah Obj) (z:Nat):G (G D)->dF av->Nat->Prop
 |[],_,_=>True
 |r::rs,arr,d=>r.length=z/\mR fz r arr d/\iV fz z rs arr (d+z)
end
def dX (a b:Nat->ah Obj):Prop:=∀g o,a g=some o->b g=some o
def agA (w:ak) (o:Obj) (k:Nat) (h:k<w.heap.size):(w.alloc o).heap[k]?=w.heap[k]?:=by
 first
 |exact abw w o k h
 |exact abw w o h
def dX.refl (a:Nat->ah Obj):dX a a:=fun _ _ h=>h
def dX.trans {c:Nat->ah Obj} (h:dX a j) (k:dX j c):dX a c:=fun g o e=>k g o (h g o e)
mutual
def DR.mono {a b:Nat->ah Obj} (e:dX a b):∀{d:D} {v:av},DR a d v->DR b d v
 |.int _ _,_,h=>h
 |.bool _,_,h=>h
 |.str _,_,h=>h
 |.any _,_,h=>h
 |.R rows,_,⟨j,cap,l,q,u,w⟩=>⟨j,cap,l,q,u,w.imp id fun⟨g,d,arr,T,fr,z,y,A,E⟩=>⟨g,d,arr,T,fr,z,y,e g _ A,iV.mono e E⟩⟩
def mR.mono {a b:Nat->ah Obj} (e:dX a b):∀{cs:G D} {arr:dF av} {d:Nat},mR a cs arr d->mR b cs arr d
 |[],_,_,_=>True.intro
 |_::_,_,_,⟨⟨u,h,j⟩,l⟩=>⟨⟨u,h,DR.mono e j⟩,mR.mono e l⟩
def iV.mono {a b:Nat->ah Obj} (e:dX a b) {z:Nat}:∀{rs:G (G D)} {arr:dF av} {d:Nat},iV a z rs arr d->iV b z rs arr d
 |[],_,_,_=>True.intro
 |_::_,_,_,⟨h,j,l⟩=>⟨h,mR.mono e j,iV.mono e l⟩
end
def GR (fz:Nat->ah Obj) (d:D) (v:av):Prop:=match d with
 |.any x=>v=x
 |d=>DR fz d v
def GR.mono {a b:Nat->ah Obj} (e:dX a b) {d:D} {v:av} (h:GR a d v):GR b d v:=by
 cases d with
 |any x=>exact h
 |_=>exact DR.mono e h
def GR.dr (hn:∀x,d≠.any x) (h:GR a d v):DR a d v:=by
 cases d with
 |any x=>exact absurd rfl (hn x)
 |_=>exact h
def GR.of (h:DR a d v):GR a d v:=by
 cases d with
 |any x=>exact h.elim
 |_=>exact h
def DR.form (h:DR j d v):(∃k n,v=.int k n)\/(∃b,v=.bool b)\/(∃s,v=.string s)\/∃a n c,v=.slice a n c:=by
 cases d with
 |int k n=>exact .inl ⟨k,n,h⟩
 |bool b=>exact .inr (.inl ⟨b,h⟩)
 |str l=>exact .inr (.inr (.inl ⟨_,h.1⟩))
 |R rows=>obtain⟨a,cap,h,_⟩:=h;exact .inr (.inr (.inr ⟨a,_,cap,h⟩))
 |any _=>exact h.elim
def mR.get {fz:Nat->ah Obj}:∀{cs:G D} {arr:dF av} {d j:Nat} {c:D},mR fz cs arr d->cs[j]?=some c->∃u,arr[d+j]?=some u/\DR fz c u
 |[],_,_,_,_,_,h=>by simp at h
 |x::cs,arr,d,0,c,⟨⟨u,e,l⟩,_⟩,h=>by simp at h;subst h;exact⟨u,e,l⟩
 |x::cs,arr,d,j+1,c,⟨_,q⟩,h=>by
  obtain⟨u,w,y⟩:=q.get (j:=j) rM;exact⟨u,by rw[<-w];congr 1;omega,y⟩
def iV.get {fz:Nat->ah Obj} {z:Nat}:∀{rs:G (G D)} {arr:dF av} {d i:Nat} {r:G D},iV fz z rs arr d->rs[i]?=some r->r.length=z/\mR fz r arr (d+i*z)
 |[],_,_,_,_,_,h=>by simp at h
 |x::rs,arr,d,0,r,⟨e,j,_⟩,h=>by simp at h;subst h;exact⟨e,by simpa using j⟩
 |x::rs,arr,d,i+1,r,⟨_,_,l⟩,h=>by
  obtain⟨q,u⟩:=l.get (i:=i) rM;refine⟨q,?_⟩;rw[show d+(i+1)*z=d+z+i*z by rw[Iw];omega]
  exact u
mutual
def VR (E:Env) (ρ:Mp):H->av->Prop
 |.bool b,v=>v=.bool b
 |.int k n,v=>v=.int k n
 |.str l,v=>v=.string (bC l)/\∀x∈l,x<256
 |.nilPtr,v=>v=.pointer none
 |.ptr b o,v=>∃c,ρ b=some c/\v=.pointer (some ⟨c.g,c.d+o,none⟩)
 |.aV,v=>v=.slice none 0 0
 |.rF,v=>∃a c,v=.slice a 0 c
 |.vT,v=>∃a,v=.slice a 0 0
 |.slice b o n c z,v=>∃l cap,ρ b=some l/\v=.slice (some ⟨l.g,l.d+o,none⟩) n cap/\n<=c/\c<=cap/\cap<=maxLen/\o+cap*z<=l.m
 |.tC,v=>v=.map none
 |.map b,v=>∃l,ρ b=some l/\v=.map (some l.g)
 |.fn f a b,v=>∃h u,v=.func f (List.toArray h) (List.toArray u)/\fq E ρ a h/\fq E ρ b u
 |.tu,v=>v=.nilFunc
 |.iface t x,v=>∃y,v=.iface t y/\VR E ρ x y
 |.nilIface,v=>v=.nilIface
 |.agg cs,v=>∃h,v=.agg (List.toArray h)/\fq E ρ cs h
 |.tuple cs,v=>∃h,v=.tuple (List.toArray h)/\fq E ρ cs h
 |.wK,v=>∃l,v=.func (.yield l) #[] #[]
 |.S e,v=>∃d,den E.val e=some d/\DR ρ.fz d v
 |.gy b e z,v=>∃l cap rows,ρ b=some l/\den E.val e=some (.R rows)/\v=.slice (some ⟨l.g,l.d,none⟩) rows.length cap/\rows.length<=cap/\cap<=maxLen/\cap*z<=l.m
 |.fp a i j,v=>∃rows k n row arr T fr g q,den E.val a=some (.R rows)/\den E.val i=some (.int k (n:Nat))/\rows[n]?=some row/\ρ.fz g=some (.cells arr T fr)/\v=.pointer (some ⟨g,q+j,none⟩)/\mR ρ.fz row arr q
def fq (E:Env) (ρ:Mp):G H->G av->Prop
 |[],vs=>vs=[]
 |a::eY,vs=>∃x e,vs=x::e/\VR E ρ a x/\fq E ρ eY e
end
structure Ext (ρ σ:Mp):Prop where
 map:∀b l,ρ b=some l->σ b=some l
 fz:dX ρ.fz σ.fz
instance {ρ σ:Mp}:CoeFun (Ext ρ σ) (fun _=>∀b l,ρ b=some l->σ b=some l):=⟨Ext.map⟩
def Ext.refl (ρ:Mp):Ext ρ ρ:=⟨fun _ _ h=>h,.refl _⟩
def Ext.trans {a b c:Mp} (h:Ext a b) (k:Ext b c):Ext a c:=⟨fun x l e=>k x l (h x l e),h.fz.trans k.fz⟩
mutual
def VR.mono {ρ F:Mp} (u:Ext ρ F):∀{a:H} {v:av},VR E ρ a v->VR E F a v
 |.bool _,_,h=>h
 |.int _ _,_,h=>h
 |.str _,_,h=>h
 |.nilPtr,_,h=>h
 |.ptr _ _,_,⟨c,e,j⟩=>⟨c,u _ _ e,j⟩
 |.aV,_,h=>h
 |.rF,_,h=>h
 |.vT,_,h=>h
 |.slice ..,_,⟨l,cap,e,j⟩=>⟨l,cap,u _ _ e,j⟩
 |.tC,_,h=>h
 |.map _,_,⟨l,e,j⟩=>⟨l,u _ _ e,j⟩
 |.fn ..,_,⟨w,P,e,j,A⟩=>⟨w,P,e,fq.mono u j,fq.mono u A⟩
 |.tu,_,h=>h
 |.iface _ _,_,⟨y,e,j⟩=>⟨y,e,VR.mono u j⟩
 |.nilIface,_,h=>h
 |.agg _,_,⟨w,e,j⟩=>⟨w,e,fq.mono u j⟩
 |.tuple _,_,⟨w,e,j⟩=>⟨w,e,fq.mono u j⟩
 |.wK,_,h=>h
 |.S _,_,⟨d,e,j⟩=>⟨d,e,j.mono u.fz⟩
 |.gy ..,_,⟨l,cap,rows,e,j⟩=>⟨l,cap,rows,u _ _ e,j⟩
 |.fp ..,_,⟨rows,k,n,row,arr,T,fr,g,q,e,j,A,W,a',b'⟩=>⟨rows,k,n,row,arr,T,fr,g,q,e,j,A,u.fz _ _ W,a',b'.mono u.fz⟩
def fq.mono {ρ e:Mp} (j:Ext ρ e):∀{eY:G H} {vs:G av},fq E ρ eY vs->fq E e eY vs
 |[],_,h=>h
 |_::_,_,⟨x,l,q,u,w⟩=>⟨x,l,q,VR.mono j u,fq.mono j w⟩
end
def fq.length {ρ:Mp}:∀{eY:G H} {vs:G av},fq E ρ eY vs->vs.length=eY.length
 |[],_,h=>by rw[show _=[] from h];rfl
 |_::_,_,⟨_,_,e,_,j⟩=>by rw[e,gD,j.length,gD]
def fq.get {ρ:Mp}:∀{eY:G H} {vs:G av} {i:Nat} {a:H},fq E ρ eY vs->eY[i]?=some a->∃v,vs[i]?=some v/\VR E ρ a v
 |[],_,_,_,_,h=>by simp at h
 |_::_,_,0,_,⟨x,j,e,l,_⟩,h=>by simp at h;subst h;exact⟨x,by rw[e];rfl,l⟩
 |_::_,_,i+1,_,⟨x,j,e,_,q⟩,h=>by
  obtain⟨v,u,U⟩:=q.get (i:=i) rM;exact⟨v,by rw[e];simpa using u,U⟩
def fq.append {ρ:Mp}:∀{eY bs:G H} {vs ws:G av},fq E ρ eY vs->fq E ρ bs ws->fq E ρ (eY++bs) (vs++ws)
 |[],_,_,_,h,k=>by rw[show _=[] from h];exact k
 |_::_,_,_,_,⟨x,e,j,l,q⟩,k=>⟨x,e++_,by rw[j];rfl,l,q.append k⟩
def fq.take {ρ:Mp}:∀{eY:G H} {vs:G av} (n:Nat),fq E ρ eY vs->fq E ρ (eY.take n) (vs.take n)
 |[],_,n,h=>by rw[show _=[] from h];simp[fq]
 |_::_,_,0,_=>by simp[fq]
 |_::_,_,n+1,⟨x,e,j,l,q⟩=>⟨x,e.take n,by rw[j];rfl,l,q.take n⟩
def fq.drop {ρ:Mp}:∀{eY:G H} {vs:G av} (n:Nat),fq E ρ eY vs->fq E ρ (eY.drop n) (vs.drop n)
 |[],_,n,h=>by rw[show _=[] from h];simp[fq]
 |_::_,_,0,h=>h
 |_::_,_,n+1,⟨x,l,e,_,j⟩=>by rw[e];exact j.drop n
structure FR (E:Env) (ρ:Mp) (tm:Tr H) (tmps:Array Value):Prop where
 get:∀t x,tm.get t=some x->∃v,tmps[t]?=some v/\VR E ρ x v
def FR.mono {ρ j:Mp} {tm:Tr H} {e:dF av} (h:FR E ρ tm e) (l:Ext ρ j):FR E j tm e:=
 ⟨fun t x q=>let ⟨v,u,w⟩:=h.get t x q;⟨v,u,w.mono l⟩⟩
def FR.put {ρ:Mp} {tm:Tr H} (h:FR E ρ tm F) {x:H} (e:b<F.size) (j:VR E ρ x v):FR E ρ (tm.set b x) (F.setIfInBounds b v):=by
 refine⟨fun t y l=>?_⟩;rcases Tr.jc l with⟨rfl,rfl⟩|⟨q,w⟩
 ·exact⟨v,by simp[e],j⟩
 ·obtain⟨u,A,P⟩:=h.get t y w
  exact⟨u,by rw[aaV (nJ q)];exact A,P⟩
def vX (E:Env) (ρ:Mp):G (H×H)->G Cg->Prop
 |[],es=>es=[]
 |(k,v)::r,es=>∃e h,es=e::h/\VR E ρ k e.key/\VR E ρ v e.val/\vX E ρ r h
def vX.mono {ρ l:Mp} (j:Ext ρ l):∀{eY:G (H×H)} {es:G Cg},vX E ρ eY es->vX E l eY es
 |[],_,h=>h
 |_::_,_,⟨e,es,q,u,w,y⟩=>⟨e,es,q,u.mono j,w.mono j,y.mono j⟩
def OR (E:Env) (base:Nat) (ρ:Mp) (w:ak) (l:Loc):AO->Prop
 |.cells ro vs n=>∃arr e fr,w.heap[l.g]?=some (.cells arr e fr)/\(ro=false->arr.size=l.d+l.m)/\n<=l.m/\
  (∀j x,vs.get j=some x->j<n/\∃v,arr[l.d+j]?=some v/\VR E ρ x v)/\(ro=false->base<=l.g/\fr=(0,0))
 |.map es=>base<=l.g/\∃arr cl,w.heap[l.g]?=some (.map arr cl)/\vX E ρ es arr.toList
 |.Uj s pos=>base<=l.g/\w.heap[l.g]?=some (.stringIter (bC s) pos)/\l.d=0/\∀x∈s,x<256
 |.seq z e=>base<=l.g/\∃arr T rows,w.heap[l.g]?=some (.cells arr T (0,0))/\den E.val e=some (.R rows)/\arr.size=l.d+l.m/\rows.length*z<=l.m/\iV ρ.fz z rows arr l.d
 |.row z e=>∃arr T fr rows,ρ.fz l.g=some (.cells arr T fr)/\w.heap[l.g]?=some (.cells arr T fr)/\den E.val e=some (.R rows)/\iV ρ.fz z rows arr l.d
def AO.wr:AO->Prop
 |.cells ro _ _=>ro=false
 |.row _ _=>False
 |_=>True
def OR.mono {base:Nat} {ρ b':Mp} {w w':ak} {l:Loc} {o:AO} (h:OR E base ρ w l o) (y:Ext ρ b') (A:w'.heap[l.g]?=w.heap[l.g]?):OR E base b' w' l o:=by
 cases o with
 |cells ro vs n=>
  obtain⟨arr,e,fr,q,u,F,W,a'⟩:=h;exact⟨arr,e,fr,A.trans q,u,F,fun j x c'=>let ⟨a,v,b,c⟩:=W j x c';⟨a,v,b,c.mono y⟩,a'⟩
 |map es=>
  obtain⟨P,arr,cl,q,u⟩:=h;exact⟨P,arr,cl,A.trans q,u.mono y⟩
 |Uj s pos=>exact⟨h.1,A.trans h.2.1,h.2.2⟩
 |seq z e=>
  obtain⟨P,arr,T,rows,q,u,F,W,a'⟩:=h;exact⟨P,arr,T,rows,A.trans q,u,F,W,a'.mono y.fz⟩
 |row z e=>
  obtain⟨arr,T,fr,rows,P,q,u,F⟩:=h;exact⟨arr,T,fr,rows,y.fz _ _ P,A.trans q,u,F.mono y.fz⟩
def OR.lt {ρ:Mp} {l:Loc} {o:AO} (h:OR E b ρ w l o):l.g<w.heap.size:=by
 have:(w.heap[l.g]?).isSome=true:=by
  cases o with
  |cells ro vs n=>obtain⟨arr,e,fr,j,_⟩:=h;rw[j];rfl
  |map es=>obtain⟨_,arr,cl,j,_⟩:=h;rw[j];rfl
  |Uj s pos=>rw[h.2.1];rfl
  |seq z e=>obtain⟨_,arr,T,rows,j,_⟩:=h;rw[j];rfl
  |row z e=>obtain⟨arr,T,fr,rows,_,j,_⟩:=h;rw[j];rfl
 simpa using this
def OR.base {base:Nat} {ρ:Mp} {w:ak} {l:Loc} {o:AO} (h:OR E base ρ w l o) (j:o.wr):base<=l.g:=by
 cases o with
 |cells ro vs n=>obtain⟨arr,e,fr,_,_,_,_,q⟩:=h;exact(q j).1
 |map es=>exact h.1
 |Uj s pos=>exact h.1
 |seq z e=>exact h.1
 |row z e=>exact j.elim
structure HR (E:Env) (base:Nat) (ρ:Mp) (s:St) (w:World):Prop where
 pK:∀b o,s.aP.get b=some o->∃l,ρ b=some l/\OR E base ρ w l o
 apart:∀b b' o o' l l',s.aP.get b=some o->s.aP.get b'=some o'->b≠b'->o.wr->ρ b=some l->ρ b'=some l'->l.g≠l'.g
 fresh:ρ s.nx=none/\∀b,s.J<=b->ρ b=none
 base:base<=w.heap.size
 nM:∀g o,ρ.fz g=some o->w.heap[g]?=some o
 oC:∀b o l,s.aP.get b=some o->o.wr->ρ b=some l->ρ.fz l.g=none
structure fA (ρ:Mp) (s:St) (w:World) (σ:Mp) (s':St) (w':World):Prop where
 ext:Ext ρ σ
 nx:s.J<=s'.J/\(s'.nx=s.nx\/s.J<=s'.nx)
 os:w'.os=w.os
 tape:w'.tape=w.tape
 output:w'.output=w.output
 size:w.heap.size<=w'.heap.size
 block:∀g,g<w.heap.size->(∀b o l,s.aP.get b=some o->o.wr->ρ b=some l->l.g≠g)->w'.heap[g]?=w.heap[g]?
 from_:∀b o l,s'.aP.get b=some o->σ b=some l->w.heap.size<=l.g\/∃b0 o0 l0,s.aP.get b0=some o0/\ρ b0=some l0/\l0.g=l.g/\(o.wr->o0.wr)
 qR:∀b,b<s.J->b≠s.nx->σ b=ρ b
 wD:∀g o,σ.fz g=some o->ρ.fz g=some o\/w.heap.size<=g\/∃b o' l,s.aP.get b=some o'/\o'.wr/\ρ b=some l/\l.g=g
def fA.refl {base:Nat} {ρ:Mp} {s:St} {w:ak} (_:HR E base ρ s w):fA ρ s w ρ s w:=
 ⟨Ext.refl _,⟨bq _,.inl rfl⟩,rfl,rfl,rfl,bq _,fun _ _ _=>rfl,fun b o l e j=>.inr ⟨b,o,l,e,j,rfl,id⟩,fun _ _ _=>rfl,fun _ _ h=>.inl h⟩
def fA.trans {ρ h' i':Mp} {s s' a':St} {w w' b':ak} (h:fA ρ s w h' s' w') (k:fA h' s' w' i' a' b'):fA ρ s w i' a' b':=by
 refine⟨h.ext.trans k.ext,⟨fF h.nx.1 k.nx.1,by have:=h.nx;have:=k.nx;omega⟩,k.os.trans h.os,k.tape.trans h.tape,k.output.trans h.output,fF h.size k.size,fun g W hn=>?_,fun b o l q c'=>?_,fun b q j'=>(k.qR b (lZ q h.nx.1) (by have:=h.nx;omega)).trans (h.qR b q j'),fun g o W=>?_⟩
 ·rw[k.block g (lZ W h.size) fun b o l q d' c' e=>?_]
  ·exact h.block g W hn
  ·rcases h.from_ b o l q c' with j|⟨u,y,A,j,E,F,P⟩
   ·omega
   ·exact hn u y A j (P d') E (F.trans e)
 ·rcases k.from_ b o l q c' with j|⟨u,y,A,j,E,F,P⟩
  ·exact .inl (fF h.size j)
  ·rcases h.from_ u y A j E with T|⟨k',l',m',T,e',f',g'⟩
   ·exact .inl I
   ·exact .inr ⟨k',l',m',T,e',f'.trans F,fun d'=>g' (P d')⟩
 ·rcases k.wD g o W with j|j|⟨b,o',l,j,E,F,P⟩
  ·exact h.wD g o j
  ·exact .inr (.inl (fF h.size j))
  ·rcases h.from_ b o' l j F with T|⟨u,y,A,T,e',f',g'⟩
   ·exact .inr (.inl I)
   ·exact .inr (.inr ⟨u,y,A,T,g' E,e',f'.trans P⟩)
def fA.below {ρ q:Mp} {s s':St} {w':ak} (h:fA ρ s w q s' w') (U:HR E i ρ s w):Below i w w':=
 ⟨h.os,h.tape,h.output,h.size,fun g u=>h.block g (lZ u U.base) fun b o l y A F e=>by
  obtain⟨l',j,P⟩:=U.pK b o y;rw[F] at j;obtain rfl:=bI j;have:=P.base A;omega⟩
def HR.at {base:Nat} {ρ:Mp} {s:St} {w:ak} (h:HR E base ρ s w) {b:Nat} {o:AO} {l:Loc} (j:s.aP.get b=some o) (q:ρ b=some l):OR E base ρ w l o:=by
 obtain⟨l',e,u⟩:=h.pK b o j;rw[q] at e;obtain rfl:=bI e;exact u
def Lx {vs:Tr H}:∀{n o:Nat} {cs:G H},BQ vs o n=some cs->cs.length=n/\∀j x,cs[j]?=some x->vs.get (o+j)=some x
 |0,_,_,h=>by simp[BQ] at h;subst h;simp
 |n+1,o,cs,h=>by
  simp only[BQ] at h;cases h1:vs.get o with
  |none=>simp[h1] at h
  |some v=>
   cases h2:BQ vs (o+1) n with
   |none=>simp[h1,h2] at h
   |some r=>
    simp[h1,h2] at h;subst h;obtain⟨e,l⟩:=Lx h2;refine⟨by simp[e],fun j x hj=>?_⟩
    cases j with
    |zero=>simp at hj;rw[qy,h1,hj]
    |succ j=>have:=l j x yx;rw[<-this];congr 1;omega
def fq.TA {ρ:Mp}:∀{eY:G H} (f:Nat->ah av),(∀j x,eY[j]?=some x->∃v,f j=some v/\VR E ρ x v)->∃vs,fq E ρ eY vs/\∀j v,vs[j]?=some v->f j=some v
 |[],f,_=>⟨[],rfl,by simp⟩
 |a::eY,f,h=>by
  obtain⟨v,l,U⟩:=h 0 a rfl;obtain⟨vs,q,w⟩:=fq.TA (eY:=eY) (fun j=>f (j+1)) (fun j x hj=>h (j+1) x yx);refine⟨v::vs,⟨v,vs,rfl,U,q⟩,fun j u e=>?_⟩;cases j with
  |zero=>simp at e;subst e;exact l
  |succ j=>exact w j u (by simpa using e)
def HR.load {base:Nat} {ρ:Mp} {s:St} {w:ak} (h:HR E base ρ s w) {b o n:Nat} {cs:G H} {l:Loc} (A:ρ b=some l) (q:s.load b o n=some cs):
 ∃vs,fq E ρ cs vs/\vs.length=n/\∀j v,vs[j]?=some v->w.cell? ⟨l.g,l.d+o+j,none⟩=some v:=by
 unfold St.load at q;cases hb:s.aP.get b with
 |none=>simp[hb] at q
 |some F=>
  cases F with
  |map _=>simp[hb] at q
  |Uj _ _=>simp[hb] at q
  |seq _ _=>simp[hb] at q
  |row _ _=>simp[hb] at q
  |cells ro vs k=>
   simp only[hb] at q;obtain⟨arr,e,fr,P,d',e',T,_⟩:=h.at hb A;obtain⟨W,a'⟩:=Lx q;obtain⟨us,y,b'⟩:=fq.TA (E:=E) (ρ:=ρ) (eY:=cs) (fun j=>arr[l.d+o+j]?) (fun j x c'=>by
    obtain⟨_,v,u,U⟩:=T (o+j) x (a' j x c');exact⟨v,by rw[Eh];exact u,U⟩)
   exact⟨us,y,y.length.trans W,fun j v u=>by rw[gX w _ _ _ _ _ P];exact b' j v u⟩
end
end
section
open Go.Shelf
def Tryz.aF5:Go.Shelf.Ren:=⟨fun|174=>131|247=>143|245=>144|287=>156|279=>157|280=>158|281=>159|282=>160|321=>167|322=>168|316=>169|171=>171|205=>170|243=>172|246=>173|283=>174|284=>175|285=>176|286=>177|129=>179|317=>178|318=>180|319=>181|320=>182|337=>183|338=>184|n=>n,fun|9=>9|3=>3|2=>2|75=>167|85=>168|4=>4|167=>187|5=>5|53=>171|175=>188|46=>190|168=>191|37=>79|0=>0|210=>200|21=>21|127=>203|145=>206|143=>204|171=>208|173=>211|212=>214|51=>215|20=>20|213=>216|232=>219|233=>220|80=>221|n=>n,fun|15=>5|16=>6|17=>7|18=>8|19=>9|n=>n⟩
def Tryz.as1:Go.Proofs.LaysC.n174 Tryz.prog Tryz.aF5:={
 mixed:=by kernel_rfl
 f129:=Tryz.func179.trans (iE some aS)
 f171:=Tryz.func171.trans (iE some aS)
 f174:=Tryz.func131.trans (iE some aS)
 f205:=Tryz.func170.trans (iE some aS)
 f243:=Tryz.func172.trans (iE some aS)
 f245:=Tryz.func144.trans (iE some aS)
 f246:=Tryz.func173.trans (iE some aS)
 f247:=Tryz.func143.trans (iE some aS)
 f279:=Tryz.func157.trans (iE some aS)
 f280:=Tryz.func158.trans (iE some aS)
 f281:=Tryz.func159.trans (iE some aS)
 f282:=Tryz.func160.trans (iE some aS)
 f283:=Tryz.func174.trans (iE some aS)
 f284:=Tryz.func175.trans (iE some aS)
 f285:=Tryz.func176.trans (iE some aS)
 f286:=Tryz.func177.trans (iE some aS)
 f287:=Tryz.func156.trans (iE some aS)
 f316:=Tryz.func169.trans (iE some aS)
 f317:=Tryz.func178.trans (iE some aS)
 f318:=Tryz.func180.trans (iE some aS)
 f319:=Tryz.func181.trans (iE some aS)
 f320:=Tryz.func182.trans (iE some aS)
 f321:=Tryz.func167.trans (iE some aS)
 f322:=Tryz.func168.trans (iE some aS)
 f337:=Tryz.func183.trans (iE some aS)
 f338:=Tryz.func184.trans (iE some aS)
 t0:=Tryz.underlying0
 a0:=Tryz.isAgg0
 z0:=Tryz.sizeOf0
 v0:=Tryz.zeroValue0
 t2:=Tryz.underlying2
 a2:=Tryz.isAgg2
 z2:=Tryz.sizeOf2
 v2:=Tryz.zeroValue2
 t3:=abk
 a3:=Tryz.isAgg3
 z3:=Tryz.sizeOf3
 v3:=Tryz.zeroValue3
 t4:=UR
 a4:=Tryz.isAgg4
 z4:=Tryz.sizeOf4
 v4:=Tryz.zeroValue4
 t5:=UU
 a5:=Tryz.isAgg5
 z5:=Tryz.sizeOf5
 v5:=Tryz.zeroValue5
 t9:=A_
 a9:=Tryz.isAgg9
 z9:=abj
 v9:=abm
 t20:=Tryz.underlying20
 a20:=Tryz.isAgg20
 z20:=Tryz.sizeOf20
 v20:=Tryz.zeroValue20
 t21:=Tryz.underlying21
 a21:=Tryz.isAgg21
 z21:=Tryz.sizeOf21
 v21:=Tryz.zeroValue21
 t37:=Cq
 a37:=Tryz.isAgg79
 z37:=Tryz.sizeOf79
 v37:=Tryz.zeroValue79
 t46:=Tryz.underlying190
 a46:=Tryz.isAgg190
 z46:=Tryz.sizeOf190
 v46:=Tryz.zeroValue190
 t51:=Tryz.underlying215
 a51:=Tryz.isAgg215
 z51:=Tryz.sizeOf215
 v51:=Tryz.zeroValue215
 t53:=Tryz.underlying171
 a53:=Tryz.isAgg171
 z53:=Tryz.sizeOf171
 v53:=Tryz.zeroValue171
 t75:=ai9
 a75:=Tryz.isAgg167
 z75:=Tryz.sizeOf167
 v75:=Tryz.zeroValue167
 t85:=Tryz.underlying168
 a85:=Tryz.isAgg168
 z85:=Tryz.sizeOf168
 v85:=Tryz.zeroValue168
 t127:=Tryz.underlying203
 a127:=Tryz.isAgg203
 z127:=Tryz.sizeOf203
 v127:=Tryz.zeroValue203
 t143:=aja
 a143:=Tryz.isAgg204
 z143:=Tryz.sizeOf204
 v143:=Tryz.zeroValue204
 t145:=ajb
 a145:=Tryz.isAgg206
 z145:=Tryz.sizeOf206
 v145:=Tryz.zeroValue206
 t167:=Tryz.underlying187
 a167:=Tryz.isAgg187
 z167:=Tryz.sizeOf187
 v167:=Tryz.zeroValue187
 t168:=Tryz.underlying191
 a168:=Tryz.isAgg191
 z168:=Tryz.sizeOf191
 v168:=Tryz.zeroValue191
 t171:=Tryz.underlying208
 a171:=Tryz.isAgg208
 z171:=Tryz.sizeOf208
 v171:=Tryz.zeroValue208
 t173:=Tryz.underlying211
 a173:=Tryz.isAgg211
 z173:=Tryz.sizeOf211
 v173:=Tryz.zeroValue211
 t175:=Tryz.underlying188
 a175:=Tryz.isAgg188
 z175:=Tryz.sizeOf188
 v175:=Tryz.zeroValue188
 t210:=Tryz.underlying200
 a210:=Tryz.isAgg200
 z210:=Tryz.sizeOf200
 v210:=Tryz.zeroValue200
 t212:=Tryz.underlying214
 a212:=Tryz.isAgg214
 z212:=Tryz.sizeOf214
 v212:=Tryz.zeroValue214
 t213:=Tryz.underlying216
 a213:=Tryz.isAgg216
 z213:=Tryz.sizeOf216
 t232:=Tryz.underlying219
 a232:=Tryz.isAgg219
 z232:=Tryz.sizeOf219
 v232:=Tryz.zeroValue219
 t233:=Tryz.underlying220
 a233:=Tryz.isAgg220
 z233:=Tryz.sizeOf220
 v233:=Tryz.zeroValue220
 g15:=by kernel_rfl
 g16:=by kernel_rfl
 g17:=by kernel_rfl
 g18:=by kernel_rfl
 g19:=by kernel_rfl
 t80:=Tryz.underlying221
 a80:=Tryz.isAgg221
 z80:=Tryz.sizeOf221
 v80:=Tryz.zeroValue221
 i0:=by kernel_rfl
 i2:=by kernel_rfl
 i3:=by kernel_rfl
 i4:=by kernel_rfl
 i5:=by kernel_rfl
 i9:=by kernel_rfl
 i20:=by kernel_rfl
 i21:=by kernel_rfl
 i37:=by kernel_rfl
 i46:=by kernel_rfl
 i51:=by kernel_rfl
 i53:=by kernel_rfl
 i75:=by kernel_rfl
 i80:=by kernel_rfl
 i85:=by kernel_rfl
 i127:=by kernel_rfl
 i143:=by kernel_rfl
 i145:=by kernel_rfl
 i167:=by kernel_rfl
 i168:=by kernel_rfl
 i171:=by kernel_rfl
 i173:=by kernel_rfl
 i175:=by kernel_rfl
 i210:=by kernel_rfl
 i212:=by kernel_rfl
 i232:=by kernel_rfl
 i233:=by kernel_rfl
 m15:=by kernel_rfl
 m16:=by kernel_rfl
 m17:=by kernel_rfl
 m18:=by kernel_rfl
 m19:=by kernel_rfl
 c0:=by kernel_rfl
 c2:=by kernel_rfl
 c3:=by kernel_rfl
 c4:=by kernel_rfl
 c5:=by kernel_rfl
 c9:=by kernel_rfl
 c20:=by kernel_rfl
 c21:=by kernel_rfl
 c37:=by kernel_rfl
 c46:=by kernel_rfl
 c51:=by kernel_rfl
 c53:=by kernel_rfl
 c75:=by kernel_rfl
 c80:=by kernel_rfl
 c85:=by kernel_rfl
 c127:=by kernel_rfl
 c143:=by kernel_rfl
 c145:=by kernel_rfl
 c167:=by kernel_rfl
 c168:=by kernel_rfl
 c171:=by kernel_rfl
 c173:=by kernel_rfl
 c175:=by kernel_rfl
 c210:=by kernel_rfl
 c212:=by kernel_rfl
 c213:=by kernel_rfl
 c232:=by kernel_rfl
 c233:=by kernel_rfl}
open Go.RowKit in
def Tryz.strconv_ParseInt_10_at64_ok (s:dA) (j:s.size<=9223372036854775806) (v:Int) (h:Lib.parseIntB 64 s.data.toList=.ok v) (w:ak):
 Calls Tryz.prog 131 #[.string s,.int .i64 10,.int .i64 64] w fun e w'=>e=.returned (.tuple #[.int .i64 v,.nilIface])/\(w'=w\/∃t,w'=Lib.bytesWorld w 5 t):=Any.strconv_ParseInt_10_at64_ok Tryz.as1 s j v h w
open Go.RowKit in
def Tryz.strconv_ParseInt_10_at64_range (s:dA) (l:s.size<=281474976710656) (h:Lib.parseIntB 64 s.data.toList=.range) (j:av) (w:ak) (u:w.cell? ⟨6,0,none⟩=some j) (q:j=.nilIface\/∃y A,j=.iface y A):
 Calls Tryz.prog 131 #[.string s,.int .i64 10,.int .i64 64] w fun e w'=>∃u_,e=.returned (.tuple #[.int .i64 (Lib.intSat 64 s.data.toList),.iface 191 (.pointer (some ⟨u_,0,none⟩))])/\w.heap.size<=u_/\w'.heap[u_]?=some (.cells #[.string ⟨#[80,97,114,115,101,73,110,116]⟩,.string s,j] 200 (0,0))/\Below w.heap.size w w':=Any.strconv_ParseInt_10_at64_range Tryz.as1 s l h j w u q
def Tryz.aF2:Go.Shelf.Ren:=⟨fun|101=>130|208=>142|206=>155|n=>n,fun|9=>9|4=>4|3=>3|n=>n,fun|n=>n⟩
def Tryz.aF1:Go.Proofs.Lays.n101 Tryz.prog Tryz.aF2:={
 mixed:=by kernel_rfl
 f101:=Tryz.func130.trans (iE some aS)
 f206:=Tryz.func155.trans (iE some aS)
 f208:=Tryz.func142.trans (iE some aS)
 t3:=abk
 a3:=Tryz.isAgg3
 z3:=Tryz.sizeOf3
 v3:=Tryz.zeroValue3
 t4:=UR
 a4:=Tryz.isAgg4
 z4:=Tryz.sizeOf4
 v4:=Tryz.zeroValue4
 t9:=A_
 a9:=Tryz.isAgg9
 z9:=abj
 v9:=abm}
open Go.RowKit Go.Lib in
def Tryz.strings_TrimPrefix (s p:dA) (w:ak):
 Calls Tryz.prog 130 #[.string s,.string p] w fun e w'=>e=.returned (.string ⟨(Lib.trimPrefix s.data.toList p.data.toList).toArray⟩)/\w'=w:=Any.strings_TrimPrefix Tryz.aF1 s p w
end
end
end Go.Proofs.YtdjcfaaongngeaaGreatDoor

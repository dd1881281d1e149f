/- A part of the proof: see the last text. -/
import Derived.Test.YtdjcfaaongngeaaGreatDoorZa
set_option linter.all false
set_option maxRecDepth 100000
set_option maxHeartbeats 0
namespace Go.Proofs.YtdjcfaaongngeaaGreatDoor
noncomputable section
variable {b g i:Nat}
section
inductive Fr where
 |nil:Fr
 |cons (k:Int) (t:List UInt8) (kids:Fr) (o:Int) (rest:Fr):Fr
def Fr.len:Fr->Nat
 |.nil=>0
 |.cons _ _ _ _ r=>r.len+1
def Fr.app:Fr->Fr->Fr
 |.nil,b=>b
 |.cons k t c o r,b=>.cons k t c o (r.app b)
def Fr.size:Fr->Nat
 |.nil=>0
 |.cons _ _ c _ r=>c.size+r.size+1
def Fr.S9 (a b:Fr):(a.app b).len=a.len+b.len:=by
 induction a with
 |nil=>simp[Fr.app,Fr.len]
 |cons k t c o r _ e=>simp[Fr.app,Fr.len,e];omega
def Fr.as3 (a:Fr):a.len<=a.size:=by
 induction a with
 |nil=>simp[Fr.len]
 |cons k t c o r _ e=>simp[Fr.len,Fr.size];omega
def zx (c:Int):aK:=(decide (97<=c)&&decide (c<=122))||(decide (65<=c)&&decide (c<=90))
def jJ (c:Int):aK:=decide (48<=c)&&decide (c<=57)
def pq (c:Int):aK:=zx c||jJ c||c==95||c==45
def AB (c:Int):aK:=decide (32<=c)&&decide (c<=126)
def RI (c:Int):jJ c=true↔48<=c/\c<=57:=by simp[jJ]
def aOp (c:Int):pq c=true↔(97<=c/\c<=122)\/(65<=c/\c<=90)\/(48<=c/\c<=57)\/c=95\/c=45:=by
 simp[pq,zx,jJ,or_assoc]
def awf (c:Int):AB c=true↔32<=c/\c<=126:=by simp[AB]
def bt (c:dG):Int:=(c.toNat:Int)
abbrev Stack:=G (Nat×Fr)
def addTop (k:Int) (t:G dG) (kids:Fr) (o:Nat):Stack->Stack
 |[]=>[]
 |(p,l)::st=>(p,l.app (.cons k t kids (o:Int) .nil))::st
inductive Mode where
 |plain:Mode
 |comment:Mode
 |word (start:Nat) (acc:List UInt8):Mode
 |text (start:Nat) (acc:List UInt8):Mode
 |escape (start:Nat) (acc:List UInt8):Mode
abbrev IJ:=dV (Int×Nat) Fr
def act (c:dG) (pos:Nat) (st:Stack):dV (Int×Nat) (Mode×Stack):=
 if bt c==32||bt c==10 then .ok (.plain,st)
 else if bt c==59 then .ok (.comment,st)
 else if bt c==40 then(if st.length<=40 then .ok (.plain,(pos,.nil)::st) else .error (9,pos))
 else if bt c==41 then
  match st with
  |(p,l)::b::r=>.ok (.plain,addTop 3 [] l p (b::r))
  |_=>.error (2,pos)
 else if bt c==34 then .ok (.text pos [],st)
 else if pq (bt c) then .ok (.word pos [c],st)
 else .error (2,pos)
def Dg (pos:Nat):Stack->IJ
 |[(_,l)]=>.ok l
 |_=>.error (2,pos)
def Ik (start:Nat) (acc:G dG) (st:Stack):dV (Int×Nat) Stack:=
 if acc.length<=24 then .ok (addTop 1 acc .nil start st) else .error (4,start)
def go:G dG->Nat->Mode->Stack->IJ
 |[],pos,.plain,st=>Dg pos st
 |[],pos,.comment,st=>Dg pos st
 |[],pos,.word start acc,st=>
  match Ik start acc st with
  |.ok h=>Dg pos h
  |.error e=>.error e
 |[],pos,.text _ _,_=>.error (2,pos)
 |[],pos,.escape _ _,_=>.error (2,pos-1)
 |c::rest,pos,.plain,st=>
  match act c pos st with
  |.ok (m,h)=>go rest (pos+1) m h
  |.error e=>.error e
 |c::rest,pos,.comment,st=>if bt c==10 then go rest (pos+1) .plain st else go rest (pos+1) .comment st
 |c::rest,pos,.word start acc,st=>
  if pq (bt c) then go rest (pos+1) (.word start (acc++[c])) st
  else
   match Ik start acc st with
   |.ok h=>
    match act c pos h with
    |.ok (m,j)=>go rest (pos+1) m j
    |.error e=>.error e
   |.error e=>.error e
 |c::rest,pos,.text start acc,st=>
  if bt c==34 then(if acc.length<=2000 then go rest (pos+1) .plain (addTop 2 acc .nil start st) else .error (4,start))
  else if AB (bt c) then
   (if bt c==92 then go rest (pos+1) (.escape start acc) st else go rest (pos+1) (.text start (acc++[c])) st)
  else .error (2,pos)
 |c::rest,pos,.escape start acc,st=>
  if bt c==34||bt c==92 then go rest (pos+1) (.text start (acc++[c])) st else .error (2,pos-1)
def parse (s:G dG):IJ:=if s.length<=65536 then go s 0 .plain [(0,.nil)] else .error (4,0)
def aoe {c:dG} {st:Stack} (h:bt c=32\/bt c=10):act c b st=.ok (.plain,st):=by
 rcases h with h|h<;>simp[act,h]
def an8 {c:dG} {st:Stack} (h:bt c=59):act c b st=.ok (.comment,st):=by simp[act,h]
def aod {c:dG} {st:Stack} (h:bt c=40) (e:st.length<=40):act c b st=.ok (.plain,(b,.nil)::st):=by simp[act,h,e]
def an9 {c:dG} {st:Stack} (h:bt c=40) (e:¬st.length<=40):act c b st=.error (9,b):=by simp[act,h,e]
def an7 {c:dG} {l l':Fr} {st:Stack} (h:bt c=41):act c b ((g,l)::(i,l')::st)=.ok (.plain,(i,l'.app (.cons 3 [] l g .nil))::st):=by simp[act,h,addTop]
def aob {c:dG} {x:Nat×Fr} (h:bt c=41):act c b [x]=.error (2,b):=by simp[act,h]
def aof {c:dG} {st:Stack} (h:bt c=34):act c b st=.ok (.text b [],st):=by simp[act,h]
def aog {c:dG} {st:Stack} (h:pq (bt c)=true):act c b st=.ok (.word b [c],st):=by
 have:=(aOp (bt c)).1 h;have e:¬bt c=32:=I;have j:¬bt c=10:=I;have l:¬bt c=59:=I;have q:¬bt c=40:=I;have u:¬bt c=41:=I;have w:¬bt c=34:=I;simp[act,e,j,l,q,u,w,h]
def an6 {c:dG} {pos:Nat} {st:Stack} (h:pq (bt c)=false) (e:¬bt c=32) (j:¬bt c=10) (l:¬bt c=59) (q:¬bt c=40) (u:¬bt c=41) (w:¬bt c=34):act c pos st=.error (2,pos):=by
 simp[act,e,j,l,q,u,w,h]
section
variable {s:G dG} {pos:Nat} {st:Stack}
def go_end (h:s.length<=pos):go (s.drop pos) pos .plain st=Dg pos st:=by
 rw[yQ h];rfl
def Ac (h:pos<s.length):s.drop pos=s[pos]::s.drop (pos+1):=awT h
def go_word_done (start:Nat) (acc:G dG) (h:∀j:pos<s.length,pq (bt s[pos])=false):
 go (s.drop pos) pos (.word start acc) st=match Ik start acc st with
  |.ok l=>go (s.drop pos) pos .plain l
  |.error e=>.error e:=by
 by_cases j:pos<s.length
 ·rw[Ac j]
  simp only[go,h j,Il,Me]
 ·rw[yQ I]
  simp only[go]
def go_word_more (start:Nat) (acc:G dG) (e:pos<s.length) (h:pq (bt s[pos])=true):
 go (s.drop pos) pos (.word start acc) st=go (s.drop (pos+1)) (pos+1) (.word start (acc++[s[pos]])) st:=by
 rw[Ac e];simp only[go,h,qX]
def go_comment_more (e:pos<s.length) (h:(bt s[pos]==10)=false):
 go (s.drop pos) pos .comment st=go (s.drop (pos+1)) (pos+1) .comment st:=by
 rw[Ac e];simp only[go,h,Il,Me]
def go_comment_done (h:∀e:pos<s.length,(bt s[pos]==10)=true):
 go (s.drop pos) pos .comment st=go (s.drop pos) pos .plain st:=by
 by_cases e:pos<s.length
 ·rw[Ac e]
  simp only[go,h e,qX,act,Bool.or_true]
 ·rw[yQ I]
  simp only[go]
end
end
section
open Go.RowKit
section
set_option maxHeartbeats 400000
def as5 (c:Int) (w:ak):Calls Tryz.prog 73 #[.int .u8 c] w fun e w'=>e=.returned (.bool (zx c))/\w=w':=by
 by_cases h:97<=c<;>by_cases j:c<=122<;>by_cases l:65<=c<;>by_cases q:c<=90<;>first|omega|skip
 all_goals
  go_enter Tryz.func73,Tryz.ntmps73;go_wp2;go_ret;exact⟨by simp[zx,h,j,l,q],rfl⟩
def RJ (c:Int) (w:ak):Calls Tryz.prog 74 #[.int .u8 c] w fun e w'=>e=.returned (.bool (jJ c))/\w=w':=by
 by_cases h:48<=c<;>by_cases j:c<=57<;>first|omega|skip
 all_goals
  go_enter Tryz.func74,Tryz.ntmps74;go_wp2;go_ret;exact⟨by simp[jJ,h,j],rfl⟩
def aNz (c:Int) (w:ak):Calls Tryz.prog 72 #[.int .u8 c] w fun e w'=>e=.returned (.bool (AB c))/\w=w':=by
 by_cases h:32<=c<;>by_cases j:c<=126<;>first|omega|skip
 all_goals
  go_enter Tryz.func72,Tryz.ntmps72;go_wp2;go_ret;exact⟨by simp[AB,h,j],rfl⟩
def awF (c:Int) (w:ak):Calls Tryz.prog 45 #[.int .u8 c] w fun e w'=>e=.returned (.bool (pq c))/\w=w':=by
 cases h1:zx c<;>cases h2:jJ c<;>cases h3:(c==95)<;>cases h4:(c==45)
 all_goals
  have h:=Q h1;have j:=Q h2;clear h1 h2;go_enter Tryz.func45,Tryz.ntmps45;go_wp2_with fail;refine(as5 _ _).mono ?_;rintro e w' ⟨rfl,rfl⟩;rw[h.out]
  try(go_wp2_with fail;refine(RJ _ _).mono ?_;rintro e w' ⟨rfl,rfl⟩;rw[j.out])
  go_wp2;go_ret;exact⟨by simp[pq,h.out,j.out,h3,h4],rfl⟩
def ahS (c:Int) (w:ak):Calls Tryz.prog 87 #[.int .u8 c] w fun e w'=>e=.returned (.bool (zx c))/\w=w':=by
 by_cases h:97<=c<;>by_cases j:c<=122<;>by_cases l:65<=c<;>by_cases q:c<=90<;>first|omega|skip
 all_goals
  go_enter Tryz.func87,Tryz.ntmps87;go_wp2;go_ret;exact⟨by simp[zx,h,j,l,q],rfl⟩
def LA (c:Int) (w:ak):Calls Tryz.prog 88 #[.int .u8 c] w fun e w'=>e=.returned (.bool (jJ c))/\w=w':=by
 by_cases h:48<=c<;>by_cases j:c<=57<;>first|omega|skip
 all_goals
  go_enter Tryz.func88,Tryz.ntmps88;go_wp2;go_ret;exact⟨by simp[jJ,h,j],rfl⟩
def ahT (c:Int) (w:ak):Calls Tryz.prog 58 #[.int .u8 c] w fun e w'=>e=.returned (.bool (pq c))/\w=w':=by
 cases h1:zx c<;>cases h2:jJ c<;>cases h3:(c==95)<;>cases h4:(c==45)
 all_goals
  have h:=Q h1;have j:=Q h2;clear h1 h2;go_enter Tryz.func58,Tryz.ntmps58;go_wp2_with fail;refine(ahS _ _).mono ?_;rintro e w' ⟨rfl,rfl⟩;rw[h.out]
  try(go_wp2_with fail;refine(LA _ _).mono ?_;rintro e w' ⟨rfl,rfl⟩;rw[j.out])
  go_wp2;go_ret;exact⟨by simp[pq,h.out,j.out,h3,h4],rfl⟩
def Bu (k o:Int) (w:ak):Calls Tryz.prog 41 #[.int .i64 k,.int .i64 o] w fun e w'=>e=.panicked [{v:=.iface 28 (.agg #[.int .i64 k,.int .i64 o]),recovered:=false}]/\w=w':=by
 go_enter Tryz.func41,Tryz.ntmps41;go_wp2;exact⟨rfl,rfl,rfl⟩
end
end
section
open Go.Shelf
def Tryz.aF4:Go.Shelf.Ren:=⟨fun|137=>70|217=>102|266=>127|n=>n,fun|9=>9|5=>5|3=>3|n=>n,fun|n=>n⟩
def Tryz.aF3:Go.Proofs.Lays.n137 Tryz.prog Tryz.aF4:={
 mixed:=by kernel_rfl
 f137:=Tryz.func70.trans (iE some aS)
 f217:=Tryz.func102.trans (iE some aS)
 f266:=Tryz.func127.trans (iE some aS)
 t3:=abk
 a3:=Tryz.isAgg3
 z3:=Tryz.sizeOf3
 v3:=Tryz.zeroValue3
 t5:=UU
 a5:=Tryz.isAgg5
 z5:=Tryz.sizeOf5
 v5:=Tryz.zeroValue5
 t9:=A_
 a9:=Tryz.isAgg9
 z9:=abj
 v9:=abm}
open Go.RowKit in
def Tryz.strings_IndexByte (s:dA) (c:Int) (w:ak):
 Calls Tryz.prog 70 #[.string s,.int .u8 c] w fun e w'=>e=.returned (.int .i64 (Lib.indexByte s.data.toList c.toNat.toUInt8))/\w'=w:=Any.strings_IndexByte Tryz.aF3 s c w
end
end
end Go.Proofs.YtdjcfaaongngeaaGreatDoor

/- SyntaxParse returns true for every string and leaves it alone: Parse returns the session or the fault of the specification. Conditions: none beyond those of the card: the package variables hold what the program's text lays. -/
import Derived.Test.YtdjcfaaongngeaaGreatDoorZB
set_option linter.all false
set_option maxRecDepth 100000
set_option maxHeartbeats 0
namespace Go.Proofs.YtdjcfaaongngeaaGreatDoor
noncomputable section
variable {T:Nat->ah D}
section
open Go Go.RowKit
def aFZ (E:bH T) (s:dA) (W:ak) (L':s.size<=9223372036854775807) (M':ug T (dM W)):Calls Tryz.prog 3 #[.string s] W fun e W'=>e=.returned (.bool true)/\Below W.heap.size W W':=by
 have P':=Q M';clear M';go_enter Tryz.func3,Tryz.ntmps3;go_wp2_with (refine(atJ E s _ L' P'.out).mono ?_;rintro e W1 ⟨l',ps,ts,r0,t0,k,o,rfl,F,P,m'⟩;obtain⟨va,v',rfl⟩:=Jj F;obtain⟨vb,w',rfl⟩:=Jj P;have j:Hid (Below W.heap.size W W1/\DR (dM W1) (.R ps) (.slice va ps.length v')/\DR (dM W1) (.R ts) (.slice vb ts.length w')/\zM s ps ts k o):=⟨l',F,P,m'⟩;clear l' F P m')
 obtain⟨w,p0,p1,p2,p3⟩:=Zq W1 (.slice va ps.length v') (.slice vb ts.length w') (.int .i64 k) (.int .i64 o) 25 28;obtain⟨d_,a'⟩:∃d_,(W1.alloc (.cells #[.slice va ps.length v',.slice vb ts.length w'] 25)).alloc (.cells #[.int .i64 k,.int .i64 o] 28)=d_:=⟨_,rfl⟩;rw[a'] at w p0 p1 p2 p3⊢;clear a';have n':=Q (P'.out.mono (qO (j.out.1.trans (w.mono j.out.1.size)) (bq _)));have HP:=Q (And.intro p0 (And.intro p1 (And.intro p2 p3)));have T':=Q w;clear w p0 p1 p2 p3;go_wp2_with (refine(au2 E s _ L' n'.out).mono ?_;rintro e q ⟨p',k0,l0,m0,o0,k',o',rfl,b',c',q'⟩;obtain⟨rfl,rfl,rfl,rfl⟩:=avs j.out.2.2.2 q';obtain⟨d',e',rfl⟩:=Jj b';obtain⟨f',g',rfl⟩:=Jj c';have y:Hid (Below d_.heap.size d_ q/\DR (dM q) (.R ps) (.slice d' ps.length e')/\DR (dM q) (.R ts) (.slice f' ts.length g')):=⟨p',b',c'⟩;clear p' b' c' q')
 obtain⟨w,p0,p1,p2,p3⟩:=Zq q (.slice d' ps.length e') (.slice f' ts.length g') (.int .i64 k) (.int .i64 o) 25 28;obtain⟨A,a'⟩:∃A,(q.alloc (.cells #[.slice d' ps.length e',.slice f' ts.length g'] 25)).alloc (.cells #[.int .i64 k,.int .i64 o] 28)=A:=⟨_,rfl⟩;rw[a'] at w p0 p1 p2 p3⊢;clear a';have l:Hid (Below d_.heap.size d_ A):=Q (y.out.1.trans (w.mono y.out.1.size));have r':=Q (n'.out.mono (qO l.out (bq _)));have X':=Q (And.intro p0 (And.intro p1 (And.intro p2 p3)));have a0:=Q w;clear w p0 p1 p2 p3;go_wp2_with (refine(ao2 E _ r'.out).mono ?_;rintro e aB ⟨rfl,s'⟩;have h:=Q s';clear s';obtain⟨q0,q1,q2,q3⟩:=HP.out;obtain⟨s0,h',i',x'⟩:=X'.out;have l1:=rX d_ _ q0;have l2:=rX d_ _ q2;have y':=rX A _ s0;have z':=rX A _ i';have i0:=l.out.size;replace q0:=(h.out.cell (p:=⟨W1.heap.size,0,none⟩) YM).trans ((l.out.cell (p:=⟨W1.heap.size,0,none⟩) l1).trans q0);replace q1:=(h.out.cell (p:=⟨W1.heap.size,1,none⟩) YM).trans ((l.out.cell (p:=⟨W1.heap.size,1,none⟩) l1).trans q1);replace q2:=(h.out.cell (p:=⟨W1.heap.size+1,0,none⟩) YO).trans ((l.out.cell (p:=⟨W1.heap.size+1,0,none⟩) l2).trans q2);replace q3:=(h.out.cell (p:=⟨W1.heap.size+1,1,none⟩) YO).trans ((l.out.cell (p:=⟨W1.heap.size+1,1,none⟩) l2).trans q3);replace s0:=(h.out.cell (p:=⟨q.heap.size,0,none⟩) y').trans s0;replace h':=(h.out.cell (p:=⟨q.heap.size,1,none⟩) y').trans h';replace i':=(h.out.cell (p:=⟨q.heap.size+1,0,none⟩) z').trans i';replace x':=(h.out.cell (p:=⟨q.heap.size+1,1,none⟩) z').trans x';clear l1 l2 y' z' i0)
 have A':=rX aB _ q0;have D':=rX aB _ s0;go_wp2_with (refine(arP k o aB).mono ?_;rintro e E' ⟨rfl,u⟩;replace q0:=(u.cell (p:=⟨W1.heap.size,0,none⟩) A').trans q0;replace q1:=(u.cell (p:=⟨W1.heap.size,1,none⟩) A').trans q1;replace s0:=(u.cell (p:=⟨q.heap.size,0,none⟩) D').trans s0;replace h':=(u.cell (p:=⟨q.heap.size,1,none⟩) D').trans h';have t':=Q u;clear u A' D' q2 q3 i' x')
 have j':dX (dM A) (dM E'):=(qO h.out (bq _)).trans (qO t'.out (bq _));have e1:dX (dM W1) (dM E'):=(qO T'.out (bq _)).trans ((qO l.out (bq _)).trans j');have F':dX (dM q) (dM E'):=(qO a0.out (bq _)).trans j';have j0:=Q (avn E (avr E j.out.2.2.2) (r'.out.mono j') (j.out.2.1.mono e1) (j.out.2.2.1.mono e1) (y.out.2.1.mono F') (y.out.2.2.mono F'));clear e1 F' j';go_wp2_with (refine j0.out.mono ?_;rintro e u0 ⟨rfl,u'⟩;have b0:=Q u';clear u')
 refine ni (abx rfl _ _ _) rfl ⟨rfl,?_⟩;have e0:=j.out.1.trans (T'.out.mono j.out.1.size);have f0:=e0.trans (l.out.mono e0.size);have g0:=f0.trans (h.out.mono f0.size);have h0:=g0.trans (t'.out.mono g0.size);exact h0.trans (b0.out.mono h0.size)
end
section
open Go Go.ChangeShapes Go.WideShapes Go.ChangeAt Go.RowKit
open Go.ChangeMaps (open_string shut_string)
def own:ownKnob Tryz.prog.godebug=none:=by kernel_rfl
def agp:Tryz.prog.globalNamed "telpher/typeterm.reserved" =some 3:=by kernel_rfl
def ail:(Tryz.prog.globals[3]?).map (·.type)=some 36:=by kernel_rfl
def agq:Tryz.prog.globalNamed "telpher/typetext.reserved" =some 4:=by kernel_rfl
def ain:(Tryz.prog.globals[4]?).map (·.type)=some 36:=by kernel_rfl
def agn:Tryz.prog.globalNamed "telpher/syntax.reserved" =some 1:=by kernel_rfl
def aik:(Tryz.prog.globals[1]?).map (·.type)=some 36:=by kernel_rfl
def Sn:Tryz.prog.globalNamed "strconv.ErrRange" =some 6:=by kernel_rfl
def tER:(Tryz.prog.globals[6]?).map (·.type)=some 167:=by kernel_rfl
def afb:Tryz.prog.cellsOf 9=1:=by kernel_rfl
def ae9:Tryz.prog.cellsOf 206=1:=by kernel_rfl
def star: "*" ++ "errors.errorString" = "*errors.errorString" :=by decide
def ahV (u:dh) (h:Tryz.prog.typeName? 3 u=some "*errors.errorString"):u=204:=
 typeName_ptr_named (nm:= "errors.errorString") (by rw[star];kernel_rfl) aS jK u (by rw[star];exact h)
def SV {aP:Type}:G (String×DataW aP):=[("math/bits.deBruijn32tab",Rows.laid_math_bits_deBruijn32tab),("math/bits.deBruijn64tab",Rows.laid_math_bits_deBruijn64tab),("internal/strconv.uint64pow10",Rows.laid_internal_strconv_uint64pow10),("strconv.ErrRange",Rows.laid_strconv_ErrRange),("strconv.ErrSyntax",Rows.laid_strconv_ErrSyntax),("telpher/typeterm.reserved",Rows.laid_telpher_typeterm_reserved),("telpher/typetext.reserved",Rows.laid_telpher_typetext_reserved),("telpher/syntax.reserved",Rows.laid_telpher_syntax_reserved)]
def ais (e:av) (g:Nat):ah D:=if g=3\/g=4 then some tT else if g=1 then some tS else if g=6 then some (.any e) else none
def aGL {W:ak} (h:laidMetH Tryz.prog SV W):∃T,bH T/\ug T (dM W):=by
 rw[aw7 _ _ _ aS] at h;obtain⟨a0,s0,c',-,-,-⟩:=laid_sentinel h.tail.tail.tail Sn tER ai9 ahV aja ajb rfl rfl A_ ae9 afb;obtain⟨ps,⟨g',h',d',i',p0,q0,j,u,w,y,⟨j',t1,e',k',p1,q1,l,A,E,F,⟨l',t2,f',m',p2,q2,q,P,a',b',_,_⟩,_⟩,_⟩,_,_⟩:=h.tail.tail.tail.tail.tail;obtain rfl:=bI (agp.symm.trans j);obtain rfl:=bI (agq.symm.trans l);obtain rfl:=bI (agn.symm.trans q);obtain rfl:=bI (ail.symm.trans u);obtain rfl:=bI (ain.symm.trans A);obtain rfl:=bI (aik.symm.trans P);have e1:Es W 3 xM:=Lr jK jK (fun v e=>by have:=Iy j w 0;rw[e] at this;simpa using this) y
 have e2:Es W 4 xM:=Lr jK jK (fun v e=>by have:=Iy l E 0;rw[e] at this;simpa using this) F
 have e3:Es W 1 BR:=Lr jK jK (fun v e=>by have:=Iy q a' 0;rw[e] at this;simpa using this) b'
 have e4:=Iy Sn c' 0;exact aqo
def aDf (os:Os) (args:dF av):laidMetH Tryz.prog SV ((World.doorLaid Tryz.prog 77 os).forCall (fun _ _=>0) ⟨#[],args,[]⟩).memory:=
 laidMetH_of_parts3 (fuel:=8) (laidMet_of_run' 8 aS aS) aS aS
def aGc (os:Os) (u:os.Started) (aP:Type) (enc:dh×av->aP):
 ReturnsInHanded {} Tryz.checked os 3 .any (fun w args=>(Rows.syntaxParseSpec.pre enc Tryz.prog Tryz.f3 [] false w args/\laidMetH Tryz.prog SV w)/\sizedMet enc Tryz.prog Tryz.f3 (OpenSpec.ofChange Rows.syntaxParseSpec) false w args)
  (Rows.syntaxParseSpec.post enc Tryz.prog Tryz.f3 false true false false):=by
 refine axc (C:=Tryz.checked) (X:=fun w _=>laidMetH Tryz.prog SV w) (fun _ _ _ f' h=>h.of_heap f') own u aS Tryz.func3
  (awR (enc:=enc) (C:=Tryz.checked) (os:=os) (X:=fun w _=>laidMetH Tryz.prog SV w) false (World.doorLaid Tryz.prog 77 os) #[.string ByteArray.empty] 8 rfl (World.shaped_of_RefB aS aS) aS aS aS (aDf os _)) ?_
 intro W base args ds g' P l a' _ b' hL _;have y:∀(j:Nat) t v,Tryz.f3.params[j]?=some t->args[j]?=some v->Value.okWide Tryz.prog W .any base t v:=l;have c':=a';obtain⟨p,q,F,h',rfl,n',o'⟩:=a';have d':DataW.TrodAll enc Tryz.prog W 0 (fun _=>true) true Tryz.f3.params.toList args.toList ds p:=F;have A:(DataW.weightsEach Tryz.prog (Tryz.f3.params.toList++Rows.syntaxParseSpec.plain.varTypes Tryz.prog) (ds++g')).all (·<=reachBytes)=true:=b'
 rw[Tryz.params3] at d' y A;obtain⟨v0,d0,rfl,rfl,i'⟩:=trodAll_one d';obtain⟨rfl,rfl⟩:=trodVars_none h';obtain⟨E,rfl,rfl,rfl,w0⟩:=open_string A_ (y 0 9 v0 rfl rfl) i';have j':E.size<=281474976710656:=by
  have:=sized_string A (j:=0) (t:=9) rfl rfl;have e:E.data.toList.length=E.size:=yP;rw[e] at this;unfold reachBytes at this;omega
 clear F l;obtain⟨T,k',l'⟩:=aGL hL;refine(aFZ k' E W I l').mono fun e W' ⟨m',e'⟩=>?_;subst m';exact⟨_,rfl,_,_,_,[],_,[],c',trodAll_mk1 (shut_bool UR _),trodAll_mk1 (shut_string A_ w0),rfl,e'.frame _,fun h=>by cases h⟩
def aNB:Rows.SyntaxParseSaid:=
 aw9 3 Tryz.f3 rfl rfl rfl rfl rfl rfl rfl ⟨rfl,rfl,rfl,rfl,rfl⟩ rfl rfl rfl rfl rfl aS Tryz.func3 aS
  (Cr aS) (by unfold Func.isWrapper;first|(rw[bK (by decide+kernel)];kernel_rfl)|(rw[bB (by decide+kernel)];exact⟨rfl,rfl⟩))
  (fun os e aP enc _=>aGc os e aP enc)
theorem syntaxParse_holds:Rows.SyntaxParseCardSaid:=
 awS .later [] [.data,.data,.data,.sentinel,.sentinel,.widerDeep,.widerDeep,.widerDeep] true (true,"ce2f6d22ec1ab6b6983773e5a5673d6df0ad457cbc35673e0a1c7c6e2101b5e8") true
  aNB (fun _ h=>by cases h) aS (fun _ h=>by cases h) syntaxParse_row_tie rfl ⟨rfl,rfl⟩ aS rfl
  (fun f fn hf l=>by
   obtain rfl:f=3:=bI ((show Tryz.prog.funcNamed "telpher/tellaw18.SyntaxParse" =some 3 by kernel_rfl).symm.trans hf)|>.symm
   obtain rfl:fn=Tryz.f3:=(bI (Tryz.func3.symm.trans l)).symm;exact⟨by kernel_rfl,fun j t q=>by
    rw[Tryz.params3] at q;have w:t∈[9]:=by have:=awN q;simp at this⊢;omega
    have e:([9].all fun u=>!Tryz.prog.wantsStandIn u)=true:=aS;exact(show Tryz.prog.wantsStandIn t=false by simpa using Ch.1 e t w)⟩)
  aS
end
end
end Go.Proofs.YtdjcfaaongngeaaGreatDoor

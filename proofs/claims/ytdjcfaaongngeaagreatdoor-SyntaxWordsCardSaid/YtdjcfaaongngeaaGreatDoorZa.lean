/- A part of the proof: see the last text. -/
import Derived.Calls
import Derived.Below
import Derived.Lib.Hide
import Derived.Laws.Append
import Derived.Laws.Rows
import Derived.Laws.Cells
import Derived.Laws.CopyRow
import Derived.Laws.Tables
import Derived.Laws.MakeOwn
import Derived.Laws.RangeString
import Derived.Laws.Slices
import Derived.Laws.Strings
import Derived.Laws.IdiomStrings
import Derived.Laws.StructEq
import Derived.LoopN
import Derived.Scope
import Derived.Orders
import Derived.RangeFuncLeaves
import Derived.RangeFuncRecord
import Derived.Laws.Sem
import Derived.RangeFuncNested
import Derived.RangeFuncBound
import Derived.RangeFuncCalls
import Derived.RangeFuncBox
import Derived.Shelf.Abstract
import Derived.Shelf.RegionOpen
import Derived.WalkKit
import Derived.OwnWalkIn
import Derived.TacticsInMore
import Derived.LoopNIn
import Derived.LoopIn
import Derived.Test.YtdjcfaaongngeaaGreatDoorProg
import Derived.KernelRfl
import Derived.WalkSmall
import Derived.WalkSpells
import Derived.WalkLawsBesides
import Derived.Deep.AppendLies
import Derived.Deep.Draws
import Derived.Deep.QuietTactic
import Derived.BigQuiet
import Derived.Deep.RegionHeld3
import Derived.Deep.RegionLaw
import Derived.Deep.DrawnRows
import Derived.Outline
import Derived.Deep.DeepFit
import Derived.Shelf.Small.Strs
import Derived.Lib.IndexBytes
import Derived.Lib.IndexLaws
import Derived.Deep.LoopGhost
import Derived.Lib.Strings
import Derived.Lib.ParseIntB
import Derived.Lib.ItoaLen
import Derived.Shelf.Slices.Clone
import Derived.Test.YtdjcfaaongngeaaGreatDoorRows
import Derived.ProofKit
import Derived.LaidMore
import Derived.OpenShut
import Derived.SizedLaws
import Derived.Stop.Joined
import Derived.Shelf.Strings.Prefix
import Derived.Shelf.Strconv.ParseIntPublic10
import Derived.StillTailTactics
import Derived.LoopTactic
import Derived.Laws.BytesArg
import Derived.Tactics
import Derived.Tactics2
import Derived.Defers
import Derived.Recover
import Derived.Laws.Pointers
import Derived.RegionTactic
import Derived.Stop.LaidErr
import Derived.Test.YtdjcfaaongngeaaGreatDoorTie
import Derived.Test.YtdjcfaaongngeaaGreatDoorCards
import Derived.Deep.AppendSrc
set_option linter.all false
set_option maxRecDepth 100000
set_option maxHeartbeats 0
namespace Go.Proofs.YtdjcfaaongngeaaGreatDoor
noncomputable section
def gF {α : Type _} {a : α} {l : List α} (y : α) (h : a ∈ l) : a ∈ y :: l := .tail _ h
def jG {α : Type _} {a : α} {l : List α} : a ∈ a :: l := .head _
def oH:=@Go.Addr.add_lit
def aaU:=@Array.ext'
def UA:=@Array.getD_eq_getD_getElem?
def UC:=@Array.getElem?_append_left
def UD:=@Array.getElem?_eq_getElem
def kF:=@Array.getElem?_eq_some_iff
def awM:=@Array.getElem?_push
def aaV:=@Array.getElem?_setIfInBounds_ne
def J2:=@Array.getElem?_toList
def yP:=@Array.length_toList
def awN:=@Array.mem_of_getElem?
def awO:=@Array.mem_toList_iff
def FM:=@Array.replicate_succ
def FN:=@Array.replicate_zero
def LX:=@Array.size_append
def awP:=@Array.toList_append
def UE:=@Array.toList_setIfInBounds
def jV:=@Go.RowKit.Below.heap_alloc
def PX:=@Go.RowKit.Below.heap_setCell
def iN:=@Go.RowKit.Below.refl
def bU:=@Bool.and_eq_true
def aaW:=@Bool.and_self
def aaX:=@Bool.and_true
def AP:=@Bool.eq_iff_iff
def LY:=@Bool.false_and
def Il:=@Bool.false_eq_true
def Im:=@Bool.not_eq_true'
def aiK:=@Bool.or_eq_false_iff
def wL:=@Bool.or_eq_true
def UF:=@Bool.true_and
def awQ:=@ByteArray.data_extract
def aiL:=@ByteArray.size_append
def uW:=@Go.Calls.mono
def Io:=@Go.Calls.quiet_of_same
def awR:=@Go.ChangeSpec.witness_shaped
def awS:=@Go.Claim7.holds_tied_plain_at
def aaY:=@Go.Code.block.injEq
def FP:=@Eq.symm
def PY:=@Except.ok.inj
def aaZ:=@Except.ok.injEq
def PZ:=@Go.wp_at_succ
def P8:=@Go.wp_at_zero
def aiM:=@Int.eq_ofNat_of_zero_le
def rW:=@Int.natCast_add
def UG:=@Int.ofNat.inj
def aiN:=@Int.toNat_natCast
def xR:=@Go.KeepsOthers.setCell
def Q:=@Go.Lib.hid
def aiO:=@Go.Lib.toList_data
def Ip:=@List.all_cons
def Ch:=@List.all_eq_true
def aiP:=@List.any_eq_true
def tV:=@List.append_assoc
def Ci:=@List.append_nil
def Ed:=@List.append_toArray
def nV:=@List.cons.injEq
def wM:=@List.cons_append
def aiQ:=@List.count_pos_iff
def awT:=@List.drop_eq_getElem_cons
def yQ:=@List.drop_of_length_le
def aa0:=@List.drop_succ_cons
def aiR:=@List.drop_zero
def qx:=@List.eq_nil_of_length_eq_zero
def aiS:=@List.find?_some
def awU:=@List.findIdx?_eq_none_iff
def awV:=@List.findIdx?_eq_some_iff_getElem
def LZ:=@List.flatten_cons
def aiT:=@List.foldl_cons
def oI:=@List.getElem?_append_left
def nI:=@List.getElem?_append_right
def awW:=@List.getElem?_cons_succ
def awX:=@List.getElem?_cons_zero
def P9:=@List.getElem?_drop
def gM:=@List.getElem?_eq_getElem
def awY:=@List.getElem?_eq_none
def awZ:=@List.getElem?_eq_none_iff
def gN:=@List.getElem?_eq_some_iff
def AQ:=@List.getElem?_map
def aiU:=@List.getElem?_of_mem
def aw0:=@List.getElem?_range
def aiV:=@List.getElem?_reverse
def uX:=@List.getElem?_take_of_lt
def Ee:=@List.getElem?_toArray
def zG:=@List.getElem_mem
def aw1:=@List.getElem_of_mem
def mD:=@List.length_append
def gD:=@List.length_cons
def sK:=@List.length_drop
def tX:=@List.length_map
def lN:=@List.length_nil
def aw2:=@List.length_replicate
def L8:=@List.length_reverse
def oL:=@List.length_take
def aa1:=@List.mapM_cons
def aa2:=@List.map_append
def aw3:=@List.map_congr_left
def AU:=@List.map_cons
def aa3:=@List.map_id
def Iq:=@List.map_map
def qV:=@List.mem_append
def aiW:=@List.mem_append_left
def aiX:=@List.mem_append_right
def g_:=@List.mem_cons
def gG:=@List.mem_cons_of_mem
def jH:=@List.mem_cons_self
def UH:=@List.mem_iff_getElem
def FQ:=@List.mem_map
def aiY:=@List.mem_of_find?_eq_some
def kg:=@List.mem_of_getElem?
def AY:=@List.mem_of_mem_drop
def J3:=@List.mem_of_mem_take
def aa4:=@List.mem_range
def yR:=@List.mem_singleton
def qW:=@List.nil_append
def Ef:=@List.not_mem_nil
def aa5:=@List.pairwise_cons
def FT:=@List.push_toArray
def aa6:=@List.range'_succ
def aw4:=@List.range_eq_range'
def aw5:=@List.replicate_succ'
def wN:=@List.size_toArray
def aiZ:=@List.tail_drop
def UJ:=@List.take_append_drop
def FU:=@List.take_length
def AZ:=@List.take_of_length_le
def aw6:=@List.take_set_of_le
def P_:=@List.take_succ_eq_append_getElem
def aa7:=@List.take_zero
def aw7:=@Go.MakeChecks.laidMetH_plain
def Eh:=@Nat.add_assoc
def ai0:=@Nat.add_comm
def Cj:=@Nat.add_mul
def L9:=@Nat.add_sub_cancel_left
def qy:=@Nat.add_zero
def J4:=@Nat.le_add_right
def ai1:=@Nat.le_antisymm
def L_:=@Nat.le_of_eq
def ai2:=@Nat.le_of_lt_succ
def Ir:=@Nat.le_of_succ_le
def aw8:=@Nat.le_of_succ_le_succ
def bq:=@Nat.le_refl
def yS:=@Nat.le_succ
def fF:=@Nat.le_trans
def Ck:=@Nat.lt_irrefl
def lZ:=@Nat.lt_of_lt_of_le
def ai3:=@Nat.lt_or_eq_of_le
def Iu:=@Nat.lt_or_ge
def ai4:=@Nat.mul_le_mul
def Cm:=@Nat.mul_le_mul_right
def ai5:=@Nat.mul_one
def Qa:=@Nat.one_lt_two
def J5:=@Nat.pow_le_pow_right
def ai6:=@Nat.pow_succ
def aa8:=@Nat.sub_self
def Cn:=@Nat.sub_zero
def Iw:=@Nat.succ_mul
def aa9:=@Nat.testBit_or
def ai7:=@Nat.testBit_two_pow
def jW:=@Nat.zero_add
def gK:=@Nat.zero_le
def wO:=@Nat.zero_lt_one
def UK:=@Nat.zero_mul
def nJ:=@Ne.symm
def aw9:=@Go.OpenClaim.holds_of_wide
def abb:=@Go.Oper.semAt_some
def axa:=@Option.bind_eq_bind
def kW:=@Option.bind_eq_some_iff
def f_:=@Option.bind_some
def ai8:=@Option.isSome_iff_exists
def lq:=@Option.map_eq_some_iff
def Co:=@Option.map_some
def bI:=@Option.some.inj
def aG:=@Option.some.injEq
def eG:=@Prod.mk.injEq
def Ei:=@Go.Result.andThen_ok
def Ma:=@Go.Sem.run_bind
def Qb:=@Go.Sem.run_pure
def UL:=@Go.Proofs.Tryz.func109
def J6:=@Go.Proofs.Tryz.func119
def UM:=@Go.Proofs.Tryz.func15
def UN:=@Go.Proofs.Tryz.ntmps109
def J7:=@Go.Proofs.Tryz.ntmps119
def abd:=@Go.Proofs.Tryz.ntmps13
def UO:=@Go.Proofs.Tryz.ntmps15
def abe:=@Go.Proofs.Tryz.ntmps43
def abf:=@Go.Proofs.Tryz.ntmps75
def abg:=@Go.Proofs.Tryz.ntmps89
def UQ:=@Go.Proofs.Tryz.results139
def abh:=@Go.Proofs.Tryz.results5
def abj:=@Go.Proofs.Tryz.sizeOf9
def ai9:=@Go.Proofs.Tryz.underlying167
def aja:=@Go.Proofs.Tryz.underlying204
def ajb:=@Go.Proofs.Tryz.underlying206
def abk:=@Go.Proofs.Tryz.underlying3
def ajc:=@Go.Proofs.Tryz.underlying35
def abl:=@Go.Proofs.Tryz.underlying36
def UR:=@Go.Proofs.Tryz.underlying4
def UU:=@Go.Proofs.Tryz.underlying5
def Qc:=@Go.Proofs.Tryz.underlying52
def Cq:=@Go.Proofs.Tryz.underlying79
def A_:=@Go.Proofs.Tryz.underlying9
def abm:=@Go.Proofs.Tryz.zeroValue9
def UW:=@UInt8.ofNat_toNat
def ajd:=@Go.Value.int.inj
def abn:=@Go.World.alloc_heap_new
def rX:=@Go.World.block_lt_of_cell?
def vU:=@Go.World.cell?_of_block
def axb:=@Go.World.frozen?_of_block
def Mc:=@Go.World.grownBy_alloc
def xS:=@Go.World.news_of_block
def Ej:=@Go.World.ownsRow.alloc
def Qd:=@Go.World.ownsRow_nil
def aje:=@Go.World.putObj_heap_other
def Md:=@Go.World.size_alloc
def abo:=@Go.World.size_setCell
def Iy:=@Go.World.var?_cell
def tZ:=@and_true
def UY:=@Go.belowK_b
def zH:=@beq_eq_false_iff_ne
def xU:=@beq_iff_eq
def ajf:=@beq_self_eq_true
def ni:=@Go.bodyPost_ret
def J8:=@Go.callsIn_of_wp
def UZ:=@Go.callsIn_wide
def El:=@Go.cell_kept
def gX:=@Go.cell_of_row
def abp:=@Go.cell_one_new
def iE:=@congrArg
def abq:=@decide_eq_false
def ajg:=@decide_eq_false_iff_not
def U0:=@decide_eq_true
def iL:=@decide_eq_true_eq
def abr:=@Go.frozen_kept
def abt:=@Go.grownBy_putObj'
def abu:=@Go.grownCap_ge
def abv:=@Go.grownCap_le_maxLen
def lu:=@Go.heap_alloc_new
def abw:=@Go.heap_alloc_old
def Me:=@if_false
def bB:=@if_neg
def bK:=@if_pos
def qX:=@if_true
def Qe:=@Go.info_parts
def Cr:=@of_decide_eq_true
def FV:=@or_false
def ajh:=@Go.ownFrom_below
def Iz:=@Go.results_none
def abx:=@Go.results_tmp
def axc:=@Go.returnsInHanded_of_change_and
def aby:=@Go.rounds_succ
def FW:=@Go.run_loadCells_list
def U1:=@Go.run_sliceBound
def abz:=@Go.run_storeCells_at
def U2:=@Go.run_takeDeferred
def abA:=@Go.setRow_heap
def U3:=@Go.setRow_other
def IB:=@true_and
def xV:=@Go.wp_mono
abbrev dF:=@Array
abbrev aK:=@Bool
abbrev dA:=@ByteArray
abbrev iB:=@Go.Code
abbrev AJ:=@Go.Ending
abbrev dV:=@Except
abbrev ig:=@Go.FuncId
abbrev tQ:=@Go.IntKind
abbrev G:=@List
abbrev Cg:=@Go.MapEntry
abbrev je:=@Go.Operand
abbrev ah:=@Option
abbrev bA:=@Go.Program
abbrev AL:=@Go.TypeDesc
abbrev dh:=@Go.TypeId
abbrev dG:=@UInt8
abbrev av:=@Go.Value
abbrev ak:=@Go.World
variable {P:Prop}
section
def I (h:P:=by omega):P:=h
def jK (h:P:=by decide):P:=h
def rM (h:P:=by simpa using h):P:=h
def yx (h:P:=by simpa using hj):P:=h
def gJ (h:P:=by simp;omega):P:=h
def bS (h:P:=by simp):P:=h
def aq4 (h:P:=by simp[execOp,N,U];rfl):P:=h
def wB (h:P:=by unfold maxLen;omega):P:=h
def NZ (h:P:=by simp[builtin,Builtin.len_,underlying,hu,goInt]):P:=h
def Dm (h:P:=by cases h):P:=h
def R5 (h:P:=by rw[<-U];rfl):P:=h
def Dl (h:P:=by simp[J]):P:=h
def RU (h:P:=by rw[uM];simp):P:=h
def Oe (h:P:=by simp[bX,uM]):P:=h
def YK (h:P:=by show s.J<=aD.J;omega):P:=h
def YP (h:P:=by show s.J+j≠aD.J;omega):P:=h
def uE (h:P:=by simpa[iU] using h):P:=h
def aS (h:P:=by kernel_rfl):P:=h
def KW (h:P:=by simp[Proofs.YtdjcfaaongngeaaGreatDoor.dO,aaH]):P:=h
def Fu (h:P:=by first|(simp[Act.eval];done)|(simp[Act.eval,Act.put];done)):P:=h
def Ah (h:P:=by simp[Value.oneCell']):P:=h
def afV (h:P:=by rw[gX w _ _ _ _ _ Z.out];rfl):P:=h
def Dk (h:P:=by rw[jX];exact hlt):P:=h
def RY (h:P:=by rw[jX];exact bq _):P:=h
def Yw (h:P:=by rw[jX];exact h0):P:=h
def YC (h:P:=by unfold gB at hlen;omega):P:=h
def Af (h:P:=by simpa using hb):P:=h
def KY (h:P:=by rw[jX];exact h):P:=h
def aqQ (h:P:=by rw[<-hW];exact A2.out.ext (bq _) fun _ _=>rfl):P:=h
def arx (h:P:=by rw[<-hW];exact A3.out.trans (Below.vE (m:=m1) rfl)):P:=h
def afW (h:P:=by show _=_;rw[Mh.out];omega):P:=h
def Yz (h:P:=by unfold gB at lH;omega):P:=h
def jS (h:P:=by first|exact jG|exact gF _ jG|exact gF _ (gF _ jG)|exact gF _ (gF _ (gF _ jG))):P:=h
def af3 (h:P:=by first|(show((4:Int)≠0);decide)|assumption|simp_all):P:=h
def afR (h:P:=by first|exact .inl rfl|exact .inr rfl):P:=h
def af0 (h:P:=by first|(show((2:Int)≠0);decide)|assumption|simp_all):P:=h
def oW (h:P:=by assumption):P:=h
def YD (h:P:=by rw[hy,J _ _ hz]):P:=h
def apO (h:P:=by first|(simp only[rD,tX,lN];omega)|(have h9:=ahf hy3;simp only[rD,tX];simp only[lN,jW] at h9;omega)):P:=h
def af5 (h:P:=by have:=HL.out;omega):P:=h
def R6 (h:P:=by have:=h.size;omega):P:=h
def N9 (h:P:=by simp[go_sem]):P:=h
def YI (h:P:=by have:=(lI.lt b e).1;omega):P:=h
def Ob (h:P:=by rw[jX];exact asy):P:=h
def Oc (h:P:=by simp[results,Tryz.results57,go_sem,NI,NK,NM,NP]):P:=h
def nQ (h:P:=by rfl):P:=h
def YN (h:P:=by have:=A5'.out;omega):P:=h
def Yp (h:P:=by show _<=(World.alloc _ _).heap.size;simp):P:=h
def YE (h:P:=by rw[<-afI];exact HA.out):P:=h
def af2 (h:P:=by rw[gX w1 _ _ _ _ _ n0];rfl):P:=h
def YG (h:P:=by simp only[H7] at hz⊢;omega):P:=h
def NY (h:P:=by first|exact aO|assumption):P:=h
def aD1 (h:P:=by first|(simp only[mD,gD,lN,tX];omega)|(unfold gB at*;simp;omega)):P:=h
def ap0 (h:P:=by simp only[iL,mD,oL,gD,lN];omega):P:=h
def aDY (h:P:=by simp only[iL,mD,oL,sK,gD,lN];omega):P:=h
def aD2 (h:P:=by first|assumption|decide):P:=h
def aD9 (h:P:=by first|(simp;omega)|(unfold gB at*;simp;omega)):P:=h
def aD3 (h:P:=by first|exact aFk|exact aFl|assumption):P:=h
def xg (h:P:=by first|assumption|exact hall):P:=h
def Yn (h:P:=by unfold gB at*;omega):P:=h
def arf (h:P:=by simp only[mD,gD,lN,iL];unfold gB at hlen;omega):P:=h
def afY (h:P:=by first|assumption|exact hall|exact fun x hx=>hall x (gF _ hx)):P:=h
def YL (h:P:=by first|exact .inl ⟨rfl,rfl⟩|exact .inr ⟨rfl,rfl⟩):P:=h
def aDP (h:P:=by first|(show(((jM [K3,K4,K5,K6]):Int)≠0);decide)|assumption|simp_all):P:=h
def aDR (h:P:=by first|(show(((jM [M3,M4,M5,M6]):Int)≠0);decide)|assumption|simp_all):P:=h
def R7 (h:P:=by first|(show(((jM [(.int .i64 0),(.str []),(.int .i64 0),(.R [])]):Int)≠0);decide)|assumption|simp_all):P:=h
def apK (h:P:=by have h9:=mh;rw[wY] at h9;simp only[bM] at h9;omega):P:=h
def apU (h:P:=by have h8:=hinv.2;rw[ny hrow] at h8;simp only[bM] at h8;omega):P:=h
def aDS (h:P:=by first|rfl|exact True.intro):P:=h
def aDV (h:P:=by rw[h7];exact yS _):P:=h
def Yo (h:P:=by first|assumption|(simp only[rD,L8,tX];omega)|omega):P:=h
def w_ (h:P:=by first|exact jG|exact gF _ jG|exact gF _ (gF _ jG)|exact gF _ (gF _ (gF _ jG))|exact gF _ (gF _ (gF _ (gF _ jG)))):P:=h
def Oj (h:P:=by first|exact Ov (T:=8) rfl (show aJ O _ (y8 8) from jO) hy1|exact aNZ (show aJ O _ (y8 8) from jO) Za):P:=h
def aDU (h:P:=by first|(show(((jM [C3,C4,C5,C6]):Int)≠0);decide)|assumption|simp_all):P:=h
def aD6 (h:P:=by first|(show(((jM [(.int .i64 kY),(.str tY),(.int .i64 xY),(.R cY)]):Int)≠0);decide)|assumption|simp_all):P:=h
def N7 (h:P:=by first|assumption|(simp only[rD,lN];omega)|(have h9:=agZ hy1 hy2;simp only[rD,tX];omega)|omega):P:=h
def afM (h:P:=by rw[<-hU];exact Mg.out):P:=h
def R8 (h:P:=by have:=HL.out.ge;omega):P:=h
def RS (h:P:=by have:=FZ.out;simp;omega):P:=h
def aql (h:P:=by unfold zM;rw[HP.out];exact⟨rfl,rfl,rfl,rfl⟩):P:=h
def YJ (h:P:=by rw[<-hV];simp[go_sem]):P:=h
def afS (h:P:=by rw[K7];have:=Fr.as3 l;omega):P:=h
def YM (h:P:=by show W1.heap.size<_;have:W1.heap.size<d_.heap.size:=l1;omega):P:=h
def YO (h:P:=by show W1.heap.size+1<_;have:W1.heap.size+1<d_.heap.size:=l2;omega):P:=h
def RV (h:P:=by have:=A3.out;omega):P:=h
def afO (h:P:=by first|exact mo oW|assumption|exact mo jK):P:=h
def aD7 (h:P:=by first|exact aFk|exact aFl|assumption|(exact OI True.intro oW)):P:=h
def l9 (h:P:=by first|exact aO|exact zu|exact OH|(exact mo aD2)|(exact eP oW oW)|assumption|(exact eP aD9 aD3)):P:=h
def uD (h:P:=by first|exact fun x hx=>hall x (gF _ hx)|exact fun x hx=>hall x (gF _ (gF _ hx))|(intro x hx;have e9:=yR.1 hx;subst e9;exact hall _ jS)):P:=h
def Oa (h:P:=by first|exact aN9 oW hy4|exact aOa Zc):P:=h
def aDZ (h:P:=by have h8:=h9 aDS;rw[hE0] at h8;have h7:aI [D.int .i64 k0,.str t0,.R c0,.int .i64 o0]=bM c0+1:=wY;exact fF h8 aDV):P:=h
def aDT (h:P:=by rw[h9 (fun hq=>absurd (nD hq.symm) oW)];exact gK _):P:=h
def YB (h:P:=by first|exact hex _ jS|(have h9:=mh;rw[wY] at h9;simp only[bM] at h9;omega)):P:=h
def ap5 (h:P:=by first|exact fF (awz (OG _ w_) jA) (hall _ w_)|exact aoo OC (hall _ w_)):P:=h
def aru (h:P:=by first|exact aGO asq (OG _ w_) (hall _ w_)|exact aBu Zb (OG _ w_) (hall _ w_)):P:=h
def Ag (h:P:=by first|exact hall|exact fun x hx=>hall x (gF _ hx)|exact fun x hx=>hall x (gF _ (gF _ hx))|(intro x hx;have e9:=yR.1 hx;subst e9;exact hall _ jS)):P:=h
def Oi (h:P:=by first|exact hex _ jS|exact fF (Ir (wz Jw)) mh):P:=h
def afU (h:P:=by first|exact eP oW oW|assumption|exact OH|(exact eP aD1 aD7)):P:=h
def N_ (h:P:=by first|(obtain⟨a9,b9,e9,h9,_⟩:=Lb;exact⟨a9,b9,e9,aDZ⟩)|(obtain⟨a9,b9,e9,_,h9⟩:=Lb;exact⟨a9,b9,e9,aDT⟩)):P:=h
def arO (h:P:=by
 refine au aj (fun h3=>aU) (fun h3=>?_);refine au aj (fun h4=>aU) (fun h4=>?_);refine au aj (fun h5=>?_) (fun h5=>?_)
 ·refine au aj (fun h6=>au aj (fun h7=>aU) (fun h7=>aU)) (fun h6=>?_)
  obtain⟨rA,lB,rfl,Tm,hA,Tq⟩:=pJ yE aC aC;obtain⟨kA,tA,xA,cA,rfl,uA,vA⟩:=oD hA;exact aU
 ·refine au aj (fun h6=>?_) (fun h6=>?_)
  ·refine eT M Ju fun hk=>?_
   refine au aj (fun h8=>?_) (fun h8=>aU);refine eT M Oz fun hk=>?_;refine au aj (fun xu=>aU) (fun xu=>?_);refine au aj (fun GH=>have GH:¬(c0).length<=6:=aC;aU) (fun GH=>?_)
   replace GH:(c0).length<=6:=aC;refine qp rfl ⟨l9,l9,rfl,xg⟩ (fun j x S' ks out hj hR hk=>?_)
   match j,hj,hR with
   |0,hj,⟨N,Sz⟩=>
    subst N;replace hj:(C9 n).sig.outs[0]?=some (x,S',ks):=hj;cases hj;replace Sz:(c0).all (mZ n)=false:=Sz;refine eH.zero ?_;exact aU
   |1,hj,⟨N,Sz⟩=>
    subst N;replace hj:(C9 n).sig.outs[1]?=some (x,S',ks):=hj;cases hj;replace Sz:(c0).all (mZ n)=true:=Sz;refine eH.succ (eH.zero ?_);refine qp rfl ⟨l9,l9,rfl,xg,rfl⟩ (fun j x S' ks out hj hR hk=>?_)
    match j,hj,hR with
    |0,hj,⟨N,Dr⟩=>
     subst N;replace hj:(C_ n).sig.outs[0]?=some (x,S',ks):=hj;cases hj;replace Dr:(c0).all (gT n)=false:=Dr;refine eH.zero ?_;exact aU
    |1,hj,⟨N,Dr⟩=>
     subst N;replace hj:(C_ n).sig.outs[1]?=some (x,S',ks):=hj;cases hj;replace Dr:(c0).all (gT n)=true:=Dr;refine eH.succ (eH.zero ?_);exact aU
    |j+2,hj,_=>simp[lam,C_,Pn] at hj
   |j+2,hj,_=>simp[lam,C9,Pm] at hj
  ·refine au aj (fun h7=>?_) (fun h7=>?_)
   ·refine au aj (fun h8=>have h8:¬(c0).length<=6:=aC;aU) (fun h8=>?_)
    replace h8:(c0).length<=6:=aC;refine qp rfl ⟨l9,l9,rfl,xg⟩ (fun j x S' ks out hj hR hk=>?_)
    match j,hj,hR with
    |0,hj,⟨N,SA⟩=>
     subst N;replace hj:(nW n).sig.outs[0]?=some (x,S',ks):=hj;cases hj;replace SA:(c0).all (gT n)=false:=SA;refine eH.zero ?_;exact aU
    |1,hj,⟨N,SA⟩=>
     subst N;replace hj:(nW n).sig.outs[1]?=some (x,S',ks):=hj;cases hj;replace SA:(c0).all (gT n)=true:=SA;refine eH.succ (eH.zero ?_);exact aU
    |j+2,hj,_=>simp[lam,nW,BP] at hj
   ·refine au aj (fun h8=>?_) (fun h8=>?_)
    ·refine au aj (fun h9=>aU) (fun h9=>?_)
     refine qp rfl ⟨l9,l9,rfl,xg⟩ (fun j x S' ks out hj hR hk=>?_)
     match j,hj,hR with
     |0,hj,⟨N,Sy⟩=>
      subst N;replace hj:(nW n).sig.outs[0]?=some (x,S',ks):=hj;cases hj;replace Sy:(c0).all (gT n)=false:=Sy;refine eH.zero ?_;exact aU
     |1,hj,⟨N,Sy⟩=>
      subst N;replace hj:(nW n).sig.outs[1]?=some (x,S',ks):=hj;cases hj;replace Sy:(c0).all (gT n)=true:=Sy;refine eH.succ (eH.zero ?_);exact aU
     |j+2,hj,_=>simp[lam,nW,BP] at hj
    ·refine au aj (fun h9=>?_) (fun h9=>aU)
     refine au aj (fun xu=>have xu:¬(c0).length=2:=aC;aU) (fun xu=>?_)
     replace xu:(c0).length=2:=aC;obtain⟨rA,rB,rfl,hA,hB⟩:=qN yE aC;obtain⟨kA,tA,xA,cA,rfl,uA,vA⟩:=oD hA;obtain⟨kB,tB,xB,cB,rfl,uB,vB⟩:=oD hB;refine aR ?_;refine eT M (fun k=>Y5 k (bF:=by exact(hall _ jS))) fun hk=>?_
     refine au aj (fun OB=>?_) (fun OB=>aU);refine qp rfl ⟨l9,l9,rfl,xg⟩ (fun j x S' ks out hj hR hk=>?_)
     match j,hj,hR with
     |0,hj,⟨N,Dr⟩=>
      subst N;replace hj:(nW n).sig.outs[0]?=some (x,S',ks):=hj;cases hj;replace Dr:([[(.int .i64 kA),(.str tA),(.int .i64 xA),(.R cA)],[(.int .i64 kB),(.str tB),(.int .i64 xB),(.R cB)]]).all (gT n)=false:=Dr;refine eH.zero ?_;exact aU
     |1,hj,⟨N,Dr⟩=>
      subst N;replace hj:(nW n).sig.outs[1]?=some (x,S',ks):=hj;cases hj;replace Dr:([[(.int .i64 kA),(.str tA),(.int .i64 xA),(.R cA)],[(.int .i64 kB),(.str tB),(.int .i64 xB),(.R cB)]]).all (gT n)=true:=Dr;refine eH.succ (eH.zero ?_);exact aU
     |j+2,hj,_=>simp[lam,nW,BP] at hj):P:=h
def aqL (h:P:=by
 show Tree.wp _ _ _ _ _ ([tT,tT,tS,(.int .i64 k0),(.str t0),(.int .i64 x0),(.R c0)]:G D);refine nT rfl rfl rfl (⟨⟨(ay NY (ay afO (ay NY (ay afU aX)))),(bq _)⟩,rfl⟩) (fun da post hR hk hpk=>?_);obtain⟨hR,hq⟩:=hR;replace hR:da=.one (.int .i64 (rU (aI [(.int .i64 k0),(.str t0),(.int .i64 x0),(.R c0)]) [(.int .i64 k0),(.str t0),(.int .i64 x0),(.R c0)])):=hR;subst hR hq;clear hk;show Tree.wp _ _ _ _ _ ([tT,tT,tS,(.int .i64 k0),(.str t0),(.int .i64 x0),(.R c0),(.int .i64 (rU (aI [(.int .i64 k0),(.str t0),(.int .i64 x0),(.R c0)]) [(.int .i64 k0),(.str t0),(.int .i64 x0),(.R c0)]))]:G D);refine iR rfl (fun h1=>?_) (fun h1=>?_)
 ·try simp[tD,rD,iD,sZ] at h1
  exact fV rfl ⟨_,[],rfl,⟨(show(.one (.int .i64 4):DA)=.one (.int .i64 (jM [(.int .i64 k0),(.str t0),(.int .i64 x0),(.R c0)])) from by first|(simp[jM,uS, *];done)|(simp_all[jM,uS];done)|(simp_all[jM,uS];omega)),rfl⟩,(nZ aO),aX⟩
 ·try simp[tD,rD,iD,sZ] at h1
  refine nT rfl rfl rfl (⟨⟨(ay NY (ay afO (ay NY (ay afU aX)))),(bq _)⟩,rfl⟩) (fun da post hR hk hpk=>?_);obtain⟨hR,hq⟩:=hR;replace hR:da=.one (.int .i64 (oQ (aI [(.int .i64 k0),(.str t0),(.int .i64 x0),(.R c0)]) [(.int .i64 k0),(.str t0),(.int .i64 x0),(.R c0)])):=hR;subst hR hq;clear hk;show Tree.wp _ _ _ _ _ ([tT,tT,tS,(.int .i64 k0),(.str t0),(.int .i64 x0),(.R c0),(.int .i64 (rU (aI [(.int .i64 k0),(.str t0),(.int .i64 x0),(.R c0)]) [(.int .i64 k0),(.str t0),(.int .i64 x0),(.R c0)])),(.int .i64 (oQ (aI [(.int .i64 k0),(.str t0),(.int .i64 x0),(.R c0)]) [(.int .i64 k0),(.str t0),(.int .i64 x0),(.R c0)]))]:G D);refine iR rfl (fun h3=>?_) (fun h3=>?_)
  ·try simp[tD,rD,iD,sZ] at h3
   exact fV rfl ⟨_,[],rfl,⟨(show(.one (.int .i64 4):DA)=.one (.int .i64 (jM [(.int .i64 k0),(.str t0),(.int .i64 x0),(.R c0)])) from by first|(simp[jM,uS, *];done)|(simp_all[jM,uS];done)|(simp_all[jM,uS];omega)),rfl⟩,(nZ aO),aX⟩
  ·try simp[tD,rD,iD,sZ] at h3
   refine nT rfl rfl rfl (⟨⟨(ay NY (ay afO (ay NY (ay afU aX)))),(bq _)⟩,rfl⟩) (fun da post hR hk hpk=>?_);obtain⟨hR,hq⟩:=hR;replace hR:da=.one (.bool (gT (aI [(.int .i64 k0),(.str t0),(.int .i64 x0),(.R c0)]) [(.int .i64 k0),(.str t0),(.int .i64 x0),(.R c0)])):=hR;subst hR hq;clear hk;show Tree.wp _ _ _ _ _ ([tT,tT,tS,(.int .i64 k0),(.str t0),(.int .i64 x0),(.R c0),(.int .i64 (rU (aI [(.int .i64 k0),(.str t0),(.int .i64 x0),(.R c0)]) [(.int .i64 k0),(.str t0),(.int .i64 x0),(.R c0)])),(.int .i64 (oQ (aI [(.int .i64 k0),(.str t0),(.int .i64 x0),(.R c0)]) [(.int .i64 k0),(.str t0),(.int .i64 x0),(.R c0)])),(.bool (gT (aI [(.int .i64 k0),(.str t0),(.int .i64 x0),(.R c0)]) [(.int .i64 k0),(.str t0),(.int .i64 x0),(.R c0)]))]:G D);refine iR rfl (fun h5=>?_) (fun h5=>?_)
   ·try simp[tD,rD,iD,sZ] at h5
    exact fV rfl ⟨_,[],rfl,⟨(show(.one (.int .i64 0):DA)=.one (.int .i64 (jM [(.int .i64 k0),(.str t0),(.int .i64 x0),(.R c0)])) from by first|(simp[jM,uS, *];done)|(simp_all[jM,uS];done)|(simp_all[jM,uS];omega)),rfl⟩,(nZ aO),aX⟩
   ·try simp[tD,rD,iD,sZ] at h5
    exact fV rfl ⟨_,[],rfl,⟨(show(.one (.int .i64 2):DA)=.one (.int .i64 (jM [(.int .i64 k0),(.str t0),(.int .i64 x0),(.R c0)])) from by first|(simp[jM,uS, *];done)|(simp_all[jM,uS];done)|(simp_all[jM,uS];omega)),rfl⟩,(nZ aO),aX⟩):P:=h
def apW (h:P:=by
 rename Nat=>m3
 go_wp2_with fail;obtain⟨X,hX⟩:∃X,wr.drewN m3=X:=⟨_,rfl⟩;rw[hX];have XL:Hid (gH w X pb s q3 0 0):=by rw[<-hX];exact VL.out.trans (D2.out.drewN m3)
 have XO:Hid (X.ownsRow w.heap.size 59 4 (.slice oa n oc) n ys):=by rw[<-hX];exact DU VO.out (D2.out.drewN m3) lp
 have XR:Hid (Row w X F (.slice oa n oc) l n ys):=by rw[<-hX];exact VR.out.Pg (D2.out.drewN m3) lp
 clear hX s0 s1 sf D2;have x0:=XL.out.p0;have x1:=XL.out.p1;have lX:=XL.out.size;have lpX:pb<X.heap.size:=lZ lp lX;have j1:(q1:Int)<=(q3:Int):=I;have j2:(q3:Int)<=(s.size:Int):=I;have j3:(0:Int)<=(q1:Int):=I;go_region_held3 (fun w'=>w'.cell? ⟨pb,0,none⟩=some (.string s)/\w'.cell? ⟨pb,1,none⟩=some (.int .i64 (q3:Int)))
  (first
   |go_keep
   |exact⟨Le,Lf⟩)
  ((refine D9 _ nQ _ _ _ nQ w.heap.size 59 ti _ 4 56 Qc Mi.out Mj.out Ml.out Mq.out rfl I (.slice oa n oc) n ys nQ ((XO.out.alloc _).drew) ⟨X.heap.size,0,none⟩ 1 1 [.int .i64 1,.string (s.extract q1 q3),.slice none 0 0,.int .i64 q1] nQ nQ (xS (cs:=#[.int .i64 1,.string (s.extract q1 q3),.slice none 0 0,.int .i64 q1]) (t:=59) (fr:=(0,0)) (lu X _)) Ah I wB I gJ ?_;intro g c2 w3 hA;have yD:=(XL.out.alloc (.cells #[.int .i64 1,.string (s.extract q1 q3),.slice none 0 0,.int .i64 q1] 59)).drew.grown hA.grown (fun k e=>(XO.out.lt k e).1);have Le:=yD.p0;have Lf:=yD.p1;have HA:=Q hA;clear yD hA))
 obtain⟨k',yC,xw⟩:=Tn (gk:=g0) (t:=piece s q1 q3) YN hs hd hlt I I SB JA (XL.out.alloc (.cells #[.int .i64 1,.string (s.extract q1 q3),.slice none 0 0,.int .i64 q1] 59)).drew (XO.out.alloc _).drew (XR.out.gZ (X:=(X.alloc (.cells #[.int .i64 1,.string (s.extract q1 q3),.slice none 0 0,.int .i64 q1] 59)).drew) Yp (fun b _ h=>jV X _ b h)) B3.out HC.out YE;have FY:=Q xw;clear xw HA;go_wp2_with fail;go_roundg k'
 case measure=>have:=U9.out;omega
 case rel=>exact FY.out):P:=h
def arL (h:P:=by
 rename Nat=>m3
 go_wp2_with fail;refine(DY (D2.out.drewN m3).head _ _).mono ?_;rintro e X ⟨rfl,hf⟩;have XL:=Q (VL.out.trans ((D2.out.drewN m3).trans hf));have XO:Hid (X.ownsRow w.heap.size 59 4 (.slice oa n oc) n ys):=DU VO.out ((D2.out.drewN m3).trans hf) lp;have XR:Hid (Row w X F (.slice oa n oc) l n ys):=VR.out.Pg ((D2.out.drewN m3).trans hf) lp;clear hf s0 s1 sf D2;go_wp2_with fail;have x0:=XL.out.p0;have x1:=XL.out.p1;have lX:=XL.out.size;have lpX:pb<X.heap.size:=lZ lp lX;have j1:(q1:Int)<=(q3:Int):=I;have j2:(q3:Int)<=(s.size:Int):=I;have j3:(0:Int)<=(q1:Int):=I;go_region_held3 (fun w'=>w'.cell? ⟨pb,0,none⟩=some (.string s)/\w'.cell? ⟨pb,1,none⟩=some (.int .i64 (q3:Int)))
  (first
   |go_keep
   |exact⟨Le,Lf⟩)
  ((refine D9 _ nQ _ _ _ nQ w.heap.size 59 ti _ 4 56 Qc Mi.out Mj.out Ml.out Mq.out rfl I (.slice oa n oc) n ys nQ ((XO.out.alloc _).drew) ⟨X.heap.size,0,none⟩ 1 1 [.int .i64 1,.string (s.extract q1 q3),.slice none 0 0,.int .i64 q1] nQ nQ (xS (cs:=#[.int .i64 1,.string (s.extract q1 q3),.slice none 0 0,.int .i64 q1]) (t:=59) (fr:=(0,0)) (lu X _)) Ah I wB I gJ ?_;intro g c2 w3 hA;have yD:=(XL.out.alloc (.cells #[.int .i64 1,.string (s.extract q1 q3),.slice none 0 0,.int .i64 q1] 59)).drew.grown hA.grown (fun k e=>(XO.out.lt k e).1);have Le:=yD.p0;have Lf:=yD.p1;have HA:=Q hA;clear yD hA))
 obtain⟨k',yC,xw⟩:=Tn (gk:=g0) (t:=piece s q1 q3) YN hs hd hlt I I SB JA (XL.out.alloc (.cells #[.int .i64 1,.string (s.extract q1 q3),.slice none 0 0,.int .i64 q1] 59)).drew (XO.out.alloc _).drew (XR.out.gZ (X:=(X.alloc (.cells #[.int .i64 1,.string (s.extract q1 q3),.slice none 0 0,.int .i64 q1] 59)).drew) Yp (fun b _ h=>jV X _ b h)) B3.out HC.out YE;have FY:=Q xw;clear xw HA;go_wp2_with fail;go_roundg k'
 case measure=>have:=U9.out;omega
 case rel=>exact FY.out):P:=h
def apJ (h:P:=by
 refine nT (jD (vC rfl (gP (gI rfl rfl hrow rfl) (gP (gI rfl rfl hrow rfl) (gP (gI rfl rfl hrow rfl) (gP (gI rfl rfl hrow rfl) uy))))) (jD (sj (d:=.int .i64 (IntKind.i64.wrap (u+0))) rfl) qh)) rfl rfl ⟨⟨jO,aO,mh⟩,rfl⟩ (fun da post hR _ _=>?_);obtain⟨hR,hq⟩:=hR;replace hR:da=.one (.bool (jy n [.int .i64 k1,.str t1,.int .i64 x1,.R c1] (IntKind.i64.wrap (u+0)))):=hR;subst hR hq;refine iR rfl (fun hb=>?_) (fun hb=>?_)
 ·replace hb:jy n [.int .i64 k1,.str t1,.int .i64 x1,.R c1] (IntKind.i64.wrap (u+0))=true:=by simpa using hb
  refine fV rfl ⟨[_,_,_,_,_,_],rfl,.inl ⟨_,wO,?_,k+1,?_,rfl,?_,?_⟩⟩
  ·omega
  ·rw[wrap_small YC];rfl
  ·omega
  ·rw[hc,ny hrow]
   show(jy n [.int .i64 k1,.str t1,.int .i64 x1,.R c1] (if kk==6&&k==1 then IntKind.i64.wrap (u+1) else IntKind.i64.wrap (u+0))&&qL (jy n) kk u (k+1) (rows.drop (k+1)))=_;rw[Am,hb];rfl
 ·replace hb:jy n [.int .i64 k1,.str t1,.int .i64 x1,.R c1] (IntKind.i64.wrap (u+0))=false:=by simpa using hb
  refine fV rfl ⟨[],rfl,.inr ⟨0,_,_,_,rfl,rfl,aX,rfl,?_⟩⟩;rw[hc,ny hrow];show(jy n [.int .i64 k1,.str t1,.int .i64 x1,.R c1] (if kk==6&&k==1 then IntKind.i64.wrap (u+1) else IntKind.i64.wrap (u+0))&&qL (jy n) kk u (k+1) (rows.drop (k+1)))=_;rw[Am,hb];rfl):P:=h
def ari (h:P:=by
 refine au aj (fun h3=>aU) (fun h3=>?_);refine au aj (fun h4=>aU) (fun h4=>?_);refine au aj (fun h5=>?_) (fun h5=>?_)
 ·refine eT M Oy fun hk=>?_
  refine au aj (fun h7=>?_) (fun h7=>aU);refine kX M Jt fun da hR hk=>?_;obtain⟨nA,rfl⟩:=FC hk;have hR8:=rR hR;clear hR;refine au aj (fun h9=>aU) (fun h9=>?_);refine au aj (fun xu=>?_) (fun xu=>aU);refine eT M (fun k=>Y3 k (bF:=by exact hex)) fun hk=>?_
  exact aU
 ·refine au aj (fun h6=>aU) (fun h6=>?_)
  refine au aj (fun h7=>aU) (fun h7=>?_);refine au aj (fun h8=>?_) (fun h8=>?_)
  ·refine au aj (fun h9=>au aj (fun xu=>aU) (fun xu=>aU)) (fun h9=>?_)
   obtain⟨rA,lB,rfl,Tm,hA,Tq⟩:=pJ yE aC aC;obtain⟨kA,tA,xA,cA,rfl,uA,vA⟩:=oD hA;exact aU
  ·refine au aj (fun h9=>?_) (fun h9=>aU)
   refine au aj (fun xu=>?_) (fun xu=>have xu:¬(c0).length=2:=aC;aU)
   replace xu:(c0).length=2:=aC;obtain⟨rA,rB,rfl,hA,hB⟩:=qN yE aC;obtain⟨kA,tA,xA,cA,rfl,uA,vA⟩:=oD hA;obtain⟨kB,tB,xB,cB,rfl,uB,vB⟩:=oD hB;refine eT M (fun k=>Sr k (bF:=by exact(hall _ jS))) fun hk=>?_
   exact aU):P:=h
def arJ (h:P:=by
 replace h:k<rows.length:=by simpa using h
 refine lM (mg rfl bS) ?_;obtain⟨row,hrow,jO⟩:=kZ hkr h;have mh:=hex _ (kg hrow);obtain⟨k1,t1,x1,c1,rfl,ht1,hc1,hr1⟩:=oF jO;refine nT (jD (vC rfl (gP (gI rfl rfl hrow rfl) (gP (gI rfl rfl hrow rfl) (gP (gI rfl rfl hrow rfl) (gP (gI rfl rfl hrow rfl) uy))))) qh) rfl rfl ⟨⟨jO,mh⟩,rfl⟩ (fun da post hR _ _=>?_);obtain⟨hR,hq⟩:=hR;replace hR:da=.one (.bool ((mZ n) [.int .i64 k1,.str t1,.int .i64 x1,.R c1])):=hR;subst hR hq;refine iR rfl (fun hb=>?_) (fun hb=>?_)
 ·replace hb:(mZ n) [.int .i64 k1,.str t1,.int .i64 x1,.R c1]=true:=by simpa using hb
  refine fV rfl ⟨[_,_,_,_,_],rfl,.inl ⟨_,wO,?_,k+1,?_,rfl,?_,?_⟩⟩
  ·omega
  ·rw[wrap_small YC];rfl
  ·omega
  ·rw[hc,ny hrow,Ip,hb,UF]
 ·replace hb:(mZ n) [.int .i64 k1,.str t1,.int .i64 x1,.R c1]=false:=by simpa using hb
  refine fV rfl ⟨[],rfl,.inr ⟨0,_,_,_,rfl,rfl,aX,rfl,?_⟩⟩;rw[hc,ny hrow,Ip,hb,LY]):P:=h
def aqK (h:P:=by
 refine nT (jD (vC rfl (gP (gI rfl rfl hrow rfl) (gP (gI rfl rfl hrow rfl) (gP (gI rfl rfl hrow rfl) (gP (gI rfl rfl hrow rfl) uy))))) (jD (sj (d:=.int .i64 (IntKind.i64.wrap (u+0))) rfl) (jD (sj (d:=.R a) rfl) qh))) rfl rfl ⟨⟨jO,aO,ha,mh,(show a.length+aI [.int .i64 k1,.str t1,.int .i64 x1,.R c1]<=1000000 by omega)⟩,rfl⟩ (fun da post hR aFm _=>?_)
 obtain⟨⟨l,rfl,hl,hll⟩,rfl⟩:=hR;replace hll:l.length<=a.length+aI [.int .i64 k1,.str t1,.int .i64 x1,.R c1]:=hll;replace hl:l=[]↔a=[]/\jy n [.int .i64 k1,.str t1,.int .i64 x1,.R c1] (IntKind.i64.wrap (u+0))=true:=hl;refine fV rfl ⟨[_,_,_,_,_,_,_],rfl,.inl ⟨_,wO,?_,k+1,l,?_,rfl,?_,agD aFm,?_,?_⟩⟩
 ·omega
 ·rw[wrap_small YC];rfl
 ·omega
 ·rw[hc,ny hrow,hl]
  show a=[]/\(jy n [.int .i64 k1,.str t1,.int .i64 x1,.R c1] (if kk==6&&k==1 then IntKind.i64.wrap (u+1) else IntKind.i64.wrap (u+0))&&qL (jy n) kk u (k+1) (rows.drop (k+1)))=true↔_
  rw[Am,bU,and_assoc]
 ·omega):P:=h
def aqo (h:P:=by
 refine⟨ais (.iface 204 (.pointer (some a0))),⟨bK (.inl rfl),bK (.inr rfl),rfl,_,rfl,.inr ⟨_,_,rfl⟩⟩,fun g d hd=>?_⟩;unfold ais at hd;split at hd
 ·rename_i hc
  obtain rfl:=bI hd;rcases hc with rfl|rfl
  ·obtain⟨arr,Tt,fr,u,h1,h2,h3⟩:=aiv e1
   exact⟨arr,Tt,fr,u,h1,h2,.of h3⟩
  ·obtain⟨arr,Tt,fr,u,h1,h2,h3⟩:=aiv e2
   exact⟨arr,Tt,fr,u,h1,h2,.of h3⟩
 ·split at hd
  ·rename_i hc
   obtain rfl:=bI hd;subst hc;obtain⟨arr,Tt,fr,u,h1,h2,h3⟩:=aiv e3;exact⟨arr,Tt,fr,u,h1,h2,.of h3⟩
  ·split at hd
   ·rename_i hc
    obtain rfl:=bI hd;subst hc;obtain⟨arr,e,fr,h1,h2⟩:=NG (show W.cell? ⟨6,0,none⟩=some _ by simpa using e4)
    exact⟨arr,e,fr,_,h1,h2,rfl⟩
   ·cases hd):P:=h
def aqY (h:P:=by
 replace hex:=hex hrun.jE;have mh:=hex _ (kg hrow);obtain⟨SS,Us,RF,TB,rfl,Ut,Uw⟩:=aT jO;refine lF M (ags ·) fu ?_ fun y1 hy1 hk=>?_
 exact EX;obtain⟨B0,B1,B2,B3,B4,B5,B6,B7,B8,rfl⟩:=zA hk;refine au aj (fun h2=>?_) (fun h2=>?_)
 ·refine au aj (fun h3=>?_) (fun h3=>?_)
  ·refine au aj (fun h4=>?_) (fun h4=>?_)
   ·refine au aj (fun h5=>?_) (fun h5=>?_)
    ·refine fO M ?_
     refine aR ?_;exact LN
    ·refine aR ?_
     exact LN
   ·refine aR ?_
    exact LN
  ·refine aR ?_
   exact LN
 ·refine aR ?_
  exact LN):P:=h
def arq (h:P:=by
 have mh:=hex _ (kg hrow);obtain⟨SS,Us,RF,TB,rfl,Ut,Uw⟩:=aT jO;refine lF M Y2 fu ?_ fun y1 hy1 hk=>?_;exact EX;obtain⟨rJ,rK⟩:=y1;obtain⟨kJ,tJ,cJ,oJ,rfl,uJ,vJ⟩:=DW (tH hk).1;obtain⟨kK,tK,cK,oK,rfl,uK,vK⟩:=DW (tH hk).2;obtain⟨hE1,Jw⟩:=TF hy1;refine lF M Y0 fu ?_ fun y2 hy2 hk=>?_;exact EX;replace hy2:=nz hy2;refine aR ?_;refine lF M (fun k=>Bz k (bF:=by exact(fF (Ir (wz Jw)) mh))) fu ?_ fun y3 hy3 hk=>?_
 exact EX;obtain⟨kP,tP,xP,cP,rfl,uP,vP⟩:=gQ hk;replace hy3:=nz hy3;refine aR ?_;exact LN):P:=h
def aq7 (h:P:=by
 have mh:=hex _ (kg hrow);obtain⟨SS,Us,RF,TB,rfl,Ut,Uw⟩:=aT jO;refine lF M Y2 fu ?_ fun y1 hy1 hk=>?_;exact EX;obtain⟨rA,rB⟩:=y1;obtain⟨kA,tA,cA,oA,rfl,uA,vA⟩:=DW (tH hk).1;obtain⟨kB,tB,cB,oB,rfl,uB,vB⟩:=DW (tH hk).2;obtain⟨hE1,Jw⟩:=TF hy1;refine lF M Y0 fu ?_ fun y2 hy2 hk=>?_;exact EX;replace hy2:=nz hy2;refine lF M (fun k=>Bz k (bF:=by exact(fF (Ir (wz Jw)) mh))) fu ?_ fun y3 hy3 hk=>?_
 exact EX;obtain⟨kG,tG,xG,cG,rfl,uG,vG⟩:=gQ hk;replace hy3:=nz hy3;exact LN):P:=h
def aqN (h:P:=by
 simp only[qK,List.count_append] at hn;simp only[iW] at h;simp only[dO,g_,qV] at hb;have two:id∈qK x->id∈qK y->False:=fun h1 h2=>by
  have:=aiQ.2 h1;have:=aiQ.2 h2;omega
 split at h
 ·rename_i c hx
  obtain rfl:=bI h;rcases hb with hb|hb|hb
  ·cases hb
  ·exact Ri I hx hb
  ·exact(two (Ns hx) (OM hb)).elim
 ·rename_i hx
  rcases hb with hb|hb|hb
  ·cases hb
  ·exact(Rh hx hb).elim
  ·exact Ri I h hb):P:=h
def aqn (h:P:=by
 have mh:=hex _ (kg hrow);obtain⟨SS,Us,RF,TB,rfl,Ut,Uw⟩:=aT jO;refine lF M Y2 fu ?_ fun y1 hy1 hk=>?_;exact EX;obtain⟨rJ,rK⟩:=y1;obtain⟨kJ,tJ,cJ,oJ,rfl,uJ,vJ⟩:=DW (tH hk).1;obtain⟨kK,tK,cK,oK,rfl,uK,vK⟩:=DW (tH hk).2;obtain⟨hE1,Jw⟩:=TF hy1;refine lF M Y1 fu ?_ fun y2 hy2 hk=>?_;exact EX;refine lF M (fun k=>Bz k (oU:=N7) (bF:=Oi)) fu ?_ fun y3 hy3 hk=>?_;exact EX;obtain⟨kP,tP,xP,cP,rfl,uP,vP⟩:=gQ hk;replace hy3:=nz hy3;refine aR ?_;exact LN):P:=h
def aqW (h:P:=by
 simp only[bU,iL] at h;obtain⟨rfl,h⟩:=h;split at h
 ·simp only[bU] at h
  obtain⟨n,h1⟩:=(Sw _ h.1).int;obtain⟨m,h2⟩:=(hb _ h.2).int;exact E1 h1 h2 (bK rfl) rfl
 ·simp only[bU] at h
  obtain⟨x,h1,h3⟩:=Sw _ h.1;obtain⟨y,h2,h4⟩:=hb _ h.2;obtain⟨_,rfl⟩:=h3.bool;obtain⟨_,rfl⟩:=h4.bool;exact E1 h1 h2 rfl rfl
 ·simp only[bU] at h
  obtain⟨x,h1,h3⟩:=Sw _ h.1;obtain⟨y,h2,h4⟩:=hb _ h.2;obtain⟨_,rfl,_⟩:=h3.str;obtain⟨_,rfl,_⟩:=h4.str;exact E1 h1 h2 rfl rfl
 ·cases h):P:=h
def aqw (h:P:=by
 have mh:=hex _ (kg hrow);obtain⟨SS,Us,RF,TB,rfl,Ut,Uw⟩:=aT jO;refine lF M Y2 fu ?_ fun y1 hy1 hk=>?_;exact EX;obtain⟨rA,rB⟩:=y1;obtain⟨kA,tA,cA,oA,rfl,uA,vA⟩:=DW (tH hk).1;obtain⟨kB,tB,cB,oB,rfl,uB,vB⟩:=DW (tH hk).2;obtain⟨hE1,Jw⟩:=TF hy1;refine lF M Y1 fu ?_ fun y2 hy2 hk=>?_;exact EX;refine lF M (fun k=>Bz k (oU:=N7) (bF:=Oi)) fu ?_ fun y3 hy3 hk=>?_;exact EX;obtain⟨kG,tG,xG,cG,rfl,uG,vG⟩:=gQ hk;replace hy3:=nz hy3;exact LN):P:=h
def apL (h:P:=by
 go_wp2_with (refine(FE (W1.heap.size+1) _ _ _ HW.out.m.s.p).mono ?_;rintro r V3 ⟨rfl,rfl⟩);go_region
 all_goals
  go_wp2_with fail;obtain⟨_,p0,p1,p2,p3⟩:=Mf.out.put (.slice none 0 0) (.slice none 0 0) (.int .i64 k) (.int .i64 o);refine ni (v:=.tuple #[.agg #[.slice none 0 0,.slice none 0 0],.agg #[.int .i64 k,.int .i64 o]]) ?_ rfl (TG (ps:=[]) (ts:=[]) Mf.out ⟨rfl,rfl⟩ (HW.out.prI.fail HK0.out HP.out HL.out HN.out));unfold rT at p0 p1 p2 p3;simp[results,Tryz.results6,go_sem,p0,p1,p2,p3]):P:=h
def aqx (h:P:=by
 subst hq;refine iR (b:=true) (den_nz rfl hf) (fun _=>?_) (fun h=>by cases h)
 refine fV rfl ⟨[_,_,_,_],rfl,.inr ⟨0,_,_,_,rfl,rfl,ay aO (ay aO (ay aO (ay aO aX))),f,?_,hf,rfl⟩⟩;rw[hc,ny hrow,bO];have ha:eO (fun x=>ji n x (bg vars)) [] [.int .i64 k1,.str t1,.R c1,.int .i64 o1]=.error f:=by
  show aL (ji n [.int .i64 k1,.str t1,.R c1,.int .i64 o1] (bg vars)) _=_;rw[hy];rfl
 first|(rw[ha];done)|(rw[ha];rfl)):P:=h
def arF (h:P:=by
 subst hq;refine iR (b:=true) (den_nz rfl hf) (fun _=>?_) (fun h=>by cases h)
 refine fV rfl ⟨[_,_,_,_],rfl,.inr ⟨0,_,_,_,rfl,rfl,ay aO (ay aO (ay aO (ay aO aX))),f,?_,hf,rfl⟩⟩;rw[hc,ny hrow,bO];have ha:eO (fun x=>ji n x (bg vars)) a [.int .i64 k1,.str t1,.R c1,.int .i64 o1]=.error f:=by
  show aL (ji n [.int .i64 k1,.str t1,.R c1,.int .i64 o1] (bg vars)) _=_;rw[hy];rfl
 first|(rw[ha];done)|(rw[ha];rfl)):P:=h
def arH (h:P:=by
 clear xD yF Fz Al hwt hwp Z;go_wp2_with (first
  |(refine(FE (W1.heap.size+1) _ _ _ HW.out.m.s.p).mono ?_;rintro r V3 ⟨rfl,rfl⟩)
  |(refine(Pp (W1.heap.size+1) 0 0 2 ⟨yk,ys,_,c.length,yc,no ri⟩ _ HV.out.m.s.p).mono ?_;rintro r V4 ⟨rfl,hf,hs⟩;have wQ:=Q (U_.out V4 hf hs);clear hf hs))
 go_roundg (L.length-(i+1))
 case measure=>have:=Bc.out;have:=qC.out;omega
 case rel=>exact⟨i+1,_,_,_,_,_,_,_,_,rfl,by have:=qC.out;omega,by simp,wQ⟩):P:=h
def afT (h:P:=by
 go_wp2_with (first
  |(refine(FE (W1.heap.size+1) _ _ _ HW.out.m.s.p).mono ?_;rintro r V3 ⟨rfl,rfl⟩)
  |(refine(Pp (W1.heap.size+1) 0 0 4 ⟨yk,ys,_,c.length,yc,no ri⟩ _ HV.out.m.s.p).mono ?_;rintro r V4 ⟨rfl,hf,hs⟩;have wQ:=Q (U_.out V4 hf hs);clear hf hs))
 go_roundg (L.length-(i+1))
 case measure=>have:=Bc.out;have:=qC.out;omega
 case rel=>exact⟨i+1,_,_,_,_,_,_,_,_,rfl,by have:=qC.out;omega,by simp,wQ⟩):P:=h
def Od (h:P:=by
 go_wp2_with (first
  |(refine(FE (W1.heap.size+1) _ _ _ HW.out.m.s.p).mono ?_;rintro r V3 ⟨rfl,rfl⟩)
  |(refine(Pp (W1.heap.size+1) 0 0 2 ⟨yk,ys,_,c.length,yc,no ri⟩ _ HV.out.m.s.p).mono ?_;rintro r V4 ⟨rfl,hf,hs⟩;have wQ:=Q (U_.out V4 hf hs);clear hf hs))
 go_roundg (L.length-(i+1))
 case measure=>have:=Bc.out;have:=qC.out;omega
 case rel=>exact⟨i+1,_,_,_,_,_,_,_,_,rfl,by have:=qC.out;omega,by simp,wQ⟩):P:=h
def aqF (h:P:=by
 clear xD yF hcp hct hcw;go_wp2_with (first
  |(refine(Av (W1.heap.size+1) _ _ _ HV.out.s.p).mono ?_;rintro r V3 ⟨rfl,rfl⟩)
  |(refine(Gy (W1.heap.size+1) 0 0 2 yi _ HV.out.s.p).mono ?_;rintro r V4 ⟨rfl,hf,hs⟩;have wQ:=Q (HNB.out V4 hf hs);clear hf hs))
 go_roundg (L.length-(i+1))
 case measure=>have:=Bc.out;have:=qC.out;omega
 case rel=>exact⟨i+1,_,_,_,_,_,_,_,rfl,by have:=qC.out;omega,by simp,wQ.out⟩):P:=h
def aqM (h:P:=by
 replace hex:=hex hrun.jE;have mh:=hex _ (kg hrow);obtain⟨SS,Us,RF,TB,rfl,Ut,Uw⟩:=aT jO;refine lF M (ags ·) fu ?_ fun y1 hy1 hk=>?_
 exact EX;obtain⟨A0,A1,A2,A3,A4,A5,A6,A7,A8,rfl⟩:=zA hk;refine au aj (fun h2=>?_) (fun h2=>LN);refine au aj (fun h3=>?_) (fun h3=>LN);refine au aj (fun h4=>?_) (fun h4=>LN);refine au aj (fun h5=>?_) (fun h5=>LN);refine fO M ?_;exact LN):P:=h
def aq8 (h:P:=by
 split at h
 ·rename_i tm1 s1 h1
  split at h
  ·rename_i vs h2
   simp only[aG,gV.call.injEq] at h;obtain⟨rfl,rfl⟩:=h;exact key _ _ _ _ (.inl rfl) h1 h2
  ·cases h
 ·rename_i tm1 s1 h1
  split at h
  ·rename_i vs h2
   simp only[aG,gV.call.injEq] at h;obtain⟨rfl,rfl⟩:=h;exact key _ _ _ _ (.inr rfl) h1 h2
  ·cases h
 ·cases h):P:=h
def ap2 (h:P:=by
 simp only[aG] at he;subst he;rcases Si hki hk h5 h7 with⟨h8,_⟩|⟨j',v0,v',h8,h9,xu,_⟩
 ·cases h8
 ·simp only[aG,eG] at h8
  obtain⟨rfl,rfl⟩:=h8;have U:=aM7 (ok:=ok) hu h6 hc hd h9;refine Good.same h aq4 ?_;cases ok
  ·exact xu
  ·exact⟨[v',.bool true],rfl,_,_,rfl,xu,_,_,rfl,rfl,rfl⟩):P:=h
def aqU (h:P:=by
 simp only[aG] at he;subst he;obtain⟨zv,GH,OB⟩:=aOD (E:=E) (ρ:=ρ) (w:=w) h4;rcases Si hki hk h5 h7 with⟨_,h9⟩|⟨j',v0,v',h8,_⟩
 ·have U:=aM6 (ok:=ok) hu h6 hc hd h9 GH
  refine Good.same h aq4 ?_;cases ok
  ·exact OB
  ·exact⟨[zv,.bool false],rfl,_,_,rfl,OB,_,_,rfl,rfl,rfl⟩
 ·cases h8):P:=h
def arh (h:P:=by
 refine kX M (fun k=>agu k (bF:=(by first|exact hall _ jS))) fun da hR hk=>?_
 rcases JG hR with⟨y5,qm,rfl⟩|⟨f5,qm,hf5,rfl⟩
 ·obtain⟨kK,tK,xK,cK,rfl,uK,vK⟩:=gQ (tH hk).1
  refine jo M ?_;exact aU M (TR.ok qE)
 ·refine fO (den_nz M hf5) ?_
  exact aU M (TR.err (f:=f5) qE hf5)):P:=h
def afQ (h:P:=by
 subst hq;replace bN:(w1).length+n<=1000000:=bN rfl;replace hex:=hex rfl;refine Ec (la:=kR) M (fun k=>by exact⟨.inl rfl,k,rfl,(fun _=>by first|exact hex|assumption|omega),(fun _=>HL)⟩) ?_ (fun hy0=>?_) fun y0 hy0=>?_
 exact qF
 ·replace hy0:=nz hy0
  exact dQ
 ·replace hy0:=nz hy0
  exact dQ):P:=h
def arK (h:P:=by
 replace N:out=[.int .i64 (c0.foldl (fun a x=>max a (oQ n x)) 0)]:=N;subst N;exact p9 (fV rfl ⟨_,[],rfl,⟨(show DA.one (.int .i64 (IntKind.i64.wrap (c0.foldl (fun a x=>max a (oQ n x)) 0+1)))=.one (.int .i64 (oQ (n+1) [.int .i64 k0,.str t0,.int .i64 x0,.R c0])) from rfl),rfl⟩,nZ aO,aX⟩)):P:=h
def apP (h:P:=by
 rw[hc,ny hrow,bO];have ha:eO (fun x=>ji n x (bg vars)) [] [.int .i64 k1,.str t1,.R c1,.int .i64 o1]=.ok ([]++[[.int .i64 k2,.str t2,.int .i64 x2,.R c2]]):=by
  show aL (ji n [.int .i64 k1,.str t1,.R c1,.int .i64 o1] (bg vars)) _=_;rw[hy];rfl
 first|(rw[ha];done)|(rw[ha];rfl)):P:=h
def apM (h:P:=by
 rw[hc,ny hrow,bO];have ha:eO (fun x=>ji n x (bg vars)) a [.int .i64 k1,.str t1,.R c1,.int .i64 o1]=.ok (a++[[.int .i64 k2,.str t2,.int .i64 x2,.R c2]]):=by
  show aL (ji n [.int .i64 k1,.str t1,.R c1,.int .i64 o1] (bg vars)) _=_;rw[hy];rfl
 first|(rw[ha];done)|(rw[ha];rfl)):P:=h
def aq3 (h:P:=by
 replace N:out=[.int .i64 (c0.foldl (fun a x=>wrap (a+rU n x)) 1)]:=N;subst N;exact p9 (fV rfl ⟨_,[],rfl,⟨(show DA.one (.int .i64 (c0.foldl (fun a x=>wrap (a+rU n x)) 1))=.one (.int .i64 (rU (n+1) [.int .i64 k0,.str t0,.int .i64 x0,.R c0])) from rfl),rfl⟩,nZ aO,aX⟩)):P:=h
def aqm (h:P:=by
 have BA:=rR hR;replace BA:=FP BA;clear hR;refine eT M (fun k=>pG k (bF:=by exact pX)) fun hk=>?_
 refine au aj (fun La=>?_) (fun La=>jf M (bG.err qE Ze True.intro));refine jo (uw M Ze) ?_;exact jf M (bG.err qE Ze True.intro)):P:=h
def ark (h:P:=by
 have BA:=rR hR;replace BA:=FP BA;clear hR;refine eT M (fun k=>pG k (bF:=by exact pX)) fun hk=>?_
 refine au aj (fun La=>?_) (fun La=>jf M (bG.err qE BD True.intro));refine jo (uw M BD) ?_;exact jf M (bG.err qE BD True.intro)):P:=h
def arD (h:P:=by
 have BA:=rR hR;replace BA:=FP BA;clear hR;refine eT M (fun k=>pG k (bF:=by exact pX)) fun hk=>?_
 refine au aj (fun La=>?_) (fun La=>jf M (bG.err qE vH True.intro));refine jo (uw M vH) ?_;exact jf M (bG.err qE vH True.intro)):P:=h
def apT (h:P:=by
 have BA:=rR hR;replace BA:=FP BA;clear hR;refine eT M (fun k=>pG k (bF:=by exact pX)) fun hk=>?_
 refine au aj (fun La=>?_) (fun La=>jf M (bG.err qE sW True.intro));refine jo (uw M sW) ?_;exact jf M (bG.err qE sW True.intro)):P:=h
def arl (h:P:=by
 by_cases hn:n=0
 ·rw[bK hn,xq,bK hn]
 ·rw[bB hn]
  by_cases N:n%2=1
  ·rw[bK N,xq,bB hn,bK N];exact ih _ _ I
  ·rw[bB N,xq,bB hn,bB N];exact ih _ _ I):P:=h
def apG (h:P:=by
 rw[nI I] at hj
 by_cases he:j=acc.length
 ·subst he;simp at hj;exact .inr ⟨rfl,hj.symm⟩
 ·have:([r]:G Rec)[j-acc.length]?=none:=by
   rw[awZ];simp;omega
  rw[this] at hj;cases hj):P:=h
def aqj (h:P:=by
 refine fV rfl ⟨[_],rfl,.inr ⟨0,_,_,_,rfl,rfl,ay aO aX,?_⟩⟩;have h:¬k<rows.length:=rM;show[D.int .i64 a]=[D.int .i64 (rows.foldl (fun a x=>wrap (a+rU n x)) a0)];rw[hc,yQ I]
 rfl):P:=h
def aqa (h:P:=by
 refine fV rfl ⟨[_],rfl,.inr ⟨0,_,_,_,rfl,rfl,ay aO aX,?_⟩⟩;have h:¬k<rows.length:=rM;show[D.int .i64 a]=[D.int .i64 (rows.foldl (fun a x=>max a (oQ n x)) a0)];rw[hc,yQ I]
 rfl):P:=h
def Yx (h:P:=by
 obtain⟨rA,rB,rfl,hA,hB⟩:=qN yE aC;obtain⟨kA,tA,xA,cA,rfl,uA,vA⟩:=oD hA;obtain⟨kB,tB,xB,cB,rfl,uB,vB⟩:=oD hB;refine eT M (fun k=>Sr k (bF:=by exact(hall _ jS))) fun hk=>?_
 exact aU):P:=h
def af6 (h:P:=by
 have hb:=hV.block W.heap.size (by rw[<-hU];exact hlt) I
 rw[<-hU] at hb;have hc (j:Nat):=vU (a:=⟨W.heap.size,j,none⟩) hb;refine⟨(hc 0).trans ?_,(hc 1).trans ?_,(hc 2).trans ?_,(hc 3).trans ?_⟩<;>simp[go_sem]):P:=h
def aqD (h:P:=by
 refine lM (mg rfl bS) ?_;refine lM (mg (mJ (uq (e3 rfl rfl rfl)) rfl rfl) aDY) ?_;exact fV (jD (sj (e3 rfl rfl rfl)) qh) ⟨_,[],rfl,⟨⟨_,rfl,Zg,hle⟩,rfl⟩,nZ hkw,aX⟩):P:=h
def aqB (h:P:=by
 refine eT M (fun k=>pG k (bF:=by exact pX)) fun hk=>?_
 refine au aj (fun h13=>?_) (fun h13=>jf M (bG.err qE Zd True.intro));refine jo (uw M Zd) ?_;exact jf M (bG.err qE Zd True.intro)):P:=h
def arz (h:P:=by
 rename_i l;simp only[aG,D.int.injEq,IB] at h3;have hn:l.length=n:=UG h3;simp only[Uo];rw[bK ⟨hlt.1,by omega⟩]
 simp only[f_,sD,sK,oL]
 congr 3;omega):P:=h
def apX (h:P:=by
 intro l
 induction l with
 |nil=>intro _;simp
 |cons r rs ih=>intro hz;simp only[LZ,mD,gD,Iw,ih fun r' U=>hz r' (gF _ U),hz r jG];omega):P:=h
def YH (h:P:=by
 rw[hc,ny hrow];show(jy n [.int .i64 k1,.str t1,.int .i64 x1,.R c1] (if kk==6&&k==1 then IntKind.i64.wrap (u+1) else IntKind.i64.wrap (u+0))&&qL (jy n) kk u (k+1) (rows.drop (k+1)))=_;rw[Am,hb];rfl):P:=h
def aq9 (h:P:=by
 simp only[iW] at h;split at h
 ·cases h
 ·rename_i hx
  simp only[dO,g_,qV] at hb;rcases hb with hb|hb|hb
  ·cases hb
  ·exact Rh hx hb
  ·exact Rh h hb):P:=h
def arN (h:P:=by
 split at h
 ·rename_i hu
  simp only[aG] at h;subst h;obtain⟨c,_,rfl⟩:=hx;rw[show v=_ from hy]
  exact .of (NT fun d=>by simp[Op.equalIn,underlying,hu]) bS rfl rfl
 ·cases h):P:=h
def apY (h:P:=by
 replace hb:(gT n) [.int .i64 k1,.str t1,.int .i64 x1,.R c1]=false:=by simpa using hb
 refine fV rfl ⟨[],rfl,.inr ⟨0,_,_,_,rfl,rfl,aX,rfl,?_⟩⟩;rw[hc,ny hrow,Ip,hb,LY]):P:=h
def NW (h:P:=by
 split at h
 ·rename_i hu
  simp only[aG] at h;subst h;rw[show u=_ from hx,show v=_ from hy]
  exact .of (NT fun d=>by simp[Op.equalIn,underlying,hu]) bS rfl rfl
 ·cases h):P:=h
def arb (h:P:=by
 split at h
 ·rename_i n hn
  rw[agM hn hd]
  simpa using h
 ·have:=agz hx h
  simp only[den,hd,f_,sD,jl,qX,aG,D.bool.injEq,iL] at this;omega):P:=h
def aqI (h:P:=by
 obtain⟨a',aUT,e,h1|⟨g,h1,h2,h3⟩⟩:=HI.out
 ·have:=HL.out;rw[h1] at this;simp at this;omega
 ·have e1:a=a':=by cases e;rfl
  exact⟨g,e1.trans h1,(h3 k af5).below HW.out.2 h2⟩):P:=h
def ap3 (h:P:=by
 subst N;exact p9 (fV rfl ⟨_,[],rfl,⟨(show DA.one (.bool false)=.one (.bool (jy (n+1) [.int .i64 k0,.str t0,.int .i64 x0,.R c0] u)) by rw[KO,hc];simp),rfl⟩,nZ zu,aX⟩)):P:=h
def aqs (h:P:=by
 simp only[iW] at h;simp only[dO,g_,qV];split at h
 ·rename_i hx;obtain rfl:=bI h;exact .inr (.inl (Nt hx))
 ·exact .inr (.inr (Nt h))):P:=h
def arp (h:P:=by
 refine dH M (fun k=>GA k (bF:=by exact(hall _ jS))) fun y9 jA hk=>?_
 obtain⟨Q0,Q1,Q2,Q3,Q4,Q5,Q6,Q7,Q8,Q9,rfl⟩:=nH hk;replace jA:=nz jA;exact dQ):P:=h
def aqO (h:P:=by
 refine au aj (fun GH=>?_) (fun GH=>dQ);refine fO M ?_;exact jf M (bG.err (f:=((jM [(.int .i64 0),(.str []),(.int .i64 0),(.R [])]),o0)) qE R7 True.intro)):P:=h
def ap6 (h:P:=by
 refine au aj (fun OB=>?_) (fun OB=>dQ);refine fO M ?_;exact jf M (bG.err (f:=((jM [(.int .i64 0),(.str []),(.int .i64 0),(.R [])]),o0)) qE R7 True.intro)):P:=h
def arw (h:P:=by
 refine au aj (fun h13=>?_) (fun h13=>dQ);refine fO M ?_;exact jf M (bG.err (f:=((jM [(.int .i64 0),(.str []),(.int .i64 0),(.R [])]),o0)) qE R7 True.intro)):P:=h
def ap7 (h:P:=by
 rename_i hc;simp only[hc] at h⊢;split at h
 ·split at h
  ·simp only[aG] at h
   subst h;refine⟨_,rfl,fun s'=>?_⟩
   simp_all
  ·cases h
 ·cases h):P:=h
def aq1 (h:P:=by
 simp only[dO,g_,qV] at hb;simp only[qK,qV];rcases hb with hb|hb|hb
 ·cases hb
 ·exact .inl (OM hb)
 ·exact .inr (OM hb)):P:=h
def aq5 (h:P:=by
 obtain⟨Tt,N⟩:=h0.out;rw[hU] at N;have hb:=hV.block bo (kF.1 N).1 (nJ hS.ne);rw[vU (a:=⟨bo,0,none⟩) hb];simp[World.cell?,N]):P:=h
def arA (h:P:=by
 simp only[dO,g_,qV] at h⊢;rcases h with rfl|h|h
 ·simpa[dO] using k
 ·exact .inr (.inl (D_ h k))
 ·exact .inr (.inr (D_ h k))):P:=h
def aqS (h:P:=by
 refine aR ?_;refine aR ?_;refine dH M (fun k=>uI k (bF:=uD)) fun y10 asD hk=>?_;have m10:=jd hk;replace asD:=nz asD;exact dQ):P:=h
def aqd (h:P:=by
 refine aR ?_;refine aR ?_;refine dH M (fun k=>uI k (bF:=uD)) fun y28 asE hk=>?_;have m28:=jd hk;replace asE:=nz asE;exact dQ):P:=h
def YA (h:P:=by
 go_roundg (L.length-(i+1))
 case measure=>have:=Bc.out;have:=qC.out;omega
 case rel=>exact⟨i+1,_,_,_,_,_,_,_,rfl,by have:=qC.out;omega,by simp,wQ.out⟩):P:=h
def ap8 (h:P:=by
 clear h9;refine fO M ?_;obtain⟨rA,lB,rfl,Tm,hA,Tq⟩:=pJ qP aC aC;obtain⟨kA,tA,cA,oA,rfl,uA,vA⟩:=aT hA;refine aR ?_;exact PW rfl M M qE):P:=h
def R_ (h:P:=by
 refine fV rfl ⟨[],rfl,.inr ⟨1,_,_,_,rfl,rfl,aX,rfl,?_⟩⟩;have h:¬k<rows.length:=rM;rw[hc,yQ I]
 rfl):P:=h
def arj (h:P:=by
 clear Z;go_wp2_with fail;refine(ahT _ _).mono ?_;rintro e w' ⟨rfl,rfl⟩;rw[HW.out];go_wp2_with fail;go_ret;exact⟨by rw[HE2.out,HP.out];rfl,rfl⟩):P:=h
def ard (h:P:=by
 refine jo (Df M) ?_;refine qp M ⟨[_],rfl,l,rfl,hk,hd⟩ ?_;rintro j x S' ks out hj ⟨rfl,rfl⟩ hko;cases hj;exact eH.succ (eH.zero (aU M rfl))):P:=h
def aqb (h:P:=by exact au aj (fun h2=>aU M (TR.err (f:=((jM [(.int .i64 kA),(.str tA),(.int .i64 xA),(.R cA)]),o0)) qE Z0)) (fun h2=>aU M (TR.ok qE))):P:=h
def ap4 (h:P:=by
 refine⟨h.1,?_⟩;rcases h.2 with hn|⟨g,cap,cur,rfl,Al,hgg,rest⟩
 ·exact .inl hn
 ·exact .inr ⟨g,cap,cur,rfl,Al,(hb g rfl).trans hgg,rest⟩):P:=h
def aqX (h:P:=by
 rw[hc,ny hrow];show(rows.drop (k+1)).foldl _ (max a (oQ n [.int .i64 k1,.str t1,.int .i64 x1,.R c1]))=_;rw[Int.max_eq_right I]):P:=h
def apQ (h:P:=by
 rw[hc,ny hrow];show(rows.drop (k+1)).foldl _ (max a (oQ n [.int .i64 k1,.str t1,.int .i64 x1,.R c1]))=_;rw[Int.max_eq_left I]):P:=h
def arv (h:P:=by
 refine eT M (fun _=>gE ⟨_,rfl,jO,hd⟩) fun hk=>?_;refine fO M ?_;exact nU (m':=rows.length-(k+1)) rfl M aA ⟨k+1,nx,aA,rfl⟩):P:=h
def aqy (h:P:=by
 refine fO M ?_;exact jf M (bG.err (f:=((jM [(.int .i64 kY),(.str tY),(.int .i64 xY),(.R cY)]),o0)) qE aD6 True.intro)):P:=h
def aqr (h:P:=by
 split at h
 ·have:=go_inv s h hs YG;exact⟨this.1,by omega⟩
 ·have:=go_inv s h hs YG;exact⟨this.1,by omega⟩):P:=h
def apN (h:P:=by
 have:=O6 hL h h2;refine mJ rfl (uq h2) ?_;simp only[jl,qX,aG,D.bool.injEq,iL];omega):P:=h
def aqk (h:P:=by
 refine eT M (fun k=>pG k (bF:=by exact pX)) fun hk=>?_
 exact au aj (fun GH=>oG) (fun GH=>oG)):P:=h
def aqp (h:P:=by cases v1<;>simp only[mA] at h<;>first|(cases h;done)|(split at h<;>first|(cases h;done)|(rename_i hc;subst hc;exact hv))):P:=h
def arB (h:P:=by
 simp only[iW] at h;simp only[qK,qV];split at h
 ·exact .inl (Ns ‹_›)
 ·exact .inr (Ns h)):P:=h
def aqC (h:P:=by
 cases v1<;>simp only[mA] at h<;>first|(cases h;done)|skip
 obtain⟨xs,rfl,h2⟩:=hv;exact⟨xs,rfl,ata U h he h2⟩):P:=h
def arI (h:P:=by exact fV rfl ⟨[_,_,_],rfl,.inr ⟨0,_,_,_,rfl,rfl,ay h1 (ay aO (ay aO aX)),k,hk,rfl⟩⟩):P:=h
def arE (h:P:=by
 have:=agz hx h;simp only[den,h1,h2,f_,jl] at this;split at this
 ·simpa using this
 ·cases this):P:=h
def aqV (h:P:=by
 simp only[aG] at he;subst he;rw[show u=_ from hv]
 exact Good.same h (u:=.int .i64 0) NZ rfl):P:=h
def afK (h:P:=by
 have FY:=Q xw;clear xw hA;go_wp2_with fail;go_roundg k'
 case measure=>exact yC
 case rel=>exact FY.out):P:=h
def aro (h:P:=by
 have h1:=IE.out.2.1;have h2:aI y+1<=aI ri:=wz (by rw[IG.out.1];exact AY hy)
 omega):P:=h
def aqv (h:P:=by
 rcases h1 with rfl|h1
 ·rw[J] at hj
  obtain rfl:=bI hj;rw[hk] at yC;cases yC
 ·exact h1):P:=h
def Og (h:P:=by
 obtain⟨rA,lB,rfl,Tm,hA,Tq⟩:=pJ yE aC aC;obtain⟨kA,tA,xA,cA,rfl,uA,vA⟩:=oD hA;exact aU):P:=h
def af7 (h:P:=by
 simp only[dO,g_] at h⊢;rcases h with rfl|h
 ·simpa[dO] using k
 ·exact .inr (D_ h k)):P:=h
def aq6 (h:P:=by
 obtain⟨B0,B1,B2,B3,B4,B5,B6,B7,B8,B9,rfl⟩:=nH hk;replace hy1:=nz hy1;refine aR ?_;exact LN):P:=h
def aqu (h:P:=by
 rw[show u=_ from hx]
 exact .of (NT fun d=>by simp[Op.equalIn,underlying,hu]) bS rfl rfl):P:=h
def RZ (h:P:=by
 rw[show v=_ from hy]
 exact .of (NT fun d=>by simp[Op.equalIn,underlying,hu]) bS rfl rfl):P:=h
def aq0 (h:P:=by
 simp only[dO,g_] at hb;rcases hb with hb|hb
 ·cases hb
 ·exact Rh (c:=x) h hb):P:=h
def aqH (h:P:=by
 simp only[dO,g_] at hb;rcases hb with hb|hb
 ·cases hb
 ·exact Ri (c:=x) hn h hb):P:=h
def aqe (h:P:=by
 refine fO M ?_;exact jf M (bG.err (f:=((jM [K3,K4,K5,K6]),o0)) qE aDP True.intro)):P:=h
def apI (h:P:=by
 refine fO M ?_;exact jf M (bG.err (f:=((jM [M3,M4,M5,M6]),o0)) qE aDR True.intro)):P:=h
def aqP (h:P:=by
 refine fO M ?_;exact jf M (bG.err (f:=((jM [C3,C4,C5,C6]),o0)) qE aDU True.intro)):P:=h
def aqf (h:P:=by
 rw[hq] at h h';obtain⟨rfl,rfl,rfl,rfl⟩:=h;obtain⟨rfl,rfl,rfl,rfl⟩:=h';exact⟨rfl,rfl,rfl,rfl⟩):P:=h
def aqh (h:P:=by
 obtain⟨d1,r1,rfl,h1,h⟩:=dW jO;obtain rfl:=wE h;obtain⟨k,rfl⟩:=h1.int;exact⟨k,rfl⟩):P:=h
def aqR (h:P:=by split at hc<;>first|(cases hc;done)|(simp only[aG,eG] at hc;exact hc.1)):P:=h
def apV (h:P:=by
 simp only[dO,g_] at hb;rcases hb with hb|hb
 ·cases hb
 ·exact OM (c:=x) hb):P:=h
def aqt (h:P:=by
 rcases ih _ _ _ _ _ h with⟨h1,h2⟩|⟨h1,h2⟩
 ·exact .inl ⟨by omega,h2⟩
 ·simp[o9] at h2):P:=h
def ars (h:P:=by
 obtain⟨A0,A1,A2,A3,A4,A5,A6,A7,A8,A9,rfl⟩:=nH hk;replace hy1:=nz hy1;exact dQ):P:=h
def aqZ (h:P:=by
 obtain⟨rfl,_⟩:=BU Fy;rw[I_] at uL;obtain rfl:=bI uL;exact nJ Zg):P:=h
def aqJ (h:P:=by
 obtain⟨kB,tB,xB,cB,rfl,uB,vB⟩:=gQ hk;replace hy1:=nz hy1;refine aR ?_;exact LN):P:=h
def ap9 (h:P:=by
 intro _ V pre ⟨agB,_⟩
 match V,agB with
 |[.agg r0],⟨h0,hn⟩=>exact absurd hn (aaP h0)):P:=h
def N8 (h:P:=by
 intro V pre ⟨agB,_⟩
 match V,agB with
 |[.agg r0],⟨h0,hn⟩=>exact absurd hn (aaP h0)):P:=h
def aqg (h:P:=by
 go_wp2_with fail;go_ret;exact⟨by rw[HE.out,HL.out,Bool.and_false,LY];rfl,rfl⟩):P:=h
def aqi (h:P:=by
 obtain⟨A0,A1,A2,A3,A4,A5,A6,A7,A8,A9,rfl⟩:=nH hk;replace hy1:=nz hy1;exact LN):P:=h
def ara (h:P:=by
 match j,N with
 |0,N=>cases N;simp
 |1,N=>cases N;simp
 |2,N=>cases N;simp):P:=h
def aqc (h:P:=by
 refine mJ h h ?_
 match d,hd with
 |.int _ _,_=>simp[jl]
 |.str _,_=>simp[jl]):P:=h
def aqE (h:P:=by
 obtain⟨i,r,h1,h2,h3⟩:=ahn h;exact⟨i+1,r,by omega,by simpa using h2,h3⟩):P:=h
def Sc (h:P:=by
 refine eT M (fun k=>Y3 k (bF:=by exact hex)) fun hk=>?_
 exact aU):P:=h
def aqz (h:P:=by
 go_end0;exact⟨rfl,by simp only[oz,rO,bB hk];exact H1.out,(Sb.refl b W).alloc _⟩):P:=h
def arM (h:P:=by
 rintro j1 x S' ks out hj ⟨rfl,rfl⟩ hko;cases hj;exact eH.succ (eH.zero (aU M rfl))):P:=h
def apH (h:P:=by
 simp only[den,aG,D.int.injEq] at h1 h2;rw[<-h1.2,<-h2.2]
 simpa using h):P:=h
def YQ (h:P:=by exact⟨this.1,this.2.1,this.2.2.1,this.2.2.2.1,fun _=>this.2.2.2.2 gJ⟩):P:=h
def apR (h:P:=by
 rintro e w' ⟨rfl,rfl⟩;refine⟨_,rfl,iN _ _,fun fz=>?_⟩;rw[aeP]
 rfl):P:=h
def aq2 (h:P:=by
 obtain⟨kA,tA,xA,cA,rfl,uA,vA⟩:=gQ (tH hk).1;exact aU M (TR.ok qE)):P:=h
def apZ (h:P:=by
 cases j_ with
 |nil=>cases h0
 |cons s r=>obtain rfl:=bI h0;rfl):P:=h
def apS (h:P:=by
 go_end0;exact⟨rfl,H1.out.put e x.o,(((Sb.refl b W).alloc _).cell 0 _).cell 1 _⟩):P:=h
def arn (h:P:=by
 obtain⟨kA,tA,xA,cA,rfl,uA,vA⟩:=gQ hk;replace hy1:=nz hy1;exact LN):P:=h
def af4 (h:P:=by
 cases hq;refine eH.succ (eH.succ (eH.zero ?_));exact aU M (TR.ok qE)):P:=h
def afZ (h:P:=by
 have:=(gN.1 hu).1;rw[lI.1] at this;exact this):P:=h
def R3 (h:P:=by cases v1<;>simp only[mA] at h<;>first|(cases h;done)|exact hv):P:=h
def R4 (h:P:=by
 have:=A2.out
 rwa[Ao,AZ RY] at this):P:=h
def Gx (h:P:=by
 match j,N with
 |0,N=>cases N;simp
 |1,N=>cases N;simp):P:=h
def Yy (h:P:=by
 have h1:=qj (show x∈c0 from hx)
 rw[vD] at hex;omega):P:=h
def arG (h:P:=by
 obtain⟨arr,⟨a,cap,e,_⟩,_⟩:=hS.gp.pks OJ;exact⟨a,cap,e⟩):P:=h
def afJ (h:P:=by simp only[den,aG] at hd;subst hd;exact Iff.rfl):P:=h
def Yt (h:P:=by unfold IntKind.wrap;simp[IntKind.bits,IntKind.signed];omega):P:=h
def afX (h:P:=by simp only[den,aG] at h;subst h;exact hd):P:=h
def afP (h:P:=by
 refine eH.succ (eH.zero ?_);exact aU M (TR.ok qE)):P:=h
def RX (h:P:=by exact au aj (fun h2=>dQ) (fun h2=>dJ)):P:=h
def afL (h:P:=by
 have e:some g=some q:=e;exact bI e):P:=h
def afN (h:P:=by exact⟨fun h=>Dm,fun h=>by cases h⟩):P:=h
def YF (h:P:=by
 obtain⟨r,rfl,hk,_⟩:=hP;exact asT hk aO):P:=h
def NV (h:P:=by
 rw[hc,yQ I]
 rfl):P:=h
def Yv (h:P:=by cases h;exact⟨hs,by simp only[H7];omega⟩):P:=h
def Yq (h:P:=by
 simp only[execOp,N,resolve,hc,agy]
 rfl):P:=h
def Dj (h:P:=by
 refine eH.succ (eH.zero ?_);exact aU):P:=h
def Yu (h:P:=by
 refine aR ?_;exact PW rfl M M qE):P:=h
def Ol (h:P:=by
 match j,N with
 |0,N=>cases N;simp):P:=h
def R9 (h:P:=by
 have:=hex hq;rw[wY] at this;omega):P:=h
def KX (h:P:=by
 replace qm:=nz qm;exact dQ):P:=h
def yw (h:P:=by rw[wrap_small YC];rfl):P:=h
def Oh (h:P:=by
 refine fO M ?_;exact dQ):P:=h
def Ae (h:P:=by
 refine eH.zero ?_;exact aU):P:=h
def aD5 (h:P:=by
 have x0:=XL.out.p0;have x1:=XL.out.p1;have lX:=XL.out.size;have lpX:pb<X.heap.size:=lZ lp lX;have j1:(q1:Int)<=(q3:Int):=I;have j2:(q3:Int)<=(s.size:Int):=I;have j3:(0:Int)<=(q1:Int):=I;go_region_held3 (fun w'=>w'.cell? ⟨pb,0,none⟩=some (.string s)/\w'.cell? ⟨pb,1,none⟩=some (.int .i64 (q3:Int)))
  (first
   |go_keep
   |exact⟨Le,Lf⟩)
  ((refine D9 _ nQ _ _ _ nQ w.heap.size 59 ti _ 4 56 Qc Mi.out Mj.out Ml.out Mq.out rfl I (.slice oa n oc) n ys nQ ((XO.out.alloc _).drew) ⟨X.heap.size,0,none⟩ 1 1 [.int .i64 1,.string (s.extract q1 q3),.slice none 0 0,.int .i64 q1] nQ nQ (xS (cs:=#[.int .i64 1,.string (s.extract q1 q3),.slice none 0 0,.int .i64 q1]) (t:=59) (fr:=(0,0)) (lu X _)) Ah I wB I gJ ?_;intro g c2 w3 hA;have yD:=(XL.out.alloc (.cells #[.int .i64 1,.string (s.extract q1 q3),.slice none 0 0,.int .i64 q1] 59)).drew.grown hA.grown (fun k e=>(XO.out.lt k e).1);have Le:=yD.p0;have Lf:=yD.p1;have HA:=Q hA;clear yD hA))
 obtain⟨k',yC,xw⟩:=Tn (gk:=g0) (t:=piece s q1 q3) YN hs hd hlt I I SB JA (XL.out.alloc (.cells #[.int .i64 1,.string (s.extract q1 q3),.slice none 0 0,.int .i64 q1] 59)).drew (XO.out.alloc _).drew (XR.out.gZ (X:=(X.alloc (.cells #[.int .i64 1,.string (s.extract q1 q3),.slice none 0 0,.int .i64 q1] 59)).drew) Yp (fun b _ h=>jV X _ b h)) B3.out HC.out YE;have FY:=Q xw;clear xw HA;go_wp2_with fail;go_roundg k'
 case measure=>have:=U9.out;omega
 case rel=>exact FY.out):P:=h
def aD0 (h:P:=by exact fV rfl ⟨_,[],rfl,⟨(show(.one (.int .i64 4):DA)=.one (.int .i64 (jM [(.int .i64 k0),(.str t0),(.int .i64 x0),(.R c0)])) from by first|(simp[jM,uS, *];done)|(simp_all[jM,uS];done)|(simp_all[jM,uS];omega)),rfl⟩,(nZ aO),aX⟩):P:=h
def apF (h:P:=by
 rw[hc,ny hrow,hl];show a=[]/\(jy n [.int .i64 k1,.str t1,.int .i64 x1,.R c1] (if kk==6&&k==1 then IntKind.i64.wrap (u+1) else IntKind.i64.wrap (u+0))&&qL (jy n) kk u (k+1) (rows.drop (k+1)))=true↔_
 rw[Am,bU,and_assoc]):P:=h
def aU8 (h:P:=by
 obtain⟨kA,tA,xA,cA,rfl,uA,vA⟩:=oD hA;obtain⟨kB,tB,xB,cB,rfl,uB,vB⟩:=oD hB;refine eT M (fun k=>Sr k (bF:=by exact(hall _ jS))) fun hk=>?_
 exact aU):P:=h
def aU7 (h:P:=by
 go_roundg (L.length-(i+1))
 case measure=>have:=Bc.out;have:=qC.out;omega
 case rel=>exact⟨i+1,_,_,_,_,_,_,_,_,rfl,by have:=qC.out;omega,by simp,wQ⟩):P:=h
def aD8 (h:P:=by
 refine fO M ?_;exact jf M (bG.err (f:=((jM [(.int .i64 0),(.str []),(.int .i64 0),(.R [])]),o0)) qE R7 True.intro)):P:=h
def aDX (h:P:=by
 refine fV rfl ⟨[],rfl,.inr ⟨0,_,_,_,rfl,rfl,aX,rfl,?_⟩⟩;rw[hc,ny hrow,Ip,hb,LY]):P:=h
def aEa (h:P:=by
 obtain⟨kP,tP,xP,cP,rfl,uP,vP⟩:=gQ hk;replace hy3:=nz hy3;refine aR ?_;exact LN):P:=h
def aDQ (h:P:=by
 show aL (ji n [.int .i64 k1,.str t1,.R c1,.int .i64 o1] (bg vars)) _=_;rw[hy];rfl):P:=h
def arC (h:P:=by
 obtain⟨rfl,rfl,rfl,rfl⟩:=h;obtain⟨rfl,rfl,rfl,rfl⟩:=h';exact⟨rfl,rfl,rfl,rfl⟩):P:=h
def aqT (h:P:=by
 rintro j x S' ks out hj ⟨rfl,rfl⟩ hko;cases hj;exact eH.succ (eH.zero (aU M rfl))):P:=h
def aVb (h:P:=by exact .of (NT fun d=>by simp[Op.equalIn,underlying,hu]) bS rfl rfl):P:=h
def aDW (h:P:=by
 obtain⟨kG,tG,xG,cG,rfl,uG,vG⟩:=gQ hk;replace hy3:=nz hy3;exact LN):P:=h
def ap1 (h:P:=by
 refine jo (uw M vH) ?_;exact jf M (bG.err qE vH True.intro)):P:=h
def aqA (h:P:=by exact nU (m':=rows.length-(k+1)) rfl M aA ⟨k+1,nx,aA,rfl⟩):P:=h
def aqG (h:P:=by have:=go_inv s h hs YG;exact⟨this.1,by omega⟩):P:=h
def aD4 (h:P:=by first|(rw[ha];done)|(rw[ha];rfl)):P:=h
def Yr (h:P:=by
 refine aR ?_;exact LN):P:=h
def aU9 (h:P:=by
 show a=[]/\(jy n [.int .i64 k1,.str t1,.int .i64 x1,.R c1] (if kk==6&&k==1 then IntKind.i64.wrap (u+1) else IntKind.i64.wrap (u+0))&&qL (jy n) kk u (k+1) (rows.drop (k+1)))=true↔_
 rw[Am,bU,and_assoc]):P:=h
def aVa (h:P:=by
 cases hj;exact eH.succ (eH.zero (aU M rfl))):P:=h
end
end
end Go.Proofs.YtdjcfaaongngeaaGreatDoor

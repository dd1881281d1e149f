/- maps.Clone, as a call of the library: a new block with the old entries. -/
import Derived.Test.YtjaaajmiojigbaaGreatDoorFr
import Derived.Test.YtjaaajmiojigbaaGreatDoorSound
import Derived.Test.YtjaaajmiojigbaaGreatDoorProg
import Derived.Shelf.SlMaps.Clone
namespace Go.Proofs.YtjaaajmiojigbaaGreatDoor
open Go Go.RowKit Go.Shelf
def cloneI_ren : Ren := ⟨fun | 5 => 81 | 7 => 82 | n => n, fun | 23 => 91 | 25 => 9 | 3 => 3 | 4 => 4 | 20 => 20 | n => n, fun n => n⟩
theorem cloneI : SlLaysW.n5 Tryz.prog cloneI_ren := {
  mixed := by kernel_rfl
  f5 := ⟨_, by kernel_rfl, Tryz.func81⟩
  f7 := Tryz.func82.trans (congrArg some (by kernel_rfl))
  t4 := Tryz.underlying4
  a4 := Tryz.isAgg4
  z4 := Tryz.sizeOf4
  v4 := Tryz.zeroValue4
  t20 := Tryz.underlying20
  a20 := Tryz.isAgg20
  z20 := Tryz.sizeOf20
  v20 := Tryz.zeroValue20
  t23 := Tryz.underlying91
  a23 := Tryz.isAgg91
  z23 := Tryz.sizeOf91
  v23 := Tryz.zeroValue91 }
def cloneB_ren : Ren := ⟨fun | 5 => 44 | 7 => 82 | n => n, fun | 23 => 59 | 25 => 9 | 3 => 4 | 4 => 4 | 20 => 20 | n => n, fun n => n⟩
theorem cloneB : SlLaysW.n5 Tryz.prog cloneB_ren := {
  mixed := by kernel_rfl
  f5 := ⟨_, by kernel_rfl, Tryz.func44⟩
  f7 := Tryz.func82.trans (congrArg some (by kernel_rfl))
  t4 := Tryz.underlying4
  a4 := Tryz.isAgg4
  z4 := Tryz.sizeOf4
  v4 := Tryz.zeroValue4
  t20 := Tryz.underlying20
  a20 := Tryz.isAgg20
  z20 := Tryz.sizeOf20
  v20 := Tryz.zeroValue20
  t23 := Tryz.underlying59
  a23 := Tryz.isAgg59
  z23 := Tryz.sizeOf59
  v23 := Tryz.zeroValue59 }
noncomputable def cloneM (args : List AV) (s : St) : Option (AV × St) := match args with
  | [.map b] => match s.H.get b with
    | some (.map es) => some (.map s.nx, s.new (.map es))
    | _ => none
  | _ => none
theorem clone_callS {E : Env} {P : Program} {ρ : Ren} (L : SlLaysW.n5 P ρ) {args : List AV} {s s' : St} {v : AV} (h : cloneM args s = some (v, s')) : CallS E P (ρ.f 5) args s v s' := by
  unfold cloneM at h
  split at h
  · split at h
    · rename_i b es hb
      obtain ⟨rfl, rfl⟩ := Prod.mk.inj (Option.some.inj h)
      intro base ρ0 w us hg hr hv
      obtain ⟨u, _, rfl, ⟨l, hl, rfl⟩, rfl⟩ := hv
      obtain ⟨_, arr, cl, h1, h2⟩ := hr.at hb hl
      refine (AnyW.maps_Clone L l.g arr cl w h1).mono ?_
      rintro e w' ⟨rfl, rfl⟩
      have hx : Ext ρ0 (ρ0.on s.nx ⟨w.heap.size, 0, 0⟩) := Mp.on_ext hr.fresh.1
      have hn := hr.pushed (.map es) 0 (.map arr cl) (w' := w.alloc (.map arr cl)) ⟨rfl, rfl, rfl⟩ rfl fun hq => ⟨hr.base, arr, cl, hq, h2.mono hx⟩
      exact ⟨_, _, rfl, ⟨_, Mp.on_same _ _ _, rfl⟩, hn.1, hn.2⟩
    · cases h
  · cases h
end Go.Proofs.YtjaaajmiojigbaaGreatDoor

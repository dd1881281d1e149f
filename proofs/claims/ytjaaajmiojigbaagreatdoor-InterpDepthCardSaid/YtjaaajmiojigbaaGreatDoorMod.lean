/- telmake.Mod. -/
import Derived.Test.YtjaaajmiojigbaaGreatDoorProg
import Derived.WalkKit
import Derived.WalkSmall
import Derived.WalkSpells
import Derived.WalkLawsBesides
import Derived.KernelRfl
import Derived.Lib.Hide
namespace Go.Proofs.YtjaaajmiojigbaaGreatDoor
open Go.RowKit

theorem emod_of_tmod (n m : Int) (hm : 0 < m) : n % m = if n.tmod m < 0 then n.tmod m + m else n.tmod m := by
  have h := Int.emod_nonneg n (by omega : m ≠ 0)
  have h' := Int.emod_lt_of_pos n hm
  rw [Int.tmod_eq_emod]
  split <;> rename_i hc
  · split <;> omega
  · have : (m.natAbs : Int) = m := by omega
    rw [this]
    split <;> omega

set_option maxHeartbeats 400000 in
theorem mod_any (n m : Int) (hm : 0 < m) (hm' : m ≤ 4294967296) (w : World) : Calls Tryz.prog 6 #[.int .i64 n, .int .i64 m] w fun e w' => e = .returned (.int .i64 (n % m)) ∧ w = w' := by
  have hne : ¬ m = 0 := by omega
  have hb : -m < n.tmod m ∧ n.tmod m < m := by
    have h1 := Int.natAbs_tmod n m
    have h2 : (n.tmod m).natAbs < m.natAbs := by rw [h1]; exact Nat.mod_lt _ (by omega)
    omega
  have he := emod_of_tmod n m hm
  have HE := Lib.hid he
  clear he
  obtain ⟨r, hr⟩ : ∃ r, n.tmod m = r := ⟨_, rfl⟩
  rw [hr] at hb
  obtain ⟨hb1, hb2⟩ := hb
  have hw : IntKind.i64.wrap (n.tmod m) = r := by rw [hr, IntKind.wrap_i64]; omega
  have HR := Lib.hid hr
  by_cases hneg : r < 0
  · go_enter Tryz.func6, Tryz.ntmps6
    go_wp2
    go_ret
    exact ⟨by rw [HE.out, HR.out, if_pos hneg]; rfl, rfl⟩
  · go_enter Tryz.func6, Tryz.ntmps6
    go_wp2
    go_ret
    exact ⟨by rw [HE.out, HR.out, if_neg (by omega)]; rfl, rfl⟩
end Go.Proofs.YtjaaajmiojigbaaGreatDoor

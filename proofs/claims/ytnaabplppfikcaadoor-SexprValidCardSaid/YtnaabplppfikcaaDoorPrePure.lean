/- Prefixes of lists, and text behind a list, plainly. -/
import Derived.Test.YtnaabplppfikcaaDoorGenText
import Derived.Test.YtnaabplppfikcaaDoorFmt
namespace Go.Proofs.YtnaabplppfikcaaDoor

theorem gen_node {k o : Int} {t : List UInt8} {c r : Fr} {d : Nat} (h : Gen false (.cons k t c o r) d) :
    (k = 1 ∧ ntxt k t c = t ∧ t ≠ [] ∧ (∀ x ∈ t, wordB (bt x) = true) ∧ t.length ≤ 24 ∧ c = .nil) ∨ (k = 2 ∧ ntxt k t c = quote t ∧ (∀ x ∈ t, stringB (bt x) = true) ∧ t.length ≤ 2000 ∧ c = .nil) ∨ (k = 3 ∧ t = [] ∧ 0 < d ∧ ∃ body, ntxt k t c = 40 :: (body ++ [41]) ∧ TxtF Gap c (d - 1) body) := by
  rcases h.1 with ⟨rfl, ⟨i, hi, rfl⟩, rfl, _⟩ | ⟨rfl, ⟨i, hi, rfl⟩, rfl, _⟩ | ⟨h0, rfl, rfl, _, _, hg⟩ | ⟨hb, _⟩ | ⟨hb, _⟩
  · exact .inl ⟨rfl, by simp [ntxt], (wordT_ok i hi).1, (wordT_ok i hi).2.1, (wordT_ok i hi).2.2, rfl⟩
  · exact .inr (.inl ⟨rfl, by simp [ntxt], (strT_ok i hi).1, by have := (strT_ok i hi).2.1; omega, rfl⟩)
  · exact .inr (.inr ⟨rfl, rfl, h0, c.join true, by simp [ntxt], gen_txt c (d - 1) true hg⟩)
  · cases hb
  · cases hb

theorem prefix_cut {x : Fr} {d j : Nat} (hx : Gen false x d) (hd : d ≤ 30) (hj : j ≤ (x.join true).length) (hl : (x.join true).length ≤ 60000) : ∃ o, parse ((40 :: (x.join true ++ [41])).take (1 + j)) = .error (2, o) := by
  have hlen : ((40 :: (x.join true ++ [41])).take (1 + j)).length ≤ 65536 := by simp; omega
  rw [parse, if_pos hlen, Nat.add_comm 1 j, List.take_succ_cons, go, act_open (by rfl) (by simp)]
  simp only []
  rw [List.take_append_of_le_length hj]
  exact txt_cut x d _ (gen_txt x d true hx) j _ _ _ _ (by simp) (by simp; omega)

theorem prefix_two {x : Fr} {d d' : Nat} {k o : Int} {t : List UInt8} {c : Fr} (hx : Gen false x d) (hd : d ≤ 30) (hd' : d' ≤ 30) (hy : Gen false (.cons k t c o .nil) d') (hl : (x.join true).length ≤ 20000) (hl' : (ntxt k t c).length ≤ 20000) :
    ∃ c1 c2, parse (40 :: (x.join true ++ [41]) ++ [32] ++ ntxt k t c) = .ok (.cons 3 [] c1 0 (.cons k t c2 (((x.join true).length + 3 : Nat) : Int) .nil)) := by
  obtain ⟨c1, _, h1⟩ := go_node1 (fun s hs => Gap.sep hs) (k := 3) (t := []) (c := x) (d := d + 1) (s1 := 40 :: (x.join true ++ [41])) (.inr (.inr ⟨rfl, rfl, by omega, x.join true, rfl, gen_txt x d true hx⟩)) (32 :: ntxt k t c) 0 0 .nil [] (Stops.cons (by decide)) (by simp; omega)
  obtain ⟨c2, _, h2⟩ := go_node1 (fun s hs => Gap.sep hs) (gen_node hy) [] ((x.join true).length + 3) 0 (Fr.nil.app (.cons 3 [] c1 ((0 : Nat) : Int) .nil)) [] Stops.nil (by simp; omega)
  refine ⟨c1, c2, ?_⟩
  rw [parse, if_pos (by simp; omega), List.append_assoc, List.singleton_append, h1, go, act_space (.inl (by rfl))]
  simp only []
  rw [List.append_nil] at h2
  have e : 0 + (40 :: (x.join true ++ [41])).length + 1 = (x.join true).length + 3 := by simp
  rw [e, h2]
  simp [go, endOf, Fr.app]
end Go.Proofs.YtnaabplppfikcaaDoor

/- The reference's nodes. -/
import Derived.Test.YtnaabplppfikcaaRefRow
import Derived.Test.YtnaabplppfikcaaAll
namespace Go.Proofs.Ytnaabplppfikcaa
open Go.RowKit
attribute [local go_sem ↓] Go.wp_at_zero Go.wp_at_succ

theorem rword_is (c : Int) (b : Bool) (hb : Hid (wordB c = b)) (w : World) : Calls Try.prog 30 #[.int .u8 c] w fun e w' => e = .returned (.bool b) ∧ w' = w :=
  (ref_wordByte_any c w).mono fun _ _ ⟨h1, h2⟩ => ⟨by rw [h1, hb.out], h2.symm⟩

theorem cast_succ (q : Nat) : ((q + 1 : Nat) : Int) = (q : Int) + 1 := by omega

theorem news4 {Y : World} {H : Nat} (hH : Y.heap.size = H) (a b c d : Value) (t : TypeId) : ∀ j u, [a, b, c, d][j]? = some u → (Y.alloc (.cells #[a, b, c, d] t)).cell? ((⟨H, 0, none⟩ : Addr).add j) = some u := by
  subst hH
  exact World.news_of_block (cs := #[a, b, c, d]) (heap_alloc_new Y _)

theorem Row.rd {w wr : World} {F : Fixed} {v : Value} {l : Fr} {n base : Nat} {ys : List Value} (h : Row w wr F v l n ys) (hown : wr.ownsRow base 52 4 v n ys) : Rd wr F 4 l.dat v := by
  refine ⟨ys, ?_, h.enc⟩
  rcases hown.2 with ⟨rfl, h0⟩ | ⟨g, c, cur', rfl, _, hg, h1, h2, h3, h4⟩
  · refine .inl ⟨rfl, List.eq_nil_of_length_eq_zero ?_⟩
    rw [hown.1, h0]
  · refine .inr ⟨g, 0, n, c, rfl, h1, h2, hown.1, fun j u hu => ?_⟩
    have hj : j < n * 4 := by
      have := (List.getElem?_eq_some_iff.1 hu).1
      rw [hown.1] at this
      exact this
    rw [Nat.zero_add]
    refine ⟨(h.exact g rfl j).2 hj, ?_⟩
    have := hown.cells (g := g) rfl j u hu
    rwa [Addr.add_lit, Nat.zero_add] at this

theorem go_open_step {s : ByteArray} {q : Nat} {st : Stack} (h : q < s.size) (hc : (s[q].toNat : Int) = 40) (hd : st.length ≤ 40) : go ((bytes s).drop q) q .plain st = go ((bytes s).drop (q + 1)) (q + 1) .plain ((q, .nil) :: st) := by
  have hl : q < (bytes s).length := by rw [bytes_len]; exact h
  rw [go_plain hl, act_open (show bt (bytes s)[q] = 40 from hc) hd]
theorem go_close_step {s : ByteArray} {q p p' : Nat} {l l' : Fr} {st : Stack} (h : q < s.size) (hc : (s[q].toNat : Int) = 41) : go ((bytes s).drop q) q .plain ((p, l) :: (p', l') :: st) = go ((bytes s).drop (q + 1)) (q + 1) .plain ((p', l'.app (.cons 3 [] l p .nil)) :: st) := by
  have hl : q < (bytes s).length := by rw [bytes_len]; exact h
  rw [go_plain hl, act_close (show bt (bytes s)[q] = 41 from hc)]

/-- A list has been read. -/
theorem n_list {s : ByteArray} {q0 depth pb : Nat} {w V w2 w3 : World} {oa ca : Option Addr} {n oc n2 cc q1 q2 gk : Nat} {ys ys2 : List Value} {fk2 : Int} {fo2 : Nat} {l : Fr} {F : Fixed} {g c2 : Nat} {Z : Obj}
    (hgk : q1 < s.size → s.size - (q1 + 1) + 1 < gk) (hd : depth < 40) (hlt : q1 < s.size) (h40 : (s[q1].toNat : Int) = 40) (hnq : n ≤ q1) (hq01 : q0 ≤ q1)
    (hV : RLow w V pb s (q1 + 1) 0 0) (hownV : V.ownsRow w.heap.size 52 4 (.slice oa n oc) n ys) (hrowV : Row w V F (.slice oa n oc) l n ys)
    (hgo : ∀ p (st0 : Stack), st0.length = depth → go ((bytes s).drop q0) q0 .plain ((p, .nil) :: st0) = go ((bytes s).drop q1) q1 .plain ((p, l) :: st0))
    (hl2 : RLow V w2 pb s q2 fk2 fo2) (hown2 : w2.ownsRow V.heap.size 52 4 (.slice ca n2 cc) n2 ys2) (hb2 : q2 ≤ 65577 - (depth + 1)) (hq2 : q1 + 1 ≤ q2)
    (hcase : (¬ fk2 = 0 ∧ ∀ p (st0 : Stack), st0.length = depth + 1 → go ((bytes s).drop (q1 + 1)) (q1 + 1) .plain ((p, .nil) :: st0) = .error (fk2, fo2)) ∨
     (fk2 = 0 ∧ fo2 = 0 ∧ q2 ≤ s.size ∧ ∃ l2 F2, Row V w2 F2 (.slice ca n2 cc) l2 n2 ys2 ∧ (depth + 1 = 0 → ∀ p, go ((bytes s).drop (q1 + 1)) (q1 + 1) .plain [(p, .nil)] = .ok l2) ∧
      (0 < depth + 1 → ∃ h : q2 < s.size, (s[q2].toNat : Int) = 41 ∧ ∀ p (st0 : Stack), st0.length = depth + 1 → go ((bytes s).drop (q1 + 1)) (q1 + 1) .plain ((p, .nil) :: st0) = go ((bytes s).drop q2) q2 .plain ((p, l2) :: st0))))
    (hA : Appended (((w2.setCell ⟨pb, 1, none⟩ (.int .i64 ((q2 : Int) + 1)))).alloc Z) w3 w.heap.size 52 4 (.slice oa n oc) n ys 1 [.int .i64 3, .string ⟨#[]⟩, .slice ca n2 cc, .int .i64 q1] g c2) :
    ∃ k', k' < gk ∧ NRel s q0 depth pb w k' (.slice (some ⟨g, 0, none⟩) (n + 1) c2) w3 := by
  have lp := hV.lp
  have hVs := hV.size
  have hlow2 : RLow w (((w2.setCell ⟨pb, 1, none⟩ (.int .i64 ((q2 : Int) + 1)))).alloc Z) pb s (q2 + 1) fk2 fo2 := by
    have := ((hV.trans hl2).setPos (q2 + 1)).alloc Z
    rwa [Int.natCast_add] at this
  have hrowlow : RLow V (((w2.setCell ⟨pb, 1, none⟩ (.int .i64 ((q2 : Int) + 1)))).alloc Z) pb s (q2 + 1) fk2 fo2 := by
    have := (hl2.setPos (q2 + 1)).alloc Z
    rwa [Int.natCast_add] at this
  have hown3 := own_low hownV hrowlow lp
  have hlow3 : RLow w w3 pb s (q2 + 1) fk2 fo2 := hlow2.grown hA.grown (fun k e => (hown3.lt k e).1)
  have hopen : ∀ p (st0 : Stack), st0.length = depth → go ((bytes s).drop q0) q0 .plain ((p, .nil) :: st0) = go ((bytes s).drop (q1 + 1)) (q1 + 1) .plain ((q1, .nil) :: (p, l) :: st0) := fun p st0 h => by
    rw [hgo p st0 h, go_open_step hlt h40 (by simp; omega)]
  have hgk' := hgk hlt
  rcases hcase with ⟨hf, he⟩ | ⟨rfl, rfl, hq2s, l2, F2, hrow2, _, hcl⟩
  · exact ⟨0, by omega, n + 1, _, q2 + 1, fk2, fo2, fun h => absurd h hf, hlow3, hA.own, by omega, by omega, by omega, .inl ⟨hf, fun p st0 h => by rw [hopen p st0 h, he q1 ((p, l) :: st0) (by simp [h])]⟩⟩
  · obtain ⟨hlt2, h41, hcl⟩ := hcl (by omega)
    have hfix : ∀ b, V.heap.size ≤ b → b < w2.heap.size → (((w2.setCell ⟨pb, 1, none⟩ (.int .i64 ((q2 : Int) + 1)))).alloc Z).heap[b]? = w2.heap[b]? := fun b h1 h2 => by
      rw [Below.heap_alloc _ _ _ (by rw [(setCell_same w2 _ _).1]; exact h2), setCell_far (by omega)]
    have hsz : w2.heap.size ≤ (((w2.setCell ⟨pb, 1, none⟩ (.int .i64 ((q2 : Int) + 1)))).alloc Z).heap.size := by rw [World.size_alloc, (setCell_same w2 _ _).1]; omega
    have hrow2' := hrow2.turn hsz hfix
    have hown2' : (((w2.setCell ⟨pb, 1, none⟩ (.int .i64 ((q2 : Int) + 1)))).alloc Z).ownsRow V.heap.size 52 4 (.slice ca n2 cc) n2 ys2 := ownsRow_of_block hown2 fun b e => hfix b (hown2.lt b e).1 (hown2.lt b e).2
    obtain ⟨F', hrow'⟩ := (hrowV.ofLow hrowlow lp).added (k := 3) (o := q1) (t := []) (hrow2'.rd hown2') hown3 (fun b j hf => ⟨by have := (hrow2'.low b j hf).1; omega, (hrow2'.low b j hf).2, fun e => by have h1 := (hownV.lt b e).2; have h2 := (hrow2'.low b j hf).1; omega⟩) hlow2.size hA
    exact ⟨s.size - (q2 + 1) + 1, by omega, n + 1, _, q2 + 1, 0, 0, fun _ => rfl, hlow3, hA.own, by omega, by omega, by omega, .inr ⟨rfl, rfl, by omega, _, F', hrow', fun p st0 h => by rw [hopen p st0 h, hcl q1 ((p, l) :: st0) (by simp [h]), go_close_step hlt2 h41]⟩⟩

/-- What a word or a string comes to. -/
def LeafCase (s : ByteArray) (q1 q2 : Nat) (k : Int) (t : List UInt8) (fk2 : Int) (fo2 : Nat) : Prop :=
  (fk2 = 0 ∧ fo2 = 0 ∧ ∀ st, go ((bytes s).drop q1) q1 .plain st = go ((bytes s).drop q2) q2 .plain (addTop k t .nil q1 st)) ∨ (¬ fk2 = 0 ∧ ∀ st, go ((bytes s).drop q1) q1 .plain st = .error (fk2, fo2))

/-- A word or a string has been read. -/
theorem n_leaf {s : ByteArray} {q0 depth pb : Nat} {w Y w3 : World} {oa : Option Addr} {n oc q1 q2 gk : Nat} {ys : List Value} {fk2 : Int} {fo2 : Nat} {l : Fr} {F : Fixed} {g c2 : Nat} {k : Int} {t : List UInt8}
    (hgk : s.size - (q1 + 1) + 1 < gk) (hs : s.size ≤ 65536) (hd : depth ≤ 40) (hlt : q1 < s.size) (hnq : n ≤ q1) (hq01 : q0 ≤ q1) (hq2 : q1 < q2) (hq2s : q2 ≤ s.size)
    (hY : RLow w Y pb s q2 fk2 fo2) (hown : Y.ownsRow w.heap.size 52 4 (.slice oa n oc) n ys) (hrow : Row w Y F (.slice oa n oc) l n ys)
    (hgo : ∀ p (st0 : Stack), st0.length = depth → go ((bytes s).drop q0) q0 .plain ((p, .nil) :: st0) = go ((bytes s).drop q1) q1 .plain ((p, l) :: st0))
    (hcase : LeafCase s q1 q2 k t fk2 fo2)
    (hA : Appended Y w3 w.heap.size 52 4 (.slice oa n oc) n ys 1 [.int .i64 k, .string ⟨t.toArray⟩, .slice none 0 0, .int .i64 q1] g c2) :
    ∃ k', k' < gk ∧ NRel s q0 depth pb w k' (.slice (some ⟨g, 0, none⟩) (n + 1) c2) w3 := by
  have hlow3 : RLow w w3 pb s q2 fk2 fo2 := hY.grown hA.grown (fun k e => (hown.lt k e).1)
  rcases hcase with ⟨rfl, rfl, hg⟩ | ⟨hf, he⟩
  · obtain ⟨F', hrow'⟩ := hrow.added (k := k) (o := q1) (t := t) (kids := .nil) (F2 := fun _ _ => False) (Rd.nil _ _ _) hown (fun _ _ h => h.elim) hY.size hA
    exact ⟨s.size - q2 + 1, by omega, n + 1, _, q2, 0, 0, fun _ => rfl, hlow3, hA.own, by omega, by omega, by omega, .inr ⟨rfl, rfl, hq2s, _, F', hrow', fun p st0 h => by rw [hgo p st0 h, hg]; rfl⟩⟩
  · exact ⟨0, by omega, n + 1, _, q2, fk2, fo2, fun h => absurd h hf, hlow3, hA.own, by omega, by omega, by omega, .inl ⟨hf, fun p st0 h => by rw [hgo p st0 h, he]⟩⟩

/-- A byte that has no place. -/
theorem n_bad {s : ByteArray} {q0 depth pb : Nat} {w w3 : World} {v : Value} {n q1 gk : Nat} {ys : List Value} {l : Fr}
    (hgk : 0 < gk) (hs : s.size ≤ 65536) (hd : depth ≤ 40) (hlt : q1 < s.size) (hnq : n ≤ q1) (hq01 : q0 ≤ q1) (h3 : RLow w w3 pb s q1 2 q1) (hown : w3.ownsRow w.heap.size 52 4 v n ys)
    (hgo : ∀ p (st0 : Stack), st0.length = depth → go ((bytes s).drop q0) q0 .plain ((p, .nil) :: st0) = go ((bytes s).drop q1) q1 .plain ((p, l) :: st0)) (hbad : ∀ st, go ((bytes s).drop q1) q1 .plain st = .error (2, q1)) :
    ∃ k', k' < gk ∧ NRel s q0 depth pb w k' v w3 :=
  ⟨0, hgk, n, ys, q1, 2, q1, fun h => absurd h (by omega), h3, hown, hnq, by omega, hq01, .inl ⟨by omega, fun p st0 h => by rw [hgo p st0 h, hbad]⟩⟩

/-- The inner loop: a word is read. -/
def NWRel (s : ByteArray) (q1 pb : Nat) (w : World) (k : Nat) (wr : World) : Prop :=
  ∃ q, k = s.size - q ∧ RLow w wr pb s q 0 0 ∧ q1 ≤ q ∧ q ≤ s.size ∧ ∀ st, go ((bytes s).drop q1) q1 .plain st = go ((bytes s).drop q) q (.word q1 (piece s q1 q)) st

/-- The contract of 'nodes' at a depth. -/
def NodesAt (depth : Nat) : Prop := ∀ (w : World) (pb : Nat) (s : ByteArray) (q0 : Nat), w.heap[pb]? = some (.cells #[.string s, .int .i64 q0, .int .i64 0, .int .i64 0] 49 (0, 0)) → s.size ≤ 65536 → q0 ≤ s.size →
  Calls Try.prog 17 #[.pointer (some ⟨pb, 0, none⟩), .int .i64 depth] w (NodesDone s q0 depth pb w)

section
variable {w : World} {pb : Nat} {s : ByteArray} {q0 depth : Nat}

set_option maxRecDepth 100000 in
set_option maxHeartbeats 6400000 in
theorem nodes_step (hd : depth ≤ 40) (ih : depth < 40 → NodesAt (depth + 1)) : NodesAt depth := by
  intro w pb s q0 h hs hq
  have hl := RLow.start h
  have lp := hl.lp
  have HL := Lib.hid hl
  have IH := Lib.hid ih
  clear h hl ih
  obtain ⟨ti, hi0, hz0, hz1, hz2⟩ := info_parts infoRefNode
  have Hz0 := Lib.hid hz0
  have Hz1 := Lib.hid hz1
  have Hz2 := Lib.hid hz2
  have Hi0 := Lib.hid hi0
  clear hz0 hz1 hz2 hi0
  have d0 : (0 : Int) ≤ (depth : Int) := by omega
  go_enter Try.func17, Try.ntmps17
  go_wp2_with fail
  go_loopg [5] (s.size - q0 + 1) (fun k v wr => NRel s q0 depth pb w k v wr)
  case atStart => exact ⟨0, [], q0, 0, 0, fun _ => rfl, HL.out, World.ownsRow_nil _ _ _ _, Nat.zero_le _, by omega, Nat.le_refl _, .inr ⟨rfl, rfl, hq, .nil, fun _ _ => False, ⟨rfl, rfl, fun _ _ h => h.elim, fun b e => by simp [Value.ownBlock] at e⟩, fun _ _ _ => rfl⟩⟩
  case round =>
    obtain ⟨n, ys, q, fk, fo, hk, hlow, hown, hnq, hqb, hq0, hcase⟩ := hrel
    obtain ⟨oa, oc, hov⟩ := ownsRow_slice hown
    subst hov
    have p2 := hlow.p2
    rcases hcase with ⟨hf, hgo⟩ | ⟨rfl, rfl, hqs, l, F, hrow, hgo⟩
    · have gf := beq_int_false hf
      have A1 := Lib.hid hlow
      have A2 := Lib.hid hown
      have A3 := Lib.hid hgo
      have A4 := Lib.hid hf
      clear hk hlow hown hgo hf
      go_wp2_with fail
      go_ret
      exact nodes_fault A1.out A2.out hqb hq0 A4.out A3.out
    · have hk := hk rfl
      have A1 := Lib.hid hlow
      have A2 := Lib.hid hown
      have A3 := Lib.hid hgo
      have A4 := Lib.hid hrow
      have A5 := Lib.hid hk
      clear hlow hown hgo hrow hk
      go_wp2_with fail
      refine (skip_any A1.out.head hs hqs).mono ?_
      rintro e w1 ⟨rfl, q1, hl1, hqq, hq1s, hsep, hgs⟩
      have B1 := Lib.hid (A1.out.trans hl1)
      have B2 := Lib.hid (own_low A2.out hl1 lp)
      have B3 : Hid (∀ p (st0 : Stack), st0.length = depth → go ((bytes s).drop q0) q0 .plain ((p, .nil) :: st0) = go ((bytes s).drop q1) q1 .plain ((p, l) :: st0)) := fun p st0 h => (A3.out p st0 h).trans (hgs _)
      have B4 := Lib.hid (A4.out.ofLow hl1 lp)
      have B6 := Lib.hid hsep
      have r0 := B1.out.p0
      have r1 := B1.out.p1
      have r2 := B1.out.p2
      have rf := B1.out.pf 1
      clear A1 A2 A3 A4 hl1 hgs hsep p2
      have i0 : (0 : Int) ≤ (q1 : Int) := by omega
      by_cases hend : q1 = s.size
      · have g1 : ((q1 : Int) == (s.size : Int)) = true := beq_int_true (by omega)
        have HE := Lib.hid hend
        clear hend
        by_cases hdep : depth = 0
        · have g2 : ¬ (0 : Int) < (depth : Int) := by omega
          have HD := Lib.hid hdep
          clear hdep
          go_wp2_with fail
          go_quiet (fail)
          rename Nat => m1
          go_wp2_with fail
          go_ret
          refine ⟨_, n, ys, q1, 0, 0, rfl, B1.out.drewN m1, B2.out, by omega, by omega, .inr ⟨rfl, rfl, hq1s, l, F, B4.out.turn (Nat.le_refl _) (fun _ _ _ => rfl), fun _ p => ?_, fun h => by have := HD.out; omega⟩⟩
          rw [B3.out p [] (by rw [HD.out]; rfl), go_end (by rw [bytes_len, HE.out]; exact Nat.le_refl _)]
          rfl
        · have g2 : (0 : Int) < (depth : Int) := by omega
          go_wp2_with fail
          go_quiet (fail)
          rename Nat => m1
          go_wp2_with fail
          refine (rfail_any (B1.out.drewN (m1)).head _ _).mono ?_
          rintro e w2 ⟨rfl, hf⟩
          have C1 := Lib.hid ((B1.out.drewN (m1)).trans hf)
          have C2 := Lib.hid (own_low ((show (w1.drewN (m1)).ownsRow w.heap.size 52 4 (.slice oa n oc) n ys from B2.out)) hf lp)
          clear hf
          go_wp2_with fail
          go_ret
          exact nodes_fault C1.out C2.out (by omega) (by omega) (by omega) (fun p st0 h => by rw [B3.out p st0 h, go_end (by rw [bytes_len, HE.out]; exact Nat.le_refl _), endOf_more (by rw [List.length_cons]; omega)])
      have g1 : ((q1 : Int) == (s.size : Int)) = false := beq_int_false (by omega)
      have hlt : q1 < s.size := by omega
      have i1 : (q1 : Int) < (s.size : Int) := by omega
      have hltL : q1 < (bytes s).length := by rw [bytes_len]; exact hlt
      clear hend
      by_cases h41 : (s[q1].toNat : Int) = 41
      · have g41 := beq_int_true h41
        have H41 := Lib.hid h41
        clear h41
        by_cases hdep : depth = 0
        · have g2 : ((depth : Int) == 0) = true := beq_int_true (by omega)
          have HD := Lib.hid hdep
          clear hdep
          go_wp2_with fail
          go_quiet (fail)
          rename Nat => m1
          go_wp2_with fail
          go_quiet (fail)
          rename Nat => m2
          go_wp2_with fail
          refine (rfail_any (B1.out.drewN (m1 + m2)).head _ _).mono ?_
          rintro e w2 ⟨rfl, hf⟩
          have C1 := Lib.hid ((B1.out.drewN (m1 + m2)).trans hf)
          have C2 := Lib.hid (own_low ((show (w1.drewN (m1 + m2)).ownsRow w.heap.size 52 4 (.slice oa n oc) n ys from B2.out)) hf lp)
          clear hf
          go_wp2_with fail
          go_ret
          exact nodes_fault C1.out C2.out (by omega) (by omega) (by omega) (fun p st0 h => by rw [B3.out p st0 h, go_plain hltL]; have hd0 := HD.out; have : st0 = [] := List.eq_nil_of_length_eq_zero (by omega); rw [this, act_none (show bt (bytes s)[q1] = 41 from H41.out)])
        · have g2 : ((depth : Int) == 0) = false := beq_int_false (by omega)
          go_wp2_with fail
          go_quiet (fail)
          rename Nat => m1
          go_wp2_with fail
          go_quiet (fail)
          rename Nat => m2
          go_wp2_with fail
          go_ret
          exact ⟨_, n, ys, q1, 0, 0, rfl, B1.out.drewN (m1 + m2), B2.out, by omega, by omega, .inr ⟨rfl, rfl, hq1s, l, F, B4.out.turn (Nat.le_refl _) (fun _ _ _ => rfl), fun h => absurd h hdep, fun _ => ⟨hlt, H41.out, B3.out⟩⟩⟩
      have g41 := beq_int_false h41
      by_cases h40 : (s[q1].toNat : Int) = 40
      · have g40 := beq_int_true h40
        have H40 := Lib.hid h40
        clear h40 h41
        by_cases hdep : depth = 40
        · have g2 : ((depth : Int) == 40) = true := beq_int_true (by omega)
          have HD := Lib.hid hdep
          clear hdep
          go_wp2_with fail
          go_quiet (fail)
          rename Nat => m1
          go_wp2_with fail
          go_quiet (fail)
          rename Nat => m2
          go_wp2_with fail
          refine (rfail_any (B1.out.drewN (m1 + m2)).head _ _).mono ?_
          rintro e w2 ⟨rfl, hf⟩
          have C1 := Lib.hid ((B1.out.drewN (m1 + m2)).trans hf)
          have C2 := Lib.hid (own_low ((show (w1.drewN (m1 + m2)).ownsRow w.heap.size 52 4 (.slice oa n oc) n ys from B2.out)) hf lp)
          clear hf
          go_wp2_with fail
          go_ret
          exact nodes_fault C1.out C2.out (by omega) (by omega) (by omega) (fun p st0 h => by rw [B3.out p st0 h, go_plain hltL, act_deep (show bt (bytes s)[q1] = 40 from H40.out) (by have := HD.out; simp; omega)])
        · have g2 : ((depth : Int) == 40) = false := beq_int_false (by omega)
          go_wp2_with fail
          go_quiet (fail)
          rename Nat => m1
          go_wp2_with fail
          go_quiet (fail)
          rename Nat => m2
          go_wp2_with fail
          have hD1 := (B1.out.drewN (m1 + m2)).setPos (q1 + 1)
          rw [cast_succ] at hD1
          obtain ⟨V, hV⟩ : ∃ V, (w1.drewN (m1 + m2)).setCell ⟨pb, 1, none⟩ (.int .i64 ((q1 : Int) + 1)) = V := ⟨_, rfl⟩
          have hD5 : RLow w1 V pb s (q1 + 1) 0 0 := by
            have := (B1.out.again.drewN (m1 + m2)).setPos (q1 + 1)
            rw [cast_succ] at this
            rw [← hV]; exact this
          rw [hV] at hD1
          rw [hV]
          have D1 := Lib.hid hD1
          have D2 := Lib.hid (own_low B2.out hD5 lp)
          have D4 := Lib.hid (B4.out.ofLow hD5 lp)
          have hih := IH.out (by omega) V pb s (q1 + 1) D1.out.head hs (by omega)
          rw [cast_succ] at hih
          clear hD1 hD5 hV
          refine Calls.mono hih ?_
          rintro e w2 ⟨v2, n2, ys2, q2, fk2, fo2, rfl, hl2, hown2, hb2, hq2, hcase2⟩
          obtain ⟨ca, cc, hv2⟩ := ownsRow_slice hown2
          subst hv2
          have t1 := hl2.p1
          have tf := hl2.pf 1
          have E1 := Lib.hid hl2
          have E2 := Lib.hid hown2
          have E3 := Lib.hid hcase2
          have hsz2 : ((w2.setCell ⟨pb, 1, none⟩ (.int .i64 ((q2 : Int) + 1)))).heap.size = w2.heap.size := (setCell_same w2 _ _).1
          have HSZ := Lib.hid hsz2
          have hlw2 : w.heap.size ≤ w2.heap.size := Nat.le_trans D1.out.size hl2.size
          clear hih hl2 hown2 hcase2 hsz2
          have HO : Hid ((w2.setCell ⟨pb, 1, none⟩ (.int .i64 ((q2 : Int) + 1))).ownsRow w.heap.size 52 4 (.slice oa n oc) n ys) := by
            have := own_low D2.out (E1.out.setPos (q2 + 1)) lp
            rwa [cast_succ] at this
          go_wp2_with (at_builtin; refine wpList_append_fix _ rfl _ _ 28 rfl w.heap.size 52 ti _ 4 56 Try.underlying28 Hi0.out Hz0.out Hz1.out Hz2.out rfl (by omega) (.slice oa n oc) n ys rfl (World.ownsRow.alloc HO.out _) ⟨w2.heap.size, 0, none⟩ 1 1 [.int .i64 3, .string ⟨#[]⟩, .slice ca n2 cc, .int .i64 q1] rfl rfl ?c1 ?c2 ?c3 ?c4 ?c5 ?c6 ?_)
          case c1 => exact news4 HSZ.out _ _ _ _ _
          case c2 => simp [Value.oneCell']
          case c3 => omega
          case c4 => unfold maxLen; omega
          case c5 => omega
          case c6 => rw [World.size_alloc, HSZ.out]; omega
          intro g c2 w3 hA
          obtain ⟨k', hk', hrel'⟩ := n_list (gk := gk) (fun _ => by have := A5.out; omega) (by omega) hlt H40.out (by omega) (by omega) D1.out D2.out D4.out B3.out E1.out E2.out hb2 hq2 E3.out hA
          have HR2 := Lib.hid hrel'
          clear hrel' hA
          go_wp2_with fail
          go_roundg k'
          case measure => exact hk'
          case rel => exact HR2.out
      have g40 := beq_int_false h40
      have i2 : 0 < gk := by have := A5.out; omega
      by_cases h34 : (s[q1].toNat : Int) = 34
      · have g34 := beq_int_true h34
        have H34 := Lib.hid h34
        clear h34 h40 h41
        go_wp2_with fail
        go_quiet (fail)
        rename Nat => m1
        go_wp2_with fail
        go_quiet (fail)
        rename Nat => m2
        go_wp2_with fail
        refine (rquoted_any (B1.out.drewN (m1 + m2)).head hs hlt H34.out).mono ?_
        rintro e w2 ⟨q2, fk2, fo2, t, rfl, hl2, hq12, hq2s, hcase2⟩
        have hY := ((B1.out.drewN (m1 + m2)).trans hl2).alloc (.cells #[.int .i64 2, .string ⟨t.toArray⟩, .slice none 0 0, .int .i64 q1] 52)
        have hl2' := hl2.alloc (.cells #[.int .i64 2, .string ⟨t.toArray⟩, .slice none 0 0, .int .i64 q1] 52)
        have E1 := Lib.hid hY
        have E2 := Lib.hid (own_low (show (w1.drewN (m1 + m2)).ownsRow w.heap.size 52 4 (.slice oa n oc) n ys from B2.out) hl2' lp)
        have E4 := Lib.hid ((B4.out.turn (X := w1.drewN (m1 + m2)) (Nat.le_refl _) (fun _ _ _ => rfl)).ofLow hl2' lp)
        have E3 := Lib.hid hcase2
        clear hl2 hY hl2' hcase2
        go_wp2_with (at_builtin; refine wpList_append_fix _ rfl _ _ 28 rfl w.heap.size 52 ti _ 4 56 Try.underlying28 Hi0.out Hz0.out Hz1.out Hz2.out rfl (by omega) (.slice oa n oc) n ys rfl E2.out ⟨w2.heap.size, 0, none⟩ 1 1 [.int .i64 2, .string ⟨t.toArray⟩, .slice none 0 0, .int .i64 q1] rfl rfl ?c1 ?c2 ?c3 ?c4 ?c5 ?c6 ?_)
        case c1 => exact news4 rfl _ _ _ _ _
        case c2 => simp [Value.oneCell']
        case c3 => omega
        case c4 => unfold maxLen; omega
        case c5 => omega
        case c6 => exact E1.out.size
        intro g c2 w3 hA
        obtain ⟨k', hk', hrel'⟩ := n_leaf (gk := gk) (by have := A5.out; omega) hs hd hlt (by omega) (by omega) hq12 hq2s E1.out E2.out E4.out B3.out E3.out hA
        have HR2 := Lib.hid hrel'
        clear hrel' hA
        go_wp2_with fail
        go_roundg k'
        case measure => exact hk'
        case rel => exact HR2.out
      have g34 := beq_int_false h34
      cases hw : wordB (s[q1].toNat : Int)
      · have HE : Hid (∀ st, go ((bytes s).drop q1) q1 .plain st = .error (2, q1)) := fun st => by
          have hsp := B6.out hlt
          rw [go_plain hltL, act_bad (c := (bytes s)[q1]) hw hsp.1 hsp.2.1 hsp.2.2 h40 h41 h34]
        have HW := Lib.hid hw
        clear h34 h40 h41 hw
        go_wp2_with fail
        go_quiet (fail)
        rename Nat => m1
        go_wp2_with fail
        go_quiet (fail)
        rename Nat => m2
        go_wp2_with fail
        refine (rword_is _ _ HW _).mono ?_
        rintro e w' ⟨rfl, rfl⟩
        go_wp2_with fail
        refine (rfail_any (B1.out.drewN (m1 + m2)).head _ _).mono ?_
        rintro e w3 ⟨rfl, hf⟩
        have hA : True := trivial
        obtain ⟨k', hk', hrel'⟩ := n_bad (gk := gk) i2 hs hd hlt (by omega) (by omega) ((B1.out.drewN (m1 + m2)).trans hf) (own_low (show (w1.drewN (m1 + m2)).ownsRow w.heap.size 52 4 (.slice oa n oc) n ys from B2.out) hf lp) B3.out HE.out
        have HR2 := Lib.hid hrel'
        clear hrel' hA
        go_wp2_with fail
        go_roundg k'
        case measure => exact hk'
        case rel => exact HR2.out
      have HW := Lib.hid hw
      clear h34 h40 h41 hw
      go_wp2_with fail
      go_quiet (fail)
      rename Nat => m1
      go_wp2_with fail
      go_quiet (fail)
      rename Nat => m2
      go_wp2_with fail
      refine (rword_is _ _ HW _).mono ?_
      rintro e w' ⟨rfl, rfl⟩
      go_wp2_with fail
      obtain ⟨g0, hg0⟩ : ∃ g : Nat, g = gk := ⟨_, rfl⟩
      have A5' : Hid (g0 = s.size - q + 1) := by have := A5.out; exact hg0.trans this
      have HG0 := Lib.hid hg0
      obtain ⟨V, hV⟩ : ∃ V, w1.drewN (m1 + m2) = V := ⟨_, rfl⟩
      rw [hV]
      have VL : Hid (RLow w V pb s q1 0 0) := by rw [← hV]; exact B1.out.drewN (m1 + m2)
      have VO : Hid (V.ownsRow w.heap.size 52 4 (.slice oa n oc) n ys) := by rw [← hV]; exact B2.out
      have VR : Hid (Row w V F (.slice oa n oc) l n ys) := by rw [← hV]; exact B4.out.turn (Nat.le_refl _) (fun _ _ _ => rfl)
      have HS : Hid (∀ st, go ((bytes s).drop q1) q1 .plain st = go ((bytes s).drop q1) q1 (.word q1 (piece s q1 q1)) st) := fun st => by
        rw [go_plain hltL, act_word (show wordB (bt (bytes s)[q1]) = true from HW.out), piece_self, go_word_more q1 [] hltL HW.out]
        rfl
      clear hg0 hV A5 B1 B2 B4 r0 r1 r2 rf
      go_loopg [] (s.size - q1) (fun k wr => NWRel s q1 pb V k wr)
      case atStart => exact ⟨q1, rfl, VL.out.again, Nat.le_refl _, hq1s, HS.out⟩
      case round =>
        obtain ⟨q3, hk3, hl3, hq3, hq4, hgo3⟩ := hrel
        have s0 := hl3.p0
        have s1 := hl3.p1
        have sf := hl3.pf 1
        have i3 : (0 : Int) ≤ (q3 : Int) := by omega
        have D1 := Lib.hid hk3
        have D2 := Lib.hid hl3
        have D3 := Lib.hid hgo3
        clear hk3 hl3 hgo3
        by_cases hlt3 : q3 < s.size
        · have i4 : (q3 : Int) < (s.size : Int) := by omega
          cases hw3 : wordB (s[q3].toNat : Int)
          · have hgt : q1 < q3 := by
              rcases Nat.lt_or_eq_of_le hq3 with h | h
              · exact h
              · subst h; have := HW.out; exact Bool.noConfusion (this.symm.trans hw3)
            have HW3 := Lib.hid hw3
            clear hw3
            have HNW : Hid (∀ h : q3 < s.size, wordB (s[q3].toNat : Int) = false) := fun _ => HW3.out
            by_cases hlen : q3 - q1 ≤ 24
            · have i5 : ¬ (24 : Int) < (q3 : Int) - (q1 : Int) := by omega
              have HC : Hid (LeafCase s q1 q3 1 (piece s q1 q3) 0 0) := .inl ⟨rfl, rfl, fun st => (D3.out st).trans ((word_over hq4 HNW.out rfl).2 hlen).symm⟩
              go_wp2_with fail
              go_quiet ((go_at_call 30; exact Calls.quiet_of_same (rword_is _ _ HW3 _)))
              rename Nat => m3
              go_wp2_with fail
              obtain ⟨X, hX⟩ : ∃ X, wr.drewN m3 = X := ⟨_, rfl⟩
              rw [hX]
              have XL : Hid (RLow w X pb s q3 0 0) := by rw [← hX]; exact VL.out.trans (D2.out.drewN m3)
              have XO : Hid (X.ownsRow w.heap.size 52 4 (.slice oa n oc) n ys) := by rw [← hX]; exact own_low VO.out (D2.out.drewN m3) lp
              have XR : Hid (Row w X F (.slice oa n oc) l n ys) := by rw [← hX]; exact VR.out.ofLow (D2.out.drewN m3) lp
              clear hX s0 s1 sf D2
              have x0 := XL.out.p0
              have x1 := XL.out.p1
              have lX := XL.out.size
              have lpX : pb < X.heap.size := Nat.lt_of_lt_of_le lp lX
              have j1 : (q1 : Int) ≤ (q3 : Int) := by omega
              have j2 : (q3 : Int) ≤ (s.size : Int) := by omega
              have j3 : (0 : Int) ≤ (q1 : Int) := by omega
              go_region_held3 (fun w' => w'.cell? ⟨pb, 0, none⟩ = some (.string s) ∧ w'.cell? ⟨pb, 1, none⟩ = some (.int .i64 (q3 : Int)))
                (first
                  | go_keep
                  | exact ⟨keep1, keep2⟩)
                ((refine step_append_fix _ (by rfl) _ _ _ (by rfl) w.heap.size 52 ti _ 4 56 Try.underlying28 Hi0.out Hz0.out Hz1.out Hz2.out rfl (by omega) (.slice oa n oc) n ys (by rfl) ((XO.out.alloc _).drew) ⟨X.heap.size, 0, none⟩ 1 1 [.int .i64 1, .string (s.extract q1 q3), .slice none 0 0, .int .i64 q1] (by rfl) (by rfl) (World.news_of_block (cs := #[.int .i64 1, .string (s.extract q1 q3), .slice none 0 0, .int .i64 q1]) (t := 52) (fr := (0, 0)) (heap_alloc_new X _)) (by simp [Value.oneCell']) (by omega) (by unfold maxLen; omega) (by omega) (by simp; omega) ?_; intro g c2 w3 hA; have hlow1 := (XL.out.alloc (.cells #[.int .i64 1, .string (s.extract q1 q3), .slice none 0 0, .int .i64 q1] 52)).drew.grown hA.grown (fun k e => (XO.out.lt k e).1); have keep1 := hlow1.p0; have keep2 := hlow1.p1; have HA := Lib.hid hA; clear hlow1 hA))
              obtain ⟨k', hk', hrel'⟩ := n_leaf (gk := g0) (t := piece s q1 q3) (by have := A5'.out; omega) hs hd hlt (by omega) (by omega) hgt hq4 (XL.out.alloc (.cells #[.int .i64 1, .string (s.extract q1 q3), .slice none 0 0, .int .i64 q1] 52)).drew (XO.out.alloc _).drew (XR.out.turn (X := (X.alloc (.cells #[.int .i64 1, .string (s.extract q1 q3), .slice none 0 0, .int .i64 q1] 52)).drew) (by show _ ≤ (World.alloc _ _).heap.size; simp) (fun b _ h => Below.heap_alloc X _ b h)) B3.out HC.out (by rw [← extract_piece]; exact HA.out)
              have HR2 := Lib.hid hrel'
              clear hrel' HA
              go_wp2_with fail
              go_roundg k'
              case measure => have := HG0.out; omega
              case rel => exact HR2.out
            · have i5 : (24 : Int) < (q3 : Int) - (q1 : Int) := by omega
              have HC : Hid (LeafCase s q1 q3 1 (piece s q1 q3) 4 q1) := .inr ⟨by omega, fun st => (D3.out st).trans ((word_over hq4 HNW.out rfl).1 hlen)⟩
              go_wp2_with fail
              go_quiet ((go_at_call 30; exact Calls.quiet_of_same (rword_is _ _ HW3 _)))
              rename Nat => m3
              go_wp2_with fail
              refine (rfail_any (D2.out.drewN m3).head _ _).mono ?_
              rintro e X ⟨rfl, hf⟩
              have XL := Lib.hid (VL.out.trans ((D2.out.drewN m3).trans hf))
              have XO : Hid (X.ownsRow w.heap.size 52 4 (.slice oa n oc) n ys) := own_low VO.out ((D2.out.drewN m3).trans hf) lp
              have XR : Hid (Row w X F (.slice oa n oc) l n ys) := VR.out.ofLow ((D2.out.drewN m3).trans hf) lp
              clear hf s0 s1 sf D2
              go_wp2_with fail
              have x0 := XL.out.p0
              have x1 := XL.out.p1
              have lX := XL.out.size
              have lpX : pb < X.heap.size := Nat.lt_of_lt_of_le lp lX
              have j1 : (q1 : Int) ≤ (q3 : Int) := by omega
              have j2 : (q3 : Int) ≤ (s.size : Int) := by omega
              have j3 : (0 : Int) ≤ (q1 : Int) := by omega
              go_region_held3 (fun w' => w'.cell? ⟨pb, 0, none⟩ = some (.string s) ∧ w'.cell? ⟨pb, 1, none⟩ = some (.int .i64 (q3 : Int)))
                (first
                  | go_keep
                  | exact ⟨keep1, keep2⟩)
                ((refine step_append_fix _ (by rfl) _ _ _ (by rfl) w.heap.size 52 ti _ 4 56 Try.underlying28 Hi0.out Hz0.out Hz1.out Hz2.out rfl (by omega) (.slice oa n oc) n ys (by rfl) ((XO.out.alloc _).drew) ⟨X.heap.size, 0, none⟩ 1 1 [.int .i64 1, .string (s.extract q1 q3), .slice none 0 0, .int .i64 q1] (by rfl) (by rfl) (World.news_of_block (cs := #[.int .i64 1, .string (s.extract q1 q3), .slice none 0 0, .int .i64 q1]) (t := 52) (fr := (0, 0)) (heap_alloc_new X _)) (by simp [Value.oneCell']) (by omega) (by unfold maxLen; omega) (by omega) (by simp; omega) ?_; intro g c2 w3 hA; have hlow1 := (XL.out.alloc (.cells #[.int .i64 1, .string (s.extract q1 q3), .slice none 0 0, .int .i64 q1] 52)).drew.grown hA.grown (fun k e => (XO.out.lt k e).1); have keep1 := hlow1.p0; have keep2 := hlow1.p1; have HA := Lib.hid hA; clear hlow1 hA))
              obtain ⟨k', hk', hrel'⟩ := n_leaf (gk := g0) (t := piece s q1 q3) (by have := A5'.out; omega) hs hd hlt (by omega) (by omega) hgt hq4 (XL.out.alloc (.cells #[.int .i64 1, .string (s.extract q1 q3), .slice none 0 0, .int .i64 q1] 52)).drew (XO.out.alloc _).drew (XR.out.turn (X := (X.alloc (.cells #[.int .i64 1, .string (s.extract q1 q3), .slice none 0 0, .int .i64 q1] 52)).drew) (by show _ ≤ (World.alloc _ _).heap.size; simp) (fun b _ h => Below.heap_alloc X _ b h)) B3.out HC.out (by rw [← extract_piece]; exact HA.out)
              have HR2 := Lib.hid hrel'
              clear hrel' HA
              go_wp2_with fail
              go_roundg k'
              case measure => have := HG0.out; omega
              case rel => exact HR2.out
          · have HW3 := Lib.hid hw3
            clear hw3
            go_wp2_with fail
            go_quiet ((go_at_call 30; exact Calls.quiet_of_same (rword_is _ _ HW3 _)))
            rename Nat => m3
            go_wp2_with fail
            go_roundg (s.size - (q3 + 1))
            case measure => have := D1.out; omega
            case rel => exact ⟨q3 + 1, rfl, (D2.out.drewN m3).setPos (q3 + 1), by omega, by omega, fun st => (D3.out st).trans (go_word_step hlt3 hq3 HW3.out)⟩
        · have i4 : decide (q3 < s.size) = false := by simp; omega
          have hgt : q1 < q3 := by omega
          have HNW : Hid (∀ h : q3 < s.size, wordB (s[q3].toNat : Int) = false) := fun h => absurd h hlt3
          by_cases hlen : q3 - q1 ≤ 24
          · have i5 : ¬ (24 : Int) < (q3 : Int) - (q1 : Int) := by omega
            have HC : Hid (LeafCase s q1 q3 1 (piece s q1 q3) 0 0) := .inl ⟨rfl, rfl, fun st => (D3.out st).trans ((word_over hq4 HNW.out rfl).2 hlen).symm⟩
            go_wp2_with fail
            go_quiet (fail)
            rename Nat => m3
            go_wp2_with fail
            obtain ⟨X, hX⟩ : ∃ X, wr.drewN m3 = X := ⟨_, rfl⟩
            rw [hX]
            have XL : Hid (RLow w X pb s q3 0 0) := by rw [← hX]; exact VL.out.trans (D2.out.drewN m3)
            have XO : Hid (X.ownsRow w.heap.size 52 4 (.slice oa n oc) n ys) := by rw [← hX]; exact own_low VO.out (D2.out.drewN m3) lp
            have XR : Hid (Row w X F (.slice oa n oc) l n ys) := by rw [← hX]; exact VR.out.ofLow (D2.out.drewN m3) lp
            clear hX s0 s1 sf D2
            have x0 := XL.out.p0
            have x1 := XL.out.p1
            have lX := XL.out.size
            have lpX : pb < X.heap.size := Nat.lt_of_lt_of_le lp lX
            have j1 : (q1 : Int) ≤ (q3 : Int) := by omega
            have j2 : (q3 : Int) ≤ (s.size : Int) := by omega
            have j3 : (0 : Int) ≤ (q1 : Int) := by omega
            go_region_held3 (fun w' => w'.cell? ⟨pb, 0, none⟩ = some (.string s) ∧ w'.cell? ⟨pb, 1, none⟩ = some (.int .i64 (q3 : Int)))
              (first
                | go_keep
                | exact ⟨keep1, keep2⟩)
              ((refine step_append_fix _ (by rfl) _ _ _ (by rfl) w.heap.size 52 ti _ 4 56 Try.underlying28 Hi0.out Hz0.out Hz1.out Hz2.out rfl (by omega) (.slice oa n oc) n ys (by rfl) ((XO.out.alloc _).drew) ⟨X.heap.size, 0, none⟩ 1 1 [.int .i64 1, .string (s.extract q1 q3), .slice none 0 0, .int .i64 q1] (by rfl) (by rfl) (World.news_of_block (cs := #[.int .i64 1, .string (s.extract q1 q3), .slice none 0 0, .int .i64 q1]) (t := 52) (fr := (0, 0)) (heap_alloc_new X _)) (by simp [Value.oneCell']) (by omega) (by unfold maxLen; omega) (by omega) (by simp; omega) ?_; intro g c2 w3 hA; have hlow1 := (XL.out.alloc (.cells #[.int .i64 1, .string (s.extract q1 q3), .slice none 0 0, .int .i64 q1] 52)).drew.grown hA.grown (fun k e => (XO.out.lt k e).1); have keep1 := hlow1.p0; have keep2 := hlow1.p1; have HA := Lib.hid hA; clear hlow1 hA))
            obtain ⟨k', hk', hrel'⟩ := n_leaf (gk := g0) (t := piece s q1 q3) (by have := A5'.out; omega) hs hd hlt (by omega) (by omega) hgt hq4 (XL.out.alloc (.cells #[.int .i64 1, .string (s.extract q1 q3), .slice none 0 0, .int .i64 q1] 52)).drew (XO.out.alloc _).drew (XR.out.turn (X := (X.alloc (.cells #[.int .i64 1, .string (s.extract q1 q3), .slice none 0 0, .int .i64 q1] 52)).drew) (by show _ ≤ (World.alloc _ _).heap.size; simp) (fun b _ h => Below.heap_alloc X _ b h)) B3.out HC.out (by rw [← extract_piece]; exact HA.out)
            have HR2 := Lib.hid hrel'
            clear hrel' HA
            go_wp2_with fail
            go_roundg k'
            case measure => have := HG0.out; omega
            case rel => exact HR2.out
          · have i5 : (24 : Int) < (q3 : Int) - (q1 : Int) := by omega
            have HC : Hid (LeafCase s q1 q3 1 (piece s q1 q3) 4 q1) := .inr ⟨by omega, fun st => (D3.out st).trans ((word_over hq4 HNW.out rfl).1 hlen)⟩
            go_wp2_with fail
            go_quiet (fail)
            rename Nat => m3
            go_wp2_with fail
            refine (rfail_any (D2.out.drewN m3).head _ _).mono ?_
            rintro e X ⟨rfl, hf⟩
            have XL := Lib.hid (VL.out.trans ((D2.out.drewN m3).trans hf))
            have XO : Hid (X.ownsRow w.heap.size 52 4 (.slice oa n oc) n ys) := own_low VO.out ((D2.out.drewN m3).trans hf) lp
            have XR : Hid (Row w X F (.slice oa n oc) l n ys) := VR.out.ofLow ((D2.out.drewN m3).trans hf) lp
            clear hf s0 s1 sf D2
            go_wp2_with fail
            have x0 := XL.out.p0
            have x1 := XL.out.p1
            have lX := XL.out.size
            have lpX : pb < X.heap.size := Nat.lt_of_lt_of_le lp lX
            have j1 : (q1 : Int) ≤ (q3 : Int) := by omega
            have j2 : (q3 : Int) ≤ (s.size : Int) := by omega
            have j3 : (0 : Int) ≤ (q1 : Int) := by omega
            go_region_held3 (fun w' => w'.cell? ⟨pb, 0, none⟩ = some (.string s) ∧ w'.cell? ⟨pb, 1, none⟩ = some (.int .i64 (q3 : Int)))
              (first
                | go_keep
                | exact ⟨keep1, keep2⟩)
              ((refine step_append_fix _ (by rfl) _ _ _ (by rfl) w.heap.size 52 ti _ 4 56 Try.underlying28 Hi0.out Hz0.out Hz1.out Hz2.out rfl (by omega) (.slice oa n oc) n ys (by rfl) ((XO.out.alloc _).drew) ⟨X.heap.size, 0, none⟩ 1 1 [.int .i64 1, .string (s.extract q1 q3), .slice none 0 0, .int .i64 q1] (by rfl) (by rfl) (World.news_of_block (cs := #[.int .i64 1, .string (s.extract q1 q3), .slice none 0 0, .int .i64 q1]) (t := 52) (fr := (0, 0)) (heap_alloc_new X _)) (by simp [Value.oneCell']) (by omega) (by unfold maxLen; omega) (by omega) (by simp; omega) ?_; intro g c2 w3 hA; have hlow1 := (XL.out.alloc (.cells #[.int .i64 1, .string (s.extract q1 q3), .slice none 0 0, .int .i64 q1] 52)).drew.grown hA.grown (fun k e => (XO.out.lt k e).1); have keep1 := hlow1.p0; have keep2 := hlow1.p1; have HA := Lib.hid hA; clear hlow1 hA))
            obtain ⟨k', hk', hrel'⟩ := n_leaf (gk := g0) (t := piece s q1 q3) (by have := A5'.out; omega) hs hd hlt (by omega) (by omega) hgt hq4 (XL.out.alloc (.cells #[.int .i64 1, .string (s.extract q1 q3), .slice none 0 0, .int .i64 q1] 52)).drew (XO.out.alloc _).drew (XR.out.turn (X := (X.alloc (.cells #[.int .i64 1, .string (s.extract q1 q3), .slice none 0 0, .int .i64 q1] 52)).drew) (by show _ ≤ (World.alloc _ _).heap.size; simp) (fun b _ h => Below.heap_alloc X _ b h)) B3.out HC.out (by rw [← extract_piece]; exact HA.out)
            have HR2 := Lib.hid hrel'
            clear hrel' HA
            go_wp2_with fail
            go_roundg k'
            case measure => have := HG0.out; omega
            case rel => exact HR2.out
theorem nodes_all (m : Nat) : ∀ depth, depth + m = 40 → NodesAt depth := by
  induction m with
  | zero => exact fun d h => nodes_step (by omega) (fun h' => by omega)
  | succ m ih => exact fun d h => nodes_step (by omega) (fun _ => ih (d + 1) (by omega))
end
end Go.Proofs.Ytnaabplppfikcaa

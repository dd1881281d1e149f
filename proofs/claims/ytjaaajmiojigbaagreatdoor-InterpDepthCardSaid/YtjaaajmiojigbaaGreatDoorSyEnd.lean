/- Every operation that the evaluator knows does what it says, of the known and of the unknown; which operations read, make a block, or do neither. -/
import Derived.Test.YtjaaajmiojigbaaGreatDoorSyApp
import Derived.Test.YtjaaajmiojigbaaGreatDoorOpc
namespace Go.Proofs.YtjaaajmiojigbaaGreatDoor
open Go Go.RowKit
variable {E : Env} {X : Ctx}

section
variable {P : Program} {base : Nat} {ρ : Mp} {s s' : St} {w : World} {tm : Tr AV} {a : Act} {o : Oper} {r : ARes}

theorem fresh_ok {ba : Option Addr} {t u ty e : TypeId} {i : TypeInfo} {zv : Value} {du : TypeDesc} {ry : List (List D)} {yv : Value} {news : Array Value} {ex : SX}
    (ht : P.underlying t = some (.slice e)) (hi : P.info? e = some i) (hzv : i.zero = some zv) (hzs0 : zv.cells.size = i.size) (hu : P.underlying u = some du) (hnd : ∀ k, du ≠ .int k) (h : HR E base ρ s w) (hby : i.bytes ≤ 1000) (hpos : 0 < ry.length) (hfit : ry.length ≤ 1000000)
    (hl : (Builtin.lenOf yv).run P w = .ok ry.length w) (hf : ∀ w' : World, w'.heap = w.heap → (Builtin.firstCells i.size ry.length yv).run P w' = .ok news w') (hns : news.size = ry.length * i.size) (hnz : ∀ r ∈ ry, r.length = i.size)
    (hnews : ∀ (j : Nat) (c : D), ry.flatten[j]? = some c → ∃ u, news[j]? = some u ∧ DR ρ.fz c u) (hden : den E.val ex = some (.sl ry)) :
    ∃ uu σ w', (Builtin.append_ #[t, u] ty #[.slice ba 0 0, yv]).run P w = .ok uu w' ∧ VR E σ (.gsl s.nx ex i.size) uu ∧ HR E base σ (s.new (.seq i.size ex)) w' ∧ Turn ρ s w σ (s.new (.seq i.size ex)) w' := by
  have hfo : (Builtin.firstCells i.size 0 (.slice ba 0 0)).run P w.drew = .ok #[] w.drew := by
    cases ba with
    | none => simp [Builtin.firstCells]
    | some ad =>
      have := run_loadCells_list (P := P) w.drew ad [] (by simp)
      simp only [List.length_nil] at this
      simp [Builtin.firstCells, this]
  have hr := run_app_grow (ty := ty) (ba := ba) (n := 0) (cap := 0) (olds := #[]) ht hi hzv hu hnd hl (hf w.drew rfl) hfo (by omega) (by omega) (by rw [Nat.zero_add]; exact Nat.le_trans (Nat.mul_le_mul hfit hby) (by omega))
  have hge := grownCap_ge w (0 + ry.length) 0 e
  have hlm := grownCap_le_maxLen w (0 + ry.length) 0 e (by unfold maxLen; omega)
  generalize grownCap w (0 + ry.length) 0 e = nc at hr hge hlm
  rw [Nat.zero_add] at *
  have hzc : (Builtin.zeroCells zv.cells (nc - ry.length)).size = (nc - ry.length) * zv.cells.size := by unfold Builtin.zeroCells; simp
  have hn := h.new (.seq i.size ex) (#[] ++ news ++ Builtin.zeroCells zv.cells (nc - ry.length)).size (w' := w.drew.alloc (.cells (#[] ++ news ++ Builtin.zeroCells zv.cells (nc - ry.length)) e)) ⟨rfl, rfl, rfl⟩ (by simp) (fun g hg => heap_alloc_old w.drew _ g hg)
    ⟨h.base, _, e, _, heap_alloc_new w.drew _, hden, by simp, ?_, ?_⟩
  · refine ⟨_, _, _, hr, ⟨_, nc, _, Mp.on_same _ _ _, hden, rfl, hge, hlm, ?_⟩, hn.1, hn.2⟩
    simp only [Array.size_append, hzc, hns, List.size_toArray, List.length_nil, hzs0]
    have : nc * i.size = ry.length * i.size + (nc - ry.length) * i.size := by rw [← Nat.add_mul]; congr 1; omega
    omega
  · simp only [Array.size_append, List.size_toArray, List.length_nil, hns]
    omega
  · refine DRr.of hnz (DRc.of fun j c hj => ?_)
    obtain ⟨u, k1, k2⟩ := hnews j c hj
    refine ⟨u, ?_, k2⟩
    show (#[] ++ news ++ Builtin.zeroCells zv.cells (nc - ry.length))[0 + j]? = some u
    have hlt := (Array.getElem?_eq_some_iff.1 k1).1
    rw [Nat.zero_add, Array.getElem?_append_left (by simpa using hlt), ← k1]
    simp

theorem news_one {fz : Nat → Option Obj} {news : Array Value} {cs : List D} (hl : news.size = cs.length) (h : ∀ (j : Nat) (c : D), cs[j]? = some c → ∃ u, news[j]? = some u ∧ DR fz c u) : ∀ u ∈ news.toList, u.oneCell' = true := by
  intro u hu
  obtain ⟨j, hj⟩ := List.getElem?_of_mem hu
  have hlt : j < cs.length := by have := (List.getElem?_eq_some_iff.1 hj).1; simpa [hl] using this
  obtain ⟨u', h1, h2⟩ := h j _ (List.getElem?_eq_getElem hlt)
  rw [toList_get] at hj
  rw [hj] at h1
  obtain rfl := Option.some.inj h1
  exact h2.one

theorem dstSy_ok (h : HR E base ρ s w) {x : AV} {xv : Value} {z : Nat} {ex ey : SX} (hx : VR E ρ x xv) (hq : dstSy X s z ey x = some (ex, s')) :
    ((∃ ba, xv = .slice ba 0 0) ∧ ex = .nilS ∧ s' = s ∧ someS X ey = true) ∨ ∃ b l rows cap, den E.val ex = some (.sl rows) ∧ s' = s.del b ∧ Dst base ρ s w b l rows cap z xv := by
  unfold dstSy at hq
  split at hq
  · split at hq
    · simp only [Option.some.injEq, Prod.mk.injEq] at hq
      obtain ⟨rfl, rfl⟩ := hq
      exact .inl ⟨⟨none, hx⟩, rfl, rfl, ‹_›⟩
    · cases hq
  · split at hq
    · simp only [Option.some.injEq, Prod.mk.injEq] at hq
      obtain ⟨rfl, rfl⟩ := hq
      exact .inl ⟨hx, rfl, rfl, ‹_›⟩
    · cases hq
  · rename_i b e z'
    split at hq
    · rename_i z'' e' hb
      split at hq
      · rename_i hc
        obtain ⟨rfl, rfl, hs⟩ := hc
        simp only [Option.some.injEq, Prod.mk.injEq] at hq
        obtain ⟨rfl, rfl⟩ := hq
        obtain rfl := SX.same_eq hs
        obtain ⟨l, rows, cap, h1, h2⟩ := dst_gsl h hx hb
        exact .inr ⟨b, l, rows, cap, h1, rfl, h2⟩
      · cases hq
    · cases hq
  · rename_i b n c z'
    split at hq
    · rename_i hz
      subst hz
      split at hq
      · rename_i vs k cs hb hld
        split at hq
        · rename_i es hes
          simp only [Option.some.injEq, Prod.mk.injEq] at hq
          obtain ⟨rfl, rfl⟩ := hq
          obtain ⟨l, rows, cap, h1, h2⟩ := dst_cells h hx hb hld hes
          exact .inr ⟨b, l, rows, cap, h1, rfl, h2⟩
        · cases hq
      · cases hq
    · cases hq
  · cases hq

theorem appendSy_ok (hX : XOk E X) {t u : TypeId} {x y v : AV} {xv yv : Value} (ty : TypeId) (h : HR E base ρ s w) (hx : VR E ρ x xv) (hy : VR E ρ y yv) (he : appendSy X P s t u x y = some (v, s')) :
    ∃ uu σ w', (Builtin.append_ #[t, u] ty #[xv, yv]).run P w = .ok uu w' ∧ VR E σ v uu ∧ HR E base σ s' w' ∧ Turn ρ s w σ s' w' := by
  unfold appendSy at he
  split at he
  · rename_i e _ h1 h2
    split at he
    · rename_i i zc h3 h4
      split at he
      · rename_i hc
        split at he
        · rename_i ey s1 h5
          split at he
          · rename_i ex s2 h6
            split at he
            · rename_i hfit
              simp only [Option.some.injEq, Prod.mk.injEq] at he
              obtain ⟨rfl, rfl⟩ := he
              obtain ⟨σ, hext, _, hr, ht, ry, news, k1, k2, k3, k4, k5, k6⟩ := srcSy_ok (P := P) hX h hy h5
              obtain ⟨i', zv, k7, k8, k9⟩ := zeroA_ok (E := E) (ρ := ρ) h4
              obtain rfl := Option.some.inj (h3.symm.trans k7)
              have hzs : zv.cells.size = i.size := by rw [← hc.1, ← k9.length]; simp
              have hlen : ry.flatten.length = ry.length * i.size := by
                have : ∀ (l : List (List D)), (∀ r ∈ l, r.length = i.size) → l.flatten.length = l.length * i.size := by
                  intro l
                  induction l with
                  | nil => intro _; simp
                  | cons r rs ih => intro hz; simp only [List.flatten_cons, List.length_append, List.length_cons, Nat.succ_mul, ih fun r' hr => hz r' (List.mem_cons_of_mem _ hr), hz r List.mem_cons_self]; omega
                exact this ry k2
              have hone := news_one (by rw [k5, hlen]) k6
              rcases dstSy_ok (X := X) hr (hx.mono hext) h6 with ⟨⟨ba, rfl⟩, rfl, rfl, hsome⟩ | ⟨b, l, rx, cap, k10, rfl, k11⟩
              · have hcat : den E.val (catS .nilS ey) = some (.sl ry) := by simpa using catS_ok (e1 := .nilS) (a := []) rfl k1
                obtain ⟨uu, τ, w', m1, m2, m3, m4⟩ := fresh_ok (ty := ty) (ex := catS .nilS ey) (elemSl_ok h1) h3 k8 hzs h2 (by simp) hr hc.2 (someS_ok hX k1 hsome) (fitsS_ok hX hcat hfit) k3 k4 k5 k2 k6 hcat
                exact ⟨uu, τ, w', m1, m2, m3, ht.trans m4⟩
              · have hcat := catS_ok k10 k1
                have hfl := fitsS_ok hX hcat hfit
                rw [List.length_append] at hfl
                obtain ⟨uu, τ, w', m1, m2, m3, m4⟩ := grow_ok (ty := ty) (ex := catS ex ey) k11 (elemSl_ok h1) h3 k8 hzs h2 (by simp) hr hc.2 hfl k3 k4 k5 k2 k6 hone hcat
                exact ⟨uu, τ, w', m1, m2, m3, ht.trans m4⟩
            · cases he
          · cases he
        · cases he
      · cases he
    · cases he
  · cases he

theorem good_symCall (c : Call) (ho : o.op = .call c) (hf : FR E ρ tm a.tmps) (hg : Glob E X P ρ) (h : HR E base ρ s w) (he : evSy X P tm s o = some r) : Good E P base ρ s w (execOp a.eval o) r := by
  simp only [evSy, ho] at he
  have harr : c.args.map a.eval = List.toArray (c.args.toList.map a.eval) := (map_arr _ _).symm
  split at he
  · rename_i hc
    split at he
    · rename_i t rest v h1 h2
      split at he
      · rename_i e h3
        simp only [Option.some.injEq] at he
        subst he
        have hv := rds_ok hf hg h2
        obtain ⟨u, _, hu, hv1, hn⟩ := hv
        obtain rfl : _ = [] := hn
        have := lenSy_ok hg.ok (rest := rest) o.type (c.args.map fun | .const _ => true | _ => false) h hv1 h3
        have he2 : execOp a.eval o = builtin .len (List.toArray c.argTypes.toList) o.type (c.args.map fun | .const _ => true | _ => false) (List.toArray (c.args.toList.map a.eval)) := by
          simp only [execOp, ho, resolve, hc, harr]
          rfl
        rw [he2, h1, hu]
        exact this
      · cases he
    · cases he
  · rename_i hc
    split at he
    · rename_i t u x y h1 h2
      split at he
      · rename_i v s1 h3
        simp only [Option.some.injEq] at he
        subst he
        have hv := rds_ok hf hg h2
        obtain ⟨xv, _, hu, hx, yv, _, rfl, hy, hn⟩ := hv
        obtain rfl : _ = [] := hn
        obtain ⟨uu, σ, w', h4, h5, h6, h7⟩ := appendSy_ok hg.ok o.type h hx hy h3
        have he2 : execOp a.eval o = builtin .append (List.toArray c.argTypes.toList) o.type (c.args.map fun | .const _ => true | _ => false) (List.toArray (c.args.toList.map a.eval)) := by
          simp only [execOp, ho, resolve, hc, harr]
          rfl
        rw [he2, h1, hu]
        exact ⟨uu, σ, w', by simp [builtin, h4], h5, h6, h7⟩
      · cases he
    · cases he
  · rename_i hc
    split at he
    · rename_i x y h2
      split at he
      · rename_i v h3
        simp only [Option.some.injEq] at he
        subst he
        have hv := rds_ok hf hg h2
        obtain ⟨xv, _, hu, hx, yv, _, rfl, hy, hn⟩ := hv
        obtain rfl : _ = [] := hn
        have he2 : execOp a.eval o = builtin .max c.argTypes o.type (c.args.map fun | .const _ => true | _ => false) (List.toArray (c.args.toList.map a.eval)) := by
          simp only [execOp, ho, resolve, hc, harr]
          rfl
        rw [he2, hu]
        unfold maxSy at h3
        split at h3
        · rename_i e1 e2 k1 k2
          split at h3
          · rename_i ka kb k3 k4
            split at h3
            · rename_i hk
              subst hk
              obtain ⟨d1, m1, m2⟩ := toSX_ok hx k1
              obtain ⟨d2, m3, m4⟩ := toSX_ok hy k2
              obtain ⟨n1, rfl⟩ := (knd_has hg.ok m1 k3).int
              obtain ⟨n2, rfl⟩ := (knd_has hg.ok m3 k4).int
              have hl := nrmS_ok hg.ok (.bin .lss e1 e2)
              simp only [den, m1, m3, Option.bind_some, binD, if_true] at hl
              rw [show xv = _ from m2, show yv = _ from m4]
              split at h3
              · rename_i hb
                rw [hb] at hl
                simp only [den, Option.some.injEq, D.bool.injEq] at hl
                simp only [Option.some.injEq] at h3
                subst h3
                have hlt : n1 < n2 := by simpa using hl.symm
                refine Good.same h (u := .int ka n2) (by simp [builtin, Builtin.max_, Builtin.max2, hlt]) ?_
                rw [show yv = _ from m4] at hy
                exact hy
              · rename_i hb
                rw [hb] at hl
                simp only [den, Option.some.injEq, D.bool.injEq] at hl
                simp only [Option.some.injEq] at h3
                subst h3
                have hlt : ¬ n1 < n2 := by simpa using hl.symm
                refine Good.same h (u := .int ka n1) (by simp [builtin, Builtin.max_, Builtin.max2, hlt]) ?_
                rw [show xv = _ from m2] at hx
                exact hx
              · cases h3
            · cases h3
          · cases h3
        · cases h3
      · cases he
    · cases he
  · cases he

theorem good_symPick (c x y : Operand) (ho : o.op = .pick c x y) (hf : FR E ρ tm a.tmps) (hg : Glob E X P ρ) (h : HR E base ρ s w) (he : evSy X P tm s o = some r) : Good E P base ρ s w (execOp a.eval o) r := by
  simp only [evSy, ho] at he
  split at he
  · rename_i e hc
    obtain ⟨d, h1, h2⟩ := rd_ok hf hg hc
    have hv := nrm_vr hg.ok h1 h2
    split at he
    · rename_i hb
      obtain ⟨v, h3, rfl⟩ := Option.map_eq_some_iff.1 he
      rw [hb] at hv
      have h4 : a.eval c = .bool true := hv
      exact Good.same h (by simp [execOp, ho, h4, asBool]) (rd_ok hf hg h3)
    · rename_i hb
      obtain ⟨v, h3, rfl⟩ := Option.map_eq_some_iff.1 he
      rw [hb] at hv
      have h4 : a.eval c = .bool false := hv
      exact Good.same h (by simp [execOp, ho, h4, asBool]) (rd_ok hf hg h3)
    · cases he
  · cases he

theorem evSy_ok (hf : FR E ρ tm a.tmps) (hg : Glob E X P ρ) (h : HR E base ρ s w) (he : evSy X P tm s o = some r) : Good E P base ρ s w (execOp a.eval o) r := by
  cases ho : o.op
  case binOp op t x y t' => exact good_symBin op t t' x y ho hf hg h he
  case pick c x y => exact good_symPick c x y ho hf hg h he
  case unOp u t x => exact good_symUn u t x ho hf hg h he
  case convert src dst x => exact good_symConv src dst x ho hf hg h he
  case load t x => exact good_symLoad t x ho hf hg h he
  case fieldAddr t x k => exact good_symField t x k ho hf hg h he
  case indexAddr t x y => exact good_symIndexAddr t x y ho hf hg h he
  case index t x y => exact good_symIndex t x y ho hf hg h he
  case slice t x lo hi mx => exact good_symSlice t x lo hi mx ho hf hg h he
  case lookup t m k ok => exact good_symLookup t m k ok ho hf hg h he
  case call c => exact good_symCall c ho hf hg h he
  all_goals simp [evSy, ho] at he

theorem nrmC_ok {a : Act} {tm : Tr AV} {ρ : Mp} {c : Operand} {v : AV} (hf : FR E ρ tm a.tmps) (hg : Glob E X P ρ) (he : nrmC X (rd P tm c) = some v) : VR E ρ v (a.eval c) := by
  unfold nrmC at he
  split at he
  · rename_i e h1
    simp only [Option.some.injEq] at he
    subst he
    obtain ⟨d, h2, h3⟩ := rd_ok hf hg h1
    exact nrm_vr hg.ok h2 h3
  · exact rd_ok hf hg he

theorem evX_ok (hf : FR E ρ tm a.tmps) (hg : Glob E X P ρ) (h : HR E base ρ s w) (he : evX X P tm s o = some r) : Good E P base ρ s w (execOp a.eval o) r := by
  unfold evX at he
  rw [evK_eq] at he
  split at he
  · rename_i r' h1
    simp only [Option.some.injEq] at he
    subst he
    exact evOp_ok hf hg h h1
  · exact evSy_ok hf hg h he
end

section
variable {P : Program} {tm : Tr AV} {s : St} {o : Oper} {r : ARes}
theorem evSy_pure (hp : isPureO P o.op = true) (h : evSy X P tm s o = some r) : ∃ v, r = .val v s ∧ ∀ s', evSy X P tm s' o = some (.val v s') := by
  cases ho : o.op <;> simp only [ho, isPureO] at hp <;> (try (cases hp; done)) <;> simp only [evSy, ho] at h ⊢ <;> (try (cases h; done))
  case call c =>
    split at hp
    · rename_i hc
      simp only [hc] at h ⊢
      split at h
      · split at h
        · simp only [Option.some.injEq] at h
          subst h
          refine ⟨_, rfl, fun s' => ?_⟩
          simp_all
        · cases h
      · cases h
    · rename_i hc; simp only [hc] at h; cases h
    · rename_i hc
      simp only [hc] at h ⊢
      split at h
      · split at h
        · simp only [Option.some.injEq] at h
          subst h
          refine ⟨_, rfl, fun s' => ?_⟩
          simp_all
        · cases h
      · cases h
    · cases hp
  all_goals (repeat' split at h) <;> first | (cases h; done) | (simp only [Option.some.injEq] at h; subst h; refine ⟨_, rfl, fun s' => ?_⟩; simp_all; done) | (obtain ⟨v, h1, rfl⟩ := Option.map_eq_some_iff.1 h; refine ⟨_, rfl, fun s' => ?_⟩; simp_all; done) | (simp_all; done)
theorem evSy_alloc (hp : isAllocO P o.op = true) : evSy X P tm s o = none := by
  cases ho : o.op <;> simp only [ho, isAllocO] at hp <;> (try (cases hp; done)) <;> simp only [evSy, ho]
  split at hp
  · rename_i h1 h2
    rw [h1, h2]
  · cases hp
theorem evSy_read (hp : isReadO P o.op = true) (h : evSy X P tm s o = some r) : ∃ v, r = .val v s := by
  cases ho : o.op <;> simp only [ho, isReadO] at hp <;> (try (cases hp; done)) <;> simp only [evSy, ho] at h
  case call c =>
    split at hp
    · rename_i hc
      simp only [hc] at h
      (repeat' split at h) <;> first | (cases h; done) | (simp only [Option.some.injEq] at h; exact ⟨_, h.symm⟩)
    · cases hp
  all_goals (repeat' split at h) <;> first | (cases h; done) | (simp only [Option.some.injEq] at h; exact ⟨_, h.symm⟩)

theorem pureX_ok (hp : isPureO P o.op = true) (h : evX X P tm s o = some r) : ∃ v, r = .val v s ∧ ∀ s', evX X P tm s' o = some (.val v s') := by
  unfold evX at h ⊢
  simp only [evK_eq] at h ⊢
  cases h1 : evOp P tm s o with
  | some r' =>
    rw [h1] at h
    simp only [Option.some.injEq] at h
    subst h
    obtain ⟨v, h2, h3⟩ := pure_ok hp h1
    exact ⟨v, h2, fun s' => by rw [h3]⟩
  | none =>
    rw [h1] at h
    obtain ⟨v, h2, h3⟩ := evSy_pure hp h
    refine ⟨v, h2, fun s' => ?_⟩
    cases h4 : evOp P tm s' o with
    | none => exact h3 s'
    | some r' =>
      obtain ⟨_, _, h5⟩ := pure_ok hp h4
      rw [h5 s] at h1
      cases h1
theorem allocX_ok (hp : isAllocO P o.op = true) (h : evX X P tm s o = some r) : ∃ v ob, r = .val v (s.new ob) ∧ ∀ s' : St, s'.nx = s.nx → evX X P tm s' o = some (.val v (s'.new ob)) := by
  unfold evX at h ⊢
  simp only [evK_eq] at h ⊢
  cases h1 : evOp P tm s o with
  | some r' =>
    rw [h1] at h
    simp only [Option.some.injEq] at h
    subst h
    obtain ⟨v, ob, h2, h3⟩ := alloc_ok hp h1
    exact ⟨v, ob, h2, fun s' hs => by rw [h3 s' hs]⟩
  | none =>
    rw [h1, evSy_alloc hp] at h
    cases h
theorem readX_ok (hp : isReadO P o.op = true) (h : evX X P tm s o = some r) : ∃ v, r = .val v s := by
  unfold evX at h
  simp only [evK_eq] at h
  cases h1 : evOp P tm s o with
  | some r' =>
    rw [h1] at h
    simp only [Option.some.injEq] at h
    subst h
    exact read_ok hp h1
  | none =>
    rw [h1] at h
    exact evSy_read hp h
end
end Go.Proofs.YtjaaajmiojigbaaGreatDoor

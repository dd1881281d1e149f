/- Built-in functions. -/
import Derived.Test.YtjaaajmiojigbaaGreatDoorOpD
namespace Go.Proofs.YtjaaajmiojigbaaGreatDoor
open Go Go.RowKit
variable {E : Env} {X : Ctx}

section
variable {P : Program} {base : Nat} {ρ : Mp} {s s' : St} {w : World} {tm : Tr AV} {a : Act} {o : Oper} {r : ARes}

theorem EsR.length {ρ : Mp} : ∀ {es : List (AV × AV)} {us : List MapEntry}, EsR E ρ es us → us.length = es.length
  | [], _, h => by rw [show _ = [] from h]; rfl
  | _ :: _, _, ⟨_, _, h1, _, _, h4⟩ => by rw [h1, List.length_cons, h4.length, List.length_cons]

theorem lenA_ok {t : TypeId} {rest : List TypeId} {x : AV} {u : Value} (ty : TypeId) (consts : Array Bool) (h : HR E base ρ s w) (hv : VR E ρ x u) (he : builtinA P s .len (t :: rest) [x] = some r) : Good E P base ρ s w (builtin .len (List.toArray (t :: rest)) ty consts #[u]) r := by
  simp only [builtinA] at he
  split at he
  · rename_i l hu
    simp only [Option.some.injEq] at he
    subst he
    obtain ⟨rfl, _⟩ := hv
    exact Good.same h (u := .int .i64 l.length) (by simp [builtin, Builtin.len_, underlying, hu, goInt, bsOf_size]) rfl
  · rename_i e hu
    simp only [Option.some.injEq] at he
    subst he
    rw [show u = _ from hv]
    exact Good.same h (u := .int .i64 0) (by simp [builtin, Builtin.len_, underlying, hu, goInt]) rfl
  · rename_i e hu
    simp only [Option.some.injEq] at he
    subst he
    obtain ⟨_, _, rfl⟩ := hv
    exact Good.same h (u := .int .i64 0) (by simp [builtin, Builtin.len_, underlying, hu, goInt]) rfl
  · rename_i e b q n c z hu
    simp only [Option.some.injEq] at he
    subst he
    obtain ⟨_, _, _, rfl, _⟩ := hv
    exact Good.same h (u := .int .i64 n) (by simp [builtin, Builtin.len_, underlying, hu, goInt]) rfl
  · rename_i k e hu
    simp only [Option.some.injEq] at he
    subst he
    rw [show u = _ from hv]
    exact Good.same h (u := .int .i64 0) (by simp [builtin, Builtin.len_, underlying, hu, goInt]) rfl
  · rename_i k e b hu
    split at he
    · rename_i es hb
      simp only [Option.some.injEq] at he
      subst he
      obtain ⟨l, h1, rfl⟩ := hv
      obtain ⟨_, arr, cl, h2, h3⟩ := h.at hb h1
      have hlen := h3.length
      rw [Array.length_toList] at hlen
      exact Good.same h (u := .int .i64 es.length) (by simp [builtin, Builtin.len_, underlying, hu, goInt, getObj, Sem.run, h2, hlen]) rfl
    · cases he
  · rename_i n e hu
    simp only [Option.some.injEq] at he
    subst he
    exact Good.same h (u := .int .i64 n) (by simp [builtin, Builtin.len_, underlying, hu, goInt]) rfl
  · cases he

theorem appendA_ok {t u : TypeId} {x y v : AV} {xv yv : Value} (ty : TypeId) (h : HR E base ρ s w) (hx : VR E ρ x xv) (hy : VR E ρ y yv) (he : appendA P s t u x y = some (v, s')) :
    ∃ uu σ w', (Builtin.append_ #[t, u] ty #[xv, yv]).run P w = .ok uu w' ∧ VR E σ v uu ∧ HR E base σ s' w' ∧ Turn ρ s w σ s' w' := by
  unfold appendA at he
  split at he
  · rename_i e du h1 h2
    split at he
    · rename_i i z h3 h4
      split at he
      · rename_i m cs h5
        split at he
        · rename_i hc
          obtain ⟨hcl, hone, hz, hm6⟩ := hc
          obtain ⟨i', zv, h6, h7, h8⟩ := zeroA_ok (E := E) (ρ := ρ) h4
          obtain rfl := Option.some.inj (h3.symm.trans h6)
          have hzs : zv.cells.size = i.size := by rw [← hz, ← h8.length]; simp
          obtain ⟨news, h9, h10, h11, h12⟩ := newsA_ok (P := P) h5 h hy
          exact growA_ok he hcl hone (elemSl_ok h1) h3 h7 hzs hm6 h2 h12 h hx h9 h10 h11
        · cases he
      · cases he
    · cases he
  · cases he

theorem bytes_ok {ρ : Mp} {l : List Nat} (hx : ∀ x ∈ l, x < 256) : VRs E ρ (l.map byteA) (l.map fun n => Value.int .u8 ((UInt8.ofNat n).toNat : Int)) := by
  induction l with
  | nil => rfl
  | cons x r ih =>
    have := hx x (by simp)
    refine ⟨_, _, rfl, ?_, ih fun y hy => hx y (by simp [hy])⟩
    show _ = _
    simp
    omega

theorem srcA_ok {sz lim m : Nat} {y : AV} {cs : List AV} {v : Value} (hq : srcA s sz lim y = some (m, cs)) (h : HR E base ρ s w) (hv : VR E ρ y v) :
    ∃ (k : Nat) (news : Array Value), (Builtin.lenOf v).run P w = .ok k w ∧ m = min k lim ∧ VRs E ρ cs news.toList ∧ (Builtin.firstCells sz m v).run P w = .ok news w := by
  unfold srcA at hq
  split at hq
  · simp only [Option.some.injEq, Prod.mk.injEq] at hq
    obtain ⟨rfl, rfl⟩ := hq
    rw [show v = _ from hv]
    exact ⟨0, #[], by simp [Builtin.lenOf], by simp, rfl, by simp [Builtin.firstCells]⟩
  · simp only [Option.some.injEq, Prod.mk.injEq] at hq
    obtain ⟨rfl, rfl⟩ := hq
    obtain ⟨ad, c, rfl⟩ := hv
    refine ⟨0, #[], by simp [Builtin.lenOf], by simp, rfl, ?_⟩
    cases ad with
    | none => simp [Builtin.firstCells]
    | some ad =>
      have := run_loadCells_list (P := P) w ad [] (by simp)
      simp only [List.length_nil] at this
      simp [Builtin.firstCells, this]
  · rename_i b q n c z
    split at hq
    · rename_i cs' hl
      simp only [Option.some.injEq, Prod.mk.injEq] at hq
      obtain ⟨rfl, rfl⟩ := hq
      obtain ⟨l, cap, h1, rfl, _⟩ := hv
      obtain ⟨vs, h2, h3, h4⟩ := h.load h1 hl
      refine ⟨n, vs.toArray, by simp [Builtin.lenOf], rfl, by simpa using h2, ?_⟩
      have := run_loadCells_list (P := P) w ⟨l.g, l.d + q, none⟩ vs (fun j u hj => by rw [Addr.add_lit]; exact h4 j u hj)
      rw [h3] at this
      simp only [Builtin.firstCells]
      exact this
    · cases hq
  · rename_i l
    simp only [Option.some.injEq, Prod.mk.injEq] at hq
    obtain ⟨rfl, rfl⟩ := hq
    obtain ⟨rfl, h2⟩ := hv
    refine ⟨l.length, (bsOf (l.take (min l.length lim))).data.map fun b => .int .u8 b.toNat, by simp [Builtin.lenOf, bsOf_size], rfl, ?_, ?_⟩
    · have := bytes_ok (E := E) (ρ := ρ) (l := l.take (min l.length lim)) fun x hx => h2 x (List.mem_of_mem_take hx)
      simpa [bsOf, Function.comp_def] using this
    · have hex : (bsOf l).extract 0 (min l.length lim) = bsOf (l.take (min l.length lim)) := by rw [bsOf_extract]; simp
      simp only [Builtin.firstCells, hex]
      rfl
  · cases hq

theorem copyA_ok {t e : TypeId} {rest : List TypeId} {y : AV} {dv yv : Value} {b q n c z sz m : Nat} {cs : List AV} (ty : TypeId) (h : HR E base ρ s w) (hx : VR E ρ (.slice b q n c z) dv) (hy : VR E ρ y yv) (h0 : elemSl P t = some e) (h1 : szOf P e = some sz) (h2 : srcA s sz n y = some (m, cs)) (h3 : s.store b q cs = some s') :
    ∃ w', (Builtin.copy_ (List.toArray (t :: rest)) ty #[dv, yv]).run P w = .ok (.int .i64 m) w' ∧ HR E base ρ s' w' ∧ Turn ρ s w ρ s' w' := by
  obtain ⟨l, cap, h4, rfl, _⟩ := hx
  obtain ⟨k, news, h5, rfl, h6, h7⟩ := srcA_ok (P := P) h2 h hy
  obtain ⟨w', h8, h9, h10⟩ := h.store (P := P) h4 h6 h3
  refine ⟨w', ?_, h9, h10⟩
  have h7' : (Builtin.firstCells sz (Nat.min k n) yv).run P w = .ok news w := h7
  simp [Builtin.copy_, underlying, elemSl_ok h0, run_sizeOf' h1, h5, h7', h8, goInt]

theorem clearA_ok {t e : TypeId} {rest : List TypeId} {b q n c z0 : Nat} {z : List AV} {u : Value} (ty : TypeId) (h : HR E base ρ s w) (hx : VR E ρ (.slice b q n c z0) u) (h0 : elemSl P t = some e) (h1 : zeroA P e = some z) (h3 : s.store b q (List.flatten (List.replicate n z)) = some s') :
    ∃ w', (Builtin.clear_ (List.toArray (t :: rest)) ty #[u]).run P w = .ok (.tuple #[]) w' ∧ HR E base ρ s' w' ∧ Turn ρ s w ρ s' w' := by
  obtain ⟨l, cap, h4, rfl, _⟩ := hx
  obtain ⟨i, zv, h5, h6, h7⟩ := zeroA_ok (E := E) (ρ := ρ) h1
  have hrow : VRs E ρ (List.flatten (List.replicate n z)) (Builtin.zeroCells zv.cells n).toList := by
    have hf : ((Array.range (n * zv.cells.size)).map fun j => zv.cells[j % zv.cells.size]!).toList = _ := rows_flat zv.cells zv.cells.size rfl n
    unfold Builtin.zeroCells
    rw [hf]
    exact h7.flat n
  obtain ⟨w', h8, h9, h10⟩ := h.store (P := P) h4 hrow h3
  cases n with
  | zero =>
    have hw : w' = w := by
      have h8' : (storeCells ⟨l.g, l.d + q, none⟩ []).run P w = .ok () w' := by simpa [Builtin.zeroCells] using h8
      simp [storeCells, Sem.run] at h8'
      exact h8'.symm
    subst hw
    refine ⟨_, ?_, h9, h10⟩
    simp [Builtin.clear_, underlying, elemSl_ok h0]
  | succ n =>
    refine ⟨w', ?_, h9, h10⟩
    simp [Builtin.clear_, underlying, elemSl_ok h0, zeroValue, typeInfo, h5, h6, h8]

theorem EsR.erase : ∀ {es : List (AV × AV)} {us : List MapEntry} (i : Nat), EsR E ρ es us → EsR E ρ (es.eraseIdx i) (us.eraseIdx i)
  | [], us, i, h => by rw [show us = [] from h]; simp [EsR]
  | _ :: _, _, 0, ⟨e', es', h1, _, _, h4⟩ => by rw [h1]; exact h4
  | _ :: _, _, i + 1, ⟨e', es', h1, h2, h3, h4⟩ => by rw [h1]; exact ⟨e', _, rfl, h2, h3, h4.erase i⟩

theorem deleteA_ok {t kt e : TypeId} {rest : List TypeId} {b : Nat} {k : AV} {es : List (AV × AV)} {mv kv : Value} {q : Option (Nat × AV)} (ty : TypeId) (h : HR E base ρ s w) (hm : VR E ρ (.map b) mv) (hk : VR E ρ k kv) (hu : P.underlying t = some (.map kt e)) (hb : s.H.get b = some (.map es)) (hko : keyOk P kt k = true) (hq : keyIdx k es 0 = some q) :
    ∃ w', (Builtin.delete_ (List.toArray (t :: rest)) ty #[mv, kv]).run P w = .ok (.tuple #[]) w' ∧ HR E base ρ ⟨s.H.set b (.map (match q with | some (i, _) => es.eraseIdx i | none => es)), s.nx, s.hi⟩ w' ∧ Turn ρ s w ρ ⟨s.H.set b (.map (match q with | some (i, _) => es.eraseIdx i | none => es)), s.nx, s.hi⟩ w' := by
  obtain ⟨l, hl, rfl⟩ := hm
  obtain ⟨_, arr, cl, h5, h6⟩ := h.at hb hl
  have hc := fun b => (keyOk_ok (w := w) hko hk b).1
  obtain ⟨d, hd, hki⟩ := (keyOk_ok (w := w) hko hk true).2
  rcases findNow_ok hki hk h6 hq with ⟨rfl, h9⟩ | ⟨i, v0, v', rfl, h9, _⟩
  · have hfk := run_findKeyA (w := w) hd h9
    have hn := h.mapTurn (arr' := arr) (cl := cl) hb hl h6
    refine ⟨_, ?_, hn.1, hn.2⟩
    simp [Builtin.delete_, underlying, hu, getObj, setObj, Sem.run, h5, hc, hfk]
  · have hfk := run_findKeyA (w := w) hd h9
    have hn := h.mapTurn (arr' := arr.eraseIdxIfInBounds i) (cl := cl) hb hl (by
      rw [Array.toList_eraseIdxIfInBounds]
      exact h6.erase i)
    refine ⟨_, ?_, hn.1, hn.2⟩
    simp [Builtin.delete_, underlying, hu, getObj, setObj, Sem.run, h5, hc, hfk]

theorem builtinA_ok {b : Builtin} {ts : List TypeId} {args : List AV} {us : List Value} (ty : TypeId) (consts : Array Bool) (h : HR E base ρ s w) (hv : VRs E ρ args us) (he : builtinA P s b ts args = some r) : Good E P base ρ s w (builtin b (List.toArray ts) ty consts (List.toArray us)) r := by
  unfold builtinA at he
  split at he
  · obtain ⟨u, _, rfl, h1, rfl⟩ := hv
    exact lenA_ok ty consts h h1 he
  · obtain ⟨u, _, rfl, h1, v, _, rfl, h2, rfl⟩ := hv
    split at he
    · rename_i v' s' h3
      simp only [Option.some.injEq] at he
      subst he
      obtain ⟨uu, σ, w', h4, h5, h6, h7⟩ := appendA_ok ty h h1 h2 h3
      exact ⟨uu, σ, w', by simp [builtin, h4], h5, h6, h7⟩
    · cases he
  · obtain ⟨u, _, rfl, h1, v, _, rfl, h2, rfl⟩ := hv
    simp only [Option.some.injEq] at he
    subst he
    rw [show u = _ from h1, show v = _ from h2]
    exact Good.same h (by simp [builtin, Builtin.max_, Builtin.max2]) rfl
  · obtain ⟨u, _, rfl, h1, v, _, rfl, h2, rfl⟩ := hv
    simp only [Option.some.injEq] at he
    subst he
    rw [show u = _ from h1, show v = _ from h2]
    exact Good.same h (by simp [builtin, Builtin.min_, Builtin.min2]) rfl
  · rename_i tt tl bb kk
    obtain ⟨u, _, rfl, h1, v, _, rfl, h2, rfl⟩ := hv
    split at he
    · rename_i kt e es hu hb
      split at he
      · rename_i hko
        split at he
        · rename_i i v0 hq
          simp only [Option.some.injEq] at he
          subst he
          obtain ⟨w', h3, h4, h5⟩ := deleteA_ok (rest := tl) ty h h1 h2 hu hb hko hq
          exact ⟨.tuple #[], ρ, w', by simp only [builtin, Sem.run_bind, h3, Result.andThen_ok, Sem.run_pure], ⟨[], rfl, rfl⟩, h4, h5⟩
        · rename_i hq
          simp only [Option.some.injEq] at he
          subst he
          obtain ⟨w', h3, h4, h5⟩ := deleteA_ok (rest := tl) ty h h1 h2 hu hb hko hq
          exact ⟨.tuple #[], ρ, w', by simp only [builtin, Sem.run_bind, h3, Result.andThen_ok, Sem.run_pure], ⟨[], rfl, rfl⟩, h4, h5⟩
        · cases he
      · cases he
    · cases he
  · rename_i tt tl xx
    obtain ⟨u, _, rfl, h1, rfl⟩ := hv
    split at he
    · rename_i e h3
      simp only [Option.some.injEq] at he
      subst he
      obtain ⟨a, c, rfl⟩ := h1
      exact Good.same h (u := .tuple #[]) (by cases a <;> simp [builtin, Builtin.clear_, underlying, elemSl_ok h3]) ⟨[], rfl, rfl⟩
    · rename_i e bb qq nn cc zz h3
      split at he
      · rename_i z h4
        split at he
        · split at he
          · rename_i s' h6
            simp only [Option.some.injEq] at he
            subst he
            obtain ⟨w', h7, h8, h9⟩ := clearA_ok (rest := tl) ty h h1 h3 h4 h6
            exact ⟨.tuple #[], ρ, w', by simp only [builtin, Sem.run_bind, h7, Result.andThen_ok, Sem.run_pure], ⟨[], rfl, rfl⟩, h8, h9⟩
          · cases he
        · cases he
      · cases he
    · cases he
  · rename_i tt tl bb qq nn cc zz yy
    obtain ⟨u, _, rfl, h1, v, _, rfl, h2, rfl⟩ := hv
    split at he
    · cases he
    · rename_i e h3
      split at he
      · cases he
      · rename_i sz h4
        split at he
        · cases he
        · rename_i m cs h5
          split at he
          · rename_i s' h6
            simp only [Option.some.injEq] at he
            subst he
            obtain ⟨w', h7, h8, h9⟩ := copyA_ok (rest := tl) ty h h1 h2 h3 h4 h5 h6
            exact ⟨.int .i64 m, ρ, w', by simp only [builtin, Sem.run_bind, h7, Result.andThen_ok, Sem.run_pure], rfl, h8, h9⟩
          · cases he
  · cases he
end
end Go.Proofs.YtjaaajmiojigbaaGreatDoor

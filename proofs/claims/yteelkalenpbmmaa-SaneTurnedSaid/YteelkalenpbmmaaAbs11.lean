/- Operations whose order is drawn: two that may turn come to the same either way. -/
import Derived.Test.YteelkalenpbmmaaAbs10
set_option linter.unusedVariables false
set_option linter.unusedSimpArgs false
namespace Go.Proofs.Yteelkalenpbmmaa.Ab

theorem ov_agree {g : Bool} {env env' : Nat → AV} {x : Opd} (h : ∀ t ∈ x.tmps, env t = env' t) : ov g env x = ov g env' x := by
  cases x with
  | t n => simp [ov, rd, h n (by simp [Opd.tmps])]
  | c v => rfl
theorem ovs_agree {g : Bool} {env env' : Nat → AV} : ∀ {xs : List Opd}, (∀ t ∈ xs.flatMap Opd.tmps, env t = env' t) → ovs g env xs = ovs g env' xs
  | [], _ => rfl
  | x :: r, h => by
    have h1 := ov_agree (g := g) (x := x) (fun t ht => h t (by simp [ht]))
    have h2 := ovs_agree (g := g) (xs := r) (fun t ht => h t (by
      rw [List.flatMap_cons]
      exact List.mem_append_right _ ht))
    simp [ovs, h1, h2]
theorem ovo_agree {g : Bool} {env env' : Nat → AV} {x : Option Opd} (h : ∀ t ∈ otmps x, env t = env' t) : ovo g env x = ovo g env' x := by
  cases x with
  | none => rfl
  | some x => simp [ovo, ov_agree (g := g) (x := x) (fun t ht => h t (by simpa [otmps] using ht))]

theorem vop_agree {K : Cfg} {base : Nat} {lo g : Bool} {env env' : Nat → AV} {H : Heap} {p : AOp} (h : ∀ t ∈ p.reads, env t = env' t) : vop K base lo g env H p = vop K base lo g env' H p := by
  cases p <;> simp only [AOp.reads, List.mem_append] at h <;> simp only [vop]
  case mv x => exact ov_agree h
  case pk c a b =>
    simp only [apick]
    rw [ov_agree (g := g) (x := c) (fun t ht => h t (.inl (.inl ht)))]
    split
    · rename_i p ok heq
      rw [ov_agree (g := g && p) (x := a) (fun t ht => h t (.inl (.inr ht))), ov_agree (g := g && !p) (x := b) (fun t ht => h t (.inr ht))]
    · rfl
  case bin op x y => rw [ov_agree (x := x) (fun t ht => h t (.inl ht)), ov_agree (x := y) (fun t ht => h t (.inr ht))]
  case aeq n k x y => rw [ov_agree (x := x) (fun t ht => h t (.inl ht)), ov_agree (x := y) (fun t ht => h t (.inr ht))]
  case beq n x y => rw [ov_agree (x := x) (fun t ht => h t (.inl ht)), ov_agree (x := y) (fun t ht => h t (.inr ht))]
  case sbin op x y => rw [ov_agree (x := x) (fun t ht => h t (.inl ht)), ov_agree (x := y) (fun t ht => h t (.inr ht))]
  case isnil n x => rw [ov_agree h]
  case snil n x => rw [ov_agree h]
  case un op x => rw [ov_agree h]
  case cv k x => rw [ov_agree h]
  case fa x o => rw [ov_agree h]
  case ia x i s => rw [ov_agree (x := x) (fun t ht => h t (.inl ht)), ov_agree (x := i) (fun t ht => h t (.inr ht))]
  case ld x n => rw [ov_agree h]
  case sl x sz l hh m => rw [ov_agree (x := x) (fun t ht => h t (.inl (.inl (.inl ht)))), ovo_agree (x := l) (fun t ht => h t (.inl (.inl (.inr ht)))), ovo_agree (x := hh) (fun t ht => h t (.inl (.inr ht))), ovo_agree (x := m) (fun t ht => h t (.inr ht))]
  case ssl x l hh => rw [ov_agree (x := x) (fun t ht => h t (.inl (.inl ht))), ovo_agree (x := l) (fun t ht => h t (.inl (.inr ht))), ovo_agree (x := hh) (fun t ht => h t (.inr ht))]
  case fd x o n => rw [ov_agree h]
  case ix x i => rw [ov_agree (x := x) (fun t ht => h t (.inl ht)), ov_agree (x := i) (fun t ht => h t (.inr ht))]
  case ex x i => rw [ov_agree h]
  case bd z ps =>
    have key : ∀ (qs : List (Nat × Nat × Opd)), (∀ t ∈ qs.flatMap fun p => p.2.2.tmps, env t = env' t) → (qs.map fun p => (p.1, p.2.1, (ov g env p.2.2).1)) = (qs.map fun p => (p.1, p.2.1, (ov g env' p.2.2).1)) ∧ (qs.all fun p => (ov g env p.2.2).2) = (qs.all fun p => (ov g env' p.2.2).2) := by
      intro qs
      induction qs with
      | nil => intro _; exact ⟨rfl, rfl⟩
      | cons q qs ih =>
        intro hq
        have h1 := ov_agree (g := g) (x := q.2.2) (fun t ht => hq t (by rw [List.flatMap_cons]; exact List.mem_append_left _ ht))
        obtain ⟨h2, h3⟩ := ih (fun t ht => hq t (by rw [List.flatMap_cons]; exact List.mem_append_right _ ht))
        exact ⟨by simp only [List.map_cons, h1, h2], by simp only [List.all_cons, h1, h3]⟩
    obtain ⟨h1, h2⟩ := key ps h
    rw [h1, h2]
  case mf f a b => rw [ovs_agree (xs := a) (fun t ht => h t (.inl ht)), ovs_agree (xs := b) (fun t ht => h t (.inr ht))]
  case ln x => rw [ov_agree h]
  case lns x => rw [ov_agree h]
  case mx m x xs => rw [ov_agree (x := x) (fun t ht => h t (.inl ht)), ovs_agree (xs := xs) (fun t ht => h t (.inr ht))]
  case nc x => rw [ov_agree h]
  case b2s x => rw [ov_agree h]
  case pc f as => rw [ovs_agree h]
  case dp f as => rw [ov_agree (x := f) (fun t ht => h t (.inl ht)), ovs_agree (xs := as) (fun t ht => h t (.inr ht))]
  case ic f as => rw [ovs_agree h]

theorem eop_agree {K : Cfg} {base : Nat} {at_ : Option Nat} {lo : Bool} {env env' : Nat → AV} {H : Heap} {p : AOp} (h : ∀ t ∈ p.reads, env t = env' t) : eop K base at_ lo env H p = eop K base at_ lo env' H p := by
  cases p <;> simp only [AOp.reads, List.mem_append] at h <;> simp only [eop]
  case bx n x => rw [ov_agree h]
  case bs sz len z ps =>
    have key : ∀ (qs : List (Nat × Opd)), (∀ t ∈ qs.flatMap fun p => p.2.tmps, env t = env' t) → (qs.map fun p => (p.1 * sz, sz, (ov true env p.2).1)) = (qs.map fun p => (p.1 * sz, sz, (ov true env' p.2).1)) ∧ (qs.all fun p => (ov true env p.2).2) = (qs.all fun p => (ov true env' p.2).2) := by
      intro qs
      induction qs with
      | nil => intro _; exact ⟨rfl, rfl⟩
      | cons q qs ih =>
        intro hq
        have h1 := ov_agree (g := true) (x := q.2) (fun t ht => hq t (by rw [List.flatMap_cons]; exact List.mem_append_left _ ht))
        obtain ⟨h2, h3⟩ := ih (fun t ht => hq t (by rw [List.flatMap_cons]; exact List.mem_append_right _ ht))
        exact ⟨by simp only [List.map_cons, h1, h2], by simp only [List.all_cons, h1, h3]⟩
    obtain ⟨h1, h2⟩ := key ps h
    rw [h1, h2]
  case ms sz b z l c => rw [ov_agree (x := l) (fun t ht => h t (.inl ht)), ov_agree (x := c) (fun t ht => h t (.inr ht))]
  case st n p v => rw [ov_agree (x := p) (fun t ht => h t (.inl ht)), ov_agree (x := v) (fun t ht => h t (.inr ht))]
  case ap sz b z x y => rw [ov_agree (x := x) (fun t ht => h t (.inl ht)), ov_agree (x := y) (fun t ht => h t (.inr ht))]
  case s2b x => rw [ov_agree h]
  case ec f as => rw [ovs_agree h]
  case dc f as => rw [ov_agree (x := f) (fun t ht => h t (.inl ht)), ovs_agree (xs := as) (fun t ht => h t (.inr ht))]

/-! ### An operation's value, heap and leave -/

def xv (K : Cfg) (base : Nat) (o : AOper) (env : Nat → AV) (H : Heap) : AV :=
  match o.g with
  | none => match o.o.eff with
    | false => (vop K base o.lo true env H o.o).1
    | true => (eop K base o.at_ o.lo env H o.o).1.1
  | some (t, want) => match o.o.eff with
    | false => .ifg (gcond (env t) want).1 (vop K base o.lo (gcond (env t) want).1 env H o.o).1
    | true => bif (gcond (env t) want).1 then (eop K base o.at_ o.lo env H o.o).1.1 else .ifg false .any
def xh (K : Cfg) (base : Nat) (o : AOper) (env : Nat → AV) (H : Heap) : Heap :=
  match o.o.eff with
  | false => H
  | true => match o.g with
    | none => (eop K base o.at_ o.lo env H o.o).1.2
    | some (t, want) => bif (gcond (env t) want).1 then (eop K base o.at_ o.lo env H o.o).1.2 else H
def xk (K : Cfg) (base : Nat) (o : AOper) (env : Nat → AV) (H : Heap) : Bool :=
  match o.g with
  | none => match o.o.eff with
    | false => (vop K base o.lo true env H o.o).2
    | true => (eop K base o.at_ o.lo env H o.o).2
  | some (t, want) => match o.o.eff with
    | false => (gcond (env t) want).2 && gle (gcond (env t) want).1 (vop K base o.lo (gcond (env t) want).1 env H o.o).2
    | true => bif (gcond (env t) want).1 then (gcond (env t) want).2 && (eop K base o.at_ o.lo env H o.o).2 else (gcond (env t) want).2

theorem xop_eq (K : Cfg) (base : Nat) (o : AOper) (s : RS) : xop K base o s = (⟨upd s.env o.d (xv K base o s.env s.heap), xh K base o s.env s.heap⟩, xk K base o s.env s.heap) := by
  obtain ⟨env, H⟩ := s
  simp only [xop, xv, xh, xk]
  cases o.g with
  | none => cases o.o.eff <;> rfl
  | some tw =>
    obtain ⟨t, want⟩ := tw
    cases o.o.eff with
    | false => rfl
    | true => simp only; cases (gcond (env t) want).1 <;> rfl

theorem x_agree {K : Cfg} {base : Nat} {o : AOper} {env env' : Nat → AV} (h : ∀ t ∈ o.reads, env t = env' t) (H : Heap) : xv K base o env H = xv K base o env' H ∧ xh K base o env H = xh K base o env' H ∧ xk K base o env H = xk K base o env' H := by
  obtain ⟨d, g, at_, lo, p⟩ := o
  simp only [AOper.reads, List.mem_append] at h
  have hv : ∀ g, vop K base lo g env H p = vop K base lo g env' H p := fun g => vop_agree (fun t ht => h t (.inr ht))
  have he : eop K base at_ lo env H p = eop K base at_ lo env' H p := eop_agree (fun t ht => h t (.inr ht))
  cases g with
  | none => simp only [xv, xh, xk, hv, he, and_self]
  | some tw =>
    obtain ⟨t, want⟩ := tw
    have := h t (.inl (by simp))
    simp only [xv, xh, xk, hv, he, this, and_self]

/-! ### What of the heap they ask -/

theorem vop_heap {K : Cfg} {base : Nat} {lo g : Bool} {env : Nat → AV} {H H' : Heap} {p : AOp} (hc : p.cls = .L ∨ (p.cls = .P ∧ lo = true)) : vop K base lo g env H p = vop K base lo g env H' p := by
  cases p <;> first | rfl | (rcases hc with h | ⟨h, _⟩ <;> cases h; done) | skip
  all_goals
    rcases hc with h | ⟨_, h⟩
    · cases h
    · subst h; rfl
theorem LP_eff {p : AOp} (hc : p.cls = .L ∨ p.cls = .P ∨ p.cls = .R) : p.eff = false := by
  cases p <;> first | rfl | (rcases hc with h | h | h <;> cases h)

theorem x_LP {K : Cfg} {base : Nat} {o : AOper} {env : Nat → AV} {H H' : Heap} (hc : o.o.cls = .L ∨ (o.o.cls = .P ∧ o.lo = true)) : xv K base o env H = xv K base o env H' ∧ xk K base o env H = xk K base o env H' ∧ xh K base o env H = H := by
  have he := LP_eff (p := o.o) (hc.imp id fun h => .inl h.1)
  have hv : ∀ g, vop K base o.lo g env H o.o = vop K base o.lo g env H' o.o := fun g => vop_heap hc
  simp only [xv, xk, xh, he, hv, and_self]
theorem x_quiet {K : Cfg} {base : Nat} {o : AOper} {env : Nat → AV} {H : Heap} (he : o.o.eff = false) : xh K base o env H = H := by
  simp only [xh, he]
theorem x_R {K : Cfg} {base : Nat} {o : AOper} {env : Nat → AV} {H H' : Heap} (hc : o.o.cls = .R) (hlo : o.lo = true) (hH : H.take base = H'.take base) : xv K base o env H = xv K base o env H' ∧ xk K base o env H = xk K base o env H' := by
  have he := LP_eff (p := o.o) (.inr (.inr hc))
  obtain ⟨d, g, at_, lo, p⟩ := o
  simp only at hc hlo he
  subst hlo
  have hv : ∀ g, vop K base true g env H p = vop K base true g env H' p := by
    intro g
    cases p <;> first | (cases hc; done) | skip
    simp only [vop, hH]
  simp only [xv, xk, he, hv, and_self]
theorem x_Rh {K : Cfg} {base : Nat} {o : AOper} {env : Nat → AV} {H : Heap} (hc : o.o.cls = .R) : xh K base o env H = H := by
  simp only [xh, LP_eff (p := o.o) (.inr (.inr hc))]

/-- What is turned lies from 'base' on. -/
theorem eop_hi {K : Cfg} {base : Nat} {at_ : Option Nat} {lo : Bool} {env : Nat → AV} {H : Heap} {p : AOp} (hc : (p.cls = .A ∧ at_.isSome = true) ∨ (p.cls = .S ∧ lo = true) ∨ (p.cls = .G ∧ lo = true ∧ at_.isSome = true)) (ok : (eop K base at_ lo env H p).2 = true) :
    (eop K base at_ lo env H p).1.2.take base = H.take base := by
  have hn : ∀ (H' : Heap) cs, at_.isSome = true → (newAt base H' at_ cs).2.1.take base = H'.take base := by
    intro H' cs h
    cases at_ with
    | none => cases h
    | some k =>
      simp only [newAt]
      rw [List.take_set_of_le (by omega)]
  cases p <;> first | (rcases hc with ⟨h, _⟩ | ⟨h, _⟩ | ⟨h, _⟩ <;> cases h; done) | skip
  case al z => exact hn _ _ (by rcases hc with ⟨_, h⟩ | ⟨h, _⟩ | ⟨h, _⟩ <;> first | exact h | cases h)
  case bx n x => exact hn _ _ (by rcases hc with ⟨_, h⟩ | ⟨h, _⟩ | ⟨h, _⟩ <;> first | exact h | cases h)
  case bs sz len z ps => exact hn _ _ (by rcases hc with ⟨_, h⟩ | ⟨h, _⟩ | ⟨h, _⟩ <;> first | exact h | cases h)
  case ms sz b z l c =>
    have ha : at_.isSome = true := by rcases hc with ⟨_, h⟩ | ⟨h, _⟩ | ⟨h, _⟩ <;> first | exact h | cases h
    simp only [eop]
    split
    · exact hn _ _ ha
    · rfl
  case s2b x =>
    have ha : at_.isSome = true := by rcases hc with ⟨_, h⟩ | ⟨h, _⟩ | ⟨h, _⟩ <;> first | exact h | cases h
    simp only [eop]
    split
    · exact hn _ _ ha
    · rfl
  case st n p v =>
    have hl : lo = true := by rcases hc with ⟨h, _⟩ | ⟨_, h⟩ | ⟨h, _⟩ <;> first | exact h | cases h
    subst hl
    simp only [eop] at ok ⊢
    split at ok
    · rename_i id off heq
      split at ok
      · rename_i cs hg
        simp only [heq, hg]
        simp only [Bool.and_eq_true, Bool.not_true, Bool.false_or, decide_eq_true_eq] at ok
        rw [List.take_set_of_le ok.2]
      · cases ok
    · cases ok
  case ap sz b z x y =>
    have hl : lo = true ∧ at_.isSome = true := by rcases hc with ⟨h, _⟩ | ⟨h, _⟩ | ⟨_, h⟩ <;> first | exact h | cases h
    obtain ⟨hl, ha⟩ := hl
    subst hl
    simp only [eop] at ok ⊢
    split at ok
    · rename_i heq
      simp only [heq]
      exact hn _ _ ha
    · rename_i heq
      simp only [heq]
      exact hn _ _ ha
    · rename_i sz' id off len heq
      split at ok
      · rename_i cs hg
        simp only [heq, hg]
        simp only [Bool.and_eq_true, Bool.not_true, Bool.false_or, decide_eq_true_eq] at ok
        rw [hn _ _ ha, List.take_set_of_le ok.1.2]
      · cases ok
    · cases ok

theorem x_hi {K : Cfg} {base : Nat} {o : AOper} {env : Nat → AV} {H : Heap} (hc : (o.o.cls = .A ∧ o.at_.isSome = true) ∨ (o.o.cls = .S ∧ o.lo = true) ∨ (o.o.cls = .G ∧ o.lo = true ∧ o.at_.isSome = true)) (ok : xk K base o env H = true) :
    (xh K base o env H).take base = H.take base := by
  have he : o.o.eff = true := by
    generalize o.o = p at hc
    cases p <;> first | rfl | (rcases hc with ⟨h, _⟩ | ⟨h, _⟩ | ⟨h, _⟩ <;> cases h)
  simp only [xh, xk, he] at ok ⊢
  cases hg : o.g with
  | none =>
    rw [hg] at ok
    exact eop_hi hc ok
  | some tw =>
    obtain ⟨t, want⟩ := tw
    rw [hg] at ok
    simp only at ok ⊢
    cases hgc : (gcond (env t) want).1 with
    | true =>
      rw [hgc] at ok
      simp only [cond_true, Bool.and_eq_true] at ok ⊢
      exact eop_hi hc ok.2
    | false => rfl

/-- Two new blocks at reserved places. -/
theorem eop_A {K : Cfg} {base k : Nat} {lo : Bool} {env : Nat → AV} {p : AOp} (hc : p.cls = .A) : (∀ H, (eop K base (some k) lo env H p).2 = false) ∨
    ∃ (v : AV) (cs : List AV) (b : Bool), ∀ H, eop K base (some k) lo env H p = ((v, H.set (base + k) (.live cs)), b && (match H[base + k]? with | some .res => true | _ => false)) := by
  cases p <;> first | (cases hc; done) | skip
  case al z => exact .inr ⟨.ref (base + k) 0, z, true, fun H => by simp only [eop, newAt, Bool.true_and]; rfl⟩
  case bx n x => exact .inr ⟨_, _, _, fun H => by simp only [eop, newAt]; rfl⟩
  case bs sz len z ps => exact .inr ⟨_, _, _, fun H => by simp only [eop, newAt]; rfl⟩
  case ms sz b z l c =>
    simp only [eop]
    split
    · exact .inr ⟨_, _, _, fun H => by simp only [newAt]; rfl⟩
    · exact .inl fun H => rfl
  case s2b x =>
    simp only [eop]
    split
    · exact .inr ⟨_, _, _, fun H => by simp only [newAt]; rfl⟩
    · exact .inl fun H => rfl

theorem x_A {K : Cfg} {base k : Nat} {o : AOper} {env : Nat → AV} (hc : o.o.cls = .A) (hk : o.at_ = some k) : ∃ (v : AV) (f : Heap → Heap) (q : Heap → Bool), (∀ H, xk K base o env H = true → xv K base o env H = v) ∧ (∀ H, xk K base o env H = q H) ∧ (∀ H, q H = true → xh K base o env H = f H) ∧
    ((∀ H, f H = H) ∨ ∃ cs, ∀ H, f H = H.set (base + k) (.live cs)) ∧ (∀ (H : Heap) (j : Nat) (e : HB), j ≠ base + k → q (H.set j e) = q H) := by
  have he : o.o.eff = true := by
    generalize o.o = p at hc
    cases p <;> first | rfl | cases hc
  obtain ⟨d, g, at_, lo, p⟩ := o
  simp only at hc hk he
  subst hk
  rcases eop_A (K := K) (base := base) (k := k) (lo := lo) (env := env) hc with h | ⟨v, cs, b, h⟩
  · refine ⟨xv K base ⟨d, g, some k, lo, p⟩ env [], fun H => H, fun H => xk K base ⟨d, g, some k, lo, p⟩ env [], ?_, ?_, ?_, .inl (fun _ => rfl), fun _ _ _ _ => rfl⟩
    all_goals
      intro H
      simp only [xv, xk, xh, he]
      cases g with
      | none => simp [h]
      | some tw =>
        obtain ⟨t, want⟩ := tw
        simp only
        cases (gcond (env t) want).1 <;> simp [h]
  · cases g with
    | none =>
      refine ⟨v, fun H => H.set (base + k) (.live cs), fun H => b && (match H[base + k]? with | some .res => true | _ => false), fun H _ => by simp only [xv, he, h], fun H => by simp only [xk, he, h], fun H _ => by simp only [xh, he, h], .inr ⟨cs, fun _ => rfl⟩, fun H j e hj => ?_⟩
      simp only
      rw [List.getElem?_set_ne hj]
    | some tw =>
      obtain ⟨t, want⟩ := tw
      cases hg : (gcond (env t) want).1 with
      | true =>
        refine ⟨v, fun H => H.set (base + k) (.live cs), fun H => (gcond (env t) want).2 && (b && (match H[base + k]? with | some .res => true | _ => false)), fun H _ => by simp only [xv, he, h, hg, cond_true], fun H => by simp only [xk, he, h, hg, cond_true], fun H _ => by simp only [xh, he, h, hg, cond_true], .inr ⟨cs, fun _ => rfl⟩, fun H j e hj => ?_⟩
        simp only
        rw [List.getElem?_set_ne hj]
      | false =>
        exact ⟨.ifg false .any, fun H => H, fun H => (gcond (env t) want).2, fun H _ => by simp only [xv, he, hg, cond_false], fun H => by simp only [xk, he, hg, cond_false], fun H _ => by simp only [xh, he, hg, cond_false], .inl fun _ => rfl, fun _ _ _ _ => rfl⟩

theorem upd_agree {env : Nat → AV} {d : Option Nat} {v : AV} {l : List Nat} (h : ∀ k, d = some k → l.contains k = false) : ∀ t ∈ l, env t = upd env d v t := by
  intro t ht
  cases d with
  | none => rfl
  | some k =>
    have hk := h k rfl
    have hne : t ≠ k := by
      intro e
      subst e
      simp at hk
      exact hk ht
    simp [upd, hne]

theorem upd_swap {env : Nat → AV} {d e : Option Nat} {v w : AV} (h : ∀ k, d = some k → e ≠ some k) : upd (upd env d v) e w = upd (upd env e w) d v := by
  cases d with
  | none => rfl
  | some k =>
    cases e with
    | none => rfl
    | some m =>
      have hne : k ≠ m := fun he => h k rfl (by rw [he])
      funext t
      simp only [upd]
      by_cases h1 : t = m
      · subst h1; simp [Ne.symm hne]
      · simp [h1]

theorem swap_ok {K : Cfg} {base : Nat} {x y : AOper} (hs : swapOk x y = true) (s : RS) (ok : (xop K base x s).2 = true ∧ (xop K base y (xop K base x s).1).2 = true) :
    ((xop K base y s).2 = true ∧ (xop K base x (xop K base y s).1).2 = true) ∧ (xop K base x (xop K base y s).1).1 = (xop K base y (xop K base x s).1).1 := by
  obtain ⟨env, H⟩ := s
  simp only [swapOk, Bool.and_eq_true] at hs
  obtain ⟨⟨h1, h2⟩, h3⟩ := hs
  have hx : ∀ k, x.d = some k → y.reads.contains k = false ∧ y.d ≠ some k := by
    intro k e
    simp only [e, Bool.and_eq_true, Bool.not_eq_true', bne_iff_ne] at h1
    exact h1
  have hy : ∀ k, y.d = some k → x.reads.contains k = false := by
    intro k e
    simpa [e] using h2
  simp only [xop_eq] at ok ⊢
  have ay : ∀ (v : AV) (H' : Heap), xv K base y (upd env x.d v) H' = xv K base y env H' ∧ xh K base y (upd env x.d v) H' = xh K base y env H' ∧ xk K base y (upd env x.d v) H' = xk K base y env H' := by
    intro v H'
    obtain ⟨e1, e2, e3⟩ := x_agree (K := K) (base := base) (upd_agree (v := v) (env := env) (fun k e => (hx k e).1)) H'
    exact ⟨e1.symm, e2.symm, e3.symm⟩
  have ax : ∀ (v : AV) (H' : Heap), xv K base x (upd env y.d v) H' = xv K base x env H' ∧ xh K base x (upd env y.d v) H' = xh K base x env H' ∧ xk K base x (upd env y.d v) H' = xk K base x env H' := by
    intro v H'
    obtain ⟨e1, e2, e3⟩ := x_agree (K := K) (base := base) (upd_agree (v := v) (env := env) hy) H'
    exact ⟨e1.symm, e2.symm, e3.symm⟩
  simp only [ax, ay] at ok ⊢
  have sw : ∀ v w, upd (upd env x.d v) y.d w = upd (upd env y.d w) x.d v := fun v w => upd_swap (fun k e => (hx k e).2)
  -- it is enough that the values, heaps and leaves agree
  have fin : xv K base y env (xh K base x env H) = xv K base y env H → xk K base y env (xh K base x env H) = xk K base y env H → (xk K base y env H = true → xv K base x env (xh K base y env H) = xv K base x env H ∧ xk K base x env (xh K base y env H) = xk K base x env H ∧
      xh K base x env (xh K base y env H) = xh K base y env (xh K base x env H)) →
      (xk K base y env H = true ∧ xk K base x env (xh K base y env H) = true) ∧ (⟨upd (upd env y.d (xv K base y env H)) x.d (xv K base x env (xh K base y env H)), xh K base x env (xh K base y env H)⟩ : RS) = ⟨upd (upd env x.d (xv K base x env H)) y.d (xv K base y env (xh K base x env H)), xh K base y env (xh K base x env H)⟩ := by
    intro e1 e2 e3
    have ky : xk K base y env H = true := by rw [← e2]; exact ok.2
    obtain ⟨e4, e5, e6⟩ := e3 ky
    refine ⟨⟨ky, by rw [e5]; exact ok.1⟩, ?_⟩
    rw [e4, e6, e1, sw]
  unfold clsSwap at h3
  -- the cases
  by_cases hq : x.o.eff = false ∧ y.o.eff = false
  · have e0 := x_quiet (K := K) (base := base) (env := env) (H := H) hq.1
    have e1 := x_quiet (K := K) (base := base) (env := env) (H := H) hq.2
    exact fin (by rw [e0]) (by rw [e0]) (fun _ => by rw [e1, e0, e1]; exact ⟨rfl, rfl, rfl⟩)
  rw [Bool.or_eq_true] at h3
  replace h3 := h3.resolve_left (by
    intro h
    simp only [Bool.and_eq_true, Bool.not_eq_true'] at h
    exact hq h)
  by_cases hyL : y.o.cls = .L ∨ (y.o.cls = .P ∧ y.lo = true)
  · obtain ⟨e1, e2, _⟩ := x_LP (K := K) (base := base) (env := env) (H := xh K base x env H) (H' := H) hyL
    have e3 := (x_LP (K := K) (base := base) (env := env) (H := H) (H' := H) hyL).2.2
    have e4 := (x_LP (K := K) (base := base) (env := env) (H := xh K base x env H) (H' := H) hyL).2.2
    exact fin e1 e2 (fun _ => by rw [e3, e4]; exact ⟨rfl, rfl, rfl⟩)
  by_cases hxL : x.o.cls = .L ∨ (x.o.cls = .P ∧ x.lo = true)
  · have e0 := (x_LP (K := K) (base := base) (env := env) (H := H) (H' := H) hxL).2.2
    obtain ⟨e1, e2, e3⟩ := x_LP (K := K) (base := base) (env := env) (H := xh K base y env H) (H' := H) hxL
    exact fin (by rw [e0]) (by rw [e0]) (fun _ => ⟨e1, e2, by rw [e3, e0]⟩)
  by_cases hxR : x.o.cls = .R
  · have e0 := x_Rh (K := K) (base := base) (env := env) (H := H) hxR
    by_cases hyR : y.o.cls = .R
    · have e1 := x_Rh (K := K) (base := base) (env := env) (H := H) hyR
      exact fin (by rw [e0]) (by rw [e0]) (fun _ => by rw [e1, e0, e1]; exact ⟨rfl, rfl, rfl⟩)
    · have hyP : y.o.cls ≠ .P := fun e => by
        have := LP_eff (p := y.o) (.inr (.inl e))
        have := LP_eff (p := x.o) (.inr (.inr hxR))
        simp_all
      have hi : x.lo = true ∧ ((y.o.cls = .A ∧ y.at_.isSome = true) ∨ (y.o.cls = .S ∧ y.lo = true) ∨ (y.o.cls = .G ∧ y.lo = true ∧ y.at_.isSome = true)) := by
        rw [hxR] at h3
        cases hq : y.o.cls <;> simp_all
      refine fin (by rw [e0]) (by rw [e0]) (fun ky => ?_)
      have et := x_hi hi.2 ky
      obtain ⟨e1, e2⟩ := x_R (K := K) (base := base) (env := env) hxR hi.1 et
      have e3 := x_Rh (K := K) (base := base) (env := env) (H := xh K base y env H) hxR
      exact ⟨e1, e2, by rw [e3, e0]⟩
  by_cases hyR : y.o.cls = .R
  · have hxP : x.o.cls ≠ .P := fun e => by
      have := LP_eff (p := x.o) (.inr (.inl e))
      have := LP_eff (p := y.o) (.inr (.inr hyR))
      simp_all
    have hi : y.lo = true ∧ ((x.o.cls = .A ∧ x.at_.isSome = true) ∨ (x.o.cls = .S ∧ x.lo = true) ∨ (x.o.cls = .G ∧ x.lo = true ∧ x.at_.isSome = true)) := by
      rw [hyR] at h3
      cases hq : x.o.cls <;> simp_all
    have et := x_hi hi.2 ok.1
    obtain ⟨e1, e2⟩ := x_R (K := K) (base := base) (env := env) hyR hi.1 et
    have e3 := x_Rh (K := K) (base := base) (env := env) (H := H) hyR
    have e4 := x_Rh (K := K) (base := base) (env := env) (H := xh K base x env H) hyR
    exact fin e1 e2 (fun _ => by rw [e3, e4]; exact ⟨rfl, rfl, rfl⟩)
  have hA : x.o.cls = .A ∧ y.o.cls = .A := by cases hq : x.o.cls <;> cases hq' : y.o.cls <;> simp_all
  rw [hA.1, hA.2] at h3
  simp only at h3
  split at h3
  · rename_i a b ha hb
    have hab : a ≠ b := by simpa using h3
    obtain ⟨vx, fx, qx, x1, x2, x3, x4, x5⟩ := x_A (K := K) (base := base) (env := env) hA.1 ha
    obtain ⟨vy, fy, qy, y1, y2, y3, y4, y5⟩ := x_A (K := K) (base := base) (env := env) hA.2 hb
    obtain ⟨o1, o2⟩ := ok
    have qx1 : qx H = true := by rw [← x2]; exact o1
    have hfx := x3 H qx1
    have yq : ∀ H', qy (fx H') = qy H' := by
      intro H'
      rcases x4 with e | ⟨cs, e⟩
      · rw [e]
      · rw [e]; exact y5 _ _ _ (by omega)
    have xq : ∀ H', qx (fy H') = qx H' := by
      intro H'
      rcases y4 with e | ⟨cs, e⟩
      · rw [e]
      · rw [e]; exact x5 _ _ _ (by omega)
    have qy1 : qy H = true := by rw [hfx, y2, yq] at o2; exact o2
    have hfy := y3 H qy1
    have comm : fx (fy H) = fy (fx H) := by
      rcases x4 with e | ⟨cs, e⟩ <;> rcases y4 with e' | ⟨cs', e'⟩ <;> simp only [e, e']
      exact List.set_comm _ _ (by omega)
    refine fin ?_ ?_ (fun _ => ?_)
    · rw [hfx, y1 _ (by rw [y2, yq]; exact qy1), y1 _ (by rw [y2]; exact qy1)]
    · rw [hfx, y2, y2, yq]
    · refine ⟨?_, ?_, ?_⟩
      · rw [hfy, x1 _ (by rw [x2, xq]; exact qx1), x1 _ o1]
      · rw [hfy, x2, x2, xq]
      · rw [hfy, hfx, x3 _ (by rw [xq]; exact qx1), y3 _ (by rw [yq]; exact qy1), comm]
  · cases h3

end Go.Proofs.Yteelkalenpbmmaa.Ab

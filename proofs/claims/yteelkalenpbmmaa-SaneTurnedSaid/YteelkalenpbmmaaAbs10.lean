/- One operation with its guard; a region in the text's order. -/
import Derived.Test.YteelkalenpbmmaaAbs9
set_option linter.unusedVariables false
set_option linter.unusedSimpArgs false
namespace Go.Proofs.Yteelkalenpbmmaa.Ab
open Go.RowKit

/-- What holds behind an operation: the state, held against the model's. -/
def Post (O F0 : Nat → Prop) (w0 : World) (F : Nat → Prop) (ι : Nat → Option Nat) (w : World) (N : Nat) (s' : RS) (a' : Act) (w' : World) : Prop :=
  ∃ (F' : Nat → Prop) (ι' : Nat → Option Nat), Grow F ι w F' ι' w' ∧ Run O F0 w0 F' ι' s'.heap w' ∧ RR F' ι' w' N s'.env a'

theorem Post.trans {O F0 w0 F ι w N s1 a1 w1 s2 a2 w2} (h : Post O F0 w0 F ι w N s1 a1 w1) (k : ∀ F' ι', Grow F ι w F' ι' w1 → Run O F0 w0 F' ι' s1.heap w1 → RR F' ι' w1 N s1.env a1 → Post O F0 w0 F' ι' w1 N s2 a2 w2) : Post O F0 w0 F ι w N s2 a2 w2 := by
  obtain ⟨F', ι', g, r, e⟩ := h
  obtain ⟨F2, ι2, g2, r2, e2⟩ := k F' ι' g r e
  exact ⟨F2, ι2, g.trans g2, r2, e2⟩

theorem wanted_gcond {F ι w N env a} (h : RR F ι w N env a) (ops : Array Oper) (o : Oper) (j t : Nat) (want : Bool) (hg : o.guard = some (j, want)) (hj : (ops[j]?).bind (·.dst) = some t) (ok : (gcond (env t) want).2 = true) :
    Region.wanted o (yielded ops a.tmps) = (gcond (env t) want).1 := by
  have hv := h.v t
  have hy : ∀ x, a.tmps.getD t undef = x → yielded ops a.tmps j = (match x with | .bool b => some b | _ => none) := by
    intro x hx
    rw [Array.getD_eq_getD_getElem?] at hx
    cases hq : a.tmps[t]? with
    | none =>
      rw [hq] at hx
      simp only [Option.getD_none] at hx
      subst hx
      simp [yielded, hj, hq, undef]
    | some y =>
      rw [hq] at hx
      simp only [Option.getD_some] at hx
      subst hx
      simp only [yielded, hj, Option.bind_some, hq]
      cases y <;> rfl
  simp only [Region.wanted, hg]
  generalize hx : a.tmps.getD t undef = x at hv
  rw [hy x hx]
  cases he : env t <;> simp only [he, gcond] at ok hv ⊢ <;> try (cases ok; done)
  · cases hv
    rename_i b
    cases b <;> cases want <;> rfl
  · rename_i g v
    cases v <;> simp only at ok hv ⊢ <;> try (cases ok; done)
    rename_i b
    obtain ⟨h1, h2⟩ := hv.ifg_inv
    cases g with
    | true =>
      have := h1 rfl
      cases this
      cases b <;> cases want <;> rfl
    | false =>
      have := h2 rfl
      subst this
      simp [undef]

theorem xop_sound {O F0 w0 F ι w N a} {s : RS} {P : Program} {K : Cfg} (hK : KOk P K) (hR : Run O F0 w0 F ι s.heap w) (h : RR F ι w N s.env a) (ops : Array Oper) (o : Oper) (ao : AOper) {at_ : Option Nat} {lo : Bool} {hn : AOp} (hc : compOper P N ops o at_ lo hn = some ao) (base : Nat)
    (ok : (xop K base ao s).2 = true) (Kont : Act → World → Prop) (Q : Exit → Act → World → Prop) (hk : ∀ a' w', Post O F0 w0 F ι w N (xop K base ao s).1 a' w' → Kont a' w') :
    if Region.wanted o (yielded ops a.tmps) then o.wp P a w Kont Q ∨ (o.asks P a w ∧ LetsOut Q) else Kont (a.put o.dst undef) w := by
  simp only [compOper] at hc
  obtain ⟨p, h1, hc⟩ := bind_some hc
  obtain ⟨g, h2, hc⟩ := bind_some hc
  split at hc
  case isFalse => cases hc
  rename_i hd
  injection hc with hc
  have hd' : ∀ k, o.dst = some k → k < N := by
    intro k e
    rw [e] at hd
    simpa [dstOk] using hd
  subst hc
  -- values
  have vals : ∀ (gb : Bool), gb = true → p.eff = false → (vop K base lo gb s.env s.heap p).2 = true → ∀ (v : AV), (∀ {F' ι' w'} (x : Value), VR F' ι' w' (vop K base lo gb s.env s.heap p).1 x → VR F' ι' w' v x) → (∀ a' w', Post O F0 w0 F ι w N ⟨upd s.env o.dst v, s.heap⟩ a' w' → Kont a' w') → o.wp P a w Kont Q := by
    intro gb hgb he hok v hvv hk'
    rcases vop_sound hK.cp hR h o p h1 he base lo gb hgb hok with ⟨x, hr, hv⟩ | ⟨f, args, vs, hr, hargs, hp⟩ | ⟨f, args, vs, hr, hargs, hp, hsc⟩ | ⟨f, args, vs, hr, hargs, hp⟩
    · exact wp_value hr (hk' _ _ ⟨F, ι, Grow.refl _ _ _, hR, h.upd hd' (hvv x hv)⟩)
    rotate_left
    rotate_left
    · refine wp_enter hr (hK.i f F ι s.heap w args vs _ hR.h (by simp only [hp]; rfl) hargs) (fun e w' he => ?_)
      obtain ⟨F', ι', x, rfl, g', r', hv⟩ := he
      exact ⟨x, rfl, hk' _ _ ⟨F', ι', g', hR.comp r', (h.grow g').upd hd' (hvv x hv)⟩⟩
    rotate_left
    · have hlt : ∀ b, (F b ∨ Own s.heap ι b) → b < w.heap.size := fun b hb => by
        rcases hb with hb | ⟨id, cs, hl, hi⟩
        · exact hR.h.frz b hb
        · exact (hR.h.dom id b hi).1
      refine wp_enter hr (hK.p f (fun b => F b ∨ Own s.heap ι b) w args vs _ hlt hp hargs) (fun e w' he => ?_)
      obtain ⟨F', x, rfl, e1, e2, e3, e4, e5⟩ := he
      have hF' : ∀ b, F b → b < w'.heap.size := fun b hb => Nat.lt_of_lt_of_le (hR.h.frz b hb) e5.size
      have hg := (hR.h.below e5 (fun b h => h) (fun b h => .inl h) hF').2
      exact ⟨x, rfl, hk' _ _ ⟨F, ι, hg, hR.below e5 (fun b h => h) (fun b h => .inl h) hF', (h.grow hg).upd hd' (hvv x (scalar_VR e4 hsc))⟩⟩
    · refine wp_enter hr (hK.p f F w args vs _ hR.h.frz hp hargs) (fun e w' he => ?_)
      obtain ⟨F', x, rfl, e1, e2, e3, e4, e5⟩ := he
      have hg := (hR.h.below e5 e1 e2 e3).2
      refine ⟨x, rfl, hk' _ _ ⟨F', ι, hg, hR.below e5 e1 e2 e3, (h.grow hg).upd hd' (hvv x ?_)⟩⟩
      have g0 : Grow F' (fun _ => none) w' F' ι w' := ⟨fun _ h => h, (fun _ _ h => by cases h), Nat.le_refl _, fun _ _ => rfl, fun _ _ => rfl⟩
      exact e4.grow g0
  -- effects
  have effs : p.eff = true → (eop K base at_ lo s.env s.heap p).2 = true → (∀ a' w', Post O F0 w0 F ι w N ⟨upd s.env o.dst (eop K base at_ lo s.env s.heap p).1.1, (eop K base at_ lo s.env s.heap p).1.2⟩ a' w' → Kont a' w') → o.wp P a w Kont Q := by
    intro he hok hk'
    refine eop_sound hK hR h o p h1 he base at_ lo hok Kont Q (fun x w' hA => ?_)
    obtain ⟨F', ι', g', r', hv⟩ := hA
    exact hk' _ _ ⟨F', ι', g', r', (h.grow g').upd hd' hv⟩
  cases hgd : o.guard with
  | none =>
    rw [hgd] at h2
    simp only [compGuard] at h2
    injection h2 with h2
    subst h2
    simp only [Region.wanted, hgd, if_true]
    refine .inl ?_
    cases he : p.eff with
    | false =>
      simp only [xop, he] at ok hk
      exact vals true rfl he ok _ (fun x hv => hv) hk
    | true =>
      simp only [xop, he] at ok hk
      exact effs he ok hk
  | some jw =>
    obtain ⟨j, want⟩ := jw
    rw [hgd] at h2
    simp only [compGuard] at h2
    obtain ⟨t, h3, h2⟩ := bind_some h2
    split at h2
    case isFalse => cases h2
    injection h2 with h2
    subst h2
    cases he : p.eff with
    | false =>
      simp only [xop, he, Bool.and_eq_true] at ok hk
      have hw := wanted_gcond h ops o j t want hgd h3 ok.1
      rw [hw]
      cases hgv : (gcond (s.env t) want).1 with
      | true =>
        rw [hgv] at ok hk
        rw [if_pos rfl]
        exact .inl (vals true rfl he (by simpa [gle] using ok.2) _ (fun x hv => .ifg true _ x (fun _ => hv) (fun e => by cases e)) hk)
      | false =>
        rw [hgv] at hk
        rw [if_neg (by simp)]
        exact hk _ _ ⟨F, ι, Grow.refl _ _ _, hR, h.upd hd' (.ifg false _ _ (fun e => by cases e) (fun _ => rfl))⟩
    | true =>
      simp only [xop, he] at ok hk
      cases hgv : (gcond (s.env t) want).1 with
      | true =>
        rw [hgv] at ok hk
        simp only [cond_true, Bool.and_eq_true] at ok hk
        have hw := wanted_gcond h ops o j t want hgd h3 ok.1
        rw [hw, hgv, if_pos rfl]
        exact .inl (effs he ok.2 hk)
      | false =>
        rw [hgv] at ok hk
        simp only [cond_false] at ok hk
        have hw := wanted_gcond h ops o j t want hgd h3 ok
        rw [hw, hgv, if_neg (by simp)]
        exact hk _ _ ⟨F, ι, Grow.refl _ _ _, hR, h.upd hd' (.ifg false _ _ (fun e => by cases e) (fun _ => rfl))⟩

/-- A region in the text's order. -/
theorem xops_list {O F0 w0} {N : Nat} {P : Program} {K : Cfg} (hK : KOk P K) (ops : Array Oper) (base : Nat) (Q : Exit → Act → World → Prop) : ∀ (os : List Oper) (hs aos : List AOper) (s : RS) (F : Nat → Prop) (ι : Nat → Option Nat) (a : Act) (w : World),
    compOpers P N ops os hs = some aos → Run O F0 w0 F ι s.heap w → RR F ι w N s.env a → (xops K base aos s).2 = true → (∀ a' w', Post O F0 w0 F ι w N (xops K base aos s).1 a' w' → Q .normal a' w') → wpList P ops Q os a w
  | [], hs, aos, s, F, ι, a, w, hc, hR, h, ok, hk => by
    cases hs with
    | nil =>
      simp only [compOpers] at hc
      injection hc with hc; subst hc
      exact hk a w ⟨F, ι, Grow.refl _ _ _, hR, h⟩
    | cons h' hs => simp [compOpers] at hc
  | o :: os, hs, aos, s, F, ι, a, w, hc, hR, h, ok, hk => by
    cases hs with
    | nil => simp [compOpers] at hc
    | cons h' hs =>
      simp only [compOpers] at hc
      obtain ⟨ao, h1, hc⟩ := bind_some hc
      obtain ⟨ar, h2, rfl⟩ := map_some' hc
      simp only [xops, Bool.and_eq_true] at ok hk
      have := xop_sound hK hR h ops o ao h1 base ok.1 (wpList P ops Q os) Q (fun a' w' hp => ?_)
      · unfold wpList
        exact this
      · obtain ⟨F', ι', g', r', e'⟩ := hp
        refine xops_list hK ops base Q os hs ar _ F' ι' a' w' h2 r' e' ok.2 (fun a2 w2 hp2 => hk a2 w2 ?_)
        obtain ⟨F2, ι2, g2, r2, e2⟩ := hp2
        exact ⟨F2, ι2, g'.trans g2, r2, e2⟩

end Go.Proofs.Yteelkalenpbmmaa.Ab

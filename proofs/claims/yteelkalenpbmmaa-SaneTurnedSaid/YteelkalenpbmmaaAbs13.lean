/- Code: what holds behind it, in terms of the abstract machine alone; contracts out of it. -/
import Derived.Test.YteelkalenpbmmaaAbs12
set_option linter.unusedVariables false
set_option linter.unusedSimpArgs false
namespace Go.Proofs.Yteelkalenpbmmaa.Ab
open Go.RowKit

def exOf : Exit → Option Ex
  | .normal => some .normal
  | .exit id => some (.exit id)
  | .ret => some .ret
  | _ => none

/-- What code comes to. -/
def AWP (P : Program) (K : Cfg) (V : List Nat) (N : Nat) (ac : AC) (Q : Ex → St → Prop) (s : St) : Prop :=
  ∀ (code : Code), compC P N code ac = some ac → ∀ (O F0 : Nat → Prop) (w0 : World) (F : Nat → Prop) (ι : Nat → Option Nat) (a : Act) (w : World), Run O F0 w0 F ι s.heap w → RR F ι w N (look V s.vals) a →
    code.wp P (fun e a' w' => ∃ e' s', exOf e = some e' ∧ Q e' s' ∧ Post O F0 w0 F ι w N ⟨look V s'.vals, s'.heap⟩ a' w') a w

section
variable {P : Program} {K : Cfg} {V : List Nat} {N : Nat} {Q : Ex → St → Prop} {s : St}

theorem Post.refl' {O F0 w0 F ι w N} {s : RS} {a : Act} (hR : Run O F0 w0 F ι s.heap w) (h : RR F ι w N s.env a) : Post O F0 w0 F ι w N s a w := ⟨F, ι, Grow.refl _ _ _, hR, h⟩

theorem awp_mono {ac : AC} {Q' : Ex → St → Prop} (h : AWP P K V N ac Q s) (hq : ∀ e s, Q e s → Q' e s) : AWP P K V N ac Q' s :=
  fun code hc O F0 w0 F ι a w hR hr => Code.wp_mono (fun e a' w' ⟨e', s', h1, h2, h3⟩ => ⟨e', s', h1, hq _ _ h2, h3⟩) (h code hc O F0 w0 F ι a w hR hr)

theorem awp_skip (h : Q .normal s) : AWP P K V N .skip Q s := by
  intro code hc O F0 w0 F ι a w hR hr
  cases code <;> simp [compC] at hc
  exact wp_skip ⟨.normal, s, rfl, h, .refl' hR hr⟩

theorem awp_exit {id : Nat} (h : Q (.exit id) s) : AWP P K V N (.exit id) Q s := by
  intro code hc O F0 w0 F ι a w hR hr
  cases code <;> simp [compC] at hc
  subst hc
  exact wp_exit ⟨.exit _, s, rfl, h, .refl' hR hr⟩

theorem awp_ret (h : Q .ret s) : AWP P K V N .ret Q s := by
  intro code hc O F0 w0 F ι a w hR hr
  cases code <;> simp [compC] at hc
  exact wp_ret ⟨.ret, s, rfl, h, .refl' hR hr⟩

def Ex.then (Q' : St → Prop) (Q : Ex → St → Prop) : Ex → St → Prop
  | .normal, s => Q' s
  | e, s => Q e s
@[simp] theorem Ex.then_normal {Q' Q s} : Ex.then Q' Q .normal s = Q' s := rfl
@[simp] theorem Ex.then_exit {Q' Q s id} : Ex.then Q' Q (.exit id) s = Q (.exit id) s := rfl
@[simp] theorem Ex.then_ret {Q' Q s} : Ex.then Q' Q .ret s = Q .ret s := rfl

theorem awp_seq {x y : AC} (h : AWP P K V N x (Ex.then (AWP P K V N y Q) Q) s) : AWP P K V N (.seq x y) Q s := by
  intro code hc O F0 w0 F ι a w hR hr
  cases code <;> try (simp [compC] at hc; done)
  rename_i a1 b1
  simp only [compC] at hc
  obtain ⟨x', h1, hc⟩ := bind_some hc
  obtain ⟨y', h2, hc⟩ := map_some' hc
  injection hc with e1 e2
  subst e1; subst e2
  refine wp_seq (Code.wp_mono ?_ (h a1 h1 O F0 w0 F ι a w hR hr))
  rintro e a' w' ⟨e', s', h3, h4, F', ι', g', r', h'⟩
  cases e with
  | normal =>
    injection h3 with h3
    subst h3
    refine Code.wp_mono ?_ (h4 b1 h2 O F0 w0 F' ι' a' w' r' h')
    rintro e2 a2 w2 ⟨e3, s3, k1, k2, k3⟩
    obtain ⟨F2, ι2, g2, r2, h2'⟩ := k3
    exact ⟨e3, s3, k1, k2, F2, ι2, g'.trans g2, r2, h2'⟩
  | exit id => injection h3 with h3; subst h3; exact ⟨_, s', rfl, h4, F', ι', g', r', h'⟩
  | ret => injection h3 with h3; subst h3; exact ⟨_, s', rfl, h4, F', ι', g', r', h'⟩
  | goto l => cases h3
  | panic c => cases h3
  | outgrown => cases h3

theorem awp_cond {c : Opd} {x y : AC} {b : Bool} (hb : rd (look V s.vals) c = .bool b) (h : AWP P K V N (if b then x else y) Q s) : AWP P K V N (.cond c x y) Q s := by
  intro code hc O F0 w0 F ι a w hR hr
  cases code <;> try (simp [compC] at hc; done)
  rename_i c1 a1 b1
  simp only [compC] at hc
  obtain ⟨c', h1, hc⟩ := bind_some hc
  obtain ⟨x', h2, hc⟩ := bind_some hc
  obtain ⟨y', h3, hc⟩ := map_some' hc
  injection hc with e1 e2 e3
  subst e1; subst e2; subst e3
  have hv := rd_VR hr h1
  rw [hb] at hv
  have he : a.eval c1 = .bool b := by
    generalize a.eval c1 = q at hv
    cases hv; rfl
  refine wp_cond he ?_
  cases b with
  | true => exact h a1 h2 O F0 w0 F ι a w hR hr
  | false => exact h b1 h3 O F0 w0 F ι a w hR hr

/-- A test of which nothing is known. -/
theorem awp_cond_u {c : Opd} {x y : AC} (hb : rd (look V s.vals) c = .ubool) (h1 : AWP P K V N x Q s) (h2 : AWP P K V N y Q s) : AWP P K V N (.cond c x y) Q s := by
  intro code hc O F0 w0 F ι a w hR hr
  cases code <;> try (simp [compC] at hc; done)
  rename_i c1 a1 b1
  simp only [compC] at hc
  obtain ⟨c', k1, hc⟩ := bind_some hc
  obtain ⟨x', k2, hc⟩ := bind_some hc
  obtain ⟨y', k3, hc⟩ := map_some' hc
  injection hc with e1 e2 e3
  subst e1; subst e2; subst e3
  have hv := rd_VR hr k1
  rw [hb] at hv
  obtain ⟨b, he⟩ : ∃ b, a.eval c1 = .bool b := by
    generalize a.eval c1 = q at hv
    cases hv; exact ⟨_, rfl⟩
  refine wp_cond he ?_
  cases b with
  | true => exact h1 a1 k2 O F0 w0 F ι a w hR hr
  | false => exact h2 b1 k3 O F0 w0 F ι a w hR hr

def Ex.blk (id : Nat) (Q : Ex → St → Prop) : Ex → St → Prop
  | .exit id', s => if id' = id then Q .normal s else Q (.exit id') s
  | e, s => Q e s
@[simp] theorem Ex.blk_normal {id Q s} : Ex.blk id Q .normal s = Q .normal s := rfl
@[simp] theorem Ex.blk_exit {id Q s i} : Ex.blk id Q (.exit i) s = if i = id then Q .normal s else Q (.exit i) s := rfl
@[simp] theorem Ex.blk_ret {id Q s} : Ex.blk id Q .ret s = Q .ret s := rfl

theorem awp_block {id : Nat} {x : AC} (h : AWP P K V N x (Ex.blk id Q) s) : AWP P K V N (.block id x) Q s := by
  intro code hc O F0 w0 F ι a w hR hr
  cases code <;> try (simp [compC] at hc; done)
  rename_i id1 a1
  simp only [compC] at hc
  obtain ⟨x', h1, hc⟩ := map_some' hc
  injection hc with e1 e2
  subst e1; subst e2
  refine wp_block (Code.wp_mono ?_ (h a1 h1 O F0 w0 F ι a w hR hr))
  rintro e a' w' ⟨e', s', h3, h4, h5⟩
  cases e with
  | normal => injection h3 with h3; subst h3; exact ⟨_, s', rfl, h4, h5⟩
  | exit id => 
    injection h3 with h3; subst h3
    simp only [Exit.inBlock, Ex.blk_exit] at h4 ⊢
    split
    · rename_i e; rw [if_pos e] at h4; exact ⟨.normal, s', rfl, h4, h5⟩
    · rename_i e; rw [if_neg e] at h4; exact ⟨_, s', rfl, h4, h5⟩
  | ret => injection h3 with h3; subst h3; exact ⟨_, s', rfl, h4, h5⟩
  | goto l => cases h3
  | panic c => cases h3
  | outgrown => cases h3

/-- A state that says less. -/
def Ent (V : List Nat) (s s' : St) : Prop :=
  ∀ (O F0 : Nat → Prop) (w0 : World) (F : Nat → Prop) (ι : Nat → Option Nat) (N : Nat) (a : Act) (w : World), Run O F0 w0 F ι s.heap w → RR F ι w N (look V s.vals) a → Post O F0 w0 F ι w N ⟨look V s'.vals, s'.heap⟩ a w

theorem awp_ent {ac : AC} {s' : St} (he : Ent V s s') (h : AWP P K V N ac Q s') : AWP P K V N ac Q s := by
  intro code hc O F0 w0 F ι a w hR hr
  obtain ⟨F', ι', g', r', h'⟩ := he O F0 w0 F ι N a w hR hr
  refine Code.wp_mono ?_ (h code hc O F0 w0 F' ι' a w r' h')
  rintro e a' w' ⟨e', s', h3, h4, F2, ι2, g2, r2, h2⟩
  exact ⟨e', s', h3, h4, F2, ι2, g'.trans g2, r2, h2⟩

/-- Slots forgotten. -/
theorem ent_forget {vals vals' : List AV} {H : Heap} (h : ∀ t, look V vals' t = .any ∨ look V vals' t = look V vals t) : Ent V ⟨vals, H⟩ ⟨vals', H⟩ :=
  fun O F0 w0 F ι N a w hR hr => ⟨F, ι, Grow.refl _ _ _, hR, fun t => by
    simp only
    rcases h t with e | e
    · rw [e]; exact .any _
    · rw [e]; exact hr.v t, hr.size, hr.defers⟩

theorem exists_min (T : Nat → Prop) (h : ∃ n, T n) : ∃ n, T n ∧ ∀ m, T m → n ≤ m := by
  obtain ⟨n, hn⟩ := h
  induction n using Nat.strongRecOn with
  | _ n ih =>
    by_cases hm : ∃ m, m < n ∧ T m
    · obtain ⟨m, h1, h2⟩ := hm
      exact ih m h1 h2
    · exact ⟨n, hn, fun m h2 => by
        rcases Nat.lt_or_ge m n with h1 | h1
        · exact absurd ⟨m, h1, h2⟩ hm
        · exact h1⟩
open Classical in
noncomputable def leastN (T : Nat → Prop) : Nat := if h : ∃ n, T n then Classical.choose (exists_min T h) else 0
theorem leastN_spec {T : Nat → Prop} (h : ∃ n, T n) : T (leastN T) ∧ ∀ m, T m → leastN T ≤ m := by
  unfold leastN
  rw [dif_pos h]
  exact Classical.choose_spec (exists_min T h)

/-- A loop: an invariant over a measure. -/
theorem awp_loop {x : AC} (I : Nat → St → Prop) (h0 : ∃ n s', Ent V s s' ∧ I n s')
    (round : ∀ n s, I n s → AWP P K V N x (Ex.then (fun s' => ∃ m s'', m < n ∧ Ent V s' s'' ∧ I m s'') Q) s) : AWP P K V N (.loop x) Q s := by
  intro code hc O F0 w0 F ι a w hR hr
  cases code <;> try (simp [compC] at hc; done)
  rename_i a1
  simp only [compC] at hc
  obtain ⟨x', h1, hc⟩ := map_some' hc
  injection hc with e1
  subst e1
  let T : Act → World → Nat → Prop := fun a1 w1 n => ∃ s F1 ι1, I n s ∧ Grow F ι w F1 ι1 w1 ∧ Run O F0 w0 F1 ι1 s.heap w1 ∧ RR F1 ι1 w1 N (look V s.vals) a1
  have hT0 : ∃ n, T a w n := by
    obtain ⟨n, s', he, hI⟩ := h0
    obtain ⟨F1, ι1, g1, r1, h1'⟩ := he O F0 w0 F ι N a w hR hr
    exact ⟨n, s', F1, ι1, hI, g1, r1, h1'⟩
  refine wp_loop (fun a1 w1 => ∃ n, T a1 w1 n) (fun a1 w1 => leastN (T a1 w1)) hT0 (fun a2 w2 hT => ?_)
  obtain ⟨⟨s2, F1, ι1, hI, g1, r1, h1'⟩, _⟩ := leastN_spec hT
  refine Code.wp_mono ?_ (round _ s2 hI a1 h1 O F0 w0 F1 ι1 a2 w2 r1 h1')
  rintro e a' w' ⟨e', s', h3, h4, F2, ι2, g2, r2, h2⟩
  cases e with
  | normal =>
    injection h3 with h3
    subst h3
    obtain ⟨m, s'', hm, he, hI'⟩ := h4
    obtain ⟨F3, ι3, g3, r3, h3'⟩ := he O F0 w0 F2 ι2 N a' w' r2 h2
    have hTm : T a' w' m := ⟨s'', F3, ι3, hI', (g1.trans g2).trans g3, r3, h3'⟩
    exact ⟨⟨m, hTm⟩, Nat.lt_of_le_of_lt ((leastN_spec ⟨m, hTm⟩).2 m hTm) hm⟩
  | exit id => injection h3 with h3; subst h3; exact ⟨_, s', rfl, h4, F2, ι2, g1.trans g2, r2, h2⟩
  | ret => injection h3 with h3; subst h3; exact ⟨_, s', rfl, h4, F2, ι2, g1.trans g2, r2, h2⟩
  | goto l => cases h3
  | panic c => cases h3
  | outgrown => cases h3

/-! ### Regions -/

theorem look_map (V : List Nat) (env : Nat → AV) (t : Nat) : look V (V.map env) t = .any ∨ look V (V.map env) t = env t := by
  induction V with
  | nil => exact .inl rfl
  | cons v V ih =>
    simp only [List.map_cons, look]
    by_cases e : t = v
    · subst e; rw [if_pos rfl]; exact .inr rfl
    · rw [if_neg e]; exact ih

theorem Run.reserve {O F0 w0 F ι H w} (h : Run O F0 w0 F ι H w) (n : Nat) : Run O F0 w0 F ι (H ++ List.replicate n .res) w := by
  have hg : ∀ (id : Nat) (cs : List AV), (H ++ List.replicate n HB.res)[id]? = some (.live cs) → H[id]? = some (.live cs) := by
    intro id cs hl
    rcases Nat.lt_or_ge id H.length with h1 | h1
    · rwa [List.getElem?_append_left h1] at hl
    · rw [List.getElem?_append_right h1, List.getElem?_replicate] at hl
      split at hl
      · injection hl with hl; cases hl
      · cases hl
  refine ⟨⟨fun id cs hl => h.h.live id cs (hg id cs hl), fun i j c1 c2 b h1 h2 => h.h.inj i j c1 c2 b (hg i c1 h1) (hg j c2 h2), h.h.frz, fun id b hi => ?_⟩, h.size, h.os, h.tape, h.output, h.keep, h.shape, fun id cs b hl => h.own id cs b (hg id cs hl), h.frz⟩
  obtain ⟨h1, e, h2, h3⟩ := h.h.dom id b hi
  exact ⟨h1, e, by rw [List.getElem?_append_left (List.getElem?_eq_some_iff.1 h2).1]; exact h2, h3⟩

theorem drawOk_spec {ops : List Oper} {l : List AOper} (h : drawOk ops l = true) : (∀ (i : Nat) (o : Oper), ops[i]? = some o → ∀ e ∈ o.after.toList, Region.binds .any e = true → e.on < i) ∧
    ∀ (i j : Nat) (x y : AOper), i < j → l[i]? = some x → l[j]? = some y → ((bef [] ops).getD j 0).testBit i = true ∨ swapOk x y = true := by
  unfold drawOk at h
  simp only [Bool.and_eq_true, List.all_eq_true] at h
  obtain ⟨h1, h2⟩ := h
  refine ⟨fun i o ho e he hb => ?_, fun i j x y hij hx hy => ?_⟩
  · have := h1 (o, i) (List.mem_zipIdx_iff_getElem?.2 ho) e he
    simp only [hb, Bool.not_true, Bool.false_or, decide_eq_true_eq] at this
    exact this
  · have := h2 (y, j) (List.mem_zipIdx_iff_getElem?.2 hy) (x, i) (List.mem_zipIdx_iff_getElem?.2 (by
      simp only
      rw [List.getElem?_take, if_pos hij]; exact hx))
    rw [Bool.or_eq_true] at this
    exact this

theorem awp_reg (hK : KOk P K) {res : Nat} {ops : List AOper} (ok : (xreg K V res ops s).2 = true) (h : Q .normal (xreg K V res ops s).1) : AWP P K V N (.reg res ops) Q s := by
  intro code hc O F0 w0 F ι a w hR hr
  cases code <;> try (simp [compC] at hc; done)
  rename_i id cops draw
  simp only [compC] at hc
  obtain ⟨l, h1, hc⟩ := bind_some hc
  have hR' := hR.reserve res
  have fin : ∀ (a' : Act) (w' : World), Post O F0 w0 F ι w N (xops K s.heap.length ops ⟨look V s.vals, s.heap ++ List.replicate res .res⟩).1 a' w' → ∃ e' s', exOf .normal = some e' ∧ Q e' s' ∧ Post O F0 w0 F ι w N ⟨look V s'.vals, s'.heap⟩ a' w' := by
    intro a' w' hp
    refine ⟨.normal, _, rfl, h, ?_⟩
    obtain ⟨F', ι', g', r', h'⟩ := hp
    refine ⟨F', ι', g', r', fun t => ?_, h'.size, h'.defers⟩
    simp only [xreg]
    rcases look_map V (xops K s.heap.length ops ⟨look V s.vals, s.heap ++ List.replicate res .res⟩).1.env t with e | e
    · rw [e]; exact .any _
    · rw [e]; exact h'.v t
  cases draw with
  | false =>
    simp only [Bool.false_eq_true, if_false, Option.some.injEq, AC.reg.injEq, true_and] at hc
    rw [hc] at h1
    exact wp_region_list (xops_list hK cops s.heap.length _ cops.toList _ _ ⟨look V s.vals, s.heap ++ List.replicate res HB.res⟩ F ι a w h1 hR' hr (show (xops K s.heap.length ops ⟨look V s.vals, s.heap ++ List.replicate res HB.res⟩).2 = true from ok) fin)
  | true =>
    simp only [if_true] at hc
    split at hc
    case isFalse => cases hc
    rename_i hd
    simp only [Option.some.injEq, AC.reg.injEq, true_and] at hc
    rw [hc] at h1 hd
    obtain ⟨hlen, hget⟩ := compOpers_get cops.toList _ _ h1
    obtain ⟨hback, hswap⟩ := drawOk_spec hd
    have hrem : rem cops.size (Array.replicate cops.size false) = List.range cops.size := by
      unfold rem
      rw [List.filter_eq_self]
      intro i hi
      rw [List.mem_range] at hi
      rw [Array.getD_eq_getD_getElem?, Array.getElem?_replicate, if_pos hi]
      rfl
    have hxr : xidx K s.heap.length ops (List.range cops.size) ⟨look V s.vals, s.heap ++ List.replicate res .res⟩ = xops K s.heap.length ops ⟨look V s.vals, s.heap ++ List.replicate res .res⟩ := by
      have := xidx_range K s.heap.length ops ops 0 ⟨look V s.vals, s.heap ++ List.replicate res .res⟩ (fun j => by simp)
      rw [← this, List.range_eq_range', hlen, Array.length_toList]
    refine wp_region_any hK.m ?_
    have hRd : Run O F0 w0 F ι (s.heap ++ List.replicate res .res) { w with drawn := w.drawn + 1 } := by
      have e : ({ w with drawn := w.drawn + 1 } : World) = w.drew := rfl
      rw [e]
      have g : Grow F ι w F ι w.drew := ⟨fun _ h => h, fun _ _ h => h, Nat.le_refl _, fun _ _ => rfl, fun _ _ => rfl⟩
      refine ⟨⟨fun id cs hl => ?_, hR'.h.inj, hR'.h.frz, hR'.h.dom⟩, hR'.size, hR'.os, hR'.tape, hR'.output, hR'.keep, hR'.shape, hR'.own, hR'.frz⟩
      rcases hR'.h.live id cs hl with h1 | ⟨b, C, t, fr, h1, h2, h3, h4, h5, h6⟩
      · exact .inl h1
      · refine .inr ⟨b, C, t, fr, h1, h2, h3, h4, h5, fun j c hj => ?_⟩
        obtain ⟨x, hx, hv⟩ := h6 j c hj
        exact ⟨x, hx, hv.grow g⟩
    have g0 : Grow F ι w F ι { w with drawn := w.drawn + 1 } := ⟨fun _ h => h, fun _ _ h => h, Nat.le_refl _, fun _ _ => rfl, fun _ _ => rfl⟩
    refine any_sound hK cops s.heap.length _ ops (by rw [hlen, Array.length_toList]) (fun i o ao ho ha => hget i o ao ao (by simpa using ho) ha ha) (fun i o ho => hback i o (by simpa using ho)) hswap cops.size _ ⟨look V s.vals, s.heap ++ List.replicate res .res⟩ F ι a _ (by simp) (fun i hi hl => ?_) ?_ hRd (hr.grow g0) ?_ (fun a' w' hp => ?_)
    · rw [Array.getD_eq_getD_getElem?, Array.getElem?_replicate, if_pos hi] at hl
      cases hl
    · rw [hrem]; simp
    · rw [hrem, hxr]; exact ok
    · rw [hrem, hxr] at hp
      obtain ⟨F2, ι2, g2, r2, h2⟩ := hp
      exact fin a' w' ⟨F2, ι2, g0.trans g2, r2, h2⟩

end
end Go.Proofs.Yteelkalenpbmmaa.Ab

/- What is handed back, frozen; contracts out of code; functions run by their code. -/
import Derived.Test.YteelkalenpbmmaaAbs13
set_option linter.unusedVariables false
set_option linter.unusedSimpArgs false
namespace Go.Proofs.Yteelkalenpbmmaa.Ab
open Go.RowKit

/-! ### Results -/

def resOne (tmps : Array Value) : ResultVar → Sem Value
  | .tmp t => pure (tmps.getD t undef)
  | .cell a t => do loadVar t (← asAddr (tmps.getD a undef))
theorem results_eq (fn : Func) (tmps : Array Value) : results fn tmps = (fn.results.mapM (resOne tmps) >>= fun vs => pure (if h : vs.size = 1 then vs[0] else .tuple vs)) := rfl

theorem rvGet_sound {F ι H w N env a} (P : Program) (hH : HRel F ι H w) (h : RR F ι w N env a) : ∀ (rs : List ResultVar) (qs : List RV), compRes P rs = some qs → (qs.all fun r => (rvGet env H r).2) = true →
    ∃ xs : List Value, (rs.mapM (resOne a.tmps)).run P w = .ok xs w ∧ xs.length = qs.length ∧
      ∀ (j : Nat) (c : AV), (qs.map fun r => (rvGet env H r).1)[j]? = some c → VR F ι w c (xs.getD j undef)
  | [], qs, hc, ok => by
    simp only [compRes] at hc
    injection hc with hc; subst hc
    exact ⟨[], rfl, rfl, fun j c hj => by simp at hj⟩
  | .tmp t :: rs, qs, hc, ok => by
    simp only [compRes] at hc
    obtain ⟨qr, h1, rfl⟩ := map_some' hc
    simp only [List.all_cons, Bool.and_eq_true] at ok
    obtain ⟨xs, e1, e2, e3⟩ := rvGet_sound P hH h rs qr h1 ok.2
    refine ⟨a.tmps.getD t undef :: xs, ?_, by simp [e2], fun j c hj => ?_⟩
    · rw [List.mapM_cons]
      simp only [resOne, Sem.run_bind, Sem.run_pure, Result.andThen_ok, e1]
    · cases j with
      | zero => simp [rvGet] at hj; subst hj; exact h.v t
      | succ j => exact e3 j c (by simpa using hj)
  | .cell b t :: rs, qs, hc, ok => by
    simp only [compRes] at hc
    obtain ⟨n, h0, hc⟩ := bind_some hc
    obtain ⟨qr, h1, rfl⟩ := map_some' hc
    simp only [List.all_cons, Bool.and_eq_true] at ok
    obtain ⟨xs, e1, e2, e3⟩ := rvGet_sound P hH h rs qr h1 ok.2
    have ok1 := ok.1
    simp only [rvGet] at ok1
    split at ok1
    · rename_i id off he
      have hv := h.v b
      rw [he] at hv
      obtain ⟨z, hz, hvz⟩ := ald_sound P hH t n h0 hv ok1
      refine ⟨z :: xs, ?_, by simp [e2], fun j c hj => ?_⟩
      · rw [List.mapM_cons]
        generalize hx : a.tmps.getD b undef = x at hv hz
        cases hv
        simp only [Instr.loadAt, Instr.sureAddr, Sem.run_bind, Sem.run_pure, Result.andThen_ok] at hz
        simp only [resOne, hx, asAddr, Sem.run_bind, Sem.run_pure, Result.andThen_ok, hz, e1]
      · cases j with
        | zero => simp [rvGet, he] at hj; subst hj; exact hvz
        | succ j => exact e3 j c (by simpa using hj)
    · cases ok1

theorem retv_sound {F ι H w N env a} {P : Program} (hH : HRel F ι H w) (h : RR F ι w N env a) {fn : Func} {qs : List RV} (hc : compRes P fn.results.toList = some qs) (ok : (retv env H qs).2 = true) :
    ∃ x, (results fn a.tmps).run P w = .ok x w ∧ VR F ι w (retv env H qs).1 x := by
  have hall : (qs.all fun r => (rvGet env H r).2) = true := by
    unfold retv at ok
    split at ok
    · simpa using ok
    · exact ok
  obtain ⟨xs, h1, h2, h3⟩ := rvGet_sound P hH h fn.results.toList qs hc hall
  have hm : (results fn a.tmps).run P w = .ok (if h : xs.toArray.size = 1 then xs.toArray[0] else .tuple xs.toArray) w := by
    rw [results_eq, Sem.run_bind, Array.mapM_eq_mapM_toList]
    simp only [Sem.run_map, h1]
    rfl
  refine ⟨_, hm, ?_⟩
  unfold retv
  split
  · rename_i r
    obtain ⟨x, rfl⟩ : ∃ x, xs = [x] := by
      cases xs with
      | nil => simp at h2
      | cons x xs => cases xs with
        | nil => exact ⟨x, rfl⟩
        | cons y ys => simp at h2
    have := h3 0 _ (by simp; rfl)
    simpa using this
  · rename_i hne
    have hs : ¬ (xs.toArray.size = 1) := by
      intro e
      simp only [List.size_toArray] at e
      cases qs with
      | nil => simp only [List.length_nil] at h2; omega
      | cons r qs => cases qs with
        | nil => exact hne r rfl
        | cons q qs => simp only [List.length_cons] at h2; omega
    rw [dif_neg hs]
    refine .tup _ _ (by simp [h2]) (fun j c hj => ?_)
    have := h3 j c hj
    rw [List.getD_eq_getElem?_getD] at this
    rw [Array.getD_eq_getD_getElem?, List.getElem?_toArray]
    exact this

/-! ### Contracts out of code -/

/-- A function of the program and its abstract code. -/
structure FnOk (P : Program) (f : FuncId) (fn : AFn) : Prop where
  ex : ∃ (g : Func) (code : Code), P.funcs[f]? = some g ∧ g.body = some code ∧ compC P fn.N code fn.c = some fn.c ∧ compRes P g.results.toList = some fn.rs ∧ g.ntmps = fn.N
  c : callable P f = true

theorem FnOk.of {P : Program} {f : FuncId} {fn : AFn} (g : Func) (h1 : P.funcs[f]? = some g) (h2 : (g.body.bind fun b => compC P fn.N b fn.c) = some fn.c) (h3 : compRes P g.results.toList = some fn.rs) (h4 : g.ntmps = fn.N) (h5 : callable P f = true) : FnOk P f fn := by
  obtain ⟨code, h6, h7⟩ := bind_some h2
  exact ⟨⟨g, code, h1, h6, h7, h3, h4⟩, h5⟩

theorem look_init (V : List Nat) (avs : List AV) (t : Nat) : look V (V.map fun t => avs.getD t .any) t = .any ∨ look V (V.map fun t => avs.getD t .any) t = avs.getD t .any := look_map V (fun t => avs.getD t .any) t

/-- The start of a function. -/
theorem init_RR {F ι w avs vs} (h : ArgsR F ι w avs vs) (V : List Nat) (N : Nat) (hN : avs.length ≤ N) : RR F ι w N (look V (V.map fun t => avs.getD t .any)) { tmps := vs ++ Array.replicate (N - vs.size) undef, defers := [] } := by
  have h1 := h.1
  refine ⟨fun t => ?_, by simp; omega, rfl⟩
  rcases look_init V avs t with e | e
  · rw [e]; exact .any _
  · rw [e, List.getD_eq_getElem?_getD]
    cases hq : avs[t]? with
    | none => exact .any _
    | some c =>
      have hlt := (List.getElem?_eq_some_iff.1 hq).1
      have := h.2 t c hq
      rw [Array.getD_eq_getD_getElem?] at this
      simp only [Option.getD_some]
      rw [Array.getD_eq_getD_getElem?, Array.getElem?_append_left (by omega)]
      exact this

/-- What a function's code must come to, for its result. -/
def RetP (V : List Nat) (rs : List RV) (R : AV → Heap → Prop) (e : Ex) (s : St) : Prop := (e = .normal ∨ e = .ret) ∧ (retv (look V s.vals) s.heap rs).2 = true ∧ R (retv (look V s.vals) s.heap rs).1 s.heap

theorem pcontract_of {P : Program} {K : Cfg} {f : FuncId} {fn : AFn} {g : List AV → Option AV} (hok : FnOk P f fn)
    (h : ∀ avs r, g avs = some r → avs.length ≤ fn.N ∧ AWP P K fn.V fn.N fn.c (RetP fn.V fn.rs fun v H => ∃ n, frz n H v = some r) ⟨fn.V.map fun t => avs.getD t .any, []⟩) : PContract P f g := by
  intro F w avs vs r hF hg hargs
  obtain ⟨hN, hw⟩ := h avs r hg
  obtain ⟨⟨gf, code, h1, h2, h3, h4, h5⟩, _⟩ := hok
  refine calls_of_wp h1 h2 ?_
  have hH : HRel F (fun _ => none) [] w := ⟨fun id cs h => by simp at h, fun id id' cs cs' b h => by simp at h, hF, fun id b h => by cases h⟩
  have hR : Run (Own [] fun _ => none) F w F (fun _ => none) [] w := Run.refl hH
  have hno : ∀ b, ¬ Own [] (fun _ => none) b := fun b ⟨id, cs, h, _⟩ => by simp at h
  rw [h5]
  refine Code.wp_mono ?_ (hw code h3 (Own [] fun _ => none) F w F (fun _ => none) _ w hR (init_RR hargs fn.V fn.N hN))
  rintro e a' w' ⟨e', s', k1, ⟨k2, k3, n, k4⟩, F', ι', g', r', h'⟩
  obtain ⟨x, hx, hv⟩ := retv_sound (fn := gf) r'.h h' h4 k3
  have hfz := frz_sound r'.h n _ _ x k4 hv
  have fin : a'.defers = [] ∧ ∃ v, (results gf a'.tmps).run P w' = .ok v w' ∧ ∃ (F' : Nat → Prop) (x : Value), Ending.returned v = .returned x ∧ (∀ b, F b → F' b) ∧ (∀ b, F' b → F b ∨ w.heap.size ≤ b) ∧ (∀ b, F' b → b < w'.heap.size) ∧ VR F' (fun _ => none) w' r x ∧ Below w.heap.size w w' := by
    refine ⟨h'.defers, x, hx, _, x, rfl, fun b hb => .inl (g'.mF b hb), fun b hb => ?_, fun b hb => ?_, hfz, ⟨r'.os, r'.tape, r'.output, r'.size, fun k hk => r'.keep k hk (hno k)⟩⟩
    · rcases hb with hb | ⟨id, cs, hl, hi⟩
      · rcases r'.frz b hb with h6 | h6 | h6
        · exact .inl h6
        · exact absurd h6 (hno b)
        · exact .inr h6
      · rcases r'.own id cs b hl hi with h6 | h6
        · exact absurd h6 (hno b)
        · exact .inr h6
    · rcases hb with hb | ⟨id, cs, hl, hi⟩
      · exact r'.h.frz b hb
      · exact (r'.h.dom id b hi).1
  cases e with
  | normal => exact fin
  | ret => exact fin
  | exit id => injection k1 with k1; subst k1; rcases k2 with k2 | k2 <;> cases k2
  | goto l => cases k1
  | panic c => cases k1
  | outgrown => cases k1

theorem econtract_of {P : Program} {K : Cfg} {f : FuncId} {fn : AFn} {S : List AV → Heap → Option (AV × Heap)} (hok : FnOk P f fn)
    (h : ∀ avs H r, S avs H = some r → avs.length ≤ fn.N ∧ AWP P K fn.V fn.N fn.c (RetP fn.V fn.rs fun v H' => v = r.1 ∧ H' = r.2) ⟨fn.V.map fun t => avs.getD t .any, H⟩) : EContract P f S := by
  intro F ι H w avs vs r hH hS hargs
  obtain ⟨hN, hw⟩ := h avs H r hS
  obtain ⟨⟨gf, code, h1, h2, h3, h4, h5⟩, _⟩ := hok
  refine calls_of_wp h1 h2 ?_
  rw [h5]
  refine Code.wp_mono ?_ (hw code h3 (Own H ι) F w F ι _ w (Run.refl hH) (init_RR hargs fn.V fn.N hN))
  rintro e a' w' ⟨e', s', k1, ⟨k2, k3, k4, k5⟩, F', ι', g', r', h'⟩
  obtain ⟨x, hx, hv⟩ := retv_sound (fn := gf) r'.h h' h4 k3
  have fin : a'.defers = [] ∧ ∃ v, (results gf a'.tmps).run P w' = .ok v w' ∧ ∃ (F' : Nat → Prop) (ι' : Nat → Option Nat) (x : Value), Ending.returned v = .returned x ∧ Grow F ι w F' ι' w' ∧ Run (Own H ι) F w F' ι' r.2 w' ∧ VR F' ι' w' r.1 x := by
    refine ⟨h'.defers, x, hx, F', ι', x, rfl, g', ?_, ?_⟩
    · rw [← k5]; exact r'
    · rw [← k4]; exact hv
  cases e with
  | normal => exact fin
  | ret => exact fin
  | exit id => injection k1 with k1; subst k1; rcases k2 with k2 | k2 <;> cases k2
  | goto l => cases k1
  | panic c => cases k1
  | outgrown => cases k1

/-! ### Running -/

theorem ent_refl {V : List Nat} {s : St} : Ent V s s := fun O F0 w0 F ι N a w hR hr => ⟨F, ι, Grow.refl _ _ _, hR, hr⟩

theorem xcode_sound {P : Program} {K : Cfg} (hK : KOk P K) {V : List Nat} {N : Nat} (n : Nat) : ∀ (c : AC) (s : St) (e : Ex) (s' : St), xcode K V n c s = some (e, s') → ∀ Q : Ex → St → Prop, Q e s' → AWP P K V N c Q s := by
  induction n using Nat.strongRecOn with
  | _ n ihn =>
  intro c s e s' h Q hq
  cases n with
  | zero => simp [xcode] at h
  | succ n =>
    have ih := ihn n (Nat.lt_succ_self n)
    cases c with
    | skip =>
      simp only [xcode] at h
      injection h with h
      injection h with h1 h2
      subst h1; subst h2
      exact awp_skip hq
    | reg res ops =>
      simp only [xcode] at h
      split at h
      · rename_i s1 heq
        injection h with h
        injection h with h1 h2
        subst h1; subst h2
        exact awp_reg hK (by rw [heq]) (by rw [heq]; exact hq)
      · cases h
    | seq a b =>
      simp only [xcode] at h
      split at h
      · rename_i s1 heq
        exact awp_seq (ih a s .normal s1 heq _ (ih b s1 e s' h Q hq))
      · rename_i hne
        refine awp_seq (ih a s e s' h _ ?_)
        cases e with
        | normal => exact absurd h (hne s')
        | exit id => exact hq
        | ret => exact hq
    | cond c a b =>
      simp only [xcode] at h
      split at h
      · rename_i heq
        exact awp_cond (b := true) heq (ih a s e s' h Q hq)
      · rename_i heq
        exact awp_cond (b := false) heq (ih b s e s' h Q hq)
      · cases h
    | block id a =>
      simp only [xcode] at h
      split at h
      · rename_i id' s1 heq
        refine awp_block (ih a s _ _ heq _ ?_)
        simp only [Ex.blk_exit]
        split at h
        · rename_i e1
          injection h with h
          injection h with h1 h2
          subst h1; subst h2
          rw [if_pos e1]; exact hq
        · rename_i e1
          injection h with h
          injection h with h1 h2
          subst h1; subst h2
          rw [if_neg e1]; exact hq
      · rename_i hne
        refine awp_block (ih a s e s' h _ ?_)
        cases e with
        | normal => exact hq
        | exit id' => exact absurd h (hne id' s')
        | ret => exact hq
    | loop a =>
      refine awp_loop (fun m st => m ≤ n + 1 ∧ xcode K V m (.loop a) st = some (e, s')) ⟨n + 1, s, ent_refl, Nat.le_refl _, h⟩ (fun m st ⟨hm, hx⟩ => ?_)
      cases m with
      | zero => simp [xcode] at hx
      | succ m =>
        have ihm := ihn m (by omega)
        simp only [xcode] at hx
        split at hx
        · rename_i s1 heq
          exact ihm a st .normal s1 heq _ ⟨m, s1, Nat.lt_succ_self m, ent_refl, by omega, hx⟩
        · rename_i hne
          refine ihm a st e s' hx _ ?_
          cases e with
          | normal => exact absurd hx (hne s')
          | exit id => exact hq
          | ret => exact hq
    | exit id =>
      simp only [xcode] at h
      injection h with h
      injection h with h1 h2
      subst h1; subst h2
      exact awp_exit hq
    | ret =>
      simp only [xcode] at h
      injection h with h
      injection h with h1 h2
      subst h1; subst h2
      exact awp_ret hq

theorem runF_sound {P : Program} {K : Cfg} (hK : KOk P K) {n : Nat} {fn : AFn} {avs : List AV} {H : Heap} {r : AV × Heap} (h : runF K n fn avs H = some r) :
    avs.length ≤ fn.N ∧ AWP P K fn.V fn.N fn.c (RetP fn.V fn.rs fun v H' => v = r.1 ∧ H' = r.2) ⟨fn.V.map fun t => avs.getD t .any, H⟩ := by
  unfold runF at h
  split at h
  case isFalse => cases h
  rename_i hN
  refine ⟨hN, ?_⟩
  have fin : ∀ (e : Ex) (s : St), (e = .normal ∨ e = .ret) → xcode K fn.V n fn.c ⟨fn.V.map fun t => avs.getD t .any, H⟩ = some (e, s) → (match retv (look fn.V s.vals) s.heap fn.rs with
      | (r, true) => some (r, s.heap)
      | _ => none) = some r → AWP P K fn.V fn.N fn.c (RetP fn.V fn.rs fun v H' => v = r.1 ∧ H' = r.2) ⟨fn.V.map fun t => avs.getD t .any, H⟩ := by
    intro e s he hx hr
    refine xcode_sound hK n fn.c _ e s hx _ ⟨he, ?_⟩
    split at hr
    · rename_i r' heq
      injection hr with hr
      subst hr
      rw [heq]
      exact ⟨rfl, rfl, rfl⟩
    · cases hr
  split at h
  · rename_i s heq; exact fin .normal s (.inl rfl) heq h
  · rename_i s heq; exact fin .ret s (.inr rfl) heq h
  · cases h

theorem KOk.none {P : Program} (hm : P.follows .mixedOrders = true) : KOk P Cfg.none :=
  ⟨(fun f F w avs vs r _ h => by cases h), (fun f F ι H w avs vs r _ h => by cases h), (fun f F ι H w avs vs r _ h => by cases h), (fun f avs H r h => by cases h), (fun f avs r h => by cases h), hm⟩

theorem KOk.addP {P : Program} {K : Cfg} (h : KOk P K) {f : FuncId} {g : List AV → Option AV} (hg : PContract P f g) (hc : callable P f = true) : KOk P (K.addP f g) :=
  ⟨fun f' => by
    simp only [Cfg.addP]
    by_cases e : f' = f
    · subst e; rw [if_pos rfl]; exact hg
    · rw [if_neg e]; exact h.p f', h.e, h.i, h.c, fun f' avs r hr => by
    simp only [Cfg.addP] at hr
    by_cases e : f' = f
    · subst e; exact hc
    · rw [if_neg e] at hr; exact h.cp f' avs r hr, h.m⟩

theorem KOk.addI {P : Program} {K : Cfg} (h : KOk P K) {f : FuncId} {g : List AV → Option AV} (hg : EContract P f (fun avs H => (g avs).map fun r => (r, H))) : KOk P (K.addI f g) :=
  ⟨h.p, h.e, fun f' => by
    simp only [Cfg.addI]
    by_cases e : f' = f
    · subst e; rw [if_pos rfl]; exact hg
    · rw [if_neg e]; exact h.i f', h.c, h.cp, h.m⟩

theorem KOk.addE {P : Program} {K : Cfg} (h : KOk P K) {f : FuncId} {S : List AV → Heap → Option (AV × Heap)} (hS : EContract P f S) (hc : callable P f = true) : KOk P (K.addE f S) :=
  ⟨h.p, fun f' => by
    simp only [Cfg.addE]
    by_cases e : f' = f
    · subst e; rw [if_pos rfl]; exact hS
    · rw [if_neg e]; exact h.e f', h.i, fun f' avs H r hr => by
    simp only [Cfg.addE] at hr
    by_cases e : f' = f
    · subst e; exact hc
    · rw [if_neg e] at hr; exact h.c f' avs H r hr, h.cp, h.m⟩

theorem calls_ok {P : Program} {prog : FuncId → Option AFn} (hm : P.follows .mixedOrders = true) (hp : ∀ f fn, prog f = some fn → FnOk P f fn) : ∀ n, KOk P (calls prog n)
  | 0 => KOk.none hm
  | n + 1 => by
    have ih := calls_ok hm hp n
    refine ⟨fun f => ?_, fun f => ?_, (fun f F ι H w avs vs r _ h => by cases h), fun f avs H r h => ?_, fun f avs r h => ?_, hm⟩
    · cases hf : prog f with
      | none =>
        intro F w avs vs r hF hg hargs
        simp only [calls, hf] at hg
        cases hg
      | some fn =>
        refine pcontract_of (K := calls prog n) (fn := fn) (hp f fn hf) (fun avs r hg => ?_)
        simp only [calls, hf] at hg
        obtain ⟨q, h2, h3⟩ := bind_some (x := runF (calls prog n) 1000000 fn avs []) hg
        obtain ⟨hN, hw⟩ := runF_sound ih h2
        refine ⟨hN, awp_mono hw ?_⟩
        rintro e s ⟨h4, h5, h6, h7⟩
        exact ⟨h4, h5, 20, by rw [h6, h7]; exact h3⟩
    · cases hf : prog f with
      | none =>
        intro F ι H w avs vs r hH hS hargs
        simp only [calls, hf] at hS
        cases hS
      | some fn =>
        refine econtract_of (K := calls prog n) (fn := fn) (hp f fn hf) (fun avs H r hS => ?_)
        simp only [calls, hf] at hS
        exact runF_sound ih hS
    · simp only [calls] at h
      obtain ⟨fn, h1, _⟩ := bind_some h
      exact (hp f fn h1).c
    · simp only [calls] at h
      obtain ⟨fn, h1, _⟩ := bind_some h
      exact (hp f fn h1).c

theorem liftE_ok {P : Program} {f : FuncId} {g : List AV → Option AV} (hg : PContract P f g) : EContract P f (liftE g) := by
  intro F ι H w avs vs r hH hS hargs
  simp only [liftE] at hS
  obtain ⟨as, h1, hS⟩ := bind_some hS
  obtain ⟨q, h2, hS⟩ := bind_some hS
  split at hS
  case isFalse => cases hS
  rename_i hs
  injection hS with hS
  subst hS
  have hlt : ∀ b, (F b ∨ Own H ι b) → b < w.heap.size := fun b hb => by
    rcases hb with hb | ⟨id, cs, hl, hi⟩
    · exact hH.frz b hb
    · exact (hH.dom id b hi).1
  refine (hg (fun b => F b ∨ Own H ι b) w as vs q hlt h2 (frzArgs_sound hH h1 hargs)).mono ?_
  rintro e w' ⟨F', x, rfl, e1, e2, e3, e4, e5⟩
  have hb := hH.below e5 (fun b h => h) (fun b h => .inl h) (fun b h => Nat.lt_of_lt_of_le (hH.frz b h) e5.size)
  refine ⟨F, ι, x, rfl, hb.2, ?_, scalar_VR e4 hs⟩
  exact (Run.refl hH).below e5 (fun b h => h) (fun b h => .inl h) (fun b h => Nat.lt_of_lt_of_le (hH.frz b h) e5.size)

end Go.Proofs.Yteelkalenpbmmaa.Ab

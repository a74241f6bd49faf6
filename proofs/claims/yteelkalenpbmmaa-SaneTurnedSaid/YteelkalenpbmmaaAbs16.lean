/- Contracts of typed arguments; lists of typed things; small rules for evaluation. -/
import Derived.Test.YteelkalenpbmmaaAbs15
import Derived.IntWalk
set_option linter.unusedVariables false
namespace Go.Proofs.Yteelkalenpbmmaa.Ab

/-! ### A function of typed arguments -/

open Classical in
noncomputable def fnOf {α : Type} (ok : α → Prop) (enc : α → List AV) (f : α → AV) (avs : List AV) : Option AV :=
  if h : ∃ a, ok a ∧ enc a = avs then some (f (Classical.choose h)) else none

theorem fnOf_enc {α : Type} {ok : α → Prop} {enc : α → List AV} {f : α → AV} (inj : ∀ a b, enc a = enc b → a = b) {a : α} (ha : ok a) : fnOf ok enc f (enc a) = some (f a) := by
  have h : ∃ b, ok b ∧ enc b = enc a := ⟨a, ha, rfl⟩
  unfold fnOf
  rw [dif_pos h, inj _ _ (Classical.choose_spec h).2]

theorem fnOf_some {α : Type} {ok : α → Prop} {enc : α → List AV} {f : α → AV} (inj : ∀ a b, enc a = enc b → a = b) {avs : List AV} {r : AV} (h : fnOf ok enc f avs = some r) : ∃ a, ok a ∧ enc a = avs ∧ f a = r := by
  unfold fnOf at h
  split at h
  · rename_i he
    obtain ⟨h1, h2⟩ := Classical.choose_spec he
    injection h with h
    exact ⟨_, h1, h2, h⟩
  · cases h

/-- A contract of a function of typed arguments that turns nothing. -/
theorem pcontract_fn {P : Program} {K : Cfg} {f : FuncId} {c : AC} {V : List Nat} {rs : List RV} {N : Nat} {α : Type} {ok : α → Prop} {enc : α → List AV} {g : α → AV} (inj : ∀ a b, enc a = enc b → a = b) (hok : FnOk P f ⟨c, V, rs, N⟩)
    (h : ∀ a, ok a → (enc a).length ≤ N ∧ AWP P K V N c (RetP V rs fun v H => ∃ n, frz n H v = some (g a)) ⟨V.map fun t => (enc a).getD t .any, []⟩) : PContract P f (fnOf ok enc g) := by
  refine pcontract_of (K := K) hok fun avs r hr => ?_
  obtain ⟨a, h1, h2, h3⟩ := fnOf_some inj hr
  subst h2; subst h3
  exact h a h1

theorem wrap_i64 {x : Int} (h1 : -9223372036854775808 ≤ x) (h2 : x ≤ 9223372036854775807) : IntKind.i64.wrap x = x := by
  rw [IntKind.wrap_i64]; omega

/-! ### Lists -/
section
variable {α : Type} (e : α → AV)
theorem getD_map_mid (pre : List α) (x : α) (post : List α) (d : AV) : (List.map e (pre ++ x :: post)).getD (Int.toNat (pre.length : Int)) d = e x := by
  simp [List.getD_eq_getElem?_getD]
theorem map_inj {e : α → AV} (h : ∀ a b, e a = e b → a = b) : ∀ (l l' : List α), l.map e = l'.map e → l = l'
  | [], [], _ => rfl
  | [], _ :: _, h' => by simp at h'
  | _ :: _, [], h' => by simp at h'
  | a :: l, b :: l', h' => by
    simp only [List.map_cons, List.cons.injEq] at h'
    rw [h _ _ h'.1, map_inj h l l' h'.2]
theorem norefs_map {e : α → AV} (h : ∀ a, (e a).noref = true) : ∀ (l : List α), AV.norefs (l.map e) = true
  | [] => rfl
  | a :: l => by simp [AV.norefs, h a, norefs_map h l]
end

/-- A slice of things. -/
def eSl {α : Type} (sz : Nat) (e : α → AV) (l : List α) : AV := .vsl sz (l.map e)
def eI (n : Int) : AV := .int .i64 n
theorem eI_inj {a b : Int} (h : eI a = eI b) : a = b := by injection h
theorem eSl_inj {α : Type} {sz : Nat} {e : α → AV} (h : ∀ a b, e a = e b → a = b) {l l' : List α} (h' : eSl sz e l = eSl sz e l') : l = l' := by
  unfold eSl at h'
  injection h' with _ h'
  exact map_inj h _ _ h'
theorem eSl_noref {α : Type} {sz : Nat} {e : α → AV} (h : ∀ a, (e a).noref = true) (l : List α) : (eSl sz e l).noref = true := by
  unfold eSl AV.noref
  exact norefs_map h l
theorem eI_noref (n : Int) : (eI n).noref = true := rfl

/-! ### What a value that stands somewhere must be -/

def Holds (v : AV) : Prop := ∃ F ι w x, VR F ι w v x
theorem Holds.agg {cs : List AV} (h : Holds (.agg cs)) : ∀ c ∈ cs, Holds c := by
  obtain ⟨F, ι, w, x, h⟩ := h
  intro c hc
  obtain ⟨j, hj⟩ := List.getElem?_of_mem hc
  cases h with
  | agg _ A hA h => exact ⟨F, ι, w, _, h j c hj⟩
theorem Holds.vsl {sz : Nat} {es : List AV} (h : Holds (.vsl sz es)) : es.length ≤ 140737488355328 ∧ ∀ e ∈ es, ∀ c ∈ e.cells, Holds c := by
  obtain ⟨F, ι, w, x, h⟩ := h
  cases h with
  | vsl0 => exact ⟨by simp, fun e he => by simp at he⟩
  | vsl _ _ b off cap f hF hcap hsz hc hv =>
    refine ⟨hcap.2, fun e he c hc' => ?_⟩
    obtain ⟨i, hi⟩ := List.getElem?_of_mem he
    obtain ⟨j, hj⟩ := List.getElem?_of_mem hc'
    exact ⟨F, ι, w, _, hv i e j c hi hj⟩
theorem Holds.esl {α : Type} {sz : Nat} {e : α → AV} {l : List α} (h : Holds (eSl sz e l)) : l.length ≤ 140737488355328 ∧ ∀ a ∈ l, ∀ c ∈ (e a).cells, Holds c := by
  obtain ⟨h1, h2⟩ := h.vsl
  exact ⟨by simpa using h1, fun a ha c hc => h2 (e a) (List.mem_map.2 ⟨a, ha, rfl⟩) c hc⟩
theorem awp_holds {P : Program} {K : Cfg} {V : List Nat} {N : Nat} {Q : Ex → St → Prop} {s : St} (t : Nat) {ac : AC} (h : Holds (look V s.vals t) → AWP P K V N ac Q s) : AWP P K V N ac Q s :=
  fun code hc O F0 w0 F ι a w hR hr => h ⟨F, ι, w, _, hr.v t⟩ code hc O F0 w0 F ι a w hR hr

/-! ### Loops over lists -/
section
variable {P : Program} {K : Cfg} {V : List Nat} {N : Nat} {Q : Ex → St → Prop} {s : St}
/-- A loop over a list, element by element. -/
theorem awp_for {α : Type} (l : List α) (I : List α → List α → St → Prop) {x : AC} (h0 : I [] l s)
    (round : ∀ pre post s, l = pre ++ post → I pre post s → AWP P K V N x (Ex.then (fun s' => ∃ y post', post = y :: post' ∧ I (pre ++ [y]) post' s') Q) s) : AWP P K V N (.loop x) Q s := by
  refine awp_loop (fun n s => ∃ pre post, l = pre ++ post ∧ n = post.length ∧ I pre post s) ⟨l.length, s, ent_refl, [], l, rfl, rfl, h0⟩ ?_
  rintro n s ⟨pre, post, h1, rfl, h3⟩
  refine awp_mono (round pre post s h1 h3) fun e s' h => ?_
  cases e with
  | normal =>
    obtain ⟨y, post', rfl, h⟩ := h
    exact ⟨post'.length, s', by simp, ent_refl, pre ++ [y], post', by simp [h1], rfl, h⟩
  | exit id => exact h
  | ret => exact h
/-- A loop with a measure. -/
theorem awp_while (I : Nat → St → Prop) (n : Nat) {x : AC} (h0 : I n s)
    (round : ∀ n s, I n s → AWP P K V N x (Ex.then (fun s' => ∃ m, m < n ∧ I m s') Q) s) : AWP P K V N (.loop x) Q s := by
  refine awp_loop I ⟨n, s, ent_refl, h0⟩ fun n s h => ?_
  refine awp_mono (round n s h) fun e s' h => ?_
  cases e with
  | normal => obtain ⟨m, h1, h2⟩ := h; exact ⟨m, s', h1, ent_refl, h2⟩
  | exit id => exact h
  | ret => exact h
/-- The end of a function that hands back one value. -/
theorem ret_one {rs : RV} {t : Nat} {v : AV} {s : St} (e : rs = .tmp t) (h : look V s.vals t = v) {r : AV} (hr : frz 1 s.heap v = some r) (ex : Ex) (hex : ex = .normal ∨ ex = .ret) : RetP V [rs] (fun v H => ∃ n, frz n H v = some r) ex s := by
  subst e
  refine ⟨hex, rfl, 1, ?_⟩
  simp only [retv, rvGet, h]
  exact hr
theorem awp_retb {t : Nat} {b b' : Bool} (hQ : RetP V [.tmp t] (fun v H => ∃ n, frz n H v = some (.bool b')) .ret s → Q .ret s) (h : look V s.vals t = .bool b) (hb : b = b') : AWP P K V N .ret Q s :=
  awp_ret (hQ (ret_one rfl h (by rw [hb]; rfl) _ (.inr rfl)))
theorem awp_reti {t : Nat} {k : IntKind} {b b' : Int} (hQ : RetP V [.tmp t] (fun v H => ∃ n, frz n H v = some (.int k b')) .ret s → Q .ret s) (h : look V s.vals t = .int k b) (hb : b = b') : AWP P K V N .ret Q s :=
  awp_ret (hQ (ret_one rfl h (by rw [hb]; rfl) _ (.inr rfl)))
end
end Go.Proofs.Yteelkalenpbmmaa.Ab

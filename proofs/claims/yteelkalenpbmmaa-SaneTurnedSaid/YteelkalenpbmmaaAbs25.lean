/- Views of a world that is known; an image with one method's code turned. -/
import Derived.Test.YteelkalenpbmmaaAbs24
set_option linter.unusedVariables false
namespace Go.Proofs.Yteelkalenpbmmaa.Ab
open Go Go.RowKit

theorem seq_inv {P : Program} {N : Nat} {code : Code} {x y : AC} (hc : compC P N code (.seq x y) = some (.seq x y)) : ∃ a b, code = .seq a b ∧ compC P N a x = some x ∧ compC P N b y = some y := by
  cases code <;> try (simp [compC] at hc; done)
  rename_i a1 b1
  simp only [compC] at hc
  obtain ⟨x', h1, hc⟩ := bind_some hc
  obtain ⟨y', h2, hc⟩ := map_some' hc
  injection hc with e1 e2
  subst e1; subst e2
  exact ⟨a1, b1, rfl, h1, h2⟩

/-! ### Views -/
def AllVR (F : Nat → Prop) (ι : Nat → Option Nat) (w : World) (a : Act) : List Nat → List AV → Prop
  | v :: V, x :: xs => VR F ι w x (a.tmps.getD v undef) ∧ AllVR F ι w a V xs
  | _, _ => True
theorem look_VR {F ι w a} : ∀ {V : List Nat} {vals : List AV}, AllVR F ι w a V vals → ∀ t, VR F ι w (look V vals t) (a.tmps.getD t undef)
  | v :: V, x :: xs, h, t => by
    simp only [look]
    split
    · rename_i e; subst e; exact h.1
    · exact look_VR h.2 t
  | [], _, _, t => .any _
  | _ :: _, [], _, t => .any _
theorem rr_mk {F ι w a N V vals} (h : AllVR F ι w a V vals) (h1 : a.tmps.size = N) (h2 : a.defers = []) : RR F ι w N (look V vals) a := ⟨look_VR h, h1, h2⟩

theorem run0 (w : World) : Run (fun _ => False) (Old w) w (Old w) (fun _ => none) [] w :=
  ⟨⟨fun id cs h => by simp at h, fun id id' cs cs' b h => by simp at h, fun b h => h, fun id b h => by cases h⟩, Nat.le_refl _, rfl, rfl, rfl, fun _ _ _ => rfl, fun _ _ => rfl, fun id cs b h => by simp at h, fun b h => .inl h⟩
def one (b : Nat) : Nat → Option Nat := fun id => if id = 0 then some b else none
theorem run1 (w : World) (b : Nat) (hb : b < w.heap.size) : Run (fun _ => False) (Old w) w (Old w) (one b) [.dead] w := by
  have hd : ∀ (id : Nat) (cs : List AV), ([HB.dead] : Heap)[id]? ≠ some (.live cs) := by
    intro id cs h
    cases id <;> simp at h
  refine ⟨⟨fun id cs h => absurd h (hd id cs), fun id id' cs cs' b h => absurd h (hd id cs), fun b h => h, fun id c h => ?_⟩, Nat.le_refl _, rfl, rfl, rfl, fun _ _ _ => rfl, fun _ _ => rfl, fun id cs b h => absurd h (hd id cs), fun b h => .inl h⟩
  unfold one at h
  split at h
  · rename_i e; subst e
    injection h with h; subst h
    exact ⟨hb, .dead, rfl, by simp⟩
  · cases h
theorem Run.kept {F0 w0 F ι H w} (h : Run (fun _ => False) F0 w0 F ι H w) : Below w0.heap.size w0 w := ⟨h.os, h.tape, h.output, h.size, fun k hk => h.keep k hk (fun h => h)⟩

theorem old_grow {w w' : World} (h : Below w.heap.size w w') {ι} : Grow (Old w) ι w (Old w') ι w' :=
  ⟨fun b hb => Nat.lt_of_lt_of_le hb h.size, fun _ _ h => h, h.size, fun b hb => h.block b hb, fun b hb => by simp only [World.shape?]; rw [h.block b hb]⟩

/-! ### One cell turned -/
structure Turn (w w' : World) (b p : Nat) (v : Value) : Prop where
  size : w'.heap.size = w.heap.size
  other : ∀ b' o', ¬ (b' = b ∧ o' = p) → w'.cell? ⟨b', o', none⟩ = w.cell? ⟨b', o', none⟩
  old : w.cell? ⟨b, p, none⟩ = some v
  sl : ∃ a l c, v = .slice a l c

theorem Old.turn {w w' : World} (h : w'.heap.size = w.heap.size) {b : Nat} (hb : Old w b) : Old w' b := by
  unfold Old at *; omega

theorem Turn.cell {w w' b p v} (h : Turn w w' b p v) {b' o' : Nat} {x : Value} {c : AV} {F ι} (hc : w.cell? ⟨b', o', none⟩ = some x) (hv : VR F ι w c x) (hi : ∃ k n, c = .int k n) : w'.cell? ⟨b', o', none⟩ = some x := by
  rw [h.other]
  · exact hc
  · rintro ⟨rfl, rfl⟩
    rw [h.old] at hc
    injection hc with hc
    obtain ⟨a, l, c', hs⟩ := h.sl
    obtain ⟨k, n, rfl⟩ := hi
    cases hv
    rw [hs] at hc; cases hc

theorem Turn.ints {w w' b p v} (h : Turn w w' b p v) {α : Type} {e : α → AV} {sz : Nat} (he : ∀ a, ∀ c ∈ (e a).cells, ∃ k n, c = .int k n) {l : List α} {x : Value} (hv : VR (Old w) (fun _ => none) w (.vsl sz (l.map e)) x) : VR (Old w') (fun _ => none) w' (.vsl sz (l.map e)) x := by
  generalize hes : l.map e = es at hv
  have hint : ∀ (i : Nat) (e : AV) (j : Nat) (c : AV), es[i]? = some e → e.cells[j]? = some c → ∃ k n, c = .int k n := by
    intro i e' j c h1 h2
    rw [← hes, List.getElem?_map] at h1
    cases hq : l[i]? with
    | none => simp [hq] at h1
    | some a =>
      simp [hq] at h1
      subst h1
      exact he a c (List.mem_of_getElem? h2)
  cases hv with
  | vsl0 => exact .vsl0 _ _ _
  | vsl _ _ b' off cap f hF hcap hsz hc hv =>
    refine .vsl _ _ b' off cap f (hF.turn h.size) hcap hsz (fun i e j c h1 h2 => h.cell (hc i e j c h1 h2) (hv i e j c h1 h2) (hint i e j c h1 h2)) fun i e j c h1 h2 => ?_
    obtain ⟨k, n, rfl⟩ := hint i e j c h1 h2
    have := hv i e j _ h1 h2
    generalize f i j = y at this ⊢
    cases this
    exact .int _ _

theorem int_I (a : Int) : ∀ c ∈ (eI a).cells, ∃ k n, c = .int k n := by simp [eI, AV.cells]
theorem int_32 (a : Int) : ∀ c ∈ (e32 a).cells, ∃ k n, c = .int k n := by simp [e32, AV.cells]
theorem int_T (a : Ty) : ∀ c ∈ (eTy a).cells, ∃ k n, c = .int k n := by simp [eTy, AV.cells]
theorem int_N (a : Ins) : ∀ c ∈ (eIns a).cells, ∃ k n, c = .int k n := by simp [eIns, AV.cells]

theorem VR.int_inv {F ι w k n x} (h : VR F ι w (.int k n) x) : x = .int k n := by cases h; rfl
theorem VR.vsl_slice {F ι w sz es x} (h : VR F ι w (.vsl sz es) x) : ∃ a l c, x = .slice a l c := by cases h <;> exact ⟨_, _, _, rfl⟩

theorem Turn.classes {w w' b p v} (h : Turn w w' b p v) {k1 k2 : Int} (h1 : w.cell? ⟨b, p + 1, none⟩ = some (.int .i64 k1)) (h2 : 1 ≤ p) (h3 : w.cell? ⟨b, p - 1, none⟩ = some (.int .i64 k2)) {l : List Klass} {x : Value}
    (hv : VR (Old w) (fun _ => none) w (.vsl 3 (l.map eCls)) x) : VR (Old w') (fun _ => none) w' (.vsl 3 (l.map eCls)) x := by
  generalize hes : l.map eCls = es at hv
  cases hv with
  | vsl0 => exact .vsl0 _ _ _
  | vsl _ _ b' off cap f hF hcap hsz hc hv =>
    have hcls : ∀ (i : Nat) (e : AV), es[i]? = some e → ∃ c : Klass, e = eCls c := by
      intro i e he
      rw [← hes, List.getElem?_map] at he
      cases hq : l[i]? with
      | none => simp [hq] at he
      | some a => simp [hq] at he; exact ⟨a, he.symm⟩
    refine .vsl _ _ b' off cap f (hF.turn h.size) hcap hsz (fun i e j c he hj => ?_) fun i e j c he hj => ?_
    · rw [h.other]
      · exact hc i e j c he hj
      · rintro ⟨rfl, rfl⟩
        obtain ⟨cl, rfl⟩ := hcls i e he
        have hh := hc i _ j c he hj
        have hvv := hv i _ j c he hj
        have e0 := hc i _ 0 _ he rfl
        have v0 := hv i _ 0 _ he rfl
        have e1 := hc i _ 1 _ he rfl
        have v1 := hv i _ 1 _ he rfl
        have e2 := hc i _ 2 _ he rfl
        have v2 := hv i _ 2 _ he rfl
        rw [h.old] at hh
        injection hh with hh
        obtain ⟨sa, sl, sc, hs⟩ := h.sl
        match j with
        | 0 =>
          injection hj with hj
          subst hj
          rw [← hh, hs] at hvv
          cases hvv
        | 1 =>
          rw [show off + (i * 3 + 1) + 1 = off + (i * 3 + 2) by omega] at h1
          rw [h1] at e2
          injection e2 with e2
          rw [← e2] at v2
          obtain ⟨_, _, _, h5⟩ := v2.vsl_slice
          cases h5
        | 2 =>
          rw [show off + (i * 3 + 2) - 1 = off + (i * 3 + 1) by omega] at h3
          rw [h3] at e1
          injection e1 with e1
          rw [← e1] at v1
          obtain ⟨_, _, _, h5⟩ := v1.vsl_slice
          cases h5
        | j + 3 => simp [eCls, AV.cells] at hj
    · obtain ⟨cl, rfl⟩ := hcls i e he
      have hvv := hv i _ j c he hj
      match j with
      | 0 =>
        injection hj with hj
        subst hj
        rw [hvv.int_inv]; exact .int _ _
      | 1 => injection hj with hj; subst hj; exact h.ints int_T hvv
      | 2 => injection hj with hj; subst hj; exact h.ints int_I hvv
      | j + 3 => simp [eCls, AV.cells] at hj

/-- A list with one element's code turned. -/
theorem Turn.methods {w w' b off k v} (h : Turn w w' b (off + (k * 8 + 4)) v) {l : List Meth} {len cap : Nat} (hk : k < l.length) {code : List Ins} {x : Value}
    (hnew : w'.cell? ⟨b, off + (k * 8 + 4), none⟩ = some x) (hx : VR (Old w') (fun _ => none) w' (eSl 3 eIns code) x)
    (hv : VR (Old w) (fun _ => none) w (.vsl 8 (l.map eMeth)) (.slice (some ⟨b, off, none⟩) len cap)) :
    VR (Old w') (fun _ => none) w' (.vsl 8 ((l.set k { l.getD k default with code := code }).map eMeth)) (.slice (some ⟨b, off, none⟩) len cap) := by
  generalize hes : l.map eMeth = es at hv
  cases hv with
  | vsl0 => simp at hes; subst hes; simp at hk
  | vsl _ _ b' off' cap f hF hcap hsz hc hv =>
    have hlen : es.length = l.length := by rw [← hes]; simp
    have hm : ∀ (i : Nat) (m : Meth), l[i]? = some m → es[i]? = some (eMeth m) := fun i m hi => by rw [← hes, List.getElem?_map, hi]; rfl
    have key := VR.vsl (F := Old w') (ι := fun _ => none) (w := w') 8 ((l.set k { l.getD k default with code := code }).map eMeth) b off cap (fun i j => if i = k ∧ j = 4 then x else f i j) (hF.turn h.size) (by simpa [hlen] using hcap)
      (fun i e he => by
        obtain ⟨m, _, rfl⟩ := List.mem_map.1 (List.mem_of_getElem? he)
        rfl) ?_ ?_
    · simpa [hlen] using key
    · intro i e j c he hj
      rw [List.getElem?_map, List.getElem?_set] at he
      by_cases hik : k = i
      · subst hik
        rw [if_pos rfl, if_pos hk] at he
        simp at he
        subst he
        by_cases hj4 : j = 4
        · subst hj4; rw [if_pos ⟨rfl, rfl⟩]; exact hnew
        · rw [if_neg (by rintro ⟨_, h⟩; exact hj4 h), h.other _ _ (by rintro ⟨_, h⟩; omega)]
          have hl : l[k]? = some (l.getD k default) := by rw [List.getD_eq_getElem?_getD, List.getElem?_eq_getElem hk]; rfl
          have hj8 : j < 8 := by have := (List.getElem?_eq_some_iff.1 hj).1; simpa [eMeth, AV.cells] using this
          match j, hj8 with
          | 0, _ => exact hc k _ 0 _ (hm k _ hl) rfl
          | 1, _ => exact hc k _ 1 _ (hm k _ hl) rfl
          | 2, _ => exact hc k _ 2 _ (hm k _ hl) rfl
          | 3, _ => exact hc k _ 3 _ (hm k _ hl) rfl
          | 4, _ => exact absurd rfl hj4
          | 5, _ => exact hc k _ 5 _ (hm k _ hl) rfl
          | 6, _ => exact hc k _ 6 _ (hm k _ hl) rfl
          | 7, _ => exact hc k _ 7 _ (hm k _ hl) rfl
      · rw [if_neg hik] at he
        cases hq : l[i]? with
        | none => simp [hq] at he
        | some m =>
          simp [hq] at he
          subst he
          have hj8 : j < 8 := by have := (List.getElem?_eq_some_iff.1 hj).1; simpa [eMeth, AV.cells] using this
          rw [if_neg (by rintro ⟨h, _⟩; exact hik h.symm), h.other _ _ (by rintro ⟨_, h⟩; omega)]
          exact hc i _ j c (hm i m hq) hj
    · intro i e j c he hj
      have plain : ∀ (i j : Nat) (m : Meth) (c : AV), l[i]? = some m → (eMeth m).cells[j]? = some c → VR (Old w') (fun _ => none) w' c (f i j) := by
        intro i j m c hi hj
        have hvv := hv i _ j c (hm i m hi) hj
        match j with
        | 0 => injection hj with hj; subst hj; exact h.ints int_T hvv
        | 1 => injection hj with hj; subst hj; exact h.ints int_T hvv
        | 2 => injection hj with hj; subst hj; rw [hvv.int_inv]; exact .int _ _
        | 3 => injection hj with hj; subst hj; rw [hvv.int_inv]; exact .int _ _
        | 4 => injection hj with hj; subst hj; exact h.ints int_N hvv
        | 5 => injection hj with hj; subst hj; rw [hvv.int_inv]; exact .int _ _
        | 6 => injection hj with hj; subst hj; rw [hvv.int_inv]; exact .int _ _
        | 7 => injection hj with hj; subst hj; exact h.ints int_I hvv
        | j + 8 => simp [eMeth, AV.cells] at hj
      rw [List.getElem?_map, List.getElem?_set] at he
      by_cases hik : k = i
      · subst hik
        rw [if_pos rfl, if_pos hk] at he
        simp at he
        subst he
        have hl : l[k]? = some (l.getD k default) := by rw [List.getD_eq_getElem?_getD, List.getElem?_eq_getElem hk]; rfl
        by_cases hj4 : j = 4
        · subst hj4; rw [if_pos ⟨rfl, rfl⟩]; injection hj with hj; subst hj; exact hx
        · rw [if_neg (by rintro ⟨_, h⟩; exact hj4 h)]
          have hj8 : j < 8 := by have := (List.getElem?_eq_some_iff.1 hj).1; simpa [eMeth, AV.cells] using this
          match j, hj8 with
          | 0, _ => injection hj with hj; subst hj; exact plain k 0 _ _ hl rfl
          | 1, _ => injection hj with hj; subst hj; exact plain k 1 _ _ hl rfl
          | 2, _ => injection hj with hj; subst hj; exact plain k 2 _ _ hl rfl
          | 3, _ => injection hj with hj; subst hj; exact plain k 3 _ _ hl rfl
          | 4, _ => exact absurd rfl hj4
          | 5, _ => injection hj with hj; subst hj; exact plain k 5 _ _ hl rfl
          | 6, _ => injection hj with hj; subst hj; exact plain k 6 _ _ hl rfl
          | 7, _ => injection hj with hj; subst hj; exact plain k 7 _ _ hl rfl
      · rw [if_neg hik] at he
        cases hq : l[i]? with
        | none => simp [hq] at he
        | some m =>
          simp [hq] at he
          subst he
          rw [if_neg (by rintro ⟨h, _⟩; exact hik h.symm)]
          exact plain i j m c hq hj

/-- An image with one method's code turned. -/
theorem Turn.img {w w' b off k v} (h : Turn w w' b (off + (k * 8 + 4)) v) {m : Img} {A : Array Value} {len cap : Nat} (hk : k < m.methods.length) {code : List Ins} {x : Value} (hnew : w'.cell? ⟨b, off + (k * 8 + 4), none⟩ = some x) (hx : VR (Old w') (fun _ => none) w' (eSl 3 eIns code) x)
    (hA : A.getD 3 undef = .slice (some ⟨b, off, none⟩) len cap) (hv : VR (Old w) (fun _ => none) w (eImg m) (.agg A)) :
    VR (Old w') (fun _ => none) w' (eImg { m with methods := m.methods.set k { m.methods.getD k default with code := code } }) (.agg A) := by
  cases hv with
  | agg _ _ hsz hv =>
    have v3 := hv 3 _ rfl
    rw [hA] at v3
    have hcell : ∀ j c, (eMeth (m.methods.getD k default)).cells[j]? = some c → ∃ y, w.cell? ⟨b, off + (k * 8 + j), none⟩ = some y ∧ VR (Old w) (fun _ => none) w c y := by
      intro j c hj
      have v3' := v3
      unfold eSl at v3'
      generalize hes : m.methods.map eMeth = es at v3'
      cases v3' with
      | vsl0 => simp at hes; rw [hes] at hk; simp at hk
      | vsl _ _ _ _ _ f hF hcap hsz hc hv =>
        have he : es[k]? = some (eMeth (m.methods.getD k default)) := by rw [← hes, List.getElem?_map, List.getD_eq_getElem?_getD, List.getElem?_eq_getElem hk]; rfl
        exact ⟨_, hc k _ j c he hj, hv k _ j c he hj⟩
    obtain ⟨y5, c5, v5⟩ := hcell 5 _ rfl
    obtain ⟨y3, c3, v3'⟩ := hcell 3 _ rfl
    rw [v5.int_inv] at c5
    rw [v3'.int_inv] at c3
    refine .agg _ _ hsz fun j c hj => ?_
    match j with
    | 0 => injection hj with hj; subst hj; exact h.classes c5 (by omega) (by rw [show off + (k * 8 + 4) - 1 = off + (k * 8 + 3) by omega]; exact c3) (hv 0 _ rfl)
    | 1 => injection hj with hj; subst hj; exact h.ints int_T (hv 1 _ rfl)
    | 2 => injection hj with hj; subst hj; exact h.ints int_32 (hv 2 _ rfl)
    | 3 => injection hj with hj; subst hj; rw [hA]; exact h.methods hk hnew hx v3
    | 4 => injection hj with hj; subst hj; exact h.ints int_I (hv 4 _ rfl)
    | 5 => injection hj with hj; subst hj; rw [(hv 5 _ rfl).int_inv]; exact .int _ _
    | 6 => injection hj with hj; subst hj; rw [(hv 6 _ rfl).int_inv]; exact .int _ _
    | j + 7 => simp [eImg] at hj

/-! ### Writing one cell -/
theorem turn_set {w : World} {b off : Nat} {C : Array Value} {t : TypeId} {fr : Nat × Nat} {v x : Value} (hb : w.heap[b]? = some (.cells C t fr)) (hv : C[off]? = some v) (hs : ∃ a l c, v = .slice a l c) :
    Turn w (w.setCells b off [x]) b off v ∧ (w.setCells b off [x]).cell? ⟨b, off, none⟩ = some x ∧ (w.setCells b off [x]).heap[b]? = some (.cells (C.setIfInBounds off x) t fr) ∧
      (∀ k, k ≠ b → (w.setCells b off [x]).heap[k]? = w.heap[k]?) ∧ (w.setCells b off [x]).os = w.os ∧ (w.setCells b off [x]).tape = w.tape ∧ (w.setCells b off [x]).output = w.output := by
  have h := setCells_wrote [x] 0 off w b C t fr hb
  rw [Nat.add_zero] at h
  have hC : ((([x] : List Value).zipIdx 0).foldl (fun cs (p : Value × Nat) => cs.setIfInBounds (off + p.2) p.1) C) = C.setIfInBounds off x := rfl
  rw [hC] at h
  have hlt : off < C.size := (Array.getElem?_eq_some_iff.1 hv).1
  refine ⟨⟨h.size, fun b' o' hne => ?_, ?_, hs⟩, ?_, h.new, h.old, h.os, h.tape, h.output⟩
  · by_cases e : b' = b
    · subst e
      have ho : o' ≠ off := fun e => hne ⟨rfl, e⟩
      simp only [World.cell?, h.new, hb, Option.isSome_none, Bool.false_eq_true, if_false]
      rw [Array.getElem?_setIfInBounds_ne (Ne.symm ho)]
    · simp only [World.cell?, h.old b' e]
  · simp only [World.cell?, hb, Option.isSome_none, Bool.false_eq_true, if_false]; exact hv
  · simp only [World.cell?, h.new, Option.isSome_none, Bool.false_eq_true, if_false]
    rw [Array.getElem?_setIfInBounds]
    simp [hlt]

theorem compOpers_cons {P : Program} {N : Nat} {ops : Array Oper} {os : List Oper} {h : AOper} {hs : List AOper} (hc : compOpers P N ops os (h :: hs) = some (h :: hs)) : ∃ o os', os = o :: os' ∧ compOper P N ops o h.at_ h.lo h.o = some h ∧ compOpers P N ops os' hs = some hs := by
  cases os with
  | nil => simp [compOpers] at hc
  | cons o os =>
    simp only [compOpers] at hc
    obtain ⟨a, h1, hc⟩ := bind_some hc
    obtain ⟨l, h2, hc⟩ := map_some' hc
    injection hc with e1 e2
    subst e1; subst e2
    exact ⟨o, os, rfl, h1, h2⟩
theorem compOpers_nil {P : Program} {N : Nat} {ops : Array Oper} {os : List Oper} (hc : compOpers P N ops os [] = some []) : os = [] := by
  cases os with
  | nil => rfl
  | cons o os => simp [compOpers] at hc

def nthC : Nat → Code → Code
  | 0, c => c
  | n + 1, .seq _ b => nthC n b
  | _, c => c
def fstC : Code → Code
  | .seq a _ => a
  | c => c
def freeC : Code → Bool
  | .region _ _ d => !d
  | _ => false

/-- 'x.f = v': a region that writes one cell of memory, exactly. -/
theorem wp_setField {P : Program} {N : Nat} {code : Code} {tp tv ta tb tc td k : Nat} (hc : compC P N code (.reg 0 [Ab.o ta (.mv (.t tp)), Ab.o tb (.mv (.t tv)), Ab.o tc (.nc (.t ta)), Ab.o td (.fa (.t tc) k), Ab.os (.st 1 (.t td) (.t tb))]) = some (.reg 0 [Ab.o ta (.mv (.t tp)), Ab.o tb (.mv (.t tv)), Ab.o tc (.nc (.t ta)), Ab.o td (.fa (.t tc) k), Ab.os (.st 1 (.t td) (.t tb))]))
    (hf : freeC code = true) {a : Act} {w : World} {bk off : Nat} {x : Value} (hN : a.tmps.size = N) (hd : a.defers = []) (hbk : bk < w.heap.size) (hp : a.tmps.getD tp undef = .pointer (some ⟨bk, off, none⟩)) (hv : a.tmps.getD tv undef = x) (h1 : oneCell x = true)
    (hcell : (w.cell? ⟨bk, off + k, none⟩).isSome = true) (hfz : w.frozen? ⟨bk, off + k, none⟩ = false) (hne : ta ≠ tb ∧ ta ≠ tc ∧ ta ≠ td ∧ tb ≠ tc ∧ tb ≠ td ∧ tc ≠ td ∧ tv ≠ ta ∧ tp ≠ tv) {Q : Exit → Act → World → Prop}
    (kk : ∀ a', a'.tmps.size = N → a'.defers = [] → (∀ t, t ≠ ta → t ≠ tb → t ≠ tc → t ≠ td → a'.tmps.getD t undef = a.tmps.getD t undef) → Q .normal a' (w.setCells bk (off + k) [x])) : code.wp P Q a w := by
  obtain ⟨id, ops, draw, rfl, hcs⟩ := Code.reg_inv hc
  have hdr : draw = false := by simpa [freeC] using hf
  subst hdr
  obtain ⟨q1, os1, e1, g1, hcs⟩ := compOpers_cons hcs
  obtain ⟨q2, os2, rfl, g2, hcs⟩ := compOpers_cons hcs
  obtain ⟨q3, os3, rfl, g3, hcs⟩ := compOpers_cons hcs
  obtain ⟨q4, os4, rfl, g4, hcs⟩ := compOpers_cons hcs
  obtain ⟨q5, os5, rfl, g5, hcs⟩ := compOpers_cons hcs
  obtain rfl := compOpers_nil hcs
  refine wp_region_list ?_
  rw [e1]
  have dl : ∀ {o : Oper} {at_ : Option Nat} {lo : Bool} {hn : AOp} {d : Nat} {p : AOp}, compOper P N ops o at_ lo hn = some (Ab.o d p) → d < N := by
    intro o at_ lo hn d p h
    obtain ⟨_, _, h3, h4⟩ := compOper_inv h rfl
    rw [h3] at h4
    simpa [dstOk] using h4
  have l1 := dl g1; have l2 := dl g2; have l3 := dl g3; have l4 := dl g4
  obtain ⟨n1, n2, n3, n4, n5, n6, n7, n8⟩ := hne
  let env : Nat → AV := fun t => if t = tp then .ref 0 off else if t = tv then .con x else .any
  have e_tp : env tp = .ref 0 off := by simp [env]
  have e_tv : env tv = .con x := by simp [env, Ne.symm n8]
  have hR := run1 w bk hbk
  have hr : RR (Old w) (one bk) w N env a := by
    refine ⟨fun t => ?_, hN, hd⟩
    simp only [env]
    split
    · rename_i e; subst e; rw [hp]; exact .ref _ _ _ rfl
    · split
      · rename_i e; subst e; rw [hv]; exact .con _
      · exact .any _
  refine wpl_v (s := ⟨env, [.dead]⟩) hR hr g1 rfl (v := .ref 0 off) (by simp only [vop, ov, rd, e_tp, ungd]) fun y1 v1 hr1 => ?_
  refine wpl_v (s := ⟨upd env (some ta) (.ref 0 off), [.dead]⟩) hR hr1 g2 rfl (v := .con x) (by simp [vop, ov, rd, upd, n7, e_tv, ungd]) fun y2 v2 hr2 => ?_
  refine wpl_v (s := ⟨upd (upd env (some ta) (.ref 0 off)) (some tb) (.con x), [.dead]⟩) hR hr2 g3 rfl (v := .ref 0 off) (by simp [vop, ov, rd, upd, ap1, n1, ungd, anc]) fun y3 v3 hr3 => ?_
  refine wpl_v (s := ⟨upd (upd (upd env (some ta) (.ref 0 off)) (some tb) (.con x)) (some tc) (.ref 0 off), [.dead]⟩) hR hr3 g4 rfl (v := .ref 0 (off + k)) (by simp [vop, ov, rd, upd, ap1, ungd, afa]) fun y4 v4 hr4 => ?_
  have h70 : y4 = .pointer (some ⟨bk, off + k, none⟩) := by
    cases v4 with
    | ref _ _ b h => simp [one] at h; subst h; rfl
  have h68 : y2 = x := by cases v2; rfl
  have s1 : (a.put (some ta) y1).tmps.size = N := by rw [aput_size, hN]
  have s2 : ((a.put (some ta) y1).put (some tb) y2).tmps.size = N := by rw [aput_size, s1]
  have s3 : (((a.put (some ta) y1).put (some tb) y2).put (some tc) y3).tmps.size = N := by rw [aput_size, s2]
  have s4 : ((((a.put (some ta) y1).put (some tb) y2).put (some tc) y3).put (some td) y4).tmps.size = N := by rw [aput_size, s3]
  refine wpl_st g5 (bk := bk) (off := off + k) (x := x) ?_ ?_ h1 hcell hfz ?_
  · rw [aput_self _ _ _ (by rw [s3]; exact l4), h70]
  · rw [aput_get _ _ _ _ n5, aput_get _ _ _ _ n4, aput_self _ _ _ (by rw [s1]; exact l2), h68]
  · refine kk _ s4 (by simp only [aput_defers, hd]) fun t m1 m2 m3 m4 => ?_
    rw [aput_get _ _ _ _ m4, aput_get _ _ _ _ m3, aput_get _ _ _ _ m2, aput_get _ _ _ _ m1]

theorem put_turn (a b : Int) : ∀ (l : List Ins) (k : Nat), k < l.length → put (put (flat eIns l) (k * 3 + 1) [.int .i64 a]) (k * 3 + 2) [.int .i64 b] = flat eIns (l.set k ⟨(l.getD k default).op, a, b⟩)
  | [], k, h => by simp at h
  | y :: l, 0, h => by simp [put, flat, eIns, AV.cells]
  | y :: l, k + 1, h => by
    have ih := put_turn a b l k (by simpa using h)
    have e : ∀ (cs : List AV) (n : Nat) (v : AV), put ([.int .i64 y.op, .int .i64 y.a, .int .i64 y.b] ++ cs) (3 + n) [v] = [.int .i64 y.op, .int .i64 y.a, .int .i64 y.b] ++ put cs n [v] := by
      intro cs n v
      simp [put, Nat.add_comm 3 n, List.take_succ_cons]
    have e1 : (k + 1) * 3 + 1 = 3 + (k * 3 + 1) := by omega
    have e2 : (k + 1) * 3 + 2 = 3 + (k * 3 + 2) := by omega
    rw [flat_cons, show (eIns y).cells = [.int .i64 y.op, .int .i64 y.a, .int .i64 y.b] from rfl, e1, e2, e, e, ih, List.set_cons_succ, flat_cons]
    rfl

end Go.Proofs.Yteelkalenpbmmaa.Ab

/- How the heap may turn: a block made, killed, written, named anew. -/
import Derived.Test.YteelkalenpbmmaaAbs6
set_option linter.unusedVariables false
set_option linter.unusedSimpArgs false
namespace Go.Proofs.Yteelkalenpbmmaa.Ab

def iset (ι : Nat → Option Nat) (id b : Nat) : Nat → Option Nat := fun k => if k = id then some b else ι k

/-- 'H'' is 'H' with a new live block. -/
structure NewH (H : Heap) (id : Nat) (cs : List AV) (H' : Heap) : Prop where
  get : ∀ j : Nat, H'[j]? = if j = id then some (.live cs) else H[j]?
  free : H[id]? = none ∨ H[id]? = some .res

theorem newAt_NewH {base : Nat} {H : Heap} {at_ : Option Nat} {cs : List AV} (ok : (newAt base H at_ cs).2.2 = true) : NewH H (newAt base H at_ cs).1 cs (newAt base H at_ cs).2.1 := by
  cases at_ with
  | none =>
    refine ⟨fun j => ?_, .inl (by simp [newAt])⟩
    show (H ++ [.live cs])[j]? = if j = H.length then some (.live cs) else H[j]?
    by_cases e : j = H.length
    · subst e; simp
    · rw [if_neg e]
      rcases Nat.lt_or_ge j H.length with h | h
      · rw [List.getElem?_append_left h]
      · rw [List.getElem?_eq_none (by simp; omega), List.getElem?_eq_none h]
  | some k =>
    simp only [newAt] at ok
    split at ok
    · rename_i hr
      refine ⟨fun j => ?_, .inr hr⟩
      show (H.set (base + k) (.live cs))[j]? = if j = base + k then some (.live cs) else H[j]?
      by_cases e : j = base + k
      · subst e
        have hlt := (List.getElem?_eq_some_iff.1 hr).1
        simp [hlt]
      · rw [if_neg e, List.getElem?_set_ne (Ne.symm e)]
    · cases ok

theorem NewH.none {F ι H w id cs H'} (h : HRel F ι H w) (n : NewH H id cs H') : ι id = none := by
  cases hi : ι id with
  | none => rfl
  | some b =>
    obtain ⟨_, e, he, hne⟩ := h.dom id b hi
    rcases n.free with hf | hf
    · rw [hf] at he; cases he
    · rw [hf] at he; injection he with he; exact absurd he.symm hne

/-- A block is no more. -/
theorem Run.kill {O F0 w0 F ι H w} (h : Run O F0 w0 F ι H w) (id : Nat) (cs : List AV) (hl : H[id]? = some (.live cs)) : Run O F0 w0 F ι (H.set id .dead) w := by
  have hg : ∀ (j : Nat) (cs' : List AV), (H.set id .dead)[j]? = some (.live cs') → j ≠ id ∧ H[j]? = some (.live cs') := by
    intro j cs' hj
    by_cases e : j = id
    · subst e
      have hlt := (List.getElem?_eq_some_iff.1 hl).1
      rw [List.getElem?_set_self hlt] at hj
      cases hj
    · rw [List.getElem?_set_ne (Ne.symm e)] at hj
      exact ⟨e, hj⟩
  refine ⟨⟨fun j cs' hj => h.h.live j cs' (hg j cs' hj).2, fun i j cs1 cs2 b h1 h2 => h.h.inj i j cs1 cs2 b (hg i cs1 h1).2 (hg j cs2 h2).2, h.h.frz, fun j b hj => ?_⟩, h.size, h.os, h.tape, h.output, h.keep, h.shape, fun j cs' b hj => h.own j cs' b (hg j cs' hj).2, h.frz⟩
  obtain ⟨h1, e, he, hne⟩ := h.h.dom j b hj
  refine ⟨h1, ?_⟩
  by_cases ej : j = id
  · subst ej
    have hlt := (List.getElem?_eq_some_iff.1 hl).1
    exact ⟨.dead, by rw [List.getElem?_set_self hlt], by simp⟩
  · exact ⟨e, by rw [List.getElem?_set_ne (Ne.symm ej)]; exact he, hne⟩

/-- A new block of the model, behind all others. -/
structure Alloc (w w1 : World) (C : Array Value) (t : TypeId) (fr : Nat × Nat) : Prop where
  size : w1.heap.size = w.heap.size + 1
  old : ∀ k, k < w.heap.size → w1.heap[k]? = w.heap[k]?
  new : w1.heap[w.heap.size]? = some (.cells C t fr)
  os : w1.os = w.os
  tape : w1.tape = w.tape
  output : w1.output = w.output

theorem Alloc.of (w : World) (C : Array Value) (t : TypeId) : Alloc w (w.alloc (.cells C t)) C t (0, 0) :=
  ⟨by simp, fun k hk => heap_alloc_old w _ k hk, heap_alloc_new w _, rfl, rfl, rfl⟩
theorem Alloc.drew {w w1 C t fr} (h : Alloc w.drew w1 C t fr) : Alloc w w1 C t fr := ⟨h.size, h.old, h.new, h.os, h.tape, h.output⟩

theorem Alloc.grow {w w1 C t fr F ι} (h : Alloc w w1 C t fr) (hF : ∀ b, F b → b < w.heap.size) {ι'} (hi : ∀ id b, ι id = some b → ι' id = some b) : Grow F ι w F ι' w1 :=
  ⟨fun _ h => h, hi, by rw [h.size]; omega, fun b hb => h.old b (hF b hb), fun b hb => by simp only [World.shape?]; rw [h.old b hb]⟩

theorem Run.alloc {O F0 w0 F ι H w} (h : Run O F0 w0 F ι H w) {w1 C t fr} (ha : Alloc w w1 C t fr) {id cs H'} (hn : NewH H id cs H') (hle : cs.length ≤ C.size) (hfr : ∀ j, j < C.size → ¬ (fr.1 ≤ j ∧ j < fr.2))
    (hv : ∀ (j : Nat) (c : AV), cs[j]? = some c → VR F ι w c (C.getD j undef)) :
    Grow F ι w F (iset ι id w.heap.size) w1 ∧ Run O F0 w0 F (iset ι id w.heap.size) H' w1 := by
  have hnone := hn.none h.h
  have g : Grow F ι w F (iset ι id w.heap.size) w1 := ha.grow h.h.frz (fun k b hk => by
    unfold iset
    split
    · rename_i e; subst e; rw [hnone] at hk; cases hk
    · exact hk)
  refine ⟨g, ⟨⟨fun j cs' hj => ?_, fun i j cs1 cs2 b h1 h2 e1 e2 => ?_, fun b hb => by rw [ha.size]; have := h.h.frz b hb; omega, fun j b hj => ?_⟩, by have := h.size; rw [ha.size]; omega, ha.os.trans h.os, ha.tape.trans h.tape, ha.output.trans h.output,
    fun b hb hO => by rw [ha.old b (Nat.lt_of_lt_of_le hb h.size)]; exact h.keep b hb hO, fun b hb => (g.shape b (Nat.lt_of_lt_of_le hb h.size)).trans (h.shape b hb), fun j cs' b hj e => ?_, h.frz⟩⟩
  · rw [hn.get] at hj
    by_cases e : j = id
    · subst e
      rw [if_pos rfl] at hj
      injection hj with hj
      injection hj with hj
      subst hj
      refine .inr ⟨w.heap.size, C, t, fr, by simp [iset], ha.new, fun hF => by have := h.h.frz _ hF; omega, hle, hfr, fun k c hk => ?_⟩
      have hlt := (List.getElem?_eq_some_iff.1 hk).1
      exact ⟨_, getD_of (by omega), (hv k c hk).grow g⟩
    · rw [if_neg e] at hj
      rcases h.h.live j cs' hj with ⟨h1, h2⟩ | ⟨b, C', t', fr', hi, hw, hF, hl, hf, hvv⟩
      · exact .inl ⟨h1, by simp [iset, e, h2]⟩
      · have hb := (h.h.dom j b hi).1
        refine .inr ⟨b, C', t', fr', by simp [iset, e, hi], by rw [ha.old b hb]; exact hw, hF, hl, hf, fun k c hk => ?_⟩
        obtain ⟨x, hx, hvx⟩ := hvv k c hk
        exact ⟨x, hx, hvx.grow g⟩
  · rw [hn.get] at h1 h2
    unfold iset at e1 e2
    by_cases ei : i = id
    · by_cases ej : j = id
      · rw [ei, ej]
      · rw [if_pos ei] at e1
        rw [if_neg ej] at e2
        injection e1 with e1
        have := (h.h.dom j b e2).1
        omega
    · by_cases ej : j = id
      · rw [if_neg ei] at e1
        rw [if_pos ej] at e2
        injection e2 with e2
        have := (h.h.dom i b e1).1
        omega
      · rw [if_neg ei] at h1 e1
        rw [if_neg ej] at h2 e2
        exact h.h.inj i j cs1 cs2 b h1 h2 e1 e2
  · unfold iset at hj
    by_cases e : j = id
    · rw [if_pos e] at hj
      injection hj with hj
      subst hj
      exact ⟨by rw [ha.size]; omega, _, by rw [hn.get, if_pos e], by simp⟩
    · rw [if_neg e] at hj
      obtain ⟨h1, x, h2, h3⟩ := h.h.dom j b hj
      exact ⟨by rw [ha.size]; omega, x, by rw [hn.get, if_neg e]; exact h2, h3⟩
  · unfold iset at e
    by_cases ej : j = id
    · rw [if_pos ej] at e
      injection e with e
      subst e
      exact .inr h.size
    · rw [if_neg ej] at e
      rw [hn.get, if_neg ej] at hj
      exact h.own j cs' b hj e

/-- A new block without cells, that lies nowhere. -/
theorem Run.virt {O F0 w0 F ι H w} (h : Run O F0 w0 F ι H w) {id H'} (hn : NewH H id [] H') : Run O F0 w0 F ι H' w := by
  have hnone := hn.none h.h
  have hg : ∀ (j : Nat) (cs : List AV), H'[j]? = some (.live cs) → (j = id ∧ cs = []) ∨ (j ≠ id ∧ H[j]? = some (.live cs)) := by
    intro j cs hj
    rw [hn.get] at hj
    by_cases e : j = id
    · rw [if_pos e] at hj
      injection hj with hj
      injection hj with hj
      exact .inl ⟨e, hj.symm⟩
    · rw [if_neg e] at hj
      exact .inr ⟨e, hj⟩
  refine ⟨⟨fun j cs hj => ?_, fun i j cs1 cs2 b h1 h2 e1 e2 => ?_, h.h.frz, fun j b hj => ?_⟩, h.size, h.os, h.tape, h.output, h.keep, h.shape, fun j cs b hj e => ?_, h.frz⟩
  · rcases hg j cs hj with ⟨rfl, rfl⟩ | ⟨_, h1⟩
    · exact .inl ⟨rfl, hnone⟩
    · exact h.h.live j cs h1
  · rcases hg i cs1 h1 with ⟨rfl, _⟩ | ⟨_, h3⟩
    · rw [hnone] at e1; cases e1
    · rcases hg j cs2 h2 with ⟨rfl, _⟩ | ⟨_, h4⟩
      · rw [hnone] at e2; cases e2
      · exact h.h.inj i j cs1 cs2 b h3 h4 e1 e2
  · obtain ⟨h1, x, h2, h3⟩ := h.h.dom j b hj
    have hne : j ≠ id := fun e => by subst e; rw [hnone] at hj; cases hj
    exact ⟨h1, x, by rw [hn.get, if_neg hne]; exact h2, h3⟩
  · rcases hg j cs hj with ⟨rfl, _⟩ | ⟨_, h4⟩
    · rw [hnone] at e; cases e
    · exact h.own j cs b h4 e

/-- One block of the model written. -/
structure Wrote (w w1 : World) (b : Nat) (C : Array Value) (t : TypeId) (fr : Nat × Nat) : Prop where
  size : w1.heap.size = w.heap.size
  old : ∀ k, k ≠ b → w1.heap[k]? = w.heap[k]?
  new : w1.heap[b]? = some (.cells C t fr)
  os : w1.os = w.os
  tape : w1.tape = w.tape
  output : w1.output = w.output

theorem Run.write {O F0 w0 F ι H w} (h : Run O F0 w0 F ι H w) {id cs b C t fr} (hl : H[id]? = some (.live cs)) (hi : ι id = some b) (hb : w.heap[b]? = some (.cells C t fr)) {w1 C'} (ha : Wrote w w1 b C' t fr) (hC : C'.size = C.size)
    {cs' : List AV} (hle : cs'.length ≤ C'.size) (hv : ∀ (j : Nat) (c : AV), cs'[j]? = some c → VR F ι w c (C'.getD j undef)) :
    Grow F ι w F ι w1 ∧ Run O F0 w0 F ι (H.set id (.live cs')) w1 := by
  have hlt := (List.getElem?_eq_some_iff.1 hl).1
  have hblt : b < w.heap.size := (Array.getElem?_eq_some_iff.1 hb).1
  have hFb : ¬ F b ∧ ∀ j, j < C.size → ¬ (fr.1 ≤ j ∧ j < fr.2) := by
    rcases h.h.live id cs hl with ⟨_, h2⟩ | ⟨b', C2, t2, fr2, hi2, hw2, hF2, _, hf2, _⟩
    · rw [h2] at hi; cases hi
    · rw [hi] at hi2
      injection hi2 with hi2
      subst hi2
      rw [hb] at hw2
      injection hw2 with hw2
      injection hw2 with e1 e2 e3
      subst e1; subst e3
      exact ⟨hF2, hf2⟩
  have hsh : w1.shape? b = w.shape? b := by simp only [World.shape?, ha.new, hb, hC]
  have g : Grow F ι w F ι w1 := ⟨fun _ h => h, fun _ _ h => h, by rw [ha.size]; exact Nat.le_refl _, fun k hk => ha.old k (fun e => by subst e; exact hFb.1 hk), fun k hk => by
    by_cases e : k = b
    · subst e; exact hsh
    · simp only [World.shape?]; rw [ha.old k e]⟩
  have hg : ∀ (j : Nat) (cs2 : List AV), (H.set id (.live cs'))[j]? = some (.live cs2) → (j = id ∧ cs2 = cs') ∨ (j ≠ id ∧ H[j]? = some (.live cs2)) := by
    intro j cs2 hj
    by_cases e : j = id
    · subst e
      rw [List.getElem?_set_self hlt] at hj
      injection hj with hj
      injection hj with hj
      exact .inl ⟨rfl, hj.symm⟩
    · rw [List.getElem?_set_ne (Ne.symm e)] at hj
      exact .inr ⟨e, hj⟩
  have hlive : ∀ (j : Nat) (cs2 : List AV), (H.set id (.live cs'))[j]? = some (.live cs2) → ∃ cs3, H[j]? = some (.live cs3) := by
    intro j cs2 hj
    rcases hg j cs2 hj with ⟨rfl, _⟩ | ⟨_, h2⟩
    · exact ⟨cs, hl⟩
    · exact ⟨cs2, h2⟩
  refine ⟨g, ⟨⟨fun j cs2 hj => ?_, fun i j cs1 cs2 b h1 h2 e1 e2 => ?_, fun k hk => by rw [ha.size]; exact h.h.frz k hk, fun j k hj => ?_⟩, by rw [ha.size]; exact h.size, ha.os.trans h.os, ha.tape.trans h.tape, ha.output.trans h.output, fun k hk hO => ?_,
    fun k hk => (g.shape k (Nat.lt_of_lt_of_le hk h.size)).trans (h.shape k hk), fun j cs2 k hj e => ?_, h.frz⟩⟩
  · rcases hg j cs2 hj with ⟨rfl, rfl⟩ | ⟨hne, h2⟩
    · refine .inr ⟨b, C', t, fr, hi, ha.new, hFb.1, hle, by rw [hC]; exact hFb.2, fun k c hk => ?_⟩
      have hklt := (List.getElem?_eq_some_iff.1 hk).1
      exact ⟨_, getD_of (by omega), (hv k c hk).grow g⟩
    · rcases h.h.live j cs2 h2 with h3 | ⟨b2, C2, t2, fr2, hi2, hw2, hF2, hl2, hf2, hv2⟩
      · exact .inl h3
      · have hne2 : b2 ≠ b := fun e => by subst e; exact hne (h.h.inj j id cs2 cs _ h2 hl hi2 hi)
        refine .inr ⟨b2, C2, t2, fr2, hi2, by rw [ha.old b2 hne2]; exact hw2, hF2, hl2, hf2, fun k c hk => ?_⟩
        obtain ⟨x, hx, hvx⟩ := hv2 k c hk
        exact ⟨x, hx, hvx.grow g⟩
  · obtain ⟨c1, h1'⟩ := hlive i cs1 h1
    obtain ⟨c2, h2'⟩ := hlive j cs2 h2
    exact h.h.inj i j c1 c2 b h1' h2' e1 e2
  · obtain ⟨h1, x, h2, h3⟩ := h.h.dom j k hj
    refine ⟨by rw [ha.size]; exact h1, ?_⟩
    by_cases e : j = id
    · exact ⟨.live cs', by rw [e, List.getElem?_set_self hlt], by simp⟩
    · exact ⟨x, by rw [List.getElem?_set_ne (Ne.symm e)]; exact h2, h3⟩
  · have hne : k ≠ b := fun e => by
      subst e
      rcases h.own id cs k hl hi with h1 | h1
      · exact hO h1
      · omega
    rw [ha.old k hne]
    exact h.keep k hk hO
  · obtain ⟨c2, h2'⟩ := hlive j cs2 hj
    exact h.own j c2 k h2' e

/-- A block under a new name. -/
theorem Run.rename {O F0 w0 F ι H w} (h : Run O F0 w0 F ι H w) {id cs b} (hl : H[id]? = some (.live cs)) (hi : ι id = some b) {id' H'} (hn : NewH (H.set id .dead) id' cs H') :
    Grow F ι w F (iset ι id' b) w ∧ Run O F0 w0 F (iset ι id' b) H' w := by
  have hk := h.kill id cs hl
  have hnone := hn.none hk.h
  have hlt := (List.getElem?_eq_some_iff.1 hl).1
  have hne : id' ≠ id := fun e => by rw [e, hi] at hnone; cases hnone
  have hinc : ∀ k b', ι k = some b' → iset ι id' b k = some b' := fun k b' hk => by
    unfold iset
    split
    · rename_i e; subst e; rw [hnone] at hk; cases hk
    · exact hk
  have g : Grow F ι w F (iset ι id' b) w := ⟨fun _ h => h, hinc, Nat.le_refl _, fun _ _ => rfl, fun _ _ => rfl⟩
  have hg : ∀ (j : Nat) (cs2 : List AV), H'[j]? = some (.live cs2) → (j = id' ∧ cs2 = cs) ∨ (j ≠ id' ∧ j ≠ id ∧ H[j]? = some (.live cs2)) := by
    intro j cs2 hj
    rw [hn.get] at hj
    by_cases e : j = id'
    · rw [if_pos e] at hj
      injection hj with hj
      injection hj with hj
      exact .inl ⟨e, hj.symm⟩
    · rw [if_neg e] at hj
      by_cases e2 : j = id
      · rw [e2, List.getElem?_set_self hlt] at hj; cases hj
      · rw [List.getElem?_set_ne (Ne.symm e2)] at hj
        exact .inr ⟨e, e2, hj⟩
  have hb := (h.h.dom id b hi).1
  refine ⟨g, ⟨⟨fun j cs2 hj => ?_, fun i j cs1 cs2 b2 h1 h2 e1 e2 => ?_, h.h.frz, fun j b2 hj => ?_⟩, h.size, h.os, h.tape, h.output, h.keep, h.shape, fun j cs2 b2 hj e => ?_, h.frz⟩⟩
  · rcases hg j cs2 hj with ⟨rfl, rfl⟩ | ⟨n1, n2, h2⟩
    · rcases h.h.live id cs2 hl with ⟨_, h3⟩ | ⟨b', C2, t2, fr2, hi2, hw2, hF2, hl2, hf2, hv2⟩
      · rw [h3] at hi; cases hi
      · rw [hi] at hi2
        injection hi2 with hi2
        subst hi2
        refine .inr ⟨b, C2, t2, fr2, by simp [iset], hw2, hF2, hl2, hf2, fun k c hk => ?_⟩
        obtain ⟨x, hx, hvx⟩ := hv2 k c hk
        exact ⟨x, hx, hvx.grow g⟩
    · rcases h.h.live j cs2 h2 with ⟨h3, h4⟩ | ⟨b', C2, t2, fr2, hi2, hw2, hF2, hl2, hf2, hv2⟩
      · exact .inl ⟨h3, by simp [iset, n1, h4]⟩
      · refine .inr ⟨b', C2, t2, fr2, hinc _ _ hi2, hw2, hF2, hl2, hf2, fun k c hk => ?_⟩
        obtain ⟨x, hx, hvx⟩ := hv2 k c hk
        exact ⟨x, hx, hvx.grow g⟩
  · rcases hg i cs1 h1 with ⟨rfl, _⟩ | ⟨n1, n2, h3⟩
    · rcases hg j cs2 h2 with ⟨rfl, _⟩ | ⟨m1, m2, h4⟩
      · rfl
      · simp only [iset, if_true] at e1
        simp only [iset, if_neg m1] at e2
        injection e1 with e1
        subst e1
        exact absurd (h.h.inj j id cs2 cs b h4 hl e2 hi) m2
    · rcases hg j cs2 h2 with ⟨rfl, _⟩ | ⟨m1, m2, h4⟩
      · simp only [iset, if_true] at e2
        simp only [iset, if_neg n1] at e1
        injection e2 with e2
        subst e2
        exact absurd (h.h.inj i id cs1 cs b h3 hl e1 hi) n2
      · simp only [iset, if_neg n1] at e1
        simp only [iset, if_neg m1] at e2
        exact h.h.inj i j cs1 cs2 b2 h3 h4 e1 e2
  · by_cases e : j = id'
    · subst e
      simp only [iset, if_true] at hj
      injection hj with hj
      subst hj
      exact ⟨hb, .live cs, by rw [hn.get, if_pos rfl], by simp⟩
    · simp only [iset, if_neg e] at hj
      obtain ⟨h1, x, h2, h3⟩ := hk.h.dom j b2 hj
      exact ⟨h1, x, by rw [hn.get, if_neg e]; exact h2, h3⟩
  · rcases hg j cs2 hj with ⟨rfl, rfl⟩ | ⟨n1, n2, h2⟩
    · simp only [iset, if_true] at e
      injection e with e
      subst e
      exact h.own id cs2 b hl hi
    · simp only [iset, if_neg n1] at e
      exact h.own j cs2 b2 h2 e

end Go.Proofs.Yteelkalenpbmmaa.Ab

/- Operations that turn the heap: each does in the model what it does in the abstract machine. -/
import Derived.Test.YteelkalenpbmmaaAbs7
import Derived.Lib.ConvBytes
set_option linter.unusedVariables false
set_option linter.unusedSimpArgs false
namespace Go.Proofs.Yteelkalenpbmmaa.Ab

theorem setCells_wrote : ∀ (vs : List Value) (n o : Nat) (w : World) (b : Nat) (C : Array Value) (t : TypeId) (fr : Nat × Nat), w.heap[b]? = some (.cells C t fr) →
    Wrote w (w.setCells b (o + n) vs) b ((vs.zipIdx n).foldl (fun cs (p : Value × Nat) => cs.setIfInBounds (o + p.2) p.1) C) t fr
  | [], n, o, w, b, C, t, fr, h => ⟨rfl, fun _ _ => rfl, by simpa [World.setCells] using h, rfl, rfl, rfl⟩
  | v :: vs, n, o, w, b, C, t, fr, h => by
    have h1 : (w.setCell ⟨b, o + n, none⟩ v).heap[b]? = some (.cells (C.setIfInBounds (o + n) v) t fr) := by
      simp [World.setCell, Array.getElem?_modify, h]
    have ih := setCells_wrote vs (n + 1) o _ b _ t fr h1
    rw [World.setCells, List.zipIdx_cons, List.foldl_cons]
    refine ⟨by rw [Nat.add_assoc o n 1, ih.size]; simp, fun k hk => ?_, ih.new, ih.os, ih.tape, ih.output⟩
    rw [Nat.add_assoc o n 1, ih.old k hk]
    exact heap_setCell_other w ⟨b, o + n, none⟩ k v hk

theorem notFrozen {w : World} {b j : Nat} {C t fr} (hb : w.heap[b]? = some (.cells C t fr)) (h : ¬ (fr.1 ≤ j ∧ j < fr.2)) : w.frozen? ⟨b, j, none⟩ = false := by
  obtain ⟨lo, hi⟩ := fr
  simp only [World.frozen?, hb]
  simp only at h
  rw [Bool.and_eq_false_iff, decide_eq_false_iff_not, decide_eq_false_iff_not]
  omega

theorem run_storeCells_row (P : Program) (w : World) (b o : Nat) (C : Array Value) (t : TypeId) (fr : Nat × Nat) (hb : w.heap[b]? = some (.cells C t fr)) (hfr : ∀ j, j < C.size → ¬ (fr.1 ≤ j ∧ j < fr.2)) (vs : List Value) (hle : o + vs.length ≤ C.size)
    (h1 : ∀ v ∈ vs, Ab.oneCell v = true) : (storeCells ⟨b, o, none⟩ vs).run P w = .ok () (w.setCells b o vs) := by
  have := run_storeCells_cells (P := P) b o vs 0 w (fun j hj => by
      simp only [World.cell?, hb, Option.isSome_none, Bool.false_eq_true, if_false]
      rw [Nat.add_zero, getD_of (show o + j < C.size by omega)]; rfl)
    (fun j hj => notFrozen hb (hfr _ (by omega))) (fun v hv => by rw [← oneCell_eq]; exact h1 v hv)
  simpa using this

/-- Cells behind cells that are there are left as they were, and more; content may be shorter than the block. -/
theorem put_prefix {F ι w} {cs vs : List AV} {C : Array Value} {V : List Value} {off : Nat} (hle : cs.length ≤ C.size) (h : ∀ (j : Nat) (c : AV), cs[j]? = some c → VR F ι w c (C.getD j undef)) (k1 : V.length = vs.length) (k2 : ∀ (j : Nat) (c : AV), vs[j]? = some c → VR F ι w c (V.getD j undef)) (hl : off ≤ cs.length)
    (hC : off + vs.length ≤ C.size) : ∀ (j : Nat) (c : AV), (cs.take off ++ vs ++ cs.drop (off + vs.length))[j]? = some c → VR F ι w c (((V.zipIdx 0).foldl (fun cs (p : Value × Nat) => cs.setIfInBounds (off + p.2) p.1) C).getD j undef) := by
  intro j c hj
  rw [Array.getD_eq_getD_getElem?, foldl_set_get off V 0 C j (by omega)]
  simp only [Nat.add_zero]
  by_cases h1 : j < off
  · rw [if_neg (by omega), ← Array.getD_eq_getD_getElem?]
    rw [List.append_assoc, List.getElem?_append_left (by simp; omega), List.getElem?_take, if_pos h1] at hj
    exact h j c hj
  · by_cases h2 : j < off + vs.length
    · rw [if_pos (by omega)]
      rw [List.getElem?_append_left (by simp; omega), List.getElem?_append_right (by simp; omega)] at hj
      have hm : min off cs.length = off := by omega
      rw [List.length_take, hm] at hj
      have := k2 _ c hj
      rwa [List.getD_eq_getElem?_getD] at this
    · rw [if_neg (by omega), ← Array.getD_eq_getD_getElem?]
      rw [List.getElem?_append_right (by simp; omega), List.getElem?_drop] at hj
      have hm : min off cs.length = off := by omega
      simp only [List.length_append, List.length_take, hm] at hj
      rw [show off + vs.length + (j - (off + vs.length)) = j by omega] at hj
      exact h j c hj

theorem all_one {F ι w} {cs : List AV} {V : List Value} (hl : V.length = cs.length) (hv : ∀ (j : Nat) (c : AV), cs[j]? = some c → VR F ι w c (V.getD j undef)) (hc : cs.all AV.isCell = true) : ∀ v ∈ V, Ab.oneCell v = true := by
  intro v hm
  obtain ⟨j, hj, rfl⟩ := List.getElem_of_mem hm
  have h1 : cs[j]? = some (cs[j]'(by omega)) := List.getElem?_eq_getElem (by omega)
  have h2 := hv j _ h1
  rw [List.getD_eq_getElem?_getD, List.getElem?_eq_getElem hj] at h2
  exact h2.oneCell (List.all_eq_true.1 hc _ (List.mem_of_getElem? h1))

section
variable {P : Program} (w : World)

theorem run_append_place (t u ty e eu : TypeId) (i : TypeInfo) (ht : P.underlying t = some (.slice e)) (hu : P.underlying u = some (.slice eu)) (hi : P.info? e = some i) (base : Option Addr) (sLen sCap m c : Nat) (A : Option Addr) (news : List Value)
    (hf : (Builtin.firstCells i.size m (.slice A m c)).run P w = .ok news.toArray w) (hroom : sLen + m ≤ sCap) (w1 : World)
    (hst : ∀ a, base = some a → (storeCells (a.add (sLen * i.size)) news).run P w = .ok () w1) (hn : base = none → w1 = w) :
    (Builtin.append_ #[t, u] ty #[.slice base sLen sCap, .slice A m c]).run P w = .ok (.slice base (sLen + m) sCap) w1 := by
  cases base with
  | none =>
    have := hn rfl
    subst this
    simp [Builtin.append_, run_underlying ht, run_underlying hu, sizeOf, typeInfo, hi, Builtin.lenOf, hroom, hf]
  | some a =>
    have := hst a rfl
    simp [Builtin.append_, run_underlying ht, run_underlying hu, sizeOf, typeInfo, hi, Builtin.lenOf, hroom, hf, this]

theorem run_append_more (t u ty e eu : TypeId) (i : TypeInfo) (z : Value) (ht : P.underlying t = some (.slice e)) (hu : P.underlying u = some (.slice eu)) (hi : P.info? e = some i) (hz : i.zero = some z) (base : Option Addr) (sLen sCap m c : Nat) (A : Option Addr) (olds news : List Value)
    (hf : (Builtin.firstCells i.size m (.slice A m c)).run P w.drew = .ok news.toArray w.drew) (hfo : (Builtin.firstCells i.size sLen (.slice base sLen sCap)).run P w.drew = .ok olds.toArray w.drew)
    (hg : sCap < sLen + m) (h63 : sLen + m ≤ 9223372036854775807) (hfit : Builtin.nextslicecap (sLen + m) sCap * i.bytes ≤ 281474976710656) :
    (Builtin.append_ #[t, u] ty #[.slice base sLen sCap, .slice A m c]).run P w =
      .ok (.slice (some ⟨w.heap.size, 0, none⟩) (sLen + m) (grownCap w (sLen + m) sCap e))
        (w.drew.alloc (.cells (olds.toArray ++ news.toArray ++ Builtin.zeroCells z.cells (grownCap w (sLen + m) sCap e - (sLen + m))) e)) := by
  have hn : ¬ (sLen + m ≤ sCap) := by omega
  have h63' : ¬ (9223372036854775807 < ((sLen : Int) + (m : Int))) := by omega
  have h48' : ¬ (281474976710656 < Builtin.nextslicecap (sLen + m) sCap * i.bytes) := by omega
  simp [Builtin.append_, run_underlying ht, run_underlying hu, sizeOf, typeInfo, zeroValue, hi, hz, Builtin.lenOf, hn, h63', h48', Question.forced, hf, hfo, newRow, grownCap]
  rw [← Array.append_assoc]
  congr 3
  simp
end

theorem first_run {P : Program} {w : World} (size n : Nat) (A : Option Addr) (cap : Nat) (vs : List Value) (hl : vs.length = n * size) (h0 : A = none → n = 0) (h : ∀ ad, A = some ad → ∀ (j : Nat) (u : Value), vs[j]? = some u → w.cell? (ad.add j) = some u) :
    (Builtin.firstCells size n (.slice A n cap)).run P w = .ok vs.toArray w := by
  cases A with
  | none =>
    have := h0 rfl
    subst this
    obtain rfl : vs = [] := List.eq_nil_of_length_eq_zero (by simpa using hl)
    simp [Builtin.firstCells]
  | some ad => exact run_firstCells_some w size n ad n cap vs hl (h ad rfl)

/-- What behind an operation that turns the heap holds. -/
def After (O F0 : Nat → Prop) (w0 : World) (F : Nat → Prop) (ι : Nat → Option Nat) (w : World) (v : AV) (H' : Heap) (x : Value) (w' : World) : Prop :=
  ∃ (F' : Nat → Prop) (ι' : Nat → Option Nat), Grow F ι w F' ι' w' ∧ Run O F0 w0 F' ι' H' w' ∧ VR F' ι' w' v x

/-- A new row of cells. -/
theorem after_alloc {O F0 w0 F ι H w} (hR : Run O F0 w0 F ι H w) {w1 C t fr} (ha : Alloc w w1 C t fr) {base : Nat} {at_ : Option Nat} {cs : List AV} (ok : (newAt base H at_ cs).2.2 = true) (hle : cs.length ≤ C.size) (hfr : ∀ j, j < C.size → ¬ (fr.1 ≤ j ∧ j < fr.2))
    (hv : ∀ (j : Nat) (c : AV), cs[j]? = some c → VR F ι w c (C.getD j undef)) :
    After O F0 w0 F ι w (.ref (newAt base H at_ cs).1 0) (newAt base H at_ cs).2.1 (.pointer (some ⟨w.heap.size, 0, none⟩)) w1 ∧
    ∀ sz len cap, len ≤ cap → cap * sz ≤ C.size → After O F0 w0 F ι w (.rsl sz (newAt base H at_ cs).1 0 len) (newAt base H at_ cs).2.1 (.slice (some ⟨w.heap.size, 0, none⟩) len cap) w1 := by
  obtain ⟨g, r⟩ := hR.alloc ha (newAt_NewH ok) hle hfr hv
  refine ⟨⟨F, _, g, r, .ref _ _ _ (by simp [iset])⟩, fun sz len cap h1 h2 => ⟨F, _, g, r, ?_⟩⟩
  exact .rsl sz _ 0 len w.heap.size cap C.size t (by simp [iset]) h1 (by simp only [World.shape?, ha.new]) (by omega)

theorem zip_lit {α : Type} (z : List α) : ∀ (n : Nat) (j : Nat) (c : α), ((List.replicate n z).flatten)[j]? = some c → z[j % z.length]? = some c ∧ j < n * z.length
  | 0, j, c, h => by simp at h
  | n + 1, j, c, h => by
    rw [List.replicate_succ, List.flatten_cons] at h
    by_cases hj : j < z.length
    · rw [List.getElem?_append_left hj] at h
      rw [Nat.mod_eq_of_lt hj]
      exact ⟨h, by rw [Nat.add_mul]; omega⟩
    · rw [List.getElem?_append_right (by omega)] at h
      obtain ⟨h1, h2⟩ := zip_lit z n _ c h
      have hge : z.length ≤ j := by omega
      rw [← Nat.mod_eq_sub_mod hge] at h1
      exact ⟨h1, by rw [Nat.add_mul]; omega⟩

theorem range_lit {F ι w} {z : List AV} {Z : Array Value} (h : CR F ι w z Z) (n m : Nat) (hnm : n ≤ m) : ∀ (j : Nat) (c : AV), ((List.replicate n z).flatten)[j]? = some c → VR F ι w c (((Array.range (m * z.length)).map (fun i => Z[i % Z.size]!)).getD j undef) := by
  intro j c hj
  obtain ⟨h1, h2⟩ := zip_lit z n j c hj
  have hz := h.1
  have hlt : j < m * z.length := Nat.lt_of_lt_of_le h2 (Nat.mul_le_mul_right _ hnm)
  have h3 := h.2 _ c h1
  have h0 := (List.getElem?_eq_some_iff.1 h1).1
  rw [Array.getD_eq_getD_getElem?, Array.getElem?_map, Array.getElem?_range, if_pos hlt]
  simp only [Option.map_some, Option.getD_some]
  rw [hz, getElem!_pos Z (j % z.length) (by omega)]
  rw [Array.getD_eq_getD_getElem?, Array.getElem?_eq_getElem (by omega)] at h3
  exact h3

theorem wp_value {P : Program} {o : Oper} {a : Act} {w w' : World} {x : Value} {K : Act → World → Prop} {Q : Exit → Act → World → Prop} (hr : (execOp a.eval o).run P w = .ok (.value x) w') (hk : K (a.put o.dst x) w') : o.wp P a w K Q := by
  unfold Oper.wp
  rw [hr]
  exact hk
theorem wp_skip' {P : Program} {o : Oper} {a : Act} {w w' : World} {K : Act → World → Prop} {Q : Exit → Act → World → Prop} (hr : (execOp a.eval o).run P w = .ok .skip w') (hk : K (a.put o.dst undef) w') : o.wp P a w K Q := by
  unfold Oper.wp
  rw [hr]
  exact hk
theorem wp_enter {P : Program} {o : Oper} {a : Act} {w : World} {f : FuncId} {vs : Array Value} {K : Act → World → Prop} {Q : Exit → Act → World → Prop} (hr : (execOp a.eval o).run P w = .ok (.enter f vs) w) {R : Ending → World → Prop} (hc : Calls P f vs w R)
    (hk : ∀ e w', R e w' → ∃ x, e = .returned x ∧ K (a.put o.dst x) w') : o.wp P a w K Q := by
  unfold Oper.wp
  rw [hr]
  refine hc.mono fun e w' he => ?_
  obtain ⟨x, rfl, h⟩ := hk e w' he
  exact h

end Go.Proofs.Yteelkalenpbmmaa.Ab

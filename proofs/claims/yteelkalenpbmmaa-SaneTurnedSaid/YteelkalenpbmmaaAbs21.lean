/- Small facts for walks. -/
import Derived.Test.YteelkalenpbmmaaAbs20
set_option linter.unusedVariables false
namespace Go.Proofs.Yteelkalenpbmmaa.Ab

theorem eTy_pinj {a b : Ty} (h : AV.fptr (eTy a).cells = AV.fptr (eTy b).cells) : a = b := eTy_inj (by injection h with h; exact congrArg AV.agg h)
theorem eCls_pinj {a b : Klass} (h : AV.fptr (eCls a).cells = AV.fptr (eCls b).cells) : a = b := eCls_inj (by injection h with h; exact congrArg AV.agg h)
theorem eMeth_pinj {a b : Meth} (h : AV.fptr (eMeth a).cells = AV.fptr (eMeth b).cells) : a = b := eMeth_inj (by injection h with h; exact congrArg AV.agg h)
theorem eImg_pinj {a b : Img} (h : AV.fptr (eImg a).cells = AV.fptr (eImg b).cells) : a = b := eImg_inj (by injection h with h; exact congrArg AV.agg h)
theorem getD_mem {α : Type} {l : List α} {k : Nat} {d : α} (h : k < l.length) : l.getD k d ∈ l := by
  rw [List.getD_eq_getElem?_getD, List.getElem?_eq_getElem h, Option.getD_some]; exact List.getElem_mem _
theorem getD_map {α : Type} (e : α → AV) (l : List α) (k : Nat) (d : α) (h : k < l.length) : (List.map e l).getD k .any = e (l.getD k d) := by
  simp [List.getD_eq_getElem?_getD, h]
/-- 'nil' or a list. -/
def eO {α : Type} (sz : Nat) (e : α → AV) : Option (List α) → AV
  | none => .nilsl
  | some l => eSl sz e l
theorem eO_none {α : Type} (sz : Nat) (e : α → AV) : eO sz e none = .nilsl := rfl
theorem eO_some {α : Type} (sz : Nat) (e : α → AV) (l : List α) : eO sz e (some l) = .vsl sz (l.map e) := rfl
theorem ungd_eO {α : Type} (g : Bool) (sz : Nat) (e : α → AV) (o : Option (List α)) : ungd g (eO sz e o) = (eO sz e o, true) := by cases o <;> rfl
theorem eO_plain {α : Type} {sz : Nat} {e : α → AV} (h : ∀ a, (e a).noref = true) (o : Option (List α)) : (eO sz e o).plain = true := by
  cases o with
  | none => rfl
  | some l => exact plain_sl h sz l
/-- 'nil' says as much as the list of none. -/
theorem ent_eO {V : List Nat} {vals : List AV} {H : Heap} {α : Type} {sz : Nat} {e : α → AV} {o : Option (List α)} (i : Nat) (h : vals[i]? = some (eO sz e o)) : Ent V ⟨vals, H⟩ ⟨vals.set i (eSl sz e (o.getD [])), H⟩ := by
  cases o with
  | some l =>
    have : vals.set i (eSl sz e ((some l).getD [])) = vals := by
      apply List.ext_getElem?
      intro j
      rw [List.getElem?_set]
      split
      · rename_i hj; subst hj
        split
        · exact h.symm
        · rw [List.getElem?_eq_none (by omega)]
      · rfl
    rw [this]
    exact ent_refl
  | none =>
    exact fun O F0 w0 F ι N a w hR hr => ⟨F, ι, Grow.refl _ _ _, hR, fun t => by
      simp only
      rcases look_set V vals i (eSl sz e []) t with e1 | ⟨e1, u, h1, h2⟩
      · show VR F ι w (look V (vals.set i (eSl sz e [])) t) _
        rw [e1]; exact hr.v t
      · show VR F ι w (look V (vals.set i (eSl sz e [])) t) _
        rw [e1]
        have := hr.v t
        simp only at this
        rw [h2] at this
        rw [h1] at h
        injection h with h
        rw [h] at this
        generalize a.tmps.getD t undef = q at this ⊢
        cases this
        exact .vsl0 _ _ _, hr.size, hr.defers⟩
theorem chunk_one (n : Nat) (l : List AV) : chunk 1 n l = l := rfl
theorem chunk_21 (a b : AV) : chunk 2 1 [a, b] = [.agg [a, b]] := rfl
theorem true_or_b (b : Bool) : (true || b) = true := rfl
theorem or_true_b (b : Bool) : (b || true) = true := by cases b <;> rfl
theorem false_or_b (b : Bool) : (false || b) = b := rfl
theorem beq_tf : (true == false) = false := rfl
theorem beq_ft : (false == true) = false := rfl
/-- Rules for guards that are known, and for freezing. -/
theorem EVG : type_of% (And.intro @pickv_t (And.intro @pickv_f (And.intro @gle_t (And.intro @gle_f (And.intro @beq_tf (And.intro @beq_ft (And.intro @g00 (And.intro @g01 (And.intro @z00 (And.intro @z01 (And.intro @chunk_one (And.intro @chunk_21 (And.intro @true_or_b (And.intro @or_true_b (And.intro @false_or_b (And.intro @Nat.zero_add (And.intro @Nat.le_refl (And.intro @true_and @and_true)))))))))))))))))) := (And.intro @pickv_t (And.intro @pickv_f (And.intro @gle_t (And.intro @gle_f (And.intro @beq_tf (And.intro @beq_ft (And.intro @g00 (And.intro @g01 (And.intro @z00 (And.intro @z01 (And.intro @chunk_one (And.intro @chunk_21 (And.intro @true_or_b (And.intro @or_true_b (And.intro @false_or_b (And.intro @Nat.zero_add (And.intro @Nat.le_refl (And.intro @true_and @and_true))))))))))))))))))

end Go.Proofs.Yteelkalenpbmmaa.Ab

/- A region whose order is drawn comes to what the text's order comes to. -/
import Derived.Test.YteelkalenpbmmaaAbs11
set_option linter.unusedVariables false
set_option linter.unusedSimpArgs false
namespace Go.Proofs.Yteelkalenpbmmaa.Ab

/-- Operations by their numbers, one behind the other. -/
def xidx (K : Cfg) (base : Nat) (l : List AOper) : List Nat → RS → RS × Bool
  | [], s => (s, true)
  | i :: r, s => match l[i]? with
    | none => (s, false)
    | some o => ((xidx K base l r (xop K base o s).1).1, (xop K base o s).2 && (xidx K base l r (xop K base o s).1).2)

theorem xidx_range (K : Cfg) (base : Nat) (l : List AOper) : ∀ (r : List AOper) (k : Nat) (s : RS), (∀ j : Nat, r[j]? = l[k + j]?) → xidx K base l (List.range' k r.length) s = xops K base r s
  | [], k, s, _ => by simp [xidx, xops]
  | o :: r, k, s, h => by
    have h0 : l[k]? = some o := by simpa using (h 0).symm
    have ih := xidx_range K base l r (k + 1) (xop K base o s).1 (fun j => by have := h (j + 1); simpa [Nat.add_assoc, Nat.add_comm 1 j] using this)
    simp only [List.length_cons, List.range'_succ, xidx, h0, xops, ih]

theorem xidx_swap {K : Cfg} {base : Nat} {l : List AOper} {x y : AOper} {i j : Nat} (hi : l[i]? = some x) (hj : l[j]? = some y) (hs : swapOk x y = true) (r : List Nat) (s : RS) (ok : (xidx K base l (i :: j :: r) s).2 = true) :
    (xidx K base l (j :: i :: r) s).2 = true ∧ (xidx K base l (j :: i :: r) s).1 = (xidx K base l (i :: j :: r) s).1 := by
  simp only [xidx, hi, hj, Bool.and_eq_true] at ok ⊢
  obtain ⟨⟨o1, o2⟩, o3⟩ := swap_ok hs s ⟨ok.1, ok.2.1⟩
  rw [o3]
  exact ⟨⟨o1, o2, ok.2.2⟩, rfl⟩

/-- One may be taken ahead of those that may turn with it. -/
theorem xidx_front {K : Cfg} {base : Nat} {l : List AOper} {y : AOper} {i : Nat} (hy : l[i]? = some y) : ∀ (l1 l2 : List Nat) (s : RS), (∀ j ∈ l1, ∀ x, l[j]? = some x → swapOk x y = true) → (xidx K base l (l1 ++ i :: l2) s).2 = true →
    (xidx K base l (i :: (l1 ++ l2)) s).2 = true ∧ (xidx K base l (i :: (l1 ++ l2)) s).1 = (xidx K base l (l1 ++ i :: l2) s).1
  | [], l2, s, _, ok => ⟨ok, rfl⟩
  | j :: l1, l2, s, h, ok => by
    cases hx : l[j]? with
    | none => simp [xidx, hx] at ok
    | some x =>
      have hs := h j (by simp) x hx
      have h1 : (xidx K base l (j :: i :: (l1 ++ l2)) s).2 = true ∧ (xidx K base l (j :: i :: (l1 ++ l2)) s).1 = (xidx K base l (j :: (l1 ++ i :: l2)) s).1 := by
        simp only [List.cons_append, xidx, hx, Bool.and_eq_true] at ok
        obtain ⟨e1, e2⟩ := xidx_front hy l1 l2 (xop K base x s).1 (fun k hk => h k (by simp [hk])) ok.2
        have u : ∀ r, xidx K base l (j :: r) s = ((xidx K base l r (xop K base x s).1).1, (xop K base x s).2 && (xidx K base l r (xop K base x s).1).2) := fun r => by simp only [xidx, hx]
        rw [u, u]
        simp only [Bool.and_eq_true]
        exact ⟨⟨ok.1, e1⟩, e2⟩
      obtain ⟨e1, e2⟩ := xidx_swap hx hy hs (l1 ++ l2) s h1.1
      exact ⟨e1, e2.trans h1.2⟩

theorem bef_append : ∀ (os : List Oper) (acc : List Nat), (bef acc os).length = acc.length + os.length ∧ ∀ i, i < acc.length → (bef acc os).getD i 0 = acc.getD i 0
  | [], acc => ⟨by simp [bef], fun i h => rfl⟩
  | o :: r, acc => by
    obtain ⟨h1, h2⟩ := bef_append r (acc ++ [maskOf acc o])
    refine ⟨by simp [bef, h1]; omega, fun i hi => ?_⟩
    have := h2 i (by simp; omega)
    simp only [bef]
    rw [this, List.getD_eq_getElem?_getD, List.getElem?_append_left hi, ← List.getD_eq_getElem?_getD]

theorem testBit_or (a b j : Nat) : (a ||| b).testBit j = (a.testBit j || b.testBit j) := by simp

theorem maskOf_bit (acc : List Nat) (o : Oper) (j : Nat) (h : (maskOf acc o).testBit j = true) : ∃ e ∈ o.after.toList, Region.binds .any e = true ∧ (e.on = j ∨ (acc.getD e.on 0).testBit j = true) := by
  unfold maskOf at h
  have key : ∀ (es : List Edge) (s : Nat), (es.foldl (fun s e => if Region.binds .any e then s ||| 2 ^ e.on ||| acc.getD e.on 0 else s) s).testBit j = true → s.testBit j = true ∨ ∃ e ∈ es, Region.binds .any e = true ∧ (e.on = j ∨ (acc.getD e.on 0).testBit j = true) := by
    intro es
    induction es with
    | nil => intro s h; exact .inl h
    | cons e es ih =>
      intro s h
      rw [List.foldl_cons] at h
      rcases ih _ h with h1 | ⟨e', he', h1⟩
      · split at h1
        · rename_i hb
          rw [testBit_or, testBit_or, Bool.or_eq_true, Bool.or_eq_true] at h1
          rcases h1 with (h1 | h1) | h1
          · exact .inl h1
          · rw [Nat.testBit_two_pow] at h1
            exact .inr ⟨e, by simp, hb, .inl (by simpa using h1)⟩
          · exact .inr ⟨e, by simp, hb, .inr h1⟩
        · exact .inl h1
      · exact .inr ⟨e', by simp [he'], h1⟩
  rcases key _ 0 h with h1 | h1
  · simp at h1
  · exact h1

theorem bef_bit : ∀ (os : List Oper) (acc : List Nat) (i j : Nat), acc.length ≤ i → ((bef acc os).getD i 0).testBit j = true → ∃ o, os[i - acc.length]? = some o ∧ ∃ e ∈ o.after.toList, Region.binds .any e = true ∧ (e.on = j ∨ ((bef acc os).getD e.on 0).testBit j = true)
  | [], acc, i, j, hi, h => by
    rw [bef, List.getD_eq_getElem?_getD, List.getElem?_eq_none hi] at h
    simp at h
  | o :: r, acc, i, j, hi, h => by
    have hpre := bef_append r (acc ++ [maskOf acc o])
    by_cases he : i = acc.length
    · subst he
      refine ⟨o, by simp, ?_⟩
      simp only [bef] at h ⊢
      rw [hpre.2 acc.length (by simp), List.getD_eq_getElem?_getD] at h
      simp only [List.getElem?_concat_length, Option.getD_some] at h
      obtain ⟨e, he, hb, h1⟩ := maskOf_bit acc o j h
      refine ⟨e, he, hb, h1.imp id (fun h2 => ?_)⟩
      have hlt : e.on < acc.length := by
        rcases Nat.lt_or_ge e.on acc.length with h | h
        · exact h
        · rw [List.getD_eq_getElem?_getD, List.getElem?_eq_none h] at h2; simp at h2
      rw [hpre.2 e.on (by simp; omega), List.getD_eq_getElem?_getD, List.getElem?_append_left hlt, ← List.getD_eq_getElem?_getD]
      exact h2
    · simp only [bef] at h ⊢
      obtain ⟨o', h1, h2⟩ := bef_bit r (acc ++ [maskOf acc o]) i j (by simp; omega) h
      refine ⟨o', ?_, h2⟩
      rw [show i - acc.length = (i - (acc ++ [maskOf acc o]).length) + 1 by simp; omega, List.getElem?_cons_succ]
      exact h1

/-- What has not been carried out. -/
def rem (n : Nat) (listed : Array Bool) : List Nat := (List.range n).filter fun i => !listed.getD i true

theorem rem_split {n : Nat} {listed : Array Bool} {i : Nat} (hn : listed.size = n) (hi : i ∈ rem n listed) : ∃ l1 l2, rem n listed = l1 ++ i :: l2 ∧ (∀ j ∈ l1, j < i ∧ j ∈ rem n listed) ∧ rem n (listed.setIfInBounds i true) = l1 ++ l2 := by
  have hmem := hi
  unfold rem at hi
  rw [List.mem_filter, List.mem_range] at hi
  obtain ⟨hlt, hf⟩ := hi
  have hr : List.range n = List.range i ++ i :: (List.range' (i + 1) (n - i - 1)) := by
    rw [List.range_eq_range', List.range_eq_range', show n = i + (1 + (n - i - 1)) by omega, ← List.range'_append_1, ← List.range'_append_1]
    simp
  have hset : ∀ j, (listed.setIfInBounds i true).getD j true = if j = i then true else listed.getD j true := by
    intro j
    rw [Array.getD_eq_getD_getElem?, Array.getD_eq_getD_getElem?, Array.getElem?_setIfInBounds]
    by_cases e : i = j
    · subst e; simp [hn, hlt]
    · rw [if_neg e, if_neg (Ne.symm e)]
  refine ⟨(List.range i).filter fun j => !listed.getD j true, (List.range' (i + 1) (n - i - 1)).filter fun j => !listed.getD j true, ?_, ?_, ?_⟩
  · unfold rem
    rw [hr, List.filter_append, List.filter_cons, if_pos hf]
  · intro j hj
    rw [List.mem_filter, List.mem_range] at hj
    refine ⟨hj.1, ?_⟩
    unfold rem
    rw [List.mem_filter, List.mem_range]
    exact ⟨by omega, hj.2⟩
  · unfold rem
    rw [hr, List.filter_append, List.filter_cons, if_neg (by rw [hset, if_pos rfl]; simp)]
    congr 1
    · refine List.filter_congr fun j hj => ?_
      rw [List.mem_range] at hj
      rw [hset, if_neg (by omega)]
    · refine List.filter_congr fun j hj => ?_
      rw [List.mem_range'_1] at hj
      rw [hset, if_neg (by omega)]

theorem compOpers_get {P : Program} {N : Nat} {ops : Array Oper} : ∀ (os : List Oper) (hs aos : List AOper), compOpers P N ops os hs = some aos → aos.length = os.length ∧ ∀ (i : Nat) (o : Oper) (h ao : AOper), os[i]? = some o → hs[i]? = some h → aos[i]? = some ao → compOper P N ops o h.at_ h.lo h.o = some ao
  | [], hs, aos, hc => by
    cases hs with
    | nil =>
      simp only [compOpers] at hc
      injection hc with hc; subst hc
      exact ⟨rfl, fun i o h' ao h => by simp at h⟩
    | cons h' hs => simp [compOpers] at hc
  | o :: os, hs, aos, hc => by
    cases hs with
    | nil => simp [compOpers] at hc
    | cons h' hs =>
      simp only [compOpers] at hc
      obtain ⟨ao, h1, hc⟩ := bind_some hc
      obtain ⟨ar, h2, rfl⟩ := map_some' hc
      obtain ⟨i1, i2⟩ := compOpers_get os hs ar h2
      refine ⟨by simp [i1], fun i o' h2' ao' ho hh ha => ?_⟩
      cases i with
      | zero =>
        simp at ho hh ha
        subst ho; subst ha; subst hh
        exact h1
      | succ i => exact i2 i o' h2' ao' (by simpa using ho) (by simpa using hh) (by simpa using ha)

/-- All orders. -/
theorem any_sound {O F0 w0} {N : Nat} {P : Program} {K : Cfg} (hK : KOk P K) (ops : Array Oper) (base : Nat) (Q : Exit → Act → World → Prop) (aos : List AOper) (hlen : aos.length = ops.size)
    (hget : ∀ (i : Nat) (o : Oper) (ao : AOper), ops[i]? = some o → aos[i]? = some ao → compOper P N ops o ao.at_ ao.lo ao.o = some ao)
    (hback : ∀ (i : Nat) (o : Oper), ops[i]? = some o → ∀ e ∈ o.after.toList, Region.binds .any e = true → e.on < i)
    (hswap : ∀ (i j : Nat) (x y : AOper), i < j → aos[i]? = some x → aos[j]? = some y → ((bef [] ops.toList).getD j 0).testBit i = true ∨ swapOk x y = true) :
    ∀ (fuel : Nat) (listed : Array Bool) (s : RS) (F : Nat → Prop) (ι : Nat → Option Nat) (a : Act) (w : World), listed.size = ops.size → (∀ i, i < ops.size → listed.getD i true = true → ∀ j, ((bef [] ops.toList).getD i 0).testBit j = true → listed.getD j true = true) →
    (rem ops.size listed).length ≤ fuel → Run O F0 w0 F ι s.heap w → RR F ι w N s.env a → (xidx K base aos (rem ops.size listed) s).2 = true → (∀ a' w', Post O F0 w0 F ι w N (xidx K base aos (rem ops.size listed) s).1 a' w' → Q .normal a' w') →
    wpAny P .any ops Q fuel listed a w := by
  intro fuel
  induction fuel with
  | zero =>
    intro listed s F ι a w hsz hcl hrem hR h ok hk
    have hnil : rem ops.size listed = [] := List.eq_nil_of_length_eq_zero (by omega)
    rw [hnil] at ok hk
    refine ⟨?_, hk a w ⟨F, ι, Grow.refl _ _ _, hR, h⟩⟩
    unfold Region.ready
    rw [List.filter_eq_nil_iff]
    intro i hi hc
    rw [List.mem_range] at hi
    simp only [Bool.and_eq_true] at hc
    have : i ∈ rem ops.size listed := by
      unfold rem
      rw [List.mem_filter, List.mem_range]
      exact ⟨hi, hc.1⟩
    rw [hnil] at this
    cases this
  | succ fuel ih =>
    intro listed s F ι a w hsz hcl hrem hR h ok hk
    -- the first that is left is ready
    have hready : Region.ready .any ops listed = [] → rem ops.size listed = [] := by
      intro hr
      cases hq : rem ops.size listed with
      | nil => rfl
      | cons i r =>
        exfalso
        have hi : i ∈ rem ops.size listed := by rw [hq]; simp
        obtain ⟨l1, l2, e1, e2, _⟩ := rem_split hsz hi
        have hl1 : l1 = [] := by
          cases l1 with
          | nil => rfl
          | cons j l1 =>
            rw [hq] at e1
            injection e1 with e3 _
            subst e3
            have := (e2 i (by simp)).1
            omega
        subst hl1
        have hi' := hi
        unfold rem at hi'
        rw [List.mem_filter, List.mem_range] at hi'
        obtain ⟨hlt, hf⟩ := hi'
        have : i ∈ Region.ready .any ops listed := by
          unfold Region.ready
          rw [List.mem_filter, List.mem_range]
          refine ⟨hlt, ?_⟩
          rw [Bool.and_eq_true]
          refine ⟨hf, ?_⟩
          rw [Array.getElem?_eq_getElem hlt]
          simp only [Option.map_some, Option.getD_some]
          rw [Array.all_eq_true']
          intro e he
          by_cases hb : Region.binds .any e = true
          · have hon := hback i ops[i] (Array.getElem?_eq_getElem hlt) e (by simpa using he) hb
            rw [Bool.or_eq_true]
            right
            -- e.on is ahead of i, so it has been carried out
            cases hl : listed.getD e.on true with
            | true =>
              have hlt' : e.on < listed.size := by omega
              rw [Array.getD_eq_getD_getElem?, Array.getElem?_eq_getElem hlt'] at hl ⊢
              exact hl
            | false =>
              exfalso
              have hm : e.on ∈ rem ops.size listed := by
                unfold rem
                rw [List.mem_filter, List.mem_range]
                exact ⟨by omega, by rw [hl]; rfl⟩
              rw [e1, List.nil_append] at hm
              have hsorted : (rem ops.size listed).Pairwise (· < ·) := by
                unfold rem
                exact List.Pairwise.filter _ List.pairwise_lt_range
              rw [e1, List.nil_append, List.pairwise_cons] at hsorted
              rcases List.mem_cons.1 hm with h1 | h1
              · omega
              · have := hsorted.1 _ h1; omega
          · simp [hb]
        rw [hr] at this
        cases this
    refine ⟨fun hr => ?_, fun i hi => ?_⟩
    · have hnil := hready hr
      rw [hnil] at ok hk
      exact hk a w ⟨F, ι, Grow.refl _ _ _, hR, h⟩
    · unfold Region.ready at hi
      rw [List.mem_filter, List.mem_range, Bool.and_eq_true] at hi
      obtain ⟨hlt, hf, hdeps⟩ := hi
      have hmem : i ∈ rem ops.size listed := by
        unfold rem
        rw [List.mem_filter, List.mem_range]
        exact ⟨hlt, hf⟩
      obtain ⟨l1, l2, e1, e2, e3⟩ := rem_split hsz hmem
      have hop : ops[i]? = some ops[i] := Array.getElem?_eq_getElem hlt
      have hao : aos[i]? = some (aos[i]'(by omega)) := List.getElem?_eq_getElem (by omega)
      generalize hy : aos[i]'(by omega) = y at hao
      -- its edges have been met
      have hmet : ∀ j, ((bef [] ops.toList).getD i 0).testBit j = true → listed.getD j true = true := by
        intro j hj
        obtain ⟨o, ho, e, he, hb, h1⟩ := bef_bit ops.toList [] i j (by simp) hj
        have ho' : ops[i]? = some o := by simpa using ho
        rw [hop] at ho'
        injection ho' with ho'
        subst ho'
        rw [hop] at hdeps
        simp only [Option.map_some, Option.getD_some] at hdeps
        rw [Array.all_eq_true'] at hdeps
        have h2 := hdeps e (by simpa using he)
        rw [hb] at h2
        simp only [Bool.not_true, Bool.false_or] at h2
        have hon := hback i ops[i] hop e he hb
        have h3 : listed.getD e.on true = true := by
          have hlt' : e.on < listed.size := by omega
          rw [Array.getD_eq_getD_getElem?, Array.getElem?_eq_getElem hlt'] at h2 ⊢
          exact h2
        rcases h1 with h1 | h1
        · rw [← h1]; exact h3
        · exact hcl e.on (by omega) h3 j h1
      have hsw : ∀ j ∈ l1, ∀ x, aos[j]? = some x → swapOk x y = true := by
        intro j hj x hx
        obtain ⟨hji, hjm⟩ := e2 j hj
        rcases hswap j i x y hji hx hao with h1 | h1
        · exfalso
          have h2 := hmet j h1
          unfold rem at hjm
          rw [List.mem_filter, h2] at hjm
          simp at hjm
        · exact h1
      rw [e1] at ok hk
      obtain ⟨ok', heq⟩ := xidx_front (K := K) (base := base) hao l1 l2 s hsw ok
      rw [← heq] at hk
      simp only [xidx, hao, Bool.and_eq_true] at ok' hk
      unfold wpOp
      rw [hop]
      refine xop_sound hK hR h ops ops[i] y (hget i _ y hop hao) base ok'.1 _ Q (fun a' w' hp => ?_)
      obtain ⟨F', ι', g', r', h'⟩ := hp
      have hset : ∀ j, (listed.setIfInBounds i true).getD j true = if j = i then true else listed.getD j true := by
        intro j
        rw [Array.getD_eq_getD_getElem?, Array.getD_eq_getD_getElem?, Array.getElem?_setIfInBounds]
        by_cases e : i = j
        · subst e; simp [hsz, hlt]
        · rw [if_neg e, if_neg (Ne.symm e)]
      refine ih (listed.setIfInBounds i true) _ F' ι' a' w' (by simpa using hsz) (fun k hk' hlk j hj => ?_) ?_ r' h' (by rw [e3]; exact ok'.2) (fun a2 w2 hp2 => ?_)
      · rw [hset]
        split
        · rfl
        · rw [hset] at hlk
          split at hlk
          · rename_i ek; subst ek; exact hmet j hj
          · exact hcl k hk' hlk j hj
      · rw [e3]
        have : (rem ops.size listed).length = l1.length + l2.length + 1 := by rw [e1]; simp; omega
        simp
        omega
      · rw [e3] at hp2
        obtain ⟨F2, ι2, g2, r2, h2⟩ := hp2
        exact hk a2 w2 ⟨F2, ι2, g'.trans g2, r2, h2⟩

end Go.Proofs.Yteelkalenpbmmaa.Ab

/- Still more operations that leave the heap alone; and all of them as one. -/
import Derived.Test.YteelkalenpbmmaaAbs3
import Derived.Laws.BytesArg
import Derived.Laws.Strings
set_option linter.unusedVariables false
set_option linter.unusedSimpArgs false
namespace Go.Proofs.Yteelkalenpbmmaa.Ab

theorem getD_ex {A : Array Value} {j : Nat} (h : j < A.size) : ∃ x, A[j]? = some x ∧ A.getD j undef = x := ⟨_, getD_of h, rfl⟩

theorem run_sizeOf {P : Program} {t : TypeId} {n : Nat} (h : szOf P t = some n) (w : World) : (sizeOf t).run P w = .ok n w := by
  simp only [szOf, Option.map_eq_some_iff] at h
  obtain ⟨ti, h1, h2⟩ := h
  simp [sizeOf, typeInfo, h1, h2]

theorem assl_sound {F ι w va x lo hi lo' hi'} (P : Program) (t : TypeId) (ht : P.underlying t = some .string) (h : VR F ι w va x)
    (hlo : OV F ι w lo lo') (hhi : OV F ι w hi hi') (ok : (assl va lo hi).2 = true) :
    ∃ z, (Instr.sliceAt t x lo' hi' none).run P w = .ok z w ∧ VR F ι w (assl va lo hi).1 z := by
  cases h <;> try (simp [assl] at ok; done)
  rename_i s
  simp only [assl] at ok ⊢
  cases h1 : abnd s.size hi with
  | none => simp [h1] at ok
  | some hh =>
    cases h2 : abnd 0 lo with
    | none => simp [h1, h2] at ok
    | some l =>
      simp [h1, h2] at ok
      refine ⟨_, ?_, .str _⟩
      have hb := run_bounds P w lo' hi' none s.size s.size l hh 0 (ov_bnd hlo h2) (ov_bnd hhi h1) (.inl ⟨rfl, ok.2⟩) (fun h => by cases h) false ok.1 (fun h => by cases h) (fun h => by cases h)
      rw [run_sliceAt_string (P := P) w t _ lo' hi' none ht]
      simp only [Instr.slice, Sem.run_bind, run_underlying ht, Result.andThen_ok, hb, Option.isSome_none, Bool.false_eq_true, if_false, Sem.run_pure]

theorem afd_sound {F ι w va x} (P : Program) (s : TypeId) (fs : Array Field) (i : Nat) (f : Field) (n : Option Nat) (hs : P.underlying s = some (.struct fs)) (hf : fs[i]? = some f) (hn : shOf P f.type = some n)
    (h : VR F ι w va x) (ok : (afd f.offset n va).2 = true) : ∃ z, (Instr.field s x i).run P w = .ok z w ∧ VR F ι w (afd f.offset n va).1 z := by
  cases h <;> try (simp [afd] at ok; done)
  rename_i cs A hA hv
  obtain ⟨h1, h2⟩ := run_isAgg hn w
  cases n with
  | none =>
    simp only [afd, decide_eq_true_eq] at ok ⊢
    obtain ⟨q, hq, hq'⟩ := getD_ex (A := A) (j := f.offset) (by omega)
    refine ⟨q, ?_, by rw [← hq']; exact hv _ _ (by rw [List.getD_eq_getElem?_getD, List.getElem?_eq_getElem ok]; rfl)⟩
    simp [Instr.field, run_underlying hs, hf, asAgg, part, h1, hq]
  | some m =>
    simp only [afd, decide_eq_true_eq] at ok ⊢
    refine ⟨.agg (A.extract f.offset (f.offset + m)), ?_, .agg _ _ (by simp; omega) (fun j c hj => ?_)⟩
    · simp [Instr.field, run_underlying hs, hf, asAgg, part, h1, h2 m rfl]
    · rw [List.getElem?_take] at hj
      split at hj
      · rw [List.getElem?_drop] at hj
        have hlt := (List.getElem?_eq_some_iff.1 hj).1
        have := hv _ _ hj
        rw [Array.getD_eq_getD_getElem?, Array.getElem?_extract, if_pos (by omega), ← Array.getD_eq_getD_getElem?]
        exact this
      · cases hj

theorem aix_sound {F ι w va vi x i} (P : Program) (t : TypeId) (ht : P.underlying t = some .string) (h : VR F ι w va x) (k : VR F ι w vi i) (ok : (aix va vi).2 = true) :
    ∃ z, (Instr.index t x i).run P w = .ok z w ∧ VR F ι w (aix va vi).1 z := by
  cases h <;> try (cases k <;> simp [aix] at ok; done)
  rename_i s
  cases k <;> try (simp [aix] at ok; done)
  rename_i kk n
  simp [aix] at ok
  refine ⟨_, ?_, .int _ _⟩
  have hlt : n.toNat < s.size := by omega
  have hg : s[n.toNat]? = some (s.data.getD n.toNat 0) := by
    have h2 : n.toNat < s.data.size := hlt
    rw [Array.getD_eq_getD_getElem?, Array.getElem?_eq_getElem h2]
    exact (getElem?_pos s n.toNat hlt).trans rfl
  simp [Instr.index, asIntOf, run_underlying ht, ok.1, hg]

theorem aex_sound {F ι w va x} (P : Program) (i : Nat) (h : VR F ι w va x) (ok : (aex i va).2 = true) : ∃ z, (Instr.extract x i).run P w = .ok z w ∧ VR F ι w (aex i va).1 z := by
  cases h <;> try (simp [aex] at ok; done)
  rename_i cs A hA hv
  simp only [aex, decide_eq_true_eq] at ok ⊢
  obtain ⟨q, hq, hq'⟩ := getD_ex (A := A) (j := i) (by omega)
  exact ⟨q, by simp [Instr.extract, hq], by rw [← hq']; exact hv _ _ (by rw [List.getD_eq_getElem?_getD, List.getElem?_eq_getElem ok]; rfl)⟩

theorem aln_sound {F ι w va x} (P : Program) (ts : Array TypeId) (t ty e : TypeId) (ht : ts[0]? = some t) (hu : P.underlying t = some (.slice e)) (h : VR F ι w va x) (ok : (aln va).2 = true) :
    ∃ z, (Builtin.len_ ts ty #[x]).run P w = .ok z w ∧ VR F ι w (aln va).1 z := by
  cases h <;> try (simp [aln] at ok; done)
  all_goals
    refine ⟨_, ?_, by simp only [aln, List.length_nil]; exact .int _ _⟩
    simp [Builtin.len_, ht, run_underlying hu, goInt]

theorem alns_sound {F ι w va x} (P : Program) (ts : Array TypeId) (t ty : TypeId) (ht : ts[0]? = some t) (hu : P.underlying t = some .string) (h : VR F ι w va x) (ok : (alns va).2 = true) :
    ∃ z, (Builtin.len_ ts ty #[x]).run P w = .ok z w ∧ VR F ι w (alns va).1 z := by
  cases h <;> try (simp [alns] at ok; done)
  refine ⟨_, ?_, by simp only [alns]; exact .int _ _⟩
  simp [Builtin.len_, ht, run_underlying hu, goInt]

theorem amx2_sound {F ι w va vb x y} (P : Program) (m : Bool) (h : VR F ι w va x) (k : VR F ι w vb y) (ok : (amx2 m va vb).2 = true) :
    ∃ z, (bif m then Builtin.max2 x y else Builtin.min2 x y).run P w = .ok z w ∧ VR F ι w (amx2 m va vb).1 z := by
  cases h <;> try (simp [amx2] at ok; done)
  cases k <;> try (simp [amx2] at ok; done)
  cases m
  · exact ⟨_, rfl, by simp only [amx2]; exact .int _ _⟩
  · exact ⟨_, rfl, by simp only [amx2]; exact .int _ _⟩

theorem amxs_sound {F ι w} (P : Program) (m : Bool) : ∀ (vs : List AV) (xs : List Value) (v : AV) (x : Value), vs.length = xs.length → VR F ι w v x → (∀ j c, vs[j]? = some c → VR F ι w c (xs.getD j undef)) → (amxs m v vs).2 = true →
    ∃ z, (xs.foldlM (bif m then Builtin.max2 else Builtin.min2) x).run P w = .ok z w ∧ VR F ι w (amxs m v vs).1 z
  | [], xs, v, x, hl, hv, _, _ => by
    obtain rfl : xs = [] := List.eq_nil_of_length_eq_zero (by simpa using hl.symm)
    exact ⟨x, by simp, hv⟩
  | u :: vs, xs, v, x, hl, hv, hs, ok => by
    cases xs with
    | nil => simp at hl
    | cons y xs =>
      simp only [amxs, Bool.and_eq_true] at ok ⊢
      obtain ⟨z, hz, hvz⟩ := amx2_sound P m hv (by simpa using hs 0 u (by simp)) ok.1
      obtain ⟨z', hz', hvz'⟩ := amxs_sound P m vs xs _ z (by simpa using hl) hvz (fun j c hj => by simpa using hs (j + 1) c (by simpa using hj)) ok.2
      refine ⟨z', ?_, hvz'⟩
      rw [List.foldlM_cons, Sem.run_bind]
      cases m <;> simp_all

theorem anc_sound {F ι w va x} (P : Program) (o : Oper) (xo : Operand) (ρ : Operand → Value) (ho : o.op = .nilCheck xo) (hx : ρ xo = x) (h : VR F ι w va x) (ok : (anc va).2 = true) :
    ∃ z, (execOp ρ o).run P w = .ok (.value z) w ∧ VR F ι w (anc va).1 z := by
  cases h <;> try (simp [anc] at ok; done)
  · rename_i id off b hι
    exact ⟨_, by simp [execOp, ho, hx], .ref id off b hι⟩
  · rename_i cs b off f hF hc hv
    exact ⟨_, by simp [execOp, ho, hx], .fptr cs b off f hF hc hv⟩
  · rename_i f fs cs A B hA hB ha hb
    exact ⟨_, by simp [execOp, ho, hx], .fn f fs cs A B hA hB ha hb⟩

/-! ### Cells -/

/-- Cells, held against the model's. -/
def CR (F : Nat → Prop) (ι : Nat → Option Nat) (w : World) (cs : List AV) (C : Array Value) : Prop := C.size = cs.length ∧ ∀ j c, cs[j]? = some c → VR F ι w c (C.getD j undef)

theorem whole_CR {F ι w v x} (h : VR F ι w v x) (hv : v.whole = true) : CR F ι w v.cells x.cells := by
  have one : ∀ {v x}, VR F ι w v x → v.isCell = true → CR F ι w v.cells x.cells := by
    intro v x h hc
    have h1 := h.oneCell hc
    have e1 : v.cells = [v] := cells_len1 (fun cs e => by subst e; simp [AV.isCell] at hc)
    have e2 : x.cells = #[x] := by cases x <;> simp_all [Value.cells, Ab.oneCell]
    rw [e1, e2]
    refine ⟨rfl, fun j c hj => ?_⟩
    cases j with
    | zero => simp at hj; subst hj; simpa using h
    | succ j => simp at hj
  cases v with
  | agg cs =>
    cases h with
    | agg _ A hA h => exact ⟨hA, h⟩
  | _ => exact one h (by simpa [AV.whole] using hv)

theorem foldl_set_size (off : Nat) : ∀ (l : List (Value × Nat)) (C : Array Value), (l.foldl (fun cs (p : Value × Nat) => cs.setIfInBounds (off + p.2) p.1) C).size = C.size
  | [], C => rfl
  | p :: l, C => by rw [List.foldl_cons, foldl_set_size off l]; simp

theorem foldl_set_get (off : Nat) : ∀ (V : List Value) (n : Nat) (C : Array Value) (j : Nat), off + n + V.length ≤ C.size →
    ((V.zipIdx n).foldl (fun cs (p : Value × Nat) => cs.setIfInBounds (off + p.2) p.1) C)[j]? = if off + n ≤ j ∧ j < off + n + V.length then V[j - (off + n)]? else C[j]?
  | [], n, C, j, _ => by
    rw [List.zipIdx_nil, List.foldl_nil, if_neg (by simp <;> omega)]
  | v :: V, n, C, j, h => by
    rw [List.zipIdx_cons, List.foldl_cons, foldl_set_get off V (n + 1) _ j (by simp at h ⊢; omega)]
    simp only [List.length_cons] at h ⊢
    by_cases h1 : off + (n + 1) ≤ j ∧ j < off + (n + 1) + V.length
    · rw [if_pos h1, if_pos (by omega), show j - (off + n) = (j - (off + (n + 1))) + 1 by omega, List.getElem?_cons_succ]
    · rw [if_neg h1]
      by_cases h2 : j = off + n
      · subst h2
        rw [if_pos (by omega), Nat.sub_self, List.getElem?_cons_zero, Array.getElem?_setIfInBounds_self_of_lt (by omega)]
      · rw [if_neg (by omega), Array.getElem?_setIfInBounds_ne (by omega)]

theorem put_get (cs vs : List AV) (off j : Nat) (h : off + vs.length ≤ cs.length) : (put cs off vs)[j]? = if off ≤ j ∧ j < off + vs.length then vs[j - off]? else cs[j]? := by
  unfold put
  by_cases h1 : j < off
  · rw [if_neg (by omega), List.append_assoc, List.getElem?_append_left (by simp; omega), List.getElem?_take, if_pos h1]
  · by_cases h2 : j < off + vs.length
    · rw [if_pos (by omega), List.getElem?_append_left (by simp; omega), List.getElem?_append_right (by simp; omega)]
      congr 1
      simp; omega
    · rw [if_neg (by omega), List.getElem?_append_right (by simp; omega), List.getElem?_drop]
      congr 1
      simp; omega
theorem put_length (cs vs : List AV) (off : Nat) (h : off + vs.length ≤ cs.length) : (put cs off vs).length = cs.length := by
  unfold put; simp; omega

theorem CR_put {F ι w cs C vs V off} (h : CR F ι w cs C) (k : CR F ι w vs V) (hl : off + vs.length ≤ cs.length) :
    CR F ι w (put cs off vs) (V.zipIdx.foldl (fun cs (c, j) => cs.setIfInBounds (off + j) c) C) := by
  have hc1 := h.1
  have hk1 := k.1
  have e : (V.zipIdx.foldl (fun cs (c, j) => cs.setIfInBounds (off + j) c) C) = ((V.toList.zipIdx 0).foldl (fun cs (p : Value × Nat) => cs.setIfInBounds (off + p.2) p.1) C) := by
    rw [← Array.foldl_toList, Array.toList_zipIdx]
  rw [e]
  refine ⟨by rw [foldl_set_size, put_length _ _ _ hl, hc1], fun j c hj => ?_⟩
  rw [Array.getD_eq_getD_getElem?, foldl_set_get off V.toList 0 C j (by simp; omega)]
  rw [put_get _ _ _ _ hl] at hj
  simp only [Nat.add_zero, Array.length_toList]
  by_cases hin : off ≤ j ∧ j < off + vs.length
  · rw [if_pos hin] at hj
    rw [if_pos (by omega)]
    have := k.2 _ _ hj
    rw [Array.getD_eq_getD_getElem?] at this
    simpa using this
  · rw [if_neg hin] at hj
    rw [if_neg (by omega), ← Array.getD_eq_getD_getElem?]
    exact h.2 _ _ hj

theorem fill_sound {F ι w} (place : Nat → Option (Nat × Nat)) : ∀ (ps : List (Nat × Nat × AV)) (qs : List (Nat × Value)) (cs : List AV) (C : Array Value), CR F ι w cs C → ps.length = qs.length →
    (∀ (j : Nat) p q, ps[j]? = some p → qs[j]? = some q → place q.1 = some (p.1, p.2.1) ∧ VR F ι w p.2.2 q.2) → (fillParts ps cs).2 = true →
    ∃ C', Instr.fill place C qs = some C' ∧ CR F ι w (fillParts ps cs).1 C'
  | [], qs, cs, C, h, hl, _, _ => by
    obtain rfl : qs = [] := List.eq_nil_of_length_eq_zero (by simpa using hl.symm)
    exact ⟨C, rfl, h⟩
  | (off, n, v) :: ps, qs, cs, C, h, hl, hp, ok => by
    cases qs with
    | nil => simp at hl
    | cons q qs =>
      obtain ⟨i, x⟩ := q
      obtain ⟨hpl, hvx⟩ := hp 0 (off, n, v) (i, x) (by simp) (by simp)
      simp only at hvx
      simp only [fillParts, Bool.and_eq_true, beq_iff_eq, decide_eq_true_eq] at ok ⊢
      obtain ⟨⟨⟨hw, hn⟩, hb⟩, hr⟩ := ok
      have hcr := whole_CR hvx hw
      have hsz := hcr.1
      obtain ⟨C', h1, h2⟩ := fill_sound place ps qs _ _ (CR_put h hcr (by omega)) (by simpa using hl) (fun j p q hj hq => hp (j + 1) p q (by simpa using hj) (by simpa using hq)) hr
      refine ⟨C', ?_, h2⟩
      have hC := h.1
      simp only at hpl
      simp only [Instr.fill, hpl]
      rw [if_neg (by simp; omega)]
      exact h1

theorem zeroOf_sound {P : Program} {t : TypeId} {z : List AV} (h : zeroOf P t = some z) (F ι) (w : World) : ∃ v, (zeroValue t).run P w = .ok v w ∧ CR F ι w z v.cells ∧ v.cells.all oneCell = true := by
  unfold zeroOf at h
  split at h
  · rename_i v hv
    split at h
    · rename_i h1
      injection h with h
      refine ⟨v, ?_, ?_, h1⟩
      · cases hi : P.info? t with
        | none => simp [hi] at hv
        | some ti =>
          simp [hi] at hv
          simp [zeroValue, typeInfo, hi, hv]
      · rw [← h]
        refine ⟨by simp, fun j c hj => ?_⟩
        rw [List.getElem?_map] at hj
        cases hq : v.cells.toList[j]? with
        | none => simp [hq] at hj
        | some y =>
          simp [hq] at hj
          subst hj
          have e : v.cells.getD j undef = y := by
            rw [Array.getD_eq_getD_getElem?]
            have : v.cells[j]? = some y := by simpa using hq
            rw [this]; rfl
          rw [e]
          exact avCell_VR F ι w y
    · cases h
  · cases h

theorem compParts_sound {F ι w N env a} (P : Program) (h : RR F ι w N env a) (fs : Array Field) : ∀ (qs : List (Nat × Operand)) (ps : List (Nat × Nat × Opd)), compParts P N fs qs = some ps → (ps.all fun p => (ov true env p.2.2).2) = true →
    ps.length = qs.length ∧ ∀ (j : Nat) p q, ps[j]? = some p → qs[j]? = some q → ∃ f, fs[q.1]? = some f ∧ p.1 = f.offset ∧ szOf P f.type = some p.2.1 ∧ VR F ι w (ov true env p.2.2).1 (a.eval q.2)
  | [], ps, hc, _ => by
    simp only [compParts] at hc
    injection hc with hc; subst hc
    exact ⟨rfl, fun j p q hj => by simp at hj⟩
  | (i, x) :: r, ps, hc, ok => by
    simp only [compParts] at hc
    cases h1 : fs[i]? with
    | none => simp [h1] at hc
    | some f =>
      cases h2 : szOf P f.type with
      | none => simp [h1, h2] at hc
      | some n =>
        cases h3 : opd N x with
        | none => simp [h1, h2, h3] at hc
        | some y =>
          cases h4 : compParts P N fs r with
          | none => simp [h1, h2, h3, h4] at hc
          | some pr =>
            simp [h1, h2, h3, h4] at hc
            subst hc
            simp only [List.all_cons, Bool.and_eq_true] at ok
            obtain ⟨i1, i2⟩ := compParts_sound P h fs r pr h4 ok.2
            refine ⟨by simp [i1], fun j p q hj hq => ?_⟩
            cases j with
            | zero =>
              simp at hj hq
              subst hj; subst hq
              exact ⟨f, h1, rfl, h2, ov_VR h h3 rfl ok.1⟩
            | succ j => exact i2 j p q (by simpa using hj) (by simpa using hq)

theorem abd_sound {F ι w N env a} (P : Program) (h : RR F ι w N env a) (t : TypeId) (fs : Array Field) (ht : P.underlying t = some (.struct fs)) (z : List AV) (hz : zeroOf P t = some z) (qs : Array (Nat × Operand)) (ps : List (Nat × Nat × Opd))
    (hc : compParts P N fs qs.toList = some ps) (ok1 : (ps.all fun p => (ov true env p.2.2).2) = true) (ok2 : (fillParts (ps.map fun p => (p.1, p.2.1, (ov true env p.2.2).1)) z).2 = true) (hsz : ∀ f, f ∈ fs.toList → ∃ n, szOf P f.type = some n) :
    ∃ x, (Instr.build t (qs.map fun (i, x) => (i, a.eval x))).run P w = .ok x w ∧ VR F ι w (.agg (fillParts (ps.map fun p => (p.1, p.2.1, (ov true env p.2.2).1)) z).1) x := by
  obtain ⟨v, hv, hcr, h1⟩ := zeroOf_sound hz F ι w
  obtain ⟨hl, hp⟩ := compParts_sound P h fs qs.toList ps hc ok1
  have hplaces : ∀ (l : List Field), (∀ f, f ∈ l → ∃ n, szOf P f.type = some n) → (l.mapM fun f => (do pure (f.offset, ← sizeOf f.type) : Sem (Nat × Nat))).run P w = .ok (l.map fun f => (f.offset, (szOf P f.type).getD 0)) w := by
    intro l
    induction l with
    | nil => intro _; rfl
    | cons f l ih =>
      intro hl
      obtain ⟨n, hn⟩ := hl f (by simp)
      rw [List.mapM_cons]
      have ih' := ih (fun g hg => hl g (by simp [hg]))
      simp only [Sem.run_bind, run_sizeOf hn, Result.andThen_ok, Sem.run_pure, List.map_cons, hn, Option.getD_some]
      rw [ih']
      rfl
  obtain ⟨C', hf, hcr'⟩ := fill_sound (F := F) (ι := ι) (w := w) (fun i => ((fs.toList.map fun f => (f.offset, (szOf P f.type).getD 0)).toArray)[i]?) (ps.map fun p => (p.1, p.2.1, (ov true env p.2.2).1)) (qs.toList.map fun p => (p.1, a.eval p.2)) z v.cells hcr (by simp [hl])
    (fun j p q hj hq => by
      rw [List.getElem?_map] at hj hq
      cases hp' : ps[j]? with
      | none => simp [hp'] at hj
      | some p' =>
        cases hq' : qs.toList[j]? with
        | none => rw [hq'] at hq; cases hq
        | some q' =>
          simp [hp'] at hj
          rw [hq'] at hq
          injection hq with hq
          subst hj; subst hq
          obtain ⟨f, e1, e2, e3, e4⟩ := hp j p' q' hp' hq'
          refine ⟨?_, e4⟩
          have : fs.toList[q'.1]? = some f := by simpa using e1
          simp only [List.getElem?_toArray, List.getElem?_map, this, Option.map_some, e2, e3, Option.getD_some]) ok2
  refine ⟨.agg C', ?_, .agg _ _ hcr'.1 hcr'.2⟩
  have hm : (fs.mapM fun f => (do pure (f.offset, ← sizeOf f.type) : Sem (Nat × Nat))).run P w = .ok (fs.toList.map fun f => (f.offset, (szOf P f.type).getD 0)).toArray w := by
    rw [Array.mapM_eq_mapM_toList]
    simp only [Sem.run_map, hplaces fs.toList hsz, Result.andThen_ok]
  simp only [Instr.build, Sem.run_bind, hv, Result.andThen_ok, run_underlying ht, hm]
  have e : (qs.map fun (x : Nat × Operand) => (x.1, a.eval x.2)).toList = qs.toList.map fun p => (p.1, a.eval p.2) := by simp
  rw [e, hf]
  rfl

end Go.Proofs.Yteelkalenpbmmaa.Ab

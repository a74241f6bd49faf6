/- Operations that leave the heap alone: each does in the model what it does in the abstract machine. -/
import Derived.Test.YteelkalenpbmmaaAbs1
set_option linter.unusedVariables false
set_option linter.unusedSimpArgs false
namespace Go.Proofs.Yteelkalenpbmmaa.Ab

theorem getD_of {A : Array Value} {j : Nat} (h : j < A.size) : A[j]? = some (A.getD j undef) := by
  simp [Array.getD, h]

theorem run_eqGuard_int (P : Program) (w : World) (op : BinOp) (t : TypeId) (x y : Operand) (k k' : IntKind) (a b : Int) : (eqGuard op t x y (.int k a) (.int k' b)).run P w = .ok () w := by
  cases op <;> simp [eqGuard]
theorem run_eqGuard_str (P : Program) (w : World) (op : BinOp) (t : TypeId) (x y : Operand) (a b : ByteArray) : (eqGuard op t x y (.string a) (.string b)).run P w = .ok () w := by
  cases op <;> simp [eqGuard]
theorem run_eqGuard_bool (P : Program) (w : World) (op : BinOp) (t : TypeId) (x y : Operand) (a b : Bool) : (eqGuard op t x y (.bool a) (.bool b)).run P w = .ok () w := by
  cases op <;> simp [eqGuard]
theorem run_eqGuard_ptr (P : Program) (w : World) (op : BinOp) (t : TypeId) (x y : Operand) (a b : Option Addr) : (eqGuard op t x y (.pointer a) (.pointer b)).run P w = .ok () w := by
  cases op <;> simp [eqGuard]

theorem abin_sound {F ι w va vb x y} (P : Program) (op : BinOp) (t : TypeId) (xo yo : Operand) (h : VR F ι w va x) (k : VR F ι w vb y) (ok : (abin op va vb).2 = true) :
    ∃ z, (do eqGuard op t xo yo x y; binOp op t x y : Sem Value).run P w = .ok z w ∧ VR F ι w (abin op va vb).1 z := by
  cases h <;> try (simp [abin] at ok; done)
  rename_i k1 n1
  cases k <;> try (simp [abin] at ok; done)
  rename_i k2 n2
  rw [Sem.run_bind, run_eqGuard_int]
  cases op <;> simp only [abin, Bool.and_eq_true, beq_iff_eq, bne_iff_ne, decide_eq_true_eq] at ok <;>
    simp only [Result.andThen_ok, binOp, abin, Op.intArith, Op.intDiv, Op.intBits, Op.shift, Op.intCmp, ok, ne_eq, not_true, if_false, Sem.run_pure]
  case shl => exact ⟨_, by rw [if_neg (by omega)]; rfl, .int _ _⟩
  case shr => exact ⟨_, by rw [if_neg (by omega)]; rfl, .int _ _⟩
  case quo => exact ⟨_, by simp, .int _ _⟩
  case rem => exact ⟨_, by simp, .int _ _⟩
  all_goals first
    | exact ⟨_, rfl, .int _ _⟩
    | exact ⟨_, rfl, .bool _⟩

theorem run_equalIn_bool (P : Program) (w : World) (t : TypeId) (ht : P.underlying t = some .bool) (d : Nat) (a b : Bool) : (Op.equalIn (d + 1) t (.bool a) (.bool b)).run P w = .ok (a == b) w := by
  unfold Op.equalIn
  rw [Sem.run_bind, run_underlying ht]
  rfl
theorem run_equalIn_nil (P : Program) (w : World) (t e : TypeId) (ht : P.underlying t = some (.pointer e)) (d : Nat) (a : Option Addr) : (Op.equalIn (d + 1) t (.pointer a) (.pointer none)).run P w = .ok a.isNone w := by
  unfold Op.equalIn
  rw [Sem.run_bind, run_underlying ht]
  cases a <;> rfl

theorem abeq_sound {F ι w va vb x y} (P : Program) (neg : Bool) (t : TypeId) (xo yo : Operand) (ht : P.underlying t = some .bool) (h : VR F ι w va x) (k : VR F ι w vb y) (ok : (abeq neg va vb).2 = true) :
    ∃ z, (do eqGuard (bif neg then .neq else .eql) t xo yo x y; binOp (bif neg then .neq else .eql) t x y : Sem Value).run P w = .ok z w ∧ VR F ι w (abeq neg va vb).1 z := by
  cases h <;> try (simp [abeq] at ok; done)
  cases k <;> try (simp [abeq] at ok; done)
  rw [Sem.run_bind, run_eqGuard_bool]
  have hq := run_equalIn_bool P w t ht 9999
  cases neg
  · refine ⟨_, ?_, by simp only [abeq]; exact .bool _⟩
    simp only [cond_false, binOp, Result.andThen_ok, Op.equal, Sem.run_bind]
    rw [show Op.maxDepth = 9999 + 1 from rfl, hq]; rfl
  · refine ⟨_, ?_, by simp only [abeq]; exact .bool _⟩
    simp only [cond_true, binOp, Result.andThen_ok, Op.equal, Sem.run_bind]
    rw [show Op.maxDepth = 9999 + 1 from rfl, hq]; rfl

theorem asbin_sound {F ι w va vb x y} (P : Program) (op : BinOp) (t : TypeId) (xo yo : Operand) (h : VR F ι w va x) (k : VR F ι w vb y) (ok : (asbin op va vb).2 = true) :
    ∃ z, (do eqGuard op t xo yo x y; binOp op t x y : Sem Value).run P w = .ok z w ∧ VR F ι w (asbin op va vb).1 z := by
  cases h <;> try (simp [asbin] at ok; done)
  cases k <;> try (simp [asbin] at ok; done)
  rw [Sem.run_bind, run_eqGuard_str]
  cases op <;> try (simp [asbin] at ok; done)
  · simp only [asbin, decide_eq_true_eq] at ok
    refine ⟨_, ?_, by simp only [asbin]; exact .str _⟩
    simp only [Result.andThen_ok, binOp, Op.stringOp]
    rw [if_neg (by omega)]; rfl
  · exact ⟨_, rfl, by simp only [asbin]; exact .bool _⟩
  · exact ⟨_, rfl, by simp only [asbin]; exact .bool _⟩

theorem aisnil_sound {F ι w va x} (P : Program) (neg : Bool) (t e : TypeId) (xo yo : Operand) (ht : P.underlying t = some (.pointer e)) (h : VR F ι w va x) (ok : (aisnil neg va).2 = true) :
    ∃ z, (do eqGuard (bif neg then .neq else .eql) t xo yo x (.pointer none); binOp (bif neg then .neq else .eql) t x (.pointer none) : Sem Value).run P w = .ok z w ∧ VR F ι w (aisnil neg va).1 z := by
  cases h <;> try (simp [aisnil] at ok; done)
  all_goals
    rw [Sem.run_bind, run_eqGuard_ptr]
    have hq := run_equalIn_nil P w t e ht 9999
    cases neg
    · refine ⟨_, ?_, by simp only [aisnil]; exact .bool _⟩
      simp only [cond_false, binOp, Result.andThen_ok, Op.equal, Sem.run_bind]
      rw [show Op.maxDepth = 9999 + 1 from rfl, hq]; rfl
    · refine ⟨_, ?_, by simp only [aisnil]; exact .bool _⟩
      simp only [cond_true, binOp, Result.andThen_ok, Op.equal, Sem.run_bind]
      rw [show Op.maxDepth = 9999 + 1 from rfl, hq]; rfl

theorem run_eqGuard_slice (P : Program) (w : World) (op : BinOp) (t : TypeId) (x y : Operand) (a b : Option Addr) (n m c d : Nat) : (eqGuard op t x y (.slice a n c) (.slice b m d)).run P w = .ok () w := by
  cases op <;> simp [eqGuard]
theorem run_equalIn_snil (P : Program) (w : World) (t e : TypeId) (ht : P.underlying t = some (.slice e)) (d : Nat) (a : Option Addr) (n c : Nat) : (Op.equalIn (d + 1) t (.slice a n c) (.slice none 0 0)).run P w = .ok a.isNone w := by
  unfold Op.equalIn
  rw [Sem.run_bind, run_underlying ht]
  cases a <;> rfl

theorem asnil_sound {F ι w va x} (P : Program) (neg : Bool) (t e : TypeId) (xo yo : Operand) (ht : P.underlying t = some (.slice e)) (h : VR F ι w va x) (ok : (asnil neg va).2 = true) :
    ∃ z, (do eqGuard (bif neg then .neq else .eql) t xo yo x (.slice none 0 0); binOp (bif neg then .neq else .eql) t x (.slice none 0 0) : Sem Value).run P w = .ok z w ∧ VR F ι w (asnil neg va).1 z := by
  have key : ∀ (a : Option Addr) (n c : Nat), (do eqGuard (bif neg then .neq else .eql) t xo yo (.slice a n c) (.slice none 0 0); binOp (bif neg then .neq else .eql) t (.slice a n c) (.slice none 0 0) : Sem Value).run P w = .ok (.bool (bif neg then !a.isNone else a.isNone)) w := by
    intro a n c
    rw [Sem.run_bind, run_eqGuard_slice]
    have hq := run_equalIn_snil P w t e ht 9999 a n c
    cases neg
    · simp only [cond_false, binOp, Result.andThen_ok, Op.equal, Sem.run_bind]
      rw [show Op.maxDepth = 9999 + 1 from rfl, hq]; rfl
    · simp only [cond_true, binOp, Result.andThen_ok, Op.equal, Sem.run_bind]
      rw [show Op.maxDepth = 9999 + 1 from rfl, hq]; rfl
  cases h <;> try (simp [asnil] at ok; done)
  · exact ⟨_, key _ _ _, by cases neg <;> exact .bool _⟩
  · exact ⟨_, key _ _ _, by simp only [asnil, List.isEmpty_nil, if_true]; exact .ubool _⟩
  · rename_i es b off cap f hF hcap hsz hc hv
    refine ⟨_, key _ _ _, ?_⟩
    simp only [asnil]
    split
    · exact .ubool _
    · cases neg <;> exact .bool _
  · exact ⟨_, key _ _ _, by simp only [asnil, if_true]; exact .ubool _⟩
  · refine ⟨_, key _ _ _, ?_⟩
    simp only [asnil]
    split
    · exact .ubool _
    · cases neg <;> exact .bool _
  · exact ⟨_, key _ _ _, by simp only [asnil]; exact .ubool _⟩

theorem aun_sound {F ι w va x} (P : Program) (op : UnOp) (h : VR F ι w va x) (ok : (aun op va).2 = true) : ∃ z, (Op.unary op x).run P w = .ok z w ∧ VR F ι w (aun op va).1 z := by
  cases h <;> try (simp [aun] at ok; done)
  · cases op <;> try (simp [aun] at ok; done)
    exact ⟨_, rfl, by simp only [aun]; exact .bool _⟩
  · cases op <;> try (simp [aun] at ok; done)
    · exact ⟨_, rfl, by simp only [aun]; exact .int _ _⟩
    · exact ⟨_, rfl, by simp only [aun]; exact .int _ _⟩
  · cases op <;> try (simp [aun] at ok; done)
    exact ⟨_, rfl, by simp only [aun]; exact .ubool _⟩

theorem acv_sound {F ι w va x} (P : Program) (s d : TypeId) (ks k : IntKind) (hs : P.underlying s = some (.int ks)) (hd : P.underlying d = some (.int k)) (h : VR F ι w va x) (ok : (acv k va).2 = true) :
    ∃ z, (convert s d x).run P w = .ok z w ∧ VR F ι w (acv k va).1 z := by
  cases h <;> try (simp [acv] at ok; done)
  exact ⟨_, by simp [convert, run_underlying hs, run_underlying hd, Conv.intToInt], .int _ _⟩

theorem add_lit (b off n : Nat) : (⟨b, off, none⟩ : Addr).add n = ⟨b, off + n, none⟩ := by unfold Addr.add; split <;> simp_all

theorem afa_sound {F ι w va x} (P : Program) (s : TypeId) (fs : Array Field) (i : Nat) (f : Field) (n : Nat) (hs : P.underlying s = some (.struct fs)) (hf : fs[i]? = some f) (hn : szOf P f.type = some n) (h0 : n ≠ 0)
    (h : VR F ι w va x) (ok : (afa f.offset va).2 = true) : ∃ z, (Instr.fieldAt s x i).run P w = .ok z w ∧ VR F ι w (afa f.offset va).1 z := by
  have hsz : (sizeOf f.type).run P w = .ok n w := by
    simp only [szOf, Option.map_eq_some_iff] at hn
    obtain ⟨ti, h1, h2⟩ := hn
    simp [sizeOf, typeInfo, h1, h2]
  cases h <;> try (simp [afa] at ok; done)
  · rename_i id off b hι
    refine ⟨.pointer (some ⟨b, off + f.offset, none⟩), ?_, .ref id (off + f.offset) b hι⟩
    simp [Instr.fieldAt, run_underlying hs, hf, Instr.sureAddr, fieldPlace, hsz, h0, add_lit]
  · rename_i cs b off g hF hc hv
    refine ⟨.pointer (some ⟨b, off + f.offset, none⟩), ?_, .fptr _ b (off + f.offset) (fun j => g (f.offset + j)) hF (fun j c hj => ?_) (fun j c hj => ?_)⟩
    · simp [Instr.fieldAt, run_underlying hs, hf, Instr.sureAddr, fieldPlace, hsz, h0, add_lit]
    · rw [List.getElem?_drop] at hj
      rw [Nat.add_assoc]
      exact hc _ c hj
    · rw [List.getElem?_drop] at hj
      exact hv _ c hj

theorem cells_len1 {e : AV} (h : ∀ cs, e ≠ .agg cs) : e.cells = [e] := by
  cases e <;> simp_all [AV.cells]

theorem aia_sound {F ι w va vi x i} (P : Program) (t e : TypeId) (sz : Nat) (ht : P.underlying t = some (.slice e)) (hsz : szOf P e = some sz) (h : VR F ι w va x) (k : VR F ι w vi i) (ok : (aia sz va vi).2 = true) :
    ∃ z, (Instr.indexAt t x i).run P w = .ok z w ∧ VR F ι w (aia sz va vi).1 z := by
  have hs : (sizeOf e).run P w = .ok sz w := by
    simp only [szOf, Option.map_eq_some_iff] at hsz
    obtain ⟨ti, h1, h2⟩ := hsz
    simp [sizeOf, typeInfo, h1, h2]
  cases h <;> try (cases k <;> simp [aia] at ok; done)
  · cases k <;> simp [aia] at ok
    omega
  · rename_i sz' es b off cap f hF hcap hsz' hc hv
    cases k <;> simp [aia] at ok
    rename_i kk n
    obtain ⟨⟨rfl, h0⟩, h1⟩ := ok
    have hi : n.toNat < es.length := by omega
    refine ⟨.pointer (some ⟨b, off + n.toNat * sz, none⟩), ?_, .fptr _ b (off + n.toNat * sz) (fun j => f n.toNat j) hF (fun j c hj => ?_) (fun j c hj => ?_)⟩
    · simp [Instr.indexAt, asIntOf, run_underlying ht, h0, h1, hs, add_lit]
    · rw [Nat.add_assoc]
      refine hc n.toNat _ j c (List.getElem?_eq_getElem hi) ?_
      simpa [List.getD, List.getElem?_eq_getElem hi] using hj
    · refine hv n.toNat _ j c (List.getElem?_eq_getElem hi) ?_
      simpa [List.getD, List.getElem?_eq_getElem hi] using hj
  · cases k <;> simp [aia] at ok
    omega
  · rename_i sz' id off len b cap n' t' hι hcap hsh hn
    cases k <;> simp [aia] at ok
    rename_i kk n
    obtain ⟨⟨rfl, h0⟩, h1⟩ := ok
    refine ⟨.pointer (some ⟨b, off + n.toNat * sz, none⟩), ?_, .ref id _ b hι⟩
    simp [Instr.indexAt, asIntOf, run_underlying ht, h0, h1, hs, add_lit]

theorem run_isAgg {P : Program} {t : TypeId} {n : Option Nat} (h : shOf P t = some n) (w : World) : (isAgg t).run P w = .ok n.isSome w ∧ ∀ m, n = some m → (sizeOf t).run P w = .ok m w := by
  unfold shOf at h
  split at h
  · rename_i fs hu
    simp only [szOf, Option.map_map, Option.map_eq_some_iff, Function.comp] at h
    obtain ⟨ti, h1, rfl⟩ := h
    exact ⟨by simp [isAgg, run_underlying hu], fun m hm => by injection hm with hm; simp [sizeOf, typeInfo, h1, hm]⟩
  · rename_i k e hu
    simp only [szOf, Option.map_map, Option.map_eq_some_iff, Function.comp] at h
    obtain ⟨ti, h1, rfl⟩ := h
    exact ⟨by simp [isAgg, run_underlying hu], fun m hm => by injection hm with hm; simp [sizeOf, typeInfo, h1, hm]⟩
  · rename_i d hn1 hn2 hu
    injection h with h
    subst h
    refine ⟨?_, fun m hm => by cases hm⟩
    simp only [isAgg, Sem.run_bind, run_underlying hu, Result.andThen_ok]
    cases d <;> simp_all
  · cases h

/-- A load of cells that are known. -/
theorem run_loadVar_cells {P : Program} {t : TypeId} {n : Option Nat} (hn : shOf P t = some n) (w : World) (b off : Nat) (f : Nat → Value) (m : Nat) (hm : n = some m ∨ (n = none ∧ m = 1))
    (hc : ∀ j, j < m → w.cell? ⟨b, off + j, none⟩ = some (f j)) :
    (loadVar t ⟨b, off, none⟩).run P w = .ok (match n with | some m => .agg ((List.range m).map f).toArray | none => f 0) w := by
  obtain ⟨h1, h2⟩ := run_isAgg hn w
  cases n with
  | none =>
    have hm' : m = 1 := by simpa using hm
    subst hm'
    have := hc 0 (by omega)
    simp only [Nat.add_zero] at this
    simp [loadVar, h1, this]
  | some k =>
    have hm' : k = m := by simpa using hm
    subst hm'
    have hl := run_loadCells (P := P) w ⟨b, off, none⟩ k f (fun j hj => by rw [add_lit]; exact hc j hj)
    simp [loadVar, h1, h2 k rfl, hl]

theorem ald_sound {F ι w va x H} (P : Program) (hH : HRel F ι H w) (t : TypeId) (n : Option Nat) (hn : shOf P t = some n) (h : VR F ι w va x) (ok : (ald H n va).2 = true) :
    ∃ z, (Instr.loadAt t x).run P w = .ok z w ∧ VR F ι w (ald H n va).1 z := by
  cases h <;> try (simp [ald] at ok; done)
  · rename_i id off b hι
    simp only [ald] at ok ⊢
    cases hg : hget H id with
    | none => simp [hg] at ok
    | some cs =>
      have hlen : (match n with | some m => off + m | none => off + 1) ≤ cs.length := by cases n <;> simp [hg] at ok <;> simp only <;> omega
      rcases hH.live id cs (hget_some hg) with ⟨rfl, hno⟩ | ⟨b', C, t', fr, hι', hb, hF, hle, hfr, hv⟩
      · rw [hno] at hι; cases hι
      · rw [hι] at hι'
        injection hι' with hι'
        subst hι'
        have hcell : ∀ j, j < cs.length → w.cell? ⟨b, j, none⟩ = some (C.getD j undef) := by
          intro j hj
          simp only [World.cell?, hb, Option.isSome_none, Bool.false_eq_true, if_false]
          exact getD_of (by omega)
        have hvr : ∀ j c, cs[j]? = some c → VR F ι w c (C.getD j undef) := by
          intro j c hj
          obtain ⟨x, hx, hvx⟩ := hv j c hj
          have : C.getD j undef = x := by rw [Array.getD_eq_getD_getElem?, hx]; rfl
          rw [this]; exact hvx
        cases n with
        | none =>
          simp only [Instr.loadAt, Instr.sureAddr, Sem.run_bind, Sem.run_pure, Result.andThen_ok]
          rw [run_loadVar_cells hn w b off (fun j => C.getD (off + j) undef) 1 (.inr ⟨rfl, rfl⟩) (fun j hj => hcell (off + j) (by simp only at hlen; omega))]
          refine ⟨_, rfl, ?_⟩
          simp only [Nat.add_zero]
          refine hvr off _ ?_
          simp only at hlen
          rw [List.getD_eq_getElem?_getD, List.getElem?_eq_getElem (show off < cs.length by omega)]; rfl
        | some m =>
          simp only [Instr.loadAt, Instr.sureAddr, Sem.run_bind, Sem.run_pure, Result.andThen_ok]
          simp only at hlen
          rw [run_loadVar_cells hn w b off (fun j => C.getD (off + j) undef) m (.inl rfl) (fun j hj => hcell (off + j) (by omega))]
          refine ⟨_, rfl, .agg _ _ ?_ (fun j c hj => ?_)⟩
          · simp; omega
          · rw [List.getElem?_take] at hj
            split at hj
            · rw [List.getElem?_drop] at hj
              rename_i hjm
              simp only [Array.getD_eq_getD_getElem?, List.getElem?_toArray, List.getElem?_map, List.getElem?_range hjm, Option.map_some, Option.getD_some]
              rw [← Array.getD_eq_getD_getElem?]
              exact hvr _ _ hj
            · cases hj
  · rename_i cs b off f hF hc hv
    simp only [ald] at ok ⊢
    cases n with
    | none =>
      simp only [decide_eq_true_eq] at ok
      have h0 : cs[0]? = some (cs.getD 0 .any) := by rw [List.getD_eq_getElem?_getD, List.getElem?_eq_getElem ok]; rfl
      simp only [Instr.loadAt, Instr.sureAddr, Sem.run_bind, Sem.run_pure, Result.andThen_ok]
      rw [run_loadVar_cells hn w b off f 1 (.inr ⟨rfl, rfl⟩) (fun j hj => by obtain rfl : j = 0 := by omega
                                                                             exact hc 0 _ h0)]
      exact ⟨_, rfl, hv 0 _ h0⟩
    | some m =>
      simp only [decide_eq_true_eq] at ok
      simp only [Instr.loadAt, Instr.sureAddr, Sem.run_bind, Sem.run_pure, Result.andThen_ok]
      rw [run_loadVar_cells hn w b off f m (.inl rfl) (fun j hj => hc j _ (List.getElem?_eq_getElem (show j < cs.length by omega)))]
      refine ⟨_, rfl, .agg _ _ ?_ (fun j c hj => ?_)⟩
      · simp; omega
      · rw [List.getElem?_take] at hj
        split at hj
        · rename_i hjm
          simp only [Array.getD_eq_getD_getElem?, List.getElem?_toArray, List.getElem?_map, List.getElem?_range hjm, Option.map_some, Option.getD_some]
          exact hv _ _ hj
        · cases hj

end Go.Proofs.Yteelkalenpbmmaa.Ab

/- All operations that leave the heap alone, as one. -/
import Derived.Test.YteelkalenpbmmaaAbs5
set_option linter.unusedVariables false
set_option linter.unusedSimpArgs false
namespace Go.Proofs.Yteelkalenpbmmaa.Ab

theorem ovo_OV {F ι w N env a} (h : RR F ι w N env a) {x : Option Operand} {y : Option Opd} (hc : opdo N x = some y) {g : Bool} (hg : g = true) (ok : (ovo g env y).2 = true) :
    OV F ι w (ovo g env y).1 (x.map a.eval) ∧ (ovo g env y).1.isSome = x.isSome := by
  cases x with
  | none =>
    simp only [opdo] at hc
    injection hc with hc; subst hc
    exact ⟨trivial, rfl⟩
  | some x =>
    simp only [opdo] at hc
    obtain ⟨z, hz, rfl⟩ := map_some' hc
    exact ⟨ov_VR h hz hg ok, rfl⟩

theorem opdo_some {N : Nat} {x : Option Operand} {y : Option Opd} (hc : opdo N x = some y) : y.isSome = x.isSome := by
  cases x with
  | none => simp only [opdo] at hc; injection hc with hc; subst hc; rfl
  | some x => simp only [opdo] at hc; obtain ⟨z, hz, rfl⟩ := map_some' hc; rfl

theorem ovs_Args {F ι w N env a} (h : RR F ι w N env a) {g : Bool} (hg : g = true) {xs : Array Operand} {ys : List Opd} (hc : opds N xs.toList = some ys) (ok : (ovs g env ys).2 = true) :
    ArgsR F ι w (ovs g env ys).1 (xs.map a.eval) := by
  obtain ⟨h1, h2⟩ := ovs_VR h hg hc ok
  refine ⟨by simp [h1], fun j c hj => ?_⟩
  have := h2 j c hj
  rw [List.getD_eq_getElem?_getD, List.getElem?_map] at this
  rw [Array.getD_eq_getD_getElem?, Array.getElem?_map]
  simpa using this

theorem ArgsR.nil {F ι w avs vs} (h : ArgsR F ι w avs vs) (hn : AV.norefs avs = true) (ι' : Nat → Option Nat) : ArgsR F ι' w avs vs :=
  ⟨h.1, fun j c hj => (h.2 j c hj).noref ι' (norefs_get avs hn j c hj)⟩

theorem pickv_true {F ι w va vb x} (h : VR F ι w va x) : VR F ι w (pickv true va vb) x := by
  unfold pickv
  split
  · simpa using h
  · split
    · simpa using h
    · simpa using h
  · simpa using h
theorem pickv_false {F ι w va vb x} (h : VR F ι w vb x) : VR F ι w (pickv false va vb) x := by
  unfold pickv
  split
  · simpa using h
  · split
    · rename_i e; subst e; simpa using h
    · simpa using h
  · simpa using h

theorem apick_sound {F ι w N env a} (P : Program) (h : RR F ι w N env a) {c x y : Operand} {c' x' y' : Opd} (hc : opd N c = some c') (hx : opd N x = some x') (hy : opd N y = some y') {g : Bool} (hg : g = true) (ok : (apick g env c' x' y').2 = true) :
    ∃ p z, a.eval c = .bool p ∧ z = (if p then a.eval x else a.eval y) ∧ VR F ι w (apick g env c' x' y').1 z := by
  subst hg
  simp only [apick] at ok ⊢
  cases hcv : ov true env c' with
  | mk v okc =>
    cases v <;> try (simp [hcv] at ok; done)
    rename_i p
    simp only [hcv, Bool.and_eq_true] at ok ⊢
    obtain ⟨⟨hok, okx⟩, oky⟩ := ok
    subst hok
    have hvc := ov_VR h hc (g := true) rfl (by rw [hcv])
    rw [hcv] at hvc
    have e : a.eval c = .bool p := by
      generalize a.eval c = q at hvc
      cases hvc; rfl
    refine ⟨p, _, e, rfl, ?_⟩
    cases p with
    | true => exact pickv_true (ov_VR h hx (by rfl) okx)
    | false => exact pickv_false (ov_VR h hy (by rfl) oky)

theorem take_get {H : Heap} {base id : Nat} {cs : List AV} (h : hget (H.take base) id = some cs) : hget H id = some cs ∧ id < base := by
  unfold hget at h ⊢
  rw [List.getElem?_take] at h
  split at h
  · rename_i h'
    split at h'
    · rename_i hlt
      rw [h']
      exact ⟨h, hlt⟩
    · cases h'
  · cases h

theorem ald_take {H : Heap} {base : Nat} {n : Option Nat} {v : AV} (ok : (ald (H.take base) n v).2 = true) : ald (H.take base) n v = ald H n v := by
  cases v <;> try rfl
  rename_i id off
  simp only [ald] at ok ⊢
  cases hg : hget (H.take base) id with
  | none => simp [hg] at ok
  | some cs => rw [(take_get hg).1]

theorem run_callFunc {P : Program} {f : FuncId} (h : callable P f = true) (args : Array Value) (w : World) : (callFunc f args).run P w = .ok (.enter f args) w := by
  unfold callable at h
  split at h
  · rename_i fn hf
    simp only [Bool.and_eq_true, bne_iff_ne] at h
    obtain ⟨h1, h2⟩ := h
    have h3 : fn.body ≠ none := by intro e; rw [e] at h2; cases h2
    simp [callFunc, hf, h3, h1]
  · cases h

theorem args_append {F ι w fs cs avs} {A B vs : Array Value} (hA : A.size = fs.length) (hB : B.size = cs.length) (ha : ∀ (j : Nat) (c : AV), fs[j]? = some c → VR F ι w c (A.getD j undef)) (hb : ∀ (j : Nat) (c : AV), cs[j]? = some c → VR F ι w c (B.getD j undef))
    (hargs : ArgsR F ι w avs vs) : ArgsR F ι w (fs ++ avs ++ cs) (A ++ vs ++ B) := by
  have h2 := hargs.1
  refine ⟨by simp only [Array.size_append, List.length_append]; omega, fun j c hj => ?_⟩
  by_cases hj1 : j < fs.length + avs.length
  · rw [List.getElem?_append_left (by simpa using hj1)] at hj
    rw [Array.getD_eq_getD_getElem?, Array.getElem?_append_left (by simp only [Array.size_append]; omega)]
    by_cases hj2 : j < fs.length
    · rw [List.getElem?_append_left hj2] at hj
      rw [Array.getElem?_append_left (by omega), ← Array.getD_eq_getD_getElem?]
      exact ha j c hj
    · rw [List.getElem?_append_right (by omega)] at hj
      rw [Array.getElem?_append_right (by omega), hA, ← Array.getD_eq_getD_getElem?]
      exact hargs.2 _ c hj
  · rw [List.getElem?_append_right (by simpa using hj1)] at hj
    rw [Array.getD_eq_getD_getElem?, Array.getElem?_append_right (by simp only [Array.size_append]; omega), ← Array.getD_eq_getD_getElem?]
    have e : j - (A ++ vs).size = j - (fs ++ avs).length := by simp only [Array.size_append, List.length_append]; omega
    rw [e]
    exact hb _ c hj

/-- What a call of a function that turns nothing may lean on. -/
theorem pcallX_sound {F ι H w} {K : Cfg} (hH : HRel F ι H w) (lo : Bool) (f : FuncId) (avs : List AV × Bool) (vs : Array Value) (hargs : avs.2 = true → ArgsR F ι w avs.1 vs) (ok : (pcallX K lo H f avs).2 = true) :
    (ArgsR F (fun _ => none) w avs.1 vs ∧ K.pcall f avs.1 = some (pcallX K lo H f avs).1) ∨
    (∃ as, ArgsR (fun b => F b ∨ Own H ι b) (fun _ => none) w as vs ∧ K.pcall f as = some (pcallX K lo H f avs).1 ∧ (pcallX K lo H f avs).1.scalar = true) := by
  unfold pcallX at ok ⊢
  cases hn : AV.norefs avs.1 with
  | true =>
    simp only [hn] at ok ⊢
    cases hp : K.pcall f avs.1 with
    | none => simp [hp] at ok
    | some r =>
      simp only [hp] at ok ⊢
      exact .inl ⟨(hargs ok).nil hn _, trivial⟩
  | false =>
    simp only [hn] at ok ⊢
    cases lo with
    | true => simp at ok
    | false =>
      simp only at ok ⊢
      cases hz : frzL (frz 20 H) avs.1 with
      | none => simp [hz] at ok
      | some as =>
        simp only [hz] at ok ⊢
        cases hp : K.pcall f as with
        | none => simp [hp] at ok
        | some r =>
          simp only [hp, Bool.and_eq_true] at ok ⊢
          exact .inr ⟨as, frzArgs_sound hH hz (hargs ok.1), hp, ok.2⟩

theorem vop_sound {O F0 w0 F ι w N env a H} {P : Program} {K : Cfg} (hcp : ∀ f avs r, K.pcall f avs = some r → callable P f = true) (hR : Run O F0 w0 F ι H w) (h : RR F ι w N env a) (o : Oper) (ao : AOp) {hn : AOp} (hc : compOp P hn N o.op = some ao) (hne : ao.eff = false) (base : Nat) (lo g : Bool) (hg : g = true)
    (ok : (vop K base lo g env H ao).2 = true) :
    (∃ x, (execOp a.eval o).run P w = .ok (.value x) w ∧ VR F ι w (vop K base lo g env H ao).1 x) ∨
    (∃ f args vs, (execOp a.eval o).run P w = .ok (.enter f vs) w ∧ ArgsR F (fun _ => none) w args vs ∧ K.pcall f args = some (vop K base lo g env H ao).1) ∨
    (∃ f args vs, (execOp a.eval o).run P w = .ok (.enter f vs) w ∧ ArgsR (fun b => F b ∨ Own H ι b) (fun _ => none) w args vs ∧ K.pcall f args = some (vop K base lo g env H ao).1 ∧ (vop K base lo g env H ao).1.scalar = true) ∨
    (∃ f args vs, (execOp a.eval o).run P w = .ok (.enter f vs) w ∧ ArgsR F ι w args vs ∧ K.icall f args = some (vop K base lo g env H ao).1) := by
  have hH := hR.h
  cases hop : o.op <;> simp only [hop, compOp] at hc <;> try (cases hc; done)
  case move x =>
    obtain ⟨y, hy, rfl⟩ := map_some' hc
    exact .inl ⟨_, by simp [execOp, hop], ov_VR h hy hg ok⟩
  case assign x =>
    obtain ⟨y, hy, rfl⟩ := map_some' hc
    exact .inl ⟨_, by simp [execOp, hop], ov_VR h hy hg ok⟩
  case pick c x y =>
    obtain ⟨c', h1, hc⟩ := bind_some hc
    obtain ⟨x', h2, hc⟩ := bind_some hc
    obtain ⟨y', h3, rfl⟩ := map_some' hc
    obtain ⟨p, z, e1, e2, hv⟩ := apick_sound P h h1 h2 h3 hg ok
    exact .inl ⟨z, by simp [execOp, hop, e1, asBool, e2], hv⟩
  case alloc t => obtain ⟨z, h1, rfl⟩ := map_some' hc; cases hne
  case box t x => obtain ⟨n, h1, hc⟩ := bind_some hc; obtain ⟨y, h2, rfl⟩ := map_some' hc; cases hne
  case build t parts =>
    split at hc
    · rename_i fs hu
      split at hc
      · rename_i hall
        obtain ⟨z, h1, hc⟩ := bind_some hc
        obtain ⟨ps, h2, rfl⟩ := map_some' hc
        subst hg
        simp only [vop, Bool.and_eq_true] at ok ⊢
        obtain ⟨x, hx, hv⟩ := abd_sound P h t fs hu z h1 parts ps h2 ok.1 ok.2 (fun f hf => by
          have := List.all_eq_true.1 hall f hf
          exact Option.isSome_iff_exists.1 this)
        exact .inl ⟨x, by simp [execOp, hop, hx], hv⟩
      · cases hc
    · cases hc
  case buildSlice t len parts =>
    split at hc
    · obtain ⟨sz, h1, hc⟩ := bind_some hc
      obtain ⟨z, h2, hc⟩ := bind_some hc
      obtain ⟨ps, h3, hc⟩ := bind_some hc
      split at hc
      · injection hc with hc; subst hc; cases hne
      · cases hc
    · cases hc
  case load t x =>
    obtain ⟨n, h1, hc⟩ := bind_some hc
    obtain ⟨y, h2, rfl⟩ := map_some' hc
    have key : ∀ (H' : Heap), (ap1 (ald H n) (ov g env y)).2 = true → ∃ z, (execOp a.eval o).run P w = .ok (.value z) w ∧ VR F ι w (ap1 (ald H n) (ov g env y)).1 z := by
      intro _ ok
      simp only [ap1, Bool.and_eq_true] at ok ⊢
      obtain ⟨z, hz, hv⟩ := ald_sound P hH t n h1 (ov_VR h h2 hg ok.1) ok.2
      exact ⟨z, by simp [execOp, hop, hz], hv⟩
    cases lo with
    | false => exact .inl (key H ok)
    | true =>
      simp only [vop, ap1, Bool.and_eq_true] at ok
      have e := ald_take ok.2
      obtain ⟨z, h3, h4⟩ := key H (by simp only [ap1, Bool.and_eq_true]; rw [← e]; exact ok)
      refine .inl ⟨z, h3, ?_⟩
      simp only [vop, ap1] at h4 ⊢
      rw [e]; exact h4
  case store t x v =>
    obtain ⟨n, h1, hc⟩ := bind_some hc
    obtain ⟨x', h2, hc⟩ := bind_some hc
    obtain ⟨v', h3, rfl⟩ := map_some' hc
    cases hne
  case nilCheck x =>
    obtain ⟨y, hy, rfl⟩ := map_some' hc
    simp only [vop, ap1, Bool.and_eq_true] at ok ⊢
    obtain ⟨z, hz, hv⟩ := anc_sound P o x a.eval hop rfl (ov_VR h hy hg ok.1) ok.2
    exact .inl ⟨z, hz, hv⟩
  case binOp op t x y t' =>
    simp only [compBin] at hc
    obtain ⟨x', h1, hc⟩ := bind_some hc
    obtain ⟨y', h2, hc⟩ := bind_some hc
    have fin : ∀ {r : AV × Bool}, (∃ z, (do eqGuard op t x y (a.eval x) (a.eval y); binOp op t (a.eval x) (a.eval y) : Sem Value).run P w = .ok z w ∧ VR F ι w r.1 z) →
        ∃ z, (execOp a.eval o).run P w = .ok (.value z) w ∧ VR F ι w r.1 z := by
      rintro r ⟨z, hz, hv⟩
      refine ⟨z, ?_, hv⟩
      simp only [execOp, hop, Sem.run_bind, Sem.run_pure] at hz ⊢
      rw [hz]; rfl
    split at hc
    · injection hc with hc; subst hc
      simp only [vop, ap2, Bool.and_eq_true] at ok ⊢
      exact .inl (fin (abin_sound P op t x y (ov_VR h h1 hg ok.1.1) (ov_VR h h2 hg ok.1.2) ok.2))
    · rename_i hu
      split at hc
      · injection hc with hc; subst hc
        simp only [vop, ap2, Bool.and_eq_true] at ok ⊢
        exact .inl (fin (by simpa using abeq_sound P false t x y hu (ov_VR h h1 hg ok.1.1) (ov_VR h h2 hg ok.1.2) ok.2))
      · injection hc with hc; subst hc
        simp only [vop, ap2, Bool.and_eq_true] at ok ⊢
        exact .inl (fin (by simpa using abeq_sound P true t x y hu (ov_VR h h1 hg ok.1.1) (ov_VR h h2 hg ok.1.2) ok.2))
      · cases hc
    · injection hc with hc; subst hc
      simp only [vop, ap2, Bool.and_eq_true] at ok ⊢
      exact .inl (fin (asbin_sound P op t x y (ov_VR h h1 hg ok.1.1) (ov_VR h h2 hg ok.1.2) ok.2))
    · rename_i fs hu
      split at hc
      · rename_i hcond
        simp only [Bool.and_eq_true, Bool.not_eq_true', beq_iff_eq] at hcond
        obtain ⟨⟨⟨c1, c2⟩, c3⟩, c4⟩ := hcond
        split at hc
        · injection hc with hc; subst hc
          simp only [vop, ap2, Bool.and_eq_true] at ok ⊢
          exact .inl (fin (by simpa using aaeq_sound P false t fs x y hu c1 c2 c4 (ov_VR h h1 hg ok.1.1) (ov_VR h h2 hg ok.1.2) ok.2))
        · injection hc with hc; subst hc
          simp only [vop, ap2, Bool.and_eq_true] at ok ⊢
          exact .inl (fin (by simpa using aaeq_sound P true t fs x y hu c1 c2 c4 (ov_VR h h1 hg ok.1.1) (ov_VR h h2 hg ok.1.2) ok.2))
        · cases hc
      · cases hc
    · rename_i e hu
      split at hc
      · injection hc with hc; subst hc
        simp only [vop, ap1, Bool.and_eq_true] at ok ⊢
        exact .inl (fin (by simpa [Act.eval] using aisnil_sound P false t e x (.const (.pointer none)) hu (ov_VR h h1 hg ok.1) ok.2))
      · injection hc with hc; subst hc
        simp only [vop, ap1, Bool.and_eq_true] at ok ⊢
        exact .inl (fin (by simpa [Act.eval] using aisnil_sound P true t e x (.const (.pointer none)) hu (ov_VR h h1 hg ok.1) ok.2))
      · cases hc
    · rename_i e hu
      split at hc
      · injection hc with hc; subst hc
        simp only [vop, ap1, Bool.and_eq_true] at ok ⊢
        exact .inl (fin (by simpa [Act.eval] using asnil_sound P false t e x (.const (.slice none 0 0)) hu (ov_VR h h1 hg ok.1) ok.2))
      · injection hc with hc; subst hc
        simp only [vop, ap1, Bool.and_eq_true] at ok ⊢
        exact .inl (fin (by simpa [Act.eval] using asnil_sound P true t e x (.const (.slice none 0 0)) hu (ov_VR h h1 hg ok.1) ok.2))
      · cases hc
    · cases hc
  case unOp op t x =>
    obtain ⟨y, hy, rfl⟩ := map_some' hc
    simp only [vop, ap1, Bool.and_eq_true] at ok ⊢
    obtain ⟨z, hz, hv⟩ := aun_sound P op (ov_VR h hy hg ok.1) ok.2
    exact .inl ⟨z, by simp [execOp, hop, hz], hv⟩
  case convert s d x =>
    simp only [compConv] at hc
    obtain ⟨y, hy, hc⟩ := bind_some hc
    split at hc
    · rename_i ks k hs hd
      injection hc with hc; subst hc
      simp only [vop, ap1, Bool.and_eq_true] at ok ⊢
      obtain ⟨z, hz, hv⟩ := acv_sound P s d ks k hs hd (ov_VR h hy hg ok.1) ok.2
      exact .inl ⟨z, by simp [execOp, hop, hz], hv⟩
    · rename_i e hs hd
      split at hc
      · rename_i he
        injection hc with hc; subst hc
        simp only [vop] at ok ⊢
        cases hb : b2n (slCells H 1 (ov g env y).1).1 with
        | none => simp [hb] at ok
        | some l =>
          simp only [hb, Bool.and_eq_true] at ok ⊢
          have := b2s_sound P hH s d e hs he hd (ov_VR h hy hg ok.1) ok.2 l hb
          exact .inl ⟨_, by simp [execOp, hop, this], .str _⟩
      · cases hc
    · rename_i e hs hd
      split at hc
      · injection hc with hc; subst hc; cases hne
      · cases hc
    · cases hc
  case makeFunc fn first caps =>
    cases fn <;> simp only at hc <;> try (cases hc; done)
    rename_i f
    split at hc
    · obtain ⟨as, h1, hc⟩ := bind_some hc
      obtain ⟨bs, h2, rfl⟩ := map_some' hc
      simp only [vop, Bool.and_eq_true] at ok ⊢
      have e1 := ovs_Args h hg h1 ok.1
      have e2 := ovs_Args h hg h2 ok.2
      exact .inl ⟨_, by simp [execOp, hop, Instr.makeFunc], .fn f _ _ _ _ e1.1 e2.1 e1.2 e2.2⟩
    · cases hc
  case makeSlice t l c =>
    split at hc
    · obtain ⟨i, h1, hc⟩ := bind_some hc
      obtain ⟨z, h2, hc⟩ := bind_some hc
      obtain ⟨l', h3, hc⟩ := bind_some hc
      obtain ⟨c', h4, rfl⟩ := map_some' hc
      cases hne
    · cases hc
  case slice t x l hh m =>
    obtain ⟨x', h1, hc⟩ := bind_some hc
    obtain ⟨l', h2, hc⟩ := bind_some hc
    obtain ⟨hh', h3, hc⟩ := bind_some hc
    obtain ⟨m', h4, hc⟩ := bind_some hc
    split at hc
    · rename_i e hu
      split at hc
      · rename_i hmh
        obtain ⟨sz, h5, rfl⟩ := map_some' hc
        simp only [vop, Bool.and_eq_true] at ok ⊢
        obtain ⟨⟨⟨⟨k1, k2⟩, k3⟩, k4⟩, k5⟩ := ok
        obtain ⟨o1, s1⟩ := ovo_OV h h2 hg k2
        obtain ⟨o2, s2⟩ := ovo_OV h h3 hg k3
        obtain ⟨o3, s3⟩ := ovo_OV h h4 hg k4
        obtain ⟨z, hz, hv⟩ := asl_sound P t e sz hu h5 (ov_VR h h1 hg k1) o1 o2 o3 (fun hm => by
          rw [s3, ← opdo_some h4] at hm; rw [s2, ← opdo_some h3]
          simp only [Bool.or_eq_true] at hmh
          rcases hmh with e1 | e1
          · cases m' <;> simp_all
          · exact e1) k5
        exact .inl ⟨z, by simp [execOp, hop, hz], hv⟩
      · cases hc
    · rename_i hu
      split at hc
      · rename_i hm'
        injection hc with hc; subst hc
        have hm : m = none := by
          cases m with
          | none => rfl
          | some m => simp only [opdo] at h4; obtain ⟨q, _, hq⟩ := map_some' h4; cases hq
        subst hm
        simp only [vop, Bool.and_eq_true] at ok ⊢
        obtain ⟨⟨⟨k1, k2⟩, k3⟩, k5⟩ := ok
        obtain ⟨o1, s1⟩ := ovo_OV h h2 hg k2
        obtain ⟨o2, s2⟩ := ovo_OV h h3 hg k3
        obtain ⟨z, hz, hv⟩ := assl_sound P t hu (ov_VR h h1 hg k1) o1 o2 k5
        exact .inl ⟨z, by simp [execOp, hop, hz], hv⟩
      · cases hc
    · cases hc
  case fieldAddr s x i =>
    split at hc
    · rename_i fs hu
      obtain ⟨f, h1, hc⟩ := bind_some hc
      obtain ⟨n, h2, hc⟩ := bind_some hc
      split at hc
      · cases hc
      · rename_i h0
        obtain ⟨y, hy, rfl⟩ := map_some' hc
        simp only [vop, ap1, Bool.and_eq_true] at ok ⊢
        obtain ⟨z, hz, hv⟩ := afa_sound P s fs i f n hu h1 h2 h0 (ov_VR h hy hg ok.1) ok.2
        exact .inl ⟨z, by simp [execOp, hop, hz], hv⟩
    · cases hc
  case field s x i =>
    split at hc
    · rename_i fs hu
      obtain ⟨f, h1, hc⟩ := bind_some hc
      obtain ⟨n, h2, hc⟩ := bind_some hc
      obtain ⟨y, hy, rfl⟩ := map_some' hc
      simp only [vop, ap1, Bool.and_eq_true] at ok ⊢
      obtain ⟨z, hz, hv⟩ := afd_sound P s fs i f n hu h1 h2 (ov_VR h hy hg ok.1) ok.2
      exact .inl ⟨z, by simp [execOp, hop, hz], hv⟩
    · cases hc
  case indexAddr t x i =>
    split at hc
    · rename_i e hu
      obtain ⟨sz, h1, hc⟩ := bind_some hc
      obtain ⟨x', h2, hc⟩ := bind_some hc
      obtain ⟨i', h3, rfl⟩ := map_some' hc
      simp only [vop, ap2, Bool.and_eq_true] at ok ⊢
      obtain ⟨z, hz, hv⟩ := aia_sound P t e sz hu h1 (ov_VR h h2 hg ok.1.1) (ov_VR h h3 hg ok.1.2) ok.2
      exact .inl ⟨z, by simp [execOp, hop, hz], hv⟩
    · cases hc
  case index t x i =>
    split at hc
    · rename_i hu
      obtain ⟨x', h2, hc⟩ := bind_some hc
      obtain ⟨i', h3, rfl⟩ := map_some' hc
      simp only [vop, ap2, Bool.and_eq_true] at ok ⊢
      obtain ⟨z, hz, hv⟩ := aix_sound P t hu (ov_VR h h2 hg ok.1.1) (ov_VR h h3 hg ok.1.2) ok.2
      exact .inl ⟨z, by simp [execOp, hop, hz], hv⟩
    · cases hc
  case extract x i =>
    obtain ⟨y, hy, rfl⟩ := map_some' hc
    simp only [vop, ap1, Bool.and_eq_true] at ok ⊢
    obtain ⟨z, hz, hv⟩ := aex_sound P i (ov_VR h hy hg ok.1) ok.2
    exact .inl ⟨z, by simp [execOp, hop, hz], hv⟩
  case call c =>
    obtain ⟨callee, args, ts⟩ := c
    simp only [compCall] at hc
    obtain ⟨ys, h1, hc⟩ := bind_some hc
    have hts : ∀ {t : TypeId} {r : List TypeId}, ts.toList = t :: r → ts[0]? = some t := by
      intro t r e
      have : ts.toList[0]? = some t := by rw [e]; rfl
      simpa using this
    have hone : ∀ {y : Opd}, ys = [y] → ∃ x, args = #[x] ∧ opd N x = some y := by
      intro y e
      subst e
      cases hq : args.toList with
      | nil => rw [hq] at h1; simp [opds] at h1
      | cons x r =>
        rw [hq] at h1
        simp only [opds] at h1
        obtain ⟨b, h2, h1⟩ := bind_some h1
        obtain ⟨bs, h3, h1⟩ := map_some' h1
        injection h1 with e1 e2
        subst e1; subst e2
        cases r with
        | nil => exact ⟨x, by rw [← Array.toArray_toList (xs := args), hq], h2⟩
        | cons x2 r2 =>
          simp only [opds] at h3
          obtain ⟨b2, _, h3⟩ := bind_some h3
          obtain ⟨bs2, _, h3⟩ := map_some' h3
          cases h3
    split at hc
    · -- len
      split at hc
      · rename_i t' y hl
        injection hc with hc; subst hc
        obtain ⟨x, rfl, hx⟩ := hone rfl
        obtain ⟨t, r, e1, e2⟩ : ∃ t r, ts.toList = t :: r ∧ P.underlying t = some (.slice t') := by
          cases hq : ts.toList with
          | nil => rw [hq] at hl; cases hl
          | cons t r => rw [hq] at hl; injection hl with hl _; exact ⟨t, r, rfl, hl⟩
        simp only [vop, ap1, Bool.and_eq_true] at ok ⊢
        obtain ⟨z, hz, hv⟩ := aln_sound P ts t o.type t' (hts e1) e2 (ov_VR h hx hg ok.1) ok.2
        exact .inl ⟨z, by simp [execOp, hop, resolve, invoke, builtin, hz], hv⟩
      · rename_i y hl
        injection hc with hc; subst hc
        obtain ⟨x, rfl, hx⟩ := hone rfl
        obtain ⟨t, r, e1, e2⟩ : ∃ t r, ts.toList = t :: r ∧ P.underlying t = some .string := by
          cases hq : ts.toList with
          | nil => rw [hq] at hl; cases hl
          | cons t r => rw [hq] at hl; injection hl with hl _; exact ⟨t, r, rfl, hl⟩
        simp only [vop, ap1, Bool.and_eq_true] at ok ⊢
        obtain ⟨z, hz, hv⟩ := alns_sound P ts t o.type (hts e1) e2 (ov_VR h hx hg ok.1) ok.2
        exact .inl ⟨z, by simp [execOp, hop, resolve, invoke, builtin, hz], hv⟩
      · cases hc
    · -- max
      split at hc
      · rename_i y yr
        injection hc with hc; subst hc
        cases hq : args.toList with
        | nil => rw [hq] at h1; simp [opds] at h1
        | cons x r =>
          rw [hq] at h1
          simp only [opds] at h1
          obtain ⟨b, h2, h1⟩ := bind_some h1
          obtain ⟨bs, h3, h1⟩ := map_some' h1
          injection h1 with e1 e2
          subst e1; subst e2
          simp only [vop, Bool.and_eq_true] at ok ⊢
          obtain ⟨k1, k2⟩ := ovs_VR h hg h3 ok.1.2
          obtain ⟨z, hz, hv⟩ := amxs_sound P true _ (r.map a.eval) _ (a.eval x) (by simp [k1]) (ov_VR h h2 hg ok.1.1) k2 ok.2
          refine .inl ⟨z, ?_, hv⟩
          have e : (args.map a.eval).toList = a.eval x :: r.map a.eval := by simp [hq]
          simp only [cond_true] at hz
          simp [execOp, hop, resolve, invoke, builtin, Builtin.max_, hq, hz]
      · cases hc
    · -- min
      split at hc
      · rename_i y yr
        injection hc with hc; subst hc
        cases hq : args.toList with
        | nil => rw [hq] at h1; simp [opds] at h1
        | cons x r =>
          rw [hq] at h1
          simp only [opds] at h1
          obtain ⟨b, h2, h1⟩ := bind_some h1
          obtain ⟨bs, h3, h1⟩ := map_some' h1
          injection h1 with e1 e2
          subst e1; subst e2
          simp only [vop, Bool.and_eq_true] at ok ⊢
          obtain ⟨k1, k2⟩ := ovs_VR h hg h3 ok.1.2
          obtain ⟨z, hz, hv⟩ := amxs_sound P false _ (r.map a.eval) _ (a.eval x) (by simp [k1]) (ov_VR h h2 hg ok.1.1) k2 ok.2
          refine .inl ⟨z, ?_, hv⟩
          simp only [cond_false] at hz
          simp [execOp, hop, resolve, invoke, builtin, Builtin.min_, hq, hz]
      · cases hc
    · -- append
      split at hc
      · split at hc
        · obtain ⟨i, _, hc⟩ := bind_some hc
          obtain ⟨z, _, rfl⟩ := map_some' hc
          cases hne
        · cases hc
      · cases hc
    · -- a function
      rename_i f _
      split at hc
      · rename_i hcall
        injection hc with hc
        have hrun : (execOp a.eval o).run P w = .ok (.enter f (args.map a.eval)) w := by
          simp [execOp, hop, resolve, invoke, Deferred.ofValue, Act.eval, run_callFunc hcall]
        split at hc
        · subst hc
          simp only [vop] at ok ⊢
          rcases pcallX_sound hH lo f (ovs g env ys) (args.map a.eval) (fun hok => ovs_Args h hg h1 hok) ok with ⟨e1, e2⟩ | ⟨as, e1, e2, e3⟩
          · exact .inr (.inl ⟨f, _, _, hrun, e1, e2⟩)
          · exact .inr (.inr (.inl ⟨f, as, _, hrun, e1, e2, e3⟩))
        · subst hc
          simp only [vop] at ok ⊢
          cases hp : K.icall f (ovs g env ys).1 with
          | none => simp [hp] at ok
          | some r =>
            simp only [hp] at ok ⊢
            exact .inr (.inr (.inr ⟨f, _, _, hrun, ovs_Args h hg h1 ok, hp⟩))
        · subst hc; cases hne
      · cases hc
    · rename_i t _
      obtain ⟨y, hy, hc⟩ := map_some' hc
      split at hc
      · subst hc
        simp only [vop] at ok ⊢
        cases hf : ov g env y with
        | mk v okf =>
          cases v <;> simp only [hf] at ok ⊢ <;> try (cases ok; done)
          rename_i f' fs cs
          have hokf : okf = true := by
            unfold pcallX at ok
            simp only at ok
            repeat' split at ok
            all_goals first
              | (simp only [Bool.and_eq_true] at ok; exact ok.1)
              | (simp only [Bool.and_eq_true] at ok; exact ok.1.1)
              | cases ok
          have hvf := ov_VR h hy hg (by rw [hf]; exact hokf)
          rw [hf] at hvf
          generalize hX : a.eval (.tmp t) = X at hvf
          simp only at hvf
          obtain ⟨A, B, rfl, hA, hB, ha, hb⟩ := hvf.fn_inv
          have hargs : (okf && (ovs g env ys).2) = true → ArgsR F ι w (fs ++ (ovs g env ys).1 ++ cs) (A ++ args.map a.eval ++ B) := fun hok => by
            rw [Bool.and_eq_true] at hok
            exact args_append hA hB ha hb (ovs_Args h hg h1 hok.2)
          have hrun : callable P f' = true → (execOp a.eval o).run P w = .ok (.enter f' (A ++ args.map a.eval ++ B)) w := by
            intro hcal
            have hX' : a.tmps.getD t undef = .func (.func f') A B := hX
            simp only [Array.getD_eq_getD_getElem?] at hX'
            simp [execOp, hop, resolve, invoke, Deferred.ofValue, Act.eval, hX', run_callFunc hcal]
          rcases pcallX_sound hH lo f' (fs ++ (ovs g env ys).1 ++ cs, okf && (ovs g env ys).2) _ hargs ok with ⟨e1, e2⟩ | ⟨as, e1, e2, e3⟩
          · exact .inr (.inl ⟨f', _, _, hrun (hcp _ _ _ e2), e1, e2⟩)
          · exact .inr (.inr (.inl ⟨f', as, _, hrun (hcp _ _ _ e2), e1, e2, e3⟩))
      · subst hc; cases hne
    · cases hc

end Go.Proofs.Yteelkalenpbmmaa.Ab

/- More operations that leave the heap alone; and all of them as one. -/
import Derived.Test.YteelkalenpbmmaaAbs2
import Derived.Laws.StructEq
set_option linter.unusedVariables false
set_option linter.unusedSimpArgs false
namespace Go.Proofs.Yteelkalenpbmmaa.Ab

theorem eqFields_sound {F ι w} (P : Program) (d : Nat) (X Y : Array Value) : ∀ (fs : List Field) (n : Nat) (xs ys : List AV), intFields P fs n = true → xs.length = fs.length →
    (∀ j c, xs[j]? = some c → VR F ι w c (X.getD (n + j) undef) ∧ n + j < X.size) → (∀ j c, ys[j]? = some c → VR F ι w c (Y.getD (n + j) undef) ∧ n + j < Y.size) → (aeqs xs ys).2 = true →
    (Op.eqFields (d + 1) X Y fs).run P w = .ok (aeqs xs ys).1 w
  | [], n, xs, ys, _, hl, _, _, ok => by
    obtain rfl : xs = [] := List.eq_nil_of_length_eq_zero (by simpa using hl)
    cases ys with
    | nil => simp [Op.eqFields, aeqs]
    | cons y ys => simp [aeqs] at ok
  | f :: fs, n, xs, ys, hi, hl, hx, hy, ok => by
    cases xs with
    | nil => simp at hl
    | cons x xs =>
      cases ys with
      | nil => cases x <;> simp [aeqs] at ok
      | cons y ys =>
        cases x with
        | int k a =>
          cases y with
          | int k' b =>
            simp only [intFields, Bool.and_eq_true, beq_iff_eq, bne_iff_ne] at hi
            obtain ⟨⟨⟨hoff, hint⟩, hname⟩, hrest⟩ := hi
            simp only [aeqs, Bool.and_eq_true, beq_iff_eq] at ok
            obtain ⟨rfl, ok⟩ := ok
            unfold isInt at hint
            split at hint
            · rename_i k0 hu
              obtain ⟨hvx, hlx⟩ := hx 0 (.int k a) (by simp)
              obtain ⟨hvy, hly⟩ := hy 0 (.int k b) (by simp)
              simp only [Nat.add_zero] at hvx hlx hvy hly
              have ex : X[n]? = some (.int k a) := by rw [getD_of hlx]; generalize X.getD n undef = q at hvx; cases hvx; rfl
              have ey : Y[n]? = some (.int k b) := by rw [getD_of hly]; generalize Y.getD n undef = q at hvy; cases hvy; rfl
              have hagg : (isAgg f.type).run P w = .ok false w := by simp [isAgg, run_underlying hu]
              have px : (part f.type X f.offset).run P w = .ok (.int k a) w := by simp [part, hagg, hoff, ex]
              have py : (part f.type Y f.offset).run P w = .ok (.int k b) w := by simp [part, hagg, hoff, ey]
              have he := run_equalIn_int (P := P) w d f.type k k0 a b hu
              have ih := eqFields_sound P d X Y fs (n + 1) xs ys hrest (by simpa using hl) (fun j c hj => by
                have := hx (j + 1) c (by simpa using hj); rwa [show n + (j + 1) = n + 1 + j by omega] at this) (fun j c hj => by
                have := hy (j + 1) c (by simpa using hj); rwa [show n + (j + 1) = n + 1 + j by omega] at this) ok
              simp only [Op.eqFields, ne_eq, hname, not_false_eq_true, if_true, Sem.run_bind, px, py, he, Result.andThen_ok, aeqs]
              cases hab : (a == b)
              · simp
              · simp [ih]
            · cases hint
          | _ => simp [aeqs] at ok
        | _ => simp [aeqs] at ok

theorem aaeq_sound {F ι w va vb x y} (P : Program) (neg : Bool) (t : TypeId) (fs : Array Field) (xo yo : Operand) (ht : P.underlying t = some (.struct fs)) (hi : intFields P fs.toList 0 = true) (hst : P.stoodInHeld t = false)
    (heq : P.eqGuardType P.depth t = false) (h : VR F ι w va x) (k : VR F ι w vb y) (ok : (aaeq neg fs.size va vb).2 = true) :
    ∃ z, (do eqGuard (bif neg then .neq else .eql) t xo yo x y; binOp (bif neg then .neq else .eql) t x y : Sem Value).run P w = .ok z w ∧ VR F ι w (aaeq neg fs.size va vb).1 z := by
  cases h <;> try (simp [aaeq] at ok; done)
  rename_i xs X hX hx
  cases k <;> try (simp [aaeq] at ok; done)
  rename_i ys Y hY hy
  simp only [aaeq, Bool.and_eq_true, beq_iff_eq] at ok
  have hf : P.fieldsOf t = fs := by simp [Program.fieldsOf, ht]
  have hr := run_equalIn_struct (P := P) w 9999 t X Y (by rw [hf]; exact ht) hst
  rw [hf] at hr
  have hlt : ∀ {zs : List AV} {Z : Array Value}, Z.size = zs.length → ∀ (j : Nat) (c : AV), zs[j]? = some c → 0 + j < Z.size := by
    intro zs Z hZ j c hj
    have := (List.getElem?_eq_some_iff.1 hj).1
    omega
  have hs := eqFields_sound (F := F) (ι := ι) (w := w) P 9998 X Y fs.toList 0 xs ys hi (by simpa using ok.2) (fun j c hj => ⟨by simpa using hx j c hj, hlt hX j c hj⟩) (fun j c hj => ⟨by simpa using hy j c hj, hlt hY j c hj⟩) ok.1
  rw [hs] at hr
  rw [Sem.run_bind]
  have hg : ∀ op, (eqGuard op t xo yo (.agg X) (.agg Y)).run P w = .ok () w := fun op => run_eqGuard_agg w op t xo yo X Y heq
  rw [hg]
  cases neg
  · refine ⟨_, ?_, by simp only [aaeq]; exact .bool _⟩
    simp only [cond_false, Result.andThen_ok, run_eql_struct]
    rw [show (10000 : Nat) = 9999 + 1 from rfl, hr]; rfl
  · refine ⟨_, ?_, by simp only [aaeq]; exact .bool _⟩
    simp only [cond_true, Result.andThen_ok, run_neq_struct]
    rw [show (10000 : Nat) = 9999 + 1 from rfl, hr]; rfl

/-- A bound and its value. -/
theorem bnd_sound {F ι w d v x} (h : VR F ι w v x) {n : Nat} (hn : abnd d (some v) = some n) : ∃ (k : IntKind) (i : Int), x = .int k i ∧ 0 ≤ i ∧ i.toNat = n := by
  cases h <;> try (simp [abnd] at hn; done)
  simp [abnd] at hn
  exact ⟨_, _, rfl, hn.1, hn.2⟩

theorem run_bounds (P : Program) (w : World) (lo hi mx : Option Value) (len cap l h m : Nat) (hlo : (lo = none ∧ l = 0) ∨ ∃ (k : IntKind) (i : Int), lo = some (.int k i) ∧ 0 ≤ i ∧ i.toNat = l)
    (hhi : (hi = none ∧ h = len) ∨ ∃ (k : IntKind) (i : Int), hi = some (.int k i) ∧ 0 ≤ i ∧ i.toNat = h) (hmx : (mx = none ∧ h ≤ cap) ∨ ∃ (k : IntKind) (i : Int), mx = some (.int k i) ∧ 0 ≤ i ∧ i.toNat = m)
    (hmh : mx.isSome = true → hi.isSome = true) (isS : Bool) (h1 : l ≤ h) (h2 : mx.isSome = true → h ≤ m) (h3 : mx.isSome = true → m ≤ cap) :
    (Instr.sliceBounds isS len cap lo hi mx).run P w = .ok (l, h, if mx.isSome then m else cap) w := by
  have hb : ∀ (k : IntKind) (i : Int) (y : Nat) (c : BoundsCode), 0 ≤ i → i.toNat ≤ y → (Instr.sliceBound (.int k i) y c).run P w = .ok i.toNat w :=
    fun k i y c h0 h1 => run_sliceBound (P := P) w k i y c h0 (by omega)
  rcases hmx with ⟨rfl, hc⟩ | ⟨km, im, rfl, hm0, rfl⟩
  · rcases hhi with ⟨rfl, rfl⟩ | ⟨kh, ih, rfl, hh0, rfl⟩
    · rcases hlo with ⟨rfl, rfl⟩ | ⟨kl, il, rfl, hl0, rfl⟩
      · simp [Instr.sliceBounds]
      · simp [Instr.sliceBounds, hb _ _ _ _ hl0 h1]
    · rcases hlo with ⟨rfl, rfl⟩ | ⟨kl, il, rfl, hl0, rfl⟩
      · simp [Instr.sliceBounds, hb _ _ _ _ hh0 hc]
      · simp [Instr.sliceBounds, hb _ _ _ _ hh0 hc, hb _ _ _ _ hl0 h1]
  · have h2' := h2 rfl
    have h3' := h3 rfl
    rcases hhi with ⟨rfl, rfl⟩ | ⟨kh, ih, rfl, hh0, rfl⟩
    · simp at hmh
    · rcases hlo with ⟨rfl, rfl⟩ | ⟨kl, il, rfl, hl0, rfl⟩
      · simp [Instr.sliceBounds, hb _ _ _ _ hh0 h2', hb _ _ _ _ hm0 h3']
      · simp [Instr.sliceBounds, hb _ _ _ _ hh0 h2', hb _ _ _ _ hm0 h3', hb _ _ _ _ hl0 h1]

/-- What an optional operand is. -/
def OV (F : Nat → Prop) (ι : Nat → Option Nat) (w : World) : Option AV → Option Value → Prop
  | none, none => True
  | some a, some x => VR F ι w a x
  | _, _ => False

theorem ov_bnd {F ι w d a x} (h : OV F ι w a x) {n : Nat} (hn : abnd d a = some n) : (x = none ∧ n = d) ∨ ∃ (k : IntKind) (i : Int), x = some (.int k i) ∧ 0 ≤ i ∧ i.toNat = n := by
  cases a with
  | none =>
    cases x with
    | none => simp [abnd] at hn; exact .inl ⟨rfl, hn.symm⟩
    | some x => exact h.elim
  | some a =>
    cases x with
    | none => exact h.elim
    | some x =>
      obtain ⟨k, i, rfl, h0, h1⟩ := bnd_sound (d := d) h hn
      exact .inr ⟨k, i, rfl, h0, h1⟩
theorem ov_some {F ι w a x} (h : OV F ι w a x) : a.isSome = x.isSome := by
  cases a <;> cases x <;> simp_all [OV]

theorem asl_sound {F ι w va x lo hi mx lo' hi' mx'} (P : Program) (t e : TypeId) (sz : Nat) (ht : P.underlying t = some (.slice e)) (hsz : szOf P e = some sz) (h : VR F ι w va x)
    (hlo : OV F ι w lo lo') (hhi : OV F ι w hi hi') (hmx : OV F ι w mx mx') (hmh : mx.isSome = true → hi.isSome = true) (ok : (asl sz va lo hi mx).2 = true) :
    ∃ z, (Instr.sliceAt t x lo' hi' mx').run P w = .ok z w ∧ VR F ι w (asl sz va lo hi mx).1 z := by
  have hs : (sizeOf e).run P w = .ok sz w := by
    simp only [szOf, Option.map_eq_some_iff] at hsz
    obtain ⟨ti, h1, h2⟩ := hsz
    simp [sizeOf, typeInfo, h1, h2]
  have key : ∀ (a : Option Addr) (len cap l hh m : Nat), x = .slice a len cap → abnd len hi = some hh → abnd 0 lo = some l → abnd len mx = some m → l ≤ hh → hh ≤ m → m ≤ len → len ≤ cap →
      (Instr.sliceAt t x lo' hi' mx').run P w = .ok (.slice (if (if mx'.isSome then m else cap) = l then a else a.map (·.add (l * sz))) (hh - l) ((if mx'.isSome then m else cap) - l)) w := by
    intro a len cap l hh m hx h1 h2 h3 h4 h5 h6 h7
    subst hx
    have hb := run_bounds P w lo' hi' mx' len cap l hh m (ov_bnd hlo h2) (ov_bnd hhi h1) ((ov_bnd hmx h3).imp (fun h => ⟨h.1, by omega⟩) id)
      (fun hm => by rw [← ov_some hhi]; exact hmh (by rw [ov_some hmx]; exact hm)) true h4 (fun _ => h5) (fun _ => by omega)
    have hel : P.elem t = e := by simp [Program.elem, ht]
    rw [run_sliceAt_slice (P := P) w t _ lo' hi' mx' (by rw [hel]; exact ht)]
    simp only [Instr.slice, Sem.run_bind, run_underlying ht, Result.andThen_ok, hb, hs, Sem.run_pure]
  cases h <;> try (simp [asl] at ok; done)
  · -- nil
    simp only [asl] at ok ⊢
    cases h1 : abnd 0 hi with
    | none => simp [h1] at ok
    | some hh =>
      cases h2 : abnd 0 lo with
      | none => simp [h1, h2] at ok
      | some l =>
        cases h3 : abnd 0 mx with
        | none => simp [h1, h2, h3] at ok
        | some m =>
          simp [h1, h2, h3] at ok
          obtain ⟨⟨rfl, rfl⟩, rfl⟩ := ok
          refine ⟨_, key none 0 0 0 0 0 rfl h1 h2 h3 (by omega) (by omega) (by omega) (by omega), ?_⟩
          simp
          exact .nilsl
  · -- frozen, empty
    rename_i sz' a cap
    simp only [asl, List.length_nil] at ok ⊢
    cases h1 : abnd 0 hi with
    | none => simp [h1] at ok
    | some hh =>
      cases h2 : abnd 0 lo with
      | none => simp [h1, h2] at ok
      | some l =>
        cases h3 : abnd 0 mx with
        | none => simp [h1, h2, h3] at ok
        | some m =>
          simp [h1, h2, h3] at ok
          obtain ⟨⟨⟨rfl, h4⟩, h5⟩, h6⟩ := ok
          refine ⟨_, key a 0 cap l hh m rfl h1 h2 h3 (by omega) (by omega) (by omega) (by omega), ?_⟩
          have : hh - l = 0 := by omega
          by_cases hm0 : (mx.isSome && m == l) = true
          · simp only [h1, h2, h3, if_pos hm0]
            simp only [Bool.and_eq_true, beq_iff_eq] at hm0
            obtain ⟨hm1, rfl⟩ := hm0
            rw [ov_some hmx] at hm1
            rw [this, if_pos hm1, Nat.sub_self]
            exact .e0 _
          · simp only [h1, h2, h3, if_neg hm0, List.take_nil, List.drop_nil, this]
            exact .vsl0 _ _ _
  · -- frozen
    rename_i sz' es b off cap f hF hcap hsz' hc hv
    simp only [asl] at ok ⊢
    cases h1 : abnd es.length hi with
    | none => simp [h1] at ok
    | some hh =>
      cases h2 : abnd 0 lo with
      | none => simp [h1, h2] at ok
      | some l =>
        cases h3 : abnd es.length mx with
        | none => simp [h1, h2, h3] at ok
        | some m =>
          simp [h1, h2, h3] at ok
          obtain ⟨⟨⟨rfl, h4⟩, h5⟩, h6⟩ := ok
          refine ⟨_, key _ es.length cap l hh m rfl h1 h2 h3 h4 h5 h6 hcap.1, ?_⟩
          have hlen : ((es.take hh).drop l).length = hh - l := by simp; omega
          by_cases hm0 : (mx.isSome && m == l) = true
          · simp only [h1, h2, h3, if_pos hm0]
            simp only [Bool.and_eq_true, beq_iff_eq] at hm0
            obtain ⟨hm1, rfl⟩ := hm0
            rw [ov_some hmx] at hm1
            rw [show hh - m = 0 by omega, if_pos hm1, Nat.sub_self]
            exact .e0 _
          simp only [h1, h2, h3, if_neg hm0]
          rcases Nat.eq_zero_or_pos (hh - l) with h0 | h0
          · have he : (es.take hh).drop l = [] := List.eq_nil_of_length_eq_zero (by omega)
            simp only [he, h0]
            exact .vsl0 _ _ _
          · rw [← hlen]
            have hne : ¬ ((if mx'.isSome then m else cap) = l) := by split <;> omega
            rw [if_neg hne]
            simp only [Option.map_some, add_lit]
            refine .vsl sz _ b (off + l * sz) _ (fun i j => f (l + i) j) hF ⟨by rw [hlen]; split <;> omega, by rw [hlen]; omega⟩ (fun i e' he' => ?_) (fun i e' j c he' hj => ?_) (fun i e' j c he' hj => ?_)
            all_goals
              rw [List.getElem?_drop, List.getElem?_take] at he'
              split at he'
              · rename_i hlt
                first
                  | exact hsz' _ _ he'
                  | (have := hc _ _ j c he' hj
                     rw [Nat.add_mul] at this
                     rw [show off + l * sz + (i * sz + j) = off + (l * sz + i * sz + j) by omega]
                     exact this)
                  | exact hv _ _ j c he' hj
              · cases he'
  · -- of the heap, nil
    rename_i sz' id off a
    simp only [asl] at ok ⊢
    cases h1 : abnd 0 hi with
    | none => simp [h1] at ok
    | some hh =>
      cases h2 : abnd 0 lo with
      | none => simp [h1, h2] at ok
      | some l =>
        cases h3 : abnd 0 mx with
        | none => simp [h1, h2, h3] at ok
        | some m =>
          simp [h1, h2, h3] at ok
          obtain ⟨⟨⟨rfl, h4⟩, h5⟩, h6⟩ := ok
          obtain rfl : m = 0 := by omega
          obtain rfl : hh = 0 := by omega
          obtain rfl : l = 0 := by omega
          refine ⟨_, key a 0 0 0 0 0 rfl h1 h2 h3 (by omega) (by omega) (by omega) (by omega), ?_⟩
          simp
          exact .rslv _ _ _ _
  · rename_i sz' id off len b cap n' t' hι hcap hsh hn
    simp only [asl] at ok ⊢
    cases h1 : abnd len hi with
    | none => simp [h1] at ok
    | some hh =>
      cases h2 : abnd 0 lo with
      | none => simp [h1, h2] at ok
      | some l =>
        cases h3 : abnd len mx with
        | none => simp [h1, h2, h3] at ok
        | some m =>
          simp [h1, h2, h3] at ok
          obtain ⟨⟨⟨rfl, h4⟩, h5⟩, h6⟩ := ok
          refine ⟨_, key _ len cap l hh m rfl h1 h2 h3 h4 h5 h6 hcap, ?_⟩
          have hM : l ≤ (if mx'.isSome then m else cap) ∧ hh ≤ (if mx'.isSome then m else cap) ∧ (if mx'.isSome then m else cap) ≤ cap := by split <;> omega
          generalize (if mx'.isSome then m else cap) = M at hM
          obtain ⟨hM1, hM2, hM3⟩ := hM
          by_cases hl0 : M = l
          · subst hl0
            have h0 : hh - M = 0 := by omega
            simp only [if_true, Nat.sub_self, h0]
            exact .rslv _ _ _ _
          · rw [if_neg hl0]
            simp only [Option.map_some, add_lit]
            refine .rsl sz id _ _ b (M - l) n' t' hι (by omega) hsh ?_
            have : (M - l) * sz + l * sz ≤ cap * sz := by rw [← Nat.add_mul]; exact Nat.mul_le_mul_right _ (by omega)
            omega

end Go.Proofs.Yteelkalenpbmmaa.Ab

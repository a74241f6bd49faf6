/- Contracts; the cells of a slice that is read; all operations that leave the heap alone. -/
import Derived.Test.YteelkalenpbmmaaAbs4
set_option linter.unusedVariables false
set_option linter.unusedSimpArgs false
namespace Go.Proofs.Yteelkalenpbmmaa.Ab
open Go.RowKit

/-- Arguments, held against the model's. -/
def ArgsR (F : Nat → Prop) (ι : Nat → Option Nat) (w : World) (avs : List AV) (vs : Array Value) : Prop := vs.size = avs.length ∧ ∀ (j : Nat) (c : AV), avs[j]? = some c → VR F ι w c (vs.getD j undef)

/-- The blocks that a heap's live blocks lie in. -/
def Own (H : Heap) (ι : Nat → Option Nat) (b : Nat) : Prop := ∃ (id : Nat) (cs : List AV), H[id]? = some (.live cs) ∧ ι id = some b

/-- A function that turns nothing: what it gives, by its arguments alone. -/
def PContract (P : Program) (f : FuncId) (g : List AV → Option AV) : Prop :=
  ∀ (F : Nat → Prop) (w : World) (avs : List AV) (vs : Array Value) (r : AV), (∀ b, F b → b < w.heap.size) → g avs = some r → ArgsR F (fun _ => none) w avs vs →
    Calls P f vs w fun e w' => ∃ (F' : Nat → Prop) (x : Value), e = .returned x ∧ (∀ b, F b → F' b) ∧ (∀ b, F' b → F b ∨ w.heap.size ≤ b) ∧ (∀ b, F' b → b < w'.heap.size) ∧ VR F' (fun _ => none) w' r x ∧ Below w.heap.size w w'

/-- A function in general: what it gives, and what becomes of the heap. -/
def EContract (P : Program) (f : FuncId) (S : List AV → Heap → Option (AV × Heap)) : Prop :=
  ∀ (F : Nat → Prop) (ι : Nat → Option Nat) (H : Heap) (w : World) (avs : List AV) (vs : Array Value) (r : AV × Heap), HRel F ι H w → S avs H = some r → ArgsR F ι w avs vs →
    Calls P f vs w fun e w' => ∃ (F' : Nat → Prop) (ι' : Nat → Option Nat) (x : Value), e = .returned x ∧ Grow F ι w F' ι' w' ∧ Run (Own H ι) F w F' ι' r.2 w' ∧ VR F' ι' w' r.1 x

structure KOk (P : Program) (K : Cfg) : Prop where
  p : ∀ f, PContract P f (K.pcall f)
  e : ∀ f, EContract P f (K.ecall f)
  i : ∀ f, EContract P f (fun avs H => (K.icall f avs).map fun r => (r, H))
  c : ∀ f avs H r, K.ecall f avs H = some r → callable P f = true
  cp : ∀ f avs r, K.pcall f avs = some r → callable P f = true
  m : P.follows .mixedOrders = true

theorem Run.refl {F ι H w} (h : HRel F ι H w) : Run (Own H ι) F w F ι H w :=
  ⟨h, Nat.le_refl _, rfl, rfl, rfl, fun _ _ _ => rfl, fun _ _ => rfl, fun id cs b h1 h2 => .inl ⟨id, cs, h1, h2⟩, fun b hb => .inl hb⟩

theorem Run.comp {O F0 w0 F ι H w F' ι' H' w'} (h : Run O F0 w0 F ι H w) (k : Run (Own H ι) F w F' ι' H' w') : Run O F0 w0 F' ι' H' w' where
  h := k.h
  size := Nat.le_trans h.size k.size
  os := k.os.trans h.os
  tape := k.tape.trans h.tape
  output := k.output.trans h.output
  keep b hb hO := by
    rw [k.keep b (Nat.lt_of_lt_of_le hb h.size) (fun ⟨id, cs, h1, h2⟩ => by rcases h.own id cs b h1 h2 with h3 | h3; exact hO h3; omega)]
    exact h.keep b hb hO
  shape b hb := (k.shape b (Nat.lt_of_lt_of_le hb h.size)).trans (h.shape b hb)
  own id cs b h1 h2 := by
    rcases k.own id cs b h1 h2 with ⟨id', cs', h3, h4⟩ | h3
    · exact h.own id' cs' b h3 h4
    · exact .inr (Nat.le_trans h.size h3)
  frz b hb := by
    rcases k.frz b hb with h1 | ⟨id', cs', h3, h4⟩ | h3
    · exact h.frz b h1
    · exact .inr (h.own id' cs' b h3 h4)
    · exact .inr (.inr (Nat.le_trans h.size h3))

/-- The world has grown, nothing that was there has turned, more is frozen. -/
theorem HRel.below {F ι H w F' w'} (h : HRel F ι H w) (hb : Below w.heap.size w w') (h1 : ∀ b, F b → F' b) (h2 : ∀ b, F' b → F b ∨ w.heap.size ≤ b) (h3 : ∀ b, F' b → b < w'.heap.size) :
    HRel F' ι H w' ∧ Grow F ι w F' ι w' := by
  have g : Grow F ι w F' ι w' := ⟨h1, fun _ _ h => h, hb.size, fun b hF => hb.block b (h.frz b hF), fun b hlt => by simp only [World.shape?]; rw [hb.block b hlt]⟩
  refine ⟨⟨fun id cs hl => ?_, h.inj, h3, fun id b hi => ⟨Nat.lt_of_lt_of_le (h.dom id b hi).1 hb.size, (h.dom id b hi).2⟩⟩, g⟩
  rcases h.live id cs hl with hn | ⟨b, C, t, fr, hi, hw, hF, hle, hfr, hv⟩
  · exact .inl hn
  · have hlt := (h.dom id b hi).1
    refine .inr ⟨b, C, t, fr, hi, by rw [hb.block b hlt]; exact hw, fun hF' => ?_, hle, hfr, fun j c hj => ?_⟩
    · rcases h2 b hF' with h4 | h4
      · exact hF h4
      · omega
    · obtain ⟨x, hx, hvx⟩ := hv j c hj
      exact ⟨x, hx, hvx.grow g⟩

theorem Run.below {O F0 w0 F ι H w F' w'} (h : Run O F0 w0 F ι H w) (hb : Below w.heap.size w w') (h1 : ∀ b, F b → F' b) (h2 : ∀ b, F' b → F b ∨ w.heap.size ≤ b) (h3 : ∀ b, F' b → b < w'.heap.size) :
    Run O F0 w0 F' ι H w' where
  h := (h.h.below hb h1 h2 h3).1
  size := Nat.le_trans h.size hb.size
  os := hb.os.trans h.os
  tape := hb.tape.trans h.tape
  output := hb.output.trans h.output
  keep b hlt hO := by rw [hb.block b (Nat.lt_of_lt_of_le hlt h.size)]; exact h.keep b hlt hO
  shape b hlt := by
    have e := h.shape b hlt
    simp only [World.shape?] at e ⊢
    rw [hb.block b (Nat.lt_of_lt_of_le hlt h.size)]; exact e
  own := h.own
  frz b hF := by
    rcases h2 b hF with h4 | h4
    · exact h.frz b h4
    · exact .inr (.inr (Nat.le_trans h.size h4))

/-! ### The cells of a slice that is read -/

theorem flatMap_get {sz : Nat} : ∀ (es : List AV), (∀ (i : Nat) (e : AV), es[i]? = some e → e.cells.length = sz) → ∀ (j : Nat) (c : AV), (es.flatMap AV.cells)[j]? = some c →
    ∃ (i : Nat) (e : AV) (k : Nat), es[i]? = some e ∧ e.cells[k]? = some c ∧ j = i * sz + k ∧ k < sz
  | [], _, j, c, h => by simp at h
  | e :: es, hs, j, c, h => by
    have he := hs 0 e (by simp)
    rw [List.flatMap_cons] at h
    by_cases hj : j < sz
    · rw [List.getElem?_append_left (by omega)] at h
      exact ⟨0, e, j, by simp, h, by omega, hj⟩
    · rw [List.getElem?_append_right (by omega)] at h
      obtain ⟨i, e', k, h1, h2, h3, h4⟩ := flatMap_get es (fun i e' h => hs (i + 1) e' (by simpa using h)) (j - e.cells.length) c h
      exact ⟨i + 1, e', k, by simpa using h1, h2, by rw [Nat.add_mul]; omega, h4⟩
theorem flatMap_length {sz : Nat} : ∀ (es : List AV), (∀ (i : Nat) (e : AV), es[i]? = some e → e.cells.length = sz) → (es.flatMap AV.cells).length = es.length * sz
  | [], _ => by simp
  | e :: es, hs => by
    rw [List.flatMap_cons, List.length_append, hs 0 e (by simp), flatMap_length es (fun i e' h => hs (i + 1) e' (by simpa using h)), List.length_cons, Nat.add_mul]
    omega

theorem slCells_sound {F ι w H v x} (hH : HRel F ι H w) (sz : Nat) (h : VR F ι w v x) (ok : (slCells H sz v).2.2 = true) :
    ∃ (vs : List Value), vs.length = (slCells H sz v).1.length ∧ (slCells H sz v).1.length = (slCells H sz v).2.1 * sz ∧ (∀ (j : Nat) (c : AV), (slCells H sz v).1[j]? = some c → VR F ι w c (vs.getD j undef)) ∧
      ∃ A cap, x = .slice A (slCells H sz v).2.1 cap ∧ (slCells H sz v).2.1 ≤ cap ∧ (A = none → (slCells H sz v).2.1 = 0) ∧ ∀ ad, A = some ad → ∀ (j : Nat) (u : Value), vs[j]? = some u → w.cell? (ad.add j) = some u := by
  cases h <;> try (simp [slCells] at ok; done)
  · exact ⟨[], by simp [slCells], by simp [slCells], by simp [slCells], none, 0, rfl, Nat.le_refl _, fun _ => rfl, fun ad h => by cases h⟩
  · rename_i sz' a cap
    exact ⟨[], by simp [slCells], by simp [slCells], by simp [slCells], a, cap, rfl, Nat.zero_le _, fun _ => rfl, fun ad _ j u h => by simp at h⟩
  · rename_i sz' es b off cap f hF hcap hsz hc hv
    simp only [slCells, beq_iff_eq] at ok ⊢
    subst ok
    have hl := flatMap_length es hsz
    have hidx : ∀ (i k : Nat), k < sz → (i * sz + k) / sz = i ∧ (i * sz + k) % sz = k := by
      intro i k hk
      have h0 : 0 < sz := by omega
      constructor
      · rw [Nat.mul_comm, Nat.mul_add_div h0, Nat.div_eq_of_lt hk, Nat.add_zero]
      · rw [Nat.mul_comm, Nat.mul_add_mod, Nat.mod_eq_of_lt hk]
    refine ⟨(List.range (es.length * sz)).map fun j => f (j / sz) (j % sz), by simp [hl], hl, fun j c hj => ?_, some ⟨b, off, none⟩, cap, rfl, hcap.1, (fun h => by cases h), fun ad had j u hj => ?_⟩
    · obtain ⟨i, e, k, h1, h2, rfl, h4⟩ := flatMap_get es hsz j c hj
      have hlt : i * sz + k < es.length * sz := by
        have := (List.getElem?_eq_some_iff.1 hj).1
        omega
      simp only [List.getD_eq_getElem?_getD, List.getElem?_map, List.getElem?_range hlt, Option.map_some, Option.getD_some, (hidx i k h4).1, (hidx i k h4).2]
      exact hv i e k c h1 h2
    · injection had with had
      subst had
      rw [add_lit]
      rw [List.getElem?_map] at hj
      have hlt : j < es.length * sz := by
        rcases Nat.lt_or_ge j (es.length * sz) with h | h
        · exact h
        · simp [List.getElem?_eq_none (show (List.range (es.length * sz)).length ≤ j by simpa using h)] at hj
      rw [List.getElem?_range hlt] at hj
      simp only [Option.map_some, Option.some.injEq] at hj
      have h0 : 0 < sz := Nat.pos_of_ne_zero (fun e => by subst e; simp at hlt)
      have hi : j / sz < es.length := (Nat.div_lt_iff_lt_mul h0).2 hlt
      have hk : j % sz < sz := Nat.mod_lt _ h0
      have he := List.getElem?_eq_getElem hi
      have hc' := hc (j / sz) _ (j % sz) _ he (List.getElem?_eq_getElem (by rw [hsz _ _ he]; exact hk))
      rw [show off + j = off + (j / sz * sz + j % sz) by rw [Nat.mul_comm, Nat.div_add_mod], hc', hj]
  · rename_i sz' id off a
    simp only [slCells] at ok ⊢
    cases hg : hget H id with
    | none => simp [hg] at ok
    | some cs => exact ⟨[], by simp, by simp, by simp, a, 0, by simp, Nat.le_refl _, fun _ => rfl, fun ad _ j u h => by simp at h⟩
  · rename_i sz' id off len b cap n t hi hcap hsh hn
    simp only [slCells] at ok ⊢
    cases hg : hget H id with
    | none => simp [hg] at ok
    | some cs =>
      simp only [hg, Bool.and_eq_true, beq_iff_eq, decide_eq_true_eq] at ok ⊢
      obtain ⟨rfl, ok⟩ := ok
      rcases hH.live id cs (hget_some hg) with ⟨rfl, hno⟩ | ⟨b', C, t', fr, hi', hb, hF, hle, hfr, hv⟩
      · rw [hno] at hi; cases hi
      · rw [hi] at hi'
        injection hi' with hi'
        subst hi'
        have hlen : ((cs.drop off).take (len * sz)).length = len * sz := by simp; omega
        refine ⟨(List.range (len * sz)).map fun j => C.getD (off + j) undef, by rw [hlen]; simp, hlen, fun j c hj => ?_, some ⟨b, off, none⟩, cap, rfl, hcap, (fun h => by cases h), fun ad had j u hj => ?_⟩
        · rw [List.getElem?_take] at hj
          split at hj
          · rename_i hlt
            rw [List.getElem?_drop] at hj
            simp only [List.getD_eq_getElem?_getD, List.getElem?_map, List.getElem?_range hlt, Option.map_some, Option.getD_some]
            obtain ⟨x, hx, hvx⟩ := hv _ _ hj
            have : C.getD (off + j) undef = x := by rw [Array.getD_eq_getD_getElem?, hx]; rfl
            rw [this]; exact hvx
          · cases hj
        · injection had with had
          subst had
          rw [add_lit]
          rw [List.getElem?_map] at hj
          have hlt : j < len * sz := by
            rcases Nat.lt_or_ge j (len * sz) with h | h
            · exact h
            · simp [List.getElem?_eq_none (show (List.range (len * sz)).length ≤ j by simpa using h)] at hj
          rw [List.getElem?_range hlt] at hj
          simp only [Option.map_some, Option.some.injEq] at hj
          subst hj
          simp only [World.cell?, hb, Option.isSome_none, Bool.false_eq_true, if_false]
          exact getD_of (by omega)
  · rename_i a
    exact ⟨[], by simp [slCells], by simp [slCells], by simp [slCells], a, 0, by simp [slCells], Nat.le_refl _, fun _ => rfl, fun ad _ j u h => by simp at h⟩

theorem b2n_sound {F ι w} : ∀ (cs : List AV) (l : List Int) (vs : List Value), b2n cs = some l → vs.length = cs.length → (∀ (j : Nat) (c : AV), cs[j]? = some c → VR F ι w c (vs.getD j undef)) → vs = l.map (Value.int .u8)
  | [], l, vs, h, hl, _ => by
    simp [b2n] at h
    subst h
    exact List.eq_nil_of_length_eq_zero (by simpa using hl)
  | c :: cs, l, vs, h, hl, hv => by
    cases vs with
    | nil => simp at hl
    | cons v vs =>
      have hv0 := hv 0 c (by simp)
      cases c with
      | int k n =>
        cases k <;> try (simp [b2n] at h; done)
        simp only [b2n, Option.map_eq_some_iff] at h
        obtain ⟨l', h1, rfl⟩ := h
        simp at hv0
        cases hv0
        rw [b2n_sound cs l' vs h1 (by simpa using hl) (fun j c hj => by simpa using hv (j + 1) c (by simpa using hj))]
        rfl
      | _ => simp [b2n] at h

theorem b2s_sound {F ι w H v x} (P : Program) (hH : HRel F ι H w) (src dst e : TypeId) (hs : P.underlying src = some (.slice e)) (he : P.underlying e = some (.int .u8)) (hd : P.underlying dst = some .string) (h : VR F ι w v x)
    (ok : (slCells H 1 v).2.2 = true) (l : List Int) (hl : b2n (slCells H 1 v).1 = some l) : (convert src dst x).run P w = .ok (.string (strOfNums l)) w := by
  obtain ⟨vs, h1, h2, h3, A, cap, rfl, _, h4, h5⟩ := slCells_sound hH 1 h ok
  have hvs := b2n_sound _ l vs hl h1 h3
  have hll : l.length = (slCells H 1 v).2.1 := by rw [hvs] at h1; simp at h1 h2; omega
  cases A with
  | none =>
    have h0 := h4 rfl
    obtain rfl : l = [] := List.eq_nil_of_length_eq_zero (by omega)
    rw [run_convert_bytes_nil w src e hs he _ _ dst hd]
    rfl
  | some ad =>
    rcases Nat.eq_zero_or_pos (slCells H 1 v).2.1 with h0 | h0
    · obtain rfl : l = [] := List.eq_nil_of_length_eq_zero (by omega)
      rw [h0]
      simp [convert, run_underlying hs, run_underlying hd, run_underlying he, Conv.bytesToString, loadCells, loadCellsFrom]
      rfl
    · have hc0 := h5 ad rfl 0 (.int .u8 (l.getD 0 0)) (by rw [hvs]; cases l with | nil => simp at hll; omega | cons a l => simp)
      have hsp : ad.spot = none := by
        cases hq : ad.spot with
        | none => rfl
        | some s =>
          have : ad.add 0 = ad := by simp [Addr.add]
          rw [this] at hc0
          simp only [World.cell?, hq, Option.isSome_some, if_true] at hc0
          split at hc0 <;> cases hc0
      obtain ⟨b, off, sp⟩ := ad
      simp only at hsp
      subst hsp
      refine run_convert_bytes_arg w src e hs he b off _ cap l hll (fun i hi => ?_) dst hd
      have := h5 _ rfl i (.int .u8 (l.getD i 0)) (by rw [hvs, List.getElem?_map, List.getElem?_eq_getElem (show i < l.length by omega)]; simp [List.getD, List.getElem?_eq_getElem (show i < l.length by omega)])
      rwa [add_lit] at this

theorem bind_some {α β : Type} {x : Option α} {f : α → Option β} {b : β} (h : x.bind f = some b) : ∃ a, x = some a ∧ f a = some b := Option.bind_eq_some_iff.1 h
theorem map_some' {α β : Type} {x : Option α} {f : α → β} {b : β} (h : x.map f = some b) : ∃ a, x = some a ∧ f a = b := Option.map_eq_some_iff.1 h

theorem VR.fn_inv {F ι w f fs cs x} (h : VR F ι w (.fn f fs cs) x) : ∃ A B : Array Value, x = .func (.func f) A B ∧ A.size = fs.length ∧ B.size = cs.length ∧
    (∀ (j : Nat) (c : AV), fs[j]? = some c → VR F ι w c (A.getD j undef)) ∧ (∀ (j : Nat) (c : AV), cs[j]? = some c → VR F ι w c (B.getD j undef)) := by
  cases h with
  | fn _ _ _ A B h1 h2 h3 h4 => exact ⟨A, B, rfl, h1, h2, h3, h4⟩

theorem VR.rsl_inv {F ι w sz id off len x} (h : VR F ι w (.rsl sz id off len) x) : (∃ a, x = .slice a 0 0 ∧ len = 0) ∨
    ∃ (b cap n : Nat) (t : TypeId), x = .slice (some ⟨b, off, none⟩) len cap ∧ ι id = some b ∧ len ≤ cap ∧ w.shape? b = some (t, n) ∧ off + cap * sz ≤ n := by
  cases h with
  | rslv _ _ _ a => exact .inl ⟨a, rfl, rfl⟩
  | rsl _ _ _ _ b cap n t h1 h2 h3 h4 => exact .inr ⟨b, cap, n, t, rfl, h1, h2, h3, h4⟩

theorem VR.ifg_inv {F ι w g v x} (h : VR F ι w (.ifg g v) x) : (g = true → VR F ι w v x) ∧ (g = false → x = undef) := by
  cases h with
  | ifg _ _ _ h1 h2 => exact ⟨h1, h2⟩

/-- A live block behind a reference. -/
theorem live_of {F ι H w id cs b} (h : HRel F ι H w) (hg : hget H id = some cs) (hi : ι id = some b) : ∃ C t fr, w.heap[b]? = some (.cells C t fr) ∧ ¬ F b ∧ cs.length ≤ C.size ∧ (∀ j, j < C.size → ¬ (fr.1 ≤ j ∧ j < fr.2)) ∧
    ∀ (j : Nat) (c : AV), cs[j]? = some c → VR F ι w c (C.getD j undef) := by
  rcases h.live id cs (hget_some hg) with ⟨_, h2⟩ | ⟨b', C, t, fr, hi', hb, hF, hle, hfr, hv⟩
  · rw [h2] at hi; cases hi
  · rw [hi] at hi'
    injection hi' with hi'
    subst hi'
    refine ⟨C, t, fr, hb, hF, hle, hfr, fun j c hj => ?_⟩
    obtain ⟨x, hx, hvx⟩ := hv j c hj
    rw [Array.getD_eq_getD_getElem?, hx]
    exact hvx

theorem frzL_get {f : AV → Option AV} : ∀ {l l' : List AV}, frzL f l = some l' → l'.length = l.length ∧ ∀ (j : Nat) (c' : AV), l'[j]? = some c' → ∃ c, l[j]? = some c ∧ f c = some c'
  | [], l', h => by
    simp only [frzL] at h
    injection h with h; subst h
    exact ⟨rfl, fun j c' hj => by simp at hj⟩
  | v :: r, l', h => by
    simp only [frzL] at h
    obtain ⟨a, h1, h⟩ := bind_some h
    obtain ⟨r', h2, rfl⟩ := map_some' h
    obtain ⟨e1, e2⟩ := frzL_get h2
    refine ⟨by simp [e1], fun j c' hj => ?_⟩
    cases j with
    | zero => simp at hj; subst hj; exact ⟨v, by simp, h1⟩
    | succ j =>
      obtain ⟨c, h3, h4⟩ := e2 j c' (by simpa using hj)
      exact ⟨c, by simpa using h3, h4⟩

theorem frz_notAgg {n : Nat} {H : Heap} {v v' : AV} (h : frz n H v = some v') (hv : v.notAgg = true) : v'.notAgg = true := by
  cases n with
  | zero => simp [frz] at h
  | succ n =>
    cases v with
    | agg cs => cases hv
    | ref id off => simp only [frz] at h; obtain ⟨_, _, h⟩ := bind_some h; obtain ⟨_, _, rfl⟩ := map_some' h; rfl
    | rsl sz id off len =>
      simp only [frz] at h
      split at h
      · injection h with h; subst h; rfl
      · obtain ⟨_, _, h⟩ := bind_some h
        split at h
        · obtain ⟨_, _, h⟩ := bind_some h
          split at h
          · injection h with h; subst h; rfl
          · cases h
        · cases h
    | tup cs => simp only [frz] at h; obtain ⟨_, _, rfl⟩ := map_some' h; rfl
    | ifg g v => simp only [frz] at h; obtain ⟨_, _, rfl⟩ := map_some' h; rfl
    | fn f a b => simp only [frz] at h; obtain ⟨_, _, h⟩ := bind_some h; obtain ⟨_, _, rfl⟩ := map_some' h; rfl
    | _ =>
      simp only [frz] at h
      split at h
      · injection h with h; subst h; exact hv
      · cases h

theorem frz_sound {F ι H w} (hH : HRel F ι H w) : ∀ (n : Nat) (v v' : AV) (x : Value), frz n H v = some v' → VR F ι w v x → VR (fun b => F b ∨ Own H ι b) (fun _ => none) w v' x
  | 0, v, v', x, h, _ => by simp [frz] at h
  | n + 1, v, v', x, h, hv => by
    have ih := frz_sound hH n
    have plain : v.noref = true → v' = v → VR (fun b => F b ∨ Own H ι b) (fun _ => none) w v' x := by
      rintro hn rfl
      have g : Grow F (fun _ => none) w (fun b => F b ∨ Own H ι b) (fun _ => none) w := ⟨fun _ h => .inl h, fun _ _ h => h, Nat.le_refl _, fun _ _ => rfl, fun _ _ => rfl⟩
      exact (hv.noref (fun _ => none) hn).grow g
    cases v with
    | ref id off =>
      simp only [frz] at h
      obtain ⟨cs, hg, h⟩ := bind_some h
      obtain ⟨l, hl, rfl⟩ := map_some' h
      cases hv
      rename_i b hi
      obtain ⟨C, t, fr, hb, hF, hle, hfr, hvv⟩ := live_of hH hg hi
      obtain ⟨e1, e2⟩ := frzL_get hl
      refine .fptr l b off (fun j => C.getD (off + j) undef) (.inr ⟨id, cs, hget_some hg, hi⟩) (fun j c hj => ?_) (fun j c hj => ?_)
      · have hlt := (List.getElem?_eq_some_iff.1 hj).1
        rw [e1, List.length_drop] at hlt
        simp only [World.cell?, hb, Option.isSome_none, Bool.false_eq_true, if_false]
        exact getD_of (by omega)
      · obtain ⟨c0, h3, h4⟩ := e2 j c hj
        rw [List.getElem?_drop] at h3
        exact ih c0 c _ h4 (hvv _ c0 h3)
    | rsl sz id off len =>
      simp only [frz] at h
      split at h
      · rename_i h0
        subst h0
        injection h with h
        subst h
        rcases hv.rsl_inv with ⟨a, rfl, _⟩ | ⟨b, cap, nn, t, rfl, _⟩
        · exact .vsl0 _ _ _
        · exact .vsl0 _ _ _
      · rename_i h0
        obtain ⟨cs, hg, h⟩ := bind_some h
        split at h
        case isFalse => cases h
        rename_i hle'
        obtain ⟨l, hl, h⟩ := bind_some h
        split at h
        case isFalse => cases h
        rename_i hna
        injection h with h
        subst h
        rcases hv.rsl_inv with ⟨a, rfl, e⟩ | ⟨b, cap, nn, t, rfl, hi, hcap, _⟩
        · exact absurd e h0
        · obtain ⟨C, t', fr, hb, hF, hle, hfr, hvv⟩ := live_of hH hg hi
          obtain ⟨e1, e2⟩ := frzL_get hl
          have hlen : l.length = len * sz := by rw [e1]; simp; omega
          have hcell : ∀ j, j < len * sz → w.cell? ⟨b, off + j, none⟩ = some (C.getD (off + j) undef) := by
            intro j hj
            simp only [World.cell?, hb, Option.isSome_none, Bool.false_eq_true, if_false]
            exact getD_of (by omega)
          have hvr : ∀ (j : Nat) (c : AV), l[j]? = some c → VR (fun b => F b ∨ Own H ι b) (fun _ => none) w c (C.getD (off + j) undef) := by
            intro j c hj
            obtain ⟨c0, h3, h4⟩ := e2 j c hj
            rw [List.getElem?_take] at h3
            split at h3
            · rw [List.getElem?_drop] at h3
              exact ih c0 c _ h4 (hvv _ c0 h3)
            · cases h3
          by_cases hs : sz = 1
          · subst hs
            have hch : chunk 1 len l = l := by simp [chunk]
            rw [hch]
            have hll : l.length = len := by omega
            have hna' : ∀ (i : Nat) (e : AV), l[i]? = some e → e.cells = [e] := by
              intro i e he
              simp only [bne_self_eq_false, Bool.false_or, List.all_eq_true] at hna
              have := hna e (List.mem_of_getElem? he)
              exact cells_len1 (fun cs h => by subst h; cases this)
            rw [← hll]
            refine .vsl 1 l b off cap (fun i j => C.getD (off + (i + j)) undef) (.inr ⟨id, cs, hget_some hg, hi⟩) ⟨by omega, by omega⟩ (fun i e he => by rw [hna' i e he]; rfl) (fun i e j c he hj => ?_) (fun i e j c he hj => ?_)
            · rw [hna' i e he] at hj
              have hj0 : j = 0 := by cases j with | zero => rfl | succ j => simp at hj
              subst hj0
              have hlt := (List.getElem?_eq_some_iff.1 he).1
              rw [Nat.mul_one, Nat.add_zero]
              exact hcell i (by omega)
            · rw [hna' i e he] at hj
              have hj0 : j = 0 := by cases j with | zero => rfl | succ j => simp at hj
              subst hj0
              simp at hj
              subst hj
              exact hvr i e he
          · have hch : chunk sz len l = (List.range len).map fun i => .agg ((l.drop (i * sz)).take sz) := by simp [chunk, hs]
            rw [hch]
            have hll : ((List.range len).map fun i => AV.agg ((l.drop (i * sz)).take sz)).length = len := by simp
            have hget : ∀ (i : Nat) (e : AV), ((List.range len).map fun i => AV.agg ((l.drop (i * sz)).take sz))[i]? = some e → i < len ∧ e = .agg ((l.drop (i * sz)).take sz) := by
              intro i e he
              rw [List.getElem?_map] at he
              rcases Nat.lt_or_ge i len with hlt | hge
              · rw [List.getElem?_range hlt] at he
                simp at he
                exact ⟨hlt, he.symm⟩
              · rw [List.getElem?_eq_none (by simpa using hge)] at he
                cases he
            have hb2 : ∀ i, i < len → i * sz + sz ≤ len * sz := by
              intro i hi'
              rw [← Nat.succ_mul]
              exact Nat.mul_le_mul_right _ hi'
            have := VR.vsl (F := fun b => F b ∨ Own H ι b) (ι := fun _ => none) (w := w) sz ((List.range len).map fun i => .agg ((l.drop (i * sz)).take sz)) b off cap (fun i j => C.getD (off + (i * sz + j)) undef) (.inr ⟨id, cs, hget_some hg, hi⟩) (by rw [hll]; exact ⟨hcap, hle'.2⟩)
              (fun i e he => by
                obtain ⟨h1, rfl⟩ := hget i e he
                have := hb2 i h1
                simp only [AV.cells, List.length_take, List.length_drop]
                omega)
              (fun i e j c he hj => by
                obtain ⟨h1, rfl⟩ := hget i e he
                have := hb2 i h1
                have hlt := (List.getElem?_eq_some_iff.1 hj).1
                simp only [AV.cells, List.length_take, List.length_drop] at hlt
                exact hcell _ (by omega))
              (fun i e j c he hj => by
                obtain ⟨h1, rfl⟩ := hget i e he
                simp only [AV.cells] at hj
                rw [List.getElem?_take] at hj
                split at hj
                · rw [List.getElem?_drop] at hj
                  exact hvr _ c hj
                · cases hj)
            rwa [hll] at this
    | agg cs =>
      simp only [frz] at h
      obtain ⟨l, hl, rfl⟩ := map_some' h
      obtain ⟨e1, e2⟩ := frzL_get hl
      cases hv
      rename_i A hA hvv
      refine .agg l A (by rw [hA, e1]) (fun j c hj => ?_)
      obtain ⟨c0, h3, h4⟩ := e2 j c hj
      exact ih c0 c _ h4 (hvv j c0 h3)
    | tup cs =>
      simp only [frz] at h
      obtain ⟨l, hl, rfl⟩ := map_some' h
      obtain ⟨e1, e2⟩ := frzL_get hl
      cases hv
      rename_i A hA hvv
      refine .tup l A (by rw [hA, e1]) (fun j c hj => ?_)
      obtain ⟨c0, h3, h4⟩ := e2 j c hj
      exact ih c0 c _ h4 (hvv j c0 h3)
    | ifg g v =>
      simp only [frz] at h
      obtain ⟨v1, hv1, rfl⟩ := map_some' h
      obtain ⟨h1, h2⟩ := hv.ifg_inv
      exact .ifg g v1 x (fun hg => ih v v1 x hv1 (h1 hg)) h2
    | fn f a b =>
      simp only [frz] at h
      obtain ⟨la, ha, h⟩ := bind_some h
      obtain ⟨lb, hb, rfl⟩ := map_some' h
      obtain ⟨A, B, rfl, hA, hB, hva, hvb⟩ := hv.fn_inv
      obtain ⟨a1, a2⟩ := frzL_get ha
      obtain ⟨b1, b2⟩ := frzL_get hb
      refine .fn f la lb A B (by rw [hA, a1]) (by rw [hB, b1]) (fun j c hj => ?_) (fun j c hj => ?_)
      · obtain ⟨c0, h3, h4⟩ := a2 j c hj
        exact ih c0 c _ h4 (hva j c0 h3)
      · obtain ⟨c0, h3, h4⟩ := b2 j c hj
        exact ih c0 c _ h4 (hvb j c0 h3)
    | _ =>
      simp only [frz] at h
      split at h
      · rename_i hn
        injection h with h
        exact plain hn h.symm
      · cases h

theorem frzArgs_sound {F ι H w} (hH : HRel F ι H w) {n : Nat} {avs as : List AV} {vs : Array Value} (h : frzL (frz n H) avs = some as) (hv : ArgsR F ι w avs vs) : ArgsR (fun b => F b ∨ Own H ι b) (fun _ => none) w as vs := by
  obtain ⟨e1, e2⟩ := frzL_get h
  refine ⟨by rw [hv.1, e1], fun j c hj => ?_⟩
  obtain ⟨c0, h3, h4⟩ := e2 j c hj
  exact frz_sound hH n c0 c _ h4 (hv.2 j c0 h3)

/-- A function that turns nothing, as one that reads its arguments out of the heap. -/
theorem scalar_VR {F ι w F' ι' w'} : ∀ {v : AV} {x : Value}, VR F ι w v x → v.scalar = true → VR F' ι' w' v x := by
  intro v x h
  induction h with
  | bool b => exact fun _ => .bool b
  | int k n => exact fun _ => .int k n
  | str s => exact fun _ => .str s
  | nilp => exact fun _ => .nilp
  | tup cs A hA h ih =>
    intro hs
    have hget : ∀ (l : List AV), AV.scalars l = true → ∀ (j : Nat) (c : AV), l[j]? = some c → c.scalar = true := by
      intro l
      induction l with
      | nil => intro _ j c hj; simp at hj
      | cons v r ihl =>
        intro hl j c hj
        simp only [AV.scalars, Bool.and_eq_true] at hl
        cases j with
        | zero => simp at hj; subst hj; exact hl.1
        | succ j => exact ihl hl.2 j c (by simpa using hj)
    exact .tup cs A hA (fun j c hj => ih j c hj (hget cs (by simpa [AV.scalar] using hs) j c hj))
  | _ => intro hs; simp [AV.scalar] at hs

end Go.Proofs.Yteelkalenpbmmaa.Ab

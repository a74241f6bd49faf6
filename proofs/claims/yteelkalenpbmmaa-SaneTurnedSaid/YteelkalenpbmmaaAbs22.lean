/- From what a row's arguments read as, to abstract values. -/
import Derived.Test.YteelkalenpbmmaaAbs21
import Derived.ChangeArms
import Derived.SizedLaws
import Derived.ProofKit
set_option linter.unusedVariables false
namespace Go.Proofs.Yteelkalenpbmmaa.Ab
open Go

/-- What lies there now. -/
def Old (w : World) (b : Nat) : Prop := b < w.heap.size
def CRel (w : World) (cs : List Value) (avs : List AV) : Prop := avs.length = cs.length ∧ ∀ (j : Nat) (c : AV), avs[j]? = some c → VR (Old w) (fun _ => none) w c (cs.getD j undef)

/-- A type that reads as abstract cells of a kind. -/
def Opn (P : Program) (t : TypeId) (S : List AV → Prop) : Prop :=
  ∀ (H : Type) (enc : TypeId × Value → H) (w : World) (fuel : Nat) (cs : List Value) (x : DataW H × List MemPlace), DataW.trod enc P w 0 (fun _ => true) true fuel t cs = some x → (∀ n ∈ x.1.weights P t, n ≤ reachBytes) → ∃ avs, S avs ∧ CRel w cs avs

theorem opn_mono {P : Program} {t : TypeId} {S S' : List AV → Prop} (h : Opn P t S) (hs : ∀ avs, S avs → S' avs) : Opn P t S' :=
  fun H enc w fuel cs x h1 h2 => let ⟨avs, h3, h4⟩ := h H enc w fuel cs x h1 h2; ⟨avs, hs _ h3, h4⟩

theorem CRel.one {w v a} (h : VR (Old w) (fun _ => none) w a v) : CRel w [v] [a] := by
  refine ⟨rfl, fun j c hj => ?_⟩
  cases j with
  | zero => simp at hj; subst hj; simpa using h
  | succ j => simp at hj

theorem opn_int {P : Program} {t : TypeId} {k : IntKind} (h : P.underlying t = some (.int k)) : Opn P t (fun avs => ∃ n : Int, k.min ≤ n ∧ n ≤ k.max ∧ avs = [.int k n]) := by
  intro H enc w fuel cs x h1 _
  obtain ⟨n, rfl, _, h2⟩ := DataW.trod_int h h1
  simp only [Lit.wf, Bool.and_eq_true, decide_eq_true_eq] at h2
  exact ⟨_, ⟨n, h2.1, h2.2, rfl⟩, .one (.int _ _)⟩
theorem opn_bool {P : Program} {t : TypeId} (h : P.underlying t = some .bool) : Opn P t (fun avs => ∃ b : Bool, avs = [.bool b]) := by
  intro H enc w fuel cs x h1 _
  obtain ⟨b, rfl, _⟩ := DataW.trod_bool h h1
  exact ⟨_, ⟨b, rfl⟩, .one (.bool _)⟩
theorem opn_string {P : Program} {t : TypeId} (h : P.underlying t = some .string) : Opn P t (fun avs => ∃ s : ByteArray, s.size ≤ 140737488355328 ∧ avs = [.str s]) := by
  intro H enc w fuel cs x h1 hw
  obtain ⟨s, rfl, rfl, h2⟩ := DataW.trod_string h h1
  refine ⟨_, ⟨s, ?_, rfl⟩, .one (.str _)⟩
  have := hw s.data.toList.length (by simp [DataW.weights])
  have h3 := reachBytes_lt
  have h4 : s.data.toList.length = s.size := by simp
  omega

theorem cells_get {w : World} {b off n : Nat} {cs : List Value} (h : w.cells? 0 ⟨b, off, none⟩ n = some cs) : cs.length = n ∧ ∀ j, j < n → w.cell? ⟨b, off + j, none⟩ = some (cs.getD j undef) := by
  unfold World.cells? at h
  rw [if_pos (Nat.zero_le _)] at h
  have hl := mapM_some_length h
  rw [List.length_range] at hl
  refine ⟨hl, fun j hj => ?_⟩
  have := mapM_some_get h j j (by simp [hj])
  rw [add_lit] at this
  rw [this, List.getD_eq_getElem?_getD, List.getElem?_eq_getElem (by omega)]; rfl
theorem cells_spot {w : World} {a : Addr} {n : Nat} {cs : List Value} (hn : 0 < n) (h : w.cells? 0 a n = some cs) : a.spot = none := by
  unfold World.cells? at h
  rw [if_pos (Nat.zero_le _)] at h
  have hl := mapM_some_length h
  rw [List.length_range] at hl
  have := mapM_some_get h 0 0 (by simp [hn])
  rw [List.getElem?_eq_getElem (by omega)] at this
  have e : a.add 0 = a := by simp [Addr.add]
  rw [e] at this
  cases hs : a.spot with
  | none => rfl
  | some s =>
    simp only [World.cell?, hs, Option.isSome_some, if_true] at this
    split at this <;> cases this
theorem cell_lt {w : World} {a : Addr} {v : Value} (h : w.cell? a = some v) : a.block < w.heap.size := by
  unfold World.cell? at h
  split at h
  · rename_i heq; exact (Array.getElem?_eq_some_iff.1 heq).1
  · cases h

theorem weights_slice {H : Type} {P : Program} {t e : TypeId} (h : P.underlying t = some (.slice e)) (l r : List (DataW H)) : (DataW.slice l r).weights P t = (l.length + r.length) * P.bytesOf e :: (DataW.weightsAll P e l ++ DataW.weightsAll P e r) := by
  simp only [DataW.weights, h]
theorem weights_all {H : Type} {P : Program} {e : TypeId} : ∀ (l : List (DataW H)) (d : DataW H), d ∈ l → ∀ n ∈ d.weights P e, n ∈ DataW.weightsAll P e l
  | x :: l, d, hd, n, hn => by
    simp only [DataW.weightsAll, List.mem_append]
    rcases List.mem_cons.1 hd with rfl | hd
    · exact .inl hn
    · exact .inr (weights_all l d hd n hn)

theorem opn_slice {P : Program} {t u : TypeId} {S : List AV → Prop} {sz : Nat} (h : P.underlying t = some (.slice u)) (hsz : P.cellsOf u = sz) (h0 : 0 < sz) (hb : 1 ≤ P.bytesOf u) (ho : Opn P u S) (hna : ∀ c, S c → ∀ v ∈ c, v.notAgg = true) :
    Opn P t (fun avs => ∃ es : List (List AV), (∀ c ∈ es, S c ∧ c.length = sz) ∧ es.length ≤ 140737488355328 ∧ avs = [.vsl sz (es.map fun c => if sz = 1 then c.getD 0 .any else .agg c)]) := by
  intro H enc w fuel cs x h1 hw
  rcases DataW.trod_slice h h1 with ⟨rfl, rfl⟩ | ⟨a, len, cap, elems, rest, n, rfl, rfl, rfl, _, hlc, hcm, hlen, hel, hre, _⟩
  · refine ⟨_, ⟨[], by simp, by simp, rfl⟩, .one ?_⟩
    exact .vsl0 _ _ _
  · simp only at hw
    rw [weights_slice h] at hw
    have hb1 : len ≤ 140737488355328 := by
      have h2 := hw _ (List.mem_cons_self ..)
      have h3 := reachBytes_lt
      simp only [List.length_map] at h2
      rw [hlen] at h2
      have h4 : len * 1 ≤ (len + rest.length) * P.bytesOf u := Nat.mul_le_mul (by omega) hb
      omega
    rcases Nat.eq_zero_or_pos len with hl0 | hl0
    · refine ⟨_, ⟨[], by simp, by simp, rfl⟩, .one ?_⟩
      rw [hl0]
      exact .vsl0 _ _ _
    · -- the cells of each element
      have hcell : ∀ i, i < len → ∃ ci x, w.cells? 0 (a.add (i * sz)) sz = some ci ∧ DataW.trod enc P w 0 (fun _ => true) true n u ci = some x ∧ elems[i]? = some x := by
        intro i hi
        have := hel i hi
        rw [List.getElem?_eq_getElem (by omega), hsz] at this
        obtain ⟨ci, h2, h3⟩ := Option.bind_eq_some_iff.1 this
        exact ⟨ci, _, h2, h3, List.getElem?_eq_getElem (by omega)⟩
      have hsp : a.spot = none := by
        obtain ⟨ci, x, h2, _, _⟩ := hcell 0 hl0
        have e : a.add (0 * sz) = a := by simp [Addr.add]
        rw [e] at h2
        exact cells_spot h0 h2
      obtain ⟨b, off, sp⟩ := a
      simp only at hsp
      subst hsp
      have hS : ∀ i, ∃ (ci : List Value) (ai : List AV), i < len → (w.cells? 0 ⟨b, off + i * sz, none⟩ sz = some ci ∧ S ai ∧ CRel w ci ai) := by
        intro i
        by_cases hi : i < len
        · obtain ⟨ci, x, h2, h3, h4⟩ := hcell i hi
          rw [add_lit] at h2
          obtain ⟨ai, h5, h6⟩ := ho H enc w n ci x h3 (fun m hm => hw m (List.mem_cons_of_mem _ (List.mem_append_left _ (weights_all _ x.1 (List.mem_map.2 ⟨x, List.mem_of_getElem? h4, rfl⟩) m hm))))
          exact ⟨ci, ai, fun _ => ⟨h2, h5, h6⟩⟩
        · exact ⟨[], [], fun h => absurd h hi⟩
      have hci : ∃ (C : Nat → List Value) (A : Nat → List AV), ∀ i, i < len → (w.cells? 0 ⟨b, off + i * sz, none⟩ sz = some (C i) ∧ S (A i) ∧ CRel w (C i) (A i)) :=
        ⟨fun i => Classical.choose (hS i), fun i => Classical.choose (Classical.choose_spec (hS i)), fun i => Classical.choose_spec (Classical.choose_spec (hS i))⟩
      obtain ⟨C, A, hCA⟩ := hci
      have hAl : ∀ i, i < len → (A i).length = sz := fun i hi => by
        obtain ⟨h2, _, h4⟩ := hCA i hi
        rw [h4.1, (cells_get h2).1]
      have hcells' : ∀ i, i < len → AV.cells (if sz = 1 then (A i).getD 0 .any else .agg (A i)) = A i := by
        intro i hi
        split
        · rename_i e
          have h2 := hAl i hi
          rw [e] at h2
          have h3 := hna _ (hCA i hi).2.1
          match hA : A i, h2 with
          | [v], _ =>
            rw [hA] at h3
            have := h3 v (by simp)
            simp only [List.getD_cons_zero]
            cases v <;> first | rfl | cases this
        · rfl
      refine ⟨_, ⟨(List.range len).map A, fun c hc => ?_, by simpa using hb1, rfl⟩, .one ?_⟩
      · obtain ⟨i, hi, rfl⟩ := List.mem_map.1 hc
        exact ⟨(hCA i (List.mem_range.1 hi)).2.1, hAl i (List.mem_range.1 hi)⟩
      · have key := VR.vsl (F := Old w) (ι := fun _ => none) (w := w) sz ((List.range len).map fun i => if sz = 1 then (A i).getD 0 .any else .agg (A i)) b off cap (fun i j => (C i).getD j undef)
          (by obtain ⟨h2, _, _⟩ := hCA 0 hl0; exact cell_lt ((cells_get h2).2 0 h0)) (by simp; exact ⟨hlc, hb1⟩) ?_ ?_ ?_
        · rw [List.map_map]
          have e : List.map ((fun c : List AV => if sz = 1 then c.getD 0 .any else .agg c) ∘ A) (List.range len) = (List.range len).map fun i => if sz = 1 then (A i).getD 0 .any else .agg (A i) := rfl
          rw [e]
          simpa [-List.getD_eq_getElem?_getD] using key
        · intro i e he
          rw [List.getElem?_map] at he
          by_cases hi : i < len
          · rw [List.getElem?_range hi] at he
            simp only [Option.map_some, Option.some.injEq] at he
            rw [← he, hcells' i hi, hAl i hi]
          · rw [List.getElem?_eq_none (by simpa using hi)] at he; simp at he
        · intro i e j c he hj
          rw [List.getElem?_map] at he
          by_cases hi : i < len
          · rw [List.getElem?_range hi] at he
            simp only [Option.map_some, Option.some.injEq] at he
            rw [← he, hcells' i hi] at hj
            have hjl : j < sz := by rw [← hAl i hi]; exact (List.getElem?_eq_some_iff.1 hj).1
            have := (cells_get (hCA i hi).1).2 j hjl
            rw [Nat.add_assoc] at this
            exact this
          · rw [List.getElem?_eq_none (by simpa using hi)] at he; simp at he
        · intro i e j c he hj
          rw [List.getElem?_map] at he
          by_cases hi : i < len
          · rw [List.getElem?_range hi] at he
            simp only [Option.map_some, Option.some.injEq] at he
            rw [← he, hcells' i hi] at hj
            exact (hCA i hi).2.2.2 j c hj
          · rw [List.getElem?_eq_none (by simpa using hi)] at he; simp at he


/-! ### Structs -/

theorem CRel.append {w : World} {cs : List Value} {n : Nat} {a b : List AV} (h1 : CRel w (cs.take n) a) (hn : n ≤ cs.length) (h2 : CRel w (cs.drop n) b) : CRel w cs (a ++ b) := by
  have hl : a.length = n := by rw [h1.1]; simp; omega
  refine ⟨by rw [List.length_append, h2.1, hl]; simp; omega, fun j c hj => ?_⟩
  rcases Nat.lt_or_ge j n with h | h
  · rw [List.getElem?_append_left (by omega)] at hj
    have := h1.2 j c hj
    rwa [List.getD_eq_getElem?_getD, List.getElem?_take, if_pos h, ← List.getD_eq_getElem?_getD] at this
  · rw [List.getElem?_append_right (by omega), hl] at hj
    have := h2.2 _ c hj
    rwa [List.getD_eq_getElem?_getD, List.getElem?_drop, show n + (j - n) = j by omega, ← List.getD_eq_getElem?_getD] at this

/-- Fields that lie one behind the other. -/
def FsOk (P : Program) : List Field → Nat → List (List AV → Prop) → Nat → Prop
  | [], off, [], tot => off = tot
  | f :: fs, off, S :: Ss, tot => f.offset = off ∧ Opn P f.type S ∧ off + P.cellsOf f.type ≤ tot ∧ FsOk P fs (off + P.cellsOf f.type) Ss tot
  | _, _, _, _ => False
def AllS : List (List AV → Prop) → List AV → Prop
  | [], avs => avs = []
  | S :: Ss, avs => ∃ a b, S a ∧ AllS Ss b ∧ avs = a ++ b

theorem weights_struct {H : Type} {P : Program} {t : TypeId} {fs : Array Field} (h : P.underlying t = some (.struct fs)) (l : List (DataW H)) : (DataW.agg l).weights P t = DataW.weightsEach P (fs.toList.map (·.type)) l := by
  simp only [DataW.weights, h]

theorem opn_struct {P : Program} {t : TypeId} {fs : Array Field} {Ss : List (List AV → Prop)} {tot : Nat} (h : P.underlying t = some (.struct fs)) (ht : P.cellsOf t = tot) (hf : FsOk P fs.toList 0 Ss tot) : Opn P t (AllS Ss) := by
  intro H enc w fuel cs x h1 hw
  obtain ⟨xs, n, rfl, rfl, hl, hxl, hx⟩ := DataW.trod_struct h h1
  simp only at hw
  rw [weights_struct h] at hw
  have key : ∀ (l : List Field) (Ss : List (List AV → Prop)) (off k : Nat), FsOk P l off Ss tot → (∀ i, l[i]? = fs.toList[k + i]?) → (off ≤ tot) → ∃ avs, AllS Ss avs ∧ CRel w (cs.drop off) avs := by
    intro l
    induction l with
    | nil =>
      intro Ss off k hfo _ _
      cases Ss with
      | nil =>
        simp only [FsOk] at hfo
        refine ⟨[], rfl, ?_⟩
        rw [List.drop_eq_nil_of_le (by omega)]
        exact ⟨rfl, fun j c hj => by simp at hj⟩
      | cons S Ss => exact hfo.elim
    | cons f l ih =>
      intro Ss off k hfo hk _
      cases Ss with
      | nil => exact hfo.elim
      | cons S Ss =>
        obtain ⟨ho, hop, hle, hrest⟩ := hfo
        have hfk : fs[k]? = some f := by
          have := hk 0
          simp only [List.getElem?_cons_zero, Nat.add_zero] at this
          rw [← Array.getElem?_toList]; exact this.symm
        have h2 := hx k f hfk
        have hkl : k < xs.length := by rw [hxl]; exact (Array.getElem?_eq_some_iff.1 hfk).1
        rw [List.getElem?_eq_getElem hkl, ho] at h2
        obtain ⟨a, ha, hca⟩ := hop H enc w n _ _ h2 (fun m hm => hw m (DataW.weights_mem_each (j := k) (t := f.type) (by rw [List.getElem?_map, Array.getElem?_toList, hfk]; rfl) (by rw [List.getElem?_map, List.getElem?_eq_getElem hkl]; rfl) m hm))
        obtain ⟨b, hb, hcb⟩ := ih Ss _ (k + 1) hrest (fun i => by have := hk (i + 1); simp only [List.getElem?_cons_succ] at this; rw [this]; congr 1; omega) hle
        refine ⟨a ++ b, ⟨a, b, ha, hb, rfl⟩, hca.append (by simp; omega) ?_⟩
        rw [List.drop_drop]
        exact hcb
  have := key fs.toList Ss 0 0 hf (fun i => by simp) (by omega)
  simpa using this

/-! ### The program's types -/

def Rng (n : Int) : Prop := -9223372036854775808 ≤ n ∧ n ≤ 9223372036854775807
theorem opn_i64 {P : Program} {t : TypeId} (h : P.underlying t = some (.int .i64)) : Opn P t (fun avs => ∃ n : Int, Rng n ∧ avs = [eI n]) :=
  opn_mono (opn_int h) fun avs ⟨n, h1, h2, h3⟩ => ⟨n, ⟨h1, h2⟩, h3⟩
theorem opn_i32 {P : Program} {t : TypeId} (h : P.underlying t = some (.int .i32)) : Opn P t (fun avs => ∃ n : Int, (-2147483648 ≤ n ∧ n ≤ 2147483647) ∧ avs = [e32 n]) :=
  opn_mono (opn_int h) fun avs ⟨n, h1, h2, h3⟩ => ⟨n, ⟨h1, h2⟩, h3⟩

/-- A slice of things. -/
theorem opn_list {P : Program} {t u : TypeId} {α : Type} {G : α → Prop} {e : α → AV} {sz : Nat} (h : P.underlying t = some (.slice u)) (hsz : P.cellsOf u = sz) (h0 : 0 < sz) (hb : 1 ≤ P.bytesOf u) (he : Enc sz e) (ho : Opn P u (fun avs => ∃ a, G a ∧ avs = (e a).cells)) :
    Opn P t (fun avs => ∃ l : List α, (∀ a ∈ l, G a) ∧ avs = [eSl sz e l]) := by
  refine opn_mono (opn_slice h hsz h0 hb ho fun c ⟨a, _, hc⟩ v hv => plain_notAgg (he.cell a v (hc ▸ hv))) ?_
  rintro avs ⟨es, h1, _, rfl⟩
  have : ∃ l : List α, (∀ a ∈ l, G a) ∧ es = l.map fun a => (e a).cells := by
    clear ho
    rename_i hlen
    clear hlen
    induction es with
    | nil => exact ⟨[], by simp, rfl⟩
    | cons c es ih =>
      obtain ⟨l, h2, h3⟩ := ih fun c hc => h1 c (List.mem_cons_of_mem _ hc)
      obtain ⟨⟨a, h4, h5⟩, _⟩ := h1 c (List.mem_cons_self ..)
      exact ⟨a :: l, by simp [h4]; exact h2, by rw [h3, h5]; rfl⟩
  obtain ⟨l, h2, rfl⟩ := this
  refine ⟨l, h2, ?_⟩
  rw [List.map_map]
  simp only [eSl, List.cons.injEq, AV.vsl.injEq, true_and, and_true]
  apply List.map_congr_left
  intro a _
  simp only [Function.comp]
  rcases he.shape with ⟨h3, h4⟩ | ⟨h3, h4⟩
  · rw [if_pos h3, h4]; rfl
  · rw [if_neg h3]; exact (h4 a).symm

structure Ty.Ok (t : Ty) : Prop where
  kind : Rng t.kind
  n : Rng t.n
structure Ins.Ok (t : Ins) : Prop where
  op : Rng t.op
  a : Rng t.a
  b : Rng t.b
structure Klass.Ok (c : Klass) : Prop where
  super : Rng c.super
  fields : ∀ t ∈ c.fields, t.Ok
  slots : ∀ t ∈ c.slots, Rng t
structure Meth.Ok (c : Meth) : Prop where
  args : ∀ t ∈ c.args, t.Ok
  locals : ∀ t ∈ c.locals, t.Ok
  ret : c.ret.Ok
  code : ∀ t ∈ c.code, t.Ok
  depth : Rng c.depth
  pot : Rng c.pot
  phi : ∀ t ∈ c.phi, Rng t
structure Img.Ok (m : Img) : Prop where
  classes : ∀ c ∈ m.classes, c.Ok
  statics : ∀ t ∈ m.statics, t.Ok
  ints : ∀ n ∈ m.ints, -2147483648 ≤ n ∧ n ≤ 2147483647
  methods : ∀ c ∈ m.methods, c.Ok
  entries : ∀ n ∈ m.entries, Rng n
  stack : Rng m.stack
  heap : Rng m.heap

theorem opn_Ty {P : Program} {t : TypeId} {fs : Array Field} (h : P.underlying t = some (.struct fs)) (ht : P.cellsOf t = 2) (hf : FsOk P fs.toList 0 [fun avs => ∃ n : Int, Rng n ∧ avs = [eI n], fun avs => ∃ n : Int, Rng n ∧ avs = [eI n]] 2) :
    Opn P t (fun avs => ∃ a : Ty, a.Ok ∧ avs = (eTy a).cells) := by
  refine opn_mono (opn_struct h ht hf) ?_
  rintro avs ⟨_, _, ⟨k, h1, rfl⟩, ⟨_, _, ⟨n, h2, rfl⟩, rfl, rfl⟩, rfl⟩
  exact ⟨⟨k, n⟩, ⟨h1, h2⟩, rfl⟩
theorem opn_Ins {P : Program} {t : TypeId} {fs : Array Field} (h : P.underlying t = some (.struct fs)) (ht : P.cellsOf t = 3) (hf : FsOk P fs.toList 0 [fun avs => ∃ n : Int, Rng n ∧ avs = [eI n], fun avs => ∃ n : Int, Rng n ∧ avs = [eI n], fun avs => ∃ n : Int, Rng n ∧ avs = [eI n]] 3) :
    Opn P t (fun avs => ∃ a : Ins, a.Ok ∧ avs = (eIns a).cells) := by
  refine opn_mono (opn_struct h ht hf) ?_
  rintro avs ⟨_, _, ⟨k, h1, rfl⟩, ⟨_, _, ⟨n, h2, rfl⟩, ⟨_, _, ⟨n3, h3, rfl⟩, rfl, rfl⟩, rfl⟩, rfl⟩
  exact ⟨⟨k, n, n3⟩, ⟨h1, h2, h3⟩, rfl⟩
abbrev SI (avs : List AV) : Prop := ∃ n : Int, Rng n ∧ avs = [eI n]
abbrev SL {α : Type} (G : α → Prop) (sz : Nat) (e : α → AV) (avs : List AV) : Prop := ∃ l : List α, (∀ a ∈ l, G a) ∧ avs = [eSl sz e l]
theorem opn_Cls {P : Program} {t : TypeId} {fs : Array Field} (h : P.underlying t = some (.struct fs)) (ht : P.cellsOf t = 3) (hf : FsOk P fs.toList 0 [SI, SL Ty.Ok 2 eTy, SL Rng 1 eI] 3) :
    Opn P t (fun avs => ∃ a : Klass, a.Ok ∧ avs = (eCls a).cells) := by
  refine opn_mono (opn_struct h ht hf) ?_
  rintro avs ⟨_, _, ⟨k, h1, rfl⟩, ⟨_, _, ⟨n, h2, rfl⟩, ⟨_, _, ⟨n3, h3, rfl⟩, rfl, rfl⟩, rfl⟩, rfl⟩
  exact ⟨⟨k, n, n3⟩, ⟨h1, h2, h3⟩, rfl⟩
theorem opn_Meth {P : Program} {t : TypeId} {fs : Array Field} (h : P.underlying t = some (.struct fs)) (ht : P.cellsOf t = 8) (hf : FsOk P fs.toList 0 [SL Ty.Ok 2 eTy, SL Ty.Ok 2 eTy, fun avs => ∃ a : Ty, a.Ok ∧ avs = (eTy a).cells, SL Ins.Ok 3 eIns, SI, SI, SL Rng 1 eI] 8) :
    Opn P t (fun avs => ∃ a : Meth, a.Ok ∧ avs = (eMeth a).cells) := by
  refine opn_mono (opn_struct h ht hf) ?_
  rintro avs ⟨_, _, ⟨x1, h1, rfl⟩, ⟨_, _, ⟨x2, h2, rfl⟩, ⟨_, _, ⟨x3, h3, rfl⟩, ⟨_, _, ⟨x4, h4, rfl⟩, ⟨_, _, ⟨x5, h5, rfl⟩, ⟨_, _, ⟨x6, h6, rfl⟩, ⟨_, _, ⟨x7, h7, rfl⟩, rfl, rfl⟩, rfl⟩, rfl⟩, rfl⟩, rfl⟩, rfl⟩, rfl⟩
  exact ⟨⟨x1, x2, x3, x4, x5, x6, x7⟩, ⟨h1, h2, h3, h4, h5, h6, h7⟩, rfl⟩
theorem opn_Img {P : Program} {t : TypeId} {fs : Array Field} (h : P.underlying t = some (.struct fs)) (ht : P.cellsOf t = 7) (hf : FsOk P fs.toList 0 [SL Klass.Ok 3 eCls, SL Ty.Ok 2 eTy, SL (fun n : Int => -2147483648 ≤ n ∧ n ≤ 2147483647) 1 e32, SL Meth.Ok 8 eMeth, SL Rng 1 eI, SI, SI] 7) :
    Opn P t (fun avs => ∃ a : Img, a.Ok ∧ avs = (eImg a).cells) := by
  refine opn_mono (opn_struct h ht hf) ?_
  rintro avs ⟨_, _, ⟨x1, h1, rfl⟩, ⟨_, _, ⟨x2, h2, rfl⟩, ⟨_, _, ⟨x3, h3, rfl⟩, ⟨_, _, ⟨x4, h4, rfl⟩, ⟨_, _, ⟨x5, h5, rfl⟩, ⟨_, _, ⟨x6, h6, rfl⟩, ⟨_, _, ⟨x7, h7, rfl⟩, rfl, rfl⟩, rfl⟩, rfl⟩, rfl⟩, rfl⟩, rfl⟩, rfl⟩
  exact ⟨⟨x1, x2, x3, x4, x5, x6, x7⟩, ⟨h1, h2, h3, h4, h5, h6, h7⟩, rfl⟩

/-! ### An argument -/
theorem CRel.agg {w : World} {A : Array Value} {avs : List AV} (h : CRel w A.toList avs) : VR (Old w) (fun _ => none) w (.agg avs) (.agg A) :=
  .agg avs A (by rw [h.1]; simp) fun j c hj => by
    have := h.2 j c hj
    rwa [List.getD_eq_getElem?_getD, Array.getElem?_toList, ← Array.getD_eq_getD_getElem?] at this

end Go.Proofs.Yteelkalenpbmmaa.Ab

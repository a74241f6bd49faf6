/- The abstract machine's values and heap, held against the model's: the relation, and that it lasts. -/
import Derived.Test.YteelkalenpbmmaaAbs0
import Derived.Laws.IdiomCopy
import Derived.Laws.AppendOwn
import Derived.Laws.Slices
import Derived.Laws.Cells
import Derived.Laws.Rows
import Derived.Tactics
set_option linter.unusedVariables false
set_option linter.unusedSimpArgs false
namespace Go.Proofs.Yteelkalenpbmmaa.Ab

theorem oneCell_eq (v : Value) : oneCell v = v.oneCell' := by cases v <;> rfl

/-- A value and its abstract value. F: frozen blocks. ι: where the abstract blocks lie. -/
inductive VR (F : Nat → Prop) (ι : Nat → Option Nat) (w : World) : AV → Value → Prop
  | any (x : Value) : VR F ι w .any x
  | bool (b : Bool) : VR F ι w (.bool b) (.bool b)
  | int (k : IntKind) (n : Int) : VR F ι w (.int k n) (.int k n)
  | str (s : ByteArray) : VR F ι w (.str s) (.string s)
  | nilp : VR F ι w .nilp (.pointer none)
  | ref (id off b : Nat) (h : ι id = some b) : VR F ι w (.ref id off) (.pointer (some ⟨b, off, none⟩))
  | fptr (cs : List AV) (b off : Nat) (f : Nat → Value) (hF : F b) (hc : ∀ j c, cs[j]? = some c → w.cell? ⟨b, off + j, none⟩ = some (f j)) (hv : ∀ j c, cs[j]? = some c → VR F ι w c (f j)) :
      VR F ι w (.fptr cs) (.pointer (some ⟨b, off, none⟩))
  | nilsl : VR F ι w .nilsl (.slice none 0 0)
  | vsl0 (sz : Nat) (a : Option Addr) (cap : Nat) : VR F ι w (.vsl sz []) (.slice a 0 cap)
  | vsl (sz : Nat) (es : List AV) (b off cap : Nat) (f : Nat → Nat → Value) (hF : F b) (hcap : es.length ≤ cap ∧ es.length ≤ 140737488355328) (hsz : ∀ (i : Nat) (e : AV), es[i]? = some e → e.cells.length = sz)
      (hc : ∀ (i : Nat) (e : AV) (j : Nat) (c : AV), es[i]? = some e → e.cells[j]? = some c → w.cell? ⟨b, off + (i * sz + j), none⟩ = some (f i j))
      (hv : ∀ (i : Nat) (e : AV) (j : Nat) (c : AV), es[i]? = some e → e.cells[j]? = some c → VR F ι w c (f i j)) :
      VR F ι w (.vsl sz es) (.slice (some ⟨b, off, none⟩) es.length cap)
  | rslv (sz id off : Nat) (a : Option Addr) : VR F ι w (.rsl sz id off 0) (.slice a 0 0)
  | rsl (sz id off len b cap n : Nat) (t : TypeId) (h : ι id = some b) (hcap : len ≤ cap) (hs : w.shape? b = some (t, n)) (hn : off + cap * sz ≤ n) :
      VR F ι w (.rsl sz id off len) (.slice (some ⟨b, off, none⟩) len cap)
  | fn (f : FuncId) (fs cs : List AV) (A B : Array Value) (hA : A.size = fs.length) (hB : B.size = cs.length)
      (ha : ∀ j c, fs[j]? = some c → VR F ι w c (A.getD j undef)) (hb : ∀ j c, cs[j]? = some c → VR F ι w c (B.getD j undef)) : VR F ι w (.fn f fs cs) (.func (.func f) A B)
  | agg (cs : List AV) (A : Array Value) (hA : A.size = cs.length) (h : ∀ j c, cs[j]? = some c → VR F ι w c (A.getD j undef)) : VR F ι w (.agg cs) (.agg A)
  | tup (cs : List AV) (A : Array Value) (hA : A.size = cs.length) (h : ∀ j c, cs[j]? = some c → VR F ι w c (A.getD j undef)) : VR F ι w (.tup cs) (.tuple A)
  | ifg (g : Bool) (v : AV) (x : Value) (h : g = true → VR F ι w v x) (h' : g = false → x = undef) : VR F ι w (.ifg g v) x
  | con (v : Value) : VR F ι w (.con v) v
  | ubool (b : Bool) : VR F ι w .ubool (.bool b)
  | e0 (a : Option Addr) : VR F ι w .e0 (.slice a 0 0)
  | pin (x : Value) (v : AV) (h : VR F ι w v x) : VR F ι w (.pin x v) x

theorem VR.oneCell {F ι w c x} (h : VR F ι w c x) (hc : c.isCell = true) : oneCell x = true := by
  cases h <;> simp_all [AV.isCell, Ab.oneCell]

/-- How things grow: frozen blocks stay as they are, places stay. -/
structure Grow (F : Nat → Prop) (ι : Nat → Option Nat) (w : World) (F' : Nat → Prop) (ι' : Nat → Option Nat) (w' : World) : Prop where
  mF : ∀ b, F b → F' b
  mi : ∀ id b, ι id = some b → ι' id = some b
  size : w.heap.size ≤ w'.heap.size
  keep : ∀ b, F b → w'.heap[b]? = w.heap[b]?
  shape : ∀ b, b < w.heap.size → w'.shape? b = w.shape? b

theorem Grow.refl (F ι w) : Grow F ι w F ι w := ⟨fun _ h => h, fun _ _ h => h, Nat.le_refl _, fun _ _ => rfl, fun _ _ => rfl⟩
theorem Grow.trans {F ι w F1 ι1 w1 F2 ι2 w2} (h : Grow F ι w F1 ι1 w1) (k : Grow F1 ι1 w1 F2 ι2 w2) : Grow F ι w F2 ι2 w2 :=
  ⟨fun b hb => k.mF b (h.mF b hb), fun id b hb => k.mi id b (h.mi id b hb), Nat.le_trans h.size k.size, fun b hb => (k.keep b (h.mF b hb)).trans (h.keep b hb),
   fun b hb => (k.shape b (Nat.lt_of_lt_of_le hb h.size)).trans (h.shape b hb)⟩

theorem Grow.cell {F ι w F' ι' w'} (h : Grow F ι w F' ι' w') {b : Nat} (hb : F b) (j : Nat) : w'.cell? ⟨b, j, none⟩ = w.cell? ⟨b, j, none⟩ := by
  simp only [World.cell?]
  rw [h.keep b hb]

theorem shape_lt {w : World} {b : Nat} {p} (h : w.shape? b = some p) : b < w.heap.size := by
  unfold World.shape? at h
  split at h
  · rename_i heq
    exact (Array.getElem?_eq_some_iff.1 heq).1
  · cases h

theorem VR.grow {F ι w F' ι' w'} (g : Grow F ι w F' ι' w') {a x} (h : VR F ι w a x) : VR F' ι' w' a x := by
  induction h with
  | any x => exact .any x
  | bool b => exact .bool b
  | int k n => exact .int k n
  | str s => exact .str s
  | nilp => exact .nilp
  | ref id off b h => exact .ref id off b (g.mi _ _ h)
  | fptr cs b off f hF hc hv ih => exact .fptr cs b off f (g.mF _ hF) (fun j c hj => by rw [g.cell hF]; exact hc j c hj) ih
  | nilsl => exact .nilsl
  | vsl0 sz a cap => exact .vsl0 sz a cap
  | vsl sz es b off cap f hF hcap hsz hc hv ih => exact .vsl sz es b off cap f (g.mF _ hF) hcap hsz (fun i e j c he hj => by rw [g.cell hF]; exact hc i e j c he hj) ih
  | rslv sz id off a => exact .rslv sz id off a
  | rsl sz id off len b cap n t h hcap hs hn => exact .rsl sz id off len b cap n t (g.mi _ _ h) hcap (by rw [g.shape b (shape_lt hs)]; exact hs) hn
  | fn f fs cs A B hA hB ha hb iha ihb => exact .fn f fs cs A B hA hB iha ihb
  | agg cs A hA h ih => exact .agg cs A hA ih
  | tup cs A hA h ih => exact .tup cs A hA ih
  | ifg gb v x h h' ih => exact .ifg gb v x ih h'
  | con v => exact .con v
  | ubool b => exact .ubool b
  | e0 a => exact .e0 a
  | pin x v h ih => exact .pin x v ih

/-- A value without references does not ask where blocks lie. -/
theorem norefs_get : ∀ (cs : List AV), AV.norefs cs = true → ∀ (j : Nat) (c : AV), cs[j]? = some c → c.noref = true
  | [], _, j, c, h => by simp at h
  | v :: r, hn, j, c, h => by
    simp only [AV.norefs, Bool.and_eq_true] at hn
    cases j with
    | zero => simp at h; subst h; exact hn.1
    | succ j => exact norefs_get r hn.2 j c (by simpa using h)

theorem noref_cells {e : AV} (h : e.noref = true) : AV.norefs e.cells = true := by
  cases e <;> simp_all [AV.noref, AV.cells, AV.norefs]

theorem VR.noref {F ι w a x} (h : VR F ι w a x) (ι' : Nat → Option Nat) : a.noref = true → VR F ι' w a x := by
  induction h with
  | any x => exact fun _ => .any x
  | bool b => exact fun _ => .bool b
  | int k n => exact fun _ => .int k n
  | str s => exact fun _ => .str s
  | nilp => exact fun _ => .nilp
  | ref id off b h => intro hn; simp [AV.noref] at hn
  | fptr cs b off f hF hc hv ih => exact fun hn => .fptr cs b off f hF hc (fun j c hj => ih j c hj (norefs_get cs (by simpa [AV.noref] using hn) j c hj))
  | nilsl => exact fun _ => .nilsl
  | vsl0 sz a cap => exact fun _ => .vsl0 sz a cap
  | vsl sz es b off cap f hF hcap hsz hc hv ih =>
    exact fun hn => .vsl sz es b off cap f hF hcap hsz hc (fun i e j c he hj => ih i e j c he hj (norefs_get e.cells (noref_cells (norefs_get es (by simpa [AV.noref] using hn) i e he)) j c hj))
  | rslv sz id off a => intro hn; simp [AV.noref] at hn
  | rsl sz id off len b cap n t h hcap hs hn => intro hn'; simp [AV.noref] at hn'
  | fn f fs cs A B hA hB ha hb iha ihb =>
    intro hn
    simp only [AV.noref, Bool.and_eq_true] at hn
    exact .fn f fs cs A B hA hB (fun j c hj => iha j c hj (norefs_get fs hn.1 j c hj)) (fun j c hj => ihb j c hj (norefs_get cs hn.2 j c hj))
  | agg cs A hA h ih => exact fun hn => .agg cs A hA (fun j c hj => ih j c hj (norefs_get cs (by simpa [AV.noref] using hn) j c hj))
  | tup cs A hA h ih => exact fun hn => .tup cs A hA (fun j c hj => ih j c hj (norefs_get cs (by simpa [AV.noref] using hn) j c hj))
  | ifg gb v x h h' ih => exact fun hn => .ifg gb v x (fun hg => ih hg (by simpa [AV.noref] using hn)) h'
  | con v => exact fun _ => .con v
  | ubool b => exact fun _ => .ubool b
  | e0 a => exact fun _ => .e0 a
  | pin x v h ih => exact fun hn => .pin x v (ih (by simpa [AV.noref] using hn))

/-- The abstract heap and the model's. -/
structure HRel (F : Nat → Prop) (ι : Nat → Option Nat) (H : Heap) (w : World) : Prop where
  live : ∀ (id : Nat) (cs : List AV), H[id]? = some (.live cs) → (cs = [] ∧ ι id = none) ∨ ∃ (b : Nat) (C : Array Value) (t : TypeId) (fr : Nat × Nat), ι id = some b ∧ w.heap[b]? = some (.cells C t fr) ∧ ¬ F b ∧ cs.length ≤ C.size ∧
    (∀ j, j < C.size → ¬ (fr.1 ≤ j ∧ j < fr.2)) ∧ ∀ (j : Nat) (c : AV), cs[j]? = some c → ∃ x, C[j]? = some x ∧ VR F ι w c x
  inj : ∀ (id id' : Nat) (cs cs' : List AV) (b : Nat), H[id]? = some (.live cs) → H[id']? = some (.live cs') → ι id = some b → ι id' = some b → id = id'
  frz : ∀ b, F b → b < w.heap.size
  dom : ∀ (id b : Nat), ι id = some b → b < w.heap.size ∧ ∃ e : HB, H[id]? = some e ∧ e ≠ .res

theorem hget_some {H : Heap} {id : Nat} {cs : List AV} (h : hget H id = some cs) : H[id]? = some (.live cs) := by
  unfold hget at h
  split at h
  · rename_i heq
    injection h with h
    rw [heq, h]
  · cases h

/-- A run under way: O: blocks of the caller's that may be written; what is frozen; what stays as it was. -/
structure Run (O F0 : Nat → Prop) (w0 : World) (F : Nat → Prop) (ι : Nat → Option Nat) (H : Heap) (w : World) : Prop where
  h : HRel F ι H w
  size : w0.heap.size ≤ w.heap.size
  os : w.os = w0.os
  tape : w.tape = w0.tape
  output : w.output = w0.output
  keep : ∀ b, b < w0.heap.size → ¬ O b → w.heap[b]? = w0.heap[b]?
  shape : ∀ b, b < w0.heap.size → w.shape? b = w0.shape? b
  own : ∀ (id : Nat) (cs : List AV) (b : Nat), H[id]? = some (.live cs) → ι id = some b → O b ∨ w0.heap.size ≤ b
  frz : ∀ b, F b → F0 b ∨ O b ∨ w0.heap.size ≤ b

/-- The state of a region and the model's slots. -/
structure RR (F : Nat → Prop) (ι : Nat → Option Nat) (w : World) (N : Nat) (env : Nat → AV) (a : Act) : Prop where
  v : ∀ t, VR F ι w (env t) (a.tmps.getD t undef)
  size : a.tmps.size = N
  defers : a.defers = []

theorem RR.grow {F ι w F' ι' w' N env a} (h : RR F ι w N env a) (g : Grow F ι w F' ι' w') : RR F' ι' w' N env a :=
  ⟨fun t => (h.v t).grow g, h.size, h.defers⟩

theorem RR.upd {F ι w N env a} (h : RR F ι w N env a) {d : Option Nat} (hd : ∀ k, d = some k → k < N) {v : AV} {x : Value} (hv : VR F ι w v x) : RR F ι w N (upd env d v) (a.put d x) := by
  cases d with
  | none => exact h
  | some k =>
    refine ⟨fun t => ?_, by simp [Act.put, h.size], h.defers⟩
    have hk : k < a.tmps.size := by rw [h.size]; exact hd k rfl
    by_cases e : t = k
    · subst e
      simp only [Ab.upd, if_pos, Act.put]
      rw [Array.getD_eq_getD_getElem?, Array.getElem?_setIfInBounds]
      simpa [hk] using hv
    · simp only [Ab.upd, if_neg e, Act.put]
      rw [Array.getD_eq_getD_getElem?, Array.getElem?_setIfInBounds_ne (Ne.symm e), ← Array.getD_eq_getD_getElem?]
      exact h.v t

/-! ### Constants and operands -/

theorem avCell_VR (F ι w) (v : Value) : VR F ι w (avCell v) v := by
  unfold avCell
  split <;> first
    | exact .bool _
    | exact .int _ _
    | exact .str _
    | exact .nilp
    | exact .nilsl
    | exact .con _

theorem avOf_VR (F ι w) {v : Value} {a : AV} (h : avOf v = some a) : VR F ι w a v := by
  unfold avOf at h
  split at h
  · rename_i cs
    split at h
    · injection h with h
      rw [← h]
      refine .agg _ _ (by simp) (fun j c hj => ?_)
      rw [List.getElem?_map] at hj
      cases hq : cs.toList[j]? with
      | none => simp [hq] at hj
      | some x =>
        simp [hq] at hj
        subst hj
        have : cs.getD j undef = x := by
          rw [Array.getD_eq_getD_getElem?]
          have : cs[j]? = some x := by simpa using hq
          rw [this]; rfl
        rw [this]
        exact avCell_VR F ι w x
    · cases h
  · cases h
  · injection h with h
    rw [← h]
    exact avCell_VR F ι w _

theorem ungd_VR {F ι w v x} (h : VR F ι w v x) {g : Bool} (hg : g = true) (ok : (ungd g v).2 = true) : VR F ι w (ungd g v).1 x := by
  subst hg
  cases h with
  | ifg g' v x h h' => exact h (by simpa [ungd, gle] using ok)
  | any x => exact .any x
  | bool b => exact .bool b
  | int k n => exact .int k n
  | str s => exact .str s
  | nilp => exact .nilp
  | ref id off b h => exact .ref id off b h
  | fptr cs b off f hF hc hv => exact .fptr cs b off f hF hc hv
  | nilsl => exact .nilsl
  | vsl0 sz a cap => exact .vsl0 sz a cap
  | vsl sz es b off cap f hF hcap hsz hc hv => exact .vsl sz es b off cap f hF hcap hsz hc hv
  | rslv sz id off a => exact .rslv sz id off a
  | rsl sz id off len b cap n t h hcap hs hn => exact .rsl sz id off len b cap n t h hcap hs hn
  | fn f fs cs A B hA hB ha hb => exact .fn f fs cs A B hA hB ha hb
  | agg cs A hA h => exact .agg cs A hA h
  | tup cs A hA h => exact .tup cs A hA h
  | con => exact .con _
  | ubool b => exact .ubool b
  | e0 a => exact .e0 a
  | pin x v h => exact h

theorem rd_VR {F ι w N env a} (h : RR F ι w N env a) {x : Operand} {y : Opd} (hc : opd N x = some y) : VR F ι w (rd env y) (a.eval x) := by
  cases x with
  | tmp t =>
    simp only [opd] at hc
    split at hc
    · injection hc with hc; subst hc; exact h.v t
    · cases hc
  | const v =>
    simp only [opd, Option.map_eq_some_iff] at hc
    obtain ⟨av, h1, rfl⟩ := hc
    exact avOf_VR F ι w h1
  | global g => simp [opd] at hc
  | func f =>
    simp only [opd] at hc
    injection hc with hc; subst hc
    exact .fn f [] [] #[] #[] rfl rfl (fun j c hj => by simp at hj) (fun j c hj => by simp at hj)

theorem ov_VR {F ι w N env a} (h : RR F ι w N env a) {x : Operand} {y : Opd} (hc : opd N x = some y) {g : Bool} (hg : g = true) (ok : (ov g env y).2 = true) :
    VR F ι w (ov g env y).1 (a.eval x) := ungd_VR (rd_VR h hc) hg ok

theorem ovs_VR {F ι w N env a} (h : RR F ι w N env a) {g : Bool} (hg : g = true) : ∀ {xs : List Operand} {ys : List Opd}, opds N xs = some ys → (ovs g env ys).2 = true →
    (ovs g env ys).1.length = xs.length ∧ ∀ (j : Nat) (c : AV), (ovs g env ys).1[j]? = some c → VR F ι w c ((xs.map a.eval).getD j undef)
  | [], ys, hc, _ => by
    simp only [opds] at hc
    injection hc with hc; subst hc
    exact ⟨rfl, fun j c hj => by simp [ovs] at hj⟩
  | x :: r, ys, hc, ok => by
    simp only [opds] at hc
    cases hx : opd N x with
    | none => simp [hx] at hc
    | some y =>
      cases hr : opds N r with
      | none => simp [hx, hr] at hc
      | some yr =>
        simp [hx, hr] at hc
        subst hc
        simp only [ovs, Bool.and_eq_true] at ok
        have ih := ovs_VR h hg hr ok.2
        refine ⟨by simp [ovs, ih.1], fun j c hj => ?_⟩
        cases j with
        | zero =>
          simp [ovs] at hj
          subst hj
          simpa using ov_VR h hx hg ok.1
        | succ j =>
          have := ih.2 j c (by simpa [ovs] using hj)
          simpa using this

end Go.Proofs.Yteelkalenpbmmaa.Ab

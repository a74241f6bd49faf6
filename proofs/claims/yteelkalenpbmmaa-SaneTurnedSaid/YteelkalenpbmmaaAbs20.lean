/- Lists that are built cell by cell; the plain answers of layers 5 and 6 (fields, sane). -/
import Derived.Test.YteelkalenpbmmaaAbs19
set_option linter.unusedVariables false
namespace Go.Proofs.Yteelkalenpbmmaa.Ab

/-- A cell that freezes to itself. -/
def AV.plain : AV → Bool
  | .bool _ | .int _ _ | .str _ | .nilp | .nilsl => true
  | .vsl _ es | .fptr es => AV.norefs es
  | _ => false
theorem frz_plain {n : Nat} {H : Heap} {v : AV} (h : v.plain = true) : frz (n + 1) H v = some v := by
  cases v <;> simp_all [AV.plain, frz, AV.noref]

/-- An encoding of things by 'sz' plain cells. -/
structure Enc {α : Type} (sz : Nat) (e : α → AV) : Prop where
  len : ∀ a, (e a).cells.length = sz
  cell : ∀ a, ∀ c ∈ (e a).cells, c.plain = true
  shape : (sz = 1 ∧ ∀ a, (e a).cells = [e a]) ∨ (sz ≠ 1 ∧ ∀ a, e a = .agg (e a).cells)

theorem plain_isCell {v : AV} (h : v.plain = true) : v.isCell = true := by cases v <;> simp_all [AV.plain, AV.isCell]
theorem plain_notAgg {v : AV} (h : v.plain = true) : v.notAgg = true := by cases v <;> simp_all [AV.plain, AV.notAgg]

def flat {α : Type} (e : α → AV) (l : List α) : List AV := (l.map e).flatMap AV.cells
section
variable {α : Type} {sz : Nat} {e : α → AV}
theorem flat_nil : flat e [] = [] := rfl
theorem flat_cons (x : α) (l : List α) : flat e (x :: l) = (e x).cells ++ flat e l := rfl
theorem flat_append (l l' : List α) : flat e l ++ flat e l' = flat e (l ++ l') := by simp [flat]
theorem flat_one (x : α) : flat e [x] = (e x).cells := by simp [flat]
theorem flat_len (h : Enc sz e) : ∀ l : List α, (flat e l).length = l.length * sz
  | [] => by simp [flat]
  | x :: l => by rw [flat_cons, List.length_append, h.len, flat_len h l, List.length_cons, Nat.add_mul]; omega
theorem flat_take (h : Enc sz e) (l : List α) : (flat e l).take (l.length * sz) = flat e l := List.take_of_length_le (by rw [flat_len h]; exact Nat.le_refl _)
theorem flat_plain (h : Enc sz e) {l : List α} {c : AV} (hc : c ∈ flat e l) : c.plain = true := by
  simp only [flat, List.mem_flatMap, List.mem_map] at hc
  obtain ⟨_, ⟨a, _, rfl⟩, h2⟩ := hc
  exact h.cell a c h2
theorem flat_all (h : Enc sz e) (l : List α) : (flat e l).all AV.isCell = true := List.all_eq_true.2 fun c hc => plain_isCell (flat_plain h hc)
theorem frzL_plain {n : Nat} {H : Heap} : ∀ (l : List AV), (∀ c ∈ l, c.plain = true) → frzL (frz (n + 1) H) l = some l
  | [], _ => rfl
  | c :: l, h => by
    rw [frzL_cons, frz_plain (h c (List.mem_cons_self ..)), Option.bind_some, frzL_plain l fun d hd => h d (List.mem_cons_of_mem _ hd)]; rfl
theorem chunk_flat (h : Enc sz e) (l : List α) : chunk sz l.length (flat e l) = l.map e := by
  unfold chunk
  rcases h.shape with ⟨rfl, hc⟩ | ⟨hs, hc⟩
  · rw [if_pos rfl]
    induction l with
    | nil => rfl
    | cons x l ih => rw [flat_cons, ih, hc, List.map_cons]; rfl
  · rw [if_neg hs]
    have : ∀ (pre l : List α), ((List.range l.length).map fun i => AV.agg (((flat e (pre ++ l)).drop ((pre.length + i) * sz)).take sz)) = l.map e := by
      intro pre l
      induction l generalizing pre with
      | nil => rfl
      | cons x l ih =>
        rw [List.length_cons, List.range_succ_eq_map, List.map_cons, List.map_cons, List.map_map]
        congr 1
        · rw [Nat.add_zero, ← flat_append, List.drop_left' (flat_len h pre), flat_cons, List.take_left' (h.len x)]
          exact (hc x).symm
        · have := ih (pre ++ [x])
          rw [← this]
          apply List.map_congr_left
          intro i _
          simp only [Function.comp, List.append_assoc, List.singleton_append, List.length_append, List.length_singleton]
          rw [show pre.length + 1 + i = pre.length + (i + 1) by omega]
    have := this [] l
    simpa using this
theorem frz_flat (h : Enc sz e) {n : Nat} {H : Heap} {id : Nat} {l : List α} (hg : hget H id = some (flat e l)) (hb : l.length ≤ 140737488355328) : frz (n + 2) H (.rsl sz id 0 l.length) = some (.vsl sz (l.map e)) := by
  rw [frz_rsl]
  by_cases h0 : l.length = 0
  · rw [if_pos h0]
    obtain rfl : l = [] := List.eq_nil_of_length_eq_zero h0
    rfl
  · rw [if_neg h0, hg, Option.bind_some, if_pos ⟨by rw [flat_len h]; omega, hb⟩, List.drop_zero, flat_take h, frzL_plain _ (fun c hc => flat_plain h hc), Option.bind_some, chunk_flat h]
    rw [if_pos]
    simp only [Bool.or_eq_true, List.all_eq_true]
    exact .inr fun c hc => plain_notAgg (flat_plain h hc)
end

theorem encI : Enc 1 eI := ⟨fun _ => rfl, fun _ c hc => by simp [eI, AV.cells] at hc; subst hc; rfl, .inl ⟨rfl, fun _ => rfl⟩⟩
theorem enc32 : Enc 1 e32 := ⟨fun _ => rfl, fun _ c hc => by simp [e32, AV.cells] at hc; subst hc; rfl, .inl ⟨rfl, fun _ => rfl⟩⟩
theorem encT : Enc 2 eTy := ⟨fun _ => rfl, fun _ c hc => by simp [eTy, AV.cells] at hc; rcases hc with rfl | rfl <;> rfl, .inr ⟨by decide, fun _ => rfl⟩⟩
theorem encN : Enc 3 eIns := ⟨fun _ => rfl, fun _ c hc => by simp [eIns, AV.cells] at hc; rcases hc with rfl | rfl | rfl <;> rfl, .inr ⟨by decide, fun _ => rfl⟩⟩
theorem plain_sl {α : Type} {e : α → AV} (h : ∀ a, (e a).noref = true) (sz : Nat) (l : List α) : (eSl sz e l).plain = true := norefs_map h l
theorem encC : Enc 3 eCls := ⟨fun _ => rfl, fun _ c hc => by
  simp [eCls, AV.cells] at hc
  rcases hc with rfl | rfl | rfl
  · rfl
  · exact plain_sl eTy_noref _ _
  · exact plain_sl eI_noref _ _, .inr ⟨by decide, fun _ => rfl⟩⟩
theorem encM : Enc 8 eMeth := ⟨fun _ => rfl, fun _ c hc => by
  simp [eMeth, AV.cells] at hc
  rcases hc with rfl | rfl | rfl | rfl | rfl | rfl | rfl | rfl
  · exact plain_sl eTy_noref _ _
  · exact plain_sl eTy_noref _ _
  · rfl
  · rfl
  · exact plain_sl eIns_noref _ _
  · rfl
  · rfl
  · exact plain_sl eI_noref _ _, .inr ⟨by decide, fun _ => rfl⟩⟩
theorem encLT : Enc 1 (eSl 2 eTy) := ⟨fun _ => rfl, fun _ c hc => by simp [eSl, AV.cells] at hc; subst hc; exact plain_sl eTy_noref _ _, .inl ⟨rfl, fun _ => rfl⟩⟩
theorem encLI : Enc 1 (eSl 1 eI) := ⟨fun _ => rfl, fun _ c hc => by simp [eSl, AV.cells] at hc; subst hc; exact plain_sl eI_noref _ _, .inl ⟨rfl, fun _ => rfl⟩⟩


theorem flat_fold {α : Type} {e : α → AV} (l : List α) : List.flatMap AV.cells (List.map e l) = flat e l := rfl
theorem pickv_t (a b : AV) : pickv true a b = a := by
  unfold pickv; split
  · rfl
  · split
    · rename_i h; rw [h]; rfl
    · rfl
  · rfl
theorem pickv_f (a b : AV) : pickv false a b = b := by
  unfold pickv; split
  · rfl
  · split
    · rename_i h; rw [h]; rfl
    · rfl
  · rfl
theorem z00 : (((0 : Nat) : Int) == 0) = true := rfl
theorem z01 (n : Nat) : (((n + 1 : Nat) : Int) == 0) = false := by
  rw [beq_eq_false_iff_ne]; omega
theorem g00 : decide (((0 : Nat) : Int) > 0) = false := rfl
theorem g01 (n : Nat) : decide (((n + 1 : Nat) : Int) > 0) = true := by
  rw [decide_eq_true_eq]; omega
theorem gle_f (b : Bool) : gle false b = true := rfl
theorem gle_t (b : Bool) : gle true b = b := rfl

theorem awp_cut {P : Program} {K : Cfg} {V : List Nat} {N : Nat} {Q : Ex → St → Prop} {s : St} {x y : AC} (S : St → Prop) (h : AWP P K V N x (Ex.then S Q) s) (k : ∀ s', S s' → AWP P K V N y Q s') : AWP P K V N (.seq x y) Q s :=
  awp_seq (awp_mono h fun e s' h => by cases e with
    | normal => exact k s' h
    | exit id => exact h
    | ret => exact h)
/-- A loop that counts. -/
theorem awp_upto {P : Program} {K : Cfg} {V : List Nat} {N : Nat} {Q : Ex → St → Prop} {s : St} {x : AC} (n : Nat) (I : Nat → St → Prop) (h0 : I 0 s)
    (round : ∀ k s, k ≤ n → I k s → AWP P K V N x (Ex.then (fun s' => k < n ∧ I (k + 1) s') Q) s) : AWP P K V N (.loop x) Q s := by
  refine awp_while (fun m s => ∃ k, k ≤ n ∧ m = n - k ∧ I k s) n ⟨0, Nat.zero_le _, rfl, h0⟩ ?_
  rintro m s ⟨k, h1, rfl, h2⟩
  refine awp_mono (round k s h1 h2) fun e s' h => ?_
  cases e with
  | normal => exact ⟨n - (k + 1), by have := h.1; omega, k + 1, h.1, rfl, h.2⟩
  | exit id => exact h
  | ret => exact h
theorem wrap_succ {k n : Nat} (h : k < n) (hn : n ≤ 140737488355328) : IntKind.i64.wrap ((k : Int) + 1) = ((k + 1 : Nat) : Int) := by
  rw [wrap_i64 (by omega) (by omega)]; omega
theorem VR.empty {F ι w sz id off x} (h : VR F ι w (.rsl sz id off 0) x) (sz' : Nat) : VR F ι w (.vsl sz' []) x := by
  rcases h.rsl_inv with ⟨a, rfl, _⟩ | ⟨b, cap, n, t, rfl, _⟩
  · exact .vsl0 _ _ _
  · exact .vsl0 _ _ _
theorem look_set : ∀ (V : List Nat) (vals : List AV) (i : Nat) (v : AV) (t : Nat), look V (vals.set i v) t = look V vals t ∨ (look V (vals.set i v) t = v ∧ ∃ u, vals[i]? = some u ∧ look V vals t = u)
  | [], vals, i, v, t => .inl (by cases vals <;> cases i <;> rfl)
  | _ :: _, [], i, v, t => .inl (by simp)
  | v0 :: V, x :: xs, 0, v, t => by
    simp only [List.set_cons_zero, look]
    by_cases h : t = v0
    · simp [h]
    · simp [h]
  | v0 :: V, x :: xs, i + 1, v, t => by
    simp only [List.set_cons_succ, look]
    by_cases h : t = v0
    · simp [h]
    · simp only [if_neg h, List.getElem?_cons_succ]
      exact look_set V xs i v t
/-- A slice of no elements says as much as the list of none. -/
theorem ent_empty {V : List Nat} {vals : List AV} {H : Heap} {sz id off : Nat} (i sz' : Nat) (h : vals[i]? = some (.rsl sz id off 0)) : Ent V ⟨vals, H⟩ ⟨vals.set i (.vsl sz' []), H⟩ :=
  fun O F0 w0 F ι N a w hR hr => ⟨F, ι, Grow.refl _ _ _, hR, fun t => by
    simp only
    rcases look_set V vals i (.vsl sz' []) t with e | ⟨e, u, h1, h2⟩
    · rw [e]; exact hr.v t
    · rw [e]
      have := hr.v t
      simp only at this
      rw [h2] at this
      rw [h1] at h
      injection h with h
      rw [h] at this
      exact this.empty _, hr.size, hr.defers⟩

theorem ty_eq (a b : Ty) : a = b ↔ a.kind = b.kind ∧ a.n = b.n := by
  obtain ⟨_, _⟩ := a; obtain ⟨_, _⟩ := b; simp

/-! ### Fields -/
def cls (l : List Klass) (c : Int) : Klass := l.getD c.toNat default
def fieldsOf (l : List Klass) (c : Int) : List Ty := (chain l c).reverse.flatMap fun k => (cls l k).fields
theorem fieldsOf_in {l : List Klass} {c : Int} (h : 0 ≤ c ∧ c < l.length) : fieldsOf l c = fieldsOf l (up l c) ++ (cls l c).fields := by
  unfold fieldsOf
  rw [chain_in h]
  simp
theorem fieldsOf_out {l : List Klass} {c : Int} (h : ¬ (0 ≤ c ∧ c < l.length)) : fieldsOf l c = [] := by
  unfold fieldsOf
  rw [chain_out h]; rfl
theorem chain_le (l : List Klass) : ∀ (n : Nat) (c b : Int), c.toNat < n → b ∈ chain l c → 0 ≤ b ∧ b < l.length ∧ b ≤ c
  | 0, c, b, h, _ => by omega
  | n + 1, c, b, h, hb => by
    by_cases hc : 0 ≤ c ∧ c < l.length
    · rw [chain_in hc, List.mem_cons] at hb
      rcases hb with rfl | hb
      · exact ⟨hc.1, hc.2, Int.le_refl _⟩
      · have hu := up_lt l c hc.1
        by_cases h0 : 0 ≤ up l c
        · have := chain_le l n _ b (by omega) hb
          exact ⟨this.1, this.2.1, by omega⟩
        · rw [chain_out (by omega)] at hb; cases hb
    · rw [chain_out hc] at hb; cases hb
theorem chain_mem' {l : List Klass} {c b : Int} (h : b ∈ chain l c) : 0 ≤ b ∧ b < l.length := ⟨(chain_le l _ c b (Nat.lt_succ_self _) h).1, (chain_le l _ c b (Nat.lt_succ_self _) h).2.1⟩
theorem chain_length (l : List Klass) : ∀ (n : Nat) (c : Int), c.toNat < n → (chain l c).length ≤ l.length ∧ ((chain l c).length : Int) ≤ max 0 (c + 1)
  | 0, c, h => by omega
  | n + 1, c, h => by
    by_cases hc : 0 ≤ c ∧ c < l.length
    · have hu := up_lt l c hc.1
      rw [chain_in hc, List.length_cons]
      by_cases h0 : 0 ≤ up l c
      · have := chain_length l n _ (show (up l c).toNat < n by omega)
        omega
      · rw [chain_out (by omega)]; simp; omega
    · rw [chain_out hc]; simp; omega
theorem chain_len (l : List Klass) (c : Int) : (chain l c).length ≤ l.length := (chain_length l _ c (Nat.lt_succ_self _)).1
theorem cls_mem {l : List Klass} {c : Int} (h : 0 ≤ c ∧ c < l.length) : cls l c ∈ l := by
  unfold cls
  rw [List.getD_eq_getElem?_getD, List.getElem?_eq_getElem (by omega), Option.getD_some]
  exact List.getElem_mem _
theorem getD_cls' (l : List Klass) (c : Int) (h : 0 ≤ c ∧ c < l.length) : (List.map eCls l).getD c.toNat .any = .agg [.int .i64 (cls l c).super, .vsl 2 (List.map eTy (cls l c).fields), .vsl 1 (List.map eI (cls l c).slots)] := getD_cls l c.toNat (by omega)
theorem getD_meth (l : List Meth) (n : Nat) (h : n < l.length) : (List.map eMeth l).getD n .any = eMeth (l.getD n default) := by
  simp [List.getD_eq_getElem?_getD, h]
def meth (l : List Meth) (c : Int) : Meth := l.getD c.toNat default
theorem meth_mem {l : List Meth} {c : Int} (h : 0 ≤ c ∧ c < l.length) : meth l c ∈ l := by
  unfold meth
  rw [List.getD_eq_getElem?_getD, List.getElem?_eq_getElem (by omega), Option.getD_some]
  exact List.getElem_mem _
theorem getD_meth' (l : List Meth) (c : Int) (h : 0 ≤ c ∧ c < l.length) : (List.map eMeth l).getD c.toNat .any = .agg [.vsl 2 (List.map eTy (meth l c).args), .vsl 2 (List.map eTy (meth l c).locals), .int .i64 (meth l c).ret.kind, .int .i64 (meth l c).ret.n, .vsl 3 (List.map eIns (meth l c).code), .int .i64 (meth l c).depth, .int .i64 (meth l c).pot, .vsl 1 (List.map eI (meth l c).phi)] := getD_meth l c.toNat (by omega)
theorem getD_int' (l : List Int) (c : Int) (h : 0 ≤ c ∧ c < l.length) : (List.map eI l).getD c.toNat .any = .int .i64 (l.getD c.toNat 0) := by
  have : c.toNat < l.length := by omega
  simp [List.getD_eq_getElem?_getD, this, eI]
theorem getD_ty' (l : List Ty) (c : Int) (h : 0 ≤ c ∧ c < l.length) : (List.map eTy l).getD c.toNat .any = .agg [.int .i64 (l.getD c.toNat default).kind, .int .i64 (l.getD c.toNat default).n] := by
  have : c.toNat < l.length := by omega
  simp [List.getD_eq_getElem?_getD, this, eTy]
theorem getD_ins' (l : List Ins) (c : Int) (h : 0 ≤ c ∧ c < l.length) : (List.map eIns l).getD c.toNat .any = .agg [.int .i64 (l.getD c.toNat default).op, .int .i64 (l.getD c.toNat default).a, .int .i64 (l.getD c.toNat default).b] := by
  have : c.toNat < l.length := by omega
  simp [List.getD_eq_getElem?_getD, this, eIns]
theorem drop_rev {α : Type} (l : List α) (j : Nat) (d : α) (h : j < l.length) : (l.drop j).reverse = (l.drop (j + 1)).reverse ++ [l.getD j d] := by
  rw [List.drop_eq_getElem_cons h, List.reverse_cons, List.getD_eq_getElem?_getD, List.getElem?_eq_getElem h]; rfl

end Go.Proofs.Yteelkalenpbmmaa.Ab

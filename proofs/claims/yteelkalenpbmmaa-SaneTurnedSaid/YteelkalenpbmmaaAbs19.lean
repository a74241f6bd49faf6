/- Plain facts on classes: what stands above one. -/
import Derived.Test.YteelkalenpbmmaaAbs17
namespace Go.Proofs.Yteelkalenpbmmaa.Ab

/-- The class above one; -1: none. -/
def sup (l : List Klass) (c : Int) : Int := (l.getD c.toNat default).super
def up (l : List Klass) (c : Int) : Int := if c < 0 ∨ (l.length : Int) ≤ c ∨ c ≤ sup l c then -1 else sup l c
theorem getD_cls (l : List Klass) (n : Nat) (h : n < l.length) : (List.map eCls l).getD n .any = eCls (l.getD n default) := by
  simp [List.getD_eq_getElem?_getD, h]
theorem getD_out {α : Type} (e : α → AV) (l : List α) (n : Nat) (h : l.length ≤ n) : (List.map e l).getD n .any = .any := by
  simp [List.getD_eq_getElem?_getD, h]
theorem up_lt (l : List Klass) (c : Int) (h : 0 ≤ c) : up l c < c := by
  unfold up; split <;> omega

/-- A class and all above it. -/
def chainF (l : List Klass) : Nat → Int → List Int
  | 0, _ => []
  | n + 1, c => if 0 ≤ c ∧ c < l.length then c :: chainF l n (up l c) else []
def chain (l : List Klass) (c : Int) : List Int := chainF l (c.toNat + 1) c
theorem chainF_fuel (l : List Klass) : ∀ (n : Nat) (c : Int), c.toNat < n → chainF l n c = chain l c
  | 0, c, h => by omega
  | n + 1, c, h => by
    unfold chain
    by_cases hc : 0 ≤ c ∧ c < l.length
    · have hu := up_lt l c hc.1
      simp only [chainF, if_pos hc]
      congr 1
      by_cases h0 : 0 ≤ up l c
      · rw [chainF_fuel l n (up l c) (by omega)]
        by_cases h1 : c.toNat = n
        · rw [h1, chainF_fuel l n (up l c) (by omega)]
        · rw [chainF_fuel l c.toNat (up l c) (by omega)]
      · have e : ∀ m, chainF l m (up l c) = [] := by
          intro m; cases m with
          | zero => rfl
          | succ m => simp only [chainF]; rw [if_neg (by omega)]
        rw [e, e]
    · simp only [chainF, if_neg hc]
theorem chain_in {l : List Klass} {c : Int} (h : 0 ≤ c ∧ c < l.length) : chain l c = c :: chain l (up l c) := by
  have hu := up_lt l c h.1
  conv => lhs; unfold chain
  simp only [chainF, if_pos h]
  congr 1
  by_cases h0 : 0 ≤ up l c
  · exact chainF_fuel l _ _ (by omega)
  · have e : ∀ m, chainF l m (up l c) = [] := by
      intro m; cases m with
      | zero => rfl
      | succ m => simp only [chainF]; rw [if_neg (by omega)]
    unfold chain; rw [e, e]
theorem chain_out {l : List Klass} {c : Int} (h : ¬ (0 ≤ c ∧ c < l.length)) : chain l c = [] := by
  unfold chain; simp only [chainF, if_neg h]

/-! ### Lists that are built -/
theorem get_concat2 {α : Type} (J : List α) (x y : α) : (J ++ [x] ++ [y])[J.length]? = some x := by simp
theorem set_concat2 {α : Type} (J : List α) (x y z : α) : (J ++ [x] ++ [y]).set J.length z = J ++ [z] ++ [y] := by simp
theorem take_len_map {α β : Type} (f : α → β) (l : List α) : List.take (l.length * 1) (l.map f) = l.map f := by rw [Nat.mul_one]; exact List.take_of_length_le (by simp)
theorem take_len_map' {α β : Type} (f : α → β) (l : List α) : List.take l.length (l.map f) = l.map f := List.take_of_length_le (by simp)
theorem all_eI (l : List Int) : (l.map eI).all AV.isCell = true := by simp [eI, AV.isCell]

theorem frzL_ints (n : Nat) (H : Heap) : ∀ (l : List Int), frzL (frz (n + 1) H) (l.map eI) = some (l.map eI)
  | [] => rfl
  | x :: l => by
    simp only [List.map_cons, frzL, eI, frz_int, Option.bind_some]
    have := frzL_ints n H l
    rw [this]; rfl
theorem frz_ints {n : Nat} {H : Heap} {id : Nat} {l : List Int} (hg : hget H id = some (l.map eI)) (hb : l.length ≤ 140737488355328) : frz (n + 2) H (.rsl 1 id 0 l.length) = some (.vsl 1 (l.map eI)) := by
  rw [frz_rsl]
  by_cases h0 : l.length = 0
  · rw [if_pos h0]
    have : l = [] := List.eq_nil_of_length_eq_zero h0
    subst this; rfl
  · rw [if_neg h0, hg, Option.bind_some, if_pos ⟨by simp, hb⟩, List.drop_zero, Nat.mul_one, take_len_map', frzL_ints, Option.bind_some]
    have : (l.map eI).all AV.notAgg = true := by simp [eI, AV.notAgg]
    rw [if_pos (by simp [this])]
    simp [chunk]

end Go.Proofs.Yteelkalenpbmmaa.Ab

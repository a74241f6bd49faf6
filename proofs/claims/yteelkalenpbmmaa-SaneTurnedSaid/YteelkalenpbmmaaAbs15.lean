/- Rules for evaluating regions by rewriting. -/
import Derived.Test.YteelkalenpbmmaaAbs14
set_option linter.unusedVariables false
namespace Go.Proofs.Yteelkalenpbmmaa.Ab

section
variable {P : Program} {K : Cfg} {V : List Nat} {N : Nat} {Q : Ex → St → Prop} {s : St}

theorem awp_reg2 (hK : KOk P K) {res : Nat} {ops : List AOper} (h : (xreg K V res ops s).2 = true ∧ Q .normal (xreg K V res ops s).1) : AWP P K V N (.reg res ops) Q s := awp_reg hK h.1 h.2

/-- A region and what follows. -/
theorem awp_rs (hK : KOk P K) {res : Nat} {ops : List AOper} {y : AC} {s' : St} {ok : Bool} (e : xreg K V res ops s = (s', ok)) (hok : ok = true) (h : AWP P K V N y Q s') : AWP P K V N (.seq (.reg res ops) y) Q s := by
  refine awp_seq (awp_reg hK (by rw [e]; exact hok) ?_)
  rw [e]; exact h
theorem awp_r1 (hK : KOk P K) {res : Nat} {ops : List AOper} {s' : St} {ok : Bool} (e : xreg K V res ops s = (s', ok)) (hok : ok = true) (h : Q .normal s') : AWP P K V N (.reg res ops) Q s := by
  refine awp_reg hK (by rw [e]; exact hok) ?_
  rw [e]; exact h
theorem awp_if {c : Opd} {x y : AC} {b : Bool} (hb : rd (look V s.vals) c = .bool b) (h1 : b = true → AWP P K V N x Q s) (h2 : b = false → AWP P K V N y Q s) : AWP P K V N (.cond c x y) Q s := by
  refine awp_cond hb ?_
  cases b
  · exact h2 rfl
  · exact h1 rfl
end

theorem gle_refl (g : Bool) : gle g g = true := by cases g <;> rfl
theorem gle_true (g : Bool) : gle g true = true := by cases g <;> rfl
theorem gle_and1 (a b : Bool) : gle (a && b) a = true := by cases a <;> cases b <;> rfl
theorem gle_and2 (a b : Bool) : gle (a && b) b = true := by cases a <;> cases b <;> rfl
theorem gle_and {a b c : Bool} : gle a (b && c) = (gle a b && gle a c) := by cases a <;> cases b <;> cases c <;> rfl
theorem gle_of {a b : Bool} (h : a = true → b = true) : gle a b = true := by
  cases a
  · rfl
  · simp [gle, h rfl]
theorem gle_iff {a b : Bool} : gle a b = true ↔ (a = true → b = true) := by cases a <;> cases b <;> simp [gle]

theorem pickv_bool (c p q : Bool) : pickv c (.bool p) (.bool q) = .bool (bif c then p else q) := rfl
theorem pickv_any (c p : Bool) : pickv c (.bool p) .any = bif c then .bool p else .any := rfl
theorem pickv_int (c : Bool) (k : IntKind) (n m : Int) : pickv c (.int k n) (.int k m) = .int k (bif c then n else m) := by simp [pickv]

theorem ungd_any (g : Bool)  : ungd g .any = (.any, true) := rfl
theorem ungd_bool (g : Bool) (b : Bool) : ungd g (.bool b) = ((.bool b), true) := rfl
theorem ungd_int (g : Bool) (k : IntKind) (n : Int) : ungd g (.int k n) = ((.int k n), true) := rfl
theorem ungd_str (g : Bool) (s : ByteArray) : ungd g (.str s) = ((.str s), true) := rfl
theorem ungd_nilp (g : Bool)  : ungd g .nilp = (.nilp, true) := rfl
theorem ungd_ref (g : Bool) (a b : Nat) : ungd g (.ref a b) = ((.ref a b), true) := rfl
theorem ungd_fptr (g : Bool) (cs : List AV) : ungd g (.fptr cs) = ((.fptr cs), true) := rfl
theorem ungd_nilsl (g : Bool)  : ungd g .nilsl = (.nilsl, true) := rfl
theorem ungd_vsl (g : Bool) (n : Nat) (cs : List AV) : ungd g (.vsl n cs) = ((.vsl n cs), true) := rfl
theorem ungd_rsl (g : Bool) (n a b c : Nat) : ungd g (.rsl n a b c) = ((.rsl n a b c), true) := rfl
theorem ungd_fn (g : Bool) (f : FuncId) (a b : List AV) : ungd g (.fn f a b) = ((.fn f a b), true) := rfl
theorem ungd_agg (g : Bool) (cs : List AV) : ungd g (.agg cs) = ((.agg cs), true) := rfl
theorem ungd_tup (g : Bool) (cs : List AV) : ungd g (.tup cs) = ((.tup cs), true) := rfl
theorem ungd_con (g : Bool) (v : Value) : ungd g (.con v) = ((.con v), true) := rfl
theorem ungd_ubool (g : Bool)  : ungd g .ubool = (.ubool, true) := rfl
theorem ungd_e0 (g : Bool)  : ungd g .e0 = (.e0, true) := rfl
theorem ungd_ifg (g h : Bool) (v : AV) : ungd g (.ifg h v) = (v, gle g h) := rfl
theorem cells_any  : AV.cells .any = [.any] := rfl
theorem cells_bool (b : Bool) : AV.cells (.bool b) = [(.bool b)] := rfl
theorem cells_int (k : IntKind) (n : Int) : AV.cells (.int k n) = [(.int k n)] := rfl
theorem cells_str (s : ByteArray) : AV.cells (.str s) = [(.str s)] := rfl
theorem cells_nilp  : AV.cells .nilp = [.nilp] := rfl
theorem cells_ref (a b : Nat) : AV.cells (.ref a b) = [(.ref a b)] := rfl
theorem cells_fptr (cs : List AV) : AV.cells (.fptr cs) = [(.fptr cs)] := rfl
theorem cells_nilsl  : AV.cells .nilsl = [.nilsl] := rfl
theorem cells_vsl (n : Nat) (cs : List AV) : AV.cells (.vsl n cs) = [(.vsl n cs)] := rfl
theorem cells_rsl (n a b c : Nat) : AV.cells (.rsl n a b c) = [(.rsl n a b c)] := rfl
theorem cells_fn (f : FuncId) (a b : List AV) : AV.cells (.fn f a b) = [(.fn f a b)] := rfl
theorem cells_tup (cs : List AV) : AV.cells (.tup cs) = [(.tup cs)] := rfl
theorem cells_con (v : Value) : AV.cells (.con v) = [(.con v)] := rfl
theorem cells_ubool  : AV.cells .ubool = [.ubool] := rfl
theorem cells_e0  : AV.cells .e0 = [.e0] := rfl
theorem cells_agg (cs : List AV) : AV.cells (.agg cs) = cs := rfl
theorem set_concat {α : Type} (J : List α) (x y : α) : (J ++ [x]).set J.length y = J ++ [y] := by simp
theorem get_concat {α : Type} (J : List α) (x : α) : (J ++ [x])[J.length]? = some x := by simp
theorem frz_any (n : Nat) (H : Heap) : frz (n + 1) H .any = some .any := rfl
theorem frz_bool (n : Nat) (H : Heap) (b : Bool) : frz (n + 1) H (.bool b) = some (.bool b) := rfl
theorem frz_int (n : Nat) (H : Heap) (k : IntKind) (i : Int) : frz (n + 1) H (.int k i) = some (.int k i) := rfl
theorem frz_str (n : Nat) (H : Heap) (s : ByteArray) : frz (n + 1) H (.str s) = some (.str s) := rfl
theorem frz_nilp (n : Nat) (H : Heap) : frz (n + 1) H .nilp = some .nilp := rfl
theorem frz_nilsl (n : Nat) (H : Heap) : frz (n + 1) H .nilsl = some .nilsl := rfl
theorem frz_ref (n : Nat) (H : Heap) (id off : Nat) : frz (n + 1) H (.ref id off) = ((hget H id).bind fun cs => (frzL (frz n H) (cs.drop off)).map .fptr) := rfl
theorem frz_fn (n : Nat) (H : Heap) (f : FuncId) (a b : List AV) : frz (n + 1) H (.fn f a b) = ((frzL (frz n H) a).bind fun a' => (frzL (frz n H) b).map fun b' => .fn f a' b') := rfl
theorem frz_agg (n : Nat) (H : Heap) (cs : List AV) : frz (n + 1) H (.agg cs) = (frzL (frz n H) cs).map .agg := rfl
theorem frz_tup (n : Nat) (H : Heap) (cs : List AV) : frz (n + 1) H (.tup cs) = (frzL (frz n H) cs).map .tup := rfl
theorem frz_rsl (n : Nat) (H : Heap) (sz id off len : Nat) : frz (n + 1) H (.rsl sz id off len) = (if len = 0 then some (.vsl sz []) else
      (hget H id).bind fun cs => if off + len * sz ≤ cs.length ∧ len ≤ 140737488355328 then
        (frzL (frz n H) ((cs.drop off).take (len * sz))).bind fun l => if sz != 1 || l.all AV.notAgg then some (.vsl sz (chunk sz len l)) else none
      else none) := rfl
theorem frz_vsl (n : Nat) (H : Heap) (sz : Nat) (es : List AV) : frz (n + 1) H (.vsl sz es) = bif AV.norefs es then some (.vsl sz es) else none := by
  show (if AV.norefs es = true then _ else _) = _
  cases AV.norefs es <;> rfl
theorem frz_fptr (n : Nat) (H : Heap) (es : List AV) : frz (n + 1) H (.fptr es) = bif AV.norefs es then some (.fptr es) else none := by
  show (if AV.norefs es = true then _ else _) = _
  cases AV.norefs es <;> rfl
theorem frzL_nil (f : AV → Option AV) : frzL f [] = some [] := rfl
theorem frzL_cons (f : AV → Option AV) (v : AV) (r : List AV) : frzL f (v :: r) = ((f v).bind fun a => (frzL f r).map (a :: ·)) := rfl

/-- The small rules of evaluation, in one. -/
theorem EV : type_of% (And.intro @ungd_any (And.intro @ungd_bool (And.intro @ungd_int (And.intro @ungd_str (And.intro @ungd_nilp (And.intro @ungd_ref (And.intro @ungd_fptr (And.intro @ungd_nilsl (And.intro @ungd_vsl (And.intro @ungd_rsl (And.intro @ungd_fn (And.intro @ungd_agg (And.intro @ungd_tup (And.intro @ungd_con (And.intro @ungd_ubool (And.intro @ungd_e0 (And.intro @ungd_ifg (And.intro @List.map_cons.{0,0} (And.intro @List.map_nil.{0,0} (And.intro @List.length_cons.{0} (And.intro @List.length_nil.{0} (And.intro @List.replicate_zero.{0} (And.intro @List.append_nil.{0} (And.intro @List.nil_append.{0} (And.intro @List.cons_append.{0} (And.intro @cond_true.{1} (And.intro @cond_false.{1} (And.intro @Bool.true_and (And.intro @Bool.and_true (And.intro @Bool.false_and (And.intro @Bool.and_false (And.intro @Bool.not_true (And.intro @Bool.not_false (And.intro @pickv_bool (And.intro @pickv_int (And.intro @cells_agg (And.intro @cells_any (And.intro @cells_bool (And.intro @cells_int (And.intro @cells_str (And.intro @cells_nilp (And.intro @cells_ref (And.intro @cells_fptr (And.intro @cells_nilsl (And.intro @cells_vsl (And.intro @cells_rsl (And.intro @cells_fn (And.intro @cells_tup (And.intro @cells_con (And.intro @cells_ubool (And.intro @cells_e0 (And.intro @List.getElem?_cons_zero.{0} (And.intro @List.getElem?_cons_succ.{0} (And.intro @List.getElem?_nil.{0} (And.intro @List.set_cons_zero.{0} (And.intro @List.set_cons_succ.{0} (And.intro @List.take_succ_cons.{0} (And.intro @List.take_zero.{0} (And.intro @List.drop_succ_cons.{0} (And.intro @List.drop_zero.{0} (And.intro @List.take_nil.{0} (And.intro @List.drop_nil.{0} (And.intro @List.getD_cons_zero.{0} (And.intro @List.getD_cons_succ.{0} (And.intro @List.all_cons.{0} (And.intro @List.all_nil.{0} (And.intro @if_true.{1} (And.intro @if_false.{1} (And.intro @beq_self_eq_true.{0} (And.intro @Option.isSome_none.{0} (And.intro @Option.isSome_some.{0} (And.intro @set_concat (And.intro @get_concat (And.intro @List.flatten_cons.{0} (And.intro @List.flatten_nil.{0} (And.intro @frz_any (And.intro @frz_bool (And.intro @frz_int (And.intro @frz_str (And.intro @frz_nilp (And.intro @frz_nilsl (And.intro @frz_ref (And.intro @frz_fn (And.intro @frz_agg (And.intro @frz_tup (And.intro @frz_vsl (And.intro @frz_fptr (And.intro @frzL_nil (And.intro @frzL_cons (And.intro @Option.bind_some.{0,0} (And.intro @Option.map_some.{0,0} (And.intro @gle_refl (And.intro @gle_true (And.intro @gle_and1 (And.intro @gle_and2 (And.intro @decide_true (@decide_false))))))))))))))))))))))))))))))))))))))))))))))))))))))))))))))))))))))))))))))))))))))))))))))))) := And.intro @ungd_any (And.intro @ungd_bool (And.intro @ungd_int (And.intro @ungd_str (And.intro @ungd_nilp (And.intro @ungd_ref (And.intro @ungd_fptr (And.intro @ungd_nilsl (And.intro @ungd_vsl (And.intro @ungd_rsl (And.intro @ungd_fn (And.intro @ungd_agg (And.intro @ungd_tup (And.intro @ungd_con (And.intro @ungd_ubool (And.intro @ungd_e0 (And.intro @ungd_ifg (And.intro @List.map_cons.{0,0} (And.intro @List.map_nil.{0,0} (And.intro @List.length_cons.{0} (And.intro @List.length_nil.{0} (And.intro @List.replicate_zero.{0} (And.intro @List.append_nil.{0} (And.intro @List.nil_append.{0} (And.intro @List.cons_append.{0} (And.intro @cond_true.{1} (And.intro @cond_false.{1} (And.intro @Bool.true_and (And.intro @Bool.and_true (And.intro @Bool.false_and (And.intro @Bool.and_false (And.intro @Bool.not_true (And.intro @Bool.not_false (And.intro @pickv_bool (And.intro @pickv_int (And.intro @cells_agg (And.intro @cells_any (And.intro @cells_bool (And.intro @cells_int (And.intro @cells_str (And.intro @cells_nilp (And.intro @cells_ref (And.intro @cells_fptr (And.intro @cells_nilsl (And.intro @cells_vsl (And.intro @cells_rsl (And.intro @cells_fn (And.intro @cells_tup (And.intro @cells_con (And.intro @cells_ubool (And.intro @cells_e0 (And.intro @List.getElem?_cons_zero.{0} (And.intro @List.getElem?_cons_succ.{0} (And.intro @List.getElem?_nil.{0} (And.intro @List.set_cons_zero.{0} (And.intro @List.set_cons_succ.{0} (And.intro @List.take_succ_cons.{0} (And.intro @List.take_zero.{0} (And.intro @List.drop_succ_cons.{0} (And.intro @List.drop_zero.{0} (And.intro @List.take_nil.{0} (And.intro @List.drop_nil.{0} (And.intro @List.getD_cons_zero.{0} (And.intro @List.getD_cons_succ.{0} (And.intro @List.all_cons.{0} (And.intro @List.all_nil.{0} (And.intro @if_true.{1} (And.intro @if_false.{1} (And.intro @beq_self_eq_true.{0} (And.intro @Option.isSome_none.{0} (And.intro @Option.isSome_some.{0} (And.intro @set_concat (And.intro @get_concat (And.intro @List.flatten_cons.{0} (And.intro @List.flatten_nil.{0} (And.intro @frz_any (And.intro @frz_bool (And.intro @frz_int (And.intro @frz_str (And.intro @frz_nilp (And.intro @frz_nilsl (And.intro @frz_ref (And.intro @frz_fn (And.intro @frz_agg (And.intro @frz_tup (And.intro @frz_vsl (And.intro @frz_fptr (And.intro @frzL_nil (And.intro @frzL_cons (And.intro @Option.bind_some.{0,0} (And.intro @Option.map_some.{0,0} (And.intro @gle_refl (And.intro @gle_true (And.intro @gle_and1 (And.intro @gle_and2 (And.intro @decide_true (@decide_false))))))))))))))))))))))))))))))))))))))))))))))))))))))))))))))))))))))))))))))))))))))))))))))))

end Go.Proofs.Yteelkalenpbmmaa.Ab

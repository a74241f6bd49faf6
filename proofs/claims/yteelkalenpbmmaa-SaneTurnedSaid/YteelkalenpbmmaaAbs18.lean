/- slices.IndexFunc, slices.ContainsFunc: one contract for every kind of element. -/
import Derived.Test.YteelkalenpbmmaaAbs17
set_option linter.unusedVariables false
set_option linter.unusedSimpArgs false
set_option maxRecDepth 20000
namespace Go.Proofs.Yteelkalenpbmmaa.Ab

theorem fnOf_enc' {α : Type} {ok : α → Prop} {enc : α → List AV} {f : α → AV} (inj : ∀ a b, ok a → ok b → enc a = enc b → f a = f b) {a : α} (ha : ok a) : fnOf ok enc f (enc a) = some (f a) := by
  have h : ∃ b, ok b ∧ enc b = enc a := ⟨a, ha, rfl⟩
  unfold fnOf
  rw [dif_pos h, inj _ _ (Classical.choose_spec h).1 ha (Classical.choose_spec h).2]
theorem pcontract_fn' {P : Program} {K : Cfg} {f : FuncId} {c : AC} {V : List Nat} {rs : List RV} {N : Nat} {α : Type} {ok : α → Prop} {enc : α → List AV} {g : α → AV} (hok : FnOk P f ⟨c, V, rs, N⟩)
    (h : ∀ a, ok a → (enc a).length ≤ N ∧ AWP P K V N c (RetP V rs fun v H => ∃ n, frz n H v = some (g a)) ⟨V.map fun t => (enc a).getD t .any, []⟩) : PContract P f (fnOf ok enc g) := by
  refine pcontract_of (K := K) hok fun avs r hr => ?_
  unfold fnOf at hr
  split at hr
  · rename_i he
    obtain ⟨h1, h2⟩ := Classical.choose_spec he
    injection hr with hr
    have := h _ h1
    rw [h2, hr] at this
    exact this
  · cases hr

theorem wrap_len {α : Type} (pre : List α) (x : α) (post : List α) (h : (pre ++ x :: post).length ≤ 140737488355328) : IntKind.i64.wrap ((pre.length : Int) + 1) = ((pre ++ [x]).length : Int) := by
  simp only [List.length_append, List.length_cons, List.length_nil] at h ⊢
  rw [wrap_i64 (by omega) (by omega)]
  simp

/-- A closure's answer at a value. -/
def callK (K : Cfg) (fv : AV) (avs : List AV) : Option AV :=
  match fv with
  | .fn f a b => K.pcall f (a ++ avs ++ b)
  | _ => none
/-- A closure that answers as a predicate does. -/
def Tells {α : Type} (K : Cfg) (e : α → AV) (fv : AV) (p : α → Bool) : Prop := fv.noref = true ∧ (∃ f a b, fv = .fn f a b) ∧ ∀ x, callK K fv [e x] = some (.bool (p x))

def idxF {α : Type} (p : α → Bool) : List α → Int
  | [] => -1
  | x :: r => if p x then 0 else if idxF p r < 0 then -1 else idxF p r + 1
theorem idxF_mid {α : Type} {p : α → Bool} : ∀ (pre : List α) (x : α) (post : List α), (∀ y ∈ pre, p y = false) → p x = true → idxF p (pre ++ x :: post) = pre.length
  | [], x, post, _, h => by simp [idxF, h]
  | y :: pre, x, post, h1, h => by
    have := idxF_mid pre x post (fun z hz => h1 z (List.mem_cons_of_mem _ hz)) h
    simp only [List.cons_append, idxF, h1 y (List.mem_cons_self ..), this]
    simp
    omega
theorem idxF_none {α : Type} {p : α → Bool} : ∀ (l : List α), (∀ y ∈ l, p y = false) → idxF p l = -1
  | [], _ => rfl
  | y :: l, h => by
    have := idxF_none l (fun z hz => h z (List.mem_cons_of_mem _ hz))
    simp [idxF, h y (List.mem_cons_self ..), this]
theorem idxF_any {α : Type} (p : α → Bool) (l : List α) : decide (idxF p l ≥ 0) = l.any p := by
  induction l with
  | nil => rfl
  | cons x l ih =>
    simp only [idxF, List.any_cons]
    rw [← ih]
    by_cases hx : p x = true
    · simp [hx]
    · have hx' : p x = false := by simpa using hx
      simp only [hx', Bool.false_eq_true, if_false, Bool.false_or, decide_eq_decide]
      split <;> omega

def cIndexFunc (sz : Nat) (ld : Option Nat) : AC :=
 (.seq (.reg 0 [o 4 (.mv (ki 0))])
 (.seq (.seq (.reg 0 [o 6 (.mv (.t 0)), o 7 (.ln (.t 6)), o 8 (.mv (ki 0))])
 (.block 0 (.loop (.seq (.reg 0 [o 9 (.bin .lss (.t 8) (.t 7))])
   (.seq (.cond (.t 9) .skip (.exit 0))
   (.seq (.block 1 (.seq (.reg 0 [o 10 (.mv (.t 8)), o 5 (.mv (.t 10))])
    (.seq (.reg 0 [o 11 (.mv (.t 1)), o 12 (.mv (.t 0)), o 13 (.mv (.t 5)), o 14 (.ia (.t 12) (.t 13) sz), o 15 (.ld (.t 14) ld), o 16 (.dp (.t 11) [(.t 15)])])
    (.cond (.t 16) (.seq (.reg 0 [o 17 (.mv (.t 5)), o 4 (.mv (.t 17))])
     .ret) .skip))))
   (.reg 0 [o 18 (.bin .add (.t 8) (ki 1)), o 8 (.mv (.t 18))])))))))
 (.seq (.reg 0 [o 4 (.mv (ki (-1)))])
 .ret)))

noncomputable def sIndexFunc {α : Type} (K : Cfg) (sz : Nat) (e : α → AV) : List AV → Option AV :=
  fnOf (α := List α × AV × (α → Bool)) (fun a => Tells K e a.2.1 a.2.2) (fun a => [eSl sz e a.1, a.2.1]) fun a => .int .i64 (idxF a.2.2 a.1)
theorem tells_eq {α : Type} {K : Cfg} {e : α → AV} {fv : AV} {p q : α → Bool} (h1 : Tells K e fv p) (h2 : Tells K e fv q) : p = q := by
  funext x
  have := (h1.2.2 x).symm.trans (h2.2.2 x)
  simpa using this
theorem sIndexFunc_eq {α : Type} {K : Cfg} {sz : Nat} {e : α → AV} (he : ∀ a b, e a = e b → a = b) {l : List α} {fv : AV} {p : α → Bool} (h : Tells K e fv p) : sIndexFunc K sz e [.vsl sz (l.map e), fv] = some (.int .i64 (idxF p l)) := by
  refine fnOf_enc' (a := (l, fv, p)) ?_ h
  rintro ⟨l1, f1, p1⟩ ⟨l2, f2, p2⟩ h1 h2 h3
  simp only [List.cons.injEq, and_true] at h3
  obtain ⟨h3, rfl⟩ := h3
  simp only at h1 h2
  rw [eSl_inj he h3, tells_eq h1 h2]

theorem wIndexFunc {α : Type} {P : Program} {K : Cfg} (hK : KOk P K) {f : FuncId} {sz : Nat} {ld : Option Nat} {e : α → AV} (hok : FnOk P f ⟨cIndexFunc sz ld, [0, 1, 4, 5, 7, 8, 9, 16], [.tmp 4], 19⟩) (hn : ∀ x, (e x).noref = true) (hg : ∀ x, ungd true (e x) = (e x, true))
    (hld : (ld = none ∧ ∀ x, (e x).cells = [e x]) ∨ (∃ n, ld = some n ∧ ∀ x, AV.agg ((e x).cells.take n) = e x ∧ (e x).cells.length = n)) : PContract P f (sIndexFunc K sz e) := by
  refine pcontract_fn' (K := K) hok fun a ha => ⟨of_decide_eq_true rfl, ?_⟩
  obtain ⟨l, fv, p⟩ := a
  obtain ⟨hnf, ⟨g, fa, fb, rfl⟩, hp⟩ := ha
  simp only at hp hnf
  show AWP P K [0, 1, 4, 5, 7, 8, 9, 16] 19 (cIndexFunc sz ld) (RetP [0, 1, 4, 5, 7, 8, 9, 16] [.tmp 4] _) ⟨[_, _, _, _, _, _, _, _], []⟩
  refine awp_holds 0 fun hh => ?_
  have hl := (Holds.esl (sz := sz) (e := e) (l := l) hh).1
  clear hh
  unfold cIndexFunc
  simp only [eSl, List.getD_cons_zero, List.getD_cons_succ, List.getD_nil]
  refine awp_rs hK (by simp only [EV, xreg, xops, xop, vop, eop, AOp.eff, ap1, ap2, ov, ovs, ovo, rd, upd, look, gcond, abin, aaeq, aeqs, abeq, asbin, aisnil, asnil, aun, acv, afa, aia, ald, abnd, asl, assl, afd, aix, aex, aln, alns, amxs, amx2, anc, apick, newAt, hget, put, AV.whole, AV.isCell, oneCell, fillParts, slCells, asInt?, pcallX, AV.norefs, AV.noref, AV.scalar, AV.scalars, Nat.reduceEqDiff, Nat.reduceAdd, Nat.reduceMul, Nat.reduceSub, Nat.reduceBEq, Nat.reduceLeDiff, Nat.reduceLT, reduceIte, reduceCtorEq, List.reduceReplicate, Int.reduceToNat, Int.reduceLE, Int.reduceLT]; rfl) (by rfl) ?_
  refine awp_seq ?_
  refine awp_rs hK (by simp only [EV, xreg, xops, xop, vop, eop, AOp.eff, ap1, ap2, ov, ovs, ovo, rd, upd, look, gcond, abin, aaeq, aeqs, abeq, asbin, aisnil, asnil, aun, acv, afa, aia, ald, abnd, asl, assl, afd, aix, aex, aln, alns, amxs, amx2, anc, apick, newAt, hget, put, AV.whole, AV.isCell, oneCell, fillParts, slCells, asInt?, pcallX, AV.norefs, AV.noref, AV.scalar, AV.scalars, Nat.reduceEqDiff, Nat.reduceAdd, Nat.reduceMul, Nat.reduceSub, Nat.reduceBEq, Nat.reduceLeDiff, Nat.reduceLT, reduceIte, reduceCtorEq, List.reduceReplicate, Int.reduceToNat, Int.reduceLE, Int.reduceLT]; rfl) (by rfl) ?_
  refine awp_block (awp_for l (fun pre post s => (∀ x ∈ pre, p x = false) ∧ ∃ j5 j9 j16, s = ⟨[.vsl sz (l.map e), .fn g fa fb, .int .i64 0, j5, .int .i64 ((l.map e).length : Int), .int .i64 pre.length, j9, j16], []⟩) ⟨by simp, _, _, _, rfl⟩ ?_)
  rintro pre post s hpp ⟨hpre, j5, j9, j16, rfl⟩
  refine awp_rs hK (by simp only [EV, xreg, xops, xop, vop, eop, AOp.eff, ap1, ap2, ov, ovs, ovo, rd, upd, look, gcond, abin, aaeq, aeqs, abeq, asbin, aisnil, asnil, aun, acv, afa, aia, ald, abnd, asl, assl, afd, aix, aex, aln, alns, amxs, amx2, anc, apick, newAt, hget, put, AV.whole, AV.isCell, oneCell, fillParts, slCells, asInt?, pcallX, AV.norefs, AV.noref, AV.scalar, AV.scalars, Nat.reduceEqDiff, Nat.reduceAdd, Nat.reduceMul, Nat.reduceSub, Nat.reduceBEq, Nat.reduceLeDiff, Nat.reduceLT, reduceIte, reduceCtorEq, List.reduceReplicate, Int.reduceToNat, Int.reduceLE, Int.reduceLT]; rfl) (by rfl) ?_
  refine awp_seq ?_
  refine awp_if rfl (fun hc => awp_skip ?_) (fun hc => awp_exit ?_)
  · cases post with
    | nil => simp [hpp] at hc
    | cons x post =>
      subst hpp
      simp only [Ex.then_normal, Ex.then_exit, Ex.then_ret, Ex.blk_normal, Ex.blk_exit, Ex.blk_ret, if_true, if_false, reduceIte, reduceCtorEq, Nat.reduceEqDiff]
      refine awp_seq (awp_block ?_)
      refine awp_rs hK (by simp only [EV, xreg, xops, xop, vop, eop, AOp.eff, ap1, ap2, ov, ovs, ovo, rd, upd, look, gcond, abin, aaeq, aeqs, abeq, asbin, aisnil, asnil, aun, acv, afa, aia, ald, abnd, asl, assl, afd, aix, aex, aln, alns, amxs, amx2, anc, apick, newAt, hget, put, AV.whole, AV.isCell, oneCell, fillParts, slCells, asInt?, pcallX, AV.norefs, AV.noref, AV.scalar, AV.scalars, Nat.reduceEqDiff, Nat.reduceAdd, Nat.reduceMul, Nat.reduceSub, Nat.reduceBEq, Nat.reduceLeDiff, Nat.reduceLT, reduceIte, reduceCtorEq, List.reduceReplicate, Int.reduceToNat, Int.reduceLE, Int.reduceLT]; rfl) (by rfl) ?_
      have hcall := hp x
      simp only [callK] at hcall
      have hnr : AV.norefs (fa ++ [e x] ++ fb) = true := by
        simp only [AV.noref, Bool.and_eq_true] at hnf
        have app : ∀ (a b : List AV), AV.norefs a = true → AV.norefs b = true → AV.norefs (a ++ b) = true := by
          intro a b ha hb
          induction a with
          | nil => exact hb
          | cons v r ih =>
            simp only [AV.norefs, Bool.and_eq_true, List.cons_append] at ha ⊢
            exact ⟨ha.1, ih ha.2⟩
        exact app _ _ (app _ _ hnf.1 (by simp [AV.norefs, hn])) hnf.2
      have hreg : xreg K [0, 1, 4, 5, 7, 8, 9, 16] 0 [o 11 (.mv (.t 1)), o 12 (.mv (.t 0)), o 13 (.mv (.t 5)), o 14 (.ia (.t 12) (.t 13) sz), o 15 (.ld (.t 14) ld), o 16 (.dp (.t 11) [(.t 15)])] ⟨[.vsl sz ((pre ++ x :: post).map e), .fn g fa fb, .int .i64 0, .int .i64 pre.length, .int .i64 (((pre ++ x :: post).map e).length : Int), .int .i64 pre.length, .bool (decide ((pre.length : Int) < (((pre ++ x :: post).map e).length : Int))), j16], []⟩
        = (⟨[.vsl sz ((pre ++ x :: post).map e), .fn g fa fb, .int .i64 0, .int .i64 pre.length, .int .i64 (((pre ++ x :: post).map e).length : Int), .int .i64 pre.length, .bool (decide ((pre.length : Int) < (((pre ++ x :: post).map e).length : Int))), .bool (p x)], []⟩, true) := by
        have hx : ungd true (e x) = (e x, true) := hg x
        have hlt : decide ((pre.length : Int) < (((pre ++ x :: post).map e).length : Int)) = true := by simp; omega
        have h0 : decide ((0 : Int) ≤ (pre.length : Int)) = true := by simp
        have hcall' : K.pcall g (fa ++ ([e x] ++ fb)) = some (.bool (p x)) := by rw [← List.append_assoc]; exact hcall
        rcases hld with ⟨rfl, hc⟩ | ⟨n, rfl, hc⟩
        · have := hc x
          simp only [EV, xreg, xops, xop, vop, eop, AOp.eff, ap1, ap2, ov, ovs, ovo, rd, upd, look, gcond, abin, aaeq, aeqs, abeq, asbin, aisnil, asnil, aun, acv, afa, aia, ald, abnd, asl, assl, afd, aix, aex, aln, alns, amxs, amx2, anc, apick, newAt, hget, put, AV.whole, AV.isCell, oneCell, fillParts, slCells, asInt?, pcallX, AV.norefs, AV.noref, AV.scalar, AV.scalars, Nat.reduceEqDiff, Nat.reduceAdd, Nat.reduceMul, Nat.reduceSub, Nat.reduceBEq, Nat.reduceLeDiff, Nat.reduceLT, reduceIte, reduceCtorEq, List.reduceReplicate, Int.reduceToNat, Int.reduceLE, Int.reduceLT, getD_map_mid, this, hx, hlt, h0, hnr, hcall]
        · obtain ⟨h2, h3⟩ := hc x
          have h4 : decide (n ≤ (e x).cells.length) = true := by simp [h3]
          simp only [EV, xreg, xops, xop, vop, eop, AOp.eff, ap1, ap2, ov, ovs, ovo, rd, upd, look, gcond, abin, aaeq, aeqs, abeq, asbin, aisnil, asnil, aun, acv, afa, aia, ald, abnd, asl, assl, afd, aix, aex, aln, alns, amxs, amx2, anc, apick, newAt, hget, put, AV.whole, AV.isCell, oneCell, fillParts, slCells, asInt?, pcallX, AV.norefs, AV.noref, AV.scalar, AV.scalars, Nat.reduceEqDiff, Nat.reduceAdd, Nat.reduceMul, Nat.reduceSub, Nat.reduceBEq, Nat.reduceLeDiff, Nat.reduceLT, reduceIte, reduceCtorEq, List.reduceReplicate, Int.reduceToNat, Int.reduceLE, Int.reduceLT, getD_map_mid, h2, h4, hx, hlt, h0, hnr, hcall]
      refine awp_rs hK hreg rfl (awp_if rfl (fun hx => ?_) (fun hx => awp_skip ?_))
      · refine awp_rs hK (by simp only [EV, xreg, xops, xop, vop, eop, AOp.eff, ap1, ap2, ov, ovs, ovo, rd, upd, look, gcond, abin, aaeq, aeqs, abeq, asbin, aisnil, asnil, aun, acv, afa, aia, ald, abnd, asl, assl, afd, aix, aex, aln, alns, amxs, amx2, anc, apick, newAt, hget, put, AV.whole, AV.isCell, oneCell, fillParts, slCells, asInt?, pcallX, AV.norefs, AV.noref, AV.scalar, AV.scalars, Nat.reduceEqDiff, Nat.reduceAdd, Nat.reduceMul, Nat.reduceSub, Nat.reduceBEq, Nat.reduceLeDiff, Nat.reduceLT, reduceIte, reduceCtorEq, List.reduceReplicate, Int.reduceToNat, Int.reduceLE, Int.reduceLT]; rfl) (by rfl) ?_
        exact awp_reti (fun h => h) rfl (idxF_mid pre x post hpre hx).symm
      · simp only [Ex.then_normal, Ex.then_exit, Ex.then_ret, Ex.blk_normal, Ex.blk_exit, Ex.blk_ret, if_true, if_false, reduceIte, reduceCtorEq, Nat.reduceEqDiff]
        refine awp_r1 hK (by simp only [EV, xreg, xops, xop, vop, eop, AOp.eff, ap1, ap2, ov, ovs, ovo, rd, upd, look, gcond, abin, aaeq, aeqs, abeq, asbin, aisnil, asnil, aun, acv, afa, aia, ald, abnd, asl, assl, afd, aix, aex, aln, alns, amxs, amx2, anc, apick, newAt, hget, put, AV.whole, AV.isCell, oneCell, fillParts, slCells, asInt?, pcallX, AV.norefs, AV.noref, AV.scalar, AV.scalars, Nat.reduceEqDiff, Nat.reduceAdd, Nat.reduceMul, Nat.reduceSub, Nat.reduceBEq, Nat.reduceLeDiff, Nat.reduceLT, reduceIte, reduceCtorEq, List.reduceReplicate, Int.reduceToNat, Int.reduceLE, Int.reduceLT]; rfl) (by rfl) ?_
        rw [wrap_len pre x post hl]
        refine ⟨x, post, rfl, fun y hy => ?_, _, _, _, rfl⟩
        rw [List.mem_append, List.mem_singleton] at hy
        rcases hy with hy | rfl
        · exact hpre y hy
        · exact hx
  · simp only [Ex.then_normal, Ex.then_exit, Ex.then_ret, Ex.blk_normal, Ex.blk_exit, Ex.blk_ret, if_true, if_false, reduceIte, reduceCtorEq, Nat.reduceEqDiff]
    cases post with
    | cons x post => simp [hpp] at hc; omega
    | nil =>
      rw [List.append_nil] at hpp
      subst hpp
      refine awp_rs hK (by simp only [EV, xreg, xops, xop, vop, eop, AOp.eff, ap1, ap2, ov, ovs, ovo, rd, upd, look, gcond, abin, aaeq, aeqs, abeq, asbin, aisnil, asnil, aun, acv, afa, aia, ald, abnd, asl, assl, afd, aix, aex, aln, alns, amxs, amx2, anc, apick, newAt, hget, put, AV.whole, AV.isCell, oneCell, fillParts, slCells, asInt?, pcallX, AV.norefs, AV.noref, AV.scalar, AV.scalars, Nat.reduceEqDiff, Nat.reduceAdd, Nat.reduceMul, Nat.reduceSub, Nat.reduceBEq, Nat.reduceLeDiff, Nat.reduceLT, reduceIte, reduceCtorEq, List.reduceReplicate, Int.reduceToNat, Int.reduceLE, Int.reduceLT]; rfl) (by rfl) ?_
      exact awp_reti (fun h => h) rfl (idxF_none l hpre).symm

def cContainsFunc (j : Nat) : AC :=
 (.seq (.reg 0 [o 4 (.mv (kb false))])
 (.seq (.reg 0 [o 5 (.mv (.t 0)), o 6 (.mv (.t 1)), o 7 (.pc j [(.t 5), (.t 6)]), o 8 (.bin .geq (.t 7) (ki 0)), o 4 (.mv (.t 8))])
 .ret))
noncomputable def sContainsFunc {α : Type} (K : Cfg) (sz : Nat) (e : α → AV) : List AV → Option AV :=
  fnOf (α := List α × AV × (α → Bool)) (fun a => Tells K e a.2.1 a.2.2) (fun a => [eSl sz e a.1, a.2.1]) fun a => .bool (a.1.any a.2.2)
theorem sContainsFunc_eq {α : Type} {K : Cfg} {sz : Nat} {e : α → AV} (he : ∀ a b, e a = e b → a = b) {l : List α} {fv : AV} {p : α → Bool} (h : Tells K e fv p) : sContainsFunc K sz e [.vsl sz (l.map e), fv] = some (.bool (l.any p)) := by
  refine fnOf_enc' (a := (l, fv, p)) ?_ h
  rintro ⟨l1, f1, p1⟩ ⟨l2, f2, p2⟩ h1 h2 h3
  simp only [List.cons.injEq, and_true] at h3
  obtain ⟨h3, rfl⟩ := h3
  simp only at h1 h2
  rw [eSl_inj he h3, tells_eq h1 h2]
theorem wContainsFunc {α : Type} {P : Program} {K K1 : Cfg} (hK : KOk P K) {f j : FuncId} {sz : Nat} {e : α → AV} (hok : FnOk P f ⟨cContainsFunc j, [0, 1, 4], [.tmp 4], 9⟩) (he : ∀ a b, e a = e b → a = b) (hn : ∀ x, (e x).noref = true)
    (hj : K.pcall j = sIndexFunc K1 sz e) : PContract P f (sContainsFunc K1 sz e) := by
  refine pcontract_fn' (K := K) hok fun a ha => ⟨of_decide_eq_true rfl, ?_⟩
  obtain ⟨l, fv, p⟩ := a
  have ht : Tells K1 e fv p := ha
  obtain ⟨hnf, ⟨g, fa, fb, rfl⟩, hp⟩ := ha
  show AWP P K [0, 1, 4] 9 (cContainsFunc j) (RetP [0, 1, 4] [.tmp 4] _) ⟨[_, _, _], []⟩
  unfold cContainsFunc
  simp only [eSl, List.getD_cons_zero, List.getD_cons_succ, List.getD_nil]
  have hnl := norefs_map hn l
  refine awp_rs hK (by simp only [EV, xreg, xops, xop, vop, eop, AOp.eff, ap1, ap2, ov, ovs, ovo, rd, upd, look, gcond, abin, aaeq, aeqs, abeq, asbin, aisnil, asnil, aun, acv, afa, aia, ald, abnd, asl, assl, afd, aix, aex, aln, alns, amxs, amx2, anc, apick, newAt, hget, put, AV.whole, AV.isCell, oneCell, fillParts, slCells, asInt?, pcallX, AV.norefs, AV.noref, AV.scalar, AV.scalars, Nat.reduceEqDiff, Nat.reduceAdd, Nat.reduceMul, Nat.reduceSub, Nat.reduceBEq, Nat.reduceLeDiff, Nat.reduceLT, reduceIte, reduceCtorEq, List.reduceReplicate, Int.reduceToNat, Int.reduceLE, Int.reduceLT]; rfl) (by rfl) ?_
  have hnf' : AV.noref (.fn g fa fb) = true := hnf
  simp only [AV.noref] at hnf'
  refine awp_rs hK (by simp only [EV, xreg, xops, xop, vop, eop, AOp.eff, ap1, ap2, ov, ovs, ovo, rd, upd, look, gcond, abin, aaeq, aeqs, abeq, asbin, aisnil, asnil, aun, acv, afa, aia, ald, abnd, asl, assl, afd, aix, aex, aln, alns, amxs, amx2, anc, apick, newAt, hget, put, AV.whole, AV.isCell, oneCell, fillParts, slCells, asInt?, pcallX, AV.norefs, AV.noref, AV.scalar, AV.scalars, Nat.reduceEqDiff, Nat.reduceAdd, Nat.reduceMul, Nat.reduceSub, Nat.reduceBEq, Nat.reduceLeDiff, Nat.reduceLT, reduceIte, reduceCtorEq, List.reduceReplicate, Int.reduceToNat, Int.reduceLE, Int.reduceLT, hj, hnl, hnf', sIndexFunc_eq he ht]; rfl) (by rfl) ?_
  exact awp_retb (fun h => h) rfl (idxF_any p l)

end Go.Proofs.Yteelkalenpbmmaa.Ab

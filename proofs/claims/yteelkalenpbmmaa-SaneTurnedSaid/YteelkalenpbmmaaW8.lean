import Derived.Test.YteelkalenpbmmaaAbs17
import Derived.Test.YteelkalenpbmmaaFns
import Derived.Test.YteelkalenpbmmaaW7
set_option linter.unusedVariables false
set_option linter.unusedSimpArgs false
set_option maxRecDepth 20000
set_option maxHeartbeats 1000000
namespace Go.Proofs.Yteelkalenpbmmaa.Ab

/-- Does a fit where b is wanted? -/
def subT (l : List Klass) (a b : Ty) : Bool :=
  if a.kind = 4 then isRef b else if a.kind = 3 then b.kind == 3 && below l a.n b.n else (a.kind == 1 || a.kind == 2) && (a.kind == b.kind && a.n == b.n)
/- plimsoll/kind.Sub -/
def f132 (l : List Klass) (a : Ty) (b : Ty) : Bool := subT l a b
noncomputable def s132 := fnOf (α := List Klass × Ty × Ty) (fun _ => True) (fun a => [eSl 3 eCls a.1, eTy a.2.1, eTy a.2.2]) fun a => .bool (f132 (a.1) (a.2.1) (a.2.2))
theorem s132_inj (a b : List Klass × Ty × Ty) (h : [eSl 3 eCls a.1, eTy a.2.1, eTy a.2.2] = [eSl 3 eCls b.1, eTy b.2.1, eTy b.2.2]) : a = b := by
  obtain ⟨a0, a1, a2⟩ := a; obtain ⟨b0, b1, b2⟩ := b
  simp only [List.cons.injEq, and_true, true_and] at h
  rw [eSl_inj (fun _ _ => eCls_inj) h.1, eTy_inj h.2.1, eTy_inj h.2.2]
theorem s132_eq (l : List Klass) (a_kind : Int) (a_n : Int) (b_kind : Int) (b_n : Int) : s132 [.vsl 3 (List.map eCls l), .agg [.int .i64 a_kind, .int .i64 a_n], .agg [.int .i64 b_kind, .int .i64 b_n]] = some (.bool (f132 l (⟨a_kind, a_n⟩ : Ty) (⟨b_kind, b_n⟩ : Ty))) := fnOf_enc (a := (l, ⟨a_kind, a_n⟩, ⟨b_kind, b_n⟩)) s132_inj trivial
theorem s132_eqp (l : List Klass) (a : Ty) (b : Ty) : s132 [.vsl 3 (List.map eCls l), .agg [.int .i64 a.kind, .int .i64 a.n], .agg [.int .i64 b.kind, .int .i64 b.n]] = some (.bool (f132 l a b)) := fnOf_enc (a := (l, a, b)) s132_inj trivial

theorem w132 {K : Cfg} (hK : KOk Try.prog K) (h149 : K.pcall 149 = s149) (h150 : K.pcall 150 = s150) : PContract Try.prog 132 s132 := by
  refine pcontract_fn (K := K) s132_inj k132 fun a ha => ⟨of_decide_eq_true rfl, ?_⟩
  obtain ⟨l, a, b⟩ := a
  show AWP Try.prog K [0, 1, 2, 4, 5, 6, 7, 13] 41 c132 (RetP [0, 1, 2, 4, 5, 6, 7, 13] [.tmp 6] _) ⟨[_, _, _, _, _, _, _, _], []⟩
  refine awp_holds 0 fun hh_l => ?_
  have hl_l := (Holds.esl (sz := 3) (e := eCls) (l := l) hh_l).1
  clear hh_l
  obtain ⟨a_kind, a_n⟩ := a
  obtain ⟨b_kind, b_n⟩ := b
  unfold c132
  simp only [eI, e32, eTy, eIns, eCls, eMeth, eImg, eSl, ty_eta, ins_eta, cls_eta, meth_eta, img_eta, nr_I, nr_32, nr_T, nr_N, nr_C, nr_M, getD_map_mid, List.getD_cons_zero, List.getD_cons_succ, List.getD_nil]
  refine awp_rs hK (by simp only [EV, xreg, xops, xop, vop, eop, AOp.eff, ap1, ap2, ov, ovs, ovo, rd, upd, look, gcond, abin, aaeq, aeqs, abeq, asbin, aisnil, asnil, aun, acv, afa, aia, ald, abnd, asl, assl, afd, aix, aex, aln, alns, amxs, amx2, anc, apick, newAt, hget, put, AV.whole, AV.isCell, oneCell, fillParts, slCells, asInt?, pcallX, AV.norefs, AV.noref, AV.scalar, AV.scalars, Nat.reduceEqDiff, Nat.reduceAdd, Nat.reduceMul, Nat.reduceSub, Nat.reduceBEq, Nat.reduceLeDiff, Nat.reduceLT, reduceIte, reduceCtorEq, List.reduceReplicate, Int.reduceToNat, Int.reduceLE, Int.reduceLT, eI, e32, eTy, eIns, eCls, eMeth, eImg, eSl, ty_eta, ins_eta, cls_eta, meth_eta, img_eta, nr_I, nr_32, nr_T, nr_N, nr_C, nr_M, getD_map_mid, h149, s149_eq, h150, s150_eq]; rfl) (by first | rfl | grind [gle]) ?_ -- r1
  refine awp_seq ?_
  refine awp_block ?_
  refine awp_rs hK (by simp only [EV, xreg, xops, xop, vop, eop, AOp.eff, ap1, ap2, ov, ovs, ovo, rd, upd, look, gcond, abin, aaeq, aeqs, abeq, asbin, aisnil, asnil, aun, acv, afa, aia, ald, abnd, asl, assl, afd, aix, aex, aln, alns, amxs, amx2, anc, apick, newAt, hget, put, AV.whole, AV.isCell, oneCell, fillParts, slCells, asInt?, pcallX, AV.norefs, AV.noref, AV.scalar, AV.scalars, Nat.reduceEqDiff, Nat.reduceAdd, Nat.reduceMul, Nat.reduceSub, Nat.reduceBEq, Nat.reduceLeDiff, Nat.reduceLT, reduceIte, reduceCtorEq, List.reduceReplicate, Int.reduceToNat, Int.reduceLE, Int.reduceLT, eI, e32, eTy, eIns, eCls, eMeth, eImg, eSl, ty_eta, ins_eta, cls_eta, meth_eta, img_eta, nr_I, nr_32, nr_T, nr_N, nr_C, nr_M, getD_map_mid, h149, s149_eq, h150, s150_eq]; rfl) (by first | rfl | grind [gle]) ?_ -- r2
  refine awp_if rfl (fun hc1 => ?_) (fun hc1 => ?_)
  ·
    refine awp_rs hK (by simp only [EV, xreg, xops, xop, vop, eop, AOp.eff, ap1, ap2, ov, ovs, ovo, rd, upd, look, gcond, abin, aaeq, aeqs, abeq, asbin, aisnil, asnil, aun, acv, afa, aia, ald, abnd, asl, assl, afd, aix, aex, aln, alns, amxs, amx2, anc, apick, newAt, hget, put, AV.whole, AV.isCell, oneCell, fillParts, slCells, asInt?, pcallX, AV.norefs, AV.noref, AV.scalar, AV.scalars, Nat.reduceEqDiff, Nat.reduceAdd, Nat.reduceMul, Nat.reduceSub, Nat.reduceBEq, Nat.reduceLeDiff, Nat.reduceLT, reduceIte, reduceCtorEq, List.reduceReplicate, Int.reduceToNat, Int.reduceLE, Int.reduceLT, eI, e32, eTy, eIns, eCls, eMeth, eImg, eSl, ty_eta, ins_eta, cls_eta, meth_eta, img_eta, nr_I, nr_32, nr_T, nr_N, nr_C, nr_M, getD_map_mid, h149, s149_eq, h150, s150_eq]; rfl) (by first | rfl | grind [gle]) ?_ -- r3
    refine awp_retb (fun h => h) rfl ?_ -- leaf 1
    first | rfl | grind [f132, subT, isRef, f149, f150, below]
  ·
    refine awp_rs hK (by simp only [EV, xreg, xops, xop, vop, eop, AOp.eff, ap1, ap2, ov, ovs, ovo, rd, upd, look, gcond, abin, aaeq, aeqs, abeq, asbin, aisnil, asnil, aun, acv, afa, aia, ald, abnd, asl, assl, afd, aix, aex, aln, alns, amxs, amx2, anc, apick, newAt, hget, put, AV.whole, AV.isCell, oneCell, fillParts, slCells, asInt?, pcallX, AV.norefs, AV.noref, AV.scalar, AV.scalars, Nat.reduceEqDiff, Nat.reduceAdd, Nat.reduceMul, Nat.reduceSub, Nat.reduceBEq, Nat.reduceLeDiff, Nat.reduceLT, reduceIte, reduceCtorEq, List.reduceReplicate, Int.reduceToNat, Int.reduceLE, Int.reduceLT, eI, e32, eTy, eIns, eCls, eMeth, eImg, eSl, ty_eta, ins_eta, cls_eta, meth_eta, img_eta, nr_I, nr_32, nr_T, nr_N, nr_C, nr_M, getD_map_mid, h149, s149_eq, h150, s150_eq]; rfl) (by first | rfl | grind [gle]) ?_ -- r4
    refine awp_if rfl (fun hc2 => ?_) (fun hc2 => ?_)
    ·
      refine awp_rs hK (by simp only [EV, xreg, xops, xop, vop, eop, AOp.eff, ap1, ap2, ov, ovs, ovo, rd, upd, look, gcond, abin, aaeq, aeqs, abeq, asbin, aisnil, asnil, aun, acv, afa, aia, ald, abnd, asl, assl, afd, aix, aex, aln, alns, amxs, amx2, anc, apick, newAt, hget, put, AV.whole, AV.isCell, oneCell, fillParts, slCells, asInt?, pcallX, AV.norefs, AV.noref, AV.scalar, AV.scalars, Nat.reduceEqDiff, Nat.reduceAdd, Nat.reduceMul, Nat.reduceSub, Nat.reduceBEq, Nat.reduceLeDiff, Nat.reduceLT, reduceIte, reduceCtorEq, List.reduceReplicate, Int.reduceToNat, Int.reduceLE, Int.reduceLT, eI, e32, eTy, eIns, eCls, eMeth, eImg, eSl, ty_eta, ins_eta, cls_eta, meth_eta, img_eta, nr_I, nr_32, nr_T, nr_N, nr_C, nr_M, getD_map_mid, h149, s149_eq, h150, s150_eq]; rfl) (by first | rfl | grind [gle]) ?_ -- r5
      refine awp_retb (fun h => h) rfl ?_ -- leaf 2
      first | rfl | grind [f132, subT, isRef, f149, f150, below]
    ·
      refine awp_skip ?_
      simp only [Ex.then_normal, Ex.then_exit, Ex.then_ret, Ex.blk_normal, Ex.blk_exit, Ex.blk_ret, if_true, if_false, reduceIte, reduceCtorEq, Nat.reduceEqDiff]
      refine awp_rs hK (by simp only [EV, xreg, xops, xop, vop, eop, AOp.eff, ap1, ap2, ov, ovs, ovo, rd, upd, look, gcond, abin, aaeq, aeqs, abeq, asbin, aisnil, asnil, aun, acv, afa, aia, ald, abnd, asl, assl, afd, aix, aex, aln, alns, amxs, amx2, anc, apick, newAt, hget, put, AV.whole, AV.isCell, oneCell, fillParts, slCells, asInt?, pcallX, AV.norefs, AV.noref, AV.scalar, AV.scalars, Nat.reduceEqDiff, Nat.reduceAdd, Nat.reduceMul, Nat.reduceSub, Nat.reduceBEq, Nat.reduceLeDiff, Nat.reduceLT, reduceIte, reduceCtorEq, List.reduceReplicate, Int.reduceToNat, Int.reduceLE, Int.reduceLT, eI, e32, eTy, eIns, eCls, eMeth, eImg, eSl, ty_eta, ins_eta, cls_eta, meth_eta, img_eta, nr_I, nr_32, nr_T, nr_N, nr_C, nr_M, getD_map_mid, h149, s149_eq, h150, s150_eq]; rfl) (by first | rfl | grind [gle]) ?_ -- r6
      refine awp_retb (fun h => h) rfl ?_ -- leaf 3
      first | rfl | grind [f132, subT, isRef, f149, f150, below]

end Go.Proofs.Yteelkalenpbmmaa.Ab

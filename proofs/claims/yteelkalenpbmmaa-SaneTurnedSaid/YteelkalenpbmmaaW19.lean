import Derived.Test.YteelkalenpbmmaaAbs17
import Derived.Test.YteelkalenpbmmaaFns
import Derived.Test.YteelkalenpbmmaaW13
import Derived.Test.YteelkalenpbmmaaW17
import Derived.Test.YteelkalenpbmmaaW18
set_option linter.unusedVariables false
set_option linter.unusedSimpArgs false
set_option maxRecDepth 20000
set_option maxHeartbeats 1000000
namespace Go.Proofs.Yteelkalenpbmmaa.Ab

theorem s33_ret (m_classes : List Klass) (m_statics : List Ty) (m_ints : List Int) (m_methods : List Meth) (m_entries : List Int) (m_stack m_heap : Int) (k n : Int) : s33 [.agg [.vsl 3 (List.map eCls m_classes), .vsl 2 (List.map eTy m_statics), .vsl 1 (List.map e32 m_ints), .vsl 8 (List.map eMeth m_methods), .vsl 1 (List.map eI m_entries), .int .i64 m_stack, .int .i64 m_heap], .vsl 1 [.vsl 2 [.agg [.int .i64 k, .int .i64 n]]]] = some (.bool (f33 ⟨m_classes, m_statics, m_ints, m_methods, m_entries, m_stack, m_heap⟩ [[⟨k, n⟩]])) := s33_eq _ _ _ _ _ _ _ [[⟨k, n⟩]]
theorem b21 : ((2 : Nat) != 1) = true := rfl
/- plimsoll/sane.method -/
def f35 (m : Img) (x : Meth) : Bool := methS m x
def ok35 (m : Img) (x : Meth) : Prop := fits m = true ∧ methW x = true ∧ ∀ b : Int, 0 ≤ b → b < m.classes.length → (cls m.classes b).super < b
noncomputable def s35 := fnOf (α := Img × Meth) (fun a => ok35 (a.1) (a.2)) (fun a => [eImg a.1, eMeth a.2]) fun a => .bool (f35 (a.1) (a.2))
theorem s35_inj (a b : Img × Meth) (h : [eImg a.1, eMeth a.2] = [eImg b.1, eMeth b.2]) : a = b := by
  obtain ⟨a0, a1⟩ := a; obtain ⟨b0, b1⟩ := b
  simp only [List.cons.injEq, and_true, true_and] at h
  rw [eImg_inj h.1, eMeth_inj h.2]
theorem s35_eq (m_classes : List Klass) (m_statics : List Ty) (m_ints : List Int) (m_methods : List Meth) (m_entries : List Int) (m_stack : Int) (m_heap : Int) (x_args : List Ty) (x_locals : List Ty) (x_ret_kind : Int) (x_ret_n : Int) (x_code : List Ins) (x_depth : Int) (x_pot : Int) (x_phi : List Int) (h : ok35 (⟨m_classes, m_statics, m_ints, m_methods, m_entries, m_stack, m_heap⟩ : Img) (⟨x_args, x_locals, ⟨x_ret_kind, x_ret_n⟩, x_code, x_depth, x_pot, x_phi⟩ : Meth)) : s35 [.agg [.vsl 3 (List.map eCls m_classes), .vsl 2 (List.map eTy m_statics), .vsl 1 (List.map e32 m_ints), .vsl 8 (List.map eMeth m_methods), .vsl 1 (List.map eI m_entries), .int .i64 m_stack, .int .i64 m_heap], .agg [.vsl 2 (List.map eTy x_args), .vsl 2 (List.map eTy x_locals), .int .i64 x_ret_kind, .int .i64 x_ret_n, .vsl 3 (List.map eIns x_code), .int .i64 x_depth, .int .i64 x_pot, .vsl 1 (List.map eI x_phi)]] = some (.bool (f35 (⟨m_classes, m_statics, m_ints, m_methods, m_entries, m_stack, m_heap⟩ : Img) (⟨x_args, x_locals, ⟨x_ret_kind, x_ret_n⟩, x_code, x_depth, x_pot, x_phi⟩ : Meth))) := fnOf_enc (a := (⟨m_classes, m_statics, m_ints, m_methods, m_entries, m_stack, m_heap⟩, ⟨x_args, x_locals, ⟨x_ret_kind, x_ret_n⟩, x_code, x_depth, x_pot, x_phi⟩)) s35_inj h
theorem s35_eqp (m : Img) (x : Meth) (h : ok35 m x) : s35 [.agg [.vsl 3 (List.map eCls m.classes), .vsl 2 (List.map eTy m.statics), .vsl 1 (List.map e32 m.ints), .vsl 8 (List.map eMeth m.methods), .vsl 1 (List.map eI m.entries), .int .i64 m.stack, .int .i64 m.heap], .agg [.vsl 2 (List.map eTy x.args), .vsl 2 (List.map eTy x.locals), .int .i64 x.ret.kind, .int .i64 x.ret.n, .vsl 3 (List.map eIns x.code), .int .i64 x.depth, .int .i64 x.pot, .vsl 1 (List.map eI x.phi)]] = some (.bool (f35 m x)) := fnOf_enc (a := (m, x)) s35_inj h

theorem w35 {K : Cfg} (hK : KOk Try.prog K) (h33 : K.pcall 33 = s33) (h84 : K.pcall 84 = s84) (h85 : K.pcall 85 = s85) : PContract Try.prog 35 s35 := by
  refine pcontract_fn (K := K) s35_inj k35 fun a ha => ⟨of_decide_eq_true rfl, ?_⟩
  obtain ⟨m, x⟩ := a
  show AWP Try.prog K [0, 1, 2, 3, 4, 5, 7, 30, 53, 56, 57, 58, 59, 67] 69 c35 (RetP [0, 1, 2, 3, 4, 5, 7, 30, 53, 56, 57, 58, 59, 67] [.tmp 4] _) ⟨[_, _, _, _, _, _, _, _, _, _, _, _, _, _], []⟩
  refine awp_holds 0 fun hh_m => ?_
  have hw_m : m.Wf := Img.wf_of' hh_m
  clear hh_m
  refine awp_holds 1 fun hh_x => ?_
  have hw_x : x.Wf := Meth.wf_of' hh_x
  clear hh_x
  obtain ⟨m_classes, m_statics, m_ints, m_methods, m_entries, m_stack, m_heap⟩ := m
  obtain ⟨x_args, x_locals, ⟨x_ret_kind, x_ret_n⟩, x_code, x_depth, x_pot, x_phi⟩ := x
  replace ha : ok35 (⟨m_classes, m_statics, m_ints, m_methods, m_entries, m_stack, m_heap⟩ : Img) (⟨x_args, x_locals, ⟨x_ret_kind, x_ret_n⟩, x_code, x_depth, x_pot, x_phi⟩ : Meth) := ha
  have hmw := methW_spec ha.2.1
  simp only at hmw
  have hws : IntKind.i64.wrap ((x_args.length : Int) + (x_locals.length : Int)) = ((x_args.length + x_locals.length : Nat) : Int) := by
    rw [wrap_i64 (by omega) (by omega)]; simp
  unfold c35
  simp only [eI, e32, eTy, eIns, eCls, eMeth, eImg, eSl, ty_eta, ins_eta, cls_eta, meth_eta, img_eta, nr_I, nr_32, nr_T, nr_N, nr_C, nr_M, getD_map_mid, List.getD_cons_zero, List.getD_cons_succ, List.getD_nil]
  refine awp_rs hK (by simp only [EV, xreg, xops, xop, vop, eop, AOp.eff, ap1, ap2, ov, ovs, ovo, rd, upd, look, gcond, abin, aaeq, aeqs, abeq, asbin, aisnil, asnil, aun, acv, afa, aia, ald, abnd, asl, assl, afd, aix, aex, aln, alns, amxs, amx2, anc, apick, newAt, hget, put, AV.whole, AV.isCell, oneCell, fillParts, slCells, asInt?, pcallX, AV.norefs, AV.noref, AV.scalar, AV.scalars, Nat.reduceEqDiff, Nat.reduceAdd, Nat.reduceMul, Nat.reduceSub, Nat.reduceBEq, Nat.reduceLeDiff, Nat.reduceLT, reduceIte, reduceCtorEq, List.reduceReplicate, Int.reduceToNat, Int.reduceLE, Int.reduceLT, eI, e32, eTy, eIns, eCls, eMeth, eImg, eSl, ty_eta, ins_eta, cls_eta, meth_eta, img_eta, nr_I, nr_32, nr_T, nr_N, nr_C, nr_M, getD_map_mid, h33, s33_eq, h84, s84_eq, h85, s85_eq, List.length_map, hws]; rfl) (by first | rfl | (simp [gle_iff]; done) | (simp [gle_iff]; omega) | grind [gle]) ?_ -- r1
  refine awp_cut (fun s => ∃ J, (x_args.all (fun t => goodT t m_classes.length) = true ∧ x_locals.all (fun t => goodT t m_classes.length) = true) ∧ (((x_ret_kind == 5 && x_ret_n == 0) || goodT ⟨x_ret_kind, x_ret_n⟩ m_classes.length) = true) ∧ ∃ j5 j7 j30 j53 j56 j57 j58 j59 j67, s = ⟨[.agg [.vsl 3 (List.map eCls m_classes), .vsl 2 (List.map eTy m_statics), .vsl 1 (List.map e32 m_ints), .vsl 8 (List.map eMeth m_methods), .vsl 1 (List.map eI m_entries), .int .i64 m_stack, .int .i64 m_heap], .agg [.vsl 2 (List.map eTy x_args), .vsl 2 (List.map eTy x_locals), .int .i64 x_ret_kind, .int .i64 x_ret_n, .vsl 3 (List.map eIns x_code), .int .i64 x_depth, .int .i64 x_pot, .vsl 1 (List.map eI x_phi)], .ref 0 0, .ref 1 0, .bool false, j5, j7, j30, j53, j56, j57, j58, j59, j67], .live [.vsl 3 (List.map eCls m_classes), .vsl 2 (List.map eTy m_statics), .vsl 1 (List.map e32 m_ints), .vsl 8 (List.map eMeth m_methods), .vsl 1 (List.map eI m_entries), .int .i64 m_stack, .int .i64 m_heap] :: .live [.vsl 2 (List.map eTy x_args), .vsl 2 (List.map eTy x_locals), .int .i64 x_ret_kind, .int .i64 x_ret_n, .vsl 3 (List.map eIns x_code), .int .i64 x_depth, .int .i64 x_pot, .vsl 1 (List.map eI x_phi)] :: J⟩) ?_ ?_
  ·
    rcases hd : f33 ⟨m_classes, m_statics, m_ints, m_methods, m_entries, m_stack, m_heap⟩ [x_args, x_locals] with _ | _
    rotate_left
    rcases hd2 : (x_ret_kind == 5 && x_ret_n == 0) with _ | _
    ·
      refine awp_rs hK (by simp only [EV, xreg, xops, xop, vop, eop, AOp.eff, ap1, ap2, ov, ovs, ovo, rd, upd, look, gcond, abin, aaeq, aeqs, abeq, asbin, aisnil, asnil, aun, acv, afa, aia, ald, abnd, asl, assl, afd, aix, aex, aln, alns, amxs, amx2, anc, apick, newAt, hget, put, AV.whole, AV.isCell, oneCell, fillParts, slCells, asInt?, pcallX, AV.norefs, AV.noref, AV.scalar, AV.scalars, Nat.reduceEqDiff, Nat.reduceAdd, Nat.reduceMul, Nat.reduceSub, Nat.reduceBEq, Nat.reduceLeDiff, Nat.reduceLT, reduceIte, reduceCtorEq, List.reduceReplicate, Int.reduceToNat, Int.reduceLE, Int.reduceLT, eI, e32, eTy, eIns, eCls, eMeth, eImg, eSl, ty_eta, ins_eta, cls_eta, meth_eta, img_eta, nr_I, nr_32, nr_T, nr_N, nr_C, nr_M, getD_map_mid, h33, s33_eq, h84, s84_eq, h85, s85_eq, List.length_map, hws, EVG, s33_two, hd, hd2, s33_ret, b21, AV.notAgg, frz_rsl]; rfl) (by first | rfl | (simp [gle_iff]; done) | (simp [gle_iff]; omega) | grind [gle]) ?_ -- r2
      refine awp_if rfl (fun hc1 => ?_) (fun hc1 => ?_)
      ·
        refine awp_rs hK (by simp only [EV, xreg, xops, xop, vop, eop, AOp.eff, ap1, ap2, ov, ovs, ovo, rd, upd, look, gcond, abin, aaeq, aeqs, abeq, asbin, aisnil, asnil, aun, acv, afa, aia, ald, abnd, asl, assl, afd, aix, aex, aln, alns, amxs, amx2, anc, apick, newAt, hget, put, AV.whole, AV.isCell, oneCell, fillParts, slCells, asInt?, pcallX, AV.norefs, AV.noref, AV.scalar, AV.scalars, Nat.reduceEqDiff, Nat.reduceAdd, Nat.reduceMul, Nat.reduceSub, Nat.reduceBEq, Nat.reduceLeDiff, Nat.reduceLT, reduceIte, reduceCtorEq, List.reduceReplicate, Int.reduceToNat, Int.reduceLE, Int.reduceLT, eI, e32, eTy, eIns, eCls, eMeth, eImg, eSl, ty_eta, ins_eta, cls_eta, meth_eta, img_eta, nr_I, nr_32, nr_T, nr_N, nr_C, nr_M, getD_map_mid, h33, s33_eq, h84, s84_eq, h85, s85_eq, List.length_map, hws, EVG, s33_two, hd, hd2, s33_ret, b21, AV.notAgg, frz_rsl]; rfl) (by first | rfl | (simp [gle_iff]; done) | (simp [gle_iff]; omega) | grind [gle]) ?_ -- r3
        refine awp_retb (fun h => h) rfl ?_ -- leaf 1
        rw [f35, eq_comm, Bool.eq_false_iff]; intro h; simp [methS] at h; simp [f33] at hc1; simp at hd2; grind
      ·
        refine awp_skip ?_
        simp only [Ex.then_normal, Ex.then_exit, Ex.then_ret, Ex.blk_normal, Ex.blk_exit, Ex.blk_ret, if_true, if_false, reduceIte, reduceCtorEq, Nat.reduceEqDiff]
        exact ⟨[_, _, _], by simpa [f33] using hd, by simp [f33] at hc1; simp [hc1], _, _, _, _, _, _, _, _, _,  rfl⟩
    ·
      refine awp_rs hK (by simp only [EV, xreg, xops, xop, vop, eop, AOp.eff, ap1, ap2, ov, ovs, ovo, rd, upd, look, gcond, abin, aaeq, aeqs, abeq, asbin, aisnil, asnil, aun, acv, afa, aia, ald, abnd, asl, assl, afd, aix, aex, aln, alns, amxs, amx2, anc, apick, newAt, hget, put, AV.whole, AV.isCell, oneCell, fillParts, slCells, asInt?, pcallX, AV.norefs, AV.noref, AV.scalar, AV.scalars, Nat.reduceEqDiff, Nat.reduceAdd, Nat.reduceMul, Nat.reduceSub, Nat.reduceBEq, Nat.reduceLeDiff, Nat.reduceLT, reduceIte, reduceCtorEq, List.reduceReplicate, Int.reduceToNat, Int.reduceLE, Int.reduceLT, eI, e32, eTy, eIns, eCls, eMeth, eImg, eSl, ty_eta, ins_eta, cls_eta, meth_eta, img_eta, nr_I, nr_32, nr_T, nr_N, nr_C, nr_M, getD_map_mid, h33, s33_eq, h84, s84_eq, h85, s85_eq, List.length_map, hws, EVG, s33_two, hd, hd2, AV.notAgg, frz_rsl]; rfl) (by first | rfl | (simp [gle_iff]; done) | (simp [gle_iff]; omega) | grind [gle]) ?_ -- r2
      refine awp_cond (b := false) (congrArg AV.bool rfl) ?_
      simp only [Ex.then_normal, Ex.then_exit, Ex.then_ret, Ex.blk_normal, Ex.blk_exit, Ex.blk_ret, if_true, if_false, reduceIte, reduceCtorEq, Nat.reduceEqDiff]
      refine awp_skip ?_
      simp only [Ex.then_normal, Ex.then_exit, Ex.then_ret, Ex.blk_normal, Ex.blk_exit, Ex.blk_ret, if_true, if_false, reduceIte, reduceCtorEq, Nat.reduceEqDiff]
      exact ⟨[_], by simpa [f33] using hd, rfl, _, _, _, _, _, _, _, _, _,  rfl⟩
    ·
      refine awp_rs hK (by simp only [EV, xreg, xops, xop, vop, eop, AOp.eff, ap1, ap2, ov, ovs, ovo, rd, upd, look, gcond, abin, aaeq, aeqs, abeq, asbin, aisnil, asnil, aun, acv, afa, aia, ald, abnd, asl, assl, afd, aix, aex, aln, alns, amxs, amx2, anc, apick, newAt, hget, put, AV.whole, AV.isCell, oneCell, fillParts, slCells, asInt?, pcallX, AV.norefs, AV.noref, AV.scalar, AV.scalars, Nat.reduceEqDiff, Nat.reduceAdd, Nat.reduceMul, Nat.reduceSub, Nat.reduceBEq, Nat.reduceLeDiff, Nat.reduceLT, reduceIte, reduceCtorEq, List.reduceReplicate, Int.reduceToNat, Int.reduceLE, Int.reduceLT, eI, e32, eTy, eIns, eCls, eMeth, eImg, eSl, ty_eta, ins_eta, cls_eta, meth_eta, img_eta, nr_I, nr_32, nr_T, nr_N, nr_C, nr_M, getD_map_mid, h33, s33_eq, h84, s84_eq, h85, s85_eq, List.length_map, hws, EVG, s33_two, hd, AV.notAgg, frz_rsl]; rfl) (by first | rfl | (simp [gle_iff]; done) | (simp [gle_iff]; omega) | grind [gle]) ?_ -- r2
      refine awp_cond (b := true) (congrArg AV.bool rfl) ?_
      simp only [Ex.then_normal, Ex.then_exit, Ex.then_ret, Ex.blk_normal, Ex.blk_exit, Ex.blk_ret, if_true, if_false, reduceIte, reduceCtorEq, Nat.reduceEqDiff]
      refine awp_rs hK (by simp only [EV, xreg, xops, xop, vop, eop, AOp.eff, ap1, ap2, ov, ovs, ovo, rd, upd, look, gcond, abin, aaeq, aeqs, abeq, asbin, aisnil, asnil, aun, acv, afa, aia, ald, abnd, asl, assl, afd, aix, aex, aln, alns, amxs, amx2, anc, apick, newAt, hget, put, AV.whole, AV.isCell, oneCell, fillParts, slCells, asInt?, pcallX, AV.norefs, AV.noref, AV.scalar, AV.scalars, Nat.reduceEqDiff, Nat.reduceAdd, Nat.reduceMul, Nat.reduceSub, Nat.reduceBEq, Nat.reduceLeDiff, Nat.reduceLT, reduceIte, reduceCtorEq, List.reduceReplicate, Int.reduceToNat, Int.reduceLE, Int.reduceLT, eI, e32, eTy, eIns, eCls, eMeth, eImg, eSl, ty_eta, ins_eta, cls_eta, meth_eta, img_eta, nr_I, nr_32, nr_T, nr_N, nr_C, nr_M, getD_map_mid, h33, s33_eq, h84, s84_eq, h85, s85_eq, List.length_map, hws, EVG, s33_two, hd, AV.notAgg, frz_rsl]; rfl) (by first | rfl | (simp [gle_iff]; done) | (simp [gle_iff]; omega) | grind [gle]) ?_ -- r3
      refine awp_retb (fun h => h) rfl ?_ -- leaf 2
      rw [f35, eq_comm, Bool.eq_false_iff]; intro h; simp [methS] at h; simp [f33] at hd; grind
  ·
    rintro s ⟨J, hk0, hk1, j5, j7, j30, j53, j56, j57, j58, j59, j67, rfl⟩
    refine awp_seq ?_
    refine awp_rs hK (by simp only [EV, xreg, xops, xop, vop, eop, AOp.eff, ap1, ap2, ov, ovs, ovo, rd, upd, look, gcond, abin, aaeq, aeqs, abeq, asbin, aisnil, asnil, aun, acv, afa, aia, ald, abnd, asl, assl, afd, aix, aex, aln, alns, amxs, amx2, anc, apick, newAt, hget, put, AV.whole, AV.isCell, oneCell, fillParts, slCells, asInt?, pcallX, AV.norefs, AV.noref, AV.scalar, AV.scalars, Nat.reduceEqDiff, Nat.reduceAdd, Nat.reduceMul, Nat.reduceSub, Nat.reduceBEq, Nat.reduceLeDiff, Nat.reduceLT, reduceIte, reduceCtorEq, List.reduceReplicate, Int.reduceToNat, Int.reduceLE, Int.reduceLT, eI, e32, eTy, eIns, eCls, eMeth, eImg, eSl, ty_eta, ins_eta, cls_eta, meth_eta, img_eta, nr_I, nr_32, nr_T, nr_N, nr_C, nr_M, getD_map_mid, h33, s33_eq, h84, s84_eq, h85, s85_eq, List.length_map, hws]; rfl) (by first | rfl | (simp [gle_iff]; done) | (simp [gle_iff]; omega) | grind [gle]) ?_ -- r4
    refine awp_if rfl (fun hc2 => ?_) (fun hc2 => ?_)
    ·
      refine awp_rs hK (by simp only [EV, xreg, xops, xop, vop, eop, AOp.eff, ap1, ap2, ov, ovs, ovo, rd, upd, look, gcond, abin, aaeq, aeqs, abeq, asbin, aisnil, asnil, aun, acv, afa, aia, ald, abnd, asl, assl, afd, aix, aex, aln, alns, amxs, amx2, anc, apick, newAt, hget, put, AV.whole, AV.isCell, oneCell, fillParts, slCells, asInt?, pcallX, AV.norefs, AV.noref, AV.scalar, AV.scalars, Nat.reduceEqDiff, Nat.reduceAdd, Nat.reduceMul, Nat.reduceSub, Nat.reduceBEq, Nat.reduceLeDiff, Nat.reduceLT, reduceIte, reduceCtorEq, List.reduceReplicate, Int.reduceToNat, Int.reduceLE, Int.reduceLT, eI, e32, eTy, eIns, eCls, eMeth, eImg, eSl, ty_eta, ins_eta, cls_eta, meth_eta, img_eta, nr_I, nr_32, nr_T, nr_N, nr_C, nr_M, getD_map_mid, h33, s33_eq, h84, s84_eq, h85, s85_eq, List.length_map, hws]; rfl) (by first | rfl | (simp [gle_iff]; done) | (simp [gle_iff]; omega) | grind [gle]) ?_ -- r5
      refine awp_retb (fun h => h) rfl ?_ -- leaf 3
      rw [f35, eq_comm, Bool.eq_false_iff]; intro h; simp [methS] at h; simp at hc2; grind
    ·
      refine awp_skip ?_
      simp only [Ex.then_normal, Ex.then_exit, Ex.then_ret, Ex.blk_normal, Ex.blk_exit, Ex.blk_ret, if_true, if_false, reduceIte, reduceCtorEq, Nat.reduceEqDiff]
      refine awp_rs hK (by simp only [EV, xreg, xops, xop, vop, eop, AOp.eff, ap1, ap2, ov, ovs, ovo, rd, upd, look, gcond, abin, aaeq, aeqs, abeq, asbin, aisnil, asnil, aun, acv, afa, aia, ald, abnd, asl, assl, afd, aix, aex, aln, alns, amxs, amx2, anc, apick, newAt, hget, put, AV.whole, AV.isCell, oneCell, fillParts, slCells, asInt?, pcallX, AV.norefs, AV.noref, AV.scalar, AV.scalars, Nat.reduceEqDiff, Nat.reduceAdd, Nat.reduceMul, Nat.reduceSub, Nat.reduceBEq, Nat.reduceLeDiff, Nat.reduceLT, reduceIte, reduceCtorEq, List.reduceReplicate, Int.reduceToNat, Int.reduceLE, Int.reduceLT, eI, e32, eTy, eIns, eCls, eMeth, eImg, eSl, ty_eta, ins_eta, cls_eta, meth_eta, img_eta, nr_I, nr_32, nr_T, nr_N, nr_C, nr_M, getD_map_mid, h33, s33_eq, h84, s84_eq, h85, s85_eq, List.length_map, hws]; rfl) (by first | rfl | (simp [gle_iff]; done) | (simp [gle_iff]; omega) | grind [gle]) ?_ -- r6
      refine awp_seq ?_
      refine awp_rs hK (by simp only [EV, xreg, xops, xop, vop, eop, AOp.eff, ap1, ap2, ov, ovs, ovo, rd, upd, look, gcond, abin, aaeq, aeqs, abeq, asbin, aisnil, asnil, aun, acv, afa, aia, ald, abnd, asl, assl, afd, aix, aex, aln, alns, amxs, amx2, anc, apick, newAt, hget, put, AV.whole, AV.isCell, oneCell, fillParts, slCells, asInt?, pcallX, AV.norefs, AV.noref, AV.scalar, AV.scalars, Nat.reduceEqDiff, Nat.reduceAdd, Nat.reduceMul, Nat.reduceSub, Nat.reduceBEq, Nat.reduceLeDiff, Nat.reduceLT, reduceIte, reduceCtorEq, List.reduceReplicate, Int.reduceToNat, Int.reduceLE, Int.reduceLT, eI, e32, eTy, eIns, eCls, eMeth, eImg, eSl, ty_eta, ins_eta, cls_eta, meth_eta, img_eta, nr_I, nr_32, nr_T, nr_N, nr_C, nr_M, getD_map_mid, h33, s33_eq, h84, s84_eq, h85, s85_eq, List.length_map, hws]; rfl) (by first | rfl | (simp [gle_iff]; done) | (simp [gle_iff]; omega) | grind [gle]) ?_ -- r7
      refine awp_block ?_
      refine awp_upto (x_code.length) (fun k s => ∃ J, (∀ i, i < k → namedS ⟨m_classes, m_statics, m_ints, m_methods, m_entries, m_stack, m_heap⟩ ⟨x_args, x_locals, ⟨x_ret_kind, x_ret_n⟩, x_code, x_depth, x_pot, x_phi⟩ (x_code.getD i default) = true) ∧ ∃ j7 j30 j53 j59 j67, s = ⟨[.agg [.vsl 3 (List.map eCls m_classes), .vsl 2 (List.map eTy m_statics), .vsl 1 (List.map e32 m_ints), .vsl 8 (List.map eMeth m_methods), .vsl 1 (List.map eI m_entries), .int .i64 m_stack, .int .i64 m_heap], .agg [.vsl 2 (List.map eTy x_args), .vsl 2 (List.map eTy x_locals), .int .i64 x_ret_kind, .int .i64 x_ret_n, .vsl 3 (List.map eIns x_code), .int .i64 x_depth, .int .i64 x_pot, .vsl 1 (List.map eI x_phi)], .ref 0 0, .ref 1 0, .bool false, .fn 84 [] [.ref 0 0], j7, j30, j53, .vsl 3 (List.map eIns x_code), .int .i64 x_code.length, .int .i64 k, j59, j67], .live [.vsl 3 (List.map eCls m_classes), .vsl 2 (List.map eTy m_statics), .vsl 1 (List.map e32 m_ints), .vsl 8 (List.map eMeth m_methods), .vsl 1 (List.map eI m_entries), .int .i64 m_stack, .int .i64 m_heap] :: .live [.vsl 2 (List.map eTy x_args), .vsl 2 (List.map eTy x_locals), .int .i64 x_ret_kind, .int .i64 x_ret_n, .vsl 3 (List.map eIns x_code), .int .i64 x_depth, .int .i64 x_pot, .vsl 1 (List.map eI x_phi)] :: J⟩) ?_ ?_
      · exact ⟨J, by simp, _, _, _, _, _,  rfl⟩
      rintro k s hkn ⟨J, hp0, j7, j30, j53, j59, j67, rfl⟩
      refine awp_rs hK (by simp only [EV, xreg, xops, xop, vop, eop, AOp.eff, ap1, ap2, ov, ovs, ovo, rd, upd, look, gcond, abin, aaeq, aeqs, abeq, asbin, aisnil, asnil, aun, acv, afa, aia, ald, abnd, asl, assl, afd, aix, aex, aln, alns, amxs, amx2, anc, apick, newAt, hget, put, AV.whole, AV.isCell, oneCell, fillParts, slCells, asInt?, pcallX, AV.norefs, AV.noref, AV.scalar, AV.scalars, Nat.reduceEqDiff, Nat.reduceAdd, Nat.reduceMul, Nat.reduceSub, Nat.reduceBEq, Nat.reduceLeDiff, Nat.reduceLT, reduceIte, reduceCtorEq, List.reduceReplicate, Int.reduceToNat, Int.reduceLE, Int.reduceLT, eI, e32, eTy, eIns, eCls, eMeth, eImg, eSl, ty_eta, ins_eta, cls_eta, meth_eta, img_eta, nr_I, nr_32, nr_T, nr_N, nr_C, nr_M, getD_map_mid, h33, s33_eq, h84, s84_eq, h85, s85_eq, List.length_map, hws]; rfl) (by first | rfl | (simp [gle_iff]; done) | (simp [gle_iff]; omega) | grind [gle]) ?_ -- r8
      refine awp_seq ?_
      refine awp_if rfl (fun hc3 => ?_) (fun hc3 => ?_)
      ·
        have hk1 : k < x_code.length := by simpa using hc3
        have hgy := getD_ins' x_code (k : Int) (by omega)
        simp only [Int.toNat_natCast] at hgy
        obtain ⟨y, hy⟩ : ∃ y, y = x_code.getD k default := ⟨_, rfl⟩
        rw [← hy] at hgy
        have hk85 : ok85 ⟨m_classes, m_statics, m_ints, m_methods, m_entries, m_stack, m_heap⟩ ⟨x_args, x_locals, ⟨x_ret_kind, x_ret_n⟩, x_code, x_depth, x_pot, x_phi⟩ y := ⟨ha.1, methW_code ha.2.1 y (by rw [hy]; exact getD_mem hk1), ha.2.1, ha.2.2⟩
        have hs85 := s85_eqp _ _ _ hk85
        simp only at hs85
        refine awp_skip ?_
        simp only [Ex.then_normal, Ex.then_exit, Ex.then_ret, Ex.blk_normal, Ex.blk_exit, Ex.blk_ret, if_true, if_false, reduceIte, reduceCtorEq, Nat.reduceEqDiff]
        refine awp_seq ?_
        refine awp_block ?_
        refine awp_rs hK (by simp only [EV, xreg, xops, xop, vop, eop, AOp.eff, ap1, ap2, ov, ovs, ovo, rd, upd, look, gcond, abin, aaeq, aeqs, abeq, asbin, aisnil, asnil, aun, acv, afa, aia, ald, abnd, asl, assl, afd, aix, aex, aln, alns, amxs, amx2, anc, apick, newAt, hget, put, AV.whole, AV.isCell, oneCell, fillParts, slCells, asInt?, pcallX, AV.norefs, AV.noref, AV.scalar, AV.scalars, Nat.reduceEqDiff, Nat.reduceAdd, Nat.reduceMul, Nat.reduceSub, Nat.reduceBEq, Nat.reduceLeDiff, Nat.reduceLT, reduceIte, reduceCtorEq, List.reduceReplicate, Int.reduceToNat, Int.reduceLE, Int.reduceLT, eI, e32, eTy, eIns, eCls, eMeth, eImg, eSl, ty_eta, ins_eta, cls_eta, meth_eta, img_eta, nr_I, nr_32, nr_T, nr_N, nr_C, nr_M, getD_map_mid, h33, s33_eq, h84, s84_eq, h85, s85_eq, List.length_map, hws, hgy, Int.toNat_natCast]; rfl) (by simp [hk1]) ?_ -- r9
        refine awp_rs hK (by simp only [EV, xreg, xops, xop, vop, eop, AOp.eff, ap1, ap2, ov, ovs, ovo, rd, upd, look, gcond, abin, aaeq, aeqs, abeq, asbin, aisnil, asnil, aun, acv, afa, aia, ald, abnd, asl, assl, afd, aix, aex, aln, alns, amxs, amx2, anc, apick, newAt, hget, put, AV.whole, AV.isCell, oneCell, fillParts, slCells, asInt?, pcallX, AV.norefs, AV.noref, AV.scalar, AV.scalars, Nat.reduceEqDiff, Nat.reduceAdd, Nat.reduceMul, Nat.reduceSub, Nat.reduceBEq, Nat.reduceLeDiff, Nat.reduceLT, reduceIte, reduceCtorEq, List.reduceReplicate, Int.reduceToNat, Int.reduceLE, Int.reduceLT, eI, e32, eTy, eIns, eCls, eMeth, eImg, eSl, ty_eta, ins_eta, cls_eta, meth_eta, img_eta, nr_I, nr_32, nr_T, nr_N, nr_C, nr_M, getD_map_mid, h33, s33_eq, h84, s84_eq, h85, s85_eq, List.length_map, hws, hs85, List.append_nil, List.nil_append]; rfl) (by first | rfl | (simp [gle_iff]; done) | (simp [gle_iff]; omega) | grind [gle]) ?_ -- r10
        refine awp_if rfl (fun hc4 => ?_) (fun hc4 => ?_)
        ·
          refine awp_rs hK (by simp only [EV, xreg, xops, xop, vop, eop, AOp.eff, ap1, ap2, ov, ovs, ovo, rd, upd, look, gcond, abin, aaeq, aeqs, abeq, asbin, aisnil, asnil, aun, acv, afa, aia, ald, abnd, asl, assl, afd, aix, aex, aln, alns, amxs, amx2, anc, apick, newAt, hget, put, AV.whole, AV.isCell, oneCell, fillParts, slCells, asInt?, pcallX, AV.norefs, AV.noref, AV.scalar, AV.scalars, Nat.reduceEqDiff, Nat.reduceAdd, Nat.reduceMul, Nat.reduceSub, Nat.reduceBEq, Nat.reduceLeDiff, Nat.reduceLT, reduceIte, reduceCtorEq, List.reduceReplicate, Int.reduceToNat, Int.reduceLE, Int.reduceLT, eI, e32, eTy, eIns, eCls, eMeth, eImg, eSl, ty_eta, ins_eta, cls_eta, meth_eta, img_eta, nr_I, nr_32, nr_T, nr_N, nr_C, nr_M, getD_map_mid, h33, s33_eq, h84, s84_eq, h85, s85_eq, List.length_map, hws]; rfl) (by first | rfl | (simp [gle_iff]; done) | (simp [gle_iff]; omega) | grind [gle]) ?_ -- r11
          refine awp_retb (fun h => h) rfl ?_ -- leaf 4
          rw [f35, eq_comm, Bool.eq_false_iff]; intro h; simp only [methS, Bool.and_eq_true, List.all_eq_true] at h; have := h.2 y (by rw [hy]; exact getD_mem hk1); simp [f85, this] at hc4
        ·
          refine awp_skip ?_
          simp only [Ex.then_normal, Ex.then_exit, Ex.then_ret, Ex.blk_normal, Ex.blk_exit, Ex.blk_ret, if_true, if_false, reduceIte, reduceCtorEq, Nat.reduceEqDiff]
          refine awp_r1 hK (by simp only [EV, xreg, xops, xop, vop, eop, AOp.eff, ap1, ap2, ov, ovs, ovo, rd, upd, look, gcond, abin, aaeq, aeqs, abeq, asbin, aisnil, asnil, aun, acv, afa, aia, ald, abnd, asl, assl, afd, aix, aex, aln, alns, amxs, amx2, anc, apick, newAt, hget, put, AV.whole, AV.isCell, oneCell, fillParts, slCells, asInt?, pcallX, AV.norefs, AV.noref, AV.scalar, AV.scalars, Nat.reduceEqDiff, Nat.reduceAdd, Nat.reduceMul, Nat.reduceSub, Nat.reduceBEq, Nat.reduceLeDiff, Nat.reduceLT, reduceIte, reduceCtorEq, List.reduceReplicate, Int.reduceToNat, Int.reduceLE, Int.reduceLT, eI, e32, eTy, eIns, eCls, eMeth, eImg, eSl, ty_eta, ins_eta, cls_eta, meth_eta, img_eta, nr_I, nr_32, nr_T, nr_N, nr_C, nr_M, getD_map_mid, h33, s33_eq, h84, s84_eq, h85, s85_eq, List.length_map, hws]; rfl) (by first | rfl | (simp [gle_iff]; done) | (simp [gle_iff]; omega) | grind [gle]) ?_ -- r12
          simp only [Ex.then_normal, Ex.then_exit, Ex.then_ret, Ex.blk_normal, Ex.blk_exit, Ex.blk_ret, if_true, if_false, reduceIte, reduceCtorEq, Nat.reduceEqDiff]
          rw [wrap_succ hk1 (Nat.le_trans hmw.2.2.1 (by decide))]
          refine ⟨hk1, _, fun i hi => ?_, _, _, _, _, _,  rfl⟩
          rcases Nat.lt_or_ge i k with h | h
          · exact hp0 i h
          · obtain rfl : i = k := by omega
            rw [← hy]; simpa [f85] using hc4
      ·
        refine awp_exit ?_
        simp only [Ex.then_normal, Ex.then_exit, Ex.then_ret, Ex.blk_normal, Ex.blk_exit, Ex.blk_ret, if_true, if_false, reduceIte, reduceCtorEq, Nat.reduceEqDiff]
        refine awp_rs hK (by simp only [EV, xreg, xops, xop, vop, eop, AOp.eff, ap1, ap2, ov, ovs, ovo, rd, upd, look, gcond, abin, aaeq, aeqs, abeq, asbin, aisnil, asnil, aun, acv, afa, aia, ald, abnd, asl, assl, afd, aix, aex, aln, alns, amxs, amx2, anc, apick, newAt, hget, put, AV.whole, AV.isCell, oneCell, fillParts, slCells, asInt?, pcallX, AV.norefs, AV.noref, AV.scalar, AV.scalars, Nat.reduceEqDiff, Nat.reduceAdd, Nat.reduceMul, Nat.reduceSub, Nat.reduceBEq, Nat.reduceLeDiff, Nat.reduceLT, reduceIte, reduceCtorEq, List.reduceReplicate, Int.reduceToNat, Int.reduceLE, Int.reduceLT, eI, e32, eTy, eIns, eCls, eMeth, eImg, eSl, ty_eta, ins_eta, cls_eta, meth_eta, img_eta, nr_I, nr_32, nr_T, nr_N, nr_C, nr_M, getD_map_mid, h33, s33_eq, h84, s84_eq, h85, s85_eq, List.length_map, hws]; rfl) (by first | rfl | (simp [gle_iff]; done) | (simp [gle_iff]; omega) | grind [gle]) ?_ -- r13
        refine awp_retb (fun h => h) rfl ?_ -- leaf 5
        have hall : x_code.all (namedS ⟨m_classes, m_statics, m_ints, m_methods, m_entries, m_stack, m_heap⟩ ⟨x_args, x_locals, ⟨x_ret_kind, x_ret_n⟩, x_code, x_depth, x_pot, x_phi⟩) = true := by
          rw [← all_range _ (default : Ins), List.all_eq_true]
          intro n hn
          exact hp0 n (by rw [List.mem_range] at hn; simp at hc3; omega)
        rw [f35, eq_comm]; simp only [methS, hall, hk0.1, hk0.2, hk1, Bool.true_and, Bool.and_true]; simp at hc2; simp; grind

end Go.Proofs.Yteelkalenpbmmaa.Ab

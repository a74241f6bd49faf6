import Derived.Test.YteelkalenpbmmaaAbs17
import Derived.Test.YteelkalenpbmmaaFns
import Derived.Test.YteelkalenpbmmaaW5
set_option linter.unusedVariables false
set_option linter.unusedSimpArgs false
set_option maxRecDepth 20000
set_option maxHeartbeats 1000000
namespace Go.Proofs.Yteelkalenpbmmaa.Ab

/- plimsoll/plimsollref05.Fits -/
def f28 (m : Img) : Bool := fits m
noncomputable def s28 := fnOf (α := Img) (fun _ => True) (fun a => [eImg a]) fun a => .bool (f28 a)
theorem s28_inj (a b : Img) (h : [eImg a] = [eImg b]) : a = b := by
  simp only [List.cons.injEq, and_true, true_and] at h
  exact eImg_inj h
theorem s28_eq (m_classes : List Klass) (m_statics : List Ty) (m_ints : List Int) (m_methods : List Meth) (m_entries : List Int) (m_stack : Int) (m_heap : Int) : s28 [.agg [.vsl 3 (List.map eCls m_classes), .vsl 2 (List.map eTy m_statics), .vsl 1 (List.map e32 m_ints), .vsl 8 (List.map eMeth m_methods), .vsl 1 (List.map eI m_entries), .int .i64 m_stack, .int .i64 m_heap]] = some (.bool (f28 (⟨m_classes, m_statics, m_ints, m_methods, m_entries, m_stack, m_heap⟩ : Img))) := fnOf_enc (a := (⟨m_classes, m_statics, m_ints, m_methods, m_entries, m_stack, m_heap⟩ : Img)) s28_inj trivial
theorem s28_eqp (m : Img) : s28 [.agg [.vsl 3 (List.map eCls m.classes), .vsl 2 (List.map eTy m.statics), .vsl 1 (List.map e32 m.ints), .vsl 8 (List.map eMeth m.methods), .vsl 1 (List.map eI m.entries), .int .i64 m.stack, .int .i64 m.heap]] = some (.bool (f28 m)) := fnOf_enc (a := m) s28_inj trivial

theorem w28 {K : Cfg} (hK : KOk Try.prog K) (h61 : K.pcall 61 = s61) (h62 : K.pcall 62 = s62) (h63 : K.pcall 63 = s63) (h64 : K.pcall 64 = s64) (h65 : K.pcall 65 = s65) : PContract Try.prog 28 s28 := by
  refine pcontract_fn (K := K) s28_inj k28 fun m ha => ⟨of_decide_eq_true rfl, ?_⟩
  show AWP Try.prog K [0, 1, 2, 3, 4, 5, 6, 7, 47, 52, 75, 80, 127, 132, 141] 142 c28 (RetP [0, 1, 2, 3, 4, 5, 6, 7, 47, 52, 75, 80, 127, 132, 141] [.tmp 2] _) ⟨[_, _, _, _, _, _, _, _, _, _, _, _, _, _, _], []⟩
  refine awp_holds 0 fun hh_m => ?_
  have hw_m : m.Wf := Img.wf_of' hh_m
  clear hh_m
  obtain ⟨m_classes, m_statics, m_ints, m_methods, m_entries, m_stack, m_heap⟩ := m
  unfold c28
  simp only [eI, e32, eTy, eIns, eCls, eMeth, eImg, eSl, ty_eta, ins_eta, cls_eta, meth_eta, img_eta, nr_I, nr_32, nr_T, nr_N, nr_C, nr_M, getD_map_mid, List.getD_cons_zero, List.getD_cons_succ, List.getD_nil]
  refine awp_rs hK (by simp only [EV, xreg, xops, xop, vop, eop, AOp.eff, ap1, ap2, ov, ovs, ovo, rd, upd, look, gcond, abin, aaeq, aeqs, abeq, asbin, aisnil, asnil, aun, acv, afa, aia, ald, abnd, asl, assl, afd, aix, aex, aln, alns, amxs, amx2, anc, apick, newAt, hget, put, AV.whole, AV.isCell, oneCell, fillParts, slCells, asInt?, pcallX, AV.norefs, AV.noref, AV.scalar, AV.scalars, Nat.reduceEqDiff, Nat.reduceAdd, Nat.reduceMul, Nat.reduceSub, Nat.reduceBEq, Nat.reduceLeDiff, Nat.reduceLT, reduceIte, reduceCtorEq, List.reduceReplicate, Int.reduceToNat, Int.reduceLE, Int.reduceLT, eI, e32, eTy, eIns, eCls, eMeth, eImg, eSl, ty_eta, ins_eta, cls_eta, meth_eta, img_eta, nr_I, nr_32, nr_T, nr_N, nr_C, nr_M, getD_map_mid, h61, s61_eq, h62, s62_eq, h63, s63_eq, h64, s64_eq, h65, s65_eq]; rfl) (by first | rfl | (simp [gle_iff]; done) | (simp [gle_iff]; omega) | grind [gle]) ?_ -- r1
  refine awp_seq ?_
  refine awp_rs hK (by simp only [EV, xreg, xops, xop, vop, eop, AOp.eff, ap1, ap2, ov, ovs, ovo, rd, upd, look, gcond, abin, aaeq, aeqs, abeq, asbin, aisnil, asnil, aun, acv, afa, aia, ald, abnd, asl, assl, afd, aix, aex, aln, alns, amxs, amx2, anc, apick, newAt, hget, put, AV.whole, AV.isCell, oneCell, fillParts, slCells, asInt?, pcallX, AV.norefs, AV.noref, AV.scalar, AV.scalars, Nat.reduceEqDiff, Nat.reduceAdd, Nat.reduceMul, Nat.reduceSub, Nat.reduceBEq, Nat.reduceLeDiff, Nat.reduceLT, reduceIte, reduceCtorEq, List.reduceReplicate, Int.reduceToNat, Int.reduceLE, Int.reduceLT, eI, e32, eTy, eIns, eCls, eMeth, eImg, eSl, ty_eta, ins_eta, cls_eta, meth_eta, img_eta, nr_I, nr_32, nr_T, nr_N, nr_C, nr_M, getD_map_mid, h61, s61_eq, h62, s62_eq, h63, s63_eq, h64, s64_eq, h65, s65_eq]; rfl) (by first | rfl | (simp [gle_iff]; done) | (simp [gle_iff]; omega) | grind [gle]) ?_ -- r2
  refine awp_if rfl (fun hc1 => ?_) (fun hc1 => ?_)
  ·
    refine awp_rs hK (by simp only [EV, xreg, xops, xop, vop, eop, AOp.eff, ap1, ap2, ov, ovs, ovo, rd, upd, look, gcond, abin, aaeq, aeqs, abeq, asbin, aisnil, asnil, aun, acv, afa, aia, ald, abnd, asl, assl, afd, aix, aex, aln, alns, amxs, amx2, anc, apick, newAt, hget, put, AV.whole, AV.isCell, oneCell, fillParts, slCells, asInt?, pcallX, AV.norefs, AV.noref, AV.scalar, AV.scalars, Nat.reduceEqDiff, Nat.reduceAdd, Nat.reduceMul, Nat.reduceSub, Nat.reduceBEq, Nat.reduceLeDiff, Nat.reduceLT, reduceIte, reduceCtorEq, List.reduceReplicate, Int.reduceToNat, Int.reduceLE, Int.reduceLT, eI, e32, eTy, eIns, eCls, eMeth, eImg, eSl, ty_eta, ins_eta, cls_eta, meth_eta, img_eta, nr_I, nr_32, nr_T, nr_N, nr_C, nr_M, getD_map_mid, h61, s61_eq, h62, s62_eq, h63, s63_eq, h64, s64_eq, h65, s65_eq]; rfl) (by first | rfl | (simp [gle_iff]; done) | (simp [gle_iff]; omega) | grind [gle]) ?_ -- r3
    refine awp_retb (fun h => h) rfl ?_ -- leaf 1
    first | rfl | grind [f28, fits, f61, f62, f63, f64, clsW, methW]
  ·
    refine awp_skip ?_
    simp only [Ex.then_normal, Ex.then_exit, Ex.then_ret, Ex.blk_normal, Ex.blk_exit, Ex.blk_ret, if_true, if_false, reduceIte, reduceCtorEq, Nat.reduceEqDiff]
    refine awp_seq ?_
    refine awp_rs hK (by simp only [EV, xreg, xops, xop, vop, eop, AOp.eff, ap1, ap2, ov, ovs, ovo, rd, upd, look, gcond, abin, aaeq, aeqs, abeq, asbin, aisnil, asnil, aun, acv, afa, aia, ald, abnd, asl, assl, afd, aix, aex, aln, alns, amxs, amx2, anc, apick, newAt, hget, put, AV.whole, AV.isCell, oneCell, fillParts, slCells, asInt?, pcallX, AV.norefs, AV.noref, AV.scalar, AV.scalars, Nat.reduceEqDiff, Nat.reduceAdd, Nat.reduceMul, Nat.reduceSub, Nat.reduceBEq, Nat.reduceLeDiff, Nat.reduceLT, reduceIte, reduceCtorEq, List.reduceReplicate, Int.reduceToNat, Int.reduceLE, Int.reduceLT, eI, e32, eTy, eIns, eCls, eMeth, eImg, eSl, ty_eta, ins_eta, cls_eta, meth_eta, img_eta, nr_I, nr_32, nr_T, nr_N, nr_C, nr_M, getD_map_mid, h61, s61_eq, h62, s62_eq, h63, s63_eq, h64, s64_eq, h65, s65_eq]; rfl) (by first | rfl | (simp [gle_iff]; done) | (simp [gle_iff]; omega) | grind [gle]) ?_ -- r4
    refine awp_block ?_
    refine awp_for (m_classes) (fun pre post s => ∃ J, (∀ y ∈ pre, clsW y = true) ∧ ∃ j4 j5 j6 j7 j47 j52 j75 j80 j127 j132 j141, s = ⟨[.agg [.vsl 3 (List.map eCls m_classes), .vsl 2 (List.map eTy m_statics), .vsl 1 (List.map e32 m_ints), .vsl 8 (List.map eMeth m_methods), .vsl 1 (List.map eI m_entries), .int .i64 m_stack, .int .i64 m_heap], .ref 0 0, .bool false, .int .i64 pre.length, j4, j5, j6, j7, j47, j52, j75, j80, j127, j132, j141], .live [.vsl 3 (List.map eCls m_classes), .vsl 2 (List.map eTy m_statics), .vsl 1 (List.map e32 m_ints), .vsl 8 (List.map eMeth m_methods), .vsl 1 (List.map eI m_entries), .int .i64 m_stack, .int .i64 m_heap] :: J⟩) ?_ ?_
    · exact ⟨_, fun y hy => absurd hy List.not_mem_nil, _, _, _, _, _, _, _, _, _, _, _,  rfl⟩
    rintro pre post s hpp ⟨J, hp0, j4, j5, j6, j7, j47, j52, j75, j80, j127, j132, j141, rfl⟩
    refine awp_seq ?_
    refine awp_rs hK (by simp only [EV, xreg, xops, xop, vop, eop, AOp.eff, ap1, ap2, ov, ovs, ovo, rd, upd, look, gcond, abin, aaeq, aeqs, abeq, asbin, aisnil, asnil, aun, acv, afa, aia, ald, abnd, asl, assl, afd, aix, aex, aln, alns, amxs, amx2, anc, apick, newAt, hget, put, AV.whole, AV.isCell, oneCell, fillParts, slCells, asInt?, pcallX, AV.norefs, AV.noref, AV.scalar, AV.scalars, Nat.reduceEqDiff, Nat.reduceAdd, Nat.reduceMul, Nat.reduceSub, Nat.reduceBEq, Nat.reduceLeDiff, Nat.reduceLT, reduceIte, reduceCtorEq, List.reduceReplicate, Int.reduceToNat, Int.reduceLE, Int.reduceLT, eI, e32, eTy, eIns, eCls, eMeth, eImg, eSl, ty_eta, ins_eta, cls_eta, meth_eta, img_eta, nr_I, nr_32, nr_T, nr_N, nr_C, nr_M, getD_map_mid, h61, s61_eq, h62, s62_eq, h63, s63_eq, h64, s64_eq, h65, s65_eq]; rfl) (by first | rfl | (simp [gle_iff]; done) | (simp [gle_iff]; omega) | grind [gle]) ?_ -- r5
    refine awp_if rfl (fun hc2 => ?_) (fun hc2 => ?_)
    ·
      obtain ⟨y, post, rfl⟩ : ∃ y r, post = y :: r := by
        cases post with
        | nil => simp [hpp] at hc2
        | cons y r => exact ⟨_, _, rfl⟩
      subst hpp
      refine awp_skip ?_
      simp only [Ex.then_normal, Ex.then_exit, Ex.then_ret, Ex.blk_normal, Ex.blk_exit, Ex.blk_ret, if_true, if_false, reduceIte, reduceCtorEq, Nat.reduceEqDiff]
      refine awp_seq ?_
      refine awp_block ?_
      refine awp_rs hK (by simp only [EV, xreg, xops, xop, vop, eop, AOp.eff, ap1, ap2, ov, ovs, ovo, rd, upd, look, gcond, abin, aaeq, aeqs, abeq, asbin, aisnil, asnil, aun, acv, afa, aia, ald, abnd, asl, assl, afd, aix, aex, aln, alns, amxs, amx2, anc, apick, newAt, hget, put, AV.whole, AV.isCell, oneCell, fillParts, slCells, asInt?, pcallX, AV.norefs, AV.noref, AV.scalar, AV.scalars, Nat.reduceEqDiff, Nat.reduceAdd, Nat.reduceMul, Nat.reduceSub, Nat.reduceBEq, Nat.reduceLeDiff, Nat.reduceLT, reduceIte, reduceCtorEq, List.reduceReplicate, Int.reduceToNat, Int.reduceLE, Int.reduceLT, eI, e32, eTy, eIns, eCls, eMeth, eImg, eSl, ty_eta, ins_eta, cls_eta, meth_eta, img_eta, nr_I, nr_32, nr_T, nr_N, nr_C, nr_M, getD_map_mid, h61, s61_eq, h62, s62_eq, h63, s63_eq, h64, s64_eq, h65, s65_eq]; rfl) (by first | rfl | (simp [gle_iff]; done) | (simp [gle_iff]; omega) | grind [gle]) ?_ -- r6
      refine awp_rs hK (by simp only [EV, xreg, xops, xop, vop, eop, AOp.eff, ap1, ap2, ov, ovs, ovo, rd, upd, look, gcond, abin, aaeq, aeqs, abeq, asbin, aisnil, asnil, aun, acv, afa, aia, ald, abnd, asl, assl, afd, aix, aex, aln, alns, amxs, amx2, anc, apick, newAt, hget, put, AV.whole, AV.isCell, oneCell, fillParts, slCells, asInt?, pcallX, AV.norefs, AV.noref, AV.scalar, AV.scalars, Nat.reduceEqDiff, Nat.reduceAdd, Nat.reduceMul, Nat.reduceSub, Nat.reduceBEq, Nat.reduceLeDiff, Nat.reduceLT, reduceIte, reduceCtorEq, List.reduceReplicate, Int.reduceToNat, Int.reduceLE, Int.reduceLT, eI, e32, eTy, eIns, eCls, eMeth, eImg, eSl, ty_eta, ins_eta, cls_eta, meth_eta, img_eta, nr_I, nr_32, nr_T, nr_N, nr_C, nr_M, getD_map_mid, h61, s61_eq, h62, s62_eq, h63, s63_eq, h64, s64_eq, h65, s65_eq]; rfl) (by first | rfl | (simp [gle_iff]; done) | (simp [gle_iff]; omega) | grind [gle]) ?_ -- r7
      refine awp_if rfl (fun hc3 => ?_) (fun hc3 => ?_)
      ·
        refine awp_rs hK (by simp only [EV, xreg, xops, xop, vop, eop, AOp.eff, ap1, ap2, ov, ovs, ovo, rd, upd, look, gcond, abin, aaeq, aeqs, abeq, asbin, aisnil, asnil, aun, acv, afa, aia, ald, abnd, asl, assl, afd, aix, aex, aln, alns, amxs, amx2, anc, apick, newAt, hget, put, AV.whole, AV.isCell, oneCell, fillParts, slCells, asInt?, pcallX, AV.norefs, AV.noref, AV.scalar, AV.scalars, Nat.reduceEqDiff, Nat.reduceAdd, Nat.reduceMul, Nat.reduceSub, Nat.reduceBEq, Nat.reduceLeDiff, Nat.reduceLT, reduceIte, reduceCtorEq, List.reduceReplicate, Int.reduceToNat, Int.reduceLE, Int.reduceLT, eI, e32, eTy, eIns, eCls, eMeth, eImg, eSl, ty_eta, ins_eta, cls_eta, meth_eta, img_eta, nr_I, nr_32, nr_T, nr_N, nr_C, nr_M, getD_map_mid, h61, s61_eq, h62, s62_eq, h63, s63_eq, h64, s64_eq, h65, s65_eq]; rfl) (by first | rfl | (simp [gle_iff]; done) | (simp [gle_iff]; omega) | grind [gle]) ?_ -- r8
        refine awp_retb (fun h => h) rfl ?_ -- leaf 2
        first | rfl | grind [f28, fits, f61, f62, f63, f64, clsW, methW]
      ·
        refine awp_skip ?_
        simp only [Ex.then_normal, Ex.then_exit, Ex.then_ret, Ex.blk_normal, Ex.blk_exit, Ex.blk_ret, if_true, if_false, reduceIte, reduceCtorEq, Nat.reduceEqDiff]
        refine awp_r1 hK (by simp only [EV, xreg, xops, xop, vop, eop, AOp.eff, ap1, ap2, ov, ovs, ovo, rd, upd, look, gcond, abin, aaeq, aeqs, abeq, asbin, aisnil, asnil, aun, acv, afa, aia, ald, abnd, asl, assl, afd, aix, aex, aln, alns, amxs, amx2, anc, apick, newAt, hget, put, AV.whole, AV.isCell, oneCell, fillParts, slCells, asInt?, pcallX, AV.norefs, AV.noref, AV.scalar, AV.scalars, Nat.reduceEqDiff, Nat.reduceAdd, Nat.reduceMul, Nat.reduceSub, Nat.reduceBEq, Nat.reduceLeDiff, Nat.reduceLT, reduceIte, reduceCtorEq, List.reduceReplicate, Int.reduceToNat, Int.reduceLE, Int.reduceLT, eI, e32, eTy, eIns, eCls, eMeth, eImg, eSl, ty_eta, ins_eta, cls_eta, meth_eta, img_eta, nr_I, nr_32, nr_T, nr_N, nr_C, nr_M, getD_map_mid, h61, s61_eq, h62, s62_eq, h63, s63_eq, h64, s64_eq, h65, s65_eq]; rfl) (by first | rfl | (simp [gle_iff]; done) | (simp [gle_iff]; omega) | grind [gle]) ?_ -- r9
        simp only [Ex.then_normal, Ex.then_exit, Ex.then_ret, Ex.blk_normal, Ex.blk_exit, Ex.blk_ret, if_true, if_false, reduceIte, reduceCtorEq, Nat.reduceEqDiff]
        rw [wrap_len pre y post (hw_m.classes)]
        refine ⟨y, post, rfl, _, fun z hz => ?_, _, _, _, _, _, _, _, _, _, _, _,  rfl⟩
        rcases List.mem_append.1 hz with hz | hz
        · exact hp0 z hz
        · rw [List.mem_singleton.1 hz]
          grind [clsW, f61, f62, f63]
    ·
      obtain rfl : post = [] := by
        cases post with
        | cons y r => simp [hpp] at hc2; omega
        | nil => rfl
      rw [List.append_nil] at hpp
      subst hpp
      refine awp_exit ?_
      simp only [Ex.then_normal, Ex.then_exit, Ex.then_ret, Ex.blk_normal, Ex.blk_exit, Ex.blk_ret, if_true, if_false, reduceIte, reduceCtorEq, Nat.reduceEqDiff]
      refine awp_seq ?_
      refine awp_rs hK (by simp only [EV, xreg, xops, xop, vop, eop, AOp.eff, ap1, ap2, ov, ovs, ovo, rd, upd, look, gcond, abin, aaeq, aeqs, abeq, asbin, aisnil, asnil, aun, acv, afa, aia, ald, abnd, asl, assl, afd, aix, aex, aln, alns, amxs, amx2, anc, apick, newAt, hget, put, AV.whole, AV.isCell, oneCell, fillParts, slCells, asInt?, pcallX, AV.norefs, AV.noref, AV.scalar, AV.scalars, Nat.reduceEqDiff, Nat.reduceAdd, Nat.reduceMul, Nat.reduceSub, Nat.reduceBEq, Nat.reduceLeDiff, Nat.reduceLT, reduceIte, reduceCtorEq, List.reduceReplicate, Int.reduceToNat, Int.reduceLE, Int.reduceLT, eI, e32, eTy, eIns, eCls, eMeth, eImg, eSl, ty_eta, ins_eta, cls_eta, meth_eta, img_eta, nr_I, nr_32, nr_T, nr_N, nr_C, nr_M, getD_map_mid, h61, s61_eq, h62, s62_eq, h63, s63_eq, h64, s64_eq, h65, s65_eq]; rfl) (by first | rfl | (simp [gle_iff]; done) | (simp [gle_iff]; omega) | grind [gle]) ?_ -- r10
      refine awp_block ?_
      refine awp_for (m_methods) (fun pre post s => ∃ J, (∀ y ∈ pre, methW y = true) ∧ ∃ j3 j4 j6 j7 j47 j52 j75 j80 j127 j132 j141, s = ⟨[.agg [.vsl 3 (List.map eCls m_classes), .vsl 2 (List.map eTy m_statics), .vsl 1 (List.map e32 m_ints), .vsl 8 (List.map eMeth m_methods), .vsl 1 (List.map eI m_entries), .int .i64 m_stack, .int .i64 m_heap], .ref 0 0, .bool false, j3, j4, .int .i64 pre.length, j6, j7, j47, j52, j75, j80, j127, j132, j141], .live [.vsl 3 (List.map eCls m_classes), .vsl 2 (List.map eTy m_statics), .vsl 1 (List.map e32 m_ints), .vsl 8 (List.map eMeth m_methods), .vsl 1 (List.map eI m_entries), .int .i64 m_stack, .int .i64 m_heap] :: J⟩) ?_ ?_
      · exact ⟨_, fun y hy => absurd hy List.not_mem_nil, _, _, _, _, _, _, _, _, _, _, _,  rfl⟩
      rintro pre post s hpp ⟨J, hp0, j3, j4, j6, j7, j47, j52, j75, j80, j127, j132, j141, rfl⟩
      refine awp_seq ?_
      refine awp_rs hK (by simp only [EV, xreg, xops, xop, vop, eop, AOp.eff, ap1, ap2, ov, ovs, ovo, rd, upd, look, gcond, abin, aaeq, aeqs, abeq, asbin, aisnil, asnil, aun, acv, afa, aia, ald, abnd, asl, assl, afd, aix, aex, aln, alns, amxs, amx2, anc, apick, newAt, hget, put, AV.whole, AV.isCell, oneCell, fillParts, slCells, asInt?, pcallX, AV.norefs, AV.noref, AV.scalar, AV.scalars, Nat.reduceEqDiff, Nat.reduceAdd, Nat.reduceMul, Nat.reduceSub, Nat.reduceBEq, Nat.reduceLeDiff, Nat.reduceLT, reduceIte, reduceCtorEq, List.reduceReplicate, Int.reduceToNat, Int.reduceLE, Int.reduceLT, eI, e32, eTy, eIns, eCls, eMeth, eImg, eSl, ty_eta, ins_eta, cls_eta, meth_eta, img_eta, nr_I, nr_32, nr_T, nr_N, nr_C, nr_M, getD_map_mid, h61, s61_eq, h62, s62_eq, h63, s63_eq, h64, s64_eq, h65, s65_eq]; rfl) (by first | rfl | (simp [gle_iff]; done) | (simp [gle_iff]; omega) | grind [gle]) ?_ -- r11
      refine awp_if rfl (fun hc4 => ?_) (fun hc4 => ?_)
      ·
        obtain ⟨y, post, rfl⟩ : ∃ y r, post = y :: r := by
          cases post with
          | nil => simp [hpp] at hc4
          | cons y r => exact ⟨_, _, rfl⟩
        subst hpp
        have hwy : Meth.Wf y := hw_m.meth y (by simp)
        obtain ⟨y_args, y_locals, ⟨y_ret_kind, y_ret_n⟩, y_code, y_depth, y_pot, y_phi⟩ := y
        refine awp_skip ?_
        simp only [Ex.then_normal, Ex.then_exit, Ex.then_ret, Ex.blk_normal, Ex.blk_exit, Ex.blk_ret, if_true, if_false, reduceIte, reduceCtorEq, Nat.reduceEqDiff]
        refine awp_seq ?_
        refine awp_block ?_
        refine awp_rs hK (by simp only [EV, xreg, xops, xop, vop, eop, AOp.eff, ap1, ap2, ov, ovs, ovo, rd, upd, look, gcond, abin, aaeq, aeqs, abeq, asbin, aisnil, asnil, aun, acv, afa, aia, ald, abnd, asl, assl, afd, aix, aex, aln, alns, amxs, amx2, anc, apick, newAt, hget, put, AV.whole, AV.isCell, oneCell, fillParts, slCells, asInt?, pcallX, AV.norefs, AV.noref, AV.scalar, AV.scalars, Nat.reduceEqDiff, Nat.reduceAdd, Nat.reduceMul, Nat.reduceSub, Nat.reduceBEq, Nat.reduceLeDiff, Nat.reduceLT, reduceIte, reduceCtorEq, List.reduceReplicate, Int.reduceToNat, Int.reduceLE, Int.reduceLT, eI, e32, eTy, eIns, eCls, eMeth, eImg, eSl, ty_eta, ins_eta, cls_eta, meth_eta, img_eta, nr_I, nr_32, nr_T, nr_N, nr_C, nr_M, getD_map_mid, h61, s61_eq, h62, s62_eq, h63, s63_eq, h64, s64_eq, h65, s65_eq]; rfl) (by first | rfl | (simp [gle_iff]; done) | (simp [gle_iff]; omega) | grind [gle]) ?_ -- r12
        refine awp_seq ?_
        refine awp_rs hK (by simp only [EV, xreg, xops, xop, vop, eop, AOp.eff, ap1, ap2, ov, ovs, ovo, rd, upd, look, gcond, abin, aaeq, aeqs, abeq, asbin, aisnil, asnil, aun, acv, afa, aia, ald, abnd, asl, assl, afd, aix, aex, aln, alns, amxs, amx2, anc, apick, newAt, hget, put, AV.whole, AV.isCell, oneCell, fillParts, slCells, asInt?, pcallX, AV.norefs, AV.noref, AV.scalar, AV.scalars, Nat.reduceEqDiff, Nat.reduceAdd, Nat.reduceMul, Nat.reduceSub, Nat.reduceBEq, Nat.reduceLeDiff, Nat.reduceLT, reduceIte, reduceCtorEq, List.reduceReplicate, Int.reduceToNat, Int.reduceLE, Int.reduceLT, eI, e32, eTy, eIns, eCls, eMeth, eImg, eSl, ty_eta, ins_eta, cls_eta, meth_eta, img_eta, nr_I, nr_32, nr_T, nr_N, nr_C, nr_M, getD_map_mid, h61, s61_eq, h62, s62_eq, h63, s63_eq, h64, s64_eq, h65, s65_eq]; rfl) (by first | rfl | (simp [gle_iff]; done) | (simp [gle_iff]; omega) | grind [gle]) ?_ -- r13
        refine awp_if rfl (fun hc5 => ?_) (fun hc5 => ?_)
        ·
          refine awp_rs hK (by simp only [EV, xreg, xops, xop, vop, eop, AOp.eff, ap1, ap2, ov, ovs, ovo, rd, upd, look, gcond, abin, aaeq, aeqs, abeq, asbin, aisnil, asnil, aun, acv, afa, aia, ald, abnd, asl, assl, afd, aix, aex, aln, alns, amxs, amx2, anc, apick, newAt, hget, put, AV.whole, AV.isCell, oneCell, fillParts, slCells, asInt?, pcallX, AV.norefs, AV.noref, AV.scalar, AV.scalars, Nat.reduceEqDiff, Nat.reduceAdd, Nat.reduceMul, Nat.reduceSub, Nat.reduceBEq, Nat.reduceLeDiff, Nat.reduceLT, reduceIte, reduceCtorEq, List.reduceReplicate, Int.reduceToNat, Int.reduceLE, Int.reduceLT, eI, e32, eTy, eIns, eCls, eMeth, eImg, eSl, ty_eta, ins_eta, cls_eta, meth_eta, img_eta, nr_I, nr_32, nr_T, nr_N, nr_C, nr_M, getD_map_mid, h61, s61_eq, h62, s62_eq, h63, s63_eq, h64, s64_eq, h65, s65_eq]; rfl) (by first | rfl | (simp [gle_iff]; done) | (simp [gle_iff]; omega) | grind [gle]) ?_ -- r14
          refine awp_retb (fun h => h) rfl ?_ -- leaf 3
          first | rfl | grind [f28, fits, f61, f62, f63, f64, clsW, methW]
        ·
          refine awp_skip ?_
          simp only [Ex.then_normal, Ex.then_exit, Ex.then_ret, Ex.blk_normal, Ex.blk_exit, Ex.blk_ret, if_true, if_false, reduceIte, reduceCtorEq, Nat.reduceEqDiff]
          refine awp_rs hK (by simp only [EV, xreg, xops, xop, vop, eop, AOp.eff, ap1, ap2, ov, ovs, ovo, rd, upd, look, gcond, abin, aaeq, aeqs, abeq, asbin, aisnil, asnil, aun, acv, afa, aia, ald, abnd, asl, assl, afd, aix, aex, aln, alns, amxs, amx2, anc, apick, newAt, hget, put, AV.whole, AV.isCell, oneCell, fillParts, slCells, asInt?, pcallX, AV.norefs, AV.noref, AV.scalar, AV.scalars, Nat.reduceEqDiff, Nat.reduceAdd, Nat.reduceMul, Nat.reduceSub, Nat.reduceBEq, Nat.reduceLeDiff, Nat.reduceLT, reduceIte, reduceCtorEq, List.reduceReplicate, Int.reduceToNat, Int.reduceLE, Int.reduceLT, eI, e32, eTy, eIns, eCls, eMeth, eImg, eSl, ty_eta, ins_eta, cls_eta, meth_eta, img_eta, nr_I, nr_32, nr_T, nr_N, nr_C, nr_M, getD_map_mid, h61, s61_eq, h62, s62_eq, h63, s63_eq, h64, s64_eq, h65, s65_eq]; rfl) (by first | rfl | (simp [gle_iff]; done) | (simp [gle_iff]; omega) | grind [gle]) ?_ -- r15
          refine awp_block ?_
          refine awp_for (y_code) (fun pre2 post2 s => (∀ z ∈ pre2, insW z = true) ∧ ∃ j3 j4 j47 j52 j75 j80 j127 j132 j141, s = ⟨[.agg [.vsl 3 (List.map eCls m_classes), .vsl 2 (List.map eTy m_statics), .vsl 1 (List.map e32 m_ints), .vsl 8 (List.map eMeth (pre ++ ⟨y_args, y_locals, ⟨y_ret_kind, y_ret_n⟩, y_code, y_depth, y_pot, y_phi⟩ :: post)), .vsl 1 (List.map eI m_entries), .int .i64 m_stack, .int .i64 m_heap], .ref 0 0, .bool false, j3, j4, .int .i64 pre.length, .ref (J.length + 1) 0, .int .i64 pre2.length, j47, j52, j75, j80, j127, j132, j141], .live [.vsl 3 (List.map eCls m_classes), .vsl 2 (List.map eTy m_statics), .vsl 1 (List.map e32 m_ints), .vsl 8 (List.map eMeth (pre ++ ⟨y_args, y_locals, ⟨y_ret_kind, y_ret_n⟩, y_code, y_depth, y_pot, y_phi⟩ :: post)), .vsl 1 (List.map eI m_entries), .int .i64 m_stack, .int .i64 m_heap] :: (J ++ [.live [.vsl 2 (List.map eTy y_args), .vsl 2 (List.map eTy y_locals), .int .i64 y_ret_kind, .int .i64 y_ret_n, .vsl 3 (List.map eIns y_code), .int .i64 y_depth, .int .i64 y_pot, .vsl 1 (List.map eI y_phi)]])⟩) ?_ ?_
          · exact ⟨fun y hy => absurd hy List.not_mem_nil, _, _, _, _, _, _, _, _, _,  rfl⟩
          rintro pre2 post2 s hpq ⟨hq0, j3, j4, j47, j52, j75, j80, j127, j132, j141, rfl⟩
          refine awp_seq ?_
          refine awp_rs hK (by simp only [EV, xreg, xops, xop, vop, eop, AOp.eff, ap1, ap2, ov, ovs, ovo, rd, upd, look, gcond, abin, aaeq, aeqs, abeq, asbin, aisnil, asnil, aun, acv, afa, aia, ald, abnd, asl, assl, afd, aix, aex, aln, alns, amxs, amx2, anc, apick, newAt, hget, put, AV.whole, AV.isCell, oneCell, fillParts, slCells, asInt?, pcallX, AV.norefs, AV.noref, AV.scalar, AV.scalars, Nat.reduceEqDiff, Nat.reduceAdd, Nat.reduceMul, Nat.reduceSub, Nat.reduceBEq, Nat.reduceLeDiff, Nat.reduceLT, reduceIte, reduceCtorEq, List.reduceReplicate, Int.reduceToNat, Int.reduceLE, Int.reduceLT, eI, e32, eTy, eIns, eCls, eMeth, eImg, eSl, ty_eta, ins_eta, cls_eta, meth_eta, img_eta, nr_I, nr_32, nr_T, nr_N, nr_C, nr_M, getD_map_mid, h61, s61_eq, h62, s62_eq, h63, s63_eq, h64, s64_eq, h65, s65_eq]; rfl) (by first | rfl | (simp [gle_iff]; done) | (simp [gle_iff]; omega) | grind [gle]) ?_ -- r16
          refine awp_if rfl (fun hc6 => ?_) (fun hc6 => ?_)
          ·
            obtain ⟨z, post2, rfl⟩ : ∃ y r, post2 = y :: r := by
              cases post2 with
              | nil => simp [hpq] at hc6
              | cons y r => exact ⟨_, _, rfl⟩
            subst hpq
            refine awp_skip ?_
            simp only [Ex.then_normal, Ex.then_exit, Ex.then_ret, Ex.blk_normal, Ex.blk_exit, Ex.blk_ret, if_true, if_false, reduceIte, reduceCtorEq, Nat.reduceEqDiff]
            refine awp_seq ?_
            refine awp_block ?_
            refine awp_rs hK (by simp only [EV, xreg, xops, xop, vop, eop, AOp.eff, ap1, ap2, ov, ovs, ovo, rd, upd, look, gcond, abin, aaeq, aeqs, abeq, asbin, aisnil, asnil, aun, acv, afa, aia, ald, abnd, asl, assl, afd, aix, aex, aln, alns, amxs, amx2, anc, apick, newAt, hget, put, AV.whole, AV.isCell, oneCell, fillParts, slCells, asInt?, pcallX, AV.norefs, AV.noref, AV.scalar, AV.scalars, Nat.reduceEqDiff, Nat.reduceAdd, Nat.reduceMul, Nat.reduceSub, Nat.reduceBEq, Nat.reduceLeDiff, Nat.reduceLT, reduceIte, reduceCtorEq, List.reduceReplicate, Int.reduceToNat, Int.reduceLE, Int.reduceLT, eI, e32, eTy, eIns, eCls, eMeth, eImg, eSl, ty_eta, ins_eta, cls_eta, meth_eta, img_eta, nr_I, nr_32, nr_T, nr_N, nr_C, nr_M, getD_map_mid, h61, s61_eq, h62, s62_eq, h63, s63_eq, h64, s64_eq, h65, s65_eq]; rfl) (by first | rfl | (simp [gle_iff]; done) | (simp [gle_iff]; omega) | grind [gle]) ?_ -- r17
            refine awp_if rfl (fun hc7 => ?_) (fun hc7 => ?_)
            ·
              refine awp_rs hK (by simp only [EV, xreg, xops, xop, vop, eop, AOp.eff, ap1, ap2, ov, ovs, ovo, rd, upd, look, gcond, abin, aaeq, aeqs, abeq, asbin, aisnil, asnil, aun, acv, afa, aia, ald, abnd, asl, assl, afd, aix, aex, aln, alns, amxs, amx2, anc, apick, newAt, hget, put, AV.whole, AV.isCell, oneCell, fillParts, slCells, asInt?, pcallX, AV.norefs, AV.noref, AV.scalar, AV.scalars, Nat.reduceEqDiff, Nat.reduceAdd, Nat.reduceMul, Nat.reduceSub, Nat.reduceBEq, Nat.reduceLeDiff, Nat.reduceLT, reduceIte, reduceCtorEq, List.reduceReplicate, Int.reduceToNat, Int.reduceLE, Int.reduceLT, eI, e32, eTy, eIns, eCls, eMeth, eImg, eSl, ty_eta, ins_eta, cls_eta, meth_eta, img_eta, nr_I, nr_32, nr_T, nr_N, nr_C, nr_M, getD_map_mid, h61, s61_eq, h62, s62_eq, h63, s63_eq, h64, s64_eq, h65, s65_eq]; rfl) (by first | rfl | (simp [gle_iff]; done) | (simp [gle_iff]; omega) | grind [gle]) ?_ -- r18
              refine awp_retb (fun h => h) rfl ?_ -- leaf 4
              have hz : insW z = false := by simpa [f65] using hc7
              simp [f28, fits, methW, hz]
            ·
              refine awp_skip ?_
              simp only [Ex.then_normal, Ex.then_exit, Ex.then_ret, Ex.blk_normal, Ex.blk_exit, Ex.blk_ret, if_true, if_false, reduceIte, reduceCtorEq, Nat.reduceEqDiff]
              refine awp_r1 hK (by simp only [EV, xreg, xops, xop, vop, eop, AOp.eff, ap1, ap2, ov, ovs, ovo, rd, upd, look, gcond, abin, aaeq, aeqs, abeq, asbin, aisnil, asnil, aun, acv, afa, aia, ald, abnd, asl, assl, afd, aix, aex, aln, alns, amxs, amx2, anc, apick, newAt, hget, put, AV.whole, AV.isCell, oneCell, fillParts, slCells, asInt?, pcallX, AV.norefs, AV.noref, AV.scalar, AV.scalars, Nat.reduceEqDiff, Nat.reduceAdd, Nat.reduceMul, Nat.reduceSub, Nat.reduceBEq, Nat.reduceLeDiff, Nat.reduceLT, reduceIte, reduceCtorEq, List.reduceReplicate, Int.reduceToNat, Int.reduceLE, Int.reduceLT, eI, e32, eTy, eIns, eCls, eMeth, eImg, eSl, ty_eta, ins_eta, cls_eta, meth_eta, img_eta, nr_I, nr_32, nr_T, nr_N, nr_C, nr_M, getD_map_mid, h61, s61_eq, h62, s62_eq, h63, s63_eq, h64, s64_eq, h65, s65_eq]; rfl) (by first | rfl | (simp [gle_iff]; done) | (simp [gle_iff]; omega) | grind [gle]) ?_ -- r19
              simp only [Ex.then_normal, Ex.then_exit, Ex.then_ret, Ex.blk_normal, Ex.blk_exit, Ex.blk_ret, if_true, if_false, reduceIte, reduceCtorEq, Nat.reduceEqDiff]
              rw [wrap_len pre2 z post2 (hwy.code)]
              refine ⟨z, post2, rfl, fun z hz => ?_, _, _, _, _, _, _, _, _, _,  rfl⟩
              rcases List.mem_append.1 hz with hz | hz
              · exact hq0 z hz
              · rw [List.mem_singleton.1 hz]
                simpa [f65] using hc7
          ·
            obtain rfl : post2 = [] := by
              cases post2 with
              | cons y r => simp [hpq] at hc6; omega
              | nil => rfl
            rw [List.append_nil] at hpq
            subst hpq
            refine awp_exit ?_
            simp only [Ex.then_normal, Ex.then_exit, Ex.then_ret, Ex.blk_normal, Ex.blk_exit, Ex.blk_ret, if_true, if_false, reduceIte, reduceCtorEq, Nat.reduceEqDiff]
            refine awp_r1 hK (by simp only [EV, xreg, xops, xop, vop, eop, AOp.eff, ap1, ap2, ov, ovs, ovo, rd, upd, look, gcond, abin, aaeq, aeqs, abeq, asbin, aisnil, asnil, aun, acv, afa, aia, ald, abnd, asl, assl, afd, aix, aex, aln, alns, amxs, amx2, anc, apick, newAt, hget, put, AV.whole, AV.isCell, oneCell, fillParts, slCells, asInt?, pcallX, AV.norefs, AV.noref, AV.scalar, AV.scalars, Nat.reduceEqDiff, Nat.reduceAdd, Nat.reduceMul, Nat.reduceSub, Nat.reduceBEq, Nat.reduceLeDiff, Nat.reduceLT, reduceIte, reduceCtorEq, List.reduceReplicate, Int.reduceToNat, Int.reduceLE, Int.reduceLT, eI, e32, eTy, eIns, eCls, eMeth, eImg, eSl, ty_eta, ins_eta, cls_eta, meth_eta, img_eta, nr_I, nr_32, nr_T, nr_N, nr_C, nr_M, getD_map_mid, h61, s61_eq, h62, s62_eq, h63, s63_eq, h64, s64_eq, h65, s65_eq]; rfl) (by first | rfl | (simp [gle_iff]; done) | (simp [gle_iff]; omega) | grind [gle]) ?_ -- r20
            simp only [Ex.then_normal, Ex.then_exit, Ex.then_ret, Ex.blk_normal, Ex.blk_exit, Ex.blk_ret, if_true, if_false, reduceIte, reduceCtorEq, Nat.reduceEqDiff]
            rw [wrap_len pre ⟨y_args, y_locals, ⟨y_ret_kind, y_ret_n⟩, y_code, y_depth, y_pot, y_phi⟩ post (hw_m.methods)]
            refine ⟨⟨y_args, y_locals, ⟨y_ret_kind, y_ret_n⟩, y_code, y_depth, y_pot, y_phi⟩, post, rfl, _, fun z hz => ?_, _, _, _, _, _, _, _, _, _, _, _,  rfl⟩
            rcases List.mem_append.1 hz with hz | hz
            · exact hp0 z hz
            · rw [List.mem_singleton.1 hz]
              grind [methW, f61, f62, f63, f64]
      ·
        obtain rfl : post = [] := by
          cases post with
          | cons y r => simp [hpp] at hc4; omega
          | nil => rfl
        rw [List.append_nil] at hpp
        subst hpp
        refine awp_exit ?_
        simp only [Ex.then_normal, Ex.then_exit, Ex.then_ret, Ex.blk_normal, Ex.blk_exit, Ex.blk_ret, if_true, if_false, reduceIte, reduceCtorEq, Nat.reduceEqDiff]
        refine awp_rs hK (by simp only [EV, xreg, xops, xop, vop, eop, AOp.eff, ap1, ap2, ov, ovs, ovo, rd, upd, look, gcond, abin, aaeq, aeqs, abeq, asbin, aisnil, asnil, aun, acv, afa, aia, ald, abnd, asl, assl, afd, aix, aex, aln, alns, amxs, amx2, anc, apick, newAt, hget, put, AV.whole, AV.isCell, oneCell, fillParts, slCells, asInt?, pcallX, AV.norefs, AV.noref, AV.scalar, AV.scalars, Nat.reduceEqDiff, Nat.reduceAdd, Nat.reduceMul, Nat.reduceSub, Nat.reduceBEq, Nat.reduceLeDiff, Nat.reduceLT, reduceIte, reduceCtorEq, List.reduceReplicate, Int.reduceToNat, Int.reduceLE, Int.reduceLT, eI, e32, eTy, eIns, eCls, eMeth, eImg, eSl, ty_eta, ins_eta, cls_eta, meth_eta, img_eta, nr_I, nr_32, nr_T, nr_N, nr_C, nr_M, getD_map_mid, h61, s61_eq, h62, s62_eq, h63, s63_eq, h64, s64_eq, h65, s65_eq]; rfl) (by first | rfl | (simp [gle_iff]; done) | (simp [gle_iff]; omega) | grind [gle]) ?_ -- r21
        refine awp_retb (fun h => h) rfl ?_ -- leaf 5
        first | rfl | grind [f28, fits, f61, f62, f63, f64, clsW, methW]

end Go.Proofs.Yteelkalenpbmmaa.Ab

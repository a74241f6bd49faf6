import Derived.Test.YteelkalenpbmmaaAbs17
import Derived.Test.YteelkalenpbmmaaFns
import Derived.Test.YteelkalenpbmmaaW4
import Derived.Test.YteelkalenpbmmaaW1
import Derived.Test.YteelkalenpbmmaaAbs21
set_option linter.unusedVariables false
set_option linter.unusedSimpArgs false
set_option maxRecDepth 20000
set_option maxHeartbeats 1000000
namespace Go.Proofs.Yteelkalenpbmmaa.Ab

/- plimsoll/sane.all -/
def f33 (m : Img) (l : List (List Ty)) : Bool := l.all fun x => x.all fun t => goodT t m.classes.length
noncomputable def s33 := fnOf (α := Img × List (List Ty)) (fun _ => True) (fun a => [eImg a.1, eSl 1 (eSl 2 eTy) a.2]) fun a => .bool (f33 (a.1) (a.2))
theorem s33_inj (a b : Img × List (List Ty)) (h : [eImg a.1, eSl 1 (eSl 2 eTy) a.2] = [eImg b.1, eSl 1 (eSl 2 eTy) b.2]) : a = b := by
  obtain ⟨a0, a1⟩ := a; obtain ⟨b0, b1⟩ := b
  simp only [List.cons.injEq, and_true, true_and] at h
  rw [eImg_inj h.1, eSl_inj (fun _ _ => eSl_inj (fun _ _ => eTy_inj)) h.2]
theorem s33_eq (m_classes : List Klass) (m_statics : List Ty) (m_ints : List Int) (m_methods : List Meth) (m_entries : List Int) (m_stack : Int) (m_heap : Int) (l : List (List Ty)) : s33 [.agg [.vsl 3 (List.map eCls m_classes), .vsl 2 (List.map eTy m_statics), .vsl 1 (List.map e32 m_ints), .vsl 8 (List.map eMeth m_methods), .vsl 1 (List.map eI m_entries), .int .i64 m_stack, .int .i64 m_heap], .vsl 1 (List.map (eSl 2 eTy) l)] = some (.bool (f33 (⟨m_classes, m_statics, m_ints, m_methods, m_entries, m_stack, m_heap⟩ : Img) l)) := fnOf_enc (a := (⟨m_classes, m_statics, m_ints, m_methods, m_entries, m_stack, m_heap⟩, l)) s33_inj trivial
theorem s33_eqp (m : Img) (l : List (List Ty)) : s33 [.agg [.vsl 3 (List.map eCls m.classes), .vsl 2 (List.map eTy m.statics), .vsl 1 (List.map e32 m.ints), .vsl 8 (List.map eMeth m.methods), .vsl 1 (List.map eI m.entries), .int .i64 m.stack, .int .i64 m.heap], .vsl 1 (List.map (eSl 2 eTy) l)] = some (.bool (f33 m l)) := fnOf_enc (a := (m, l)) s33_inj trivial

theorem w33 {K : Cfg} (hK : KOk Try.prog K) (h79 : K.pcall 79 = s79) : PContract Try.prog 33 s33 := by
  refine pcontract_fn (K := K) s33_inj k33 fun a ha => ⟨of_decide_eq_true rfl, ?_⟩
  obtain ⟨m, l⟩ := a
  show AWP Try.prog K [0, 1, 2, 4, 6, 8, 9, 10, 11, 12, 15, 16, 17, 18, 26] 29 c33 (RetP [0, 1, 2, 4, 6, 8, 9, 10, 11, 12, 15, 16, 17, 18, 26] [.tmp 4] _) ⟨[_, _, _, _, _, _, _, _, _, _, _, _, _, _, _], []⟩
  refine awp_holds 0 fun hh_m => ?_
  have hw_m : m.Wf := Img.wf_of' hh_m
  clear hh_m
  refine awp_holds 1 fun hh_l => ?_
  have hl_l := (Holds.esl (sz := 1) (e := (eSl 2 eTy)) (l := l) hh_l).1
  have hq_l := (Holds.esl (sz := 1) (e := eSl 2 eTy) (l := l) hh_l).2
  clear hh_l
  obtain ⟨m_classes, m_statics, m_ints, m_methods, m_entries, m_stack, m_heap⟩ := m
  unfold c33
  simp only [eI, e32, eTy, eIns, eCls, eMeth, eImg, eSl, ty_eta, ins_eta, cls_eta, meth_eta, img_eta, nr_I, nr_32, nr_T, nr_N, nr_C, nr_M, getD_map_mid, List.getD_cons_zero, List.getD_cons_succ, List.getD_nil]
  refine awp_rs hK (by simp only [EV, xreg, xops, xop, vop, eop, AOp.eff, ap1, ap2, ov, ovs, ovo, rd, upd, look, gcond, abin, aaeq, aeqs, abeq, asbin, aisnil, asnil, aun, acv, afa, aia, ald, abnd, asl, assl, afd, aix, aex, aln, alns, amxs, amx2, anc, apick, newAt, hget, put, AV.whole, AV.isCell, oneCell, fillParts, slCells, asInt?, pcallX, AV.norefs, AV.noref, AV.scalar, AV.scalars, Nat.reduceEqDiff, Nat.reduceAdd, Nat.reduceMul, Nat.reduceSub, Nat.reduceBEq, Nat.reduceLeDiff, Nat.reduceLT, reduceIte, reduceCtorEq, List.reduceReplicate, Int.reduceToNat, Int.reduceLE, Int.reduceLT, eI, e32, eTy, eIns, eCls, eMeth, eImg, eSl, ty_eta, ins_eta, cls_eta, meth_eta, img_eta, nr_I, nr_32, nr_T, nr_N, nr_C, nr_M, getD_map_mid, h79, s79_eq, List.length_map]; rfl) (by first | rfl | (simp [gle_iff]; done) | (simp [gle_iff]; omega) | grind [gle]) ?_ -- r1
  refine awp_seq ?_
  refine awp_rs hK (by simp only [EV, xreg, xops, xop, vop, eop, AOp.eff, ap1, ap2, ov, ovs, ovo, rd, upd, look, gcond, abin, aaeq, aeqs, abeq, asbin, aisnil, asnil, aun, acv, afa, aia, ald, abnd, asl, assl, afd, aix, aex, aln, alns, amxs, amx2, anc, apick, newAt, hget, put, AV.whole, AV.isCell, oneCell, fillParts, slCells, asInt?, pcallX, AV.norefs, AV.noref, AV.scalar, AV.scalars, Nat.reduceEqDiff, Nat.reduceAdd, Nat.reduceMul, Nat.reduceSub, Nat.reduceBEq, Nat.reduceLeDiff, Nat.reduceLT, reduceIte, reduceCtorEq, List.reduceReplicate, Int.reduceToNat, Int.reduceLE, Int.reduceLT, eI, e32, eTy, eIns, eCls, eMeth, eImg, eSl, ty_eta, ins_eta, cls_eta, meth_eta, img_eta, nr_I, nr_32, nr_T, nr_N, nr_C, nr_M, getD_map_mid, h79, s79_eq, List.length_map]; rfl) (by first | rfl | (simp [gle_iff]; done) | (simp [gle_iff]; omega) | grind [gle]) ?_ -- r2
  refine awp_block ?_
  refine awp_upto (l.length) (fun k s => ∃ J, (∀ i, i < k → (l.getD i []).all (fun t => goodT t m_classes.length) = true) ∧ ∃ j6 j8 j12 j15 j16 j17 j18 j26, s = ⟨[.agg [.vsl 3 (List.map eCls m_classes), .vsl 2 (List.map eTy m_statics), .vsl 1 (List.map e32 m_ints), .vsl 8 (List.map eMeth m_methods), .vsl 1 (List.map eI m_entries), .int .i64 m_stack, .int .i64 m_heap], .vsl 1 (List.map (eSl 2 eTy) l), .ref 0 0, .bool false, j6, j8, .vsl 1 (List.map (eSl 2 eTy) l), .int .i64 l.length, .int .i64 k, j12, j15, j16, j17, j18, j26], .live [.vsl 3 (List.map eCls m_classes), .vsl 2 (List.map eTy m_statics), .vsl 1 (List.map e32 m_ints), .vsl 8 (List.map eMeth m_methods), .vsl 1 (List.map eI m_entries), .int .i64 m_stack, .int .i64 m_heap] :: J⟩) ?_ ?_
  · exact ⟨[], by simp, _, _, _, _, _, _, _, _,  rfl⟩
  rintro k s hkn ⟨J, hp0, j6, j8, j12, j15, j16, j17, j18, j26, rfl⟩
  refine awp_rs hK (by simp only [EV, xreg, xops, xop, vop, eop, AOp.eff, ap1, ap2, ov, ovs, ovo, rd, upd, look, gcond, abin, aaeq, aeqs, abeq, asbin, aisnil, asnil, aun, acv, afa, aia, ald, abnd, asl, assl, afd, aix, aex, aln, alns, amxs, amx2, anc, apick, newAt, hget, put, AV.whole, AV.isCell, oneCell, fillParts, slCells, asInt?, pcallX, AV.norefs, AV.noref, AV.scalar, AV.scalars, Nat.reduceEqDiff, Nat.reduceAdd, Nat.reduceMul, Nat.reduceSub, Nat.reduceBEq, Nat.reduceLeDiff, Nat.reduceLT, reduceIte, reduceCtorEq, List.reduceReplicate, Int.reduceToNat, Int.reduceLE, Int.reduceLT, eI, e32, eTy, eIns, eCls, eMeth, eImg, eSl, ty_eta, ins_eta, cls_eta, meth_eta, img_eta, nr_I, nr_32, nr_T, nr_N, nr_C, nr_M, getD_map_mid, h79, s79_eq, List.length_map]; rfl) (by first | rfl | (simp [gle_iff]; done) | (simp [gle_iff]; omega) | grind [gle]) ?_ -- r3
  refine awp_seq ?_
  refine awp_if rfl (fun hc1 => ?_) (fun hc1 => ?_)
  ·
    have hk1 : k < l.length := by simpa using hc1
    have hym : l.getD k [] ∈ l := getD_mem hk1
    have hga := getD_map (eSl 2 eTy) l k [] hk1
    obtain ⟨y, hy⟩ : ∃ y, y = l.getD k [] := ⟨_, rfl⟩
    rw [← hy] at hym hga
    have hyl := (hq_l y hym (eSl 2 eTy y) (List.mem_singleton.2 rfl)).esl.1
    simp only [eSl] at hga
    refine awp_skip ?_
    simp only [Ex.then_normal, Ex.then_exit, Ex.then_ret, Ex.blk_normal, Ex.blk_exit, Ex.blk_ret, if_true, if_false, reduceIte, reduceCtorEq, Nat.reduceEqDiff]
    refine awp_seq ?_
    refine awp_block ?_
    refine awp_rs hK (by simp only [EV, xreg, xops, xop, vop, eop, AOp.eff, ap1, ap2, ov, ovs, ovo, rd, upd, look, gcond, abin, aaeq, aeqs, abeq, asbin, aisnil, asnil, aun, acv, afa, aia, ald, abnd, asl, assl, afd, aix, aex, aln, alns, amxs, amx2, anc, apick, newAt, hget, put, AV.whole, AV.isCell, oneCell, fillParts, slCells, asInt?, pcallX, AV.norefs, AV.noref, AV.scalar, AV.scalars, Nat.reduceEqDiff, Nat.reduceAdd, Nat.reduceMul, Nat.reduceSub, Nat.reduceBEq, Nat.reduceLeDiff, Nat.reduceLT, reduceIte, reduceCtorEq, List.reduceReplicate, Int.reduceToNat, Int.reduceLE, Int.reduceLT, eI, e32, eTy, eIns, eCls, eMeth, eImg, eSl, ty_eta, ins_eta, cls_eta, meth_eta, img_eta, nr_I, nr_32, nr_T, nr_N, nr_C, nr_M, getD_map_mid, h79, s79_eq, List.length_map, Int.toNat_natCast, hga]; rfl) (by simp [hk1]) ?_ -- r4
    refine awp_rs hK (by simp only [EV, xreg, xops, xop, vop, eop, AOp.eff, ap1, ap2, ov, ovs, ovo, rd, upd, look, gcond, abin, aaeq, aeqs, abeq, asbin, aisnil, asnil, aun, acv, afa, aia, ald, abnd, asl, assl, afd, aix, aex, aln, alns, amxs, amx2, anc, apick, newAt, hget, put, AV.whole, AV.isCell, oneCell, fillParts, slCells, asInt?, pcallX, AV.norefs, AV.noref, AV.scalar, AV.scalars, Nat.reduceEqDiff, Nat.reduceAdd, Nat.reduceMul, Nat.reduceSub, Nat.reduceBEq, Nat.reduceLeDiff, Nat.reduceLT, reduceIte, reduceCtorEq, List.reduceReplicate, Int.reduceToNat, Int.reduceLE, Int.reduceLT, eI, e32, eTy, eIns, eCls, eMeth, eImg, eSl, ty_eta, ins_eta, cls_eta, meth_eta, img_eta, nr_I, nr_32, nr_T, nr_N, nr_C, nr_M, getD_map_mid, h79, s79_eq, List.length_map]; rfl) (by first | rfl | (simp [gle_iff]; done) | (simp [gle_iff]; omega) | grind [gle]) ?_ -- r5
    refine awp_block ?_
    refine awp_upto (y.length) (fun j s => ∃ J2, (∀ i, i < j → goodT (y.getD i default) m_classes.length = true) ∧ ∃ j6 j8 j12 j18 j26, s = ⟨[.agg [.vsl 3 (List.map eCls m_classes), .vsl 2 (List.map eTy m_statics), .vsl 1 (List.map e32 m_ints), .vsl 8 (List.map eMeth m_methods), .vsl 1 (List.map eI m_entries), .int .i64 m_stack, .int .i64 m_heap], .vsl 1 (List.map (eSl 2 eTy) l), .ref 0 0, .bool false, j6, j8, .vsl 1 (List.map (eSl 2 eTy) l), .int .i64 l.length, .int .i64 k, j12, .vsl 2 (List.map eTy y), .int .i64 y.length, .int .i64 j, j18, j26], .live [.vsl 3 (List.map eCls m_classes), .vsl 2 (List.map eTy m_statics), .vsl 1 (List.map e32 m_ints), .vsl 8 (List.map eMeth m_methods), .vsl 1 (List.map eI m_entries), .int .i64 m_stack, .int .i64 m_heap] :: J2⟩) ?_ ?_
    · exact ⟨J, by simp, _, _, _, _, _,  rfl⟩
    rintro j s hjn ⟨J2, hz0, j6, j8, j12, j18, j26, rfl⟩
    refine awp_rs hK (by simp only [EV, xreg, xops, xop, vop, eop, AOp.eff, ap1, ap2, ov, ovs, ovo, rd, upd, look, gcond, abin, aaeq, aeqs, abeq, asbin, aisnil, asnil, aun, acv, afa, aia, ald, abnd, asl, assl, afd, aix, aex, aln, alns, amxs, amx2, anc, apick, newAt, hget, put, AV.whole, AV.isCell, oneCell, fillParts, slCells, asInt?, pcallX, AV.norefs, AV.noref, AV.scalar, AV.scalars, Nat.reduceEqDiff, Nat.reduceAdd, Nat.reduceMul, Nat.reduceSub, Nat.reduceBEq, Nat.reduceLeDiff, Nat.reduceLT, reduceIte, reduceCtorEq, List.reduceReplicate, Int.reduceToNat, Int.reduceLE, Int.reduceLT, eI, e32, eTy, eIns, eCls, eMeth, eImg, eSl, ty_eta, ins_eta, cls_eta, meth_eta, img_eta, nr_I, nr_32, nr_T, nr_N, nr_C, nr_M, getD_map_mid, h79, s79_eq, List.length_map]; rfl) (by first | rfl | (simp [gle_iff]; done) | (simp [gle_iff]; omega) | grind [gle]) ?_ -- r6
    refine awp_seq ?_
    refine awp_if rfl (fun hc2 => ?_) (fun hc2 => ?_)
    ·
      have hj1 : j < y.length := by simpa using hc2
      have hgb := getD_ty' y (j : Int) (by omega)
      simp only [Int.toNat_natCast] at hgb
      refine awp_skip ?_
      simp only [Ex.then_normal, Ex.then_exit, Ex.then_ret, Ex.blk_normal, Ex.blk_exit, Ex.blk_ret, if_true, if_false, reduceIte, reduceCtorEq, Nat.reduceEqDiff]
      refine awp_seq ?_
      refine awp_block ?_
      refine awp_rs hK (by simp only [EV, xreg, xops, xop, vop, eop, AOp.eff, ap1, ap2, ov, ovs, ovo, rd, upd, look, gcond, abin, aaeq, aeqs, abeq, asbin, aisnil, asnil, aun, acv, afa, aia, ald, abnd, asl, assl, afd, aix, aex, aln, alns, amxs, amx2, anc, apick, newAt, hget, put, AV.whole, AV.isCell, oneCell, fillParts, slCells, asInt?, pcallX, AV.norefs, AV.noref, AV.scalar, AV.scalars, Nat.reduceEqDiff, Nat.reduceAdd, Nat.reduceMul, Nat.reduceSub, Nat.reduceBEq, Nat.reduceLeDiff, Nat.reduceLT, reduceIte, reduceCtorEq, List.reduceReplicate, Int.reduceToNat, Int.reduceLE, Int.reduceLT, eI, e32, eTy, eIns, eCls, eMeth, eImg, eSl, ty_eta, ins_eta, cls_eta, meth_eta, img_eta, nr_I, nr_32, nr_T, nr_N, nr_C, nr_M, getD_map_mid, h79, s79_eq, List.length_map, Int.toNat_natCast, hgb]; rfl) (by simp [hj1]) ?_ -- r7
      refine awp_rs hK (by simp only [EV, xreg, xops, xop, vop, eop, AOp.eff, ap1, ap2, ov, ovs, ovo, rd, upd, look, gcond, abin, aaeq, aeqs, abeq, asbin, aisnil, asnil, aun, acv, afa, aia, ald, abnd, asl, assl, afd, aix, aex, aln, alns, amxs, amx2, anc, apick, newAt, hget, put, AV.whole, AV.isCell, oneCell, fillParts, slCells, asInt?, pcallX, AV.norefs, AV.noref, AV.scalar, AV.scalars, Nat.reduceEqDiff, Nat.reduceAdd, Nat.reduceMul, Nat.reduceSub, Nat.reduceBEq, Nat.reduceLeDiff, Nat.reduceLT, reduceIte, reduceCtorEq, List.reduceReplicate, Int.reduceToNat, Int.reduceLE, Int.reduceLT, eI, e32, eTy, eIns, eCls, eMeth, eImg, eSl, ty_eta, ins_eta, cls_eta, meth_eta, img_eta, nr_I, nr_32, nr_T, nr_N, nr_C, nr_M, getD_map_mid, h79, s79_eq, List.length_map]; rfl) (by first | rfl | (simp [gle_iff]; done) | (simp [gle_iff]; omega) | grind [gle]) ?_ -- r8
      refine awp_if rfl (fun hc3 => ?_) (fun hc3 => ?_)
      ·
        refine awp_rs hK (by simp only [EV, xreg, xops, xop, vop, eop, AOp.eff, ap1, ap2, ov, ovs, ovo, rd, upd, look, gcond, abin, aaeq, aeqs, abeq, asbin, aisnil, asnil, aun, acv, afa, aia, ald, abnd, asl, assl, afd, aix, aex, aln, alns, amxs, amx2, anc, apick, newAt, hget, put, AV.whole, AV.isCell, oneCell, fillParts, slCells, asInt?, pcallX, AV.norefs, AV.noref, AV.scalar, AV.scalars, Nat.reduceEqDiff, Nat.reduceAdd, Nat.reduceMul, Nat.reduceSub, Nat.reduceBEq, Nat.reduceLeDiff, Nat.reduceLT, reduceIte, reduceCtorEq, List.reduceReplicate, Int.reduceToNat, Int.reduceLE, Int.reduceLT, eI, e32, eTy, eIns, eCls, eMeth, eImg, eSl, ty_eta, ins_eta, cls_eta, meth_eta, img_eta, nr_I, nr_32, nr_T, nr_N, nr_C, nr_M, getD_map_mid, h79, s79_eq, List.length_map]; rfl) (by first | rfl | (simp [gle_iff]; done) | (simp [gle_iff]; omega) | grind [gle]) ?_ -- r9
        refine awp_retb (fun h => h) rfl ?_ -- leaf 1
        rw [f33, eq_comm, Bool.eq_false_iff]; intro h; rw [List.all_eq_true] at h; have := h y hym; rw [List.all_eq_true] at this; have := this _ (getD_mem (d := default) hj1); simp [f79, -List.getD_eq_getElem?_getD] at hc3; rw [this] at hc3; cases hc3
      ·
        refine awp_skip ?_
        simp only [Ex.then_normal, Ex.then_exit, Ex.then_ret, Ex.blk_normal, Ex.blk_exit, Ex.blk_ret, if_true, if_false, reduceIte, reduceCtorEq, Nat.reduceEqDiff]
        refine awp_r1 hK (by simp only [EV, xreg, xops, xop, vop, eop, AOp.eff, ap1, ap2, ov, ovs, ovo, rd, upd, look, gcond, abin, aaeq, aeqs, abeq, asbin, aisnil, asnil, aun, acv, afa, aia, ald, abnd, asl, assl, afd, aix, aex, aln, alns, amxs, amx2, anc, apick, newAt, hget, put, AV.whole, AV.isCell, oneCell, fillParts, slCells, asInt?, pcallX, AV.norefs, AV.noref, AV.scalar, AV.scalars, Nat.reduceEqDiff, Nat.reduceAdd, Nat.reduceMul, Nat.reduceSub, Nat.reduceBEq, Nat.reduceLeDiff, Nat.reduceLT, reduceIte, reduceCtorEq, List.reduceReplicate, Int.reduceToNat, Int.reduceLE, Int.reduceLT, eI, e32, eTy, eIns, eCls, eMeth, eImg, eSl, ty_eta, ins_eta, cls_eta, meth_eta, img_eta, nr_I, nr_32, nr_T, nr_N, nr_C, nr_M, getD_map_mid, h79, s79_eq, List.length_map]; rfl) (by first | rfl | (simp [gle_iff]; done) | (simp [gle_iff]; omega) | grind [gle]) ?_ -- r10
        simp only [Ex.then_normal, Ex.then_exit, Ex.then_ret, Ex.blk_normal, Ex.blk_exit, Ex.blk_ret, if_true, if_false, reduceIte, reduceCtorEq, Nat.reduceEqDiff]
        rw [wrap_succ hj1 hyl]
        refine ⟨hj1, _, fun i hi => ?_, _, _, _, _, _,  rfl⟩
        rcases Nat.lt_or_ge i j with h | h
        · exact hz0 i h
        · obtain rfl : i = j := by omega
          simpa [f79] using hc3
    ·
      refine awp_exit ?_
      simp only [Ex.then_normal, Ex.then_exit, Ex.then_ret, Ex.blk_normal, Ex.blk_exit, Ex.blk_ret, if_true, if_false, reduceIte, reduceCtorEq, Nat.reduceEqDiff]
      refine awp_r1 hK (by simp only [EV, xreg, xops, xop, vop, eop, AOp.eff, ap1, ap2, ov, ovs, ovo, rd, upd, look, gcond, abin, aaeq, aeqs, abeq, asbin, aisnil, asnil, aun, acv, afa, aia, ald, abnd, asl, assl, afd, aix, aex, aln, alns, amxs, amx2, anc, apick, newAt, hget, put, AV.whole, AV.isCell, oneCell, fillParts, slCells, asInt?, pcallX, AV.norefs, AV.noref, AV.scalar, AV.scalars, Nat.reduceEqDiff, Nat.reduceAdd, Nat.reduceMul, Nat.reduceSub, Nat.reduceBEq, Nat.reduceLeDiff, Nat.reduceLT, reduceIte, reduceCtorEq, List.reduceReplicate, Int.reduceToNat, Int.reduceLE, Int.reduceLT, eI, e32, eTy, eIns, eCls, eMeth, eImg, eSl, ty_eta, ins_eta, cls_eta, meth_eta, img_eta, nr_I, nr_32, nr_T, nr_N, nr_C, nr_M, getD_map_mid, h79, s79_eq, List.length_map]; rfl) (by first | rfl | (simp [gle_iff]; done) | (simp [gle_iff]; omega) | grind [gle]) ?_ -- r11
      simp only [Ex.then_normal, Ex.then_exit, Ex.then_ret, Ex.blk_normal, Ex.blk_exit, Ex.blk_ret, if_true, if_false, reduceIte, reduceCtorEq, Nat.reduceEqDiff]
      rw [wrap_succ hk1 hl_l]
      refine ⟨hk1, _, fun i hi => ?_, _, _, _, _, _, _, _, _,  rfl⟩
      rcases Nat.lt_or_ge i k with h | h
      · exact hp0 i h
      · obtain rfl : i = k := by omega
        rw [← hy, List.all_eq_true]
        intro t ht
        obtain ⟨n, hn, rfl⟩ := List.getElem_of_mem ht
        have := hz0 n (by simp at hc2; omega)
        rwa [List.getD_eq_getElem?_getD, List.getElem?_eq_getElem hn, Option.getD_some] at this
  ·
    refine awp_exit ?_
    simp only [Ex.then_normal, Ex.then_exit, Ex.then_ret, Ex.blk_normal, Ex.blk_exit, Ex.blk_ret, if_true, if_false, reduceIte, reduceCtorEq, Nat.reduceEqDiff]
    refine awp_rs hK (by simp only [EV, xreg, xops, xop, vop, eop, AOp.eff, ap1, ap2, ov, ovs, ovo, rd, upd, look, gcond, abin, aaeq, aeqs, abeq, asbin, aisnil, asnil, aun, acv, afa, aia, ald, abnd, asl, assl, afd, aix, aex, aln, alns, amxs, amx2, anc, apick, newAt, hget, put, AV.whole, AV.isCell, oneCell, fillParts, slCells, asInt?, pcallX, AV.norefs, AV.noref, AV.scalar, AV.scalars, Nat.reduceEqDiff, Nat.reduceAdd, Nat.reduceMul, Nat.reduceSub, Nat.reduceBEq, Nat.reduceLeDiff, Nat.reduceLT, reduceIte, reduceCtorEq, List.reduceReplicate, Int.reduceToNat, Int.reduceLE, Int.reduceLT, eI, e32, eTy, eIns, eCls, eMeth, eImg, eSl, ty_eta, ins_eta, cls_eta, meth_eta, img_eta, nr_I, nr_32, nr_T, nr_N, nr_C, nr_M, getD_map_mid, h79, s79_eq, List.length_map]; rfl) (by first | rfl | (simp [gle_iff]; done) | (simp [gle_iff]; omega) | grind [gle]) ?_ -- r12
    refine awp_retb (fun h => h) rfl ?_ -- leaf 2
    rw [f33, eq_comm, List.all_eq_true]
    intro x hx
    obtain ⟨n, hn, rfl⟩ := List.getElem_of_mem hx
    have := hp0 n (by simp at hc1; omega)
    rwa [List.getD_eq_getElem?_getD, List.getElem?_eq_getElem hn, Option.getD_some] at this

end Go.Proofs.Yteelkalenpbmmaa.Ab

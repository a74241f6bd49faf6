import Derived.Test.YteelkalenpbmmaaAbs17
import Derived.Test.YteelkalenpbmmaaFns
import Derived.Test.YteelkalenpbmmaaW11
set_option linter.unusedVariables false
set_option linter.unusedSimpArgs false
set_option maxRecDepth 20000
set_option maxHeartbeats 1000000
namespace Go.Proofs.Yteelkalenpbmmaa.Ab

/-- Is a method right? -/
def methS (m : Img) (x : Meth) : Bool :=
  x.args.all (fun t => goodT t m.classes.length) && x.locals.all (fun t => goodT t m.classes.length) && ((x.ret.kind == 5 && x.ret.n == 0) || goodT x.ret m.classes.length) &&
    !x.code.isEmpty && decide (x.phi.length = x.code.length) && decide (x.args.length + x.locals.length ≤ 8) && x.code.all (namedS m x)
theorem methW_code {x : Meth} (h : methW x = true) : ∀ i ∈ x.code, insW i = true := by simp [methW] at h; exact h.1.1.1.1.1.2
theorem methW_spec {x : Meth} (h : methW x = true) : x.args.length ≤ 4 ∧ x.locals.length ≤ 8 ∧ x.code.length ≤ 64 ∧ x.phi.length ≤ 64 ∧ 0 ≤ x.depth ∧ x.depth ≤ 8 ∧ 0 ≤ x.pot ∧ x.pot ≤ 4096 ∧ (∀ n ∈ x.phi, 0 ≤ n ∧ n ≤ 4096) := by simp [methW, tysW, numsW] at h; refine ⟨by omega, by omega, by omega, by omega, by omega, by omega, by omega, by omega, h.2.2⟩
/- plimsoll/plimsollref05.method -/
def f31 (m : Img) (x : Meth) : Bool := methS m x
def ok31 (m : Img) (x : Meth) : Prop := fits m = true ∧ methW x = true
noncomputable def s31 := fnOf (α := Img × Meth) (fun a => ok31 (a.1) (a.2)) (fun a => [eImg a.1, eMeth a.2]) fun a => .bool (f31 (a.1) (a.2))
theorem s31_inj (a b : Img × Meth) (h : [eImg a.1, eMeth a.2] = [eImg b.1, eMeth b.2]) : a = b := by
  obtain ⟨a0, a1⟩ := a; obtain ⟨b0, b1⟩ := b
  simp only [List.cons.injEq, and_true, true_and] at h
  rw [eImg_inj h.1, eMeth_inj h.2]
theorem s31_eq (m_classes : List Klass) (m_statics : List Ty) (m_ints : List Int) (m_methods : List Meth) (m_entries : List Int) (m_stack : Int) (m_heap : Int) (x_args : List Ty) (x_locals : List Ty) (x_ret_kind : Int) (x_ret_n : Int) (x_code : List Ins) (x_depth : Int) (x_pot : Int) (x_phi : List Int) (h : ok31 (⟨m_classes, m_statics, m_ints, m_methods, m_entries, m_stack, m_heap⟩ : Img) (⟨x_args, x_locals, ⟨x_ret_kind, x_ret_n⟩, x_code, x_depth, x_pot, x_phi⟩ : Meth)) : s31 [.agg [.vsl 3 (List.map eCls m_classes), .vsl 2 (List.map eTy m_statics), .vsl 1 (List.map e32 m_ints), .vsl 8 (List.map eMeth m_methods), .vsl 1 (List.map eI m_entries), .int .i64 m_stack, .int .i64 m_heap], .agg [.vsl 2 (List.map eTy x_args), .vsl 2 (List.map eTy x_locals), .int .i64 x_ret_kind, .int .i64 x_ret_n, .vsl 3 (List.map eIns x_code), .int .i64 x_depth, .int .i64 x_pot, .vsl 1 (List.map eI x_phi)]] = some (.bool (f31 (⟨m_classes, m_statics, m_ints, m_methods, m_entries, m_stack, m_heap⟩ : Img) (⟨x_args, x_locals, ⟨x_ret_kind, x_ret_n⟩, x_code, x_depth, x_pot, x_phi⟩ : Meth))) := fnOf_enc (a := (⟨m_classes, m_statics, m_ints, m_methods, m_entries, m_stack, m_heap⟩, ⟨x_args, x_locals, ⟨x_ret_kind, x_ret_n⟩, x_code, x_depth, x_pot, x_phi⟩)) s31_inj h
theorem s31_eqp (m : Img) (x : Meth) (h : ok31 m x) : s31 [.agg [.vsl 3 (List.map eCls m.classes), .vsl 2 (List.map eTy m.statics), .vsl 1 (List.map e32 m.ints), .vsl 8 (List.map eMeth m.methods), .vsl 1 (List.map eI m.entries), .int .i64 m.stack, .int .i64 m.heap], .agg [.vsl 2 (List.map eTy x.args), .vsl 2 (List.map eTy x.locals), .int .i64 x.ret.kind, .int .i64 x.ret.n, .vsl 3 (List.map eIns x.code), .int .i64 x.depth, .int .i64 x.pot, .vsl 1 (List.map eI x.phi)]] = some (.bool (f31 m x)) := fnOf_enc (a := (m, x)) s31_inj h

theorem w31 {K : Cfg} (hK : KOk Try.prog K) (h29 : K.pcall 29 = s29) (h66 : K.pcall 66 = s66) (h69 : K.pcall 69 = s69) : PContract Try.prog 31 s31 := by
  refine pcontract_fn (K := K) s31_inj k31 fun a ha => ⟨of_decide_eq_true rfl, ?_⟩
  obtain ⟨m, x⟩ := a
  show AWP Try.prog K [0, 1, 2, 3, 4, 5, 57, 62, 73] 74 c31 (RetP [0, 1, 2, 3, 4, 5, 57, 62, 73] [.tmp 4] _) ⟨[_, _, _, _, _, _, _, _, _], []⟩
  refine awp_holds 0 fun hh_m => ?_
  have hw_m : m.Wf := Img.wf_of' hh_m
  clear hh_m
  refine awp_holds 1 fun hh_x => ?_
  have hw_x : x.Wf := Meth.wf_of' hh_x
  clear hh_x
  obtain ⟨m_classes, m_statics, m_ints, m_methods, m_entries, m_stack, m_heap⟩ := m
  obtain ⟨x_args, x_locals, ⟨x_ret_kind, x_ret_n⟩, x_code, x_depth, x_pot, x_phi⟩ := x
  replace ha : ok31 (⟨m_classes, m_statics, m_ints, m_methods, m_entries, m_stack, m_heap⟩ : Img) (⟨x_args, x_locals, ⟨x_ret_kind, x_ret_n⟩, x_code, x_depth, x_pot, x_phi⟩ : Meth) := ha
  have hws : IntKind.i64.wrap ((x_args.length : Int) + (x_locals.length : Int)) = ((x_args.length + x_locals.length : Nat) : Int) := by
    have h1 := methW_spec ha.2
    simp only at h1
    rw [wrap_i64 (by omega) (by omega)]; simp
  unfold c31
  simp only [eI, e32, eTy, eIns, eCls, eMeth, eImg, eSl, ty_eta, ins_eta, cls_eta, meth_eta, img_eta, nr_I, nr_32, nr_T, nr_N, nr_C, nr_M, getD_map_mid, List.getD_cons_zero, List.getD_cons_succ, List.getD_nil]
  refine awp_rs hK (by simp only [EV, xreg, xops, xop, vop, eop, AOp.eff, ap1, ap2, ov, ovs, ovo, rd, upd, look, gcond, abin, aaeq, aeqs, abeq, asbin, aisnil, asnil, aun, acv, afa, aia, ald, abnd, asl, assl, afd, aix, aex, aln, alns, amxs, amx2, anc, apick, newAt, hget, put, AV.whole, AV.isCell, oneCell, fillParts, slCells, asInt?, pcallX, AV.norefs, AV.noref, AV.scalar, AV.scalars, Nat.reduceEqDiff, Nat.reduceAdd, Nat.reduceMul, Nat.reduceSub, Nat.reduceBEq, Nat.reduceLeDiff, Nat.reduceLT, reduceIte, reduceCtorEq, List.reduceReplicate, Int.reduceToNat, Int.reduceLE, Int.reduceLT, eI, e32, eTy, eIns, eCls, eMeth, eImg, eSl, ty_eta, ins_eta, cls_eta, meth_eta, img_eta, nr_I, nr_32, nr_T, nr_N, nr_C, nr_M, getD_map_mid, h29, s29_eq, h66, s66_eq, h69, s69_eq, List.length_map, hws]; rfl) (by first | rfl | (simp [gle_iff]; done) | (simp [gle_iff]; omega) | grind [gle]) ?_ -- r1
  refine awp_seq ?_
  refine awp_rs hK (by simp only [EV, xreg, xops, xop, vop, eop, AOp.eff, ap1, ap2, ov, ovs, ovo, rd, upd, look, gcond, abin, aaeq, aeqs, abeq, asbin, aisnil, asnil, aun, acv, afa, aia, ald, abnd, asl, assl, afd, aix, aex, aln, alns, amxs, amx2, anc, apick, newAt, hget, put, AV.whole, AV.isCell, oneCell, fillParts, slCells, asInt?, pcallX, AV.norefs, AV.noref, AV.scalar, AV.scalars, Nat.reduceEqDiff, Nat.reduceAdd, Nat.reduceMul, Nat.reduceSub, Nat.reduceBEq, Nat.reduceLeDiff, Nat.reduceLT, reduceIte, reduceCtorEq, List.reduceReplicate, Int.reduceToNat, Int.reduceLE, Int.reduceLT, eI, e32, eTy, eIns, eCls, eMeth, eImg, eSl, ty_eta, ins_eta, cls_eta, meth_eta, img_eta, nr_I, nr_32, nr_T, nr_N, nr_C, nr_M, getD_map_mid, h29, s29_eq, h66, s66_eq, h69, s69_eq, List.length_map, hws]; rfl) (by first | rfl | (simp [gle_iff]; done) | (simp [gle_iff]; omega) | grind [gle]) ?_ -- r2
  refine awp_if rfl (fun hc1 => ?_) (fun hc1 => ?_)
  ·
    refine awp_rs hK (by simp only [EV, xreg, xops, xop, vop, eop, AOp.eff, ap1, ap2, ov, ovs, ovo, rd, upd, look, gcond, abin, aaeq, aeqs, abeq, asbin, aisnil, asnil, aun, acv, afa, aia, ald, abnd, asl, assl, afd, aix, aex, aln, alns, amxs, amx2, anc, apick, newAt, hget, put, AV.whole, AV.isCell, oneCell, fillParts, slCells, asInt?, pcallX, AV.norefs, AV.noref, AV.scalar, AV.scalars, Nat.reduceEqDiff, Nat.reduceAdd, Nat.reduceMul, Nat.reduceSub, Nat.reduceBEq, Nat.reduceLeDiff, Nat.reduceLT, reduceIte, reduceCtorEq, List.reduceReplicate, Int.reduceToNat, Int.reduceLE, Int.reduceLT, eI, e32, eTy, eIns, eCls, eMeth, eImg, eSl, ty_eta, ins_eta, cls_eta, meth_eta, img_eta, nr_I, nr_32, nr_T, nr_N, nr_C, nr_M, getD_map_mid, h29, s29_eq, h66, s66_eq, h69, s69_eq, List.length_map, hws]; rfl) (by first | rfl | (simp [gle_iff]; done) | (simp [gle_iff]; omega) | grind [gle]) ?_ -- r3
    refine awp_retb (fun h => h) rfl ?_ -- leaf 1
    rw [f31, eq_comm, Bool.eq_false_iff]; intro h; simp only [methS, Bool.and_eq_true, Bool.or_eq_true, decide_eq_true_eq, beq_iff_eq] at h; simp [f29, f66] at hc1; grind
  ·
    refine awp_skip ?_
    simp only [Ex.then_normal, Ex.then_exit, Ex.then_ret, Ex.blk_normal, Ex.blk_exit, Ex.blk_ret, if_true, if_false, reduceIte, reduceCtorEq, Nat.reduceEqDiff]
    refine awp_seq ?_
    refine awp_rs hK (by simp only [EV, xreg, xops, xop, vop, eop, AOp.eff, ap1, ap2, ov, ovs, ovo, rd, upd, look, gcond, abin, aaeq, aeqs, abeq, asbin, aisnil, asnil, aun, acv, afa, aia, ald, abnd, asl, assl, afd, aix, aex, aln, alns, amxs, amx2, anc, apick, newAt, hget, put, AV.whole, AV.isCell, oneCell, fillParts, slCells, asInt?, pcallX, AV.norefs, AV.noref, AV.scalar, AV.scalars, Nat.reduceEqDiff, Nat.reduceAdd, Nat.reduceMul, Nat.reduceSub, Nat.reduceBEq, Nat.reduceLeDiff, Nat.reduceLT, reduceIte, reduceCtorEq, List.reduceReplicate, Int.reduceToNat, Int.reduceLE, Int.reduceLT, eI, e32, eTy, eIns, eCls, eMeth, eImg, eSl, ty_eta, ins_eta, cls_eta, meth_eta, img_eta, nr_I, nr_32, nr_T, nr_N, nr_C, nr_M, getD_map_mid, h29, s29_eq, h66, s66_eq, h69, s69_eq, List.length_map, hws]; rfl) (by first | rfl | (simp [gle_iff]; done) | (simp [gle_iff]; omega) | grind [gle]) ?_ -- r4
    refine awp_block ?_
    refine awp_for (x_code) (fun pre post s => ∃ J, (∀ y ∈ pre, namedS ⟨m_classes, m_statics, m_ints, m_methods, m_entries, m_stack, m_heap⟩ ⟨x_args, x_locals, ⟨x_ret_kind, x_ret_n⟩, x_code, x_depth, x_pot, x_phi⟩ y = true) ∧ ∃ j57 j62 j73, s = ⟨[.agg [.vsl 3 (List.map eCls m_classes), .vsl 2 (List.map eTy m_statics), .vsl 1 (List.map e32 m_ints), .vsl 8 (List.map eMeth m_methods), .vsl 1 (List.map eI m_entries), .int .i64 m_stack, .int .i64 m_heap], .agg [.vsl 2 (List.map eTy x_args), .vsl 2 (List.map eTy x_locals), .int .i64 x_ret_kind, .int .i64 x_ret_n, .vsl 3 (List.map eIns x_code), .int .i64 x_depth, .int .i64 x_pot, .vsl 1 (List.map eI x_phi)], .ref 0 0, .ref 1 0, .bool false, .int .i64 pre.length, j57, j62, j73], .live [.vsl 3 (List.map eCls m_classes), .vsl 2 (List.map eTy m_statics), .vsl 1 (List.map e32 m_ints), .vsl 8 (List.map eMeth m_methods), .vsl 1 (List.map eI m_entries), .int .i64 m_stack, .int .i64 m_heap] :: .live [.vsl 2 (List.map eTy x_args), .vsl 2 (List.map eTy x_locals), .int .i64 x_ret_kind, .int .i64 x_ret_n, .vsl 3 (List.map eIns x_code), .int .i64 x_depth, .int .i64 x_pot, .vsl 1 (List.map eI x_phi)] :: J⟩) ?_ ?_
    · exact ⟨_, fun y hy => absurd hy List.not_mem_nil, _, _, _,  rfl⟩
    rintro pre post s hpp ⟨J, hp0, j57, j62, j73, rfl⟩
    refine awp_seq ?_
    refine awp_rs hK (by simp only [EV, xreg, xops, xop, vop, eop, AOp.eff, ap1, ap2, ov, ovs, ovo, rd, upd, look, gcond, abin, aaeq, aeqs, abeq, asbin, aisnil, asnil, aun, acv, afa, aia, ald, abnd, asl, assl, afd, aix, aex, aln, alns, amxs, amx2, anc, apick, newAt, hget, put, AV.whole, AV.isCell, oneCell, fillParts, slCells, asInt?, pcallX, AV.norefs, AV.noref, AV.scalar, AV.scalars, Nat.reduceEqDiff, Nat.reduceAdd, Nat.reduceMul, Nat.reduceSub, Nat.reduceBEq, Nat.reduceLeDiff, Nat.reduceLT, reduceIte, reduceCtorEq, List.reduceReplicate, Int.reduceToNat, Int.reduceLE, Int.reduceLT, eI, e32, eTy, eIns, eCls, eMeth, eImg, eSl, ty_eta, ins_eta, cls_eta, meth_eta, img_eta, nr_I, nr_32, nr_T, nr_N, nr_C, nr_M, getD_map_mid, h29, s29_eq, h66, s66_eq, h69, s69_eq, List.length_map, hws]; rfl) (by first | rfl | (simp [gle_iff]; done) | (simp [gle_iff]; omega) | grind [gle]) ?_ -- r5
    refine awp_if rfl (fun hc2 => ?_) (fun hc2 => ?_)
    ·
      obtain ⟨y, post, rfl⟩ : ∃ y r, post = y :: r := by
        cases post with
        | nil => simp [hpp] at hc2
        | cons y r => exact ⟨_, _, rfl⟩
      subst hpp
      have hiy : insW y = true := (methW_code ha.2) y (by simp)
      have hk69 : ok69 ⟨m_classes, m_statics, m_ints, m_methods, m_entries, m_stack, m_heap⟩ ⟨x_args, x_locals, ⟨x_ret_kind, x_ret_n⟩, (pre ++ y :: post), x_depth, x_pot, x_phi⟩ y := ⟨ha.1, hiy⟩
      refine awp_skip ?_
      simp only [Ex.then_normal, Ex.then_exit, Ex.then_ret, Ex.blk_normal, Ex.blk_exit, Ex.blk_ret, if_true, if_false, reduceIte, reduceCtorEq, Nat.reduceEqDiff]
      refine awp_seq ?_
      refine awp_block ?_
      refine awp_rs hK (by simp only [EV, xreg, xops, xop, vop, eop, AOp.eff, ap1, ap2, ov, ovs, ovo, rd, upd, look, gcond, abin, aaeq, aeqs, abeq, asbin, aisnil, asnil, aun, acv, afa, aia, ald, abnd, asl, assl, afd, aix, aex, aln, alns, amxs, amx2, anc, apick, newAt, hget, put, AV.whole, AV.isCell, oneCell, fillParts, slCells, asInt?, pcallX, AV.norefs, AV.noref, AV.scalar, AV.scalars, Nat.reduceEqDiff, Nat.reduceAdd, Nat.reduceMul, Nat.reduceSub, Nat.reduceBEq, Nat.reduceLeDiff, Nat.reduceLT, reduceIte, reduceCtorEq, List.reduceReplicate, Int.reduceToNat, Int.reduceLE, Int.reduceLT, eI, e32, eTy, eIns, eCls, eMeth, eImg, eSl, ty_eta, ins_eta, cls_eta, meth_eta, img_eta, nr_I, nr_32, nr_T, nr_N, nr_C, nr_M, getD_map_mid, h29, s29_eq, h66, s66_eq, h69, s69_eq, List.length_map, hws, s69_eq (h := hk69)]; rfl) (by first | rfl | (simp [gle_iff]; done) | (simp [gle_iff]; omega) | grind [gle]) ?_ -- r6
      refine awp_if rfl (fun hc3 => ?_) (fun hc3 => ?_)
      ·
        refine awp_rs hK (by simp only [EV, xreg, xops, xop, vop, eop, AOp.eff, ap1, ap2, ov, ovs, ovo, rd, upd, look, gcond, abin, aaeq, aeqs, abeq, asbin, aisnil, asnil, aun, acv, afa, aia, ald, abnd, asl, assl, afd, aix, aex, aln, alns, amxs, amx2, anc, apick, newAt, hget, put, AV.whole, AV.isCell, oneCell, fillParts, slCells, asInt?, pcallX, AV.norefs, AV.noref, AV.scalar, AV.scalars, Nat.reduceEqDiff, Nat.reduceAdd, Nat.reduceMul, Nat.reduceSub, Nat.reduceBEq, Nat.reduceLeDiff, Nat.reduceLT, reduceIte, reduceCtorEq, List.reduceReplicate, Int.reduceToNat, Int.reduceLE, Int.reduceLT, eI, e32, eTy, eIns, eCls, eMeth, eImg, eSl, ty_eta, ins_eta, cls_eta, meth_eta, img_eta, nr_I, nr_32, nr_T, nr_N, nr_C, nr_M, getD_map_mid, h29, s29_eq, h66, s66_eq, h69, s69_eq, List.length_map, hws]; rfl) (by first | rfl | (simp [gle_iff]; done) | (simp [gle_iff]; omega) | grind [gle]) ?_ -- r7
        refine awp_retb (fun h => h) rfl ?_ -- leaf 2
        rw [f31, eq_comm, Bool.eq_false_iff]; intro h; simp [methS] at h; simp [f69] at hc3; grind
      ·
        refine awp_skip ?_
        simp only [Ex.then_normal, Ex.then_exit, Ex.then_ret, Ex.blk_normal, Ex.blk_exit, Ex.blk_ret, if_true, if_false, reduceIte, reduceCtorEq, Nat.reduceEqDiff]
        refine awp_r1 hK (by simp only [EV, xreg, xops, xop, vop, eop, AOp.eff, ap1, ap2, ov, ovs, ovo, rd, upd, look, gcond, abin, aaeq, aeqs, abeq, asbin, aisnil, asnil, aun, acv, afa, aia, ald, abnd, asl, assl, afd, aix, aex, aln, alns, amxs, amx2, anc, apick, newAt, hget, put, AV.whole, AV.isCell, oneCell, fillParts, slCells, asInt?, pcallX, AV.norefs, AV.noref, AV.scalar, AV.scalars, Nat.reduceEqDiff, Nat.reduceAdd, Nat.reduceMul, Nat.reduceSub, Nat.reduceBEq, Nat.reduceLeDiff, Nat.reduceLT, reduceIte, reduceCtorEq, List.reduceReplicate, Int.reduceToNat, Int.reduceLE, Int.reduceLT, eI, e32, eTy, eIns, eCls, eMeth, eImg, eSl, ty_eta, ins_eta, cls_eta, meth_eta, img_eta, nr_I, nr_32, nr_T, nr_N, nr_C, nr_M, getD_map_mid, h29, s29_eq, h66, s66_eq, h69, s69_eq, List.length_map, hws]; rfl) (by first | rfl | (simp [gle_iff]; done) | (simp [gle_iff]; omega) | grind [gle]) ?_ -- r8
        simp only [Ex.then_normal, Ex.then_exit, Ex.then_ret, Ex.blk_normal, Ex.blk_exit, Ex.blk_ret, if_true, if_false, reduceIte, reduceCtorEq, Nat.reduceEqDiff]
        rw [wrap_len pre y post (hw_x.code)]
        refine ⟨y, post, rfl, _, fun z hz => ?_, _, _, _,  rfl⟩
        rcases List.mem_append.1 hz with hz | hz
        · exact hp0 z hz
        · rw [List.mem_singleton.1 hz]
          simpa [f69] using hc3
    ·
      obtain rfl : post = [] := by
        cases post with
        | cons y r => simp [hpp] at hc2; omega
        | nil => rfl
      rw [List.append_nil] at hpp
      subst hpp
      refine awp_exit ?_
      simp only [Ex.then_normal, Ex.then_exit, Ex.then_ret, Ex.blk_normal, Ex.blk_exit, Ex.blk_ret, if_true, if_false, reduceIte, reduceCtorEq, Nat.reduceEqDiff]
      refine awp_rs hK (by simp only [EV, xreg, xops, xop, vop, eop, AOp.eff, ap1, ap2, ov, ovs, ovo, rd, upd, look, gcond, abin, aaeq, aeqs, abeq, asbin, aisnil, asnil, aun, acv, afa, aia, ald, abnd, asl, assl, afd, aix, aex, aln, alns, amxs, amx2, anc, apick, newAt, hget, put, AV.whole, AV.isCell, oneCell, fillParts, slCells, asInt?, pcallX, AV.norefs, AV.noref, AV.scalar, AV.scalars, Nat.reduceEqDiff, Nat.reduceAdd, Nat.reduceMul, Nat.reduceSub, Nat.reduceBEq, Nat.reduceLeDiff, Nat.reduceLT, reduceIte, reduceCtorEq, List.reduceReplicate, Int.reduceToNat, Int.reduceLE, Int.reduceLT, eI, e32, eTy, eIns, eCls, eMeth, eImg, eSl, ty_eta, ins_eta, cls_eta, meth_eta, img_eta, nr_I, nr_32, nr_T, nr_N, nr_C, nr_M, getD_map_mid, h29, s29_eq, h66, s66_eq, h69, s69_eq, List.length_map, hws]; rfl) (by first | rfl | (simp [gle_iff]; done) | (simp [gle_iff]; omega) | grind [gle]) ?_ -- r9
      refine awp_retb (fun h => h) rfl ?_ -- leaf 3
      rw [f31]; simp only [methS, Bool.and_eq_true, Bool.or_eq_true, decide_eq_true_eq, beq_iff_eq, List.all_eq_true]; simp [f29, f66] at hc1; grind

end Go.Proofs.Yteelkalenpbmmaa.Ab

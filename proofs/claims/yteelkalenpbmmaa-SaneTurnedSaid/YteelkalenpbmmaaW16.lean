import Derived.Test.YteelkalenpbmmaaAbs17
import Derived.Test.YteelkalenpbmmaaFns
import Derived.Test.YteelkalenpbmmaaW8
import Derived.Test.YteelkalenpbmmaaW10
import Derived.Test.YteelkalenpbmmaaAbs21
set_option linter.unusedVariables false
set_option linter.unusedSimpArgs false
set_option maxRecDepth 20000
set_option maxHeartbeats 1000000
namespace Go.Proofs.Yteelkalenpbmmaa.Ab

/- plimsoll/sane.fits -/
def f82 (m : Img) (c : Int) (f : Int) : Bool := !(meth m.methods f).args.isEmpty && subT m.classes ⟨3, c⟩ ((meth m.methods f).args.getD 0 default)
def ok82 (m : Img) (c : Int) (f : Int) : Prop := 0 ≤ f ∧ f < m.methods.length
noncomputable def s82 := fnOf (α := Img × Int × Int) (fun a => ok82 (a.1) (a.2.1) (a.2.2)) (fun a => [eImg a.1, eI a.2.1, eI a.2.2]) fun a => .bool (f82 (a.1) (a.2.1) (a.2.2))
theorem s82_inj (a b : Img × Int × Int) (h : [eImg a.1, eI a.2.1, eI a.2.2] = [eImg b.1, eI b.2.1, eI b.2.2]) : a = b := by
  obtain ⟨a0, a1, a2⟩ := a; obtain ⟨b0, b1, b2⟩ := b
  simp only [List.cons.injEq, and_true, true_and] at h
  rw [eImg_inj h.1, eI_inj h.2.1, eI_inj h.2.2]
theorem s82_eq (m_classes : List Klass) (m_statics : List Ty) (m_ints : List Int) (m_methods : List Meth) (m_entries : List Int) (m_stack : Int) (m_heap : Int) (c : Int) (f : Int) (h : ok82 (⟨m_classes, m_statics, m_ints, m_methods, m_entries, m_stack, m_heap⟩ : Img) c f) : s82 [.agg [.vsl 3 (List.map eCls m_classes), .vsl 2 (List.map eTy m_statics), .vsl 1 (List.map e32 m_ints), .vsl 8 (List.map eMeth m_methods), .vsl 1 (List.map eI m_entries), .int .i64 m_stack, .int .i64 m_heap], .int .i64 c, .int .i64 f] = some (.bool (f82 (⟨m_classes, m_statics, m_ints, m_methods, m_entries, m_stack, m_heap⟩ : Img) c f)) := fnOf_enc (a := (⟨m_classes, m_statics, m_ints, m_methods, m_entries, m_stack, m_heap⟩, c, f)) s82_inj h
theorem s82_eqp (m : Img) (c : Int) (f : Int) (h : ok82 m c f) : s82 [.agg [.vsl 3 (List.map eCls m.classes), .vsl 2 (List.map eTy m.statics), .vsl 1 (List.map e32 m.ints), .vsl 8 (List.map eMeth m.methods), .vsl 1 (List.map eI m.entries), .int .i64 m.stack, .int .i64 m.heap], .int .i64 c, .int .i64 f] = some (.bool (f82 m c f)) := fnOf_enc (a := (m, c, f)) s82_inj h

theorem w82 {K : Cfg} (hK : KOk Try.prog K) (h132 : K.pcall 132 = s132) : PContract Try.prog 82 s82 := by
  refine pcontract_fn (K := K) s82_inj k82 fun a ha => ⟨of_decide_eq_true rfl, ?_⟩
  obtain ⟨m, c, f⟩ := a
  show AWP Try.prog K [0, 1, 2, 3, 6, 7] 28 c82 (RetP [0, 1, 2, 3, 6, 7] [.tmp 6] _) ⟨[_, _, _, _, _, _], []⟩
  refine awp_holds 0 fun hh_m => ?_
  have hw_m : m.Wf := Img.wf_of' hh_m
  clear hh_m
  obtain ⟨m_classes, m_statics, m_ints, m_methods, m_entries, m_stack, m_heap⟩ := m
  replace ha : ok82 (⟨m_classes, m_statics, m_ints, m_methods, m_entries, m_stack, m_heap⟩ : Img) c f := ha
  have hgm := getD_meth' m_methods f ha
  unfold c82
  simp only [eI, e32, eTy, eIns, eCls, eMeth, eImg, eSl, ty_eta, ins_eta, cls_eta, meth_eta, img_eta, nr_I, nr_32, nr_T, nr_N, nr_C, nr_M, getD_map_mid, List.getD_cons_zero, List.getD_cons_succ, List.getD_nil]
  refine awp_rs hK (by simp only [EV, xreg, xops, xop, vop, eop, AOp.eff, ap1, ap2, ov, ovs, ovo, rd, upd, look, gcond, abin, aaeq, aeqs, abeq, asbin, aisnil, asnil, aun, acv, afa, aia, ald, abnd, asl, assl, afd, aix, aex, aln, alns, amxs, amx2, anc, apick, newAt, hget, put, AV.whole, AV.isCell, oneCell, fillParts, slCells, asInt?, pcallX, AV.norefs, AV.noref, AV.scalar, AV.scalars, Nat.reduceEqDiff, Nat.reduceAdd, Nat.reduceMul, Nat.reduceSub, Nat.reduceBEq, Nat.reduceLeDiff, Nat.reduceLT, reduceIte, reduceCtorEq, List.reduceReplicate, Int.reduceToNat, Int.reduceLE, Int.reduceLT, eI, e32, eTy, eIns, eCls, eMeth, eImg, eSl, ty_eta, ins_eta, cls_eta, meth_eta, img_eta, nr_I, nr_32, nr_T, nr_N, nr_C, nr_M, getD_map_mid, h132, s132_eq, hgm, List.length_map]; rfl) (by first | rfl | (simp [gle_iff]; done) | (simp [gle_iff]; omega) | grind [gle]) ?_ -- r1
  refine awp_rs hK (by simp only [EV, xreg, xops, xop, vop, eop, AOp.eff, ap1, ap2, ov, ovs, ovo, rd, upd, look, gcond, abin, aaeq, aeqs, abeq, asbin, aisnil, asnil, aun, acv, afa, aia, ald, abnd, asl, assl, afd, aix, aex, aln, alns, amxs, amx2, anc, apick, newAt, hget, put, AV.whole, AV.isCell, oneCell, fillParts, slCells, asInt?, pcallX, AV.norefs, AV.noref, AV.scalar, AV.scalars, Nat.reduceEqDiff, Nat.reduceAdd, Nat.reduceMul, Nat.reduceSub, Nat.reduceBEq, Nat.reduceLeDiff, Nat.reduceLT, reduceIte, reduceCtorEq, List.reduceReplicate, Int.reduceToNat, Int.reduceLE, Int.reduceLT, eI, e32, eTy, eIns, eCls, eMeth, eImg, eSl, ty_eta, ins_eta, cls_eta, meth_eta, img_eta, nr_I, nr_32, nr_T, nr_N, nr_C, nr_M, getD_map_mid, h132, s132_eq, hgm, List.length_map]; rfl) (by simp; exact ha) ?_ -- r2
  rcases hargs : (meth m_methods f).args with _ | ⟨a0, ar⟩
  ·
    refine awp_rs hK (by simp only [EV, xreg, xops, xop, vop, eop, AOp.eff, ap1, ap2, ov, ovs, ovo, rd, upd, look, gcond, abin, aaeq, aeqs, abeq, asbin, aisnil, asnil, aun, acv, afa, aia, ald, abnd, asl, assl, afd, aix, aex, aln, alns, amxs, amx2, anc, apick, newAt, hget, put, AV.whole, AV.isCell, oneCell, fillParts, slCells, asInt?, pcallX, AV.norefs, AV.noref, AV.scalar, AV.scalars, Nat.reduceEqDiff, Nat.reduceAdd, Nat.reduceMul, Nat.reduceSub, Nat.reduceBEq, Nat.reduceLeDiff, Nat.reduceLT, reduceIte, reduceCtorEq, List.reduceReplicate, Int.reduceToNat, Int.reduceLE, Int.reduceLT, eI, e32, eTy, eIns, eCls, eMeth, eImg, eSl, ty_eta, ins_eta, cls_eta, meth_eta, img_eta, nr_I, nr_32, nr_T, nr_N, nr_C, nr_M, getD_map_mid, h132, s132_eq, hgm, List.length_map, hargs, g00, pickv_f, gle_f]; rfl) (by first | rfl | (simp [gle_iff]; done) | (simp [gle_iff]; omega) | grind [gle]) ?_ -- r3
    refine awp_retb (fun h => h) rfl ?_ -- leaf 1
    simp [f82, hargs]
  ·
    refine awp_rs hK (by simp only [EV, xreg, xops, xop, vop, eop, AOp.eff, ap1, ap2, ov, ovs, ovo, rd, upd, look, gcond, abin, aaeq, aeqs, abeq, asbin, aisnil, asnil, aun, acv, afa, aia, ald, abnd, asl, assl, afd, aix, aex, aln, alns, amxs, amx2, anc, apick, newAt, hget, put, AV.whole, AV.isCell, oneCell, fillParts, slCells, asInt?, pcallX, AV.norefs, AV.noref, AV.scalar, AV.scalars, Nat.reduceEqDiff, Nat.reduceAdd, Nat.reduceMul, Nat.reduceSub, Nat.reduceBEq, Nat.reduceLeDiff, Nat.reduceLT, reduceIte, reduceCtorEq, List.reduceReplicate, Int.reduceToNat, Int.reduceLE, Int.reduceLT, eI, e32, eTy, eIns, eCls, eMeth, eImg, eSl, ty_eta, ins_eta, cls_eta, meth_eta, img_eta, nr_I, nr_32, nr_T, nr_N, nr_C, nr_M, getD_map_mid, h132, s132_eq, hgm, List.length_map, hargs, g01, pickv_t, gle_t, ty_eta]; rfl) (by first | rfl | (simp [gle_iff]; done) | (simp [gle_iff]; omega) | grind [gle]) ?_ -- r3
    refine awp_retb (fun h => h) rfl ?_ -- leaf 2
    simp [f82, hargs, f132]

/- plimsoll/sane.alike -/
def f83 (a : Meth) (b : Meth) : Bool := !a.args.isEmpty && (!b.args.isEmpty && (decide (a.args.drop 1 = b.args.drop 1) && decide (a.ret = b.ret)))
noncomputable def s83 := fnOf (α := Meth × Meth) (fun _ => True) (fun a => [eMeth a.1, eMeth a.2]) fun a => .bool (f83 (a.1) (a.2))
theorem s83_inj (a b : Meth × Meth) (h : [eMeth a.1, eMeth a.2] = [eMeth b.1, eMeth b.2]) : a = b := by
  obtain ⟨a0, a1⟩ := a; obtain ⟨b0, b1⟩ := b
  simp only [List.cons.injEq, and_true, true_and] at h
  rw [eMeth_inj h.1, eMeth_inj h.2]
theorem s83_eq (a_args : List Ty) (a_locals : List Ty) (a_ret_kind : Int) (a_ret_n : Int) (a_code : List Ins) (a_depth : Int) (a_pot : Int) (a_phi : List Int) (b_args : List Ty) (b_locals : List Ty) (b_ret_kind : Int) (b_ret_n : Int) (b_code : List Ins) (b_depth : Int) (b_pot : Int) (b_phi : List Int) : s83 [.agg [.vsl 2 (List.map eTy a_args), .vsl 2 (List.map eTy a_locals), .int .i64 a_ret_kind, .int .i64 a_ret_n, .vsl 3 (List.map eIns a_code), .int .i64 a_depth, .int .i64 a_pot, .vsl 1 (List.map eI a_phi)], .agg [.vsl 2 (List.map eTy b_args), .vsl 2 (List.map eTy b_locals), .int .i64 b_ret_kind, .int .i64 b_ret_n, .vsl 3 (List.map eIns b_code), .int .i64 b_depth, .int .i64 b_pot, .vsl 1 (List.map eI b_phi)]] = some (.bool (f83 (⟨a_args, a_locals, ⟨a_ret_kind, a_ret_n⟩, a_code, a_depth, a_pot, a_phi⟩ : Meth) (⟨b_args, b_locals, ⟨b_ret_kind, b_ret_n⟩, b_code, b_depth, b_pot, b_phi⟩ : Meth))) := fnOf_enc (a := (⟨a_args, a_locals, ⟨a_ret_kind, a_ret_n⟩, a_code, a_depth, a_pot, a_phi⟩, ⟨b_args, b_locals, ⟨b_ret_kind, b_ret_n⟩, b_code, b_depth, b_pot, b_phi⟩)) s83_inj trivial
theorem s83_eqp (a : Meth) (b : Meth) : s83 [.agg [.vsl 2 (List.map eTy a.args), .vsl 2 (List.map eTy a.locals), .int .i64 a.ret.kind, .int .i64 a.ret.n, .vsl 3 (List.map eIns a.code), .int .i64 a.depth, .int .i64 a.pot, .vsl 1 (List.map eI a.phi)], .agg [.vsl 2 (List.map eTy b.args), .vsl 2 (List.map eTy b.locals), .int .i64 b.ret.kind, .int .i64 b.ret.n, .vsl 3 (List.map eIns b.code), .int .i64 b.depth, .int .i64 b.pot, .vsl 1 (List.map eI b.phi)]] = some (.bool (f83 a b)) := fnOf_enc (a := (a, b)) s83_inj trivial

theorem w83 {K : Cfg} (hK : KOk Try.prog K) (h50 : K.pcall 50 = s50) : PContract Try.prog 83 s83 := by
  refine pcontract_fn (K := K) s83_inj k83 fun a ha => ⟨of_decide_eq_true rfl, ?_⟩
  obtain ⟨a, b⟩ := a
  show AWP Try.prog K [0, 1, 2, 3, 4] 31 c83 (RetP [0, 1, 2, 3, 4] [.tmp 4] _) ⟨[_, _, _, _, _], []⟩
  refine awp_holds 0 fun hh_a => ?_
  have hw_a : a.Wf := Meth.wf_of' hh_a
  clear hh_a
  refine awp_holds 1 fun hh_b => ?_
  have hw_b : b.Wf := Meth.wf_of' hh_b
  clear hh_b
  obtain ⟨a_args, a_locals, ⟨a_ret_kind, a_ret_n⟩, a_code, a_depth, a_pot, a_phi⟩ := a
  obtain ⟨b_args, b_locals, ⟨b_ret_kind, b_ret_n⟩, b_code, b_depth, b_pot, b_phi⟩ := b
  unfold c83
  simp only [eI, e32, eTy, eIns, eCls, eMeth, eImg, eSl, ty_eta, ins_eta, cls_eta, meth_eta, img_eta, nr_I, nr_32, nr_T, nr_N, nr_C, nr_M, getD_map_mid, List.getD_cons_zero, List.getD_cons_succ, List.getD_nil]
  refine awp_rs hK (by simp only [EV, xreg, xops, xop, vop, eop, AOp.eff, ap1, ap2, ov, ovs, ovo, rd, upd, look, gcond, abin, aaeq, aeqs, abeq, asbin, aisnil, asnil, aun, acv, afa, aia, ald, abnd, asl, assl, afd, aix, aex, aln, alns, amxs, amx2, anc, apick, newAt, hget, put, AV.whole, AV.isCell, oneCell, fillParts, slCells, asInt?, pcallX, AV.norefs, AV.noref, AV.scalar, AV.scalars, Nat.reduceEqDiff, Nat.reduceAdd, Nat.reduceMul, Nat.reduceSub, Nat.reduceBEq, Nat.reduceLeDiff, Nat.reduceLT, reduceIte, reduceCtorEq, List.reduceReplicate, Int.reduceToNat, Int.reduceLE, Int.reduceLT, eI, e32, eTy, eIns, eCls, eMeth, eImg, eSl, ty_eta, ins_eta, cls_eta, meth_eta, img_eta, nr_I, nr_32, nr_T, nr_N, nr_C, nr_M, getD_map_mid, h50, s50_eq, List.length_map]; rfl) (by first | rfl | (simp [gle_iff]; done) | (simp [gle_iff]; omega) | grind [gle]) ?_ -- r1
  rcases a_args with _ | ⟨a0, ar⟩ <;> rcases b_args with _ | ⟨b0, br⟩
  ·
    refine awp_rs hK (by simp only [EV, xreg, xops, xop, vop, eop, AOp.eff, ap1, ap2, ov, ovs, ovo, rd, upd, look, gcond, abin, aaeq, aeqs, abeq, asbin, aisnil, asnil, aun, acv, afa, aia, ald, abnd, asl, assl, afd, aix, aex, aln, alns, amxs, amx2, anc, apick, newAt, hget, put, AV.whole, AV.isCell, oneCell, fillParts, slCells, asInt?, pcallX, AV.norefs, AV.noref, AV.scalar, AV.scalars, Nat.reduceEqDiff, Nat.reduceAdd, Nat.reduceMul, Nat.reduceSub, Nat.reduceBEq, Nat.reduceLeDiff, Nat.reduceLT, reduceIte, reduceCtorEq, List.reduceReplicate, Int.reduceToNat, Int.reduceLE, Int.reduceLT, eI, e32, eTy, eIns, eCls, eMeth, eImg, eSl, ty_eta, ins_eta, cls_eta, meth_eta, img_eta, nr_I, nr_32, nr_T, nr_N, nr_C, nr_M, getD_map_mid, h50, s50_eq, List.length_map, g00, pickv_f, gle_f]; rfl) (by first | rfl | (simp [gle_iff]; done) | (simp [gle_iff]; omega) | grind [gle]) ?_ -- r2
    refine awp_retb (fun h => h) rfl ?_ -- leaf 1
    rfl
  ·
    refine awp_rs hK (by simp only [EV, xreg, xops, xop, vop, eop, AOp.eff, ap1, ap2, ov, ovs, ovo, rd, upd, look, gcond, abin, aaeq, aeqs, abeq, asbin, aisnil, asnil, aun, acv, afa, aia, ald, abnd, asl, assl, afd, aix, aex, aln, alns, amxs, amx2, anc, apick, newAt, hget, put, AV.whole, AV.isCell, oneCell, fillParts, slCells, asInt?, pcallX, AV.norefs, AV.noref, AV.scalar, AV.scalars, Nat.reduceEqDiff, Nat.reduceAdd, Nat.reduceMul, Nat.reduceSub, Nat.reduceBEq, Nat.reduceLeDiff, Nat.reduceLT, reduceIte, reduceCtorEq, List.reduceReplicate, Int.reduceToNat, Int.reduceLE, Int.reduceLT, eI, e32, eTy, eIns, eCls, eMeth, eImg, eSl, ty_eta, ins_eta, cls_eta, meth_eta, img_eta, nr_I, nr_32, nr_T, nr_N, nr_C, nr_M, getD_map_mid, h50, s50_eq, List.length_map, g00, pickv_f, gle_f]; rfl) (by first | rfl | (simp [gle_iff]; done) | (simp [gle_iff]; omega) | grind [gle]) ?_ -- r2
    refine awp_retb (fun h => h) rfl ?_ -- leaf 2
    rfl
  ·
    refine awp_rs hK (by simp only [EV, xreg, xops, xop, vop, eop, AOp.eff, ap1, ap2, ov, ovs, ovo, rd, upd, look, gcond, abin, aaeq, aeqs, abeq, asbin, aisnil, asnil, aun, acv, afa, aia, ald, abnd, asl, assl, afd, aix, aex, aln, alns, amxs, amx2, anc, apick, newAt, hget, put, AV.whole, AV.isCell, oneCell, fillParts, slCells, asInt?, pcallX, AV.norefs, AV.noref, AV.scalar, AV.scalars, Nat.reduceEqDiff, Nat.reduceAdd, Nat.reduceMul, Nat.reduceSub, Nat.reduceBEq, Nat.reduceLeDiff, Nat.reduceLT, reduceIte, reduceCtorEq, List.reduceReplicate, Int.reduceToNat, Int.reduceLE, Int.reduceLT, eI, e32, eTy, eIns, eCls, eMeth, eImg, eSl, ty_eta, ins_eta, cls_eta, meth_eta, img_eta, nr_I, nr_32, nr_T, nr_N, nr_C, nr_M, getD_map_mid, h50, s50_eq, List.length_map, g00, g01, pickv_f, pickv_t, gle_f, gle_t, take_len_map']; rfl) (by first | rfl | (simp [gle_iff]; done) | (simp [gle_iff]; omega) | grind [gle]) ?_ -- r2
    refine awp_retb (fun h => h) rfl ?_ -- leaf 3
    rfl
  ·
    refine awp_rs hK (by simp only [EV, xreg, xops, xop, vop, eop, AOp.eff, ap1, ap2, ov, ovs, ovo, rd, upd, look, gcond, abin, aaeq, aeqs, abeq, asbin, aisnil, asnil, aun, acv, afa, aia, ald, abnd, asl, assl, afd, aix, aex, aln, alns, amxs, amx2, anc, apick, newAt, hget, put, AV.whole, AV.isCell, oneCell, fillParts, slCells, asInt?, pcallX, AV.norefs, AV.noref, AV.scalar, AV.scalars, Nat.reduceEqDiff, Nat.reduceAdd, Nat.reduceMul, Nat.reduceSub, Nat.reduceBEq, Nat.reduceLeDiff, Nat.reduceLT, reduceIte, reduceCtorEq, List.reduceReplicate, Int.reduceToNat, Int.reduceLE, Int.reduceLT, eI, e32, eTy, eIns, eCls, eMeth, eImg, eSl, ty_eta, ins_eta, cls_eta, meth_eta, img_eta, nr_I, nr_32, nr_T, nr_N, nr_C, nr_M, getD_map_mid, h50, s50_eq, List.length_map, g01, pickv_t, gle_t, take_len_map']; rfl) (by first | rfl | (simp [gle_iff]; done) | (simp [gle_iff]; omega) | grind [gle]) ?_ -- r2
    refine awp_retb (fun h => h) rfl ?_ -- leaf 4
    simp [f83, f50]; grind

end Go.Proofs.Yteelkalenpbmmaa.Ab

import Derived.Test.YteelkalenpbmmaaAbs17
import Derived.Test.YteelkalenpbmmaaFns
import Derived.Test.YteelkalenpbmmaaW9
import Derived.Test.YteelkalenpbmmaaAbs20
set_option linter.unusedVariables false
set_option linter.unusedSimpArgs false
set_option maxRecDepth 20000
set_option maxHeartbeats 1000000
namespace Go.Proofs.Yteelkalenpbmmaa.Ab

theorem fits_classes {m : Img} (h : fits m = true) : m.classes.length ≤ 8 := by simp [fits] at h; omega
theorem fits_methods {m : Img} (h : fits m = true) : m.methods.length ≤ 12 := by simp [fits] at h; omega
theorem fits_statics {m : Img} (h : fits m = true) : m.statics.length ≤ 8 := by simp [fits, tysW] at h; omega
theorem fits_ints {m : Img} (h : fits m = true) : m.ints.length ≤ 16 := by simp [fits] at h; omega
theorem fits_entries {m : Img} (h : fits m = true) : m.entries.length ≤ 12 ∧ ∀ e ∈ m.entries, 0 ≤ e ∧ e ≤ 11 := by simp [fits, numsW] at h; exact ⟨by omega, h.1.1.1.1.2.2⟩
theorem fits_cls {m : Img} (h : fits m = true) : ∀ c ∈ m.classes, clsW c = true := by simp [fits] at h; exact h.1.1.1.1.1.1.2
theorem fits_meth {m : Img} (h : fits m = true) : ∀ c ∈ m.methods, methW c = true := by simp [fits] at h; exact h.1.1.1.1.1.2
theorem clsW_spec {c : Klass} (h : clsW c = true) : -1 ≤ c.super ∧ c.super ≤ 7 ∧ c.fields.length ≤ 8 ∧ (∀ t ∈ c.fields, tyW t = true) ∧ c.slots.length ≤ 4 ∧ ∀ s ∈ c.slots, 0 ≤ s ∧ s ≤ 11 := by
  simp [clsW, tysW, numsW] at h
  exact ⟨by omega, by omega, by omega, h.1.2.2, by omega, h.2.2⟩
theorem fits_fields {m : Img} (h : fits m = true) (c : Int) (hc : 0 ≤ c ∧ c < m.classes.length) : (cls m.classes c).fields.length ≤ 8 := (clsW_spec (fits_cls h _ (cls_mem hc))).2.2.1
/- plimsoll/plimsollref05.Fields -/
def f67 (m : Img) (c : Int) : List Ty := fieldsOf m.classes c
def ok67 (m : Img) (c : Int) : Prop := fits m = true
noncomputable def s67 := fnOf (α := Img × Int) (fun a => ok67 (a.1) (a.2)) (fun a => [eImg a.1, eI a.2]) fun a => eSl 2 eTy (f67 (a.1) (a.2))
theorem s67_inj (a b : Img × Int) (h : [eImg a.1, eI a.2] = [eImg b.1, eI b.2]) : a = b := by
  obtain ⟨a0, a1⟩ := a; obtain ⟨b0, b1⟩ := b
  simp only [List.cons.injEq, and_true, true_and] at h
  rw [eImg_inj h.1, eI_inj h.2]
theorem s67_eq (m_classes : List Klass) (m_statics : List Ty) (m_ints : List Int) (m_methods : List Meth) (m_entries : List Int) (m_stack : Int) (m_heap : Int) (c : Int) (h : ok67 (⟨m_classes, m_statics, m_ints, m_methods, m_entries, m_stack, m_heap⟩ : Img) c) : s67 [.agg [.vsl 3 (List.map eCls m_classes), .vsl 2 (List.map eTy m_statics), .vsl 1 (List.map e32 m_ints), .vsl 8 (List.map eMeth m_methods), .vsl 1 (List.map eI m_entries), .int .i64 m_stack, .int .i64 m_heap], .int .i64 c] = some (eSl 2 eTy (f67 (⟨m_classes, m_statics, m_ints, m_methods, m_entries, m_stack, m_heap⟩ : Img) c)) := fnOf_enc (a := (⟨m_classes, m_statics, m_ints, m_methods, m_entries, m_stack, m_heap⟩, c)) s67_inj h
theorem s67_eqp (m : Img) (c : Int) (h : ok67 m c) : s67 [.agg [.vsl 3 (List.map eCls m.classes), .vsl 2 (List.map eTy m.statics), .vsl 1 (List.map e32 m.ints), .vsl 8 (List.map eMeth m.methods), .vsl 1 (List.map eI m.entries), .int .i64 m.stack, .int .i64 m.heap], .int .i64 c] = some (eSl 2 eTy (f67 m c)) := fnOf_enc (a := (m, c)) s67_inj h

theorem w67 {K : Cfg} (hK : KOk Try.prog K) (h124 : K.pcall 124 = s124) : PContract Try.prog 67 s67 := by
  refine pcontract_fn (K := K) s67_inj k67 fun a ha => ⟨of_decide_eq_true rfl, ?_⟩
  obtain ⟨m, c⟩ := a
  show AWP Try.prog K [0, 1, 2, 4, 5, 6, 7, 17] 32 c67 (RetP [0, 1, 2, 4, 5, 6, 7, 17] [.tmp 4] _) ⟨[_, _, _, _, _, _, _, _], []⟩
  refine awp_holds 0 fun hh_m => ?_
  have hw_m : m.Wf := Img.wf_of' hh_m
  clear hh_m
  obtain ⟨m_classes, m_statics, m_ints, m_methods, m_entries, m_stack, m_heap⟩ := m
  replace ha : ok67 (⟨m_classes, m_statics, m_ints, m_methods, m_entries, m_stack, m_heap⟩ : Img) c := ha
  have hlc := fits_classes ha
  have hk : ∀ n, ok124 m_classes n := fun _ => Nat.le_trans hlc (by decide)
  have hfl := fits_fields ha
  simp only at hlc hfl
  have hul := chain_len m_classes c
  unfold c67
  simp only [eI, e32, eTy, eIns, eCls, eMeth, eImg, eSl, ty_eta, ins_eta, cls_eta, meth_eta, img_eta, nr_I, nr_32, nr_T, nr_N, nr_C, nr_M, getD_map_mid, List.getD_cons_zero, List.getD_cons_succ, List.getD_nil]
  refine awp_rs hK (by simp only [EV, xreg, xops, xop, vop, eop, AOp.eff, ap1, ap2, ov, ovs, ovo, rd, upd, look, gcond, abin, aaeq, aeqs, abeq, asbin, aisnil, asnil, aun, acv, afa, aia, ald, abnd, asl, assl, afd, aix, aex, aln, alns, amxs, amx2, anc, apick, newAt, hget, put, AV.whole, AV.isCell, oneCell, fillParts, slCells, asInt?, pcallX, AV.norefs, AV.noref, AV.scalar, AV.scalars, Nat.reduceEqDiff, Nat.reduceAdd, Nat.reduceMul, Nat.reduceSub, Nat.reduceBEq, Nat.reduceLeDiff, Nat.reduceLT, reduceIte, reduceCtorEq, List.reduceReplicate, Int.reduceToNat, Int.reduceLE, Int.reduceLT, eI, e32, eTy, eIns, eCls, eMeth, eImg, eSl, ty_eta, ins_eta, cls_eta, meth_eta, img_eta, nr_I, nr_32, nr_T, nr_N, nr_C, nr_M, getD_map_mid, h124, s124_eq, s124_eq _ _ (hk _), f124, flat_append, flat_fold, flat_take encT, flat_all encT, List.length_map, get_concat2, set_concat2]; rfl) (by first | rfl | (simp [gle_iff]; done) | (simp [gle_iff]; omega) | grind [gle]) ?_ -- r1
  refine awp_rs hK (by simp only [EV, xreg, xops, xop, vop, eop, AOp.eff, ap1, ap2, ov, ovs, ovo, rd, upd, look, gcond, abin, aaeq, aeqs, abeq, asbin, aisnil, asnil, aun, acv, afa, aia, ald, abnd, asl, assl, afd, aix, aex, aln, alns, amxs, amx2, anc, apick, newAt, hget, put, AV.whole, AV.isCell, oneCell, fillParts, slCells, asInt?, pcallX, AV.norefs, AV.noref, AV.scalar, AV.scalars, Nat.reduceEqDiff, Nat.reduceAdd, Nat.reduceMul, Nat.reduceSub, Nat.reduceBEq, Nat.reduceLeDiff, Nat.reduceLT, reduceIte, reduceCtorEq, List.reduceReplicate, Int.reduceToNat, Int.reduceLE, Int.reduceLT, eI, e32, eTy, eIns, eCls, eMeth, eImg, eSl, ty_eta, ins_eta, cls_eta, meth_eta, img_eta, nr_I, nr_32, nr_T, nr_N, nr_C, nr_M, getD_map_mid, h124, s124_eq, s124_eq _ _ (hk _), f124, flat_append, flat_fold, flat_take encT, flat_all encT, List.length_map, get_concat2, set_concat2]; rfl) (by first | rfl | (simp [gle_iff]; done) | (simp [gle_iff]; omega) | grind [gle]) ?_ -- r2
  refine awp_rs hK (by simp only [EV, xreg, xops, xop, vop, eop, AOp.eff, ap1, ap2, ov, ovs, ovo, rd, upd, look, gcond, abin, aaeq, aeqs, abeq, asbin, aisnil, asnil, aun, acv, afa, aia, ald, abnd, asl, assl, afd, aix, aex, aln, alns, amxs, amx2, anc, apick, newAt, hget, put, AV.whole, AV.isCell, oneCell, fillParts, slCells, asInt?, pcallX, AV.norefs, AV.noref, AV.scalar, AV.scalars, Nat.reduceEqDiff, Nat.reduceAdd, Nat.reduceMul, Nat.reduceSub, Nat.reduceBEq, Nat.reduceLeDiff, Nat.reduceLT, reduceIte, reduceCtorEq, List.reduceReplicate, Int.reduceToNat, Int.reduceLE, Int.reduceLT, eI, e32, eTy, eIns, eCls, eMeth, eImg, eSl, ty_eta, ins_eta, cls_eta, meth_eta, img_eta, nr_I, nr_32, nr_T, nr_N, nr_C, nr_M, getD_map_mid, h124, s124_eq, s124_eq _ _ (hk _), f124, flat_append, flat_fold, flat_take encT, flat_all encT, List.length_map, get_concat2, set_concat2]; rfl) (by first | rfl | (simp [gle_iff]; done) | (simp [gle_iff]; omega) | grind [gle]) ?_ -- r3
  refine awp_seq ?_
  refine awp_rs hK (by simp only [EV, xreg, xops, xop, vop, eop, AOp.eff, ap1, ap2, ov, ovs, ovo, rd, upd, look, gcond, abin, aaeq, aeqs, abeq, asbin, aisnil, asnil, aun, acv, afa, aia, ald, abnd, asl, assl, afd, aix, aex, aln, alns, amxs, amx2, anc, apick, newAt, hget, put, AV.whole, AV.isCell, oneCell, fillParts, slCells, asInt?, pcallX, AV.norefs, AV.noref, AV.scalar, AV.scalars, Nat.reduceEqDiff, Nat.reduceAdd, Nat.reduceMul, Nat.reduceSub, Nat.reduceBEq, Nat.reduceLeDiff, Nat.reduceLT, reduceIte, reduceCtorEq, List.reduceReplicate, Int.reduceToNat, Int.reduceLE, Int.reduceLT, eI, e32, eTy, eIns, eCls, eMeth, eImg, eSl, ty_eta, ins_eta, cls_eta, meth_eta, img_eta, nr_I, nr_32, nr_T, nr_N, nr_C, nr_M, getD_map_mid, h124, s124_eq, s124_eq _ _ (hk _), f124, flat_append, flat_fold, flat_take encT, flat_all encT, List.length_map, get_concat2, set_concat2]; rfl) (by first | rfl | (simp [gle_iff]; done) | (simp [gle_iff]; omega) | grind [gle]) ?_ -- r4
  refine awp_block ?_
  rw [wrap_i64 (show -9223372036854775808 ≤ ((chain m_classes c).length : Int) - 1 by omega) (by omega)]
  refine awp_while (fun m s => ∃ (i : Int) (out : List Ty) (J : List HB), (m = (i + 1).toNat) ∧ (-1 ≤ i) ∧ (i < (chain m_classes c).length) ∧ (out = ((chain m_classes c).drop (i + 1).toNat).reverse.flatMap fun k => (cls m_classes k).fields) ∧ ((out.length : Int) ≤ 8 * ((chain m_classes c).length - (i + 1))) ∧ ∃ j17, s = ⟨[.agg [.vsl 3 (List.map eCls m_classes), .vsl 2 (List.map eTy m_statics), .vsl 1 (List.map e32 m_ints), .vsl 8 (List.map eMeth m_methods), .vsl 1 (List.map eI m_entries), .int .i64 m_stack, .int .i64 m_heap], .int .i64 c, .ref 0 0, .nilsl, .vsl 1 (List.map eI (chain m_classes c)), .rsl 2 (J.length + 1) 0 out.length, .int .i64 i, j17], .live [.vsl 3 (List.map eCls m_classes), .vsl 2 (List.map eTy m_statics), .vsl 1 (List.map e32 m_ints), .vsl 8 (List.map eMeth m_methods), .vsl 1 (List.map eI m_entries), .int .i64 m_stack, .int .i64 m_heap] :: (J ++ [.live (flat eTy out)])⟩) ((chain m_classes c).length) ?_ ?_
  · exact ⟨((chain m_classes c).length : Int) - 1, [], [], by omega, by omega, by omega, by simp, by simp, _, rfl⟩
  rintro m s ⟨i, out, J, hp0, hp1, hp2, hp3, hp4, j17, rfl⟩
  refine awp_seq ?_
  refine awp_rs hK (by simp only [EV, xreg, xops, xop, vop, eop, AOp.eff, ap1, ap2, ov, ovs, ovo, rd, upd, look, gcond, abin, aaeq, aeqs, abeq, asbin, aisnil, asnil, aun, acv, afa, aia, ald, abnd, asl, assl, afd, aix, aex, aln, alns, amxs, amx2, anc, apick, newAt, hget, put, AV.whole, AV.isCell, oneCell, fillParts, slCells, asInt?, pcallX, AV.norefs, AV.noref, AV.scalar, AV.scalars, Nat.reduceEqDiff, Nat.reduceAdd, Nat.reduceMul, Nat.reduceSub, Nat.reduceBEq, Nat.reduceLeDiff, Nat.reduceLT, reduceIte, reduceCtorEq, List.reduceReplicate, Int.reduceToNat, Int.reduceLE, Int.reduceLT, eI, e32, eTy, eIns, eCls, eMeth, eImg, eSl, ty_eta, ins_eta, cls_eta, meth_eta, img_eta, nr_I, nr_32, nr_T, nr_N, nr_C, nr_M, getD_map_mid, h124, s124_eq, s124_eq _ _ (hk _), f124, flat_append, flat_fold, flat_take encT, flat_all encT, List.length_map, get_concat2, set_concat2]; rfl) (by first | rfl | (simp [gle_iff]; done) | (simp [gle_iff]; omega) | grind [gle]) ?_ -- r5
  refine awp_if rfl (fun hc1 => ?_) (fun hc1 => ?_)
  ·
    have h0 : 0 ≤ i := by simpa using hc1
    obtain ⟨j, rfl⟩ : ∃ j : Nat, i = j := ⟨i.toNat, by omega⟩
    have hm : (chain m_classes c).getD j 0 ∈ chain m_classes c := by
      rw [List.getD_eq_getElem?_getD, List.getElem?_eq_getElem (by omega), Option.getD_some]; exact List.getElem_mem _
    have hcm := chain_mem' hm
    have hg := getD_int' (chain m_classes c) (j : Int) (by omega)
    simp only [Int.toNat_natCast] at hg
    have hgc := getD_cls' m_classes _ hcm
    have hfb := hfl _ hcm
    have hd := drop_rev (chain m_classes c) j 0 (by omega)
    refine awp_skip ?_
    simp only [Ex.then_normal, Ex.then_exit, Ex.then_ret, Ex.blk_normal, Ex.blk_exit, Ex.blk_ret, if_true, if_false, reduceIte, reduceCtorEq, Nat.reduceEqDiff]
    refine awp_seq ?_
    refine awp_block ?_
    refine awp_r1 hK (by simp only [EV, xreg, xops, xop, vop, eop, AOp.eff, ap1, ap2, ov, ovs, ovo, rd, upd, look, gcond, abin, aaeq, aeqs, abeq, asbin, aisnil, asnil, aun, acv, afa, aia, ald, abnd, asl, assl, afd, aix, aex, aln, alns, amxs, amx2, anc, apick, newAt, hget, put, AV.whole, AV.isCell, oneCell, fillParts, slCells, asInt?, pcallX, AV.norefs, AV.noref, AV.scalar, AV.scalars, Nat.reduceEqDiff, Nat.reduceAdd, Nat.reduceMul, Nat.reduceSub, Nat.reduceBEq, Nat.reduceLeDiff, Nat.reduceLT, reduceIte, reduceCtorEq, List.reduceReplicate, Int.reduceToNat, Int.reduceLE, Int.reduceLT, eI, e32, eTy, eIns, eCls, eMeth, eImg, eSl, ty_eta, ins_eta, cls_eta, meth_eta, img_eta, nr_I, nr_32, nr_T, nr_N, nr_C, nr_M, getD_map_mid, h124, s124_eq, s124_eq _ _ (hk _), f124, flat_append, flat_fold, flat_take encT, flat_all encT, List.length_map, get_concat2, set_concat2, Int.toNat_natCast, hg, hgc]; rfl) (by simp [hcm, -List.getD_eq_getElem?_getD, flat_len encT]; omega) ?_ -- r6
    simp only [Ex.then_normal, Ex.then_exit, Ex.then_ret, Ex.blk_normal, Ex.blk_exit, Ex.blk_ret, if_true, if_false, reduceIte, reduceCtorEq, Nat.reduceEqDiff]
    refine awp_r1 hK (by simp only [EV, xreg, xops, xop, vop, eop, AOp.eff, ap1, ap2, ov, ovs, ovo, rd, upd, look, gcond, abin, aaeq, aeqs, abeq, asbin, aisnil, asnil, aun, acv, afa, aia, ald, abnd, asl, assl, afd, aix, aex, aln, alns, amxs, amx2, anc, apick, newAt, hget, put, AV.whole, AV.isCell, oneCell, fillParts, slCells, asInt?, pcallX, AV.norefs, AV.noref, AV.scalar, AV.scalars, Nat.reduceEqDiff, Nat.reduceAdd, Nat.reduceMul, Nat.reduceSub, Nat.reduceBEq, Nat.reduceLeDiff, Nat.reduceLT, reduceIte, reduceCtorEq, List.reduceReplicate, Int.reduceToNat, Int.reduceLE, Int.reduceLT, eI, e32, eTy, eIns, eCls, eMeth, eImg, eSl, ty_eta, ins_eta, cls_eta, meth_eta, img_eta, nr_I, nr_32, nr_T, nr_N, nr_C, nr_M, getD_map_mid, h124, s124_eq, s124_eq _ _ (hk _), f124, flat_append, flat_fold, flat_take encT, flat_all encT, List.length_map, get_concat2, set_concat2]; rfl) (by first | rfl | (simp [gle_iff]; done) | (simp [gle_iff]; omega) | grind [gle]) ?_ -- r7
    simp only [Ex.then_normal, Ex.then_exit, Ex.then_ret, Ex.blk_normal, Ex.blk_exit, Ex.blk_ret, if_true, if_false, reduceIte, reduceCtorEq, Nat.reduceEqDiff]
    rw [wrap_i64 (show -9223372036854775808 ≤ (j : Int) - 1 by omega) (by omega)]
    simp only [← List.length_append]
    refine ⟨((j : Int) - 1 + 1).toNat, by omega, (j : Int) - 1, _, _, rfl, by omega, by omega, ?_, ?_, _, rfl⟩
    · rw [hp3, show ((j : Int) + 1).toNat = j + 1 by omega, show ((j : Int) - 1 + 1).toNat = j by omega, hd, List.flatMap_append]; simp
    · rw [List.length_append]; omega
  ·
    refine awp_exit ?_
    simp only [Ex.then_normal, Ex.then_exit, Ex.then_ret, Ex.blk_normal, Ex.blk_exit, Ex.blk_ret, if_true, if_false, reduceIte, reduceCtorEq, Nat.reduceEqDiff]
    refine awp_rs hK (by simp only [EV, xreg, xops, xop, vop, eop, AOp.eff, ap1, ap2, ov, ovs, ovo, rd, upd, look, gcond, abin, aaeq, aeqs, abeq, asbin, aisnil, asnil, aun, acv, afa, aia, ald, abnd, asl, assl, afd, aix, aex, aln, alns, amxs, amx2, anc, apick, newAt, hget, put, AV.whole, AV.isCell, oneCell, fillParts, slCells, asInt?, pcallX, AV.norefs, AV.noref, AV.scalar, AV.scalars, Nat.reduceEqDiff, Nat.reduceAdd, Nat.reduceMul, Nat.reduceSub, Nat.reduceBEq, Nat.reduceLeDiff, Nat.reduceLT, reduceIte, reduceCtorEq, List.reduceReplicate, Int.reduceToNat, Int.reduceLE, Int.reduceLT, eI, e32, eTy, eIns, eCls, eMeth, eImg, eSl, ty_eta, ins_eta, cls_eta, meth_eta, img_eta, nr_I, nr_32, nr_T, nr_N, nr_C, nr_M, getD_map_mid, h124, s124_eq, s124_eq _ _ (hk _), f124, flat_append, flat_fold, flat_take encT, flat_all encT, List.length_map, get_concat2, set_concat2]; rfl) (by first | rfl | (simp [gle_iff]; done) | (simp [gle_iff]; omega) | grind [gle]) ?_ -- r8
    refine awp_ret ?_ -- leaf 1
    have hi : i = -1 := by simp at hc1; omega
    subst hi
    have hb : out.length ≤ 140737488355328 := by omega
    exact ⟨.inr rfl, rfl, 2, (frz_flat encT (by simp [hget]) hb).trans (by rw [hp3]; simp [f67, fieldsOf])⟩

/-- Is all there that an instruction names? -/
def namedS (m : Img) (x : Meth) (i : Ins) : Bool :=
  if i.op = 1 then decide (i.a < m.ints.length) else if i.op = 3 ∨ i.op = 4 then decide (i.a < x.args.length + x.locals.length)
  else if i.op = 18 ∨ i.op = 19 then decide (i.a < x.code.length) else if i.op = 22 ∨ i.op = 34 then decide (i.a < m.classes.length)
  else if i.op = 27 ∨ i.op = 28 then decide (i.a < m.classes.length) && decide (i.b < (fieldsOf m.classes i.a).length)
  else if i.op = 29 ∨ i.op = 30 then decide (i.a < m.statics.length) else if i.op = 31 then decide (i.a < m.methods.length)
  else if i.op = 32 then decide (i.a < m.classes.length) && decide (i.b < (cls m.classes i.a).slots.length) else true
/- plimsoll/plimsollref05.named -/
def f69 (m : Img) (x : Meth) (i : Ins) : Bool := namedS m x i
def ok69 (m : Img) (x : Meth) (i : Ins) : Prop := fits m = true ∧ insW i = true
noncomputable def s69 := fnOf (α := Img × Meth × Ins) (fun a => ok69 (a.1) (a.2.1) (a.2.2)) (fun a => [eImg a.1, eMeth a.2.1, eIns a.2.2]) fun a => .bool (f69 (a.1) (a.2.1) (a.2.2))
theorem s69_inj (a b : Img × Meth × Ins) (h : [eImg a.1, eMeth a.2.1, eIns a.2.2] = [eImg b.1, eMeth b.2.1, eIns b.2.2]) : a = b := by
  obtain ⟨a0, a1, a2⟩ := a; obtain ⟨b0, b1, b2⟩ := b
  simp only [List.cons.injEq, and_true, true_and] at h
  rw [eImg_inj h.1, eMeth_inj h.2.1, eIns_inj h.2.2]
theorem s69_eq (m_classes : List Klass) (m_statics : List Ty) (m_ints : List Int) (m_methods : List Meth) (m_entries : List Int) (m_stack : Int) (m_heap : Int) (x_args : List Ty) (x_locals : List Ty) (x_ret_kind : Int) (x_ret_n : Int) (x_code : List Ins) (x_depth : Int) (x_pot : Int) (x_phi : List Int) (i_op : Int) (i_a : Int) (i_b : Int) (h : ok69 (⟨m_classes, m_statics, m_ints, m_methods, m_entries, m_stack, m_heap⟩ : Img) (⟨x_args, x_locals, ⟨x_ret_kind, x_ret_n⟩, x_code, x_depth, x_pot, x_phi⟩ : Meth) (⟨i_op, i_a, i_b⟩ : Ins)) : s69 [.agg [.vsl 3 (List.map eCls m_classes), .vsl 2 (List.map eTy m_statics), .vsl 1 (List.map e32 m_ints), .vsl 8 (List.map eMeth m_methods), .vsl 1 (List.map eI m_entries), .int .i64 m_stack, .int .i64 m_heap], .agg [.vsl 2 (List.map eTy x_args), .vsl 2 (List.map eTy x_locals), .int .i64 x_ret_kind, .int .i64 x_ret_n, .vsl 3 (List.map eIns x_code), .int .i64 x_depth, .int .i64 x_pot, .vsl 1 (List.map eI x_phi)], .agg [.int .i64 i_op, .int .i64 i_a, .int .i64 i_b]] = some (.bool (f69 (⟨m_classes, m_statics, m_ints, m_methods, m_entries, m_stack, m_heap⟩ : Img) (⟨x_args, x_locals, ⟨x_ret_kind, x_ret_n⟩, x_code, x_depth, x_pot, x_phi⟩ : Meth) (⟨i_op, i_a, i_b⟩ : Ins))) := fnOf_enc (a := (⟨m_classes, m_statics, m_ints, m_methods, m_entries, m_stack, m_heap⟩, ⟨x_args, x_locals, ⟨x_ret_kind, x_ret_n⟩, x_code, x_depth, x_pot, x_phi⟩, ⟨i_op, i_a, i_b⟩)) s69_inj h
theorem s69_eqp (m : Img) (x : Meth) (i : Ins) (h : ok69 m x i) : s69 [.agg [.vsl 3 (List.map eCls m.classes), .vsl 2 (List.map eTy m.statics), .vsl 1 (List.map e32 m.ints), .vsl 8 (List.map eMeth m.methods), .vsl 1 (List.map eI m.entries), .int .i64 m.stack, .int .i64 m.heap], .agg [.vsl 2 (List.map eTy x.args), .vsl 2 (List.map eTy x.locals), .int .i64 x.ret.kind, .int .i64 x.ret.n, .vsl 3 (List.map eIns x.code), .int .i64 x.depth, .int .i64 x.pot, .vsl 1 (List.map eI x.phi)], .agg [.int .i64 i.op, .int .i64 i.a, .int .i64 i.b]] = some (.bool (f69 m x i)) := fnOf_enc (a := (m, x, i)) s69_inj h

theorem w69 {K : Cfg} (hK : KOk Try.prog K) (h67 : K.pcall 67 = s67) : PContract Try.prog 69 s69 := by
  refine pcontract_fn (K := K) s69_inj k69 fun a ha => ⟨of_decide_eq_true rfl, ?_⟩
  obtain ⟨m, x, i⟩ := a
  show AWP Try.prog K [0, 1, 2, 3, 4, 5, 6, 8, 9, 17, 30, 39, 48, 67, 76, 84] 105 c69 (RetP [0, 1, 2, 3, 4, 5, 6, 8, 9, 17, 30, 39, 48, 67, 76, 84] [.tmp 6] _) ⟨[_, _, _, _, _, _, _, _, _, _, _, _, _, _, _, _], []⟩
  refine awp_holds 0 fun hh_m => ?_
  have hw_m : m.Wf := Img.wf_of' hh_m
  clear hh_m
  refine awp_holds 1 fun hh_x => ?_
  have hw_x : x.Wf := Meth.wf_of' hh_x
  clear hh_x
  obtain ⟨m_classes, m_statics, m_ints, m_methods, m_entries, m_stack, m_heap⟩ := m
  obtain ⟨x_args, x_locals, ⟨x_ret_kind, x_ret_n⟩, x_code, x_depth, x_pot, x_phi⟩ := x
  obtain ⟨i_op, i_a, i_b⟩ := i
  replace ha : ok69 (⟨m_classes, m_statics, m_ints, m_methods, m_entries, m_stack, m_heap⟩ : Img) (⟨x_args, x_locals, ⟨x_ret_kind, x_ret_n⟩, x_code, x_depth, x_pot, x_phi⟩ : Meth) (⟨i_op, i_a, i_b⟩ : Ins) := ha
  have hk : ∀ n, ok67 _ n := fun _ => ha.1
  have hins := ha.2
  have hws : IntKind.i64.wrap (((List.map eTy x_args).length : Int) + ((List.map eTy x_locals).length : Int)) = ((x_args.length + x_locals.length : Nat) : Int) := by
    have h1 := hw_x.args; have h2 := hw_x.locals
    simp only at h1 h2
    rw [wrap_i64 (by simp; omega) (by simp; omega)]; simp
  unfold c69
  simp only [eI, e32, eTy, eIns, eCls, eMeth, eImg, eSl, ty_eta, ins_eta, cls_eta, meth_eta, img_eta, nr_I, nr_32, nr_T, nr_N, nr_C, nr_M, getD_map_mid, List.getD_cons_zero, List.getD_cons_succ, List.getD_nil]
  refine awp_rs hK (by simp only [EV, xreg, xops, xop, vop, eop, AOp.eff, ap1, ap2, ov, ovs, ovo, rd, upd, look, gcond, abin, aaeq, aeqs, abeq, asbin, aisnil, asnil, aun, acv, afa, aia, ald, abnd, asl, assl, afd, aix, aex, aln, alns, amxs, amx2, anc, apick, newAt, hget, put, AV.whole, AV.isCell, oneCell, fillParts, slCells, asInt?, pcallX, AV.norefs, AV.noref, AV.scalar, AV.scalars, Nat.reduceEqDiff, Nat.reduceAdd, Nat.reduceMul, Nat.reduceSub, Nat.reduceBEq, Nat.reduceLeDiff, Nat.reduceLT, reduceIte, reduceCtorEq, List.reduceReplicate, Int.reduceToNat, Int.reduceLE, Int.reduceLT, eI, e32, eTy, eIns, eCls, eMeth, eImg, eSl, ty_eta, ins_eta, cls_eta, meth_eta, img_eta, nr_I, nr_32, nr_T, nr_N, nr_C, nr_M, getD_map_mid, h67, s67_eq, s67_eq _ _ _ _ _ _ _ _ (hk _), hws, List.length_map]; rfl) (by first | rfl | (simp [gle_iff]; done) | (simp [gle_iff]; omega) | grind [gle]) ?_ -- r1
  refine awp_seq ?_
  refine awp_rs hK (by simp only [EV, xreg, xops, xop, vop, eop, AOp.eff, ap1, ap2, ov, ovs, ovo, rd, upd, look, gcond, abin, aaeq, aeqs, abeq, asbin, aisnil, asnil, aun, acv, afa, aia, ald, abnd, asl, assl, afd, aix, aex, aln, alns, amxs, amx2, anc, apick, newAt, hget, put, AV.whole, AV.isCell, oneCell, fillParts, slCells, asInt?, pcallX, AV.norefs, AV.noref, AV.scalar, AV.scalars, Nat.reduceEqDiff, Nat.reduceAdd, Nat.reduceMul, Nat.reduceSub, Nat.reduceBEq, Nat.reduceLeDiff, Nat.reduceLT, reduceIte, reduceCtorEq, List.reduceReplicate, Int.reduceToNat, Int.reduceLE, Int.reduceLT, eI, e32, eTy, eIns, eCls, eMeth, eImg, eSl, ty_eta, ins_eta, cls_eta, meth_eta, img_eta, nr_I, nr_32, nr_T, nr_N, nr_C, nr_M, getD_map_mid, h67, s67_eq, s67_eq _ _ _ _ _ _ _ _ (hk _), hws, List.length_map]; rfl) (by first | rfl | (simp [gle_iff]; done) | (simp [gle_iff]; omega) | grind [gle]) ?_ -- r2
  refine awp_block ?_
  refine awp_rs hK (by simp only [EV, xreg, xops, xop, vop, eop, AOp.eff, ap1, ap2, ov, ovs, ovo, rd, upd, look, gcond, abin, aaeq, aeqs, abeq, asbin, aisnil, asnil, aun, acv, afa, aia, ald, abnd, asl, assl, afd, aix, aex, aln, alns, amxs, amx2, anc, apick, newAt, hget, put, AV.whole, AV.isCell, oneCell, fillParts, slCells, asInt?, pcallX, AV.norefs, AV.noref, AV.scalar, AV.scalars, Nat.reduceEqDiff, Nat.reduceAdd, Nat.reduceMul, Nat.reduceSub, Nat.reduceBEq, Nat.reduceLeDiff, Nat.reduceLT, reduceIte, reduceCtorEq, List.reduceReplicate, Int.reduceToNat, Int.reduceLE, Int.reduceLT, eI, e32, eTy, eIns, eCls, eMeth, eImg, eSl, ty_eta, ins_eta, cls_eta, meth_eta, img_eta, nr_I, nr_32, nr_T, nr_N, nr_C, nr_M, getD_map_mid, h67, s67_eq, s67_eq _ _ _ _ _ _ _ _ (hk _), hws, List.length_map]; rfl) (by first | rfl | (simp [gle_iff]; done) | (simp [gle_iff]; omega) | grind [gle]) ?_ -- r3
  refine awp_if rfl (fun hc1 => ?_) (fun hc1 => ?_)
  ·
    refine awp_rs hK (by simp only [EV, xreg, xops, xop, vop, eop, AOp.eff, ap1, ap2, ov, ovs, ovo, rd, upd, look, gcond, abin, aaeq, aeqs, abeq, asbin, aisnil, asnil, aun, acv, afa, aia, ald, abnd, asl, assl, afd, aix, aex, aln, alns, amxs, amx2, anc, apick, newAt, hget, put, AV.whole, AV.isCell, oneCell, fillParts, slCells, asInt?, pcallX, AV.norefs, AV.noref, AV.scalar, AV.scalars, Nat.reduceEqDiff, Nat.reduceAdd, Nat.reduceMul, Nat.reduceSub, Nat.reduceBEq, Nat.reduceLeDiff, Nat.reduceLT, reduceIte, reduceCtorEq, List.reduceReplicate, Int.reduceToNat, Int.reduceLE, Int.reduceLT, eI, e32, eTy, eIns, eCls, eMeth, eImg, eSl, ty_eta, ins_eta, cls_eta, meth_eta, img_eta, nr_I, nr_32, nr_T, nr_N, nr_C, nr_M, getD_map_mid, h67, s67_eq, s67_eq _ _ _ _ _ _ _ _ (hk _), hws, List.length_map]; rfl) (by first | rfl | (simp [gle_iff]; done) | (simp [gle_iff]; omega) | grind [gle]) ?_ -- r4
    refine awp_retb (fun h => h) rfl ?_ -- leaf 1
    first | rfl | grind [f69, namedS, f67]
  ·
    refine awp_seq ?_
    refine awp_rs hK (by simp only [EV, xreg, xops, xop, vop, eop, AOp.eff, ap1, ap2, ov, ovs, ovo, rd, upd, look, gcond, abin, aaeq, aeqs, abeq, asbin, aisnil, asnil, aun, acv, afa, aia, ald, abnd, asl, assl, afd, aix, aex, aln, alns, amxs, amx2, anc, apick, newAt, hget, put, AV.whole, AV.isCell, oneCell, fillParts, slCells, asInt?, pcallX, AV.norefs, AV.noref, AV.scalar, AV.scalars, Nat.reduceEqDiff, Nat.reduceAdd, Nat.reduceMul, Nat.reduceSub, Nat.reduceBEq, Nat.reduceLeDiff, Nat.reduceLT, reduceIte, reduceCtorEq, List.reduceReplicate, Int.reduceToNat, Int.reduceLE, Int.reduceLT, eI, e32, eTy, eIns, eCls, eMeth, eImg, eSl, ty_eta, ins_eta, cls_eta, meth_eta, img_eta, nr_I, nr_32, nr_T, nr_N, nr_C, nr_M, getD_map_mid, h67, s67_eq, s67_eq _ _ _ _ _ _ _ _ (hk _), hws, List.length_map]; rfl) (by first | rfl | (simp [gle_iff]; done) | (simp [gle_iff]; omega) | grind [gle]) ?_ -- r5
    refine awp_if rfl (fun hc2 => ?_) (fun hc2 => ?_)
    ·
      refine awp_skip ?_
      simp only [Ex.then_normal, Ex.then_exit, Ex.then_ret, Ex.blk_normal, Ex.blk_exit, Ex.blk_ret, if_true, if_false, reduceIte, reduceCtorEq, Nat.reduceEqDiff]
      refine awp_cond (b := true) (congrArg AV.bool hc2) ?_
      simp only [Ex.then_normal, Ex.then_exit, Ex.then_ret, Ex.blk_normal, Ex.blk_exit, Ex.blk_ret, if_true, if_false, reduceIte, reduceCtorEq, Nat.reduceEqDiff]
      refine awp_rs hK (by simp only [EV, xreg, xops, xop, vop, eop, AOp.eff, ap1, ap2, ov, ovs, ovo, rd, upd, look, gcond, abin, aaeq, aeqs, abeq, asbin, aisnil, asnil, aun, acv, afa, aia, ald, abnd, asl, assl, afd, aix, aex, aln, alns, amxs, amx2, anc, apick, newAt, hget, put, AV.whole, AV.isCell, oneCell, fillParts, slCells, asInt?, pcallX, AV.norefs, AV.noref, AV.scalar, AV.scalars, Nat.reduceEqDiff, Nat.reduceAdd, Nat.reduceMul, Nat.reduceSub, Nat.reduceBEq, Nat.reduceLeDiff, Nat.reduceLT, reduceIte, reduceCtorEq, List.reduceReplicate, Int.reduceToNat, Int.reduceLE, Int.reduceLT, eI, e32, eTy, eIns, eCls, eMeth, eImg, eSl, ty_eta, ins_eta, cls_eta, meth_eta, img_eta, nr_I, nr_32, nr_T, nr_N, nr_C, nr_M, getD_map_mid, h67, s67_eq, s67_eq _ _ _ _ _ _ _ _ (hk _), hws, List.length_map]; rfl) (by first | rfl | (simp [gle_iff]; done) | (simp [gle_iff]; omega) | grind [gle]) ?_ -- r7
      refine awp_retb (fun h => h) rfl ?_ -- leaf 2
      first | rfl | grind [f69, namedS, f67]
    ·
      refine awp_r1 hK (by simp only [EV, xreg, xops, xop, vop, eop, AOp.eff, ap1, ap2, ov, ovs, ovo, rd, upd, look, gcond, abin, aaeq, aeqs, abeq, asbin, aisnil, asnil, aun, acv, afa, aia, ald, abnd, asl, assl, afd, aix, aex, aln, alns, amxs, amx2, anc, apick, newAt, hget, put, AV.whole, AV.isCell, oneCell, fillParts, slCells, asInt?, pcallX, AV.norefs, AV.noref, AV.scalar, AV.scalars, Nat.reduceEqDiff, Nat.reduceAdd, Nat.reduceMul, Nat.reduceSub, Nat.reduceBEq, Nat.reduceLeDiff, Nat.reduceLT, reduceIte, reduceCtorEq, List.reduceReplicate, Int.reduceToNat, Int.reduceLE, Int.reduceLT, eI, e32, eTy, eIns, eCls, eMeth, eImg, eSl, ty_eta, ins_eta, cls_eta, meth_eta, img_eta, nr_I, nr_32, nr_T, nr_N, nr_C, nr_M, getD_map_mid, h67, s67_eq, s67_eq _ _ _ _ _ _ _ _ (hk _), hws, List.length_map]; rfl) (by first | rfl | (simp [gle_iff]; done) | (simp [gle_iff]; omega) | grind [gle]) ?_ -- r6
      simp only [Ex.then_normal, Ex.then_exit, Ex.then_ret, Ex.blk_normal, Ex.blk_exit, Ex.blk_ret, if_true, if_false, reduceIte, reduceCtorEq, Nat.reduceEqDiff]
      refine awp_if rfl (fun hc3 => ?_) (fun hc3 => ?_)
      ·
        refine awp_rs hK (by simp only [EV, xreg, xops, xop, vop, eop, AOp.eff, ap1, ap2, ov, ovs, ovo, rd, upd, look, gcond, abin, aaeq, aeqs, abeq, asbin, aisnil, asnil, aun, acv, afa, aia, ald, abnd, asl, assl, afd, aix, aex, aln, alns, amxs, amx2, anc, apick, newAt, hget, put, AV.whole, AV.isCell, oneCell, fillParts, slCells, asInt?, pcallX, AV.norefs, AV.noref, AV.scalar, AV.scalars, Nat.reduceEqDiff, Nat.reduceAdd, Nat.reduceMul, Nat.reduceSub, Nat.reduceBEq, Nat.reduceLeDiff, Nat.reduceLT, reduceIte, reduceCtorEq, List.reduceReplicate, Int.reduceToNat, Int.reduceLE, Int.reduceLT, eI, e32, eTy, eIns, eCls, eMeth, eImg, eSl, ty_eta, ins_eta, cls_eta, meth_eta, img_eta, nr_I, nr_32, nr_T, nr_N, nr_C, nr_M, getD_map_mid, h67, s67_eq, s67_eq _ _ _ _ _ _ _ _ (hk _), hws, List.length_map]; rfl) (by first | rfl | (simp [gle_iff]; done) | (simp [gle_iff]; omega) | grind [gle]) ?_ -- r7
        refine awp_retb (fun h => h) rfl ?_ -- leaf 3
        first | rfl | grind [f69, namedS, f67]
      ·
        refine awp_seq ?_
        refine awp_rs hK (by simp only [EV, xreg, xops, xop, vop, eop, AOp.eff, ap1, ap2, ov, ovs, ovo, rd, upd, look, gcond, abin, aaeq, aeqs, abeq, asbin, aisnil, asnil, aun, acv, afa, aia, ald, abnd, asl, assl, afd, aix, aex, aln, alns, amxs, amx2, anc, apick, newAt, hget, put, AV.whole, AV.isCell, oneCell, fillParts, slCells, asInt?, pcallX, AV.norefs, AV.noref, AV.scalar, AV.scalars, Nat.reduceEqDiff, Nat.reduceAdd, Nat.reduceMul, Nat.reduceSub, Nat.reduceBEq, Nat.reduceLeDiff, Nat.reduceLT, reduceIte, reduceCtorEq, List.reduceReplicate, Int.reduceToNat, Int.reduceLE, Int.reduceLT, eI, e32, eTy, eIns, eCls, eMeth, eImg, eSl, ty_eta, ins_eta, cls_eta, meth_eta, img_eta, nr_I, nr_32, nr_T, nr_N, nr_C, nr_M, getD_map_mid, h67, s67_eq, s67_eq _ _ _ _ _ _ _ _ (hk _), hws, List.length_map]; rfl) (by first | rfl | (simp [gle_iff]; done) | (simp [gle_iff]; omega) | grind [gle]) ?_ -- r8
        refine awp_if rfl (fun hc4 => ?_) (fun hc4 => ?_)
        ·
          refine awp_skip ?_
          simp only [Ex.then_normal, Ex.then_exit, Ex.then_ret, Ex.blk_normal, Ex.blk_exit, Ex.blk_ret, if_true, if_false, reduceIte, reduceCtorEq, Nat.reduceEqDiff]
          refine awp_cond (b := true) (congrArg AV.bool hc4) ?_
          simp only [Ex.then_normal, Ex.then_exit, Ex.then_ret, Ex.blk_normal, Ex.blk_exit, Ex.blk_ret, if_true, if_false, reduceIte, reduceCtorEq, Nat.reduceEqDiff]
          refine awp_rs hK (by simp only [EV, xreg, xops, xop, vop, eop, AOp.eff, ap1, ap2, ov, ovs, ovo, rd, upd, look, gcond, abin, aaeq, aeqs, abeq, asbin, aisnil, asnil, aun, acv, afa, aia, ald, abnd, asl, assl, afd, aix, aex, aln, alns, amxs, amx2, anc, apick, newAt, hget, put, AV.whole, AV.isCell, oneCell, fillParts, slCells, asInt?, pcallX, AV.norefs, AV.noref, AV.scalar, AV.scalars, Nat.reduceEqDiff, Nat.reduceAdd, Nat.reduceMul, Nat.reduceSub, Nat.reduceBEq, Nat.reduceLeDiff, Nat.reduceLT, reduceIte, reduceCtorEq, List.reduceReplicate, Int.reduceToNat, Int.reduceLE, Int.reduceLT, eI, e32, eTy, eIns, eCls, eMeth, eImg, eSl, ty_eta, ins_eta, cls_eta, meth_eta, img_eta, nr_I, nr_32, nr_T, nr_N, nr_C, nr_M, getD_map_mid, h67, s67_eq, s67_eq _ _ _ _ _ _ _ _ (hk _), hws, List.length_map]; rfl) (by first | rfl | (simp [gle_iff]; done) | (simp [gle_iff]; omega) | grind [gle]) ?_ -- r10
          refine awp_retb (fun h => h) rfl ?_ -- leaf 4
          first | rfl | grind [f69, namedS, f67]
        ·
          refine awp_r1 hK (by simp only [EV, xreg, xops, xop, vop, eop, AOp.eff, ap1, ap2, ov, ovs, ovo, rd, upd, look, gcond, abin, aaeq, aeqs, abeq, asbin, aisnil, asnil, aun, acv, afa, aia, ald, abnd, asl, assl, afd, aix, aex, aln, alns, amxs, amx2, anc, apick, newAt, hget, put, AV.whole, AV.isCell, oneCell, fillParts, slCells, asInt?, pcallX, AV.norefs, AV.noref, AV.scalar, AV.scalars, Nat.reduceEqDiff, Nat.reduceAdd, Nat.reduceMul, Nat.reduceSub, Nat.reduceBEq, Nat.reduceLeDiff, Nat.reduceLT, reduceIte, reduceCtorEq, List.reduceReplicate, Int.reduceToNat, Int.reduceLE, Int.reduceLT, eI, e32, eTy, eIns, eCls, eMeth, eImg, eSl, ty_eta, ins_eta, cls_eta, meth_eta, img_eta, nr_I, nr_32, nr_T, nr_N, nr_C, nr_M, getD_map_mid, h67, s67_eq, s67_eq _ _ _ _ _ _ _ _ (hk _), hws, List.length_map]; rfl) (by first | rfl | (simp [gle_iff]; done) | (simp [gle_iff]; omega) | grind [gle]) ?_ -- r9
          simp only [Ex.then_normal, Ex.then_exit, Ex.then_ret, Ex.blk_normal, Ex.blk_exit, Ex.blk_ret, if_true, if_false, reduceIte, reduceCtorEq, Nat.reduceEqDiff]
          refine awp_if rfl (fun hc5 => ?_) (fun hc5 => ?_)
          ·
            refine awp_rs hK (by simp only [EV, xreg, xops, xop, vop, eop, AOp.eff, ap1, ap2, ov, ovs, ovo, rd, upd, look, gcond, abin, aaeq, aeqs, abeq, asbin, aisnil, asnil, aun, acv, afa, aia, ald, abnd, asl, assl, afd, aix, aex, aln, alns, amxs, amx2, anc, apick, newAt, hget, put, AV.whole, AV.isCell, oneCell, fillParts, slCells, asInt?, pcallX, AV.norefs, AV.noref, AV.scalar, AV.scalars, Nat.reduceEqDiff, Nat.reduceAdd, Nat.reduceMul, Nat.reduceSub, Nat.reduceBEq, Nat.reduceLeDiff, Nat.reduceLT, reduceIte, reduceCtorEq, List.reduceReplicate, Int.reduceToNat, Int.reduceLE, Int.reduceLT, eI, e32, eTy, eIns, eCls, eMeth, eImg, eSl, ty_eta, ins_eta, cls_eta, meth_eta, img_eta, nr_I, nr_32, nr_T, nr_N, nr_C, nr_M, getD_map_mid, h67, s67_eq, s67_eq _ _ _ _ _ _ _ _ (hk _), hws, List.length_map]; rfl) (by first | rfl | (simp [gle_iff]; done) | (simp [gle_iff]; omega) | grind [gle]) ?_ -- r10
            refine awp_retb (fun h => h) rfl ?_ -- leaf 5
            first | rfl | grind [f69, namedS, f67]
          ·
            refine awp_seq ?_
            refine awp_rs hK (by simp only [EV, xreg, xops, xop, vop, eop, AOp.eff, ap1, ap2, ov, ovs, ovo, rd, upd, look, gcond, abin, aaeq, aeqs, abeq, asbin, aisnil, asnil, aun, acv, afa, aia, ald, abnd, asl, assl, afd, aix, aex, aln, alns, amxs, amx2, anc, apick, newAt, hget, put, AV.whole, AV.isCell, oneCell, fillParts, slCells, asInt?, pcallX, AV.norefs, AV.noref, AV.scalar, AV.scalars, Nat.reduceEqDiff, Nat.reduceAdd, Nat.reduceMul, Nat.reduceSub, Nat.reduceBEq, Nat.reduceLeDiff, Nat.reduceLT, reduceIte, reduceCtorEq, List.reduceReplicate, Int.reduceToNat, Int.reduceLE, Int.reduceLT, eI, e32, eTy, eIns, eCls, eMeth, eImg, eSl, ty_eta, ins_eta, cls_eta, meth_eta, img_eta, nr_I, nr_32, nr_T, nr_N, nr_C, nr_M, getD_map_mid, h67, s67_eq, s67_eq _ _ _ _ _ _ _ _ (hk _), hws, List.length_map]; rfl) (by first | rfl | (simp [gle_iff]; done) | (simp [gle_iff]; omega) | grind [gle]) ?_ -- r11
            refine awp_if rfl (fun hc6 => ?_) (fun hc6 => ?_)
            ·
              refine awp_skip ?_
              simp only [Ex.then_normal, Ex.then_exit, Ex.then_ret, Ex.blk_normal, Ex.blk_exit, Ex.blk_ret, if_true, if_false, reduceIte, reduceCtorEq, Nat.reduceEqDiff]
              refine awp_cond (b := true) (congrArg AV.bool hc6) ?_
              simp only [Ex.then_normal, Ex.then_exit, Ex.then_ret, Ex.blk_normal, Ex.blk_exit, Ex.blk_ret, if_true, if_false, reduceIte, reduceCtorEq, Nat.reduceEqDiff]
              refine awp_rs hK (by simp only [EV, xreg, xops, xop, vop, eop, AOp.eff, ap1, ap2, ov, ovs, ovo, rd, upd, look, gcond, abin, aaeq, aeqs, abeq, asbin, aisnil, asnil, aun, acv, afa, aia, ald, abnd, asl, assl, afd, aix, aex, aln, alns, amxs, amx2, anc, apick, newAt, hget, put, AV.whole, AV.isCell, oneCell, fillParts, slCells, asInt?, pcallX, AV.norefs, AV.noref, AV.scalar, AV.scalars, Nat.reduceEqDiff, Nat.reduceAdd, Nat.reduceMul, Nat.reduceSub, Nat.reduceBEq, Nat.reduceLeDiff, Nat.reduceLT, reduceIte, reduceCtorEq, List.reduceReplicate, Int.reduceToNat, Int.reduceLE, Int.reduceLT, eI, e32, eTy, eIns, eCls, eMeth, eImg, eSl, ty_eta, ins_eta, cls_eta, meth_eta, img_eta, nr_I, nr_32, nr_T, nr_N, nr_C, nr_M, getD_map_mid, h67, s67_eq, s67_eq _ _ _ _ _ _ _ _ (hk _), hws, List.length_map]; rfl) (by first | rfl | (simp [gle_iff]; done) | (simp [gle_iff]; omega) | grind [gle]) ?_ -- r13
              refine awp_retb (fun h => h) rfl ?_ -- leaf 6
              first | rfl | grind [f69, namedS, f67]
            ·
              refine awp_r1 hK (by simp only [EV, xreg, xops, xop, vop, eop, AOp.eff, ap1, ap2, ov, ovs, ovo, rd, upd, look, gcond, abin, aaeq, aeqs, abeq, asbin, aisnil, asnil, aun, acv, afa, aia, ald, abnd, asl, assl, afd, aix, aex, aln, alns, amxs, amx2, anc, apick, newAt, hget, put, AV.whole, AV.isCell, oneCell, fillParts, slCells, asInt?, pcallX, AV.norefs, AV.noref, AV.scalar, AV.scalars, Nat.reduceEqDiff, Nat.reduceAdd, Nat.reduceMul, Nat.reduceSub, Nat.reduceBEq, Nat.reduceLeDiff, Nat.reduceLT, reduceIte, reduceCtorEq, List.reduceReplicate, Int.reduceToNat, Int.reduceLE, Int.reduceLT, eI, e32, eTy, eIns, eCls, eMeth, eImg, eSl, ty_eta, ins_eta, cls_eta, meth_eta, img_eta, nr_I, nr_32, nr_T, nr_N, nr_C, nr_M, getD_map_mid, h67, s67_eq, s67_eq _ _ _ _ _ _ _ _ (hk _), hws, List.length_map]; rfl) (by first | rfl | (simp [gle_iff]; done) | (simp [gle_iff]; omega) | grind [gle]) ?_ -- r12
              simp only [Ex.then_normal, Ex.then_exit, Ex.then_ret, Ex.blk_normal, Ex.blk_exit, Ex.blk_ret, if_true, if_false, reduceIte, reduceCtorEq, Nat.reduceEqDiff]
              refine awp_if rfl (fun hc7 => ?_) (fun hc7 => ?_)
              ·
                refine awp_rs hK (by simp only [EV, xreg, xops, xop, vop, eop, AOp.eff, ap1, ap2, ov, ovs, ovo, rd, upd, look, gcond, abin, aaeq, aeqs, abeq, asbin, aisnil, asnil, aun, acv, afa, aia, ald, abnd, asl, assl, afd, aix, aex, aln, alns, amxs, amx2, anc, apick, newAt, hget, put, AV.whole, AV.isCell, oneCell, fillParts, slCells, asInt?, pcallX, AV.norefs, AV.noref, AV.scalar, AV.scalars, Nat.reduceEqDiff, Nat.reduceAdd, Nat.reduceMul, Nat.reduceSub, Nat.reduceBEq, Nat.reduceLeDiff, Nat.reduceLT, reduceIte, reduceCtorEq, List.reduceReplicate, Int.reduceToNat, Int.reduceLE, Int.reduceLT, eI, e32, eTy, eIns, eCls, eMeth, eImg, eSl, ty_eta, ins_eta, cls_eta, meth_eta, img_eta, nr_I, nr_32, nr_T, nr_N, nr_C, nr_M, getD_map_mid, h67, s67_eq, s67_eq _ _ _ _ _ _ _ _ (hk _), hws, List.length_map]; rfl) (by first | rfl | (simp [gle_iff]; done) | (simp [gle_iff]; omega) | grind [gle]) ?_ -- r13
                refine awp_retb (fun h => h) rfl ?_ -- leaf 7
                first | rfl | grind [f69, namedS, f67]
              ·
                refine awp_seq ?_
                refine awp_rs hK (by simp only [EV, xreg, xops, xop, vop, eop, AOp.eff, ap1, ap2, ov, ovs, ovo, rd, upd, look, gcond, abin, aaeq, aeqs, abeq, asbin, aisnil, asnil, aun, acv, afa, aia, ald, abnd, asl, assl, afd, aix, aex, aln, alns, amxs, amx2, anc, apick, newAt, hget, put, AV.whole, AV.isCell, oneCell, fillParts, slCells, asInt?, pcallX, AV.norefs, AV.noref, AV.scalar, AV.scalars, Nat.reduceEqDiff, Nat.reduceAdd, Nat.reduceMul, Nat.reduceSub, Nat.reduceBEq, Nat.reduceLeDiff, Nat.reduceLT, reduceIte, reduceCtorEq, List.reduceReplicate, Int.reduceToNat, Int.reduceLE, Int.reduceLT, eI, e32, eTy, eIns, eCls, eMeth, eImg, eSl, ty_eta, ins_eta, cls_eta, meth_eta, img_eta, nr_I, nr_32, nr_T, nr_N, nr_C, nr_M, getD_map_mid, h67, s67_eq, s67_eq _ _ _ _ _ _ _ _ (hk _), hws, List.length_map]; rfl) (by first | rfl | (simp [gle_iff]; done) | (simp [gle_iff]; omega) | grind [gle]) ?_ -- r14
                refine awp_if rfl (fun hc8 => ?_) (fun hc8 => ?_)
                ·
                  refine awp_skip ?_
                  simp only [Ex.then_normal, Ex.then_exit, Ex.then_ret, Ex.blk_normal, Ex.blk_exit, Ex.blk_ret, if_true, if_false, reduceIte, reduceCtorEq, Nat.reduceEqDiff]
                  refine awp_cond (b := true) (congrArg AV.bool hc8) ?_
                  simp only [Ex.then_normal, Ex.then_exit, Ex.then_ret, Ex.blk_normal, Ex.blk_exit, Ex.blk_ret, if_true, if_false, reduceIte, reduceCtorEq, Nat.reduceEqDiff]
                  refine awp_rs hK (by simp only [EV, xreg, xops, xop, vop, eop, AOp.eff, ap1, ap2, ov, ovs, ovo, rd, upd, look, gcond, abin, aaeq, aeqs, abeq, asbin, aisnil, asnil, aun, acv, afa, aia, ald, abnd, asl, assl, afd, aix, aex, aln, alns, amxs, amx2, anc, apick, newAt, hget, put, AV.whole, AV.isCell, oneCell, fillParts, slCells, asInt?, pcallX, AV.norefs, AV.noref, AV.scalar, AV.scalars, Nat.reduceEqDiff, Nat.reduceAdd, Nat.reduceMul, Nat.reduceSub, Nat.reduceBEq, Nat.reduceLeDiff, Nat.reduceLT, reduceIte, reduceCtorEq, List.reduceReplicate, Int.reduceToNat, Int.reduceLE, Int.reduceLT, eI, e32, eTy, eIns, eCls, eMeth, eImg, eSl, ty_eta, ins_eta, cls_eta, meth_eta, img_eta, nr_I, nr_32, nr_T, nr_N, nr_C, nr_M, getD_map_mid, h67, s67_eq, s67_eq _ _ _ _ _ _ _ _ (hk _), hws, List.length_map]; rfl) (by first | rfl | (simp [gle_iff]; done) | (simp [gle_iff]; omega) | grind [gle]) ?_ -- r16
                  refine awp_retb (fun h => h) rfl ?_ -- leaf 8
                  first | rfl | grind [f69, namedS, f67]
                ·
                  refine awp_r1 hK (by simp only [EV, xreg, xops, xop, vop, eop, AOp.eff, ap1, ap2, ov, ovs, ovo, rd, upd, look, gcond, abin, aaeq, aeqs, abeq, asbin, aisnil, asnil, aun, acv, afa, aia, ald, abnd, asl, assl, afd, aix, aex, aln, alns, amxs, amx2, anc, apick, newAt, hget, put, AV.whole, AV.isCell, oneCell, fillParts, slCells, asInt?, pcallX, AV.norefs, AV.noref, AV.scalar, AV.scalars, Nat.reduceEqDiff, Nat.reduceAdd, Nat.reduceMul, Nat.reduceSub, Nat.reduceBEq, Nat.reduceLeDiff, Nat.reduceLT, reduceIte, reduceCtorEq, List.reduceReplicate, Int.reduceToNat, Int.reduceLE, Int.reduceLT, eI, e32, eTy, eIns, eCls, eMeth, eImg, eSl, ty_eta, ins_eta, cls_eta, meth_eta, img_eta, nr_I, nr_32, nr_T, nr_N, nr_C, nr_M, getD_map_mid, h67, s67_eq, s67_eq _ _ _ _ _ _ _ _ (hk _), hws, List.length_map]; rfl) (by first | rfl | (simp [gle_iff]; done) | (simp [gle_iff]; omega) | grind [gle]) ?_ -- r15
                  simp only [Ex.then_normal, Ex.then_exit, Ex.then_ret, Ex.blk_normal, Ex.blk_exit, Ex.blk_ret, if_true, if_false, reduceIte, reduceCtorEq, Nat.reduceEqDiff]
                  refine awp_if rfl (fun hc9 => ?_) (fun hc9 => ?_)
                  ·
                    refine awp_rs hK (by simp only [EV, xreg, xops, xop, vop, eop, AOp.eff, ap1, ap2, ov, ovs, ovo, rd, upd, look, gcond, abin, aaeq, aeqs, abeq, asbin, aisnil, asnil, aun, acv, afa, aia, ald, abnd, asl, assl, afd, aix, aex, aln, alns, amxs, amx2, anc, apick, newAt, hget, put, AV.whole, AV.isCell, oneCell, fillParts, slCells, asInt?, pcallX, AV.norefs, AV.noref, AV.scalar, AV.scalars, Nat.reduceEqDiff, Nat.reduceAdd, Nat.reduceMul, Nat.reduceSub, Nat.reduceBEq, Nat.reduceLeDiff, Nat.reduceLT, reduceIte, reduceCtorEq, List.reduceReplicate, Int.reduceToNat, Int.reduceLE, Int.reduceLT, eI, e32, eTy, eIns, eCls, eMeth, eImg, eSl, ty_eta, ins_eta, cls_eta, meth_eta, img_eta, nr_I, nr_32, nr_T, nr_N, nr_C, nr_M, getD_map_mid, h67, s67_eq, s67_eq _ _ _ _ _ _ _ _ (hk _), hws, List.length_map]; rfl) (by first | rfl | (simp [gle_iff]; done) | (simp [gle_iff]; omega) | grind [gle]) ?_ -- r16
                    refine awp_retb (fun h => h) rfl ?_ -- leaf 9
                    first | rfl | grind [f69, namedS, f67]
                  ·
                    refine awp_seq ?_
                    refine awp_rs hK (by simp only [EV, xreg, xops, xop, vop, eop, AOp.eff, ap1, ap2, ov, ovs, ovo, rd, upd, look, gcond, abin, aaeq, aeqs, abeq, asbin, aisnil, asnil, aun, acv, afa, aia, ald, abnd, asl, assl, afd, aix, aex, aln, alns, amxs, amx2, anc, apick, newAt, hget, put, AV.whole, AV.isCell, oneCell, fillParts, slCells, asInt?, pcallX, AV.norefs, AV.noref, AV.scalar, AV.scalars, Nat.reduceEqDiff, Nat.reduceAdd, Nat.reduceMul, Nat.reduceSub, Nat.reduceBEq, Nat.reduceLeDiff, Nat.reduceLT, reduceIte, reduceCtorEq, List.reduceReplicate, Int.reduceToNat, Int.reduceLE, Int.reduceLT, eI, e32, eTy, eIns, eCls, eMeth, eImg, eSl, ty_eta, ins_eta, cls_eta, meth_eta, img_eta, nr_I, nr_32, nr_T, nr_N, nr_C, nr_M, getD_map_mid, h67, s67_eq, s67_eq _ _ _ _ _ _ _ _ (hk _), hws, List.length_map]; rfl) (by first | rfl | (simp [gle_iff]; done) | (simp [gle_iff]; omega) | grind [gle]) ?_ -- r17
                    refine awp_if rfl (fun hc10 => ?_) (fun hc10 => ?_)
                    ·
                      refine awp_skip ?_
                      simp only [Ex.then_normal, Ex.then_exit, Ex.then_ret, Ex.blk_normal, Ex.blk_exit, Ex.blk_ret, if_true, if_false, reduceIte, reduceCtorEq, Nat.reduceEqDiff]
                      refine awp_cond (b := true) (congrArg AV.bool hc10) ?_
                      simp only [Ex.then_normal, Ex.then_exit, Ex.then_ret, Ex.blk_normal, Ex.blk_exit, Ex.blk_ret, if_true, if_false, reduceIte, reduceCtorEq, Nat.reduceEqDiff]
                      refine awp_rs hK (by simp only [EV, xreg, xops, xop, vop, eop, AOp.eff, ap1, ap2, ov, ovs, ovo, rd, upd, look, gcond, abin, aaeq, aeqs, abeq, asbin, aisnil, asnil, aun, acv, afa, aia, ald, abnd, asl, assl, afd, aix, aex, aln, alns, amxs, amx2, anc, apick, newAt, hget, put, AV.whole, AV.isCell, oneCell, fillParts, slCells, asInt?, pcallX, AV.norefs, AV.noref, AV.scalar, AV.scalars, Nat.reduceEqDiff, Nat.reduceAdd, Nat.reduceMul, Nat.reduceSub, Nat.reduceBEq, Nat.reduceLeDiff, Nat.reduceLT, reduceIte, reduceCtorEq, List.reduceReplicate, Int.reduceToNat, Int.reduceLE, Int.reduceLT, eI, e32, eTy, eIns, eCls, eMeth, eImg, eSl, ty_eta, ins_eta, cls_eta, meth_eta, img_eta, nr_I, nr_32, nr_T, nr_N, nr_C, nr_M, getD_map_mid, h67, s67_eq, s67_eq _ _ _ _ _ _ _ _ (hk _), hws, List.length_map]; rfl) (by first | rfl | (simp [gle_iff]; done) | (simp [gle_iff]; omega) | grind [gle]) ?_ -- r19
                      refine awp_retb (fun h => h) rfl ?_ -- leaf 10
                      first | rfl | grind [f69, namedS, f67]
                    ·
                      refine awp_r1 hK (by simp only [EV, xreg, xops, xop, vop, eop, AOp.eff, ap1, ap2, ov, ovs, ovo, rd, upd, look, gcond, abin, aaeq, aeqs, abeq, asbin, aisnil, asnil, aun, acv, afa, aia, ald, abnd, asl, assl, afd, aix, aex, aln, alns, amxs, amx2, anc, apick, newAt, hget, put, AV.whole, AV.isCell, oneCell, fillParts, slCells, asInt?, pcallX, AV.norefs, AV.noref, AV.scalar, AV.scalars, Nat.reduceEqDiff, Nat.reduceAdd, Nat.reduceMul, Nat.reduceSub, Nat.reduceBEq, Nat.reduceLeDiff, Nat.reduceLT, reduceIte, reduceCtorEq, List.reduceReplicate, Int.reduceToNat, Int.reduceLE, Int.reduceLT, eI, e32, eTy, eIns, eCls, eMeth, eImg, eSl, ty_eta, ins_eta, cls_eta, meth_eta, img_eta, nr_I, nr_32, nr_T, nr_N, nr_C, nr_M, getD_map_mid, h67, s67_eq, s67_eq _ _ _ _ _ _ _ _ (hk _), hws, List.length_map]; rfl) (by first | rfl | (simp [gle_iff]; done) | (simp [gle_iff]; omega) | grind [gle]) ?_ -- r18
                      simp only [Ex.then_normal, Ex.then_exit, Ex.then_ret, Ex.blk_normal, Ex.blk_exit, Ex.blk_ret, if_true, if_false, reduceIte, reduceCtorEq, Nat.reduceEqDiff]
                      refine awp_if rfl (fun hc11 => ?_) (fun hc11 => ?_)
                      ·
                        refine awp_rs hK (by simp only [EV, xreg, xops, xop, vop, eop, AOp.eff, ap1, ap2, ov, ovs, ovo, rd, upd, look, gcond, abin, aaeq, aeqs, abeq, asbin, aisnil, asnil, aun, acv, afa, aia, ald, abnd, asl, assl, afd, aix, aex, aln, alns, amxs, amx2, anc, apick, newAt, hget, put, AV.whole, AV.isCell, oneCell, fillParts, slCells, asInt?, pcallX, AV.norefs, AV.noref, AV.scalar, AV.scalars, Nat.reduceEqDiff, Nat.reduceAdd, Nat.reduceMul, Nat.reduceSub, Nat.reduceBEq, Nat.reduceLeDiff, Nat.reduceLT, reduceIte, reduceCtorEq, List.reduceReplicate, Int.reduceToNat, Int.reduceLE, Int.reduceLT, eI, e32, eTy, eIns, eCls, eMeth, eImg, eSl, ty_eta, ins_eta, cls_eta, meth_eta, img_eta, nr_I, nr_32, nr_T, nr_N, nr_C, nr_M, getD_map_mid, h67, s67_eq, s67_eq _ _ _ _ _ _ _ _ (hk _), hws, List.length_map]; rfl) (by first | rfl | (simp [gle_iff]; done) | (simp [gle_iff]; omega) | grind [gle]) ?_ -- r19
                        refine awp_retb (fun h => h) rfl ?_ -- leaf 11
                        first | rfl | grind [f69, namedS, f67]
                      ·
                        refine awp_rs hK (by simp only [EV, xreg, xops, xop, vop, eop, AOp.eff, ap1, ap2, ov, ovs, ovo, rd, upd, look, gcond, abin, aaeq, aeqs, abeq, asbin, aisnil, asnil, aun, acv, afa, aia, ald, abnd, asl, assl, afd, aix, aex, aln, alns, amxs, amx2, anc, apick, newAt, hget, put, AV.whole, AV.isCell, oneCell, fillParts, slCells, asInt?, pcallX, AV.norefs, AV.noref, AV.scalar, AV.scalars, Nat.reduceEqDiff, Nat.reduceAdd, Nat.reduceMul, Nat.reduceSub, Nat.reduceBEq, Nat.reduceLeDiff, Nat.reduceLT, reduceIte, reduceCtorEq, List.reduceReplicate, Int.reduceToNat, Int.reduceLE, Int.reduceLT, eI, e32, eTy, eIns, eCls, eMeth, eImg, eSl, ty_eta, ins_eta, cls_eta, meth_eta, img_eta, nr_I, nr_32, nr_T, nr_N, nr_C, nr_M, getD_map_mid, h67, s67_eq, s67_eq _ _ _ _ _ _ _ _ (hk _), hws, List.length_map]; rfl) (by first | rfl | (simp [gle_iff]; done) | (simp [gle_iff]; omega) | grind [gle]) ?_ -- r20
                        refine awp_if rfl (fun hc12 => ?_) (fun hc12 => ?_)
                        ·
                          refine awp_rs hK (by simp only [EV, xreg, xops, xop, vop, eop, AOp.eff, ap1, ap2, ov, ovs, ovo, rd, upd, look, gcond, abin, aaeq, aeqs, abeq, asbin, aisnil, asnil, aun, acv, afa, aia, ald, abnd, asl, assl, afd, aix, aex, aln, alns, amxs, amx2, anc, apick, newAt, hget, put, AV.whole, AV.isCell, oneCell, fillParts, slCells, asInt?, pcallX, AV.norefs, AV.noref, AV.scalar, AV.scalars, Nat.reduceEqDiff, Nat.reduceAdd, Nat.reduceMul, Nat.reduceSub, Nat.reduceBEq, Nat.reduceLeDiff, Nat.reduceLT, reduceIte, reduceCtorEq, List.reduceReplicate, Int.reduceToNat, Int.reduceLE, Int.reduceLT, eI, e32, eTy, eIns, eCls, eMeth, eImg, eSl, ty_eta, ins_eta, cls_eta, meth_eta, img_eta, nr_I, nr_32, nr_T, nr_N, nr_C, nr_M, getD_map_mid, h67, s67_eq, s67_eq _ _ _ _ _ _ _ _ (hk _), hws, List.length_map]; rfl) (by first | rfl | (simp [gle_iff]; done) | (simp [gle_iff]; omega) | grind [gle]) ?_ -- r21
                          refine awp_retb (fun h => h) rfl ?_ -- leaf 12
                          first | rfl | grind [f69, namedS, f67]
                        ·
                          refine awp_rs hK (by simp only [EV, xreg, xops, xop, vop, eop, AOp.eff, ap1, ap2, ov, ovs, ovo, rd, upd, look, gcond, abin, aaeq, aeqs, abeq, asbin, aisnil, asnil, aun, acv, afa, aia, ald, abnd, asl, assl, afd, aix, aex, aln, alns, amxs, amx2, anc, apick, newAt, hget, put, AV.whole, AV.isCell, oneCell, fillParts, slCells, asInt?, pcallX, AV.norefs, AV.noref, AV.scalar, AV.scalars, Nat.reduceEqDiff, Nat.reduceAdd, Nat.reduceMul, Nat.reduceSub, Nat.reduceBEq, Nat.reduceLeDiff, Nat.reduceLT, reduceIte, reduceCtorEq, List.reduceReplicate, Int.reduceToNat, Int.reduceLE, Int.reduceLT, eI, e32, eTy, eIns, eCls, eMeth, eImg, eSl, ty_eta, ins_eta, cls_eta, meth_eta, img_eta, nr_I, nr_32, nr_T, nr_N, nr_C, nr_M, getD_map_mid, h67, s67_eq, s67_eq _ _ _ _ _ _ _ _ (hk _), hws, List.length_map]; rfl) (by first | rfl | (simp [gle_iff]; done) | (simp [gle_iff]; omega) | grind [gle]) ?_ -- r22
                          refine awp_if rfl (fun hc13 => ?_) (fun hc13 => ?_)
                          ·
                            have hop : i_op = 32 := by simpa using hc13
                            have h0 : 0 ≤ i_a := by simp [insW, argsOf, hop] at hins; omega
                            rcases Decidable.em (i_a < (m_classes.length : Int)) with hin | hin
                            ·
                              have hgc := getD_cls' m_classes i_a ⟨h0, hin⟩
                              have hd := decide_eq_true hin
                              refine awp_rs hK (by simp only [EV, xreg, xops, xop, vop, eop, AOp.eff, ap1, ap2, ov, ovs, ovo, rd, upd, look, gcond, abin, aaeq, aeqs, abeq, asbin, aisnil, asnil, aun, acv, afa, aia, ald, abnd, asl, assl, afd, aix, aex, aln, alns, amxs, amx2, anc, apick, newAt, hget, put, AV.whole, AV.isCell, oneCell, fillParts, slCells, asInt?, pcallX, AV.norefs, AV.noref, AV.scalar, AV.scalars, Nat.reduceEqDiff, Nat.reduceAdd, Nat.reduceMul, Nat.reduceSub, Nat.reduceBEq, Nat.reduceLeDiff, Nat.reduceLT, reduceIte, reduceCtorEq, List.reduceReplicate, Int.reduceToNat, Int.reduceLE, Int.reduceLT, eI, e32, eTy, eIns, eCls, eMeth, eImg, eSl, ty_eta, ins_eta, cls_eta, meth_eta, img_eta, nr_I, nr_32, nr_T, nr_N, nr_C, nr_M, getD_map_mid, h67, s67_eq, s67_eq _ _ _ _ _ _ _ _ (hk _), hws, List.length_map, hgc, hd, pickv_t, gle_t]; rfl) (by first | rfl | (simp [gle_iff]; done) | (simp [gle_iff]; omega) | grind [gle]) ?_ -- r23
                              refine awp_retb (fun h => h) rfl ?_ -- leaf 13
                              first | rfl | grind [f69, namedS, f67]
                            ·
                              have hd := decide_eq_false hin
                              refine awp_rs hK (by simp only [EV, xreg, xops, xop, vop, eop, AOp.eff, ap1, ap2, ov, ovs, ovo, rd, upd, look, gcond, abin, aaeq, aeqs, abeq, asbin, aisnil, asnil, aun, acv, afa, aia, ald, abnd, asl, assl, afd, aix, aex, aln, alns, amxs, amx2, anc, apick, newAt, hget, put, AV.whole, AV.isCell, oneCell, fillParts, slCells, asInt?, pcallX, AV.norefs, AV.noref, AV.scalar, AV.scalars, Nat.reduceEqDiff, Nat.reduceAdd, Nat.reduceMul, Nat.reduceSub, Nat.reduceBEq, Nat.reduceLeDiff, Nat.reduceLT, reduceIte, reduceCtorEq, List.reduceReplicate, Int.reduceToNat, Int.reduceLE, Int.reduceLT, eI, e32, eTy, eIns, eCls, eMeth, eImg, eSl, ty_eta, ins_eta, cls_eta, meth_eta, img_eta, nr_I, nr_32, nr_T, nr_N, nr_C, nr_M, getD_map_mid, h67, s67_eq, s67_eq _ _ _ _ _ _ _ _ (hk _), hws, List.length_map, hd, pickv_f, gle_f]; rfl) (by first | rfl | (simp [gle_iff]; done) | (simp [gle_iff]; omega) | grind [gle]) ?_ -- r23
                              refine awp_retb (fun h => h) rfl ?_ -- leaf 14
                              first | rfl | grind [f69, namedS, f67]
                          ·
                            refine awp_skip ?_
                            simp only [Ex.then_normal, Ex.then_exit, Ex.then_ret, Ex.blk_normal, Ex.blk_exit, Ex.blk_ret, if_true, if_false, reduceIte, reduceCtorEq, Nat.reduceEqDiff]
                            refine awp_rs hK (by simp only [EV, xreg, xops, xop, vop, eop, AOp.eff, ap1, ap2, ov, ovs, ovo, rd, upd, look, gcond, abin, aaeq, aeqs, abeq, asbin, aisnil, asnil, aun, acv, afa, aia, ald, abnd, asl, assl, afd, aix, aex, aln, alns, amxs, amx2, anc, apick, newAt, hget, put, AV.whole, AV.isCell, oneCell, fillParts, slCells, asInt?, pcallX, AV.norefs, AV.noref, AV.scalar, AV.scalars, Nat.reduceEqDiff, Nat.reduceAdd, Nat.reduceMul, Nat.reduceSub, Nat.reduceBEq, Nat.reduceLeDiff, Nat.reduceLT, reduceIte, reduceCtorEq, List.reduceReplicate, Int.reduceToNat, Int.reduceLE, Int.reduceLT, eI, e32, eTy, eIns, eCls, eMeth, eImg, eSl, ty_eta, ins_eta, cls_eta, meth_eta, img_eta, nr_I, nr_32, nr_T, nr_N, nr_C, nr_M, getD_map_mid, h67, s67_eq, s67_eq _ _ _ _ _ _ _ _ (hk _), hws, List.length_map]; rfl) (by first | rfl | (simp [gle_iff]; done) | (simp [gle_iff]; omega) | grind [gle]) ?_ -- r24
                            refine awp_retb (fun h => h) rfl ?_ -- leaf 15
                            first | rfl | grind [f69, namedS, f67]

end Go.Proofs.Yteelkalenpbmmaa.Ab

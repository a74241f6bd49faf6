import Derived.Test.YteelkalenpbmmaaAbs17
import Derived.Test.YteelkalenpbmmaaFns
import Derived.Test.YteelkalenpbmmaaW11
import Derived.Test.YteelkalenpbmmaaW14
import Derived.Test.YteelkalenpbmmaaW15
import Derived.Test.YteelkalenpbmmaaW16
set_option linter.unusedVariables false
set_option linter.unusedSimpArgs false
set_option maxRecDepth 20000
set_option maxHeartbeats 1000000
namespace Go.Proofs.Yteelkalenpbmmaa.Ab

theorem s33_one (m_classes : List Klass) (m_statics : List Ty) (m_ints : List Int) (m_methods : List Meth) (m_entries : List Int) (m_stack m_heap : Int) (a : List Ty) : s33 [.agg [.vsl 3 (List.map eCls m_classes), .vsl 2 (List.map eTy m_statics), .vsl 1 (List.map e32 m_ints), .vsl 8 (List.map eMeth m_methods), .vsl 1 (List.map eI m_entries), .int .i64 m_stack, .int .i64 m_heap], .vsl 1 [.vsl 2 (List.map eTy a)]] = some (.bool (f33 ⟨m_classes, m_statics, m_ints, m_methods, m_entries, m_stack, m_heap⟩ [a])) := s33_eq _ _ _ _ _ _ _ [a]
theorem s33_two (m_classes : List Klass) (m_statics : List Ty) (m_ints : List Int) (m_methods : List Meth) (m_entries : List Int) (m_stack m_heap : Int) (a b : List Ty) : s33 [.agg [.vsl 3 (List.map eCls m_classes), .vsl 2 (List.map eTy m_statics), .vsl 1 (List.map e32 m_ints), .vsl 8 (List.map eMeth m_methods), .vsl 1 (List.map eI m_entries), .int .i64 m_stack, .int .i64 m_heap], .vsl 1 [.vsl 2 (List.map eTy a), .vsl 2 (List.map eTy b)]] = some (.bool (f33 ⟨m_classes, m_statics, m_ints, m_methods, m_entries, m_stack, m_heap⟩ [a, b])) := s33_eq _ _ _ _ _ _ _ [a, b]
/- plimsoll/sane.class -/
def f34 (m : Img) (c : Int) : Bool := clsS m c
def ok34 (m : Img) (c : Int) : Prop := fits m = true ∧ (0 ≤ c ∧ c < m.classes.length) ∧ ∀ b, 0 ≤ b → b < c → clsS m b = true
noncomputable def s34 := fnOf (α := Img × Int) (fun a => ok34 (a.1) (a.2)) (fun a => [eImg a.1, eI a.2]) fun a => .bool (f34 (a.1) (a.2))
theorem s34_inj (a b : Img × Int) (h : [eImg a.1, eI a.2] = [eImg b.1, eI b.2]) : a = b := by
  obtain ⟨a0, a1⟩ := a; obtain ⟨b0, b1⟩ := b
  simp only [List.cons.injEq, and_true, true_and] at h
  rw [eImg_inj h.1, eI_inj h.2]
theorem s34_eq (m_classes : List Klass) (m_statics : List Ty) (m_ints : List Int) (m_methods : List Meth) (m_entries : List Int) (m_stack : Int) (m_heap : Int) (c : Int) (h : ok34 (⟨m_classes, m_statics, m_ints, m_methods, m_entries, m_stack, m_heap⟩ : Img) c) : s34 [.agg [.vsl 3 (List.map eCls m_classes), .vsl 2 (List.map eTy m_statics), .vsl 1 (List.map e32 m_ints), .vsl 8 (List.map eMeth m_methods), .vsl 1 (List.map eI m_entries), .int .i64 m_stack, .int .i64 m_heap], .int .i64 c] = some (.bool (f34 (⟨m_classes, m_statics, m_ints, m_methods, m_entries, m_stack, m_heap⟩ : Img) c)) := fnOf_enc (a := (⟨m_classes, m_statics, m_ints, m_methods, m_entries, m_stack, m_heap⟩, c)) s34_inj h
theorem s34_eqp (m : Img) (c : Int) (h : ok34 m c) : s34 [.agg [.vsl 3 (List.map eCls m.classes), .vsl 2 (List.map eTy m.statics), .vsl 1 (List.map e32 m.ints), .vsl 8 (List.map eMeth m.methods), .vsl 1 (List.map eI m.entries), .int .i64 m.stack, .int .i64 m.heap], .int .i64 c] = some (.bool (f34 m c)) := fnOf_enc (a := (m, c)) s34_inj h

theorem w34 {K : Cfg} (hK : KOk Try.prog K) (h33 : K.pcall 33 = s33) (h80 : K.pcall 80 = s80) (h81 : K.pcall 81 = s81) (h82 : K.pcall 82 = s82) (h83 : K.pcall 83 = s83) : PContract Try.prog 34 s34 := by
  refine pcontract_fn (K := K) s34_inj k34 fun a ha => ⟨of_decide_eq_true rfl, ?_⟩
  obtain ⟨m, c⟩ := a
  show AWP Try.prog K [0, 1, 2, 4, 5, 6, 7, 8, 9, 26, 46, 48, 49, 50, 51, 90] 92 c34 (RetP [0, 1, 2, 4, 5, 6, 7, 8, 9, 26, 46, 48, 49, 50, 51, 90] [.tmp 4] _) ⟨[_, _, _, _, _, _, _, _, _, _, _, _, _, _, _, _], []⟩
  refine awp_holds 0 fun hh_m => ?_
  have hw_m : m.Wf := Img.wf_of' hh_m
  clear hh_m
  obtain ⟨m_classes, m_statics, m_ints, m_methods, m_entries, m_stack, m_heap⟩ := m
  replace ha : ok34 (⟨m_classes, m_statics, m_ints, m_methods, m_entries, m_stack, m_heap⟩ : Img) c := ha
  have hf := ha.1
  have hin := ha.2.1
  have hlc := fits_classes hf
  have hff := fits_fields hf
  simp only at hin hlc hff
  have hgc := getD_cls' m_classes c hin
  have hsl := (clsW_spec (fits_cls hf _ (cls_mem hin))).2.2.2.2
  simp only at hsl
  unfold c34
  simp only [eI, e32, eTy, eIns, eCls, eMeth, eImg, eSl, ty_eta, ins_eta, cls_eta, meth_eta, img_eta, nr_I, nr_32, nr_T, nr_N, nr_C, nr_M, getD_map_mid, List.getD_cons_zero, List.getD_cons_succ, List.getD_nil]
  refine awp_rs hK (by simp only [EV, xreg, xops, xop, vop, eop, AOp.eff, ap1, ap2, ov, ovs, ovo, rd, upd, look, gcond, abin, aaeq, aeqs, abeq, asbin, aisnil, asnil, aun, acv, afa, aia, ald, abnd, asl, assl, afd, aix, aex, aln, alns, amxs, amx2, anc, apick, newAt, hget, put, AV.whole, AV.isCell, oneCell, fillParts, slCells, asInt?, pcallX, AV.norefs, AV.noref, AV.scalar, AV.scalars, Nat.reduceEqDiff, Nat.reduceAdd, Nat.reduceMul, Nat.reduceSub, Nat.reduceBEq, Nat.reduceLeDiff, Nat.reduceLT, reduceIte, reduceCtorEq, List.reduceReplicate, Int.reduceToNat, Int.reduceLE, Int.reduceLT, eI, e32, eTy, eIns, eCls, eMeth, eImg, eSl, ty_eta, ins_eta, cls_eta, meth_eta, img_eta, nr_I, nr_32, nr_T, nr_N, nr_C, nr_M, getD_map_mid, h33, s33_eq, h80, s80_eq, h81, s81_eq, h82, s82_eq, h83, s83_eq, List.length_map, hgc]; rfl) (by first | rfl | (simp [gle_iff]; done) | (simp [gle_iff]; omega) | grind [gle]) ?_ -- r1
  refine awp_rs hK (by simp only [EV, xreg, xops, xop, vop, eop, AOp.eff, ap1, ap2, ov, ovs, ovo, rd, upd, look, gcond, abin, aaeq, aeqs, abeq, asbin, aisnil, asnil, aun, acv, afa, aia, ald, abnd, asl, assl, afd, aix, aex, aln, alns, amxs, amx2, anc, apick, newAt, hget, put, AV.whole, AV.isCell, oneCell, fillParts, slCells, asInt?, pcallX, AV.norefs, AV.noref, AV.scalar, AV.scalars, Nat.reduceEqDiff, Nat.reduceAdd, Nat.reduceMul, Nat.reduceSub, Nat.reduceBEq, Nat.reduceLeDiff, Nat.reduceLT, reduceIte, reduceCtorEq, List.reduceReplicate, Int.reduceToNat, Int.reduceLE, Int.reduceLT, eI, e32, eTy, eIns, eCls, eMeth, eImg, eSl, ty_eta, ins_eta, cls_eta, meth_eta, img_eta, nr_I, nr_32, nr_T, nr_N, nr_C, nr_M, getD_map_mid, h33, s33_eq, h80, s80_eq, h81, s81_eq, h82, s82_eq, h83, s83_eq, List.length_map, hgc]; rfl) (by simp; omega) ?_ -- r2
  refine awp_seq ?_
  rcases Decidable.em ((cls m_classes c).super ≥ c) with hsc | hsc
  ·
    have hd := decide_eq_true hsc
    refine awp_rs hK (by simp only [EV, xreg, xops, xop, vop, eop, AOp.eff, ap1, ap2, ov, ovs, ovo, rd, upd, look, gcond, abin, aaeq, aeqs, abeq, asbin, aisnil, asnil, aun, acv, afa, aia, ald, abnd, asl, assl, afd, aix, aex, aln, alns, amxs, amx2, anc, apick, newAt, hget, put, AV.whole, AV.isCell, oneCell, fillParts, slCells, asInt?, pcallX, AV.norefs, AV.noref, AV.scalar, AV.scalars, Nat.reduceEqDiff, Nat.reduceAdd, Nat.reduceMul, Nat.reduceSub, Nat.reduceBEq, Nat.reduceLeDiff, Nat.reduceLT, reduceIte, reduceCtorEq, List.reduceReplicate, Int.reduceToNat, Int.reduceLE, Int.reduceLT, eI, e32, eTy, eIns, eCls, eMeth, eImg, eSl, ty_eta, ins_eta, cls_eta, meth_eta, img_eta, nr_I, nr_32, nr_T, nr_N, nr_C, nr_M, getD_map_mid, h33, s33_eq, h80, s80_eq, h81, s81_eq, h82, s82_eq, h83, s83_eq, List.length_map, hgc, hd, EVG]; rfl) (by first | rfl | (simp [gle_iff]; done) | (simp [gle_iff]; omega) | grind [gle]) ?_ -- r3
    refine awp_cond (b := true) (congrArg AV.bool rfl) ?_
    simp only [Ex.then_normal, Ex.then_exit, Ex.then_ret, Ex.blk_normal, Ex.blk_exit, Ex.blk_ret, if_true, if_false, reduceIte, reduceCtorEq, Nat.reduceEqDiff]
    refine awp_rs hK (by simp only [EV, xreg, xops, xop, vop, eop, AOp.eff, ap1, ap2, ov, ovs, ovo, rd, upd, look, gcond, abin, aaeq, aeqs, abeq, asbin, aisnil, asnil, aun, acv, afa, aia, ald, abnd, asl, assl, afd, aix, aex, aln, alns, amxs, amx2, anc, apick, newAt, hget, put, AV.whole, AV.isCell, oneCell, fillParts, slCells, asInt?, pcallX, AV.norefs, AV.noref, AV.scalar, AV.scalars, Nat.reduceEqDiff, Nat.reduceAdd, Nat.reduceMul, Nat.reduceSub, Nat.reduceBEq, Nat.reduceLeDiff, Nat.reduceLT, reduceIte, reduceCtorEq, List.reduceReplicate, Int.reduceToNat, Int.reduceLE, Int.reduceLT, eI, e32, eTy, eIns, eCls, eMeth, eImg, eSl, ty_eta, ins_eta, cls_eta, meth_eta, img_eta, nr_I, nr_32, nr_T, nr_N, nr_C, nr_M, getD_map_mid, h33, s33_eq, h80, s80_eq, h81, s81_eq, h82, s82_eq, h83, s83_eq, List.length_map, hgc, hd, EVG]; rfl) (by first | rfl | (simp [gle_iff]; done) | (simp [gle_iff]; omega) | grind [gle]) ?_ -- r4
    refine awp_retb (fun h => h) rfl ?_ -- leaf 1
    refine (Bool.eq_false_iff.2 fun h => ?_).symm
    obtain ⟨h1, h2, h3, h4, h5⟩ := clsS_spec h
    simp only at h1 h2 h3 h4 h5
    omega
  ·
    have hd := decide_eq_false hsc
    refine awp_rs hK (by simp only [EV, xreg, xops, xop, vop, eop, AOp.eff, ap1, ap2, ov, ovs, ovo, rd, upd, look, gcond, abin, aaeq, aeqs, abeq, asbin, aisnil, asnil, aun, acv, afa, aia, ald, abnd, asl, assl, afd, aix, aex, aln, alns, amxs, amx2, anc, apick, newAt, hget, put, AV.whole, AV.isCell, oneCell, fillParts, slCells, asInt?, pcallX, AV.norefs, AV.noref, AV.scalar, AV.scalars, Nat.reduceEqDiff, Nat.reduceAdd, Nat.reduceMul, Nat.reduceSub, Nat.reduceBEq, Nat.reduceLeDiff, Nat.reduceLT, reduceIte, reduceCtorEq, List.reduceReplicate, Int.reduceToNat, Int.reduceLE, Int.reduceLT, eI, e32, eTy, eIns, eCls, eMeth, eImg, eSl, ty_eta, ins_eta, cls_eta, meth_eta, img_eta, nr_I, nr_32, nr_T, nr_N, nr_C, nr_M, getD_map_mid, h33, s33_eq, h80, s80_eq, h81, s81_eq, h82, s82_eq, h83, s83_eq, List.length_map, hgc, hd, EVG, s33_one, AV.notAgg, frz_rsl]; rfl) (by first | rfl | (simp [gle_iff]; done) | (simp [gle_iff]; omega) | grind [gle]) ?_ -- r3
    refine awp_if rfl (fun hc1 => ?_) (fun hc1 => ?_)
    ·
      refine awp_rs hK (by simp only [EV, xreg, xops, xop, vop, eop, AOp.eff, ap1, ap2, ov, ovs, ovo, rd, upd, look, gcond, abin, aaeq, aeqs, abeq, asbin, aisnil, asnil, aun, acv, afa, aia, ald, abnd, asl, assl, afd, aix, aex, aln, alns, amxs, amx2, anc, apick, newAt, hget, put, AV.whole, AV.isCell, oneCell, fillParts, slCells, asInt?, pcallX, AV.norefs, AV.noref, AV.scalar, AV.scalars, Nat.reduceEqDiff, Nat.reduceAdd, Nat.reduceMul, Nat.reduceSub, Nat.reduceBEq, Nat.reduceLeDiff, Nat.reduceLT, reduceIte, reduceCtorEq, List.reduceReplicate, Int.reduceToNat, Int.reduceLE, Int.reduceLT, eI, e32, eTy, eIns, eCls, eMeth, eImg, eSl, ty_eta, ins_eta, cls_eta, meth_eta, img_eta, nr_I, nr_32, nr_T, nr_N, nr_C, nr_M, getD_map_mid, h33, s33_eq, h80, s80_eq, h81, s81_eq, h82, s82_eq, h83, s83_eq, List.length_map, hgc, hd, EVG, s33_one, AV.notAgg, frz_rsl]; rfl) (by first | rfl | (simp [gle_iff]; done) | (simp [gle_iff]; omega) | grind [gle]) ?_ -- r4
      refine awp_retb (fun h => h) rfl ?_ -- leaf 2
      refine (Bool.eq_false_iff.2 fun h => ?_).symm
      obtain ⟨h1, h2, h3, h4, h5⟩ := clsS_spec h
      simp only at h1 h2 h3 h4 h5
      simp [f33] at hc1
      obtain ⟨t, ht, hg⟩ := hc1
      rw [h2 t ht] at hg; cases hg
    ·
      have hsc' : (cls m_classes c).super < c := by omega
      have hk80 : ok80 ⟨m_classes, m_statics, m_ints, m_methods, m_entries, m_stack, m_heap⟩ c := ⟨hf, hin, fun b h0 h1 => by
        rcases Int.lt_or_eq_of_le h1 with h | h
        · exact (clsS_spec (ha.2.2 b h0 h)).1
        · rw [h]; exact hsc'⟩
      have habv : (if 0 ≤ (cls m_classes c).super then some (cls m_classes (cls m_classes c).super).slots else none).getD [] = aboveS ⟨m_classes, m_statics, m_ints, m_methods, m_entries, m_stack, m_heap⟩ c := by
        unfold aboveS; simp only; split <;> rfl
      have hfi := fieldsOf_in (l := m_classes) (c := c) hin
      rw [up_super hin hsc'] at hfi
      have hw1 := fieldsOf_le' hf (cls m_classes c).super
      have hw2 := hff c hin
      simp only at hw1 hw2
      have hws : IntKind.i64.wrap (((fieldsOf m_classes (cls m_classes c).super).length : Int) + ((cls m_classes c).fields.length : Int)) = ((fieldsOf m_classes c).length : Int) := by
        rw [wrap_i64 (by omega) (by omega), hfi, List.length_append]; omega
      refine awp_skip ?_
      simp only [Ex.then_normal, Ex.then_exit, Ex.then_ret, Ex.blk_normal, Ex.blk_exit, Ex.blk_ret, if_true, if_false, reduceIte, reduceCtorEq, Nat.reduceEqDiff]
      refine awp_rs hK (by simp only [EV, xreg, xops, xop, vop, eop, AOp.eff, ap1, ap2, ov, ovs, ovo, rd, upd, look, gcond, abin, aaeq, aeqs, abeq, asbin, aisnil, asnil, aun, acv, afa, aia, ald, abnd, asl, assl, afd, aix, aex, aln, alns, amxs, amx2, anc, apick, newAt, hget, put, AV.whole, AV.isCell, oneCell, fillParts, slCells, asInt?, pcallX, AV.norefs, AV.noref, AV.scalar, AV.scalars, Nat.reduceEqDiff, Nat.reduceAdd, Nat.reduceMul, Nat.reduceSub, Nat.reduceBEq, Nat.reduceLeDiff, Nat.reduceLT, reduceIte, reduceCtorEq, List.reduceReplicate, Int.reduceToNat, Int.reduceLE, Int.reduceLT, eI, e32, eTy, eIns, eCls, eMeth, eImg, eSl, ty_eta, ins_eta, cls_eta, meth_eta, img_eta, nr_I, nr_32, nr_T, nr_N, nr_C, nr_M, getD_map_mid, h33, s33_eq, h80, s80_eq, h81, s81_eq, h82, s82_eq, h83, s83_eq, List.length_map, hgc, hd, EVG, s33_one, AV.notAgg, frz_rsl, s80_eq (h := hk80), e80, f80, ungd_eO]; rfl) (by first | rfl | (simp [gle_iff]; done) | (simp [gle_iff]; omega) | grind [gle]) ?_ -- r5
      refine awp_ent (ent_eO 6 rfl) ?_
      simp only [List.set_cons_succ, List.set_cons_zero, eSl, habv]
      refine awp_seq ?_
      refine awp_rs hK (by simp only [EV, xreg, xops, xop, vop, eop, AOp.eff, ap1, ap2, ov, ovs, ovo, rd, upd, look, gcond, abin, aaeq, aeqs, abeq, asbin, aisnil, asnil, aun, acv, afa, aia, ald, abnd, asl, assl, afd, aix, aex, aln, alns, amxs, amx2, anc, apick, newAt, hget, put, AV.whole, AV.isCell, oneCell, fillParts, slCells, asInt?, pcallX, AV.norefs, AV.noref, AV.scalar, AV.scalars, Nat.reduceEqDiff, Nat.reduceAdd, Nat.reduceMul, Nat.reduceSub, Nat.reduceBEq, Nat.reduceLeDiff, Nat.reduceLT, reduceIte, reduceCtorEq, List.reduceReplicate, Int.reduceToNat, Int.reduceLE, Int.reduceLT, eI, e32, eTy, eIns, eCls, eMeth, eImg, eSl, ty_eta, ins_eta, cls_eta, meth_eta, img_eta, nr_I, nr_32, nr_T, nr_N, nr_C, nr_M, getD_map_mid, h33, s33_eq, h80, s80_eq, h81, s81_eq, h82, s82_eq, h83, s83_eq, List.length_map, hgc, hd, EVG, s33_one, AV.notAgg, frz_rsl, hws]; rfl) (by first | rfl | (simp [gle_iff]; done) | (simp [gle_iff]; omega) | grind [gle]) ?_ -- r6
      refine awp_if rfl (fun hc2 => ?_) (fun hc2 => ?_)
      ·
        refine awp_rs hK (by simp only [EV, xreg, xops, xop, vop, eop, AOp.eff, ap1, ap2, ov, ovs, ovo, rd, upd, look, gcond, abin, aaeq, aeqs, abeq, asbin, aisnil, asnil, aun, acv, afa, aia, ald, abnd, asl, assl, afd, aix, aex, aln, alns, amxs, amx2, anc, apick, newAt, hget, put, AV.whole, AV.isCell, oneCell, fillParts, slCells, asInt?, pcallX, AV.norefs, AV.noref, AV.scalar, AV.scalars, Nat.reduceEqDiff, Nat.reduceAdd, Nat.reduceMul, Nat.reduceSub, Nat.reduceBEq, Nat.reduceLeDiff, Nat.reduceLT, reduceIte, reduceCtorEq, List.reduceReplicate, Int.reduceToNat, Int.reduceLE, Int.reduceLT, eI, e32, eTy, eIns, eCls, eMeth, eImg, eSl, ty_eta, ins_eta, cls_eta, meth_eta, img_eta, nr_I, nr_32, nr_T, nr_N, nr_C, nr_M, getD_map_mid, h33, s33_eq, h80, s80_eq, h81, s81_eq, h82, s82_eq, h83, s83_eq, List.length_map, hgc, hd, EVG, s33_one, AV.notAgg, frz_rsl]; rfl) (by first | rfl | (simp [gle_iff]; done) | (simp [gle_iff]; omega) | grind [gle]) ?_ -- r7
        refine awp_retb (fun h => h) rfl ?_ -- leaf 3
        refine (Bool.eq_false_iff.2 fun h => ?_).symm
        obtain ⟨h1, h2, h3, h4, h5⟩ := clsS_spec h
        simp only at h1 h2 h3 h4 h5
        simp at hc2; omega
      ·
        refine awp_skip ?_
        simp only [Ex.then_normal, Ex.then_exit, Ex.then_ret, Ex.blk_normal, Ex.blk_exit, Ex.blk_ret, if_true, if_false, reduceIte, reduceCtorEq, Nat.reduceEqDiff]
        refine awp_seq ?_
        refine awp_rs hK (by simp only [EV, xreg, xops, xop, vop, eop, AOp.eff, ap1, ap2, ov, ovs, ovo, rd, upd, look, gcond, abin, aaeq, aeqs, abeq, asbin, aisnil, asnil, aun, acv, afa, aia, ald, abnd, asl, assl, afd, aix, aex, aln, alns, amxs, amx2, anc, apick, newAt, hget, put, AV.whole, AV.isCell, oneCell, fillParts, slCells, asInt?, pcallX, AV.norefs, AV.noref, AV.scalar, AV.scalars, Nat.reduceEqDiff, Nat.reduceAdd, Nat.reduceMul, Nat.reduceSub, Nat.reduceBEq, Nat.reduceLeDiff, Nat.reduceLT, reduceIte, reduceCtorEq, List.reduceReplicate, Int.reduceToNat, Int.reduceLE, Int.reduceLT, eI, e32, eTy, eIns, eCls, eMeth, eImg, eSl, ty_eta, ins_eta, cls_eta, meth_eta, img_eta, nr_I, nr_32, nr_T, nr_N, nr_C, nr_M, getD_map_mid, h33, s33_eq, h80, s80_eq, h81, s81_eq, h82, s82_eq, h83, s83_eq, List.length_map, hgc, hd, EVG, s33_one, AV.notAgg, frz_rsl]; rfl) (by first | rfl | (simp [gle_iff]; done) | (simp [gle_iff]; omega) | grind [gle]) ?_ -- r8
        refine awp_block ?_
        refine awp_upto ((cls m_classes c).slots.length) (fun k s => ∃ J, (∀ i, i < k → slotS ⟨m_classes, m_statics, m_ints, m_methods, m_entries, m_stack, m_heap⟩ c i = true) ∧ ∃ j6 j8 j9 j26 j46 j51 j90, s = ⟨[.agg [.vsl 3 (List.map eCls m_classes), .vsl 2 (List.map eTy m_statics), .vsl 1 (List.map e32 m_ints), .vsl 8 (List.map eMeth m_methods), .vsl 1 (List.map eI m_entries), .int .i64 m_stack, .int .i64 m_heap], .int .i64 c, .ref 0 0, .bool false, .ref 1 0, j6, .vsl 1 (List.map eI (aboveS ⟨m_classes, m_statics, m_ints, m_methods, m_entries, m_stack, m_heap⟩ c)), j8, j9, j26, j46, .vsl 1 (List.map eI (cls m_classes c).slots), .int .i64 (cls m_classes c).slots.length, .int .i64 k, j51, j90], .live [.vsl 3 (List.map eCls m_classes), .vsl 2 (List.map eTy m_statics), .vsl 1 (List.map e32 m_ints), .vsl 8 (List.map eMeth m_methods), .vsl 1 (List.map eI m_entries), .int .i64 m_stack, .int .i64 m_heap] :: .live [.int .i64 (cls m_classes c).super, .vsl 2 (List.map eTy (cls m_classes c).fields), .vsl 1 (List.map eI (cls m_classes c).slots)] :: J⟩) ?_ ?_
        · exact ⟨[_], by simp, _, _, _, _, _, _, _,  rfl⟩
        rintro k s hkn ⟨J, hp0, j6, j8, j9, j26, j46, j51, j90, rfl⟩
        refine awp_rs hK (by simp only [EV, xreg, xops, xop, vop, eop, AOp.eff, ap1, ap2, ov, ovs, ovo, rd, upd, look, gcond, abin, aaeq, aeqs, abeq, asbin, aisnil, asnil, aun, acv, afa, aia, ald, abnd, asl, assl, afd, aix, aex, aln, alns, amxs, amx2, anc, apick, newAt, hget, put, AV.whole, AV.isCell, oneCell, fillParts, slCells, asInt?, pcallX, AV.norefs, AV.noref, AV.scalar, AV.scalars, Nat.reduceEqDiff, Nat.reduceAdd, Nat.reduceMul, Nat.reduceSub, Nat.reduceBEq, Nat.reduceLeDiff, Nat.reduceLT, reduceIte, reduceCtorEq, List.reduceReplicate, Int.reduceToNat, Int.reduceLE, Int.reduceLT, eI, e32, eTy, eIns, eCls, eMeth, eImg, eSl, ty_eta, ins_eta, cls_eta, meth_eta, img_eta, nr_I, nr_32, nr_T, nr_N, nr_C, nr_M, getD_map_mid, h33, s33_eq, h80, s80_eq, h81, s81_eq, h82, s82_eq, h83, s83_eq, List.length_map, hgc, hd, EVG, s33_one, AV.notAgg, frz_rsl]; rfl) (by first | rfl | (simp [gle_iff]; done) | (simp [gle_iff]; omega) | grind [gle]) ?_ -- r9
        refine awp_seq ?_
        refine awp_if rfl (fun hc3 => ?_) (fun hc3 => ?_)
        ·
          have hk1 : k < (cls m_classes c).slots.length := by simpa using hc3
          have hgy := getD_int' (cls m_classes c).slots (k : Int) (by omega)
          simp only [Int.toNat_natCast] at hgy
          obtain ⟨y, hy⟩ : ∃ y, y = (cls m_classes c).slots.getD k 0 := ⟨_, rfl⟩
          rw [← hy] at hgy
          have hy0 := hsl.2 y (by rw [hy]; exact getD_mem hk1)
          refine awp_skip ?_
          simp only [Ex.then_normal, Ex.then_exit, Ex.then_ret, Ex.blk_normal, Ex.blk_exit, Ex.blk_ret, if_true, if_false, reduceIte, reduceCtorEq, Nat.reduceEqDiff]
          refine awp_seq ?_
          refine awp_block ?_
          refine awp_rs hK (by simp only [EV, xreg, xops, xop, vop, eop, AOp.eff, ap1, ap2, ov, ovs, ovo, rd, upd, look, gcond, abin, aaeq, aeqs, abeq, asbin, aisnil, asnil, aun, acv, afa, aia, ald, abnd, asl, assl, afd, aix, aex, aln, alns, amxs, amx2, anc, apick, newAt, hget, put, AV.whole, AV.isCell, oneCell, fillParts, slCells, asInt?, pcallX, AV.norefs, AV.noref, AV.scalar, AV.scalars, Nat.reduceEqDiff, Nat.reduceAdd, Nat.reduceMul, Nat.reduceSub, Nat.reduceBEq, Nat.reduceLeDiff, Nat.reduceLT, reduceIte, reduceCtorEq, List.reduceReplicate, Int.reduceToNat, Int.reduceLE, Int.reduceLT, eI, e32, eTy, eIns, eCls, eMeth, eImg, eSl, ty_eta, ins_eta, cls_eta, meth_eta, img_eta, nr_I, nr_32, nr_T, nr_N, nr_C, nr_M, getD_map_mid, h33, s33_eq, h80, s80_eq, h81, s81_eq, h82, s82_eq, h83, s83_eq, List.length_map, hgc, hd, EVG, s33_one, AV.notAgg, frz_rsl, hgy, Int.toNat_natCast]; rfl) (by simp [hk1]) ?_ -- r10
          rcases hd : f81 y m_methods.length with _ | _
          rotate_left
          have hym : 0 ≤ y ∧ y < m_methods.length := by simpa [f81] using hd
          have hgm := getD_meth' m_methods y hym
          have hk82 : ok82 ⟨m_classes, m_statics, m_ints, m_methods, m_entries, m_stack, m_heap⟩ c y := hym
          rcases Nat.lt_or_ge k (aboveS ⟨m_classes, m_statics, m_ints, m_methods, m_entries, m_stack, m_heap⟩ c).length with hka | hka
          rotate_left
          ·
            have hd2 : decide ((k : Int) < ((aboveS ⟨m_classes, m_statics, m_ints, m_methods, m_entries, m_stack, m_heap⟩ c).length : Int)) = false := by simp; omega
            refine awp_rs hK (by simp only [EV, xreg, xops, xop, vop, eop, AOp.eff, ap1, ap2, ov, ovs, ovo, rd, upd, look, gcond, abin, aaeq, aeqs, abeq, asbin, aisnil, asnil, aun, acv, afa, aia, ald, abnd, asl, assl, afd, aix, aex, aln, alns, amxs, amx2, anc, apick, newAt, hget, put, AV.whole, AV.isCell, oneCell, fillParts, slCells, asInt?, pcallX, AV.norefs, AV.noref, AV.scalar, AV.scalars, Nat.reduceEqDiff, Nat.reduceAdd, Nat.reduceMul, Nat.reduceSub, Nat.reduceBEq, Nat.reduceLeDiff, Nat.reduceLT, reduceIte, reduceCtorEq, List.reduceReplicate, Int.reduceToNat, Int.reduceLE, Int.reduceLT, eI, e32, eTy, eIns, eCls, eMeth, eImg, eSl, ty_eta, ins_eta, cls_eta, meth_eta, img_eta, nr_I, nr_32, nr_T, nr_N, nr_C, nr_M, getD_map_mid, h33, s33_eq, h80, s80_eq, h81, s81_eq, h82, s82_eq, h83, s83_eq, List.length_map, hgc, hd, EVG, s33_one, AV.notAgg, frz_rsl, hd, hd2, hgm, s82_eq (h := hk82), EVG]; rfl) (by first | rfl | (simp [gle_iff, hym, hgr, hka, -List.getD_eq_getElem?_getD]; done) | (simp [gle_iff]; done) | grind [gle]) ?_ -- r11
            refine awp_if rfl (fun hc4 => ?_) (fun hc4 => ?_)
            ·
              refine awp_rs hK (by simp only [EV, xreg, xops, xop, vop, eop, AOp.eff, ap1, ap2, ov, ovs, ovo, rd, upd, look, gcond, abin, aaeq, aeqs, abeq, asbin, aisnil, asnil, aun, acv, afa, aia, ald, abnd, asl, assl, afd, aix, aex, aln, alns, amxs, amx2, anc, apick, newAt, hget, put, AV.whole, AV.isCell, oneCell, fillParts, slCells, asInt?, pcallX, AV.norefs, AV.noref, AV.scalar, AV.scalars, Nat.reduceEqDiff, Nat.reduceAdd, Nat.reduceMul, Nat.reduceSub, Nat.reduceBEq, Nat.reduceLeDiff, Nat.reduceLT, reduceIte, reduceCtorEq, List.reduceReplicate, Int.reduceToNat, Int.reduceLE, Int.reduceLT, eI, e32, eTy, eIns, eCls, eMeth, eImg, eSl, ty_eta, ins_eta, cls_eta, meth_eta, img_eta, nr_I, nr_32, nr_T, nr_N, nr_C, nr_M, getD_map_mid, h33, s33_eq, h80, s80_eq, h81, s81_eq, h82, s82_eq, h83, s83_eq, List.length_map, hgc, hd, EVG, s33_one, AV.notAgg, frz_rsl, hd, hd2, hgm, s82_eq (h := hk82), EVG]; rfl) (by first | rfl | (simp [gle_iff]; done) | (simp [gle_iff]; omega) | grind [gle]) ?_ -- r12
              refine awp_retb (fun h => h) rfl ?_ -- leaf 4
              refine (Bool.eq_false_iff.2 fun h => ?_).symm
              obtain ⟨h1, h2, h3, h4, h5⟩ := clsS_spec h
              simp only at h1 h2 h3 h4 h5
              have := h5 _ hk1
              simp only [slotS, ← hy, Bool.and_eq_true, decide_eq_true_eq] at this
              simp only [f82] at hc4
              simp [hka] at hc4; grind
            ·
              refine awp_skip ?_
              simp only [Ex.then_normal, Ex.then_exit, Ex.then_ret, Ex.blk_normal, Ex.blk_exit, Ex.blk_ret, if_true, if_false, reduceIte, reduceCtorEq, Nat.reduceEqDiff]
              refine awp_r1 hK (by simp only [EV, xreg, xops, xop, vop, eop, AOp.eff, ap1, ap2, ov, ovs, ovo, rd, upd, look, gcond, abin, aaeq, aeqs, abeq, asbin, aisnil, asnil, aun, acv, afa, aia, ald, abnd, asl, assl, afd, aix, aex, aln, alns, amxs, amx2, anc, apick, newAt, hget, put, AV.whole, AV.isCell, oneCell, fillParts, slCells, asInt?, pcallX, AV.norefs, AV.noref, AV.scalar, AV.scalars, Nat.reduceEqDiff, Nat.reduceAdd, Nat.reduceMul, Nat.reduceSub, Nat.reduceBEq, Nat.reduceLeDiff, Nat.reduceLT, reduceIte, reduceCtorEq, List.reduceReplicate, Int.reduceToNat, Int.reduceLE, Int.reduceLT, eI, e32, eTy, eIns, eCls, eMeth, eImg, eSl, ty_eta, ins_eta, cls_eta, meth_eta, img_eta, nr_I, nr_32, nr_T, nr_N, nr_C, nr_M, getD_map_mid, h33, s33_eq, h80, s80_eq, h81, s81_eq, h82, s82_eq, h83, s83_eq, List.length_map, hgc, hd, EVG, s33_one, AV.notAgg, frz_rsl, hd, hd2, hgm, s82_eq (h := hk82), EVG]; rfl) (by first | rfl | (simp [gle_iff]; done) | (simp [gle_iff]; omega) | grind [gle]) ?_ -- r13
              simp only [Ex.then_normal, Ex.then_exit, Ex.then_ret, Ex.blk_normal, Ex.blk_exit, Ex.blk_ret, if_true, if_false, reduceIte, reduceCtorEq, Nat.reduceEqDiff]
              have hslot : slotS ⟨m_classes, m_statics, m_ints, m_methods, m_entries, m_stack, m_heap⟩ c k = true := by
                simp only [slotS, ← hy, Bool.and_eq_true, decide_eq_true_eq]
                simp only [f82, f83] at hc4
                first
                | (rw [if_pos hka]; simp [hgne] at hc4; refine ⟨hym.2, ?_⟩; simp; grind)
                | (rw [if_neg (by omega)]; simp at hc4; refine ⟨hym.2, ?_⟩; grind)
              rw [wrap_succ hk1 (Nat.le_trans hsl.1 (by decide))]
              refine ⟨hk1, _, fun i hi => ?_, _, _, _, _, _, _, _,  rfl⟩
              rcases Nat.lt_or_ge i k with h | h
              · exact hp0 i h
              · obtain rfl : i = k := by omega
                exact hslot
          ·
            have hd := hd
            refine awp_rs hK (by simp only [EV, xreg, xops, xop, vop, eop, AOp.eff, ap1, ap2, ov, ovs, ovo, rd, upd, look, gcond, abin, aaeq, aeqs, abeq, asbin, aisnil, asnil, aun, acv, afa, aia, ald, abnd, asl, assl, afd, aix, aex, aln, alns, amxs, amx2, anc, apick, newAt, hget, put, AV.whole, AV.isCell, oneCell, fillParts, slCells, asInt?, pcallX, AV.norefs, AV.noref, AV.scalar, AV.scalars, Nat.reduceEqDiff, Nat.reduceAdd, Nat.reduceMul, Nat.reduceSub, Nat.reduceBEq, Nat.reduceLeDiff, Nat.reduceLT, reduceIte, reduceCtorEq, List.reduceReplicate, Int.reduceToNat, Int.reduceLE, Int.reduceLT, eI, e32, eTy, eIns, eCls, eMeth, eImg, eSl, ty_eta, ins_eta, cls_eta, meth_eta, img_eta, nr_I, nr_32, nr_T, nr_N, nr_C, nr_M, getD_map_mid, h33, s33_eq, h80, s80_eq, h81, s81_eq, h82, s82_eq, h83, s83_eq, List.length_map, hgc, hd, EVG, s33_one, AV.notAgg, frz_rsl, hd, EVG]; rfl) (by first | rfl | (simp [gle_iff, hym, hgr, hka, -List.getD_eq_getElem?_getD]; done) | (simp [gle_iff]; done) | grind [gle]) ?_ -- r11
            refine awp_cond (b := true) (congrArg AV.bool rfl) ?_
            simp only [Ex.then_normal, Ex.then_exit, Ex.then_ret, Ex.blk_normal, Ex.blk_exit, Ex.blk_ret, if_true, if_false, reduceIte, reduceCtorEq, Nat.reduceEqDiff]
            refine awp_rs hK (by simp only [EV, xreg, xops, xop, vop, eop, AOp.eff, ap1, ap2, ov, ovs, ovo, rd, upd, look, gcond, abin, aaeq, aeqs, abeq, asbin, aisnil, asnil, aun, acv, afa, aia, ald, abnd, asl, assl, afd, aix, aex, aln, alns, amxs, amx2, anc, apick, newAt, hget, put, AV.whole, AV.isCell, oneCell, fillParts, slCells, asInt?, pcallX, AV.norefs, AV.noref, AV.scalar, AV.scalars, Nat.reduceEqDiff, Nat.reduceAdd, Nat.reduceMul, Nat.reduceSub, Nat.reduceBEq, Nat.reduceLeDiff, Nat.reduceLT, reduceIte, reduceCtorEq, List.reduceReplicate, Int.reduceToNat, Int.reduceLE, Int.reduceLT, eI, e32, eTy, eIns, eCls, eMeth, eImg, eSl, ty_eta, ins_eta, cls_eta, meth_eta, img_eta, nr_I, nr_32, nr_T, nr_N, nr_C, nr_M, getD_map_mid, h33, s33_eq, h80, s80_eq, h81, s81_eq, h82, s82_eq, h83, s83_eq, List.length_map, hgc, hd, EVG, s33_one, AV.notAgg, frz_rsl, hd, EVG]; rfl) (by first | rfl | (simp [gle_iff]; done) | (simp [gle_iff]; omega) | grind [gle]) ?_ -- r12
            refine awp_retb (fun h => h) rfl ?_ -- leaf 5
            refine (Bool.eq_false_iff.2 fun h => ?_).symm
            obtain ⟨h1, h2, h3, h4, h5⟩ := clsS_spec h
            simp only at h1 h2 h3 h4 h5
            have := slotS_spec (h5 _ hk1)
            rw [← hy] at this
            simp only at this
            simp [f81] at hd; omega
          ·
            have hd2 : decide ((k : Int) < ((aboveS ⟨m_classes, m_statics, m_ints, m_methods, m_entries, m_stack, m_heap⟩ c).length : Int)) = true := by simp; omega
            obtain ⟨hgr, hgne⟩ := above_slot (k := k) hf hin hsc' ha.2.2 hka
            simp only at hgr hgne
            have hga := getD_int' (aboveS ⟨m_classes, m_statics, m_ints, m_methods, m_entries, m_stack, m_heap⟩ c) (k : Int) (by omega)
            simp only [Int.toNat_natCast] at hga
            have hgn := getD_meth' m_methods _ hgr
            have hs83 := s83_eqp (meth m_methods y) (meth m_methods ((aboveS ⟨m_classes, m_statics, m_ints, m_methods, m_entries, m_stack, m_heap⟩ c).getD k 0))
            refine awp_rs hK (by simp only [EV, xreg, xops, xop, vop, eop, AOp.eff, ap1, ap2, ov, ovs, ovo, rd, upd, look, gcond, abin, aaeq, aeqs, abeq, asbin, aisnil, asnil, aun, acv, afa, aia, ald, abnd, asl, assl, afd, aix, aex, aln, alns, amxs, amx2, anc, apick, newAt, hget, put, AV.whole, AV.isCell, oneCell, fillParts, slCells, asInt?, pcallX, AV.norefs, AV.noref, AV.scalar, AV.scalars, Nat.reduceEqDiff, Nat.reduceAdd, Nat.reduceMul, Nat.reduceSub, Nat.reduceBEq, Nat.reduceLeDiff, Nat.reduceLT, reduceIte, reduceCtorEq, List.reduceReplicate, Int.reduceToNat, Int.reduceLE, Int.reduceLT, eI, e32, eTy, eIns, eCls, eMeth, eImg, eSl, ty_eta, ins_eta, cls_eta, meth_eta, img_eta, nr_I, nr_32, nr_T, nr_N, nr_C, nr_M, getD_map_mid, h33, s33_eq, h80, s80_eq, h81, s81_eq, h82, s82_eq, h83, s83_eq, List.length_map, hgc, hd, EVG, s33_one, AV.notAgg, frz_rsl, hd, hd2, hgm, Int.toNat_natCast, hga, hgn, hs83, s82_eq (h := hk82), EVG]; rfl) (by first | rfl | (simp [gle_iff, hym, hgr, hka, -List.getD_eq_getElem?_getD]; done) | (simp [gle_iff]; done) | grind [gle]) ?_ -- r11
            refine awp_if rfl (fun hc4 => ?_) (fun hc4 => ?_)
            ·
              refine awp_rs hK (by simp only [EV, xreg, xops, xop, vop, eop, AOp.eff, ap1, ap2, ov, ovs, ovo, rd, upd, look, gcond, abin, aaeq, aeqs, abeq, asbin, aisnil, asnil, aun, acv, afa, aia, ald, abnd, asl, assl, afd, aix, aex, aln, alns, amxs, amx2, anc, apick, newAt, hget, put, AV.whole, AV.isCell, oneCell, fillParts, slCells, asInt?, pcallX, AV.norefs, AV.noref, AV.scalar, AV.scalars, Nat.reduceEqDiff, Nat.reduceAdd, Nat.reduceMul, Nat.reduceSub, Nat.reduceBEq, Nat.reduceLeDiff, Nat.reduceLT, reduceIte, reduceCtorEq, List.reduceReplicate, Int.reduceToNat, Int.reduceLE, Int.reduceLT, eI, e32, eTy, eIns, eCls, eMeth, eImg, eSl, ty_eta, ins_eta, cls_eta, meth_eta, img_eta, nr_I, nr_32, nr_T, nr_N, nr_C, nr_M, getD_map_mid, h33, s33_eq, h80, s80_eq, h81, s81_eq, h82, s82_eq, h83, s83_eq, List.length_map, hgc, hd, EVG, s33_one, AV.notAgg, frz_rsl, hd, hd2, hgm, Int.toNat_natCast, hga, hgn, hs83, s82_eq (h := hk82), EVG]; rfl) (by first | rfl | (simp [gle_iff]; done) | (simp [gle_iff]; omega) | grind [gle]) ?_ -- r12
              refine awp_retb (fun h => h) rfl ?_ -- leaf 6
              refine (Bool.eq_false_iff.2 fun h => ?_).symm
              obtain ⟨h1, h2, h3, h4, h5⟩ := clsS_spec h
              simp only at h1 h2 h3 h4 h5
              have := h5 _ hk1
              simp only [slotS, ← hy, Bool.and_eq_true, decide_eq_true_eq, if_pos hka] at this
              simp only [f82, f83] at hc4
              simp [hgne, -List.getD_eq_getElem?_getD, -List.drop_one] at hc4 this; grind
            ·
              refine awp_skip ?_
              simp only [Ex.then_normal, Ex.then_exit, Ex.then_ret, Ex.blk_normal, Ex.blk_exit, Ex.blk_ret, if_true, if_false, reduceIte, reduceCtorEq, Nat.reduceEqDiff]
              refine awp_r1 hK (by simp only [EV, xreg, xops, xop, vop, eop, AOp.eff, ap1, ap2, ov, ovs, ovo, rd, upd, look, gcond, abin, aaeq, aeqs, abeq, asbin, aisnil, asnil, aun, acv, afa, aia, ald, abnd, asl, assl, afd, aix, aex, aln, alns, amxs, amx2, anc, apick, newAt, hget, put, AV.whole, AV.isCell, oneCell, fillParts, slCells, asInt?, pcallX, AV.norefs, AV.noref, AV.scalar, AV.scalars, Nat.reduceEqDiff, Nat.reduceAdd, Nat.reduceMul, Nat.reduceSub, Nat.reduceBEq, Nat.reduceLeDiff, Nat.reduceLT, reduceIte, reduceCtorEq, List.reduceReplicate, Int.reduceToNat, Int.reduceLE, Int.reduceLT, eI, e32, eTy, eIns, eCls, eMeth, eImg, eSl, ty_eta, ins_eta, cls_eta, meth_eta, img_eta, nr_I, nr_32, nr_T, nr_N, nr_C, nr_M, getD_map_mid, h33, s33_eq, h80, s80_eq, h81, s81_eq, h82, s82_eq, h83, s83_eq, List.length_map, hgc, hd, EVG, s33_one, AV.notAgg, frz_rsl, hd, hd2, hgm, Int.toNat_natCast, hga, hgn, hs83, s82_eq (h := hk82), EVG]; rfl) (by first | rfl | (simp [gle_iff]; done) | (simp [gle_iff]; omega) | grind [gle]) ?_ -- r13
              simp only [Ex.then_normal, Ex.then_exit, Ex.then_ret, Ex.blk_normal, Ex.blk_exit, Ex.blk_ret, if_true, if_false, reduceIte, reduceCtorEq, Nat.reduceEqDiff]
              have hslot : slotS ⟨m_classes, m_statics, m_ints, m_methods, m_entries, m_stack, m_heap⟩ c k = true := by
                simp only [slotS, ← hy, Bool.and_eq_true, decide_eq_true_eq]
                simp only [f82, f83] at hc4
                first
                | (rw [if_pos hka]; simp [hgne] at hc4; refine ⟨hym.2, ?_⟩; simp; grind)
                | (rw [if_neg (by omega)]; simp at hc4; refine ⟨hym.2, ?_⟩; grind)
              rw [wrap_succ hk1 (Nat.le_trans hsl.1 (by decide))]
              refine ⟨hk1, _, fun i hi => ?_, _, _, _, _, _, _, _,  rfl⟩
              rcases Nat.lt_or_ge i k with h | h
              · exact hp0 i h
              · obtain rfl : i = k := by omega
                exact hslot
        ·
          refine awp_exit ?_
          simp only [Ex.then_normal, Ex.then_exit, Ex.then_ret, Ex.blk_normal, Ex.blk_exit, Ex.blk_ret, if_true, if_false, reduceIte, reduceCtorEq, Nat.reduceEqDiff]
          refine awp_rs hK (by simp only [EV, xreg, xops, xop, vop, eop, AOp.eff, ap1, ap2, ov, ovs, ovo, rd, upd, look, gcond, abin, aaeq, aeqs, abeq, asbin, aisnil, asnil, aun, acv, afa, aia, ald, abnd, asl, assl, afd, aix, aex, aln, alns, amxs, amx2, anc, apick, newAt, hget, put, AV.whole, AV.isCell, oneCell, fillParts, slCells, asInt?, pcallX, AV.norefs, AV.noref, AV.scalar, AV.scalars, Nat.reduceEqDiff, Nat.reduceAdd, Nat.reduceMul, Nat.reduceSub, Nat.reduceBEq, Nat.reduceLeDiff, Nat.reduceLT, reduceIte, reduceCtorEq, List.reduceReplicate, Int.reduceToNat, Int.reduceLE, Int.reduceLT, eI, e32, eTy, eIns, eCls, eMeth, eImg, eSl, ty_eta, ins_eta, cls_eta, meth_eta, img_eta, nr_I, nr_32, nr_T, nr_N, nr_C, nr_M, getD_map_mid, h33, s33_eq, h80, s80_eq, h81, s81_eq, h82, s82_eq, h83, s83_eq, List.length_map, hgc, hd, EVG, s33_one, AV.notAgg, frz_rsl]; rfl) (by first | rfl | (simp [gle_iff]; done) | (simp [gle_iff]; omega) | grind [gle]) ?_ -- r14
          refine awp_retb (fun h => h) rfl ?_ -- leaf 7
          have hkk : k = (cls m_classes c).slots.length := by simp at hc3; omega
          subst hkk
          simp [f33] at hc1
          simp at hc2
          rw [f34, eq_comm]; simp only [clsS, Bool.and_eq_true, decide_eq_true_eq, List.all_eq_true, List.mem_range]
          exact ⟨hsc', hc1, by omega, by omega, hp0⟩

end Go.Proofs.Yteelkalenpbmmaa.Ab

import Derived.Test.YteelkalenpbmmaaAbs17
import Derived.Test.YteelkalenpbmmaaFns
import Derived.Test.YteelkalenpbmmaaW6
import Derived.Test.YteelkalenpbmmaaW12
set_option linter.unusedVariables false
set_option linter.unusedSimpArgs false
set_option maxRecDepth 20000
set_option maxHeartbeats 1000000
namespace Go.Proofs.Yteelkalenpbmmaa.Ab

/-- May a method be invoked? -/
def entS (m : Img) (f : Int) : Bool := decide (f < m.methods.length) && (((meth m.methods f).ret.kind == 1 || (meth m.methods f).ret.kind == 5) && (meth m.methods f).args.all fun t => t.kind == 1)
/-- Is all there that is named? -/
def saneB (m : Img) : Bool := (m.statics.all fun t => goodT t m.classes.length) && ((List.range m.classes.length).all fun (c : Nat) => clsS m c) && m.methods.all (methS m) && m.entries.all (entS m)
def saneE (m : Img) : Int := if fits m then (if saneB m then 0 else 3) else 2
theorem all_range {α : Type} (p : α → Bool) (d : α) (l : List α) : ((List.range l.length).all fun n => p (l.getD n d)) = l.all p := by
  rw [Bool.eq_iff_iff]
  simp only [List.all_eq_true, List.mem_range]
  constructor
  · intro h x hx
    obtain ⟨i, hi, rfl⟩ := List.getElem_of_mem hx
    have := h i hi
    rwa [List.getD_eq_getElem?_getD, List.getElem?_eq_getElem hi, Option.getD_some] at this
  · intro h n hn
    rw [List.getD_eq_getElem?_getD, List.getElem?_eq_getElem hn, Option.getD_some]
    exact h _ (List.getElem_mem _)
/- plimsoll/plimsollref05.Sane -/
def f9 (m : Img) : Int := saneE m
noncomputable def s9 := fnOf (α := Img) (fun _ => True) (fun a => [eImg a]) fun a => .int .i64 (f9 a)
theorem s9_inj (a b : Img) (h : [eImg a] = [eImg b]) : a = b := by
  simp only [List.cons.injEq, and_true, true_and] at h
  exact eImg_inj h
theorem s9_eq (m_classes : List Klass) (m_statics : List Ty) (m_ints : List Int) (m_methods : List Meth) (m_entries : List Int) (m_stack : Int) (m_heap : Int) : s9 [.agg [.vsl 3 (List.map eCls m_classes), .vsl 2 (List.map eTy m_statics), .vsl 1 (List.map e32 m_ints), .vsl 8 (List.map eMeth m_methods), .vsl 1 (List.map eI m_entries), .int .i64 m_stack, .int .i64 m_heap]] = some (.int .i64 (f9 (⟨m_classes, m_statics, m_ints, m_methods, m_entries, m_stack, m_heap⟩ : Img))) := fnOf_enc (a := (⟨m_classes, m_statics, m_ints, m_methods, m_entries, m_stack, m_heap⟩ : Img)) s9_inj trivial
theorem s9_eqp (m : Img) : s9 [.agg [.vsl 3 (List.map eCls m.classes), .vsl 2 (List.map eTy m.statics), .vsl 1 (List.map e32 m.ints), .vsl 8 (List.map eMeth m.methods), .vsl 1 (List.map eI m.entries), .int .i64 m.stack, .int .i64 m.heap]] = some (.int .i64 (f9 m)) := fnOf_enc (a := m) s9_inj trivial

theorem w9 {K : Cfg} (hK : KOk Try.prog K) (h28 : K.pcall 28 = s28) (h29 : K.pcall 29 = s29) (h30 : K.pcall 30 = s30) (h31 : K.pcall 31 = s31) : PContract Try.prog 9 s9 := by
  refine pcontract_fn (K := K) s9_inj k9 fun m ha => ⟨of_decide_eq_true rfl, ?_⟩
  show AWP Try.prog K [0, 1, 2, 3, 4, 5, 6, 7, 8, 11, 23, 36, 53, 65, 95, 110] 111 c9 (RetP [0, 1, 2, 3, 4, 5, 6, 7, 8, 11, 23, 36, 53, 65, 95, 110] [.tmp 2] _) ⟨[_, _, _, _, _, _, _, _, _, _, _, _, _, _, _, _], []⟩
  refine awp_holds 0 fun hh_m => ?_
  have hw_m : m.Wf := Img.wf_of' hh_m
  clear hh_m
  obtain ⟨m_classes, m_statics, m_ints, m_methods, m_entries, m_stack, m_heap⟩ := m
  unfold c9
  simp only [eI, e32, eTy, eIns, eCls, eMeth, eImg, eSl, ty_eta, ins_eta, cls_eta, meth_eta, img_eta, nr_I, nr_32, nr_T, nr_N, nr_C, nr_M, getD_map_mid, List.getD_cons_zero, List.getD_cons_succ, List.getD_nil]
  refine awp_rs hK (by simp only [EV, xreg, xops, xop, vop, eop, AOp.eff, ap1, ap2, ov, ovs, ovo, rd, upd, look, gcond, abin, aaeq, aeqs, abeq, asbin, aisnil, asnil, aun, acv, afa, aia, ald, abnd, asl, assl, afd, aix, aex, aln, alns, amxs, amx2, anc, apick, newAt, hget, put, AV.whole, AV.isCell, oneCell, fillParts, slCells, asInt?, pcallX, AV.norefs, AV.noref, AV.scalar, AV.scalars, Nat.reduceEqDiff, Nat.reduceAdd, Nat.reduceMul, Nat.reduceSub, Nat.reduceBEq, Nat.reduceLeDiff, Nat.reduceLT, reduceIte, reduceCtorEq, List.reduceReplicate, Int.reduceToNat, Int.reduceLE, Int.reduceLT, eI, e32, eTy, eIns, eCls, eMeth, eImg, eSl, ty_eta, ins_eta, cls_eta, meth_eta, img_eta, nr_I, nr_32, nr_T, nr_N, nr_C, nr_M, getD_map_mid, h28, s28_eq, h29, s29_eq, h30, s30_eq, h31, s31_eq, List.length_map]; rfl) (by first | rfl | (simp [gle_iff]; done) | (simp [gle_iff]; omega) | grind [gle]) ?_ -- r1
  refine awp_seq ?_
  refine awp_rs hK (by simp only [EV, xreg, xops, xop, vop, eop, AOp.eff, ap1, ap2, ov, ovs, ovo, rd, upd, look, gcond, abin, aaeq, aeqs, abeq, asbin, aisnil, asnil, aun, acv, afa, aia, ald, abnd, asl, assl, afd, aix, aex, aln, alns, amxs, amx2, anc, apick, newAt, hget, put, AV.whole, AV.isCell, oneCell, fillParts, slCells, asInt?, pcallX, AV.norefs, AV.noref, AV.scalar, AV.scalars, Nat.reduceEqDiff, Nat.reduceAdd, Nat.reduceMul, Nat.reduceSub, Nat.reduceBEq, Nat.reduceLeDiff, Nat.reduceLT, reduceIte, reduceCtorEq, List.reduceReplicate, Int.reduceToNat, Int.reduceLE, Int.reduceLT, eI, e32, eTy, eIns, eCls, eMeth, eImg, eSl, ty_eta, ins_eta, cls_eta, meth_eta, img_eta, nr_I, nr_32, nr_T, nr_N, nr_C, nr_M, getD_map_mid, h28, s28_eq, h29, s29_eq, h30, s30_eq, h31, s31_eq, List.length_map]; rfl) (by first | rfl | (simp [gle_iff]; done) | (simp [gle_iff]; omega) | grind [gle]) ?_ -- r2
  refine awp_if rfl (fun hc1 => ?_) (fun hc1 => ?_)
  ·
    refine awp_rs hK (by simp only [EV, xreg, xops, xop, vop, eop, AOp.eff, ap1, ap2, ov, ovs, ovo, rd, upd, look, gcond, abin, aaeq, aeqs, abeq, asbin, aisnil, asnil, aun, acv, afa, aia, ald, abnd, asl, assl, afd, aix, aex, aln, alns, amxs, amx2, anc, apick, newAt, hget, put, AV.whole, AV.isCell, oneCell, fillParts, slCells, asInt?, pcallX, AV.norefs, AV.noref, AV.scalar, AV.scalars, Nat.reduceEqDiff, Nat.reduceAdd, Nat.reduceMul, Nat.reduceSub, Nat.reduceBEq, Nat.reduceLeDiff, Nat.reduceLT, reduceIte, reduceCtorEq, List.reduceReplicate, Int.reduceToNat, Int.reduceLE, Int.reduceLT, eI, e32, eTy, eIns, eCls, eMeth, eImg, eSl, ty_eta, ins_eta, cls_eta, meth_eta, img_eta, nr_I, nr_32, nr_T, nr_N, nr_C, nr_M, getD_map_mid, h28, s28_eq, h29, s29_eq, h30, s30_eq, h31, s31_eq, List.length_map]; rfl) (by first | rfl | (simp [gle_iff]; done) | (simp [gle_iff]; omega) | grind [gle]) ?_ -- r3
    refine awp_reti (fun h => h) rfl ?_ -- leaf 1
    simp [f28] at hc1; simp [f9, saneE, hc1]
  ·
    have hf : fits ⟨m_classes, m_statics, m_ints, m_methods, m_entries, m_stack, m_heap⟩ = true := by simpa [f28] using hc1
    have hlc := fits_classes hf
    have hlm := fits_methods hf
    have hle := (fits_entries hf).1
    have hen := (fits_entries hf).2
    simp only at hlc hlm hle hen
    refine awp_skip ?_
    simp only [Ex.then_normal, Ex.then_exit, Ex.then_ret, Ex.blk_normal, Ex.blk_exit, Ex.blk_ret, if_true, if_false, reduceIte, reduceCtorEq, Nat.reduceEqDiff]
    refine awp_rs hK (by simp only [EV, xreg, xops, xop, vop, eop, AOp.eff, ap1, ap2, ov, ovs, ovo, rd, upd, look, gcond, abin, aaeq, aeqs, abeq, asbin, aisnil, asnil, aun, acv, afa, aia, ald, abnd, asl, assl, afd, aix, aex, aln, alns, amxs, amx2, anc, apick, newAt, hget, put, AV.whole, AV.isCell, oneCell, fillParts, slCells, asInt?, pcallX, AV.norefs, AV.noref, AV.scalar, AV.scalars, Nat.reduceEqDiff, Nat.reduceAdd, Nat.reduceMul, Nat.reduceSub, Nat.reduceBEq, Nat.reduceLeDiff, Nat.reduceLT, reduceIte, reduceCtorEq, List.reduceReplicate, Int.reduceToNat, Int.reduceLE, Int.reduceLT, eI, e32, eTy, eIns, eCls, eMeth, eImg, eSl, ty_eta, ins_eta, cls_eta, meth_eta, img_eta, nr_I, nr_32, nr_T, nr_N, nr_C, nr_M, getD_map_mid, h28, s28_eq, h29, s29_eq, h30, s30_eq, h31, s31_eq, List.length_map]; rfl) (by first | rfl | (simp [gle_iff]; done) | (simp [gle_iff]; omega) | grind [gle]) ?_ -- r4
    refine awp_cut (fun s => ∃ (b : Bool), (b = ((m_statics.all fun t => goodT t m_classes.length) && (List.range m_classes.length).all fun (c : Nat) => clsS ⟨m_classes, m_statics, m_ints, m_methods, m_entries, m_stack, m_heap⟩ c)) ∧ ∃ j4 j5 j6 j7 j8 j11 j23 j36 j53 j65 j95 j110, s = ⟨[.agg [.vsl 3 (List.map eCls m_classes), .vsl 2 (List.map eTy m_statics), .vsl 1 (List.map e32 m_ints), .vsl 8 (List.map eMeth m_methods), .vsl 1 (List.map eI m_entries), .int .i64 m_stack, .int .i64 m_heap], .ref 0 0, .int .i64 0, .bool b, j4, j5, j6, j7, j8, j11, j23, j36, j53, j65, j95, j110], [.live [.vsl 3 (List.map eCls m_classes), .vsl 2 (List.map eTy m_statics), .vsl 1 (List.map e32 m_ints), .vsl 8 (List.map eMeth m_methods), .vsl 1 (List.map eI m_entries), .int .i64 m_stack, .int .i64 m_heap]]⟩) ?_ ?_
    ·
      refine awp_rs hK (by simp only [EV, xreg, xops, xop, vop, eop, AOp.eff, ap1, ap2, ov, ovs, ovo, rd, upd, look, gcond, abin, aaeq, aeqs, abeq, asbin, aisnil, asnil, aun, acv, afa, aia, ald, abnd, asl, assl, afd, aix, aex, aln, alns, amxs, amx2, anc, apick, newAt, hget, put, AV.whole, AV.isCell, oneCell, fillParts, slCells, asInt?, pcallX, AV.norefs, AV.noref, AV.scalar, AV.scalars, Nat.reduceEqDiff, Nat.reduceAdd, Nat.reduceMul, Nat.reduceSub, Nat.reduceBEq, Nat.reduceLeDiff, Nat.reduceLT, reduceIte, reduceCtorEq, List.reduceReplicate, Int.reduceToNat, Int.reduceLE, Int.reduceLT, eI, e32, eTy, eIns, eCls, eMeth, eImg, eSl, ty_eta, ins_eta, cls_eta, meth_eta, img_eta, nr_I, nr_32, nr_T, nr_N, nr_C, nr_M, getD_map_mid, h28, s28_eq, h29, s29_eq, h30, s30_eq, h31, s31_eq, List.length_map]; rfl) (by first | rfl | (simp [gle_iff]; done) | (simp [gle_iff]; omega) | grind [gle]) ?_ -- r5
      refine awp_block ?_
      refine awp_upto (m_classes.length) (fun k s => ∃ (b : Bool), (b = ((m_statics.all fun t => goodT t m_classes.length) && (List.range k).all fun (c : Nat) => clsS ⟨m_classes, m_statics, m_ints, m_methods, m_entries, m_stack, m_heap⟩ c)) ∧ ∃ j5 j6 j7 j8 j11 j23 j36 j53 j65 j95 j110, s = ⟨[.agg [.vsl 3 (List.map eCls m_classes), .vsl 2 (List.map eTy m_statics), .vsl 1 (List.map e32 m_ints), .vsl 8 (List.map eMeth m_methods), .vsl 1 (List.map eI m_entries), .int .i64 m_stack, .int .i64 m_heap], .ref 0 0, .int .i64 0, .bool b, .int .i64 k, j5, j6, j7, j8, j11, j23, j36, j53, j65, j95, j110], [.live [.vsl 3 (List.map eCls m_classes), .vsl 2 (List.map eTy m_statics), .vsl 1 (List.map e32 m_ints), .vsl 8 (List.map eMeth m_methods), .vsl 1 (List.map eI m_entries), .int .i64 m_stack, .int .i64 m_heap]]⟩) ?_ ?_
      · exact ⟨_, by simp [f29], _, _, _, _, _, _, _, _, _, _, _,  rfl⟩
      rintro k s hkn ⟨b, hp0, j5, j6, j7, j8, j11, j23, j36, j53, j65, j95, j110, rfl⟩
      refine awp_seq ?_
      refine awp_rs hK (by simp only [EV, xreg, xops, xop, vop, eop, AOp.eff, ap1, ap2, ov, ovs, ovo, rd, upd, look, gcond, abin, aaeq, aeqs, abeq, asbin, aisnil, asnil, aun, acv, afa, aia, ald, abnd, asl, assl, afd, aix, aex, aln, alns, amxs, amx2, anc, apick, newAt, hget, put, AV.whole, AV.isCell, oneCell, fillParts, slCells, asInt?, pcallX, AV.norefs, AV.noref, AV.scalar, AV.scalars, Nat.reduceEqDiff, Nat.reduceAdd, Nat.reduceMul, Nat.reduceSub, Nat.reduceBEq, Nat.reduceLeDiff, Nat.reduceLT, reduceIte, reduceCtorEq, List.reduceReplicate, Int.reduceToNat, Int.reduceLE, Int.reduceLT, eI, e32, eTy, eIns, eCls, eMeth, eImg, eSl, ty_eta, ins_eta, cls_eta, meth_eta, img_eta, nr_I, nr_32, nr_T, nr_N, nr_C, nr_M, getD_map_mid, h28, s28_eq, h29, s29_eq, h30, s30_eq, h31, s31_eq, List.length_map]; rfl) (by first | rfl | (simp [gle_iff]; done) | (simp [gle_iff]; omega) | grind [gle]) ?_ -- r6
      refine awp_if rfl (fun hc2 => ?_) (fun hc2 => ?_)
      ·
        have hb : b = true := by simp at hc2; exact hc2.2
        have hk1 : k < m_classes.length := by simp at hc2; omega
        subst hb
        have hk30 : ok30 ⟨m_classes, m_statics, m_ints, m_methods, m_entries, m_stack, m_heap⟩ (k : Int) := by
          refine ⟨hf, ⟨by omega, by simpa using hk1⟩, fun c h0 h1 => ?_⟩
          have := hp0.symm
          simp only [Bool.and_eq_true, List.all_eq_true, List.mem_range] at this
          have := this.2 c.toNat (by omega)
          rwa [Int.toNat_of_nonneg h0] at this
        refine awp_skip ?_
        simp only [Ex.then_normal, Ex.then_exit, Ex.then_ret, Ex.blk_normal, Ex.blk_exit, Ex.blk_ret, if_true, if_false, reduceIte, reduceCtorEq, Nat.reduceEqDiff]
        refine awp_seq ?_
        refine awp_block ?_
        refine awp_r1 hK (by simp only [EV, xreg, xops, xop, vop, eop, AOp.eff, ap1, ap2, ov, ovs, ovo, rd, upd, look, gcond, abin, aaeq, aeqs, abeq, asbin, aisnil, asnil, aun, acv, afa, aia, ald, abnd, asl, assl, afd, aix, aex, aln, alns, amxs, amx2, anc, apick, newAt, hget, put, AV.whole, AV.isCell, oneCell, fillParts, slCells, asInt?, pcallX, AV.norefs, AV.noref, AV.scalar, AV.scalars, Nat.reduceEqDiff, Nat.reduceAdd, Nat.reduceMul, Nat.reduceSub, Nat.reduceBEq, Nat.reduceLeDiff, Nat.reduceLT, reduceIte, reduceCtorEq, List.reduceReplicate, Int.reduceToNat, Int.reduceLE, Int.reduceLT, eI, e32, eTy, eIns, eCls, eMeth, eImg, eSl, ty_eta, ins_eta, cls_eta, meth_eta, img_eta, nr_I, nr_32, nr_T, nr_N, nr_C, nr_M, getD_map_mid, h28, s28_eq, h29, s29_eq, h30, s30_eq, h31, s31_eq, List.length_map, s30_eq (h := hk30)]; rfl) (by first | rfl | (simp [gle_iff]; done) | (simp [gle_iff]; omega) | grind [gle]) ?_ -- r7
        simp only [Ex.then_normal, Ex.then_exit, Ex.then_ret, Ex.blk_normal, Ex.blk_exit, Ex.blk_ret, if_true, if_false, reduceIte, reduceCtorEq, Nat.reduceEqDiff]
        refine awp_r1 hK (by simp only [EV, xreg, xops, xop, vop, eop, AOp.eff, ap1, ap2, ov, ovs, ovo, rd, upd, look, gcond, abin, aaeq, aeqs, abeq, asbin, aisnil, asnil, aun, acv, afa, aia, ald, abnd, asl, assl, afd, aix, aex, aln, alns, amxs, amx2, anc, apick, newAt, hget, put, AV.whole, AV.isCell, oneCell, fillParts, slCells, asInt?, pcallX, AV.norefs, AV.noref, AV.scalar, AV.scalars, Nat.reduceEqDiff, Nat.reduceAdd, Nat.reduceMul, Nat.reduceSub, Nat.reduceBEq, Nat.reduceLeDiff, Nat.reduceLT, reduceIte, reduceCtorEq, List.reduceReplicate, Int.reduceToNat, Int.reduceLE, Int.reduceLT, eI, e32, eTy, eIns, eCls, eMeth, eImg, eSl, ty_eta, ins_eta, cls_eta, meth_eta, img_eta, nr_I, nr_32, nr_T, nr_N, nr_C, nr_M, getD_map_mid, h28, s28_eq, h29, s29_eq, h30, s30_eq, h31, s31_eq, List.length_map]; rfl) (by first | rfl | (simp [gle_iff]; done) | (simp [gle_iff]; omega) | grind [gle]) ?_ -- r8
        simp only [Ex.then_normal, Ex.then_exit, Ex.then_ret, Ex.blk_normal, Ex.blk_exit, Ex.blk_ret, if_true, if_false, reduceIte, reduceCtorEq, Nat.reduceEqDiff]
        rw [wrap_succ hk1 (Nat.le_trans hlc (by decide))]
        refine ⟨hk1, clsS ⟨m_classes, m_statics, m_ints, m_methods, m_entries, m_stack, m_heap⟩ (k : Int), ?_, _, _, _, _, _, _, _, _, _, _, _,  rfl⟩
        rw [List.range_succ, List.all_append, ← Bool.and_assoc, ← hp0]; simp [f30]
      ·
        refine awp_exit ?_
        simp only [Ex.then_normal, Ex.then_exit, Ex.then_ret, Ex.blk_normal, Ex.blk_exit, Ex.blk_ret, if_true, if_false, reduceIte, reduceCtorEq, Nat.reduceEqDiff]
        refine ⟨b, ?_, _, _, _, _, _, _, _, _, _, _, _, _,  rfl⟩
        have hkk : k = m_classes.length ∨ b = false := by simp at hc2; rcases Nat.lt_or_ge k m_classes.length with h | h; exact .inr (by cases b <;> simp_all); exact .inl (by omega)
        rcases hkk with hkk | hkk
        · rw [hp0, hkk]
        · rw [hkk] at hp0 ⊢
          symm
          rw [Bool.eq_false_iff]
          intro h
          symm at hp0
          rw [Bool.eq_false_iff] at hp0
          refine hp0 ?_
          simp only [Bool.and_eq_true, List.all_eq_true, List.mem_range] at h ⊢
          exact ⟨h.1, fun c hc => h.2 c (by omega)⟩
    ·
      rintro s ⟨b, hq0, j4, j5, j6, j7, j8, j11, j23, j36, j53, j65, j95, j110, rfl⟩
      refine awp_cut (fun s => ∃ (b : Bool), (b = ((((m_statics.all fun t => goodT t m_classes.length) && (List.range m_classes.length).all fun (c : Nat) => clsS ⟨m_classes, m_statics, m_ints, m_methods, m_entries, m_stack, m_heap⟩ c)) && m_methods.all (methS ⟨m_classes, m_statics, m_ints, m_methods, m_entries, m_stack, m_heap⟩))) ∧ ∃ j4 j5 j6 j7 j8 j11 j23 j36 j53 j65 j95 j110, s = ⟨[.agg [.vsl 3 (List.map eCls m_classes), .vsl 2 (List.map eTy m_statics), .vsl 1 (List.map e32 m_ints), .vsl 8 (List.map eMeth m_methods), .vsl 1 (List.map eI m_entries), .int .i64 m_stack, .int .i64 m_heap], .ref 0 0, .int .i64 0, .bool b, j4, j5, j6, j7, j8, j11, j23, j36, j53, j65, j95, j110], [.live [.vsl 3 (List.map eCls m_classes), .vsl 2 (List.map eTy m_statics), .vsl 1 (List.map e32 m_ints), .vsl 8 (List.map eMeth m_methods), .vsl 1 (List.map eI m_entries), .int .i64 m_stack, .int .i64 m_heap]]⟩) ?_ ?_
      ·
        refine awp_rs hK (by simp only [EV, xreg, xops, xop, vop, eop, AOp.eff, ap1, ap2, ov, ovs, ovo, rd, upd, look, gcond, abin, aaeq, aeqs, abeq, asbin, aisnil, asnil, aun, acv, afa, aia, ald, abnd, asl, assl, afd, aix, aex, aln, alns, amxs, amx2, anc, apick, newAt, hget, put, AV.whole, AV.isCell, oneCell, fillParts, slCells, asInt?, pcallX, AV.norefs, AV.noref, AV.scalar, AV.scalars, Nat.reduceEqDiff, Nat.reduceAdd, Nat.reduceMul, Nat.reduceSub, Nat.reduceBEq, Nat.reduceLeDiff, Nat.reduceLT, reduceIte, reduceCtorEq, List.reduceReplicate, Int.reduceToNat, Int.reduceLE, Int.reduceLT, eI, e32, eTy, eIns, eCls, eMeth, eImg, eSl, ty_eta, ins_eta, cls_eta, meth_eta, img_eta, nr_I, nr_32, nr_T, nr_N, nr_C, nr_M, getD_map_mid, h28, s28_eq, h29, s29_eq, h30, s30_eq, h31, s31_eq, List.length_map]; rfl) (by first | rfl | (simp [gle_iff]; done) | (simp [gle_iff]; omega) | grind [gle]) ?_ -- r9
        refine awp_block ?_
        refine awp_upto (m_methods.length) (fun k s => ∃ (b : Bool), (b = ((((m_statics.all fun t => goodT t m_classes.length) && (List.range m_classes.length).all fun (c : Nat) => clsS ⟨m_classes, m_statics, m_ints, m_methods, m_entries, m_stack, m_heap⟩ c)) && (List.range k).all fun n => methS ⟨m_classes, m_statics, m_ints, m_methods, m_entries, m_stack, m_heap⟩ (m_methods.getD n default))) ∧ ∃ j4 j6 j7 j8 j11 j23 j36 j53 j65 j95 j110, s = ⟨[.agg [.vsl 3 (List.map eCls m_classes), .vsl 2 (List.map eTy m_statics), .vsl 1 (List.map e32 m_ints), .vsl 8 (List.map eMeth m_methods), .vsl 1 (List.map eI m_entries), .int .i64 m_stack, .int .i64 m_heap], .ref 0 0, .int .i64 0, .bool b, j4, .int .i64 k, j6, j7, j8, j11, j23, j36, j53, j65, j95, j110], [.live [.vsl 3 (List.map eCls m_classes), .vsl 2 (List.map eTy m_statics), .vsl 1 (List.map e32 m_ints), .vsl 8 (List.map eMeth m_methods), .vsl 1 (List.map eI m_entries), .int .i64 m_stack, .int .i64 m_heap]]⟩) ?_ ?_
        · exact ⟨b, by rw [hq0]; simp, _, _, _, _, _, _, _, _, _, _, _,  rfl⟩
        rintro k s hkn ⟨b, hp0, j4, j6, j7, j8, j11, j23, j36, j53, j65, j95, j110, rfl⟩
        refine awp_seq ?_
        refine awp_rs hK (by simp only [EV, xreg, xops, xop, vop, eop, AOp.eff, ap1, ap2, ov, ovs, ovo, rd, upd, look, gcond, abin, aaeq, aeqs, abeq, asbin, aisnil, asnil, aun, acv, afa, aia, ald, abnd, asl, assl, afd, aix, aex, aln, alns, amxs, amx2, anc, apick, newAt, hget, put, AV.whole, AV.isCell, oneCell, fillParts, slCells, asInt?, pcallX, AV.norefs, AV.noref, AV.scalar, AV.scalars, Nat.reduceEqDiff, Nat.reduceAdd, Nat.reduceMul, Nat.reduceSub, Nat.reduceBEq, Nat.reduceLeDiff, Nat.reduceLT, reduceIte, reduceCtorEq, List.reduceReplicate, Int.reduceToNat, Int.reduceLE, Int.reduceLT, eI, e32, eTy, eIns, eCls, eMeth, eImg, eSl, ty_eta, ins_eta, cls_eta, meth_eta, img_eta, nr_I, nr_32, nr_T, nr_N, nr_C, nr_M, getD_map_mid, h28, s28_eq, h29, s29_eq, h30, s30_eq, h31, s31_eq, List.length_map]; rfl) (by first | rfl | (simp [gle_iff]; done) | (simp [gle_iff]; omega) | grind [gle]) ?_ -- r10
        refine awp_if rfl (fun hc3 => ?_) (fun hc3 => ?_)
        ·
          have hb : b = true := by simp at hc3; exact hc3.2
          have hk1 : k < m_methods.length := by simp at hc3; omega
          subst hb
          have hgm := getD_meth' m_methods (k : Int) (by omega)
          have hxm : meth m_methods (k : Int) ∈ m_methods := meth_mem (by omega)
          have hk31 : ok31 ⟨m_classes, m_statics, m_ints, m_methods, m_entries, m_stack, m_heap⟩ (meth m_methods (k : Int)) := ⟨hf, fits_meth hf _ hxm⟩
          have hs31 := s31_eqp _ _ hk31
          simp only at hs31
          refine awp_skip ?_
          simp only [Ex.then_normal, Ex.then_exit, Ex.then_ret, Ex.blk_normal, Ex.blk_exit, Ex.blk_ret, if_true, if_false, reduceIte, reduceCtorEq, Nat.reduceEqDiff]
          refine awp_seq ?_
          refine awp_block ?_
          refine awp_r1 hK (by simp only [EV, xreg, xops, xop, vop, eop, AOp.eff, ap1, ap2, ov, ovs, ovo, rd, upd, look, gcond, abin, aaeq, aeqs, abeq, asbin, aisnil, asnil, aun, acv, afa, aia, ald, abnd, asl, assl, afd, aix, aex, aln, alns, amxs, amx2, anc, apick, newAt, hget, put, AV.whole, AV.isCell, oneCell, fillParts, slCells, asInt?, pcallX, AV.norefs, AV.noref, AV.scalar, AV.scalars, Nat.reduceEqDiff, Nat.reduceAdd, Nat.reduceMul, Nat.reduceSub, Nat.reduceBEq, Nat.reduceLeDiff, Nat.reduceLT, reduceIte, reduceCtorEq, List.reduceReplicate, Int.reduceToNat, Int.reduceLE, Int.reduceLT, eI, e32, eTy, eIns, eCls, eMeth, eImg, eSl, ty_eta, ins_eta, cls_eta, meth_eta, img_eta, nr_I, nr_32, nr_T, nr_N, nr_C, nr_M, getD_map_mid, h28, s28_eq, h29, s29_eq, h30, s30_eq, h31, s31_eq, List.length_map, hgm, hs31]; rfl) (by first | rfl | (simp [gle_iff]; done) | (simp [gle_iff]; omega) | grind [gle]) ?_ -- r11
          simp only [Ex.then_normal, Ex.then_exit, Ex.then_ret, Ex.blk_normal, Ex.blk_exit, Ex.blk_ret, if_true, if_false, reduceIte, reduceCtorEq, Nat.reduceEqDiff]
          refine awp_r1 hK (by simp only [EV, xreg, xops, xop, vop, eop, AOp.eff, ap1, ap2, ov, ovs, ovo, rd, upd, look, gcond, abin, aaeq, aeqs, abeq, asbin, aisnil, asnil, aun, acv, afa, aia, ald, abnd, asl, assl, afd, aix, aex, aln, alns, amxs, amx2, anc, apick, newAt, hget, put, AV.whole, AV.isCell, oneCell, fillParts, slCells, asInt?, pcallX, AV.norefs, AV.noref, AV.scalar, AV.scalars, Nat.reduceEqDiff, Nat.reduceAdd, Nat.reduceMul, Nat.reduceSub, Nat.reduceBEq, Nat.reduceLeDiff, Nat.reduceLT, reduceIte, reduceCtorEq, List.reduceReplicate, Int.reduceToNat, Int.reduceLE, Int.reduceLT, eI, e32, eTy, eIns, eCls, eMeth, eImg, eSl, ty_eta, ins_eta, cls_eta, meth_eta, img_eta, nr_I, nr_32, nr_T, nr_N, nr_C, nr_M, getD_map_mid, h28, s28_eq, h29, s29_eq, h30, s30_eq, h31, s31_eq, List.length_map]; rfl) (by first | rfl | (simp [gle_iff]; done) | (simp [gle_iff]; omega) | grind [gle]) ?_ -- r12
          simp only [Ex.then_normal, Ex.then_exit, Ex.then_ret, Ex.blk_normal, Ex.blk_exit, Ex.blk_ret, if_true, if_false, reduceIte, reduceCtorEq, Nat.reduceEqDiff]
          rw [wrap_succ hk1 (Nat.le_trans hlm (by decide))]
          refine ⟨hk1, methS ⟨m_classes, m_statics, m_ints, m_methods, m_entries, m_stack, m_heap⟩ (meth m_methods (k : Int)), ?_, _, _, _, _, _, _, _, _, _, _, _,  rfl⟩
          rw [List.range_succ, List.all_append, ← Bool.and_assoc, ← hp0]; simp [f31, meth]
        ·
          refine awp_exit ?_
          simp only [Ex.then_normal, Ex.then_exit, Ex.then_ret, Ex.blk_normal, Ex.blk_exit, Ex.blk_ret, if_true, if_false, reduceIte, reduceCtorEq, Nat.reduceEqDiff]
          refine ⟨b, ?_, _, _, _, _, _, _, _, _, _, _, _, _,  rfl⟩
          have hkk : k = m_methods.length ∨ b = false := by simp at hc3; rcases Nat.lt_or_ge k m_methods.length with h | h; exact .inr (by cases b <;> simp_all); exact .inl (by omega)
          rcases hkk with hkk | hkk
          · rw [hp0, hkk, all_range (methS ⟨m_classes, m_statics, m_ints, m_methods, m_entries, m_stack, m_heap⟩)]
          · rw [hkk] at hp0 ⊢
            symm
            rw [Bool.eq_false_iff]
            intro h
            symm at hp0
            rw [Bool.eq_false_iff] at hp0
            refine hp0 ?_
            simp only [Bool.and_eq_true, List.all_eq_true, List.mem_range] at h ⊢
            exact ⟨h.1, fun c hc => h.2 (m_methods.getD c default) (by rw [List.getD_eq_getElem?_getD, List.getElem?_eq_getElem (by omega), Option.getD_some]; exact List.getElem_mem _)⟩
      ·
        rintro s ⟨b, hr0, j4, j5, j6, j7, j8, j11, j23, j36, j53, j65, j95, j110, rfl⟩
        refine awp_cut (fun s => ∃ (b : Bool), (b = ((((((m_statics.all fun t => goodT t m_classes.length) && (List.range m_classes.length).all fun (c : Nat) => clsS ⟨m_classes, m_statics, m_ints, m_methods, m_entries, m_stack, m_heap⟩ c)) && m_methods.all (methS ⟨m_classes, m_statics, m_ints, m_methods, m_entries, m_stack, m_heap⟩))) && m_entries.all (entS ⟨m_classes, m_statics, m_ints, m_methods, m_entries, m_stack, m_heap⟩))) ∧ ∃ j4 j5 j6 j7 j8 j11 j23 j36 j53 j65 j95 j110, s = ⟨[.agg [.vsl 3 (List.map eCls m_classes), .vsl 2 (List.map eTy m_statics), .vsl 1 (List.map e32 m_ints), .vsl 8 (List.map eMeth m_methods), .vsl 1 (List.map eI m_entries), .int .i64 m_stack, .int .i64 m_heap], .ref 0 0, .int .i64 0, .bool b, j4, j5, j6, j7, j8, j11, j23, j36, j53, j65, j95, j110], [.live [.vsl 3 (List.map eCls m_classes), .vsl 2 (List.map eTy m_statics), .vsl 1 (List.map e32 m_ints), .vsl 8 (List.map eMeth m_methods), .vsl 1 (List.map eI m_entries), .int .i64 m_stack, .int .i64 m_heap]]⟩) ?_ ?_
        ·
          refine awp_rs hK (by simp only [EV, xreg, xops, xop, vop, eop, AOp.eff, ap1, ap2, ov, ovs, ovo, rd, upd, look, gcond, abin, aaeq, aeqs, abeq, asbin, aisnil, asnil, aun, acv, afa, aia, ald, abnd, asl, assl, afd, aix, aex, aln, alns, amxs, amx2, anc, apick, newAt, hget, put, AV.whole, AV.isCell, oneCell, fillParts, slCells, asInt?, pcallX, AV.norefs, AV.noref, AV.scalar, AV.scalars, Nat.reduceEqDiff, Nat.reduceAdd, Nat.reduceMul, Nat.reduceSub, Nat.reduceBEq, Nat.reduceLeDiff, Nat.reduceLT, reduceIte, reduceCtorEq, List.reduceReplicate, Int.reduceToNat, Int.reduceLE, Int.reduceLT, eI, e32, eTy, eIns, eCls, eMeth, eImg, eSl, ty_eta, ins_eta, cls_eta, meth_eta, img_eta, nr_I, nr_32, nr_T, nr_N, nr_C, nr_M, getD_map_mid, h28, s28_eq, h29, s29_eq, h30, s30_eq, h31, s31_eq, List.length_map]; rfl) (by first | rfl | (simp [gle_iff]; done) | (simp [gle_iff]; omega) | grind [gle]) ?_ -- r13
          refine awp_block ?_
          refine awp_upto (m_entries.length) (fun k s => ∃ (b : Bool), (b = ((((((m_statics.all fun t => goodT t m_classes.length) && (List.range m_classes.length).all fun (c : Nat) => clsS ⟨m_classes, m_statics, m_ints, m_methods, m_entries, m_stack, m_heap⟩ c)) && m_methods.all (methS ⟨m_classes, m_statics, m_ints, m_methods, m_entries, m_stack, m_heap⟩))) && (List.range k).all fun n => entS ⟨m_classes, m_statics, m_ints, m_methods, m_entries, m_stack, m_heap⟩ (m_entries.getD n 0))) ∧ ∃ j4 j5 j7 j8 j11 j23 j36 j53 j65 j95 j110, s = ⟨[.agg [.vsl 3 (List.map eCls m_classes), .vsl 2 (List.map eTy m_statics), .vsl 1 (List.map e32 m_ints), .vsl 8 (List.map eMeth m_methods), .vsl 1 (List.map eI m_entries), .int .i64 m_stack, .int .i64 m_heap], .ref 0 0, .int .i64 0, .bool b, j4, j5, .int .i64 k, j7, j8, j11, j23, j36, j53, j65, j95, j110], [.live [.vsl 3 (List.map eCls m_classes), .vsl 2 (List.map eTy m_statics), .vsl 1 (List.map e32 m_ints), .vsl 8 (List.map eMeth m_methods), .vsl 1 (List.map eI m_entries), .int .i64 m_stack, .int .i64 m_heap]]⟩) ?_ ?_
          · exact ⟨b, by rw [hr0]; simp, _, _, _, _, _, _, _, _, _, _, _,  rfl⟩
          rintro k s hkn ⟨b, hp0, j4, j5, j7, j8, j11, j23, j36, j53, j65, j95, j110, rfl⟩
          refine awp_seq ?_
          refine awp_rs hK (by simp only [EV, xreg, xops, xop, vop, eop, AOp.eff, ap1, ap2, ov, ovs, ovo, rd, upd, look, gcond, abin, aaeq, aeqs, abeq, asbin, aisnil, asnil, aun, acv, afa, aia, ald, abnd, asl, assl, afd, aix, aex, aln, alns, amxs, amx2, anc, apick, newAt, hget, put, AV.whole, AV.isCell, oneCell, fillParts, slCells, asInt?, pcallX, AV.norefs, AV.noref, AV.scalar, AV.scalars, Nat.reduceEqDiff, Nat.reduceAdd, Nat.reduceMul, Nat.reduceSub, Nat.reduceBEq, Nat.reduceLeDiff, Nat.reduceLT, reduceIte, reduceCtorEq, List.reduceReplicate, Int.reduceToNat, Int.reduceLE, Int.reduceLT, eI, e32, eTy, eIns, eCls, eMeth, eImg, eSl, ty_eta, ins_eta, cls_eta, meth_eta, img_eta, nr_I, nr_32, nr_T, nr_N, nr_C, nr_M, getD_map_mid, h28, s28_eq, h29, s29_eq, h30, s30_eq, h31, s31_eq, List.length_map]; rfl) (by first | rfl | (simp [gle_iff]; done) | (simp [gle_iff]; omega) | grind [gle]) ?_ -- r14
          refine awp_if rfl (fun hc4 => ?_) (fun hc4 => ?_)
          ·
            have hb : b = true := by simp at hc4; exact hc4.2
            have hk1 : k < m_entries.length := by simp at hc4; omega
            subst hb
            have hgy := getD_int' m_entries (k : Int) (by omega)
            simp only [Int.toNat_natCast] at hgy
            obtain ⟨y, hy⟩ : ∃ y, y = m_entries.getD k 0 := ⟨_, rfl⟩
            rw [← hy] at hgy
            have hym : y ∈ m_entries := by rw [hy, List.getD_eq_getElem?_getD, List.getElem?_eq_getElem hk1, Option.getD_some]; exact List.getElem_mem _
            have hye := hen y hym
            refine awp_skip ?_
            simp only [Ex.then_normal, Ex.then_exit, Ex.then_ret, Ex.blk_normal, Ex.blk_exit, Ex.blk_ret, if_true, if_false, reduceIte, reduceCtorEq, Nat.reduceEqDiff]
            refine awp_seq ?_
            refine awp_block ?_
            refine awp_rs hK (by simp only [EV, xreg, xops, xop, vop, eop, AOp.eff, ap1, ap2, ov, ovs, ovo, rd, upd, look, gcond, abin, aaeq, aeqs, abeq, asbin, aisnil, asnil, aun, acv, afa, aia, ald, abnd, asl, assl, afd, aix, aex, aln, alns, amxs, amx2, anc, apick, newAt, hget, put, AV.whole, AV.isCell, oneCell, fillParts, slCells, asInt?, pcallX, AV.norefs, AV.noref, AV.scalar, AV.scalars, Nat.reduceEqDiff, Nat.reduceAdd, Nat.reduceMul, Nat.reduceSub, Nat.reduceBEq, Nat.reduceLeDiff, Nat.reduceLT, reduceIte, reduceCtorEq, List.reduceReplicate, Int.reduceToNat, Int.reduceLE, Int.reduceLT, eI, e32, eTy, eIns, eCls, eMeth, eImg, eSl, ty_eta, ins_eta, cls_eta, meth_eta, img_eta, nr_I, nr_32, nr_T, nr_N, nr_C, nr_M, getD_map_mid, h28, s28_eq, h29, s29_eq, h30, s30_eq, h31, s31_eq, List.length_map, Int.toNat_natCast, hgy]; rfl) (by simp [hk1]) ?_ -- r15
            refine awp_seq ?_
            refine awp_rs hK (by simp only [EV, xreg, xops, xop, vop, eop, AOp.eff, ap1, ap2, ov, ovs, ovo, rd, upd, look, gcond, abin, aaeq, aeqs, abeq, asbin, aisnil, asnil, aun, acv, afa, aia, ald, abnd, asl, assl, afd, aix, aex, aln, alns, amxs, amx2, anc, apick, newAt, hget, put, AV.whole, AV.isCell, oneCell, fillParts, slCells, asInt?, pcallX, AV.norefs, AV.noref, AV.scalar, AV.scalars, Nat.reduceEqDiff, Nat.reduceAdd, Nat.reduceMul, Nat.reduceSub, Nat.reduceBEq, Nat.reduceLeDiff, Nat.reduceLT, reduceIte, reduceCtorEq, List.reduceReplicate, Int.reduceToNat, Int.reduceLE, Int.reduceLT, eI, e32, eTy, eIns, eCls, eMeth, eImg, eSl, ty_eta, ins_eta, cls_eta, meth_eta, img_eta, nr_I, nr_32, nr_T, nr_N, nr_C, nr_M, getD_map_mid, h28, s28_eq, h29, s29_eq, h30, s30_eq, h31, s31_eq, List.length_map]; rfl) (by first | rfl | (simp [gle_iff]; done) | (simp [gle_iff]; omega) | grind [gle]) ?_ -- r16
            refine awp_if rfl (fun hc5 => ?_) (fun hc5 => ?_)
            ·
              refine awp_rs hK (by simp only [EV, xreg, xops, xop, vop, eop, AOp.eff, ap1, ap2, ov, ovs, ovo, rd, upd, look, gcond, abin, aaeq, aeqs, abeq, asbin, aisnil, asnil, aun, acv, afa, aia, ald, abnd, asl, assl, afd, aix, aex, aln, alns, amxs, amx2, anc, apick, newAt, hget, put, AV.whole, AV.isCell, oneCell, fillParts, slCells, asInt?, pcallX, AV.norefs, AV.noref, AV.scalar, AV.scalars, Nat.reduceEqDiff, Nat.reduceAdd, Nat.reduceMul, Nat.reduceSub, Nat.reduceBEq, Nat.reduceLeDiff, Nat.reduceLT, reduceIte, reduceCtorEq, List.reduceReplicate, Int.reduceToNat, Int.reduceLE, Int.reduceLT, eI, e32, eTy, eIns, eCls, eMeth, eImg, eSl, ty_eta, ins_eta, cls_eta, meth_eta, img_eta, nr_I, nr_32, nr_T, nr_N, nr_C, nr_M, getD_map_mid, h28, s28_eq, h29, s29_eq, h30, s30_eq, h31, s31_eq, List.length_map]; rfl) (by first | rfl | (simp [gle_iff]; done) | (simp [gle_iff]; omega) | grind [gle]) ?_ -- r17
              refine awp_reti (fun h => h) rfl ?_ -- leaf 2
              have : saneB ⟨m_classes, m_statics, m_ints, m_methods, m_entries, m_stack, m_heap⟩ = false := by
                rw [Bool.eq_false_iff]; intro h; simp [saneB] at h; have := h.2 y hym; simp [entS] at this; simp at hc5; omega
              simp [f9, saneE, hf, this]
            ·
              have hyn : y < m_methods.length := by simp at hc5; exact hc5
              have hgm := getD_meth' m_methods y ⟨hye.1, hyn⟩
              have hal := (methW_spec (fits_meth hf _ (meth_mem ⟨hye.1, hyn⟩))).1
              simp only at hal
              have hym : 0 ≤ y ∧ y < m_methods.length := ⟨hye.1, hyn⟩
              refine awp_skip ?_
              simp only [Ex.then_normal, Ex.then_exit, Ex.then_ret, Ex.blk_normal, Ex.blk_exit, Ex.blk_ret, if_true, if_false, reduceIte, reduceCtorEq, Nat.reduceEqDiff]
              refine awp_rs hK (by simp only [EV, xreg, xops, xop, vop, eop, AOp.eff, ap1, ap2, ov, ovs, ovo, rd, upd, look, gcond, abin, aaeq, aeqs, abeq, asbin, aisnil, asnil, aun, acv, afa, aia, ald, abnd, asl, assl, afd, aix, aex, aln, alns, amxs, amx2, anc, apick, newAt, hget, put, AV.whole, AV.isCell, oneCell, fillParts, slCells, asInt?, pcallX, AV.norefs, AV.noref, AV.scalar, AV.scalars, Nat.reduceEqDiff, Nat.reduceAdd, Nat.reduceMul, Nat.reduceSub, Nat.reduceBEq, Nat.reduceLeDiff, Nat.reduceLT, reduceIte, reduceCtorEq, List.reduceReplicate, Int.reduceToNat, Int.reduceLE, Int.reduceLT, eI, e32, eTy, eIns, eCls, eMeth, eImg, eSl, ty_eta, ins_eta, cls_eta, meth_eta, img_eta, nr_I, nr_32, nr_T, nr_N, nr_C, nr_M, getD_map_mid, h28, s28_eq, h29, s29_eq, h30, s30_eq, h31, s31_eq, List.length_map, hgm]; rfl) (by simp [hym, gle_iff]; try omega) ?_ -- r18
              refine awp_rs hK (by simp only [EV, xreg, xops, xop, vop, eop, AOp.eff, ap1, ap2, ov, ovs, ovo, rd, upd, look, gcond, abin, aaeq, aeqs, abeq, asbin, aisnil, asnil, aun, acv, afa, aia, ald, abnd, asl, assl, afd, aix, aex, aln, alns, amxs, amx2, anc, apick, newAt, hget, put, AV.whole, AV.isCell, oneCell, fillParts, slCells, asInt?, pcallX, AV.norefs, AV.noref, AV.scalar, AV.scalars, Nat.reduceEqDiff, Nat.reduceAdd, Nat.reduceMul, Nat.reduceSub, Nat.reduceBEq, Nat.reduceLeDiff, Nat.reduceLT, reduceIte, reduceCtorEq, List.reduceReplicate, Int.reduceToNat, Int.reduceLE, Int.reduceLT, eI, e32, eTy, eIns, eCls, eMeth, eImg, eSl, ty_eta, ins_eta, cls_eta, meth_eta, img_eta, nr_I, nr_32, nr_T, nr_N, nr_C, nr_M, getD_map_mid, h28, s28_eq, h29, s29_eq, h30, s30_eq, h31, s31_eq, List.length_map]; rfl) (by first | rfl | (simp [gle_iff]; done) | (simp [gle_iff]; omega) | grind [gle]) ?_ -- r19
              refine awp_block ?_
              refine awp_upto ((meth m_methods y).args.length) (fun j s => ∃ (e : Bool), (e = (((meth m_methods y).ret.kind == 1 || (meth m_methods y).ret.kind == 5) && (List.range j).all fun n => ((meth m_methods y).args.getD n default).kind == 1)) ∧ ∃ j4 j5 j11 j23 j36 j53 j65 j95 j110, s = ⟨[.agg [.vsl 3 (List.map eCls m_classes), .vsl 2 (List.map eTy m_statics), .vsl 1 (List.map e32 m_ints), .vsl 8 (List.map eMeth m_methods), .vsl 1 (List.map eI m_entries), .int .i64 m_stack, .int .i64 m_heap], .ref 0 0, .int .i64 0, .bool e, j4, j5, .int .i64 k, .int .i64 y, .int .i64 j, j11, j23, j36, j53, j65, j95, j110], [.live [.vsl 3 (List.map eCls m_classes), .vsl 2 (List.map eTy m_statics), .vsl 1 (List.map e32 m_ints), .vsl 8 (List.map eMeth m_methods), .vsl 1 (List.map eI m_entries), .int .i64 m_stack, .int .i64 m_heap]]⟩) ?_ ?_
              · exact ⟨_, by simp only [List.range_zero, List.all_nil, Bool.and_true]; cases (meth m_methods y).ret.kind == 1 <;> rfl, _, _, _, _, _, _, _, _, _,  rfl⟩
              rintro j s hjn ⟨e, hz0, j4, j5, j11, j23, j36, j53, j65, j95, j110, rfl⟩
              refine awp_seq ?_
              refine awp_rs hK (by simp only [EV, xreg, xops, xop, vop, eop, AOp.eff, ap1, ap2, ov, ovs, ovo, rd, upd, look, gcond, abin, aaeq, aeqs, abeq, asbin, aisnil, asnil, aun, acv, afa, aia, ald, abnd, asl, assl, afd, aix, aex, aln, alns, amxs, amx2, anc, apick, newAt, hget, put, AV.whole, AV.isCell, oneCell, fillParts, slCells, asInt?, pcallX, AV.norefs, AV.noref, AV.scalar, AV.scalars, Nat.reduceEqDiff, Nat.reduceAdd, Nat.reduceMul, Nat.reduceSub, Nat.reduceBEq, Nat.reduceLeDiff, Nat.reduceLT, reduceIte, reduceCtorEq, List.reduceReplicate, Int.reduceToNat, Int.reduceLE, Int.reduceLT, eI, e32, eTy, eIns, eCls, eMeth, eImg, eSl, ty_eta, ins_eta, cls_eta, meth_eta, img_eta, nr_I, nr_32, nr_T, nr_N, nr_C, nr_M, getD_map_mid, h28, s28_eq, h29, s29_eq, h30, s30_eq, h31, s31_eq, List.length_map, hgm]; rfl) (by simp [hym, gle_iff]; try omega) ?_ -- r20
              refine awp_if rfl (fun hc6 => ?_) (fun hc6 => ?_)
              ·
                have hb : e = true := by simp at hc6; exact hc6.2
                have hk2 : j < (meth m_methods y).args.length := by simp at hc6; exact hc6.1
                subst hb
                have hga := getD_ty' (meth m_methods y).args (j : Int) (by omega)
                simp only [Int.toNat_natCast] at hga
                refine awp_skip ?_
                simp only [Ex.then_normal, Ex.then_exit, Ex.then_ret, Ex.blk_normal, Ex.blk_exit, Ex.blk_ret, if_true, if_false, reduceIte, reduceCtorEq, Nat.reduceEqDiff]
                refine awp_seq ?_
                refine awp_block ?_
                refine awp_r1 hK (by simp only [EV, xreg, xops, xop, vop, eop, AOp.eff, ap1, ap2, ov, ovs, ovo, rd, upd, look, gcond, abin, aaeq, aeqs, abeq, asbin, aisnil, asnil, aun, acv, afa, aia, ald, abnd, asl, assl, afd, aix, aex, aln, alns, amxs, amx2, anc, apick, newAt, hget, put, AV.whole, AV.isCell, oneCell, fillParts, slCells, asInt?, pcallX, AV.norefs, AV.noref, AV.scalar, AV.scalars, Nat.reduceEqDiff, Nat.reduceAdd, Nat.reduceMul, Nat.reduceSub, Nat.reduceBEq, Nat.reduceLeDiff, Nat.reduceLT, reduceIte, reduceCtorEq, List.reduceReplicate, Int.reduceToNat, Int.reduceLE, Int.reduceLT, eI, e32, eTy, eIns, eCls, eMeth, eImg, eSl, ty_eta, ins_eta, cls_eta, meth_eta, img_eta, nr_I, nr_32, nr_T, nr_N, nr_C, nr_M, getD_map_mid, h28, s28_eq, h29, s29_eq, h30, s30_eq, h31, s31_eq, List.length_map, hgm, Int.toNat_natCast, hga]; rfl) (by simp [hym, hk2, gle_iff]; try omega) ?_ -- r21
                simp only [Ex.then_normal, Ex.then_exit, Ex.then_ret, Ex.blk_normal, Ex.blk_exit, Ex.blk_ret, if_true, if_false, reduceIte, reduceCtorEq, Nat.reduceEqDiff]
                refine awp_r1 hK (by simp only [EV, xreg, xops, xop, vop, eop, AOp.eff, ap1, ap2, ov, ovs, ovo, rd, upd, look, gcond, abin, aaeq, aeqs, abeq, asbin, aisnil, asnil, aun, acv, afa, aia, ald, abnd, asl, assl, afd, aix, aex, aln, alns, amxs, amx2, anc, apick, newAt, hget, put, AV.whole, AV.isCell, oneCell, fillParts, slCells, asInt?, pcallX, AV.norefs, AV.noref, AV.scalar, AV.scalars, Nat.reduceEqDiff, Nat.reduceAdd, Nat.reduceMul, Nat.reduceSub, Nat.reduceBEq, Nat.reduceLeDiff, Nat.reduceLT, reduceIte, reduceCtorEq, List.reduceReplicate, Int.reduceToNat, Int.reduceLE, Int.reduceLT, eI, e32, eTy, eIns, eCls, eMeth, eImg, eSl, ty_eta, ins_eta, cls_eta, meth_eta, img_eta, nr_I, nr_32, nr_T, nr_N, nr_C, nr_M, getD_map_mid, h28, s28_eq, h29, s29_eq, h30, s30_eq, h31, s31_eq, List.length_map]; rfl) (by first | rfl | (simp [gle_iff]; done) | (simp [gle_iff]; omega) | grind [gle]) ?_ -- r22
                simp only [Ex.then_normal, Ex.then_exit, Ex.then_ret, Ex.blk_normal, Ex.blk_exit, Ex.blk_ret, if_true, if_false, reduceIte, reduceCtorEq, Nat.reduceEqDiff]
                rw [wrap_succ hk2 (Nat.le_trans hal (by decide))]
                refine ⟨hk2, _, ?_, _, _, _, _, _, _, _, _, _,  rfl⟩
                rw [List.range_succ, List.all_append, ← Bool.and_assoc, ← hz0]; simp
              ·
                refine awp_exit ?_
                simp only [Ex.then_normal, Ex.then_exit, Ex.then_ret, Ex.blk_normal, Ex.blk_exit, Ex.blk_ret, if_true, if_false, reduceIte, reduceCtorEq, Nat.reduceEqDiff]
                refine awp_r1 hK (by simp only [EV, xreg, xops, xop, vop, eop, AOp.eff, ap1, ap2, ov, ovs, ovo, rd, upd, look, gcond, abin, aaeq, aeqs, abeq, asbin, aisnil, asnil, aun, acv, afa, aia, ald, abnd, asl, assl, afd, aix, aex, aln, alns, amxs, amx2, anc, apick, newAt, hget, put, AV.whole, AV.isCell, oneCell, fillParts, slCells, asInt?, pcallX, AV.norefs, AV.noref, AV.scalar, AV.scalars, Nat.reduceEqDiff, Nat.reduceAdd, Nat.reduceMul, Nat.reduceSub, Nat.reduceBEq, Nat.reduceLeDiff, Nat.reduceLT, reduceIte, reduceCtorEq, List.reduceReplicate, Int.reduceToNat, Int.reduceLE, Int.reduceLT, eI, e32, eTy, eIns, eCls, eMeth, eImg, eSl, ty_eta, ins_eta, cls_eta, meth_eta, img_eta, nr_I, nr_32, nr_T, nr_N, nr_C, nr_M, getD_map_mid, h28, s28_eq, h29, s29_eq, h30, s30_eq, h31, s31_eq, List.length_map]; rfl) (by first | rfl | (simp [gle_iff]; done) | (simp [gle_iff]; omega) | grind [gle]) ?_ -- r23
                simp only [Ex.then_normal, Ex.then_exit, Ex.then_ret, Ex.blk_normal, Ex.blk_exit, Ex.blk_ret, if_true, if_false, reduceIte, reduceCtorEq, Nat.reduceEqDiff]
                have he : e = (((meth m_methods y).ret.kind == 1 || (meth m_methods y).ret.kind == 5) && (meth m_methods y).args.all fun t => t.kind == 1) := by
                  have hjj : j = (meth m_methods y).args.length ∨ e = false := by simp at hc6; rcases Nat.lt_or_ge j (meth m_methods y).args.length with h | h; exact .inr (by cases e <;> simp_all); exact .inl (by omega)
                  rcases hjj with hjj | hjj
                  · rw [hz0, hjj, all_range (fun t : Ty => t.kind == 1)]
                  · rw [hjj] at hz0 ⊢
                    symm
                    rw [Bool.eq_false_iff]
                    intro h
                    symm at hz0
                    rw [Bool.eq_false_iff] at hz0
                    refine hz0 ?_
                    rw [Bool.and_eq_true] at h ⊢
                    refine ⟨h.1, ?_⟩
                    rw [List.all_eq_true] at h ⊢
                    intro c hc
                    rw [List.mem_range] at hc
                    refine h.2 _ ?_
                    rw [List.getD_eq_getElem?_getD, List.getElem?_eq_getElem (by omega), Option.getD_some]
                    exact List.getElem_mem _
                rw [wrap_succ hk1 (Nat.le_trans hle (by decide))]
                refine ⟨hk1, e, ?_, _, _, _, _, _, _, _, _, _, _, _,  rfl⟩
                rw [List.range_succ, List.all_append, ← Bool.and_assoc, ← hp0, he]; simp [entS, -List.getD_eq_getElem?_getD, ← hy, hym.2]
          ·
            refine awp_exit ?_
            simp only [Ex.then_normal, Ex.then_exit, Ex.then_ret, Ex.blk_normal, Ex.blk_exit, Ex.blk_ret, if_true, if_false, reduceIte, reduceCtorEq, Nat.reduceEqDiff]
            refine ⟨b, ?_, _, _, _, _, _, _, _, _, _, _, _, _,  rfl⟩
            have hkk : k = m_entries.length ∨ b = false := by simp at hc4; rcases Nat.lt_or_ge k m_entries.length with h | h; exact .inr (by cases b <;> simp_all); exact .inl (by omega)
            rcases hkk with hkk | hkk
            · rw [hp0, hkk, all_range (entS ⟨m_classes, m_statics, m_ints, m_methods, m_entries, m_stack, m_heap⟩)]
            · rw [hkk] at hp0 ⊢
              symm
              rw [Bool.eq_false_iff]
              intro h
              symm at hp0
              rw [Bool.eq_false_iff] at hp0
              refine hp0 ?_
              simp only [Bool.and_eq_true, List.all_eq_true, List.mem_range] at h ⊢
              exact ⟨h.1, fun c hc => h.2 (m_entries.getD c 0) (by rw [List.getD_eq_getElem?_getD, List.getElem?_eq_getElem (by omega), Option.getD_some]; exact List.getElem_mem _)⟩
        ·
          rintro s ⟨b, ht0, j4, j5, j6, j7, j8, j11, j23, j36, j53, j65, j95, j110, rfl⟩
          refine awp_seq ?_
          refine awp_rs hK (by simp only [EV, xreg, xops, xop, vop, eop, AOp.eff, ap1, ap2, ov, ovs, ovo, rd, upd, look, gcond, abin, aaeq, aeqs, abeq, asbin, aisnil, asnil, aun, acv, afa, aia, ald, abnd, asl, assl, afd, aix, aex, aln, alns, amxs, amx2, anc, apick, newAt, hget, put, AV.whole, AV.isCell, oneCell, fillParts, slCells, asInt?, pcallX, AV.norefs, AV.noref, AV.scalar, AV.scalars, Nat.reduceEqDiff, Nat.reduceAdd, Nat.reduceMul, Nat.reduceSub, Nat.reduceBEq, Nat.reduceLeDiff, Nat.reduceLT, reduceIte, reduceCtorEq, List.reduceReplicate, Int.reduceToNat, Int.reduceLE, Int.reduceLT, eI, e32, eTy, eIns, eCls, eMeth, eImg, eSl, ty_eta, ins_eta, cls_eta, meth_eta, img_eta, nr_I, nr_32, nr_T, nr_N, nr_C, nr_M, getD_map_mid, h28, s28_eq, h29, s29_eq, h30, s30_eq, h31, s31_eq, List.length_map]; rfl) (by first | rfl | (simp [gle_iff]; done) | (simp [gle_iff]; omega) | grind [gle]) ?_ -- r24
          refine awp_if rfl (fun hc7 => ?_) (fun hc7 => ?_)
          ·
            refine awp_rs hK (by simp only [EV, xreg, xops, xop, vop, eop, AOp.eff, ap1, ap2, ov, ovs, ovo, rd, upd, look, gcond, abin, aaeq, aeqs, abeq, asbin, aisnil, asnil, aun, acv, afa, aia, ald, abnd, asl, assl, afd, aix, aex, aln, alns, amxs, amx2, anc, apick, newAt, hget, put, AV.whole, AV.isCell, oneCell, fillParts, slCells, asInt?, pcallX, AV.norefs, AV.noref, AV.scalar, AV.scalars, Nat.reduceEqDiff, Nat.reduceAdd, Nat.reduceMul, Nat.reduceSub, Nat.reduceBEq, Nat.reduceLeDiff, Nat.reduceLT, reduceIte, reduceCtorEq, List.reduceReplicate, Int.reduceToNat, Int.reduceLE, Int.reduceLT, eI, e32, eTy, eIns, eCls, eMeth, eImg, eSl, ty_eta, ins_eta, cls_eta, meth_eta, img_eta, nr_I, nr_32, nr_T, nr_N, nr_C, nr_M, getD_map_mid, h28, s28_eq, h29, s29_eq, h30, s30_eq, h31, s31_eq, List.length_map]; rfl) (by first | rfl | (simp [gle_iff]; done) | (simp [gle_iff]; omega) | grind [gle]) ?_ -- r25
            refine awp_reti (fun h => h) rfl ?_ -- leaf 3
            have : saneB ⟨m_classes, m_statics, m_ints, m_methods, m_entries, m_stack, m_heap⟩ = false := by
              have hb : b = false := by simpa using hc7
              rw [← hb, ht0]; rfl
            simp [f9, saneE, hf, this]
          ·
            refine awp_skip ?_
            simp only [Ex.then_normal, Ex.then_exit, Ex.then_ret, Ex.blk_normal, Ex.blk_exit, Ex.blk_ret, if_true, if_false, reduceIte, reduceCtorEq, Nat.reduceEqDiff]
            refine awp_rs hK (by simp only [EV, xreg, xops, xop, vop, eop, AOp.eff, ap1, ap2, ov, ovs, ovo, rd, upd, look, gcond, abin, aaeq, aeqs, abeq, asbin, aisnil, asnil, aun, acv, afa, aia, ald, abnd, asl, assl, afd, aix, aex, aln, alns, amxs, amx2, anc, apick, newAt, hget, put, AV.whole, AV.isCell, oneCell, fillParts, slCells, asInt?, pcallX, AV.norefs, AV.noref, AV.scalar, AV.scalars, Nat.reduceEqDiff, Nat.reduceAdd, Nat.reduceMul, Nat.reduceSub, Nat.reduceBEq, Nat.reduceLeDiff, Nat.reduceLT, reduceIte, reduceCtorEq, List.reduceReplicate, Int.reduceToNat, Int.reduceLE, Int.reduceLT, eI, e32, eTy, eIns, eCls, eMeth, eImg, eSl, ty_eta, ins_eta, cls_eta, meth_eta, img_eta, nr_I, nr_32, nr_T, nr_N, nr_C, nr_M, getD_map_mid, h28, s28_eq, h29, s29_eq, h30, s30_eq, h31, s31_eq, List.length_map]; rfl) (by first | rfl | (simp [gle_iff]; done) | (simp [gle_iff]; omega) | grind [gle]) ?_ -- r26
            refine awp_reti (fun h => h) rfl ?_ -- leaf 4
            have : saneB ⟨m_classes, m_statics, m_ints, m_methods, m_entries, m_stack, m_heap⟩ = true := by
              have hb : b = true := by simpa using hc7
              rw [← hb, ht0]; rfl
            simp [f9, saneE, hf, this]

end Go.Proofs.Yteelkalenpbmmaa.Ab

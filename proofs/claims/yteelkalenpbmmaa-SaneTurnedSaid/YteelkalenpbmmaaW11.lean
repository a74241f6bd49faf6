import Derived.Test.YteelkalenpbmmaaAbs17
import Derived.Test.YteelkalenpbmmaaFns
import Derived.Test.YteelkalenpbmmaaW10
set_option linter.unusedVariables false
set_option linter.unusedSimpArgs false
set_option maxRecDepth 20000
set_option maxHeartbeats 1000000
namespace Go.Proofs.Yteelkalenpbmmaa.Ab

def aboveS (m : Img) (c : Int) : List Int := if 0 ≤ (cls m.classes c).super then (cls m.classes (cls m.classes c).super).slots else []
/-- Is one slot of a class right? -/
def slotS (m : Img) (c : Int) (k : Nat) : Bool :=
  decide ((cls m.classes c).slots.getD k 0 < m.methods.length) && (!(meth m.methods ((cls m.classes c).slots.getD k 0)).args.isEmpty && (subT m.classes ⟨3, c⟩ ((meth m.methods ((cls m.classes c).slots.getD k 0)).args.getD 0 default) &&
   (if k < (aboveS m c).length then decide ((meth m.methods ((cls m.classes c).slots.getD k 0)).args.drop 1 = (meth m.methods ((aboveS m c).getD k 0)).args.drop 1) && decide ((meth m.methods ((cls m.classes c).slots.getD k 0)).ret = (meth m.methods ((aboveS m c).getD k 0)).ret) else true)))
/-- Is a class right? -/
def clsS (m : Img) (c : Int) : Bool :=
  decide ((cls m.classes c).super < c) && ((cls m.classes c).fields.all (fun t => goodT t m.classes.length) && (decide ((fieldsOf m.classes c).length ≤ 8) &&
    (decide ((aboveS m c).length ≤ (cls m.classes c).slots.length) && (List.range (cls m.classes c).slots.length).all (slotS m c))))
theorem clsS_slot {m : Img} {c : Int} {k : Nat} (hk : k < (cls m.classes c).slots.length) (h : slotS m c k = false) : clsS m c = false := by
  have : (List.range (cls m.classes c).slots.length).all (slotS m c) = false := by
    rw [Bool.eq_false_iff]; intro h'
    rw [List.all_eq_true] at h'
    rw [h' k (List.mem_range.2 hk)] at h; cases h
  simp [clsS, this]
theorem clsS_spec {m : Img} {c : Int} (h : clsS m c = true) : (cls m.classes c).super < c ∧ (∀ t ∈ (cls m.classes c).fields, goodT t m.classes.length = true) ∧ (fieldsOf m.classes c).length ≤ 8 ∧ (aboveS m c).length ≤ (cls m.classes c).slots.length ∧ ∀ k, k < (cls m.classes c).slots.length → slotS m c k = true := by
  simp only [clsS, Bool.and_eq_true, decide_eq_true_eq, List.all_eq_true, List.mem_range] at h
  exact h
theorem slotS_spec {m : Img} {c : Int} {k : Nat} (h : slotS m c k = true) : (cls m.classes c).slots.getD k 0 < m.methods.length ∧ (meth m.methods ((cls m.classes c).slots.getD k 0)).args ≠ [] := by
  simp only [slotS, Bool.and_eq_true, decide_eq_true_eq] at h
  refine ⟨h.1, fun e => ?_⟩
  rw [e] at h
  simp at h
theorem above_slot {m : Img} {c : Int} {k : Nat} (hf : fits m = true) (hc : 0 ≤ c ∧ c < m.classes.length) (hs : (cls m.classes c).super < c) (hb : ∀ b, 0 ≤ b → b < c → clsS m b = true) (hk : k < (aboveS m c).length) :
    (0 ≤ (aboveS m c).getD k 0 ∧ (aboveS m c).getD k 0 < m.methods.length) ∧ (meth m.methods ((aboveS m c).getD k 0)).args ≠ [] := by
  unfold aboveS at hk ⊢
  split at hk
  · rename_i h0
    rw [if_pos h0]
    have h1 := (clsS_spec (hb _ h0 hs)).2.2.2.2 k hk
    have h2 := slotS_spec h1
    have h3 := (clsW_spec (fits_cls hf _ (cls_mem (c := (cls m.classes c).super) ⟨h0, by omega⟩))).2.2.2.2.2 ((cls m.classes (cls m.classes c).super).slots.getD k 0) (by
      rw [List.getD_eq_getElem?_getD, List.getElem?_eq_getElem hk, Option.getD_some]; exact List.getElem_mem _)
    exact ⟨⟨h3.1, h2.1⟩, h2.2⟩
  · simp at hk
/- plimsoll/plimsollref05.class -/
def f30 (m : Img) (c : Int) : Bool := clsS m c
def ok30 (m : Img) (c : Int) : Prop := fits m = true ∧ (0 ≤ c ∧ c < m.classes.length) ∧ ∀ b, 0 ≤ b → b < c → clsS m b = true
noncomputable def s30 := fnOf (α := Img × Int) (fun a => ok30 (a.1) (a.2)) (fun a => [eImg a.1, eI a.2]) fun a => .bool (f30 (a.1) (a.2))
theorem s30_inj (a b : Img × Int) (h : [eImg a.1, eI a.2] = [eImg b.1, eI b.2]) : a = b := by
  obtain ⟨a0, a1⟩ := a; obtain ⟨b0, b1⟩ := b
  simp only [List.cons.injEq, and_true, true_and] at h
  rw [eImg_inj h.1, eI_inj h.2]
theorem s30_eq (m_classes : List Klass) (m_statics : List Ty) (m_ints : List Int) (m_methods : List Meth) (m_entries : List Int) (m_stack : Int) (m_heap : Int) (c : Int) (h : ok30 (⟨m_classes, m_statics, m_ints, m_methods, m_entries, m_stack, m_heap⟩ : Img) c) : s30 [.agg [.vsl 3 (List.map eCls m_classes), .vsl 2 (List.map eTy m_statics), .vsl 1 (List.map e32 m_ints), .vsl 8 (List.map eMeth m_methods), .vsl 1 (List.map eI m_entries), .int .i64 m_stack, .int .i64 m_heap], .int .i64 c] = some (.bool (f30 (⟨m_classes, m_statics, m_ints, m_methods, m_entries, m_stack, m_heap⟩ : Img) c)) := fnOf_enc (a := (⟨m_classes, m_statics, m_ints, m_methods, m_entries, m_stack, m_heap⟩, c)) s30_inj h
theorem s30_eqp (m : Img) (c : Int) (h : ok30 m c) : s30 [.agg [.vsl 3 (List.map eCls m.classes), .vsl 2 (List.map eTy m.statics), .vsl 1 (List.map e32 m.ints), .vsl 8 (List.map eMeth m.methods), .vsl 1 (List.map eI m.entries), .int .i64 m.stack, .int .i64 m.heap], .int .i64 c] = some (.bool (f30 m c)) := fnOf_enc (a := (m, c)) s30_inj h

theorem w30 {K : Cfg} (hK : KOk Try.prog K) (h29 : K.pcall 29 = s29) (h45 : K.pcall 45 = s45) (h67 : K.pcall 67 = s67) (h68 : K.pcall 68 = s68) : PContract Try.prog 30 s30 := by
  refine pcontract_fn (K := K) s30_inj k30 fun a ha => ⟨of_decide_eq_true rfl, ?_⟩
  obtain ⟨m, c⟩ := a
  show AWP Try.prog K [0, 1, 2, 4, 5, 6, 7, 8, 9, 32, 36, 49, 54, 65, 90, 94, 117] 118 c30 (RetP [0, 1, 2, 4, 5, 6, 7, 8, 9, 32, 36, 49, 54, 65, 90, 94, 117] [.tmp 4] _) ⟨[_, _, _, _, _, _, _, _, _, _, _, _, _, _, _, _, _], []⟩
  refine awp_holds 0 fun hh_m => ?_
  have hw_m : m.Wf := Img.wf_of' hh_m
  clear hh_m
  obtain ⟨m_classes, m_statics, m_ints, m_methods, m_entries, m_stack, m_heap⟩ := m
  replace ha : ok30 (⟨m_classes, m_statics, m_ints, m_methods, m_entries, m_stack, m_heap⟩ : Img) c := ha
  have hk67 : ∀ n, ok67 ⟨m_classes, m_statics, m_ints, m_methods, m_entries, m_stack, m_heap⟩ n := fun _ => ha.1
  have hin := ha.2.1
  simp only at hin
  have hk68 : ∀ p q, ok68 m_classes p q := fun _ _ => Nat.le_trans (fits_classes ha.1) (by decide)
  have hgc := getD_cls' m_classes c hin
  unfold c30
  simp only [eI, e32, eTy, eIns, eCls, eMeth, eImg, eSl, ty_eta, ins_eta, cls_eta, meth_eta, img_eta, nr_I, nr_32, nr_T, nr_N, nr_C, nr_M, getD_map_mid, List.getD_cons_zero, List.getD_cons_succ, List.getD_nil]
  refine awp_rs hK (by simp only [EV, xreg, xops, xop, vop, eop, AOp.eff, ap1, ap2, ov, ovs, ovo, rd, upd, look, gcond, abin, aaeq, aeqs, abeq, asbin, aisnil, asnil, aun, acv, afa, aia, ald, abnd, asl, assl, afd, aix, aex, aln, alns, amxs, amx2, anc, apick, newAt, hget, put, AV.whole, AV.isCell, oneCell, fillParts, slCells, asInt?, pcallX, AV.norefs, AV.noref, AV.scalar, AV.scalars, Nat.reduceEqDiff, Nat.reduceAdd, Nat.reduceMul, Nat.reduceSub, Nat.reduceBEq, Nat.reduceLeDiff, Nat.reduceLT, reduceIte, reduceCtorEq, List.reduceReplicate, Int.reduceToNat, Int.reduceLE, Int.reduceLT, eI, e32, eTy, eIns, eCls, eMeth, eImg, eSl, ty_eta, ins_eta, cls_eta, meth_eta, img_eta, nr_I, nr_32, nr_T, nr_N, nr_C, nr_M, getD_map_mid, h29, s29_eq, h45, s45_eq, h67, s67_eq, h68, s68_eq, s67_eq _ _ _ _ _ _ _ _ (hk67 _), s68_eq _ _ _ _ _ (hk68 _ _), hgc, List.length_map]; rfl) (by first | rfl | (simp [gle_iff]; done) | (simp [gle_iff]; omega) | grind [gle]) ?_ -- r1
  refine awp_rs hK (by simp only [EV, xreg, xops, xop, vop, eop, AOp.eff, ap1, ap2, ov, ovs, ovo, rd, upd, look, gcond, abin, aaeq, aeqs, abeq, asbin, aisnil, asnil, aun, acv, afa, aia, ald, abnd, asl, assl, afd, aix, aex, aln, alns, amxs, amx2, anc, apick, newAt, hget, put, AV.whole, AV.isCell, oneCell, fillParts, slCells, asInt?, pcallX, AV.norefs, AV.noref, AV.scalar, AV.scalars, Nat.reduceEqDiff, Nat.reduceAdd, Nat.reduceMul, Nat.reduceSub, Nat.reduceBEq, Nat.reduceLeDiff, Nat.reduceLT, reduceIte, reduceCtorEq, List.reduceReplicate, Int.reduceToNat, Int.reduceLE, Int.reduceLT, eI, e32, eTy, eIns, eCls, eMeth, eImg, eSl, ty_eta, ins_eta, cls_eta, meth_eta, img_eta, nr_I, nr_32, nr_T, nr_N, nr_C, nr_M, getD_map_mid, h29, s29_eq, h45, s45_eq, h67, s67_eq, h68, s68_eq, s67_eq _ _ _ _ _ _ _ _ (hk67 _), s68_eq _ _ _ _ _ (hk68 _ _), hgc, List.length_map]; rfl) (by first | rfl | (simp [gle_iff]; done) | (simp [gle_iff]; omega) | grind [gle]) ?_ -- r2
  refine awp_seq ?_
  refine awp_rs hK (by simp only [EV, xreg, xops, xop, vop, eop, AOp.eff, ap1, ap2, ov, ovs, ovo, rd, upd, look, gcond, abin, aaeq, aeqs, abeq, asbin, aisnil, asnil, aun, acv, afa, aia, ald, abnd, asl, assl, afd, aix, aex, aln, alns, amxs, amx2, anc, apick, newAt, hget, put, AV.whole, AV.isCell, oneCell, fillParts, slCells, asInt?, pcallX, AV.norefs, AV.noref, AV.scalar, AV.scalars, Nat.reduceEqDiff, Nat.reduceAdd, Nat.reduceMul, Nat.reduceSub, Nat.reduceBEq, Nat.reduceLeDiff, Nat.reduceLT, reduceIte, reduceCtorEq, List.reduceReplicate, Int.reduceToNat, Int.reduceLE, Int.reduceLT, eI, e32, eTy, eIns, eCls, eMeth, eImg, eSl, ty_eta, ins_eta, cls_eta, meth_eta, img_eta, nr_I, nr_32, nr_T, nr_N, nr_C, nr_M, getD_map_mid, h29, s29_eq, h45, s45_eq, h67, s67_eq, h68, s68_eq, s67_eq _ _ _ _ _ _ _ _ (hk67 _), s68_eq _ _ _ _ _ (hk68 _ _), hgc, List.length_map]; rfl) (by first | rfl | (simp [gle_iff]; done) | (simp [gle_iff]; omega) | grind [gle]) ?_ -- r3
  refine awp_if rfl (fun hc1 => ?_) (fun hc1 => ?_)
  ·
    refine awp_rs hK (by simp only [EV, xreg, xops, xop, vop, eop, AOp.eff, ap1, ap2, ov, ovs, ovo, rd, upd, look, gcond, abin, aaeq, aeqs, abeq, asbin, aisnil, asnil, aun, acv, afa, aia, ald, abnd, asl, assl, afd, aix, aex, aln, alns, amxs, amx2, anc, apick, newAt, hget, put, AV.whole, AV.isCell, oneCell, fillParts, slCells, asInt?, pcallX, AV.norefs, AV.noref, AV.scalar, AV.scalars, Nat.reduceEqDiff, Nat.reduceAdd, Nat.reduceMul, Nat.reduceSub, Nat.reduceBEq, Nat.reduceLeDiff, Nat.reduceLT, reduceIte, reduceCtorEq, List.reduceReplicate, Int.reduceToNat, Int.reduceLE, Int.reduceLT, eI, e32, eTy, eIns, eCls, eMeth, eImg, eSl, ty_eta, ins_eta, cls_eta, meth_eta, img_eta, nr_I, nr_32, nr_T, nr_N, nr_C, nr_M, getD_map_mid, h29, s29_eq, h45, s45_eq, h67, s67_eq, h68, s68_eq, s67_eq _ _ _ _ _ _ _ _ (hk67 _), s68_eq _ _ _ _ _ (hk68 _ _), hgc, List.length_map]; rfl) (by first | rfl | (simp [gle_iff]; done) | (simp [gle_iff]; omega) | grind [gle]) ?_ -- r4
    refine awp_retb (fun h => h) rfl ?_ -- leaf 1
    refine (Bool.eq_false_iff.2 fun h => ?_).symm
    obtain ⟨h1, h2, h3, h4, h5⟩ := clsS_spec h
    simp only at h1 h2 h3 h4 h5
    simp [f29, f67] at hc1; grind
  ·
    refine awp_skip ?_
    simp only [Ex.then_normal, Ex.then_exit, Ex.then_ret, Ex.blk_normal, Ex.blk_exit, Ex.blk_ret, if_true, if_false, reduceIte, reduceCtorEq, Nat.reduceEqDiff]
    refine awp_rs hK (by simp only [EV, xreg, xops, xop, vop, eop, AOp.eff, ap1, ap2, ov, ovs, ovo, rd, upd, look, gcond, abin, aaeq, aeqs, abeq, asbin, aisnil, asnil, aun, acv, afa, aia, ald, abnd, asl, assl, afd, aix, aex, aln, alns, amxs, amx2, anc, apick, newAt, hget, put, AV.whole, AV.isCell, oneCell, fillParts, slCells, asInt?, pcallX, AV.norefs, AV.noref, AV.scalar, AV.scalars, Nat.reduceEqDiff, Nat.reduceAdd, Nat.reduceMul, Nat.reduceSub, Nat.reduceBEq, Nat.reduceLeDiff, Nat.reduceLT, reduceIte, reduceCtorEq, List.reduceReplicate, Int.reduceToNat, Int.reduceLE, Int.reduceLT, eI, e32, eTy, eIns, eCls, eMeth, eImg, eSl, ty_eta, ins_eta, cls_eta, meth_eta, img_eta, nr_I, nr_32, nr_T, nr_N, nr_C, nr_M, getD_map_mid, h29, s29_eq, h45, s45_eq, h67, s67_eq, h68, s68_eq, s67_eq _ _ _ _ _ _ _ _ (hk67 _), s68_eq _ _ _ _ _ (hk68 _ _), hgc, List.length_map]; rfl) (by first | rfl | (simp [gle_iff]; done) | (simp [gle_iff]; omega) | grind [gle]) ?_ -- r5
    refine awp_ent (ent_empty 5 1 rfl) ?_
    simp only [List.set_cons_succ, List.set_cons_zero]
    refine awp_cut (fun s => ∃ (ab : List Int), (ab = aboveS ⟨m_classes, m_statics, m_ints, m_methods, m_entries, m_stack, m_heap⟩ c) ∧ ∃ j7 j8 j9 j32 j36 j49 j54 j65 j90 j94 j117, s = ⟨[.agg [.vsl 3 (List.map eCls m_classes), .vsl 2 (List.map eTy m_statics), .vsl 1 (List.map e32 m_ints), .vsl 8 (List.map eMeth m_methods), .vsl 1 (List.map eI m_entries), .int .i64 m_stack, .int .i64 m_heap], .int .i64 c, .ref 0 0, .bool false, .ref 1 0, .vsl 1 (List.map eI ab), j7, j8, j9, j32, j36, j49, j54, j65, j90, j94, j117], [.live [.vsl 3 (List.map eCls m_classes), .vsl 2 (List.map eTy m_statics), .vsl 1 (List.map e32 m_ints), .vsl 8 (List.map eMeth m_methods), .vsl 1 (List.map eI m_entries), .int .i64 m_stack, .int .i64 m_heap], .live [.int .i64 (cls m_classes c).super, .vsl 2 (List.map eTy (cls m_classes c).fields), .vsl 1 (List.map eI (cls m_classes c).slots)], .live []]⟩) ?_ ?_
    ·
      refine awp_rs hK (by simp only [EV, xreg, xops, xop, vop, eop, AOp.eff, ap1, ap2, ov, ovs, ovo, rd, upd, look, gcond, abin, aaeq, aeqs, abeq, asbin, aisnil, asnil, aun, acv, afa, aia, ald, abnd, asl, assl, afd, aix, aex, aln, alns, amxs, amx2, anc, apick, newAt, hget, put, AV.whole, AV.isCell, oneCell, fillParts, slCells, asInt?, pcallX, AV.norefs, AV.noref, AV.scalar, AV.scalars, Nat.reduceEqDiff, Nat.reduceAdd, Nat.reduceMul, Nat.reduceSub, Nat.reduceBEq, Nat.reduceLeDiff, Nat.reduceLT, reduceIte, reduceCtorEq, List.reduceReplicate, Int.reduceToNat, Int.reduceLE, Int.reduceLT, eI, e32, eTy, eIns, eCls, eMeth, eImg, eSl, ty_eta, ins_eta, cls_eta, meth_eta, img_eta, nr_I, nr_32, nr_T, nr_N, nr_C, nr_M, getD_map_mid, h29, s29_eq, h45, s45_eq, h67, s67_eq, h68, s68_eq, s67_eq _ _ _ _ _ _ _ _ (hk67 _), s68_eq _ _ _ _ _ (hk68 _ _), hgc, List.length_map]; rfl) (by first | rfl | (simp [gle_iff]; done) | (simp [gle_iff]; omega) | grind [gle]) ?_ -- r6
      refine awp_if rfl (fun hc2 => ?_) (fun hc2 => ?_)
      ·
        have hs0 : 0 ≤ (cls m_classes c).super := by simpa using hc2
        have hsc : (cls m_classes c).super < c := by simp at hc1; omega
        have hgs := getD_cls' m_classes (cls m_classes c).super (by omega)
        refine awp_r1 hK (by simp only [EV, xreg, xops, xop, vop, eop, AOp.eff, ap1, ap2, ov, ovs, ovo, rd, upd, look, gcond, abin, aaeq, aeqs, abeq, asbin, aisnil, asnil, aun, acv, afa, aia, ald, abnd, asl, assl, afd, aix, aex, aln, alns, amxs, amx2, anc, apick, newAt, hget, put, AV.whole, AV.isCell, oneCell, fillParts, slCells, asInt?, pcallX, AV.norefs, AV.noref, AV.scalar, AV.scalars, Nat.reduceEqDiff, Nat.reduceAdd, Nat.reduceMul, Nat.reduceSub, Nat.reduceBEq, Nat.reduceLeDiff, Nat.reduceLT, reduceIte, reduceCtorEq, List.reduceReplicate, Int.reduceToNat, Int.reduceLE, Int.reduceLT, eI, e32, eTy, eIns, eCls, eMeth, eImg, eSl, ty_eta, ins_eta, cls_eta, meth_eta, img_eta, nr_I, nr_32, nr_T, nr_N, nr_C, nr_M, getD_map_mid, h29, s29_eq, h45, s45_eq, h67, s67_eq, h68, s68_eq, s67_eq _ _ _ _ _ _ _ _ (hk67 _), s68_eq _ _ _ _ _ (hk68 _ _), hgc, List.length_map, hgs]; rfl) (by first | rfl | (simp [gle_iff]; done) | (simp [gle_iff]; omega) | grind [gle]) ?_ -- r7
        simp only [Ex.then_normal, Ex.then_exit, Ex.then_ret, Ex.blk_normal, Ex.blk_exit, Ex.blk_ret, if_true, if_false, reduceIte, reduceCtorEq, Nat.reduceEqDiff]
        exact ⟨_, by simp at hc2; simp [aboveS, hc2], _, _, _, _, _, _, _, _, _, _, _,  rfl⟩
      ·
        refine awp_skip ?_
        simp only [Ex.then_normal, Ex.then_exit, Ex.then_ret, Ex.blk_normal, Ex.blk_exit, Ex.blk_ret, if_true, if_false, reduceIte, reduceCtorEq, Nat.reduceEqDiff]
        exact ⟨[], by simp at hc2; simp [aboveS]; intro h; omega, _, _, _, _, _, _, _, _, _, _, _,  rfl⟩
    ·
      rintro s ⟨ab, hab0, j7, j8, j9, j32, j36, j49, j54, j65, j90, j94, j117, rfl⟩
      refine awp_seq ?_
      refine awp_rs hK (by simp only [EV, xreg, xops, xop, vop, eop, AOp.eff, ap1, ap2, ov, ovs, ovo, rd, upd, look, gcond, abin, aaeq, aeqs, abeq, asbin, aisnil, asnil, aun, acv, afa, aia, ald, abnd, asl, assl, afd, aix, aex, aln, alns, amxs, amx2, anc, apick, newAt, hget, put, AV.whole, AV.isCell, oneCell, fillParts, slCells, asInt?, pcallX, AV.norefs, AV.noref, AV.scalar, AV.scalars, Nat.reduceEqDiff, Nat.reduceAdd, Nat.reduceMul, Nat.reduceSub, Nat.reduceBEq, Nat.reduceLeDiff, Nat.reduceLT, reduceIte, reduceCtorEq, List.reduceReplicate, Int.reduceToNat, Int.reduceLE, Int.reduceLT, eI, e32, eTy, eIns, eCls, eMeth, eImg, eSl, ty_eta, ins_eta, cls_eta, meth_eta, img_eta, nr_I, nr_32, nr_T, nr_N, nr_C, nr_M, getD_map_mid, h29, s29_eq, h45, s45_eq, h67, s67_eq, h68, s68_eq, s67_eq _ _ _ _ _ _ _ _ (hk67 _), s68_eq _ _ _ _ _ (hk68 _ _), hgc, List.length_map]; rfl) (by first | rfl | (simp [gle_iff]; done) | (simp [gle_iff]; omega) | grind [gle]) ?_ -- r8
      refine awp_if rfl (fun hc3 => ?_) (fun hc3 => ?_)
      ·
        refine awp_rs hK (by simp only [EV, xreg, xops, xop, vop, eop, AOp.eff, ap1, ap2, ov, ovs, ovo, rd, upd, look, gcond, abin, aaeq, aeqs, abeq, asbin, aisnil, asnil, aun, acv, afa, aia, ald, abnd, asl, assl, afd, aix, aex, aln, alns, amxs, amx2, anc, apick, newAt, hget, put, AV.whole, AV.isCell, oneCell, fillParts, slCells, asInt?, pcallX, AV.norefs, AV.noref, AV.scalar, AV.scalars, Nat.reduceEqDiff, Nat.reduceAdd, Nat.reduceMul, Nat.reduceSub, Nat.reduceBEq, Nat.reduceLeDiff, Nat.reduceLT, reduceIte, reduceCtorEq, List.reduceReplicate, Int.reduceToNat, Int.reduceLE, Int.reduceLT, eI, e32, eTy, eIns, eCls, eMeth, eImg, eSl, ty_eta, ins_eta, cls_eta, meth_eta, img_eta, nr_I, nr_32, nr_T, nr_N, nr_C, nr_M, getD_map_mid, h29, s29_eq, h45, s45_eq, h67, s67_eq, h68, s68_eq, s67_eq _ _ _ _ _ _ _ _ (hk67 _), s68_eq _ _ _ _ _ (hk68 _ _), hgc, List.length_map]; rfl) (by first | rfl | (simp [gle_iff]; done) | (simp [gle_iff]; omega) | grind [gle]) ?_ -- r9
        refine awp_retb (fun h => h) rfl ?_ -- leaf 2
        refine (Bool.eq_false_iff.2 fun h => ?_).symm
        obtain ⟨h1, h2, h3, h4, h5⟩ := clsS_spec h
        simp only at h1 h2 h3 h4 h5
        rw [← hab0] at h4
        simp at hc3; omega
      ·
        refine awp_skip ?_
        simp only [Ex.then_normal, Ex.then_exit, Ex.then_ret, Ex.blk_normal, Ex.blk_exit, Ex.blk_ret, if_true, if_false, reduceIte, reduceCtorEq, Nat.reduceEqDiff]
        refine awp_seq ?_
        refine awp_rs hK (by simp only [EV, xreg, xops, xop, vop, eop, AOp.eff, ap1, ap2, ov, ovs, ovo, rd, upd, look, gcond, abin, aaeq, aeqs, abeq, asbin, aisnil, asnil, aun, acv, afa, aia, ald, abnd, asl, assl, afd, aix, aex, aln, alns, amxs, amx2, anc, apick, newAt, hget, put, AV.whole, AV.isCell, oneCell, fillParts, slCells, asInt?, pcallX, AV.norefs, AV.noref, AV.scalar, AV.scalars, Nat.reduceEqDiff, Nat.reduceAdd, Nat.reduceMul, Nat.reduceSub, Nat.reduceBEq, Nat.reduceLeDiff, Nat.reduceLT, reduceIte, reduceCtorEq, List.reduceReplicate, Int.reduceToNat, Int.reduceLE, Int.reduceLT, eI, e32, eTy, eIns, eCls, eMeth, eImg, eSl, ty_eta, ins_eta, cls_eta, meth_eta, img_eta, nr_I, nr_32, nr_T, nr_N, nr_C, nr_M, getD_map_mid, h29, s29_eq, h45, s45_eq, h67, s67_eq, h68, s68_eq, s67_eq _ _ _ _ _ _ _ _ (hk67 _), s68_eq _ _ _ _ _ (hk68 _ _), hgc, List.length_map]; rfl) (by first | rfl | (simp [gle_iff]; done) | (simp [gle_iff]; omega) | grind [gle]) ?_ -- r10
        refine awp_block ?_
        refine awp_for ((cls m_classes c).slots) (fun pre post s => ∃ J, (∀ k, k < pre.length → slotS ⟨m_classes, m_statics, m_ints, m_methods, m_entries, m_stack, m_heap⟩ c k = true) ∧ ∃ j8 j9 j32 j36 j49 j54 j65 j90 j94 j117, s = ⟨[.agg [.vsl 3 (List.map eCls m_classes), .vsl 2 (List.map eTy m_statics), .vsl 1 (List.map e32 m_ints), .vsl 8 (List.map eMeth m_methods), .vsl 1 (List.map eI m_entries), .int .i64 m_stack, .int .i64 m_heap], .int .i64 c, .ref 0 0, .bool false, .ref 1 0, .vsl 1 (List.map eI ab), .int .i64 pre.length, j8, j9, j32, j36, j49, j54, j65, j90, j94, j117], .live [.vsl 3 (List.map eCls m_classes), .vsl 2 (List.map eTy m_statics), .vsl 1 (List.map e32 m_ints), .vsl 8 (List.map eMeth m_methods), .vsl 1 (List.map eI m_entries), .int .i64 m_stack, .int .i64 m_heap] :: .live [.int .i64 (cls m_classes c).super, .vsl 2 (List.map eTy (cls m_classes c).fields), .vsl 1 (List.map eI (cls m_classes c).slots)] :: .live [] :: J⟩) ?_ ?_
        · exact ⟨[], by simp, _, _, _, _, _, _, _, _, _, _,  rfl⟩
        rintro pre post s hpp ⟨J, hp0, j8, j9, j32, j36, j49, j54, j65, j90, j94, j117, rfl⟩
        refine awp_seq ?_
        refine awp_rs hK (by simp only [EV, xreg, xops, xop, vop, eop, AOp.eff, ap1, ap2, ov, ovs, ovo, rd, upd, look, gcond, abin, aaeq, aeqs, abeq, asbin, aisnil, asnil, aun, acv, afa, aia, ald, abnd, asl, assl, afd, aix, aex, aln, alns, amxs, amx2, anc, apick, newAt, hget, put, AV.whole, AV.isCell, oneCell, fillParts, slCells, asInt?, pcallX, AV.norefs, AV.noref, AV.scalar, AV.scalars, Nat.reduceEqDiff, Nat.reduceAdd, Nat.reduceMul, Nat.reduceSub, Nat.reduceBEq, Nat.reduceLeDiff, Nat.reduceLT, reduceIte, reduceCtorEq, List.reduceReplicate, Int.reduceToNat, Int.reduceLE, Int.reduceLT, eI, e32, eTy, eIns, eCls, eMeth, eImg, eSl, ty_eta, ins_eta, cls_eta, meth_eta, img_eta, nr_I, nr_32, nr_T, nr_N, nr_C, nr_M, getD_map_mid, h29, s29_eq, h45, s45_eq, h67, s67_eq, h68, s68_eq, s67_eq _ _ _ _ _ _ _ _ (hk67 _), s68_eq _ _ _ _ _ (hk68 _ _), hgc, List.length_map]; rfl) (by first | rfl | (simp [gle_iff]; done) | (simp [gle_iff]; omega) | grind [gle]) ?_ -- r11
        refine awp_if rfl (fun hc4 => ?_) (fun hc4 => ?_)
        ·
          obtain ⟨y, post, rfl⟩ : ∃ y r, post = y :: r := by
            cases post with
            | nil => simp [hpp] at hc4
            | cons y r => exact ⟨_, _, rfl⟩
          
          have hsl := (clsW_spec (fits_cls ha.1 _ (cls_mem hin))).2.2.2.2
          simp only at hsl
          have hy : 0 ≤ y := (hsl.2 y (by rw [hpp]; simp)).1
          have hk0 : pre.length < (cls m_classes c).slots.length := by rw [hpp]; simp
          have hgy : (List.map eI (cls m_classes c).slots).getD (Int.toNat (pre.length : Int)) .any = .int .i64 y := by rw [hpp]; exact getD_map_mid ..
          have hfy : (cls m_classes c).slots.getD pre.length 0 = y := by rw [hpp]; simp [List.getD_eq_getElem?_getD]
          
          refine awp_skip ?_
          simp only [Ex.then_normal, Ex.then_exit, Ex.then_ret, Ex.blk_normal, Ex.blk_exit, Ex.blk_ret, if_true, if_false, reduceIte, reduceCtorEq, Nat.reduceEqDiff]
          refine awp_seq ?_
          refine awp_block ?_
          refine awp_seq ?_
          refine awp_rs hK (by simp only [EV, xreg, xops, xop, vop, eop, AOp.eff, ap1, ap2, ov, ovs, ovo, rd, upd, look, gcond, abin, aaeq, aeqs, abeq, asbin, aisnil, asnil, aun, acv, afa, aia, ald, abnd, asl, assl, afd, aix, aex, aln, alns, amxs, amx2, anc, apick, newAt, hget, put, AV.whole, AV.isCell, oneCell, fillParts, slCells, asInt?, pcallX, AV.norefs, AV.noref, AV.scalar, AV.scalars, Nat.reduceEqDiff, Nat.reduceAdd, Nat.reduceMul, Nat.reduceSub, Nat.reduceBEq, Nat.reduceLeDiff, Nat.reduceLT, reduceIte, reduceCtorEq, List.reduceReplicate, Int.reduceToNat, Int.reduceLE, Int.reduceLT, eI, e32, eTy, eIns, eCls, eMeth, eImg, eSl, ty_eta, ins_eta, cls_eta, meth_eta, img_eta, nr_I, nr_32, nr_T, nr_N, nr_C, nr_M, getD_map_mid, h29, s29_eq, h45, s45_eq, h67, s67_eq, h68, s68_eq, s67_eq _ _ _ _ _ _ _ _ (hk67 _), s68_eq _ _ _ _ _ (hk68 _ _), hgc, List.length_map, hgy]; rfl) (by simp [hk0]) ?_ -- r12
          refine awp_if rfl (fun hc5 => ?_) (fun hc5 => ?_)
          ·
            refine awp_rs hK (by simp only [EV, xreg, xops, xop, vop, eop, AOp.eff, ap1, ap2, ov, ovs, ovo, rd, upd, look, gcond, abin, aaeq, aeqs, abeq, asbin, aisnil, asnil, aun, acv, afa, aia, ald, abnd, asl, assl, afd, aix, aex, aln, alns, amxs, amx2, anc, apick, newAt, hget, put, AV.whole, AV.isCell, oneCell, fillParts, slCells, asInt?, pcallX, AV.norefs, AV.noref, AV.scalar, AV.scalars, Nat.reduceEqDiff, Nat.reduceAdd, Nat.reduceMul, Nat.reduceSub, Nat.reduceBEq, Nat.reduceLeDiff, Nat.reduceLT, reduceIte, reduceCtorEq, List.reduceReplicate, Int.reduceToNat, Int.reduceLE, Int.reduceLT, eI, e32, eTy, eIns, eCls, eMeth, eImg, eSl, ty_eta, ins_eta, cls_eta, meth_eta, img_eta, nr_I, nr_32, nr_T, nr_N, nr_C, nr_M, getD_map_mid, h29, s29_eq, h45, s45_eq, h67, s67_eq, h68, s68_eq, s67_eq _ _ _ _ _ _ _ _ (hk67 _), s68_eq _ _ _ _ _ (hk68 _ _), hgc, List.length_map]; rfl) (by first | rfl | (simp [gle_iff]; done) | (simp [gle_iff]; omega) | grind [gle]) ?_ -- r13
            refine awp_retb (fun h => h) rfl ?_ -- leaf 3
            refine (Bool.eq_false_iff.2 fun h => ?_).symm
            obtain ⟨h1, h2, h3, h4, h5⟩ := clsS_spec h
            simp only at h1 h2 h3 h4 h5
            have := slotS_spec (h5 _ hk0)
            rw [hfy] at this
            simp only at this
            simp at hc5; omega
          ·
            have hym : 0 ≤ y ∧ y < m_methods.length := by simp at hc5; omega
            have hgm := getD_meth' m_methods y hym
            refine awp_skip ?_
            simp only [Ex.then_normal, Ex.then_exit, Ex.then_ret, Ex.blk_normal, Ex.blk_exit, Ex.blk_ret, if_true, if_false, reduceIte, reduceCtorEq, Nat.reduceEqDiff]
            refine awp_rs hK (by simp only [EV, xreg, xops, xop, vop, eop, AOp.eff, ap1, ap2, ov, ovs, ovo, rd, upd, look, gcond, abin, aaeq, aeqs, abeq, asbin, aisnil, asnil, aun, acv, afa, aia, ald, abnd, asl, assl, afd, aix, aex, aln, alns, amxs, amx2, anc, apick, newAt, hget, put, AV.whole, AV.isCell, oneCell, fillParts, slCells, asInt?, pcallX, AV.norefs, AV.noref, AV.scalar, AV.scalars, Nat.reduceEqDiff, Nat.reduceAdd, Nat.reduceMul, Nat.reduceSub, Nat.reduceBEq, Nat.reduceLeDiff, Nat.reduceLT, reduceIte, reduceCtorEq, List.reduceReplicate, Int.reduceToNat, Int.reduceLE, Int.reduceLT, eI, e32, eTy, eIns, eCls, eMeth, eImg, eSl, ty_eta, ins_eta, cls_eta, meth_eta, img_eta, nr_I, nr_32, nr_T, nr_N, nr_C, nr_M, getD_map_mid, h29, s29_eq, h45, s45_eq, h67, s67_eq, h68, s68_eq, s67_eq _ _ _ _ _ _ _ _ (hk67 _), s68_eq _ _ _ _ _ (hk68 _ _), hgc, List.length_map, hgy, hgm]; rfl) (by simp [hk0]; omega) ?_ -- r14
            refine awp_seq ?_
            rcases hargs : (meth m_methods y).args with _ | ⟨a0, ar⟩
            ·
              refine awp_rs hK (by simp only [EV, xreg, xops, xop, vop, eop, AOp.eff, ap1, ap2, ov, ovs, ovo, rd, upd, look, gcond, abin, aaeq, aeqs, abeq, asbin, aisnil, asnil, aun, acv, afa, aia, ald, abnd, asl, assl, afd, aix, aex, aln, alns, amxs, amx2, anc, apick, newAt, hget, put, AV.whole, AV.isCell, oneCell, fillParts, slCells, asInt?, pcallX, AV.norefs, AV.noref, AV.scalar, AV.scalars, Nat.reduceEqDiff, Nat.reduceAdd, Nat.reduceMul, Nat.reduceSub, Nat.reduceBEq, Nat.reduceLeDiff, Nat.reduceLT, reduceIte, reduceCtorEq, List.reduceReplicate, Int.reduceToNat, Int.reduceLE, Int.reduceLT, eI, e32, eTy, eIns, eCls, eMeth, eImg, eSl, ty_eta, ins_eta, cls_eta, meth_eta, img_eta, nr_I, nr_32, nr_T, nr_N, nr_C, nr_M, getD_map_mid, h29, s29_eq, h45, s45_eq, h67, s67_eq, h68, s68_eq, s67_eq _ _ _ _ _ _ _ _ (hk67 _), s68_eq _ _ _ _ _ (hk68 _ _), hgc, List.length_map, hargs, z00, pickv_t, gle_f]; rfl) (by first | rfl | (simp [gle_iff]; done) | (simp [gle_iff]; omega) | grind [gle]) ?_ -- r15
              refine awp_cond (b := true) (congrArg AV.bool rfl) ?_
              simp only [Ex.then_normal, Ex.then_exit, Ex.then_ret, Ex.blk_normal, Ex.blk_exit, Ex.blk_ret, if_true, if_false, reduceIte, reduceCtorEq, Nat.reduceEqDiff]
              refine awp_rs hK (by simp only [EV, xreg, xops, xop, vop, eop, AOp.eff, ap1, ap2, ov, ovs, ovo, rd, upd, look, gcond, abin, aaeq, aeqs, abeq, asbin, aisnil, asnil, aun, acv, afa, aia, ald, abnd, asl, assl, afd, aix, aex, aln, alns, amxs, amx2, anc, apick, newAt, hget, put, AV.whole, AV.isCell, oneCell, fillParts, slCells, asInt?, pcallX, AV.norefs, AV.noref, AV.scalar, AV.scalars, Nat.reduceEqDiff, Nat.reduceAdd, Nat.reduceMul, Nat.reduceSub, Nat.reduceBEq, Nat.reduceLeDiff, Nat.reduceLT, reduceIte, reduceCtorEq, List.reduceReplicate, Int.reduceToNat, Int.reduceLE, Int.reduceLT, eI, e32, eTy, eIns, eCls, eMeth, eImg, eSl, ty_eta, ins_eta, cls_eta, meth_eta, img_eta, nr_I, nr_32, nr_T, nr_N, nr_C, nr_M, getD_map_mid, h29, s29_eq, h45, s45_eq, h67, s67_eq, h68, s68_eq, s67_eq _ _ _ _ _ _ _ _ (hk67 _), s68_eq _ _ _ _ _ (hk68 _ _), hgc, List.length_map, hargs, z00, pickv_t, gle_f]; rfl) (by first | rfl | (simp [gle_iff]; done) | (simp [gle_iff]; omega) | grind [gle]) ?_ -- r16
              refine awp_retb (fun h => h) rfl ?_ -- leaf 4
              refine (Bool.eq_false_iff.2 fun h => ?_).symm
              obtain ⟨h1, h2, h3, h4, h5⟩ := clsS_spec h
              simp only at h1 h2 h3 h4 h5
              have := slotS_spec (h5 _ hk0)
              rw [hfy] at this
              exact this.2 hargs
            ·
              refine awp_rs hK (by simp only [EV, xreg, xops, xop, vop, eop, AOp.eff, ap1, ap2, ov, ovs, ovo, rd, upd, look, gcond, abin, aaeq, aeqs, abeq, asbin, aisnil, asnil, aun, acv, afa, aia, ald, abnd, asl, assl, afd, aix, aex, aln, alns, amxs, amx2, anc, apick, newAt, hget, put, AV.whole, AV.isCell, oneCell, fillParts, slCells, asInt?, pcallX, AV.norefs, AV.noref, AV.scalar, AV.scalars, Nat.reduceEqDiff, Nat.reduceAdd, Nat.reduceMul, Nat.reduceSub, Nat.reduceBEq, Nat.reduceLeDiff, Nat.reduceLT, reduceIte, reduceCtorEq, List.reduceReplicate, Int.reduceToNat, Int.reduceLE, Int.reduceLT, eI, e32, eTy, eIns, eCls, eMeth, eImg, eSl, ty_eta, ins_eta, cls_eta, meth_eta, img_eta, nr_I, nr_32, nr_T, nr_N, nr_C, nr_M, getD_map_mid, h29, s29_eq, h45, s45_eq, h67, s67_eq, h68, s68_eq, s67_eq _ _ _ _ _ _ _ _ (hk67 _), s68_eq _ _ _ _ _ (hk68 _ _), hgc, List.length_map, hargs, ty_eta, z01, pickv_f, gle_t]; rfl) (by first | rfl | (simp [gle_iff]; done) | (simp [gle_iff]; omega) | grind [gle]) ?_ -- r15
              refine awp_if rfl (fun hc6 => ?_) (fun hc6 => ?_)
              ·
                refine awp_rs hK (by simp only [EV, xreg, xops, xop, vop, eop, AOp.eff, ap1, ap2, ov, ovs, ovo, rd, upd, look, gcond, abin, aaeq, aeqs, abeq, asbin, aisnil, asnil, aun, acv, afa, aia, ald, abnd, asl, assl, afd, aix, aex, aln, alns, amxs, amx2, anc, apick, newAt, hget, put, AV.whole, AV.isCell, oneCell, fillParts, slCells, asInt?, pcallX, AV.norefs, AV.noref, AV.scalar, AV.scalars, Nat.reduceEqDiff, Nat.reduceAdd, Nat.reduceMul, Nat.reduceSub, Nat.reduceBEq, Nat.reduceLeDiff, Nat.reduceLT, reduceIte, reduceCtorEq, List.reduceReplicate, Int.reduceToNat, Int.reduceLE, Int.reduceLT, eI, e32, eTy, eIns, eCls, eMeth, eImg, eSl, ty_eta, ins_eta, cls_eta, meth_eta, img_eta, nr_I, nr_32, nr_T, nr_N, nr_C, nr_M, getD_map_mid, h29, s29_eq, h45, s45_eq, h67, s67_eq, h68, s68_eq, s67_eq _ _ _ _ _ _ _ _ (hk67 _), s68_eq _ _ _ _ _ (hk68 _ _), hgc, List.length_map, hargs, ty_eta, z01, pickv_f, gle_t]; rfl) (by first | rfl | (simp [gle_iff]; done) | (simp [gle_iff]; omega) | grind [gle]) ?_ -- r16
                refine awp_retb (fun h => h) rfl ?_ -- leaf 5
                refine (Bool.eq_false_iff.2 fun h => ?_).symm
                obtain ⟨h1, h2, h3, h4, h5⟩ := clsS_spec h
                simp only at h1 h2 h3 h4 h5
                have := h5 _ hk0
                simp [slotS, -List.getD_eq_getElem?_getD, hfy, hargs] at this
                simp [f68] at hc6; grind
              ·
                refine awp_skip ?_
                simp only [Ex.then_normal, Ex.then_exit, Ex.then_ret, Ex.blk_normal, Ex.blk_exit, Ex.blk_ret, if_true, if_false, reduceIte, reduceCtorEq, Nat.reduceEqDiff]
                refine awp_rs hK (by simp only [EV, xreg, xops, xop, vop, eop, AOp.eff, ap1, ap2, ov, ovs, ovo, rd, upd, look, gcond, abin, aaeq, aeqs, abeq, asbin, aisnil, asnil, aun, acv, afa, aia, ald, abnd, asl, assl, afd, aix, aex, aln, alns, amxs, amx2, anc, apick, newAt, hget, put, AV.whole, AV.isCell, oneCell, fillParts, slCells, asInt?, pcallX, AV.norefs, AV.noref, AV.scalar, AV.scalars, Nat.reduceEqDiff, Nat.reduceAdd, Nat.reduceMul, Nat.reduceSub, Nat.reduceBEq, Nat.reduceLeDiff, Nat.reduceLT, reduceIte, reduceCtorEq, List.reduceReplicate, Int.reduceToNat, Int.reduceLE, Int.reduceLT, eI, e32, eTy, eIns, eCls, eMeth, eImg, eSl, ty_eta, ins_eta, cls_eta, meth_eta, img_eta, nr_I, nr_32, nr_T, nr_N, nr_C, nr_M, getD_map_mid, h29, s29_eq, h45, s45_eq, h67, s67_eq, h68, s68_eq, s67_eq _ _ _ _ _ _ _ _ (hk67 _), s68_eq _ _ _ _ _ (hk68 _ _), hgc, List.length_map, hargs, ty_eta, z01, pickv_f, gle_t]; rfl) (by first | rfl | (simp [gle_iff]; done) | (simp [gle_iff]; omega) | grind [gle]) ?_ -- r17
                refine awp_if rfl (fun hc7 => ?_) (fun hc7 => ?_)
                ·
                  have hpa : pre.length < ab.length := by simp at hc7; exact hc7
                  have hsc : (cls m_classes c).super < c := by simp at hc1; omega
                  obtain ⟨hgr, hgne⟩ := above_slot (k := pre.length) ha.1 hin hsc ha.2.2 (by rw [← hab0]; exact hpa)
                  rw [← hab0] at hgr hgne
                  simp only at hgr hgne
                  have hga := getD_int' ab (pre.length : Int) (by omega)
                  simp only [Int.toNat_natCast] at hga
                  have hgmg := getD_meth' m_methods _ hgr
                  obtain ⟨b0, br, hgargs⟩ := List.exists_cons_of_ne_nil hgne
                  refine awp_rs hK (by simp only [EV, xreg, xops, xop, vop, eop, AOp.eff, ap1, ap2, ov, ovs, ovo, rd, upd, look, gcond, abin, aaeq, aeqs, abeq, asbin, aisnil, asnil, aun, acv, afa, aia, ald, abnd, asl, assl, afd, aix, aex, aln, alns, amxs, amx2, anc, apick, newAt, hget, put, AV.whole, AV.isCell, oneCell, fillParts, slCells, asInt?, pcallX, AV.norefs, AV.noref, AV.scalar, AV.scalars, Nat.reduceEqDiff, Nat.reduceAdd, Nat.reduceMul, Nat.reduceSub, Nat.reduceBEq, Nat.reduceLeDiff, Nat.reduceLT, reduceIte, reduceCtorEq, List.reduceReplicate, Int.reduceToNat, Int.reduceLE, Int.reduceLT, eI, e32, eTy, eIns, eCls, eMeth, eImg, eSl, ty_eta, ins_eta, cls_eta, meth_eta, img_eta, nr_I, nr_32, nr_T, nr_N, nr_C, nr_M, getD_map_mid, h29, s29_eq, h45, s45_eq, h67, s67_eq, h68, s68_eq, s67_eq _ _ _ _ _ _ _ _ (hk67 _), s68_eq _ _ _ _ _ (hk68 _ _), hgc, List.length_map, hargs, ty_eta, z01, pickv_f, gle_t, Nat.add_zero, Int.toNat_natCast, hga, hgmg, hargs]; rfl) (by simp [hpa, hgr, -List.getD_eq_getElem?_getD]) ?_ -- r18
                  refine awp_rs hK (by simp only [EV, xreg, xops, xop, vop, eop, AOp.eff, ap1, ap2, ov, ovs, ovo, rd, upd, look, gcond, abin, aaeq, aeqs, abeq, asbin, aisnil, asnil, aun, acv, afa, aia, ald, abnd, asl, assl, afd, aix, aex, aln, alns, amxs, amx2, anc, apick, newAt, hget, put, AV.whole, AV.isCell, oneCell, fillParts, slCells, asInt?, pcallX, AV.norefs, AV.noref, AV.scalar, AV.scalars, Nat.reduceEqDiff, Nat.reduceAdd, Nat.reduceMul, Nat.reduceSub, Nat.reduceBEq, Nat.reduceLeDiff, Nat.reduceLT, reduceIte, reduceCtorEq, List.reduceReplicate, Int.reduceToNat, Int.reduceLE, Int.reduceLT, eI, e32, eTy, eIns, eCls, eMeth, eImg, eSl, ty_eta, ins_eta, cls_eta, meth_eta, img_eta, nr_I, nr_32, nr_T, nr_N, nr_C, nr_M, getD_map_mid, h29, s29_eq, h45, s45_eq, h67, s67_eq, h68, s68_eq, s67_eq _ _ _ _ _ _ _ _ (hk67 _), s68_eq _ _ _ _ _ (hk68 _ _), hgc, List.length_map, hargs, ty_eta, z01, pickv_f, gle_t, hargs, hgargs, get_concat2, List.take_length, take_len_map']; rfl) (by first | rfl | (simp [gle_iff]; done) | (simp [gle_iff]; omega) | grind [gle]) ?_ -- r19
                  refine awp_if rfl (fun hc8 => ?_) (fun hc8 => ?_)
                  ·
                    refine awp_rs hK (by simp only [EV, xreg, xops, xop, vop, eop, AOp.eff, ap1, ap2, ov, ovs, ovo, rd, upd, look, gcond, abin, aaeq, aeqs, abeq, asbin, aisnil, asnil, aun, acv, afa, aia, ald, abnd, asl, assl, afd, aix, aex, aln, alns, amxs, amx2, anc, apick, newAt, hget, put, AV.whole, AV.isCell, oneCell, fillParts, slCells, asInt?, pcallX, AV.norefs, AV.noref, AV.scalar, AV.scalars, Nat.reduceEqDiff, Nat.reduceAdd, Nat.reduceMul, Nat.reduceSub, Nat.reduceBEq, Nat.reduceLeDiff, Nat.reduceLT, reduceIte, reduceCtorEq, List.reduceReplicate, Int.reduceToNat, Int.reduceLE, Int.reduceLT, eI, e32, eTy, eIns, eCls, eMeth, eImg, eSl, ty_eta, ins_eta, cls_eta, meth_eta, img_eta, nr_I, nr_32, nr_T, nr_N, nr_C, nr_M, getD_map_mid, h29, s29_eq, h45, s45_eq, h67, s67_eq, h68, s68_eq, s67_eq _ _ _ _ _ _ _ _ (hk67 _), s68_eq _ _ _ _ _ (hk68 _ _), hgc, List.length_map, hargs, ty_eta, z01, pickv_f, gle_t]; rfl) (by first | rfl | (simp [gle_iff]; done) | (simp [gle_iff]; omega) | grind [gle]) ?_ -- r20
                    refine awp_retb (fun h => h) rfl ?_ -- leaf 6
                    refine (Bool.eq_false_iff.2 fun h => ?_).symm
                    obtain ⟨h1, h2, h3, h4, h5⟩ := clsS_spec h
                    simp only at h1 h2 h3 h4 h5
                    have := h5 _ hk0
                    simp [slotS, -List.getD_eq_getElem?_getD, hfy, hargs, ← hab0, hpa, hgargs, ty_eq] at this
                    simp [f45] at hc8; grind
                  ·
                    refine awp_skip ?_
                    simp only [Ex.then_normal, Ex.then_exit, Ex.then_ret, Ex.blk_normal, Ex.blk_exit, Ex.blk_ret, if_true, if_false, reduceIte, reduceCtorEq, Nat.reduceEqDiff]
                    refine awp_r1 hK (by simp only [EV, xreg, xops, xop, vop, eop, AOp.eff, ap1, ap2, ov, ovs, ovo, rd, upd, look, gcond, abin, aaeq, aeqs, abeq, asbin, aisnil, asnil, aun, acv, afa, aia, ald, abnd, asl, assl, afd, aix, aex, aln, alns, amxs, amx2, anc, apick, newAt, hget, put, AV.whole, AV.isCell, oneCell, fillParts, slCells, asInt?, pcallX, AV.norefs, AV.noref, AV.scalar, AV.scalars, Nat.reduceEqDiff, Nat.reduceAdd, Nat.reduceMul, Nat.reduceSub, Nat.reduceBEq, Nat.reduceLeDiff, Nat.reduceLT, reduceIte, reduceCtorEq, List.reduceReplicate, Int.reduceToNat, Int.reduceLE, Int.reduceLT, eI, e32, eTy, eIns, eCls, eMeth, eImg, eSl, ty_eta, ins_eta, cls_eta, meth_eta, img_eta, nr_I, nr_32, nr_T, nr_N, nr_C, nr_M, getD_map_mid, h29, s29_eq, h45, s45_eq, h67, s67_eq, h68, s68_eq, s67_eq _ _ _ _ _ _ _ _ (hk67 _), s68_eq _ _ _ _ _ (hk68 _ _), hgc, List.length_map, hargs, ty_eta, z01, pickv_f, gle_t]; rfl) (by first | rfl | (simp [gle_iff]; done) | (simp [gle_iff]; omega) | grind [gle]) ?_ -- r21
                    simp only [Ex.then_normal, Ex.then_exit, Ex.then_ret, Ex.blk_normal, Ex.blk_exit, Ex.blk_ret, if_true, if_false, reduceIte, reduceCtorEq, Nat.reduceEqDiff]
                    have hslot : slotS ⟨m_classes, m_statics, m_ints, m_methods, m_entries, m_stack, m_heap⟩ c pre.length = true := by
                      simp only [f68, f45] at *
                      first
                      | (simp [slotS, -List.getD_eq_getElem?_getD, hfy, hargs, ← hab0, hpa, hgargs, ty_eq]; simp at hc6 hc8; grind)
                      | (simp [slotS, -List.getD_eq_getElem?_getD, hfy, hargs, ← hab0, hpa]; simp at hc6; grind)
                    rw [wrap_i64 (by have := hsl.1; omega) (by have := hsl.1; omega), show (pre.length : Int) + 1 = ((pre ++ [y]).length : Int) by simp]
                    refine ⟨y, post, rfl, _, fun k hk => ?_, _, _, _, _, _, _, _, _, _, _,  rfl⟩
                    rw [List.length_append, List.length_singleton] at hk
                    rcases Nat.lt_or_ge k pre.length with h | h
                    · exact hp0 k h
                    · rw [show k = pre.length by omega]; exact hslot
                ·
                  have hpa : ¬ pre.length < ab.length := by simp at hc7; omega
                  refine awp_skip ?_
                  simp only [Ex.then_normal, Ex.then_exit, Ex.then_ret, Ex.blk_normal, Ex.blk_exit, Ex.blk_ret, if_true, if_false, reduceIte, reduceCtorEq, Nat.reduceEqDiff]
                  refine awp_r1 hK (by simp only [EV, xreg, xops, xop, vop, eop, AOp.eff, ap1, ap2, ov, ovs, ovo, rd, upd, look, gcond, abin, aaeq, aeqs, abeq, asbin, aisnil, asnil, aun, acv, afa, aia, ald, abnd, asl, assl, afd, aix, aex, aln, alns, amxs, amx2, anc, apick, newAt, hget, put, AV.whole, AV.isCell, oneCell, fillParts, slCells, asInt?, pcallX, AV.norefs, AV.noref, AV.scalar, AV.scalars, Nat.reduceEqDiff, Nat.reduceAdd, Nat.reduceMul, Nat.reduceSub, Nat.reduceBEq, Nat.reduceLeDiff, Nat.reduceLT, reduceIte, reduceCtorEq, List.reduceReplicate, Int.reduceToNat, Int.reduceLE, Int.reduceLT, eI, e32, eTy, eIns, eCls, eMeth, eImg, eSl, ty_eta, ins_eta, cls_eta, meth_eta, img_eta, nr_I, nr_32, nr_T, nr_N, nr_C, nr_M, getD_map_mid, h29, s29_eq, h45, s45_eq, h67, s67_eq, h68, s68_eq, s67_eq _ _ _ _ _ _ _ _ (hk67 _), s68_eq _ _ _ _ _ (hk68 _ _), hgc, List.length_map, hargs, ty_eta, z01, pickv_f, gle_t]; rfl) (by first | rfl | (simp [gle_iff]; done) | (simp [gle_iff]; omega) | grind [gle]) ?_ -- r21
                  simp only [Ex.then_normal, Ex.then_exit, Ex.then_ret, Ex.blk_normal, Ex.blk_exit, Ex.blk_ret, if_true, if_false, reduceIte, reduceCtorEq, Nat.reduceEqDiff]
                  have hslot : slotS ⟨m_classes, m_statics, m_ints, m_methods, m_entries, m_stack, m_heap⟩ c pre.length = true := by
                    simp only [f68, f45] at *
                    first
                    | (simp [slotS, -List.getD_eq_getElem?_getD, hfy, hargs, ← hab0, hpa, hgargs, ty_eq]; simp at hc6 hc8; grind)
                    | (simp [slotS, -List.getD_eq_getElem?_getD, hfy, hargs, ← hab0, hpa]; simp at hc6; grind)
                  rw [wrap_i64 (by have := hsl.1; omega) (by have := hsl.1; omega), show (pre.length : Int) + 1 = ((pre ++ [y]).length : Int) by simp]
                  refine ⟨y, post, rfl, _, fun k hk => ?_, _, _, _, _, _, _, _, _, _, _,  rfl⟩
                  rw [List.length_append, List.length_singleton] at hk
                  rcases Nat.lt_or_ge k pre.length with h | h
                  · exact hp0 k h
                  · rw [show k = pre.length by omega]; exact hslot
        ·
          obtain rfl : post = [] := by
            cases post with
            | cons y r => simp [hpp] at hc4; omega
            | nil => rfl
          rw [List.append_nil] at hpp
          
          refine awp_exit ?_
          simp only [Ex.then_normal, Ex.then_exit, Ex.then_ret, Ex.blk_normal, Ex.blk_exit, Ex.blk_ret, if_true, if_false, reduceIte, reduceCtorEq, Nat.reduceEqDiff]
          refine awp_rs hK (by simp only [EV, xreg, xops, xop, vop, eop, AOp.eff, ap1, ap2, ov, ovs, ovo, rd, upd, look, gcond, abin, aaeq, aeqs, abeq, asbin, aisnil, asnil, aun, acv, afa, aia, ald, abnd, asl, assl, afd, aix, aex, aln, alns, amxs, amx2, anc, apick, newAt, hget, put, AV.whole, AV.isCell, oneCell, fillParts, slCells, asInt?, pcallX, AV.norefs, AV.noref, AV.scalar, AV.scalars, Nat.reduceEqDiff, Nat.reduceAdd, Nat.reduceMul, Nat.reduceSub, Nat.reduceBEq, Nat.reduceLeDiff, Nat.reduceLT, reduceIte, reduceCtorEq, List.reduceReplicate, Int.reduceToNat, Int.reduceLE, Int.reduceLT, eI, e32, eTy, eIns, eCls, eMeth, eImg, eSl, ty_eta, ins_eta, cls_eta, meth_eta, img_eta, nr_I, nr_32, nr_T, nr_N, nr_C, nr_M, getD_map_mid, h29, s29_eq, h45, s45_eq, h67, s67_eq, h68, s68_eq, s67_eq _ _ _ _ _ _ _ _ (hk67 _), s68_eq _ _ _ _ _ (hk68 _ _), hgc, List.length_map]; rfl) (by first | rfl | (simp [gle_iff]; done) | (simp [gle_iff]; omega) | grind [gle]) ?_ -- r22
          refine awp_retb (fun h => h) rfl ?_ -- leaf 7
          simp [f29, f67] at hc1; simp at hc3; rw [f30, eq_comm]; simp only [clsS, Bool.and_eq_true, decide_eq_true_eq, List.all_eq_true, List.mem_range]; rw [← hab0]; rw [← hpp] at hp0; grind

end Go.Proofs.Yteelkalenpbmmaa.Ab

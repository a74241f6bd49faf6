import Derived.Test.YteelkalenpbmmaaAbs17
import Derived.Test.YteelkalenpbmmaaFns
import Derived.Test.YteelkalenpbmmaaW10
import Derived.Test.YteelkalenpbmmaaAbs21
set_option linter.unusedVariables false
set_option linter.unusedSimpArgs false
set_option maxRecDepth 20000
set_option maxHeartbeats 1000000
namespace Go.Proofs.Yteelkalenpbmmaa.Ab

def e80 (r : Int × Option (List Int)) : AV := .tup [.int .i64 r.1, eO 1 eI r.2]
theorem up_super {l : List Klass} {c : Int} (h : 0 ≤ c ∧ c < l.length) (hs : (cls l c).super < c) : up l c = (cls l c).super := by
  show up l c = sup l c
  have : sup l c < c := hs
  unfold up; rw [if_neg (by omega)]
theorem fieldsOf_le {m : Img} (hf : fits m = true) : ∀ (n : Nat) (c : Int), c.toNat < n → ((fieldsOf m.classes c).length : Int) ≤ 8 * max 0 (c + 1)
  | 0, c, h => by omega
  | n + 1, c, h => by
    by_cases hc : 0 ≤ c ∧ c < m.classes.length
    · have hu := up_lt m.classes c hc.1
      have h1 := fits_fields hf c hc
      rw [fieldsOf_in hc, List.length_append]
      by_cases h0 : 0 ≤ up m.classes c
      · have := fieldsOf_le hf n _ (show (up m.classes c).toNat < n by omega)
        omega
      · rw [fieldsOf_out (by omega)]; simp; omega
    · rw [fieldsOf_out hc]; simp; omega
theorem fieldsOf_le' {m : Img} (hf : fits m = true) (c : Int) : (fieldsOf m.classes c).length ≤ 64 := by
  have h1 := fits_classes hf
  by_cases hc : 0 ≤ c ∧ c < m.classes.length
  · have := fieldsOf_le hf _ c (Nat.lt_succ_self _); omega
  · rw [fieldsOf_out hc]; simp
/- plimsoll/sane.above -/
def f80 (m : Img) (c : Int) : Int × Option (List Int) := (((fieldsOf m.classes (cls m.classes c).super).length : Int), if 0 ≤ (cls m.classes c).super then some (cls m.classes (cls m.classes c).super).slots else none)
def ok80 (m : Img) (c : Int) : Prop := fits m = true ∧ (0 ≤ c ∧ c < m.classes.length) ∧ ∀ b, 0 ≤ b → b ≤ c → (cls m.classes b).super < b
noncomputable def s80 := fnOf (α := Img × Int) (fun a => ok80 (a.1) (a.2)) (fun a => [eImg a.1, eI a.2]) fun a => e80 (f80 (a.1) (a.2))
theorem s80_inj (a b : Img × Int) (h : [eImg a.1, eI a.2] = [eImg b.1, eI b.2]) : a = b := by
  obtain ⟨a0, a1⟩ := a; obtain ⟨b0, b1⟩ := b
  simp only [List.cons.injEq, and_true, true_and] at h
  rw [eImg_inj h.1, eI_inj h.2]
theorem s80_eq (m_classes : List Klass) (m_statics : List Ty) (m_ints : List Int) (m_methods : List Meth) (m_entries : List Int) (m_stack : Int) (m_heap : Int) (c : Int) (h : ok80 (⟨m_classes, m_statics, m_ints, m_methods, m_entries, m_stack, m_heap⟩ : Img) c) : s80 [.agg [.vsl 3 (List.map eCls m_classes), .vsl 2 (List.map eTy m_statics), .vsl 1 (List.map e32 m_ints), .vsl 8 (List.map eMeth m_methods), .vsl 1 (List.map eI m_entries), .int .i64 m_stack, .int .i64 m_heap], .int .i64 c] = some (e80 (f80 (⟨m_classes, m_statics, m_ints, m_methods, m_entries, m_stack, m_heap⟩ : Img) c)) := fnOf_enc (a := (⟨m_classes, m_statics, m_ints, m_methods, m_entries, m_stack, m_heap⟩, c)) s80_inj h
theorem s80_eqp (m : Img) (c : Int) (h : ok80 m c) : s80 [.agg [.vsl 3 (List.map eCls m.classes), .vsl 2 (List.map eTy m.statics), .vsl 1 (List.map e32 m.ints), .vsl 8 (List.map eMeth m.methods), .vsl 1 (List.map eI m.entries), .int .i64 m.stack, .int .i64 m.heap], .int .i64 c] = some (e80 (f80 m c)) := fnOf_enc (a := (m, c)) s80_inj h

theorem w80 {K : Cfg} (hK : KOk Try.prog K) : PContract Try.prog 80 s80 := by
  refine pcontract_fn (K := K) s80_inj k80 fun a ha => ⟨of_decide_eq_true rfl, ?_⟩
  obtain ⟨m, c⟩ := a
  show AWP Try.prog K [0, 1, 2, 4, 5, 6, 7, 15, 29] 47 c80 (RetP [0, 1, 2, 4, 5, 6, 7, 15, 29] [.tmp 4, .tmp 5] _) ⟨[_, _, _, _, _, _, _, _, _], []⟩
  refine awp_holds 0 fun hh_m => ?_
  have hw_m : m.Wf := Img.wf_of' hh_m
  clear hh_m
  obtain ⟨m_classes, m_statics, m_ints, m_methods, m_entries, m_stack, m_heap⟩ := m
  replace ha : ok80 (⟨m_classes, m_statics, m_ints, m_methods, m_entries, m_stack, m_heap⟩ : Img) c := ha
  have hf := ha.1
  have hin := ha.2.1
  have hsl := ha.2.2
  have hlc := fits_classes hf
  have hff := fits_fields hf
  simp only at hlc hff hin hsl
  have hgc := getD_cls' m_classes c hin
  have hsc := hsl c hin.1 (Int.le_refl _)
  have hwt := fieldsOf_le' hf (cls m_classes c).super
  simp only at hwt
  unfold c80
  simp only [eI, e32, eTy, eIns, eCls, eMeth, eImg, eSl, ty_eta, ins_eta, cls_eta, meth_eta, img_eta, nr_I, nr_32, nr_T, nr_N, nr_C, nr_M, getD_map_mid, List.getD_cons_zero, List.getD_cons_succ, List.getD_nil]
  refine awp_rs hK (by simp only [EV, xreg, xops, xop, vop, eop, AOp.eff, ap1, ap2, ov, ovs, ovo, rd, upd, look, gcond, abin, aaeq, aeqs, abeq, asbin, aisnil, asnil, aun, acv, afa, aia, ald, abnd, asl, assl, afd, aix, aex, aln, alns, amxs, amx2, anc, apick, newAt, hget, put, AV.whole, AV.isCell, oneCell, fillParts, slCells, asInt?, pcallX, AV.norefs, AV.noref, AV.scalar, AV.scalars, Nat.reduceEqDiff, Nat.reduceAdd, Nat.reduceMul, Nat.reduceSub, Nat.reduceBEq, Nat.reduceLeDiff, Nat.reduceLT, reduceIte, reduceCtorEq, List.reduceReplicate, Int.reduceToNat, Int.reduceLE, Int.reduceLT, eI, e32, eTy, eIns, eCls, eMeth, eImg, eSl, ty_eta, ins_eta, cls_eta, meth_eta, img_eta, nr_I, nr_32, nr_T, nr_N, nr_C, nr_M, getD_map_mid, List.length_map, hgc]; rfl) (by first | rfl | (simp [gle_iff]; done) | (simp [gle_iff]; omega) | grind [gle]) ?_ -- r1
  refine awp_cut (fun s => ∃ (oz : AV), (oz = eO 1 eI (if 0 ≤ (cls m_classes c).super then some (cls m_classes (cls m_classes c).super).slots else none)) ∧ ∃ j6 j7 j15 j29, s = ⟨[.agg [.vsl 3 (List.map eCls m_classes), .vsl 2 (List.map eTy m_statics), .vsl 1 (List.map e32 m_ints), .vsl 8 (List.map eMeth m_methods), .vsl 1 (List.map eI m_entries), .int .i64 m_stack, .int .i64 m_heap], .int .i64 c, .ref 0 0, .int .i64 0, oz, j6, j7, j15, j29], [.live [.vsl 3 (List.map eCls m_classes), .vsl 2 (List.map eTy m_statics), .vsl 1 (List.map e32 m_ints), .vsl 8 (List.map eMeth m_methods), .vsl 1 (List.map eI m_entries), .int .i64 m_stack, .int .i64 m_heap]]⟩) ?_ ?_
  ·
    refine awp_rs hK (by simp only [EV, xreg, xops, xop, vop, eop, AOp.eff, ap1, ap2, ov, ovs, ovo, rd, upd, look, gcond, abin, aaeq, aeqs, abeq, asbin, aisnil, asnil, aun, acv, afa, aia, ald, abnd, asl, assl, afd, aix, aex, aln, alns, amxs, amx2, anc, apick, newAt, hget, put, AV.whole, AV.isCell, oneCell, fillParts, slCells, asInt?, pcallX, AV.norefs, AV.noref, AV.scalar, AV.scalars, Nat.reduceEqDiff, Nat.reduceAdd, Nat.reduceMul, Nat.reduceSub, Nat.reduceBEq, Nat.reduceLeDiff, Nat.reduceLT, reduceIte, reduceCtorEq, List.reduceReplicate, Int.reduceToNat, Int.reduceLE, Int.reduceLT, eI, e32, eTy, eIns, eCls, eMeth, eImg, eSl, ty_eta, ins_eta, cls_eta, meth_eta, img_eta, nr_I, nr_32, nr_T, nr_N, nr_C, nr_M, getD_map_mid, List.length_map, hgc]; rfl) (by simp; omega) ?_ -- r2
    refine awp_rs hK (by simp only [EV, xreg, xops, xop, vop, eop, AOp.eff, ap1, ap2, ov, ovs, ovo, rd, upd, look, gcond, abin, aaeq, aeqs, abeq, asbin, aisnil, asnil, aun, acv, afa, aia, ald, abnd, asl, assl, afd, aix, aex, aln, alns, amxs, amx2, anc, apick, newAt, hget, put, AV.whole, AV.isCell, oneCell, fillParts, slCells, asInt?, pcallX, AV.norefs, AV.noref, AV.scalar, AV.scalars, Nat.reduceEqDiff, Nat.reduceAdd, Nat.reduceMul, Nat.reduceSub, Nat.reduceBEq, Nat.reduceLeDiff, Nat.reduceLT, reduceIte, reduceCtorEq, List.reduceReplicate, Int.reduceToNat, Int.reduceLE, Int.reduceLT, eI, e32, eTy, eIns, eCls, eMeth, eImg, eSl, ty_eta, ins_eta, cls_eta, meth_eta, img_eta, nr_I, nr_32, nr_T, nr_N, nr_C, nr_M, getD_map_mid, List.length_map, hgc]; rfl) (by first | rfl | (simp [gle_iff]; done) | (simp [gle_iff]; omega) | grind [gle]) ?_ -- r3
    refine awp_if rfl (fun hc1 => ?_) (fun hc1 => ?_)
    ·
      have h0 : 0 ≤ (cls m_classes c).super := by simpa using hc1
      have hgs := getD_cls' m_classes (cls m_classes c).super (by omega)
      refine awp_r1 hK (by simp only [EV, xreg, xops, xop, vop, eop, AOp.eff, ap1, ap2, ov, ovs, ovo, rd, upd, look, gcond, abin, aaeq, aeqs, abeq, asbin, aisnil, asnil, aun, acv, afa, aia, ald, abnd, asl, assl, afd, aix, aex, aln, alns, amxs, amx2, anc, apick, newAt, hget, put, AV.whole, AV.isCell, oneCell, fillParts, slCells, asInt?, pcallX, AV.norefs, AV.noref, AV.scalar, AV.scalars, Nat.reduceEqDiff, Nat.reduceAdd, Nat.reduceMul, Nat.reduceSub, Nat.reduceBEq, Nat.reduceLeDiff, Nat.reduceLT, reduceIte, reduceCtorEq, List.reduceReplicate, Int.reduceToNat, Int.reduceLE, Int.reduceLT, eI, e32, eTy, eIns, eCls, eMeth, eImg, eSl, ty_eta, ins_eta, cls_eta, meth_eta, img_eta, nr_I, nr_32, nr_T, nr_N, nr_C, nr_M, getD_map_mid, List.length_map, hgc, hgs]; rfl) (by simp; omega) ?_ -- r4
      simp only [Ex.then_normal, Ex.then_exit, Ex.then_ret, Ex.blk_normal, Ex.blk_exit, Ex.blk_ret, if_true, if_false, reduceIte, reduceCtorEq, Nat.reduceEqDiff]
      exact ⟨_, by rw [if_pos (by simpa using hc1)]; rfl, _, _, _, _,  rfl⟩
    ·
      refine awp_skip ?_
      simp only [Ex.then_normal, Ex.then_exit, Ex.then_ret, Ex.blk_normal, Ex.blk_exit, Ex.blk_ret, if_true, if_false, reduceIte, reduceCtorEq, Nat.reduceEqDiff]
      exact ⟨_, by rw [if_neg (by simpa using hc1)]; rfl, _, _, _, _,  rfl⟩
  ·
    rintro s ⟨oz, hov0, j6, j7, j15, j29, rfl⟩
    have hou : ungd true oz = (oz, true) := by rw [hov0]; split <;> rfl
    refine awp_seq ?_
    refine awp_rs hK (by simp only [EV, xreg, xops, xop, vop, eop, AOp.eff, ap1, ap2, ov, ovs, ovo, rd, upd, look, gcond, abin, aaeq, aeqs, abeq, asbin, aisnil, asnil, aun, acv, afa, aia, ald, abnd, asl, assl, afd, aix, aex, aln, alns, amxs, amx2, anc, apick, newAt, hget, put, AV.whole, AV.isCell, oneCell, fillParts, slCells, asInt?, pcallX, AV.norefs, AV.noref, AV.scalar, AV.scalars, Nat.reduceEqDiff, Nat.reduceAdd, Nat.reduceMul, Nat.reduceSub, Nat.reduceBEq, Nat.reduceLeDiff, Nat.reduceLT, reduceIte, reduceCtorEq, List.reduceReplicate, Int.reduceToNat, Int.reduceLE, Int.reduceLT, eI, e32, eTy, eIns, eCls, eMeth, eImg, eSl, ty_eta, ins_eta, cls_eta, meth_eta, img_eta, nr_I, nr_32, nr_T, nr_N, nr_C, nr_M, getD_map_mid, List.length_map, hgc]; rfl) (by simp; omega) ?_ -- r5
    refine awp_block ?_
    refine awp_while (fun m s => ∃ (n : Int) (s1 : Int), (m = (s1 + 1).toNat) ∧ (s1 < c) ∧ (0 ≤ n ∧ n + (fieldsOf m_classes s1).length = (fieldsOf m_classes (cls m_classes c).super).length) ∧ ∃ j6 j15 j29, s = ⟨[.agg [.vsl 3 (List.map eCls m_classes), .vsl 2 (List.map eTy m_statics), .vsl 1 (List.map e32 m_ints), .vsl 8 (List.map eMeth m_methods), .vsl 1 (List.map eI m_entries), .int .i64 m_stack, .int .i64 m_heap], .int .i64 c, .ref 0 0, .int .i64 n, oz, j6, .int .i64 s1, j15, j29], [.live [.vsl 3 (List.map eCls m_classes), .vsl 2 (List.map eTy m_statics), .vsl 1 (List.map e32 m_ints), .vsl 8 (List.map eMeth m_methods), .vsl 1 (List.map eI m_entries), .int .i64 m_stack, .int .i64 m_heap]]⟩) (((cls m_classes c).super + 1).toNat) ?_ ?_
    · exact ⟨0, _, rfl, hsc, by simp, _, _, _,  rfl⟩
    rintro m s ⟨n, s1, hp0, hp1, hp2, j6, j15, j29, rfl⟩
    refine awp_seq ?_
    refine awp_rs hK (by simp only [EV, xreg, xops, xop, vop, eop, AOp.eff, ap1, ap2, ov, ovs, ovo, rd, upd, look, gcond, abin, aaeq, aeqs, abeq, asbin, aisnil, asnil, aun, acv, afa, aia, ald, abnd, asl, assl, afd, aix, aex, aln, alns, amxs, amx2, anc, apick, newAt, hget, put, AV.whole, AV.isCell, oneCell, fillParts, slCells, asInt?, pcallX, AV.norefs, AV.noref, AV.scalar, AV.scalars, Nat.reduceEqDiff, Nat.reduceAdd, Nat.reduceMul, Nat.reduceSub, Nat.reduceBEq, Nat.reduceLeDiff, Nat.reduceLT, reduceIte, reduceCtorEq, List.reduceReplicate, Int.reduceToNat, Int.reduceLE, Int.reduceLT, eI, e32, eTy, eIns, eCls, eMeth, eImg, eSl, ty_eta, ins_eta, cls_eta, meth_eta, img_eta, nr_I, nr_32, nr_T, nr_N, nr_C, nr_M, getD_map_mid, List.length_map, hgc]; rfl) (by first | rfl | (simp [gle_iff]; done) | (simp [gle_iff]; omega) | grind [gle]) ?_ -- r6
    refine awp_if rfl (fun hc2 => ?_) (fun hc2 => ?_)
    ·
      have h0 : 0 ≤ s1 := by simpa using hc2
      have hgt := getD_cls' m_classes s1 (by omega)
      have hss := hsl s1 h0 (by omega)
      have hfi := fieldsOf_in (l := m_classes) (c := s1) (by omega)
      rw [up_super (by omega) hss] at hfi
      have hfw := hff s1 (by omega)
      refine awp_skip ?_
      simp only [Ex.then_normal, Ex.then_exit, Ex.then_ret, Ex.blk_normal, Ex.blk_exit, Ex.blk_ret, if_true, if_false, reduceIte, reduceCtorEq, Nat.reduceEqDiff]
      refine awp_seq ?_
      refine awp_block ?_
      refine awp_r1 hK (by simp only [EV, xreg, xops, xop, vop, eop, AOp.eff, ap1, ap2, ov, ovs, ovo, rd, upd, look, gcond, abin, aaeq, aeqs, abeq, asbin, aisnil, asnil, aun, acv, afa, aia, ald, abnd, asl, assl, afd, aix, aex, aln, alns, amxs, amx2, anc, apick, newAt, hget, put, AV.whole, AV.isCell, oneCell, fillParts, slCells, asInt?, pcallX, AV.norefs, AV.noref, AV.scalar, AV.scalars, Nat.reduceEqDiff, Nat.reduceAdd, Nat.reduceMul, Nat.reduceSub, Nat.reduceBEq, Nat.reduceLeDiff, Nat.reduceLT, reduceIte, reduceCtorEq, List.reduceReplicate, Int.reduceToNat, Int.reduceLE, Int.reduceLT, eI, e32, eTy, eIns, eCls, eMeth, eImg, eSl, ty_eta, ins_eta, cls_eta, meth_eta, img_eta, nr_I, nr_32, nr_T, nr_N, nr_C, nr_M, getD_map_mid, List.length_map, hgc, hgt]; rfl) (by simp; omega) ?_ -- r7
      simp only [Ex.then_normal, Ex.then_exit, Ex.then_ret, Ex.blk_normal, Ex.blk_exit, Ex.blk_ret, if_true, if_false, reduceIte, reduceCtorEq, Nat.reduceEqDiff]
      refine awp_r1 hK (by simp only [EV, xreg, xops, xop, vop, eop, AOp.eff, ap1, ap2, ov, ovs, ovo, rd, upd, look, gcond, abin, aaeq, aeqs, abeq, asbin, aisnil, asnil, aun, acv, afa, aia, ald, abnd, asl, assl, afd, aix, aex, aln, alns, amxs, amx2, anc, apick, newAt, hget, put, AV.whole, AV.isCell, oneCell, fillParts, slCells, asInt?, pcallX, AV.norefs, AV.noref, AV.scalar, AV.scalars, Nat.reduceEqDiff, Nat.reduceAdd, Nat.reduceMul, Nat.reduceSub, Nat.reduceBEq, Nat.reduceLeDiff, Nat.reduceLT, reduceIte, reduceCtorEq, List.reduceReplicate, Int.reduceToNat, Int.reduceLE, Int.reduceLT, eI, e32, eTy, eIns, eCls, eMeth, eImg, eSl, ty_eta, ins_eta, cls_eta, meth_eta, img_eta, nr_I, nr_32, nr_T, nr_N, nr_C, nr_M, getD_map_mid, List.length_map, hgc, hgt]; rfl) (by simp; omega) ?_ -- r8
      simp only [Ex.then_normal, Ex.then_exit, Ex.then_ret, Ex.blk_normal, Ex.blk_exit, Ex.blk_ret, if_true, if_false, reduceIte, reduceCtorEq, Nat.reduceEqDiff]
      rw [wrap_i64 (by omega) (by omega)]
      refine ⟨_, by omega, _, _, rfl, by omega, ⟨by omega, ?_⟩, _, _, _,  rfl⟩
      rw [← hp2.2, hfi, List.length_append]; omega
    ·
      refine awp_exit ?_
      simp only [Ex.then_normal, Ex.then_exit, Ex.then_ret, Ex.blk_normal, Ex.blk_exit, Ex.blk_ret, if_true, if_false, reduceIte, reduceCtorEq, Nat.reduceEqDiff]
      refine awp_rs hK (by simp only [EV, xreg, xops, xop, vop, eop, AOp.eff, ap1, ap2, ov, ovs, ovo, rd, upd, look, gcond, abin, aaeq, aeqs, abeq, asbin, aisnil, asnil, aun, acv, afa, aia, ald, abnd, asl, assl, afd, aix, aex, aln, alns, amxs, amx2, anc, apick, newAt, hget, put, AV.whole, AV.isCell, oneCell, fillParts, slCells, asInt?, pcallX, AV.norefs, AV.noref, AV.scalar, AV.scalars, Nat.reduceEqDiff, Nat.reduceAdd, Nat.reduceMul, Nat.reduceSub, Nat.reduceBEq, Nat.reduceLeDiff, Nat.reduceLT, reduceIte, reduceCtorEq, List.reduceReplicate, Int.reduceToNat, Int.reduceLE, Int.reduceLT, eI, e32, eTy, eIns, eCls, eMeth, eImg, eSl, ty_eta, ins_eta, cls_eta, meth_eta, img_eta, nr_I, nr_32, nr_T, nr_N, nr_C, nr_M, getD_map_mid, List.length_map, hgc, hou]; rfl) (by first | rfl | (simp [gle_iff]; done) | (simp [gle_iff]; omega) | grind [gle]) ?_ -- r9
      refine awp_ret ⟨.inr rfl, rfl, 2, ?_⟩ -- leaf 1
      have hs1 : ¬ (0 ≤ s1 ∧ s1 < m_classes.length) := by simp at hc2; omega
      rw [fieldsOf_out hs1] at hp2
      have hn : n = (fieldsOf m_classes (cls m_classes c).super).length := by simpa using hp2.2
      simp only [retv, look, List.map_cons, List.map_nil, rvGet, frz_tup, frzL_cons, frzL_nil, if_true, if_false, reduceIte, Nat.reduceEqDiff]
      have hov1 : oz.plain = true := by rw [hov0]; exact eO_plain eI_noref _
      have hz : ∀ H, frz 1 H oz = some oz := fun H => frz_plain (n := 0) hov1
      simp only [hz, frz_int, Option.bind_some, Option.map_some, f80, e80, ← hov0, hn]

/- plimsoll/sane.method$1 -/
def f84 (c : Int) (m : Img) : Int := ((fieldsOf m.classes c).length : Int)
def ok84 (c : Int) (m : Img) : Prop := fits m = true ∧ (0 ≤ c ∧ c < m.classes.length) ∧ ∀ b, 0 ≤ b → b ≤ c → (cls m.classes b).super < b
noncomputable def s84 := fnOf (α := Int × Img) (fun a => ok84 (a.1) (a.2)) (fun a => [eI a.1, .fptr (eImg a.2).cells]) fun a => .int .i64 (f84 (a.1) (a.2))
theorem s84_inj (a b : Int × Img) (h : [eI a.1, .fptr (eImg a.2).cells] = [eI b.1, .fptr (eImg b.2).cells]) : a = b := by
  obtain ⟨a0, a1⟩ := a; obtain ⟨b0, b1⟩ := b
  simp only [List.cons.injEq, and_true, true_and] at h
  rw [eI_inj h.1, eImg_pinj h.2]
theorem s84_eq (c : Int) (m_classes : List Klass) (m_statics : List Ty) (m_ints : List Int) (m_methods : List Meth) (m_entries : List Int) (m_stack : Int) (m_heap : Int) (h : ok84 c (⟨m_classes, m_statics, m_ints, m_methods, m_entries, m_stack, m_heap⟩ : Img)) : s84 [.int .i64 c, .fptr [.vsl 3 (List.map eCls m_classes), .vsl 2 (List.map eTy m_statics), .vsl 1 (List.map e32 m_ints), .vsl 8 (List.map eMeth m_methods), .vsl 1 (List.map eI m_entries), .int .i64 m_stack, .int .i64 m_heap]] = some (.int .i64 (f84 c (⟨m_classes, m_statics, m_ints, m_methods, m_entries, m_stack, m_heap⟩ : Img))) := fnOf_enc (a := (c, ⟨m_classes, m_statics, m_ints, m_methods, m_entries, m_stack, m_heap⟩)) s84_inj h
theorem s84_eqp (c : Int) (m : Img) (h : ok84 c m) : s84 [.int .i64 c, .fptr [.vsl 3 (List.map eCls m.classes), .vsl 2 (List.map eTy m.statics), .vsl 1 (List.map e32 m.ints), .vsl 8 (List.map eMeth m.methods), .vsl 1 (List.map eI m.entries), .int .i64 m.stack, .int .i64 m.heap]] = some (.int .i64 (f84 c m)) := fnOf_enc (a := (c, m)) s84_inj h

theorem w84 {K : Cfg} (hK : KOk Try.prog K) (h80 : K.pcall 80 = s80) : PContract Try.prog 84 s84 := by
  refine pcontract_fn (K := K) s84_inj k84 fun a ha => ⟨of_decide_eq_true rfl, ?_⟩
  obtain ⟨c, m⟩ := a
  show AWP Try.prog K [0, 1, 3, 4] 21 c84 (RetP [0, 1, 3, 4] [.tmp 3] _) ⟨[_, _, _, _], []⟩
  obtain ⟨m_classes, m_statics, m_ints, m_methods, m_entries, m_stack, m_heap⟩ := m
  replace ha : ok84 c (⟨m_classes, m_statics, m_ints, m_methods, m_entries, m_stack, m_heap⟩ : Img) := ha
  have hf := ha.1
  have hin := ha.2.1
  have hsl := ha.2.2
  have hlc := fits_classes hf
  have hff := fits_fields hf
  simp only at hlc hff hin hsl
  have hgc := getD_cls' m_classes c hin
  have hk80 : ok80 ⟨m_classes, m_statics, m_ints, m_methods, m_entries, m_stack, m_heap⟩ c := ha
  have hsc := hsl c hin.1 (Int.le_refl _)
  have hfi := fieldsOf_in (l := m_classes) (c := c) hin
  rw [up_super hin hsc] at hfi
  have hw1 := fieldsOf_le' hf (cls m_classes c).super
  have hw2 := hff c hin
  simp only at hw1 hw2
  have hws : IntKind.i64.wrap (((fieldsOf m_classes (cls m_classes c).super).length : Int) + ((cls m_classes c).fields.length : Int)) = ((fieldsOf m_classes c).length : Int) := by
    rw [wrap_i64 (by omega) (by omega), hfi, List.length_append]; omega
  unfold c84
  simp only [eI, e32, eTy, eIns, eCls, eMeth, eImg, eSl, ty_eta, ins_eta, cls_eta, meth_eta, img_eta, nr_I, nr_32, nr_T, nr_N, nr_C, nr_M, getD_map_mid, List.getD_cons_zero, List.getD_cons_succ, List.getD_nil]
  refine awp_rs hK (by simp only [EV, xreg, xops, xop, vop, eop, AOp.eff, ap1, ap2, ov, ovs, ovo, rd, upd, look, gcond, abin, aaeq, aeqs, abeq, asbin, aisnil, asnil, aun, acv, afa, aia, ald, abnd, asl, assl, afd, aix, aex, aln, alns, amxs, amx2, anc, apick, newAt, hget, put, AV.whole, AV.isCell, oneCell, fillParts, slCells, asInt?, pcallX, AV.norefs, AV.noref, AV.scalar, AV.scalars, Nat.reduceEqDiff, Nat.reduceAdd, Nat.reduceMul, Nat.reduceSub, Nat.reduceBEq, Nat.reduceLeDiff, Nat.reduceLT, reduceIte, reduceCtorEq, List.reduceReplicate, Int.reduceToNat, Int.reduceLE, Int.reduceLT, eI, e32, eTy, eIns, eCls, eMeth, eImg, eSl, ty_eta, ins_eta, cls_eta, meth_eta, img_eta, nr_I, nr_32, nr_T, nr_N, nr_C, nr_M, getD_map_mid, h80, s80_eq, List.length_map, hgc, s80_eq (h := hk80), e80, f80, ungd_eO, hws]; rfl) (by first | rfl | (simp [gle_iff]; done) | (simp [gle_iff]; omega) | grind [gle]) ?_ -- r1
  refine awp_rs hK (by simp only [EV, xreg, xops, xop, vop, eop, AOp.eff, ap1, ap2, ov, ovs, ovo, rd, upd, look, gcond, abin, aaeq, aeqs, abeq, asbin, aisnil, asnil, aun, acv, afa, aia, ald, abnd, asl, assl, afd, aix, aex, aln, alns, amxs, amx2, anc, apick, newAt, hget, put, AV.whole, AV.isCell, oneCell, fillParts, slCells, asInt?, pcallX, AV.norefs, AV.noref, AV.scalar, AV.scalars, Nat.reduceEqDiff, Nat.reduceAdd, Nat.reduceMul, Nat.reduceSub, Nat.reduceBEq, Nat.reduceLeDiff, Nat.reduceLT, reduceIte, reduceCtorEq, List.reduceReplicate, Int.reduceToNat, Int.reduceLE, Int.reduceLT, eI, e32, eTy, eIns, eCls, eMeth, eImg, eSl, ty_eta, ins_eta, cls_eta, meth_eta, img_eta, nr_I, nr_32, nr_T, nr_N, nr_C, nr_M, getD_map_mid, h80, s80_eq, List.length_map, hgc, s80_eq (h := hk80), e80, f80, ungd_eO, hws]; rfl) (by first | rfl | (simp [gle_iff]; done) | (simp [gle_iff]; omega) | grind [gle]) ?_ -- r2
  refine awp_rs hK (by simp only [EV, xreg, xops, xop, vop, eop, AOp.eff, ap1, ap2, ov, ovs, ovo, rd, upd, look, gcond, abin, aaeq, aeqs, abeq, asbin, aisnil, asnil, aun, acv, afa, aia, ald, abnd, asl, assl, afd, aix, aex, aln, alns, amxs, amx2, anc, apick, newAt, hget, put, AV.whole, AV.isCell, oneCell, fillParts, slCells, asInt?, pcallX, AV.norefs, AV.noref, AV.scalar, AV.scalars, Nat.reduceEqDiff, Nat.reduceAdd, Nat.reduceMul, Nat.reduceSub, Nat.reduceBEq, Nat.reduceLeDiff, Nat.reduceLT, reduceIte, reduceCtorEq, List.reduceReplicate, Int.reduceToNat, Int.reduceLE, Int.reduceLT, eI, e32, eTy, eIns, eCls, eMeth, eImg, eSl, ty_eta, ins_eta, cls_eta, meth_eta, img_eta, nr_I, nr_32, nr_T, nr_N, nr_C, nr_M, getD_map_mid, h80, s80_eq, List.length_map, hgc, s80_eq (h := hk80), e80, f80, ungd_eO, hws]; rfl) (by first | rfl | (simp [gle_iff]; done) | (simp [gle_iff]; omega) | grind [gle]) ?_ -- r3
  refine awp_reti (fun h => h) rfl ?_ -- leaf 1
  rfl

end Go.Proofs.Yteelkalenpbmmaa.Ab

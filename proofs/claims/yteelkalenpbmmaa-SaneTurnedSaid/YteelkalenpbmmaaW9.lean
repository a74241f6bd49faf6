import Derived.Test.YteelkalenpbmmaaAbs17
import Derived.Test.YteelkalenpbmmaaFns
import Derived.Test.YteelkalenpbmmaaW8
set_option linter.unusedVariables false
set_option linter.unusedSimpArgs false
set_option maxRecDepth 20000
set_option maxHeartbeats 1000000
namespace Go.Proofs.Yteelkalenpbmmaa.Ab

/- plimsoll/plimsollref01.Above -/
def f124 (l : List Klass) (a : Int) : List Int := chain l a
def ok124 (l : List Klass) (a : Int) : Prop := l.length ≤ 1000000
noncomputable def s124 := fnOf (α := List Klass × Int) (fun a => ok124 (a.1) (a.2)) (fun a => [eSl 3 eCls a.1, eI a.2]) fun a => eSl 1 eI (f124 (a.1) (a.2))
theorem s124_inj (a b : List Klass × Int) (h : [eSl 3 eCls a.1, eI a.2] = [eSl 3 eCls b.1, eI b.2]) : a = b := by
  obtain ⟨a0, a1⟩ := a; obtain ⟨b0, b1⟩ := b
  simp only [List.cons.injEq, and_true, true_and] at h
  rw [eSl_inj (fun _ _ => eCls_inj) h.1, eI_inj h.2]
theorem s124_eq (l : List Klass) (a : Int) (h : ok124 l a) : s124 [.vsl 3 (List.map eCls l), .int .i64 a] = some (eSl 1 eI (f124 l a)) := fnOf_enc (a := (l, a)) s124_inj h

theorem w124 {K : Cfg} (hK : KOk Try.prog K) : PContract Try.prog 124 s124 := by
  refine pcontract_fn (K := K) s124_inj k124 fun a ha => ⟨of_decide_eq_true rfl, ?_⟩
  obtain ⟨l, a⟩ := a
  show AWP Try.prog K [0, 1, 4, 5, 6, 15, 27] 30 c124 (RetP [0, 1, 4, 5, 6, 15, 27] [.tmp 4] _) ⟨[_, _, _, _, _, _, _], []⟩
  refine awp_holds 0 fun hh_l => ?_
  have hl_l := (Holds.esl (sz := 3) (e := eCls) (l := l) hh_l).1
  clear hh_l
  replace ha : ok124 l a := ha
  unfold c124
  simp only [eI, e32, eTy, eIns, eCls, eMeth, eImg, eSl, ty_eta, ins_eta, cls_eta, meth_eta, img_eta, nr_I, nr_32, nr_T, nr_N, nr_C, nr_M, getD_map_mid, List.getD_cons_zero, List.getD_cons_succ, List.getD_nil]
  refine awp_rs hK (by simp only [EV, xreg, xops, xop, vop, eop, AOp.eff, ap1, ap2, ov, ovs, ovo, rd, upd, look, gcond, abin, aaeq, aeqs, abeq, asbin, aisnil, asnil, aun, acv, afa, aia, ald, abnd, asl, assl, afd, aix, aex, aln, alns, amxs, amx2, anc, apick, newAt, hget, put, AV.whole, AV.isCell, oneCell, fillParts, slCells, asInt?, pcallX, AV.norefs, AV.noref, AV.scalar, AV.scalars, Nat.reduceEqDiff, Nat.reduceAdd, Nat.reduceMul, Nat.reduceSub, Nat.reduceBEq, Nat.reduceLeDiff, Nat.reduceLT, reduceIte, reduceCtorEq, List.reduceReplicate, Int.reduceToNat, Int.reduceLE, Int.reduceLT, eI, e32, eTy, eIns, eCls, eMeth, eImg, eSl, ty_eta, ins_eta, cls_eta, meth_eta, img_eta, nr_I, nr_32, nr_T, nr_N, nr_C, nr_M, getD_map_mid, get_concat2, set_concat2, take_len_map, take_len_map', all_eI]; rfl) (by first | rfl | (simp [gle_iff]; done) | (simp [gle_iff]; omega) | grind [gle]) ?_ -- r1
  refine awp_rs hK (by simp only [EV, xreg, xops, xop, vop, eop, AOp.eff, ap1, ap2, ov, ovs, ovo, rd, upd, look, gcond, abin, aaeq, aeqs, abeq, asbin, aisnil, asnil, aun, acv, afa, aia, ald, abnd, asl, assl, afd, aix, aex, aln, alns, amxs, amx2, anc, apick, newAt, hget, put, AV.whole, AV.isCell, oneCell, fillParts, slCells, asInt?, pcallX, AV.norefs, AV.noref, AV.scalar, AV.scalars, Nat.reduceEqDiff, Nat.reduceAdd, Nat.reduceMul, Nat.reduceSub, Nat.reduceBEq, Nat.reduceLeDiff, Nat.reduceLT, reduceIte, reduceCtorEq, List.reduceReplicate, Int.reduceToNat, Int.reduceLE, Int.reduceLT, eI, e32, eTy, eIns, eCls, eMeth, eImg, eSl, ty_eta, ins_eta, cls_eta, meth_eta, img_eta, nr_I, nr_32, nr_T, nr_N, nr_C, nr_M, getD_map_mid, get_concat2, set_concat2, take_len_map, take_len_map', all_eI]; rfl) (by first | rfl | (simp [gle_iff]; done) | (simp [gle_iff]; omega) | grind [gle]) ?_ -- r2
  refine awp_seq ?_
  refine awp_block ?_
  refine awp_while (fun m s => ∃ (c : Int) (pre : List Int) (J : List HB), (m = (c + 1).toNat) ∧ (chain l a = pre ++ chain l c) ∧ ((pre.length : Int) + max c (-1) ≤ 1000000 ∨ pre = []) ∧ ∃ j6 j15 j27, s = ⟨[.vsl 3 (List.map eCls l), .int .i64 c, .nilsl, .rsl 1 J.length 0 pre.length, j6, j15, j27], J ++ [.live (pre.map eI)]⟩) ((a + 1).toNat) ?_ ?_
  · exact ⟨a, [], [], rfl, rfl, .inr rfl, _, _, _, rfl⟩
  rintro m s ⟨c, pre, J, hp0, hp1, hp2, j6, j15, j27, rfl⟩
  refine awp_seq ?_
  refine awp_rs hK (by simp only [EV, xreg, xops, xop, vop, eop, AOp.eff, ap1, ap2, ov, ovs, ovo, rd, upd, look, gcond, abin, aaeq, aeqs, abeq, asbin, aisnil, asnil, aun, acv, afa, aia, ald, abnd, asl, assl, afd, aix, aex, aln, alns, amxs, amx2, anc, apick, newAt, hget, put, AV.whole, AV.isCell, oneCell, fillParts, slCells, asInt?, pcallX, AV.norefs, AV.noref, AV.scalar, AV.scalars, Nat.reduceEqDiff, Nat.reduceAdd, Nat.reduceMul, Nat.reduceSub, Nat.reduceBEq, Nat.reduceLeDiff, Nat.reduceLT, reduceIte, reduceCtorEq, List.reduceReplicate, Int.reduceToNat, Int.reduceLE, Int.reduceLT, eI, e32, eTy, eIns, eCls, eMeth, eImg, eSl, ty_eta, ins_eta, cls_eta, meth_eta, img_eta, nr_I, nr_32, nr_T, nr_N, nr_C, nr_M, getD_map_mid, get_concat2, set_concat2, take_len_map, take_len_map', all_eI]; rfl) (by first | rfl | (simp [gle_iff]; done) | (simp [gle_iff]; omega) | grind [gle]) ?_ -- r3
  refine awp_if rfl (fun hc1 => ?_) (fun hc1 => ?_)
  ·
    have h0 : 0 ≤ c ∧ c < l.length := by simp at hc1; exact hc1
    have hch := chain_in h0
    have hul := up_lt l c h0.1
    have hg := getD_cls l c.toNat (by omega)
    have hpl : (pre.length : Int) ≤ 1000001 := by
      rcases hp2 with h | h
      · omega
      · simp [h]
    refine awp_skip ?_
    simp only [Ex.then_normal, Ex.then_exit, Ex.then_ret, Ex.blk_normal, Ex.blk_exit, Ex.blk_ret, if_true, if_false, reduceIte, reduceCtorEq, Nat.reduceEqDiff]
    refine awp_block ?_
    refine awp_rs hK (by simp only [EV, xreg, xops, xop, vop, eop, AOp.eff, ap1, ap2, ov, ovs, ovo, rd, upd, look, gcond, abin, aaeq, aeqs, abeq, asbin, aisnil, asnil, aun, acv, afa, aia, ald, abnd, asl, assl, afd, aix, aex, aln, alns, amxs, amx2, anc, apick, newAt, hget, put, AV.whole, AV.isCell, oneCell, fillParts, slCells, asInt?, pcallX, AV.norefs, AV.noref, AV.scalar, AV.scalars, Nat.reduceEqDiff, Nat.reduceAdd, Nat.reduceMul, Nat.reduceSub, Nat.reduceBEq, Nat.reduceLeDiff, Nat.reduceLT, reduceIte, reduceCtorEq, List.reduceReplicate, Int.reduceToNat, Int.reduceLE, Int.reduceLT, eI, e32, eTy, eIns, eCls, eMeth, eImg, eSl, ty_eta, ins_eta, cls_eta, meth_eta, img_eta, nr_I, nr_32, nr_T, nr_N, nr_C, nr_M, getD_map_mid, get_concat2, set_concat2, take_len_map, take_len_map', all_eI]; rfl) (by simp; omega) ?_ -- r4
    refine awp_rs hK (by simp only [EV, xreg, xops, xop, vop, eop, AOp.eff, ap1, ap2, ov, ovs, ovo, rd, upd, look, gcond, abin, aaeq, aeqs, abeq, asbin, aisnil, asnil, aun, acv, afa, aia, ald, abnd, asl, assl, afd, aix, aex, aln, alns, amxs, amx2, anc, apick, newAt, hget, put, AV.whole, AV.isCell, oneCell, fillParts, slCells, asInt?, pcallX, AV.norefs, AV.noref, AV.scalar, AV.scalars, Nat.reduceEqDiff, Nat.reduceAdd, Nat.reduceMul, Nat.reduceSub, Nat.reduceBEq, Nat.reduceLeDiff, Nat.reduceLT, reduceIte, reduceCtorEq, List.reduceReplicate, Int.reduceToNat, Int.reduceLE, Int.reduceLT, eI, e32, eTy, eIns, eCls, eMeth, eImg, eSl, ty_eta, ins_eta, cls_eta, meth_eta, img_eta, nr_I, nr_32, nr_T, nr_N, nr_C, nr_M, getD_map_mid, get_concat2, set_concat2, take_len_map, take_len_map', all_eI, hg]; rfl) (by first | rfl | (simp [gle_iff]; done) | (simp [gle_iff]; omega) | grind [gle]) ?_ -- r5
    refine awp_seq ?_
    refine awp_rs hK (by simp only [EV, xreg, xops, xop, vop, eop, AOp.eff, ap1, ap2, ov, ovs, ovo, rd, upd, look, gcond, abin, aaeq, aeqs, abeq, asbin, aisnil, asnil, aun, acv, afa, aia, ald, abnd, asl, assl, afd, aix, aex, aln, alns, amxs, amx2, anc, apick, newAt, hget, put, AV.whole, AV.isCell, oneCell, fillParts, slCells, asInt?, pcallX, AV.norefs, AV.noref, AV.scalar, AV.scalars, Nat.reduceEqDiff, Nat.reduceAdd, Nat.reduceMul, Nat.reduceSub, Nat.reduceBEq, Nat.reduceLeDiff, Nat.reduceLT, reduceIte, reduceCtorEq, List.reduceReplicate, Int.reduceToNat, Int.reduceLE, Int.reduceLT, eI, e32, eTy, eIns, eCls, eMeth, eImg, eSl, ty_eta, ins_eta, cls_eta, meth_eta, img_eta, nr_I, nr_32, nr_T, nr_N, nr_C, nr_M, getD_map_mid, get_concat2, set_concat2, take_len_map, take_len_map', all_eI]; rfl) (by first | rfl | (simp [gle_iff]; done) | (simp [gle_iff]; omega) | grind [gle]) ?_ -- r6
    refine awp_if rfl (fun hc2 => ?_) (fun hc2 => ?_)
    ·
      have hu : up l c = -1 := if_pos (.inr (.inr (of_decide_eq_true hc2)))
      refine awp_r1 hK (by simp only [EV, xreg, xops, xop, vop, eop, AOp.eff, ap1, ap2, ov, ovs, ovo, rd, upd, look, gcond, abin, aaeq, aeqs, abeq, asbin, aisnil, asnil, aun, acv, afa, aia, ald, abnd, asl, assl, afd, aix, aex, aln, alns, amxs, amx2, anc, apick, newAt, hget, put, AV.whole, AV.isCell, oneCell, fillParts, slCells, asInt?, pcallX, AV.norefs, AV.noref, AV.scalar, AV.scalars, Nat.reduceEqDiff, Nat.reduceAdd, Nat.reduceMul, Nat.reduceSub, Nat.reduceBEq, Nat.reduceLeDiff, Nat.reduceLT, reduceIte, reduceCtorEq, List.reduceReplicate, Int.reduceToNat, Int.reduceLE, Int.reduceLT, eI, e32, eTy, eIns, eCls, eMeth, eImg, eSl, ty_eta, ins_eta, cls_eta, meth_eta, img_eta, nr_I, nr_32, nr_T, nr_N, nr_C, nr_M, getD_map_mid, get_concat2, set_concat2, take_len_map, take_len_map', all_eI]; rfl) (by first | rfl | (simp [gle_iff]; done) | (simp [gle_iff]; omega) | grind [gle]) ?_ -- r7
      simp only [Ex.then_normal, Ex.then_exit, Ex.then_ret, Ex.blk_normal, Ex.blk_exit, Ex.blk_ret, if_true, if_false, reduceIte, reduceCtorEq, Nat.reduceEqDiff]
      refine awp_r1 hK (by simp only [EV, xreg, xops, xop, vop, eop, AOp.eff, ap1, ap2, ov, ovs, ovo, rd, upd, look, gcond, abin, aaeq, aeqs, abeq, asbin, aisnil, asnil, aun, acv, afa, aia, ald, abnd, asl, assl, afd, aix, aex, aln, alns, amxs, amx2, anc, apick, newAt, hget, put, AV.whole, AV.isCell, oneCell, fillParts, slCells, asInt?, pcallX, AV.norefs, AV.noref, AV.scalar, AV.scalars, Nat.reduceEqDiff, Nat.reduceAdd, Nat.reduceMul, Nat.reduceSub, Nat.reduceBEq, Nat.reduceLeDiff, Nat.reduceLT, reduceIte, reduceCtorEq, List.reduceReplicate, Int.reduceToNat, Int.reduceLE, Int.reduceLT, eI, e32, eTy, eIns, eCls, eMeth, eImg, eSl, ty_eta, ins_eta, cls_eta, meth_eta, img_eta, nr_I, nr_32, nr_T, nr_N, nr_C, nr_M, getD_map_mid, get_concat2, set_concat2, take_len_map, take_len_map', all_eI]; rfl) (by first | rfl | (simp [gle_iff]; done) | (simp [gle_iff]; omega) | grind [gle]) ?_ -- r8
      simp only [Ex.then_normal, Ex.then_exit, Ex.then_ret, Ex.blk_normal, Ex.blk_exit, Ex.blk_ret, if_true, if_false, reduceIte, reduceCtorEq, Nat.reduceEqDiff]
      have e1 : pre.length + 1 = (pre ++ [c]).length := by simp
      have e2 : pre.map eI ++ [.int .i64 c] = (pre ++ [c]).map eI := by simp [eI]
      simp only [e1, e2]
      rw [← hu]
      refine ⟨(up l c + 1).toNat, by omega, up l c, pre ++ [c], _, rfl, by rw [hp1, hch]; simp, .inl (by have hle : l.length ≤ 1000000 := ha; simp; rcases hp2 with h | h <;> simp_all <;> omega), _, _, _, rfl⟩
    ·
      have hu : up l c = (l.getD c.toNat default).super := if_neg (by have := of_decide_eq_false hc2; unfold sup; omega)
      refine awp_skip ?_
      simp only [Ex.then_normal, Ex.then_exit, Ex.then_ret, Ex.blk_normal, Ex.blk_exit, Ex.blk_ret, if_true, if_false, reduceIte, reduceCtorEq, Nat.reduceEqDiff]
      refine awp_r1 hK (by simp only [EV, xreg, xops, xop, vop, eop, AOp.eff, ap1, ap2, ov, ovs, ovo, rd, upd, look, gcond, abin, aaeq, aeqs, abeq, asbin, aisnil, asnil, aun, acv, afa, aia, ald, abnd, asl, assl, afd, aix, aex, aln, alns, amxs, amx2, anc, apick, newAt, hget, put, AV.whole, AV.isCell, oneCell, fillParts, slCells, asInt?, pcallX, AV.norefs, AV.noref, AV.scalar, AV.scalars, Nat.reduceEqDiff, Nat.reduceAdd, Nat.reduceMul, Nat.reduceSub, Nat.reduceBEq, Nat.reduceLeDiff, Nat.reduceLT, reduceIte, reduceCtorEq, List.reduceReplicate, Int.reduceToNat, Int.reduceLE, Int.reduceLT, eI, e32, eTy, eIns, eCls, eMeth, eImg, eSl, ty_eta, ins_eta, cls_eta, meth_eta, img_eta, nr_I, nr_32, nr_T, nr_N, nr_C, nr_M, getD_map_mid, get_concat2, set_concat2, take_len_map, take_len_map', all_eI]; rfl) (by first | rfl | (simp [gle_iff]; done) | (simp [gle_iff]; omega) | grind [gle]) ?_ -- r8
      simp only [Ex.then_normal, Ex.then_exit, Ex.then_ret, Ex.blk_normal, Ex.blk_exit, Ex.blk_ret, if_true, if_false, reduceIte, reduceCtorEq, Nat.reduceEqDiff]
      have e1 : pre.length + 1 = (pre ++ [c]).length := by simp
      have e2 : pre.map eI ++ [.int .i64 c] = (pre ++ [c]).map eI := by simp [eI]
      simp only [e1, e2]
      rw [← hu]
      refine ⟨(up l c + 1).toNat, by omega, up l c, pre ++ [c], _, rfl, by rw [hp1, hch]; simp, .inl (by have hle : l.length ≤ 1000000 := ha; simp; rcases hp2 with h | h <;> simp_all <;> omega), _, _, _, rfl⟩
  ·
    have h0 : ¬ (0 ≤ c ∧ c < l.length) := by simp at hc1; omega
    have hch := chain_out h0
    have hpl : (pre.length : Int) ≤ 1000001 := by
      rcases hp2 with h | h
      · omega
      · simp [h]
    refine awp_exit ?_
    simp only [Ex.then_normal, Ex.then_exit, Ex.then_ret, Ex.blk_normal, Ex.blk_exit, Ex.blk_ret, if_true, if_false, reduceIte, reduceCtorEq, Nat.reduceEqDiff]
    refine awp_rs hK (by simp only [EV, xreg, xops, xop, vop, eop, AOp.eff, ap1, ap2, ov, ovs, ovo, rd, upd, look, gcond, abin, aaeq, aeqs, abeq, asbin, aisnil, asnil, aun, acv, afa, aia, ald, abnd, asl, assl, afd, aix, aex, aln, alns, amxs, amx2, anc, apick, newAt, hget, put, AV.whole, AV.isCell, oneCell, fillParts, slCells, asInt?, pcallX, AV.norefs, AV.noref, AV.scalar, AV.scalars, Nat.reduceEqDiff, Nat.reduceAdd, Nat.reduceMul, Nat.reduceSub, Nat.reduceBEq, Nat.reduceLeDiff, Nat.reduceLT, reduceIte, reduceCtorEq, List.reduceReplicate, Int.reduceToNat, Int.reduceLE, Int.reduceLT, eI, e32, eTy, eIns, eCls, eMeth, eImg, eSl, ty_eta, ins_eta, cls_eta, meth_eta, img_eta, nr_I, nr_32, nr_T, nr_N, nr_C, nr_M, getD_map_mid, get_concat2, set_concat2, take_len_map, take_len_map', all_eI]; rfl) (by first | rfl | (simp [gle_iff]; done) | (simp [gle_iff]; omega) | grind [gle]) ?_ -- r9
    refine awp_ret ?_
    rw [hch] at hp1 -- leaf 1
    rw [List.append_nil] at hp1
    have hb : pre.length ≤ 140737488355328 := by omega
    exact ⟨.inr rfl, rfl, 2, (frz_ints (by simp [hget]) hb).trans (by rw [f124, hp1])⟩

theorem chain_mem (l : List Klass) : ∀ (n : Nat) (c b : Int), c.toNat < n → b ∈ chain l c → 0 ≤ b ∧ b < l.length
  | 0, c, b, h, _ => by omega
  | n + 1, c, b, h, hb => by
    by_cases hc : 0 ≤ c ∧ c < l.length
    · rw [chain_in hc, List.mem_cons] at hb
      rcases hb with rfl | hb
      · exact hc
      · have hu := up_lt l c hc.1
        by_cases h0 : 0 ≤ up l c
        · exact chain_mem l n _ b (by omega) hb
        · rw [chain_out (by omega)] at hb; cases hb
    · rw [chain_out hc] at hb; cases hb
theorem below_chain (l : List Klass) (a b : Int) : below l a b = (chain l a).contains b := by
  unfold below
  split
  · rename_i h
    refine (Bool.eq_false_iff.2 fun hb => ?_).symm
    rw [List.contains_iff_mem] at hb
    have h1 := chain_mem l _ a b (Nat.lt_succ_self _) hb
    rcases h with h | h | h
    · omega
    · omega
    · rw [chain_out (by omega)] at hb; cases hb
  · rfl
theorem sub_chain (l : List Klass) (a b : Ty) : subT l a b = if a.kind = 4 then isRef b else if a.kind = 3 then b.kind == 3 && (chain l a.n).contains b.n else (a.kind == 1 || a.kind == 2) && (a.kind == b.kind && a.n == b.n) := by
  unfold subT; rw [below_chain]
/- plimsoll/plimsollref01.Sub -/
def f68 (l : List Klass) (a : Ty) (b : Ty) : Bool := subT l a b
def ok68 (l : List Klass) (a : Ty) (b : Ty) : Prop := l.length ≤ 1000000
noncomputable def s68 := fnOf (α := List Klass × Ty × Ty) (fun a => ok68 (a.1) (a.2.1) (a.2.2)) (fun a => [eSl 3 eCls a.1, eTy a.2.1, eTy a.2.2]) fun a => .bool (f68 (a.1) (a.2.1) (a.2.2))
theorem s68_inj (a b : List Klass × Ty × Ty) (h : [eSl 3 eCls a.1, eTy a.2.1, eTy a.2.2] = [eSl 3 eCls b.1, eTy b.2.1, eTy b.2.2]) : a = b := by
  obtain ⟨a0, a1, a2⟩ := a; obtain ⟨b0, b1, b2⟩ := b
  simp only [List.cons.injEq, and_true, true_and] at h
  rw [eSl_inj (fun _ _ => eCls_inj) h.1, eTy_inj h.2.1, eTy_inj h.2.2]
theorem s68_eq (l : List Klass) (a_kind : Int) (a_n : Int) (b_kind : Int) (b_n : Int) (h : ok68 l (⟨a_kind, a_n⟩ : Ty) (⟨b_kind, b_n⟩ : Ty)) : s68 [.vsl 3 (List.map eCls l), .agg [.int .i64 a_kind, .int .i64 a_n], .agg [.int .i64 b_kind, .int .i64 b_n]] = some (.bool (f68 l (⟨a_kind, a_n⟩ : Ty) (⟨b_kind, b_n⟩ : Ty))) := fnOf_enc (a := (l, ⟨a_kind, a_n⟩, ⟨b_kind, b_n⟩)) s68_inj h
theorem s68_eqp (l : List Klass) (a : Ty) (b : Ty) (h : ok68 l a b) : s68 [.vsl 3 (List.map eCls l), .agg [.int .i64 a.kind, .int .i64 a.n], .agg [.int .i64 b.kind, .int .i64 b.n]] = some (.bool (f68 l a b)) := fnOf_enc (a := (l, a, b)) s68_inj h

theorem w68 {K : Cfg} (hK : KOk Try.prog K) (h59 : K.pcall 59 = s59) (h124 : K.pcall 124 = s124) (h125 : K.pcall 125 = s125) : PContract Try.prog 68 s68 := by
  refine pcontract_fn (K := K) s68_inj k68 fun a ha => ⟨of_decide_eq_true rfl, ?_⟩
  obtain ⟨l, a, b⟩ := a
  show AWP Try.prog K [0, 1, 2, 4, 5, 6, 9, 14] 40 c68 (RetP [0, 1, 2, 4, 5, 6, 9, 14] [.tmp 6] _) ⟨[_, _, _, _, _, _, _, _], []⟩
  refine awp_holds 0 fun hh_l => ?_
  have hl_l := (Holds.esl (sz := 3) (e := eCls) (l := l) hh_l).1
  clear hh_l
  obtain ⟨a_kind, a_n⟩ := a
  obtain ⟨b_kind, b_n⟩ := b
  replace ha : ok68 l (⟨a_kind, a_n⟩ : Ty) (⟨b_kind, b_n⟩ : Ty) := ha
  have hk : ∀ n, ok124 l n := fun _ => ha
  unfold c68
  simp only [eI, e32, eTy, eIns, eCls, eMeth, eImg, eSl, ty_eta, ins_eta, cls_eta, meth_eta, img_eta, nr_I, nr_32, nr_T, nr_N, nr_C, nr_M, getD_map_mid, List.getD_cons_zero, List.getD_cons_succ, List.getD_nil]
  refine awp_rs hK (by simp only [EV, xreg, xops, xop, vop, eop, AOp.eff, ap1, ap2, ov, ovs, ovo, rd, upd, look, gcond, abin, aaeq, aeqs, abeq, asbin, aisnil, asnil, aun, acv, afa, aia, ald, abnd, asl, assl, afd, aix, aex, aln, alns, amxs, amx2, anc, apick, newAt, hget, put, AV.whole, AV.isCell, oneCell, fillParts, slCells, asInt?, pcallX, AV.norefs, AV.noref, AV.scalar, AV.scalars, Nat.reduceEqDiff, Nat.reduceAdd, Nat.reduceMul, Nat.reduceSub, Nat.reduceBEq, Nat.reduceLeDiff, Nat.reduceLT, reduceIte, reduceCtorEq, List.reduceReplicate, Int.reduceToNat, Int.reduceLE, Int.reduceLT, eI, e32, eTy, eIns, eCls, eMeth, eImg, eSl, ty_eta, ins_eta, cls_eta, meth_eta, img_eta, nr_I, nr_32, nr_T, nr_N, nr_C, nr_M, getD_map_mid, h59, s59_eq, h124, s124_eq, h125, s125_eq, s124_eq _ _ (hk _)]; rfl) (by first | rfl | grind [gle]) ?_ -- r1
  refine awp_seq ?_
  refine awp_rs hK (by simp only [EV, xreg, xops, xop, vop, eop, AOp.eff, ap1, ap2, ov, ovs, ovo, rd, upd, look, gcond, abin, aaeq, aeqs, abeq, asbin, aisnil, asnil, aun, acv, afa, aia, ald, abnd, asl, assl, afd, aix, aex, aln, alns, amxs, amx2, anc, apick, newAt, hget, put, AV.whole, AV.isCell, oneCell, fillParts, slCells, asInt?, pcallX, AV.norefs, AV.noref, AV.scalar, AV.scalars, Nat.reduceEqDiff, Nat.reduceAdd, Nat.reduceMul, Nat.reduceSub, Nat.reduceBEq, Nat.reduceLeDiff, Nat.reduceLT, reduceIte, reduceCtorEq, List.reduceReplicate, Int.reduceToNat, Int.reduceLE, Int.reduceLT, eI, e32, eTy, eIns, eCls, eMeth, eImg, eSl, ty_eta, ins_eta, cls_eta, meth_eta, img_eta, nr_I, nr_32, nr_T, nr_N, nr_C, nr_M, getD_map_mid, h59, s59_eq, h124, s124_eq, h125, s125_eq, s124_eq _ _ (hk _)]; rfl) (by first | rfl | grind [gle]) ?_ -- r2
  refine awp_if rfl (fun hc1 => ?_) (fun hc1 => ?_)
  ·
    refine awp_rs hK (by simp only [EV, xreg, xops, xop, vop, eop, AOp.eff, ap1, ap2, ov, ovs, ovo, rd, upd, look, gcond, abin, aaeq, aeqs, abeq, asbin, aisnil, asnil, aun, acv, afa, aia, ald, abnd, asl, assl, afd, aix, aex, aln, alns, amxs, amx2, anc, apick, newAt, hget, put, AV.whole, AV.isCell, oneCell, fillParts, slCells, asInt?, pcallX, AV.norefs, AV.noref, AV.scalar, AV.scalars, Nat.reduceEqDiff, Nat.reduceAdd, Nat.reduceMul, Nat.reduceSub, Nat.reduceBEq, Nat.reduceLeDiff, Nat.reduceLT, reduceIte, reduceCtorEq, List.reduceReplicate, Int.reduceToNat, Int.reduceLE, Int.reduceLT, eI, e32, eTy, eIns, eCls, eMeth, eImg, eSl, ty_eta, ins_eta, cls_eta, meth_eta, img_eta, nr_I, nr_32, nr_T, nr_N, nr_C, nr_M, getD_map_mid, h59, s59_eq, h124, s124_eq, h125, s125_eq, s124_eq _ _ (hk _)]; rfl) (by first | rfl | grind [gle]) ?_ -- r3
    refine awp_retb (fun h => h) rfl ?_ -- leaf 1
    first | grind [f68, subT, isRef, f125] | (rw [f68, sub_chain]; grind [isRef, f125, f59, f124])
  ·
    refine awp_skip ?_
    simp only [Ex.then_normal, Ex.then_exit, Ex.then_ret, Ex.blk_normal, Ex.blk_exit, Ex.blk_ret, if_true, if_false, reduceIte, reduceCtorEq, Nat.reduceEqDiff]
    refine awp_seq ?_
    refine awp_rs hK (by simp only [EV, xreg, xops, xop, vop, eop, AOp.eff, ap1, ap2, ov, ovs, ovo, rd, upd, look, gcond, abin, aaeq, aeqs, abeq, asbin, aisnil, asnil, aun, acv, afa, aia, ald, abnd, asl, assl, afd, aix, aex, aln, alns, amxs, amx2, anc, apick, newAt, hget, put, AV.whole, AV.isCell, oneCell, fillParts, slCells, asInt?, pcallX, AV.norefs, AV.noref, AV.scalar, AV.scalars, Nat.reduceEqDiff, Nat.reduceAdd, Nat.reduceMul, Nat.reduceSub, Nat.reduceBEq, Nat.reduceLeDiff, Nat.reduceLT, reduceIte, reduceCtorEq, List.reduceReplicate, Int.reduceToNat, Int.reduceLE, Int.reduceLT, eI, e32, eTy, eIns, eCls, eMeth, eImg, eSl, ty_eta, ins_eta, cls_eta, meth_eta, img_eta, nr_I, nr_32, nr_T, nr_N, nr_C, nr_M, getD_map_mid, h59, s59_eq, h124, s124_eq, h125, s125_eq, s124_eq _ _ (hk _)]; rfl) (by first | rfl | grind [gle]) ?_ -- r4
    refine awp_if rfl (fun hc2 => ?_) (fun hc2 => ?_)
    ·
      refine awp_rs hK (by simp only [EV, xreg, xops, xop, vop, eop, AOp.eff, ap1, ap2, ov, ovs, ovo, rd, upd, look, gcond, abin, aaeq, aeqs, abeq, asbin, aisnil, asnil, aun, acv, afa, aia, ald, abnd, asl, assl, afd, aix, aex, aln, alns, amxs, amx2, anc, apick, newAt, hget, put, AV.whole, AV.isCell, oneCell, fillParts, slCells, asInt?, pcallX, AV.norefs, AV.noref, AV.scalar, AV.scalars, Nat.reduceEqDiff, Nat.reduceAdd, Nat.reduceMul, Nat.reduceSub, Nat.reduceBEq, Nat.reduceLeDiff, Nat.reduceLT, reduceIte, reduceCtorEq, List.reduceReplicate, Int.reduceToNat, Int.reduceLE, Int.reduceLT, eI, e32, eTy, eIns, eCls, eMeth, eImg, eSl, ty_eta, ins_eta, cls_eta, meth_eta, img_eta, nr_I, nr_32, nr_T, nr_N, nr_C, nr_M, getD_map_mid, h59, s59_eq, h124, s124_eq, h125, s125_eq, s124_eq _ _ (hk _)]; rfl) (by first | rfl | grind [gle]) ?_ -- r5
      refine awp_retb (fun h => h) rfl ?_ -- leaf 2
      first | grind [f68, subT, isRef, f125] | (rw [f68, sub_chain]; grind [isRef, f125, f59, f124])
    ·
      refine awp_skip ?_
      simp only [Ex.then_normal, Ex.then_exit, Ex.then_ret, Ex.blk_normal, Ex.blk_exit, Ex.blk_ret, if_true, if_false, reduceIte, reduceCtorEq, Nat.reduceEqDiff]
      refine awp_rs hK (by simp only [EV, xreg, xops, xop, vop, eop, AOp.eff, ap1, ap2, ov, ovs, ovo, rd, upd, look, gcond, abin, aaeq, aeqs, abeq, asbin, aisnil, asnil, aun, acv, afa, aia, ald, abnd, asl, assl, afd, aix, aex, aln, alns, amxs, amx2, anc, apick, newAt, hget, put, AV.whole, AV.isCell, oneCell, fillParts, slCells, asInt?, pcallX, AV.norefs, AV.noref, AV.scalar, AV.scalars, Nat.reduceEqDiff, Nat.reduceAdd, Nat.reduceMul, Nat.reduceSub, Nat.reduceBEq, Nat.reduceLeDiff, Nat.reduceLT, reduceIte, reduceCtorEq, List.reduceReplicate, Int.reduceToNat, Int.reduceLE, Int.reduceLT, eI, e32, eTy, eIns, eCls, eMeth, eImg, eSl, ty_eta, ins_eta, cls_eta, meth_eta, img_eta, nr_I, nr_32, nr_T, nr_N, nr_C, nr_M, getD_map_mid, h59, s59_eq, h124, s124_eq, h125, s125_eq, s124_eq _ _ (hk _)]; rfl) (by first | rfl | grind [gle]) ?_ -- r6
      refine awp_retb (fun h => h) rfl ?_ -- leaf 3
      first | grind [f68, subT, isRef, f125] | (rw [f68, sub_chain]; grind [isRef, f125, f59, f124])

end Go.Proofs.Yteelkalenpbmmaa.Ab

/- The law SaneTurned, walked. -/
import Derived.Test.YteelkalenpbmmaaAbs25
import Derived.Test.YteelkalenpbmmaaP6
set_option linter.unusedVariables false
set_option linter.unusedSimpArgs false
set_option maxRecDepth 20000
set_option maxHeartbeats 2000000
namespace Go.Proofs.Yteelkalenpbmmaa.Ab
open Go Go.RowKit

theorem cell_inv {w : World} {b p : Nat} {v : Value} (h : w.cell? ⟨b, p, none⟩ = some v) : ∃ C t fr, w.heap[b]? = some (.cells C t fr) ∧ C[p]? = some v := by
  unfold World.cell? at h
  split at h
  · rename_i c t fr heq
    exact ⟨c, t, fr, heq, by simpa using h⟩
  · cases h
theorem frozen_same {w w' : World} {b p : Nat} {C C' : Array Value} {t : TypeId} {fr : Nat × Nat} (h : w.heap[b]? = some (.cells C t fr)) (h' : w'.heap[b]? = some (.cells C' t fr)) : w'.frozen? ⟨b, p, none⟩ = w.frozen? ⟨b, p, none⟩ := by
  obtain ⟨lo, hi⟩ := fr
  simp only [World.frozen?, h, h']
theorem reg_run {P : Program} {K : Cfg} {V : List Nat} {N res : Nat} {ops : List AOper} {s s' : St} (hK : KOk P K) (he : xreg K V res ops s = (s', true)) : AWP P K V N (.reg res ops) (fun e s1 => e = .normal ∧ s1 = s') s := awp_reg hK (by rw [he]) ⟨rfl, by rw [he]⟩
theorem exOf_normal {e : Exit} (h : exOf e = some .normal) : e = .normal := by cases e <;> simp_all [exOf]
theorem exOf_ret {e : Exit} (h : exOf e = some .ret) : e = .ret := by cases e <;> simp_all [exOf]
theorem ungd_pin (g : Bool) (x : Value) (v : AV) : ungd g (.pin x v) = (v, true) := rfl
theorem VR.con_inv {F ι w v x} (h : VR F ι w (.con v) x) : x = v := by cases h; rfl
theorem VR.pin_inv {F ι w v y x} (h : VR F ι w (.pin v y) x) : x = v := by cases h; rfl
theorem VR.ref_inv {F ι w id off x} (h : VR F ι w (.ref id off) x) : ∃ b, ι id = some b ∧ x = .pointer (some ⟨b, off, none⟩) := by cases h; exact ⟨_, by assumption, rfl⟩
theorem VR.bool_inv {F ι w v x} (h : VR F ι w (.bool v) x) : x = .bool v := by cases h; rfl

noncomputable def K3 : Cfg := (((Cfg.none.addP 8 s8).addP 9 s9).addP 10 s10).addP 11 s11
theorem hK3 : KOk Try.prog K3 := ((((KOk.none mixed).addP p8 k8.c).addP p9 k9.c).addP w10 k10.c).addP p11 k11.c
theorem K3_8 : K3.pcall 8 = s8 := rfl
theorem K3_9 : K3.pcall 9 = s9 := rfl
theorem K3_10 : K3.pcall 10 = s10 := rfl
theorem K3_11 : K3.pcall 11 = s11 := rfl
theorem s10_eq : s10 [] = some (.bool true) := rfl
theorem i64w (n : Int) (h : 0 ≤ n ∧ n ≤ 255) : IntKind.i64.wrap n = n := wrap_i64 (by omega) (by omega)

abbrev V3 : List Nat := [0, 1, 2, 3, 4, 5, 10, 11, 12, 13, 14, 15, 29]

theorem law3 {W : World} {m : Img} {A : Array Value} {f pc a b : Int} (hm : VR (Old W) (fun _ => none) W (eImg m) (.agg A)) (hf : 0 ≤ f ∧ f ≤ 255) (hpc : 0 ≤ pc ∧ pc ≤ 255) (ha : 0 ≤ a ∧ a ≤ 255) (hb : 0 ≤ b ∧ b ≤ 255)
    (hnf : ∀ bk off len cap, A.getD 3 undef = .slice (some ⟨bk, off, none⟩) len cap → 0 < len → (∀ j, j < len * 8 → W.frozen? ⟨bk, off + j, none⟩ = false) ∧ ∃ t n, W.shape? bk = some (t, n) ∧ off + cap * 8 ≤ n) :
    Calls Try.prog 3 #[.agg A, .int .u8 f, .int .u8 pc, .int .u8 a, .int .u8 b] W fun e W' => e = .returned (.bool true) ∧ Below W.heap.size W W' := by
  obtain ⟨⟨gf, code, h1, h2, h3, h4, h5⟩, _⟩ := k3
  have hgf : gf = Try.f3 := by have := Try.func3; rw [h1] at this; injection this
  have hfree : freeC (fstC (nthC 7 code)) = true ∧ freeC (fstC (nthC 9 code)) = true := by
    have h6 : (Try.f3.body.map fun c => (freeC (fstC (nthC 7 c)), freeC (fstC (nthC 9 c)))) = some (true, true) := by kernel_rfl
    rw [← hgf, h2] at h6
    simpa using h6
  clear hgf
  refine calls_of_wp h1 h2 ?_
  rw [h5]
  -- the argument's cells, each by itself
  have hA : A.size = 7 := by cases hm with | agg _ _ h _ => simpa [eImg] using h
  have hAv : ∀ j c, (eImg m).cells[j]? = some c → VR (Old W) (fun _ => none) W c (A.getD j undef) := by
    cases hm with
    | agg _ _ _ h => exact h
  obtain ⟨x0, rfl⟩ : ∃ x0, x0 = A.getD 0 undef := ⟨_, rfl⟩
  have oc : ∀ j, j < 7 → oneCell (A.getD j undef) = true := by
    intro j hj
    match j, hj with
    | 0, _ => exact (hAv 0 _ rfl).oneCell rfl
    | 1, _ => exact (hAv 1 _ rfl).oneCell rfl
    | 2, _ => exact (hAv 2 _ rfl).oneCell rfl
    | 3, _ => exact (hAv 3 _ rfl).oneCell rfl
    | 4, _ => exact (hAv 4 _ rfl).oneCell rfl
    | 5, _ => exact (hAv 5 _ rfl).oneCell rfl
    | 6, _ => exact (hAv 6 _ rfl).oneCell rfl
  have o0 := oc 0 (by decide); have o1 := oc 1 (by decide); have o2 := oc 2 (by decide); have o3 := oc 3 (by decide); have o4 := oc 4 (by decide); have o5 := oc 5 (by decide); have o6 := oc 6 (by decide)
  -- region 1: the box, exactly
  have hargs : ArgsR (Old W) (fun _ => none) W [.agg [.con (A.getD 0 undef), .con (A.getD 1 undef), .con (A.getD 2 undef), .con (A.getD 3 undef), .con (A.getD 4 undef), .con (A.getD 5 undef), .con (A.getD 6 undef)], .int .u8 f, .int .u8 pc, .int .u8 a, .int .u8 b] #[.agg A, .int .u8 f, .int .u8 pc, .int .u8 a, .int .u8 b] := by
    refine ⟨rfl, fun j c hj => ?_⟩
    match j with
    | 0 =>
      injection hj with hj; subst hj
      refine .agg _ _ (by simpa using hA) fun j c hj => ?_
      match j with
      | 0 => injection hj with hj; subst hj; exact .con _
      | 1 => injection hj with hj; subst hj; exact .con _
      | 2 => injection hj with hj; subst hj; exact .con _
      | 3 => injection hj with hj; subst hj; exact .con _
      | 4 => injection hj with hj; subst hj; exact .con _
      | 5 => injection hj with hj; subst hj; exact .con _
      | 6 => injection hj with hj; subst hj; exact .con _
      | j + 7 => simp at hj
    | 1 => injection hj with hj; subst hj; exact .int _ _
    | 2 => injection hj with hj; subst hj; exact .int _ _
    | 3 => injection hj with hj; subst hj; exact .int _ _
    | 4 => injection hj with hj; subst hj; exact .int _ _
    | j + 5 => simp at hj
  have hinit : RR (Old W) (fun _ => none) W 84 (look V3 [.agg [.con (A.getD 0 undef), .con (A.getD 1 undef), .con (A.getD 2 undef), .con (A.getD 3 undef), .con (A.getD 4 undef), .con (A.getD 5 undef), .con (A.getD 6 undef)], .int .u8 f, .int .u8 pc, .int .u8 a, .int .u8 b, .any, .any, .any, .any, .any, .any, .any, .any]) _ := init_RR hargs V3 84 (by simp)
  generalize hact : ({ tmps := #[.agg A, .int .u8 f, .int .u8 pc, .int .u8 a, .int .u8 b] ++ Array.replicate (84 - (#[Value.agg A, .int .u8 f, .int .u8 pc, .int .u8 a, .int .u8 b] : Array Value).size) undef, defers := [] } : Act) = a0 at hinit
  have hN : F3.N = 84 := rfl
  rw [hN, hact]
  rw [hN] at h3
  have h3' : compC Try.prog 84 code c3 = some c3 := h3
  unfold c3 at h3'
  obtain ⟨d1, e1, rfl, g1, h3'⟩ := seq_inv h3'
  have st1 := reg_run (P := Try.prog) (V := V3) (N := 84) (s := ⟨[.agg [.con (A.getD 0 undef), .con (A.getD 1 undef), .con (A.getD 2 undef), .con (A.getD 3 undef), .con (A.getD 4 undef), .con (A.getD 5 undef), .con (A.getD 6 undef)], .int .u8 f, .int .u8 pc, .int .u8 a, .int .u8 b, .any, .any, .any, .any, .any, .any, .any, .any], []⟩) (res := 0) (ops := [o 5 (.bx 7 (.t 0)), o 10 (.mv (kb false))]) hK3 (by
    simp only [EV, xreg, xops, xop, vop, eop, AOp.eff, ap1, ap2, ov, ovs, ovo, rd, upd, look, gcond, abin, aaeq, aeqs, abeq, asbin, aisnil, asnil, aun, acv, afa, aia, ald, abnd, asl, assl, afd, aix, aex, aln, alns, amxs, amx2, anc, apick, newAt, hget, put, AV.whole, AV.isCell, oneCell, fillParts, slCells, asInt?, pcallX, AV.norefs, AV.noref, AV.scalar, AV.scalars, Nat.reduceEqDiff, Nat.reduceAdd, Nat.reduceMul, Nat.reduceSub, Nat.reduceBEq, Nat.reduceLeDiff, Nat.reduceLT, reduceIte, reduceCtorEq, List.reduceReplicate, Int.reduceToNat, Int.reduceLE, Int.reduceLT]
    refine Prod.ext rfl ?_
    show (oneCell (A.getD 0 undef) && (oneCell (A.getD 1 undef) && (oneCell (A.getD 2 undef) && (oneCell (A.getD 3 undef) && (oneCell (A.getD 4 undef) && (oneCell (A.getD 5 undef) && oneCell (A.getD 6 undef))))))) = true
    rw [o0, o1, o2, o3, o4, o5, o6]; rfl)
  refine wp_seq (Code.wp_mono ?_ (st1 d1 g1 _ _ W _ _ a0 W (run0 W) hinit))
  rintro e a1 w1 ⟨_, _, he, ⟨rfl, rfl⟩, F1, ι1, gr1, r1, rr1⟩
  obtain rfl := exOf_normal he
  have b1 := r1.kept
  obtain ⟨B5, hB5, t5⟩ := (rr1.v 5 : VR F1 ι1 w1 (.ref 0 0) _).ref_inv
  obtain ⟨C5, ty5, fr5, hw5, hF5, hle5, _, hv5⟩ := live_of (cs := [.con (A.getD 0 undef), .con (A.getD 1 undef), .con (A.getD 2 undef), .con (A.getD 3 undef), .con (A.getD 4 undef), .con (A.getD 5 undef), .con (A.getD 6 undef)]) r1.h (id := 0) rfl hB5
  have hB5n : W.heap.size ≤ B5 := by
    rcases r1.own 0 _ B5 rfl hB5 with h | h
    · exact h.elim
    · exact h
  have c5 : ∀ j, j < 7 → w1.cell? ⟨B5, 0 + j, none⟩ = some (A.getD j undef) := by
    intro j hj
    have hC : C5.getD j undef = A.getD j undef := by
      match j, hj with
      | 0, _ => exact (hv5 0 _ rfl).con_inv
      | 1, _ => exact (hv5 1 _ rfl).con_inv
      | 2, _ => exact (hv5 2 _ rfl).con_inv
      | 3, _ => exact (hv5 3 _ rfl).con_inv
      | 4, _ => exact (hv5 4 _ rfl).con_inv
      | 5, _ => exact (hv5 5 _ rfl).con_inv
      | 6, _ => exact (hv5 6 _ rfl).con_inv
    simp only [World.cell?, hw5, Option.isSome_none, Bool.false_eq_true, if_false, Nat.zero_add]
    rw [← hC]
    exact getD_of (by simp at hle5; omega)
  have hB5l : B5 < w1.heap.size := cell_lt (c5 0 (by decide))
  have n1 := rr1.size
  have f1 := (rr1.v 1 : VR F1 ι1 w1 (.int .u8 f) _).int_inv
  have f2 := (rr1.v 2 : VR F1 ι1 w1 (.int .u8 pc) _).int_inv
  have f3 := (rr1.v 3 : VR F1 ι1 w1 (.int .u8 a) _).int_inv
  have f4 := (rr1.v 4 : VR F1 ι1 w1 (.int .u8 b) _).int_inv
  have df1 := rr1.defers
  clear rr1 r1 gr1 hv5 hinit st1
  -- what the box reads as, wherever its cells stand
  have hbox : ∀ w : World, B5 < w.heap.size → (∀ j, j < 7 → w.cell? ⟨B5, 0 + j, none⟩ = some (A.getD j undef)) → ∀ m' : Img, VR (Old w) (fun _ => none) w (eImg m') (.agg A) → VR (Old w) (fun _ => none) w (.fptr (eImg m').cells) (.pointer (some ⟨B5, 0, none⟩)) := by
    intro w hbw hcw m' hm'
    have hq : ∀ j c, (eImg m').cells[j]? = some c → VR (Old w) (fun _ => none) w c (A.getD j undef) := by
      cases hm' with
      | agg _ _ _ h => exact h
    exact .fptr _ _ _ (fun j => A.getD j undef) hbw (fun j c hj => hcw j (by have := (List.getElem?_eq_some_iff.1 hj).1; simpa [eImg, AV.cells] using this)) hq
  have c5' : ∀ w : World, Below w1.heap.size w1 w → ∀ j, j < 7 → w.cell? ⟨B5, 0 + j, none⟩ = some (A.getD j undef) := by
    intro w hbw j hj
    have := c5 j hj
    simp only [World.cell?] at this ⊢
    rw [hbw.block B5 hB5l]; exact this
  have fin : ∀ (F : Nat → Prop) (ι : Nat → Option Nat) (H : Heap) (w' : World) (a' : Act) (vals : List AV), HRel F ι H w' → RR F ι w' 84 (look V3 vals) a' → look V3 vals 10 = .bool true → Below W.heap.size W w' →
      (a'.defers = [] ∧ ∃ v, (results gf a'.tmps).run Try.prog w' = .ok v w' ∧ (Ending.returned v = .returned (.bool true) ∧ Below W.heap.size W w')) := by
    intro F ι H w' a' vals hH hr h10 hbw
    obtain ⟨x, hx, hv⟩ := retv_sound (fn := gf) (qs := [.tmp 10]) hH hr h4 rfl
    simp only [retv, rvGet, h10] at hv
    exact ⟨hr.defers, x, hx, by rw [hv.bool_inv], hbw⟩
  -- region 2 and its test
  obtain ⟨d2, e2, rfl, g2, h3'⟩ := seq_inv h3'
  have hm1 : VR (Old w1) (fun _ => none) w1 (eImg m) (.agg A) := hm.grow (old_grow b1)
  have rr2 : RR (Old w1) (fun _ => none) w1 84 (look V3 [.any, .int .u8 f, .int .u8 pc, .int .u8 a, .int .u8 b, .pin (.pointer (some ⟨B5, 0, none⟩)) (.fptr (eImg m).cells), .any, .any, .any, .any, .any, .any, .any]) a1 := by
    refine rr_mk ⟨.any _, ?_, ?_, ?_, ?_, ?_, .any _, .any _, .any _, .any _, .any _, .any _, .any _, trivial⟩ n1 df1
    · rw [f1]; exact .int _ _
    · rw [f2]; exact .int _ _
    · rw [f3]; exact .int _ _
    · rw [f4]; exact .int _ _
    · rw [t5]; exact .pin _ _ (hbox w1 hB5l c5 m hm1)
  have hs8 := s8_eqp m
  have hs9 := s9_eqp m
  refine wp_seq (Code.wp_mono ?_ (?_ : Code.wp Try.prog d2 (fun e a' w' => ∃ (e' : Ex) (s' : St), exOf e = some e' ∧ ((e' = .ret ∧ look V3 s'.vals 10 = .bool true) ∨ (e' = .normal ∧ smallB m = true ∧ saneE m = 0 ∧ m.methods ≠ [] ∧ s'.heap = [] ∧ ∃ j29, s'.vals = [.any, .int .u8 f, .int .u8 pc, .int .u8 a, .int .u8 b, .pin (.pointer (some ⟨B5, 0, none⟩)) (.fptr (eImg m).cells), .any, .any, .any, .any, .any, .any, j29])) ∧ Post (fun _ => False) (Old w1) w1 (Old w1) (fun _ => none) w1 84 ⟨look V3 s'.vals, s'.heap⟩ a' w') a1 w1))
  rotate_left
  · refine (?_ : AWP Try.prog K3 V3 84 _ _ ⟨[.any, .int .u8 f, .int .u8 pc, .int .u8 a, .int .u8 b, .pin (.pointer (some ⟨B5, 0, none⟩)) (.fptr (eImg m).cells), .any, .any, .any, .any, .any, .any, .any], []⟩) d2 g2 _ _ w1 _ _ a1 w1 (run0 w1) rr2
    simp only [eImg, AV.cells, eSl]
    refine awp_rs hK3 (by simp only [EV, xreg, xops, xop, vop, eop, AOp.eff, ap1, ap2, ov, ovs, ovo, rd, upd, look, gcond, abin, aaeq, aeqs, abeq, asbin, aisnil, asnil, aun, acv, afa, aia, ald, abnd, asl, assl, afd, aix, aex, aln, alns, amxs, amx2, anc, apick, newAt, hget, put, AV.whole, AV.isCell, oneCell, fillParts, slCells, asInt?, pcallX, AV.norefs, AV.noref, AV.scalar, AV.scalars, Nat.reduceEqDiff, Nat.reduceAdd, Nat.reduceMul, Nat.reduceSub, Nat.reduceBEq, Nat.reduceLeDiff, Nat.reduceLT, reduceIte, reduceCtorEq, List.reduceReplicate, Int.reduceToNat, Int.reduceLE, Int.reduceLT, ungd_pin, K3_8, K3_9, hs8, hs9, nr_I, nr_32, nr_T, nr_N, nr_C, nr_M, List.length_map]; rfl) (by first | rfl | (simp [gle_iff]; done) | (simp [gle_iff]; omega) | grind [gle]) ?_
    refine awp_if rfl (fun hc => ?_) (fun hc => ?_)
    · refine awp_rs hK3 (by simp only [EV, xreg, xops, xop, vop, eop, AOp.eff, ap1, ap2, ov, ovs, ovo, rd, upd, look, gcond, abin, aaeq, aeqs, abeq, asbin, aisnil, asnil, aun, acv, afa, aia, ald, abnd, asl, assl, afd, aix, aex, aln, alns, amxs, amx2, anc, apick, newAt, hget, put, AV.whole, AV.isCell, oneCell, fillParts, slCells, asInt?, pcallX, AV.norefs, AV.noref, AV.scalar, AV.scalars, Nat.reduceEqDiff, Nat.reduceAdd, Nat.reduceMul, Nat.reduceSub, Nat.reduceBEq, Nat.reduceLeDiff, Nat.reduceLT, reduceIte, reduceCtorEq, List.reduceReplicate, Int.reduceToNat, Int.reduceLE, Int.reduceLT, K3_10, s10_eq]; rfl) (by first | rfl | (simp [gle_iff]; done) | (simp [gle_iff]; omega) | grind [gle]) ?_
      exact awp_ret (.inl ⟨rfl, rfl⟩)
    · refine awp_skip (.inr ⟨rfl, ?_, ?_, ?_, rfl, _, rfl⟩)
      · simp [f8, f9] at hc; exact hc.1.1
      · simp [f8, f9] at hc; exact hc.1.2
      · simp [f8, f9] at hc; exact hc.2
  rintro e a2 w2 ⟨_, s2, he, hq, F2, ι2, gr2, r2, rr2'⟩
  have b2 := r2.kept
  have b12 : Below W.heap.size W w2 := b1.trans (b2.mono b1.size)
  rcases hq with ⟨rfl, h10⟩ | ⟨rfl, hsm, hsa, hne, hH, j29, hvals⟩
  · obtain rfl := exOf_ret he
    exact fin _ _ _ _ _ _ r2.h rr2' h10 b12
  obtain rfl := exOf_normal he
  -- exact facts behind the test
  have t5' : a2.tmps.getD 5 undef = .pointer (some ⟨B5, 0, none⟩) := by
    have := rr2'.v 5
    simp only [hvals] at this
    exact (this : VR F2 ι2 w2 (.pin _ _) _).pin_inv
  have q1 : a2.tmps.getD 1 undef = .int .u8 f := by have := rr2'.v 1; simp only [hvals] at this; exact (this : VR F2 ι2 w2 (.int .u8 f) _).int_inv
  have q2 : a2.tmps.getD 2 undef = .int .u8 pc := by have := rr2'.v 2; simp only [hvals] at this; exact (this : VR F2 ι2 w2 (.int .u8 pc) _).int_inv
  have q3 : a2.tmps.getD 3 undef = .int .u8 a := by have := rr2'.v 3; simp only [hvals] at this; exact (this : VR F2 ι2 w2 (.int .u8 a) _).int_inv
  have q4 : a2.tmps.getD 4 undef = .int .u8 b := by have := rr2'.v 4; simp only [hvals] at this; exact (this : VR F2 ι2 w2 (.int .u8 b) _).int_inv
  have n2 := rr2'.size
  have df2 := rr2'.defers
  clear rr2' hvals rr2 t5 f1 f2 f3 f4 n1 df1 r2 gr2
  -- the methods' slice, exactly
  have hfit : fits m = true := by
    have : saneE m = 0 := hsa
    unfold saneE at this
    split at this
    · assumption
    · cases this
  have hlm := fits_methods hfit
  have hl0 : 0 < m.methods.length := List.length_pos_iff.2 hne
  have hv3 := hAv 3 _ rfl
  obtain ⟨bk, off, cap, hA3, hcapl, hobk, hel⟩ : ∃ bk off cap, A.getD 3 undef = .slice (some ⟨bk, off, none⟩) m.methods.length cap ∧ m.methods.length ≤ cap ∧ bk < W.heap.size ∧
      ∀ i, i < m.methods.length → ∀ j c, (eMeth (m.methods.getD i default)).cells[j]? = some c → ∃ y, W.cell? ⟨bk, off + (i * 8 + j), none⟩ = some y ∧ VR (Old W) (fun _ => none) W c y := by
    unfold eSl at hv3
    generalize hes : m.methods.map eMeth = es at hv3
    generalize A.getD 3 undef = y at hv3 ⊢
    cases hv3 with
    | vsl0 => simp at hes; exact absurd hes hne
    | vsl _ _ bk off cap g hF hcap hsz hc hv =>
      have hlen : es.length = m.methods.length := by rw [← hes]; simp
      refine ⟨bk, off, cap, by rw [hlen], by omega, hF, fun i hi j c hj => ?_⟩
      have he : es[i]? = some (eMeth (m.methods.getD i default)) := by rw [← hes, List.getElem?_map, List.getD_eq_getElem?_getD, List.getElem?_eq_getElem hi]; rfl
      exact ⟨_, hc i _ j c he hj, hv i _ j c he hj⟩
  obtain ⟨hfz, ty, nn, hsh, hnn⟩ := hnf _ _ _ _ hA3 hl0
  -- region 4: the address of a method
  obtain ⟨d4, e4, rfl, g4, h3'⟩ := seq_inv h3'
  obtain ⟨k, hk, hkl⟩ : ∃ k : Nat, Int.tmod f m.methods.length = (k : Int) ∧ k < m.methods.length := by
    refine ⟨(Int.tmod f m.methods.length).toNat, ?_, ?_⟩
    · rw [Int.tmod_eq_emod_of_nonneg hf.1]; have := Int.emod_nonneg f (show (m.methods.length : Int) ≠ 0 by omega); omega
    · rw [Int.tmod_eq_emod_of_nonneg hf.1]; have := Int.emod_lt_of_pos f (show (0 : Int) < m.methods.length by omega); have := Int.emod_nonneg f (show (m.methods.length : Int) ≠ 0 by omega); omega
  have rr4 : RR (Old w2) (one bk) w2 84 (look V3 [.any, .int .u8 f, .int .u8 pc, .int .u8 a, .int .u8 b, .pin (.pointer (some ⟨B5, 0, none⟩)) (.fptr [.any, .any, .any, .rsl 8 0 off m.methods.length]), .any, .any, .any, .any, .any, .any, .any]) a2 := by
    refine rr_mk ⟨.any _, ?_, ?_, ?_, ?_, ?_, .any _, .any _, .any _, .any _, .any _, .any _, .any _, trivial⟩ n2 df2
    · rw [q1]; exact .int _ _
    · rw [q2]; exact .int _ _
    · rw [q3]; exact .int _ _
    · rw [q4]; exact .int _ _
    · rw [t5']
      refine .pin _ _ (.fptr _ _ _ (fun j => A.getD j undef) (Nat.lt_of_lt_of_le hB5l b2.size) (fun j c hj => c5' w2 b2 j (by have := (List.getElem?_eq_some_iff.1 hj).1; simp at this; omega)) fun j c hj => ?_)
      match j with
      | 0 => injection hj with hj; subst hj; exact .any _
      | 1 => injection hj with hj; subst hj; exact .any _
      | 2 => injection hj with hj; subst hj; exact .any _
      | 3 =>
        injection hj with hj; subst hj
        rw [hA3]
        exact .rsl _ _ _ _ _ _ _ _ rfl hcapl (by simp only [World.shape?]; rw [b12.block bk hobk]; exact hsh) hnn
      | j + 4 => simp at hj
  have hbk2 : bk < w2.heap.size := Nat.lt_of_lt_of_le hobk b12.size
  have hw := i64w f hf
  have hkd : decide ((0 : Int) ≤ (k : Int)) = true := by simp
  have hkd2 : decide ((k : Int) < (m.methods.length : Int)) = true := by simp; exact hkl
  have hm0 : ((m.methods.length : Int) != 0) = true := by simp; exact hne
  have st4 := reg_run (P := Try.prog) (V := V3) (N := 84) (s := ⟨[.any, .int .u8 f, .int .u8 pc, .int .u8 a, .int .u8 b, .pin (.pointer (some ⟨B5, 0, none⟩)) (.fptr [.any, .any, .any, .rsl 8 0 off m.methods.length]), .any, .any, .any, .any, .any, .any, .any], [.dead]⟩) (res := 0)
    (ops := [o 31 (.fa (.t 5) 3), o 32 (.ld (.t 31) none), o 33 (.mv (.t 1)), o 34 (.cv .i64 (.t 33)), o 35 (.fa (.t 5) 3), o 36 (.ld (.t 35) none), o 37 (.ln (.t 36)), o 38 (.bin .rem (.t 34) (.t 37)), o 39 (.ia (.t 32) (.t 38) 8), o 11 (.mv (.t 39))]) hK3 (by
    simp only [EV, xreg, xops, xop, vop, eop, AOp.eff, ap1, ap2, ov, ovs, ovo, rd, upd, look, gcond, abin, aaeq, aeqs, abeq, asbin, aisnil, asnil, aun, acv, afa, aia, ald, abnd, asl, assl, afd, aix, aex, aln, alns, amxs, amx2, anc, apick, newAt, hget, put, AV.whole, AV.isCell, oneCell, fillParts, slCells, asInt?, pcallX, AV.norefs, AV.noref, AV.scalar, AV.scalars, Nat.reduceEqDiff, Nat.reduceAdd, Nat.reduceMul, Nat.reduceSub, Nat.reduceBEq, Nat.reduceLeDiff, Nat.reduceLT, reduceIte, reduceCtorEq, List.reduceReplicate, Int.reduceToNat, Int.reduceLE, Int.reduceLT, ungd_pin, hw, hk, hkd, hkd2, hm0, Int.toNat_natCast]; rfl)
  refine wp_seq (Code.wp_mono ?_ (st4 d4 g4 _ _ w2 _ _ a2 w2 (run1 w2 bk hbk2) rr4))
  rintro e a4 w4 ⟨_, _, he, ⟨rfl, rfl⟩, F4, ι4, gr4, r4, rr4'⟩
  obtain rfl := exOf_normal he
  have b4 := r4.kept
  have p11 : a4.tmps.getD 11 undef = .pointer (some ⟨bk, off + k * 8, none⟩) := by
    obtain ⟨b', hb', hx⟩ := (rr4'.v 11 : VR F4 ι4 w4 (.ref 0 (off + k * 8)) _).ref_inv
    have := gr4.mi 0 bk rfl
    rw [this] at hb'
    injection hb' with hb'
    subst hb'
    exact hx
  have p5 := (rr4'.v 5 : VR F4 ι4 w4 (.pin (.pointer (some ⟨B5, 0, none⟩)) (.fptr [.any, .any, .any, .rsl 8 0 off m.methods.length])) _).pin_inv
  have q2 := (rr4'.v 2 : VR F4 ι4 w4 (.int .u8 pc) _).int_inv
  have q3 := (rr4'.v 3 : VR F4 ι4 w4 (.int .u8 a) _).int_inv
  have q4 := (rr4'.v 4 : VR F4 ι4 w4 (.int .u8 b) _).int_inv
  have n4 := rr4'.size
  have df4 := rr4'.defers
  clear rr4' rr4 r4 gr4 st4
  have b14 : Below W.heap.size W w4 := b12.trans (b4.mono b12.size)
  -- the method
  obtain ⟨x, hx⟩ : ∃ x, x = m.methods.getD k default := ⟨_, rfl⟩
  have hxm : x ∈ m.methods := by rw [hx]; exact getD_mem hkl
  have hxW := methW_spec (fits_meth hfit x hxm)
  have hxc : x.code ≠ [] := by
    have : saneE m = 0 := hsa
    unfold saneE at this
    rw [if_pos hfit] at this
    split at this
    · rename_i hs
      simp only [saneB, Bool.and_eq_true, List.all_eq_true] at hs
      exact (methS_spec (hs.1.2 x hxm)).2.2.2.1
    · cases this
  have hcl0 : 0 < x.code.length := List.length_pos_iff.2 hxc
  have hcells : ∀ w : World, Below W.heap.size W w → ∀ j c, (eMeth x).cells[j]? = some c → ∃ y, w.cell? ⟨bk, off + k * 8 + j, none⟩ = some y ∧ VR (Old w) (fun _ => none) w c y := by
    intro w hbw j c hj
    rw [hx] at hj
    obtain ⟨y, h6, h7⟩ := hel k hkl j c hj
    refine ⟨y, ?_, h7.grow (old_grow hbw)⟩
    rw [Nat.add_assoc]
    simp only [World.cell?] at h6 ⊢
    rw [hbw.block bk hobk]; exact h6
  -- regions 5, 6, 7: a code of its own
  obtain ⟨k2, hk2, hk2l⟩ : ∃ k2 : Nat, Int.tmod pc x.code.length = (k2 : Int) ∧ k2 < x.code.length := by
    refine ⟨(Int.tmod pc x.code.length).toNat, ?_, ?_⟩
    · rw [Int.tmod_eq_emod_of_nonneg hpc.1]; have := Int.emod_nonneg pc (show (x.code.length : Int) ≠ 0 by omega); omega
    · rw [Int.tmod_eq_emod_of_nonneg hpc.1]; have := Int.emod_lt_of_pos pc (show (0 : Int) < x.code.length by omega); have := Int.emod_nonneg pc (show (x.code.length : Int) ≠ 0 by omega); omega
  obtain ⟨d5, e5, rfl, g5, h3'⟩ := seq_inv h3'
  obtain ⟨d6, e6, rfl, g6, h3'⟩ := seq_inv h3'
  obtain ⟨d7, e7, rfl, g7, h3'⟩ := seq_inv h3'
  obtain ⟨code2, hcode2⟩ : ∃ code2, code2 = x.code.set k2 ⟨(x.code.getD k2 default).op, a, b⟩ := ⟨_, rfl⟩
  have rr5 : RR (Old w4) (fun _ => none) w4 84 (look V3 [.any, .any, .int .u8 pc, .int .u8 a, .int .u8 b, .con (.pointer (some ⟨B5, 0, none⟩)), .any, .pin (.pointer (some ⟨bk, off + k * 8, none⟩)) (.fptr (eMeth x).cells), .any, .any, .any, .any, .any]) a4 := by
    refine rr_mk ⟨.any _, .any _, ?_, ?_, ?_, ?_, .any _, ?_, .any _, .any _, .any _, .any _, .any _, trivial⟩ n4 df4
    · rw [q2]; exact .int _ _
    · rw [q3]; exact .int _ _
    · rw [q4]; exact .int _ _
    · rw [p5]; exact .con _
    · rw [p11]
      have hq := hcells w4 b14
      have hg : ∃ g : Nat → Value, ∀ j c, (eMeth x).cells[j]? = some c → w4.cell? ⟨bk, off + k * 8 + j, none⟩ = some (g j) ∧ VR (Old w4) (fun _ => none) w4 c (g j) := by
        refine ⟨fun j => (w4.cell? ⟨bk, off + k * 8 + j, none⟩).getD undef, fun j c hj => ?_⟩
        obtain ⟨y, h6, h7⟩ := hq j c hj
        simp only [h6, Option.getD_some]
        exact ⟨trivial, h7⟩
      obtain ⟨g, hg⟩ := hg
      exact .pin _ _ (.fptr _ _ _ g (Nat.lt_of_lt_of_le hobk b14.size) (fun j c hj => (hg j c hj).1) (fun j c hj => (hg j c hj).2))
  have wa := i64w pc hpc
  have wb := i64w a ha
  have wc := i64w b hb
  have hxl : x.code.length * 24 ≤ 140737488355328 := by omega
  have hd0 : decide ((0 : Int) ≤ (k2 : Int)) = true := by simp
  have hd1 : decide ((k2 : Int) < (x.code.length : Int)) = true := by simp; exact hk2l
  have hd2 : ((x.code.length : Int) != 0) = true := by simp; exact hxc
  have st5 : AWP Try.prog K3 V3 84 (.reg 0 [o 40 (.bs 3 0 [.int .i64 0, .int .i64 0, .int .i64 0] []), o 41 (.mv (.t 11)), o 42 (.nc (.t 41)), o 43 (.fa (.t 42) 4), o 44 (.ld (.t 43) none), o 45 (.ap 3 24 [.int .i64 0, .int .i64 0, .int .i64 0] (.t 40) (.t 44)), o 12 (.mv (.t 45))]) (fun e s => e = .normal ∧ s = ⟨[.any, .any, .int .u8 pc, .int .u8 a, .int .u8 b, .con (.pointer (some ⟨B5, 0, none⟩)), .any, .pin (.pointer (some ⟨bk, off + k * 8, none⟩)) (.fptr (eMeth x).cells), .rsl 3 1 0 x.code.length, .any, .any, .any, .any], [.dead, .live (flat eIns x.code)]⟩) ⟨[.any, .any, .int .u8 pc, .int .u8 a, .int .u8 b, .con (.pointer (some ⟨B5, 0, none⟩)), .any, .pin (.pointer (some ⟨bk, off + k * 8, none⟩)) (.fptr (eMeth x).cells), .any, .any, .any, .any, .any], []⟩ := by
    simp only [eMeth, AV.cells, eSl]
    refine awp_r1 hK3 (by simp only [EV, xreg, xops, xop, vop, eop, AOp.eff, ap1, ap2, ov, ovs, ovo, rd, upd, look, gcond, abin, aaeq, aeqs, abeq, asbin, aisnil, asnil, aun, acv, afa, aia, ald, abnd, asl, assl, afd, aix, aex, aln, alns, amxs, amx2, anc, apick, newAt, hget, put, AV.whole, AV.isCell, oneCell, fillParts, slCells, asInt?, pcallX, AV.norefs, AV.noref, AV.scalar, AV.scalars, Nat.reduceEqDiff, Nat.reduceAdd, Nat.reduceMul, Nat.reduceSub, Nat.reduceBEq, Nat.reduceLeDiff, Nat.reduceLT, reduceIte, reduceCtorEq, List.reduceReplicate, Int.reduceToNat, Int.reduceLE, Int.reduceLT, ungd_pin, List.length_map, flat_fold, Nat.zero_mul, Nat.zero_add]; rfl) (by simp [flat_all encN, flat_len encN]; omega) ?_
    exact ⟨rfl, rfl⟩
  have st6 : AWP Try.prog K3 V3 84 (.reg 0 [o 46 (.mv (.t 12)), o 47 (.mv (.t 2)), o 48 (.cv .i64 (.t 47)), o 49 (.mv (.t 12)), o 50 (.ln (.t 49)), o 51 (.bin .rem (.t 48) (.t 50)), o 52 (.ia (.t 46) (.t 51) 3), o 13 (.mv (.t 52))]) (fun e s => e = .normal ∧ s = ⟨[.any, .any, .int .u8 pc, .int .u8 a, .int .u8 b, .con (.pointer (some ⟨B5, 0, none⟩)), .any, .pin (.pointer (some ⟨bk, off + k * 8, none⟩)) (.fptr (eMeth x).cells), .rsl 3 1 0 x.code.length, .ref 1 (k2 * 3), .any, .any, .any], [.dead, .live (flat eIns x.code)]⟩) ⟨[.any, .any, .int .u8 pc, .int .u8 a, .int .u8 b, .con (.pointer (some ⟨B5, 0, none⟩)), .any, .pin (.pointer (some ⟨bk, off + k * 8, none⟩)) (.fptr (eMeth x).cells), .rsl 3 1 0 x.code.length, .any, .any, .any, .any], [.dead, .live (flat eIns x.code)]⟩ := by
    refine awp_r1 hK3 (by simp only [EV, xreg, xops, xop, vop, eop, AOp.eff, ap1, ap2, ov, ovs, ovo, rd, upd, look, gcond, abin, aaeq, aeqs, abeq, asbin, aisnil, asnil, aun, acv, afa, aia, ald, abnd, asl, assl, afd, aix, aex, aln, alns, amxs, amx2, anc, apick, newAt, hget, put, AV.whole, AV.isCell, oneCell, fillParts, slCells, asInt?, pcallX, AV.norefs, AV.noref, AV.scalar, AV.scalars, Nat.reduceEqDiff, Nat.reduceAdd, Nat.reduceMul, Nat.reduceSub, Nat.reduceBEq, Nat.reduceLeDiff, Nat.reduceLT, reduceIte, reduceCtorEq, List.reduceReplicate, Int.reduceToNat, Int.reduceLE, Int.reduceLT, wa, hk2, hd0, hd1, hd2, Int.toNat_natCast, Nat.zero_add]; rfl) (by first | rfl | (simp [gle_iff]; done) | (simp [gle_iff]; omega) | grind [gle]) ?_
    exact ⟨rfl, rfl⟩
  have hl2 : code2.length = x.code.length := by rw [hcode2]; simp
  have st7 : AWP Try.prog K3 V3 84 (.reg 0 [o 53 (.mv (.t 13)), o 54 (.mv (.t 13)), o 55 (.mv (.t 3)), o 56 (.cv .i64 (.t 55)), o 57 (.mv (.t 4)), o 58 (.cv .i64 (.t 57)), o 59 (.nc (.t 53)), o 60 (.fa (.t 59) 1), os (.st 1 (.t 60) (.t 56)), o 61 (.nc (.t 54)), o 62 (.fa (.t 61) 2), os (.st 1 (.t 62) (.t 58))]) (fun e s => e = .normal ∧ s = ⟨[.any, .any, .int .u8 pc, .int .u8 a, .int .u8 b, .con (.pointer (some ⟨B5, 0, none⟩)), .any, .pin (.pointer (some ⟨bk, off + k * 8, none⟩)) (.fptr (eMeth x).cells), .rsl 3 1 0 code2.length, .ref 1 (k2 * 3), .any, .any, .any], [.dead, .live (flat eIns code2)]⟩) ⟨[.any, .any, .int .u8 pc, .int .u8 a, .int .u8 b, .con (.pointer (some ⟨B5, 0, none⟩)), .any, .pin (.pointer (some ⟨bk, off + k * 8, none⟩)) (.fptr (eMeth x).cells), .rsl 3 1 0 x.code.length, .ref 1 (k2 * 3), .any, .any, .any], [.dead, .live (flat eIns x.code)]⟩ := by
    refine awp_r1 hK3 (by simp only [EV, xreg, xops, xop, vop, eop, AOp.eff, ap1, ap2, ov, ovs, ovo, rd, upd, look, gcond, abin, aaeq, aeqs, abeq, asbin, aisnil, asnil, aun, acv, afa, aia, ald, abnd, asl, assl, afd, aix, aex, aln, alns, amxs, amx2, anc, apick, newAt, hget, put, AV.whole, AV.isCell, oneCell, fillParts, slCells, asInt?, pcallX, AV.norefs, AV.noref, AV.scalar, AV.scalars, Nat.reduceEqDiff, Nat.reduceAdd, Nat.reduceMul, Nat.reduceSub, Nat.reduceBEq, Nat.reduceLeDiff, Nat.reduceLT, reduceIte, reduceCtorEq, List.reduceReplicate, Int.reduceToNat, Int.reduceLE, Int.reduceLT, wb, wc, Nat.zero_add]; rfl) ?_ ?_
    · simp [flat_len encN]
      omega
    · refine ⟨rfl, ?_⟩
      have := put_turn a b x.code k2 hk2l
      rw [← hcode2] at this
      rw [hl2]
      simp only [put] at this
      rw [← this]
      rfl
  refine wp_seq (Code.wp_mono ?_ (st5 d5 g5 _ _ w4 _ _ a4 w4 (run0 w4) rr5))
  rintro e a5 w5 ⟨_, _, he, ⟨rfl, rfl⟩, F5, ι5, gr5, r5, rr5'⟩
  obtain rfl := exOf_normal he
  refine wp_seq (Code.wp_mono ?_ (st6 d6 g6 _ _ w4 _ _ a5 w5 r5 rr5'))
  rintro e a6 w6 ⟨_, _, he, ⟨rfl, rfl⟩, F6, ι6, gr6, r6, rr6'⟩
  obtain rfl := exOf_normal he
  refine wp_seq (Code.wp_mono ?_ (st7 d7 g7 _ _ w4 _ _ a6 w6 r6 rr6'))
  rintro e a7 w7 ⟨_, _, he, ⟨rfl, rfl⟩, F7, ι7, gr7, r7, rr7'⟩
  obtain rfl := exOf_normal he
  have b7 := r7.kept
  have b17 : Below W.heap.size W w7 := b14.trans (b7.mono b14.size)
  have b57 : Below w1.heap.size w1 w7 := (b2.trans (b4.mono b2.size)).trans (b7.mono ((b2.trans (b4.mono b2.size)).size))
  have p5 := (rr7'.v 5 : VR F7 ι7 w7 (.con (.pointer (some ⟨B5, 0, none⟩))) _).con_inv
  have p11 := (rr7'.v 11 : VR F7 ι7 w7 (.pin (.pointer (some ⟨bk, off + k * 8, none⟩)) (.fptr (eMeth x).cells)) _).pin_inv
  obtain ⟨x12, hx12⟩ : ∃ x12, x12 = a7.tmps.getD 12 undef := ⟨_, rfl⟩
  have v12 : VR (Old w7) (fun _ => none) w7 (eSl 3 eIns code2) x12 := by
    have h6 : VR F7 ι7 w7 (.rsl 3 1 0 code2.length) x12 := by rw [hx12]; exact rr7'.v 12
    have h7 := frz_sound r7.h 2 _ _ x12 (frz_flat encN (H := [.dead, .live (flat eIns code2)]) (id := 1) rfl (by omega)) h6
    refine h7.grow ⟨fun b hb => ?_, fun _ _ h => h, Nat.le_refl _, fun _ _ => rfl, fun _ _ => rfl⟩
    rcases hb with hb | ⟨id, cs, hl, hi⟩
    · exact r7.h.frz b hb
    · exact (r7.h.dom id b hi).1
  have n7 := rr7'.size
  have df7 := rr7'.defers
  clear rr7' rr6' rr5' r5 r6 r7 gr5 gr6 gr7 st5 st6 st7 rr5
  -- region 8: what stood there
  obtain ⟨v4, hv4, hvr4⟩ := hcells w7 b17 4 _ rfl
  have hcell4 := hcells w7 b17
  obtain ⟨d8, e8, rfl, g8, h3'⟩ := seq_inv h3'
  have rr8 : RR (Old w7) (fun _ => none) w7 84 (look V3 [.any, .any, .any, .any, .any, .con (.pointer (some ⟨B5, 0, none⟩)), .any, .pin (.pointer (some ⟨bk, off + k * 8, none⟩)) (.fptr [.any, .any, .any, .any, .con v4]), .con x12, .any, .any, .any, .any]) a7 := by
    refine rr_mk ⟨.any _, .any _, .any _, .any _, .any _, ?_, .any _, ?_, ?_, .any _, .any _, .any _, .any _, trivial⟩ n7 df7
    · rw [p5]; exact .con _
    · rw [p11]
      have hg : ∃ g : Nat → Value, g 4 = v4 ∧ ∀ j c, (eMeth x).cells[j]? = some c → w7.cell? ⟨bk, off + k * 8 + j, none⟩ = some (g j) := by
        refine ⟨fun j => (w7.cell? ⟨bk, off + k * 8 + j, none⟩).getD undef, by simp only [hv4]; rfl, fun j c hj => ?_⟩
        obtain ⟨y, h6, h7⟩ := hcell4 j c hj
        simp only [h6, Option.getD_some]
      obtain ⟨g, hg4, hg⟩ := hg
      refine .pin _ _ (.fptr _ _ _ g (Nat.lt_of_lt_of_le hobk b17.size) (fun j c hj => ?_) fun j c hj => ?_)
      · match j with
        | 0 => exact hg 0 _ rfl
        | 1 => exact hg 1 _ rfl
        | 2 => exact hg 2 _ rfl
        | 3 => exact hg 3 _ rfl
        | 4 => exact hg 4 _ rfl
        | j + 5 => simp at hj
      · match j with
        | 0 => injection hj with hj; subst hj; exact .any _
        | 1 => injection hj with hj; subst hj; exact .any _
        | 2 => injection hj with hj; subst hj; exact .any _
        | 3 => injection hj with hj; subst hj; exact .any _
        | 4 => injection hj with hj; subst hj; rw [hg4]; exact .con _
        | j + 5 => simp at hj
    · rw [← hx12]; exact .con _
  have st8 : AWP Try.prog K3 V3 84 (.reg 0 [o 63 (.mv (.t 11)), o 64 (.nc (.t 63)), o 65 (.fa (.t 64) 4), o 66 (.ld (.t 65) none), o 14 (.mv (.t 66))]) (fun e s => e = .normal ∧ s = ⟨[.any, .any, .any, .any, .any, .con (.pointer (some ⟨B5, 0, none⟩)), .any, .pin (.pointer (some ⟨bk, off + k * 8, none⟩)) (.fptr [.any, .any, .any, .any, .con v4]), .con x12, .any, .con v4, .any, .any], []⟩) ⟨[.any, .any, .any, .any, .any, .con (.pointer (some ⟨B5, 0, none⟩)), .any, .pin (.pointer (some ⟨bk, off + k * 8, none⟩)) (.fptr [.any, .any, .any, .any, .con v4]), .con x12, .any, .any, .any, .any], []⟩ := by
    refine awp_r1 hK3 (by simp only [EV, xreg, xops, xop, vop, eop, AOp.eff, ap1, ap2, ov, ovs, ovo, rd, upd, look, gcond, abin, aaeq, aeqs, abeq, asbin, aisnil, asnil, aun, acv, afa, aia, ald, abnd, asl, assl, afd, aix, aex, aln, alns, amxs, amx2, anc, apick, newAt, hget, put, AV.whole, AV.isCell, oneCell, fillParts, slCells, asInt?, pcallX, AV.norefs, AV.noref, AV.scalar, AV.scalars, Nat.reduceEqDiff, Nat.reduceAdd, Nat.reduceMul, Nat.reduceSub, Nat.reduceBEq, Nat.reduceLeDiff, Nat.reduceLT, reduceIte, reduceCtorEq, List.reduceReplicate, Int.reduceToNat, Int.reduceLE, Int.reduceLT, ungd_pin]; rfl) (by first | rfl | (simp [gle_iff]; done) | (simp [gle_iff]; omega) | grind [gle]) ?_
    exact ⟨rfl, rfl⟩
  refine wp_seq (Code.wp_mono ?_ (st8 d8 g8 _ _ w7 _ _ a7 w7 (run0 w7) rr8))
  rintro e a8 w8 ⟨_, _, he, ⟨rfl, rfl⟩, F8, ι8, gr8, r8, rr8'⟩
  obtain rfl := exOf_normal he
  have b8 := r8.kept
  have b18 : Below W.heap.size W w8 := b17.trans (b8.mono b17.size)
  have b58 : Below w1.heap.size w1 w8 := b57.trans (b8.mono b57.size)
  have p5 := (rr8'.v 5 : VR F8 ι8 w8 (.con (.pointer (some ⟨B5, 0, none⟩))) _).con_inv
  have p11 := (rr8'.v 11 : VR F8 ι8 w8 (.pin (.pointer (some ⟨bk, off + k * 8, none⟩)) (.fptr [.any, .any, .any, .any, .con v4])) _).pin_inv
  have p12 := (rr8'.v 12 : VR F8 ι8 w8 (.con x12) _).con_inv
  have p14 := (rr8'.v 14 : VR F8 ι8 w8 (.con v4) _).con_inv
  have n8 := rr8'.size
  have df8 := rr8'.defers
  clear rr8' r8 gr8 st8 rr8
  -- region 9: the code is turned
  obtain ⟨d9, e9, rfl, g9, h3'⟩ := seq_inv h3'
  have hp4 : off + k * 8 + 4 = off + (k * 8 + 4) := by omega
  have hv4' : w8.cell? ⟨bk, off + (k * 8 + 4), none⟩ = some v4 := by
    rw [← hp4]
    have := hv4
    simp only [World.cell?] at this ⊢
    rw [b8.block bk (Nat.lt_of_lt_of_le hobk b17.size)]; exact this
  obtain ⟨C8, ty8, fr8, hw8, hC8⟩ := cell_inv hv4'
  have hz8 : w8.frozen? ⟨bk, off + (k * 8 + 4), none⟩ = false := by
    rw [b18.frozen (p := ⟨bk, off + (k * 8 + 4), none⟩) hobk]
    exact hfz _ (by omega)
  have ox12 : oneCell x12 = true := v12.oneCell rfl
  have sl4 : ∃ a l c, v4 = .slice a l c := hvr4.vsl_slice
  have sl12 : ∃ a l c, x12 = .slice a l c := v12.vsl_slice
  have ov4 : oneCell v4 = true := hvr4.oneCell rfl
  have hbk8 : bk < w8.heap.size := Nat.lt_of_lt_of_le hobk b18.size
  refine wp_seq (wp_setField g9 hfree.1 (bk := bk) (off := off + k * 8) (x := x12) n8 df8 hbk8 p11 p12 ox12 (by rw [hp4, hv4']; rfl) (by rw [hp4]; exact hz8) (by decide) ?_)
  intro a9 n9 df9 same9
  rw [hp4]
  obtain ⟨T9, new9, heap9, other9, os9, tape9, out9⟩ := turn_set (x := x12) hw8 hC8 sl4
  generalize hw9 : w8.setCells bk (off + (k * 8 + 4)) [x12] = w9 at T9 new9 heap9 other9 os9 tape9 out9
  have p5 := (same9 5 (by decide) (by decide) (by decide) (by decide)).trans p5
  have p11 := (same9 11 (by decide) (by decide) (by decide) (by decide)).trans p11
  have p14 := (same9 14 (by decide) (by decide) (by decide) (by decide)).trans p14
  -- region 10: both looks at the turned image
  obtain ⟨d10, e10, rfl, g10, h3'⟩ := seq_inv h3'
  obtain ⟨m9, hm9⟩ : ∃ m9 : Img, m9 = { m with methods := m.methods.set k { m.methods.getD k default with code := code2 } } := ⟨_, rfl⟩
  have vm9 : VR (Old w9) (fun _ => none) w9 (eImg m9) (.agg A) := by
    rw [hm9]
    exact T9.img hkl new9 (T9.ints int_N (v12.grow (old_grow b8))) hA3 (hm.grow (old_grow b18))
  have hne5 : B5 ≠ bk := by omega
  have hB58 : B5 < w8.heap.size := Nat.lt_of_lt_of_le hB5l b58.size
  have c59 : ∀ j, j < 7 → w9.cell? ⟨B5, 0 + j, none⟩ = some (A.getD j undef) := by
    intro j hj
    have := c5' w8 b58 j hj
    simp only [World.cell?] at this ⊢
    rw [other9 B5 hne5]; exact this
  have rr10 : RR (Old w9) (fun _ => none) w9 84 (look V3 [.any, .any, .any, .any, .any, .pin (.pointer (some ⟨B5, 0, none⟩)) (.fptr (eImg m9).cells), .any, .con (.pointer (some ⟨bk, off + k * 8, none⟩)), .any, .any, .con v4, .any, .any]) a9 := by
    refine rr_mk ⟨.any _, .any _, .any _, .any _, .any _, ?_, .any _, ?_, .any _, .any _, ?_, .any _, .any _, trivial⟩ n9 df9
    · rw [p5]; exact .pin _ _ (hbox w9 (by rw [T9.size]; exact hB58) c59 m9 vm9)
    · rw [p11]; exact .con _
    · rw [p14]; exact .con _
  have hs11 := s11_eqp m9
  have hs9' := s9_eqp m9
  have st10 : AWP Try.prog K3 V3 84 (.reg 0 [o 71 (.ld (.t 5) (some 7)), o 72 (.pc 11 [(.t 71)]), o 73 (.ld (.t 5) (some 7)), o 74 (.pc 9 [(.t 73)]), o 75 (.bin .eql (.t 72) (.t 74)), o 15 (.mv (.t 75))]) (fun e s => e = .normal ∧ s = ⟨[.any, .any, .any, .any, .any, .pin (.pointer (some ⟨B5, 0, none⟩)) (.fptr (eImg m9).cells), .any, .con (.pointer (some ⟨bk, off + k * 8, none⟩)), .any, .any, .con v4, .bool true, .any], []⟩)
      ⟨[.any, .any, .any, .any, .any, .pin (.pointer (some ⟨B5, 0, none⟩)) (.fptr (eImg m9).cells), .any, .con (.pointer (some ⟨bk, off + k * 8, none⟩)), .any, .any, .con v4, .any, .any], []⟩ := by
    simp only [eImg, AV.cells, eSl]
    refine awp_r1 hK3 (by simp only [EV, xreg, xops, xop, vop, eop, AOp.eff, ap1, ap2, ov, ovs, ovo, rd, upd, look, gcond, abin, aaeq, aeqs, abeq, asbin, aisnil, asnil, aun, acv, afa, aia, ald, abnd, asl, assl, afd, aix, aex, aln, alns, amxs, amx2, anc, apick, newAt, hget, put, AV.whole, AV.isCell, oneCell, fillParts, slCells, asInt?, pcallX, AV.norefs, AV.noref, AV.scalar, AV.scalars, Nat.reduceEqDiff, Nat.reduceAdd, Nat.reduceMul, Nat.reduceSub, Nat.reduceBEq, Nat.reduceLeDiff, Nat.reduceLT, reduceIte, reduceCtorEq, List.reduceReplicate, Int.reduceToNat, Int.reduceLE, Int.reduceLT, ungd_pin, K3_11, K3_9, hs11, hs9', nr_I, nr_32, nr_T, nr_N, nr_C, nr_M]; rfl) (by first | rfl | (simp [gle_iff]; done) | (simp [gle_iff]; omega) | grind [gle]) ?_
    refine ⟨rfl, ?_⟩
    have : (f11 m9 == f9 m9) = true := by simp [f11, f9]
    rw [this]
  refine wp_seq (Code.wp_mono ?_ (st10 d10 g10 _ _ w9 _ _ a9 w9 (run0 w9) rr10))
  rintro e a10 w10 ⟨_, _, he, ⟨rfl, rfl⟩, F10, ι10, gr10, r10, rr10'⟩
  obtain rfl := exOf_normal he
  have b10 := r10.kept
  have p11 := (rr10'.v 11 : VR F10 ι10 w10 (.con (.pointer (some ⟨bk, off + k * 8, none⟩))) _).con_inv
  have p14 := (rr10'.v 14 : VR F10 ι10 w10 (.con v4) _).con_inv
  have p15 := (rr10'.v 15 : VR F10 ι10 w10 (.bool true) _).bool_inv
  have n10 := rr10'.size
  have df10 := rr10'.defers
  clear rr10' r10 gr10 st10 rr10
  -- region 11: it is put back
  obtain ⟨d11, e11, rfl, g11, h3'⟩ := seq_inv h3'
  have hbk9 : bk < w9.heap.size := by rw [T9.size]; exact hbk8
  have hw10 : w10.heap[bk]? = some (.cells (C8.setIfInBounds (off + (k * 8 + 4)) x12) ty8 fr8) := by rw [b10.block bk hbk9]; exact heap9
  have hlt8 : off + (k * 8 + 4) < C8.size := (Array.getElem?_eq_some_iff.1 hC8).1
  have hC10 : (C8.setIfInBounds (off + (k * 8 + 4)) x12)[off + (k * 8 + 4)]? = some x12 := by rw [Array.getElem?_setIfInBounds]; simp [hlt8]
  have hcell10 : w10.cell? ⟨bk, off + (k * 8 + 4), none⟩ = some x12 := by simp only [World.cell?, hw10, Option.isSome_none, Bool.false_eq_true, if_false]; exact hC10
  refine wp_seq (wp_setField g11 hfree.2 (bk := bk) (off := off + k * 8) (x := v4) n10 df10 (Nat.lt_of_lt_of_le hbk9 b10.size) p11 p14 ov4 (by rw [hp4, hcell10]; rfl) (by rw [hp4, frozen_same hw8 hw10]; exact hz8) (by decide) ?_)
  intro a11 n11 df11 same11
  rw [hp4]
  obtain ⟨T11, new11, heap11, other11, os11, tape11, out11⟩ := turn_set (x := v4) hw10 hC10 sl12
  generalize hw11 : w10.setCells bk (off + (k * 8 + 4)) [v4] = w11 at T11 new11 heap11 other11 os11 tape11 out11
  have p15 := (same11 15 (by decide) (by decide) (by decide) (by decide)).trans p15
  have hback : (C8.setIfInBounds (off + (k * 8 + 4)) x12).setIfInBounds (off + (k * 8 + 4)) v4 = C8 := by
    apply Array.ext_getElem?
    intro i
    rw [Array.getElem?_setIfInBounds, Array.getElem?_setIfInBounds]
    by_cases hi : off + (k * 8 + 4) = i
    · rw [if_pos hi, if_pos (by simpa using hlt8), ← hi, hC8]
    · rw [if_neg hi, if_neg hi]
  rw [hback] at heap11
  have b11 : Below w8.heap.size w8 w11 := by
    refine ⟨os11.trans (b10.os.trans os9), tape11.trans (b10.tape.trans tape9), out11.trans (b10.output.trans out9), ?_, fun i hi => ?_⟩
    · rw [T11.size]; have := b10.size; rw [T9.size] at this; exact this
    · by_cases e : i = bk
      · subst e; rw [heap11, hw8]
      · rw [other11 i e, b10.block i (by rw [T9.size]; exact hi), other9 i e]
  have b111 : Below W.heap.size W w11 := b18.trans (b11.mono b18.size)
  -- region 12
  have rr12 : RR (Old w11) (fun _ => none) w11 84 (look V3 [.any, .any, .any, .any, .any, .any, .any, .any, .any, .any, .any, .bool true, .any]) a11 := by
    refine rr_mk ⟨.any _, .any _, .any _, .any _, .any _, .any _, .any _, .any _, .any _, .any _, .any _, ?_, .any _, trivial⟩ n11 df11
    rw [p15]; exact .bool _
  have st12 : AWP Try.prog K3 V3 84 (.seq (.reg 0 [o 80 (.pc 10 []), o 81 (.mv (.t 80)), og 82 81 true (.mv (.t 15)), o 83 (.pk (.t 81) (.t 82) (kb false)), o 10 (.mv (.t 83))]) .ret) (fun e s => e = .ret ∧ look V3 s.vals 10 = .bool true)
      ⟨[.any, .any, .any, .any, .any, .any, .any, .any, .any, .any, .any, .bool true, .any], []⟩ := by
    refine awp_rs hK3 (by simp only [EV, xreg, xops, xop, vop, eop, AOp.eff, ap1, ap2, ov, ovs, ovo, rd, upd, look, gcond, abin, aaeq, aeqs, abeq, asbin, aisnil, asnil, aun, acv, afa, aia, ald, abnd, asl, assl, afd, aix, aex, aln, alns, amxs, amx2, anc, apick, newAt, hget, put, AV.whole, AV.isCell, oneCell, fillParts, slCells, asInt?, pcallX, AV.norefs, AV.noref, AV.scalar, AV.scalars, Nat.reduceEqDiff, Nat.reduceAdd, Nat.reduceMul, Nat.reduceSub, Nat.reduceBEq, Nat.reduceLeDiff, Nat.reduceLT, reduceIte, reduceCtorEq, List.reduceReplicate, Int.reduceToNat, Int.reduceLE, Int.reduceLT, K3_10, s10_eq]; rfl) (by first | rfl | (simp [gle_iff]; done) | (simp [gle_iff]; omega) | grind [gle]) ?_
    exact awp_ret ⟨rfl, rfl⟩
  refine Code.wp_mono ?_ (st12 _ h3' _ _ w11 _ _ a11 w11 (run0 w11) rr12)
  rintro e a12 w12 ⟨_, s12, he, ⟨rfl, h10⟩, F12, ι12, gr12, r12, rr12'⟩
  obtain rfl := exOf_ret he
  exact fin _ _ _ _ _ _ r12.h rr12' h10 (b111.trans (r12.kept.mono b111.size))
end Go.Proofs.Yteelkalenpbmmaa.Ab

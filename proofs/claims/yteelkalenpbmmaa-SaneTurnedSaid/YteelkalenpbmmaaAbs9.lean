/- All operations that turn the heap, as one. -/
import Derived.Test.YteelkalenpbmmaaAbs8
import Derived.IntWalk
set_option linter.unusedVariables false
set_option linter.unusedSimpArgs false
namespace Go.Proofs.Yteelkalenpbmmaa.Ab

theorem compSParts_sound {F ι w N env a} (h : RR F ι w N env a) (sz : Nat) : ∀ (qs : List (Nat × Operand)) (ps : List (Nat × Opd)), compSParts N qs = some ps → (ps.all fun p => (ov true env p.2).2) = true →
    ps.length = qs.length ∧ ∀ (j : Nat) p q, (ps.map fun p => (p.1 * sz, sz, (ov true env p.2).1))[j]? = some p → (qs.map fun q => (q.1, a.eval q.2))[j]? = some q → some (q.1 * sz, sz) = some (p.1, p.2.1) ∧ VR F ι w p.2.2 q.2
  | [], ps, hc, _ => by
    simp only [compSParts] at hc
    injection hc with hc; subst hc
    exact ⟨rfl, fun j p q hj => by simp at hj⟩
  | (i, x) :: r, ps, hc, ok => by
    simp only [compSParts] at hc
    obtain ⟨y, h1, hc⟩ := bind_some hc
    obtain ⟨pr, h2, rfl⟩ := map_some' hc
    simp only [List.all_cons, Bool.and_eq_true] at ok
    obtain ⟨i1, i2⟩ := compSParts_sound h sz r pr h2 ok.2
    refine ⟨by simp [i1], fun j p q hj hq => ?_⟩
    cases j with
    | zero =>
      simp at hj hq
      subst hj; subst hq
      exact ⟨rfl, ov_VR h h1 rfl ok.1⟩
    | succ j => exact i2 j p q (by simpa using hj) (by simpa using hq)

theorem CR_all {F ι w cs C} (h : CR F ι w cs C) (hc : cs.all AV.isCell = true) : ∀ v ∈ C.toList, Ab.oneCell v = true := by
  have hs := h.1
  refine all_one (F := F) (ι := ι) (w := w) (by simp [hs]) (fun j c hj => ?_) hc
  have := h.2 j c hj
  rw [Array.getD_eq_getD_getElem?] at this
  rw [List.getD_eq_getElem?_getD, Array.getElem?_toList]
  exact this

theorem asInt_of {v : AV} {n : Int} (h : asInt? v = some n) : ∃ k, v = .int k n := by
  cases v <;> simp [asInt?] at h
  exact ⟨_, by rw [h]⟩

theorem wrap_id (n : Int) (h0 : 0 ≤ n) (h1 : n ≤ 140737488355328) : IntKind.i64.wrap n = n := by
  rw [IntKind.wrap_i64]; omega

theorem eop_sound {O F0 w0 F ι w N env a H} {P : Program} {K : Cfg} (hK : KOk P K) (hR : Run O F0 w0 F ι H w) (h : RR F ι w N env a) (o : Oper) (ao : AOp) {hn : AOp} (hc : compOp P hn N o.op = some ao) (hne : ao.eff = true) (base : Nat) (at_ : Option Nat) (lo : Bool)
    (ok : (eop K base at_ lo env H ao).2 = true) (Kont : Act → World → Prop) (Q : Exit → Act → World → Prop)
    (hk : ∀ x w', After O F0 w0 F ι w (eop K base at_ lo env H ao).1.1 (eop K base at_ lo env H ao).1.2 x w' → Kont (a.put o.dst x) w') : o.wp P a w Kont Q := by
  have hH := hR.h
  cases hop : o.op <;> simp only [hop, compOp] at hc <;> try (cases hc; done)
  case move x => obtain ⟨y, hy, rfl⟩ := map_some' hc; cases hne
  case assign x => obtain ⟨y, hy, rfl⟩ := map_some' hc; cases hne
  case pick c x y =>
    obtain ⟨c', h1, hc⟩ := bind_some hc
    obtain ⟨x', h2, hc⟩ := bind_some hc
    obtain ⟨y', h3, rfl⟩ := map_some' hc
    cases hne
  case alloc t =>
    obtain ⟨z, h1, rfl⟩ := map_some' hc
    obtain ⟨v, hv, hcr, h2⟩ := zeroOf_sound h1 F ι w
    simp only [eop] at ok hk
    have hcs := hcr.1
    obtain ⟨h3, _⟩ := after_alloc hR (Alloc.of w v.cells t) (base := base) (at_ := at_) ok (by omega) (fun j _ => by simp) hcr.2
    refine wp_value (x := .pointer (some ⟨w.heap.size, 0, none⟩)) (w' := w.alloc (.cells v.cells t)) ?_ (hk _ _ h3)
    simp [execOp, hop, Instr.alloc, hv, newVar, newRow]
  case box t x =>
    obtain ⟨n, h1, hc⟩ := bind_some hc
    obtain ⟨y, h2, rfl⟩ := map_some' hc
    simp only [eop, Bool.and_eq_true, beq_iff_eq] at ok hk
    obtain ⟨⟨⟨⟨k1, k2⟩, k3⟩, k4⟩, k5⟩ := ok
    have hcr := whole_CR (ov_VR h h2 rfl k1) k2
    have hcs := hcr.1
    obtain ⟨h3, _⟩ := after_alloc hR (Alloc.of w (a.eval x).cells t) (base := base) (at_ := at_) k5 (by omega) (fun j _ => by simp) hcr.2
    refine wp_value (x := .pointer (some ⟨w.heap.size, 0, none⟩)) (w' := w.alloc (.cells (a.eval x).cells t)) ?_ (hk _ _ h3)
    simp [execOp, hop, Instr.box, newVar, newRow]
  case build t parts =>
    split at hc
    · split at hc
      · obtain ⟨z, h1, hc⟩ := bind_some hc
        obtain ⟨ps, h2, rfl⟩ := map_some' hc
        cases hne
      · cases hc
    · cases hc
  case buildSlice t len parts =>
    split at hc
    · rename_i e hu
      obtain ⟨sz, h1, hc⟩ := bind_some hc
      obtain ⟨z, h2, hc⟩ := bind_some hc
      obtain ⟨ps, h3, hc⟩ := bind_some hc
      split at hc
      · rename_i hcond
        injection hc with hc; subst hc
        simp only [Bool.and_eq_true, decide_eq_true_eq] at hcond
        simp only [eop, Bool.and_eq_true, beq_iff_eq] at ok hk
        obtain ⟨⟨⟨⟨k1, k2⟩, k3⟩, k4⟩, k5⟩ := ok
        obtain ⟨v, hv, hcr, hv1⟩ := zeroOf_sound h2 F ι w
        have hcs := hcr.1
        obtain ⟨hl, hp⟩ := compSParts_sound h sz parts.toList ps h3 k1
        have hbase : CR F ι w (List.replicate len z).flatten ((Array.range (len * sz)).map (fun i => v.cells[i % v.cells.size]!)) := by
          refine ⟨by simp [k3], fun j c hj => ?_⟩
          have := range_lit hcr len len (Nat.le_refl _) j c hj
          rw [k3] at this
          exact this
        obtain ⟨C', hf, hcr'⟩ := fill_sound (F := F) (ι := ι) (w := w) (fun i => some (i * sz, sz)) (ps.map fun p => (p.1 * sz, sz, (ov true env p.2).1)) (parts.toList.map fun q => (q.1, a.eval q.2)) _ _ hbase (by simp [hl]) hp k2
        have hcs' := hcr'.1
        have hlen : (fillParts (ps.map fun p => (p.1 * sz, sz, (ov true env p.2).1)) (List.replicate len z).flatten).1.length = len * sz := by
          have hgen : ∀ (qs : List (Nat × Nat × AV)) (cs : List AV), (fillParts qs cs).2 = true → (fillParts qs cs).1.length = cs.length := by
            intro qs
            induction qs with
            | nil => intro cs _; rfl
            | cons q qs ih =>
              obtain ⟨off, n, v⟩ := q
              intro cs hok
              simp only [fillParts, Bool.and_eq_true, beq_iff_eq, decide_eq_true_eq] at hok ⊢
              rw [ih _ hok.2, put_length _ _ _ (by omega)]
          rw [hgen _ _ k2]
          simp [k3]
        obtain ⟨_, h4⟩ := after_alloc hR (Alloc.of w C' e) (base := base) (at_ := at_) k5 (by omega) (fun j _ => by simp) hcr'.2
        refine wp_value (x := .slice (some ⟨w.heap.size, 0, none⟩) len len) (w' := w.alloc (.cells C' e)) ?_ (hk _ _ (h4 sz len len (Nat.le_refl _) (by rw [hcs', hlen]; exact Nat.le_refl _)))
        have e2 : (parts.map fun (x : Nat × Operand) => (x.1, a.eval x.2)).toList = parts.toList.map fun q => (q.1, a.eval q.2) := by simp
        simp only [execOp, hop, Sem.run_bind, Instr.buildSlice, run_underlying hu, Result.andThen_ok, run_sizeOf h1, Sem.run_ite]
        rw [if_neg (by omega)]
        by_cases h0 : len * sz = 0
        · rw [if_pos h0]
          have hZ : ((Array.range (len * sz)).map fun x => (#[] : Array Value)[x % (#[] : Array Value).size]!) = (Array.range (len * sz)).map (fun i => v.cells[i % v.cells.size]!) := by simp [h0]
          simp only [Sem.run_pure, Result.andThen_ok]
          rw [hZ, e2, hf]
          simp [newRow]
        · rw [if_neg h0]
          simp only [Sem.run_bind, hv, Result.andThen_ok, Sem.run_pure]
          rw [e2, hf]
          simp [newRow]
      · cases hc
    · cases hc
  case load t x =>
    obtain ⟨n, h1, hc⟩ := bind_some hc
    obtain ⟨y, h2, rfl⟩ := map_some' hc
    cases hne
  case store t x v =>
    obtain ⟨n, h1, hc⟩ := bind_some hc
    obtain ⟨x', h2, hc⟩ := bind_some hc
    obtain ⟨v', h3, rfl⟩ := map_some' hc
    simp only [eop] at ok hk
    cases hx : (ov true env x').1 <;> simp only [hx] at ok hk <;> try (cases ok; done)
    rename_i id off
    cases hg : hget H id with
    | none => simp [hg] at ok
    | some cs =>
      simp only [hg, Bool.and_eq_true, beq_iff_eq, decide_eq_true_eq] at ok hk
      obtain ⟨⟨⟨⟨⟨⟨k1, k2⟩, k3⟩, k4⟩, k5⟩, k6⟩, k7⟩ := ok
      have hvx := ov_VR h h2 rfl k1
      rw [hx] at hvx
      generalize hX : a.eval x = X at hvx
      cases hvx
      rename_i b hi
      obtain ⟨C, t', fr, hb, hF, hle, hfr, hv⟩ := live_of hH hg hi
      have hcr := whole_CR (ov_VR h h3 rfl k2) k3
      have hcs := hcr.1
      have hst := run_storeCells_row P w b off C t' fr hb hfr (a.eval v).cells.toList (by simp; omega) (CR_all hcr k6)
      have hw := setCells_wrote (a.eval v).cells.toList 0 off w b C t' fr hb
      rw [Nat.add_zero] at hw
      have hC : ((((a.eval v).cells.toList).zipIdx 0).foldl (fun cs (p : Value × Nat) => cs.setIfInBounds (off + p.2) p.1) C).size = C.size := foldl_set_size off _ C
      obtain ⟨g, r⟩ := hR.write (hget_some hg) hi hb hw hC (cs' := put cs off (ov true env v').1.cells) (by rw [put_length _ _ _ (by omega), hC]; exact hle)
        (put_prefix hle hv (by simp [hcs]) (fun j c hj => by
          have := hcr.2 j c hj
          rw [Array.getD_eq_getD_getElem?] at this
          rw [List.getD_eq_getElem?_getD, Array.getElem?_toList]
          exact this) (by omega) (by omega))
      refine wp_skip' (w' := w.setCells b off (a.eval v).cells.toList) ?_ (hk _ _ ⟨F, ι, g, r, .any _⟩)
      have hs : (sizeOf t).run P w = .ok n w := run_sizeOf h1 w
      simp only [execOp, hop, Sem.run_bind, Instr.storeAt, hX, Instr.sureAddr, Sem.run_pure, Result.andThen_ok, storeVar, hs, Sem.run_ite]
      rw [if_neg (by omega), hst]
      rfl
  case nilCheck x => obtain ⟨y, hy, rfl⟩ := map_some' hc; cases hne
  case binOp op t x y t' =>
    exfalso
    simp only [compBin] at hc
    obtain ⟨x', h1, hc⟩ := bind_some hc
    obtain ⟨y', h2, hc⟩ := bind_some hc
    repeat (first | (split at hc) | (injection hc with hc; subst hc; cases hne) | cases hc)
  case unOp op t x => obtain ⟨y, hy, rfl⟩ := map_some' hc; cases hne
  case convert s d x =>
    simp only [compConv] at hc
    obtain ⟨y, hy, hc⟩ := bind_some hc
    split at hc
    · injection hc with hc; subst hc; cases hne
    · split at hc
      · injection hc with hc; subst hc; cases hne
      · cases hc
    · rename_i e hs hd
      split at hc
      · rename_i he
        injection hc with hc; subst hc
        simp only [eop] at ok hk
        cases hx : (ov true env y).1 <;> simp only [hx] at ok hk <;> try (cases ok; done)
        rename_i s'
        simp only [Bool.and_eq_true] at ok
        obtain ⟨k1, k2⟩ := ok
        have hvx := ov_VR h hy rfl k1
        rw [hx] at hvx
        generalize hX : a.eval x = X at hvx
        cases hvx
        have hrun := Lib.run_convert_string_bytes (P := P) w s d e s' hs hd he
        have ha : Alloc w (Lib.bytesWorld w e s') (Lib.bytesCells w e s') e ((Lib.bytesCells w e s').size, (Lib.bytesCells w e s').size + 1) :=
          ⟨Lib.bytesWorld_size w e s', fun k hk => Lib.bytesWorld_at_old w e s' k hk, Lib.bytesWorld_at_new w e s', rfl, rfl, rfl⟩
        have hge := grownCap_ge w s'.size 0 e
        have hsz : (Lib.bytesCells w e s').size = grownCap w s'.size 0 e := by
          simp [Lib.bytesCells]
          have : s'.data.size = s'.size := rfl
          omega
        have hdl : s'.data.toList.length = s'.size := by rw [Array.length_toList]; rfl
        obtain ⟨_, h4⟩ := after_alloc hR ha (base := base) (at_ := at_) k2 (by rw [List.length_map, hdl, hsz]; exact hge) (fun j hj => by simp only; omega) (fun j c hj => by
          rw [List.getElem?_map] at hj
          cases hq : s'.data.toList[j]? with
          | none => rw [hq] at hj; cases hj
          | some q =>
            rw [hq] at hj
            simp only [Option.map_some, Option.some.injEq] at hj
            subst hj
            have hlt := (List.getElem?_eq_some_iff.1 hq).1
            have hlt' : j < s'.size := by omega
            have hcell := Lib.bytesWorld_cell w e s' j hlt'
            simp only [World.cell?, Lib.bytesWorld_at_new, Option.isSome_none, Bool.false_eq_true, if_false] at hcell
            rw [Array.getD_eq_getD_getElem?, hcell]
            rw [List.getD_eq_getElem?_getD, hq]
            exact .int _ _)
        refine wp_value (x := .slice (some ⟨w.heap.size, 0, none⟩) s'.size (grownCap w s'.size 0 e)) (w' := Lib.bytesWorld w e s') ?_ (hk _ _ (h4 1 s'.size _ hge (by rw [hsz, Nat.mul_one]; exact Nat.le_refl _)))
        simp [execOp, hop, hX, hrun]
      · cases hc
    · cases hc
  case makeFunc fn first caps =>
    cases fn <;> simp only at hc <;> try (cases hc; done)
    split at hc
    · obtain ⟨as, h1, hc⟩ := bind_some hc
      obtain ⟨bs, h2, rfl⟩ := map_some' hc
      cases hne
    · cases hc
  case makeSlice t l c =>
    split at hc
    · rename_i e hu
      obtain ⟨i, h1, hc⟩ := bind_some hc
      obtain ⟨z, h2, hc⟩ := bind_some hc
      obtain ⟨l', h3, hc⟩ := bind_some hc
      obtain ⟨c', h4, rfl⟩ := map_some' hc
      simp only [eop] at ok hk
      cases hl : asInt? (ov true env l').1 with
      | none => simp [hl] at ok
      | some ln =>
        cases hcn : asInt? (ov true env c').1 with
        | none => simp [hl, hcn] at ok
        | some cn =>
          simp only [hl, hcn, Bool.and_eq_true, beq_iff_eq, decide_eq_true_eq] at ok hk
          obtain ⟨⟨⟨⟨⟨⟨⟨⟨k1, k2⟩, k3⟩, k4⟩, k5⟩, k6⟩, k7⟩, k8⟩, k9⟩ := ok
          obtain ⟨kl, el⟩ := asInt_of hl
          obtain ⟨kc, ec⟩ := asInt_of hcn
          have hvl := ov_VR h h3 rfl k1
          have hvc := ov_VR h h4 rfl k2
          rw [el] at hvl
          rw [ec] at hvc
          generalize hX : a.eval l = X at hvl
          generalize hY : a.eval c = Y at hvc
          cases hvl
          cases hvc
          obtain ⟨v, hv, hcr, hv1⟩ := zeroOf_sound h2 F ι w
          have hcs := hcr.1
          have hsz : (sizeOf e).run P w = .ok i.size w := by simp [sizeOf, typeInfo, h1]
          have hwl := wrap_id ln k3 (by omega)
          have hwc := wrap_id cn (by omega) k6
          let C' : Array Value := (Array.range (cn.toNat * i.size)).map (fun j => v.cells[j % v.cells.size]!)
          have hfl : (List.replicate ln.toNat z).flatten.length = ln.toNat * i.size := by simp [k7]
          have hle : ln.toNat * i.size ≤ cn.toNat * i.size := Nat.mul_le_mul_right _ (by omega)
          obtain ⟨_, hA⟩ := after_alloc hR (Alloc.of w C' e) (base := base) (at_ := at_) k9 (by rw [hfl]; simpa [C'] using hle) (fun j _ => by simp) (fun j q hj => by
            have := range_lit hcr ln.toNat cn.toNat (by omega) j q hj
            rw [k7] at this
            exact this)
          refine wp_value (x := .slice (some ⟨w.heap.size, 0, none⟩) ln.toNat cn.toNat) (w' := w.alloc (.cells C' e)) ?_ (hk _ _ (hA i.size ln.toNat cn.toNat (by omega) (by simp [C'])))
          have hti : (typeInfo e).run P w = .ok i w := by simp [typeInfo, h1]
          have hb : ¬ ((i.bytes : Int) * cn > 2 ^ 48) := by
            have : (i.bytes : Int) * cn = cn * i.bytes := Int.mul_comm _ _
            omega
          simp only [execOp, hop, Sem.run_bind, Instr.makeSlice, run_underlying hu, Result.andThen_ok, hX, hY, asInt, asIntOf, Sem.run_pure, hti, hwl, hwc, Sem.run_ite]
          rw [if_neg (by simp only [Bool.or_eq_true, decide_eq_true_eq]; omega)]
          simp only [run_askRoom, Result.andThen_ok, hsz, Sem.run_bind]
          by_cases h0 : cn.toNat * i.size = 0
          · rw [if_pos h0]
            have hZ : ((Array.range (cn.toNat * i.size)).map fun x => (#[] : Array Value)[x % (#[] : Array Value).size]!) = C' := by simp [h0, C']
            rw [hZ]
            simp [newRow]
          · rw [if_neg h0]
            simp only [Sem.run_bind, hv, Result.andThen_ok, Sem.run_pure]
            simp [newRow, C']
    · cases hc
  case slice t x l hh m =>
    exfalso
    obtain ⟨x', h1, hc⟩ := bind_some hc
    obtain ⟨l', h2, hc⟩ := bind_some hc
    obtain ⟨hh', h3, hc⟩ := bind_some hc
    obtain ⟨m', h4, hc⟩ := bind_some hc
    split at hc
    · split at hc
      · obtain ⟨sz, h5, rfl⟩ := map_some' hc; cases hne
      · cases hc
    · split at hc
      · injection hc with hc; subst hc; cases hne
      · cases hc
    · cases hc
  case fieldAddr s x i =>
    exfalso
    split at hc
    · obtain ⟨f, h1, hc⟩ := bind_some hc
      obtain ⟨n, h2, hc⟩ := bind_some hc
      split at hc
      · cases hc
      · obtain ⟨y, hy, rfl⟩ := map_some' hc; cases hne
    · cases hc
  case field s x i =>
    exfalso
    split at hc
    · obtain ⟨f, h1, hc⟩ := bind_some hc
      obtain ⟨n, h2, hc⟩ := bind_some hc
      obtain ⟨y, hy, rfl⟩ := map_some' hc; cases hne
    · cases hc
  case indexAddr t x i =>
    exfalso
    split at hc
    · obtain ⟨sz, h1, hc⟩ := bind_some hc
      obtain ⟨x', h2, hc⟩ := bind_some hc
      obtain ⟨i', h3, rfl⟩ := map_some' hc; cases hne
    · cases hc
  case index t x i =>
    exfalso
    split at hc
    · obtain ⟨x', h2, hc⟩ := bind_some hc
      obtain ⟨i', h3, rfl⟩ := map_some' hc; cases hne
    · cases hc
  case extract x i => obtain ⟨y, hy, rfl⟩ := map_some' hc; cases hne
  case call c =>
    obtain ⟨callee, args, ts⟩ := c
    simp only [compCall] at hc
    obtain ⟨ys, h1, hc⟩ := bind_some hc
    split at hc
    · exfalso
      split at hc
      · injection hc with hc; subst hc; cases hne
      · injection hc with hc; subst hc; cases hne
      · cases hc
    · exfalso
      split at hc
      · injection hc with hc; subst hc; cases hne
      · cases hc
    · exfalso
      split at hc
      · injection hc with hc; subst hc; cases hne
      · cases hc
    · -- append
      split at hc
      · rename_i t u x' y' hts
        split at hc
        · rename_i e eu ht hu
          obtain ⟨i, hi, hc⟩ := bind_some hc
          obtain ⟨z, hz, rfl⟩ := map_some' hc
          obtain ⟨x, y, rfl, hx, hy⟩ : ∃ x y, args = #[x, y] ∧ opd N x = some x' ∧ opd N y = some y' := by
            cases hq : args.toList with
            | nil => rw [hq] at h1; simp [opds] at h1
            | cons a1 r =>
              rw [hq] at h1
              simp only [opds] at h1
              obtain ⟨b, h2, h1⟩ := bind_some h1
              obtain ⟨bs, h3, h1⟩ := map_some' h1
              injection h1 with e1 e2
              subst e1; subst e2
              cases r with
              | nil => simp [opds] at h3
              | cons a2 r2 =>
                simp only [opds] at h3
                obtain ⟨b2, h4, h3⟩ := bind_some h3
                obtain ⟨bs2, h5, h3⟩ := map_some' h3
                injection h3 with e3 e4
                subst e3; subst e4
                cases r2 with
                | nil => exact ⟨a1, a2, by rw [← Array.toArray_toList (xs := args), hq], h2, h4⟩
                | cons a3 r3 =>
                  simp only [opds] at h5
                  obtain ⟨b3, _, h5⟩ := bind_some h5
                  obtain ⟨bs3, _, h5⟩ := map_some' h5
                  cases h5
          have hts' : ts = #[t, u] := by rw [← Array.toArray_toList (xs := ts), hts]
          subst hts'
          have fin : ∀ {v w'}, (Builtin.append_ #[t, u] o.type #[a.eval x, a.eval y]).run P w = .ok v w' → (execOp a.eval o).run P w = .ok (.value v) w' := by
            intro v w' hr
            simp [execOp, hop, resolve, invoke, builtin, hr]
          obtain ⟨zv, hzv, hzcr, hz1⟩ := zeroOf_sound hz F ι w
          have hzi : i.zero = some zv := by
            unfold zeroOf at hz
            cases hq : i.zero with
            | none => simp [hi, hq] at hz
            | some q =>
              simp [zeroValue, typeInfo, hi, hq] at hzv
              rw [hzv]
          have hzs := hzcr.1
          have hyc : ∀ (sz' : Nat), sz' = i.size → (ov true env y').2 = true → (slCells H sz' (ov true env y').1).2.2 = true → ∃ (vs : List Value) (A : Option Addr) (cap : Nat), a.eval y = .slice A (slCells H sz' (ov true env y').1).2.1 cap ∧
              vs.length = (slCells H sz' (ov true env y').1).1.length ∧ (slCells H sz' (ov true env y').1).1.length = (slCells H sz' (ov true env y').1).2.1 * i.size ∧ (∀ (j : Nat) (c : AV), (slCells H sz' (ov true env y').1).1[j]? = some c → VR F ι w c (vs.getD j undef)) ∧
              (Builtin.firstCells i.size (slCells H sz' (ov true env y').1).2.1 (a.eval y)).run P w = .ok vs.toArray w ∧ (Builtin.firstCells i.size (slCells H sz' (ov true env y').1).2.1 (a.eval y)).run P w.drew = .ok vs.toArray w.drew := by
            rintro sz' rfl ok1 ok2
            obtain ⟨vs, e1, e2, e3, A, cap, e4, _, e5, e6⟩ := slCells_sound hH i.size (ov_VR h hy rfl ok1) ok2
            refine ⟨vs, A, cap, e4, e1, e2, e3, ?_, ?_⟩
            · rw [e4]; exact first_run i.size _ A cap vs (by omega) e5 e6
            · rw [e4]; exact first_run i.size _ A cap vs (by omega) e5 (fun ad had j u hu => by simpa using e6 ad had j u hu)
          simp only [eop] at ok hk
          cases hxv : (ov true env x').1 <;> simp only [hxv] at ok hk <;> try (cases ok; done)
          · -- nil
            simp only [Bool.and_eq_true, beq_iff_eq, decide_eq_true_eq] at ok
            obtain ⟨⟨⟨⟨⟨⟨⟨⟨k1, k2⟩, k3⟩, k4⟩, k5⟩, k6⟩, k7⟩, k8⟩, k9⟩ := ok
            obtain ⟨vs, A, cap, f1, f2, f3, f4, f5, f6⟩ := hyc i.size rfl k2 k3
            have hvx := ov_VR h hx rfl k1
            rw [hxv] at hvx
            generalize hX : a.eval x = X at hvx fin
            cases hvx
            generalize hm : (slCells H i.size (ov true env y').1).2.1 = m at f1 f3 f5 f6 k7 k8 hk
            rw [f1] at f5 f6
            rcases Nat.eq_zero_or_pos m with h0 | h0
            · subst h0
              have hcs : (slCells H i.size (ov true env y').1).1 = [] := List.eq_nil_of_length_eq_zero (by omega)
              rw [hcs] at k9 hk f2
              have hvs : vs = [] := List.eq_nil_of_length_eq_zero (by simpa using f2)
              subst hvs
              have hr := run_append_place w t u o.type e eu i ht hu hi none 0 0 0 cap A [] f5 (by omega) w (fun a h => by cases h) (fun _ => rfl)
              rw [f1] at fin
              exact wp_value (fin hr) (hk _ _ ⟨F, ι, Grow.refl _ _ _, hR.virt (newAt_NewH k9), .rslv _ _ _ _⟩)
            · have hr := run_append_more w t u o.type e eu i zv ht hu hi hzi none 0 0 m cap A [] vs f6 (by simp [Builtin.firstCells]) (by omega) (by omega) (growslice_fits (by omega) (by rw [Nat.zero_add]; exact k7))
              rw [Nat.zero_add] at hr
              have hge := grownCap_ge w m 0 e
              have hC : (([] : List Value).toArray ++ vs.toArray ++ Builtin.zeroCells zv.cells (grownCap w m 0 e - m)).size = grownCap w m 0 e * i.size := by
                simp only [Array.size_append, List.size_toArray, List.length_nil, size_zeroCells, hzs, k5, f2, f3, Nat.zero_add, ← Nat.add_mul]
                congr 1
                omega
              obtain ⟨_, hA⟩ := after_alloc hR (Alloc.drew (Alloc.of w.drew _ e)) (base := base) (at_ := at_) k9 (by rw [hC, f3]; exact Nat.mul_le_mul_right _ (by omega)) (fun j _ => by simp) (fun j c hj => by
                have hlt := (List.getElem?_eq_some_iff.1 hj).1
                have := f4 j c hj
                rw [Array.getD_eq_getD_getElem?, Array.getElem?_append_left (by simp; omega), Array.getElem?_append_right (by simp), List.getElem?_toArray]
                rw [List.getD_eq_getElem?_getD] at this
                simpa using this)
              rw [f1] at fin
              exact wp_value (fin hr) (hk _ _ (hA i.size m _ hge (by rw [hC]; exact Nat.le_refl _)))
          · -- of the heap
            rename_i sz' id off len
            cases hg : hget H id with
            | none => simp [hg] at ok
            | some cs =>
              simp only [hg, Bool.and_eq_true, beq_iff_eq, decide_eq_true_eq] at ok hk
              obtain ⟨⟨⟨⟨⟨⟨⟨⟨⟨⟨⟨⟨k1, k2⟩, k3⟩, k4⟩, k5⟩, k6⟩, k7⟩, k8⟩, k9⟩, k10⟩, k11⟩, k12⟩, k13⟩ := ok
              subst k4; subst k5
              obtain ⟨vs, A, cap, f1, f2, f3, f4, f5, f6⟩ := hyc i.size rfl k2 k3
              have hvx := ov_VR h hx rfl k1
              rw [hxv] at hvx
              generalize hX : a.eval x = X at hvx fin
              rw [f1] at fin f5 f6
              have hvs1 : ∀ v ∈ vs, Ab.oneCell v = true := all_one f2 f4 k7
              have hkill := hR.kill id cs (hget_some hg)
              -- a new row
              have more : ∀ (base' : Option Addr) (sCap : Nat) (olds : List Value), X = .slice base' len sCap → olds.length = len * i.size → (∀ (j : Nat) (c : AV), (cs.take (len * i.size))[j]? = some c → VR F ι w c (olds.getD j undef)) →
                  (Builtin.firstCells i.size len (.slice base' len sCap)).run P w.drew = .ok olds.toArray w.drew → sCap < len + (slCells H i.size (ov true env y').1).2.1 → o.wp P a w Kont Q := by
                intro base' sCap olds hX' hol hov hfo hlt
                have hr := run_append_more w t u o.type e eu i zv ht hu hi hzi base' len sCap _ cap A olds vs f6 hfo hlt (by omega) (growslice_fits hlt k10)
                generalize hm : (slCells H i.size (ov true env y').1).2.1 = m at *
                have hge := grownCap_ge w (len + m) sCap e
                have hC : (olds.toArray ++ vs.toArray ++ Builtin.zeroCells zv.cells (grownCap w (len + m) sCap e - (len + m))).size = grownCap w (len + m) sCap e * i.size := by
                  simp only [Array.size_append, List.size_toArray, size_zeroCells, hzs, k8, f2, f3, hol, ← Nat.add_mul]
                  congr 1
                  omega
                have hlen : (cs.take (len * i.size) ++ (slCells H i.size (ov true env y').1).1).length = (len + m) * i.size := by
                  rw [List.length_append, List.length_take, f3, Nat.min_eq_left k6, ← Nat.add_mul]
                obtain ⟨_, hA⟩ := after_alloc hkill (Alloc.drew (Alloc.of w.drew _ e)) (base := base) (at_ := at_) k13 (by rw [hC, hlen]; exact Nat.mul_le_mul_right _ hge) (fun j _ => by simp) (fun j c hj => by
                  by_cases hj1 : j < len * i.size
                  · rw [List.getElem?_append_left (by simp; omega)] at hj
                    have := hov j c hj
                    rw [Array.getD_eq_getD_getElem?, Array.getElem?_append_left (by simp; omega), Array.getElem?_append_left (by simp; omega), List.getElem?_toArray]
                    rw [List.getD_eq_getElem?_getD] at this
                    exact this
                  · have hlt := (List.getElem?_eq_some_iff.1 hj).1
                    rw [List.getElem?_append_right (by simp; omega)] at hj
                    have hmin : min (len * i.size) cs.length = len * i.size := Nat.min_eq_left k6
                    rw [List.length_take, hmin] at hj
                    have hjl := (List.getElem?_eq_some_iff.1 hj).1
                    have := f4 _ c hj
                    rw [Array.getD_eq_getD_getElem?, Array.getElem?_append_left (by simp; omega), Array.getElem?_append_right (by simp; omega), List.getElem?_toArray, List.size_toArray, hol]
                    rw [List.getD_eq_getElem?_getD] at this
                    exact this)
                rw [hX'] at fin
                exact wp_value (fin hr) (hk _ _ (hA i.size (len + m) _ hge (by rw [hC]; exact Nat.le_refl _)))
              rcases hvx.rsl_inv with ⟨a0, rfl, rfl⟩ | ⟨b, sCap, nb, tb, rfl, hib, hsc, hshape, hnb⟩
              · -- lies nowhere
                rcases Nat.eq_zero_or_pos (slCells H i.size (ov true env y').1).2.1 with h0 | h0
                · have hcs : (slCells H i.size (ov true env y').1).1 = [] := List.eq_nil_of_length_eq_zero (by rw [f3, h0, Nat.zero_mul])
                  have hvs : vs = [] := List.eq_nil_of_length_eq_zero (by rw [f2, hcs]; rfl)
                  subst hvs
                  rw [h0] at f5 fin hk
                  rw [hcs] at k13 hk
                  simp only [Nat.zero_mul, List.take_zero, List.append_nil, Nat.zero_add] at k13 hk
                  have hr := run_append_place w t u o.type e eu i ht hu hi a0 0 0 0 cap A [] f5 (by omega) w (fun a h => rfl) (fun _ => rfl)
                  exact wp_value (fin hr) (hk _ _ ⟨F, ι, Grow.refl _ _ _, hkill.virt (newAt_NewH k13), .rslv _ _ _ _⟩)
                · refine more a0 0 [] rfl (by simp) (fun j c hj => by simp at hj) ?_ (by omega)
                  cases a0 with
                  | none => simp [Builtin.firstCells]
                  | some ad => simp [Builtin.firstCells, loadCells, loadCellsFrom]
              · obtain ⟨C, t', fr, hb, hF, hle, hfr, hv⟩ := live_of hH hg hib
                have hnC : nb = C.size := by
                  simp only [World.shape?, hb] at hshape
                  injection hshape with hshape
                  injection hshape with _ hshape
                  exact hshape.symm
                subst hnC
                by_cases hroom : len + (slCells H i.size (ov true env y').1).2.1 ≤ sCap
                · have hfit : len * i.size + vs.length ≤ C.size := by
                    rw [f2, f3, ← Nat.add_mul]
                    exact Nat.le_trans (Nat.mul_le_mul_right _ hroom) (by omega)
                  have hst := run_storeCells_row P w b (len * i.size) C t' fr hb hfr vs hfit hvs1
                  have hw := setCells_wrote vs 0 (len * i.size) w b C t' fr hb
                  rw [Nat.add_zero] at hw
                  have hCs : ((vs.zipIdx 0).foldl (fun cs (p : Value × Nat) => cs.setIfInBounds (len * i.size + p.2) p.1) C).size = C.size := foldl_set_size _ _ C
                  have hlen : (cs.take (len * i.size) ++ (slCells H i.size (ov true env y').1).1).length = len * i.size + vs.length := by
                    rw [List.length_append, List.length_take, Nat.min_eq_left k6, f2]
                  obtain ⟨g1, r1⟩ := hR.write (hget_some hg) hib hb hw hCs (cs' := cs.take (len * i.size) ++ (slCells H i.size (ov true env y').1).1) (by rw [hlen, hCs]; exact hfit) (fun j c hj => by
                    have := put_prefix (F := F) (ι := ι) (w := w) (cs := cs.take (len * i.size)) (C := C) (vs := (slCells H i.size (ov true env y').1).1) (V := vs) (off := len * i.size) (by rw [List.length_take, Nat.min_eq_left k6]; omega)
                      (fun j c hj => by
                        rw [List.getElem?_take] at hj
                        split at hj
                        · exact hv j c hj
                        · cases hj) f2 f4 (by rw [List.length_take, Nat.min_eq_left k6]; exact Nat.le_refl _) (by rw [← f2]; exact hfit)
                    refine this j c ?_
                    rw [List.take_take, Nat.min_self, List.drop_of_length_le (by simp; omega), List.append_nil]
                    exact hj)
                  have hlt := (List.getElem?_eq_some_iff.1 (hget_some hg)).1
                  have hset : (H.set id (.live (cs.take (len * i.size) ++ (slCells H i.size (ov true env y').1).1))).set id .dead = H.set id .dead := by simp
                  obtain ⟨g2, r2⟩ := r1.rename (id := id) (cs := cs.take (len * i.size) ++ (slCells H i.size (ov true env y').1).1) (b := b) (List.getElem?_set_self hlt) hib (by rw [hset]; exact newAt_NewH k13)
                  have hr := run_append_place w t u o.type e eu i ht hu hi (some ⟨b, 0, none⟩) len sCap _ cap A vs f5 hroom _ (fun a ha => by injection ha with ha; subst ha; rw [add_lit, Nat.zero_add]; exact hst) (fun h => by cases h)
                  refine wp_value (fin hr) (hk _ _ ⟨F, _, g1.trans g2, r2, ?_⟩)
                  refine .rsl _ _ 0 _ b sCap C.size t' (by simp [iset]) hroom ?_ hnb
                  rw [g1.shape b (Array.getElem?_eq_some_iff.1 hb).1]
                  simp only [World.shape?, hb]
                · refine more (some ⟨b, 0, none⟩) sCap ((List.range (len * i.size)).map fun j => C.getD j undef) rfl (by simp) (fun j c hj => ?_) ?_ (by omega)
                  · rw [List.getElem?_take] at hj
                    split at hj
                    · rename_i hj1
                      have := hv j c hj
                      rw [List.getD_eq_getElem?_getD, List.getElem?_map, List.getElem?_range hj1]
                      exact this
                    · cases hj
                  · refine first_run i.size len _ sCap _ (by simp) (fun h => by cases h) (fun ad had j u hu => ?_)
                    injection had with had
                    subst had
                    rw [add_lit, Nat.zero_add, World.cell?_drew]
                    rw [List.getElem?_map] at hu
                    have hjl : j < len * i.size := by
                      rcases Nat.lt_or_ge j (len * i.size) with h | h
                      · exact h
                      · simp [List.getElem?_eq_none (show (List.range (len * i.size)).length ≤ j by simpa using h)] at hu
                    rw [List.getElem?_range hjl] at hu
                    simp only [Option.map_some, Option.some.injEq] at hu
                    subst hu
                    simp only [World.cell?, hb, Option.isSome_none, Bool.false_eq_true, if_false]
                    exact getD_of (by omega)
          · -- empty, without room
            simp only [Bool.and_eq_true, beq_iff_eq, decide_eq_true_eq] at ok
            obtain ⟨⟨⟨⟨⟨⟨⟨⟨k1, k2⟩, k3⟩, k4⟩, k5⟩, k6⟩, k7⟩, k8⟩, k9⟩ := ok
            obtain ⟨vs, A, cap, f1, f2, f3, f4, f5, f6⟩ := hyc i.size rfl k2 k3
            have hvx := ov_VR h hx rfl k1
            rw [hxv] at hvx
            generalize hX : a.eval x = X at hvx fin
            cases hvx
            rename_i a0
            generalize hm : (slCells H i.size (ov true env y').1).2.1 = m at f1 f3 f5 f6 k7 k8 hk
            rw [f1] at f5 f6
            rcases Nat.eq_zero_or_pos m with h0 | h0
            · subst h0
              have hcs : (slCells H i.size (ov true env y').1).1 = [] := List.eq_nil_of_length_eq_zero (by omega)
              rw [hcs] at k9 hk f2
              have hvs : vs = [] := List.eq_nil_of_length_eq_zero (by simpa using f2)
              subst hvs
              have hr := run_append_place w t u o.type e eu i ht hu hi a0 0 0 0 cap A [] f5 (by omega) w (fun a h => rfl) (fun _ => rfl)
              rw [f1] at fin
              exact wp_value (fin hr) (hk _ _ ⟨F, ι, Grow.refl _ _ _, hR.virt (newAt_NewH k9), .rslv _ _ _ _⟩)
            · have hr := run_append_more w t u o.type e eu i zv ht hu hi hzi a0 0 0 m cap A [] vs f6 (by cases a0 <;> simp [Builtin.firstCells, loadCells, loadCellsFrom]) (by omega) (by omega) (growslice_fits (by omega) (by rw [Nat.zero_add]; exact k7))
              rw [Nat.zero_add] at hr
              have hge := grownCap_ge w m 0 e
              have hC : (([] : List Value).toArray ++ vs.toArray ++ Builtin.zeroCells zv.cells (grownCap w m 0 e - m)).size = grownCap w m 0 e * i.size := by
                simp only [Array.size_append, List.size_toArray, List.length_nil, size_zeroCells, hzs, k5, f2, f3, Nat.zero_add, ← Nat.add_mul]
                congr 1
                omega
              obtain ⟨_, hA⟩ := after_alloc hR (Alloc.drew (Alloc.of w.drew _ e)) (base := base) (at_ := at_) k9 (by rw [hC, f3]; exact Nat.mul_le_mul_right _ (by omega)) (fun j _ => by simp) (fun j c hj => by
                have hlt := (List.getElem?_eq_some_iff.1 hj).1
                have := f4 j c hj
                rw [Array.getD_eq_getD_getElem?, Array.getElem?_append_left (by simp; omega), Array.getElem?_append_right (by simp), List.getElem?_toArray]
                rw [List.getD_eq_getElem?_getD] at this
                simpa using this)
              rw [f1] at fin
              exact wp_value (fin hr) (hk _ _ (hA i.size m _ hge (by rw [hC]; exact Nat.le_refl _)))
        · cases hc
      · cases hc
    · -- a function
      rename_i f _
      split at hc
      · rename_i hcall
        injection hc with hc
        split at hc
        · subst hc; cases hne
        · subst hc; cases hne
        · subst hc
          simp only [eop] at ok hk
          cases hp : K.ecall f (ovs true env ys).1 H with
          | none => simp [hp] at ok
          | some r =>
            simp only [hp] at ok hk
            have hargs := ovs_Args h rfl h1 ok
            refine wp_enter (f := f) (vs := args.map a.eval) ?_ (hK.e f F ι H w _ _ r hH hp hargs) (fun e w' he => ?_)
            · simp [execOp, hop, resolve, invoke, Deferred.ofValue, Act.eval, run_callFunc hcall]
            · obtain ⟨F', ι', x, rfl, g, r1, hv⟩ := he
              exact ⟨x, rfl, hk _ _ ⟨F', ι', g, hR.comp r1, hv⟩⟩
      · cases hc
    · rename_i t _
      obtain ⟨y, hy, hc⟩ := map_some' hc
      split at hc
      · subst hc; cases hne
      · subst hc
        simp only [eop] at ok hk
        cases hf : (ov true env y).1 <;> simp only [hf] at ok hk <;> try (cases ok; done)
        rename_i f' fs cs
        cases hp : K.ecall f' (fs ++ (ovs true env ys).1 ++ cs) H with
        | none => simp only [hp] at ok; cases ok
        | some r =>
          simp only [hp, Bool.and_eq_true] at ok hk
          have hargs := ovs_Args h rfl h1 ok.2
          have hvf := ov_VR h hy rfl ok.1
          rw [hf] at hvf
          generalize hX : a.eval (.tmp t) = X at hvf
          obtain ⟨A, B, rfl, hA, hB, ha, hb⟩ := hvf.fn_inv
          have hall : ArgsR F ι w (fs ++ (ovs true env ys).1 ++ cs) (A ++ args.map a.eval ++ B) := by
            have h2 := hargs.1
            refine ⟨by simp only [Array.size_append, List.length_append]; omega, fun j c hj => ?_⟩
            by_cases hj1 : j < fs.length + (ovs true env ys).1.length
            · rw [List.getElem?_append_left (by simpa using hj1)] at hj
              rw [Array.getD_eq_getD_getElem?, Array.getElem?_append_left (by simp only [Array.size_append]; omega)]
              by_cases hj2 : j < fs.length
              · rw [List.getElem?_append_left hj2] at hj
                rw [Array.getElem?_append_left (by omega), ← Array.getD_eq_getD_getElem?]
                exact ha j c hj
              · rw [List.getElem?_append_right (by omega)] at hj
                rw [Array.getElem?_append_right (by omega), hA, ← Array.getD_eq_getD_getElem?]
                exact hargs.2 _ c hj
            · rw [List.getElem?_append_right (by simpa using hj1)] at hj
              rw [Array.getD_eq_getD_getElem?, Array.getElem?_append_right (by simp only [Array.size_append]; omega), ← Array.getD_eq_getD_getElem?]
              have e : j - (A ++ args.map a.eval).size = j - (fs ++ (ovs true env ys).1).length := by simp only [Array.size_append, List.length_append]; omega
              rw [e]
              exact hb _ c hj
          refine wp_enter (f := f') (vs := A ++ args.map a.eval ++ B) ?_ (hK.e f' F ι H w _ _ r hH hp hall) (fun e w' he => ?_)
          · have hX' : a.tmps.getD t undef = .func (.func f') A B := hX
            simp [execOp, hop, resolve, invoke, Deferred.ofValue, Act.eval, run_callFunc (hK.c _ _ _ _ hp)]
            simp only [Array.getD_eq_getD_getElem?] at hX'
            simp [hX', run_callFunc (hK.c _ _ _ _ hp)]
          · obtain ⟨F', ι', x, rfl, g, r1, hv⟩ := he
            exact ⟨x, rfl, hk _ _ ⟨F', ι', g, hR.comp r1, hv⟩⟩
    · cases hc

end Go.Proofs.Yteelkalenpbmmaa.Ab

/- A region that writes one cell of memory that came in: by its operations, one by one. -/
import Derived.Test.YteelkalenpbmmaaAbs23
set_option linter.unusedVariables false
namespace Go.Proofs.Yteelkalenpbmmaa.Ab
open Go Go.RowKit

theorem Code.reg_inv {P : Program} {N : Nat} {code : Code} {res : Nat} {l : List AOper} (hc : compC P N code (.reg res l) = some (.reg res l)) : ∃ id ops draw, code = .region id ops draw ∧ compOpers P N ops ops.toList l = some l := by
  cases code <;> try (simp [compC] at hc; done)
  rename_i id ops draw
  simp only [compC] at hc
  obtain ⟨l', h1, hc⟩ := bind_some hc
  refine ⟨id, ops, draw, rfl, ?_⟩
  split at hc
  · split at hc
    · simp at hc; rw [hc] at h1; exact h1
    · cases hc
  · simp at hc; rw [hc] at h1; exact h1

theorem compOper_inv {P : Program} {N : Nat} {ops : Array Oper} {o : Oper} {at_ : Option Nat} {lo : Bool} {hn : AOp} {ao : AOper} (hc : compOper P N ops o at_ lo hn = some ao) (hg : ao.g = none) :
    compOp P hn N o.op = some ao.o ∧ o.guard = none ∧ o.dst = ao.d ∧ dstOk N o.dst = true := by
  simp only [compOper] at hc
  obtain ⟨p, h1, hc⟩ := bind_some hc
  obtain ⟨g, h2, hc⟩ := bind_some hc
  split at hc
  case isFalse => cases hc
  rename_i hd
  injection hc with hc
  subst hc
  simp only at hg
  subst hg
  refine ⟨h1, ?_, rfl, hd⟩
  cases hq : o.guard with
  | none => rfl
  | some jw =>
    obtain ⟨j, w⟩ := jw
    rw [hq] at h2
    simp only [compGuard] at h2
    obtain ⟨t, h3, h4⟩ := bind_some h2
    split at h4 <;> cases h4

theorem wanted_none (o : Oper) (h : o.guard = none) (y : Nat → Option Bool) : Region.wanted o y = true := by simp [Region.wanted, h]

/-- A value, exactly known by its abstract one. -/
theorem wpl_v {O F0 : Nat → Prop} {w0 : World} {F : Nat → Prop} {ι : Nat → Option Nat} {w : World} {N : Nat} {a : Act} {P : Program} {s : RS} (hR : Run O F0 w0 F ι s.heap w) (h : RR F ι w N s.env a) {ops : Array Oper} {o : Oper} {os : List Oper} {d : Nat} {p : AOp} {at_ : Option Nat} {lo : Bool} {hn : AOp}
    (hc : compOper P N ops o at_ lo hn = some (Ab.o d p)) {Q : Exit → Act → World → Prop} (he : p.eff = false) {v : AV} (hv : vop Cfg.none 0 false true s.env s.heap p = (v, true))
    (k : ∀ x, VR F ι w v x → RR F ι w N (upd s.env (some d) v) (a.put (some d) x) → wpList P ops Q os (a.put (some d) x) w) : wpList P ops Q (o :: os) a w := by
  obtain ⟨h1, h2, h3, h4⟩ := compOper_inv hc rfl
  refine wpList_step fun K hK => ?_
  rw [if_pos (wanted_none o h2 _)]
  simp only at h1 h3
  rcases vop_sound (K := Cfg.none) (fun f avs r h => by cases h) hR h o p h1 he 0 false true rfl (by rw [hv]) with ⟨x, hr, hx⟩ | ⟨f, args, vs, hr, hargs, hp⟩ | ⟨f, args, vs, hr, hargs, hp, hsc⟩ | ⟨f, args, vs, hr, hargs, hp⟩
  · rw [hv] at hx
    refine wp_value hr (hK _ _ ?_)
    rw [h3]
    exact k x hx (h.upd (fun k e => by rw [← h3] at e; rw [e] at h4; simpa [dstOk] using h4) hx)
  · cases hp
  · cases hp
  · cases hp

theorem aput_get (a : Act) (d t : Nat) (x : Value) (h : t ≠ d) : (a.put (some d) x).tmps.getD t undef = a.tmps.getD t undef := by
  simp only [Act.put]
  rw [Array.getD_eq_getD_getElem?, Array.getElem?_setIfInBounds_ne (Ne.symm h), ← Array.getD_eq_getD_getElem?]
theorem aput_self (a : Act) (d : Nat) (x : Value) (h : d < a.tmps.size) : (a.put (some d) x).tmps.getD d undef = x := by
  simp only [Act.put]
  rw [Array.getD_eq_getD_getElem?, Array.getElem?_setIfInBounds]
  simp [h]
theorem aput_size (a : Act) (d : Option Nat) (x : Value) : (a.put d x).tmps.size = a.tmps.size := by cases d <;> simp [Act.put]
theorem aput_defers (a : Act) (d : Option Nat) (x : Value) : (a.put d x).defers = a.defers := by cases d <;> simp [Act.put]

/-- One cell written, exactly. -/
theorem wpl_st {w : World} {N : Nat} {a : Act} {P : Program} {ops : Array Oper} {o : Oper} {td tb : Nat} {at_ : Option Nat} {lo : Bool} {hn : AOp} (hc : compOper P N ops o at_ lo hn = some (Ab.os (.st 1 (.t td) (.t tb)))) {Q : Exit → Act → World → Prop}
    {bk off : Nat} {x : Value} (hp : a.tmps.getD td undef = .pointer (some ⟨bk, off, none⟩)) (hx : a.tmps.getD tb undef = x) (h1 : Ab.oneCell x = true) (hcell : (w.cell? ⟨bk, off, none⟩).isSome = true) (hfz : w.frozen? ⟨bk, off, none⟩ = false)
    (k : Q .normal a (w.setCells bk off [x])) : wpList P ops Q [o] a w := by
  obtain ⟨hcc, h2, h3, h4⟩ := compOper_inv hc rfl
  refine wpList_step fun K hK => ?_
  rw [if_pos (wanted_none o h2 _)]
  simp only at hcc h3
  cases hop : o.op <;> simp only [hop, compOp] at hcc <;> try (cases hcc; done)
  case store t p v =>
    obtain ⟨n, g1, hcc⟩ := bind_some hcc
    obtain ⟨x', g2, hcc⟩ := bind_some hcc
    obtain ⟨v', g3, e⟩ := map_some' hcc
    injection e with e1 e2 e3
    subst e1; subst e2; subst e3
    have hX : a.eval p = .pointer (some ⟨bk, off, none⟩) := by
      cases p <;> simp only [opd] at g2 <;> try (cases g2; done)
      · split at g2
        · injection g2 with g2; injection g2 with g2; subst g2; exact hp
        · cases g2
      · simp only [Option.map_eq_some_iff] at g2; obtain ⟨_, _, g2⟩ := g2; cases g2
    have hV : a.eval v = x := by
      cases v <;> simp only [opd] at g3 <;> try (cases g3; done)
      · split at g3
        · injection g3 with g3; injection g3 with g3; subst g3; exact hx
        · cases g3
      · simp only [Option.map_eq_some_iff] at g3; obtain ⟨_, _, g3⟩ := g3; cases g3
    have hxc : x.cells.toList = [x] := by cases x <;> first | rfl | (simp [Ab.oneCell] at h1)
    have hst : (storeCells ⟨bk, off, none⟩ [x]).run P w = .ok () (w.setCells bk off [x]) := by
      have := run_storeCells_cells (P := P) bk off [x] 0 w (fun j hj => by
        obtain rfl : j = 0 := by simpa using hj
        exact hcell) (fun j hj => by
        obtain rfl : j = 0 := by simpa using hj
        exact hfz) (fun v hv => by
        rw [List.mem_singleton] at hv
        subst hv
        rw [← oneCell_eq]; exact h1)
      simpa using this
    have hs : (sizeOf t).run P w = .ok 1 w := run_sizeOf g1 w
    have hcl : x.cells.size = 1 := by rw [← Array.length_toList, hxc]; rfl
    refine wp_skip' (w' := w.setCells bk off [x]) ?_ (hK _ _ ?_)
    · simp only [execOp, hop, Sem.run_bind, Instr.storeAt, hX, hV, Instr.sureAddr, Sem.run_pure, Result.andThen_ok, storeVar, hs, Sem.run_ite]
      rw [if_neg (by omega), hxc, hst]
      rfl
    · rw [h3]
      exact wpList_nil k
  case unOp op t x => obtain ⟨y, hy, e⟩ := map_some' hcc; cases e
  all_goals exfalso
  all_goals first
    | (simp [Option.map_eq_some_iff, Option.bind_eq_some_iff] at hcc; done)
    | ((repeat' split at hcc) <;> first | (cases hcc; done) | (simp [Option.map_eq_some_iff, Option.bind_eq_some_iff] at hcc; done))
    | skip
  case binOp =>
    simp only [compBin] at hcc
    obtain ⟨_, _, hcc⟩ := bind_some hcc
    obtain ⟨_, _, hcc⟩ := bind_some hcc
    repeat (first | (split at hcc) | (injection hcc with hcc; cases hcc; done) | cases hcc)
  case convert =>
    simp only [compConv] at hcc
    obtain ⟨_, _, hcc⟩ := bind_some hcc
    repeat (first | (split at hcc) | (injection hcc with hcc; cases hcc; done) | cases hcc)
  case call =>
    simp only [compCall] at hcc
    obtain ⟨_, _, hcc⟩ := bind_some hcc
    repeat' split at hcc
    all_goals first
      | (cases hcc; done)
      | (injection hcc with hcc; cases hcc; done)
      | (simp [Option.map_eq_some_iff, Option.bind_eq_some_iff] at hcc; done)
      | (obtain ⟨_, _, hcc⟩ := map_some' hcc; split at hcc <;> cases hcc)
      | (injection hcc with hcc; split at hcc <;> cases hcc)
  case makeFunc g fi ca =>
    cases g <;> simp only [compOp] at hcc
    all_goals first
      | (cases hcc; done)
      | (split at hcc <;> first | (cases hcc; done) | (obtain ⟨_, _, hcc⟩ := bind_some hcc; obtain ⟨_, _, hcc⟩ := map_some' hcc; cases hcc))
  case slice =>
    obtain ⟨_, _, hcc⟩ := bind_some hcc
    obtain ⟨_, _, hcc⟩ := bind_some hcc
    obtain ⟨_, _, hcc⟩ := bind_some hcc
    obtain ⟨_, _, hcc⟩ := bind_some hcc
    repeat' split at hcc
    all_goals first
      | (cases hcc; done)
      | (injection hcc with hcc; cases hcc; done)
      | (simp [Option.map_eq_some_iff, Option.bind_eq_some_iff] at hcc; done)

end Go.Proofs.Yteelkalenpbmmaa.Ab

/- Of a sane image with a number of one instruction turned, the program's look and the document's answer are one: proved for every image and every four small numbers, with no further condition. -/
import Derived.Test.YteelkalenpbmmaaL3
import Derived.Test.YteelkalenpbmmaaRw0
import Derived.Test.YteelkalenpbmmaaRows
set_option linter.unusedVariables false
set_option maxRecDepth 100000
namespace Go.Proofs.Yteelkalenpbmmaa
open Go Go.RowKit Go.ChangeShapes Go.WideShapes Go.ChangeAt Ab

theorem own : ownKnob Try.prog.godebug = none := by kernel_rfl
theorem laidOut : laidOutB Try.prog = true := by kernel_rfl

abbrev SU8 (avs : List AV) : Prop := ∃ n : Int, IntKind.u8.min ≤ n ∧ n ≤ IntKind.u8.max ∧ avs = [.int .u8 n]
abbrev SImg (avs : List AV) : Prop := ∃ a : Img, a.Ok ∧ avs = (eImg a).cells
/-- What is read of the methods' slice is not frozen, and stands in its block. -/
theorem methods_free {H : Type} {enc : TypeId × Value → H} {W : World} {A : Array Value} {d : DataW H} {ps : List MemPlace} (h : DataW.Trod enc Try.prog W 0 (fun _ => true) true 28 (.agg A) d ps) (hfz : W.noneFrozen ps) (bk off len cap : Nat)
    (hA : A.getD 3 undef = .slice (some ⟨bk, off, none⟩) len cap) (hl : 0 < len) : (∀ j, j < len * 8 → W.frozen? ⟨bk, off + j, none⟩ = false) ∧ ∃ t n, W.shape? bk = some (t, n) ∧ off + cap * 8 ≤ n := by
  obtain ⟨fuel, hn⟩ := h
  obtain ⟨xs, n, rfl, hx, hlen, hxl, hf⟩ := DataW.trod_struct Try.underlying28 hn
  have h7 : A.size = 7 := by have : Try.prog.cellsOf 28 = 7 := by kernel_rfl
                             rw [this] at hlen; simpa [Value.cells] using hlen
  have h3 : DataW.trod enc Try.prog W 0 (fun _ => true) true n 25 ((A.toList.drop 3).take (Try.prog.cellsOf 25)) = xs[3]? := hf 3 _ rfl
  have hxl7 : xs.length = 7 := hxl
  rw [List.getElem?_eq_getElem (by omega)] at h3
  have hc25 : Try.prog.cellsOf 25 = 1 := by kernel_rfl
  have hc38 : Try.prog.cellsOf 38 = 8 := by kernel_rfl
  rw [hc25] at h3
  have hcs : (A.toList.drop 3).take 1 = [.slice (some ⟨bk, off, none⟩) len cap] := by
    rw [← hA, List.drop_eq_getElem_cons (by simp; omega)]
    simp [Array.getD_eq_getD_getElem?, h7]
  rw [hcs] at h3
  rcases DataW.trod_slice Try.underlying25 h3 with ⟨e, _⟩ | ⟨a, len', cap', elems, rest, n', rfl, e, hx3, _, hlc, _, hel, he, hre, _⟩
  · simp at e
  · simp only [List.cons.injEq, Value.slice.injEq, Option.some.injEq, and_true] at e
    obtain ⟨rfl, rfl, rfl⟩ := e
    rw [hc38] at hx3 he hre
    obtain ⟨hr1, hr2⟩ := hre rfl
    constructor
    · intro j hj
      refine hfz bk (off + j) ?_
      have hin : MemPlace.cell bk (off + j) ∈ (xs[3]).2 := by
        rw [hx3]
        refine List.mem_append_left _ ?_
        unfold MemPlace.row
        exact List.mem_map.2 ⟨j, List.mem_range.2 (by rw [hel]; omega), rfl⟩
      have : ps = xs.flatMap (·.2) := by injection hx
      rw [this]
      exact List.mem_flatMap.2 ⟨xs[3], List.getElem_mem _, hin⟩
    · have hlast : ∃ cs, W.cells? 0 ⟨bk, off + (cap - 1) * 8, none⟩ 8 = some cs := by
        by_cases hcap : len < cap
        · have := hr2 (cap - 1 - len) (by omega)
          rw [List.getElem?_eq_getElem (by omega), show len + (cap - 1 - len) = cap - 1 by omega] at this
          obtain ⟨cs, h1, _⟩ := Option.bind_eq_some_iff.1 this
          rw [add_lit] at h1
          exact ⟨cs, h1⟩
        · have := he (cap - 1) (by omega)
          rw [List.getElem?_eq_getElem (by omega)] at this
          obtain ⟨cs, h1, _⟩ := Option.bind_eq_some_iff.1 this
          rw [add_lit] at h1
          exact ⟨cs, h1⟩
      obtain ⟨cs, hcs⟩ := hlast
      have := (cells_get hcs).2 7 (by decide)
      obtain ⟨C, t, fr, h1, h2⟩ := cell_inv this
      refine ⟨t, C.size, by simp [World.shape?, h1], ?_⟩
      have := (Array.getElem?_eq_some_iff.1 h2).1
      omega

theorem saneTurned_lifted (os : Os) (started : os.Started) (H : Type) (enc : TypeId × Value → H) :
    ReturnsInHanded {} Try.checked os 3 .any (Rows.saneTurnedSpec.pre6 enc Try.prog Try.f3 Rows.saneTurnedRow.domain false) (Rows.saneTurnedSpec.post enc Try.prog Try.f3 false true false false) := by
  refine returnsInHanded_of_change_sized (C := Try.checked) own started (by kernel_rfl) Try.func3
    (ChangeSpec.witness6 (enc := enc) (C := Try.checked) false ⟨#[], #[.agg #[.slice none 0 0, .slice none 0 0, .slice none 0 0, .slice none 0 0, .slice none 0 0, .int .i64 0, .int .i64 0], .int .u8 0, .int .u8 0, .int .u8 0, .int .u8 0], []⟩ 20 (by kernel_rfl) (by kernel_rfl) (by kernel_rfl) (by kernel_rfl)) ?_
  intro W base args ds gs before hval hW hcnd hwt _
  have hW' := hW
  obtain ⟨p, q, hA, hV, rfl, hfz, hnd⟩ := hW
  have hp : Try.f3.params.toList = [28, 5, 5, 5, 5] := rfl
  have hA' : DataW.TrodAll enc Try.prog W 0 (fun _ => true) true [28, 5, 5, 5, 5] args.toList ds p := hA
  have hvars : gs = [] ∧ q = [] := trodVars_none hV
  obtain ⟨rfl, rfl⟩ := hvars
  have hwt2 : (DataW.weightsEach Try.prog [28, 5, 5, 5, 5] (ds ++ [])).all (· ≤ reachBytes) = true := hwt
  rw [List.append_nil] at hwt2
  have hwt' : ∀ n ∈ DataW.weightsEach Try.prog [28, 5, 5, 5, 5] ds, n ≤ reachBytes := by
    intro n hn
    have := List.all_eq_true.1 hwt2 n hn
    simpa using this
  have ou8 : Opn Try.prog 5 SU8 := opn_int (by kernel_rfl)
  have pu8 : PlainT Try.prog 5 := .inr (.inl ⟨.u8, by kernel_rfl⟩)
  obtain ⟨avs, hS, hl, hvr⟩ := open_args (show ParamsOpn Try.prog [28, 5, 5, 5, 5] [SImg, SU8, SU8, SU8, SU8] from ⟨⟨o28, .inl ⟨_, Try.underlying28⟩⟩, ⟨ou8, pu8⟩, ⟨ou8, pu8⟩, ⟨ou8, pu8⟩, ⟨ou8, pu8⟩, trivial⟩) (fun j t v h1 h2 => by
    have := hval j t v (by rw [← Array.getElem?_toList]; exact h1) (by rw [← Array.getElem?_toList]; exact h2)
    exact this) hA' hwt'
  obtain ⟨_, _, ⟨m, hmok, rfl⟩, rfl, ⟨_, _, ⟨f, f1, f2, rfl⟩, rfl, ⟨_, _, ⟨pc, f3, f4, rfl⟩, rfl, ⟨_, _, ⟨a, f5, f6, rfl⟩, rfl, ⟨_, _, ⟨b, f7, f8, rfl⟩, rfl, rfl⟩⟩⟩⟩⟩ := hS
  have u28 : Try.prog.underlying 28 = some (.struct _) := Try.underlying28
  have u5 : Try.prog.underlying 5 = some (.int .u8) := by kernel_rfl
  simp only [u28, u5, List.getD_cons_zero] at hvr
  have r0 := hvr 0 _ rfl
  have r1 := (hvr 1 _ rfl).int_inv
  have r2 := (hvr 2 _ rfl).int_inv
  have r3 := (hvr 3 _ rfl).int_inv
  have r4 := (hvr 4 _ rfl).int_inv
  have hlen : args.toList.length = 5 := by rw [← hl]; rfl
  obtain ⟨A, hA0⟩ : ∃ A, args.toList.getD 0 undef = .agg A := by
    generalize args.toList.getD 0 undef = y at r0
    cases r0; exact ⟨_, rfl⟩
  have hargs : args = #[.agg A, .int .u8 f, .int .u8 pc, .int .u8 a, .int .u8 b] := by
    apply Array.toList_inj.1
    match hq : args.toList, hlen with
    | [y0, y1, y2, y3, y4], _ =>
      rw [hq] at hA0 r1 r2 r3 r4
      simp at hA0 r1 r2 r3 r4
      rw [hA0, r1, r2, r3, r4]
  subst hargs
  have hr0 : VR (Old W) (fun _ => none) W (eImg m) (.agg A) := r0
  obtain ⟨v0, vs1, d0, ds1, p0, p1, hv0, rfl, rfl, ht0, _⟩ := trodAll_cons hA'
  injection hv0 with hv0 _
  subst hv0
  have hmin : IntKind.u8.min = 0 := rfl
  have hmax : IntKind.u8.max = 255 := rfl
  rw [hmin] at f1 f3 f5 f7
  rw [hmax] at f2 f4 f6 f8
  refine (law3 hr0 ⟨f1, f2⟩ ⟨f3, f4⟩ ⟨f5, f6⟩ ⟨f7, f8⟩ (fun bk off len cap h1 h2 => methods_free ht0 (fun b o h => hfz b o (by simp [h])) bk off len cap h1 h2)).mono fun e W' he => ?_
  obtain ⟨rfl, hb⟩ := he
  refine ⟨_, rfl, law_post (tb := 4) (fun ds hds => ?_) rfl rfl (by kernel_rfl) laidOut (by decide +kernel) hW' hb⟩
  match ds, hds with
  | [_, _, _, _, _], _ => rfl

theorem saneTurned_holds : Rows.SaneTurnedSaid :=
  OpenClaim.holds_of_wide 3 Try.f3 rfl rfl rfl rfl rfl rfl rfl ⟨rfl, rfl, rfl, rfl, rfl⟩ rfl rfl rfl rfl rfl (by kernel_rfl) Try.func3 (by kernel_rfl)
    (of_decide_eq_true (by kernel_rfl)) (by unfold Func.isWrapper; first | (rw [if_pos (by decide +kernel)]; kernel_rfl) | (rw [if_neg (by decide +kernel)]; exact ⟨rfl, rfl⟩))
    (fun os started H enc _ => saneTurned_lifted os started H enc)

end Go.Proofs.Yteelkalenpbmmaa

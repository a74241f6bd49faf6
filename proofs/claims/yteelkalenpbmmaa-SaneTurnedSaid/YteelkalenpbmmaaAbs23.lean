/- From a law's contract to its row. -/
import Derived.Test.YteelkalenpbmmaaAbs22
set_option linter.unusedVariables false
namespace Go.Proofs.Yteelkalenpbmmaa.Ab
open Go Go.RowKit Go.ChangeShapes Go.WideShapes

theorem trodAll_stays {H : Type} {enc : TypeId × Value → H} {P : Program} (hl : laidOutB P = true) {W W' : World} {B : Nat} (hb : Below B W W') {sp : Nat → Bool} : ∀ {ts : List TypeId} {vs : List Value} {ds : List (DataW H)} {ps : List MemPlace},
    (∀ t ∈ ts, P.readableRec t = true ∧ t < P.types.size) → DataW.TrodAll enc P W 0 (fun _ => true) true ts vs ds ps → (∀ p ∈ ps, p.block < B ∧ sp p.block = true) → DataW.TrodAll enc P W' 0 sp true ts vs ds ps
  | [], vs, ds, ps, _, h, _ => by
    obtain ⟨rfl, rfl, rfl⟩ := trodAll_nil h
    rfl
  | t :: ts, vs, ds, ps, hr, h, hp => by
    obtain ⟨v, vs1, d, ds1, a, b, rfl, rfl, rfl, h1, h2⟩ := trodAll_cons h
    refine ⟨a, b, WideElems.Trod_stays hl (hr t (List.mem_cons_self ..)).1 (hr t (List.mem_cons_self ..)).2 h1 (fun p hpa => ?_) (fun p hpa => (hp p (List.mem_append_left _ hpa)).2), trodAll_stays hl hb (fun u hu => hr u (List.mem_cons_of_mem _ hu)) h2 (fun p hpb => hp p (List.mem_append_right _ hpb)), rfl⟩
    have hlt := (hp p (List.mem_append_left _ hpa)).1
    cases p with
    | cell b o => exact World.cell?_of_block (w := W) (hb.block b hlt)
    | map b => exact hb.block b hlt

theorem trodAll_len {H : Type} {enc : TypeId × Value → H} {P : Program} {W : World} {sp : Nat → Bool} : ∀ {ts : List TypeId} {vs : List Value} {ds : List (DataW H)} {ps : List MemPlace}, DataW.TrodAll enc P W 0 sp true ts vs ds ps → ds.length = ts.length ∧ vs.length = ts.length
  | [], vs, ds, ps, h => by
    obtain ⟨rfl, rfl, rfl⟩ := trodAll_nil h
    exact ⟨rfl, rfl⟩
  | t :: ts, vs, ds, ps, h => by
    obtain ⟨v, vs1, d, ds1, a, b, rfl, rfl, rfl, h1, h2⟩ := trodAll_cons h
    have := trodAll_len h2
    simp [this.1, this.2]

/-- What a law's call must leave, for a law that turns nothing. -/
theorem law_post {H : Type} {enc : TypeId × Value → H} {P : Program} {fn : Func} {s : ChangeSpec} {fresh handsOn again : Bool} {tb : TypeId} {W W' : World} {args : Array Value} {ds gs : List (DataW H)} {before : List MemPlace}
    (hs : ∀ ds : List (DataW H), ds.length = fn.params.size → s.fn H ds = { results := [.lit (.bool true)], args := ds, vars := [] }) (hv : s.vars = []) (hr : fn.resultTypes = #[tb]) (ht : P.underlying tb = some .bool)
    (hl : laidOutB P = true) (hrec : ∀ t ∈ fn.params.toList, P.readableRec t = true ∧ t < P.types.size)
    (hW : DataW.Whole enc P fn.params.toList s.vars false W args.toList ds gs before) (hb : Below W.heap.size W W') :
    s.post enc P fn false fresh handsOn again W args (.bool true) W' := by
  have hlt : ∀ p ∈ before, p.block < W.heap.size := fun p hp => hW.lt p hp
  have hW' := hW
  obtain ⟨p, q, hA, hV, rfl, hfz, hnd⟩ := hW
  rw [hv] at hV
  obtain ⟨rfl, rfl⟩ := trodVars_none hV
  simp only [List.append_nil] at *
  have hlen := (trodAll_len hA).1
  have hf := hs ds (by rw [hlen]; simp)
  have hargs : ∀ sp : Nat → Bool, (∀ x ∈ p, sp x.block = true) → DataW.TrodAll enc P W' 0 sp true fn.params.toList args.toList ds p :=
    fun sp hsp => trodAll_stays hl hb hrec hA fun x hx => ⟨hlt x hx, hsp x hx⟩
  have hvars : ∀ sp : Nat → Bool, DataW.TrodVars enc P W' sp s.vars ([] : List (DataW H)) [] := fun sp => by rw [hv]; rfl
  have hres : ∀ (b : Nat) (sp : Nat → Bool) (hd : Bool), DataW.TrodAll enc P W' b sp hd fn.resultTypes.toList ((Value.bool true).resultList fn.resultTypes.size) [.lit (.bool true)] [] := by
    intro b sp hd
    rw [hr]
    exact ⟨[], [], shut_bool ht true, rfl, rfl⟩
  refine ⟨ds, [], p, [], p, [], hW', ?_, ?_, ?_, hb.frame _, fun _ => ⟨?_, [.lit (.bool true)] ++ ds, [], p, ?_, fun x hx _ => hx⟩⟩
  · rw [List.append_nil, hf]; exact hres _ _ _
  · rw [List.append_nil, hf]; exact hargs _ fun x hx => by simpa using hlt x hx
  · rw [List.append_nil, hf]; exact hvars _
  · intro j t r h1 h2
    rw [hr] at h1 h2
    cases j with
    | succ j => simp at h1
    | zero =>
      simp at h1
      subst h1
      simp [Value.resultList] at h2
      subst h2
      simp [Value.okWide, ht, Cell.okWide, Cell.ok]
  · refine ⟨[] ++ p, [], trodAll_append (hargs _ fun _ _ => rfl) (hres _ _ _), hvars _, by simp, fun b off hp => ?_, fun h => by cases h⟩
    have hin : MemPlace.cell b off ∈ p := by simpa using hp
    rw [hb.frozen (p := ⟨b, off, none⟩) (hlt _ hin)]
    exact hfz b off (by simpa using hp)

def PlainT (P : Program) (t : TypeId) : Prop := (∃ fs, P.underlying t = some (.struct fs)) ∨ (∃ k, P.underlying t = some (.int k)) ∨ P.underlying t = some .string ∨ ∃ e, P.underlying t = some (.slice e)
/-- Arguments, opened. -/
def ParamsOpn (P : Program) : List TypeId → List (List AV → Prop) → Prop
  | [], [] => True
  | t :: ts, S :: Ss => (Opn P t S ∧ PlainT P t) ∧ ParamsOpn P ts Ss
  | _, _ => False
/-- Abstract arguments of kinds: an aggregate for a struct. -/
def ArgsS (P : Program) : List TypeId → List (List AV → Prop) → List AV → Prop
  | [], [], avs => avs = []
  | t :: ts, S :: Ss, avs => ∃ c r, S c ∧ avs = (match P.underlying t with | some (.struct _) => .agg c | _ => c.getD 0 .any) :: r ∧ ArgsS P ts Ss r
  | _, _, _ => False

theorem open_args {H : Type} {enc : TypeId × Value → H} {P : Program} {W : World} : ∀ {ts : List TypeId} {Ss : List (List AV → Prop)} {vs : List Value} {ds : List (DataW H)} {ps : List MemPlace}, ParamsOpn P ts Ss →
    (∀ (j : Nat) t v, ts[j]? = some t → vs[j]? = some v → Value.okWide P W .any 0 t v) →
    DataW.TrodAll enc P W 0 (fun _ => true) true ts vs ds ps → (∀ n ∈ DataW.weightsEach P ts ds, n ≤ reachBytes) →
    ∃ avs, ArgsS P ts Ss avs ∧ avs.length = vs.length ∧ ∀ (j : Nat) (c : AV), avs[j]? = some c → VR (Old W) (fun _ => none) W c (vs.getD j undef)
  | [], [], vs, ds, ps, _, _, h, _ => by
    obtain ⟨rfl, rfl, rfl⟩ := trodAll_nil h
    exact ⟨[], rfl, rfl, fun j c hj => by simp at hj⟩
  | [], _ :: _, vs, ds, ps, hp, _, _, _ => hp.elim
  | _ :: _, [], vs, ds, ps, hp, _, _, _ => hp.elim
  | t :: ts, S :: Ss, vs, ds, ps, hp, hval, h, hw => by
    obtain ⟨v, vs1, d, ds1, a, b, rfl, rfl, rfl, h1, h2⟩ := trodAll_cons h
    simp only [DataW.weightsEach, List.mem_append] at hw
    obtain ⟨r, h3, h4, h5⟩ := open_args (ts := ts) (Ss := Ss) hp.2 (fun j t v ht hv => hval (j + 1) t v (by simpa using ht) (by simpa using hv)) h2 (fun n hn => hw n (.inr hn))
    obtain ⟨n, hn⟩ := h1
    obtain ⟨c, h6, h7⟩ := hp.1.1 H enc W n _ _ hn (fun m hm => hw m (.inl hm))
    refine ⟨_, ⟨c, r, h6, rfl, h3⟩, by simp [h4], fun j e hj => ?_⟩
    cases j with
    | succ j => simpa using h5 j e (by simpa using hj)
    | zero =>
      simp only [List.getElem?_cons_zero, Option.some.injEq] at hj
      subst hj
      simp only [List.getD_cons_zero]
      have hv := hval 0 t v rfl rfl
      have other : ∀ (x : Value), x.cells = #[x] → CRel W x.cells.toList c → VR (Old W) (fun _ => none) W (c.getD 0 .any) x := by
        intro x hx hc
        rw [hx] at hc
        have hl := hc.1
        match c, hl with
        | [y], _ =>
          have := hc.2 0 y rfl
          simpa using this
      rcases hp.1.2 with ⟨fs, hu⟩ | ⟨k, hu⟩ | hu | ⟨e, hu⟩
      · simp only [hu]
        simp only [Value.okWide, hu] at hv
        obtain ⟨cs, rfl, _, _⟩ := hv
        exact CRel.agg h7
      all_goals
        simp only [hu]
        cases v with
        | agg cs => simp [Value.okWide, hu, Cell.okWide, Cell.ok] at hv
        | tuple cs => simp [Value.okWide, hu, Cell.okWide, Cell.ok] at hv
        | _ => exact other _ rfl h7

end Go.Proofs.Yteelkalenpbmmaa.Ab

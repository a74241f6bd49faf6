/- The program's data, typed. -/
import Derived.Test.YteelkalenpbmmaaAbs16
set_option linter.unusedVariables false
namespace Go.Proofs.Yteelkalenpbmmaa.Ab

structure Ty where
  kind : Int
  n : Int
  deriving DecidableEq, Inhabited
structure Ins where
  op : Int
  a : Int
  b : Int
  deriving DecidableEq, Inhabited
structure Klass where
  super : Int
  fields : List Ty
  slots : List Int
  deriving DecidableEq, Inhabited
structure Meth where
  args : List Ty
  locals : List Ty
  ret : Ty
  code : List Ins
  depth : Int
  pot : Int
  phi : List Int
  deriving DecidableEq, Inhabited
structure Img where
  classes : List Klass
  statics : List Ty
  ints : List Int
  methods : List Meth
  entries : List Int
  stack : Int
  heap : Int
  deriving DecidableEq, Inhabited

def e32 (n : Int) : AV := .int .i32 n
def eTy (t : Ty) : AV := .agg [.int .i64 t.kind, .int .i64 t.n]
def eIns (i : Ins) : AV := .agg [.int .i64 i.op, .int .i64 i.a, .int .i64 i.b]
def eCls (c : Klass) : AV := .agg [.int .i64 c.super, eSl 2 eTy c.fields, eSl 1 eI c.slots]
def eMeth (x : Meth) : AV := .agg [eSl 2 eTy x.args, eSl 2 eTy x.locals, .int .i64 x.ret.kind, .int .i64 x.ret.n, eSl 3 eIns x.code, .int .i64 x.depth, .int .i64 x.pot, eSl 1 eI x.phi]
def eImg (m : Img) : AV := .agg [eSl 3 eCls m.classes, eSl 2 eTy m.statics, eSl 1 e32 m.ints, eSl 8 eMeth m.methods, eSl 1 eI m.entries, .int .i64 m.stack, .int .i64 m.heap]

theorem ePI_inj {a b : Int} (h : AV.fptr [eI a] = AV.fptr [eI b]) : a = b := by simpa [eI] using h
theorem e32_inj {a b : Int} (h : e32 a = e32 b) : a = b := by injection h
theorem eTy_inj {a b : Ty} (h : eTy a = eTy b) : a = b := by
  obtain ⟨a1, a2⟩ := a; obtain ⟨b1, b2⟩ := b
  simpa [eTy] using h
theorem eIns_inj {a b : Ins} (h : eIns a = eIns b) : a = b := by
  obtain ⟨a1, a2, a3⟩ := a; obtain ⟨b1, b2, b3⟩ := b
  simpa [eIns] using h
theorem eCls_inj {a b : Klass} (h : eCls a = eCls b) : a = b := by
  obtain ⟨a1, a2, a3⟩ := a; obtain ⟨b1, b2, b3⟩ := b
  simp only [eCls, AV.agg.injEq, List.cons.injEq, AV.int.injEq, and_true, true_and] at h
  rw [h.1, eSl_inj (fun _ _ => eTy_inj) h.2.1, eSl_inj (fun _ _ => eI_inj) h.2.2]
theorem eMeth_inj {a b : Meth} (h : eMeth a = eMeth b) : a = b := by
  obtain ⟨a1, a2, ⟨a3, a4⟩, a5, a6, a7, a8⟩ := a; obtain ⟨b1, b2, ⟨b3, b4⟩, b5, b6, b7, b8⟩ := b
  simp only [eMeth, AV.agg.injEq, List.cons.injEq, AV.int.injEq, and_true, true_and] at h
  obtain ⟨h1, h2, h3, h4, h5, h6, h7, h8⟩ := h
  rw [eSl_inj (fun _ _ => eTy_inj) h1, eSl_inj (fun _ _ => eTy_inj) h2, h3, h4, eSl_inj (fun _ _ => eIns_inj) h5, h6, h7, eSl_inj (fun _ _ => eI_inj) h8]
theorem eImg_inj {a b : Img} (h : eImg a = eImg b) : a = b := by
  obtain ⟨a1, a2, a3, a4, a5, a6, a7⟩ := a; obtain ⟨b1, b2, b3, b4, b5, b6, b7⟩ := b
  simp only [eImg, AV.agg.injEq, List.cons.injEq, AV.int.injEq, and_true, true_and] at h
  obtain ⟨h1, h2, h3, h4, h5, h6, h7⟩ := h
  rw [eSl_inj (fun _ _ => eCls_inj) h1, eSl_inj (fun _ _ => eTy_inj) h2, eSl_inj (fun _ _ => e32_inj) h3, eSl_inj (fun _ _ => eMeth_inj) h4, eSl_inj (fun _ _ => eI_inj) h5, h6, h7]

theorem eTy_noref (t : Ty) : (eTy t).noref = true := rfl
theorem eIns_noref (t : Ins) : (eIns t).noref = true := rfl
theorem nr_I (l : List Int) : AV.norefs (l.map eI) = true := norefs_map (fun _ => rfl) l
theorem nr_32 (l : List Int) : AV.norefs (l.map e32) = true := norefs_map (fun _ => rfl) l
theorem nr_T (l : List Ty) : AV.norefs (l.map eTy) = true := norefs_map (fun _ => rfl) l
theorem nr_N (l : List Ins) : AV.norefs (l.map eIns) = true := norefs_map (fun _ => rfl) l
theorem eCls_noref (c : Klass) : (eCls c).noref = true := by simp [eCls, eSl, AV.noref, AV.norefs, nr_T, nr_I]
theorem eMeth_noref (c : Meth) : (eMeth c).noref = true := by simp [eMeth, eSl, AV.noref, AV.norefs, nr_T, nr_I, nr_N]
theorem nr_C (l : List Klass) : AV.norefs (l.map eCls) = true := norefs_map eCls_noref l
theorem nr_M (l : List Meth) : AV.norefs (l.map eMeth) = true := norefs_map eMeth_noref l

theorem ty_eta (t : Ty) : (⟨t.kind, t.n⟩ : Ty) = t := rfl
theorem ins_eta (t : Ins) : (⟨t.op, t.a, t.b⟩ : Ins) = t := rfl
theorem cls_eta (t : Klass) : (⟨t.super, t.fields, t.slots⟩ : Klass) = t := rfl
theorem meth_eta (t : Meth) : (⟨t.args, t.locals, t.ret, t.code, t.depth, t.pot, t.phi⟩ : Meth) = t := rfl
theorem img_eta (t : Img) : (⟨t.classes, t.statics, t.ints, t.methods, t.entries, t.stack, t.heap⟩ : Img) = t := rfl

structure Klass.Wf (c : Klass) : Prop where
  fields : c.fields.length ≤ 140737488355328
  slots : c.slots.length ≤ 140737488355328
structure Meth.Wf (x : Meth) : Prop where
  args : x.args.length ≤ 140737488355328
  locals : x.locals.length ≤ 140737488355328
  code : x.code.length ≤ 140737488355328
  phi : x.phi.length ≤ 140737488355328
structure Img.Wf (m : Img) : Prop where
  classes : m.classes.length ≤ 140737488355328
  statics : m.statics.length ≤ 140737488355328
  ints : m.ints.length ≤ 140737488355328
  methods : m.methods.length ≤ 140737488355328
  entries : m.entries.length ≤ 140737488355328
  cls : ∀ c ∈ m.classes, c.Wf
  meth : ∀ x ∈ m.methods, x.Wf

theorem Klass.wf_of {c : Klass} (h : ∀ v ∈ (eCls c).cells, Holds v) : c.Wf := by
  simp only [eCls, AV.cells, List.mem_cons, List.not_mem_nil, or_false, forall_eq_or_imp, forall_eq] at h
  exact ⟨h.2.1.esl.1, h.2.2.esl.1⟩
theorem Meth.wf_of {c : Meth} (h : ∀ v ∈ (eMeth c).cells, Holds v) : c.Wf := by
  simp only [eMeth, AV.cells, List.mem_cons, List.not_mem_nil, or_false, forall_eq_or_imp, forall_eq] at h
  exact ⟨h.1.esl.1, h.2.1.esl.1, h.2.2.2.2.1.esl.1, h.2.2.2.2.2.2.2.esl.1⟩
theorem Img.wf_of {m : Img} (h : ∀ v ∈ (eImg m).cells, Holds v) : m.Wf := by
  simp only [eImg, AV.cells, List.mem_cons, List.not_mem_nil, or_false, forall_eq_or_imp, forall_eq] at h
  exact ⟨h.1.esl.1, h.2.1.esl.1, h.2.2.1.esl.1, h.2.2.2.1.esl.1, h.2.2.2.2.1.esl.1, fun c hc => Klass.wf_of (h.1.esl.2 c hc), fun c hc => Meth.wf_of (h.2.2.2.1.esl.2 c hc)⟩
theorem holds_cells {v : AV} (h : Holds v) : ∀ c ∈ v.cells, Holds c := by
  cases v <;> try (intro c hc; simp only [AV.cells, List.mem_singleton] at hc; subst hc; exact h)
  exact h.agg
theorem Klass.wf_of' {c : Klass} (h : Holds (eCls c)) : c.Wf := Klass.wf_of (holds_cells h)
theorem Meth.wf_of' {c : Meth} (h : Holds (eMeth c)) : c.Wf := Meth.wf_of (holds_cells h)
theorem Img.wf_of' {c : Img} (h : Holds (eImg c)) : c.Wf := Img.wf_of (holds_cells h)

end Go.Proofs.Yteelkalenpbmmaa.Ab

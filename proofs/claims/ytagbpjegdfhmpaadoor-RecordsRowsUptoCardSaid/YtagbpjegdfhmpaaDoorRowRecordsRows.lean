/- RecordsRows: the law answers true for every input of bulk at most 1048576. -/
import Derived.Test.YtagbpjegdfhmpaaDoorCards
import Derived.Test.YtagbpjegdfhmpaaDoorTie
import Derived.Test.YtagbpjegdfhmpaaDoorGLaidRecordsRows
import Derived.Test.YtagbpjegdfhmpaaDoorGOpen
import Derived.Test.YtagbpjegdfhmpaaDoorAmRunRecordsRows
import Derived.WalkKit
import Derived.ProofKit
import Derived.OpenShut
import Derived.ShutString
import Derived.Below
import Derived.SizedLaws
import Derived.Deep.DeepHandedRow
namespace Go.Proofs.YtagbpjegdfhmpaaDoor.recordsRows
open Go.ChangeShapes Go.WideShapes Go.ChangeAt Go.RowKit Go.Proofs.YtagbpjegdfhmpaaDoor.G
open Go.ChangeMaps (open_string shut_string)
open Go.Joins
set_option linter.unusedVariables false
theorem reads (os : Os) {H : Type} (enc : TypeId × Value → H) : ∃ places, DataW.whole enc Tryd.prog ((laidWorld os).forCall (fun _ _ => 0) ⟨#[], #[.agg #[.string ⟨#[]⟩, .string ⟨#[]⟩, .int .u64 0, .int .u64 0], .agg #[.string ⟨#[]⟩, .string ⟨#[]⟩, .string ⟨#[]⟩, .int .i64 0, .slice none 0 0, .int .u64 0, .int .u64 0], .agg #[.string ⟨#[]⟩, .string ⟨#[]⟩, .string ⟨#[]⟩, .int .i64 0, .string ⟨#[]⟩, .int .u64 0, .int .u64 0]], []⟩).memory Tryd.f5.params.toList Rows.recordsRowsSpec.vars false (#[.agg #[.string ⟨#[]⟩, .string ⟨#[]⟩, .int .u64 0, .int .u64 0], .agg #[.string ⟨#[]⟩, .string ⟨#[]⟩, .string ⟨#[]⟩, .int .i64 0, .slice none 0 0, .int .u64 0, .int .u64 0], .agg #[.string ⟨#[]⟩, .string ⟨#[]⟩, .string ⟨#[]⟩, .int .i64 0, .string ⟨#[]⟩, .int .u64 0, .int .u64 0]] : Array Value).toList 8 = some ([.agg [.lit (.string []), .lit (.string []), .lit (.int .u64 0), .lit (.int .u64 0)], .agg [.lit (.string []), .lit (.string []), .lit (.string []), .lit (.int .i64 0), .nil, .lit (.int .u64 0), .lit (.int .u64 0)], .agg [.lit (.string []), .lit (.string []), .lit (.string []), .lit (.int .i64 0), .lit (.string []), .lit (.int .u64 0), .lit (.int .u64 0)]], [], places) :=
  ⟨[], by kernel_rfl⟩
set_option maxRecDepth 100000 in
theorem lifted (os : Os) (started : os.Started) (H : Type) (enc : TypeId × Value → H) (F : Stop.Interp) :
    ReturnsInHanded {} Tryd.checked os 5 .any ((Rows.OpenSpec.upto Rows.recordsRowsSpec).preRow enc Tryd.prog Tryd.f5 Rows.recordsRowsUptoRow.domain false Rows.recordsRowsUptoRow.laid) (((Rows.OpenSpec.upto Rows.recordsRowsSpec).at F).post enc Tryd.prog Tryd.f5 false true false false) := by
  obtain ⟨places, hx⟩ := reads os enc
  refine returnsInHanded_of_row (C := Tryd.checked) (s := (Rows.OpenSpec.upto Rows.recordsRowsSpec)) own started (by kernel_rfl) Tryd.func5
    (witness_row_atRef (enc := enc) (C := Tryd.checked) false (laidWorld os) #[.agg #[.string ⟨#[]⟩, .string ⟨#[]⟩, .int .u64 0, .int .u64 0], .agg #[.string ⟨#[]⟩, .string ⟨#[]⟩, .string ⟨#[]⟩, .int .i64 0, .slice none 0 0, .int .u64 0, .int .u64 0], .agg #[.string ⟨#[]⟩, .string ⟨#[]⟩, .string ⟨#[]⟩, .int .i64 0, .string ⟨#[]⟩, .int .u64 0, .int .u64 0]] rfl (by kernel_rfl) (by kernel_rfl) (by kernel_rfl)
      (OpenSpec.preRow_of_cond 8 hx (by kernel_rfl) (fun k hk => by cases hk; kernel_rfl) (by kernel_rfl) (laid_met os _))) ?_
  intro W base args ds gs before hval0 hW _ hcond _ hL hsh _
  have hval : ∀ (j : Nat) t v, Tryd.f5.params[j]? = some t → args[j]? = some v → Value.okWide Tryd.prog W .any base t v := hval0
  have hW' := hW
  obtain ⟨p, q, hA0, hV, rfl, hfz, hnd⟩ := hW
  have hA : DataW.TrodAll enc Tryd.prog W 0 (fun _ => true) true Tryd.f5.params.toList args.toList ds p := hA0
  rw [Tryd.params5] at hA hval
  obtain ⟨v0, vs0, d0, ds0, p0, q0, hargs, rfl, rfl, h0, r0⟩ := trodAll_cons hA
  obtain ⟨v1, vs1, d1, ds1, p1, q1, rfl, rfl, rfl, h1, r1⟩ := trodAll_cons r0
  obtain ⟨v2, vs2, d2, ds2, p2, q2, rfl, rfl, rfl, h2, r2⟩ := trodAll_cons r1
  obtain ⟨rfl, rfl, rfl⟩ := trodAll_nil r2
  obtain rfl : args = #[v0, v1, v2] := by cases args; simp_all
  obtain ⟨rfl, rfl⟩ := trodVars_none hV
  have hk0 : Rows.uptoBulkAll ([d0, d1, d2] : List (DataW H)) ≤ 1048576 := by have := of_decide_eq_true (hcond _ rfl); simpa only [List.append_nil] using this
  have k0 := h0
  have lt0 : ∀ x ∈ p0, x.block < W.heap.size := by obtain ⟨m, hm⟩ := k0; exact DataW.trod_lt m _ _ _ hm
  have k1 := h1
  have lt1 : ∀ x ∈ p1, x.block < W.heap.size := by obtain ⟨m, hm⟩ := k1; exact DataW.trod_lt m _ _ _ hm
  have k2 := h2
  have lt2 : ∀ x ∈ p2, x.block < W.heap.size := by obtain ⟨m, hm⟩ := k2; exact DataW.trod_lt m _ _ _ hm
  obtain ⟨v0_0, v0_1, v0_2, v0_3, y0_0, y0_1, y0_2, y0_3, n0, rfl, rfl, rfl, h0_0, h0_1, h0_2, h0_3⟩ := open_agg4 Tryd.underlying36 (by kernel_rfl) (by kernel_rfl) (hval 0 36 v0 rfl rfl) h0
  obtain ⟨a0_0, ez, rfl, w0_0⟩ := DataW.trod_string Tryd.underlying9 h0_0
  obtain rfl : v0_0 = .string a0_0 := by simpa using ez
  obtain ⟨a0_1, ez, rfl, w0_1⟩ := DataW.trod_string Tryd.underlying9 h0_1
  obtain rfl : v0_1 = .string a0_1 := by simpa using ez
  obtain ⟨a0_2, ez, rfl, w0_2⟩ := DataW.trod_int Tryd.underlying34 h0_2
  obtain rfl : v0_2 = .int .u64 a0_2 := by simpa using ez
  obtain ⟨a0_3, ez, rfl, w0_3⟩ := DataW.trod_int Tryd.underlying34 h0_3
  obtain rfl : v0_3 = .int .u64 a0_3 := by simpa using ez
  obtain ⟨v1_0, v1_1, v1_2, v1_3, v1_4, v1_5, v1_6, y1_0, y1_1, y1_2, y1_3, y1_4, y1_5, y1_6, n1, rfl, rfl, rfl, h1_0, h1_1, h1_2, h1_3, h1_4, h1_5, h1_6⟩ := open_agg7 Tryd.underlying39 (by kernel_rfl) (by kernel_rfl) (hval 1 39 v1 rfl rfl) h1
  obtain ⟨a1_0, ez, rfl, w1_0⟩ := DataW.trod_string Tryd.underlying9 h1_0
  obtain rfl : v1_0 = .string a1_0 := by simpa using ez
  obtain ⟨a1_1, ez, rfl, w1_1⟩ := DataW.trod_string Tryd.underlying9 h1_1
  obtain rfl : v1_1 = .string a1_1 := by simpa using ez
  obtain ⟨a1_2, ez, rfl, w1_2⟩ := DataW.trod_string Tryd.underlying9 h1_2
  obtain rfl : v1_2 = .string a1_2 := by simpa using ez
  obtain ⟨a1_3, ez, rfl, w1_3⟩ := DataW.trod_int Tryd.underlying3 h1_3
  obtain rfl : v1_3 = .int .i64 a1_3 := by simpa using ez
  obtain ⟨A1_4, l1_4, c1_4, rfl, lc1_4, rr1_4, bl1_4, bs1_4⟩ := open_texts Tryd.underlying37 Tryd.underlying9 (by kernel_rfl) h1_4
  obtain ⟨a1_5, ez, rfl, w1_5⟩ := DataW.trod_int Tryd.underlying34 h1_5
  obtain rfl : v1_5 = .int .u64 a1_5 := by simpa using ez
  obtain ⟨a1_6, ez, rfl, w1_6⟩ := DataW.trod_int Tryd.underlying34 h1_6
  obtain rfl : v1_6 = .int .u64 a1_6 := by simpa using ez
  obtain ⟨v2_0, v2_1, v2_2, v2_3, v2_4, v2_5, v2_6, y2_0, y2_1, y2_2, y2_3, y2_4, y2_5, y2_6, n2, rfl, rfl, rfl, h2_0, h2_1, h2_2, h2_3, h2_4, h2_5, h2_6⟩ := open_agg7 Tryd.underlying41 (by kernel_rfl) (by kernel_rfl) (hval 2 41 v2 rfl rfl) h2
  obtain ⟨a2_0, ez, rfl, w2_0⟩ := DataW.trod_string Tryd.underlying9 h2_0
  obtain rfl : v2_0 = .string a2_0 := by simpa using ez
  obtain ⟨a2_1, ez, rfl, w2_1⟩ := DataW.trod_string Tryd.underlying9 h2_1
  obtain rfl : v2_1 = .string a2_1 := by simpa using ez
  obtain ⟨a2_2, ez, rfl, w2_2⟩ := DataW.trod_string Tryd.underlying9 h2_2
  obtain rfl : v2_2 = .string a2_2 := by simpa using ez
  obtain ⟨a2_3, ez, rfl, w2_3⟩ := DataW.trod_int Tryd.underlying3 h2_3
  obtain rfl : v2_3 = .int .i64 a2_3 := by simpa using ez
  obtain ⟨a2_4, ez, rfl, w2_4⟩ := DataW.trod_string Tryd.underlying9 h2_4
  obtain rfl : v2_4 = .string a2_4 := by simpa using ez
  obtain ⟨a2_5, ez, rfl, w2_5⟩ := DataW.trod_int Tryd.underlying34 h2_5
  obtain rfl : v2_5 = .int .u64 a2_5 := by simpa using ez
  obtain ⟨a2_6, ez, rfl, w2_6⟩ := DataW.trod_int Tryd.underlying34 h2_6
  obtain rfl : v2_6 = .int .u64 a2_6 := by simpa using ez
  simp only [Rows.uptoBulkAll, Rows.uptoBulk] at hk0
  obtain ⟨l9, rest9, hli, _⟩ := AM.open_list Tryd.underlying37 Tryd.underlying9 (by kernel_rfl) h1_4
  have hl9 := AM.ListIs.len hli
  refine (RunRecordsRows.calls a0_0 a0_1 a1_0 a1_1 a1_2 a2_0 a2_1 a2_2 a2_4 a0_2 a0_3 a1_3 a1_5 a1_6 a2_3 a2_5 a2_6 w0_2 w0_3 w1_3 w1_5 w1_6 w2_3 w2_5 w2_6 _ l9 W hli (by omega) hL hsh).mono fun e W' ⟨he, bel⟩ => ?_
  subst he
  exact ⟨_, rfl, _, _, _, [], _, [], hW', trodAll_mk1 (shut_bool Tryd.underlying4 _), (trodAll_cons_mk (Below.trod laidOut (by kernel_rfl) (of_decide_eq_true (by kernel_rfl)) k0 bel lt0) (trodAll_cons_mk (Below.trod laidOut (by kernel_rfl) (of_decide_eq_true (by kernel_rfl)) k1 bel lt1) (trodAll_cons_mk (Below.trod laidOut (by kernel_rfl) (of_decide_eq_true (by kernel_rfl)) k2 bel lt2) trodAll_mk0))), rfl, bel.frame _, fun h => by cases h⟩
theorem said : Rows.RecordsRowsUptoSaid :=
  OpenClaim.holds_of_cond 5 Tryd.f5 rfl rfl rfl rfl rfl rfl rfl ⟨rfl, rfl, rfl, rfl, rfl⟩ rfl rfl rfl rfl rfl (by kernel_rfl) Tryd.func5 (by kernel_rfl)
    (of_decide_eq_true (by kernel_rfl)) (by unfold Func.isWrapper; first | (rw [if_pos (by decide +kernel)]; kernel_rfl) | (rw [if_neg (by decide +kernel)]; exact ⟨rfl, rfl⟩))
    (fun os started H enc _ F => by rw [OpenClaim.pre_eq_preRow]; exact lifted os started H enc F)
/-- No parameter wants a stand-in; the program's own looks are on: what the card asks. -/
theorem plain (f : FuncId) (fn : Func) (hf : Tryd.pinned.checked.prog.funcNamed "muster/musterlaw09.RecordsRows" = some f) (hfn : Tryd.pinned.checked.prog.funcs[f]? = some fn) :
    true = Tryd.pinned.checked.prog.looks [] ∧ ∀ (j : Nat) t, fn.params[j]? = some t → Tryd.pinned.checked.prog.wantsStandIn t = false := by
  obtain rfl : f = 5 := Option.some.inj ((show Tryd.prog.funcNamed "muster/musterlaw09.RecordsRows" = some 5 by kernel_rfl).symm.trans hf) |>.symm
  obtain rfl : fn = Tryd.f5 := (Option.some.inj (Tryd.func5.symm.trans hfn)).symm
  refine ⟨by kernel_rfl, fun j t ht => ?_⟩
  rw [Tryd.params5] at ht
  have hm : t ∈ #[36, 39, 41] := Array.mem_of_getElem? ht
  have hall : (#[36, 39, 41] : Array TypeId).all (fun t => Tryd.prog.wantsStandIn t == false) = true := by kernel_rfl
  have := Array.all_eq_true_iff_forall_mem.1 hall t hm
  exact beq_iff_eq.1 this
theorem card : Rows.RecordsRowsUptoCardSaid :=
  Claim7.holds_tied_plain_at .later [] _ _ _ _ said (fun _ h => by cases h) (by kernel_rfl) (fun _ h => by cases h) recordsRowsUpto_row_tie rfl ⟨rfl, rfl⟩ (by kernel_rfl) rfl plain (by kernel_rfl)
end Go.Proofs.YtagbpjegdfhmpaaDoor.recordsRows
namespace Go.Proofs.YtagbpjegdfhmpaaDoor
/-- The statement, under a short name, for the claim. -/
theorem recordsRows_holds : Rows.RecordsRowsUptoCardSaid := recordsRows.card
end Go.Proofs.YtagbpjegdfhmpaaDoor

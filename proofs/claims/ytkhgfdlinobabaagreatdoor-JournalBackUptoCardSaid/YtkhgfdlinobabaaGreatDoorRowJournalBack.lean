/- JournalBack: the law answers true for every input of bulk at most 1048576. -/
import Derived.Test.YtkhgfdlinobabaaGreatDoorCards
import Derived.Test.YtkhgfdlinobabaaGreatDoorTie
import Derived.Test.YtkhgfdlinobabaaGreatDoorGWit
import Derived.Test.YtkhgfdlinobabaaGreatDoorJBack
import Derived.Test.YtkhgfdlinobabaaGreatDoorJRow
import Derived.Test.YtkhgfdlinobabaaGreatDoorAmRunjournalFixed
import Derived.WalkKit
import Derived.ProofKit
import Derived.OpenShut
import Derived.ShutString
import Derived.Below
import Derived.SizedLaws
import Derived.Deep.DeepHandedRow
namespace Go.Proofs.YtkhgfdlinobabaaGreatDoor.journalBack
open Go.ChangeShapes Go.WideShapes Go.ChangeAt Go.RowKit Go.Proofs.YtkhgfdlinobabaaGreatDoor.G
open Go.ChangeMaps (open_string shut_string)
open Go.Joins
set_option linter.unusedVariables false
theorem reads (os : Os) {H : Type} (enc : TypeId × Value → H) : ∃ places, DataW.whole enc Tryz.prog ((laidWorld os).forCall (fun _ _ => 0) ⟨#[], #[.agg #[.int .u64 0, .slice none 0 0], .slice none 0 0, .int .i64 0], []⟩).memory Tryz.f6.params.toList Rows.journalBackSpec.vars false (#[.agg #[.int .u64 0, .slice none 0 0], .slice none 0 0, .int .i64 0] : Array Value).toList 8 = some ([.agg [.lit (.int .u64 0), .nil], .nil, .lit (.int .i64 0)], [], places) :=
  ⟨[], by kernel_rfl⟩
set_option maxRecDepth 100000 in
theorem lifted (os : Os) (started : os.Started) (H : Type) (enc : TypeId × Value → H) (F : Stop.Interp) :
    ReturnsInHanded {} Tryz.checked os 6 .any ((Rows.OpenSpec.upto Rows.journalBackSpec).preRow enc Tryz.prog Tryz.f6 Rows.journalBackUptoRow.domain false Rows.journalBackUptoRow.laid) (((Rows.OpenSpec.upto Rows.journalBackSpec).at F).post enc Tryz.prog Tryz.f6 false true false false) := by
  obtain ⟨places, hx⟩ := reads os enc
  refine returnsInHanded_of_row (C := Tryz.checked) (s := (Rows.OpenSpec.upto Rows.journalBackSpec)) own started (by kernel_rfl) Tryz.func6
    (witness_row_atRef (enc := enc) (C := Tryz.checked) false (laidWorld os) #[.agg #[.int .u64 0, .slice none 0 0], .slice none 0 0, .int .i64 0] rfl (by kernel_rfl) (by kernel_rfl) (by kernel_rfl)
      (OpenSpec.preRow_of_cond 8 hx (by kernel_rfl) (fun k hk => by cases hk; kernel_rfl) (by kernel_rfl) (laid_met os _))) ?_
  intro W base args ds gs before hval0 hW _ hcond _ hL hsh _
  have hval : ∀ (j : Nat) t v, Tryz.f6.params[j]? = some t → args[j]? = some v → Value.okWide Tryz.prog W .any base t v := hval0
  have hW' := hW
  obtain ⟨p, q, hA0, hV, rfl, hfz, hnd⟩ := hW
  have hA : DataW.TrodAll enc Tryz.prog W 0 (fun _ => true) true Tryz.f6.params.toList args.toList ds p := hA0
  rw [Tryz.params6] at hA hval
  obtain ⟨v0, vs0, d0, ds0, p0, q0, hargs, rfl, rfl, h0, r0⟩ := trodAll_cons hA
  obtain ⟨v1, vs1, d1, ds1, p1, q1, rfl, rfl, rfl, h1, r1⟩ := trodAll_cons r0
  obtain ⟨v2, vs2, d2, ds2, p2, q2, rfl, rfl, rfl, h2, r2⟩ := trodAll_cons r1
  obtain ⟨rfl, rfl, rfl⟩ := trodAll_nil r2
  obtain rfl : args = #[v0, v1, v2] := by cases args; simp_all
  obtain ⟨rfl, rfl⟩ := trodVars_none hV
  have hk0 : Rows.uptoBulkAll ([d0, d1, d2] : List (DataW H)) ≤ 1048576 := by have := of_decide_eq_true (hcond _ rfl); simpa only [List.append_nil] using this
  have k0 := h0
  have lt0 : ∀ x ∈ p0, x.block < W.heap.size := by obtain ⟨m, hm⟩ := k0; exact DataW.trod_lt m _ _ _ hm
  have k1 := h1
  have lt1 : ∀ x ∈ p1, x.block < W.heap.size := by obtain ⟨m, hm⟩ := k1; exact DataW.trod_lt m _ _ _ hm
  obtain ⟨a2, rfl, rfl, rfl, w2⟩ := open_int Tryz.underlying3 (hval 2 3 v2 rfl rfl) h2
  obtain ⟨v0_0, v0_1, y0_0, y0_1, n0, rfl, rfl, rfl, h0_0, h0_1⟩ := open_agg2 Tryz.underlying25 (by kernel_rfl) (by kernel_rfl) (hval 0 25 v0 rfl rfl) h0
  obtain ⟨a0_0, ez, rfl, w0_0⟩ := DataW.trod_int Tryz.underlying22 h0_0
  obtain rfl : v0_0 = .int .u64 a0_0 := by simpa using ez
  obtain ⟨z0_1, os0_1, ez, ops0_1, bs0_1, ws0_1⟩ := Go.Proofs.YtkhgfdlinobabaaGreatDoor.G.ops_of h0_1
  obtain rfl : v0_1 = z0_1 := by simpa using ez
  obtain ⟨as1, ls1, cs1, rfl⟩ := okWide_slice Tryz.underlying28 (hval 1 28 v1 rfl rfl)
  obtain ⟨fu1, hf1⟩ := h1
  obtain ⟨z1, l1, ez, hb1, bl1⟩ := Go.Proofs.YtkhgfdlinobabaaGreatDoor.G.bytes_of Tryz.underlying28 Tryz.underlying5 (by kernel_rfl) hf1
  obtain rfl : Value.slice as1 ls1 cs1 = z1 := by simpa [Value.cells] using ez
  simp only [Rows.uptoBulkAll, Rows.uptoBulk] at hk0
  obtain ⟨idx, rfl⟩ : ∃ idx : Nat, a0_0 = (idx : Int) := ⟨a0_0.toNat, by simp [Lit.wf, IntKind.min, IntKind.max, IntKind.bits, IntKind.signed] at w0_0; omega⟩
  have hidx : idx < 18446744073709551616 := by simp [Lit.wf, IntKind.min, IntKind.max, IntKind.bits, IntKind.signed] at w0_0; omega
  obtain ⟨hn0, hs0⟩ := bs0_1 (by omega)
  have bl1' : l1.length ≤ Rows.uptoBulk d1 := bl1
  refine (Go.Proofs.YtkhgfdlinobabaaGreatDoor.G.back_law (fun W _ => RunjournalFixed.calls W) idx hidx v0_1 os0_1 hs0 ws0_1 hn0 _ l1 (by omega) a2 W (vars_of hL hsh) ops0_1 hb1).mono fun e W' ⟨he, bel⟩ => ?_
  subst he
  exact ⟨_, rfl, _, _, _, [], _, [], hW', trodAll_mk1 (shut_bool Tryz.underlying4 _), (trodAll_cons_mk (Below.trod laidOut (by kernel_rfl) (of_decide_eq_true (by kernel_rfl)) k0 bel lt0) (trodAll_cons_mk (Below.trod laidOut (by kernel_rfl) (of_decide_eq_true (by kernel_rfl)) k1 bel lt1) (trodAll_cons_mk (shut_int Tryz.underlying3 w2) trodAll_mk0))), rfl, bel.frame _, fun h => by cases h⟩
theorem said : Rows.JournalBackUptoSaid :=
  OpenClaim.holds_of_cond 6 Tryz.f6 rfl rfl rfl rfl rfl rfl rfl ⟨rfl, rfl, rfl, rfl, rfl⟩ rfl rfl rfl rfl rfl (by kernel_rfl) Tryz.func6 (by kernel_rfl)
    (of_decide_eq_true (by kernel_rfl)) (by unfold Func.isWrapper; first | (rw [if_pos (by decide +kernel)]; kernel_rfl) | (rw [if_neg (by decide +kernel)]; exact ⟨rfl, rfl⟩))
    (fun os started H enc _ F => by rw [OpenClaim.pre_eq_preRow]; exact lifted os started H enc F)
/-- No parameter wants a stand-in; the program's own looks are on: what the card asks. -/
theorem plain (f : FuncId) (fn : Func) (hf : Tryz.pinned.checked.prog.funcNamed "muster/musterlaw13.JournalBack" = some f) (hfn : Tryz.pinned.checked.prog.funcs[f]? = some fn) :
    true = Tryz.pinned.checked.prog.looks [] ∧ ∀ (j : Nat) t, fn.params[j]? = some t → Tryz.pinned.checked.prog.wantsStandIn t = false := by
  obtain rfl : f = 6 := Option.some.inj ((show Tryz.prog.funcNamed "muster/musterlaw13.JournalBack" = some 6 by kernel_rfl).symm.trans hf) |>.symm
  obtain rfl : fn = Tryz.f6 := (Option.some.inj (Tryz.func6.symm.trans hfn)).symm
  refine ⟨by kernel_rfl, fun j t ht => ?_⟩
  rw [Tryz.params6] at ht
  have hm : t ∈ #[25, 28, 3] := Array.mem_of_getElem? ht
  have hall : (#[25, 28, 3] : Array TypeId).all (fun t => Tryz.prog.wantsStandIn t == false) = true := by kernel_rfl
  have := Array.all_eq_true_iff_forall_mem.1 hall t hm
  exact beq_iff_eq.1 this
theorem card : Rows.JournalBackUptoCardSaid :=
  Claim7.holds_tied_plain_at .later [] _ _ _ _ said (fun _ h => by cases h) (by kernel_rfl) (fun _ h => by cases h) journalBackUpto_row_tie rfl ⟨rfl, rfl⟩ (by kernel_rfl) rfl plain (by kernel_rfl)
end Go.Proofs.YtkhgfdlinobabaaGreatDoor.journalBack
namespace Go.Proofs.YtkhgfdlinobabaaGreatDoor
/-- The statement, under a short name, for the claim. -/
theorem journalBack_holds : Rows.JournalBackUptoCardSaid := journalBack.card
end Go.Proofs.YtkhgfdlinobabaaGreatDoor

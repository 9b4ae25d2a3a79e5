/- journal.sameOp, by which comparison fails first. -/
import Derived.Test.YtkhgfdlinobabaaGreatDoorJSameA
import Derived.Test.YtkhgfdlinobabaaGreatDoorJSameB
import Derived.Test.YtkhgfdlinobabaaGreatDoorJSameC
import Derived.Test.YtkhgfdlinobabaaGreatDoorJSameD
import Derived.Deep.RegionHeld3
import Derived.Deep.DrawnRows
import Derived.BigRegion
namespace Go.Proofs.YtkhgfdlinobabaaGreatDoor.G
open Go.RowKit
set_option linter.unusedVariables false
set_option linter.unusedSimpArgs false
attribute [local go_sem ↓] Go.wp_at_zero Go.wp_at_succ
set_option maxRecDepth 100000 in
theorem sameOp_calls (a b : OpV) (va vb : Value) (w : World) (ha : TextsAt w va a.svc.tags) (hb : TextsAt w vb b.svc.tags) (hl : a.svc.tags.length ≤ 1048576) :
    Calls Tryz.prog 43 #[.agg (opc a va), .agg (opc b vb)] w fun e w' => (∃ x : Bool, e = .returned (.bool x) ∧ (x = true ↔ a = b)) ∧ Below w.heap.size w w' := by
  obtain ⟨k, ⟨nm, ad, m1, g1⟩, ⟨nd, id, sn, po, l, m2, g2⟩, ⟨cn, ci, cs, st, nt, m3, g3⟩, cas, want⟩ := a
  obtain ⟨k', ⟨nm', ad', m1', g1'⟩, ⟨nd', id', sn', po', l', m2', g2'⟩, ⟨cn', ci', cs', st', nt', m3', g3'⟩, cas', want'⟩ := b
  simp only at ha hb hl
  by_cases hne : l = l'
  case neg =>
    refine (sameOp_1 k k' nm nm' ad ad' m1 m1' g1 g1' nd nd' id id' sn sn' po po' m2 m2' g2 g2' cn cn' ci ci' cs cs' st st' nt nt' m3 m3' g3 g3' cas cas' want want' l l' va vb hne w ha hb hl).mono fun e w' h => ⟨⟨false, h.1, Iff.intro (fun h => by cases h) (fun q => absurd (congrArg (fun o : OpV => o.svc.tags) q) hne)⟩, h.2⟩
  subst hne
  by_cases hne : k = k'
  case neg =>
    refine (sameOp_2 k k' nm nm' ad ad' m1 m1' g1 g1' nd nd' id id' sn sn' po po' m2 m2' g2 g2' cn cn' ci ci' cs cs' st st' nt nt' m3 m3' g3 g3' cas cas' want want' l va vb hne w ha hb hl).mono fun e w' h => ⟨⟨false, h.1, Iff.intro (fun h => by cases h) (fun q => absurd (congrArg (fun o : OpV => o.kind) q) hne)⟩, h.2⟩
  subst hne
  by_cases hne : nm = nm'
  case neg =>
    refine (sameOp_3 k nm nm' ad ad' m1 m1' g1 g1' nd nd' id id' sn sn' po po' m2 m2' g2 g2' cn cn' ci ci' cs cs' st st' nt nt' m3 m3' g3 g3' cas cas' want want' l va vb hne w ha hb hl).mono fun e w' h => ⟨⟨false, h.1, Iff.intro (fun h => by cases h) (fun q => absurd (congrArg (fun o : OpV => o.nod.name) q) hne)⟩, h.2⟩
  subst hne
  by_cases hne : ad = ad'
  case neg =>
    refine (sameOp_4 k nm ad ad' m1 m1' g1 g1' nd nd' id id' sn sn' po po' m2 m2' g2 g2' cn cn' ci ci' cs cs' st st' nt nt' m3 m3' g3 g3' cas cas' want want' l va vb hne w ha hb hl).mono fun e w' h => ⟨⟨false, h.1, Iff.intro (fun h => by cases h) (fun q => absurd (congrArg (fun o : OpV => o.nod.addr) q) hne)⟩, h.2⟩
  subst hne
  by_cases hne : m1 = m1'
  case neg =>
    refine (sameOp_5 k nm ad m1 m1' g1 g1' nd nd' id id' sn sn' po po' m2 m2' g2 g2' cn cn' ci ci' cs cs' st st' nt nt' m3 m3' g3 g3' cas cas' want want' l va vb hne w ha hb hl).mono fun e w' h => ⟨⟨false, h.1, Iff.intro (fun h => by cases h) (fun q => absurd (congrArg (fun o : OpV => o.nod.made) q) hne)⟩, h.2⟩
  subst hne
  by_cases hne : g1 = g1'
  case neg =>
    refine (sameOp_6 k nm ad m1 g1 g1' nd nd' id id' sn sn' po po' m2 m2' g2 g2' cn cn' ci ci' cs cs' st st' nt nt' m3 m3' g3 g3' cas cas' want want' l va vb hne w ha hb hl).mono fun e w' h => ⟨⟨false, h.1, Iff.intro (fun h => by cases h) (fun q => absurd (congrArg (fun o : OpV => o.nod.changed) q) hne)⟩, h.2⟩
  subst hne
  by_cases hne : cn = cn'
  case neg =>
    refine (sameOp_7 k nm ad m1 g1 nd nd' id id' sn sn' po po' m2 m2' g2 g2' cn cn' ci ci' cs cs' st st' nt nt' m3 m3' g3 g3' cas cas' want want' l va vb hne w ha hb hl).mono fun e w' h => ⟨⟨false, h.1, Iff.intro (fun h => by cases h) (fun q => absurd (congrArg (fun o : OpV => o.chk.node) q) hne)⟩, h.2⟩
  subst hne
  by_cases hne : ci = ci'
  case neg =>
    refine (sameOp_8 k nm ad m1 g1 nd nd' id id' sn sn' po po' m2 m2' g2 g2' cn ci ci' cs cs' st st' nt nt' m3 m3' g3 g3' cas cas' want want' l va vb hne w ha hb hl).mono fun e w' h => ⟨⟨false, h.1, Iff.intro (fun h => by cases h) (fun q => absurd (congrArg (fun o : OpV => o.chk.id) q) hne)⟩, h.2⟩
  subst hne
  by_cases hne : cs = cs'
  case neg =>
    refine (sameOp_9 k nm ad m1 g1 nd nd' id id' sn sn' po po' m2 m2' g2 g2' cn ci cs cs' st st' nt nt' m3 m3' g3 g3' cas cas' want want' l va vb hne w ha hb hl).mono fun e w' h => ⟨⟨false, h.1, Iff.intro (fun h => by cases h) (fun q => absurd (congrArg (fun o : OpV => o.chk.service) q) hne)⟩, h.2⟩
  subst hne
  by_cases hne : st = st'
  case neg =>
    refine (sameOp_10 k nm ad m1 g1 nd nd' id id' sn sn' po po' m2 m2' g2 g2' cn ci cs st st' nt nt' m3 m3' g3 g3' cas cas' want want' l va vb hne w ha hb hl).mono fun e w' h => ⟨⟨false, h.1, Iff.intro (fun h => by cases h) (fun q => absurd (congrArg (fun o : OpV => o.chk.status) q) hne)⟩, h.2⟩
  subst hne
  by_cases hne : nt = nt'
  case neg =>
    refine (sameOp_11 k nm ad m1 g1 nd nd' id id' sn sn' po po' m2 m2' g2 g2' cn ci cs st nt nt' m3 m3' g3 g3' cas cas' want want' l va vb hne w ha hb hl).mono fun e w' h => ⟨⟨false, h.1, Iff.intro (fun h => by cases h) (fun q => absurd (congrArg (fun o : OpV => o.chk.note) q) hne)⟩, h.2⟩
  subst hne
  by_cases hne : m3 = m3'
  case neg =>
    refine (sameOp_12 k nm ad m1 g1 nd nd' id id' sn sn' po po' m2 m2' g2 g2' cn ci cs st nt m3 m3' g3 g3' cas cas' want want' l va vb hne w ha hb hl).mono fun e w' h => ⟨⟨false, h.1, Iff.intro (fun h => by cases h) (fun q => absurd (congrArg (fun o : OpV => o.chk.made) q) hne)⟩, h.2⟩
  subst hne
  by_cases hne : g3 = g3'
  case neg =>
    refine (sameOp_13 k nm ad m1 g1 nd nd' id id' sn sn' po po' m2 m2' g2 g2' cn ci cs st nt m3 g3 g3' cas cas' want want' l va vb hne w ha hb hl).mono fun e w' h => ⟨⟨false, h.1, Iff.intro (fun h => by cases h) (fun q => absurd (congrArg (fun o : OpV => o.chk.changed) q) hne)⟩, h.2⟩
  subst hne
  by_cases hne : cas = cas'
  case neg =>
    refine (sameOp_14 k nm ad m1 g1 nd nd' id id' sn sn' po po' m2 m2' g2 g2' cn ci cs st nt m3 g3 cas cas' want want' l va vb hne w ha hb hl).mono fun e w' h => ⟨⟨false, h.1, Iff.intro (fun h => by cases h) (fun q => absurd (congrArg (fun o : OpV => o.cas) q) hne)⟩, h.2⟩
  subst hne
  by_cases hne : want = want'
  case neg =>
    refine (sameOp_15 k nm ad m1 g1 nd nd' id id' sn sn' po po' m2 m2' g2 g2' cn ci cs st nt m3 g3 cas want want' l va vb hne w ha hb hl).mono fun e w' h => ⟨⟨false, h.1, Iff.intro (fun h => by cases h) (fun q => absurd (congrArg (fun o : OpV => o.want) q) hne)⟩, h.2⟩
  subst hne
  by_cases hne : nd = nd'
  case neg =>
    refine (sameOp_16 k nm ad m1 g1 nd nd' id id' sn sn' po po' m2 m2' g2 g2' cn ci cs st nt m3 g3 cas want l va vb hne w ha hb hl).mono fun e w' h => ⟨⟨false, h.1, Iff.intro (fun h => by cases h) (fun q => absurd (congrArg (fun o : OpV => o.svc.node) q) hne)⟩, h.2⟩
  subst hne
  by_cases hne : id = id'
  case neg =>
    refine (sameOp_17 k nm ad m1 g1 nd id id' sn sn' po po' m2 m2' g2 g2' cn ci cs st nt m3 g3 cas want l va vb hne w ha hb hl).mono fun e w' h => ⟨⟨false, h.1, Iff.intro (fun h => by cases h) (fun q => absurd (congrArg (fun o : OpV => o.svc.id) q) hne)⟩, h.2⟩
  subst hne
  by_cases hne : sn = sn'
  case neg =>
    refine (sameOp_18 k nm ad m1 g1 nd id sn sn' po po' m2 m2' g2 g2' cn ci cs st nt m3 g3 cas want l va vb hne w ha hb hl).mono fun e w' h => ⟨⟨false, h.1, Iff.intro (fun h => by cases h) (fun q => absurd (congrArg (fun o : OpV => o.svc.name) q) hne)⟩, h.2⟩
  subst hne
  by_cases hne : po = po'
  case neg =>
    refine (sameOp_19 k nm ad m1 g1 nd id sn po po' m2 m2' g2 g2' cn ci cs st nt m3 g3 cas want l va vb hne w ha hb hl).mono fun e w' h => ⟨⟨false, h.1, Iff.intro (fun h => by cases h) (fun q => absurd (congrArg (fun o : OpV => o.svc.port) q) hne)⟩, h.2⟩
  subst hne
  by_cases hne : m2 = m2'
  case neg =>
    refine (sameOp_20 k nm ad m1 g1 nd id sn po m2 m2' g2 g2' cn ci cs st nt m3 g3 cas want l va vb hne w ha hb hl).mono fun e w' h => ⟨⟨false, h.1, Iff.intro (fun h => by cases h) (fun q => absurd (congrArg (fun o : OpV => o.svc.made) q) hne)⟩, h.2⟩
  subst hne
  by_cases hne : g2 = g2'
  case neg =>
    refine (sameOp_21 k nm ad m1 g1 nd id sn po m2 g2 g2' cn ci cs st nt m3 g3 cas want l va vb hne w ha hb hl).mono fun e w' h => ⟨⟨false, h.1, Iff.intro (fun h => by cases h) (fun q => absurd (congrArg (fun o : OpV => o.svc.changed) q) hne)⟩, h.2⟩
  subst hne
  exact (sameOp_22 k nm ad m1 g1 nd id sn po m2 g2 cn ci cs st nt m3 g3 cas want l va vb w ha hb hl).mono fun e w' h => ⟨⟨true, h.1, by simp⟩, h.2⟩
end Go.Proofs.YtkhgfdlinobabaaGreatDoor.G

/- journal.op: an operation's bytes. -/
import Derived.Test.YtkhgfdlinobabaaGreatDoorJBytes
import Derived.Deep.RegionHeld3
import Derived.Deep.DrawnRows
import Derived.Deep.AppendLies
namespace Go.Proofs.YtkhgfdlinobabaaGreatDoor.G
open Go.RowKit
set_option linter.unusedVariables false
set_option linter.unusedSimpArgs false
attribute [local go_sem ↓] Go.wp_at_zero Go.wp_at_succ
theorem Bs.drew {base : Nat} {w : World} {v : Value} {l : List UInt8} (h : Bs base w v l) : Bs base w.drew v l := h
theorem Bs.alloc {base : Nat} {w : World} {v : Value} {l : List UInt8} (h : Bs base w v l) (o : Obj) : Bs base (w.alloc o) v l := World.ownsRow.alloc h o
/-- A list of texts that lies in a block of its own. -/
theorem txt_of {base : Nat} {W : World} {g : Nat} {fr : Nat × Nat} (ls : List ByteArray) (hg : W.heap[g]? = some (Obj.cells (ls.map Value.string).toArray 9 fr)) : TxtK base W (.slice (some ⟨g, 0, none⟩) ls.length ls.length) ls := by
  refine ⟨⟨_, ls.length, rfl, Nat.le_refl _, fun _ => ⟨g, 0, rfl, fun j hj => ?_⟩⟩, fun _ k hk => ?_⟩
  · rw [Nat.zero_add]
    simp [World.cell?, hg, hj, List.getD]
  · have : k = g := by simpa [Value.ownBlock] using hk.symm
    subst this
    exact .inr ⟨_, _, hg⟩
theorem text_new (base : Nat) (v : Value) (l : List UInt8) (ls : List ByteArray) (n : Nat) (arr : Array Value) (w : World) (h : Bs base w v l) (harr : (ls.map Value.string).toArray = arr) (hn : ls.length = n) (hls : ls.length ≤ 1048576) (hsz : ∀ t ∈ ls, t.size ≤ 1048576) (hl : l.length ≤ 130000000000000) (hb : base ≤ w.heap.size) :
    Calls Tryz.prog 44 #[v, .slice (some ⟨w.heap.size, 0, none⟩) n n] (w.alloc (.cells arr 9)) fun e w' => ∃ v', e = .returned v' ∧ Bs base w' v' (l ++ textB ls) ∧ App base v w v' w' := by
  subst harr; subst hn
  exact (text_calls base v l _ ls hls hsz hl _ (h.alloc _) (txt_of ls (blk_new _ _)) (by simp; omega)).mono fun e w' ⟨v', h1, h2, h3⟩ => ⟨v', h1, h2, App.below ((Below.refl _ w).alloc (Nat.le_refl _) _) hb h3⟩
theorem text_newd (base : Nat) (v : Value) (l : List UInt8) (ls : List ByteArray) (n : Nat) (arr : Array Value) (w : World) (h : Bs base w v l) (harr : (ls.map Value.string).toArray = arr) (hn : ls.length = n) (hls : ls.length ≤ 1048576) (hsz : ∀ t ∈ ls, t.size ≤ 1048576) (hl : l.length ≤ 130000000000000) (hb : base ≤ w.heap.size) :
    Calls Tryz.prog 44 #[v, .slice (some ⟨w.heap.size, 0, none⟩) n n] (w.alloc (.cells arr 9)).drew fun e w' => ∃ v', e = .returned v' ∧ Bs base w' v' (l ++ textB ls) ∧ App base v w v' w' := by
  subst harr; subst hn
  exact (text_calls base v l _ ls hls hsz hl _ (Bs.drew (h.alloc _)) (txt_of ls (blk_new w _)) (by show base ≤ (w.alloc _).heap.size; simp; omega)).mono fun e w' ⟨v', h1, h2, h3⟩ => ⟨v', h1, h2, App.below (((Below.refl _ w).alloc (Nat.le_refl _) _).drew) hb h3⟩
/-- One byte behind a list of one's own, in a region that draws its order. -/
theorem step_byte {ops : Array Oper} {o : Oper} {a : Act} {K : Act → World → Prop} {Q : Exit → Act → World → Prop} {E : Prop} {W : World} (hgd : o.guard = none) (s x : Operand) (ho : o.op = .call { callee := .builtin .append, args := #[s, x], argTypes := #[28, 28] }) (base : Nat) (v : Value) (l : List UInt8) (x8 : UInt8) (c : Int) (g : Nat)
    (hs : a.eval s = v) (hx : a.eval x = .slice (some ⟨g, 0, none⟩) 1 1) (hg : W.cell? ⟨g, 0, none⟩ = some (.int .u8 c)) (hc : (x8.toNat : Int) = c) (hl : l.length ≤ 140737488000000) (hb : base ≤ W.heap.size) (h1 : Bs base W v l)
    (h : ∀ v' w', Hid (Bs base w' v' (l ++ [x8])) → Hid (App base v W v' w') → K (a.put o.dst v') w') : if Region.wanted o (yielded ops a.tmps) = true then Oper.wp Tryz.prog o a W K Q else E := by
  obtain ⟨i0, hi, hz0, hz1, hz2⟩ := info_parts info_byte
  have hw : Region.wanted o (yielded ops a.tmps) = true := by simp [Region.wanted, hgd]
  rw [if_pos hw]
  obtain ⟨v', w', hr, ho2, hg2, _, hat⟩ := run_append_own_at (P := Tryz.prog) W base 28 o.type 5 i0 (.int .u8 0) 1 1 Tryz.underlying28 hi hz0 hz1 hz2 rfl (by decide) v l.length (Lib.byteCells l) h1 ⟨g, 0, none⟩ 1 1 [.int .u8 c] rfl (by
    intro j u hj
    match j, hj with
    | 0, hj => simp at hj; subst hj; simpa [Addr.add] using hg) (by intro u hu; simp at hu; subst hu; rfl) (by unfold maxLen; omega) (by omega) hb
  unfold Oper.wp execOp
  simp only [ho, resolve, invoke, builtin, Sem.run_bind, Sem.run_pure, Result.andThen_ok, List.map_toArray, List.map_cons, List.map_nil, hs, hx, hr]
  refine h v' w' (Lib.hid ?_) (Lib.hid (App.grown h1 hg2 hb hat))
  show World.ownsRow _ _ _ _ _ _ _
  rw [Lib.byteCells_append]
  have e : Lib.byteCells [x8] = [.int .u8 c] := by simp only [Lib.byteCells, List.map_cons, List.map_nil]; rw [hc]
  rw [e, List.length_append]
  exact ho2
theorem Bs.ne_new {base : Nat} {w : World} {v : Value} {l : List UInt8} (h : Bs base w v l) {k : Nat} (hk : w.heap.size ≤ k) : v.ownBlock ≠ some k := fun e => by have := (World.ownsRow.lt h k e).2; omega
theorem app_byteW {ops : Array Oper} {rest : List Oper} {o : Oper} {a : Act} {Q : Exit → Act → World → Prop} {W : World} (hgd : o.guard = none) (s x : Operand) (ho : o.op = .call { callee := .builtin .append, args := #[s, x], argTypes := #[28, 28] }) (base : Nat) (v : Value) (l : List UInt8) (x8 : UInt8) (c : Int) (g : Nat)
    (hs : a.eval s = v) (hx : a.eval x = .slice (some ⟨g, 0, none⟩) 1 1) (hg : W.cell? ⟨g, 0, none⟩ = some (.int .u8 c)) (hc : (x8.toNat : Int) = c) (hl : l.length ≤ 140737488000000) (hb : base ≤ W.heap.size) (h1 : Bs base W v l)
    (h : ∀ v' w', Hid (Bs base w' v' (l ++ [x8])) → Hid (App base v W v' w') → wpList Tryz.prog ops Q rest (a.put o.dst v') w') : wpList Tryz.prog ops Q (o :: rest) a W :=
  wpList_step fun K hK => step_byte hgd s x ho base v l x8 c g hs hx hg hc hl hb h1 (fun v' w' h2 h3 => hK _ _ (h v' w' h2 h3))
/-- The bytes of a compare-and-set. -/
def casB (cas : Bool) (wn : Nat) : List UInt8 := if cas then 1 :: bigB wn 8 else [0]
/-- A record's bytes. -/
def recB (o : OpV) : List UInt8 :=
  if o.kind = 1 then textB [o.nod.name, o.nod.addr]
  else if o.kind = 2 then textB [o.svc.node, o.svc.id, o.svc.name] ++ (bigB o.svc.port.toNat 2 ++ (UInt8.ofNat (o.svc.tags.length % 256) :: textB o.svc.tags))
  else if o.kind = 3 then textB [o.chk.node, o.chk.id, o.chk.service] ++ (UInt8.ofNat o.chk.status.toNat :: textB [o.chk.note])
  else if o.kind = 4 then textB [o.nod.name]
  else if o.kind = 5 then textB [o.svc.node, o.svc.id]
  else if o.kind = 6 then textB [o.chk.node, o.chk.id]
  else []
/-- An operation's bytes. -/
def opB (o : OpV) : List UInt8 := UInt8.ofNat o.kind.toNat :: (casB o.cas o.want.toNat ++ recB o)
/-- What an operation must be to be written. -/
structure OpPlain (o : OpV) : Prop where
  kind : 1 ≤ o.kind ∧ o.kind ≤ 6
  port : o.kind = 2 → 0 ≤ o.svc.port ∧ o.svc.port ≤ 65535
  status : o.kind = 3 → 0 ≤ o.chk.status ∧ o.chk.status ≤ 255
  want : 0 ≤ o.want ∧ o.want < 18446744073709551616
theorem kindByte {k : Int} (h : 0 ≤ k) (h2 : k ≤ 255) : ((UInt8.ofNat k.toNat).toNat : Int) = k := by
  rw [UInt8.toNat_ofNat']
  omega
set_option maxHeartbeats 8000000 in
set_option maxRecDepth 100000 in
theorem op_calls (base : Nat) (v : Value) (l : List UInt8) (o : OpV) (vt : Value) (hs : OpSmall o) (hp : OpPlain o) (hl : l.length ≤ 100000000000000) (w : World) (h : Bs base w v l) (ht : TxtK base w vt o.svc.tags) (hb : base ≤ w.heap.size) :
    Calls Tryz.prog 26 #[v, .agg (opc o vt)] w fun e w' => ∃ v', e = .returned v' ∧ Bs base w' v' (l ++ opB o) ∧ App base v w v' w' := by
  obtain ⟨k, ⟨nm, ad, m1, g1⟩, ⟨nd, id, sn, po, tg, m2, g2⟩, ⟨cn, ci, cs, st, nt, m3, g3⟩, cas, want⟩ := o
  obtain ⟨s1, s2, s3, s4, s5, st6, sl, s6, s7, s8, s9⟩ := hs
  obtain ⟨hkd, hpo, hst, hwt⟩ := hp
  simp only at s1 s2 s3 s4 s5 st6 sl s6 s7 s8 s9 hkd hpo hst hwt ht
  obtain ⟨wn, rfl⟩ := Int.eq_ofNat_of_zero_le hwt.1
  have hwn : wn < 18446744073709551616 := by omega
  have HTG := Lib.hid ht
  have HST := Lib.hid st6
  have HO := Lib.hid h
  obtain ⟨A, cap, rfl, hcap, _⟩ := ht.1
  have HKB := Lib.hid (kindByte (k := k) (by omega) (by omega))
  have HPO := Lib.hid hpo
  have HSS := Lib.hid hst
  clear h ht hwt st6 hpo hst
  change Calls Tryz.prog 26 #[v, .agg #[.int .i64 k, .string nm, .string ad, .int .u64 m1, .int .u64 g1, .string nd, .string id, .string sn, .int .i64 po, (.slice A tg.length cap), .int .u64 m2, .int .u64 g2, .string cn, .string ci, .string cs, .int .i64 st, .string nt, .int .u64 m3, .int .u64 g3, .bool cas, .int .u64 (wn : Int)]] w _
  go_enter Tryz.func26, Tryz.ntmps26
  have hbox := blk_new w (.cells #[.int .i64 k, .string nm, .string ad, .int .u64 m1, .int .u64 g1, .string nd, .string id, .string sn, .int .i64 po, (.slice A tg.length cap), .int .u64 m2, .int .u64 g2, .string cn, .string ci, .string cs, .int .i64 st, .string nt, .int .u64 m3, .int .u64 g3, .bool cas, .int .u64 (wn : Int)] 53)
  have hO0 := HO.out.alloc (.cells #[.int .i64 k, .string nm, .string ad, .int .u64 m1, .int .u64 g1, .string nd, .string id, .string sn, .int .i64 po, (.slice A tg.length cap), .int .u64 m2, .int .u64 g2, .string cn, .string ci, .string cs, .int .i64 st, .string nt, .int .u64 m3, .int .u64 g3, .bool cas, .int .u64 (wn : Int)] 53)
  have z0 : (w.alloc (.cells #[.int .i64 k, .string nm, .string ad, .int .u64 m1, .int .u64 g1, .string nd, .string id, .string sn, .int .i64 po, (.slice A tg.length cap), .int .u64 m2, .int .u64 g2, .string cn, .string ci, .string cs, .int .i64 st, .string nt, .int .u64 m3, .int .u64 g3, .bool cas, .int .u64 (wn : Int)] 53)).heap.size = w.heap.size + 1 := by simp
  have HBX := Lib.hid hbox
  have HO0 := Lib.hid hO0
  clear hbox hO0
  have k1 : (0 : Int) ≤ k := by omega
  have k2 : k ≤ 255 := by omega
  go_upto_if 14 with (at_builtin; refine app_byteW rfl (.tmp 7) (.tmp 11) rfl base _ l (UInt8.ofNat k.toNat) k (w.heap.size + 1) rfl rfl (by simp) HKB.out (by omega) (by simp; omega) (HO0.out.alloc _) ?_; intro v1 w1 hO1 hK1; have bx1 := hK1.out.other _ _ _ _ (blk_old HBX.out) (by decide); have c19 := Blk.cell bx1 19; have c20 := Blk.cell bx1 20; simp only [List.getElem?_toArray, List.getElem?_cons_zero, List.getElem?_cons_succ] at c19 c20; have BX1 := Lib.hid bx1; clear bx1)
  have hzz1 : w.heap.size + 2 ≤ w1.heap.size := by have := hK1.out.size; simp at this; omega
  have HKw1 : Hid (App base v w v1 w1) := Lib.hid ((App.below (by repeat (first | exact Below.refl _ _ | apply Below.drew | refine Below.alloc ?_ (by simp; try omega) _)) (by omega) hK1.out))
  clear hK1
  go_cut [0] from 7 (fun s0 wx => Bs base wx s0 ((l ++ [UInt8.ofNat k.toNat]) ++ casB cas wn) ∧ App base v w s0 wx ∧ w.heap.size + 1 ≤ wx.heap.size ∧ wx.heap[w.heap.size]? = some (.cells #[.int .i64 k, .string nm, .string ad, .int .u64 m1, .int .u64 g1, .string nd, .string id, .string sn, .int .i64 po, (.slice A tg.length cap), .int .u64 m2, .int .u64 g2, .string cn, .string ci, .string cs, .int .i64 st, .string nt, .int .u64 m3, .int .u64 g3, .bool cas, .int .u64 (wn : Int)] 53 (0, 0)))
  case first =>
    cases cas
    · go_wp2_with (at_builtin; refine app_byteW rfl (.tmp 21) (.tmp 22) rfl base _ (l ++ [UInt8.ofNat k.toNat]) 0 0 w1.heap.size rfl rfl (by simp) rfl (by simp; omega) (by simp; omega) (hO1.out.alloc _) ?_; intro v2 w2 hO2 hK2)
      go_meet
      case rel => exact ⟨hO2.out, HKw1.out.trans (App.below (by repeat (first | exact Below.refl _ _ | apply Below.drew | refine Below.alloc ?_ (by simp; try omega) _)) (by omega) hK2.out), by have := hK2.out.size; simp at this; omega, hK2.out.other _ _ _ _ (blk_old BX1.out) (by decide)⟩
    · have mkS := Lib.hid (fun (W : World) (h : W.heap[w.heap.size]? = some (.cells #[.int .i64 k, .string nm, .string ad, .int .u64 m1, .int .u64 g1, .string nd, .string id, .string sn, .int .i64 po, (.slice A tg.length cap), .int .u64 m2, .int .u64 g2, .string cn, .string ci, .string cs, .int .i64 st, .string nt, .int .u64 m3, .int .u64 g3, .bool true, .int .u64 (wn : Int)] 53 (0, 0))) => (show W.heap[w.heap.size]? = some (.cells #[.int .i64 k, .string nm, .string ad, .int .u64 m1, .int .u64 g1, .string nd, .string id, .string sn, .int .i64 po, (.slice A tg.length cap), .int .u64 m2, .int .u64 g2, .string cn, .string ci, .string cs, .int .i64 st, .string nt, .int .u64 m3, .int .u64 g3, .bool true, .int .u64 (wn : Int)] 53 (0, 0)) ∧ W.cell? ⟨w.heap.size, 20, none⟩ = some (.int .u64 (wn : Int)) from ⟨h, Blk.cell h 20⟩))
      have bx1 := BX1.out
      go_upto_region 3 with fail
      go_region_held3 (fun W => W.heap[w.heap.size]? = some (.cells #[.int .i64 k, .string nm, .string ad, .int .u64 m1, .int .u64 g1, .string nd, .string id, .string sn, .int .i64 po, (.slice A tg.length cap), .int .u64 m2, .int .u64 g2, .string cn, .string ci, .string cs, .int .i64 st, .string nt, .int .u64 m3, .int .u64 g3, .bool true, .int .u64 (wn : Int)] 53 (0, 0)) ∧ W.cell? ⟨w.heap.size, 20, none⟩ = some (.int .u64 (wn : Int)))
        (first | (exact mkS.out _ (blk_keep (by repeat (first | exact Below.refl _ _ | apply Below.drew | refine Below.alloc ?_ (by simp; try omega) _)) (hK3.other _ _ _ _ (hK2.out.other _ _ _ _ (blk_keep (by repeat (first | exact Below.refl _ _ | apply Below.drew | refine Below.alloc ?_ (by simp; try omega) _)) bx1) (by decide)) (by decide)))) | (exact mkS.out _ (blk_keep (by repeat (first | exact Below.refl _ _ | apply Below.drew | refine Below.alloc ?_ (by simp; try omega) _)) (hK2.out.other _ _ _ _ (blk_keep (by repeat (first | exact Below.refl _ _ | apply Below.drew | refine Below.alloc ?_ (by simp; try omega) _)) bx1) (by decide)))) | (exact mkS.out _ (blk_keep (by repeat (first | exact Below.refl _ _ | apply Below.drew | refine Below.alloc ?_ (by simp; try omega) _)) (bx1))))
        (first | (refine step_byte (by rfl) (.tmp 15) (.tmp 16) (by rfl) base _ (l ++ [UInt8.ofNat k.toNat]) 1 1 w1.heap.size (by rfl) (by rfl) (by simp) rfl (by simp; omega) (by simp; omega) (hO1.out.alloc _) ?_; intro v2 w2 hO2 hK2) | (go_at_call 25; refine (big_calls base _ _ wn 8 hwn (by decide) (by simp; omega) _ hO2.out (by have := hK2.out.size; simp at this; omega)).mono ?_; rintro e w3 ⟨v3, rfl, hO3, hK3⟩))
      all_goals go_wp2_with fail
      all_goals go_meet
      all_goals (case rel => exact ⟨by have := hO3; simpa [casB] using this, (HKw1.out.trans (App.below (by repeat (first | exact Below.refl _ _ | apply Below.drew | refine Below.alloc ?_ (by simp; try omega) _)) (by omega) hK2.out)).trans hK3, by have := hK2.out.size; have := hK3.size; simp at *; omega, hK3.other _ _ _ _ (hK2.out.other _ _ _ _ (blk_keep (by repeat (first | exact Below.refl _ _ | apply Below.drew | refine Below.alloc ?_ (by simp; try omega) _)) BX1.out) (by decide)) (by decide)⟩)
  case rest =>
  obtain ⟨hO, hK, hz, hbx⟩ := hcut
  obtain ⟨L1, hL1⟩ : ∃ L1, L1 = (l ++ [UInt8.ofNat k.toNat]) ++ casB cas wn := ⟨_, rfl⟩
  have hl1 : L1.length ≤ 100000000000010 := by
    rw [hL1]
    have : (casB cas wn).length ≤ 9 := by unfold casB; cases cas <;> simp [bigB_len]
    simp; omega
  rw [← hL1] at hO
  have HL1 := Lib.hid hL1
  have HO1 := Lib.hid hO
  have HK1 := Lib.hid hK
  have BX2 := Lib.hid hbx
  clear hL1 hO hK BX1 HKw1 hO1 HO0 HBX c19 c20 hzz1
  have c5 := Blk.cell hbx 5
  have c6 := Blk.cell hbx 6
  have c7 := Blk.cell hbx 7
  have c8 := Blk.cell hbx 8
  have c9 := Blk.cell hbx 9
  have c10 := Blk.cell hbx 10
  have c11 := Blk.cell hbx 11
  have c12 := Blk.cell hbx 12
  have c13 := Blk.cell hbx 13
  have c14 := Blk.cell hbx 14
  have c15 := Blk.cell hbx 15
  have c16 := Blk.cell hbx 16
  have c17 := Blk.cell hbx 17
  have c18 := Blk.cell hbx 18
  simp only [List.getElem?_toArray, List.getElem?_cons_zero, List.getElem?_cons_succ] at c5 c6 c7 c8 c9 c10 c11 c12 c13 c14 c15 c16 c17 c18
  clear hbx
  go_upto_region 5 with fail
  go_cut [5, 6] from 7 (fun s5 s6 wy => ∃ g5 g6, s5 = .pointer (some ⟨g5, 0, none⟩) ∧ s6 = .pointer (some ⟨g6, 0, none⟩) ∧ wy.heap[w.heap.size]? = some (.cells #[.int .i64 k, .string nm, .string ad, .int .u64 m1, .int .u64 g1, .string nd, .string id, .string sn, .int .i64 po, (.slice A tg.length cap), .int .u64 m2, .int .u64 g2, .string cn, .string ci, .string cs, .int .i64 st, .string nt, .int .u64 m3, .int .u64 g3, .bool cas, .int .u64 (wn : Int)] 53 (0, 0)) ∧ wy.heap[g5]? = some (.cells #[.string nd, .string id, .string sn, .int .i64 po, (.slice A tg.length cap), .int .u64 m2, .int .u64 g2] 47 (0, 0)) ∧ wy.heap[g6]? = some (.cells #[.string cn, .string ci, .string cs, .int .i64 st, .string nt, .int .u64 m3, .int .u64 g3] 51 (0, 0)) ∧ Bs base wy u0 L1 ∧ App base v w u0 wy ∧ w.heap.size + 1 ≤ wy.heap.size)
  case first =>
    go_region_held3 (fun w' => w'.cell? ⟨w.heap.size, 5, none⟩ = some (.string nd) ∧ w'.cell? ⟨w.heap.size, 6, none⟩ = some (.string id) ∧ w'.cell? ⟨w.heap.size, 7, none⟩ = some (.string sn) ∧ w'.cell? ⟨w.heap.size, 8, none⟩ = some (.int .i64 po) ∧ w'.cell? ⟨w.heap.size, 9, none⟩ = some ((.slice A tg.length cap)) ∧ w'.cell? ⟨w.heap.size, 10, none⟩ = some (.int .u64 m2) ∧ w'.cell? ⟨w.heap.size, 11, none⟩ = some (.int .u64 g2) ∧ w'.cell? ⟨w.heap.size, 12, none⟩ = some (.string cn) ∧ w'.cell? ⟨w.heap.size, 13, none⟩ = some (.string ci) ∧ w'.cell? ⟨w.heap.size, 14, none⟩ = some (.string cs) ∧ w'.cell? ⟨w.heap.size, 15, none⟩ = some (.int .i64 st) ∧ w'.cell? ⟨w.heap.size, 16, none⟩ = some (.string nt) ∧ w'.cell? ⟨w.heap.size, 17, none⟩ = some (.int .u64 m3) ∧ w'.cell? ⟨w.heap.size, 18, none⟩ = some (.int .u64 g3)) (go_keep) (fail)
    all_goals go_wp2_with fail
    all_goals go_meet
    all_goals (case rel => first | exact ⟨_, _, rfl, rfl, blk_old (blk_old BX2.out), blk_old (blk_new _ _), alloc2b _ _ _, own_below HO1.out (by repeat (first | exact Below.refl _ _ | apply Below.drew | refine Below.alloc ?_ (by simp; try omega) _)), HK1.out.trans (App.below (by repeat (first | exact Below.refl _ _ | apply Below.drew | refine Below.alloc ?_ (by simp; try omega) _)) (by omega) (App.refl _ _ _)), by simp; omega⟩ | exact ⟨_, _, rfl, rfl, blk_old (blk_old BX2.out), alloc2b _ _ _, blk_old (blk_new _ _), own_below HO1.out (by repeat (first | exact Below.refl _ _ | apply Below.drew | refine Below.alloc ?_ (by simp; try omega) _)), HK1.out.trans (App.below (by repeat (first | exact Below.refl _ _ | apply Below.drew | refine Below.alloc ?_ (by simp; try omega) _)) (by omega) (App.refl _ _ _)), by simp; omega⟩)
  case rest =>
  obtain ⟨g5, g6, rfl, rfl, hbx, h5, h6, hO, hK, hz⟩ := hcut
  have HO1 := Lib.hid hO
  have HK1 := Lib.hid hK
  have BX2 := Lib.hid hbx
  have H5 := Lib.hid h5
  have H6 := Lib.hid h6
  clear hO hK hbx h5 h6 c5 c6 c7 c8 c9 c10 c11 c12 c13 c14 c15 c16 c17 c18
  have c0 := Blk.cell BX2.out 0
  simp only [List.getElem?_toArray, List.getElem?_cons_zero] at c0
  go_upto_block 0 with fail
  go_cut [0] from 7 (fun s0 wz => Bs base wz s0 (L1 ++ recB ⟨k, ⟨nm, ad, m1, g1⟩, ⟨nd, id, sn, po, tg, m2, g2⟩, ⟨cn, ci, cs, st, nt, m3, g3⟩, cas, (wn : Int)⟩) ∧ App base v w s0 wz)
  case first =>
    have hcl : k = 1 ∨ k = 2 ∨ k = 3 ∨ k = 4 ∨ k = 5 ∨ k = 6 := by omega
    rcases hcl with rfl | rfl | rfl | rfl | rfl | rfl
    · -- kind 1
      have c1 := Blk.cell BX2.out 1
      have c2 := Blk.cell BX2.out 2
      simp only [List.getElem?_toArray, List.getElem?_cons_zero, List.getElem?_cons_succ] at c1 c2
      go_wp2_with (go_at_call 44; refine (text_new base _ L1 [nm, ad] 2 _ _ HO1.out rfl rfl (by simp) (by intro t ht; simp at ht; rcases ht with rfl | rfl <;> assumption) (by omega) (by omega)).mono ?_)
      rintro e w5 ⟨v5, rfl, hO5, hK5⟩
      go_wp2
      go_meet
      case rel => exact ⟨hO5, HK1.out.trans hK5⟩
    · -- kind 2
      obtain ⟨p1, p2⟩ := HPO.out rfl
      obtain ⟨pn, rfl⟩ := Int.eq_ofNat_of_zero_le p1
      have p3 : pn ≤ 65535 := by omega
      have p4 : pn < 18446744073709551616 := by omega
      have hwp : IntKind.u64.wrap (pn : Int) = (pn : Int) := by simp [IntKind.wrap, IntKind.bits, IntKind.signed]; omega
      have mkS := Lib.hid (fun (W : World) (h : W.heap[g5]? = some (.cells #[.string nd, .string id, .string sn, .int .i64 (pn : Int), (.slice A tg.length cap), .int .u64 m2, .int .u64 g2] 47 (0, 0))) => (show W.heap[g5]? = some (.cells #[.string nd, .string id, .string sn, .int .i64 (pn : Int), (.slice A tg.length cap), .int .u64 m2, .int .u64 g2] 47 (0, 0)) ∧ W.cell? ⟨g5, 0, none⟩ = some (.string nd) ∧ W.cell? ⟨g5, 1, none⟩ = some (.string id) ∧ W.cell? ⟨g5, 2, none⟩ = some (.string sn) ∧ W.cell? ⟨g5, 3, none⟩ = some (.int .i64 (pn : Int)) from ⟨h, Blk.cell h 0, Blk.cell h 1, Blk.cell h 2, Blk.cell h 3⟩))
      have HZ3 : Hid (∀ t ∈ [nd, id, sn], t.size ≤ 1048576) := Lib.hid (by intro t ht; simp at ht; rcases ht with rfl | rfl | rfl <;> assumption)
      have HL3 := Lib.hid (show (L1 ++ textB [nd, id, sn]).length ≤ 120000000000000 from by
        have h := textB_len [nd, id, sn] (by intro t ht; simp at ht; rcases ht with rfl | rfl | rfl <;> assumption)
        rw [List.length_append]; simp only [List.length_cons, List.length_nil] at h; omega)
      have h5 := H5.out
      go_upto_region 10 with fail
      go_cut [0] from 30 (fun s0 wz => Bs base wz s0 ((L1 ++ textB [nd, id, sn]) ++ bigB pn 2) ∧ App base v w s0 wz ∧ wz.heap[g5]? = some (.cells #[.string nd, .string id, .string sn, .int .i64 (pn : Int), (.slice A tg.length cap), .int .u64 m2, .int .u64 g2] 47 (0, 0)) ∧ w.heap.size + 1 ≤ wz.heap.size)
      case first =>
        go_region_held3 (fun W => W.heap[g5]? = some (.cells #[.string nd, .string id, .string sn, .int .i64 (pn : Int), (.slice A tg.length cap), .int .u64 m2, .int .u64 g2] 47 (0, 0)) ∧ W.cell? ⟨g5, 0, none⟩ = some (.string nd) ∧ W.cell? ⟨g5, 1, none⟩ = some (.string id) ∧ W.cell? ⟨g5, 2, none⟩ = some (.string sn) ∧ W.cell? ⟨g5, 3, none⟩ = some (.int .i64 (pn : Int)))
          (first | (exact mkS.out _ (blk_keep (by repeat (first | exact Below.refl _ _ | apply Below.drew | refine Below.alloc ?_ (by simp; try omega) _)) (hK6.other _ _ _ _ (hK5.other _ _ _ _ h5 (by decide)) (by decide)))) | (exact mkS.out _ (blk_keep (by repeat (first | exact Below.refl _ _ | apply Below.drew | refine Below.alloc ?_ (by simp; try omega) _)) (hK5.other _ _ _ _ h5 (by decide)))) | (exact mkS.out _ (blk_keep (by repeat (first | exact Below.refl _ _ | apply Below.drew | refine Below.alloc ?_ (by simp; try omega) _)) (h5))))
          (first | (go_at_call 44; refine (text_newd base _ L1 [nd, id, sn] 3 _ _ HO1.out rfl rfl (by simp) HZ3.out (by omega) (by omega)).mono ?_; rintro e w5 ⟨v5, rfl, hO5, hK5⟩) | (go_at_call 25; refine (big_calls base _ _ pn 2 p4 (by decide) (Nat.le_trans HL3.out (by decide)) _ hO5 (by have := hK5.size; omega)).mono ?_; rintro e w6 ⟨v6, rfl, hO6, hK6⟩))
        all_goals go_wp2_with fail
        all_goals go_meet
        all_goals (case rel => exact ⟨hO6, (HK1.out.trans hK5).trans hK6, hK6.other _ _ _ _ (hK5.other _ _ _ _ H5.out (by decide)) (by decide), by have h1 := hK5.size; have h2 := hK6.size; omega⟩)
      case rest =>
      obtain ⟨hOa, hKa, h5a, hza⟩ := hcut
      have HOa := Lib.hid hOa
      have HKa := Lib.hid hKa
      have H5a := Lib.hid h5a
      have HTGa := Lib.hid (HTG.out.keep hKa.kp)
      obtain ⟨L2, hL2⟩ : ∃ L2, L2 = (L1 ++ textB [nd, id, sn]) ++ bigB pn 2 := ⟨_, rfl⟩
      have hl2 : L2.length ≤ 120000000000002 := by
        have h := HL3.out
        rw [hL2, List.length_append, bigB_len]; omega
      have HL2 := Lib.hid hL2
      rw [← hL2] at HOa
      clear hOa hKa hL2 mkS
      have hzt : ((UInt8.ofNat (tg.length % 256)).toNat : Int) = (tg.length : Int) % 256 := by
        rw [UInt8.toNat_ofNat']
        have : tg.length % 256 % 2 ^ 8 = tg.length % 256 := Nat.mod_mod _ _
        rw [this]; norm_cast
      have HZT := Lib.hid (show ((UInt8.ofNat (tg.length % 256)).toNat : Int) = IntKind.u8.wrap (tg.length : Int) from by rw [hzt]; simp [IntKind.wrap, IntKind.bits, IntKind.signed])
      have mkS := Lib.hid (fun (W : World) (h : W.heap[g5]? = some (.cells #[.string nd, .string id, .string sn, .int .i64 (pn : Int), (.slice A tg.length cap), .int .u64 m2, .int .u64 g2] 47 (0, 0))) => (show W.heap[g5]? = some (.cells #[.string nd, .string id, .string sn, .int .i64 (pn : Int), (.slice A tg.length cap), .int .u64 m2, .int .u64 g2] 47 (0, 0)) ∧ W.cell? ⟨g5, 4, none⟩ = some (.slice A tg.length cap) from ⟨h, Blk.cell h 4⟩))
      clear hzt
      go_upto_region 11 with fail
      go_region_held3 (fun W => W.heap[g5]? = some (.cells #[.string nd, .string id, .string sn, .int .i64 (pn : Int), (.slice A tg.length cap), .int .u64 m2, .int .u64 g2] 47 (0, 0)) ∧ W.cell? ⟨g5, 4, none⟩ = some (.slice A tg.length cap))
        (first | (exact mkS.out _ (blk_keep (by repeat (first | exact Below.refl _ _ | apply Below.drew | refine Below.alloc ?_ (by simp; try omega) _)) (hK8.other _ _ _ _ (hK7.out.other _ _ _ _ (blk_keep (by repeat (first | exact Below.refl _ _ | apply Below.drew | refine Below.alloc ?_ (by simp; try omega) _)) H5a.out) (by decide)) (by decide)))) | (exact mkS.out _ (blk_keep (by repeat (first | exact Below.refl _ _ | apply Below.drew | refine Below.alloc ?_ (by simp; try omega) _)) (hK7.out.other _ _ _ _ (blk_keep (by repeat (first | exact Below.refl _ _ | apply Below.drew | refine Below.alloc ?_ (by simp; try omega) _)) H5a.out) (by decide)))) | (exact mkS.out _ (blk_keep (by repeat (first | exact Below.refl _ _ | apply Below.drew | refine Below.alloc ?_ (by simp; try omega) _)) (H5a.out))))
        (first | (refine step_byte (by rfl) (.tmp 56) (.tmp 61) (by rfl) base _ L2 (UInt8.ofNat (tg.length % 256)) (IntKind.u8.wrap (tg.length : Int)) wc.heap.size (by rfl) (by rfl) (by simp) HZT.out (by omega) (by simp; omega) (HOa.out.alloc _) ?_; intro v7 w7 hO7 hK7) | (go_at_call 44; refine (text_calls base _ _ _ tg sl HST.out (by rw [List.length_append]; simp only [List.length_cons, List.length_nil]; omega) _ hO7.out (HTGa.out.keep (App.below (by repeat (first | exact Below.refl _ _ | apply Below.drew | refine Below.alloc ?_ (by simp; try omega) _)) (by omega) hK7.out).kp) (by have h1 := hK7.out.size; simp at h1; omega)).mono ?_; rintro e w8 ⟨v8, rfl, hO8, hK8⟩))
      all_goals go_wp2_with fail
      all_goals go_meet
      all_goals (case rel => exact ⟨by rw [HL2.out] at hO8; simpa [recB, List.append_assoc] using hO8, (HKa.out.trans (App.below (by repeat (first | exact Below.refl _ _ | apply Below.drew | refine Below.alloc ?_ (by simp; try omega) _)) (by omega) hK7.out)).trans hK8⟩)
    · -- kind 3
      obtain ⟨p1, p2⟩ := HSS.out rfl
      have HSB := Lib.hid (kindByte p1 p2)
      have hwst : IntKind.u8.wrap st = st := by simp [IntKind.wrap, IntKind.bits, IntKind.signed]; omega
      have mkS := Lib.hid (fun (W : World) (h : W.heap[g6]? = some (.cells #[.string cn, .string ci, .string cs, .int .i64 st, .string nt, .int .u64 m3, .int .u64 g3] 51 (0, 0))) => (show W.heap[g6]? = some (.cells #[.string cn, .string ci, .string cs, .int .i64 st, .string nt, .int .u64 m3, .int .u64 g3] 51 (0, 0)) ∧ W.cell? ⟨g6, 0, none⟩ = some (.string cn) ∧ W.cell? ⟨g6, 1, none⟩ = some (.string ci) ∧ W.cell? ⟨g6, 2, none⟩ = some (.string cs) ∧ W.cell? ⟨g6, 3, none⟩ = some (.int .i64 st) ∧ W.cell? ⟨g6, 4, none⟩ = some (.string nt) from ⟨h, Blk.cell h 0, Blk.cell h 1, Blk.cell h 2, Blk.cell h 3, Blk.cell h 4⟩))
      have HZ3 : Hid (∀ t ∈ [cn, ci, cs], t.size ≤ 1048576) := Lib.hid (by intro t ht; simp at ht; rcases ht with rfl | rfl | rfl <;> assumption)
      have HZ1 : Hid (∀ t ∈ [nt], t.size ≤ 1048576) := Lib.hid (by intro t ht; simp at ht; subst ht; assumption)
      have HL3 := Lib.hid (show (L1 ++ textB [cn, ci, cs]).length ≤ 120000000000000 from by
        have h := textB_len [cn, ci, cs] (by intro t ht; simp at ht; rcases ht with rfl | rfl | rfl <;> assumption)
        rw [List.length_append]; simp only [List.length_cons, List.length_nil] at h; omega)
      have h6 := H6.out
      go_upto_region 13 with fail
      go_region_held3 (fun W => W.heap[g6]? = some (.cells #[.string cn, .string ci, .string cs, .int .i64 st, .string nt, .int .u64 m3, .int .u64 g3] 51 (0, 0)) ∧ W.cell? ⟨g6, 0, none⟩ = some (.string cn) ∧ W.cell? ⟨g6, 1, none⟩ = some (.string ci) ∧ W.cell? ⟨g6, 2, none⟩ = some (.string cs) ∧ W.cell? ⟨g6, 3, none⟩ = some (.int .i64 st) ∧ W.cell? ⟨g6, 4, none⟩ = some (.string nt))
        (first | (exact mkS.out _ (blk_keep (by repeat (first | exact Below.refl _ _ | apply Below.drew | refine Below.alloc ?_ (by simp; try omega) _)) (hK8.other _ _ _ _ (blk_keep (by repeat (first | exact Below.refl _ _ | apply Below.drew | refine Below.alloc ?_ (by simp; try omega) _)) (hK7.out.other _ _ _ _ (blk_keep (by repeat (first | exact Below.refl _ _ | apply Below.drew | refine Below.alloc ?_ (by simp; try omega) _)) (hK5.other _ _ _ _ (blk_keep (by repeat (first | exact Below.refl _ _ | apply Below.drew | refine Below.alloc ?_ (by simp; try omega) _)) h6) (by decide))) (by decide))) (by decide)))) | (exact mkS.out _ (blk_keep (by repeat (first | exact Below.refl _ _ | apply Below.drew | refine Below.alloc ?_ (by simp; try omega) _)) (hK7.out.other _ _ _ _ (blk_keep (by repeat (first | exact Below.refl _ _ | apply Below.drew | refine Below.alloc ?_ (by simp; try omega) _)) (hK5.other _ _ _ _ (blk_keep (by repeat (first | exact Below.refl _ _ | apply Below.drew | refine Below.alloc ?_ (by simp; try omega) _)) h6) (by decide))) (by decide)))) | (exact mkS.out _ (blk_keep (by repeat (first | exact Below.refl _ _ | apply Below.drew | refine Below.alloc ?_ (by simp; try omega) _)) (hK5.other _ _ _ _ (blk_keep (by repeat (first | exact Below.refl _ _ | apply Below.drew | refine Below.alloc ?_ (by simp; try omega) _)) h6) (by decide)))) | (exact mkS.out _ (blk_keep (by repeat (first | exact Below.refl _ _ | apply Below.drew | refine Below.alloc ?_ (by simp; try omega) _)) (h6))))
        (first | (go_at_call 44; refine (text_calls base _ _ _ [nt] (by simp) HZ1.out (by have := HL3.out; rw [List.length_append]; simp only [List.length_cons, List.length_nil]; omega) _ (own_below hO7.out (by repeat (first | exact Below.refl _ _ | apply Below.drew | refine Below.alloc ?_ (by simp; try omega) _))) (by refine txt_of (fr := (0, 0)) [nt] ?_; first | exact blk_new _ _ | exact alloc2b _ _ _ | exact blk_old (blk_new _ _) | exact alloc3 _ _ _ _ | exact alloc2 _ _ _ _ | exact alloc1 _ _ _ _ | exact hK7.out.other _ _ _ _ (blk_new _ _) (by decide) | exact hK7.out.other _ _ _ _ (alloc2b _ _ _) (by decide) | exact hK7.out.other _ _ _ _ (blk_old (blk_new _ _)) (by decide) | exact hK7.out.other _ _ _ _ (alloc3 _ _ _ _) (by decide) | exact hK7.out.other _ _ _ _ (alloc2 _ _ _ _) (by decide) | exact hK7.out.other _ _ _ _ (alloc1 _ _ _ _) (by decide) | exact hK7.out.other _ _ _ _ (blk_keep (by repeat (first | exact Below.refl _ _ | apply Below.drew | refine Below.alloc ?_ (by simp; try omega) _)) (hK5.other _ _ _ _ (blk_new _ _) (by decide))) (by decide) | exact hK7.out.other _ _ _ _ (blk_keep (by repeat (first | exact Below.refl _ _ | apply Below.drew | refine Below.alloc ?_ (by simp; try omega) _)) (hK5.other _ _ _ _ (alloc2b _ _ _) (by decide))) (by decide) | exact hK7.out.other _ _ _ _ (blk_keep (by repeat (first | exact Below.refl _ _ | apply Below.drew | refine Below.alloc ?_ (by simp; try omega) _)) (hK5.other _ _ _ _ (blk_old (blk_new _ _)) (by decide))) (by decide) | exact hK7.out.other _ _ _ _ (blk_keep (by repeat (first | exact Below.refl _ _ | apply Below.drew | refine Below.alloc ?_ (by simp; try omega) _)) (hK5.other _ _ _ _ (alloc3 _ _ _ _) (by decide))) (by decide) | exact hK7.out.other _ _ _ _ (blk_keep (by repeat (first | exact Below.refl _ _ | apply Below.drew | refine Below.alloc ?_ (by simp; try omega) _)) (hK5.other _ _ _ _ (alloc2 _ _ _ _) (by decide))) (by decide) | exact hK7.out.other _ _ _ _ (blk_keep (by repeat (first | exact Below.refl _ _ | apply Below.drew | refine Below.alloc ?_ (by simp; try omega) _)) (hK5.other _ _ _ _ (alloc1 _ _ _ _) (by decide))) (by decide)) (by have h1 := hK5.size; have h2 := hK7.out.size; simp at h1 h2 ⊢; omega)).mono ?_; rintro e w8 ⟨v8, rfl, hO8, hK8⟩) | (refine step_byte (by rfl) (.tmp 76) (.tmp 80) (by rfl) base _ (L1 ++ textB [cn, ci, cs]) (UInt8.ofNat st.toNat) st w5.heap.size (by rfl) (by rfl) (by simp) HSB.out (Nat.le_trans HL3.out (by decide)) (by have h1 := hK5.size; simp at h1 ⊢; omega) (own_below hO5 (by repeat (first | exact Below.refl _ _ | apply Below.drew | refine Below.alloc ?_ (by simp; try omega) _))) ?_; intro v7 w7 hO7 hK7) | (refine step_byte (by rfl) (.tmp 76) (.tmp 80) (by rfl) base _ (L1 ++ textB [cn, ci, cs]) (UInt8.ofNat st.toNat) st (w5.heap.size + 1) (by rfl) (by rfl) (by simp) HSB.out (Nat.le_trans HL3.out (by decide)) (by have h1 := hK5.size; simp at h1 ⊢; omega) (own_below hO5 (by repeat (first | exact Below.refl _ _ | apply Below.drew | refine Below.alloc ?_ (by simp; try omega) _))) ?_; intro v7 w7 hO7 hK7) | (refine step_byte (by rfl) (.tmp 76) (.tmp 80) (by rfl) base _ (L1 ++ textB [cn, ci, cs]) (UInt8.ofNat st.toNat) st wc.heap.size (by rfl) (by rfl) (by refine Blk.cell (cs := #[.int .u8 st]) (t := 5) ?_ 0; first | exact blk_keep (by repeat (first | exact Below.refl _ _ | apply Below.drew | refine Below.alloc ?_ (by simp; try omega) _)) (hK5.rest _ _ (blk_new _ _) (Bs.ne_new HO1.out (by omega))) | exact blk_keep (by repeat (first | exact Below.refl _ _ | apply Below.drew | refine Below.alloc ?_ (by simp; try omega) _)) (hK5.rest _ _ (alloc2b _ _ _) (Bs.ne_new HO1.out (by omega))) | exact blk_keep (by repeat (first | exact Below.refl _ _ | apply Below.drew | refine Below.alloc ?_ (by simp; try omega) _)) (hK5.rest _ _ (blk_old (blk_new _ _)) (Bs.ne_new HO1.out (by omega))) | exact blk_keep (by repeat (first | exact Below.refl _ _ | apply Below.drew | refine Below.alloc ?_ (by simp; try omega) _)) (hK5.rest _ _ (alloc3 _ _ _ _) (Bs.ne_new HO1.out (by omega))) | exact blk_keep (by repeat (first | exact Below.refl _ _ | apply Below.drew | refine Below.alloc ?_ (by simp; try omega) _)) (hK5.rest _ _ (alloc2 _ _ _ _) (Bs.ne_new HO1.out (by omega))) | exact blk_keep (by repeat (first | exact Below.refl _ _ | apply Below.drew | refine Below.alloc ?_ (by simp; try omega) _)) (hK5.rest _ _ (alloc1 _ _ _ _) (Bs.ne_new HO1.out (by omega)))) HSB.out (Nat.le_trans HL3.out (by decide)) (by have h1 := hK5.size; simp at h1 ⊢; omega) (own_below hO5 (by repeat (first | exact Below.refl _ _ | apply Below.drew | refine Below.alloc ?_ (by simp; try omega) _))) ?_; intro v7 w7 hO7 hK7) | (refine step_byte (by rfl) (.tmp 76) (.tmp 80) (by rfl) base _ (L1 ++ textB [cn, ci, cs]) (UInt8.ofNat st.toNat) st (wc.heap.size + 1) (by rfl) (by rfl) (by refine Blk.cell (cs := #[.int .u8 st]) (t := 5) ?_ 0; first | exact blk_keep (by repeat (first | exact Below.refl _ _ | apply Below.drew | refine Below.alloc ?_ (by simp; try omega) _)) (hK5.rest _ _ (blk_new _ _) (Bs.ne_new HO1.out (by omega))) | exact blk_keep (by repeat (first | exact Below.refl _ _ | apply Below.drew | refine Below.alloc ?_ (by simp; try omega) _)) (hK5.rest _ _ (alloc2b _ _ _) (Bs.ne_new HO1.out (by omega))) | exact blk_keep (by repeat (first | exact Below.refl _ _ | apply Below.drew | refine Below.alloc ?_ (by simp; try omega) _)) (hK5.rest _ _ (blk_old (blk_new _ _)) (Bs.ne_new HO1.out (by omega))) | exact blk_keep (by repeat (first | exact Below.refl _ _ | apply Below.drew | refine Below.alloc ?_ (by simp; try omega) _)) (hK5.rest _ _ (alloc3 _ _ _ _) (Bs.ne_new HO1.out (by omega))) | exact blk_keep (by repeat (first | exact Below.refl _ _ | apply Below.drew | refine Below.alloc ?_ (by simp; try omega) _)) (hK5.rest _ _ (alloc2 _ _ _ _) (Bs.ne_new HO1.out (by omega))) | exact blk_keep (by repeat (first | exact Below.refl _ _ | apply Below.drew | refine Below.alloc ?_ (by simp; try omega) _)) (hK5.rest _ _ (alloc1 _ _ _ _) (Bs.ne_new HO1.out (by omega)))) HSB.out (Nat.le_trans HL3.out (by decide)) (by have h1 := hK5.size; simp at h1 ⊢; omega) (own_below hO5 (by repeat (first | exact Below.refl _ _ | apply Below.drew | refine Below.alloc ?_ (by simp; try omega) _))) ?_; intro v7 w7 hO7 hK7) | (refine step_byte (by rfl) (.tmp 76) (.tmp 80) (by rfl) base _ (L1 ++ textB [cn, ci, cs]) (UInt8.ofNat st.toNat) st (wc.heap.size + 1 + 1) (by rfl) (by rfl) (by refine Blk.cell (cs := #[.int .u8 st]) (t := 5) ?_ 0; first | exact blk_keep (by repeat (first | exact Below.refl _ _ | apply Below.drew | refine Below.alloc ?_ (by simp; try omega) _)) (hK5.rest _ _ (blk_new _ _) (Bs.ne_new HO1.out (by omega))) | exact blk_keep (by repeat (first | exact Below.refl _ _ | apply Below.drew | refine Below.alloc ?_ (by simp; try omega) _)) (hK5.rest _ _ (alloc2b _ _ _) (Bs.ne_new HO1.out (by omega))) | exact blk_keep (by repeat (first | exact Below.refl _ _ | apply Below.drew | refine Below.alloc ?_ (by simp; try omega) _)) (hK5.rest _ _ (blk_old (blk_new _ _)) (Bs.ne_new HO1.out (by omega))) | exact blk_keep (by repeat (first | exact Below.refl _ _ | apply Below.drew | refine Below.alloc ?_ (by simp; try omega) _)) (hK5.rest _ _ (alloc3 _ _ _ _) (Bs.ne_new HO1.out (by omega))) | exact blk_keep (by repeat (first | exact Below.refl _ _ | apply Below.drew | refine Below.alloc ?_ (by simp; try omega) _)) (hK5.rest _ _ (alloc2 _ _ _ _) (Bs.ne_new HO1.out (by omega))) | exact blk_keep (by repeat (first | exact Below.refl _ _ | apply Below.drew | refine Below.alloc ?_ (by simp; try omega) _)) (hK5.rest _ _ (alloc1 _ _ _ _) (Bs.ne_new HO1.out (by omega)))) HSB.out (Nat.le_trans HL3.out (by decide)) (by have h1 := hK5.size; simp at h1 ⊢; omega) (own_below hO5 (by repeat (first | exact Below.refl _ _ | apply Below.drew | refine Below.alloc ?_ (by simp; try omega) _))) ?_; intro v7 w7 hO7 hK7) | (go_at_call 44; refine (text_calls base _ L1 _ [cn, ci, cs] (by simp) HZ3.out (by omega) _ (own_below HO1.out (by repeat (first | exact Below.refl _ _ | apply Below.drew | refine Below.alloc ?_ (by simp; try omega) _))) (by refine txt_of (fr := (0, 0)) [cn, ci, cs] ?_; first | exact blk_new _ _ | exact alloc2b _ _ _ | exact blk_old (blk_new _ _) | exact alloc3 _ _ _ _ | exact alloc2 _ _ _ _ | exact alloc1 _ _ _ _) (by simp; omega)).mono ?_; rintro e w5 ⟨v5, rfl, hO5, hK5⟩))
      all_goals go_wp2_with fail
      all_goals go_meet
      all_goals (case rel => exact ⟨by simpa [recB, List.append_assoc] using hO8, ((HK1.out.trans (App.below (by repeat (first | exact Below.refl _ _ | apply Below.drew | refine Below.alloc ?_ (by simp; try omega) _)) (by omega) hK5)).trans (App.below (by repeat (first | exact Below.refl _ _ | apply Below.drew | refine Below.alloc ?_ (by simp; try omega) _)) (by have h1 := hK5.size; simp at h1; omega) hK7.out)).trans (App.below (by repeat (first | exact Below.refl _ _ | apply Below.drew | refine Below.alloc ?_ (by simp; try omega) _)) (by have h1 := hK5.size; have h2 := hK7.out.size; simp at h1 h2; omega) hK8)⟩)
    · -- kind 4
      have c1 := Blk.cell BX2.out 1
      simp only [List.getElem?_toArray, List.getElem?_cons_zero, List.getElem?_cons_succ] at c1
      go_wp2_with (go_at_call 44; refine (text_new base _ L1 [nm] 1 _ _ HO1.out rfl rfl (by simp) (by intro t ht; simp at ht; subst ht; assumption) (by omega) (by omega)).mono ?_)
      rintro e w5 ⟨v5, rfl, hO5, hK5⟩
      go_wp2
      go_meet
      case rel => exact ⟨hO5, HK1.out.trans hK5⟩
    · -- kind 5
      have c0 := Blk.cell H5.out 0
      have c1 := Blk.cell H5.out 1
      simp only [List.getElem?_toArray, List.getElem?_cons_zero, List.getElem?_cons_succ] at c0 c1
      go_wp2_with (go_at_call 44; refine (text_new base _ L1 [nd, id] 2 _ _ HO1.out rfl rfl (by simp) (by intro t ht; simp at ht; rcases ht with rfl | rfl <;> assumption) (by omega) (by omega)).mono ?_)
      rintro e w5 ⟨v5, rfl, hO5, hK5⟩
      go_wp2
      go_meet
      case rel => exact ⟨hO5, HK1.out.trans hK5⟩
    · -- kind 6
      have c0 := Blk.cell H6.out 0
      have c1 := Blk.cell H6.out 1
      simp only [List.getElem?_toArray, List.getElem?_cons_zero, List.getElem?_cons_succ] at c0 c1
      go_wp2_with (go_at_call 44; refine (text_new base _ L1 [cn, ci] 2 _ _ HO1.out rfl rfl (by simp) (by intro t ht; simp at ht; rcases ht with rfl | rfl <;> assumption) (by omega) (by omega)).mono ?_)
      rintro e w5 ⟨v5, rfl, hO5, hK5⟩
      go_wp2
      go_meet
      case rel => exact ⟨hO5, HK1.out.trans hK5⟩
  case rest =>
  obtain ⟨hO, hK⟩ := hcut
  have HO2 := Lib.hid hO
  have HK2 := Lib.hid hK
  clear hO hK
  go_wp2
  go_ret
  refine ⟨_, rfl, ?_, HK2.out⟩
  have := HO2.out
  rw [HL1.out] at this
  simpa [opB, List.append_assoc] using this
end Go.Proofs.YtkhgfdlinobabaaGreatDoor.G

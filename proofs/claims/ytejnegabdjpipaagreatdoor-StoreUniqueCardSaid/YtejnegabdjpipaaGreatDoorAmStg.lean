/- Where a map is walked: every order. -/
import Derived.Test.YtejnegabdjpipaaGreatDoorAmTop
set_option linter.unusedSimpArgs false
set_option linter.unusedVariables false
set_option linter.unusedSectionVars false
namespace Go.Proofs.YtejnegabdjpipaaGreatDoor.AM
variable [Syms]
open Go.RowKit (Below)

theorem bindL_mem {α β : Type} {f : α → Option (List β)} : ∀ {l : List α} {r : List β}, bindL f l = some r → ∀ a ∈ l, ∃ x, f a = some x ∧ ∀ b ∈ x, b ∈ r
  | [], r, _, a, ha => by cases ha
  | c :: l, r, e, a, ha => by
    replace e := bnd_some.1 (show (f c).bind _ = some r from e); obtain ⟨x, hx, e⟩ := e
    replace e := bnd_some.1 e; obtain ⟨y, hy, e⟩ := e
    injection e with e; subst e
    cases ha with
    | head => exact ⟨x, hx, fun b hb => List.mem_append_left _ hb⟩
    | tail _ ha =>
      obtain ⟨z, h1, h2⟩ := bindL_mem hy a ha
      exact ⟨z, h1, fun b hb => List.mem_append_right _ (h2 b hb)⟩

section
variable {P : Program} {N0 : Nat} {w0 : World} {m : Mu} {h : H} {w : World}

/-! ### The next step of a walk over a map -/
theorem hasN_eq (n : Nat) : ∀ l : List Nat, hasN n l = l.toArray.contains n
  | [] => by simp [hasN]
  | a :: r => by
    show (Nat.beq a n || hasN n r) = _
    rw [hasN_eq n r, List.contains_toArray, List.contains_toArray, List.contains_cons]
    congr 1
    rw [Bool.eq_iff_iff, beq_iff_eq]
    exact ⟨fun h => (Nat.eq_of_beq_eq_true h).symm, fun h => by subst h; exact Nat.beq_refl _⟩
theorem EsRel.filter {es : List (V × V × Nat)} {es' : List MapEntry} (k : EsRel m es es') (p : Nat → Bool) : EsRel m (es.filter fun e => p e.2.2) (es'.filter fun e => p e.born) := by
  induction k with
  | nil => exact .nil
  | cons a b n a' b' es es' h1 h2 h3 ih =>
    simp only [List.filter_cons]
    cases p n with
    | true => exact .cons _ _ _ _ _ _ _ h1 h2 ih
    | false => exact ih
theorem EsRel.app {es fs : List (V × V × Nat)} {es' fs' : List MapEntry} (k : EsRel m es es') (l : EsRel m fs fs') : EsRel m (es ++ fs) (es' ++ fs') := by
  induction k with
  | nil => exact l
  | cons a b n a' b' es es' h1 h2 h3 ih => exact .cons _ _ _ _ _ _ _ h1 h2 ih
theorem EsRel.mem {es : List (V × V × Nat)} {es' : List MapEntry} (k : EsRel m es es') : ∀ e' ∈ es', ∃ e ∈ es, VRel m e.1 e'.key ∧ VRel m e.2.1 e'.val ∧ e.2.2 = e'.born := by
  induction k with
  | nil => intro e' he; cases he
  | cons a b n a' b' es es' h1 h2 h3 ih =>
    intro e' he
    cases he with
    | head => exact ⟨(a, b, n), List.mem_cons_self, h1, h2, rfl⟩
    | tail _ he => obtain ⟨e, k1, k2⟩ := ih e' he; exact ⟨e, List.mem_cons_of_mem _ k1, k2⟩
theorem EsRel.nilB {es : List (V × V × Nat)} {es' : List MapEntry} (k : EsRel m es es') : isNil es = es'.isEmpty := by cases k <;> rfl
theorem EsRel.allB {es : List (V × V × Nat)} {es' : List MapEntry} (k : EsRel m es es') (n : Nat) : (es.all fun e => Nat.ble n e.2.2) = es'.all fun e => decide (e.born ≥ n) := by
  induction k with
  | nil => rfl
  | cons a b c a' b' es es' h1 h2 h3 ih =>
    simp only [List.all_cons, ih]
    congr 1
    rw [Bool.eq_iff_iff, decide_eq_true_iff]
    exact ⟨fun h => Nat.le_of_ble_eq_true h, fun h => Nat.ble_eq_true_of_le h⟩
theorem pick_run (n : Nat) (hn : 0 < n) (w : World) : ∃ a w1, (choose (.mapNext n)).run P w = .ok a w1 ∧ a < n ∧ w1.heap = w.heap ∧ w1.os = w.os ∧ w1.tape = w.tape ∧ w1.output = w.output := by
  rw [run_choose]
  by_cases hf : (Question.mapNext n).forced = true
  · rw [if_pos hf]; exact ⟨0, w, rfl, hn, rfl, rfl, rfl, rfl⟩
  · rw [if_neg hf]; exact ⟨_, _, rfl, Nat.mod_lt _ hn, rfl, rfl, rfl, rfl⟩

theorem nextN_ok (R : HRel P.globals.size N0 w0 m h w) {x : V} {x' : Value} {outs : List (V × H)} {ty : TypeId} (e : nextN x h = some outs) (hx : VRel m x x') :
    ∃ o ∈ outs, ∃ w' v', (Instr.next x' false ty).run P w = .ok v' w' ∧ VRel m o.1 v' ∧ Went P N0 w0 m h w m o.2 w' := by
  replace e := bnd_some.1 e; obtain ⟨⟨id, off⟩, hp, e⟩ := e
  obtain rfl := V.ptr?_inv hp; dsimp only at *
  obtain ⟨L, hm, rfl⟩ := ptr_inv hx
  replace e := bnd_some.1 e; obtain ⟨o, ho, e⟩ := e
  split at e
  case h_2 => cases e
  case h_1 mid since seen last =>
    replace e := grd_some.1 e; obtain ⟨hg, e⟩ := e
    obtain rfl := Nat.eq_of_beq_eq_true hg
    replace e := bnd_some.1 e; obtain ⟨⟨es, clock⟩, hq, e⟩ := e
    dsimp only at e
    replace e := grd_some.1 e; obtain ⟨hgd, e⟩ := e
    injection e with e
    obtain ⟨hd0, hlt, L', hm', hat⟩ := miter_of R ho hm
    obtain ⟨es', h1, h2⟩ := map_of R hq hm'
    dsimp only at h1 h2
    have hgo : (getObj L.b).run P w = .ok (.mapIter (some L'.b) since seen.toArray last) w := by simp [getObj, Sem.run, hat]
    have hgm := MapKept.run_getObj_map (P := P) h1
    -- the check
    have hchk : (!seen.toArray.isEmpty && !es'.isEmpty && es'.all (fun e => decide (e.born ≥ last))) = false := by
      rw [h2.allB, h2.nilB] at hgd
      have a1 : isNil seen = seen.toArray.isEmpty := by cases seen <;> rfl
      have a2 : es'.toList.isEmpty = es'.isEmpty := by simp
      have a3 : es'.toList.all (fun e => decide (e.born ≥ last)) = es'.all (fun e => decide (e.born ≥ last)) := by simp
      rw [a1, a2, a3] at hgd
      revert hgd
      cases seen.toArray.isEmpty <;> cases es'.isEmpty <;> cases es'.all (fun e => decide (e.born ≥ last)) <;> simp
    let left' := es'.filter fun e => !seen.toArray.contains e.born
    let old' := left'.filter fun e => decide (e.born < since)
    let new' := left'.filter fun e => decide (e.born ≥ since)
    let cand : Array (Option MapEntry) := (if old'.isEmpty then #[none] else #[]) ++ (old' ++ new').map some
    have rl : EsRel m (es.filter fun e => !hasN e.2.2 seen) left'.toList := by
      have := h2.filter (fun b => !hasN b seen)
      have e1 : left'.toList = es'.toList.filter fun e => !hasN e.born seen := by
        simp only [left', Array.toList_filter]
        congr 1
        funext e
        rw [hasN_eq]
      rw [e1]; exact this
    have ro : EsRel m ((es.filter fun e => !hasN e.2.2 seen).filter fun e => Nat.blt e.2.2 since) old'.toList := by
      have := rl.filter (fun b => Nat.blt b since)
      have e1 : old'.toList = left'.toList.filter fun e => Nat.blt e.born since := by
        simp only [old', Array.toList_filter]
        congr 1
        funext e
        rw [Bool.eq_iff_iff, decide_eq_true_iff]
        exact ⟨fun h => Nat.ble_eq_true_of_le h, fun h => Nat.le_of_ble_eq_true h⟩
      rw [e1]; exact this
    have rn : EsRel m ((es.filter fun e => !hasN e.2.2 seen).filter fun e => !Nat.blt e.2.2 since) new'.toList := by
      have := rl.filter (fun b => !Nat.blt b since)
      have e1 : new'.toList = left'.toList.filter fun e => !Nat.blt e.born since := by
        simp only [new', Array.toList_filter]
        congr 1
        funext e
        cases hb : Nat.blt e.born since with
        | true => have := Nat.le_of_ble_eq_true hb; simp; omega
        | false =>
          have : ¬ e.born < since := fun h => by
            have : Nat.blt e.born since = true := Nat.ble_eq_true_of_le h
            rw [hb] at this; cases this
          simp; omega
      rw [e1]; exact this
    have hcs : 0 < cand.size := by
      simp only [cand]
      cases he : old'.isEmpty with
      | true => simp; omega
      | false =>
        have : 0 < old'.size := by
          rcases Nat.eq_zero_or_pos old'.size with h0 | h0
          · rw [Array.isEmpty_iff_size_eq_zero.2 h0] at he; cases he
          · exact h0
        simp; omega
    obtain ⟨a, w1, hch, hal, k1, k2, k3, k4⟩ := pick_run (P := P) cand.size hcs w
    have R1 : HRel P.globals.size N0 w0 m h w1 := R.drawn k1 k2 k3 k4
    have W1 : Went P N0 w0 m h w m h w1 := ⟨.refl _ _, Nat.le_refl _, ⟨R1, fun b hb hn => ⟨by rw [k1], hn⟩, by rw [k1]; exact Nat.le_refl _⟩⟩
    have hrun : ∀ (r : Result Value), (match cand[a]? with
        | some (some e) => (do setObj L.b (.mapIter (some L'.b) since (seen.toArray.push e.born) clock); pure (.tuple #[.bool true, e.key, e.val]) : Sem Value)
        | some none => pure (.tuple #[.bool false])
        | none => stuck "Next: no such candidate").run P w1 = r → (Instr.next (.pointer (some ⟨L.b, L.d + 0, none⟩)) false ty).run P w = r := by
      intro r hr
      rw [hd0]
      show (do
        match ← getObj L.b, false with
        | .stringIter s pos, true =>
          if pos < s.size then
            let (c, width) := Utf8.decode s pos
            setObj L.b (.stringIter s (pos + width))
            pure (.tuple #[.bool true, goInt pos, .int .i32 c])
          else pure (.tuple #[.bool false])
        | .mapIter none _ _ _, false => pure (.tuple #[.bool false])
        | .mapIter (some m) since seen last, false =>
          let .map es clock ← getObj m | stuck "Next: map expected"
          if !seen.isEmpty && !es.isEmpty && es.all (·.born ≥ last) then
            unsupported (.noEntry "instr/Next: every entry that the ranged map held at the last iteration is gone, and it holds new ones")
          let left := es.filter fun e => !seen.contains e.born
          let old := left.filter (·.born < since)
          let new := left.filter (·.born ≥ since)
          let candidates := (if old.isEmpty then #[none] else #[]) ++ (old ++ new).map some
          match candidates[← choose (.mapNext candidates.size)]? with
          | some (some e) =>
            setObj L.b (.mapIter (some m) since (seen.push e.born) clock)
            pure (.tuple #[.bool true, e.key, e.val])
          | some none => pure (.tuple #[.bool false])
          | none => stuck "Next: no such candidate"
        | _, _ => stuck "Next: iterator of the other kind" : Sem Value).run P w = r
      simp only [Sem.run_bind, hgo, Result.andThen_ok, hgm, hchk, Bool.false_eq_true, if_false]
      rw [← hr]
      show ((choose (.mapNext cand.size)).run P w).andThen _ = _
      rw [hch]
      rfl
    have hget : ∃ c, cand[a]? = some c := ⟨cand[a], Array.getElem?_eq_getElem hal⟩
    obtain ⟨c, hc⟩ := hget
    cases c with
    | none =>
      have hold : old'.isEmpty = true := by
        cases he : old'.isEmpty with
        | true => rfl
        | false =>
          exfalso
          have hmem := Array.mem_of_getElem? hc
          simp [cand, he] at hmem
      have hnil : isNil ((es.filter fun e => !hasN e.2.2 seen).filter fun e => Nat.blt e.2.2 since) = true := by rw [ro.nilB]; simpa using hold
      refine ⟨(V.tup [.bool false], h), ?_, w1, .tuple #[.bool false], hrun _ (by rw [hc]; rfl), .tup [.bool false] [.bool false] (.cons _ _ _ _ (.bool _) .nil), W1⟩
      rw [← e, hnil]
      exact List.mem_append_left _ List.mem_cons_self
    | some e' =>
      have hmem : e' ∈ old'.toList ++ new'.toList := by
        have hmem := Array.mem_of_getElem? hc
        simp only [cand, Array.mem_append, Array.mem_map] at hmem
        rcases hmem with hmem | hmem
        · cases he : old'.isEmpty <;> rw [he] at hmem <;> simp at hmem
        · obtain ⟨y, hy, hye⟩ := hmem
          injection hye with hye; subst hye
          rcases hy with hy | hy
          · exact List.mem_append_left _ (by simpa using hy)
          · exact List.mem_append_right _ (by simpa using hy)
      obtain ⟨y, hy, y1, y2, y3⟩ := (ro.app rn).mem e' hmem
      have hG := obj_put R1 ho hm rfl (x := .mapIter (some L'.b) since (seen ++ [y.2.2]).toArray clock) (o' := .miter (some mid) since (seen ++ [y.2.2]) clock) fun w' hw => ⟨hd0, some L'.b, hw, L', hm', rfl⟩
      have hpush : (seen ++ [y.2.2]).toArray = seen.toArray.push e'.born := by rw [y3]; simp
      have hset : (setObj L.b (.mapIter (some L'.b) since (seen.toArray.push e'.born) clock)).run P w1 = .ok () { w1 with heap := w1.heap.setIfInBounds L.b (.mapIter (some L'.b) since (seen.toArray.push e'.born) clock) } := by
        have : w1.heap[L.b]? = some (.mapIter (some L'.b) since seen.toArray last) := by rw [k1]; exact hat
        simp [setObj, Sem.run, this]
      rw [hpush] at hG
      refine ⟨(.tup [.bool true, y.1, y.2.1], h.set id (some (.miter (some mid) since (seen ++ [y.2.2]) clock))), ?_, _, .tuple #[.bool true, e'.key, e'.val], hrun _ (by rw [hc]; simp only [Sem.run_bind, hset, Result.andThen_ok, Sem.run_pure]), .tup _ [.bool true, e'.key, e'.val] (.cons _ _ _ _ (.bool _) (.cons _ _ _ _ y1 (.cons _ _ _ _ y2 .nil))), W1.trans ⟨.refl _ _, Nat.le_refl _, hG⟩⟩
      rw [← e]
      refine List.mem_append_right _ (List.mem_map.2 ⟨y, hy, rfl⟩)
end
end Go.Proofs.YtejnegabdjpipaaGreatDoor.AM

/- The machine that goes every way: its code and calls. -/
namespace Go.Proofs.YtejnegabdjpipaaGreatDoor.AM
variable [Syms]
open Go.RowKit (Below)

section
variable {P : Program} {N0 : Nat} {w0 : World}

/-- What a call may come to. -/
def CallsN (P : Program) (N0 : Nat) (w0 : World) (m : Mu) (h : H) (w : World) (g : FuncId) (args' : List Value) (outs : List (V × H)) : Prop :=
  (callFunc g args'.toArray).run P w = .ok (.enter g args'.toArray) w ∧ Calls P g args'.toArray w (fun e w' => ∃ o ∈ outs, ∃ m' v', e = .returned v' ∧ VRel m' o.1 v' ∧ Went P N0 w0 m h w m' o.2 w')
def CallNOK (P : Program) (N0 : Nat) (w0 : World) (callN : FuncId → List V → H → Option (List (V × H))) : Prop :=
  ∀ g args h outs, callN g args h = some outs → ∀ (m : Mu) (w : World) args', HRel P.globals.size N0 w0 m h w → VsRel m args args' → CallsN P N0 w0 m h w g args' outs
theorem callee_fn {m : Mu} {ev : Operand → Option V} {ρ : Operand → Value} (hev : ∀ x v, ev x = some v → VRel m v (ρ x)) {o : Oper} {g : FuncId} {args : List V} (e : calleeA ev o = some (.fn g, args)) :
    ∃ args', VsRel m args args' ∧ (∀ w, (execOp ρ o).run P w = (callFunc g args'.toArray).run P w) ∧ ∀ c, o.op ≠ .defer c := by
  obtain ⟨dst, op, type, pos, after, guard⟩ := o
  cases op <;> simp only [calleeA] at e <;> first | (cases e; done) | skip
  case call c =>
    split at e
    case h_2 => cases e
    case h_1 f hc =>
      replace e := bnd_some.1 e; obtain ⟨fv, hfv, e⟩ := e
      split at e
      case h_3 => cases e
      case h_2 l =>
        replace e := bnd_some.1 e; obtain ⟨as, has, e⟩ := e
        injection e with e; injection e with e1 e2; cases e1
      case h_1 g' first captured =>
        replace e := bnd_some.1 e; obtain ⟨as, has, e⟩ := e
        injection e with e; injection e with e1 e2
        injection e1 with e1
        subst e1; subst e2
        have hr := hev _ _ hfv
        generalize hy : ρ f = y at hr
        cases hr with
        | func _ _ _ f' c' hf' hc' =>
          have hargs := evAll_ok hev has
          refine ⟨f' ++ c.args.toList.map ρ ++ c', (hf'.append hargs).append hc', fun w => ?_, fun c h => by cases h⟩
          have : f'.toArray ++ c.args.map ρ ++ c'.toArray = (f' ++ c.args.toList.map ρ ++ c').toArray := by
            apply Array.ext'; simp
          simp only [execOp, resolve, hc, hy, Deferred.ofValue, Sem.run_bind, Sem.run_pure, Result.andThen_ok, invoke, this]

theorem stepN_wp {callN : FuncId → List V → H → Option (List (V × H))} {call : Tg → List V → H → Option (V × H)} {forks : List Nat} (hN : CallNOK P N0 w0 callN) (hcall : CallOK P N0 w0 call) {m : Mu} {s : S} {ss : List S} {dl : List Deferred} {a : Act} {w : World} {o : Oper}
    (R : SRel P N0 w0 m s.env s.n s.h dl a w) (hds : DsRel m s.ds dl) (e : stepN P callN call forks o s = some ss) {K : Act → World → Prop} {Q : Exit → Act → World → Prop}
    (hK : ∀ s' ∈ ss, ∀ m' dl' a' w', SRel P N0 w0 m' s'.env s'.n s'.h dl' a' w' → DsRel m' s'.ds dl' → Went P N0 w0 m s.h w m' s'.h w' → s'.n = s.n → K a' w') : o.wpIn (FW none) 0 P a w K Q := by
  have hev := R.ev
  have one : (stepA P call false o s).bind (fun s' => some [s']) = some ss → o.wpIn (FW none) 0 P a w K Q := fun e => by
    replace e := bnd_some.1 e; obtain ⟨s1, h1, e⟩ := e
    injection e with e; subst e
    exact stepA_wp hcall (fun _ => rfl) R hds h1 fun m' dl' a' w' => hK s1 List.mem_cons_self m' dl' a' w'
  unfold stepN at e
  split at e
  · rename_i x hop
    replace e := bnd_some.1 e; obtain ⟨u, hu, e⟩ := e
    replace e := bnd_some.1 e; obtain ⟨l, hl, e⟩ := e
    injection e with e; subst e
    obtain ⟨r, hr, w', v', k1, k2, k3⟩ := nextN_ok (ty := o.type) R.rel hl (hev _ _ hu)
    refine wpIn_of (fun c hc => by rw [hop] at hc; cases hc) ?_
    have hrun : (execOp a.eval o).run P w = .ok (.value v') w' := by
      obtain ⟨dst, op, type, pos, after, guard⟩ := o
      dsimp only at hop
      subst hop
      simp only [execOp, Sem.run_bind, k1, Result.andThen_ok, Sem.run_pure]
    rw [hrun, Oper.uponIn_value]
    obtain ⟨p1, p2⟩ := put_vals (dst := o.dst) R.size R.vals k3.later.1 k2
    exact hK ⟨putT s.env s.n o.dst r.1, s.n, r.2, s.ds⟩ (List.mem_map.2 ⟨r, hr, rfl⟩) _ dl _ w' ⟨by rw [put_defers']; exact R.defers, p1, p2, k3.good.rel⟩ (hds.mono k3.later.1) k3 rfl
  · rename_i c hop
    split at e
    · rename_i g args hcl
      cases hf : hasN g forks with
      | false => rw [hf] at e; exact one e
      | true =>
        rw [hf] at e
        replace e : ((callN g args s.h).bind fun l => some (l.map fun r => (⟨putT s.env s.n o.dst r.1, s.n, r.2, s.ds⟩ : S))) = some ss := e
        replace e := bnd_some.1 e; obtain ⟨l, hl, e⟩ := e
        injection e with e; subst e
        obtain ⟨args', q1, q2, q3⟩ := callee_fn (P := P) hev hcl
        obtain ⟨t1, t2⟩ := hN g args s.h l hl m w args' R.rel q1
        refine wpIn_of q3 ?_
        rw [q2, t1, Oper.uponIn_enter]
        refine ⟨fun h => (by cases h), callsFW (t2.mono fun e' w' ⟨r, hr, m', v', he, hv, hw⟩ => ?_)⟩
        subst he
        obtain ⟨p1, p2⟩ := put_vals (dst := o.dst) R.size R.vals hw.later.1 hv
        exact hK ⟨putT s.env s.n o.dst r.1, s.n, r.2, s.ds⟩ (List.mem_map.2 ⟨r, hr, rfl⟩) _ dl _ w' ⟨by rw [put_defers']; exact R.defers, p1, p2, hw.good.rel⟩ (hds.mono hw.later.1) hw rfl
    · exact one e
  · exact one e

theorem opsN_wp {callN : FuncId → List V → H → Option (List (V × H))} {call : Tg → List V → H → Option (V × H)} {forks : List Nat} (hN : CallNOK P N0 w0 callN) (hcall : CallOK P N0 w0 call) {ops : Array Oper} {Q : Exit → Act → World → Prop} :
    ∀ (l : List Oper) {m : Mu} {s : S} {ss : List S} {dl : List Deferred} {a : Act} {w : World}, SRel P N0 w0 m s.env s.n s.h dl a w → DsRel m s.ds dl → opsN P callN call forks (dstOf ops) l s = some ss →
      (∀ s' ∈ ss, ∀ m' dl' a' w', SRel P N0 w0 m' s'.env s'.n s'.h dl' a' w' → DsRel m' s'.ds dl' → Went P N0 w0 m s.h w m' s'.h w' → s'.n = s.n → Q .normal a' w') → wpListIn (FW none) 0 P ops Q l a w
  | [], m, s, ss, dl, a, w, R, hds, e, hQ => by
    injection e with e; subst e
    exact hQ s List.mem_cons_self m dl a w R hds ⟨.refl _ _, Nat.le_refl _, R.rel.same⟩ rfl
  | o :: l, m, s, ss, dl, a, w, R, hds, e, hQ => by
    replace e : ((wantA (dstOf ops) s.env o).bind fun b => (cond b (stepN P callN call forks o s) (some [⟨putT s.env s.n o.dst .undef, s.n, s.h, s.ds⟩])).bind fun ss => bindL (opsN P callN call forks (dstOf ops) l) ss) = some ss := e
    replace e := bnd_some.1 e; obtain ⟨b, hb, e⟩ := e
    replace e := bnd_some.1 e; obtain ⟨ms, h1, e⟩ := e
    unfold wpListIn
    rw [wanted_ok R.vals hb]
    cases b with
    | true =>
      refine stepN_wp hN hcall R hds (show stepN P callN call forks o s = some ms from h1) fun s1 hs1 m1 dl1 a1 w1 R1 D1 W1 n1 => ?_
      obtain ⟨x, hx, hsub⟩ := bindL_mem e s1 hs1
      exact opsN_wp hN hcall l R1 D1 hx fun s' hs' m' dl' a' w' R' D' W' n' => hQ s' (hsub _ hs') m' dl' a' w' R' D' (W1.trans W') (n'.trans n1)
    | false =>
      have h1 : some [(⟨putT s.env s.n o.dst .undef, s.n, s.h, s.ds⟩ : S)] = some ms := h1
      injection h1 with h1; subst h1
      obtain ⟨x, hx, hsub⟩ := bindL_mem e _ List.mem_cons_self
      obtain ⟨p1, p2⟩ := put_vals (dst := o.dst) R.size R.vals (Mu.le.refl m) VRel.undef
      refine ⟨fun _ _ => trivial, ?_⟩
      exact opsN_wp hN hcall l (s := ⟨putT s.env s.n o.dst .undef, s.n, s.h, s.ds⟩) ⟨by rw [put_defers']; exact R.defers, p1, p2, R.rel⟩ hds hx fun s' hs' => hQ s' (hsub _ hs')

/-- Behind a piece of code one of these stands. -/
def PostL (P : Program) (N0 : Nat) (w0 : World) (m : Mu) (s : S) (w : World) (outs : List (X × S)) : Exit → Act → World → Prop := fun e a' w' => ∃ o ∈ outs, Post P N0 w0 m s w o.1 o.2 e a' w'
theorem PostL.before {m m1 : Mu} {s s1 : S} {w w1 : World} {outs : List (X × S)} (W : Went P N0 w0 m s.h w m1 s1.h w1) (n : s1.n = s.n) {e : Exit} {a : Act} {w' : World} (h : PostL P N0 w0 m1 s1 w1 outs e a w') : PostL P N0 w0 m s w outs e a w' := by
  obtain ⟨o, ho, h⟩ := h
  exact ⟨o, ho, Post.before W n h⟩
theorem PostL.sub {m : Mu} {s : S} {w : World} {outs outs' : List (X × S)} (hs : ∀ o ∈ outs, o ∈ outs') {e : Exit} {a : Act} {w' : World} (h : PostL P N0 w0 m s w outs e a w') : PostL P N0 w0 m s w outs' e a w' := by
  obtain ⟨o, ho, h⟩ := h
  exact ⟨o, hs o ho, h⟩

theorem codeN_ok {C : Cfg} {forks : List Nat} (hmx : C.P.follows .mixedOrders = true) (hx : ExtOK C.P N0 w0 C.ext) (hmo : MemoOK C.P N0 w0 C.memo) (hng : ∀ (g : Nat) (fn : Func), C.P.funcs[g]? = some fn → (fn.name == "runtime.NumGoroutine") = false) : ∀ f,
    (∀ c m s outs dl a w, SRel C.P N0 w0 m s.env s.n s.h dl a w → DsRel m s.ds dl → codeN C forks f c s = some outs → c.wpIn (FW none) 0 C.P (PostL C.P N0 w0 m s w outs) a w) ∧
    (∀ c m s outs dl a w, SRel C.P N0 w0 m s.env s.n s.h dl a w → DsRel m s.ds dl → codeN C forks f (.loop c) s = some outs → ∀ Q : Exit → Act → World → Prop, (∀ e a' w', PostL C.P N0 w0 m s w outs e a' w' → Q e a' w') → Code.roundsIn (FW none) 0 C.P c Q f a w) ∧
    CallNOK C.P N0 w0 (callN C forks f) := by
  intro f
  induction f with
  | zero => exact ⟨fun c m s outs dl a w R hds e => by simp [codeN] at e, fun c m s outs dl a w R hds e => by simp [codeN] at e, fun g args h outs e => by simp [callN] at e⟩
  | succ f ih =>
    obtain ⟨ih1, ih3, ih2⟩ := ih
    have loops : ∀ c m s outs dl a w, SRel C.P N0 w0 m s.env s.n s.h dl a w → DsRel m s.ds dl → codeN C forks (f + 1) (.loop c) s = some outs → ∀ Q : Exit → Act → World → Prop, (∀ e a' w', PostL C.P N0 w0 m s w outs e a' w' → Q e a' w') → Code.roundsIn (FW none) 0 C.P c Q (f + 1) a w := by
      intro p m s outs dl a w R hds e Q hQ
      simp only [codeN] at e
      replace e := bnd_some.1 e; obtain ⟨l, h1, e⟩ := e
      rw [roundsIn_succ]
      refine wpIn_mono (ih1 p m s l dl a w R hds h1) fun e' a1 w1 hp => ?_
      obtain ⟨⟨y, s1⟩, ho, rfl, m1, dl1, R1, D1, W1, n1⟩ := hp
      obtain ⟨x, hxx, hsub⟩ := bindL_mem e _ ho
      cases y with
      | norm => exact ih3 p m1 s1 x dl1 a1 w1 R1 D1 hxx Q fun e a w h => hQ e a w ((PostL.before W1 n1 h).sub hsub)
      | exit id => injection hxx with hxx; subst hxx; exact hQ _ _ _ ⟨_, hsub _ List.mem_cons_self, rfl, m1, dl1, R1, D1, W1, n1⟩
      | ret => injection hxx with hxx; subst hxx; exact hQ _ _ _ ⟨_, hsub _ List.mem_cons_self, rfl, m1, dl1, R1, D1, W1, n1⟩
    refine ⟨fun c m s outs dl a w R hds e => ?_, loops, fun g args h outs e m w args' R hv => ?_⟩
    · have det : ∀ c, (codeA C (f + 1) false c s).bind (fun r => some [r]) = some outs → c.wpIn (FW none) 0 C.P (PostL C.P N0 w0 m s w outs) a w := fun c e => by
        replace e := bnd_some.1 e; obtain ⟨⟨x, s1⟩, h1, e⟩ := e
        injection e with e; subst e
        exact wpIn_mono ((codeA_ok hmx hx hmo hng (f + 1)).1 none false c m s x s1 dl a w (fun _ => rfl) R hds h1) fun e a w h => ⟨_, List.mem_cons_self, h⟩
      cases c <;> simp only [codeN] at e <;> first | exact det _ e | skip
      case seq p q =>
        replace e := bnd_some.1 e; obtain ⟨l, h1, e⟩ := e
        refine wpIn_seq (wpIn_mono (ih1 p m s l dl a w R hds h1) fun e' a1 w1 hp => ?_)
        obtain ⟨⟨y, s1⟩, ho, rfl, m1, dl1, R1, D1, W1, n1⟩ := hp
        obtain ⟨x, hxx, hsub⟩ := bindL_mem e _ ho
        cases y with
        | norm => exact wpIn_mono (ih1 q m1 s1 x dl1 a1 w1 R1 D1 hxx) fun _ _ _ h => (PostL.before W1 n1 h).sub hsub
        | exit id => injection hxx with hxx; subst hxx; exact ⟨_, hsub _ List.mem_cons_self, rfl, m1, dl1, R1, D1, W1, n1⟩
        | ret => injection hxx with hxx; subst hxx; exact ⟨_, hsub _ List.mem_cons_self, rfl, m1, dl1, R1, D1, W1, n1⟩
      case cond t p q =>
        replace e := bnd_some.1 e; obtain ⟨v, h1, e⟩ := e
        have hr := R.ev _ _ h1
        cases v <;> dsimp only at e <;> first | (cases e; done) | skip
        case bool b =>
          cases b with
          | true => exact wpIn_cond_true (bool_inv hr) (ih1 p m s outs dl a w R hds e)
          | false => exact wpIn_cond_false (bool_inv hr) (ih1 q m s outs dl a w R hds e)
      case block id p =>
        replace e := bnd_some.1 e; obtain ⟨l, h1, e⟩ := e
        injection e with e; subst e
        refine wpIn_block (wpIn_mono (ih1 p m s l dl a w R hds h1) fun e' a1 w1 hp => ?_)
        obtain ⟨⟨y, s1⟩, ho, rfl, hp⟩ := hp
        cases y with
        | norm => exact ⟨(.norm, s1), List.mem_map.2 ⟨_, ho, rfl⟩, rfl, hp⟩
        | exit i =>
          show if i = id then _ else _
          by_cases hi : i = id
          · rw [if_pos hi]
            have : Nat.beq i id = true := by subst hi; exact Nat.beq_refl i
            exact ⟨(cond (Nat.beq i id) .norm (.exit i), s1), List.mem_map.2 ⟨_, ho, rfl⟩, by rw [this]; rfl, hp⟩
          · rw [if_neg hi]
            have : Nat.beq i id = false := by
              cases hb : Nat.beq i id with
              | false => rfl
              | true => exact absurd (Nat.eq_of_beq_eq_true hb) hi
            exact ⟨(cond (Nat.beq i id) .norm (.exit i), s1), List.mem_map.2 ⟨_, ho, rfl⟩, by rw [this]; rfl, hp⟩
        | ret => exact ⟨(.ret, s1), List.mem_map.2 ⟨_, ho, rfl⟩, rfl, hp⟩
      case loop p => exact wpIn_loop_rounds (f + 1) (loops p m s outs dl a w R hds (by simp only [codeN]; exact e) _ fun _ _ _ h => h)
      case scope p =>
        refine wpIn_scope_straight (wpIn_mono (ih1 p m s outs dl a w R hds e) fun e' a1 w1 hp => ?_)
        obtain ⟨⟨y, s1⟩, ho, rfl, hp⟩ := hp
        cases y <;> exact ⟨_, ho, rfl, hp⟩
      case region id ops draw =>
        cases draw with
        | true => exact det _ e
        | false =>
          replace e : ((opsN C.P (callN C forks f) (callA C f) forks (dstOf ops) ops.toList s).bind fun l => some (l.map fun s' => (X.norm, s'))) = some outs := e
          replace e := bnd_some.1 e; obtain ⟨l, h1, e⟩ := e
          injection e with e; subst e
          exact wpIn_region_list (opsN_wp ih2 (codeA_ok hmx hx hmo hng f).2.2.1 _ R hds h1 fun s' hs' m' dl' a' w' R' D' W' n' => ⟨(.norm, s'), List.mem_map.2 ⟨s', hs', rfl⟩, rfl, m', dl', R', D', W', n'⟩)
    · simp only [callN] at e
      cases hme : getMemo C.memo g args h with
      | some r =>
        rw [hme] at e
        have e : some r = some outs := e
        injection e with e; subst e
        exact memo_ok hmo hme R hv
      | none =>
        rw [hme] at e
        replace e : ((C.P.funcs[g]?).bind fun fn => fn.body.bind fun c => (codeN C forks f c ⟨putArgs args 0 .lf, args.length + (fn.ntmps - args.length), h, []⟩).bind fun l => bindL (fun r => match r.1 with
          | .exit _ => none
          | _ => (leaveA C f r.2.ds r.2.h).bind fun h' => (resultsA C.P r.2.env h' fn.results.toList).bind fun vs => some [(oneOf vs, h')]) l) = some outs := e
        replace e := bnd_some.1 e; obtain ⟨fn, hfn, e⟩ := e
        replace e := bnd_some.1 e; obtain ⟨c, hc, e⟩ := e
        replace e := bnd_some.1 e; obtain ⟨l, hl, e⟩ := e
        have ih4 : LeaveOK C.P N0 w0 (leaveA C f) := (codeA_ok hmx hx hmo hng f).2.2.2
        refine ⟨Go.MuLone.run_callFunc_enter hfn (hng g fn hfn) hc _ w, callsIn_wide.1 (callsIn_of_wp_marks (F := FW none) (n := 0) hfn hc trivial (wpIn_mono (ih1 c m _ l [] _ w (enter_rel R hv fn.ntmps) .nil hl) fun e' a1 w1 hp => ?_))⟩
        obtain ⟨⟨y, s1⟩, ho, rfl, m1, dl1, R1, D1, W1, n1⟩ := hp
        obtain ⟨x, hxx, hsub⟩ := bindL_mem e _ ho
        have fin : ((leaveA C f s1.ds s1.h).bind fun h' => (resultsA C.P s1.env h' fn.results.toList).bind fun vs => some [(oneOf vs, h')]) = some x →
            LeavesInM (FW none) 0 C.P fn a1.tmps (fun e w' => ∃ o ∈ outs, ∃ m' v', e = .returned v' ∧ VRel m' o.1 v' ∧ Went C.P N0 w0 m h w m' o.2 w') a1.defers .returning w1 := fun e => by
          replace e := bnd_some.1 e; obtain ⟨hl, h1, e⟩ := e
          replace e := bnd_some.1 e; obtain ⟨vs, h2, e⟩ := e
          injection e with e; subst e
          rw [R1.defers]
          refine ih4 _ _ _ h1 m1 dl1 w1 fn a1.tmps _ R1.rel D1 fun m' w' W => ?_
          obtain ⟨v', h3, h4⟩ := results_run (a := a1) (dl := dl1) ⟨R1.defers, R1.size, fun t u hu => by obtain ⟨u', q1, q2⟩ := R1.vals t u hu; exact ⟨u', q1, q2.mono W.later.1⟩, W.good.rel⟩ h2
          exact ⟨v', h3, _, hsub _ List.mem_cons_self, m', v', rfl, h4, W1.trans W⟩
        cases y with
        | norm => exact fin hxx
        | exit id => cases hxx
        | ret => exact fin hxx
end
end Go.Proofs.YtejnegabdjpipaaGreatDoor.AM

/- A closed run in stages: between two of them what is not looked at any more is given up. -/
namespace Go.Proofs.YtejnegabdjpipaaGreatDoor.AM
variable [Syms]
open Go.RowKit (Below)

/-! ### A body as a list -/
def flat : Code → List Code
  | .seq a b => flat a ++ flat b
  | c => [c]
def wpL (F : Fence) (n : Nat) (P : Program) (Q : Exit → Act → World → Prop) : List Code → Act → World → Prop
  | [], a, w => Q .normal a w
  | c :: cs, a, w => c.wpIn F n P (Exit.then (wpL F n P Q cs) Q) a w
theorem then_mono {K K' : Act → World → Prop} {Q Q' : Exit → Act → World → Prop} (hK : ∀ a w, K a w → K' a w) (hQ : ∀ e a w, Q e a w → Q' e a w) : ∀ e a w, Exit.then K Q e a w → Exit.then K' Q' e a w := by
  intro e a w h
  cases e <;> first | exact hK _ _ h | exact hQ _ _ _ h
section
variable {F : Fence} {n : Nat} {P : Program}
theorem wpL_mono {Q Q' : Exit → Act → World → Prop} (hQ : ∀ e a w, Q e a w → Q' e a w) : ∀ (cs : List Code) (a : Act) (w : World), wpL F n P Q cs a w → wpL F n P Q' cs a w
  | [], a, w, h => hQ _ _ _ h
  | c :: cs, a, w, h => wpIn_mono h fun e a w h => then_mono (fun a w h => wpL_mono hQ cs a w h) hQ e a w h
theorem wpL_append {Q : Exit → Act → World → Prop} {ds : List Code} : ∀ (cs : List Code) (a : Act) (w : World), wpL F n P (Exit.then (wpL F n P Q ds) Q) cs a w → wpL F n P Q (cs ++ ds) a w
  | [], a, w, h => h
  | c :: cs, a, w, h => by
    refine wpIn_mono h fun e a w h => ?_
    cases e with
    | normal => exact wpL_append cs a w h
    | _ => exact h
theorem flat_wp' {Q : Exit → Act → World → Prop} : ∀ (c : Code) (ds : List Code) (a : Act) (w : World), wpL F n P Q (flat c ++ ds) a w → c.wpIn F n P (Exit.then (wpL F n P Q ds) Q) a w := by
  intro c
  induction c with
  | seq x y ihx ihy =>
    intro ds a w h
    have h : wpL F n P Q ((flat x ++ flat y) ++ ds) a w := h
    rw [List.append_assoc] at h
    refine wpIn_seq (wpIn_mono (ihx _ a w h) fun e a w h => ?_)
    cases e with
    | normal => exact ihy ds a w h
    | _ => exact h
  | _ => intro ds a w h; exact h
theorem flat_wp {Q : Exit → Act → World → Prop} {c : Code} {a : Act} {w : World} (h : wpL F n P Q (flat c) a w) : c.wpIn F n P Q a w := by
  refine wpIn_mono (flat_wp' c [] a w (by rw [List.append_nil]; exact h)) fun e a w h => ?_
  cases e <;> exact h
end

/-! ### What is given up -/
noncomputable def keepS (tmps ids : List Nat) (s : S) : S := ⟨keepT s.env tmps, s.n, ⟨keepT s.h.objs ids, s.h.next⟩, s.ds⟩
section
variable {P : Program} {N0 : Nat} {w0 : World}
theorem went_sub {m : Mu} {h h' : H} {w : World} (R : HRel P.globals.size N0 w0 m h w) (hn : h'.next = h.next) (hs : ∀ id o, h'.get id = some o → h.get id = some o) : Went P N0 w0 m h w m h' w :=
  ⟨.refl _ _, Nat.le_of_eq hn.symm, ⟨R.sub hn hs, fun b hb hf => ⟨rfl, fun id o L hg hm => hf id o L (hs _ _ hg) hm⟩, Nat.le_refl _⟩⟩
theorem post_keep {m : Mu} {s : S} {w : World} {x : X} {s1 : S} (tmps ids : List Nat) {e : Exit} {a : Act} {w' : World} (h : Post P N0 w0 m s w x s1 e a w') : Post P N0 w0 m s w x (keepS tmps ids s1) e a w' := by
  obtain ⟨h0, m', dl', R, D, W, hn⟩ := h
  have hs : ∀ id o, (keepS tmps ids s1).h.get id = some o → s1.h.get id = some o := fun id o hg => keepT_get _ _ _ _ hg
  have W2 := went_sub R.rel (h' := (keepS tmps ids s1).h) rfl hs
  exact ⟨h0, m', dl', ⟨R.defers, R.size, fun t v hv => R.vals t v (keepT_get _ _ _ _ hv), W2.good.rel⟩, D, W.trans W2, hn⟩
end

/-! ### Stages -/
noncomputable def codeL (C : Cfg) (forks : List Nat) (f : Nat) : List Code → S → Option (List (X × S))
  | [], s => some [(.norm, s)]
  | c :: cs, s => (codeN C forks f c s).bind fun l => bindL (fun r => match r.1 with | .norm => codeL C forks f cs r.2 | _ => some [r]) l
noncomputable def keepsL : List (List Nat × List Nat) → List (X × S) → Option (List (X × S))
  | [], [] => some []
  | k :: ks, o :: os => (keepsL ks os).bind fun r => some ((o.1, keepS k.1 k.2 o.2) :: r)
  | _, _ => none
noncomputable def stageA (C : Cfg) (forks : List Nat) (f : Nat) (cs : List Code) (keeps : List (List Nat × List Nat)) (s : S) : Option (List (X × S)) := (codeL C forks f cs s).bind fun l => keepsL keeps l
/-- The list leads from s to one of these. -/
def Goes (C : Cfg) (cs : List Code) (s : S) (outs : List (X × S)) : Prop :=
  ∀ N0 w0, ExtOK C.P N0 w0 C.ext → MemoOK C.P N0 w0 C.memo → ∀ m dl a w, SRel C.P N0 w0 m s.env s.n s.h dl a w → DsRel m s.ds dl → wpL (FW none) 0 C.P (PostL C.P N0 w0 m s w outs) cs a w
theorem codeL_ok {C : Cfg} {forks : List Nat} (hmx : C.P.follows .mixedOrders = true) (hng : ∀ (g : Nat) (fn : Func), C.P.funcs[g]? = some fn → (fn.name == "runtime.NumGoroutine") = false) {f : Nat} : ∀ {cs : List Code} {s : S} {outs : List (X × S)}, codeL C forks f cs s = some outs → Goes C cs s outs
  | [], s, outs, e => fun N0 w0 hx hmo m dl a w R D => by
    injection e with e; subst e
    exact ⟨_, List.mem_cons_self, rfl, m, dl, R, D, ⟨.refl _ _, Nat.le_refl _, R.rel.same⟩, rfl⟩
  | c :: cs, s, outs, e => fun N0 w0 hx hmo m dl a w R D => by
    replace e := bnd_some.1 (show (codeN C forks f c s).bind _ = some _ from e); obtain ⟨l, h1, e⟩ := e
    refine wpIn_mono ((codeN_ok hmx hx hmo hng f).1 c m s l dl a w R D h1) fun e' a1 w1 hp => ?_
    obtain ⟨⟨y, s1⟩, ho, rfl, m1, dl1, R1, D1, W1, n1⟩ := hp
    obtain ⟨x, hxx, hsub⟩ := bindL_mem e _ ho
    cases y with
    | norm => exact wpL_mono (fun _ _ _ h => (PostL.before W1 n1 h).sub hsub) cs a1 w1 (codeL_ok hmx hng hxx N0 w0 hx hmo m1 dl1 a1 w1 R1 D1)
    | exit id => injection hxx with hxx; subst hxx; exact ⟨_, hsub _ List.mem_cons_self, rfl, m1, dl1, R1, D1, W1, n1⟩
    | ret => injection hxx with hxx; subst hxx; exact ⟨_, hsub _ List.mem_cons_self, rfl, m1, dl1, R1, D1, W1, n1⟩
theorem keepsL_mem : ∀ {ks : List (List Nat × List Nat)} {l r : List (X × S)}, keepsL ks l = some r → ∀ o ∈ l, ∃ tmps ids, (o.1, keepS tmps ids o.2) ∈ r
  | [], [], r, _, o, ho => by cases ho
  | k :: ks, x :: xs, r, e, o, ho => by
    replace e := bnd_some.1 (show (keepsL ks xs).bind _ = some r from e); obtain ⟨q, hq, e⟩ := e
    injection e with e; subst e
    cases ho with
    | head => exact ⟨k.1, k.2, List.mem_cons_self⟩
    | tail _ ho => obtain ⟨t, i, hm⟩ := keepsL_mem hq o ho; exact ⟨t, i, List.mem_cons_of_mem _ hm⟩
  | [], _ :: _, r, e, _, _ => by cases e
  | _ :: _, [], r, e, _, _ => by cases e
theorem stage {C : Cfg} {forks : List Nat} (hmx : C.P.follows .mixedOrders = true) (hng : ∀ (g : Nat) (fn : Func), C.P.funcs[g]? = some fn → (fn.name == "runtime.NumGoroutine") = false) {f : Nat} {cs : List Code} {keeps : List (List Nat × List Nat)} {s : S} {outs : List (X × S)} (e : stageA C forks f cs keeps s = some outs) : Goes C cs s outs := by
  replace e := bnd_some.1 e; obtain ⟨l, h1, e⟩ := e
  exact fun N0 w0 hx hmo m dl a w R D => wpL_mono (fun _ _ _ ⟨o, ho, h⟩ => by
    obtain ⟨t, i, hm⟩ := keepsL_mem e o ho
    exact ⟨_, hm, post_keep t i h⟩) cs a w (codeL_ok hmx hng h1 N0 w0 hx hmo m dl a w R D)
/-- Behind a first part with one way out. -/
theorem goes_split {C : Cfg} {l : List Code} {k : Nat} {s s1 : S} {outs : List (X × S)} (h1 : Goes C (l.take k) s [(.norm, s1)]) (h2 : Goes C (l.drop k) s1 outs) : Goes C l s outs := by
  have : Goes C (l.take k ++ l.drop k) s outs := fun N0 w0 hx hmo m dl a w R D => by
    refine wpL_append _ a w (wpL_mono (fun e a1 w1 hp => ?_) _ a w (h1 N0 w0 hx hmo m dl a w R D))
    obtain ⟨o, ho, rfl, m1, dl1, R1, D1, W1, n1⟩ := hp
    cases ho with
    | head => exact wpL_mono (fun _ _ _ h => PostL.before W1 n1 h) _ a1 w1 (h2 N0 w0 hx hmo m1 dl1 a1 w1 R1 D1)
    | tail _ ho => cases ho
  rwa [List.take_append_drop] at this
/-- Behind a first part with two ways out. -/
theorem goes_split2 {C : Cfg} {l : List Code} {k : Nat} {s s1 s2 : S} {outs outs' : List (X × S)} (h1 : Goes C (l.take k) s [(.norm, s1), (.norm, s2)]) (h2 : Goes C (l.drop k) s1 outs) (h3 : Goes C (l.drop k) s2 outs') : Goes C l s (outs ++ outs') := by
  have : Goes C (l.take k ++ l.drop k) s (outs ++ outs') := fun N0 w0 hx hmo m dl a w R D => by
    refine wpL_append _ a w (wpL_mono (fun e a1 w1 hp => ?_) _ a w (h1 N0 w0 hx hmo m dl a w R D))
    obtain ⟨o, ho, rfl, m1, dl1, R1, D1, W1, n1⟩ := hp
    cases ho with
    | head => exact wpL_mono (fun _ _ _ h => (PostL.before W1 n1 h).sub fun _ => List.mem_append_left _) _ a1 w1 (h2 N0 w0 hx hmo m1 dl1 a1 w1 R1 D1)
    | tail _ ho =>
      cases ho with
      | head => exact wpL_mono (fun _ _ _ h => (PostL.before W1 n1 h).sub fun _ => List.mem_append_right _) _ a1 w1 (h3 N0 w0 hx hmo m1 dl1 a1 w1 R1 D1)
      | tail _ ho => cases ho
  rwa [List.take_append_drop] at this

/-- What the last stage leaves, the deferred calls run. -/
noncomputable def leavesL (C : Cfg) (f : Nat) (fn : Func) : List (X × S) → List (List Nat) → Option (List (V × H))
  | [], [] => some []
  | o :: os, k :: ks => (match o.1 with | .exit _ => none | _ => some ()).bind fun _ => (leaveA C f o.2.ds o.2.h).bind fun h' => (resultsA C.P o.2.env h' fn.results.toList).bind fun vs => (leavesL C f fn os ks).bind fun r => some ((oneOf vs, ⟨keepT h'.objs k, h'.next⟩) :: r)
  | _, _ => none
theorem leavesL_mem {C : Cfg} {f : Nat} {fn : Func} : ∀ {os : List (X × S)} {ks : List (List Nat)} {r : List (V × H)}, leavesL C f fn os ks = some r → ∀ o ∈ os, (∀ id, o.1 ≠ .exit id) ∧ ∃ h' vs k, leaveA C f o.2.ds o.2.h = some h' ∧ resultsA C.P o.2.env h' fn.results.toList = some vs ∧ (oneOf vs, (⟨keepT h'.objs k, h'.next⟩ : H)) ∈ r
  | [], [], r, _, o, ho => by cases ho
  | x :: xs, k :: ks, r, e, o, ho => by
    replace e := bnd_some.1 (show (match x.1 with | .exit _ => none | _ => some ()).bind _ = some r from e); obtain ⟨_, hne, e⟩ := e
    replace e := bnd_some.1 e; obtain ⟨h', h1, e⟩ := e
    replace e := bnd_some.1 e; obtain ⟨vs, h2, e⟩ := e
    replace e := bnd_some.1 e; obtain ⟨q, hq, e⟩ := e
    injection e with e; subst e
    cases ho with
    | head => exact ⟨fun id h => (by rw [h] at hne; cases hne), h', vs, k, h1, h2, List.mem_cons_self⟩
    | tail _ ho =>
      obtain ⟨g1, h', vs, k', g2, g3, g4⟩ := leavesL_mem hq o ho
      exact ⟨g1, h', vs, k', g2, g3, List.mem_cons_of_mem _ g4⟩
  | [], _ :: _, r, e, _, _ => by cases e
  | _ :: _, [], r, e, _, _ => by cases e
/-- A call in stages. -/
theorem memo_of {C : Cfg} (hmx : C.P.follows .mixedOrders = true) (hn : C.P.funcs.all (fun fn => !(fn.name == "runtime.NumGoroutine")) = true) {g : Nat} {fn : Func} {c : Code} (hg : C.P.funcs[g]? = some fn) (hb : fn.body = some c) {args : List V} {h : H} {souts : List (X × S)}
    (G : Goes C (flat c) ⟨putArgs args 0 .lf, args.length + (fn.ntmps - args.length), h, []⟩ souts) {f : Nat} {ks : List (List Nat)} {outs : List (V × H)} (he : leavesL C f fn souts ks = some outs) {N0 : Nat} {w0 : World} (hx : ExtOK C.P N0 w0 C.ext) (hmo : MemoOK C.P N0 w0 C.memo) :
    MemoOne C.P N0 w0 ⟨g, args, h, outs⟩ := by
  have hng := named_ok hn
  intro m w args' R hv
  refine ⟨Go.MuLone.run_callFunc_enter hg (hng g fn hg) hb _ w, callsIn_wide.1 (callsIn_of_wp_marks (F := FW none) (n := 0) hg hb trivial (wpIn_mono (flat_wp (G N0 w0 hx hmo m [] _ w (enter_rel R hv fn.ntmps) .nil)) fun e' a1 w1 hp => ?_))⟩
  obtain ⟨⟨y, s1⟩, ho, rfl, m1, dl1, R1, D1, W1, n1⟩ := hp
  obtain ⟨hne, h', vs, k, q1, q2, q3⟩ := leavesL_mem he _ ho
  have fin : LeavesInM (FW none) 0 C.P fn a1.tmps (fun e w' => ∃ o ∈ outs, ∃ m' v', e = .returned v' ∧ VRel m' o.1 v' ∧ Went C.P N0 w0 m h w m' o.2 w') a1.defers .returning w1 := by
    rw [R1.defers]
    refine (codeA_ok hmx hx hmo hng f).2.2.2 _ _ _ q1 m1 dl1 w1 fn a1.tmps _ R1.rel D1 fun m' w' W => ?_
    obtain ⟨v', h3, h4⟩ := results_run (a := a1) (dl := dl1) ⟨R1.defers, R1.size, fun t u hu => by obtain ⟨u', q1, q2⟩ := R1.vals t u hu; exact ⟨u', q1, q2.mono W.later.1⟩, W.good.rel⟩ q2
    exact ⟨v', h3, _, q3, m', v', rfl, h4, (W1.trans W).trans (went_sub W.good.rel rfl fun id o hgx => keepT_get _ _ _ _ hgx)⟩
  cases y with
  | norm => exact fin
  | exit id => exact absurd rfl (hne id)
  | ret => exact fin

/-- Of the ways out of a known call more may be named, and each once. -/
theorem MemoOne.sub {P : Program} {N0 : Nat} {w0 : World} {g : FuncId} {args : List V} {h : H} {outs outs' : List (V × H)} (k : MemoOne P N0 w0 ⟨g, args, h, outs⟩) (hs : ∀ o ∈ outs, o ∈ outs') : MemoOne P N0 w0 ⟨g, args, h, outs'⟩ :=
  fun m w args' R hv => ⟨(k m w args' R hv).1, (k m w args' R hv).2.mono fun _ _ ⟨o, ho, r⟩ => ⟨o, hs o ho, r⟩⟩
def isTrue1 : V × H → Bool | (.bool b, _) => b | _ => false
/-- A closed call in stages: true, whichever way it goes. -/
theorem goes_calls {C : Cfg} (hmx : C.P.follows .mixedOrders = true) {Fx : World → Prop} (hx : ∀ p ∈ C.ext, ExtOne C.P Fx p.1 p.2) (hn : C.P.funcs.all (fun fn => !(fn.name == "runtime.NumGoroutine")) = true) {g : Nat} {fn : Func} {c : Code} (hg : C.P.funcs[g]? = some fn) (hb : fn.body = some c)
    {h : H} {souts : List (X × S)} (G : Goes C (flat c) ⟨.lf, fn.ntmps, h, []⟩ souts) {f : Nat} {ks : List (List Nat)} {outs : List (V × H)} (he : leavesL C f fn souts ks = some outs) (ht : outs.all isTrue1 = true) (w : World) {m : Mu} (R : HRel C.P.globals.size w.heap.size w m h w) (hFx : ∀ w', Below w.heap.size w w' → w.heap.size ≤ w'.heap.size → Fx w')
    (hmo : ExtOK C.P w.heap.size w C.ext → MemoOK C.P w.heap.size w C.memo) :
    Calls C.P g #[] w fun e w' => e = .returned (.bool true) ∧ Below w.heap.size w w' := by
  have hE : ExtOK C.P w.heap.size w C.ext := ext_ok hFx hx
  have e0 : (⟨.lf, fn.ntmps, h, []⟩ : S) = ⟨putArgs [] 0 .lf, ([] : List V).length + (fn.ntmps - ([] : List V).length), h, []⟩ := by simp [putArgs]
  rw [e0] at G
  obtain ⟨_, h2⟩ := memo_of hmx hn hg hb G he hE (hmo hE) m w [] R .nil
  refine h2.mono fun e w' ⟨o, ho, m', v', he, hv, hw⟩ => ?_
  subst he
  have := List.all_eq_true.1 ht o ho
  obtain ⟨ov, oh⟩ := o
  cases ov <;> first | (cases this; done) | skip
  rename_i b
  have : b = true := this
  subst this
  exact ⟨by rw [bool_inv hv], hw.good.rel.below⟩

/-- The rows of package variables stand in every later world. -/
theorem move_rel {n k : Nat} {w w' : World} {t : T O} {m : Mu} (R : HRel n w.heap.size w m ⟨t, k⟩ w) (hb : Below w.heap.size w w') : HRel n w'.heap.size w' m ⟨t, k⟩ w' :=
  ⟨.refl _ _, Nat.le_refl _, R.dom, fun id o hg => by
    obtain ⟨L, e1, e2, e3, e4⟩ := R.objs id o hg
    refine ⟨L, e1, Nat.lt_of_lt_of_le e2 hb.size, fun hro => ?_, e4.heap (hb.block _ e2)⟩
    have := e3 hro; omega, R.inj, R.glob⟩
/-- A closed call that answers with a plain value; some of the calls under it are known. -/
theorem closed_calls_by {C : Cfg} (hm : C.P.follows .mixedOrders = true) {Fx : World → Prop} (hx : ∀ p ∈ C.ext, ExtOne C.P Fx p.1 p.2) (hn : C.P.funcs.all (fun fn => !(fn.name == "runtime.NumGoroutine")) = true) (hmo : C.memo = []) {g : Nat} {fn : Func} {c : Code} (hg : C.P.funcs[g]? = some fn) (hb : fn.body = some c)
    {fuel : Nat} {b : Bool} {h h' : H} (e : callA C fuel (.fn g) [] h = some (.bool b, h')) (w : World) {m : Mu} (R : HRel C.P.globals.size w.heap.size w m h w) (hFx : ∀ w', Below w.heap.size w w' → w.heap.size ≤ w'.heap.size → Fx w') :
    Calls C.P g #[] w fun e w' => e = .returned (.bool b) ∧ Below w.heap.size w w' := by
  have ok := (codeA_ok (N0 := w.heap.size) (w0 := w) hm (ext_ok hFx hx) (noMemo hmo) (named_ok hn) fuel).2.2.1.fn g [] h _ h' e m w [] R .nil
  rcases ok with ⟨_, h2⟩ | ⟨v', m', w', _, h1, _, _⟩
  · refine h2.mono fun e w' he => ?_
    obtain ⟨m', v', rfl, hv, hw⟩ := he
    exact ⟨by rw [bool_inv hv], hw.good.rel.below⟩
  · rw [Go.MuLone.run_callFunc_enter hg (named_ok hn g fn hg) hb] at h1
    cases h1
end Go.Proofs.YtejnegabdjpipaaGreatDoor.AM

/- Between two rounds of a loop: what has no name and lies low stands under any names; the counter of places may fall back. -/
namespace Go.Proofs.YtejnegabdjpipaaGreatDoor.AM
open Go.RowKit (Below)

mutual
/-- No names, and only places below n. -/
def okV (n : Nat) : V → Bool
  | .ptr i _ => Nat.blt i n
  | .sl i _ _ _ => Nat.blt i n
  | .sle i _ _ _ => Nat.blt i n
  | .map i => Nat.blt i n
  | .chan i => Nat.blt i n
  | .yield i => Nat.blt i n
  | .func _ f c => okVs n f && okVs n c
  | .iface _ v => okV n v
  | .agg vs => okVs n vs
  | .tup vs => okVs n vs
  | .tx _ => false
  | .nm _ _ => false
  | .nv _ _ _ _ _ => false
  | .tp _ _ _ _ => false
  | .ls _ _ => false
  | _ => true
def okVs (n : Nat) : List V → Bool
  | [] => true
  | v :: vs => okV n v && okVs n vs
end
def okEs (n : Nat) : List (V × V × Nat) → Bool
  | [] => true
  | (k, v, _) :: r => okV n k && okV n v && okEs n r
def okO (n : Nat) : O → Bool
  | .row r => okVs n r.cs
  | .map es _ => okEs n es
  | .chan _ => true
  | .siter _ _ => true
  | .miter none _ _ _ => true
  | .miter (some i) _ _ _ => Nat.blt i n
  | .defs _ => true
  | .loop .. => false
  | .ls _ => false
def Mu.low (m : Mu) (n : Nat) : Mu := fun i => if i < n then m i else none
theorem Mu.low_at {m : Mu} {n i : Nat} {L : Loc} (h : Nat.blt i n = true) (e : m i = some L) : m.low n i = some L := by
  have : i < n := Nat.le_of_ble_eq_true h
  simp only [Mu.low]; rw [if_pos this]; exact e
/-- Names that are no instance. -/
abbrev SymsB := { s : Syms // True }
mutual
theorem VRel.reset {σ : SymsB} [Syms] {m : Mu} {n : Nat} {v : V} {x : Value} (h : okV n v = true) (k : VRel m v x) : @VRel σ.1 (m.low n) v x := by
  cases k with
  | undef => exact @VRel.undef σ.1 _
  | bool b => exact @VRel.bool σ.1 _ b
  | int k n => exact @VRel.int σ.1 _ k n
  | str s => exact @VRel.str σ.1 _ s
  | ptr id off L e => exact @VRel.ptr σ.1 _ id off L (Mu.low_at h e)
  | nilptr => exact @VRel.nilptr σ.1 _
  | slc id off len c L e => exact @VRel.slc σ.1 _ id off len c L (Mu.low_at h e)
  | slo id off len c L e e1 e2 => exact @VRel.slo σ.1 _ id off len c L (Mu.low_at h e) e1 e2
  | nilsl => exact @VRel.nilsl σ.1 _
  | map id L e => exact @VRel.map σ.1 _ id L (Mu.low_at h e)
  | nilmap => exact @VRel.nilmap σ.1 _
  | chan id L e => exact @VRel.chan σ.1 _ id L (Mu.low_at h e)
  | nilchan => exact @VRel.nilchan σ.1 _
  | func fn f c f' c' hf hc =>
    have h : (okVs n f && okVs n c) = true := h
    simp only [Bool.and_eq_true] at h
    exact @VRel.func σ.1 _ fn f c f' c' (VsRel.reset h.1 hf) (VsRel.reset h.2 hc)
  | nilfunc => exact @VRel.nilfunc σ.1 _
  | yield id L e => exact @VRel.yield σ.1 _ id L (Mu.low_at h e)
  | esl a c => exact @VRel.esl σ.1 _ a c
  | sle id off len k c L e e1 e2 e3 => exact @VRel.sle σ.1 _ id off len k c L (Mu.low_at h e) e1 e2 e3
  | atl k c e => exact @VRel.atl σ.1 _ k c e
  | tx k => cases h
  | nm kd k => cases h
  | nv k c lo hi rel v e1 e2 e3 e4 => cases h
  | any x e => exact @VRel.any σ.1 _ x e
  | tp pre k lo hi e1 e2 => cases h
  | ls id k c L e e1 => cases h
  | iface t v v' e => exact @VRel.iface σ.1 _ t v v' (VRel.reset (show okV n v = true from h) e)
  | nilif => exact @VRel.nilif σ.1 _
  | agg vs vs' e => exact @VRel.agg σ.1 _ vs vs' (VsRel.reset (show okVs n vs = true from h) e)
  | tup vs vs' e => exact @VRel.tup σ.1 _ vs vs' (VsRel.reset (show okVs n vs = true from h) e)
theorem VsRel.reset {σ : SymsB} [Syms] {m : Mu} {n : Nat} {vs : List V} {xs : List Value} (h : okVs n vs = true) (k : VsRel m vs xs) : @VsRel σ.1 (m.low n) vs xs := by
  cases k with
  | nil => exact @VsRel.nil σ.1 _
  | cons v v' vs vs' e es =>
    have h : (okV n v && okVs n vs) = true := h
    simp only [Bool.and_eq_true] at h
    exact @VsRel.cons σ.1 _ v v' vs vs' (VRel.reset h.1 e) (VsRel.reset h.2 es)
end
theorem EsRel.reset {σ : SymsB} [Syms] {m : Mu} {n : Nat} {es : List (V × V × Nat)} {es' : List MapEntry} (h : okEs n es = true) (k : EsRel m es es') : @EsRel σ.1 (m.low n) es es' := by
  induction k with
  | nil => exact @EsRel.nil σ.1 _
  | cons k v q k' v' es es' hk hv r ih =>
    have h : (okV n k && okV n v && okEs n es) = true := h
    simp only [Bool.and_eq_true] at h
    exact @EsRel.cons σ.1 _ k v q k' v' es es' (hk.reset h.1.1) (hv.reset h.1.2) (ih h.2)
theorem ORel.reset {σ : SymsB} [Syms] {m : Mu} {n : Nat} {w : World} {L : Loc} {o : O} (h : okO n o = true) (k : ORel m w L o) : @ORel σ.1 (m.low n) w L o := by
  cases o with
  | row r =>
    obtain ⟨c, fz, k⟩ := k
    exact ⟨c, fz, @RowRel.mk σ.1 _ _ _ _ _ _ k.at_ k.sz k.fits k.ends (k.vals.reset h) k.frz k.ex⟩
  | map es clock => obtain ⟨es', h1, h2⟩ := k; exact ⟨es', h1, h2.reset h⟩
  | chan closed => exact k
  | siter s pos => exact k
  | miter mp since seen last =>
    obtain ⟨h0, mp', h1, h2⟩ := k
    refine ⟨h0, mp', h1, ?_⟩
    cases mp with
    | none => exact h2
    | some id => obtain ⟨L', e, e'⟩ := h2; exact ⟨L', Mu.low_at h e, e'⟩
  | loop => cases h
  | defs live => exact k
  | ls q => cases h
theorem keepT_mem {α : Type} (t : T α) : ∀ (is : List Nat) (i : Nat) (x : α), (keepT t is).get i = some x → i ∈ is
  | [], i, x, h => by cases h
  | j :: is, i, x, h => by
    by_cases hij : j = i
    · subst hij; exact List.mem_cons_self
    · have h : ((keepT t is).put j (t.get j)).get i = some x := h
      rw [T.put_get_other _ _ _ _ hij] at h
      exact List.mem_cons_of_mem _ (keepT_mem t is i x h)
/-- May these objects stay? -/
noncomputable def okIds (n : Nat) (t : T O) : List Nat → Bool
  | [] => true
  | i :: is => Nat.blt i n && osel (t.get i) true (okO n) && okIds n t is
theorem okIds_at {n : Nat} {t : T O} : ∀ {is : List Nat}, okIds n t is = true → ∀ i ∈ is, i < n ∧ ∀ o, t.get i = some o → okO n o = true
  | [], _, i, hi => by cases hi
  | j :: is, h, i, hi => by
    have h : (Nat.blt j n && osel (t.get j) true (okO n) && okIds n t is) = true := h
    simp only [Bool.and_eq_true] at h
    cases hi with
    | head =>
      refine ⟨Nat.le_of_ble_eq_true h.1.1, fun o ho => ?_⟩
      have h2 := h.1.2
      rw [ho] at h2; exact h2
    | tail _ hi => exact okIds_at h.2 i hi
noncomputable def okTmps (n : Nat) (env : T V) : List Nat → Bool
  | [] => true
  | t :: ts => osel (env.get t) true (okV n) && okTmps n env ts
theorem okTmps_at {n : Nat} {env : T V} : ∀ {ts : List Nat}, okTmps n env ts = true → ∀ t ∈ ts, ∀ v, env.get t = some v → okV n v = true
  | [], _, t, ht => by cases ht
  | u :: ts, h, t, ht => by
    have h : (osel (env.get u) true (okV n) && okTmps n env ts) = true := h
    simp only [Bool.and_eq_true] at h
    cases ht with
    | head => intro v hv; have h1 := h.1; rw [hv] at h1; exact h1
    | tail _ ht => exact okTmps_at h.2 t ht
/-- What is kept of a state, at a lower counter. -/
noncomputable def backS (n : Nat) (tmps ids : List Nat) (s : S) : S := ⟨keepT s.env tmps, s.n, ⟨keepT s.h.objs ids, n⟩, s.ds⟩
section
variable {P : Program} {N0 : Nat} {w0 : World}
theorem HRel.reset {NG : Nat} {σ : SymsB} [Syms] {m : Mu} {h : H} {w : World} {n : Nat} {ids : List Nat} (R : HRel NG N0 w0 m h w) (hn : NG ≤ n) (ho : okIds n h.objs ids = true) : @HRel σ.1 NG N0 w0 (m.low n) ⟨keepT h.objs ids, n⟩ w := by
  have key : ∀ id o, (keepT h.objs ids).get id = some o → id < n ∧ h.get id = some o ∧ okO n o = true := fun id o hg => by
    have h1 := keepT_mem _ _ _ _ hg
    have h2 := keepT_get _ _ _ _ hg
    obtain ⟨h3, h4⟩ := okIds_at ho id h1
    exact ⟨h3, h2, h4 o h2⟩
  refine @HRel.mk σ.1 _ _ _ _ _ _ R.below R.n0 (fun id hid => ?_) (fun id o hg => ?_) (fun i j oi oj Li Lj hi hj ei ej eb => ?_) (fun g hg => ?_)
  · have : n ≤ id := hid
    simp only [Mu.low]; rw [if_neg (by omega)]
  · obtain ⟨h1, h2, h3⟩ := key id o hg
    obtain ⟨L, e1, e2, e3, e4⟩ := R.objs id o h2
    exact ⟨L, by simp only [Mu.low]; rw [if_pos h1]; exact e1, e2, e3, e4.reset h3⟩
  · obtain ⟨h1, h2, _⟩ := key i oi hi
    obtain ⟨h3, h4, _⟩ := key j oj hj
    simp only [Mu.low] at ei ej
    rw [if_pos h1] at ei
    rw [if_pos h3] at ej
    exact R.inj i j oi oj Li Lj h2 h4 ei ej eb
  · obtain ⟨L, e1, e2⟩ := R.glob g hg
    exact ⟨L, by simp only [Mu.low]; rw [if_pos (by omega)]; exact e1, e2⟩
theorem SRel.reset {σ : SymsB} [Syms] {m : Mu} {s : AM.S} {dl : List Deferred} {a : Act} {w : World} {n : Nat} {tmps ids : List Nat} (R : SRel P N0 w0 m s.env s.n s.h dl a w) (hn : P.globals.size ≤ n) (ht : okTmps n s.env tmps = true) (ho : okIds n s.h.objs ids = true) :
    @SRel σ.1 P N0 w0 (m.low n) (backS n tmps ids s).env s.n (backS n tmps ids s).h dl a w :=
  @SRel.mk σ.1 _ _ _ _ _ _ _ _ _ _ R.defers R.size (fun t v hv => by
    have h1 := keepT_mem _ _ _ _ hv
    have h2 := keepT_get _ _ _ _ hv
    obtain ⟨x, e1, e2⟩ := R.vals t v h2
    exact ⟨x, e1, e2.reset (okTmps_at ht t h1 v h2)⟩) (R.rel.reset hn ho)
/-- Another name for what a temporary holds. -/
theorem SRel.put [Syms] {m : Mu} {env : T V} {n : Nat} {h : H} {dl : List Deferred} {a : Act} {w : World} (R : SRel P N0 w0 m env n h dl a w) {t : Nat} {v : V} {x : Value} (hx : a.tmps[t]? = some x) (hv : VRel m v x) : SRel P N0 w0 m (env.put t (some v)) n h dl a w where
  defers := R.defers
  size := R.size
  vals := fun u y hy => by
    by_cases e : t = u
    · subst e
      rw [T.put_get] at hy; injection hy with hy; subst hy
      exact ⟨x, hx, hv⟩
    · rw [T.put_get_other _ _ _ _ e] at hy
      exact R.vals u y hy
  rel := R.rel
end

/-! ### What is known of a part of the code, and no more -/
def PostW [Syms] (P : Program) (N0 : Nat) (w0 : World) (outs : List (X × S)) : Exit → Act → World → Prop := fun e a w => ∃ o ∈ outs, e = o.1.toExit ∧ ∃ m dl, SRel P N0 w0 m o.2.env o.2.n o.2.h dl a w ∧ DsRel m o.2.ds dl
theorem Goes.weak [Syms] {C : Cfg} {cs : List Code} {s : S} {outs : List (X × S)} (g : Goes C cs s outs) {N0 : Nat} {w0 : World} (hx : ExtOK C.P N0 w0 C.ext) (hmo : MemoOK C.P N0 w0 C.memo) {m : Mu} {dl : List Deferred} {a : Act} {w : World} (R : SRel C.P N0 w0 m s.env s.n s.h dl a w) (D : DsRel m s.ds dl) :
    wpL (FW none) 0 C.P (PostW C.P N0 w0 outs) cs a w :=
  wpL_mono (fun e a1 w1 ⟨o, ho, h0, m1, dl1, R1, D1, _, _⟩ => ⟨o, ho, h0, m1, dl1, R1, D1⟩) cs a w (g N0 w0 hx hmo m dl a w R D)
end Go.Proofs.YtejnegabdjpipaaGreatDoor.AM

/- A call whose body is gone through in parts: loops by hand, the rest by the smaller machine. -/
namespace Go.Proofs.YtejnegabdjpipaaGreatDoor.AM
variable [Syms]
open Go.RowKit (Below)

/-- The law's end: it returns true. -/
def Fin (P : Program) (N0 : Nat) (w0 : World) (fn : Func) : Exit → Act → World → Prop := fun e a w => (e = .normal ∨ e = .ret) ∧ ∃ (s : S) (m : Mu), SRel P N0 w0 m s.env s.n s.h [] a w ∧ resultsA P s.env s.h fn.results.toList = some [.bool true]
theorem calls_by {C : Cfg} (hmx : C.P.follows .mixedOrders = true) (hn : C.P.funcs.all (fun fn => !(fn.name == "runtime.NumGoroutine")) = true) {g : Nat} {fn : Func} {c : Code} (hg : C.P.funcs[g]? = some fn) (hb : fn.body = some c)
    {args : List V} {args' : List Value} {h : H} {m : Mu} {w : World} (R : HRel C.P.globals.size w.heap.size w m h w) (hv : VsRel m args args') (hx : ExtOK C.P w.heap.size w C.ext) (hmo : MemoOK C.P w.heap.size w C.memo)
    (H : ∀ a, SRel C.P w.heap.size w m (putArgs args 0 .lf) (args.length + (fn.ntmps - args.length)) h [] a w → wpL (FW none) 0 C.P (Fin C.P w.heap.size w fn) (flat c) a w) :
    Calls C.P g args'.toArray w fun e w' => e = .returned (.bool true) ∧ Below w.heap.size w w' := by
  have hng := named_ok hn
  refine callsIn_wide.1 (callsIn_of_wp_marks (F := FW none) (n := 0) hg hb trivial (wpIn_mono (flat_wp (H _ (enter_rel R hv fn.ntmps))) fun e' a1 w1 hp => ?_))
  obtain ⟨he, s, m1, R1, hr⟩ := hp
  have fin : LeavesInM (FW none) 0 C.P fn a1.tmps (fun e w' => e = .returned (.bool true) ∧ Below w.heap.size w w') a1.defers .returning w1 := by
    rw [R1.defers]
    refine (codeA_ok hmx hx hmo hng 1).2.2.2 [] s.h s.h rfl m1 [] w1 fn a1.tmps _ R1.rel .nil fun m' w' W => ?_
    obtain ⟨v', h3, h4⟩ := results_run (a := a1) (dl := []) ⟨R1.defers, R1.size, fun t u hu => by obtain ⟨u', q1, q2⟩ := R1.vals t u hu; exact ⟨u', q1, q2.mono W.later.1⟩, W.good.rel⟩ hr
    exact ⟨v', h3, by rw [bool_inv h4], W.good.rel.below⟩
  rcases he with rfl | rfl
  · exact fin
  · exact fin

/-- In a table one object for another. -/
theorem HRel.swap {NG N0 : Nat} {w0 : World} {m : Mu} {t : T O} {q k : Nat} {o1 o2 : O} {w : World} (R : HRel NG N0 w0 m ⟨t.put q (some o1), k⟩ w) (hro : o2.ro = o1.ro) (h : ∀ L, ORel m w L o1 → ORel m w L o2) : HRel NG N0 w0 m ⟨t.put q (some o2), k⟩ w := by
  have key : ∀ id o, (t.put q (some o2)).get id = some o → ∃ o', (t.put q (some o1)).get id = some o' ∧ o.ro = o'.ro ∧ ∀ L, ORel m w L o' → ORel m w L o := by
    intro id o e
    by_cases hq : q = id
    · subst hq
      rw [T.put_get] at e; injection e with e; subst e
      exact ⟨o1, T.put_get _ _ _, hro, h⟩
    · rw [T.put_get_other _ _ _ _ hq] at e
      exact ⟨o, (T.put_get_other _ _ _ _ hq).trans e, rfl, fun _ k => k⟩
  refine ⟨R.below, R.n0, R.dom, fun id o e => ?_, fun i j oi oj Li Lj hi hj => ?_, R.glob⟩
  · obtain ⟨o', e1, e2, e3⟩ := key id o e
    obtain ⟨L, f1, f2, f3, f4⟩ := R.objs id o' e1
    exact ⟨L, f1, f2, fun hr => f3 (e2 ▸ hr), e3 L f4⟩
  · obtain ⟨oi', e1, _, _⟩ := key i oi hi
    obtain ⟨oj', e2, _, _⟩ := key j oj hj
    exact R.inj i j oi' oj' Li Lj e1 e2
theorem SRel.swap {P : Program} {N0 : Nat} {w0 : World} {m : Mu} {e : T V} {t : Nat} {v1 v2 : V} {n : Nat} {h : H} {dl : List Deferred} {a : Act} {w : World} (R : SRel P N0 w0 m (e.put t (some v1)) n h dl a w) (hv : ∀ x, VRel m v1 x → VRel m v2 x) : SRel P N0 w0 m (e.put t (some v2)) n h dl a w where
  defers := R.defers
  size := R.size
  vals := fun u y hy => by
    by_cases hq : t = u
    · subst hq
      rw [T.put_get] at hy; injection hy with hy; subst hy
      obtain ⟨x, e1, e2⟩ := R.vals t v1 (T.put_get _ _ _)
      exact ⟨x, e1, hv x e2⟩
    · rw [T.put_get_other _ _ _ _ hq] at hy
      exact R.vals u y ((T.put_get_other _ _ _ _ hq).trans hy)
  rel := R.rel
/-- In a row one cell for another. -/
theorem ORel.cell {m : Mu} {w : World} {L : Loc} {el sz frz : Nat} {st ro ex : Bool} {v1 v2 : V} (xs ys : List V) (hv : ∀ x, VRel m v1 x → VRel m v2 x) (k : ORel m w L (.row ⟨xs ++ v1 :: ys, el, sz, frz, st, ro, ex⟩)) : ORel m w L (.row ⟨xs ++ v2 :: ys, el, sz, frz, st, ro, ex⟩) := by
  obtain ⟨c, fz, k⟩ := k
  have hl : (xs ++ v2 :: ys).length = (xs ++ v1 :: ys).length := by simp
  have go : ∀ (xs : List V) (zs : List Value), VsRel m (xs ++ v1 :: ys) zs → VsRel m (xs ++ v2 :: ys) zs := by
    intro xs
    induction xs with
    | nil => intro zs h; cases h with | cons _ z _ zs' e es => exact .cons _ _ _ _ (hv _ e) es
    | cons x xs ih => intro zs h; cases h with | cons _ z _ zs' e es => exact .cons _ _ _ _ e (ih _ es)
  exact ⟨c, fz, { at_ := k.at_, sz := k.sz, fits := by have := k.fits; simp only [] at this ⊢; rw [hl]; exact this, ends := k.ends, vals := by have := k.vals; simp only [] at this ⊢; rw [hl]; exact go _ _ this, frz := k.frz, ex := fun h => by have := k.ex h; simp only [] at this ⊢; rw [hl]; exact this }⟩
/-- The counter of places may rise. -/
theorem SRel.raise {P : Program} {N0 : Nat} {w0 : World} {m : Mu} {e : T V} {n k k' : Nat} {t : T O} {dl : List Deferred} {a : Act} {w : World} (R : SRel P N0 w0 m e n ⟨t, k⟩ dl a w) (h : k ≤ k') : SRel P N0 w0 m e n ⟨t, k'⟩ dl a w :=
  ⟨R.defers, R.size, R.vals, ⟨R.rel.below, R.rel.n0, fun id hid => R.rel.dom id (Nat.le_trans h hid), R.rel.objs, R.rel.inj, R.rel.glob⟩⟩
/-- One part of the code, run by the smaller machine. -/
theorem part_of {C : Cfg} {forks : List Nat} (hmx : C.P.follows .mixedOrders = true) (hn : C.P.funcs.all (fun fn => !(fn.name == "runtime.NumGoroutine")) = true) {N0 : Nat} {w0 : World} (hx : ExtOK C.P N0 w0 C.ext) (hmo : MemoOK C.P N0 w0 C.memo) {f : Nat} {cs : List Code} {keeps : List (List Nat × List Nat)} {s : S} {outs : List (X × S)}
    (e : stageA C forks f cs keeps s = some outs) {m : Mu} {dl : List Deferred} {a : Act} {w : World} (R : SRel C.P N0 w0 m s.env s.n s.h dl a w) (D : DsRel m s.ds dl) {Q : Exit → Act → World → Prop} (hQ : ∀ e a w, PostW C.P N0 w0 outs e a w → Q e a w) : wpL (FW none) 0 C.P Q cs a w :=
  wpL_mono hQ cs a w ((stage hmx (named_ok hn) e).weak hx hmo R D)
end Go.Proofs.YtejnegabdjpipaaGreatDoor.AM

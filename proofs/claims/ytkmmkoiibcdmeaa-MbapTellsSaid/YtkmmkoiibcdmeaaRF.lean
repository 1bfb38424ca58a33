/- A range over a function, one round at a time: the loop's record, a round that goes on, the statement. -/
import Derived.RangeFuncNested
import Derived.RangeFuncBound
import Derived.RangeFuncCalls
import Derived.RangeFuncLeaves
import Derived.Shelf.Abstract
import Derived.WalkKit
import Derived.OwnWalkIn
import Derived.TacticsInMore
import Derived.LoopNIn
import Derived.LoopIn
import Derived.Test.YtkmmkoiibcdmeaaKit
import Derived.Test.YtkmmkoiibcdmeaaWApart
import Derived.Test.YtkmmkoiibcdmeaaWMore
import Derived.Maps.AppendAt
namespace Go.Proofs.Ytkmmkoiibcdmeaa
open Go.RowKit Go.Shelf Go.Proofs.YtkmmkoiibcdmeaaW.PrintWords Go.Proofs.YtkmmkoiibcdmeaaW.PrintLast Go.Proofs.YtkmmkoiibcdmeaaW.PrintMore
set_option linter.unusedVariables false
section
variable {F : Fence} {n : Nat} {P : Program}
theorem putObj_twice (W : World) (l : Nat) (o o' : Obj) : (W.putObj l o).putObj l o' = W.putObj l o' := by
  unfold World.putObj; simp
/-- What is known of a world but of block l. -/
structure Bar (l : Nat) (W W' : World) : Prop where
  os : W'.os = W.os
  tape : W'.tape = W.tape
  output : W'.output = W.output
  size : W.heap.size ≤ W'.heap.size
  block : ∀ k, k < W.heap.size → k ≠ l → W'.heap[k]? = W.heap[k]?
theorem bar_put (W : World) (l : Nat) (o : Obj) : Bar l W (W.putObj l o) := ⟨rfl, rfl, rfl, by simp, fun k _ h => World.putObj_heap_other h⟩
/-- One round that goes on. -/
theorem round_on {l : Nat} {r : Loop} {args : Array Value} {W : World} {R : World → Prop} (hl : W.heap[l]? = some (.loop r)) (hr : r.state = .ready) (hp : r.pending = none) (hf : F.fn r.fn) (hs : args.size = r.params.size)
    (h : ∀ rb : Loop, r.assign.wpIn (F.inRound l) n P (Exit.then (fun a' W' => W'.heap[l]? = some (.loop r) ∧ ∀ W2, Bar l W' W2 → W2.heap[l]? = some (.loop rb) → r.body.wpIn (F.inRound l) n P (fun e _ W3 => e = .normal ∧ W3.heap[l]? = some (.loop rb) ∧ ∀ W4, Bar l W3 W4 → W4.heap[l]? = some (.loop r) → R W4) a' W2) (fun _ _ _ => False))
      { tmps := (r.params.zip args).foldl (fun t (p, v) => t.setIfInBounds p v) r.tmps, defers := [] } W) :
    YieldAt F n P l args W fun e B => e = .returned (.bool true) ∧ R B := by
  refine ⟨_, _, _, _, run_yield (P := P) (args := args) hl hs, roundIn_of_wpIn hf (wpIn_mono (h { r with state := .busy }) ?_)⟩
  intro e a' W' he
  cases e with
  | normal =>
    obtain ⟨h1, h2⟩ := he
    refine ⟨_, run_beginRound h1 hr, wpIn_mono (h2 _ (bar_put _ _ _) (World.putObj_heap_same (Array.getElem?_eq_some_iff.1 h1).1)) ?_⟩
    rintro e3 a3 W3 ⟨rfl, h3, h4⟩
    refine ⟨_, _, run_endRound none h3, rfl, ?_⟩
    have e : ({ { r with state := LoopState.busy } with state := if (none : Option Code).isNone then LoopState.ready else LoopState.done, pending := none } : Loop) = r := by
      cases r; simp only at hr hp; subst hr hp; rfl
    rw [e]
    exact h4 _ (bar_put _ _ _) (World.putObj_heap_same (Array.getElem?_eq_some_iff.1 h3).1)
  | ret => exact he
  | exit id => exact he
  | goto t => exact he
  | panic c => exact he
  | outgrown => exact he
/-- The statement 'for .. := range g { .. }', whose body never leaves. -/
theorem range_on {g : Operand} {ps : Array Tmp} {assign body : Code} {Q : Exit → Act → World → Prop} {a : Act} {w : World}
    (hro : F.round = none) (h1 : 1 ≤ n) {gf : Nat} {lb : Array Value} (hg : a.eval g = .func (.func gf) #[] lb) (hF : F.fn gf) (eg : ∀ args w, (callFunc gf args).run P w = .ok (.enter gf args) w)
    (h : ∀ r : Loop, F.fn r.fn → r.state = .ready → r.pending = none → r.tmps = a.tmps → r.params = ps → r.assign = assign → r.body = body → ∀ W1, W1 = (w.alloc (.deferred (some []))).alloc (.loop r) →
      CallsIn F (n - 1) P gf (#[.func (.yield (w.heap.size + 1)) #[] #[]] ++ lb) W1 fun e B => (∃ v, e = .returned v) ∧ B.heap[w.heap.size + 1]? = some (.loop r) ∧
        ∀ B', Bar (w.heap.size + 1) B B' → Q .normal { a with defers := { target := .collected w.heap.size, args := #[] } :: a.defers } B') :
    (Code.rangeFunc g ps assign body).wpIn F n P Q a w := by
  refine wpIn_rangeFunc ?_
  intro fn hfn
  rw [hro]
  obtain ⟨r, hr⟩ : ∃ r : Loop, r = { state := .ready, pending := none, fn, tmps := a.tmps, params := ps, assign, body, defers := w.heap.size } := ⟨_, rfl⟩
  obtain ⟨W1, hW1⟩ : ∃ W1, W1 = (w.alloc (.deferred (some []))).alloc (.loop r) := ⟨_, rfl⟩
  have hc := h r (by rw [hr]; exact hfn) (by rw [hr]) (by rw [hr]) (by rw [hr]) (by rw [hr]) (by rw [hr]) (by rw [hr]) W1 hW1
  have hent : (Instr.enterLoop fn a.tmps ps assign body none).run P w = .ok (w.heap.size + 1, [{ target := .collected w.heap.size, args := #[] }]) W1 := by
    rw [hW1, hr]; exact run_enterLoop_outer _ _ _ _ _
  have hp : r.pending = none := by rw [hr]
  have hb : r.state ≠ .busy := by rw [hr]; intro e; cases e
  clear hr hW1
  refine ⟨w.heap.size + 1, [{ target := .collected w.heap.size, args := #[] }], W1, { target := .fn (.func gf) lb, args := #[.func (.yield (w.heap.size + 1)) #[] #[]] }, W1, gf,
    #[.func (.yield (w.heap.size + 1)) #[] #[]] ++ lb, W1, ?_, ?_, ?_, ?_, fun _ => h1, ?_⟩
  · exact hent
  · skip
    simp only [resolve, hg]
    simp [go_sem]
  · skip
    intro f' hf'; simp [Target.leads] at hf'; subst hf'; exact hF
  · skip
    simp [invoke, go_sem, eg]
  · skip
    refine hc.mono ?_
    rintro e B ⟨⟨v, rfl⟩, hl, hq⟩
    have he := run_endLoop (P := P) hl hb
    rw [hp] at he
    exact ⟨none, _, he, hq _ (bar_put _ _ _)⟩
end
section
variable {F : Fence} {n : Nat} {P : Program} {ops : Array Oper} {rest : List Oper} {o : Oper} {a : Act} {Q : Exit → Act → World → Prop} {α : Type}
/-- append(v, x) inside a fence: x's blocks are okp, none of them v's. -/
theorem R_append_in (d : Kd α) {w0 W : World} (base : Nat) (hgd : o.guard = none) (s x : Operand) (t e : TypeId) (z : Value) (bytes : Nat)
    (ho : o.op = .call { callee := .builtin .append, args := #[s, x], argTypes := #[t, t] })
    (ht : P.underlying t = some (.slice e)) (hinfo : (P.info? e).map (fun i => (i.zero, i.size, i.bytes)) = some (some z, d.sz, bytes)) (hz : z.cells.size = d.sz) (hs0 : 0 < d.sz) (hb0 : 0 < bytes)
    (v : Value) (xs : List α) (p : α) (cs : List Value) (ok okp : Nat → Prop) (hs : a.eval s = v) (hx : a.eval x = .slice (some ⟨W.heap.size, 0, none⟩) 1 1) (hp : d.M W base okp p cs) (hokp : ∀ k, okp k → ok k ∧ some k ≠ v.ownBlock) (hfresh : ∀ k, W.heap.size ≤ k → ok k)
    (HO : d.R e W base ok v xs) (HB : Below base w0 W) (hbase : base ≤ W.heap.size) (hl : (xs.length + 1) * bytes ≤ 140737488355328)
    (h : ∀ v1 w1, d.R e w1 base ok v1 (xs ++ [p]) → Below base w0 w1 → W.grownBy w1 v.ownBlock → wpListIn F n P ops Q rest (a.put o.dst v1) w1) :
    wpListIn F n P ops Q (o :: rest) a (W.alloc (.cells cs.toArray e)) := by
  obtain ⟨h0, inner, hown, hr⟩ := HO
  obtain ⟨i0, hi, hzz⟩ := Option.map_eq_some_iff.1 hinfo
  simp only [Prod.mk.injEq] at hzz
  obtain ⟨hz0, hz1, hz2⟩ := hzz
  have hlen : xs.length + 1 ≤ 140737488355328 := Nat.le_trans (Nat.le_mul_of_pos_right _ hb0) hl
  have hcl := d.K_len (d.K_of_M hp)
  obtain ⟨v1, w1, hrun, hown1, hg, _, hat⟩ := run_append_own_at (P := P) (W.alloc (.cells cs.toArray e)) base t o.type e i0 z d.sz bytes ht hi hz0 hz1 hz2 hz hs0 v xs.length inner (hown.alloc _) ⟨W.heap.size, 0, none⟩ 1 1 cs (by rw [hcl]; simp)
    (by simpa using World.news_of_block (cs := cs.toArray) (t := e) (fr := (0, 0)) (heap_alloc_new W (.cells cs.toArray e))) (d.K_one (d.K_of_M hp)) (by simp only [maxLen]; omega) hl (by simp; omega)
  have hg1 : W.grownBy w1 v.ownBlock := World.grownBy.trans (World.grownBy_alloc W _ _) hg
  have hat1 : v1.ownBlock = v.ownBlock ∨ ∃ b, v1.ownBlock = some b ∧ W.heap.size ≤ b := by
    rcases hat with hat | hat
    · exact .inl hat
    · exact .inr ⟨_, hat, by simp⟩
  refine wpListIn_plain hgd fun K hK' => ?_
  unfold Oper.wpIn
  refine ⟨?_, ?_⟩
  · simp [Oper.about, ho, resolve, Target.leads, Sem.run_pure]
  · rw [Oper.semAt_plain F _ _ (by rw [ho]; intro c hc'; cases hc')]
    simp [execOp, ho, resolve, invoke, builtin, hs, hx, hrun, Result.andThen]
    exact hK' _ _ (h v1 w1 (Kd.R_appended h0 hr hp hokp hfresh hown1 hg1 hat1) ((HB.alloc hbase _).grown hg (by simp; omega) (own_base hown)) hg1)
theorem S_append_in (d : Kd α) {w0 W : World} (base : Nat) (hgd : o.guard = none) (s x : Operand) (t e : TypeId) (z : Value) (bytes : Nat)
    (ho : o.op = .call { callee := .builtin .append, args := #[s, x], argTypes := #[t, t] })
    (ht : P.underlying t = some (.slice e)) (hinfo : (P.info? e).map (fun i => (i.zero, i.size, i.bytes)) = some (some z, d.sz, bytes)) (hz : z.cells.size = d.sz) (hs0 : 0 < d.sz) (hb0 : 0 < bytes)
    (v : Value) (xs : List α) (p : α) (cs : List Value) (ok okp : Nat → Prop) (hs : a.eval s = v) (hx : a.eval x = .slice (some ⟨W.heap.size, 0, none⟩) 1 1) (hp : d.M W base okp p cs) (hokp : ∀ k, okp k → ok k ∧ some k ≠ v.ownBlock) (hfresh : ∀ k, W.heap.size ≤ k → ok k)
    (HO : Kd.S d e W base (fun k => ok k ∧ ¬ okp k) v xs) (HB : Below base w0 W) (hbase : base ≤ W.heap.size) (hl : (xs.length + 1) * bytes ≤ 140737488355328)
    (h : ∀ v1 w1, Kd.S d e w1 base ok v1 (xs ++ [p]) → Below base w0 w1 → W.grownBy w1 v.ownBlock → wpListIn F n P ops Q rest (a.put o.dst v1) w1) :
    wpListIn F n P ops Q (o :: rest) a (W.alloc (.cells cs.toArray e)) := by
  obtain ⟨f, hf, hR⟩ := Kd.S_tag HO xs.length okp (fun _ hk h2 => h2.2 hk)
  refine R_append_in (Kd.tag f d) base hgd s x t e z bytes ho ht hinfo hz hs0 hb0 v xs.zipIdx (p, xs.length) cs ok okp hs hx (d.M_mono (fun k hk => ⟨hk, hf k hk⟩) hp) hokp hfresh (Kd.R_mono hR (fun _ hk => hk.1)) HB hbase (by rw [List.length_zipIdx]; exact hl) ?_
  intro v1 w1 hr
  rw [← Kd.zip_snoc] at hr
  exact h v1 w1 ⟨f, hr⟩
end
end Go.Proofs.Ytkmmkoiibcdmeaa

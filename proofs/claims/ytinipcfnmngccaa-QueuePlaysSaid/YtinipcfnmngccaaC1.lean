/- The queue's methods at ints and at bools: what each comes to. -/
import Derived.Test.YtinipcfnmngccaaKit
import Derived.Conc.LoneSelect
import Derived.Conc.LoneSelectN
import Derived.KernelRfl
import Derived.Laws.Rows
import Derived.Laws.Runes
import Derived.Laws.Tables
namespace Go.Proofs.Ytinipcfnmngccaa
open Go.Conc Go.RowKit
set_option linter.unusedVariables false
set_option linter.unusedSimpArgs false

/-! ### a call in a walk of the machine of one -/
theorem LoneTo_callop {P : Program} {Q : Goroutine → World → Prop} {ops : Array Oper} {i : Nat} {rest : List Nat} {o : Oper} {a : Act} {b : Frame} {k : List Item} {cs : List Frame} {w : World} {f : FuncId} {fn : Func} {args : Array Operand} {ats : Array TypeId} {R : Ending → World → Prop}
    (ho : ops[i]? = some o) (hw : Region.wanted o (yielded ops a.tmps) = true) (hk : b.kind ≠ .early) (hop : o.op = .call { callee := .value (.func f), args, argTypes := ats })
    (hf : P.funcs[f]? = some fn) (hname : (fn.name == "runtime.NumGoroutine") = false) (hb : fn.body.isNone = false)
    {vs : Array Value} (hvs : args.map a.eval = vs) (hc : Calls P f vs w R) (h : ∀ e w', R e w' → ∃ v, e = .returned v ∧ LoneTo P Q (G ((b.at a (.inRegion ops (i :: rest) :: k)).finish v) cs) w') :
    LoneTo P Q (G (b.at a (.inRegion ops (i :: rest) :: k)) cs) w := by
  subst hvs
  obtain ⟨e, w', fr, hR, hcm, hfn, hl⟩ := hc (b.at a (.inRegion ops (i :: rest) :: k) :: cs)
  obtain ⟨v, rfl, hq⟩ := h e w' hR
  have h1 : step P (solo (G (b.at a (.inRegion ops (i :: rest) :: k)) cs) w) = .next (solo (G (Frame.enter P f (args.map a.eval) .normal) (b.at a (.inRegion ops (i :: rest) :: k) :: cs)) w) :=
    step_solo_go rfl (stepG_enter ho hw hk (run_call_body hop hf hname hb))
  obtain ⟨g₂, w₂, hs, hq⟩ := hq
  exact ⟨g₂, w₂, Steps.trans (Steps.head h1 hcm) (Steps.head (step_leave_returned hl) hs), hq⟩

/-! ### a queue in memory -/
structure IsQ (T : TypeId) {α : Type} (enc : α → Value) (w : World) (q b1 b2 n : Nat) (us os : List α) : Prop where
  blk : w.heap[q]? = some (.cells #[.chan (some b1), .chan (some b2)] T (0, 0))
  c1 : ∃ s r, w.heap[b1]? = some (.chan n (us.map enc).toArray false s r false)
  c2 : ∃ s r, w.heap[b2]? = some (.chan n (os.map enc).toArray false s r false)
  ne : b1 ≠ b2
/-- The two channels apart all is as it was. -/
structure Only (w w' : World) (b1 b2 : Nat) : Prop where
  os : w'.os = w.os
  tape : w'.tape = w.tape
  output : w'.output = w.output
  size : w'.heap.size = w.heap.size
  block : ∀ k, k ≠ b1 → k ≠ b2 → w'.heap[k]? = w.heap[k]?
theorem Only.refl (w : World) (b1 b2 : Nat) : Only w w b1 b2 := ⟨rfl, rfl, rfl, rfl, fun _ _ _ => rfl⟩
theorem Only.trans {w w1 w2 : World} {b1 b2 : Nat} (h : Only w w1 b1 b2) (k : Only w1 w2 b1 b2) : Only w w2 b1 b2 := ⟨k.os.trans h.os, k.tape.trans h.tape, k.output.trans h.output, k.size.trans h.size, fun j h1 h2 => (k.block j h1 h2).trans (h.block j h1 h2)⟩
theorem Only.below {w w' : World} {b1 b2 B : Nat} (h : Only w w' b1 b2) (h1 : B ≤ b1) (h2 : B ≤ b2) : Below B w w' := ⟨h.os, h.tape, h.output, Nat.le_of_eq h.size.symm, fun k hk => h.block k (by omega) (by omega)⟩
theorem only1 (w : World) (b1 b2 n : Nat) (buf : Array Value) (c : Bool) (s r : Nat) (tm : Bool) : Only w (w.setChan b1 n buf c s r tm) b1 b2 :=
  ⟨rfl, rfl, rfl, by simp [World.setChan], fun k h1 _ => by simp only [World.setChan]; rw [Array.getElem?_setIfInBounds_ne (by omega)]⟩
theorem only2 (w : World) (b1 b2 n : Nat) (buf : Array Value) (c : Bool) (s r : Nat) (tm : Bool) : Only w (w.setChan b2 n buf c s r tm) b1 b2 :=
  ⟨rfl, rfl, rfl, by simp [World.setChan], fun k _ h2 => by simp only [World.setChan]; rw [Array.getElem?_setIfInBounds_ne (by omega)]⟩
section
variable {T : TypeId} {α : Type} {enc : α → Value} {w w' : World} {q b1 b2 n : Nat} {us os : List α}
theorem IsQ.q1 (h : IsQ T enc w q b1 b2 n us os) : q ≠ b1 := by
  rintro rfl
  obtain ⟨s, r, h1⟩ := h.c1
  rw [h.blk] at h1; cases h1
theorem IsQ.q2 (h : IsQ T enc w q b1 b2 n us os) : q ≠ b2 := by
  rintro rfl
  obtain ⟨s, r, h1⟩ := h.c2
  rw [h.blk] at h1; cases h1
theorem IsQ.lt1 (h : IsQ T enc w q b1 b2 n us os) : b1 < w.heap.size := by obtain ⟨s, r, h1⟩ := h.c1; exact (Array.getElem?_eq_some_iff.1 h1).1
theorem IsQ.lt2 (h : IsQ T enc w q b1 b2 n us os) : b2 < w.heap.size := by obtain ⟨s, r, h1⟩ := h.c2; exact (Array.getElem?_eq_some_iff.1 h1).1
theorem IsQ.cell (h : IsQ T enc w q b1 b2 n us os) (i : Nat) : w.cell? ⟨q, i, none⟩ = (#[Value.chan (some b1), Value.chan (some b2)] : Array Value)[i]? := cell_of_row w q i _ T (0, 0) h.blk
/-- What keeps the three blocks keeps the queue. -/
theorem IsQ.keep (h : IsQ T enc w q b1 b2 n us os) (hk : ∀ k, k < w.heap.size → k = q ∨ k = b1 ∨ k = b2 → w'.heap[k]? = w.heap[k]?) : IsQ T enc w' q b1 b2 n us os := by
  obtain ⟨s1, r1, h1⟩ := h.c1
  obtain ⟨s2, r2, h2⟩ := h.c2
  exact ⟨(hk q (Array.getElem?_eq_some_iff.1 h.blk).1 (.inl rfl)).trans h.blk, ⟨s1, r1, (hk b1 h.lt1 (.inr (.inl rfl))).trans h1⟩, ⟨s2, r2, (hk b2 h.lt2 (.inr (.inr rfl))).trans h2⟩, h.ne⟩
theorem IsQ.below (h : IsQ T enc w q b1 b2 n us os) (hb : Below w.heap.size w w') : IsQ T enc w' q b1 b2 n us os := h.keep fun k hk _ => hb.block k hk
theorem IsQ.set1 (h : IsQ T enc w q b1 b2 n us os) {us' : List α} {buf : Array Value} {s r : Nat} (hb : buf = (us'.map enc).toArray) : IsQ T enc (w.setChan b1 n buf false s r false) q b1 b2 n us' os := by
  subst hb
  have ho := only1 w b1 b1 n (us'.map enc).toArray false s r false
  obtain ⟨s2, r2, h2⟩ := h.c2
  exact ⟨(ho.block q h.q1 h.q1).trans h.blk, ⟨_, _, heap_setChan w b1 n _ _ _ _ _ h.lt1⟩, ⟨s2, r2, (ho.block b2 h.ne.symm h.ne.symm).trans h2⟩, h.ne⟩
theorem IsQ.set2 (h : IsQ T enc w q b1 b2 n us os) {os' : List α} {buf : Array Value} {s r : Nat} (hb : buf = (os'.map enc).toArray) : IsQ T enc (w.setChan b2 n buf false s r false) q b1 b2 n us os' := by
  subst hb
  have ho := only1 w b2 b2 n (os'.map enc).toArray false s r false
  obtain ⟨s1, r1, h1⟩ := h.c1
  exact ⟨(ho.block q h.q2 h.q2).trans h.blk, ⟨s1, r1, (ho.block b1 h.ne h.ne).trans h1⟩, ⟨_, _, heap_setChan w b2 n _ _ _ _ _ h.lt2⟩, h.ne⟩
end
def room (k : Int) : Nat := (min (max k 1) 64).toNat
def NewPost (T : TypeId) {α : Type} (enc : α → Value) (w : World) (n : Nat) (e : Ending) (w' : World) : Prop := ∃ q b1 b2, e = .returned (.pointer (some ⟨q, 0, none⟩)) ∧ IsQ T enc w' q b1 b2 n [] [] ∧ Below w.heap.size w w' ∧ w.heap.size ≤ q ∧ w.heap.size ≤ b1 ∧ w.heap.size ≤ b2
theorem new_post (T : TypeId) {α : Type} (enc : α → Value) (w : World) (n a b : Nat) (h : (a = w.heap.size ∧ b = w.heap.size + 1) ∨ (a = w.heap.size + 1 ∧ b = w.heap.size)) :
    NewPost T enc w n (.returned (.pointer (some ⟨w.heap.size + 1 + 1, 0, none⟩))) ((((w.alloc (.chan n #[] false 0 0 false)).alloc (.chan n #[] false 0 0 false)).alloc (.cells #[.chan (some a), .chan (some b)] T)).drew) := by
  have h0 : ((((w.alloc (.chan n #[] false 0 0 false)).alloc (.chan n #[] false 0 0 false)).alloc (.cells #[.chan (some a), .chan (some b)] T)).drew).heap[w.heap.size]? = some (.chan n #[] false 0 0 false) := by
    exact (Below.heap_alloc _ _ _ (by simp; omega)).trans ((Below.heap_alloc _ _ _ (by simp)).trans (heap_alloc_new w _))
  have h1 : ((((w.alloc (.chan n #[] false 0 0 false)).alloc (.chan n #[] false 0 0 false)).alloc (.cells #[.chan (some a), .chan (some b)] T)).drew).heap[w.heap.size + 1]? = some (.chan n #[] false 0 0 false) := by
    have h := heap_alloc_new (w.alloc (.chan n #[] false 0 0 false)) (.chan n #[] false 0 0 false)
    rw [World.size_alloc] at h
    exact (Below.heap_alloc _ _ _ (by simp)).trans h
  have h2 : ((((w.alloc (.chan n #[] false 0 0 false)).alloc (.chan n #[] false 0 0 false)).alloc (.cells #[.chan (some a), .chan (some b)] T)).drew).heap[w.heap.size + 1 + 1]? = some (.cells #[.chan (some a), .chan (some b)] T (0, 0)) := by
    have h := heap_alloc_new ((w.alloc (.chan n #[] false 0 0 false)).alloc (.chan n #[] false 0 0 false)) (.cells #[.chan (some a), .chan (some b)] T)
    rw [World.size_alloc, World.size_alloc] at h
    exact h
  have hb : Below w.heap.size w ((((w.alloc (.chan n #[] false 0 0 false)).alloc (.chan n #[] false 0 0 false)).alloc (.cells #[.chan (some a), .chan (some b)] T)).drew) :=
    ((((Below.refl _ w).alloc (Nat.le_refl _) _).alloc (by simp) _).alloc (by simp; omega) _).drew
  rcases h with ⟨rfl, rfl⟩ | ⟨rfl, rfl⟩
  · exact ⟨_, _, _, rfl, ⟨h2, ⟨0, 0, h0⟩, ⟨0, 0, h1⟩, by omega⟩, hb, by omega, by omega, by omega⟩
  · exact ⟨_, _, _, rfl, ⟨h2, ⟨0, 0, h1⟩, ⟨0, 0, h0⟩, by omega⟩, hb, by omega, by omega, by omega⟩
/-- A put: whether there was room, and what waits then. -/
def qput {α : Type} (n : Nat) (u : Bool) (x : α) (us os : List α) : Bool × List α × List α :=
  if u then (if us.length < n then (true, us ++ [x], os) else (false, us, os)) else (if os.length < n then (true, us, os ++ [x]) else (false, us, os))
/-- A take: what is had (z: nothing), whether there was one, and what waits then. -/
def qtake {α : Type} (z : α) : List α → List α → α × Bool × List α × List α
  | x :: us, os => (x, true, us, os)
  | [], x :: os => (x, true, [], os)
  | [], [] => (z, false, [], [])

/-! ### at int -/
theorem class_int (q b1 b2 n : Nat) (us os : List Int) (u : Bool) (w : World) (h : IsQ 48 (Value.int .i64) w q b1 b2 n us os) :
    Calls Try.prog 23 #[.pointer (some ⟨q, 0, none⟩), .bool u] w fun e w' => e = .returned (.chan (some (if u then b1 else b2))) ∧ w = w' := by
  have h0 : w.cell? ⟨q, 0, none⟩ = some (.chan (some b1)) := (h.cell 0).trans rfl
  have h1 : w.cell? ⟨q, 1, none⟩ = some (.chan (some b2)) := (h.cell 1).trans rfl
  clear h
  cases u with
  | true =>
    go_enter Try.func23, Try.ntmps23
    go_wp2_with fail
    go_ret
    exact ⟨rfl, rfl⟩
  | false =>
    go_enter Try.func23, Try.ntmps23
    go_wp2_with fail
    go_ret
    exact ⟨rfl, rfl⟩
set_option maxRecDepth 100000 in
theorem put_room_int (q b n : Nat) (u : Bool) (x : Int) (buf : Array Value) (s r : Nat) (w : World) (hcl : Calls Try.prog 23 #[.pointer (some ⟨q, 0, none⟩), .bool u] w fun e w' => e = .returned (.chan (some b)) ∧ w = w')
    (hb : w.heap[b]? = some (.chan n buf false s r false)) (hroom : buf.size < n) :
    Calls Try.prog 15 #[.pointer (some ⟨q, 0, none⟩), .bool u, (.int .i64 x)] w fun e w' => e = .returned (.bool true) ∧ w' = w.setChan b n (buf.push (.int .i64 x)) false (s + 1) r false := by
  refine calls_of_loneTo fun cs => ?_
  have e : Frame.enter Try.prog 15 #[.pointer (some ⟨q, 0, none⟩), .bool u, (.int .i64 x)] .normal = (base 15).at ⟨#[.pointer (some ⟨q, 0, none⟩), .bool u, (.int .i64 x), undef, undef, undef, undef, undef, undef, undef, undef, undef, undef, undef], []⟩ [.code (Try.f15.body.getD .skip)] := by
    simp [Frame.enter, Frame.at, Try.func15, base, Try.f15]
  rw [e]
  refine LoneTo.goes (n := 12) ?_
  simp only [Try.f15, Option.getD_some]
  s_c stepG_seq
  s_reg
  s_op
  s_c stepG_region_end
  s_c stepG_seq
  s_c stepG_seq
  s_reg
  s_op
  s_op
  s_stop
  refine LoneTo_callop rfl rfl (by decide) rfl Try.func23 (by kernel_rfl) rfl (by simp [Act.eval]) hcl ?_
  rintro e w' ⟨rfl, rfl⟩
  refine ⟨_, rfl, ?_⟩
  rw [Frame.finish_at]
  walk_nrm
  refine LoneTo.goes (n := 12) ?_
  s_c stepG_region_end
  s_reg
  s_op
  s_c stepG_region_end
  s_c stepG_seq
  s_reg
  s_stop
  refine LoneTo.step (step_lone_select_send_room (c := b) (cap := n) (buf := buf) (s := s) (r := r) (tm := false) (stepG_comm (cases := #[scase b (.int .i64 x) (.int .i64 0)]) (blocking := false) (shape := .select) (w' := w) rfl rfl (by decide) (by simp [go_sem, execOp, scase, Act.eval])) hb hroom) ?_
  rw [Frame.finish_at]
  walk_nrm
  refine LoneTo.goes (n := 30) ?_
  s_op
  s_op
  s_c stepG_region_end
  s_c stepG_block
  s_cond true
  s_c stepG_seq
  s_reg
  s_op
  s_c stepG_region_end
  s_c stepG_ret'
  s_stop
  exact LoneTo.done ⟨.returned (.bool true), _, rfl, ⟨rfl, rfl⟩, rfl, rfl, rfl, rfl, _, Try.func15, by simp [results, Try.f15, Frame.at]⟩
set_option maxRecDepth 100000 in
theorem put_full_int (q b n : Nat) (u : Bool) (x : Int) (buf : Array Value) (s r : Nat) (w : World) (hcl : Calls Try.prog 23 #[.pointer (some ⟨q, 0, none⟩), .bool u] w fun e w' => e = .returned (.chan (some b)) ∧ w = w')
    (hb : w.heap[b]? = some (.chan n buf false s r false)) (hroom : n ≤ buf.size) :
    Calls Try.prog 15 #[.pointer (some ⟨q, 0, none⟩), .bool u, (.int .i64 x)] w fun e w' => e = .returned (.bool false) ∧ w' = w := by
  refine calls_of_loneTo fun cs => ?_
  have e : Frame.enter Try.prog 15 #[.pointer (some ⟨q, 0, none⟩), .bool u, (.int .i64 x)] .normal = (base 15).at ⟨#[.pointer (some ⟨q, 0, none⟩), .bool u, (.int .i64 x), undef, undef, undef, undef, undef, undef, undef, undef, undef, undef, undef], []⟩ [.code (Try.f15.body.getD .skip)] := by
    simp [Frame.enter, Frame.at, Try.func15, base, Try.f15]
  rw [e]
  refine LoneTo.goes (n := 12) ?_
  simp only [Try.f15, Option.getD_some]
  s_c stepG_seq
  s_reg
  s_op
  s_c stepG_region_end
  s_c stepG_seq
  s_c stepG_seq
  s_reg
  s_op
  s_op
  s_stop
  refine LoneTo_callop rfl rfl (by decide) rfl Try.func23 (by kernel_rfl) rfl (by simp [Act.eval]) hcl ?_
  rintro e w' ⟨rfl, rfl⟩
  refine ⟨_, rfl, ?_⟩
  rw [Frame.finish_at]
  walk_nrm
  refine LoneTo.goes (n := 12) ?_
  s_c stepG_region_end
  s_reg
  s_op
  s_c stepG_region_end
  s_c stepG_seq
  s_reg
  s_stop
  refine LoneTo.step (step_lone_select_send_full (c := b) (cap := n) (buf := buf) (s := s) (r := r) (tm := false) (stepG_comm (cases := #[scase b (.int .i64 x) (.int .i64 0)]) (blocking := false) (shape := .select) (w' := w) rfl rfl (by decide) (by simp [go_sem, execOp, scase, Act.eval])) hb hroom) ?_
  rw [Frame.finish_at]
  walk_nrm
  refine LoneTo.goes (n := 30) ?_
  s_op
  s_op
  s_c stepG_region_end
  s_c stepG_block
  s_cond false
  s_c stepG_seq
  s_reg
  s_op
  s_c stepG_region_end
  s_c stepG_ret'
  s_stop
  exact LoneTo.done ⟨.returned (.bool false), _, rfl, ⟨rfl, rfl⟩, rfl, rfl, rfl, rfl, _, Try.func15, by simp [results, Try.f15, Frame.at]⟩
def PutPost_int (w : World) (q b1 b2 n : Nat) (p : Bool × List Int × List Int) (e : Ending) (w' : World) : Prop := e = .returned (.bool p.1) ∧ IsQ 48 (Value.int .i64) w' q b1 b2 n p.2.1 p.2.2 ∧ Only w w' b1 b2
theorem put_int (q b1 b2 n : Nat) (us os : List Int) (u : Bool) (x : Int) (w : World) (h : IsQ 48 (Value.int .i64) w q b1 b2 n us os) :
    Calls Try.prog 15 #[.pointer (some ⟨q, 0, none⟩), .bool u, (.int .i64 x)] w (PutPost_int w q b1 b2 n (qput n u x us os)) := by
  have hcl := class_int q b1 b2 n us os u w h
  obtain ⟨s1, r1, h1⟩ := h.c1
  obtain ⟨s2, r2, h2⟩ := h.c2
  cases u with
  | true =>
    by_cases hl : us.length < n
    · refine (put_room_int q b1 n true x _ s1 r1 w hcl h1 (by simpa using hl)).mono ?_
      rintro e w' ⟨rfl, rfl⟩
      have e : qput n true x us os = (true, us ++ [x], os) := by unfold qput; simp [hl]
      rw [e]
      exact ⟨rfl, h.set1 (by simp), only1 _ _ _ _ _ _ _ _ _⟩
    · refine (put_full_int q b1 n true x _ s1 r1 w hcl h1 (by simpa using hl)).mono ?_
      rintro e w' ⟨rfl, rfl⟩
      have e : qput n true x us os = (false, us, os) := by unfold qput; simp [hl]
      rw [e]
      exact ⟨rfl, h, Only.refl _ _ _⟩
  | false =>
    by_cases hl : os.length < n
    · refine (put_room_int q b2 n false x _ s2 r2 w hcl h2 (by simpa using hl)).mono ?_
      rintro e w' ⟨rfl, rfl⟩
      have e : qput n false x us os = (true, us, os ++ [x]) := by unfold qput; simp [hl]
      rw [e]
      exact ⟨rfl, h.set2 (by simp), only2 _ _ _ _ _ _ _ _ _⟩
    · refine (put_full_int q b2 n false x _ s2 r2 w hcl h2 (by simpa using hl)).mono ?_
      rintro e w' ⟨rfl, rfl⟩
      have e : qput n false x us os = (false, us, os) := by unfold qput; simp [hl]
      rw [e]
      exact ⟨rfl, h, Only.refl _ _ _⟩

def TakePost_int (w : World) (q b1 b2 n : Nat) (p : Int × Bool × List Int × List Int) (e : Ending) (w' : World) : Prop := e = .returned (.tuple #[.int .i64 p.1, .bool p.2.1]) ∧ IsQ 48 (Value.int .i64) w' q b1 b2 n p.2.2.1 p.2.2.2 ∧ Only w w' b1 b2
set_option maxRecDepth 100000 in
theorem take_urgent_int (q b1 n : Nat) (x : Int) (buf : Array Value) (s r : Nat) (w : World) (h0 : w.cell? ⟨q, 0, none⟩ = some (.chan (some b1))) (hb : w.heap[b1]? = some (.chan n buf false s r false)) (hs : 0 < buf.size) (hx : buf.getD 0 undef = (.int .i64 x)) :
    Calls Try.prog 11 #[.pointer (some ⟨q, 0, none⟩)] w fun e w' => e = .returned (.tuple #[(.int .i64 x), .bool true]) ∧ w' = w.setChan b1 n (buf.extract 1 buf.size) false s (r + 1) false := by
  refine calls_of_loneTo fun cs => ?_
  have e : Frame.enter Try.prog 11 #[.pointer (some ⟨q, 0, none⟩)] .normal = (base 11).at ⟨#[.pointer (some ⟨q, 0, none⟩), undef, undef, undef, undef, undef, undef, undef, undef, undef, undef, undef, undef, undef, undef, undef, undef, undef, undef, undef, undef, undef, undef, undef, undef, undef], []⟩ [.code (Try.f11.body.getD .skip)] := by
    simp [Frame.enter, Frame.at, Try.func11, base, Try.f11]
  rw [e]
  refine LoneTo.goes (n := 20) ?_
  simp only [Try.f11, Option.getD_some]
  s_c stepG_seq
  s_reg
  s_op
  s_op
  s_c stepG_region_end
  s_c stepG_seq
  s_c stepG_seq
  s_reg
  s_op
  s_op
  s_op
  s_op
  s_c stepG_region_end
  s_c stepG_seq
  s_reg
  s_stop
  refine LoneTo.step (step_lone_select_recv_buf (c := b1) (cap := n) (buf := buf) (s := s) (r := r) (tm := false) (closed := false) (stepG_comm (cases := #[rcase b1 (.int .i64 0)]) (blocking := false) (shape := .select) (w' := w) rfl rfl (by decide) (by simp [go_sem, execOp, rcase, Act.eval])) hb hs) ?_
  rw [Frame.finish_at, hx]
  walk_nrm
  refine LoneTo.goes (n := 40) ?_
  s_op
  s_op
  s_c stepG_region_end
  s_c stepG_block
  s_cond true
  s_c stepG_seq
  s_reg
  s_op
  s_op
  s_c stepG_region_end
  s_c stepG_seq
  s_reg
  s_op
  s_op
  s_op
  s_c stepG_region_end
  s_c stepG_ret'
  s_stop
  exact LoneTo.done ⟨.returned (.tuple #[(.int .i64 x), .bool true]), _, rfl, ⟨rfl, rfl⟩, rfl, rfl, rfl, rfl, _, Try.func11, by simp [results, Try.f11, Frame.at]⟩
set_option maxRecDepth 100000 in
theorem take_other_int (q b1 b2 n : Nat) (x : Int) (buf : Array Value) (s r s1 r1 : Nat) (w : World) (h0 : w.cell? ⟨q, 0, none⟩ = some (.chan (some b1))) (h1 : w.cell? ⟨q, 1, none⟩ = some (.chan (some b2))) (hb1 : w.heap[b1]? = some (.chan n #[] false s1 r1 false)) (hb : w.heap[b2]? = some (.chan n buf false s r false)) (hs : 0 < buf.size) (hx : buf.getD 0 undef = (.int .i64 x)) :
    Calls Try.prog 11 #[.pointer (some ⟨q, 0, none⟩)] w fun e w' => e = .returned (.tuple #[(.int .i64 x), .bool true]) ∧ w' = w.setChan b2 n (buf.extract 1 buf.size) false s (r + 1) false := by
  refine calls_of_loneTo fun cs => ?_
  have e : Frame.enter Try.prog 11 #[.pointer (some ⟨q, 0, none⟩)] .normal = (base 11).at ⟨#[.pointer (some ⟨q, 0, none⟩), undef, undef, undef, undef, undef, undef, undef, undef, undef, undef, undef, undef, undef, undef, undef, undef, undef, undef, undef, undef, undef, undef, undef, undef, undef], []⟩ [.code (Try.f11.body.getD .skip)] := by
    simp [Frame.enter, Frame.at, Try.func11, base, Try.f11]
  rw [e]
  refine LoneTo.goes (n := 20) ?_
  simp only [Try.f11, Option.getD_some]
  s_c stepG_seq
  s_reg
  s_op
  s_op
  s_c stepG_region_end
  s_c stepG_seq
  s_c stepG_seq
  s_reg
  s_op
  s_op
  s_op
  s_op
  s_c stepG_region_end
  s_c stepG_seq
  s_reg
  s_stop
  refine LoneTo.step (step_lone_select_default (c := b1) (cap := n) (s := s1) (r := r1) (tm := false) (stepG_comm (cases := #[rcase b1 (.int .i64 0)]) (blocking := false) (shape := .select) (w' := w) rfl rfl (by decide) (by simp [go_sem, execOp, rcase, Act.eval])) hb1) ?_
  rw [Frame.finish_at]
  walk_nrm
  refine LoneTo.goes (n := 40) ?_
  s_op
  s_op
  s_c stepG_region_end
  s_c stepG_block
  s_cond false
  s_c stepG_skip
  s_c stepG_inBlock
  s_c stepG_seq
  s_reg
  s_op
  s_op
  s_op
  s_op
  s_c stepG_region_end
  s_c stepG_seq
  s_reg
  s_stop
  refine LoneTo.step (step_lone_select_recv_buf (c := b2) (cap := n) (buf := buf) (s := s) (r := r) (tm := false) (closed := false) (stepG_comm (cases := #[rcase b2 (.int .i64 0)]) (blocking := false) (shape := .select) (w' := w) rfl rfl (by decide) (by simp [go_sem, execOp, rcase, Act.eval])) hb hs) ?_
  rw [Frame.finish_at, hx]
  walk_nrm
  refine LoneTo.goes (n := 40) ?_
  s_op
  s_op
  s_c stepG_region_end
  s_c stepG_block
  s_cond true
  s_c stepG_seq
  s_reg
  s_op
  s_op
  s_c stepG_region_end
  s_c stepG_seq
  s_reg
  s_op
  s_op
  s_op
  s_c stepG_region_end
  s_c stepG_ret'
  s_stop
  exact LoneTo.done ⟨.returned (.tuple #[(.int .i64 x), .bool true]), _, rfl, ⟨rfl, rfl⟩, rfl, rfl, rfl, rfl, _, Try.func11, by simp [results, Try.f11, Frame.at]⟩
set_option maxRecDepth 100000 in
theorem take_none_int (q b1 b2 n : Nat) (s r s1 r1 : Nat) (w : World) (h0 : w.cell? ⟨q, 0, none⟩ = some (.chan (some b1))) (h1 : w.cell? ⟨q, 1, none⟩ = some (.chan (some b2))) (hb1 : w.heap[b1]? = some (.chan n #[] false s1 r1 false)) (hb : w.heap[b2]? = some (.chan n #[] false s r false)) :
    Calls Try.prog 11 #[.pointer (some ⟨q, 0, none⟩)] w fun e w' => e = .returned (.tuple #[(.int .i64 0), .bool false]) ∧ w' = w := by
  refine calls_of_loneTo fun cs => ?_
  have e : Frame.enter Try.prog 11 #[.pointer (some ⟨q, 0, none⟩)] .normal = (base 11).at ⟨#[.pointer (some ⟨q, 0, none⟩), undef, undef, undef, undef, undef, undef, undef, undef, undef, undef, undef, undef, undef, undef, undef, undef, undef, undef, undef, undef, undef, undef, undef, undef, undef], []⟩ [.code (Try.f11.body.getD .skip)] := by
    simp [Frame.enter, Frame.at, Try.func11, base, Try.f11]
  rw [e]
  refine LoneTo.goes (n := 20) ?_
  simp only [Try.f11, Option.getD_some]
  s_c stepG_seq
  s_reg
  s_op
  s_op
  s_c stepG_region_end
  s_c stepG_seq
  s_c stepG_seq
  s_reg
  s_op
  s_op
  s_op
  s_op
  s_c stepG_region_end
  s_c stepG_seq
  s_reg
  s_stop
  refine LoneTo.step (step_lone_select_default (c := b1) (cap := n) (s := s1) (r := r1) (tm := false) (stepG_comm (cases := #[rcase b1 (.int .i64 0)]) (blocking := false) (shape := .select) (w' := w) rfl rfl (by decide) (by simp [go_sem, execOp, rcase, Act.eval])) hb1) ?_
  rw [Frame.finish_at]
  walk_nrm
  refine LoneTo.goes (n := 40) ?_
  s_op
  s_op
  s_c stepG_region_end
  s_c stepG_block
  s_cond false
  s_c stepG_skip
  s_c stepG_inBlock
  s_c stepG_seq
  s_reg
  s_op
  s_op
  s_op
  s_op
  s_c stepG_region_end
  s_c stepG_seq
  s_reg
  s_stop
  refine LoneTo.step (step_lone_select_default (c := b2) (cap := n) (s := s) (r := r) (tm := false) (stepG_comm (cases := #[rcase b2 (.int .i64 0)]) (blocking := false) (shape := .select) (w' := w) rfl rfl (by decide) (by simp [go_sem, execOp, rcase, Act.eval])) hb) ?_
  rw [Frame.finish_at]
  walk_nrm
  refine LoneTo.goes (n := 40) ?_
  s_op
  s_op
  s_c stepG_region_end
  s_c stepG_block
  s_cond false
  s_c stepG_seq
  s_reg
  s_op
  s_c stepG_region_end
  s_c stepG_seq
  s_reg
  s_op
  s_op
  s_op
  s_c stepG_region_end
  s_c stepG_ret'
  s_stop
  exact LoneTo.done ⟨.returned (.tuple #[(.int .i64 0), .bool false]), _, rfl, ⟨rfl, rfl⟩, rfl, rfl, rfl, rfl, _, Try.func11, by simp [results, Try.f11, Frame.at]⟩
theorem take_int (q b1 b2 n : Nat) (us os : List Int) (w : World) (h : IsQ 48 (Value.int .i64) w q b1 b2 n us os) :
    Calls Try.prog 11 #[.pointer (some ⟨q, 0, none⟩)] w (TakePost_int w q b1 b2 n (qtake 0 us os)) := by
  obtain ⟨s1, r1, h1⟩ := h.c1
  obtain ⟨s2, r2, h2⟩ := h.c2
  have e0 : w.cell? ⟨q, 0, none⟩ = some (.chan (some b1)) := (h.cell 0).trans rfl
  have e1 : w.cell? ⟨q, 1, none⟩ = some (.chan (some b2)) := (h.cell 1).trans rfl
  cases us with
  | cons x us =>
    refine (take_urgent_int q b1 n x _ s1 r1 w e0 h1 (by simp) (by simp)).mono ?_
    rintro e w' ⟨rfl, rfl⟩
    exact ⟨rfl, h.set1 (by simp [qtake]; rw [List.take_of_length_le (by simp)]), only1 _ _ _ _ _ _ _ _ _⟩
  | nil =>
    cases os with
    | cons x os =>
      refine (take_other_int q b1 b2 n x _ s2 r2 s1 r1 w e0 e1 h1 h2 (by simp) (by simp)).mono ?_
      rintro e w' ⟨rfl, rfl⟩
      exact ⟨rfl, h.set2 (by simp [qtake]; rw [List.take_of_length_le (by simp)]), only2 _ _ _ _ _ _ _ _ _⟩
    | nil =>
      refine (take_none_int q b1 b2 n s2 r2 s1 r1 w e0 e1 h1 h2).mono ?_
      rintro e w' ⟨rfl, rfl⟩
      exact ⟨rfl, h, Only.refl _ _ _⟩
theorem many_int (q b1 b2 n : Nat) (us os : List Int) (w : World) (h : IsQ 48 (Value.int .i64) w q b1 b2 n us os) :
    Calls Try.prog 17 #[.pointer (some ⟨q, 0, none⟩)] w fun e w' => e = .returned (.tuple #[.int .i64 (us.length : Nat), .int .i64 (os.length : Nat)]) ∧ ∃ d, w' = w.drewN d := by
  obtain ⟨s1, r1, h1⟩ := h.c1
  obtain ⟨s2, r2, h2⟩ := h.c2
  have e0 : w.cell? ⟨q, 0, none⟩ = some (.chan (some b1)) := (h.cell 0).trans rfl
  have e1 : w.cell? ⟨q, 1, none⟩ = some (.chan (some b2)) := (h.cell 1).trans rfl
  have l1 := fun (ty : TypeId) (d : Nat) => run_len_chan (P := Try.prog) (w := w.drewN d) 46 ty Try.underlying46 h1
  have l2 := fun (ty : TypeId) (d : Nat) => run_len_chan (P := Try.prog) (w := w.drewN d) 46 ty Try.underlying46 h2
  simp only [List.size_toArray, List.length_map] at l1 l2
  clear h h1 h2
  go_enter Try.func17, Try.ntmps17
  go_wp2_with fail
  go_quiet (fail)
  go_wp2_with fail
  go_ret2
  exact ⟨rfl, _, rfl⟩

theorem bytes_int : ∃ i, Try.prog.info? 3 = some i ∧ i.bytes = 8 := by
  have h : (Try.prog.info? 3).map (·.bytes) = some 8 := by kernel_rfl
  obtain ⟨i, hi, hb⟩ := Option.map_eq_some_iff.1 h
  exact ⟨i, hi, hb⟩
theorem mk_int (n : Nat) (hn : n ≤ 64) (w : World) : (Instr.makeChan 46 (.int .i64 n)).run Try.prog w = .ok (.chan (some w.heap.size)) (w.alloc (.chan n #[] false 0 0 false)) := by
  obtain ⟨i, hi, hb⟩ := bytes_int
  simpa using run_makeChan (P := Try.prog) (w := w) Try.underlying46 hi .i64 n (by omega) (by rw [hb]; omega)
attribute [local go_sem] max_i min_i
set_option maxRecDepth 100000 in
theorem new_int (k : Int) (w : World) : Calls Try.prog 9 #[.int .i64 k] w (NewPost 48 (Value.int .i64) w (room k)) := by
  obtain ⟨n, hn, hn0⟩ : ∃ n, room k = n ∧ n ≤ 64 := ⟨_, rfl, by unfold room; omega⟩
  have hm : min (max k 1) 64 = (n : Int) := by rw [← hn]; unfold room; omega
  have HN := Lib.hid hn
  have hmk := mk_int n hn0
  clear hn
  go_enter Try.func9, Try.ntmps9
  go_wp2_with fail
  go_region
  all_goals
    go_wp2_with fail
    go_ret
    rw [HN.out]
    first | exact new_post _ _ w n _ _ (.inl ⟨rfl, rfl⟩) | exact new_post _ _ w n _ _ (.inr ⟨rfl, rfl⟩)

set_option maxRecDepth 100000 in
theorem drain_int (q b1 b2 n : Nat) (us os : List Int) (w : World) (h : IsQ 48 (Value.int .i64) w q b1 b2 n us os) (hl : us.length + os.length ≤ 1000) :
    Calls Try.prog 13 #[.pointer (some ⟨q, 0, none⟩)] w fun e w' => e = .returned (.int .i64 (us.length + os.length : Nat)) ∧ IsQ 48 (Value.int .i64) w' q b1 b2 n [] [] ∧ Only w w' b1 b2 := by
  obtain ⟨t, ht⟩ : ∃ t, us.length + os.length = t := ⟨_, rfl⟩
  have HT := Lib.hid ht
  have H := Lib.hid h
  rw [ht] at hl ⊢
  clear ht h
  go_enter Try.func13, Try.ntmps13
  go_wp2_with fail
  go_loopg [3] t (fun k v3 wr => ∃ (us' os' : List Int) (m : Nat), v3 = .int .i64 m ∧ Hid (m + (us'.length + os'.length) = t) ∧ Hid (us'.length + os'.length = k) ∧ Hid (IsQ 48 (Value.int .i64) wr q b1 b2 n us' os') ∧ Hid (Only w wr b1 b2))
  case atStart => exact ⟨us, os, 0, rfl, Lib.hid (by rw [Nat.zero_add]; exact HT.out), HT, H, Lib.hid (Only.refl _ _ _)⟩
  case round =>
    clear HT H
    obtain ⟨us', os', m, rfl, hm, hk, hq, ho⟩ := hrel
    have hmt : m ≤ t := by have := hm.out; omega
    have hcall := take_int q b1 b2 n us' os' wr hq.out
    cases us' with
    | cons x us' =>
      have HC := Lib.hid hcall
      clear hcall
      go_wp2_with fail
      refine HC.out.mono ?_
      rintro e w1 ⟨rfl, hq1, ho1⟩
      have HQ1 := Lib.hid hq1
      have HO1 := Lib.hid ho1
      clear hq1 ho1
      simp only [qtake]
      go_wp2_with fail
      go_roundg (gk - 1)
      case measure => have := hk.out; simp at this; omega
      case rel => exact ⟨us', os', m + 1, by go_num, Lib.hid (by have := hm.out; simp at this; omega), Lib.hid (by have := hk.out; simp at this; omega), HQ1, Lib.hid (ho.out.trans HO1.out)⟩
    | nil =>
      cases os' with
      | cons x os' =>
        have HC := Lib.hid hcall
        clear hcall
        go_wp2_with fail
        refine HC.out.mono ?_
        rintro e w1 ⟨rfl, hq1, ho1⟩
        have HQ1 := Lib.hid hq1
        have HO1 := Lib.hid ho1
        clear hq1 ho1
        simp only [qtake]
        go_wp2_with fail
        go_roundg (gk - 1)
        case measure => have := hk.out; simp at this; omega
        case rel => exact ⟨[], os', m + 1, by go_num, Lib.hid (by have := hm.out; simp at this; simp; omega), Lib.hid (by have := hk.out; simp at this; simp; omega), HQ1, Lib.hid (ho.out.trans HO1.out)⟩
      | nil =>
        have hmt : m = t := by have := hm.out; simp at this; omega
        subst hmt
        have HC := Lib.hid hcall
        clear hcall
        go_wp2_with fail
        refine HC.out.mono ?_
        rintro e w1 ⟨rfl, hq1, ho1⟩
        have HQ1 := Lib.hid hq1
        have HO1 := Lib.hid (ho.out.trans ho1)
        clear hq1 ho1
        simp only [qtake]
        go_wp2_with fail
        go_ret
        exact ⟨rfl, HQ1.out, HO1.out⟩

/-! ### at bool -/
theorem class_bool (q b1 b2 n : Nat) (us os : List Bool) (u : Bool) (w : World) (h : IsQ 54 Value.bool w q b1 b2 n us os) :
    Calls Try.prog 24 #[.pointer (some ⟨q, 0, none⟩), .bool u] w fun e w' => e = .returned (.chan (some (if u then b1 else b2))) ∧ w = w' := by
  have h0 : w.cell? ⟨q, 0, none⟩ = some (.chan (some b1)) := (h.cell 0).trans rfl
  have h1 : w.cell? ⟨q, 1, none⟩ = some (.chan (some b2)) := (h.cell 1).trans rfl
  clear h
  cases u with
  | true =>
    go_enter Try.func24, Try.ntmps24
    go_wp2_with fail
    go_ret
    exact ⟨rfl, rfl⟩
  | false =>
    go_enter Try.func24, Try.ntmps24
    go_wp2_with fail
    go_ret
    exact ⟨rfl, rfl⟩
set_option maxRecDepth 100000 in
theorem put_room_bool (q b n : Nat) (u : Bool) (x : Bool) (buf : Array Value) (s r : Nat) (w : World) (hcl : Calls Try.prog 24 #[.pointer (some ⟨q, 0, none⟩), .bool u] w fun e w' => e = .returned (.chan (some b)) ∧ w = w')
    (hb : w.heap[b]? = some (.chan n buf false s r false)) (hroom : buf.size < n) :
    Calls Try.prog 20 #[.pointer (some ⟨q, 0, none⟩), .bool u, (.bool x)] w fun e w' => e = .returned (.bool true) ∧ w' = w.setChan b n (buf.push (.bool x)) false (s + 1) r false := by
  refine calls_of_loneTo fun cs => ?_
  have e : Frame.enter Try.prog 20 #[.pointer (some ⟨q, 0, none⟩), .bool u, (.bool x)] .normal = (base 20).at ⟨#[.pointer (some ⟨q, 0, none⟩), .bool u, (.bool x), undef, undef, undef, undef, undef, undef, undef, undef, undef, undef, undef], []⟩ [.code (Try.f20.body.getD .skip)] := by
    simp [Frame.enter, Frame.at, Try.func20, base, Try.f20]
  rw [e]
  refine LoneTo.goes (n := 12) ?_
  simp only [Try.f20, Option.getD_some]
  s_c stepG_seq
  s_reg
  s_op
  s_c stepG_region_end
  s_c stepG_seq
  s_c stepG_seq
  s_reg
  s_op
  s_op
  s_stop
  refine LoneTo_callop rfl rfl (by decide) rfl Try.func24 (by kernel_rfl) rfl (by simp [Act.eval]) hcl ?_
  rintro e w' ⟨rfl, rfl⟩
  refine ⟨_, rfl, ?_⟩
  rw [Frame.finish_at]
  walk_nrm
  refine LoneTo.goes (n := 12) ?_
  s_c stepG_region_end
  s_reg
  s_op
  s_c stepG_region_end
  s_c stepG_seq
  s_reg
  s_stop
  refine LoneTo.step (step_lone_select_send_room (c := b) (cap := n) (buf := buf) (s := s) (r := r) (tm := false) (stepG_comm (cases := #[scase b (.bool x) (.bool false)]) (blocking := false) (shape := .select) (w' := w) rfl rfl (by decide) (by simp [go_sem, execOp, scase, Act.eval])) hb hroom) ?_
  rw [Frame.finish_at]
  walk_nrm
  refine LoneTo.goes (n := 30) ?_
  s_op
  s_op
  s_c stepG_region_end
  s_c stepG_block
  s_cond true
  s_c stepG_seq
  s_reg
  s_op
  s_c stepG_region_end
  s_c stepG_ret'
  s_stop
  exact LoneTo.done ⟨.returned (.bool true), _, rfl, ⟨rfl, rfl⟩, rfl, rfl, rfl, rfl, _, Try.func20, by simp [results, Try.f20, Frame.at]⟩
set_option maxRecDepth 100000 in
theorem put_full_bool (q b n : Nat) (u : Bool) (x : Bool) (buf : Array Value) (s r : Nat) (w : World) (hcl : Calls Try.prog 24 #[.pointer (some ⟨q, 0, none⟩), .bool u] w fun e w' => e = .returned (.chan (some b)) ∧ w = w')
    (hb : w.heap[b]? = some (.chan n buf false s r false)) (hroom : n ≤ buf.size) :
    Calls Try.prog 20 #[.pointer (some ⟨q, 0, none⟩), .bool u, (.bool x)] w fun e w' => e = .returned (.bool false) ∧ w' = w := by
  refine calls_of_loneTo fun cs => ?_
  have e : Frame.enter Try.prog 20 #[.pointer (some ⟨q, 0, none⟩), .bool u, (.bool x)] .normal = (base 20).at ⟨#[.pointer (some ⟨q, 0, none⟩), .bool u, (.bool x), undef, undef, undef, undef, undef, undef, undef, undef, undef, undef, undef], []⟩ [.code (Try.f20.body.getD .skip)] := by
    simp [Frame.enter, Frame.at, Try.func20, base, Try.f20]
  rw [e]
  refine LoneTo.goes (n := 12) ?_
  simp only [Try.f20, Option.getD_some]
  s_c stepG_seq
  s_reg
  s_op
  s_c stepG_region_end
  s_c stepG_seq
  s_c stepG_seq
  s_reg
  s_op
  s_op
  s_stop
  refine LoneTo_callop rfl rfl (by decide) rfl Try.func24 (by kernel_rfl) rfl (by simp [Act.eval]) hcl ?_
  rintro e w' ⟨rfl, rfl⟩
  refine ⟨_, rfl, ?_⟩
  rw [Frame.finish_at]
  walk_nrm
  refine LoneTo.goes (n := 12) ?_
  s_c stepG_region_end
  s_reg
  s_op
  s_c stepG_region_end
  s_c stepG_seq
  s_reg
  s_stop
  refine LoneTo.step (step_lone_select_send_full (c := b) (cap := n) (buf := buf) (s := s) (r := r) (tm := false) (stepG_comm (cases := #[scase b (.bool x) (.bool false)]) (blocking := false) (shape := .select) (w' := w) rfl rfl (by decide) (by simp [go_sem, execOp, scase, Act.eval])) hb hroom) ?_
  rw [Frame.finish_at]
  walk_nrm
  refine LoneTo.goes (n := 30) ?_
  s_op
  s_op
  s_c stepG_region_end
  s_c stepG_block
  s_cond false
  s_c stepG_seq
  s_reg
  s_op
  s_c stepG_region_end
  s_c stepG_ret'
  s_stop
  exact LoneTo.done ⟨.returned (.bool false), _, rfl, ⟨rfl, rfl⟩, rfl, rfl, rfl, rfl, _, Try.func20, by simp [results, Try.f20, Frame.at]⟩
def PutPost_bool (w : World) (q b1 b2 n : Nat) (p : Bool × List Bool × List Bool) (e : Ending) (w' : World) : Prop := e = .returned (.bool p.1) ∧ IsQ 54 Value.bool w' q b1 b2 n p.2.1 p.2.2 ∧ Only w w' b1 b2
theorem put_bool (q b1 b2 n : Nat) (us os : List Bool) (u : Bool) (x : Bool) (w : World) (h : IsQ 54 Value.bool w q b1 b2 n us os) :
    Calls Try.prog 20 #[.pointer (some ⟨q, 0, none⟩), .bool u, (.bool x)] w (PutPost_bool w q b1 b2 n (qput n u x us os)) := by
  have hcl := class_bool q b1 b2 n us os u w h
  obtain ⟨s1, r1, h1⟩ := h.c1
  obtain ⟨s2, r2, h2⟩ := h.c2
  cases u with
  | true =>
    by_cases hl : us.length < n
    · refine (put_room_bool q b1 n true x _ s1 r1 w hcl h1 (by simpa using hl)).mono ?_
      rintro e w' ⟨rfl, rfl⟩
      have e : qput n true x us os = (true, us ++ [x], os) := by unfold qput; simp [hl]
      rw [e]
      exact ⟨rfl, h.set1 (by simp), only1 _ _ _ _ _ _ _ _ _⟩
    · refine (put_full_bool q b1 n true x _ s1 r1 w hcl h1 (by simpa using hl)).mono ?_
      rintro e w' ⟨rfl, rfl⟩
      have e : qput n true x us os = (false, us, os) := by unfold qput; simp [hl]
      rw [e]
      exact ⟨rfl, h, Only.refl _ _ _⟩
  | false =>
    by_cases hl : os.length < n
    · refine (put_room_bool q b2 n false x _ s2 r2 w hcl h2 (by simpa using hl)).mono ?_
      rintro e w' ⟨rfl, rfl⟩
      have e : qput n false x us os = (true, us, os ++ [x]) := by unfold qput; simp [hl]
      rw [e]
      exact ⟨rfl, h.set2 (by simp), only2 _ _ _ _ _ _ _ _ _⟩
    · refine (put_full_bool q b2 n false x _ s2 r2 w hcl h2 (by simpa using hl)).mono ?_
      rintro e w' ⟨rfl, rfl⟩
      have e : qput n false x us os = (false, us, os) := by unfold qput; simp [hl]
      rw [e]
      exact ⟨rfl, h, Only.refl _ _ _⟩

def TakePost_bool (w : World) (q b1 b2 n : Nat) (p : Bool × Bool × List Bool × List Bool) (e : Ending) (w' : World) : Prop := e = .returned (.tuple #[.bool p.1, .bool p.2.1]) ∧ IsQ 54 Value.bool w' q b1 b2 n p.2.2.1 p.2.2.2 ∧ Only w w' b1 b2
set_option maxRecDepth 100000 in
theorem take_urgent_bool (q b1 n : Nat) (x : Bool) (buf : Array Value) (s r : Nat) (w : World) (h0 : w.cell? ⟨q, 0, none⟩ = some (.chan (some b1))) (hb : w.heap[b1]? = some (.chan n buf false s r false)) (hs : 0 < buf.size) (hx : buf.getD 0 undef = (.bool x)) :
    Calls Try.prog 22 #[.pointer (some ⟨q, 0, none⟩)] w fun e w' => e = .returned (.tuple #[(.bool x), .bool true]) ∧ w' = w.setChan b1 n (buf.extract 1 buf.size) false s (r + 1) false := by
  refine calls_of_loneTo fun cs => ?_
  have e : Frame.enter Try.prog 22 #[.pointer (some ⟨q, 0, none⟩)] .normal = (base 22).at ⟨#[.pointer (some ⟨q, 0, none⟩), undef, undef, undef, undef, undef, undef, undef, undef, undef, undef, undef, undef, undef, undef, undef, undef, undef, undef, undef, undef, undef, undef, undef, undef, undef], []⟩ [.code (Try.f22.body.getD .skip)] := by
    simp [Frame.enter, Frame.at, Try.func22, base, Try.f22]
  rw [e]
  refine LoneTo.goes (n := 20) ?_
  simp only [Try.f22, Option.getD_some]
  s_c stepG_seq
  s_reg
  s_op
  s_op
  s_c stepG_region_end
  s_c stepG_seq
  s_c stepG_seq
  s_reg
  s_op
  s_op
  s_op
  s_op
  s_c stepG_region_end
  s_c stepG_seq
  s_reg
  s_stop
  refine LoneTo.step (step_lone_select_recv_buf (c := b1) (cap := n) (buf := buf) (s := s) (r := r) (tm := false) (closed := false) (stepG_comm (cases := #[rcase b1 (.bool false)]) (blocking := false) (shape := .select) (w' := w) rfl rfl (by decide) (by simp [go_sem, execOp, rcase, Act.eval])) hb hs) ?_
  rw [Frame.finish_at, hx]
  walk_nrm
  refine LoneTo.goes (n := 40) ?_
  s_op
  s_op
  s_c stepG_region_end
  s_c stepG_block
  s_cond true
  s_c stepG_seq
  s_reg
  s_op
  s_op
  s_c stepG_region_end
  s_c stepG_seq
  s_reg
  s_op
  s_op
  s_op
  s_c stepG_region_end
  s_c stepG_ret'
  s_stop
  exact LoneTo.done ⟨.returned (.tuple #[(.bool x), .bool true]), _, rfl, ⟨rfl, rfl⟩, rfl, rfl, rfl, rfl, _, Try.func22, by simp [results, Try.f22, Frame.at]⟩
set_option maxRecDepth 100000 in
theorem take_other_bool (q b1 b2 n : Nat) (x : Bool) (buf : Array Value) (s r s1 r1 : Nat) (w : World) (h0 : w.cell? ⟨q, 0, none⟩ = some (.chan (some b1))) (h1 : w.cell? ⟨q, 1, none⟩ = some (.chan (some b2))) (hb1 : w.heap[b1]? = some (.chan n #[] false s1 r1 false)) (hb : w.heap[b2]? = some (.chan n buf false s r false)) (hs : 0 < buf.size) (hx : buf.getD 0 undef = (.bool x)) :
    Calls Try.prog 22 #[.pointer (some ⟨q, 0, none⟩)] w fun e w' => e = .returned (.tuple #[(.bool x), .bool true]) ∧ w' = w.setChan b2 n (buf.extract 1 buf.size) false s (r + 1) false := by
  refine calls_of_loneTo fun cs => ?_
  have e : Frame.enter Try.prog 22 #[.pointer (some ⟨q, 0, none⟩)] .normal = (base 22).at ⟨#[.pointer (some ⟨q, 0, none⟩), undef, undef, undef, undef, undef, undef, undef, undef, undef, undef, undef, undef, undef, undef, undef, undef, undef, undef, undef, undef, undef, undef, undef, undef, undef], []⟩ [.code (Try.f22.body.getD .skip)] := by
    simp [Frame.enter, Frame.at, Try.func22, base, Try.f22]
  rw [e]
  refine LoneTo.goes (n := 20) ?_
  simp only [Try.f22, Option.getD_some]
  s_c stepG_seq
  s_reg
  s_op
  s_op
  s_c stepG_region_end
  s_c stepG_seq
  s_c stepG_seq
  s_reg
  s_op
  s_op
  s_op
  s_op
  s_c stepG_region_end
  s_c stepG_seq
  s_reg
  s_stop
  refine LoneTo.step (step_lone_select_default (c := b1) (cap := n) (s := s1) (r := r1) (tm := false) (stepG_comm (cases := #[rcase b1 (.bool false)]) (blocking := false) (shape := .select) (w' := w) rfl rfl (by decide) (by simp [go_sem, execOp, rcase, Act.eval])) hb1) ?_
  rw [Frame.finish_at]
  walk_nrm
  refine LoneTo.goes (n := 40) ?_
  s_op
  s_op
  s_c stepG_region_end
  s_c stepG_block
  s_cond false
  s_c stepG_skip
  s_c stepG_inBlock
  s_c stepG_seq
  s_reg
  s_op
  s_op
  s_op
  s_op
  s_c stepG_region_end
  s_c stepG_seq
  s_reg
  s_stop
  refine LoneTo.step (step_lone_select_recv_buf (c := b2) (cap := n) (buf := buf) (s := s) (r := r) (tm := false) (closed := false) (stepG_comm (cases := #[rcase b2 (.bool false)]) (blocking := false) (shape := .select) (w' := w) rfl rfl (by decide) (by simp [go_sem, execOp, rcase, Act.eval])) hb hs) ?_
  rw [Frame.finish_at, hx]
  walk_nrm
  refine LoneTo.goes (n := 40) ?_
  s_op
  s_op
  s_c stepG_region_end
  s_c stepG_block
  s_cond true
  s_c stepG_seq
  s_reg
  s_op
  s_op
  s_c stepG_region_end
  s_c stepG_seq
  s_reg
  s_op
  s_op
  s_op
  s_c stepG_region_end
  s_c stepG_ret'
  s_stop
  exact LoneTo.done ⟨.returned (.tuple #[(.bool x), .bool true]), _, rfl, ⟨rfl, rfl⟩, rfl, rfl, rfl, rfl, _, Try.func22, by simp [results, Try.f22, Frame.at]⟩
set_option maxRecDepth 100000 in
theorem take_none_bool (q b1 b2 n : Nat) (s r s1 r1 : Nat) (w : World) (h0 : w.cell? ⟨q, 0, none⟩ = some (.chan (some b1))) (h1 : w.cell? ⟨q, 1, none⟩ = some (.chan (some b2))) (hb1 : w.heap[b1]? = some (.chan n #[] false s1 r1 false)) (hb : w.heap[b2]? = some (.chan n #[] false s r false)) :
    Calls Try.prog 22 #[.pointer (some ⟨q, 0, none⟩)] w fun e w' => e = .returned (.tuple #[(.bool false), .bool false]) ∧ w' = w := by
  refine calls_of_loneTo fun cs => ?_
  have e : Frame.enter Try.prog 22 #[.pointer (some ⟨q, 0, none⟩)] .normal = (base 22).at ⟨#[.pointer (some ⟨q, 0, none⟩), undef, undef, undef, undef, undef, undef, undef, undef, undef, undef, undef, undef, undef, undef, undef, undef, undef, undef, undef, undef, undef, undef, undef, undef, undef], []⟩ [.code (Try.f22.body.getD .skip)] := by
    simp [Frame.enter, Frame.at, Try.func22, base, Try.f22]
  rw [e]
  refine LoneTo.goes (n := 20) ?_
  simp only [Try.f22, Option.getD_some]
  s_c stepG_seq
  s_reg
  s_op
  s_op
  s_c stepG_region_end
  s_c stepG_seq
  s_c stepG_seq
  s_reg
  s_op
  s_op
  s_op
  s_op
  s_c stepG_region_end
  s_c stepG_seq
  s_reg
  s_stop
  refine LoneTo.step (step_lone_select_default (c := b1) (cap := n) (s := s1) (r := r1) (tm := false) (stepG_comm (cases := #[rcase b1 (.bool false)]) (blocking := false) (shape := .select) (w' := w) rfl rfl (by decide) (by simp [go_sem, execOp, rcase, Act.eval])) hb1) ?_
  rw [Frame.finish_at]
  walk_nrm
  refine LoneTo.goes (n := 40) ?_
  s_op
  s_op
  s_c stepG_region_end
  s_c stepG_block
  s_cond false
  s_c stepG_skip
  s_c stepG_inBlock
  s_c stepG_seq
  s_reg
  s_op
  s_op
  s_op
  s_op
  s_c stepG_region_end
  s_c stepG_seq
  s_reg
  s_stop
  refine LoneTo.step (step_lone_select_default (c := b2) (cap := n) (s := s) (r := r) (tm := false) (stepG_comm (cases := #[rcase b2 (.bool false)]) (blocking := false) (shape := .select) (w' := w) rfl rfl (by decide) (by simp [go_sem, execOp, rcase, Act.eval])) hb) ?_
  rw [Frame.finish_at]
  walk_nrm
  refine LoneTo.goes (n := 40) ?_
  s_op
  s_op
  s_c stepG_region_end
  s_c stepG_block
  s_cond false
  s_c stepG_seq
  s_reg
  s_op
  s_c stepG_region_end
  s_c stepG_seq
  s_reg
  s_op
  s_op
  s_op
  s_c stepG_region_end
  s_c stepG_ret'
  s_stop
  exact LoneTo.done ⟨.returned (.tuple #[(.bool false), .bool false]), _, rfl, ⟨rfl, rfl⟩, rfl, rfl, rfl, rfl, _, Try.func22, by simp [results, Try.f22, Frame.at]⟩
theorem take_bool (q b1 b2 n : Nat) (us os : List Bool) (w : World) (h : IsQ 54 Value.bool w q b1 b2 n us os) :
    Calls Try.prog 22 #[.pointer (some ⟨q, 0, none⟩)] w (TakePost_bool w q b1 b2 n (qtake false us os)) := by
  obtain ⟨s1, r1, h1⟩ := h.c1
  obtain ⟨s2, r2, h2⟩ := h.c2
  have e0 : w.cell? ⟨q, 0, none⟩ = some (.chan (some b1)) := (h.cell 0).trans rfl
  have e1 : w.cell? ⟨q, 1, none⟩ = some (.chan (some b2)) := (h.cell 1).trans rfl
  cases us with
  | cons x us =>
    refine (take_urgent_bool q b1 n x _ s1 r1 w e0 h1 (by simp) (by simp)).mono ?_
    rintro e w' ⟨rfl, rfl⟩
    exact ⟨rfl, h.set1 (by simp [qtake]; rw [List.take_of_length_le (by simp)]), only1 _ _ _ _ _ _ _ _ _⟩
  | nil =>
    cases os with
    | cons x os =>
      refine (take_other_bool q b1 b2 n x _ s2 r2 s1 r1 w e0 e1 h1 h2 (by simp) (by simp)).mono ?_
      rintro e w' ⟨rfl, rfl⟩
      exact ⟨rfl, h.set2 (by simp [qtake]; rw [List.take_of_length_le (by simp)]), only2 _ _ _ _ _ _ _ _ _⟩
    | nil =>
      refine (take_none_bool q b1 b2 n s2 r2 s1 r1 w e0 e1 h1 h2).mono ?_
      rintro e w' ⟨rfl, rfl⟩
      exact ⟨rfl, h, Only.refl _ _ _⟩
theorem many_bool (q b1 b2 n : Nat) (us os : List Bool) (w : World) (h : IsQ 54 Value.bool w q b1 b2 n us os) :
    Calls Try.prog 21 #[.pointer (some ⟨q, 0, none⟩)] w fun e w' => e = .returned (.tuple #[.int .i64 (us.length : Nat), .int .i64 (os.length : Nat)]) ∧ ∃ d, w' = w.drewN d := by
  obtain ⟨s1, r1, h1⟩ := h.c1
  obtain ⟨s2, r2, h2⟩ := h.c2
  have e0 : w.cell? ⟨q, 0, none⟩ = some (.chan (some b1)) := (h.cell 0).trans rfl
  have e1 : w.cell? ⟨q, 1, none⟩ = some (.chan (some b2)) := (h.cell 1).trans rfl
  have l1 := fun (ty : TypeId) (d : Nat) => run_len_chan (P := Try.prog) (w := w.drewN d) 52 ty Try.underlying52 h1
  have l2 := fun (ty : TypeId) (d : Nat) => run_len_chan (P := Try.prog) (w := w.drewN d) 52 ty Try.underlying52 h2
  simp only [List.size_toArray, List.length_map] at l1 l2
  clear h h1 h2
  go_enter Try.func21, Try.ntmps21
  go_wp2_with fail
  go_quiet (fail)
  go_wp2_with fail
  go_ret2
  exact ⟨rfl, _, rfl⟩

theorem bytes_bool : ∃ i, Try.prog.info? 4 = some i ∧ i.bytes = 1 := by
  have h : (Try.prog.info? 4).map (·.bytes) = some 1 := by kernel_rfl
  obtain ⟨i, hi, hb⟩ := Option.map_eq_some_iff.1 h
  exact ⟨i, hi, hb⟩
theorem mk_bool (n : Nat) (hn : n ≤ 64) (w : World) : (Instr.makeChan 52 (.int .i64 n)).run Try.prog w = .ok (.chan (some w.heap.size)) (w.alloc (.chan n #[] false 0 0 false)) := by
  obtain ⟨i, hi, hb⟩ := bytes_bool
  simpa using run_makeChan (P := Try.prog) (w := w) Try.underlying52 hi .i64 n (by omega) (by rw [hb]; omega)
attribute [local go_sem] max_i min_i
set_option maxRecDepth 100000 in
theorem new_bool (k : Int) (w : World) : Calls Try.prog 19 #[.int .i64 k] w (NewPost 54 Value.bool w (room k)) := by
  obtain ⟨n, hn, hn0⟩ : ∃ n, room k = n ∧ n ≤ 64 := ⟨_, rfl, by unfold room; omega⟩
  have hm : min (max k 1) 64 = (n : Int) := by rw [← hn]; unfold room; omega
  have HN := Lib.hid hn
  have hmk := mk_bool n hn0
  clear hn
  go_enter Try.func19, Try.ntmps19
  go_wp2_with fail
  go_region
  all_goals
    go_wp2_with fail
    go_ret
    rw [HN.out]
    first | exact new_post _ _ w n _ _ (.inl ⟨rfl, rfl⟩) | exact new_post _ _ w n _ _ (.inr ⟨rfl, rfl⟩)
end Go.Proofs.Ytinipcfnmngccaa

/- The contracts of the delay layer's functions. -/
import Derived.Test.YtljabocijojceaaKit
namespace Go.Proofs.Ytljabocijojceaa
open Go.RowKit
attribute [local go_sem] max_i min_i

/-- What a delay holds. -/
structure St where
  n0 : Int
  n1 : Int
  v : Bool
  s : Int
  now : Int
def St.cells (d : St) : Array Value := #[.int .i64 d.n0, .int .i64 d.n1, .bool d.v, .int .i64 d.s, .int .i64 d.now]
def St.ok (d : St) : Prop := 0 ≤ d.n0 ∧ 0 ≤ d.n1 ∧ -1 ≤ d.s ∧ d.s ≤ d.now ∧ 0 ≤ d.now ∧ d.now ≤ 1099511627776
def Dl (w : World) (b : Nat) (d : St) : Prop := Blk w b 44 d.cells

set_option maxHeartbeats 400000 in
theorem side_any (v : Bool) (w : World) : Calls Try.prog 19 #[.bool v] w fun e w' => e = .returned (.int .i64 (if v then 1 else 0)) ∧ w' = w := by
  cases v
  all_goals
    go_enter Try.func19, Try.ntmps19
    go_wp2
    go_ret
    exact ⟨rfl, rfl⟩

set_option maxHeartbeats 400000 in
theorem turn_any (b : Nat) (d : St) (v : Bool) (w : World) (hd : Dl w b d) :
    Calls Try.prog 18 #[.pointer (some ⟨b, 0, none⟩), .bool v] w fun e w' => e = .returned (.tuple #[]) ∧ Dl w' b { d with v := v, s := -1 } ∧ w.grownBy w' (some b) := by
  have c1 := Blk.cell hd 2
  have c2 := Blk.cell hd 3
  have f1 := Blk.frozen hd 2
  have f2 := Blk.frozen hd 3
  simp only [St.cells] at c1 c2
  have H := Lib.hid hd
  clear hd
  go_enter Try.func18, Try.ntmps18
  go_wp2
  go_end0
  refine ⟨rfl, ?_, ?_⟩
  · have := Blk.set_ (Blk.set_ H.out 2 (.bool v)) 3 (.int .i64 (-1))
    simpa [Dl, St.cells] using this
  · exact gr_set (gr_set (World.grownBy.refl _ _) _ _) _ _

def St.see (d : St) (v : Bool) (t : Int) : St :=
  if v = d.v then { d with now := min (max t d.now) 1099511627776, s := -1 }
  else if (if v then d.n1 else d.n0) ≤ min (max t d.now) 1099511627776 - (if d.s < 0 then min (max t d.now) 1099511627776 else d.s) then { d with v := v, s := -1, now := min (max t d.now) 1099511627776 }
  else { d with s := (if d.s < 0 then min (max t d.now) 1099511627776 else d.s), now := min (max t d.now) 1099511627776 }

set_option maxHeartbeats 800000 in
theorem see_any (b : Nat) (d : St) (v : Bool) (t : Int) (w : World) (hd : Dl w b d) (hok : d.ok) (ht : -9223372036854775808 ≤ t ∧ t ≤ 9223372036854775807) :
    Calls Try.prog 11 #[.pointer (some ⟨b, 0, none⟩), .bool v, .int .i64 t] w fun e w' => e = .returned (.bool (d.see v t).v) ∧ Dl w' b (d.see v t) ∧ w.grownBy w' (some b) := by
  have c0 : w.cell? ⟨b, 0, none⟩ = some (.int .i64 d.n0) := Blk.cell hd 0
  have c1 : w.cell? ⟨b, 1, none⟩ = some (.int .i64 d.n1) := Blk.cell hd 1
  have c2 : w.cell? ⟨b, 2, none⟩ = some (.bool d.v) := Blk.cell hd 2
  have c3 : w.cell? ⟨b, 3, none⟩ = some (.int .i64 d.s) := Blk.cell hd 3
  have c4 : w.cell? ⟨b, 4, none⟩ = some (.int .i64 d.now) := Blk.cell hd 4
  have f2 := Blk.frozen hd 2
  have f3 := Blk.frozen hd 3
  have f4 := Blk.frozen hd 4
  have H := Lib.hid hd
  clear hd
  obtain ⟨n0, n1, v0, s, now⟩ := d
  obtain ⟨h1, h2, h3, h4, h5, h6⟩ := hok
  simp only at h1 h2 h3 h4 h5 h6 c0 c1 c2 c3 c4
  obtain ⟨m, Hm⟩ : ∃ m, Hid (m = min (max t now) 1099511627776) := ⟨_, rfl⟩
  have hm1 : now ≤ m := by have := Hm.out; omega
  have hm2 : m ≤ 1099511627776 := by have := Hm.out; omega
  by_cases hv : v = v0
  · subst hv
    have D := Blk.set_ H.out 4 (.int .i64 (min (max t now) 1099511627776))
    have Hs : Hid (Dl (w.setCell ⟨b, 4, none⟩ (.int .i64 (min (max t now) 1099511627776))) b { n0 := n0, n1 := n1, v := v, s := s, now := min (max t now) 1099511627776 }) := by
      simpa [Dl, St.cells, Hid] using D
    clear D
    go_enter Try.func11, Try.ntmps11
    go_wp2_with fail
    refine (turn_any b _ _ _ Hs.out).mono ?_
    rintro e w1 ⟨rfl, hd1, hg⟩
    have k2 : w1.cell? ⟨b, 2, none⟩ = some (.bool v) := Blk.cell hd1 2
    have Hd1 := Lib.hid hd1
    clear hd1
    go_wp2
    go_ret
    refine ⟨by simp [St.see], by simpa [St.see] using Hd1.out, (gr_set (World.grownBy.refl _ _) 4 _).trans hg⟩
  · obtain rfl : v0 = !v := by cases v <;> cases v0 <;> simp_all
    clear hv
    -- the time since when, and how much it needs
    obtain ⟨s', Hs'⟩ : ∃ s', Hid (s' = if s < 0 then m else s) := ⟨_, rfl⟩
    have hs1 : 0 ≤ s' := by have := Hs'.out; split at this <;> omega
    have hs2 : s' ≤ m := by have := Hs'.out; split at this <;> omega
    have D := Blk.set_ H.out 4 (.int .i64 (min (max t now) 1099511627776))
    have D' := Blk.set_ D 3 (.int .i64 (min (max t now) 1099511627776))
    have Hs : Hid (s < 0 → Dl ((w.setCell ⟨b, 4, none⟩ (.int .i64 (min (max t now) 1099511627776))).setCell ⟨b, 3, none⟩ (.int .i64 (min (max t now) 1099511627776))) b { n0 := n0, n1 := n1, v := !v, s := s', now := m }) := fun hs => by
      have h1 := Hs'.out
      rw [if_pos hs, Hm.out] at h1
      rw [h1, Hm.out]
      simpa [Dl, St.cells, Hid] using D'
    have Hs2 : Hid (¬ s < 0 → Dl (w.setCell ⟨b, 4, none⟩ (.int .i64 (min (max t now) 1099511627776))) b { n0 := n0, n1 := n1, v := !v, s := s', now := m }) := fun hs => by
      have h1 := Hs'.out
      rw [if_neg hs] at h1
      rw [h1, Hm.out]
      simpa [Dl, St.cells, Hid] using D
    clear D D'
    cases v
    · by_cases hs : s < 0
      · have Hd := Lib.hid (Hs.out hs)
        clear Hs Hs2
        by_cases hge : n0 ≤ m - s'
        · have Hge := Lib.hid hge
          have hge' := decide_eq_true hge
          clear hge
          go_enter Try.func11, Try.ntmps11
          go_wp2_with fail
          generalize hw2 : ((w.setCell ⟨b, 4, none⟩ (.int .i64 (min (max t now) 1099511627776))).setCell ⟨b, 3, none⟩ (.int .i64 (min (max t now) 1099511627776))) = w2 at Hd ⊢
          have hgr : w.grownBy w2 (some b) := by subst hw2; exact gr_set (gr_set (World.grownBy.refl _ _) _ _) _ _
          clear hw2
          have k0 : w2.cell? ⟨b, 0, none⟩ = some (.int .i64 n0) := Blk.cell Hd.out 0
          have k1 : w2.cell? ⟨b, 1, none⟩ = some (.int .i64 n1) := Blk.cell Hd.out 1
          have k2 : w2.cell? ⟨b, 2, none⟩ = some (.bool true) := Blk.cell Hd.out 2
          have k3 : w2.cell? ⟨b, 3, none⟩ = some (.int .i64 s') := Blk.cell Hd.out 3
          have k4 : w2.cell? ⟨b, 4, none⟩ = some (.int .i64 m) := Blk.cell Hd.out 4
          clear c0 c1 c2 c3 c4 f2 f3 f4
          go_quiet ((go_at_call 19; refine Calls.quiet_of_same (side_any _ _)))
          go_wp2_with fail
          refine (turn_any b _ _ _ (Blk.drewN Hd.out _)).mono ?_
          rintro e w1 ⟨rfl, hd1, hg⟩
          have k2 : w1.cell? ⟨b, 2, none⟩ = some (.bool false) := Blk.cell hd1 2
          have Hd1 := Lib.hid hd1
          clear hd1
          go_wp2
          go_ret
          refine ⟨?_, ?_, ?_⟩
          · simp [St.see, ← Hm.out, ← Hs'.out, Hge.out]
          · have := Hd1.out; simpa [St.see, ← Hm.out, ← Hs'.out, Hge.out] using this
          · exact (gr_drewN hgr _).trans hg
        · have Hge := Lib.hid hge
          have hge' := decide_eq_false hge
          have hge2 : m - s' < n0 := by omega
          clear hge
          go_enter Try.func11, Try.ntmps11
          go_wp2_with fail
          generalize hw2 : ((w.setCell ⟨b, 4, none⟩ (.int .i64 (min (max t now) 1099511627776))).setCell ⟨b, 3, none⟩ (.int .i64 (min (max t now) 1099511627776))) = w2 at Hd ⊢
          have hgr : w.grownBy w2 (some b) := by subst hw2; exact gr_set (gr_set (World.grownBy.refl _ _) _ _) _ _
          clear hw2
          have k0 : w2.cell? ⟨b, 0, none⟩ = some (.int .i64 n0) := Blk.cell Hd.out 0
          have k1 : w2.cell? ⟨b, 1, none⟩ = some (.int .i64 n1) := Blk.cell Hd.out 1
          have k2 : w2.cell? ⟨b, 2, none⟩ = some (.bool true) := Blk.cell Hd.out 2
          have k3 : w2.cell? ⟨b, 3, none⟩ = some (.int .i64 s') := Blk.cell Hd.out 3
          have k4 : w2.cell? ⟨b, 4, none⟩ = some (.int .i64 m) := Blk.cell Hd.out 4
          clear c0 c1 c2 c3 c4 f2 f3 f4
          go_quiet ((go_at_call 19; refine Calls.quiet_of_same (side_any _ _)))
          go_wp2_with fail
          go_ret
          refine ⟨?_, ?_, ?_⟩
          · simp only [St.see, ← Hm.out, ← Hs'.out]; simp [if_neg (Int.not_le.2 Hge.out)]
          · have := show Dl (w2.drewN nq) b _ from Blk.drewN Hd.out nq; simp only [St.see, ← Hm.out, ← Hs'.out]; simpa [if_neg (Int.not_le.2 Hge.out)] using this
          · exact gr_drewN hgr _
      · have Hd := Lib.hid (Hs2.out hs)
        clear Hs Hs2
        have hs' := decide_eq_false hs
        by_cases hge : n0 ≤ m - s'
        · have Hge := Lib.hid hge
          have hge' := decide_eq_true hge
          clear hge
          go_enter Try.func11, Try.ntmps11
          go_wp2_with fail
          generalize hw2 : (w.setCell ⟨b, 4, none⟩ (.int .i64 (min (max t now) 1099511627776))) = w2 at Hd ⊢
          have hgr : w.grownBy w2 (some b) := by subst hw2; exact gr_set (World.grownBy.refl _ _) _ _
          clear hw2
          have k0 : w2.cell? ⟨b, 0, none⟩ = some (.int .i64 n0) := Blk.cell Hd.out 0
          have k1 : w2.cell? ⟨b, 1, none⟩ = some (.int .i64 n1) := Blk.cell Hd.out 1
          have k2 : w2.cell? ⟨b, 2, none⟩ = some (.bool true) := Blk.cell Hd.out 2
          have k3 : w2.cell? ⟨b, 3, none⟩ = some (.int .i64 s') := Blk.cell Hd.out 3
          have k4 : w2.cell? ⟨b, 4, none⟩ = some (.int .i64 m) := Blk.cell Hd.out 4
          clear c0 c1 c2 c3 c4 f2 f3 f4
          go_quiet ((go_at_call 19; refine Calls.quiet_of_same (side_any _ _)))
          go_wp2_with fail
          refine (turn_any b _ _ _ (Blk.drewN Hd.out _)).mono ?_
          rintro e w1 ⟨rfl, hd1, hg⟩
          have k2 : w1.cell? ⟨b, 2, none⟩ = some (.bool false) := Blk.cell hd1 2
          have Hd1 := Lib.hid hd1
          clear hd1
          go_wp2
          go_ret
          refine ⟨?_, ?_, ?_⟩
          · simp [St.see, ← Hm.out, ← Hs'.out, Hge.out]
          · have := Hd1.out; simpa [St.see, ← Hm.out, ← Hs'.out, Hge.out] using this
          · exact (gr_drewN hgr _).trans hg
        · have Hge := Lib.hid hge
          have hge' := decide_eq_false hge
          have hge2 : m - s' < n0 := by omega
          clear hge
          go_enter Try.func11, Try.ntmps11
          go_wp2_with fail
          generalize hw2 : (w.setCell ⟨b, 4, none⟩ (.int .i64 (min (max t now) 1099511627776))) = w2 at Hd ⊢
          have hgr : w.grownBy w2 (some b) := by subst hw2; exact gr_set (World.grownBy.refl _ _) _ _
          clear hw2
          have k0 : w2.cell? ⟨b, 0, none⟩ = some (.int .i64 n0) := Blk.cell Hd.out 0
          have k1 : w2.cell? ⟨b, 1, none⟩ = some (.int .i64 n1) := Blk.cell Hd.out 1
          have k2 : w2.cell? ⟨b, 2, none⟩ = some (.bool true) := Blk.cell Hd.out 2
          have k3 : w2.cell? ⟨b, 3, none⟩ = some (.int .i64 s') := Blk.cell Hd.out 3
          have k4 : w2.cell? ⟨b, 4, none⟩ = some (.int .i64 m) := Blk.cell Hd.out 4
          clear c0 c1 c2 c3 c4 f2 f3 f4
          go_quiet ((go_at_call 19; refine Calls.quiet_of_same (side_any _ _)))
          go_wp2_with fail
          go_ret
          refine ⟨?_, ?_, ?_⟩
          · simp only [St.see, ← Hm.out, ← Hs'.out]; simp [if_neg (Int.not_le.2 Hge.out)]
          · have := show Dl (w2.drewN nq) b _ from Blk.drewN Hd.out nq; simp only [St.see, ← Hm.out, ← Hs'.out]; simpa [if_neg (Int.not_le.2 Hge.out)] using this
          · exact gr_drewN hgr _
    · by_cases hs : s < 0
      · have Hd := Lib.hid (Hs.out hs)
        clear Hs Hs2
        by_cases hge : n1 ≤ m - s'
        · have Hge := Lib.hid hge
          have hge' := decide_eq_true hge
          clear hge
          go_enter Try.func11, Try.ntmps11
          go_wp2_with fail
          generalize hw2 : ((w.setCell ⟨b, 4, none⟩ (.int .i64 (min (max t now) 1099511627776))).setCell ⟨b, 3, none⟩ (.int .i64 (min (max t now) 1099511627776))) = w2 at Hd ⊢
          have hgr : w.grownBy w2 (some b) := by subst hw2; exact gr_set (gr_set (World.grownBy.refl _ _) _ _) _ _
          clear hw2
          have k0 : w2.cell? ⟨b, 0, none⟩ = some (.int .i64 n0) := Blk.cell Hd.out 0
          have k1 : w2.cell? ⟨b, 1, none⟩ = some (.int .i64 n1) := Blk.cell Hd.out 1
          have k2 : w2.cell? ⟨b, 2, none⟩ = some (.bool false) := Blk.cell Hd.out 2
          have k3 : w2.cell? ⟨b, 3, none⟩ = some (.int .i64 s') := Blk.cell Hd.out 3
          have k4 : w2.cell? ⟨b, 4, none⟩ = some (.int .i64 m) := Blk.cell Hd.out 4
          clear c0 c1 c2 c3 c4 f2 f3 f4
          go_quiet ((go_at_call 19; refine Calls.quiet_of_same (side_any _ _)))
          go_wp2_with fail
          refine (turn_any b _ _ _ (Blk.drewN Hd.out _)).mono ?_
          rintro e w1 ⟨rfl, hd1, hg⟩
          have k2 : w1.cell? ⟨b, 2, none⟩ = some (.bool true) := Blk.cell hd1 2
          have Hd1 := Lib.hid hd1
          clear hd1
          go_wp2
          go_ret
          refine ⟨?_, ?_, ?_⟩
          · simp [St.see, ← Hm.out, ← Hs'.out, Hge.out]
          · have := Hd1.out; simpa [St.see, ← Hm.out, ← Hs'.out, Hge.out] using this
          · exact (gr_drewN hgr _).trans hg
        · have Hge := Lib.hid hge
          have hge' := decide_eq_false hge
          have hge2 : m - s' < n1 := by omega
          clear hge
          go_enter Try.func11, Try.ntmps11
          go_wp2_with fail
          generalize hw2 : ((w.setCell ⟨b, 4, none⟩ (.int .i64 (min (max t now) 1099511627776))).setCell ⟨b, 3, none⟩ (.int .i64 (min (max t now) 1099511627776))) = w2 at Hd ⊢
          have hgr : w.grownBy w2 (some b) := by subst hw2; exact gr_set (gr_set (World.grownBy.refl _ _) _ _) _ _
          clear hw2
          have k0 : w2.cell? ⟨b, 0, none⟩ = some (.int .i64 n0) := Blk.cell Hd.out 0
          have k1 : w2.cell? ⟨b, 1, none⟩ = some (.int .i64 n1) := Blk.cell Hd.out 1
          have k2 : w2.cell? ⟨b, 2, none⟩ = some (.bool false) := Blk.cell Hd.out 2
          have k3 : w2.cell? ⟨b, 3, none⟩ = some (.int .i64 s') := Blk.cell Hd.out 3
          have k4 : w2.cell? ⟨b, 4, none⟩ = some (.int .i64 m) := Blk.cell Hd.out 4
          clear c0 c1 c2 c3 c4 f2 f3 f4
          go_quiet ((go_at_call 19; refine Calls.quiet_of_same (side_any _ _)))
          go_wp2_with fail
          go_ret
          refine ⟨?_, ?_, ?_⟩
          · simp only [St.see, ← Hm.out, ← Hs'.out]; simp [if_neg (Int.not_le.2 Hge.out)]
          · have := show Dl (w2.drewN nq) b _ from Blk.drewN Hd.out nq; simp only [St.see, ← Hm.out, ← Hs'.out]; simpa [if_neg (Int.not_le.2 Hge.out)] using this
          · exact gr_drewN hgr _
      · have Hd := Lib.hid (Hs2.out hs)
        clear Hs Hs2
        have hs' := decide_eq_false hs
        by_cases hge : n1 ≤ m - s'
        · have Hge := Lib.hid hge
          have hge' := decide_eq_true hge
          clear hge
          go_enter Try.func11, Try.ntmps11
          go_wp2_with fail
          generalize hw2 : (w.setCell ⟨b, 4, none⟩ (.int .i64 (min (max t now) 1099511627776))) = w2 at Hd ⊢
          have hgr : w.grownBy w2 (some b) := by subst hw2; exact gr_set (World.grownBy.refl _ _) _ _
          clear hw2
          have k0 : w2.cell? ⟨b, 0, none⟩ = some (.int .i64 n0) := Blk.cell Hd.out 0
          have k1 : w2.cell? ⟨b, 1, none⟩ = some (.int .i64 n1) := Blk.cell Hd.out 1
          have k2 : w2.cell? ⟨b, 2, none⟩ = some (.bool false) := Blk.cell Hd.out 2
          have k3 : w2.cell? ⟨b, 3, none⟩ = some (.int .i64 s') := Blk.cell Hd.out 3
          have k4 : w2.cell? ⟨b, 4, none⟩ = some (.int .i64 m) := Blk.cell Hd.out 4
          clear c0 c1 c2 c3 c4 f2 f3 f4
          go_quiet ((go_at_call 19; refine Calls.quiet_of_same (side_any _ _)))
          go_wp2_with fail
          refine (turn_any b _ _ _ (Blk.drewN Hd.out _)).mono ?_
          rintro e w1 ⟨rfl, hd1, hg⟩
          have k2 : w1.cell? ⟨b, 2, none⟩ = some (.bool true) := Blk.cell hd1 2
          have Hd1 := Lib.hid hd1
          clear hd1
          go_wp2
          go_ret
          refine ⟨?_, ?_, ?_⟩
          · simp [St.see, ← Hm.out, ← Hs'.out, Hge.out]
          · have := Hd1.out; simpa [St.see, ← Hm.out, ← Hs'.out, Hge.out] using this
          · exact (gr_drewN hgr _).trans hg
        · have Hge := Lib.hid hge
          have hge' := decide_eq_false hge
          have hge2 : m - s' < n1 := by omega
          clear hge
          go_enter Try.func11, Try.ntmps11
          go_wp2_with fail
          generalize hw2 : (w.setCell ⟨b, 4, none⟩ (.int .i64 (min (max t now) 1099511627776))) = w2 at Hd ⊢
          have hgr : w.grownBy w2 (some b) := by subst hw2; exact gr_set (World.grownBy.refl _ _) _ _
          clear hw2
          have k0 : w2.cell? ⟨b, 0, none⟩ = some (.int .i64 n0) := Blk.cell Hd.out 0
          have k1 : w2.cell? ⟨b, 1, none⟩ = some (.int .i64 n1) := Blk.cell Hd.out 1
          have k2 : w2.cell? ⟨b, 2, none⟩ = some (.bool false) := Blk.cell Hd.out 2
          have k3 : w2.cell? ⟨b, 3, none⟩ = some (.int .i64 s') := Blk.cell Hd.out 3
          have k4 : w2.cell? ⟨b, 4, none⟩ = some (.int .i64 m) := Blk.cell Hd.out 4
          clear c0 c1 c2 c3 c4 f2 f3 f4
          go_quiet ((go_at_call 19; refine Calls.quiet_of_same (side_any _ _)))
          go_wp2_with fail
          go_ret
          refine ⟨?_, ?_, ?_⟩
          · simp only [St.see, ← Hm.out, ← Hs'.out]; simp [if_neg (Int.not_le.2 Hge.out)]
          · have := show Dl (w2.drewN nq) b _ from Blk.drewN Hd.out nq; simp only [St.see, ← Hm.out, ← Hs'.out]; simpa [if_neg (Int.not_le.2 Hge.out)] using this
          · exact gr_drewN hgr _

end Go.Proofs.Ytljabocijojceaa

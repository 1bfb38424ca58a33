/- The live question. -/
import Derived.Test.YtkmmkoiibcdmeaaF1
import Derived.Test.YtkmmkoiibcdmeaaQA2
import Derived.Lib.SlBytesConst
namespace Go.Proofs.Ytkmmkoiibcdmeaa
open Go.RowKit Go.Proofs.YtkmmkoiibcdmeaaW.PrintWords Go.Proofs.YtkmmkoiibcdmeaaW.PrintLast Go.Proofs.YtkmmkoiibcdmeaaW.PrintMore
set_option linter.unusedVariables false
def bytesRow (l : List Int) : Array Value := (l.map fun x => Value.int .u8 x).toArray
theorem lit_Cf (w : World) (l : List Int) (hl : l.length ≤ maxLen) (cs : Array Value) (fr : Nat × Nat) (hcs : cs = bytesRow l) : Kd.C (Kd.int .u8) (w.alloc (.cells cs 5 fr)) (some ⟨w.heap.size, 0, none⟩) l.length l := by
  subst hcs
  refine ⟨rfl, by unfold maxLen at hl; omega, fun _ => ⟨_, rfl, fun j p hp => ⟨[.int .u8 p], rfl, rfl, fun i u hu => ?_⟩⟩⟩
  obtain rfl : i = 0 := by
    have := (List.getElem?_eq_some_iff.1 hu).1; simp at this; exact this
  obtain rfl : _ = u := by simpa using hu
  rw [add_plain]
  have hh : (w.alloc (.cells (bytesRow l) 5 fr)).heap[w.heap.size]? = some (.cells (bytesRow l) 5 fr) := by
    show (w.heap.push _)[w.heap.size]? = _
    simp
  simp only [World.cell?, hh]
  have hsz : j * (Kd.int .u8).sz + 0 = j := Nat.mul_one j
  rw [hsz]
  simp [bytesRow, hp]
theorem put_lit (w : World) (fr : Nat × Nat) : Calls Try.prog 15 #[.agg #[.int .u16 7, .int .u8 1, .slice (some ⟨w.heap.size, 0, none⟩) 1 1]] (w.alloc (.cells #[.int .u8 3] 5 fr)) fun e w' => ∃ g c, e = .returned (.slice (some ⟨g, 0, none⟩) 8 c) ∧ 8 ≤ c ∧ Kd.C (Kd.int .u8) w' (some ⟨g, 0, none⟩) 8 [0, 7, 0, 0, 0, 2, 1, 3] ∧ Below w.heap.size w w' := by
  have h1 := QA.mbap_Put.calls 7 1 (some ⟨w.heap.size, 0, none⟩) 1 [3] [0, 7, 0, 0, 0, 2, 1, 3] _ (lit_Cf w [3] (by decide) #[.int .u8 3] fr rfl) (by decide) (by decide +kernel)
  refine h1.mono ?_
  rintro e w1 ⟨v, rfl, ho, hb⟩
  have ho' : Kd.R (Kd.int .u8) 5 w1 _ (fun _ => True) v [0, 7, 0, 0, 0, 2, 1, 3] := ho
  obtain ⟨_, ⟨_, h0⟩ | ⟨g, c, cur, rfl, _⟩⟩ := Kd.own_of_R ho'
  · exact absurd h0 (by decide)
  obtain ⟨_, hc, hr⟩ := Kd.R_reads' ho'
  exact ⟨g, c, rfl, hc, hr, below_step (below_alloc (Below.refl _ _) _) hb⟩
def LitPost (w : World) (x : Int × Int × List Int × Int × Int) (e : Ending) (w' : World) : Prop := ∃ B d, e = .returned (.tuple #[.agg #[.int .u16 x.1, .int .u8 x.2.1, .slice B x.2.2.1.length d], .int .i64 x.2.2.2.1, .int .i64 x.2.2.2.2]) ∧
      Kd.C (Kd.int .u8) w' B x.2.2.1.length x.2.2.1 ∧ Below w.heap.size w w'
theorem first_lit (L : List Int) (n : Nat) (cs : Array Value) (x : Int × Int × List Int × Int × Int) (hn : L.length = n) (hb : ∀ y ∈ L, 0 ≤ y ∧ y ≤ 255) (hm : L.length ≤ 1000) (hcs : cs = bytesRow L) (hx : firstOf L = x) (w : World) (fr : Nat × Nat) :
    Calls Try.prog 10 #[.slice (some ⟨w.heap.size, 0, none⟩) n n] (w.alloc (.cells cs 5 fr)) (LitPost w x) := by
  subst hn
  have h1 := first_any (some ⟨w.heap.size, 0, none⟩) L.length L _ (by omega) hb (lit_Cf w L (by unfold maxLen; omega) cs fr hcs) (Nat.le_refl _)
  rw [hx] at h1
  refine h1.mono ?_
  rintro e w1 ⟨v, rfl, ho, hb⟩
  obtain ⟨B, d, rfl⟩ := Kd.R_slice ho
  obtain ⟨_, _, hr⟩ := Kd.R_reads' ho
  exact ⟨B, d, rfl, hr, below_step (below_alloc (Below.refl _ _) _) hb⟩
theorem first1 (w : World) (fr : Nat × Nat) : Calls Try.prog 10 #[.slice (some ⟨w.heap.size, 0, none⟩) 9 9] (w.alloc (.cells #[.int .u8 0, .int .u8 7, .int .u8 0, .int .u8 0, .int .u8 0, .int .u8 2, .int .u8 1, .int .u8 3, .int .u8 9] 5 fr)) (LitPost w (7, 1, [3], 8, 0)) :=
  first_lit [0, 7, 0, 0, 0, 2, 1, 3, 9] 9 _ _ rfl (by decide) (by decide) rfl (by decide +kernel) w fr
theorem first2 (w : World) (fr : Nat × Nat) : Calls Try.prog 10 #[.slice (some ⟨w.heap.size, 0, none⟩) 7 7] (w.alloc (.cells #[.int .u8 0, .int .u8 7, .int .u8 0, .int .u8 0, .int .u8 0, .int .u8 2, .int .u8 1] 5 fr)) (LitPost w (0, 0, [], 0, 0)) :=
  first_lit [0, 7, 0, 0, 0, 2, 1] 7 _ _ rfl (by decide) (by decide) rfl (by decide +kernel) w fr
theorem first3 (w : World) (fr : Nat × Nat) : Calls Try.prog 10 #[.slice (some ⟨w.heap.size, 0, none⟩) 3 3] (w.alloc (.cells #[.int .u8 0, .int .u8 7, .int .u8 1] 5 fr)) (LitPost w (0, 0, [], 0, 31)) :=
  first_lit [0, 7, 1] 3 _ _ rfl (by decide) (by decide) rfl (by decide +kernel) w fr
theorem first4 (w : World) (fr : Nat × Nat) : Calls Try.prog 10 #[.slice (some ⟨w.heap.size, 0, none⟩) 6 6] (w.alloc (.cells #[.int .u8 0, .int .u8 7, .int .u8 0, .int .u8 0, .int .u8 0, .int .u8 1] 5 fr)) (LitPost w (0, 0, [], 0, 31)) :=
  first_lit [0, 7, 0, 0, 0, 1] 6 _ _ rfl (by decide) (by decide) rfl (by decide +kernel) w fr
set_option maxRecDepth 100000 in
set_option maxHeartbeats 2000000 in
theorem head_any (w : World) : Calls Try.prog 9 #[] w fun e w' => e = .returned (.bool true) ∧ Below w.heap.size w w' := by
  go_enter Try.func9, Try.ntmps9
  go_wp2_with fail
  refine (put_lit w _).mono ?_
  rintro e w1 ⟨g, c, rfl, hc, hr, hb⟩
  have HR := Lib.hid hr
  have HB := Lib.hid hb
  clear hr hb
  go_wp2_with fail
  refine (first1 w1 _).mono ?_
  rintro e w2 ⟨B, d, rfl, hx, hb⟩
  have HR2 := Lib.hid (Kd.C_below HR.out hb)
  have HX := Lib.hid hx
  have HB2 := Lib.hid (below_step HB.out hb)
  clear hb hx HR HB
  go_wp2_with fail
  have h2 := first2 (w2.alloc (.cells #[.int .u16 7, .int .u8 1, .slice B 1 d] 26)) (0, 0)
  rw [World.size_alloc] at h2
  refine h2.mono ?_
  rintro e w3 ⟨B2, d2, rfl, _, hb⟩
  have HR3 := Lib.hid (Kd.C_below (Kd.C_alloc HR2.out _) hb)
  have HX3 := Lib.hid (Kd.C_below (Kd.C_alloc HX.out _) hb)
  have HB3 := Lib.hid (below_step (below_alloc HB2.out _) hb)
  have HF3 := Lib.hid ((hb.block w2.heap.size (by simp)).trans (blk_new w2 _))
  clear hb HR2 HX HB2 h2
  generalize w2.heap.size = p at HF3 ⊢
  go_wp2_with fail
  have h2 := first3 (w3.alloc (.cells #[.int .u16 0, .int .u8 0, .slice B2 0 d2] 26)) (0, 0)
  rw [World.size_alloc] at h2
  refine h2.mono ?_
  rintro e w4 ⟨B3, d3, rfl, _, hb⟩
  have HR := Lib.hid (Kd.C_below (Kd.C_alloc HR3.out _) hb)
  have HX := Lib.hid (Kd.C_below (Kd.C_alloc HX3.out _) hb)
  have HB := Lib.hid (below_step (below_alloc HB3.out _) hb)
  have HF := Lib.hid ((hb.block p (by have := blk_lt HF3.out; simp; omega)).trans (blk_alloc HF3.out _))
  clear hb HR3 HX3 HB3 HF3 h2
  go_wp2_with fail
  have h2 := first4 (w4.alloc (.cells #[.int .u16 0, .int .u8 0, .slice B3 0 d3] 26)) (0, 0)
  rw [World.size_alloc] at h2
  refine h2.mono ?_
  rintro e w5 ⟨B4, d4, rfl, _, hb⟩
  have hr := Kd.C_below (Kd.C_alloc HR.out (.cells #[.int .u16 0, .int .u8 0, .slice B3 0 d3] 26)) hb
  have hx := Kd.C_below (Kd.C_alloc HX.out (.cells #[.int .u16 0, .int .u8 0, .slice B3 0 d3] 26)) hb
  have HB5 := Lib.hid (below_step (below_alloc HB.out (.cells #[.int .u16 0, .int .u8 0, .slice B3 0 d3] 26)) hb)
  have hfx := (hb.block p (by have := blk_lt HF.out; simp; omega)).trans (blk_alloc HF.out _)
  have hstr : ∀ w', Below w5.heap.size w5 w' → (convert 22 9 (.slice B 1 d)).run Try.prog w' = .ok (.string ⟨#[3]⟩) w' := fun w' h => by
    have := Kd.C_string (P := Try.prog) (src := 22) (dst := 9) (e := 5) (c := d) Try.underlying22 Try.underlying5 Try.underlying9 (Kd.C_below hx h)
    exact this
  have hs := hstr _ (below_alloc (Below.refl _ _) (.cells #[.int .u16 0, .int .u8 0, .slice B4 0 d4] 26))
  obtain ⟨ad, e1, hx1⟩ := Kd.at_int hr 1 (by decide) (by decide)
  obtain ⟨ad', e2, hx5⟩ := Kd.at_int hr 5 (by decide) (by decide)
  cases e1
  cases e2
  have hb6 : Below w5.heap.size w5 (w5.alloc (.cells #[.int .u16 0, .int .u8 0, .slice B4 0 d4] 26)) := below_alloc (Below.refl _ _) _
  have hx1' : (w5.alloc (.cells #[.int .u16 0, .int .u8 0, .slice B4 0 d4] 26)).cell? ⟨g, 1, none⟩ = some (.int .u8 7) := pw_cell_below hb6 hx1
  have hx5' : (w5.alloc (.cells #[.int .u16 0, .int .u8 0, .slice B4 0 d4] 26)).cell? ⟨g, 5, none⟩ = some (.int .u8 2) := pw_cell_below hb6 hx5
  have hfx := blk_alloc hfx (.cells #[.int .u16 0, .int .u8 0, .slice B4 0 d4] 26)
  have hy0 : (w5.alloc (.cells #[.int .u16 0, .int .u8 0, .slice B4 0 d4] 26)).cell? ⟨p, 0, none⟩ = some (.int .u16 7) := (blk_cell hfx 0).trans rfl
  have hy1 : (w5.alloc (.cells #[.int .u16 0, .int .u8 0, .slice B4 0 d4] 26)).cell? ⟨p, 1, none⟩ = some (.int .u8 1) := (blk_cell hfx 1).trans rfl
  have hy2 : (w5.alloc (.cells #[.int .u16 0, .int .u8 0, .slice B4 0 d4] 26)).cell? ⟨p, 2, none⟩ = some (.slice B 1 d) := (blk_cell hfx 2).trans rfl
  have HFX := Lib.hid hfx
  clear hb HR HX HB HF h2 hstr hx1 hx5 hr hx hfx hb6
  go_wp2_with fail
  go_ret
  exact ⟨rfl, below_alloc HB5.out _⟩
end Go.Proofs.Ytkmmkoiibcdmeaa

/- DelayStood, walked by hand. -/
import Derived.Test.YtljabocijojceaaQA2
import Derived.Test.YtljabocijojceaaPureB
namespace Go.Proofs.Ytljabocijojceaa.QS
open Go.RowKit Go.Proofs.YtljabocijojceaaW.PrintWords Go.Proofs.YtljabocijojceaaW.PrintLast Go.Proofs.Ytljabocijojceaa.QA
attribute [local go_sem] max_i min_i

theorem byte_wf {n : Int} (h : (Lit.int .u8 n).wf = true) : 0 ≤ n ∧ n ≤ 255 := by
  simpa [Lit.wf, IntKind.min, IntKind.max, IntKind.signed, IntKind.bits] using h

theorem see_same (n0 n1 : Int) (v : Bool) (s now x : Int) (h : 0 ≤ x ∧ 0 ≤ now ∧ now + x ≤ 1099511627776) : St.see ⟨n0, n1, v, s, now⟩ v (now + x) = ⟨n0, n1, v, -1, now + x⟩ := by
  have hm : min (max (now + x) now) 1099511627776 = now + x := by omega
  simp [St.see, hm]
theorem see_run (n0 n1 : Int) (v : Bool) (s now x : Int) (h : 0 ≤ x ∧ 0 ≤ now ∧ now + x ≤ 1099511627776) (hs : 0 ≤ s) :
    St.see ⟨n0, n1, v, s, now⟩ (!v) (now + x) = if (if v then n0 else n1) ≤ now + x - s then ⟨n0, n1, !v, -1, now + x⟩ else ⟨n0, n1, v, s, now + x⟩ := by
  have hm : min (max (now + x) now) 1099511627776 = now + x := by omega
  have hs' : ¬ s < 0 := by omega
  cases v <;> simp [St.see, hm, hs']
theorem see_new (n0 n1 : Int) (v : Bool) (s now x : Int) (h : 0 ≤ x ∧ 0 ≤ now ∧ now + x ≤ 1099511627776) (hs : s < 0) :
    St.see ⟨n0, n1, v, s, now⟩ (!v) (now + x) = if (if v then n0 else n1) ≤ 0 then ⟨n0, n1, !v, -1, now + x⟩ else ⟨n0, n1, v, now + x, now + x⟩ := by
  have hm : min (max (now + x) now) 1099511627776 = now + x := by omega
  cases v <;> simp [St.see, hm, hs]

set_option maxHeartbeats 2000000 in
set_option maxRecDepth 100000 in
theorem watchkeeperlaw12_DelayStood.calls (a0 : Int) (a1 : Int) (A2 : Option Addr) (c2 : Nat) (l2 : List Bool) (A3 : Option Addr) (c3 : Nat) (l3 : List Int) (r : Bool) (w : World) (hr2 : Kd.C Kd.bool w A2 l2.length l2) (hc2 : l2.length ≤ c2) (hr3 : Kd.C (Kd.int .u8) w A3 l3.length l3) (hc3 : l3.length ≤ c3)
    (h : r = true ∧ (0 ≤ a0 ∧ a0 ≤ 255) ∧ (0 ≤ a1 ∧ a1 ≤ 255) ∧ ∀ x ∈ l3, 0 ≤ x ∧ x ≤ 255) :
    Calls Try.prog 4 #[.int .u8 a0, .int .u8 a1, .slice A2 l2.length c2, .slice A3 l3.length c3] w fun e w' => e = .returned (.bool r) ∧ Below w.heap.size w w' := by
  obtain ⟨rfl, ⟨h00, h01⟩, ⟨h10, h11⟩, h3⟩ := h
  have HR2 := Lib.hid hr2
  have HR3 := Lib.hid hr3
  have H3 := Lib.hid h3
  clear hr2 hr3 h3
  by_cases hbig : 300 < l2.length
  · go_enter Try.func4, Try.ntmps4
    go_wp2_with fail
    refine (QA.watchkeeperlaw12_head.calls true _ Pure.head_true).mono ?_
    rintro e w1 ⟨rfl, hb1⟩
    have Hb1 := Lib.hid hb1
    clear hb1
    go_wp2_with fail
    refine (new_any _ _ _).mono ?_
    rintro e w2 ⟨rfl, hd2, hb2⟩
    have Hb2 := Lib.hid (below_then Hb1.out Hb1.out.size hb2)
    clear hd2 hb2
    have hbig' : decide ((300 : Int) < (l2.length : Int)) = true := by first | omega | (simp; done) | (simp; omega)
    go_wp2
    go_ret
    exact ⟨rfl, Hb2.out⟩
  · have hbig' : decide ((300 : Int) < (l2.length : Int)) = false := by first | omega | (simp; done) | (simp; omega)
    have hle : l2.length ≤ 300 := by omega
    clear hbig
    go_enter Try.func4, Try.ntmps4
    go_wp2_with fail
    refine (QA.watchkeeperlaw12_head.calls true _ Pure.head_true).mono ?_
    rintro e w1 ⟨rfl, hb1⟩
    have Hb1 := Lib.hid hb1
    clear hb1
    go_wp2_with fail
    refine (new_any _ _ _).mono ?_
    rintro e w2 ⟨rfl, hd2, hb2⟩
    have Hb2 := Lib.hid (below_then Hb1.out Hb1.out.size hb2)
    have Hg := Lib.hid Hb1.out.size
    clear hb2
    have e0 : clampT a0 = a0 := by unfold clampT; omega
    have e1 : clampT a1 = a1 := by unfold clampT; omega
    rw [e0, e1] at hd2
    have Hd2 := Lib.hid hd2
    clear hd2 e0 e1
    generalize hg : w1.heap.size = g at Hd2 Hg ⊢
    clear hg
    go_wp2_with fail
    go_loopw [11, 12, 13, 14, 15] (fun v11 v12 v13 v14 v15 wr => ∃ (k : Nat) (d : St) (fr : Int), k ≤ l2.length ∧ k ≤ l3.length ∧ d.ok ∧ d.n0 = a1 ∧ d.n1 = a0 ∧ (0 ≤ d.s → fr = d.s) ∧ 0 ≤ fr ∧ fr ≤ d.now ∧ d.now ≤ 255 * (k : Int) ∧
      v11 = .bool d.v ∧ v12 = .int .i64 d.now ∧ v13 = .int .i64 fr ∧ v14 = .bool (decide (0 ≤ d.s)) ∧ v15 = .int .i64 k ∧ Dl wr g d ∧ Below w.heap.size w wr) (fun _ _ _ _ v15 _ => l2.length - (intOf v15).toNat)
    case atStart => exact ⟨0, _, 0, Nat.zero_le _, Nat.zero_le _, ⟨h10, h00, by simp, by simp, by simp, by simp⟩, rfl, rfl, by simp, by simp, by simp, by simp, rfl, rfl, rfl, by simp, rfl, Hd2.out, Hb2.out⟩
    case round =>
      obtain ⟨k, d, fr, hk2, hk3, hok, hn0, hn1, hfr, hf0, hf1, hnow, rfl, rfl, rfl, rfl, rfl, hd, hb⟩ := hrel
      obtain ⟨n0, n1, v, s, now⟩ := d
      obtain ⟨o1, o2, o3, o4, o5, o6⟩ := hok
      simp only at o1 o2 o3 o4 o5 o6 hn0 hn1 hfr hf0 hf1 hnow
      subst hn0 hn1
      by_cases hlt2 : k < l2.length
      · by_cases hlt3 : k < l3.length
        · obtain ⟨ad2, rfl, hx2⟩ := Kd.at_bool HR2.out (k : Int) (by omega) (by omega)
          obtain ⟨ad3, rfl, hx3⟩ := Kd.at_int HR3.out (k : Int) (by omega) (by omega)
          have hx2w := hx2
          replace hx2 := (hb.cell (World.block_lt_of_cell? w _ hx2)).trans hx2
          replace hx3 := (hb.cell (World.block_lt_of_cell? w _ hx3)).trans hx3
          simp only [Int.toNat_natCast] at hx2 hx3 hx2w
          have hxm : rd l3 (k : Int) ∈ l3 := by
            unfold rd
            rw [List.getD_eq_getElem?_getD, List.getElem?_eq_getElem (by simpa using hlt3)]
            exact List.getElem_mem _
          have hxb := H3.out _ hxm
          clear hxm
          generalize rd l3 (k : Int) = x at hx3 hxb
          generalize rdOf false l2 (k : Int) = vb at hx2 hx2w
          obtain ⟨hxb0, hxb1⟩ := hxb
          have Hd := Lib.hid hd
          have Hb := Lib.hid hb
          have hbs := hb.size
          clear hd hb
          have Hok : Hid (St.ok ⟨n0, n1, v, s, now⟩) := ⟨o1, o2, o3, o4, o5, o6⟩
          clear o1 o2 o6
          have hfar : Hid ((ad2.add k).block < w.heap.size) := World.block_lt_of_cell? w _ hx2w
          clear hx2w
          cases vb <;> cases v
          · skip
            have Hs : Hid (St.see ⟨n0, n1, false, s, now⟩ false (now + x) = ⟨n0, n1, false, -1, now + x⟩) := see_same _ _ _ _ _ _ ⟨by omega, by omega, by omega⟩
            have hsee := see_any g ⟨n0, n1, false, s, now⟩ false (now + x) wr Hd.out Hok.out (by omega)
            rw [Hs.out] at hsee
            have Hsee := Lib.hid hsee
            clear hsee Hs
            go_wp2_with fail
            refine (Hsee.out).mono ?_
            rintro e w3 ⟨rfl, hd3, hg3⟩
            have kv : w3.cell? ⟨g, 2, none⟩ = some (.bool false) := Blk.cell hd3 2
            skip
            have hx2' : w3.cell? (ad2.add k) = some (.bool false) := (hg3.cell_far (ad2.add k) (World.block_lt_of_cell? wr _ hx2) (by intro e; injection e with e; have := hfar.out; have := Hg.out; omega)).trans hx2
            have Hd3 := Lib.hid hd3
            have Hb3 := Lib.hid (below_gr Hb.out hg3 Hb.out.size Hg.out)
            clear hd3 hg3 hx2 hx3
            go_wp2
            go_roundw
            case rel => exact ⟨k + 1, _, fr, by omega, by omega, ⟨by first | omega | (simp; done) | (simp; omega), by first | omega | (simp; done) | (simp; omega), by first | omega | (simp; done) | (simp; omega), by first | omega | (simp; done) | (simp; omega), by first | omega | (simp; done) | (simp; omega), by first | omega | (simp; done) | (simp; omega)⟩, rfl, rfl, by first | omega | (simp; done) | (simp; omega), by omega, by first | omega | (simp; done) | (simp; omega), by first | omega | (simp; done) | (simp; omega), rfl, rfl, rfl, by first | omega | (simp; done) | (simp; omega), by go_num, Hd3.out, Hb3.out⟩
            case measure => simp [intOf] <;> omega
          · skip
            by_cases hs : 0 ≤ s
            · obtain rfl : fr = s := hfr hs
              have hs' := decide_eq_true hs
              by_cases hge0 : n0 ≤ now + x - fr
              · have hge := Lib.hid hge0
                have hge' := decide_eq_true hge0
                clear hge0
                have Hs : Hid (St.see ⟨n0, n1, true, fr, now⟩ false (now + x) = ⟨n0, n1, false, -1, now + x⟩) := (see_run n0 n1 true fr now x ⟨by omega, by omega, by omega⟩ (by omega)).trans (if_pos (by have := hge.out; first | exact this | (simp only [Int.not_le] at *; simpa using this)))
                have hsee := see_any g ⟨n0, n1, true, fr, now⟩ false (now + x) wr Hd.out Hok.out (by omega)
                rw [Hs.out] at hsee
                have Hsee := Lib.hid hsee
                clear hsee Hs
                go_wp2_with fail
                refine (Hsee.out).mono ?_
                rintro e w3 ⟨rfl, hd3, hg3⟩
                have kv : w3.cell? ⟨g, 2, none⟩ = some (.bool false) := Blk.cell hd3 2
                skip
                have hx2' : w3.cell? (ad2.add k) = some (.bool false) := (hg3.cell_far (ad2.add k) (World.block_lt_of_cell? wr _ hx2) (by intro e; injection e with e; have := hfar.out; have := Hg.out; omega)).trans hx2
                have Hd3 := Lib.hid hd3
                have Hb3 := Lib.hid (below_gr Hb.out hg3 Hb.out.size Hg.out)
                clear hd3 hg3 hx2 hx3
                go_wp2
                go_roundw
                case rel => exact ⟨k + 1, _, fr, by omega, by omega, ⟨by first | omega | (simp; done) | (simp; omega), by first | omega | (simp; done) | (simp; omega), by first | omega | (simp; done) | (simp; omega), by first | omega | (simp; done) | (simp; omega), by first | omega | (simp; done) | (simp; omega), by first | omega | (simp; done) | (simp; omega)⟩, rfl, rfl, by first | omega | (simp; done) | (simp; omega), by omega, by first | omega | (simp; done) | (simp; omega), by first | omega | (simp; done) | (simp; omega), rfl, rfl, rfl, by first | omega | (simp; done) | (simp; omega), by go_num, Hd3.out, Hb3.out⟩
                case measure => simp [intOf] <;> omega
              · have hge := Lib.hid hge0
                have hge' := decide_eq_false hge0
                clear hge0
                have Hs : Hid (St.see ⟨n0, n1, true, fr, now⟩ false (now + x) = ⟨n0, n1, true, fr, now + x⟩) := (see_run n0 n1 true fr now x ⟨by omega, by omega, by omega⟩ (by omega)).trans (if_neg (by have := hge.out; first | exact this | (simp only [Int.not_le] at *; simpa using this)))
                have hsee := see_any g ⟨n0, n1, true, fr, now⟩ false (now + x) wr Hd.out Hok.out (by omega)
                rw [Hs.out] at hsee
                have Hsee := Lib.hid hsee
                clear hsee Hs
                go_wp2_with fail
                refine (Hsee.out).mono ?_
                rintro e w3 ⟨rfl, hd3, hg3⟩
                have kv : w3.cell? ⟨g, 2, none⟩ = some (.bool true) := Blk.cell hd3 2
                skip
                have hx2' : w3.cell? (ad2.add k) = some (.bool false) := (hg3.cell_far (ad2.add k) (World.block_lt_of_cell? wr _ hx2) (by intro e; injection e with e; have := hfar.out; have := Hg.out; omega)).trans hx2
                have Hd3 := Lib.hid hd3
                have Hb3 := Lib.hid (below_gr Hb.out hg3 Hb.out.size Hg.out)
                clear hd3 hg3 hx2 hx3
                go_wp2
                go_roundw
                case rel => exact ⟨k + 1, _, fr, by omega, by omega, ⟨by first | omega | (simp; done) | (simp; omega), by first | omega | (simp; done) | (simp; omega), by first | omega | (simp; done) | (simp; omega), by first | omega | (simp; done) | (simp; omega), by first | omega | (simp; done) | (simp; omega), by first | omega | (simp; done) | (simp; omega)⟩, rfl, rfl, by first | omega | (simp; done) | (simp; omega), by omega, by first | omega | (simp; done) | (simp; omega), by first | omega | (simp; done) | (simp; omega), rfl, rfl, rfl, by first | omega | (simp; done) | (simp; omega), by go_num, Hd3.out, Hb3.out⟩
                case measure => simp [intOf] <;> omega
            · have hs' := decide_eq_false hs
              have hs2 : s < 0 := by omega
              by_cases hge0 : n0 ≤ 0
              · have hge := Lib.hid hge0
                have hge' : decide (n0 ≤ 0) = true := decide_eq_true hge0
                clear hge0
                have Hs : Hid (St.see ⟨n0, n1, true, s, now⟩ false (now + x) = ⟨n0, n1, false, -1, now + x⟩) := (see_new n0 n1 true s now x ⟨by omega, by omega, by omega⟩ (by omega)).trans (if_pos (by have := hge.out; first | exact this | (simp only [Int.not_le] at *; simpa using this)))
                have hsee := see_any g ⟨n0, n1, true, s, now⟩ false (now + x) wr Hd.out Hok.out (by omega)
                rw [Hs.out] at hsee
                have Hsee := Lib.hid hsee
                clear hsee Hs
                go_wp2_with fail
                refine (Hsee.out).mono ?_
                rintro e w3 ⟨rfl, hd3, hg3⟩
                have kv : w3.cell? ⟨g, 2, none⟩ = some (.bool false) := Blk.cell hd3 2
                skip
                have hx2' : w3.cell? (ad2.add k) = some (.bool false) := (hg3.cell_far (ad2.add k) (World.block_lt_of_cell? wr _ hx2) (by intro e; injection e with e; have := hfar.out; have := Hg.out; omega)).trans hx2
                have Hd3 := Lib.hid hd3
                have Hb3 := Lib.hid (below_gr Hb.out hg3 Hb.out.size Hg.out)
                clear hd3 hg3 hx2 hx3
                go_wp2
                go_roundw
                case rel => exact ⟨k + 1, _, (now + x), by omega, by omega, ⟨by first | omega | (simp; done) | (simp; omega), by first | omega | (simp; done) | (simp; omega), by first | omega | (simp; done) | (simp; omega), by first | omega | (simp; done) | (simp; omega), by first | omega | (simp; done) | (simp; omega), by first | omega | (simp; done) | (simp; omega)⟩, rfl, rfl, by first | omega | (simp; done) | (simp; omega), by omega, by first | omega | (simp; done) | (simp; omega), by first | omega | (simp; done) | (simp; omega), rfl, rfl, rfl, by first | omega | (simp; done) | (simp; omega), by go_num, Hd3.out, Hb3.out⟩
                case measure => simp [intOf] <;> omega
              · have hge := Lib.hid hge0
                have hge' : decide (n0 ≤ 0) = false := decide_eq_false hge0
                clear hge0
                have Hs : Hid (St.see ⟨n0, n1, true, s, now⟩ false (now + x) = ⟨n0, n1, true, (now + x), now + x⟩) := (see_new n0 n1 true s now x ⟨by omega, by omega, by omega⟩ (by omega)).trans (if_neg (by have := hge.out; first | exact this | (simp only [Int.not_le] at *; simpa using this)))
                have hsee := see_any g ⟨n0, n1, true, s, now⟩ false (now + x) wr Hd.out Hok.out (by omega)
                rw [Hs.out] at hsee
                have Hsee := Lib.hid hsee
                clear hsee Hs
                go_wp2_with fail
                refine (Hsee.out).mono ?_
                rintro e w3 ⟨rfl, hd3, hg3⟩
                have kv : w3.cell? ⟨g, 2, none⟩ = some (.bool true) := Blk.cell hd3 2
                skip
                have hx2' : w3.cell? (ad2.add k) = some (.bool false) := (hg3.cell_far (ad2.add k) (World.block_lt_of_cell? wr _ hx2) (by intro e; injection e with e; have := hfar.out; have := Hg.out; omega)).trans hx2
                have Hd3 := Lib.hid hd3
                have Hb3 := Lib.hid (below_gr Hb.out hg3 Hb.out.size Hg.out)
                clear hd3 hg3 hx2 hx3
                go_wp2
                go_roundw
                case rel => exact ⟨k + 1, _, (now + x), by omega, by omega, ⟨by first | omega | (simp; done) | (simp; omega), by first | omega | (simp; done) | (simp; omega), by first | omega | (simp; done) | (simp; omega), by first | omega | (simp; done) | (simp; omega), by first | omega | (simp; done) | (simp; omega), by first | omega | (simp; done) | (simp; omega)⟩, rfl, rfl, by first | omega | (simp; done) | (simp; omega), by omega, by first | omega | (simp; done) | (simp; omega), by first | omega | (simp; done) | (simp; omega), rfl, rfl, rfl, by first | omega | (simp; done) | (simp; omega), by go_num, Hd3.out, Hb3.out⟩
                case measure => simp [intOf] <;> omega
          · skip
            by_cases hs : 0 ≤ s
            · obtain rfl : fr = s := hfr hs
              have hs' := decide_eq_true hs
              by_cases hge0 : n1 ≤ now + x - fr
              · have hge := Lib.hid hge0
                have hge' := decide_eq_true hge0
                clear hge0
                have Hs : Hid (St.see ⟨n0, n1, false, fr, now⟩ true (now + x) = ⟨n0, n1, true, -1, now + x⟩) := (see_run n0 n1 false fr now x ⟨by omega, by omega, by omega⟩ (by omega)).trans (if_pos (by have := hge.out; first | exact this | (simp only [Int.not_le] at *; simpa using this)))
                have hsee := see_any g ⟨n0, n1, false, fr, now⟩ true (now + x) wr Hd.out Hok.out (by omega)
                rw [Hs.out] at hsee
                have Hsee := Lib.hid hsee
                clear hsee Hs
                go_wp2_with fail
                refine (Hsee.out).mono ?_
                rintro e w3 ⟨rfl, hd3, hg3⟩
                have kv : w3.cell? ⟨g, 2, none⟩ = some (.bool true) := Blk.cell hd3 2
                skip
                have hx2' : w3.cell? (ad2.add k) = some (.bool true) := (hg3.cell_far (ad2.add k) (World.block_lt_of_cell? wr _ hx2) (by intro e; injection e with e; have := hfar.out; have := Hg.out; omega)).trans hx2
                have Hd3 := Lib.hid hd3
                have Hb3 := Lib.hid (below_gr Hb.out hg3 Hb.out.size Hg.out)
                clear hd3 hg3 hx2 hx3
                go_wp2
                go_roundw
                case rel => exact ⟨k + 1, _, fr, by omega, by omega, ⟨by first | omega | (simp; done) | (simp; omega), by first | omega | (simp; done) | (simp; omega), by first | omega | (simp; done) | (simp; omega), by first | omega | (simp; done) | (simp; omega), by first | omega | (simp; done) | (simp; omega), by first | omega | (simp; done) | (simp; omega)⟩, rfl, rfl, by first | omega | (simp; done) | (simp; omega), by omega, by first | omega | (simp; done) | (simp; omega), by first | omega | (simp; done) | (simp; omega), rfl, rfl, rfl, by first | omega | (simp; done) | (simp; omega), by go_num, Hd3.out, Hb3.out⟩
                case measure => simp [intOf] <;> omega
              · have hge := Lib.hid hge0
                have hge' := decide_eq_false hge0
                clear hge0
                have Hs : Hid (St.see ⟨n0, n1, false, fr, now⟩ true (now + x) = ⟨n0, n1, false, fr, now + x⟩) := (see_run n0 n1 false fr now x ⟨by omega, by omega, by omega⟩ (by omega)).trans (if_neg (by have := hge.out; first | exact this | (simp only [Int.not_le] at *; simpa using this)))
                have hsee := see_any g ⟨n0, n1, false, fr, now⟩ true (now + x) wr Hd.out Hok.out (by omega)
                rw [Hs.out] at hsee
                have Hsee := Lib.hid hsee
                clear hsee Hs
                go_wp2_with fail
                refine (Hsee.out).mono ?_
                rintro e w3 ⟨rfl, hd3, hg3⟩
                have kv : w3.cell? ⟨g, 2, none⟩ = some (.bool false) := Blk.cell hd3 2
                skip
                have hx2' : w3.cell? (ad2.add k) = some (.bool true) := (hg3.cell_far (ad2.add k) (World.block_lt_of_cell? wr _ hx2) (by intro e; injection e with e; have := hfar.out; have := Hg.out; omega)).trans hx2
                have Hd3 := Lib.hid hd3
                have Hb3 := Lib.hid (below_gr Hb.out hg3 Hb.out.size Hg.out)
                clear hd3 hg3 hx2 hx3
                go_wp2
                go_roundw
                case rel => exact ⟨k + 1, _, fr, by omega, by omega, ⟨by first | omega | (simp; done) | (simp; omega), by first | omega | (simp; done) | (simp; omega), by first | omega | (simp; done) | (simp; omega), by first | omega | (simp; done) | (simp; omega), by first | omega | (simp; done) | (simp; omega), by first | omega | (simp; done) | (simp; omega)⟩, rfl, rfl, by first | omega | (simp; done) | (simp; omega), by omega, by first | omega | (simp; done) | (simp; omega), by first | omega | (simp; done) | (simp; omega), rfl, rfl, rfl, by first | omega | (simp; done) | (simp; omega), by go_num, Hd3.out, Hb3.out⟩
                case measure => simp [intOf] <;> omega
            · have hs' := decide_eq_false hs
              have hs2 : s < 0 := by omega
              by_cases hge0 : n1 ≤ 0
              · have hge := Lib.hid hge0
                have hge' : decide (n1 ≤ 0) = true := decide_eq_true hge0
                clear hge0
                have Hs : Hid (St.see ⟨n0, n1, false, s, now⟩ true (now + x) = ⟨n0, n1, true, -1, now + x⟩) := (see_new n0 n1 false s now x ⟨by omega, by omega, by omega⟩ (by omega)).trans (if_pos (by have := hge.out; first | exact this | (simp only [Int.not_le] at *; simpa using this)))
                have hsee := see_any g ⟨n0, n1, false, s, now⟩ true (now + x) wr Hd.out Hok.out (by omega)
                rw [Hs.out] at hsee
                have Hsee := Lib.hid hsee
                clear hsee Hs
                go_wp2_with fail
                refine (Hsee.out).mono ?_
                rintro e w3 ⟨rfl, hd3, hg3⟩
                have kv : w3.cell? ⟨g, 2, none⟩ = some (.bool true) := Blk.cell hd3 2
                skip
                have hx2' : w3.cell? (ad2.add k) = some (.bool true) := (hg3.cell_far (ad2.add k) (World.block_lt_of_cell? wr _ hx2) (by intro e; injection e with e; have := hfar.out; have := Hg.out; omega)).trans hx2
                have Hd3 := Lib.hid hd3
                have Hb3 := Lib.hid (below_gr Hb.out hg3 Hb.out.size Hg.out)
                clear hd3 hg3 hx2 hx3
                go_wp2
                go_roundw
                case rel => exact ⟨k + 1, _, (now + x), by omega, by omega, ⟨by first | omega | (simp; done) | (simp; omega), by first | omega | (simp; done) | (simp; omega), by first | omega | (simp; done) | (simp; omega), by first | omega | (simp; done) | (simp; omega), by first | omega | (simp; done) | (simp; omega), by first | omega | (simp; done) | (simp; omega)⟩, rfl, rfl, by first | omega | (simp; done) | (simp; omega), by omega, by first | omega | (simp; done) | (simp; omega), by first | omega | (simp; done) | (simp; omega), rfl, rfl, rfl, by first | omega | (simp; done) | (simp; omega), by go_num, Hd3.out, Hb3.out⟩
                case measure => simp [intOf] <;> omega
              · have hge := Lib.hid hge0
                have hge' : decide (n1 ≤ 0) = false := decide_eq_false hge0
                clear hge0
                have Hs : Hid (St.see ⟨n0, n1, false, s, now⟩ true (now + x) = ⟨n0, n1, false, (now + x), now + x⟩) := (see_new n0 n1 false s now x ⟨by omega, by omega, by omega⟩ (by omega)).trans (if_neg (by have := hge.out; first | exact this | (simp only [Int.not_le] at *; simpa using this)))
                have hsee := see_any g ⟨n0, n1, false, s, now⟩ true (now + x) wr Hd.out Hok.out (by omega)
                rw [Hs.out] at hsee
                have Hsee := Lib.hid hsee
                clear hsee Hs
                go_wp2_with fail
                refine (Hsee.out).mono ?_
                rintro e w3 ⟨rfl, hd3, hg3⟩
                have kv : w3.cell? ⟨g, 2, none⟩ = some (.bool false) := Blk.cell hd3 2
                skip
                have hx2' : w3.cell? (ad2.add k) = some (.bool true) := (hg3.cell_far (ad2.add k) (World.block_lt_of_cell? wr _ hx2) (by intro e; injection e with e; have := hfar.out; have := Hg.out; omega)).trans hx2
                have Hd3 := Lib.hid hd3
                have Hb3 := Lib.hid (below_gr Hb.out hg3 Hb.out.size Hg.out)
                clear hd3 hg3 hx2 hx3
                go_wp2
                go_roundw
                case rel => exact ⟨k + 1, _, (now + x), by omega, by omega, ⟨by first | omega | (simp; done) | (simp; omega), by first | omega | (simp; done) | (simp; omega), by first | omega | (simp; done) | (simp; omega), by first | omega | (simp; done) | (simp; omega), by first | omega | (simp; done) | (simp; omega), by first | omega | (simp; done) | (simp; omega)⟩, rfl, rfl, by first | omega | (simp; done) | (simp; omega), by omega, by first | omega | (simp; done) | (simp; omega), by first | omega | (simp; done) | (simp; omega), rfl, rfl, rfl, by first | omega | (simp; done) | (simp; omega), by go_num, Hd3.out, Hb3.out⟩
                case measure => simp [intOf] <;> omega
          · skip
            have Hs : Hid (St.see ⟨n0, n1, true, s, now⟩ true (now + x) = ⟨n0, n1, true, -1, now + x⟩) := see_same _ _ _ _ _ _ ⟨by omega, by omega, by omega⟩
            have hsee := see_any g ⟨n0, n1, true, s, now⟩ true (now + x) wr Hd.out Hok.out (by omega)
            rw [Hs.out] at hsee
            have Hsee := Lib.hid hsee
            clear hsee Hs
            go_wp2_with fail
            refine (Hsee.out).mono ?_
            rintro e w3 ⟨rfl, hd3, hg3⟩
            have kv : w3.cell? ⟨g, 2, none⟩ = some (.bool true) := Blk.cell hd3 2
            skip
            have hx2' : w3.cell? (ad2.add k) = some (.bool true) := (hg3.cell_far (ad2.add k) (World.block_lt_of_cell? wr _ hx2) (by intro e; injection e with e; have := hfar.out; have := Hg.out; omega)).trans hx2
            have Hd3 := Lib.hid hd3
            have Hb3 := Lib.hid (below_gr Hb.out hg3 Hb.out.size Hg.out)
            clear hd3 hg3 hx2 hx3
            go_wp2
            go_roundw
            case rel => exact ⟨k + 1, _, fr, by omega, by omega, ⟨by first | omega | (simp; done) | (simp; omega), by first | omega | (simp; done) | (simp; omega), by first | omega | (simp; done) | (simp; omega), by first | omega | (simp; done) | (simp; omega), by first | omega | (simp; done) | (simp; omega), by first | omega | (simp; done) | (simp; omega)⟩, rfl, rfl, by first | omega | (simp; done) | (simp; omega), by omega, by first | omega | (simp; done) | (simp; omega), by first | omega | (simp; done) | (simp; omega), rfl, rfl, rfl, by first | omega | (simp; done) | (simp; omega), by go_num, Hd3.out, Hb3.out⟩
            case measure => simp [intOf] <;> omega
        · have Hb := Lib.hid hb
          clear hd hb
          go_wp2
          go_ret
          exact ⟨rfl, Hb.out⟩
      · have Hb := Lib.hid hb
        clear hd hb
        go_wp2
        go_ret
        exact ⟨rfl, Hb.out⟩
end Go.Proofs.Ytljabocijojceaa.QS

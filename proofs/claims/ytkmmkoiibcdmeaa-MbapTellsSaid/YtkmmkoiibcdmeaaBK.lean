/- The law MbapBack, walked. -/
import Derived.Test.YtkmmkoiibcdmeaaR1
namespace Go.Proofs.Ytkmmkoiibcdmeaa
open Go.RowKit Go.Proofs.YtkmmkoiibcdmeaaW.PrintWords Go.Proofs.YtkmmkoiibcdmeaaW.PrintLast Go.Proofs.YtkmmkoiibcdmeaaW.PrintMore
set_option linter.unusedVariables false
set_option linter.unusedSimpArgs false
/-! ### is it too much? -/
def sumTo (l : List QD.S26) (i : Nat) : Nat := ((l.take i).map fun x => x.f2.length).sum
theorem sumTo_succ {l : List QD.S26} {i : Nat} (h : i < l.length) : sumTo l (i + 1) = sumTo l i + (QD.rd_T26 l (i : Int)).f2.length := by
  unfold sumTo QD.rd_T26
  rw [List.take_succ_eq_append_getElem h, List.map_append, List.sum_append]
  simp [List.getD_eq_getElem?_getD, List.getElem?_eq_getElem h]
theorem sumTo_le {l : List QD.S26} {i j : Nat} (h : i ≤ j) (hj : j ≤ l.length) : sumTo l i ≤ sumTo l j := by
  induction j with
  | zero => obtain rfl : i = 0 := by omega
            exact Nat.le_refl _
  | succ j ih =>
    by_cases e : i = j + 1
    · subst e; exact Nat.le_refl _
    · exact Nat.le_trans (ih (by omega) (by omega)) (by rw [sumTo_succ (by omega)]; omega)
theorem great_l (xs : List QD.S26) : ∀ (m i : Nat) (n : Int), i + m = xs.length → (xs.length : Int) ≤ n → (n < 20000 → n = (xs.length + sumTo xs i : Nat)) →
    ∃ k r, QD.watchkeeperlaw03_great.l0 k xs n (i : Nat) = some r ∧ (r = false → xs.length + sumTo xs xs.length < 20000) := by
  intro m
  induction m with
  | zero =>
    intro i n hi hn hj
    obtain rfl : i = xs.length := by omega
    refine ⟨0 + 1, decide (n ≥ 20000), by rw [QD.watchkeeperlaw03_great.l0, if_neg (by omega)], fun h => ?_⟩
    have := of_decide_eq_false h
    have := hj (by omega)
    omega
  | succ m ih =>
    intro i n hi hn hj
    by_cases h2 : n < 20000
    · obtain ⟨b, hb⟩ : ∃ b, (QD.rd_T26 xs (i : Nat)).f2.length = b := ⟨_, rfl⟩
      have hmn : mn (b : Int) 20000 = (min b 20000 : Nat) := by unfold mn; split <;> omega
      have hs := sumTo_succ (l := xs) (i := i) (by omega)
      rw [hb] at hs
      have hnn := hj h2
      obtain ⟨k, r, h, hr⟩ := ih (i + 1) (n + (min b 20000 : Nat)) (by omega) (by omega) (fun h3 => by omega)
      refine ⟨k + 1, r, ?_, hr⟩
      have w1 : wrap64 (n + (min b 20000 : Nat)) = n + (min b 20000 : Nat) := by unfold wrap64; omega
      have w2 : wrap64 ((i : Int) + 1) = ((i + 1 : Nat) : Int) := by clear w1; unfold wrap64; omega
      rw [QD.watchkeeperlaw03_great.l0, if_pos (by clear w1 w2; omega), if_pos h2, if_pos (by clear w1 w2; omega), hb, hmn, w1, w2]
      exact h
    · refine ⟨0 + 1, decide (n ≥ 20000), by rw [QD.watchkeeperlaw03_great.l0, if_pos (by omega), if_neg h2], fun h => absurd (of_decide_eq_false h) (by omega)⟩
theorem great_any (A : Option Addr) (c : Nat) (xs : List QD.S26) (w : World) (hr : Kd.C QD.k26 w A xs.length xs) (hc : xs.length ≤ c) :
    Calls Try.prog 11 #[.slice A xs.length c] w fun e w' => ∃ r, e = .returned (.bool r) ∧ (r = false → xs.length + sumTo xs xs.length < 20000) ∧ Below w.heap.size w w' := by
  obtain ⟨k, r, h, hr2⟩ := great_l xs xs.length 0 (xs.length : Int) (by omega) (by omega) (fun _ => by simp [sumTo])
  refine (QD.watchkeeperlaw03_great.calls k A c xs r w hr hc h).mono ?_
  rintro e w' ⟨rfl, hb⟩
  exact ⟨r, rfl, hr2, hb⟩
/-! ### which may be -/
def fineB (x : QD.S26) : Bool := decide (0 < x.f2.length ∧ x.f2.length ≤ 253)
def wantTo (l : List QD.S26) (i : Nat) : List QD.S26 := (l.take i).filter fineB
theorem wantTo_yes {l : List QD.S26} {i : Nat} (h : i < l.length) (hf : fineB (QD.rd_T26 l (i : Int)) = true) : wantTo l (i + 1) = wantTo l i ++ [QD.rd_T26 l (i : Int)] := by
  have e : QD.rd_T26 l (i : Int) = l[i] := by unfold QD.rd_T26; simp [List.getD_eq_getElem?_getD, List.getElem?_eq_getElem h]
  rw [e] at hf ⊢
  unfold wantTo
  rw [List.take_succ_eq_append_getElem h, List.filter_append]
  simp [hf]
theorem wantTo_no {l : List QD.S26} {i : Nat} (h : i < l.length) (hf : fineB (QD.rd_T26 l (i : Int)) = false) : wantTo l (i + 1) = wantTo l i := by
  have e : QD.rd_T26 l (i : Int) = l[i] := by unfold QD.rd_T26; simp [List.getD_eq_getElem?_getD, List.getElem?_eq_getElem h]
  rw [e] at hf
  unfold wantTo
  rw [List.take_succ_eq_append_getElem h, List.filter_append]
  simp [hf]
def Known (x : QD.S26) : Prop := (0 ≤ x.f0 ∧ x.f0 < 65536) ∧ (0 ≤ x.f1 ∧ x.f1 ≤ 255) ∧ Bytes x.f2
theorem fine_of {x : QD.S26} (h : Known x) (hf : fineB x = true) : Fine x := by
  have := of_decide_eq_true hf
  exact ⟨by omega, by omega, h.1, h.2.1, h.2.2⟩
theorem u16_wf {a : Int} (h : (Lit.int .u16 a).wf = true) : 0 ≤ a ∧ a < 65536 := by
  simp only [Lit.wf, IntKind.min, IntKind.max, IntKind.signed, IntKind.bits, Bool.and_eq_true, decide_eq_true_eq, Bool.false_eq_true, if_false] at h
  omega
theorem want_fine {l : List QD.S26} (hk : ∀ x ∈ l, Known x) (i : Nat) : ∀ x ∈ wantTo l i, Fine x := by
  intro x hx
  unfold wantTo at hx
  obtain ⟨h1, h2⟩ := List.mem_filter.1 hx
  exact fine_of (hk x (List.mem_of_mem_take h1)) h2
theorem want_len {l : List QD.S26} : ∀ {i : Nat}, i ≤ l.length → ((wantTo l i).flatMap bytesOf).length ≤ sumTo l i + 7 * i ∧ (wantTo l i).length ≤ i := by
  intro i
  induction i with
  | zero => intro _; simp [wantTo, sumTo]
  | succ i ih =>
    intro h
    obtain ⟨i1, i2⟩ := ih (by omega)
    rw [sumTo_succ (by omega)]
    cases hf : fineB (QD.rd_T26 l (i : Int)) with
    | true =>
      rw [wantTo_yes (by omega) hf, List.flatMap_append, List.length_append, List.length_append]
      have e : (([QD.rd_T26 l (i : Int)] : List QD.S26).flatMap bytesOf).length = (QD.rd_T26 l (i : Int)).f2.length + 7 := by simp [bytesOf_len]
      rw [e]
      simp only [List.length_cons, List.length_nil]
      omega
    | false => rw [wantTo_no (by omega) hf]; omega
theorem sameAll_l (l : List QD.S26) : ∀ (d i f : Nat), i + d = l.length → d < f → l.length ≤ 1000000 → QD.watchkeeperref03_SameAll.l0 f l l (i : Int) = some true := by
  intro d
  induction d with
  | zero =>
    intro i f h1 h2 h3
    obtain ⟨f, rfl⟩ : ∃ g, f = g + 1 := ⟨f - 1, by omega⟩
    rw [QD.watchkeeperref03_SameAll.l0, if_neg (by omega)]
  | succ d ih =>
    intro i f h1 h2 h3
    obtain ⟨f, rfl⟩ : ∃ g, f = g + 1 := ⟨f - 1, by omega⟩
    have q1 : (i : Int) < (l.length : Int) := by omega
    have q2 : (0 : Int) ≤ (i : Int) := by omega
    have q3 := ih (i + 1) f (by omega) (by omega) h3
    have hw : wrap64 ((i : Int) + 1) = ((i + 1 : Nat) : Int) := by unfold wrap64; omega
    have hs : QD.watchkeeperref03_Same.f (QD.rd_T26 l (i : Int)).f0 (QD.rd_T26 l (i : Int)).f1 (QD.rd_T26 l (i : Int)).f2 (QD.rd_T26 l (i : Int)).f0 (QD.rd_T26 l (i : Int)).f1 (QD.rd_T26 l (i : Int)).f2 = some true := by
      unfold QD.watchkeeperref03_Same.f; rw [if_pos rfl, if_pos rfl]; simp
    unfold QD.watchkeeperref03_SameAll.l0
    simp only [if_pos q1, if_pos q2, hs, Option.bind_some, hw, if_true]
    exact q3
theorem sameAll_any (l : List QD.S26) (hl : l.length ≤ 1000000) (A : Option Addr) (c : Nat) (A' : Option Addr) (c' : Nat) (w : World) (hr : Kd.C QD.k26 w A l.length l) (hc : l.length ≤ c) (hr' : Kd.C QD.k26 w A' l.length l) (hc' : l.length ≤ c') :
    Calls Try.prog 18 #[.slice A l.length c, .slice A' l.length c'] w fun e w' => e = .returned (.bool true) ∧ Below w.heap.size w w' :=
  QD.watchkeeperref03_SameAll.calls (l.length + 1) A c l A' c' l true w hr hc hr' hc' (by
    unfold QD.watchkeeperref03_SameAll.f
    rw [if_pos rfl]
    exact sameAll_l l l.length 0 _ (by omega) (by omega) hl)
theorem fixed_ne (w : World) : ∀ q, q ∈ 26 :: (Kd.fixed QD.k26 w).E → q ≠ 5 := fun q hq => by
  rcases List.mem_cons.1 hq with rfl | h
  · decide
  · cases h
/-- Put, of anything. -/
theorem put_all (x : QD.S26) (hk : Known x) (A : Option Addr) (c : Nat) (w : World) (hr : Kd.C (Kd.int .u8) w A x.f2.length x.f2) (hc : x.f2.length ≤ c) :
    Calls Try.prog 15 #[.agg #[.int .u16 x.f0, .int .u8 x.f1, .slice A x.f2.length c]] w fun e w' => ∃ v, e = .returned v ∧ Kd.R (Kd.int .u8) 5 w' w.heap.size (fun _ => True) v (if fineB x = true then bytesOf x else []) ∧ Below w.heap.size w w' := by
  cases hf : fineB x with
  | true => rw [if_pos rfl]; exact put_any x (fine_of hk hf) A c w hr hc
  | false =>
    have := of_decide_eq_false hf
    rw [if_neg (by decide)]
    exact QD.mbap_Put.calls x.f0 x.f1 A c x.f2 [] w hr hc (put_not (by omega))
set_option maxRecDepth 100000 in
set_option maxHeartbeats 8000000 in
theorem back_law (A : Option Addr) (c : Nat) (l : List QD.S26) (w : World) (hr : Kd.C QD.k26 w A l.length l) (hc : l.length ≤ c)
    (hw : l.length ≤ maxLen ∧ ∀ x0 ∈ l, ((Lit.int .u16 x0.f0).wf = true) ∧ ((Lit.int .u8 x0.f1).wf = true) ∧ (x0.f2.length ≤ maxLen ∧ ∀ x1 ∈ x0.f2, (Lit.int .u8 x1).wf = true)) :
    Calls Try.prog 5 #[.slice A l.length c] w fun e w' => e = .returned (.bool true) ∧ Below w.heap.size w w' := by
  have HR := Lib.hid hr
  have HKN : Hid (∀ x ∈ l, Known x) := Lib.hid (fun x hx => ⟨u16_wf (hw.2 x hx).1, byte_of (hw.2 x hx).2.1, bytes_wf (hw.2 x hx).2.2.2⟩)
  clear hr hw
  go_enter Try.func5, Try.ntmps5
  go_wp2_with fail
  refine (head_any _).mono ?_
  rintro e w1 ⟨rfl, hb⟩
  have HB1 := Lib.hid hb
  clear hb
  go_wp2_with fail
  refine (great_any A c l w1 (Kd.C_below HR.out HB1.out) hc).mono ?_
  rintro e w2 ⟨r, rfl, hgreat, hb⟩
  have HB2 := Lib.hid (below_step HB1.out hb)
  clear hb
  cases r with
  | true =>
    clear hgreat
    go_wp2_with fail
    go_ret
    exact ⟨rfl, HB2.out⟩
  | false =>
    have HG := Lib.hid (hgreat rfl)
    have hl20 : (l.length : Int) ≤ 20000 := by have := hgreat rfl; omega
    clear hgreat HB1
    go_wp2_with fail
    go_loopg [4, 5, 6] l.length (fun kq v4 v5 v6 w' => ∃ (i : Nat), v6 = .int .i64 (i : Int) ∧ Hid (i ≤ l.length ∧ kq = l.length - i) ∧ Hid (Kd.R (Kd.fixed QD.k26 w) 26 w' w.heap.size (fun _ => True) v4 (wantTo l i)) ∧ Hid (Kd.R (Kd.int .u8) 5 w' w.heap.size (fun _ => True) v5 ((wantTo l i).flatMap bytesOf)) ∧ Hid (Below w.heap.size w w'))
    case atStart => exact ⟨0, rfl, Lib.hid ⟨by omega, by omega⟩, Lib.hid (Kd.R_nil _ _ _ _ _), Lib.hid (Kd.R_nil _ _ _ _ _), HB2⟩
    case round =>
      clear HB2
      obtain ⟨i, rfl, HA, HW, HO, HB⟩ := hrel
      by_cases hi : (i : Int) < (l.length : Int)
      · have hiN : i < l.length := by omega
        have hwl := want_len (l := l) (i := i + 1) (by omega)
        have hsl := sumTo_le (l := l) (i := i + 1) (j := l.length) (by omega) (Nat.le_refl _)
        have hKx := HKN.out _ (rd_mem hiN)
        obtain ⟨ad, A5, c5, rfl, hx0, hx1, hx2, hcl, hC5⟩ := QD.at_T26 HR.out (i : Int) (by omega) hi
        simp only [Int.toNat_natCast] at hx0 hx1 hx2
        have hyes := wantTo_yes (l := l) hiN
        have hno := wantTo_no (l := l) hiN
        obtain ⟨x, hx⟩ : ∃ x, QD.rd_T26 l (i : Int) = x := ⟨_, rfl⟩
        rw [hx] at hx0 hx1 hx2 hcl hC5 hKx hyes hno
        have hbk := World.block_lt_of_cell? w _ hx0
        have HX : Hid (∀ w', Below w.heap.size w w' → w'.cell? (ad.add (i * 3)) = some (.int .u16 x.f0) ∧ w'.cell? ⟨(ad.add (i * 3)).block, (ad.add (i * 3)).off + 1, none⟩ = some (.int .u8 x.f1) ∧ w'.cell? ⟨(ad.add (i * 3)).block, (ad.add (i * 3)).off + 2, none⟩ = some (.slice A5 x.f2.length c5)) :=
          Lib.hid (fun w' h => ⟨(h.cell hbk).trans hx0, (h.cell (p := ⟨_, _, none⟩) hbk).trans hx1, (h.cell (p := ⟨_, _, none⟩) hbk).trans hx2⟩)
        have HK := Lib.hid (QD.k26_mk w x hcl hC5)
        have HP := Lib.hid (put_all x hKx A5 c5 wr (Kd.C_below hC5 HB.out) hcl)
        obtain ⟨hx0, hx1, hx2⟩ := HX.out wr HB.out
        have HKX := Lib.hid hKx
        have HYES := Lib.hid hyes
        have HNO := Lib.hid hno
        have HWL := Lib.hid hwl
        have HSL := Lib.hid hsl
        obtain ⟨u4', hu4⟩ : ∃ u4', u4' = u4 := ⟨_, rfl⟩
        subst hu4
        obtain ⟨u5', hu5⟩ : ∃ u5', u5' = u5 := ⟨_, rfl⟩
        subst hu5
        clear hx hbk hC5 hKx hyes hno hwl hsl hcl
        cases hf : fineB x with
        | false =>
          have hnf := of_decide_eq_false hf
          have HF := Lib.hid hf
          clear hf
          go_wp2_with fail
          refine HP.out.mono ?_
          rintro e w5 ⟨v5, rfl, ho, hb⟩
          rw [if_neg (by rw [HF.out]; decide)] at ho
          obtain ⟨A6, d6, rfl⟩ := Kd.R_slice ho
          have HW5 := Lib.hid (Kd.R_below HW.out hb)
          have HO5 := Lib.hid (Kd.R_below HO.out hb)
          have HB5 := Lib.hid (below_step HB.out hb)
          obtain ⟨hy0, hy1, hy2⟩ := HX.out w5 HB5.out
          clear ho hb HW HO HB HP hx0 hx1 hx2
          by_cases hp : 0 < x.f2.length
          · have hp253 : (253 : Int) < (x.f2.length : Int) := by omega
            have hpd : decide ((x.f2.length : Int) ≤ 253) = false := decide_eq_false (by omega)
            clear hnf
            go_wp2_with fail
            go_roundg (l.length - (i + 1))
            case measure => have := HA.out; omega
            case rel => exact ⟨i + 1, by go_num, Lib.hid ⟨by omega, rfl⟩, Lib.hid (by rw [HNO.out HF.out]; exact HW5.out), Lib.hid (by rw [HNO.out HF.out]; exact HO5.out), HB5⟩
          · have hpd : decide (0 < x.f2.length) = false := decide_eq_false hp
            clear hnf
            go_wp2_with fail
            go_roundg (l.length - (i + 1))
            case measure => have := HA.out; omega
            case rel => exact ⟨i + 1, by go_num, Lib.hid ⟨by omega, rfl⟩, Lib.hid (by rw [HNO.out HF.out]; exact HW5.out), Lib.hid (by rw [HNO.out HF.out]; exact HO5.out), HB5⟩
        | true =>
          have hyf := of_decide_eq_true hf
          have hp0 : 0 < x.f2.length := hyf.1
          have hp1 : (x.f2.length : Int) ≤ 253 := by omega
          have HF := Lib.hid hf
          obtain ⟨Y, hY⟩ : ∃ Y, bytesOf x = Y := ⟨_, rfl⟩
          have hYl : (Y.length : Int) = (x.f2.length : Int) + 7 := by rw [← hY, bytesOf_len]; omega
          have hy0' : 0 < Y.length := by omega
          have hyq : ((Y.length : Int) != (x.f2.length : Int) + 7) = false := by rw [hYl]; simp
          have HY := Lib.hid hY
          have HLW : Hid (((wantTo l i).length + 1) * 32 ≤ 140737488355328) := Lib.hid (by have := HWL.out.2; rw [HYES.out hf, List.length_append] at this; simp at this; omega)
          have HLY : Hid ((((wantTo l i).flatMap bytesOf).length + Y.length) * 1 ≤ 140737488355328) := Lib.hid (by
            have h1 := HWL.out.1
            have h2 := HSL.out
            have h3 := HG.out
            rw [HYES.out hf, List.flatMap_append, List.length_append] at h1
            have e : ([x].flatMap bytesOf).length = Y.length := by simp [hY]
            rw [e] at h1
            omega)
          clear hf hyf hY hYl
          go_wp2_with fail
          refine HP.out.mono ?_
          rintro e w5 ⟨v5, rfl, ho, hb⟩
          rw [if_pos HF.out, HY.out] at ho
          obtain ⟨A6, d6, rfl⟩ := Kd.R_slice ho
          have HW5 := Lib.hid (Kd.R_below HW.out hb)
          have HO5 := Lib.hid (Kd.R_elder' HO.out (Kd.R_base ho) hb)
          have HY5 := Lib.hid (Kd.R_lower (Kd.R_new' ho (Kd.R_lt HO.out)) HB.out.size)
          have HB5 := Lib.hid (below_step HB.out hb)
          obtain ⟨hy0, hy1, hy2⟩ := HX.out w5 HB5.out
          clear ho hb HW HO HB HP hx0 hx1 hx2
          go_wp2_with (first | ((with_reducible refine gate_builtin (b := .append) (xs := #[.tmp 64, .tmp 69]) rfl ?_); at_builtin; refine Kd.R_append (Kd.fixed QD.k26 w) (w0 := w) w.heap.size rfl (.tmp 64) (.tmp 69) 32 26 (.agg #[(.int .u16 0), (.int .u8 0), (.slice none 0 0)]) 32 rfl Try.underlying32 QD.info26 rfl (show 0 < 3 by decide) (by omega) _ (wantTo l i) x [.int .u16 x.f0, .int .u8 x.f1, .slice A5 x.f2.length c5] (fun _ => True) (fun _ => False) rfl rfl HK.out (fun _ h => h.elim) (fun _ _ => trivial) HW5.out HB5.out HB5.out.size HLW.out ?_; intro v6 w6 ho6 hb6 hg6 hat6; have HO6 := Lib.hid (Kd.R_over HO5.out HW5.out (by decide) hg6); have HY6 := Lib.hid (Kd.R_over HY5.out HW5.out (by decide) hg6); have HW6 := Lib.hid ho6; have HB6 := Lib.hid hb6; clear ho6 hb6 hg6 hat6 HW5 HO5 HY5) | ((with_reducible refine gate_builtin (b := .append) (xs := #[.tmp 71, .tmp 72]) rfl ?_); at_builtin; refine Kd.R_append_rows (Kd.int .u8) (w0 := w) w.heap.size rfl (.tmp 71) (.tmp 72) 22 5 (.int .u8 0) 1 rfl Try.underlying22 infob rfl (by decide) (by omega) _ ((wantTo l i).flatMap bytesOf) Y A6 Y.length d6 (fun k => True ∧ some k ≠ (Value.slice A6 Y.length d6).ownBlock) (fun _ => False) rfl rfl HO6.out (Kd.R_reads' HY6.out).2.2 (fun _ _ h => h) (fun _ h => h.elim) (fun k hk => ⟨trivial, Kd.fresh' (Kd.R_lt HY6.out) k hk⟩) HB6.out HB6.out.size HLY.out ?_; intro v8 w8 ho8 hb8 hg8 hat8; have HW8 := Lib.hid (Kd.R_over HW6.out HO6.out (fixed_ne w) hg8); have HO8 := Lib.hid (Kd.R_mono ho8 (fun _ _ => (trivial : True))); have HB8 := Lib.hid hb8; clear ho8 hb8 hg8 hat8))
          go_roundg (l.length - (i + 1))
          case measure => have := HA.out; omega
          case rel =>
            have e : ([x] : List QD.S26).flatMap bytesOf = Y := by simp [HY.out]
            exact ⟨i + 1, by go_num, Lib.hid ⟨by omega, rfl⟩, Lib.hid (by rw [HYES.out HF.out]; exact HW8.out), Lib.hid (by rw [HYES.out HF.out, List.flatMap_append, e]; exact HO8.out), HB8⟩
      · obtain rfl : i = l.length := by have := HA.out; omega
        have hff := want_fine HKN.out l.length
        have hwl := want_len (Nat.le_refl l.length)
        obtain ⟨W, hW⟩ : ∃ W, wantTo l l.length = W := ⟨_, rfl⟩
        have hWW := HW.out
        have hOO := HO.out
        rw [hW] at hff hwl hWW hOO
        obtain ⟨L, hL⟩ : ∃ L, W.flatMap bytesOf = L := ⟨_, rfl⟩
        have hco := (cuts_put hff cuts_nil).cutOf
        rw [List.append_nil, List.append_nil, Nat.add_zero] at hco
        have hbL := flat_bytes hff
        rw [hL] at hwl hOO hco hbL
        obtain ⟨A4, d4, rfl⟩ := Kd.R_slice hWW
        obtain ⟨A5, d5, rfl⟩ := Kd.R_slice hOO
        have hcW := (Kd.R_reads' hWW).2
        have hcL := (Kd.R_reads' hOO).2
        have hCA := cut_any A5 d5 L wr (by have := hwl.1; have := HG.out; omega) hbL hcL.2 hcL.1
        rw [hco] at hCA
        have HCA := Lib.hid hCA
        have HCW := Lib.hid hcW
        have HWN := Lib.hid (show W.length ≤ 1000000 by have := hwl.2; omega)
        have hqn : ((L.length : Int) == (L.length : Int)) = true := by simp
        clear hff hwl hW hL hco hbL hcW hcL hCA hWW hOO HW HO hi
        go_wp2_with fail
        refine HCA.out.mono ?_
        rintro e w5 ⟨v5, rfl, hs, hb⟩
        obtain ⟨A9, d9, rfl⟩ := Kd.S_slice hs
        have hs' := (Kd.S_reads' hs).2
        have HB5 := Lib.hid (below_step HB.out hb)
        have HSA := Lib.hid (sameAll_any W HWN.out A9 d9 A4 d4 w5 hs'.2 hs'.1 (Kd.C_read (dm := Kd.fixed QD.k26 w) (d := QD.k26) rfl (fun x cs (h : QD.k26.K w x cs) => QD.k26.K_below HB5.out h) (Kd.C_below HCW.out.2 hb)) HCW.out.1)
        clear hs hs' hb HCA HCW HB
        go_wp2_with fail
        refine HSA.out.mono ?_
        rintro e w6 ⟨rfl, hb⟩
        have HB6 := Lib.hid (below_step HB5.out hb)
        clear hb
        go_wp2_with fail
        go_ret
        exact ⟨rfl, HB6.out⟩
end Go.Proofs.Ytkmmkoiibcdmeaa

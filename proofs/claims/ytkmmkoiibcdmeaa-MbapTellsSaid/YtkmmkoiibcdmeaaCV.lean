/- mbap.Cut, walked: the whole. -/
import Derived.Test.YtkmmkoiibcdmeaaCU
namespace Go.Proofs.Ytkmmkoiibcdmeaa
open Go.RowKit Go.Shelf Go.Proofs.YtkmmkoiibcdmeaaW.PrintWords Go.Proofs.YtkmmkoiibcdmeaaW.PrintLast Go.Proofs.YtkmmkoiibcdmeaaW.PrintMore
attribute [local go_sem] Oper.semAt_some
set_option linter.unusedVariables false
set_option linter.unusedSimpArgs false
theorem five (w : World) (o1 o2 o3 o4 o5 : Obj) : ∃ W, W = ((((w.alloc o1).alloc o2).alloc o3).alloc o4).alloc o5 ∧ W.heap.size = w.heap.size + 1 + 1 + 1 + 1 + 1 ∧ W.heap[w.heap.size]? = some o1 ∧ W.heap[w.heap.size + 1]? = some o2 ∧ W.heap[w.heap.size + 1 + 1]? = some o3 ∧ W.heap[w.heap.size + 1 + 1 + 1]? = some o4 ∧ W.heap[w.heap.size + 1 + 1 + 1 + 1]? = some o5 ∧ Below w.heap.size w W := by
  have s1 : (w.alloc o1).heap.size = w.heap.size + 1 := World.size_alloc _ _
  have s2 : ((w.alloc o1).alloc o2).heap.size = w.heap.size + 1 + 1 := by rw [World.size_alloc, s1]
  have s3 : (((w.alloc o1).alloc o2).alloc o3).heap.size = w.heap.size + 1 + 1 + 1 := by rw [World.size_alloc, s2]
  have s4 : ((((w.alloc o1).alloc o2).alloc o3).alloc o4).heap.size = w.heap.size + 1 + 1 + 1 + 1 := by rw [World.size_alloc, s3]
  refine ⟨_, rfl, by rw [World.size_alloc, s4], ?_, ?_, ?_, ?_, ?_, below_alloc (below_alloc (below_alloc (below_alloc (below_alloc (Below.refl _ _) _) _) _) _) _⟩
  · exact blk_alloc (blk_alloc (blk_alloc (blk_alloc (blk_new w o1) o2) o3) o4) o5
  · have := blk_new (w.alloc o1) o2; rw [s1] at this
    exact blk_alloc (blk_alloc (blk_alloc this o3) o4) o5
  · have := blk_new ((w.alloc o1).alloc o2) o3; rw [s2] at this
    exact blk_alloc (blk_alloc this o4) o5
  · have := blk_new (((w.alloc o1).alloc o2).alloc o3) o4; rw [s3] at this
    exact blk_alloc this o5
  · have := blk_new ((((w.alloc o1).alloc o2).alloc o3).alloc o4) o5; rwa [s4] at this
theorem bar_blk {l : Nat} {W W' : World} (h : Bar l W W') {k : Nat} {o : Obj} (hk : W.heap[k]? = some o) (hne : k ≠ l) : W'.heap[k]? = some o := (h.block k (blk_lt hk) hne).trans hk
theorem bar_below {l n : Nat} {W W' : World} (h : Bar l W W') (hl : n ≤ l) (hn : n ≤ W.heap.size) : Below n W W' := ⟨h.os, h.tape, h.output, h.size, fun k hk => h.block k (by omega) (by omega)⟩
section
variable {B : Bs} {w : World} {A : Option Addr} {c m : Nat} {r r' : Loop} {ok ok' : Nat → Prop} {at_ e : Int} {xs : List QD.S26} {W W' : World}
theorem S_loop {l : Nat} {v : Value} (h : Kd.S QD.k26 26 W w.heap.size ok v xs) (hl : W.heap[l]? = some (.loop r)) (hb : Bar l W W') : Kd.S QD.k26 26 W' w.heap.size ok v xs :=
  Kd.S_mono (Kd.S_step (Kd.S_bound h) (fun k hk hlt => hb.block k hlt (by
    rintro rfl
    obtain ⟨_, _, _, q, _, cells, hc⟩ := hk
    rw [hl] at hc; cases hc))) (fun _ hk => hk.1)
/-- The record turns. -/
theorem In.bar (h : In B w A c m r ok at_ xs e W) (hB : B.ok w.heap.size) (hb : Bar B.l W W') (hl : W'.heap[B.l]? = some (.loop r')) : In B w A c m r' ok at_ xs e W' := by
  obtain ⟨v, h1, h2⟩ := h.out
  have g0 := hB.h0
  have g1 := hB.h1
  have g2 := hB.h2
  have g3 := hB.h3
  have g4 := hB.h4
  have g5 := hB.h5
  have g6 := hB.h6
  exact ⟨⟨v, bar_blk hb h1 (by omega), S_loop h2 h.lp hb⟩, bar_blk hb h.fin (by omega), bar_blk hb h.err (by omega), bar_blk hb h.bx (by omega), bar_blk hb h.ex (by omega), bar_blk hb h.df (by omega), hl, h.bel.trans (bar_below hb (by omega) h.bel.size)⟩
end
/-- A block of another type, or of none, stays where a row is appended to. -/
theorem row_keeps {W w1 : World} {v : Value} {k : Nat} {o : Obj} (hg : W.grownBy w1 v.ownBlock) (ht : ∀ j, v.ownBlock = some j → ∃ cells, W.heap[j]? = some (.cells cells 26 (0, 0))) (hk : W.heap[k]? = some o) (ho : ∀ cells, o ≠ .cells cells 26 (0, 0)) : w1.heap[k]? = some o := by
  refine (hg.block k (blk_lt hk) (fun e => ?_)).trans hk
  obtain ⟨cells, hc⟩ := ht k e.symm
  rw [hk] at hc
  exact ho cells (Option.some.inj hc)
theorem R_loop {l n : Nat} {W W' : World} {v : Value} {p : List Int} {r : Loop} {ok : Nat → Prop} (h : Kd.R (Kd.int .u8) 5 W n ok v p) (hl : W.heap[l]? = some (.loop r)) (hb : Bar l W W') : Kd.R (Kd.int .u8) 5 W' n ok v p :=
  Kd.R_mono (Kd.R_step (Kd.R_bound h) (fun k hk hlt => hb.block k hlt (by
    rintro rfl
    obtain ⟨_, _, _, q, _, cells, hc⟩ := hk
    rw [hl] at hc; cases hc))) (fun _ hk => hk.1)
theorem cells_ne {cs cs' : Array Value} {t t' : TypeId} (h : t ≠ t') : Obj.cells cs t (0, 0) ≠ Obj.cells cs' t' (0, 0) := by
  intro e; injection e with _ e; exact h e
/-- A round's work. -/
theorem In.grow {B : Bs} {w : World} {A : Option Addr} {c m : Nat} {r : Loop} {ok ok' ok1 : Nat → Prop} {at_ e : Int} {xs xs1 : List QD.S26} {W w1 : World} {v v1 : Value} (h : In B w A c m r ok at_ xs e W) (hB : B.ok w.heap.size) (ho : W.heap[B.o]? = some (.cells #[v] 32 (0, 0)))
    (hs : Kd.S QD.k26 26 W w.heap.size ok' v xs) (hg : W.grownBy w1 v.ownBlock) (hb1 : Below w.heap.size w w1) (hs1 : Kd.S QD.k26 26 w1 w.heap.size ok1 v1 xs1) (at' : Int) :
    In B w A c m r ok1 at' xs1 e ((w1.setCell ⟨B.o, 0, none⟩ v1).setCell ⟨B.f, 0, none⟩ (.int .i64 at')) := by
  have g0 := hB.h0
  have g1 := hB.h1
  have g2 := hB.h2
  have g3 := hB.h3
  have g4 := hB.h4
  have g5 := hB.h5
  have g6 := hB.h6
  have ht := Kd.S_typed hs
  have x0 := row_keeps hg ht ho (fun _ => cells_ne (by decide))
  have x1 := row_keeps hg ht h.fin (fun _ => cells_ne (by decide))
  have x2 := row_keeps hg ht h.err (fun _ => cells_ne (by decide))
  have x3 := row_keeps hg ht h.bx (fun _ => cells_ne (by decide))
  have x4 := row_keeps hg ht h.ex (fun _ => cells_ne (by decide))
  have x5 := row_keeps hg ht h.df (fun _ e => by cases e)
  have x6 := row_keeps hg ht h.lp (fun _ e => by cases e)
  have y1 := blk_far x1 (p := ⟨B.o, 0, none⟩) (by show B.f ≠ B.o; omega) v1
  have far : ∀ {k : Nat} {o : Obj}, w1.heap[k]? = some o → k ≠ B.o → k ≠ B.f → ((w1.setCell ⟨B.o, 0, none⟩ v1).setCell ⟨B.f, 0, none⟩ (.int .i64 at')).heap[k]? = some o := fun hk h1 h2 => (Below.heap_setCell _ ⟨B.f, 0, none⟩ _ _ h2).trans ((Below.heap_setCell _ ⟨B.o, 0, none⟩ _ _ h1).trans hk)
  exact ⟨⟨v1, blk_far (blk_put x0 0 v1 rfl) (p := ⟨B.f, 0, none⟩) (by show B.o ≠ B.f; omega) _, Kd.S_set (Kd.S_set hs1 x0 (by decide) 0 v1) y1 (by decide) 0 _⟩, blk_put y1 0 _ rfl,
    far x2 (by omega) (by omega), far x3 (by omega) (by omega), far x4 (by omega) (by omega), far x5 (by omega) (by omega), far x6 (by omega) (by omega),
    (hb1.setCell (p := ⟨B.o, 0, none⟩) (by show w.heap.size ≤ B.o; omega) _).setCell (p := ⟨B.f, 0, none⟩) (by show w.heap.size ≤ B.f; omega) _⟩
set_option maxRecDepth 100000 in
set_option maxHeartbeats 4000000 in
theorem cut_any (A : Option Addr) (c : Nat) (b : List Int) (w : World) (hlen : b.length ≤ 1000000) (hby : Bytes b) (hr : Kd.C (Kd.int .u8) w A b.length b) (hc : b.length ≤ c) :
    Calls Try.prog 13 #[.slice A b.length c] w fun e w' => ∃ v, e = .returned (.tuple #[v, .int .i64 (cutOf b).2.1, .int .i64 (cutOf b).2.2]) ∧ Kd.S QD.k26 26 w' w.heap.size (fun _ => True) v (cutOf b).1 ∧ Below w.heap.size w w' := by
  have HR := Lib.hid hr
  have HBY := Lib.hid hby
  clear hr hby
  refine (callsIn_wide (n := 9)).1 ?_
  refine callsIn_of_wp_marks Try.func13 rfl trivial ?_ rfl
  simp only [Try.ntmps13, List.size_toArray, List.length_cons, List.length_nil, Nat.reduceAdd, Nat.reduceSub, Array.replicate_succ, Array.replicate_zero, List.push_toArray, List.append_toArray, List.nil_append, List.cons_append]
  gi_wp2
  refine ⟨trivial, ?_⟩
  refine (callsIn_wide.2 (frames_any _ _ _ _ _)).mono ?_
  rintro e w' ⟨rfl, rfl⟩
  gi_wp2
  obtain ⟨w5, hw5, hs, k1, k2, k3, k4, k5, hb5⟩ := five w (.cells #[.slice none 0 0] 32) (.cells #[.int .i64 0] 3) (.cells #[.int .i64 0] 27) (.cells #[.slice A b.length c] 22) (.cells #[.pointer (some ⟨w.heap.size + 1 + 1, 0, none⟩)] 46)
  rw [← hw5]
  have HS := Lib.hid hs
  have HK := Lib.hid (show _ ∧ _ ∧ _ ∧ _ ∧ _ ∧ _ from ⟨k1, k2, k3, k4, k5, hb5⟩)
  clear hw5 hs k1 k2 k3 k4 k5 hb5
  obtain ⟨B, hBd⟩ : ∃ B : Bs, B = ⟨w.heap.size, w.heap.size + 1, w.heap.size + 1 + 1, w.heap.size + 1 + 1 + 1, w.heap.size + 1 + 1 + 1 + 1, w5.heap.size, w5.heap.size + 1⟩ := ⟨_, rfl⟩
  have HB : Hid (B.ok w.heap.size) := Lib.hid (by rw [hBd]; have := HS.out; exact ⟨Nat.le_refl _, by simp, by simp, by simp, by simp, by simp only; omega, by simp⟩)
  refine range_on rfl (by omega) (gf := 22) (lb := #[.pointer (some ⟨w.heap.size + 1 + 1 + 1, 0, none⟩), .pointer (some ⟨w.heap.size + 1 + 1 + 1 + 1, 0, none⟩)]) rfl trivial (enters_of Try.func22 (by kernel_rfl) rfl) ?_
  intro r hrf hst hpe htm hpa has hbo W1 hW1
  have hI0 : In B w A c b.length r (fun _ => True) 0 [] 0 W1 := by
    obtain ⟨k1, k2, k3, k4, k5, hb5⟩ := HK.out
    rw [hW1, hBd]
    have hl : ((w5.alloc (.deferred (some []))).alloc (.loop r)).heap[w5.heap.size + 1]? = some (.loop r) := by
      have := blk_new (w5.alloc (.deferred (some []))) (.loop r)
      rwa [World.size_alloc] at this
    exact ⟨⟨_, blk_alloc (blk_alloc k1 _) _, Kd.S_nil _ _ _ _ _⟩, blk_alloc (blk_alloc k2 _) _, blk_alloc (blk_alloc k3 _) _, blk_alloc (blk_alloc k4 _) _, blk_alloc (blk_alloc k5 _) _, blk_alloc (blk_new _ _) _, hl, below_alloc (below_alloc hb5 _) _⟩
  have HI0 := Lib.hid hI0
  have HBd := Lib.hid hBd
  clear hI0 hBd hW1
  have hY : ∀ (W : World) (at_ at' e : Int) (xs : List QD.S26) (x : QD.S26) (Ap : Option Addr) (cp : Nat), In B w A c b.length r (fun k => True ∧ some k ≠ (Value.slice Ap x.f2.length cp).ownBlock) at_ xs e W → Kd.R (Kd.int .u8) 5 W w.heap.size (fun _ => True) (.slice Ap x.f2.length cp) x.f2 → xs.length ≤ 1000000 →
      YieldAt Fence.wide 7 Try.prog B.l #[.int .i64 at', .agg #[.int .u16 x.f0, .int .u8 x.f1, .slice Ap x.f2.length cp]] W fun e' W' => e' = .returned (.bool true) ∧ In B w A c b.length r (fun _ => True) at' (xs ++ [x]) e W' := by
    intro W at_ at' e xs x Ap cp hI hRp hxs
    refine round_on hI.lp hst hpe trivial (by rw [hpa]; rfl) ?_
    intro rb
    rw [htm, hpa, has, hbo]
    have HI := Lib.hid hI
    have HRP := Lib.hid hRp
    clear hI hRp
    gi_wp2
    refine ⟨blk_alloc HI.out.lp _, fun W2 hbar hlp2 => ?_⟩
    have hI2 := (HI.out.below (below_alloc (Below.refl _ _) (.cells #[.int .u16 x.f0, .int .u8 x.f1, .slice Ap x.f2.length cp] 26))).bar HB.out hbar hlp2
    have hR2 := R_loop (Kd.R_alloc HRP.out (.cells #[.int .u16 x.f0, .int .u8 x.f1, .slice Ap x.f2.length cp] 26)) (blk_alloc HI.out.lp _) hbar
    have hbox := bar_blk hbar (blk_new W (.cells #[.int .u16 x.f0, .int .u8 x.f1, .slice Ap x.f2.length cp] 26)) (by have := blk_lt HI.out.lp; omega)
    have hc0 := (blk_cell hbox 0).trans (show _ = some (Value.int .u16 x.f0) from rfl)
    have hc1 := (blk_cell hbox 1).trans (show _ = some (Value.int .u8 x.f1) from rfl)
    have hc2 := (blk_cell hbox 2).trans (show _ = some (Value.slice Ap x.f2.length cp) from rfl)
    obtain ⟨v, ho, hS⟩ := hI2.out
    have hBo : B.o = w.heap.size := by rw [HBd.out]
    have hBf : B.f = w.heap.size + 1 := by rw [HBd.out]
    have hco := (blk_cell ho 0).trans (show _ = some v from rfl)
    rw [hBo] at hco
    have hap := Kd.R_apart' hR2 (Kd.S_typed hS) (by decide)
    have HM := Lib.hid (QD.k26_mkM W2 w.heap.size (fun k => some k = (Value.slice Ap x.f2.length cp).ownBlock) x (Kd.R_mono (Kd.R_tight rfl hR2) (fun _ h => h)))
    have HOK : Hid (∀ k, some k = (Value.slice Ap x.f2.length cp).ownBlock → True ∧ some k ≠ v.ownBlock) := Lib.hid (fun k hk => hap.1 k hk.symm)
    have HSS : Hid (Kd.S QD.k26 26 W2 w.heap.size (fun k => True ∧ ¬ some k = (Value.slice Ap x.f2.length cp).ownBlock) v xs) := Lib.hid hS
    have HI2 := Lib.hid hI2
    have HO2 := Lib.hid ho
    have HBO := Lib.hid (And.intro hBo hBf)
    have HB2 := Lib.hid hI2.bel
    clear hbox hI2 hR2 hap hS ho hBo hBf hbar hlp2
    gi_wp2_with (gi_at_builtin; refine S_append_in QD.k26 (w0 := w) w.heap.size rfl (.tmp 14) (.tmp 16) 32 26 (.agg #[(.int .u16 0), (.int .u8 0), (.slice none 0 0)]) 32 rfl Try.underlying32 QD.info26 rfl (by decide) (by omega) v xs x [.int .u16 x.f0, .int .u8 x.f1, .slice Ap x.f2.length cp] (fun _ => True) (fun k => some k = (Value.slice Ap x.f2.length cp).ownBlock) rfl rfl HM.out HOK.out (fun _ _ => trivial) HSS.out HB2.out HB2.out.size (by omega) ?_; intro v1 w1 hs1 hb1 hg1; obtain ⟨A1, d1, rfl⟩ := Kd.R_slice (Kd.S_R hs1); have hI3 := HI2.out.grow HB.out HO2.out HSS.out hg1 hb1 hs1 at'; have hxo := row_keeps hg1 (Kd.S_typed HSS.out) HO2.out (fun _ => cells_ne (by decide)); have hxf := row_keeps hg1 (Kd.S_typed HSS.out) HI2.out.fin (fun _ => cells_ne (by decide)); rw [HBO.out.1] at hxo hI3; rw [HBO.out.2] at hxf hI3; have hxo0 := (blk_cell hxo 0).trans (show _ = some v from rfl); have hxof := blk_frozen hxo 0; have hxf0 := (blk_cell hxf 0).trans (show _ = some (Value.int .i64 at_) from rfl); have hxff := blk_frozen hxf 0; have HI3 := Lib.hid hI3; clear hI3 hxo hxf hs1 hb1 hg1)
    have h := HI3.out
    rw [show (xs ++ [x]).length = xs.length + 1 from by simp] at h
    exact ⟨h.lp, fun W4 hb hl => h.bar HB.out hb hl⟩
  have hit := iter_any B w HB.out A c b hc hlen HBY.out r W1 hY HR.out HI0.out
  have hBl : B.l = w5.heap.size + 1 := by rw [HBd.out]
  have hBb : B.b = w.heap.size + 1 + 1 + 1 := by rw [HBd.out]
  have hBx : B.x = w.heap.size + 1 + 1 + 1 + 1 := by rw [HBd.out]
  rw [hBl, hBb, hBx] at hit
  refine hit.mono ?_
  clear hit hY
  rintro e W3 ⟨hv, hI⟩
  refine ⟨hv, by have := hI.lp; rwa [hBl] at this, fun W6 hbar => ?_⟩
  rw [← hBl] at hbar
  obtain ⟨v, ho, hS⟩ := hI.out
  have g := HB.out
  have xo := bar_blk hbar ho (by have := g.h1; have := g.h2; have := g.h3; have := g.h4; have := g.h5; have := g.h6; omega)
  have xf := bar_blk hbar hI.fin (by have := g.h1; have := g.h2; have := g.h3; have := g.h4; have := g.h5; have := g.h6; omega)
  have xe := bar_blk hbar hI.err (by have := g.h1; have := g.h2; have := g.h3; have := g.h4; have := g.h5; have := g.h6; omega)
  have xd := bar_blk hbar hI.df (by have := g.h1; have := g.h2; have := g.h3; have := g.h4; have := g.h5; have := g.h6; omega)
  have HS6 := Lib.hid (S_loop hS hI.lp hbar)
  have HB6 := Lib.hid (hI.bel.trans (bar_below hbar (by have := g.h0; have := g.h1; have := g.h2; have := g.h3; have := g.h4; have := g.h5; have := g.h6; omega) hI.bel.size))
  have hBo : B.o = w.heap.size := by rw [HBd.out]
  have hBf : B.f = w.heap.size + 1 := by rw [HBd.out]
  have hBe : B.e = w.heap.size + 1 + 1 := by rw [HBd.out]
  have hBdd : B.d = w5.heap.size := by rw [HBd.out]
  rw [hBo] at xo
  rw [hBf] at xf
  rw [hBe] at xe
  rw [hBdd] at xd
  have hc0 := (blk_cell xo 0).trans (show _ = some v from rfl)
  have hc1 := (blk_cell xf 0).trans (show _ = some (Value.int .i64 (cutOf b).2.1) from rfl)
  have hc2 := (blk_cell xe 0).trans (show _ = some (Value.int .i64 (cutOf b).2.2) from rfl)
  have XD := Lib.hid xd
  clear xo xf xe xd hv hI ho hS g hBo hBf hBe hBdd hBl hBb hBx hbar hst hpe htm hpa has hbo hrf
  gi_wp2
  refine wpIn_wide.2 ?_
  go_quiet (fail)
  gi_wp2
  have hK : (W6.drewN nq).heap[w5.heap.size]? = some (.deferred (some [])) := XD.out
  refine ⟨by simp, .inl ⟨_, _, rfl, run_takeDeferred hK, ?_⟩⟩
  have hb7 : Bar w5.heap.size (W6.drewN nq) ((W6.drewN nq).putObj w5.heap.size (.deferred none)) := bar_put _ _ _
  have hb7' : Below w.heap.size w ((W6.drewN nq).putObj w5.heap.size (.deferred none)) := (below_drewN HB6.out nq).trans (bar_below hb7 (by have := HS.out; omega) (below_drewN HB6.out nq).size)
  have hs7 : Kd.S QD.k26 26 ((W6.drewN nq).putObj w5.heap.size (.deferred none)) w.heap.size (fun _ => True) v (cutOf b).1 := Kd.S_mono (Kd.S_step (Kd.S_bound (Kd.S_drewN HS6.out nq)) (fun k hk hlt => hb7.block k hlt (by
    rintro rfl
    obtain ⟨_, _, _, q, _, cells, hc⟩ := hk
    rw [hK] at hc; cases hc))) (fun _ hk => hk.1)
  refine ⟨_, results_tmp3 rfl _ _ _, ⟨v, rfl, hs7, hb7'⟩⟩
end Go.Proofs.Ytkmmkoiibcdmeaa

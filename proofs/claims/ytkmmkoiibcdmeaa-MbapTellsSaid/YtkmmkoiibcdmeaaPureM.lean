/- Frames of so many bytes: plain mathematics. -/
import Derived.Test.YtkmmkoiibcdmeaaQE6
import Derived.Test.YtkmmkoiibcdmeaaPC
namespace Go.Proofs.Ytkmmkoiibcdmeaa
open Go.RowKit Go.Proofs.YtkmmkoiibcdmeaaW.PrintWords Go.Proofs.YtkmmkoiibcdmeaaW.PrintLast
set_option linter.unusedVariables false
set_option linter.unusedSimpArgs false
theorem put_fine {x : QD.S26} (h : Fine x) : QD.mbap_Put.f x.f0 x.f1 x.f2 = some (bytesOf x) := by
  obtain ⟨h1, h2, _⟩ := h
  have hw : wrap64 ((x.f2.length : Int) + 1) = (x.f2.length : Int) + 1 := by unfold wrap64; omega
  unfold QD.mbap_Put.f
  rw [if_neg (by omega), if_neg (by omega), Option.bind_some, if_pos (by simp; omega), hw]
  rfl
theorem put_not {a b : Int} {p : List Int} (h : p.length = 0 ∨ 253 < p.length) : QD.mbap_Put.f a b p = some [] := by
  unfold QD.mbap_Put.f
  by_cases h0 : (p.length : Int) = 0
  · rw [if_pos h0]
  · rw [if_neg h0, if_pos (by omega)]
theorem cut_f {b : List Int} (hb : Bytes b) (hl : b.length ≤ 1000000) : QD.mbap_Cut.f b = some (cutOf b) := by
  unfold QD.mbap_Cut.f; rw [if_pos ⟨hl, bytes_all hb⟩]
theorem first_f {b : List Int} (hb : Bytes b) (hl : b.length ≤ 1000000) : QD.mbap_First.f b = some (firstOf b) := by
  unfold QD.mbap_First.f; rw [if_pos ⟨hl, bytes_all hb⟩]
theorem flat_bytes {l : List QD.S26} (h : ∀ x ∈ l, Fine x) : Bytes (l.flatMap bytesOf) := fun y hy => by
  obtain ⟨x, hx, hy⟩ := List.mem_flatMap.1 hy
  exact bytesOf_bytes (h x hx) y hy
theorem byte_of {a : Int} (h : (Lit.int .u8 a).wf = true) : 0 ≤ a ∧ a ≤ 255 := by
  simp only [Lit.wf, IntKind.min, IntKind.max, IntKind.signed, IntKind.bits, Bool.and_eq_true, decide_eq_true_eq, Bool.false_eq_true, if_false] at h
  omega
/-! ### many frames -/
def szOf (l : List Int) (i : Nat) : Nat := (1 + rd l (i : Int) % 253).toNat
def frameAt (a0 a1 : Int) (l : List Int) (i : Nat) : QD.S26 := ⟨(a0 + i) % 65536, a1, (List.replicate (szOf l i) 0).set 0 ((i : Int) % 256)⟩
def framesTo (a0 a1 : Int) (l : List Int) (i : Nat) : List QD.S26 := (List.range i).map (frameAt a0 a1 l)
theorem framesTo_succ (a0 a1 : Int) (l : List Int) (i : Nat) : framesTo a0 a1 l (i + 1) = framesTo a0 a1 l i ++ [frameAt a0 a1 l i] := by unfold framesTo; rw [List.range_succ, List.map_append]; rfl
theorem sz_ok {l : List Int} (hl : Bytes l) {i : Nat} (hi : i < l.length) : 1 ≤ szOf l i ∧ szOf l i ≤ 253 ∧ wrap64 (1 + Int.tmod (wrap64 (rd l (i : Int))) 253) = (szOf l i : Int) := by
  have hb := rd_byte hl i hi
  have h1 : wrap64 (rd l (i : Int)) = rd l (i : Int) := by unfold wrap64; omega
  rw [h1, Int.tmod_eq_emod_of_nonneg hb.1]
  clear h1
  unfold szOf
  refine ⟨by omega, by omega, ?_⟩
  unfold wrap64
  omega
theorem frame_fine {a0 a1 : Int} {l : List Int} (h1 : 0 ≤ a1 ∧ a1 ≤ 255) (hl : Bytes l) {i : Nat} (hi : i < l.length) : Fine (frameAt a0 a1 l i) := by
  obtain ⟨s1, s2, _⟩ := sz_ok hl hi
  have hlen : (frameAt a0 a1 l i).f2.length = szOf l i := by unfold frameAt; simp
  refine ⟨by rw [hlen]; exact s1, by rw [hlen]; exact s2, by unfold frameAt; show 0 ≤ (a0 + i) % 65536 ∧ (a0 + i) % 65536 < 65536; omega, h1, fun x hx => ?_⟩
  unfold frameAt at hx
  rcases List.mem_or_eq_of_mem_set hx with h | rfl
  · have := (List.mem_replicate.1 h).2; omega
  · omega
theorem frames_fine {a0 a1 : Int} {l : List Int} (h1 : 0 ≤ a1 ∧ a1 ≤ 255) (hl : Bytes l) {i : Nat} (hi : i ≤ l.length) : ∀ x ∈ framesTo a0 a1 l i, Fine x := by
  intro x hx
  unfold framesTo at hx
  obtain ⟨j, hj, rfl⟩ := List.mem_map.1 hx
  exact frame_fine h1 hl (by have := List.mem_range.1 hj; omega)
theorem u16_wrap (x : Int) : IntKind.u16.wrap x = x % 65536 := rfl
theorem id_at (a0 : Int) (i : Nat) : IntKind.u16.wrap (a0 + IntKind.u16.wrap (i : Int)) = (a0 + i) % 65536 := by rw [u16_wrap, u16_wrap]; omega
theorem flat_len {a0 a1 : Int} {l : List Int} (hl : Bytes l) : ∀ {i : Nat}, i ≤ l.length → ((framesTo a0 a1 l i).flatMap bytesOf).length ≤ i * 260 := by
  intro i
  induction i with
  | zero => intro _; simp [framesTo]
  | succ i ih =>
    intro hi
    have := ih (by omega)
    obtain ⟨s1, s2, _⟩ := sz_ok hl (i := i) (by omega)
    rw [framesTo_succ, List.flatMap_append, List.length_append]
    have e : (([frameAt a0 a1 l i] : List QD.S26).flatMap bytesOf).length = szOf l i + 7 := by
      simp [bytesOf_len, frameAt]
    rw [e]; omega
theorem rd_frames (a0 a1 : Int) (l : List Int) {i n : Nat} (hi : i < n) : QD.rd_T26 (framesTo a0 a1 l n) (i : Int) = frameAt a0 a1 l i := by
  unfold QD.rd_T26 framesTo
  rw [Int.toNat_natCast, List.getD_eq_getElem?_getD, List.getElem?_map, List.getElem?_range hi]; rfl
theorem l1_ok (a0 a1 : Int) (l : List Int) (t : Bool) (hl : Bytes l) (hn : l.length ≤ 60) : ∀ (d i f : Nat), i + d = l.length → d < f → QD.watchkeeperlaw03_MbapMany.l1 f a0 a1 l t (framesTo a0 a1 l l.length) (i : Int) = some t := by
  have hlen : (framesTo a0 a1 l l.length).length = l.length := by simp [framesTo]
  intro d
  induction d with
  | zero =>
    intro i f h1 h2
    obtain ⟨f, rfl⟩ : ∃ g, f = g + 1 := ⟨f - 1, by omega⟩
    rw [QD.watchkeeperlaw03_MbapMany.l1, if_neg (by rw [hlen]; omega)]
  | succ d ih =>
    intro i f h1 h2
    obtain ⟨f, rfl⟩ : ∃ g, f = g + 1 := ⟨f - 1, by omega⟩
    have hi : i < l.length := by omega
    have q1 : (i : Int) < ((framesTo a0 a1 l l.length).length : Int) := by rw [hlen]; omega
    have q2 : (0 : Int) ≤ (i : Int) := by omega
    have q3 : (i : Int) < (l.length : Int) := by omega
    have q4 : i + 1 + d = l.length := by omega
    have q5 : d < f := by omega
    have hw : wrap64 ((i : Int) + 1) = ((i + 1 : Nat) : Int) := by unfold wrap64; omega
    obtain ⟨s1, s2, s3⟩ := sz_ok hl hi
    have q6 : (0 : Int) < (szOf l i : Int) := by clear s3 hw; omega
    have hr := rd_frames a0 a1 l hi
    have hsz : ((frameAt a0 a1 l i).f2.length : Int) = (szOf l i : Int) := by unfold frameAt; simp
    have hh : rd (frameAt a0 a1 l i).f2 0 = (i : Int) % 256 := by
      unfold frameAt rd
      obtain ⟨m, hm⟩ : ∃ m, szOf l i = m + 1 := ⟨szOf l i - 1, by clear s3 hw hr hsz; omega⟩
      rw [hm]; simp [List.replicate_succ]
    rw [QD.watchkeeperlaw03_MbapMany.l1, if_pos q1, if_pos q2, hr, id_at, if_pos (show (frameAt a0 a1 l i).f0 = (a0 + (i : Int)) % 65536 from rfl), if_pos (show (frameAt a0 a1 l i).f1 = a1 from rfl), if_pos q3, s3, if_pos hsz, if_pos (by rw [hsz]; exact q6), if_pos hh, hw]
    exact ih (i + 1) f q4 q5
theorem l0_ok (a0 a1 : Int) (l : List Int) (t : Bool) (h1 : 0 ≤ a1 ∧ a1 ≤ 255) (hl : Bytes l) (hn : l.length ≤ 60) : ∀ (d i f : Nat), i + d = l.length → d + l.length + 3 < f →
    QD.watchkeeperlaw03_MbapMany.l0 f a0 a1 l t ((framesTo a0 a1 l i).flatMap bytesOf) (((framesTo a0 a1 l i).flatMap bytesOf).length : Int) (i : Int) = some t := by
  intro d
  induction d with
  | zero =>
    intro i f hi hf
    obtain rfl : i = l.length := by omega
    obtain ⟨f, rfl⟩ : ∃ g, f = g + 1 + 1 := ⟨f - 2, by omega⟩
    have hfl := flat_len (a0 := a0) (a1 := a1) hl (Nat.le_refl l.length)
    have hff := frames_fine (a0 := a0) h1 hl (Nat.le_refl l.length)
    have hc := (cuts_put hff cuts_nil).cutOf
    rw [List.append_nil, List.append_nil, Nat.add_zero] at hc
    have hlen : (framesTo a0 a1 l l.length).length = l.length := by simp [framesTo]
    rw [QD.watchkeeperlaw03_MbapMany.l0, if_neg (by omega), cut_f (flat_bytes hff) (by omega), Option.bind_some, hc, if_pos rfl, if_pos rfl, if_pos rfl, QD.watchkeeperlaw03_MbapMany.j1]
    rw [if_neg (by rw [hlen]; simp)]
    exact l1_ok a0 a1 l t hl hn l.length 0 f (by omega) (by omega)
  | succ d ih =>
    intro i f hi hf
    obtain ⟨f, rfl⟩ : ∃ g, f = g + 1 := ⟨f - 1, by omega⟩
    have hil : i < l.length := by omega
    have hfl := flat_len (a0 := a0) (a1 := a1) hl (Nat.le_of_lt hil)
    obtain ⟨s1, s2, s3⟩ := sz_ok hl hil
    have hp := put_fine (frame_fine (a0 := a0) h1 hl hil)
    have hbl : (bytesOf (frameAt a0 a1 l i)).length = szOf l i + 7 := by rw [bytesOf_len]; simp [frameAt]
    have hset : QD.mbap_Put.f (IntKind.u16.wrap (a0 + IntKind.u16.wrap (i : Int))) a1 ((List.replicate (szOf l i) 0).set (0 : Int).toNat ((i : Int) % 256)) = some (bytesOf (frameAt a0 a1 l i)) := by
      rw [id_at]; exact hp
    obtain ⟨L, hL⟩ : ∃ L, (framesTo a0 a1 l i).flatMap bytesOf = L := ⟨_, rfl⟩
    have hnext : (framesTo a0 a1 l (i + 1)).flatMap bytesOf = L ++ bytesOf (frameAt a0 a1 l i) := by rw [framesTo_succ, List.flatMap_append, hL]; simp
    have ih' := ih (i + 1) f (by omega) (by omega)
    rw [hnext] at ih'
    rw [hL] at hfl ⊢
    have hw : wrap64 ((i : Int) + 1) = ((i + 1 : Nat) : Int) := by clear s3; unfold wrap64; omega
    have p1 : (i : Int) < (l.length : Int) := by clear s3 hw; omega
    have p2 : (0 : Int) ≤ (i : Int) := by clear s3 hw; omega
    have p3 : (0 : Int) ≤ (szOf l i : Int) := by clear s3 hw; omega
    have p4 : szOf l i ≤ 281474976710656 := by clear s3 hw; omega
    have p5 : (0 : Int) < (szOf l i : Int) := by clear s3 hw; omega
    have p6 : L.length + (szOf l i + 7) < 140737488355328 := by clear s3 hw; omega
    have hw2 : wrap64 (wrap64 ((L.length : Int) + (szOf l i : Int)) + 7) = ((L ++ bytesOf (frameAt a0 a1 l i)).length : Int) := by
      clear s3 hw ih'
      have e : wrap64 ((L.length : Int) + (szOf l i : Int)) = (L.length : Int) + (szOf l i : Int) := by unfold wrap64; omega
      rw [e, List.length_append, hbl]; clear e; unfold wrap64; omega
    rw [QD.watchkeeperlaw03_MbapMany.l0, if_pos p1, if_pos p2, s3]
    clear s3
    rw [if_pos p3, if_pos (by rw [Int.toNat_natCast]; exact p4), Option.bind_some, Int.toNat_natCast, if_pos (by rw [List.length_replicate]; exact p5), hset, Option.bind_some, if_pos (by rw [hbl]; exact p6), hw, hw2]
    exact ih'
end Go.Proofs.Ytkmmkoiibcdmeaa
namespace Go.Proofs.Ytkmmkoiibcdmeaa.Pure
open Go.RowKit Go.Proofs.Ytkmmkoiibcdmeaa.QD Go.Proofs.YtkmmkoiibcdmeaaW.PrintWords Go.Proofs.YtkmmkoiibcdmeaaW.PrintLast
theorem MbapMany : watchkeeperlaw03_MbapMany.Pure := by
  intro a0 a1 l2 _ h1 _ _ h2
  refine ⟨l2.length + l2.length + 10, ?_⟩
  unfold watchkeeperlaw03_MbapMany.f
  rw [show watchkeeperlaw03_head.f = some true from rfl, Option.bind_some]
  by_cases h : (l2.length : Int) > 60
  · rw [if_pos h]
  · rw [if_neg h]
    exact l0_ok a0 a1 l2 true (byte_of h1) (bytes_wf h2) (by omega) l2.length 0 _ (by omega) (by omega)
end Go.Proofs.Ytkmmkoiibcdmeaa.Pure

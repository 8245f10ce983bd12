/- The contract of idiom: some instructions that make sense together. PRINTED BY A PROGRAM (mk_idiom.py). -/
import Derived.Test.YtpmdgmgcbminaaaNat
namespace Go.Proofs.Ytpmdgmgcbminaaa
open Go.RowKit Words

def RetIdiom (w : World) (g t nf : Nat) (e : Ending) (w' : World) : Prop :=
  ∃ (l : List NI) (A : Option Addr) (c t' : Nat), e = .returned (.slice A l.length c) ∧ Reads w' w'.heap.size 5 A l.length c (l.flatMap insCells) ∧ l.length ≤ 8 ∧ (∀ x ∈ l, R0 nf x) ∧ t' ≤ t + 10 ∧ TapeAt w' g t' ∧ w.grownBy w' (some g) ∧ (∀ b off, A = some ⟨b, off, none⟩ → w.heap.size ≤ b)
theorem idiom_end {w wl : World} {g t t' nf : Nat} (l : List NI) (cs : Array Value) (hl : l.length ≤ 8) (hcs : cs.toList = l.flatMap insCells) (hR : ∀ x ∈ l, R0 nf x) (ht : t' ≤ t + 10) (hT : TapeAt wl g t') (hG : w.grownBy wl (some g)) :
    RetIdiom w g t nf (.returned (.slice (some ⟨wl.heap.size, 0, none⟩) l.length l.length)) (wl.alloc (.cells cs 58)) := by
  have hr := Reads.freshAs wl cs 58 5 l.length (l.flatMap insCells) hcs (by have := congrArg List.length hcs; rw [flat_len insCells 5 insCells_len] at this; simpa using this) (by unfold maxLen; omega)
  refine ⟨l, _, _, t', rfl, hr, hl, hR, ht, hT.below (keep_alloc (Below.refl _ _) _), only_below hG (keep_alloc (Below.refl _ _) _), fun b off e => ?_⟩
  simp only [Option.some.injEq, Addr.mk.injEq] at e
  have := hG.size
  omega

set_option linter.unusedSimpArgs false in
set_option maxRecDepth 100000 in
set_option maxHeartbeats 4000000 in
theorem idiom_any (g t nf : Nat) (F : Option Addr) (cf : Nat) (fl : List Int) (at_ : Nat) (w : World) (hT : TapeAt w g t) (ht : t ≤ 900000) (hF : Reads w w.heap.size 1 F nf cf (fl.flatMap intCells)) (hFg : ∀ b off, F = some ⟨b, off, none⟩ → b ≠ g) (hnf : 0 < nf) (hnf2 : nf ≤ 16) (hfl : ∀ p ∈ fl, 0 ≤ p ∧ p ≤ 3) (hat : at_ ≤ 1000) :
    Calls Try.prog 42 #[.pointer (some ⟨g, 0, none⟩), .slice F nf cf, .int .i64 at_] w (RetIdiom w g t nf) := by
  have hgw := hT.lt
  have hG : w.grownBy w (some g) := World.grownBy.refl _ _
  go_enter Try.func42, Try.ntmps42
  go_wp2_with fail
  refine (next_any g _ 4 _ hT (by omega) (by omega)).mono ?_
  rintro e w1 ⟨a, rfl, ha0, ha1, t1, ht1, hT, hG1⟩
  have hG := hG.trans hG1
  have ha2 : a < 4 := by omega
  go_wp2_with fail
  refine (next_any g _ 3 _ hT (by omega) (by omega)).mono ?_
  rintro e w2 ⟨b, rfl, hb0, hb1, t2, ht2, hT, hG2⟩
  have hG := hG.trans hG2
  have hb2 : b < 3 := by omega
  go_wp2_with fail
  refine (next_any g _ 4 _ hT (by omega) (by omega)).mono ?_
  rintro e w3 ⟨k, rfl, hk0, hk1, t3, ht3, hT, hG3⟩
  have hG := hG.trans hG3
  have hk2 : k < 4 := by omega
  have wk : IntKind.u64.wrap k = k := IntWalk.u64_in _ (by omega)
  have wk1 : IntKind.u64.wrap (1 + k) = 1 + k := IntWalk.u64_in _ (by omega)
  clear ha1 hb1 hk1 hG1 hG2 hG3
  go_wp2_with fail
  refine (next_any g _ 11 _ hT (by omega) (by omega)).mono ?_
  rintro e w4 ⟨s, rfl, hs0, hs1, t4, ht4, hT, hG4⟩
  have hG := hG.trans hG4
  clear hG4
  have hs3 : s = 0 ∨ s = 1 ∨ s = 2 ∨ s = 3 ∨ s = 4 ∨ s = 5 ∨ s = 6 ∨ s = 7 ∨ s = 8 ∨ s = 9 ∨ s = 10 := by omega
  clear hs0 hs1
  rcases hs3 with rfl | rfl | rfl | rfl | rfl | rfl | rfl | rfl | rfl | rfl | rfl
  · go_wp2_with (go_at_call 43; refine (nat_any _ _ _ _ _ _).mono ?_; rintro e wn ⟨rfl, hbn⟩; have hT := hT.below hbn; have hG := only_below hG hbn; clear hbn)
    go_ret
    have u0 := U_ofInt (1 + k) (by omega) (by omega)
    have u9 : U 0#64 = 0 := rfl
    exact idiom_end [⟨1, a, 0, 0, BitVec.ofInt 64 (1 + k)⟩, ⟨13, 4 + b, 3, a, 0#64⟩] _ (by simp) (by simp [insCells, u9, u0]) (fun x hx => by
      simp only [List.mem_cons, List.not_mem_nil, or_false] at hx
      rcases hx with rfl | rfl <;> (refine R0.mk' ?_ ?_ ?_ ?_ ?_ ?_ ?_ <;> dsimp only <;> omega)) (by omega) hT hG
  · go_wp2_with (go_at_call 43; refine (nat_any _ _ _ _ _ _).mono ?_; rintro e wn ⟨rfl, hbn⟩; have hT := hT.below hbn; have hG := only_below hG hbn; clear hbn)
    go_ret
    have u0 := U_ofInt (1 + k) (by omega) (by omega)
    have u9 : U 0#64 = 0 := rfl
    exact idiom_end [⟨1, a, 0, 0, BitVec.ofInt 64 (1 + k)⟩, ⟨13, 4 + b, 3, a, 0#64⟩] _ (by simp) (by simp [insCells, u9, u0]) (fun x hx => by
      simp only [List.mem_cons, List.not_mem_nil, or_false] at hx
      rcases hx with rfl | rfl <;> (refine R0.mk' ?_ ?_ ?_ ?_ ?_ ?_ ?_ <;> dsimp only <;> omega)) (by omega) hT hG
  · go_wp2_with (go_at_call 43; refine (nat_any _ _ _ _ _ _).mono ?_; rintro e wn ⟨rfl, hbn⟩; have hT := hT.below hbn; have hG := only_below hG hbn; clear hbn)
    refine (next_any g _ 99 _ hT (by omega) (by omega)).mono ?_
    rintro e wn5 ⟨r, rfl, hr0, hr1, tn5, htn5, hT, hGn⟩
    have hG := hG.trans hGn
    have hr2 : r < 99 := by omega
    clear hr1 hGn
    have wr : IntKind.u64.wrap r = r := IntWalk.u64_in _ (by omega)
    go_wp2_with (go_at_call 43; refine (nat_any _ _ _ _ _ _).mono ?_; rintro e wn ⟨rfl, hbn⟩; have hT := hT.below hbn; have hG := only_below hG hbn; clear hbn)
    go_ret
    have u0 := U_ofInt (k) (by omega) (by omega)
    have u1 := U_ofInt (r) (by omega) (by omega)
    have u9 : U 0#64 = 0 := rfl
    exact idiom_end [⟨13, 4 + b, 19, a, 0#64⟩, ⟨1, 7, 0, 0, BitVec.ofInt 64 k⟩, ⟨3, 4 + b, 4 + b, 7, 0#64⟩, ⟨1, 7, 0, 0, BitVec.ofInt 64 r⟩, ⟨12, 4 + b, 7, 0, 0#64⟩, ⟨11, 7, 4 + b, 0, 0#64⟩, ⟨13, 4 + b, 20, a, 0#64⟩, ⟨15, 7, 0, 0, 0#64⟩] _ (by simp) (by simp [insCells, u9, u0, u1]) (fun x hx => by
      simp only [List.mem_cons, List.not_mem_nil, or_false] at hx
      rcases hx with rfl | rfl | rfl | rfl | rfl | rfl | rfl | rfl <;> (refine R0.mk' ?_ ?_ ?_ ?_ ?_ ?_ ?_ <;> dsimp only <;> omega)) (by omega) hT hG
  · go_wp2_with (go_at_call 43; refine (nat_any _ _ _ _ _ _).mono ?_; rintro e wn ⟨rfl, hbn⟩; have hT := hT.below hbn; have hG := only_below hG hbn; clear hbn)
    refine (next_any g _ 99 _ hT (by omega) (by omega)).mono ?_
    rintro e wn5 ⟨r, rfl, hr0, hr1, tn5, htn5, hT, hGn⟩
    have hG := hG.trans hGn
    have hr2 : r < 99 := by omega
    clear hr1 hGn
    have wr : IntKind.u64.wrap r = r := IntWalk.u64_in _ (by omega)
    go_wp2_with (go_at_call 43; refine (nat_any _ _ _ _ _ _).mono ?_; rintro e wn ⟨rfl, hbn⟩; have hT := hT.below hbn; have hG := only_below hG hbn; clear hbn)
    go_ret
    have u0 := U_ofInt (k) (by omega) (by omega)
    have u1 := U_ofInt (r) (by omega) (by omega)
    have u9 : U 0#64 = 0 := rfl
    exact idiom_end [⟨13, 4 + b, 19, a, 0#64⟩, ⟨1, 7, 0, 0, BitVec.ofInt 64 k⟩, ⟨3, 4 + b, 4 + b, 7, 0#64⟩, ⟨1, 7, 0, 0, BitVec.ofInt 64 r⟩, ⟨12, 4 + b, 7, 0, 0#64⟩, ⟨11, 7, 4 + b, 0, 0#64⟩, ⟨13, 4 + b, 20, a, 0#64⟩, ⟨15, 7, 0, 0, 0#64⟩] _ (by simp) (by simp [insCells, u9, u0, u1]) (fun x hx => by
      simp only [List.mem_cons, List.not_mem_nil, or_false] at hx
      rcases hx with rfl | rfl | rfl | rfl | rfl | rfl | rfl | rfl <;> (refine R0.mk' ?_ ?_ ?_ ?_ ?_ ?_ ?_ <;> dsimp only <;> omega)) (by omega) hT hG
  · go_wp2_with (go_at_call 43; refine (nat_any _ _ _ _ _ _).mono ?_; rintro e wn ⟨rfl, hbn⟩; have hT := hT.below hbn; have hG := only_below hG hbn; clear hbn)
    refine (next_any g _ 20 _ hT (by omega) (by omega)).mono ?_
    rintro e wn5 ⟨p, rfl, hp0, hp1, tn5, htn5, hT, hGn⟩
    have hG := hG.trans hGn
    have hp2 : p < 20 := by omega
    clear hp1 hGn
    go_wp2_with (go_at_call 43; refine (nat_any _ _ _ _ _ _).mono ?_; rintro e wn ⟨rfl, hbn⟩; have hT := hT.below hbn; have hG := only_below hG hbn; clear hbn)
    refine (next_any g _ 6 _ hT (by omega) (by omega)).mono ?_
    rintro e wn6 ⟨q, rfl, hq0, hq1, tn6, htn6, hT, hGn⟩
    have hG := hG.trans hGn
    have hq2 : q < 6 := by omega
    clear hq1 hGn
    go_wp2_with (go_at_call 43; refine (nat_any _ _ _ _ _ _).mono ?_; rintro e wn ⟨rfl, hbn⟩; have hT := hT.below hbn; have hG := only_below hG hbn; clear hbn)
    go_ret
    have u9 : U 0#64 = 0 := rfl
    exact idiom_end [⟨13, a, 1 + p, q, 0#64⟩] _ (by simp) (by simp [insCells, u9]) (fun x hx => by
      simp only [List.mem_cons, List.not_mem_nil, or_false] at hx
      rcases hx with rfl <;> (refine R0.mk' ?_ ?_ ?_ ?_ ?_ ?_ ?_ <;> dsimp only <;> omega)) (by omega) hT hG
  · go_wp2_with (go_at_call 43; refine (nat_any _ _ _ _ _ _).mono ?_; rintro e wn ⟨rfl, hbn⟩; have hT := hT.below hbn; have hG := only_below hG hbn; clear hbn)
    go_ret
    have u9 : U 0#64 = 0 := rfl
    exact idiom_end [⟨16, 4 + b, 0, 0, 0#64⟩, ⟨15, 4 + b, 0, 0, 0#64⟩] _ (by simp) (by simp [insCells, u9]) (fun x hx => by
      simp only [List.mem_cons, List.not_mem_nil, or_false] at hx
      rcases hx with rfl | rfl <;> (refine R0.mk' ?_ ?_ ?_ ?_ ?_ ?_ ?_ <;> dsimp only <;> omega)) (by omega) hT hG
  · go_wp2_with (go_at_call 43; refine (nat_any _ _ _ _ _ _).mono ?_; rintro e wn ⟨rfl, hbn⟩; have hT := hT.below hbn; have hG := only_below hG hbn; clear hbn)
    refine (next_any g _ 8 _ hT (by omega) (by omega)).mono ?_
    rintro e wn5 ⟨p, rfl, hp0, hp1, tn5, htn5, hT, hGn⟩
    have hG := hG.trans hGn
    have hp2 : p < 8 := by omega
    clear hp1 hGn
    go_wp2_with (go_at_call 43; refine (nat_any _ _ _ _ _ _).mono ?_; rintro e wn ⟨rfl, hbn⟩; have hT := hT.below hbn; have hG := only_below hG hbn; clear hbn)
    refine (next_any g _ 8 _ hT (by omega) (by omega)).mono ?_
    rintro e wn6 ⟨q, rfl, hq0, hq1, tn6, htn6, hT, hGn⟩
    have hG := hG.trans hGn
    have hq2 : q < 8 := by omega
    clear hq1 hGn
    go_wp2_with (go_at_call 43; refine (nat_any _ _ _ _ _ _).mono ?_; rintro e wn ⟨rfl, hbn⟩; have hT := hT.below hbn; have hG := only_below hG hbn; clear hbn)
    refine (next_any g _ 8 _ hT (by omega) (by omega)).mono ?_
    rintro e wn7 ⟨r, rfl, hr0, hr1, tn7, htn7, hT, hGn⟩
    have hG := hG.trans hGn
    have hr2 : r < 8 := by omega
    clear hr1 hGn
    go_wp2_with (go_at_call 43; refine (nat_any _ _ _ _ _ _).mono ?_; rintro e wn ⟨rfl, hbn⟩; have hT := hT.below hbn; have hG := only_below hG hbn; clear hbn)
    refine (next_any g _ 8 _ hT (by omega) (by omega)).mono ?_
    rintro e wn8 ⟨z, rfl, hz0, hz1, tn8, htn8, hT, hGn⟩
    have hG := hG.trans hGn
    have hz2 : z < 8 := by omega
    clear hz1 hGn
    go_wp2_with (go_at_call 43; refine (nat_any _ _ _ _ _ _).mono ?_; rintro e wn ⟨rfl, hbn⟩; have hT := hT.below hbn; have hG := only_below hG hbn; clear hbn)
    go_ret
    have u0 := U_ofInt (k) (by omega) (by omega)
    have u9 : U 0#64 = 0 := rfl
    exact idiom_end [⟨1 + p, q, r, z, BitVec.ofInt 64 k⟩] _ (by simp) (by simp [insCells, u9, u0]) (fun x hx => by
      simp only [List.mem_cons, List.not_mem_nil, or_false] at hx
      rcases hx with rfl <;> (refine R0.mk' ?_ ?_ ?_ ?_ ?_ ?_ ?_ <;> dsimp only <;> omega)) (by omega) hT hG
  · go_wp2_with (go_at_call 43; refine (nat_any _ _ _ _ _ _).mono ?_; rintro e wn ⟨rfl, hbn⟩; have hT := hT.below hbn; have hG := only_below hG hbn; clear hbn)
    refine (next_any g _ 8 _ hT (by omega) (by omega)).mono ?_
    rintro e wn5 ⟨p, rfl, hp0, hp1, tn5, htn5, hT, hGn⟩
    have hG := hG.trans hGn
    have hp2 : p < 8 := by omega
    clear hp1 hGn
    go_wp2_with (go_at_call 43; refine (nat_any _ _ _ _ _ _).mono ?_; rintro e wn ⟨rfl, hbn⟩; have hT := hT.below hbn; have hG := only_below hG hbn; clear hbn)
    refine (next_any g _ 4 _ hT (by omega) (by omega)).mono ?_
    rintro e wn6 ⟨q, rfl, hq0, hq1, tn6, htn6, hT, hGn⟩
    have hG := hG.trans hGn
    have hq2 : q < 4 := by omega
    clear hq1 hGn
    have wq : IntKind.u64.wrap ((at_ : Int) + 1 + q) = (at_ : Int) + 1 + q := IntWalk.u64_in _ (by omega)
    go_wp2_with (go_at_call 43; refine (nat_any _ _ _ _ _ _).mono ?_; rintro e wn ⟨rfl, hbn⟩; have hT := hT.below hbn; have hG := only_below hG hbn; clear hbn)
    go_ret
    have u0 := U_ofInt ((at_ : Int) + 1 + q) (by omega) (by omega)
    have u9 : U 0#64 = 0 := rfl
    exact idiom_end [⟨10, p, 0, 0, BitVec.ofInt 64 ((at_ : Int) + 1 + q)⟩] _ (by simp) (by simp [insCells, u9, u0]) (fun x hx => by
      simp only [List.mem_cons, List.not_mem_nil, or_false] at hx
      rcases hx with rfl <;> (refine R0.mk' ?_ ?_ ?_ ?_ ?_ ?_ ?_ <;> dsimp only <;> omega)) (by omega) hT hG
  · go_wp2_with (go_at_call 43; refine (nat_any _ _ _ _ _ _).mono ?_; rintro e wn ⟨rfl, hbn⟩; have hT := hT.below hbn; have hG := only_below hG hbn; clear hbn)
    refine (next_any g _ (nf : Int) _ hT (by omega) (by omega)).mono ?_
    rintro e wn5 ⟨f, rfl, hf0, hf1, tn5, htn5, hT, hGn⟩
    have hG := hG.trans hGn
    obtain ⟨fi, rfl⟩ := Int.eq_ofNat_of_zero_le hf0
    have hf2 : (fi : Int) < (nf : Int) := by omega
    clear hf1 hGn
    have hF5 := hF.only hG (Nat.le_refl _) hFg
    obtain ⟨bf, off, p, rfl, hbf, hp, hc⟩ := hF5.elem (fun _ => rfl) (by omega) (k := fi) (show fi < nf by omega)
    have d0 := hc 0 _ rfl
    rw [Nat.mul_one, Nat.add_zero] at d0
    have hp2 := hfl p (List.mem_of_getElem? hp)
    obtain ⟨hp0, hp1⟩ := hp2
    clear hc hp
    go_wp2_with (go_at_call 43; refine (nat_any _ _ _ _ _ _).mono ?_; rintro e wn ⟨rfl, hbn⟩; have hT := hT.below hbn; have hG := only_below hG hbn; clear hbn)
    refine (next_any g _ (9 - p) _ hT (by omega) (by omega)).mono ?_
    rintro e wn6 ⟨q, rfl, hq0, hq1, tn6, htn6, hT, hGn⟩
    have hG := hG.trans hGn
    have hq2 : q < 9 := by omega
    clear hq1 hGn
    go_wp2_with (go_at_call 43; refine (nat_any _ _ _ _ _ _).mono ?_; rintro e wn ⟨rfl, hbn⟩; have hT := hT.below hbn; have hG := only_below hG hbn; clear hbn)
    go_ret
    have u9 : U 0#64 = 0 := rfl
    exact idiom_end [⟨14, 4 + b, fi, q % 8, 0#64⟩] _ (by simp) (by simp [insCells, u9]) (fun x hx => by
      simp only [List.mem_cons, List.not_mem_nil, or_false] at hx
      rcases hx with rfl <;> (refine R0.mk' ?_ ?_ ?_ ?_ ?_ ?_ ?_ <;> dsimp only <;> omega)) (by omega) hT hG
  · go_wp2_with (go_at_call 43; refine (nat_any _ _ _ _ _ _).mono ?_; rintro e wn ⟨rfl, hbn⟩; have hT := hT.below hbn; have hG := only_below hG hbn; clear hbn)
    go_ret
    have u9 : U 0#64 = 0 := rfl
    exact idiom_end [⟨13, 4 + b, 13, a, 0#64⟩, ⟨2, a, 4 + b, 0, 0#64⟩] _ (by simp) (by simp [insCells, u9]) (fun x hx => by
      simp only [List.mem_cons, List.not_mem_nil, or_false] at hx
      rcases hx with rfl | rfl <;> (refine R0.mk' ?_ ?_ ?_ ?_ ?_ ?_ ?_ <;> dsimp only <;> omega)) (by omega) hT hG
  · go_wp2_with (go_at_call 43; refine (nat_any _ _ _ _ _ _).mono ?_; rintro e wn ⟨rfl, hbn⟩; have hT := hT.below hbn; have hG := only_below hG hbn; clear hbn)
    go_ret
    have u0 := U_ofInt (k) (by omega) (by omega)
    have u9 : U 0#64 = 0 := rfl
    exact idiom_end [⟨1, 7, 0, 0, BitVec.ofInt 64 k⟩, ⟨13, a, 6, 6, 0#64⟩, ⟨15, a, 0, 0, 0#64⟩] _ (by simp) (by simp [insCells, u9, u0]) (fun x hx => by
      simp only [List.mem_cons, List.not_mem_nil, or_false] at hx
      rcases hx with rfl | rfl | rfl <;> (refine R0.mk' ?_ ?_ ?_ ?_ ?_ ?_ ?_ <;> dsimp only <;> omega)) (by omega) hT hG
end Go.Proofs.Ytpmdgmgcbminaaa

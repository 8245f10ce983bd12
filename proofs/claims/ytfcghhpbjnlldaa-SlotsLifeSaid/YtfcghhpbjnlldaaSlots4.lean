/- The contracts of slots.check and Get, and of the reference of Get. PRINTED BY A PROGRAM (mk_slots4.py). -/
import Derived.Test.YtfcghhpbjnlldaaSlots3
namespace Go.Proofs.Ytfcghhpbjnlldaa
open Go.RowKit Words

/-- what a handle's examination says -/
def checkE (x : Ent) (g : Int) : Int := if g < 1 ∨ x.gen < g then 6 else if g < x.gen ∨ x.live = false then 8 else 0
def entAt (l : List Ent) (i : Int) : Option Ent := if i < 0 then none else l[i.toNat]?
def checkW (l : List Ent) (i g : Int) : Int := if validT l = false then 1 else match entAt l i with
  | none => 6
  | some x => checkE x g
/-- what a handle refers to -/
def getW (l : List Ent) (i g : Int) : BitVec 64 × Int := if checkW l i g = 0 then (((entAt l i).map Ent.ref).getD 0#64, 0) else (0#64, checkW l i g)
def retW (p : BitVec 64 × Int) : Ending := .returned (.tuple #[.int .u64 (U p.1), .int .i64 p.2])
theorem getW_of {l : List Ent} {i g e : Int} (h : checkW l i g = e) (h0 : e ≠ 0) : getW l i g = (0#64, e) := by unfold getW; rw [if_neg (by rw [h]; exact h0), h]
theorem getW_ok {l : List Ent} {i g : Int} {x : Ent} (h : checkW l i g = 0) (hx : entAt l i = some x) : getW l i g = (x.ref, 0) := by unfold getW; rw [if_pos h, hx]; rfl

set_option maxHeartbeats 2000000 in
theorem check_any (A : Option Addr) (n c : Nat) (l : List Ent) (i g : Int) (w : World) (h : Reads w w.heap.size 3 A n c (l.flatMap entCells)) :
    Calls Try.prog 29 #[tabV A n c, .int .i64 i, .int .i64 g] w fun e w' => e = .returned (.int .i64 (checkW l i g)) ∧ Below w.heap.size w w' := by
  have hlen := h.length entCells_len (by omega)
  have hcap := h.cap
  have hle := h.le
  unfold maxLen at hcap
  have hW := tab_alloc w A n c
  have c0 : (w.alloc (.cells #[.slice A n c] 24)).cell? ⟨w.heap.size, 0, none⟩ = some (.slice A n c) := (Blk.new w #[.slice A n c] 24).cell 0 _ rfl
  have ha := (h.below hW).more (B' := (w.alloc (.cells #[.slice A n c] 24)).heap.size) (by simp)
  by_cases hv : validT l = true
  · have HV := Lib.hid hv
    by_cases hi : 0 ≤ i ∧ i < n
    · obtain ⟨hi0, hi1⟩ := hi
      obtain ⟨k, rfl⟩ := Int.eq_ofNat_of_zero_le hi0
      have hk : k < n := by omega
      obtain ⟨b, off, x, rfl, hbb, hx, hc⟩ := h.elem entCells_len (by omega) hk
      have HA := Lib.hid (show entAt l k = some x by unfold entAt; rw [if_neg (by omega), Int.toNat_natCast, hx])
      have HC := Lib.hid (show checkW l k g = checkE x g by unfold checkW; rw [if_neg (by rw [hv]; decide), HA.out])
      have d0 := hc 0 _ rfl
      have d1 := hc 1 _ rfl
      have d2 := hc 2 _ rfl
      rw [Nat.add_zero] at d0
      have hd1 : ((n : Int) ≤ (k : Int)) = False := by simp; omega
      clear hv hc hx hlen
      obtain ⟨gen, r, lv⟩ := x
      dsimp only at d0 d1 d2
      by_cases t0 : g < 1
      · have HE := Lib.hid (show checkE ⟨gen, r, lv⟩ g = 6 by simp [checkE, t0])
        go_enter Try.func29, Try.ntmps29
        go_wp2_with (go_at_call 10; refine (valid_any _ _ _ _ _ ha).mono ?_; rintro e w1 ⟨rfl, hb⟩; rw [HV.out]; have q0 := keep_cell hb c0; have e0 := keep_cell hb (keep_cell hW d0); have e1 := keep_cell hb (keep_cell hW d1); have e2 := keep_cell hb (keep_cell hW d2))
        go_ret
        exact ⟨by rw [HC.out, HE.out]; rfl, hW.trans (hb.mono (by simp))⟩
      by_cases t1 : gen < g
      · have HE := Lib.hid (show checkE ⟨gen, r, lv⟩ g = 6 by simp [checkE, t1])
        go_enter Try.func29, Try.ntmps29
        go_wp2_with (go_at_call 10; refine (valid_any _ _ _ _ _ ha).mono ?_; rintro e w1 ⟨rfl, hb⟩; rw [HV.out]; have q0 := keep_cell hb c0; have e0 := keep_cell hb (keep_cell hW d0); have e1 := keep_cell hb (keep_cell hW d1); have e2 := keep_cell hb (keep_cell hW d2))
        go_ret
        exact ⟨by rw [HC.out, HE.out]; rfl, hW.trans (hb.mono (by simp))⟩
      by_cases t2 : g < gen
      · have HE := Lib.hid (show checkE ⟨gen, r, lv⟩ g = 8 by simp [checkE, t0, t1, t2])
        go_enter Try.func29, Try.ntmps29
        go_wp2_with (go_at_call 10; refine (valid_any _ _ _ _ _ ha).mono ?_; rintro e w1 ⟨rfl, hb⟩; rw [HV.out]; have q0 := keep_cell hb c0; have e0 := keep_cell hb (keep_cell hW d0); have e1 := keep_cell hb (keep_cell hW d1); have e2 := keep_cell hb (keep_cell hW d2))
        go_ret
        exact ⟨by rw [HC.out, HE.out]; rfl, hW.trans (hb.mono (by simp))⟩
      cases lv
      · have HE := Lib.hid (show checkE ⟨gen, r, false⟩ g = 8 by simp [checkE, t0, t1, t2])
        go_enter Try.func29, Try.ntmps29
        go_wp2_with (go_at_call 10; refine (valid_any _ _ _ _ _ ha).mono ?_; rintro e w1 ⟨rfl, hb⟩; rw [HV.out]; have q0 := keep_cell hb c0; have e0 := keep_cell hb (keep_cell hW d0); have e1 := keep_cell hb (keep_cell hW d1); have e2 := keep_cell hb (keep_cell hW d2))
        go_ret
        exact ⟨by rw [HC.out, HE.out]; rfl, hW.trans (hb.mono (by simp))⟩
      · have HE := Lib.hid (show checkE ⟨gen, r, true⟩ g = 0 by simp [checkE, t0, t1, t2])
        go_enter Try.func29, Try.ntmps29
        go_wp2_with (go_at_call 10; refine (valid_any _ _ _ _ _ ha).mono ?_; rintro e w1 ⟨rfl, hb⟩; rw [HV.out]; have q0 := keep_cell hb c0; have e0 := keep_cell hb (keep_cell hW d0); have e1 := keep_cell hb (keep_cell hW d1); have e2 := keep_cell hb (keep_cell hW d2))
        go_ret
        exact ⟨by rw [HC.out, HE.out]; rfl, hW.trans (hb.mono (by simp))⟩
    · have hno : entAt l i = none := by
        unfold entAt
        by_cases h0 : i < 0
        · rw [if_pos h0]
        · rw [if_neg h0, List.getElem?_eq_none (by omega)]
      have HC := Lib.hid (show checkW l i g = 6 by unfold checkW; rw [if_neg (by rw [hv]; decide), hno])
      clear hv hno
      by_cases h0 : i < 0
      · have hd0 : decide (i < 0) = true := decide_eq_true h0
        clear hlen
        go_enter Try.func29, Try.ntmps29
        go_wp2_with (go_at_call 10; refine (valid_any _ _ _ _ _ ha).mono ?_; rintro e w1 ⟨rfl, hb⟩; rw [HV.out]; have q0 := keep_cell hb c0)
        go_ret
        exact ⟨by rw [HC.out]; rfl, hW.trans (hb.mono (by simp))⟩
      · have hd0 : decide ((n : Int) ≤ i) = true := by simp; omega
        clear hlen
        go_enter Try.func29, Try.ntmps29
        go_wp2_with (go_at_call 10; refine (valid_any _ _ _ _ _ ha).mono ?_; rintro e w1 ⟨rfl, hb⟩; rw [HV.out]; have q0 := keep_cell hb c0)
        go_ret
        exact ⟨by rw [HC.out]; rfl, hW.trans (hb.mono (by simp))⟩
  · have HC := Lib.hid (show checkW l i g = 1 by unfold checkW; rw [if_pos (by simpa using hv)])
    simp only [Bool.not_eq_true] at hv
    have HV := Lib.hid hv
    clear hv
    skip
    clear hlen
    go_enter Try.func29, Try.ntmps29
    go_wp2_with (go_at_call 10; refine (valid_any _ _ _ _ _ ha).mono ?_; rintro e w1 ⟨rfl, hb⟩; rw [HV.out]; have q0 := keep_cell hb c0)
    go_ret
    exact ⟨by rw [HC.out]; rfl, hW.trans (hb.mono (by simp))⟩

set_option maxHeartbeats 2000000 in
theorem rget_any (A : Option Addr) (n c : Nat) (l : List Ent) (i g : Int) (w : World) (h : Reads w w.heap.size 3 A n c (l.flatMap entCells)) :
    Calls Try.prog 20 #[tabV A n c, .int .i64 i, .int .i64 g] w fun e w' => e = retW (getW l i g) ∧ Below w.heap.size w w' := by
  have hlen := h.length entCells_len (by omega)
  have hcap := h.cap
  have hle := h.le
  unfold maxLen at hcap
  have hW := tab_alloc w A n c
  have c0 : (w.alloc (.cells #[.slice A n c] 24)).cell? ⟨w.heap.size, 0, none⟩ = some (.slice A n c) := (Blk.new w #[.slice A n c] 24).cell 0 _ rfl
  have ha := (h.below hW).more (B' := (w.alloc (.cells #[.slice A n c] 24)).heap.size) (by simp)
  by_cases hv : validT l = true
  · have HV := Lib.hid hv
    by_cases hi : 0 ≤ i ∧ i < n
    · obtain ⟨hi0, hi1⟩ := hi
      obtain ⟨k, rfl⟩ := Int.eq_ofNat_of_zero_le hi0
      have hk : k < n := by omega
      obtain ⟨b, off, x, rfl, hbb, hx, hc⟩ := h.elem entCells_len (by omega) hk
      have HA := Lib.hid (show entAt l k = some x by unfold entAt; rw [if_neg (by omega), Int.toNat_natCast, hx])
      have HC := Lib.hid (show checkW l k g = checkE x g by unfold checkW; rw [if_neg (by rw [hv]; decide), HA.out])
      have d0 := hc 0 _ rfl
      have d1 := hc 1 _ rfl
      have d2 := hc 2 _ rfl
      rw [Nat.add_zero] at d0
      have hd1 : ((n : Int) ≤ (k : Int)) = False := by simp; omega
      clear hv hc hx hlen
      obtain ⟨gen, r, lv⟩ := x
      dsimp only at d0 d1 d2
      by_cases t0 : g < 1
      · have HE := Lib.hid (show checkE ⟨gen, r, lv⟩ g = 6 by simp [checkE, t0])
        go_enter Try.func20, Try.ntmps20
        go_wp2_with (go_at_call 11; refine (rvalid_any _ _ _ _ _ ha).mono ?_; rintro e w1 ⟨rfl, hb⟩; rw [HV.out]; have q0 := keep_cell hb c0; have e0 := keep_cell hb (keep_cell hW d0); have e1 := keep_cell hb (keep_cell hW d1); have e2 := keep_cell hb (keep_cell hW d2))
        go_ret2
        exact ⟨by rw [getW_of (HC.out.trans HE.out) (by decide)]; rfl, hW.trans (hb.mono (by simp))⟩
      by_cases t1 : gen < g
      · have HE := Lib.hid (show checkE ⟨gen, r, lv⟩ g = 6 by simp [checkE, t1])
        go_enter Try.func20, Try.ntmps20
        go_wp2_with (go_at_call 11; refine (rvalid_any _ _ _ _ _ ha).mono ?_; rintro e w1 ⟨rfl, hb⟩; rw [HV.out]; have q0 := keep_cell hb c0; have e0 := keep_cell hb (keep_cell hW d0); have e1 := keep_cell hb (keep_cell hW d1); have e2 := keep_cell hb (keep_cell hW d2))
        go_ret2
        exact ⟨by rw [getW_of (HC.out.trans HE.out) (by decide)]; rfl, hW.trans (hb.mono (by simp))⟩
      by_cases t2 : g < gen
      · have HE := Lib.hid (show checkE ⟨gen, r, lv⟩ g = 8 by simp [checkE, t0, t1, t2])
        go_enter Try.func20, Try.ntmps20
        go_wp2_with (go_at_call 11; refine (rvalid_any _ _ _ _ _ ha).mono ?_; rintro e w1 ⟨rfl, hb⟩; rw [HV.out]; have q0 := keep_cell hb c0; have e0 := keep_cell hb (keep_cell hW d0); have e1 := keep_cell hb (keep_cell hW d1); have e2 := keep_cell hb (keep_cell hW d2))
        go_ret2
        exact ⟨by rw [getW_of (HC.out.trans HE.out) (by decide)]; rfl, hW.trans (hb.mono (by simp))⟩
      cases lv
      · have HE := Lib.hid (show checkE ⟨gen, r, false⟩ g = 8 by simp [checkE, t0, t1, t2])
        go_enter Try.func20, Try.ntmps20
        go_wp2_with (go_at_call 11; refine (rvalid_any _ _ _ _ _ ha).mono ?_; rintro e w1 ⟨rfl, hb⟩; rw [HV.out]; have q0 := keep_cell hb c0; have e0 := keep_cell hb (keep_cell hW d0); have e1 := keep_cell hb (keep_cell hW d1); have e2 := keep_cell hb (keep_cell hW d2))
        go_ret2
        exact ⟨by rw [getW_of (HC.out.trans HE.out) (by decide)]; rfl, hW.trans (hb.mono (by simp))⟩
      · have HE := Lib.hid (show checkE ⟨gen, r, true⟩ g = 0 by simp [checkE, t0, t1, t2])
        go_enter Try.func20, Try.ntmps20
        go_wp2_with (go_at_call 11; refine (rvalid_any _ _ _ _ _ ha).mono ?_; rintro e w1 ⟨rfl, hb⟩; rw [HV.out]; have q0 := keep_cell hb c0; have e0 := keep_cell hb (keep_cell hW d0); have e1 := keep_cell hb (keep_cell hW d1); have e2 := keep_cell hb (keep_cell hW d2))
        go_ret2
        exact ⟨by rw [getW_ok (HC.out.trans HE.out) HA.out]; rfl, hW.trans (hb.mono (by simp))⟩
    · have hno : entAt l i = none := by
        unfold entAt
        by_cases h0 : i < 0
        · rw [if_pos h0]
        · rw [if_neg h0, List.getElem?_eq_none (by omega)]
      have HC := Lib.hid (show checkW l i g = 6 by unfold checkW; rw [if_neg (by rw [hv]; decide), hno])
      clear hv hno
      by_cases h0 : i < 0
      · have hd0 : decide (i < 0) = true := decide_eq_true h0
        clear hlen
        go_enter Try.func20, Try.ntmps20
        go_wp2_with (go_at_call 11; refine (rvalid_any _ _ _ _ _ ha).mono ?_; rintro e w1 ⟨rfl, hb⟩; rw [HV.out]; have q0 := keep_cell hb c0)
        go_ret2
        exact ⟨by rw [getW_of HC.out (by decide)]; rfl, hW.trans (hb.mono (by simp))⟩
      · have hd0 : decide ((n : Int) ≤ i) = true := by simp; omega
        clear hlen
        go_enter Try.func20, Try.ntmps20
        go_wp2_with (go_at_call 11; refine (rvalid_any _ _ _ _ _ ha).mono ?_; rintro e w1 ⟨rfl, hb⟩; rw [HV.out]; have q0 := keep_cell hb c0)
        go_ret2
        exact ⟨by rw [getW_of HC.out (by decide)]; rfl, hW.trans (hb.mono (by simp))⟩
  · have HC := Lib.hid (show checkW l i g = 1 by unfold checkW; rw [if_pos (by simpa using hv)])
    simp only [Bool.not_eq_true] at hv
    have HV := Lib.hid hv
    clear hv
    skip
    clear hlen
    go_enter Try.func20, Try.ntmps20
    go_wp2_with (go_at_call 11; refine (rvalid_any _ _ _ _ _ ha).mono ?_; rintro e w1 ⟨rfl, hb⟩; rw [HV.out]; have q0 := keep_cell hb c0)
    go_ret2
    exact ⟨by rw [getW_of HC.out (by decide)]; rfl, hW.trans (hb.mono (by simp))⟩


theorem get_any (A : Option Addr) (n c : Nat) (l : List Ent) (i g : Int) (w : World) (h : Reads w w.heap.size 3 A n c (l.flatMap entCells)) :
    Calls Try.prog 17 #[tabV A n c, .int .i64 i, .int .i64 g] w fun e w' => e = retW (getW l i g) ∧ Below w.heap.size w w' := by
  have hlen := h.length entCells_len (by omega)
  have hcap := h.cap
  have hle := h.le
  unfold maxLen at hcap
  have hW := tab_alloc w A n c
  have c0 : (w.alloc (.cells #[.slice A n c] 24)).cell? ⟨w.heap.size, 0, none⟩ = some (.slice A n c) := (Blk.new w #[.slice A n c] 24).cell 0 _ rfl
  have ha := (h.below hW).more (B' := (w.alloc (.cells #[.slice A n c] 24)).heap.size) (by simp)
  by_cases h0 : checkW l i g = 0
  · have hx : ∃ x, entAt l i = some x := by
      unfold checkW at h0
      split at h0
      · cases h0
      · split at h0
        · cases h0
        · exact ⟨_, by assumption⟩
    obtain ⟨x, hx⟩ := hx
    have HG := Lib.hid (getW_ok h0 hx)
    unfold entAt at hx
    split at hx
    · cases hx
    · obtain ⟨k, rfl⟩ := Int.eq_ofNat_of_zero_le (show 0 ≤ i by omega)
      rw [Int.toNat_natCast] at hx
      have hk : k < n := by rw [← hlen]; exact (List.getElem?_eq_some_iff.1 hx).1
      obtain ⟨b, off, x', rfl, hbb, hx', hc⟩ := h.elem entCells_len (by omega) hk
      obtain rfl : x' = x := Option.some.inj (hx'.symm.trans hx)
      have d1 := hc 1 _ rfl
      have HC := Lib.hid h0
      have k0 : (0 : Int) ≤ (k : Int) := by omega
      have k1 : (k : Int) < (n : Int) := by omega
      clear hx hx' hc h0 hlen
      go_enter Try.func17, Try.ntmps17
      go_wp2_with (go_at_call 29; refine (check_any _ _ _ _ _ _ _ ha).mono ?_; rw [HC.out]; rintro e w1 ⟨rfl, hb⟩; have q0 := keep_cell hb c0; have e1 := keep_cell hb (keep_cell hW d1))
      go_ret2
      exact ⟨by rw [HG.out]; rfl, hW.trans (hb.mono (by simp))⟩
  · have HG := Lib.hid (getW_of rfl h0)
    obtain ⟨er, her⟩ : ∃ er, checkW l i g = er := ⟨_, rfl⟩
    rw [her] at HG h0
    have h0' : (er != 0) = true := by simp [h0]
    have HC := Lib.hid her
    clear her h0
    go_enter Try.func17, Try.ntmps17
    go_wp2_with (go_at_call 29; refine (check_any _ _ _ _ _ _ _ ha).mono ?_; rw [HC.out]; rintro e w1 ⟨rfl, hb⟩; have q0 := keep_cell hb c0)
    go_ret2
    exact ⟨by rw [HG.out]; rfl, hW.trans (hb.mono (by simp))⟩
end Go.Proofs.Ytfcghhpbjnlldaa

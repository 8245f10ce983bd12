/- How made programs are made: pickKind. -/
import Derived.Test.YtnnchinpmnpfiaaDoorKG
import Derived.Test.YtnnchinpmnpfiaaDoorKH
namespace Go.Proofs.YtnnchinpmnpfiaaDoor
open Go.ChangeShapes Go.WideShapes Go.RowKit Words

/-- what is so of each function that is made -/
structure HeadOk (p : Int) (locs : List Int) (r : Int) : Prop where
  p0 : 0 ≤ p
  p2 : p ≤ 2
  r12 : r = 1 ∨ r = 2
  n4 : 4 ≤ locs.length
  n7 : locs.length ≤ 7
  typed : ∀ z ∈ locs, z = 1 ∨ z = 2
  at3 : locs[3]? = some 1
  at2 : locs[2]? = some 2
theorem HeadOk.has {p r : Int} {locs : List Int} (h : HeadOk p locs r) {k : Int} (hk : k = 1 ∨ k = 2) : ∃ i : Nat, locs[i]? = some k := by
  rcases hk with rfl | rfl
  · exact ⟨3, h.at3⟩
  · exact ⟨2, h.at2⟩
/-- a slice that does not lie in block g -/
def FarA (g n : Nat) (A : Option Addr) : Prop := ∀ b off, 0 < n → A = some ⟨b, off, none⟩ → b ≠ g
theorem Reads.tape {w w' : World} {s n c g : Nat} {A : Option Addr} {xs : List Value} (hr : Reads w w.heap.size s A n c xs) (hf : FarA g n A) (h : w.grownBy w' (some g)) : Reads w' w'.heap.size s A n c xs :=
  hr.row h fun b off hn e => by have := hf b off hn e; simp; exact this
theorem Blk.onlyN {w w' : World} {g b : Nat} {t : TypeId} {cs : Array Value} (h : Blk w b t cs) (ho : w.grownBy w' (some g)) (hne : b ≠ g) : Blk w' b t cs := (ho.block b h.lt (by simp; omega)).trans h
theorem only_refl {w : World} {g : Nat} : w.grownBy w (some g) := World.grownBy.refl _ _
/-- only the tape's block has turned -/
theorem NextW.more {w w1 w2 : World} {g t t1 : Nat} (h : w.grownBy w1 (some g)) (ht : t1 ≤ t) (h2 : NextW w1 g t1 w2) : ∃ t', t' ≤ t + 1 ∧ TapeAt w2 g t' ∧ w.grownBy w2 (some g) := by
  obtain ⟨t', h3, h4, h5⟩ := h2
  exact ⟨t', by omega, h4, h.trans h5⟩
theorem cover {gl : List Int} {kind : Int} {L k : Nat} (hL : gl.length = L) (hk : k < L) (hno : ∀ j : Nat, j < L → ∀ z, gl[(k + j) % L]? = some z → z ≠ kind) (i : Nat) (hi : gl[i]? = some kind) : False := by
  have hil : i < L := by rw [← hL]; exact (List.getElem?_eq_some_iff.1 hi).1
  by_cases h : k ≤ i
  · refine hno (i - k) (by omega) kind ?_ rfl
    rw [show k + (i - k) = i by omega, Nat.mod_eq_of_lt hil]
    exact hi
  · refine hno (i + L - k) (by omega) kind ?_ rfl
    rw [show k + (i + L - k) = i + L by omega, Nat.add_mod_right, Nat.mod_eq_of_lt hil]
    exact hi
set_option linter.unusedSimpArgs false in
set_option linter.unusedVariables false in
set_option maxRecDepth 100000 in
set_option maxHeartbeats 4000000 in
/-- pickKind: a local of the kind, if there is one -/
theorem pick_any (g t : Nat) (p : Int) (A : Option Addr) (n c : Nat) (r : Int) (B : Option Addr) (m d : Nat) (gl : List Int) (kind : Int) (w : World) (hT : TapeAt w g t) (ht : t ≤ 900000) (hA : Reads w w.heap.size 1 A n c (gl.flatMap intCells)) (hF : FarA g n A) (hn : 0 < n) (hn7 : n ≤ 7) (hh : ∃ i : Nat, gl[i]? = some kind) :
    Calls Tryd.prog 57 #[.pointer (some ⟨g, 0, none⟩), fnV p A n c r B m d, .int .i64 kind] w fun e w' => ∃ i : Nat, e = .returned (.int .i64 (i : Int)) ∧ gl[i]? = some kind ∧ NextW w g t w' := by
  have hlen := hA.length (f := intCells) (fun _ => rfl) (by omega)
  have hgl := hT.lt
  have hB0 : Below w.heap.size w (w.alloc (.cells #[.int .i64 p, .slice A n c, .int .i64 r, .slice B m d] 44)) := keep_alloc (Below.refl _ _) _
  have X0 := Blk.new w #[.int .i64 p, .slice A n c, .int .i64 r, .slice B m d] 44
  have hT1 := hT.below hB0
  have hA1 := hA.belowU hB0
  have HN := Lib.hid (next_any g t (n : Int) _ hT1 (by omega) (by omega))
  have HL := Lib.hid hlen
  have HH := Lib.hid hh
  have y1 := X0.cell 1 _ rfl
  have hOB := only_refl_below g hB0
  clear hlen hh hT hA
  go_enter Tryd.func57, Tryd.ntmps57
  go_wp2_with fail
  refine HN.out.mono ?_
  clear HN
  rintro e w2 ⟨k0, rfl, hk0, hkn, t2, ht2, hT2, hg2⟩
  have X2 := X0.onlyN hg2 (by omega)
  have hA2 := hA1.tape hF hg2
  have hG := hOB.trans hg2
  obtain ⟨k, rfl⟩ : ∃ k : Nat, k0 = k := ⟨k0.toNat, by omega⟩
  have hkn' : k < n := by omega
  obtain ⟨bx, hbx⟩ : ∃ bx, w.heap.size = bx := ⟨_, rfl⟩
  rw [hbx] at X2 ⊢
  have x1 := X2.cell 1 _ rfl
  clear X0 hA1 hT1 hB0 y1 hOB hbx hk0 hkn
  go_wp2_with fail
  go_loop [8, 9] (fun x _ => ∃ j : Nat, j ≤ n ∧ x = .int .i64 j ∧ ∀ i : Nat, i < j → ∀ z, gl[(k + i) % n]? = some z → z ≠ kind) (fun x _ => n - (intOf x).toNat)
  case atStart => exact ⟨0, Nat.zero_le _, rfl, fun i hi => by omega⟩
  case round =>
    obtain ⟨j, hj, rfl, hno⟩ := hrel
    have HNO := Lib.hid hno
    clear hno
    by_cases hlt : j < n
    · have hmod : (k + j) % n < n := Nat.mod_lt _ hn
      obtain ⟨q, hq⟩ : ∃ q, (k + j) % n = q := ⟨_, rfl⟩
      have HQ := Lib.hid hq
      rw [hq] at hmod
      obtain ⟨b0, off, z, hAe, hbb, hz, hc⟩ := hA2.elem (f := intCells) (fun _ => rfl) (by omega) hmod
      have z0 := hc 0 _ rfl
      rw [Nat.mul_one, Nat.add_zero] at z0
      have HZ := Lib.hid hz
      have hd : decide ((j : Int) < (n : Int)) = true := decide_eq_true (by omega)
      have hd2 : decide (j < n) = true := decide_eq_true hlt
      have hwa : IntKind.i64.wrap ((k : Int) + (j : Int)) = (k : Int) + (j : Int) := IntWalk.i64_in _ (by omega)
      have hwb : IntKind.i64.wrap ((j : Int) + 1) = (j : Int) + 1 := IntWalk.i64_in _ (by omega)
      have hmq : ((k : Int) + (j : Int)) % (n : Int) = (q : Int) := by rw [← hq, Int.natCast_emod, Int.natCast_add]
      have hwq : IntKind.i64.wrap (q : Int) = (q : Int) := IntWalk.i64_in _ (by omega)
      have hz1 : ((n : Int) == 0) = false := by simp; omega
      have hq0 : (0 : Int) ≤ (q : Int) := by omega
      have hq1 : (q : Int) < (n : Int) := by omega
      subst hAe
      have HLT := Lib.hid hlt
      clear hz hc hq hlt
      by_cases hzk : z = kind
      · have s1 : (z == kind) = true := by simp [hzk]
        have HR := Lib.hid (show gl[q]? = some kind from by rw [HZ.out, hzk])
        clear hzk
        go_wp2_with fail
        go_ret
        exact ⟨q, rfl, HR.out, t2, by omega, hT2, hG⟩
      · have s1 : (z == kind) = false := by simp [hzk]
        have HNE := Lib.hid hzk
        clear hzk
        go_wp2_with fail
        go_round
        case rel =>
          refine ⟨j + 1, by have := HLT.out; omega, by go_num, fun i hi z' hz' => ?_⟩
          by_cases hij : i < j
          · exact HNO.out i hij z' hz'
          · obtain rfl : i = j := by omega
            rw [HQ.out, HZ.out] at hz'
            cases hz'
            exact HNE.out
        case measure => have := HLT.out; simp [intOf]; omega
    · exfalso
      obtain ⟨i, hi⟩ := HH.out
      exact cover HL.out hkn' (fun j' hj' z hz => HNO.out j' (by omega) z hz) i hi
end Go.Proofs.YtnnchinpmnpfiaaDoor
/- How made programs are made: start. -/
namespace Go.Proofs.YtnnchinpmnpfiaaDoor
open Go.ChangeShapes Go.WideShapes Go.RowKit Words

/-- the kinds follow each other from b on -/
def Follows (gl kl : List Int) (b : Nat) : Prop := b + kl.length ≤ gl.length ∧ ∀ j : Nat, j < kl.length → gl[b + j]? = kl[j]?
set_option linter.unusedSimpArgs false in
set_option linter.unusedVariables false in
set_option maxRecDepth 100000 in
set_option maxHeartbeats 4000000 in
/-- start: where the kinds follow each other; -1: nowhere -/
theorem start_any (g t : Nat) (p : Int) (A : Option Addr) (n c : Nat) (r : Int) (B : Option Addr) (m d : Nat) (gl : List Int) (KA : Option Addr) (kn kc : Nat) (kl : List Int) (w : World) (hT : TapeAt w g t) (ht : t ≤ 900000) (hA : Reads w w.heap.size 1 A n c (gl.flatMap intCells)) (hF : FarA g n A) (hn : 0 < n) (hn7 : n ≤ 7)
    (hK : Reads w w.heap.size 1 KA kn kc (kl.flatMap intCells)) (hKF : FarA g kn KA) (hkn : kn ≤ 7) :
    Calls Tryd.prog 71 #[.pointer (some ⟨g, 0, none⟩), fnV p A n c r B m d, .slice KA kn kc] w fun e w' => ∃ i : Int, e = .returned (.int .i64 i) ∧ (i = -1 ∨ ∃ b : Nat, i = b ∧ Follows gl kl b) ∧ NextW w g t w' := by
  have hlen := hA.length (f := intCells) (fun _ => rfl) (by omega)
  have hklen := hK.length (f := intCells) (fun _ => rfl) (by omega)
  have hgl := hT.lt
  have hB0 : Below w.heap.size w (w.alloc (.cells #[.int .i64 p, .slice A n c, .int .i64 r, .slice B m d] 44)) := keep_alloc (Below.refl _ _) _
  have X0 := Blk.new w #[.int .i64 p, .slice A n c, .int .i64 r, .slice B m d] 44
  have hT1 := hT.below hB0
  have hA1 := hA.belowU hB0
  have hK1 := hK.belowU hB0
  have HN := Lib.hid (next_any g t (n : Int) _ hT1 (by omega) (by omega))
  have HL := Lib.hid hlen
  have HKL := Lib.hid hklen
  have y1 := X0.cell 1 _ rfl
  have hOB := only_refl_below g hB0
  clear hlen hklen hT hA hK
  go_enter Tryd.func71, Tryd.ntmps71
  go_wp2_with fail
  refine HN.out.mono ?_
  clear HN
  rintro e w2 ⟨k0, rfl, hk0, hkn0, t2, ht2, hT2, hg2⟩
  have X2 := X0.onlyN hg2 (by omega)
  have hA2 := hA1.tape hF hg2
  have hK2 := hK1.tape hKF hg2
  have hG := hOB.trans hg2
  obtain ⟨k, rfl⟩ : ∃ k : Nat, k0 = k := ⟨k0.toNat, by omega⟩
  have hkn' : k < n := by omega
  obtain ⟨bx, hbx⟩ : ∃ bx, w.heap.size = bx := ⟨_, rfl⟩
  rw [hbx] at X2 ⊢
  have HFIN := Lib.hid (show ∀ w', Below w2.heap.size w2 w' → NextW w g t w' from fun w' hb => ⟨t2, by omega, hT2.below hb, only_below hG hb⟩)
  clear X0 hA1 hK1 hT1 hB0 y1 hOB hbx hk0 hkn0
  go_wp2_with fail
  go_loopw [8, 9, 10, 11] (fun x _ _ _ wq => ∃ j : Nat, j ≤ n ∧ x = .int .i64 j ∧ Below w2.heap.size w2 wq) (fun x _ _ _ _ => n - (intOf x).toNat)
  case atStart => exact ⟨0, Nat.zero_le _, rfl, Below.refl _ _⟩
  case round =>
    obtain ⟨j, hj, rfl, hb⟩ := hrel
    have Xr := X2.below hb
    have x1 := Xr.cell 1 _ rfl
    by_cases hlt : j < n
    · have hmod : (k + j) % n < n := Nat.mod_lt _ hn
      obtain ⟨q, hq⟩ : ∃ q, (k + j) % n = q := ⟨_, rfl⟩
      rw [hq] at hmod
      have hd : decide ((j : Int) < (n : Int)) = true := decide_eq_true (by omega)
      have hd2 : decide (j < n) = true := decide_eq_true hlt
      have hwa : IntKind.i64.wrap ((k : Int) + (j : Int)) = (k : Int) + (j : Int) := IntWalk.i64_in _ (by omega)
      have hwb : IntKind.i64.wrap ((j : Int) + 1) = (j : Int) + 1 := IntWalk.i64_in _ (by omega)
      have hmq : ((k : Int) + (j : Int)) % (n : Int) = (q : Int) := by rw [← hq, Int.natCast_emod, Int.natCast_add]
      have hwq : IntKind.i64.wrap (q : Int) = (q : Int) := IntWalk.i64_in _ (by omega)
      have hwk : IntKind.i64.wrap ((q : Int) + (kn : Int)) = (q : Int) + (kn : Int) := IntWalk.i64_in _ (by omega)
      have hz1 : ((n : Int) == 0) = false := by simp; omega
      obtain ⟨ok0, hok⟩ : ∃ ok0 : Bool, decide ((q : Int) + (kn : Int) ≤ (n : Int)) = ok0 := ⟨_, rfl⟩
      have hok' : decide (q + kn ≤ n) = ok0 := by rw [← hok]; exact decide_eq_decide.2 (by omega)
      have HOK := Lib.hid (show ok0 = true → q + kn ≤ n from fun h => of_decide_eq_true (hok'.trans h))
      have HLT := Lib.hid hlt
      clear hlt hq
      go_wp2_with fail
      clear hok hok'
      go_loopw [10, 11] (fun o x wq => ∃ (i : Nat) (ok : Bool), i ≤ kn ∧ x = .int .i64 i ∧ o = .bool ok ∧ (ok = true → q + kn ≤ n ∧ ∀ j' : Nat, j' < i → gl[q + j']? = kl[j']?) ∧ Below w2.heap.size w2 wq) (fun _ x _ => kn - (intOf x).toNat)
      case atStart => exact ⟨0, ok0, Nat.zero_le _, rfl, rfl, fun h => ⟨HOK.out h, fun j' hj' => by omega⟩, hb⟩
      case round =>
        obtain ⟨i, ok, hi, rfl, rfl, hst, hb4⟩ := hrel
        have HST := Lib.hid hst
        have X4 := X2.below hb4
        have x4 := X4.cell 1 _ rfl
        clear hst x1
        cases ok with
        | false =>
          go_wp2_with fail
          go_roundw
          case rel => exact ⟨j + 1, by have := HLT.out; omega, by go_num, hb4⟩
          case measure => have := HLT.out; simp [intOf]; omega
        | true =>
          by_cases hil : i < kn
          · have hqn := (HST.out rfl).1
            obtain ⟨b0, off, z, hAe, hbb, hz, hc⟩ := (hA2.belowU hb4).elem (f := intCells) (fun _ => rfl) (by omega) (show q + i < n by omega)
            obtain ⟨b1, off1, z', hKe, hbb1, hz', hc'⟩ := (hK2.belowU hb4).elem (f := intCells) (fun _ => rfl) (by omega) hil
            have z0 := hc 0 _ rfl
            have z1 := hc' 0 _ rfl
            rw [Nat.mul_one, Nat.add_zero] at z0 z1
            have HZ := Lib.hid hz
            have HZ' := Lib.hid hz'
            have e1 : decide ((i : Int) < (kn : Int)) = true := decide_eq_true (by omega)
            have e2 : decide (i < kn) = true := decide_eq_true hil
            have hwc : IntKind.i64.wrap ((q : Int) + (i : Int)) = (q : Int) + (i : Int) := IntWalk.i64_in _ (by omega)
            have hwd : IntKind.i64.wrap ((i : Int) + 1) = (i : Int) + 1 := IntWalk.i64_in _ (by omega)
            have hq0 : (0 : Int) ≤ (q : Int) + (i : Int) := by omega
            have hq1 : (q : Int) + (i : Int) < (n : Int) := by omega
            have hi0 : (0 : Int) ≤ (i : Int) := by omega
            have hi1 : (i : Int) < (kn : Int) := by omega
            have hton : ((q : Int) + (i : Int)).toNat = q + i := by omega
            subst hAe
            subst hKe
            have HIL := Lib.hid hil
            clear hz hz' hc hc' hil
            go_upto_region 10 with fail
            have Z0 := Lag.cell z0
            have Z1 := Lag.cell z1
            have Z4 := Lag.cell x4
            clear z0 z1 x4
            obtain ⟨sb, hsb⟩ : ∃ sb : Bool, (z == z') = sb := ⟨_, rfl⟩
            have HSB := Lib.hid (show sb = true → z = z' from fun h => by rw [h] at hsb; exact of_decide_eq_true hsb)
            refine wp_region_lag (by kernel_rfl) (by kernel_rfl) ?_
            repeat (go_big_quiet_step (fail))
            refine wpQuiet_nil ?_
            rintro _ ⟨⟨w5, hb5⟩, rfl⟩
            clear Z0 Z1 Z4
            go_wp2_with fail
            go_roundw
            case rel =>
              refine ⟨i + 1, sb, by have := HIL.out; omega, by go_num, rfl, fun h => ⟨hqn, fun j' hj' => ?_⟩, keep_below hb5 hb4⟩
              by_cases hji : j' < i
              · exact (HST.out rfl).2 j' hji
              · obtain rfl : j' = i := by omega
                rw [HZ.out, HZ'.out, HSB.out h]
            case measure => have := HIL.out; simp [intOf]; omega
          · have hin : i = kn := by omega
            subst hin
            have e1 : decide ((i : Int) < (i : Int)) = false := by simp
            have e2 : decide (i < i) = false := by simp
            have HF := Lib.hid (show Follows gl kl q from ⟨by have := (HST.out rfl).1; have := HL.out; have := HKL.out; omega, fun j' hj' => (HST.out rfl).2 j' (by have := HKL.out; omega)⟩)
            clear hil
            go_wp2_with fail
            go_ret
            exact ⟨q, rfl, Or.inr ⟨q, rfl, HF.out⟩, HFIN.out _ hb4⟩
    · have hin : j = n := by omega
      subst hin
      have hd : decide ((j : Int) < (j : Int)) = false := by simp
      have hd2 : decide (j < j) = false := by simp
      clear hlt
      go_wp2_with fail
      go_ret
      exact ⟨-1, rfl, Or.inl rfl, HFIN.out _ hb⟩
end Go.Proofs.YtnnchinpmnpfiaaDoor
/- Which instructions fit: the plain law of made programs. -/
namespace Go.Proofs.YtnnchinpmnpfiaaDoor
open Go.ChangeShapes Go.WideShapes Go.RowKit Words

def suitM (ns m : Nat) (fns : List Fn) (nats : List Int) (locs : List Int) (r : Int) (x : NI) : Bool :=
  (kindsS ns m fns nats locs r x).2.2 && (numB x && suitF locs (kindsS ns m fns nats locs r x).1 (kindsS ns m fns nats locs r x).2.1)
theorem suitB_M (P : Prg) (f : Fn) (x : NI) : suitB P f x = suitM P.shs.length f.ins.length P.fns P.nats f.locs f.r x := rfl
/-- the same numbers and kinds, function by function -/
def SigEq (fs gs : List Fn) : Prop := fs.length = gs.length ∧ ∀ (i : Nat) f g, fs[i]? = some f → gs[i]? = some g → f.p = g.p ∧ f.r = g.r ∧ f.locs = g.locs
theorem kinds_sig {ns m : Nat} {fs gs : List Fn} {nats locs : List Int} {r : Int} {x : NI} (h : SigEq fs gs) : kindsS ns m fs nats locs r x = kindsS ns m gs nats locs r x := by
  unfold kindsS
  split
  · rfl
  split
  · rfl
  split
  · cases hf : fs[(U x.k).toNat]? with
    | none =>
      have hg : gs[(U x.k).toNat]? = none := List.getElem?_eq_none (by have := List.getElem?_eq_none_iff.1 hf; have := h.1; omega)
      rw [hg]
    | some f =>
      have hl : (U x.k).toNat < gs.length := by have := (List.getElem?_eq_some_iff.1 hf).1; have := h.1; omega
      have hg := List.getElem?_eq_getElem hl
      obtain ⟨h1, h2, h3⟩ := h.2 _ f _ hf hg
      rw [hg]
      dsimp only
      rw [h1, h2, h3]
  rfl
theorem suitM_sig {ns m : Nat} {fs gs : List Fn} {nats locs : List Int} {r : Int} {x : NI} (h : SigEq fs gs) : suitM ns m fs nats locs r x = suitM ns m gs nats locs r x := by
  unfold suitM
  rw [kinds_sig h]
/-- a local of a kind, below 7 -/
def At (locs : List Int) (i k : Int) : Prop := ∃ j : Nat, i = j ∧ j < 7 ∧ locs[j]? = some k
theorem At.mk' {locs : List Int} {j : Nat} {k : Int} (h7 : locs.length ≤ 7) (h : locs[j]? = some k) : At locs (j : Int) k := ⟨j, rfl, by have := (List.getElem?_eq_some_iff.1 h).1; omega, h⟩
theorem At.at {locs : List Int} {i k : Int} (h : At locs i k) : locs[i.toNat]? = some k := by
  obtain ⟨j, rfl, -, h⟩ := h
  exact h
theorem At.byte {locs : List Int} {i k : Int} (h : At locs i k) : byteB i = true := by
  obtain ⟨j, rfl, hj, -⟩ := h
  exact decide_eq_true (by omega)
theorem byte_nat {j : Nat} (h : j ≤ 255) : byteB (j : Int) = true := decide_eq_true (by omega)
section
variable {ns m : Nat} {fns : List Fn} {nats locs : List Int} {r op a b c : Int} {k : BitVec 64}
theorem num_of (ha : byteB a = true) (hb : byteB b = true) (hc : byteB c = true) : numB ⟨op, a, b, c, k⟩ = true := by
  unfold numB
  dsimp only
  rw [ha, hb, hc]; rfl
theorem suit1 {x : Int} (hk : kindsS ns m fns nats locs r ⟨op, a, b, c, k⟩ = ([a], [x], true)) (ha : At locs a x) (hb : byteB b = true) (hc : byteB c = true) : suitM ns m fns nats locs r ⟨op, a, b, c, k⟩ = true := by
  unfold suitM
  rw [hk, num_of ha.byte hb hc]
  simp only [suitF, ha.at, decide_true, Bool.and_self]
theorem suit2 {x y : Int} (hk : kindsS ns m fns nats locs r ⟨op, a, b, c, k⟩ = ([a, b], [x, y], true)) (ha : At locs a x) (hb : At locs b y) (hc : byteB c = true) : suitM ns m fns nats locs r ⟨op, a, b, c, k⟩ = true := by
  unfold suitM
  rw [hk, num_of ha.byte hb.byte hc]
  simp only [suitF, ha.at, hb.at, decide_true, Bool.and_self]
theorem suit3 {x y z : Int} (hk : kindsS ns m fns nats locs r ⟨op, a, b, c, k⟩ = ([a, b, c], [x, y, z], true)) (ha : At locs a x) (hb : At locs b y) (hc : At locs c z) : suitM ns m fns nats locs r ⟨op, a, b, c, k⟩ = true := by
  unfold suitM
  rw [hk, num_of ha.byte hb.byte hc.byte]
  simp only [suitF, ha.at, hb.at, hc.at, decide_true, Bool.and_self]
theorem kind_at {locs : List Int} {i k : Int} (h : At locs i k) : kindL locs i = k := by
  obtain ⟨j, rfl, -, h⟩ := h
  unfold kindL
  rw [if_pos (by omega), Int.toNat_natCast, h]
  rfl
theorem suit_move {x : Int} (ha : At locs a x) (hb : At locs b x) (hc : byteB c = true) : suitM ns m fns nats locs r ⟨2, a, b, c, k⟩ = true :=
  suit2 (x := x) (y := x) (by
    show kindsS ns m fns nats locs r ⟨2, a, b, c, k⟩ = _
    unfold kindsS
    rw [if_pos rfl]
    dsimp only
    rw [kind_at ha]) ha hb hc
theorem suit_jump (hk : U k < m) (ha : byteB a = true) (hb : byteB b = true) (hc : byteB c = true) : suitM ns m fns nats locs r ⟨11, a, b, c, k⟩ = true := by
  have hkk : kindsS ns m fns nats locs r ⟨11, a, b, c, k⟩ = ([], [], true) := by
    unfold kindsS
    rw [if_neg (show ¬ _ from by simp), if_neg (show ¬ _ from by simp), if_neg (show ¬ _ from by simp), if_neg (show ¬ _ from by simp), if_neg (show ¬ _ from by simp; omega)]
    rfl
  unfold suitM
  rw [hkk, num_of ha hb hc]
  rfl
theorem suit_jumpif (hk : U k < m) (ha : At locs a 1) (hb : byteB b = true) (hc : byteB c = true) : suitM ns m fns nats locs r ⟨12, a, b, c, k⟩ = true :=
  suit1 (x := 1) (by
    show kindsS ns m fns nats locs r ⟨12, a, b, c, k⟩ = _
    unfold kindsS
    rw [if_neg (show ¬ _ from by simp), if_neg (show ¬ _ from by simp), if_neg (show ¬ _ from by simp), if_neg (show ¬ _ from by simp), if_neg (show ¬ _ from by simp; omega)]
    rfl) ha hb hc
theorem suit_new (hk : U k < ns) (ha : At locs a 2) (hb : byteB b = true) (hc : byteB c = true) : suitM ns m fns nats locs r ⟨13, a, b, c, k⟩ = true :=
  suit1 (x := 2) (by
    show kindsS ns m fns nats locs r ⟨13, a, b, c, k⟩ = _
    unfold kindsS
    rw [if_neg (show ¬ _ from by simp), if_neg (show ¬ _ from by simp), if_neg (show ¬ _ from by simp), if_neg (show ¬ _ from by simp), if_neg (show ¬ _ from by simp; omega)]
    rfl) ha hb hc
theorem suit_ret (ha : At locs a r) (hb : byteB b = true) (hc : byteB c = true) : suitM ns m fns nats locs r ⟨25, a, b, c, k⟩ = true := suit1 (x := r) (by rfl) ha hb hc
theorem suitF_map {locs : List Int} {f g : Nat → Int} : ∀ {l : List Nat}, (∀ i ∈ l, locs[(f i).toNat]? = some (g i)) → suitF locs (l.map f) (l.map g) = true
  | [], _ => by unfold suitF; rfl
  | i :: l, h => by
    rw [List.map_cons, List.map_cons]
    unfold suitF
    rw [decide_eq_true (h i (List.mem_cons_self ..)), suitF_map fun j hj => h j (List.mem_cons_of_mem _ hj)]
    rfl
/-- a call of a managed function whose arguments follow each other from b on -/
theorem suit_call {g : Fn} {kn bn q : Nat} (hkn : U k = kn) (hg : fns[kn]? = some g) (hq : g.p = q) (hq3 : q ≤ 3) (ha : At locs a g.r) (hbn : b = bn) (hb7 : bn ≤ 7) (hF : Follows locs (g.locs.take q) bn) (hql : q ≤ g.locs.length) (hc : byteB c = true) : suitM ns m fns nats locs r ⟨21, a, b, c, k⟩ = true := by
  subst hbn
  have hkk : kindsS ns m fns nats locs r ⟨21, a, (bn : Int), c, k⟩ = (locL a bn q, kdL g.r (fun (i : Nat) => kindL g.locs (i : Int)) q, true) := by
    unfold kindsS
    rw [if_neg (show ¬ _ from by simp), if_neg (show ¬ _ from by simp), if_pos rfl]
    dsimp only
    rw [hkn, Int.toNat_natCast, hg]
    dsimp only
    rw [show fewB g.p = true from decide_eq_true (by omega), if_pos rfl, hq]
    rfl
  unfold suitM
  rw [hkk, num_of ha.byte (byte_nat (by omega)) hc]
  show (true && (true && suitF locs (locL a bn q) (kdL g.r _ q))) = true
  rw [Bool.true_and, Bool.true_and]
  unfold locL kdL suitF
  rw [decide_eq_true ha.at, Bool.true_and]
  refine suitF_map fun i hi => ?_
  rw [List.mem_range] at hi
  have h1 := hF.2 i (by rw [List.length_take]; omega)
  rw [List.getElem?_take, if_pos hi] at h1
  have hw : IntKind.i64.wrap ((bn : Int) + (i : Int)) = (bn : Int) + (i : Int) := IntWalk.i64_in _ (by omega)
  rw [hw, show ((bn : Int) + (i : Int)).toNat = bn + i by omega, h1]
  have hil : i < g.locs.length := by omega
  rw [List.getElem?_eq_getElem hil]
  unfold kindL
  rw [if_pos (by omega), Int.toNat_natCast, List.getElem?_eq_getElem hil]
  rfl
/-- a call of a native program whose arguments are locals -/
theorem suit_native {kn bn q : Nat} (hkn : U k = kn) (hg : nats[kn]? = some (q : Int)) (hq3 : q ≤ 3) (ha : At locs a 1) (hbn : b = bn) (hb7 : bn ≤ 7) (hF : bn + q ≤ locs.length) (hc : byteB c = true) : suitM ns m fns nats locs r ⟨22, a, b, c, k⟩ = true := by
  subst hbn
  have hkk : kindsS ns m fns nats locs r ⟨22, a, (bn : Int), c, k⟩ = (locL a bn q, kdL 1 (fun (i : Nat) => kindL locs (IntKind.i64.wrap ((bn : Int) + (i : Int)))) q, true) := by
    unfold kindsS
    rw [if_neg (show ¬ _ from by simp), if_neg (show ¬ _ from by simp), if_neg (show ¬ _ from by simp), if_pos rfl]
    dsimp only
    rw [hkn, Int.toNat_natCast, hg]
    dsimp only
    rw [show fewB (q : Int) = true from decide_eq_true (by omega), if_pos rfl, Int.toNat_natCast]
  unfold suitM
  rw [hkk, num_of ha.byte (byte_nat (by omega)) hc]
  show (true && (true && suitF locs (locL a bn q) (kdL 1 _ q))) = true
  rw [Bool.true_and, Bool.true_and]
  unfold locL kdL suitF
  rw [decide_eq_true ha.at, Bool.true_and]
  refine suitF_map fun i hi => ?_
  rw [List.mem_range] at hi
  have hw : IntKind.i64.wrap ((bn : Int) + (i : Int)) = (bn : Int) + (i : Int) := IntWalk.i64_in _ (by omega)
  have hil : bn + i < locs.length := by omega
  rw [hw, show ((bn : Int) + (i : Int)).toNat = bn + i by omega, List.getElem?_eq_getElem hil]
  unfold kindL
  rw [if_pos (by omega), show ((bn : Int) + (i : Int)).toNat = bn + i by omega, List.getElem?_eq_getElem hil]
  rfl
end
end Go.Proofs.YtnnchinpmnpfiaaDoor
/- How made programs are made: the closures of instruction. PRINTED BY A PROGRAM (mk_made4.py). -/
namespace Go.Proofs.YtnnchinpmnpfiaaDoor
open Go.ChangeShapes Go.WideShapes Go.RowKit Words

/-- what pickKind returns -/
def RetPick (w : World) (g t : Nat) (gl : List Int) (kind : Int) (e : Ending) (w' : World) : Prop := ∃ i : Int, e = .returned (.int .i64 i) ∧ At gl i kind ∧ NextW w g t w'
set_option maxRecDepth 100000 in
theorem clo1_any (b5 b7 g t : Nat) (p : Int) (A : Option Addr) (n c : Nat) (r : Int) (B : Option Addr) (m d : Nat) (gl : List Int) (w : World) (X5 : Blk w b5 62 #[.pointer (some ⟨g, 0, none⟩)]) (X7 : Blk w b7 44 #[.int .i64 p, .slice A n c, .int .i64 r, .slice B m d])
    (hT : TapeAt w g t) (ht : t ≤ 900000) (hA : Reads w w.heap.size 1 A n c (gl.flatMap intCells)) (hF : FarA g n A) (hH : HeadOk p gl r) :
    Calls Tryd.prog 69 #[.pointer (some ⟨b5, 0, none⟩), .pointer (some ⟨b7, 0, none⟩)] w (RetPick w g t gl 1) := by
  have hlen := hA.length (f := intCells) (fun _ => rfl) (by omega)
  have h4 := hH.n4
  have h7 := hH.n7
  have HP := Lib.hid (pick_any g t p A n c r B m d gl 1 w hT ht hA hF (by omega) (by omega) (hH.has (by omega)))
  have x0 := X5.cell 0 _ rfl
  have y0 := X7.cell 0 _ rfl
  have y1 := X7.cell 1 _ rfl
  have y2 := X7.cell 2 _ rfl
  have y3 := X7.cell 3 _ rfl
  have H7 := Lib.hid h7
  clear hA hT hlen h4 h7 hH
  go_enter Tryd.func69, Tryd.ntmps69
  go_wp2_with fail
  refine HP.out.mono ?_
  rintro e w2 ⟨i, rfl, hi, hn⟩
  clear x0 y0 y1 y2 y3
  go_wp2_with fail
  go_ret
  exact ⟨(i : Int), rfl, At.mk' H7.out hi, hn⟩
set_option maxRecDepth 100000 in
theorem clo2_any (b5 b7 g t : Nat) (p : Int) (A : Option Addr) (n c : Nat) (r : Int) (B : Option Addr) (m d : Nat) (gl : List Int) (w : World) (X5 : Blk w b5 62 #[.pointer (some ⟨g, 0, none⟩)]) (X7 : Blk w b7 44 #[.int .i64 p, .slice A n c, .int .i64 r, .slice B m d])
    (hT : TapeAt w g t) (ht : t ≤ 900000) (hA : Reads w w.heap.size 1 A n c (gl.flatMap intCells)) (hF : FarA g n A) (hH : HeadOk p gl r) :
    Calls Tryd.prog 70 #[.pointer (some ⟨b5, 0, none⟩), .pointer (some ⟨b7, 0, none⟩)] w (RetPick w g t gl 2) := by
  have hlen := hA.length (f := intCells) (fun _ => rfl) (by omega)
  have h4 := hH.n4
  have h7 := hH.n7
  have HP := Lib.hid (pick_any g t p A n c r B m d gl 2 w hT ht hA hF (by omega) (by omega) (hH.has (by omega)))
  have x0 := X5.cell 0 _ rfl
  have y0 := X7.cell 0 _ rfl
  have y1 := X7.cell 1 _ rfl
  have y2 := X7.cell 2 _ rfl
  have y3 := X7.cell 3 _ rfl
  have H7 := Lib.hid h7
  clear hA hT hlen h4 h7 hH
  go_enter Tryd.func70, Tryd.ntmps70
  go_wp2_with fail
  refine HP.out.mono ?_
  rintro e w2 ⟨i, rfl, hi, hn⟩
  clear x0 y0 y1 y2 y3
  go_wp2_with fail
  go_ret
  exact ⟨(i : Int), rfl, At.mk' H7.out hi, hn⟩
end Go.Proofs.YtnnchinpmnpfiaaDoor
/- How made programs are made: what instruction's own variables hold. PRINTED BY A PROGRAM (mk_made5.py). -/
namespace Go.Proofs.YtnnchinpmnpfiaaDoor
open Go.ChangeShapes Go.WideShapes Go.RowKit Words

theorem only_set {w wq : World} {g : Nat} {p : Addr} (h : w.grownBy wq (some g)) (hp : w.heap.size ≤ p.block) (u : Value) : w.grownBy (wq.setCell p u) (some g) :=
  ⟨h.os, h.tape, h.output, by simpa using h.size, fun i hi hne => (Below.heap_setCell wq p u i (by omega)).trans (h.block i hi hne)⟩
theorem TapeAt.setN {w : World} {g a : Nat} (h : TapeAt w g a) {p : Addr} (hp : g < p.block) (u : Value) : TapeAt (w.setCell p u) g a := by
  obtain ⟨A, n, c, l, hB, hr⟩ := h
  exact ⟨A, n, c, l, hB.far (by omega) u, hr.setCell (by omega) u⟩
/-- what instruction's own variables hold -/
structure ISt (w wq : World) (g t s : Nat) (pv fv : Array Value) : Prop where
  tape : TapeAt wq g t
  only : w.grownBy wq (some g)
  b5 : Blk wq s 62 #[.pointer (some ⟨g, 0, none⟩)]
  b6 : Blk wq (s + 1) 26 pv
  b7 : Blk wq (s + 1 + 1) 44 fv
  b10 : Blk wq (s + 1 + 1 + 1) 55 #[.int .i64 0, .int .i64 0, .int .i64 0, .int .i64 0, .int .u64 0]
section
variable {w wq w' : World} {g t t' s : Nat} {pv fv : Array Value}
theorem ISt.step (h : ISt w wq g t s pv fv) (hT : TapeAt w' g t') (hg : wq.grownBy w' (some g)) (hgs : g < s) : ISt w w' g t' s pv fv :=
  ⟨hT, h.only.trans hg, h.b5.onlyN hg (by omega), h.b6.onlyN hg (by omega), h.b7.onlyN hg (by omega), h.b10.onlyN hg (by omega)⟩
theorem ISt.below (h : ISt w wq g t s pv fv) (hb : Below wq.heap.size wq w') : ISt w w' g t s pv fv :=
  ⟨h.tape.below hb, only_below h.only hb, h.b5.below hb, h.b6.below hb, h.b7.below hb, h.b10.below hb⟩
theorem ISt.set (h : ISt w wq g t s pv fv) (hgs : g < s) (hs : w.heap.size ≤ s) {p : Addr} (hp : s + 1 + 1 + 1 < p.block) (u : Value) : ISt w (wq.setCell p u) g t s pv fv :=
  ⟨h.tape.setN (by omega) u, only_set h.only (by omega) u, h.b5.far (by omega) u, h.b6.far (by omega) u, h.b7.far (by omega) u, h.b10.far (by omega) u⟩
end
theorem ISt.drew {w wq : World} {g t s : Nat} {pv fv : Array Value} (h : ISt w wq g t s pv fv) : ISt w wq.drew g t s pv fv := h.below (Below.refl _ _).drew
theorem ISt.fin {w wq : World} {g t s : Nat} {pv fv : Array Value} (h : ISt w wq g t s pv fv) (hgs : g < s) (hs : w.heap.size ≤ s) (v0 v1 v2 v3 v4 : Value) :
    TapeAt (((((wq.setCell ⟨s + 1 + 1 + 1, 0, none⟩ v0).setCell ⟨s + 1 + 1 + 1, 1, none⟩ v1).setCell ⟨s + 1 + 1 + 1, 2, none⟩ v2).setCell ⟨s + 1 + 1 + 1, 3, none⟩ v3).setCell ⟨s + 1 + 1 + 1, 4, none⟩ v4) g t ∧
    w.grownBy (((((wq.setCell ⟨s + 1 + 1 + 1, 0, none⟩ v0).setCell ⟨s + 1 + 1 + 1, 1, none⟩ v1).setCell ⟨s + 1 + 1 + 1, 2, none⟩ v2).setCell ⟨s + 1 + 1 + 1, 3, none⟩ v3).setCell ⟨s + 1 + 1 + 1, 4, none⟩ v4) (some g) := by
  have hb : g < s + 1 + 1 + 1 := by omega
  have hc : w.heap.size ≤ s + 1 + 1 + 1 := by omega
  exact ⟨((((h.tape.setN (p := ⟨s + 1 + 1 + 1, 0, none⟩) hb v0).setN (p := ⟨s + 1 + 1 + 1, 1, none⟩) hb v1).setN (p := ⟨s + 1 + 1 + 1, 2, none⟩) hb v2).setN (p := ⟨s + 1 + 1 + 1, 3, none⟩) hb v3).setN (p := ⟨s + 1 + 1 + 1, 4, none⟩) hb v4,
    only_set (only_set (only_set (only_set (only_set h.only (p := ⟨s + 1 + 1 + 1, 0, none⟩) hc v0) (p := ⟨s + 1 + 1 + 1, 1, none⟩) hc v1) (p := ⟨s + 1 + 1 + 1, 2, none⟩) hc v2) (p := ⟨s + 1 + 1 + 1, 3, none⟩) hc v3) (p := ⟨s + 1 + 1 + 1, 4, none⟩) hc v4⟩
theorem At.i64 {locs : List Int} {i k : Int} (h : At locs i k) : I64 i := by
  obtain ⟨j, rfl, hj, -⟩ := h
  unfold I64
  omega
theorem ret_ins {op a b c v : Int} (h : U (BitVec.ofInt 64 v) = v) : Ending.returned (.agg #[.int .i64 op, .int .i64 a, .int .i64 b, .int .i64 c, .int .u64 v]) = .returned (insV ⟨op, a, b, c, BitVec.ofInt 64 v⟩) := by
  show _ = Ending.returned (.agg #[.int .i64 op, .int .i64 a, .int .i64 b, .int .i64 c, .int .u64 (U (BitVec.ofInt 64 v))])
  rw [h]
/-- the functions of a program that is being made -/
structure FnIn (w : World) (g : Nat) (x : FC) (f : Fn) : Prop where
  p : x.p = f.p
  r : x.r = f.r
  locs : Reads w w.heap.size 1 x.A x.n x.c (f.locs.flatMap intCells)
  far : FarA g x.n x.A
  ok : HeadOk f.p f.locs f.r
structure ProgIn (w : World) (g : Nat) (F : Option Addr) (nf cf : Nat) (N : Option Addr) (nn cn : Nat) (fcs : List FC) (fns : List Fn) (nats : List Int) : Prop where
  fr : Reads w w.heap.size 4 F nf cf (fcs.flatMap fcCells)
  ff : FarA g nf F
  len : fcs.length = fns.length
  each : ∀ (i : Nat) x f, fcs[i]? = some x → fns[i]? = some f → FnIn w g x f
  nr : Reads w w.heap.size 1 N nn cn (nats.flatMap intCells)
  nff : FarA g nn N
  nf1 : 1 ≤ nf
  nf3 : nf ≤ 3
  nn2 : nn ≤ 2
  small : ∀ q ∈ nats, 0 ≤ q ∧ q ≤ 2
theorem ProgIn.only {w w' : World} {g : Nat} {F : Option Addr} {nf cf : Nat} {N : Option Addr} {nn cn : Nat} {fcs : List FC} {fns : List Fn} {nats : List Int} (h : ProgIn w g F nf cf N nn cn fcs fns nats) (hg : w.grownBy w' (some g)) : ProgIn w' g F nf cf N nn cn fcs fns nats :=
  ⟨h.fr.tape h.ff hg, h.ff, h.len, fun i x f h1 h2 => by obtain ⟨a, b, c, d, e⟩ := h.each i x f h1 h2; exact ⟨a, b, c.tape d hg, d, e⟩, h.nr.tape h.nff hg, h.nff, h.nf1, h.nf3, h.nn2, h.small⟩
/-- an instruction comes back that fits -/
def RetInstr (w : World) (g t ns m : Nat) (fns : List Fn) (nats locs : List Int) (r : Int) (e : Ending) (w' : World) : Prop :=
  ∃ x : NI, e = .returned (insV x) ∧ suitM ns m fns nats locs r x = true ∧ x.ok64 ∧ ∃ t', t' ≤ t + 12 ∧ TapeAt w' g t' ∧ w.grownBy w' (some g)
def opsL : List Int := [1, 1, 1, 2, 3, 4, 5, 6, 7, 8, 9, 10, 12, 12, 13, 13, 13, 14, 15, 15, 16, 17, 17, 18, 18, 18, 19, 19, 20, 20, 20, 21, 22, 22, 22, 23, 23, 23, 24, 11]
theorem ops_in {r : Nat} {op : Int} (h : opsL[r]? = some op) : op = 1 ∨ op = 2 ∨ op = 3 ∨ op = 4 ∨ op = 5 ∨ op = 6 ∨ op = 7 ∨ op = 8 ∨ op = 9 ∨ op = 10 ∨ op = 12 ∨ op = 13 ∨ op = 14 ∨ op = 15 ∨ op = 16 ∨ op = 17 ∨ op = 18 ∨ op = 19 ∨ op = 20 ∨ op = 21 ∨ op = 22 ∨ op = 23 ∨ op = 24 ∨ op = 11 := by
  have hm := List.mem_of_getElem? h
  simp only [opsL, List.mem_cons, List.not_mem_nil, or_false] at hm
  omega
end Go.Proofs.YtnnchinpmnpfiaaDoor

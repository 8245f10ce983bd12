/- The walk of ScopeValid. -/
import Derived.Test.YtmcdhpbkhchpeaaScopeAwake
import Derived.Test.YtmcdhpbkhchpeaaScope11
import Derived.Test.YtmcdhpbkhchpeaaWSame
namespace Go.Proofs.Ytmcdhpbkhchpeaa
open Go.ChangeShapes Go.WideShapes Go.RowKit Words

theorem beq_bool_self (b : Bool) : (b == b) = true := by cases b <;> rfl
set_option linter.unusedSimpArgs false in
set_option maxHeartbeats 4000000 in
theorem walkScopeValid {H : Type} {enc : TypeId × Value → H} (W : World) (base : Nat) {v0 : Value} {d0 : DataW H} {p0 : List MemPlace}
    (o0 : Value.okWide Try.prog W .any base 26 v0) (h0 : DataW.Trod enc Try.prog W 0 (fun _ => true) true 26 v0 d0 p0) :
    Calls Try.prog 4 #[v0] W fun e w' => e = .returned (.bool true) ∧ Below W.heap.size W w' := by
  obtain ⟨As, ns, cs, Ap, np, cp, Ai, ni, ci, S, P, I, rfl, h⟩ := open_loc o0 h0
  clear h0 o0
  have hW := loc_alloc W 26 (.slice As ns cs) (.slice Ap np cp) (.slice Ai ni ci)
  have B0 := Blk.new W #[.slice As ns cs, .slice Ap np cp, .slice Ai ni ci] 26
  have hh := h.belowU hW
  clear h
  by_cases hl : ns ≤ 200 ∧ np ≤ 100 ∧ ni ≤ 5000
  · have hn : ns ≤ 1000000 := by omega
    have HN := Lib.hid hn
    have HL := Lib.hid (decide_eq_true hl)
    clear hl hn
    have hvv := beq_bool_self (validL S P I)
    go_enter Try.func4, Try.ntmps4
    go_wp2_with fail
    refine (light_any As ns cs Ap np cp Ai ni ci _).mono ?_
    rw [HL.out]
    rintro e w0 ⟨rfl, hb0⟩
    have B1 := B0.below hb0
    have hB0 := keep_below hb0 hW
    have h1 := hh.belowU hb0
    clear hh hW hb0 B0
    have L0 : ∀ u, Below w0.heap.size w0 u → u.cell? ⟨W.heap.size, 0, none⟩ = some (.slice As ns cs) := fun u hu => (B1.below hu).cell 0 _ rfl
    have L1 : ∀ u, Below w0.heap.size w0 u → u.cell? ⟨W.heap.size, 1, none⟩ = some (.slice Ap np cp) := fun u hu => (B1.below hu).cell 1 _ rfl
    have L2 : ∀ u, Below w0.heap.size w0 u → u.cell? ⟨W.heap.size, 2, none⟩ = some (.slice Ai ni ci) := fun u hu => (B1.below hu).cell 2 _ rfl
    go_wp2_with fail
    go_region_held3 (fun w' => Below w0.heap.size w0 w')
      (first
        | exact (Below.refl _ _).drew
        | exact below_drewN (by assumption) _
        | exact keep_below hbE (by assumption)
        | exact keep_below hbD (by assumption)
        | exact keep_below hbC (by assumption)
        | exact keep_below hbB (by assumption)
        | exact keep_below hbA (by assumption))
      (first
        | (go_at_call 11; refine (awake_any _).mono ?_; rintro e wA ⟨rfl, hbA⟩)
        | (go_at_call 14; refine (valid_any As ns cs Ap np cp Ai ni ci S P I _ (h1.belowU (by assumption))).mono ?_; rintro e wB ⟨rfl, hbB⟩)
        | (go_at_call 15; refine (rvalid_any As ns cs Ap np cp Ai ni ci S P I _ (h1.belowU (by assumption))).mono ?_; rintro e wC ⟨rfl, hbC⟩)
        | (go_at_call 17; refine (refs_any As ns cs Ap np cp Ai ni ci S P I _ (h1.belowU (by assumption)) HN.out).mono ?_; rintro e wD ⟨AD, kD, rfl, rD, hbD⟩)
        | (go_at_call 18; refine (rrefs_any As ns cs Ap np cp Ai ni ci S P I _ (h1.belowU (by assumption)) HN.out).mono ?_; rintro e wE ⟨AE, kE, rfl, rE, hbE⟩; have rD' := rD.belowU hbE)
        | (go_at_call 16; refine (samew_any _ _ _ _ _ _ _ _ _ rD' rE).mono ?_; rintro e wF ⟨rfl, mF, rfl⟩; rw [decide_eq_true rfl]))
    all_goals
      go_wp2_with fail
      go_ret
      exact ⟨rfl, keep_below (by assumption) hB0⟩
  · have HL := Lib.hid (decide_eq_false hl)
    clear hl
    go_enter Try.func4, Try.ntmps4
    go_wp2_with fail
    refine (light_any As ns cs Ap np cp Ai ni ci _).mono ?_
    rw [HL.out]
    rintro e w0 ⟨rfl, hb0⟩
    go_wp2_with fail
    go_ret
    exact ⟨rfl, keep_below hb0 hW⟩
end Go.Proofs.Ytmcdhpbkhchpeaa

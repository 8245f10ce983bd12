/- The kind of a local. PRINTED BY A PROGRAM (mk_m10.py). -/
import Derived.Test.YtnnchinpmnpfiaaDoorKB
import Derived.Maps.Keyed
import Derived.LaidMore
import Derived.MakeChecks
import Derived.FnData
import Derived.Laws.CopyOwn
import Derived.Test.YtnnchinpmnpfiaaDoorKA
namespace Go.Proofs.YtnnchinpmnpfiaaDoor
open Go.ChangeShapes Go.WideShapes Go.RowKit Words

/-- the kind of a local; 0: there is none -/
def kindL (l : List Int) (i : Int) : Int := if 0 ≤ i then (l[i.toNat]?).getD 0 else 0

set_option maxHeartbeats 1000000 in
theorem kind_any (p : Int) (A : Option Addr) (n c : Nat) (r : Int) (B : Option Addr) (m d : Nat) (l : List Int) (i : Int) (w : World) (h : Reads w w.heap.size 1 A n c (l.flatMap intCells)) :
    Calls Tryd.prog 34 #[fnV p A n c r B m d, .int .i64 i] w fun e w' => e = .returned (.int .i64 (kindL l i)) ∧ Below w.heap.size w w' := by
  have hlen := h.length (f := intCells) (fun _ => rfl) (by omega)
  have hB0 : Below w.heap.size w (w.alloc (.cells #[.int .i64 p, .slice A n c, .int .i64 r, .slice B m d] 49)) := keep_alloc (Below.refl _ _) _
  have X0 := Blk.new w #[.int .i64 p, .slice A n c, .int .i64 r, .slice B m d] 49
  have x1 := X0.cell 1 _ rfl
  have h1 := h.belowU hB0
  by_cases h0 : i < 0
  · have hd0 : decide (i < 0) = true := decide_eq_true h0
    have hk : kindL l i = 0 := by unfold kindL; rw [if_neg (by omega)]
    rw [hk]
    clear h h1 hk hlen h0
    go_enter Tryd.func34, Tryd.ntmps34
    go_wp2_with fail
    go_ret
    exact ⟨rfl, hB0⟩
  have hd0 : decide (i < 0) = false := decide_eq_false h0
  by_cases h2 : (n : Int) ≤ i
  · have hd2 : decide ((n : Int) ≤ i) = true := decide_eq_true h2
    have hk : kindL l i = 0 := by unfold kindL; rw [if_pos (by omega), List.getElem?_eq_none (by omega)]; rfl
    rw [hk]
    clear h h1 hk hlen h0 h2
    go_enter Tryd.func34, Tryd.ntmps34
    go_wp2_with fail
    go_ret
    exact ⟨rfl, hB0⟩
  have hd2 : decide ((n : Int) ≤ i) = false := decide_eq_false h2
  obtain ⟨k, rfl⟩ : ∃ k : Nat, i = k := ⟨i.toNat, by omega⟩
  have hkn : k < n := by omega
  obtain ⟨b0, off, x, rfl, hbb, hx, hc⟩ := h1.elem (f := intCells) (fun _ => rfl) (by omega) hkn
  have e4 := hc 0 _ rfl
  rw [Nat.mul_one, Nat.add_zero] at e4
  have hk : kindL l k = x := by unfold kindL; rw [if_pos (by omega), Int.toNat_natCast, hx]; rfl
  rw [hk]
  have hk0 : (0 : Int) ≤ (k : Int) := by omega
  have hk1 : (k : Int) < (n : Int) := by omega
  have hd3 : decide ((k : Int) < (n : Int)) = true := decide_eq_true hk1
  have hdd : decide (k < n) = true := decide_eq_true hkn
  clear h h1 hk hx hc hlen h0 h2 hbb
  go_enter Tryd.func34, Tryd.ntmps34
  go_wp2_with fail
  go_ret
  exact ⟨rfl, hB0⟩

set_option maxHeartbeats 1000000 in
theorem rkind_any (p : Int) (A : Option Addr) (n c : Nat) (r : Int) (B : Option Addr) (m d : Nat) (l : List Int) (i : Int) (w : World) (h : Reads w w.heap.size 1 A n c (l.flatMap intCells)) :
    Calls Tryd.prog 68 #[fnV p A n c r B m d, .int .i64 i] w fun e w' => e = .returned (.int .i64 (kindL l i)) ∧ Below w.heap.size w w' := by
  have hlen := h.length (f := intCells) (fun _ => rfl) (by omega)
  have hB0 : Below w.heap.size w (w.alloc (.cells #[.int .i64 p, .slice A n c, .int .i64 r, .slice B m d] 44)) := keep_alloc (Below.refl _ _) _
  have X0 := Blk.new w #[.int .i64 p, .slice A n c, .int .i64 r, .slice B m d] 44
  have x1 := X0.cell 1 _ rfl
  have h1 := h.belowU hB0
  by_cases h0 : i < 0
  · have hd0 : decide (i < 0) = true := decide_eq_true h0
    have hk : kindL l i = 0 := by unfold kindL; rw [if_neg (by omega)]
    rw [hk]
    clear h h1 hk hlen h0
    go_enter Tryd.func68, Tryd.ntmps68
    go_wp2_with fail
    go_ret
    exact ⟨rfl, hB0⟩
  have hd0 : decide (i < 0) = false := decide_eq_false h0
  by_cases h2 : (n : Int) ≤ i
  · have hd2 : decide ((n : Int) ≤ i) = true := decide_eq_true h2
    have hk : kindL l i = 0 := by unfold kindL; rw [if_pos (by omega), List.getElem?_eq_none (by omega)]; rfl
    rw [hk]
    clear h h1 hk hlen h0 h2
    go_enter Tryd.func68, Tryd.ntmps68
    go_wp2_with fail
    go_ret
    exact ⟨rfl, hB0⟩
  have hd2 : decide ((n : Int) ≤ i) = false := decide_eq_false h2
  obtain ⟨k, rfl⟩ : ∃ k : Nat, i = k := ⟨i.toNat, by omega⟩
  have hkn : k < n := by omega
  obtain ⟨b0, off, x, rfl, hbb, hx, hc⟩ := h1.elem (f := intCells) (fun _ => rfl) (by omega) hkn
  have e4 := hc 0 _ rfl
  rw [Nat.mul_one, Nat.add_zero] at e4
  have hk : kindL l k = x := by unfold kindL; rw [if_pos (by omega), Int.toNat_natCast, hx]; rfl
  rw [hk]
  have hk0 : (0 : Int) ≤ (k : Int) := by omega
  have hk1 : (k : Int) < (n : Int) := by omega
  have hd3 : decide ((k : Int) < (n : Int)) = true := decide_eq_true hk1
  have hdd : decide (k < n) = true := decide_eq_true hkn
  clear h h1 hk hx hc hlen h0 h2 hbb
  go_enter Tryd.func68, Tryd.ntmps68
  go_wp2_with fail
  go_ret
  exact ⟨rfl, hB0⟩
end Go.Proofs.YtnnchinpmnpfiaaDoor
/- The laid map of plain kinds: what a look-up answers. -/
namespace Go.Proofs.YtnnchinpmnpfiaaDoor
open Go.ChangeShapes Go.WideShapes Go.RowKit Go.Maps Words

/-- the kinds of the instructions whose kinds do not depend on the program -/
def plainL (op : Int) : Option (List Int) :=
  if op = 1 ∨ op = 12 ∨ op = 23 ∨ op = 24 then some [1] else if op = 3 ∨ op = 13 then some [2] else if op = 4 ∨ op = 5 ∨ op = 6 ∨ op = 7 ∨ op = 8 then some [1, 1, 1]
  else if op = 9 ∨ op = 16 then some [1, 2] else if op = 10 then some [1, 2, 2] else if op = 11 then some [] else if op = 14 ∨ op = 15 then some [2, 1]
  else if op = 17 then some [1, 2, 1] else if op = 18 then some [2, 1, 1] else if op = 19 then some [2, 2, 1] else if op = 20 then some [2, 1, 2] else none
abbrev litsD (l : List Int) : DataW Unit := .slice (l.map fun k => .lit (.int .i64 k)) []
def optD (z : DataW Unit) : Option (List Int) → DataW Unit
  | none => z
  | some l => litsD l
def plainE : List (Lit × DataW Unit) := match (Rows.laid_semispace_mcode_plain (H := Unit)) with | .map l => l | _ => []
theorem plain_at (op : Int) (z : DataW Unit) : (Rows.laid_semispace_mcode_plain (H := Unit)).atKey (.int .i64 op) z = optD z (plainL op) := by
  unfold plainL Rows.laid_semispace_mcode_plain
  by_cases h : 1 ≤ op ∧ op ≤ 24
  · obtain ⟨n, rfl⟩ : ∃ n : Nat, op = n := ⟨op.toNat, by omega⟩
    have hn : n ≤ 24 := by omega
    have hn1 : 1 ≤ n := by omega
    clear h
    have key : ∀ k : Fin 25, 1 ≤ k.val → (Rows.laid_semispace_mcode_plain (H := Unit)).atKey (.int .i64 (k.val : Int)) z = optD z (plainL (k.val : Int)) := by
      intro k hk
      match k, hk with
      | ⟨1, _⟩, _ | ⟨2, _⟩, _ | ⟨3, _⟩, _ | ⟨4, _⟩, _ | ⟨5, _⟩, _ | ⟨6, _⟩, _ | ⟨7, _⟩, _ | ⟨8, _⟩, _ | ⟨9, _⟩, _ | ⟨10, _⟩, _ | ⟨11, _⟩, _ | ⟨12, _⟩, _ | ⟨13, _⟩, _ | ⟨14, _⟩, _ | ⟨15, _⟩, _ | ⟨16, _⟩, _ | ⟨17, _⟩, _ | ⟨18, _⟩, _ | ⟨19, _⟩, _ | ⟨20, _⟩, _ | ⟨21, _⟩, _ | ⟨22, _⟩, _ | ⟨23, _⟩, _ | ⟨24, _⟩, _ => rfl
      | ⟨0, _⟩, h => exact absurd h (Nat.not_succ_le_zero 0)
      | ⟨n + 25, h⟩, _ => exact absurd h (by omega)
    exact key ⟨n, by omega⟩ hn1
  · have hno : ∀ p ∈ plainE, p.1.sameKey (.int .i64 op) = false := by
      intro p hp
      have ha : plainE.all (fun p => match p.1 with | .int .i64 k => decide (1 ≤ k ∧ k ≤ 24) | _ => false) = true := rfl
      have hb := List.all_eq_true.1 ha p hp
      have hk : ∃ k : Int, p.1 = .int .i64 k ∧ 1 ≤ k ∧ k ≤ 24 := by
        split at hb
        · rename_i k hk
          exact ⟨k, hk, of_decide_eq_true hb⟩
        · cases hb
      obtain ⟨k, hk, h1, h2⟩ := hk
      rw [hk]
      simp [Lit.sameKey]
      omega
    have hf : plainE.find? (fun p => p.1.sameKey (.int .i64 op)) = none := List.find?_eq_none.2 fun p hp => by rw [hno p hp]; decide
    simp only [plainE, Rows.laid_semispace_mcode_plain] at hf
    simp only [DataW.atKey]
    rw [hf]
    simp only [show ¬(op = 1 ∨ op = 12 ∨ op = 23 ∨ op = 24) by omega, show ¬(op = 3 ∨ op = 13) by omega, show ¬(op = 4 ∨ op = 5 ∨ op = 6 ∨ op = 7 ∨ op = 8) by omega, show ¬(op = 9 ∨ op = 16) by omega, show op ≠ 10 by omega, show op ≠ 11 by omega, show ¬(op = 14 ∨ op = 15) by omega, show op ≠ 17 by omega, show op ≠ 18 by omega, show op ≠ 19 by omega, show op ≠ 20 by omega, if_false]
    rfl
section
variable {H : Type} {enc : TypeId × Value → H} {P : Program} {w : World} {base : Nat} {spare : Nat → Bool} {held : Bool}
theorem ints_at {t e : TypeId} {fuel : Nat} {cs : List Value} {x : DataW H × List MemPlace} {l : List Int} (ht : P.underlying t = some (.slice e)) (he : P.underlying e = some (.int .i64)) (hs : P.cellsOf e = 1)
    (h : DataW.trod enc P w base spare held fuel t cs = some x) (hx : x.1 = .slice (l.map fun k => .lit (.int .i64 k)) []) :
    ∃ a c, cs = [.slice (some a) l.length c] ∧ l.length ≤ c ∧ c ≤ maxLen ∧ ∀ i k, l[i]? = some k → w.cell? (a.add i) = some (.int .i64 k) := by
  rcases DataW.trod_slice ht h with ⟨_, rfl⟩ | ⟨a, len, cap, elems, rest, n, rfl, rfl, rfl, hb, hl, hm, hel, hi, _⟩
  · cases hx
  · simp only [DataW.slice.injEq] at hx
    obtain ⟨h1, _⟩ := hx
    have hll : len = l.length := by
      have := congrArg List.length h1
      simp only [List.length_map] at this
      omega
    subst hll
    refine ⟨a, cap, rfl, hl, hm, fun i k hk => ?_⟩
    have hlt : i < l.length := (List.getElem?_eq_some_iff.1 hk).1
    have h2 := hi i hlt
    rw [hs, Nat.mul_one] at h2
    have h3 : (elems.map (·.1))[i]? = some (.lit (.int .i64 k)) := by rw [h1, List.getElem?_map, hk]; rfl
    rw [List.getElem?_map] at h3
    cases hy : elems[i]? with
    | none => rw [hy] at h3; cases h3
    | some y =>
      rw [hy] at h2 h3
      obtain ⟨cs', hc, htr⟩ := Option.bind_eq_some_iff.1 h2
      obtain ⟨a', rfl, rfl, _⟩ := DataW.trod_int he htr
      simp only [Option.map_some, Option.some.injEq, DataW.lit.injEq, Lit.int.injEq, true_and] at h3
      subst h3
      obtain ⟨_, _, hat⟩ := World.cells?_some hc
      have := hat 0 (by omega)
      rw [Go.Deep.add_add, Nat.add_zero] at this
      exact this
end
end Go.Proofs.YtnnchinpmnpfiaaDoor
/- The laid map in memory: its look-ups. -/
namespace Go.Proofs.YtnnchinpmnpfiaaDoor
open Go.ChangeShapes Go.WideShapes Go.RowKit Go.Maps Go.WideElems Words

theorem flat_ints : ∀ l : List Int, l.flatMap intCells = l.map (fun k => Value.int .i64 k)
  | [] => rfl
  | k :: r => by rw [List.flatMap_cons, flat_ints r]; rfl
theorem lawInt : Keyed Tryd.prog 3 := int_keyed Tryd.underlying3
/-- the map lies in memory as it was laid -/
structure PlainAt (R : Value → Option (DataW Unit × List MemPlace)) (bm clock : Nat) (es : Array MapEntry) (W : World) : Prop where
  cell : W.cell? ⟨0, 0, none⟩ = some (.map (some bm))
  obj : W.heap[bm]? = some (.map es clock)
  fit : Fit Tryd.prog 3 R es clock
  keys : ∀ op z, (DataW.map ((es.toList.map (rg Tryd.prog 3 R)).foldr DataW.insert [])).atKey (.int .i64 op) z = optD z (plainL op)
  reads : ∀ v y l, R v = some y → y.1 = litsD l → ∃ A c, v = .slice A l.length c ∧ Reads W W.heap.size 1 A l.length c (l.flatMap intCells)
def Plain (W : World) : Prop := ∃ R bm clock es, PlainAt R bm clock es W
theorem Plain.below {W W' : World} (h : Plain W) (hb : Below W.heap.size W W') : Plain W' := by
  obtain ⟨R, bm, clock, es, h⟩ := h
  refine ⟨R, bm, clock, es, keep_cell hb h.cell, ?_, h.fit, h.keys, fun v y l h1 h2 => ?_⟩
  · rw [hb.block bm (by have := h.obj; exact (Array.getElem?_eq_some_iff.1 this).1)]
    exact h.obj
  · obtain ⟨A, c, e, hr⟩ := h.reads v y l h1 h2
    exact ⟨A, c, e, hr.belowU hb⟩
theorem Plain.look {W : World} (h : Plain W) : ∃ bm, W.cell? ⟨0, 0, none⟩ = some (.map (some bm)) ∧ ∀ op : Int, I64 op →
    (plainL op = none ∧ (Instr.lookup 84 (.map (some bm)) (.int .i64 op) true).run Tryd.prog W = .ok (.tuple #[.slice none 0 0, .bool false]) W) ∨
    ∃ l A c, plainL op = some l ∧ (Instr.lookup 84 (.map (some bm)) (.int .i64 op) true).run Tryd.prog W = .ok (.tuple #[.slice A l.length c, .bool true]) W ∧ Reads W W.heap.size 1 A l.length c (l.flatMap intCells) := by
  obtain ⟨R, bm, clock, es, h⟩ := h
  refine ⟨bm, h.cell, fun op ho => ?_⟩
  have zero : (zeroValue 24).run Tryd.prog W = .ok (.slice none 0 0) W := by kernel_rfl
  have hkey : keyOf Tryd.prog 3 (.int .i64 op) = some (.int .i64 op) := keyOf_int_mk Tryd.underlying3 (WalkArith.wf_i64 ho)
  rcases fit_look true lawInt Tryd.underlying84 zero h.obj h.fit hkey with ⟨h1, _, h2⟩ | ⟨e0, y, _, _, h1, h2, h3, _⟩
  · refine Or.inl ⟨?_, h1⟩
    have := h2 .nil
    rw [h.keys] at this
    cases hp : plainL op with
    | none => rfl
    | some l => rw [hp] at this; cases this
  · cases hp : plainL op with
    | none =>
      have a1 := h3 .nil
      have a2 := h3 (.slice [] [])
      rw [h.keys, hp] at a1 a2
      have := a1.trans a2.symm
      cases this
    | some l =>
      have a1 := h3 .nil
      rw [h.keys, hp] at a1
      obtain ⟨A, c, e, hr⟩ := h.reads _ _ l h2 a1.symm
      rw [e] at h1
      exact Or.inr ⟨l, A, c, rfl, h1, hr⟩
end Go.Proofs.YtnnchinpmnpfiaaDoor
/- The laid map, out of the row's condition. -/
namespace Go.Proofs.YtnnchinpmnpfiaaDoor
open Go.ChangeShapes Go.WideShapes Go.RowKit Go.Maps Go.WideElems Words

theorem gPlain : Tryd.prog.globalNamed "semispace/mcode.plain" = some 0 := by kernel_rfl
theorem tPlain : (Tryd.prog.globals[0]?).map (·.type) = some 84 := by kernel_rfl
theorem reads_ints {W : World} {a : Addr} {l : List Int} {c : Nat} (hl : l.length ≤ c) (hm : c ≤ maxLen) (hk : ∀ i k, l[i]? = some k → W.cell? (a.add i) = some (.int .i64 k)) :
    Reads W W.heap.size 1 (some a) l.length c (l.flatMap intCells) := by
  rw [flat_ints]
  refine ⟨by simp, hl, hm, (fun h => by cases h), fun hn => ?_⟩
  have h0 := hk 0 _ (List.getElem?_eq_getElem hn)
  have hadd : a.add 0 = a := by simp [Addr.add]
  rw [hadd] at h0
  have hsp := World.cell?_spot h0
  have hlt := World.block_lt_of_cell? W a h0
  obtain ⟨ab, ao, asp⟩ := a
  simp at hsp
  subst hsp
  refine ⟨ab, ao, rfl, hlt, fun j u hu => ?_⟩
  rw [List.getElem?_map] at hu
  cases hj : l[j]? with
  | none => rw [hj] at hu; cases hu
  | some k =>
    rw [hj] at hu
    cases hu
    have := hk j k hj
    have hadd2 : (⟨ab, ao, none⟩ : Addr).add j = ⟨ab, ao + j, none⟩ := by unfold Addr.add; split <;> simp_all
    rw [hadd2] at this
    exact this
theorem slice_of_cells {P : Program} {t e : TypeId} (ht : P.underlying t = some (.slice e)) {v : Value} (hf : v.formed P t = true) {a : Option Addr} {n c : Nat} (hc : v.cells.toList = [.slice a n c]) : v = .slice a n c := by
  cases v <;> simp_all [Value.formed, Value.cells]
theorem plain_of_laid {W : World} (h : laidMetH Tryd.prog [("semispace/mcode.plain", Rows.laid_semispace_mcode_plain)] W) : Plain W := by
  rw [MakeChecks.laidMetH_plain _ _ _ (by kernel_rfl)] at h
  obtain ⟨ps, ⟨g0, t0, cs0, f0, p0, q0, hg0, ht0, hv0, hd0, _, _⟩, _, _⟩ := h
  obtain rfl := Option.some.inj (gPlain.symm.trans hg0)
  obtain rfl := Option.some.inj (tPlain.symm.trans ht0)
  rcases open_map Tryd.underlying84 hd0 with ⟨_, hx⟩ | ⟨bm, es, clock, m, rfl, hcs, hb, _, F, hx⟩
  · simp [Rows.laid_semispace_mcode_plain] at hx
  simp only [Prod.mk.injEq] at hx
  have hcell : W.cell? ⟨0, 0, none⟩ = some (.map (some bm)) := by
    have := World.var?_cell gPlain hv0 0
    rw [Array.eq_one_of_toList hcs] at this
    simpa using this
  refine ⟨_, bm, clock, es, hcell, hb, F, fun op z => by rw [← hx.1]; exact plain_at op z, fun v y l h1 h2 => ?_⟩
  unfold elemAt at h1
  split at h1
  · rename_i hf
    obtain ⟨a, c, hc, hl, hm, hk⟩ := ints_at Tryd.underlying24 Tryd.underlying3 (by kernel_rfl) h1 h2
    exact ⟨some a, c, slice_of_cells Tryd.underlying24 hf hc, reads_ints hl hm hk⟩
  · cases h1
end Go.Proofs.YtnnchinpmnpfiaaDoor
/- A clone of numbers; Kinds where the map has nothing, or a guard fails. -/
namespace Go.Proofs.YtnnchinpmnpfiaaDoor
open Go.ChangeShapes Go.WideShapes Go.RowKit Words

theorem tyCl : SlTy Tryd.prog 24 3 1 8 := SlTy.mk' (z := .int .i64 0) Tryd.underlying24 (by kernel_rfl) rfl (by omega)
theorem ints_one (l : List Int) : ∀ u ∈ l.flatMap intCells, u.oneCell' = true := by
  intro u hu
  obtain ⟨a, _, ha⟩ := List.mem_flatMap.1 hu
  simp [intCells] at ha
  subst ha
  rfl
theorem clonei_any (A : Option Addr) (c : Nat) (l : List Int) (w : World) (h : Reads w w.heap.size 1 A l.length c (l.flatMap intCells)) (hn : l.length ≤ 1000000) :
    Calls Tryd.prog 36 #[.slice A l.length c] w (RetInts w l) := by
  have HN := Lib.hid hn
  have h1 := ints_one l
  cases A with
  | none =>
    obtain rfl := h.none_ rfl
    have hle := h.le
    have hx : l = [] := List.eq_nil_of_length_eq_zero (by omega)
    subst hx
    have hnil := fun W => Lib.run_eql_slice_nil (P := Tryd.prog) W _ _ none 0 0 0 0 Tryd.underlying24
    clear hle hn h1 h
    go_enter Tryd.func36, Tryd.ntmps36
    go_wp2_with fail
    go_ret
    exact ⟨none, 0, rfl, Reads.nil, Below.refl _ _⟩
  | some ad =>
    have hnil := fun W => Lib.run_eql_slice_nil (P := Tryd.prog) W _ _ (some ad) l.length c 0 0 Tryd.underlying24
    have hown := World.ownsRow_lit (e := 3) (size := 1) (base := w.heap.size) w #[] 0 (Nat.le_refl _) (by decide) rfl
    clear hn
    go_enter Tryd.func36, Tryd.ntmps36
    go_wp2_with (at_builtin; refine wpList_app rfl _ _ _ rfl tyCl rfl hown rfl (h.alloc (Nat.le_refl _) _) h1 ?c1 ?c2 ?c3 ?_)
    case c1 => have := HN.out; unfold maxLen; omega
    case c2 => have := HN.out; omega
    intro v' w1 hown' hb'
    go_wp2
    go_ret
    obtain ⟨A', c', rfl, hr⟩ := Reads.own hown'
    exact ⟨A', c', rfl, hr, (keep_alloc (Below.refl _ _) _).trans hb'⟩
end Go.Proofs.YtnnchinpmnpfiaaDoor
/- Kinds where the map says which. -/
namespace Go.Proofs.YtnnchinpmnpfiaaDoor
open Go.ChangeShapes Go.WideShapes Go.RowKit Words

set_option maxRecDepth 100000 in
set_option maxHeartbeats 2000000 in
theorem kinds_none (S : Option Addr) (ns cs : Nat) (F : Option Addr) (nf cf : Nat) (N : Option Addr) (nn cn : Nat) (p : Int) (A : Option Addr) (n c : Nat) (r : Int) (B : Option Addr) (m d : Nat) (op a b c' : Int) (k : BitVec 64) (w : World)
    (hP : Plain w) (ho : I64 op) (h2 : op ≠ 2) (h25 : op ≠ 25) (h21 : op ≠ 21) (h22 : op ≠ 22) (h13 : op ≠ 13) (h11 : op ≠ 11) (h12 : op ≠ 12) (hn : plainL op = none) :
    Calls Tryd.prog 12 #[prV S ns cs F nf cf N nn cn, fnV p A n c r B m d, insV ⟨op, a, b, c', k⟩] w (RetK w [] [] false) := by
  have hB0 : Below w.heap.size w (((w.alloc (.cells #[.slice S ns cs, .slice F nf cf, .slice N nn cn] 37)).alloc (.cells #[.int .i64 p, .slice A n c, .int .i64 r, .slice B m d] 49)).alloc (.cells #[.int .i64 op, .int .i64 a, .int .i64 b, .int .i64 c', .int .u64 (U k)] 53)) := keep_alloc (keep_alloc (keep_alloc (Below.refl _ _) _) _) _
  obtain ⟨bm, hcell, hlook⟩ := (hP.below hB0).look
  have e2 : (op == 2) = false := beq_false_of_ne h2
  have e25 : (op == 25) = false := beq_false_of_ne h25
  have e21 : (op == 21) = false := beq_false_of_ne h21
  have e22 : (op == 22) = false := beq_false_of_ne h22
  have e13 : (op == 13) = false := beq_false_of_ne h13
  have e11 : (op == 11) = false := beq_false_of_ne h11
  have e12 : (op == 12) = false := beq_false_of_ne h12
  rcases hlook op ho with ⟨-, hrun⟩ | ⟨l, A', c2, hl, -⟩
  · clear hlook hP ho h2 h25 h21 h22 h13 h11 h12 hn
    go_enter Tryd.func12, Tryd.ntmps12
    go_wp2_with fail
    refine bodyPost_ret (v := .tuple #[.slice none 0 0, .slice none 0 0, .bool false]) (by simp [results, Tryd.results12]) rfl ?_
    exact ⟨none, 0, none, 0, rfl, Reads.nil, Reads.nil, hB0⟩
  · rw [hn] at hl
    cases hl
end Go.Proofs.YtnnchinpmnpfiaaDoor
/- Kinds where the map says which. -/
namespace Go.Proofs.YtnnchinpmnpfiaaDoor
open Go.ChangeShapes Go.WideShapes Go.RowKit Words

theorem plainL_len {op : Int} {l : List Int} (h : plainL op = some l) : l.length ≤ 3 := by
  unfold plainL at h
  repeat' split at h
  all_goals first | (cases h; decide) | cases h
theorem take3 {a b c : Int} : ∀ {q : Nat}, q ≤ 3 → ([a, b, c] : List Int).flatMap intCells = ([a, b, c].take q).flatMap intCells ++ ([a, b, c].drop q).flatMap intCells := fun _ => by
  rw [← List.flatMap_append, List.take_append_drop]
theorem reads_take {w : World} {B n c : Nat} {A : Option Addr} {l : List Int} (h : Reads w B 1 A n c (l.flatMap intCells)) (q : Nat) (hq : q ≤ n) : Reads w B 1 A q c ((l.take q).flatMap intCells) := by
  have hl := h.length (f := intCells) (fun _ => rfl) (by omega)
  refine ⟨by rw [flat_len intCells 1 (fun _ => rfl), List.length_take]; omega, by have := h.le; omega, h.cap, h.none_, fun hn => ?_⟩
  obtain ⟨b, off, e, hb, hc⟩ := h.at_ (by omega)
  refine ⟨b, off, e, hb, fun j u hu => hc j u ?_⟩
  rw [flat_ints] at hu ⊢
  rw [List.getElem?_map] at hu ⊢
  rw [List.getElem?_take] at hu
  split at hu
  · exact hu
  · cases hu
set_option linter.unusedSimpArgs false in
set_option linter.unusedVariables false in
set_option maxRecDepth 100000 in
set_option maxHeartbeats 4000000 in
theorem kinds_some (S : Option Addr) (ns cs : Nat) (F : Option Addr) (nf cf : Nat) (N : Option Addr) (nn cn : Nat) (p : Int) (A : Option Addr) (n c : Nat) (r : Int) (B : Option Addr) (m d : Nat) (op a b c' : Int) (k : BitVec 64) (l : List Int) (w : World)
    (hP : Plain w) (ho : I64 op) (h2 : op ≠ 2) (h25 : op ≠ 25) (h21 : op ≠ 21) (h22 : op ≠ 22) (hns : ns ≤ 1000000) (hm : m ≤ 1000000) (hg : (op ≠ 13 ∧ op ≠ 11 ∧ op ≠ 12) ∨ (op = 13 ∧ U k < ns) ∨ (op = 11 ∧ U k < m) ∨ (op = 12 ∧ U k < m)) (hl : plainL op = some l) :
    Calls Tryd.prog 12 #[prV S ns cs F nf cf N nn cn, fnV p A n c r B m d, insV ⟨op, a, b, c', k⟩] w (RetK w ([a, b, c'].take l.length) l true) := by
  have hB0 : Below w.heap.size w (((w.alloc (.cells #[.slice S ns cs, .slice F nf cf, .slice N nn cn] 37)).alloc (.cells #[.int .i64 p, .slice A n c, .int .i64 r, .slice B m d] 49)).alloc (.cells #[.int .i64 op, .int .i64 a, .int .i64 b, .int .i64 c', .int .u64 (U k)] 53)) := keep_alloc (keep_alloc (keep_alloc (Below.refl _ _) _) _) _
  have X0 := ((Blk.new w #[.slice S ns cs, .slice F nf cf, .slice N nn cn] 37).alloc (.cells #[.int .i64 p, .slice A n c, .int .i64 r, .slice B m d] 49)).alloc (.cells #[.int .i64 op, .int .i64 a, .int .i64 b, .int .i64 c', .int .u64 (U k)] 53)
  have X1 := (Blk.newAt (w.alloc (.cells #[.slice S ns cs, .slice F nf cf, .slice N nn cn] 37)) #[.int .i64 p, .slice A n c, .int .i64 r, .slice B m d] 49 (w.heap.size + 1) (by simp)).alloc (.cells #[.int .i64 op, .int .i64 a, .int .i64 b, .int .i64 c', .int .u64 (U k)] 53)
  have X2 := Blk.newAt ((w.alloc (.cells #[.slice S ns cs, .slice F nf cf, .slice N nn cn] 37)).alloc (.cells #[.int .i64 p, .slice A n c, .int .i64 r, .slice B m d] 49)) #[.int .i64 op, .int .i64 a, .int .i64 b, .int .i64 c', .int .u64 (U k)] 53 (w.heap.size + 1 + 1) (by simp)
  have y0 := X0.cell 0 _ rfl
  have y3 := X1.cell 3 _ rfl
  obtain ⟨bm, hcell, hlook⟩ := (hP.below hB0).look
  have e2 : (op == 2) = false := beq_false_of_ne h2
  have e25 : (op == 25) = false := beq_false_of_ne h25
  have e21 : (op == 21) = false := beq_false_of_ne h21
  have e22 : (op == 22) = false := beq_false_of_ne h22
  have ws : IntKind.u64.wrap (ns : Int) = (ns : Int) := IntWalk.u64_in _ ⟨by omega, by omega⟩
  have wm : IntKind.u64.wrap (m : Int) = (m : Int) := IntWalk.u64_in _ ⟨by omega, by omega⟩
  rcases hlook op ho with ⟨hno, -⟩ | ⟨l', A', c2, hl', hrun, hR⟩
  · rw [hno] at hl
    cases hl
  obtain rfl : l' = l := Option.some.inj (hl'.symm.trans hl)
  have h3 := plainL_len hl
  clear hl hl' hlook hP ho h2 h25 h21 h22 X0 X1
  have hf : ((op == 13) = false ∧ (op == 11) = false ∧ (op == 12) = false) ∨ ((op == 13) = true ∧ (op == 11) = false ∧ (op == 12) = false ∧ decide ((ns : Int) ≤ U k) = false) ∨ ((op == 13) = false ∧ (op == 11) = true ∧ decide ((m : Int) ≤ U k) = false) ∨ ((op == 13) = false ∧ (op == 11) = false ∧ (op == 12) = true ∧ decide ((m : Int) ≤ U k) = false) := by
    rcases hg with ⟨h13, h11, h12⟩ | ⟨rfl, hlt⟩ | ⟨rfl, hlt⟩ | ⟨rfl, hlt⟩
    · exact Or.inl ⟨beq_false_of_ne h13, beq_false_of_ne h11, beq_false_of_ne h12⟩
    · exact Or.inr (Or.inl ⟨rfl, rfl, rfl, decide_eq_false (by omega)⟩)
    · exact Or.inr (Or.inr (Or.inl ⟨rfl, rfl, decide_eq_false (by omega)⟩))
    · exact Or.inr (Or.inr (Or.inr ⟨rfl, rfl, rfl, decide_eq_false (by omega)⟩))
  clear hg
  rcases hf with ⟨e13, e11, e12⟩ | ⟨e13, e11, e12, hd⟩ | ⟨e13, e11, hd⟩ | ⟨e13, e11, e12, hd⟩
  all_goals
    clear hns hm
    go_enter Tryd.func12, Tryd.ntmps12
    go_upto_region 20 with fail
    obtain ⟨w1, hw1⟩ : ∃ w1, (((w.alloc (.cells #[.slice S ns cs, .slice F nf cf, .slice N nn cn] 37)).alloc (.cells #[.int .i64 p, .slice A n c, .int .i64 r, .slice B m d] 49)).alloc (.cells #[.int .i64 op, .int .i64 a, .int .i64 b, .int .i64 c', .int .u64 (U k)] 53)) = w1 := ⟨_, rfl⟩
    rw [hw1] at hB0 X2 hR ⊢
    obtain ⟨q, hq⟩ : ∃ q, l'.length = q := ⟨_, rfl⟩
    have L1 : ∀ u, Below w1.heap.size w1 u → u.cell? ⟨w.heap.size + 1 + 1, 1, none⟩ = some (.int .i64 a) := fun u hu => (X2.below hu).cell 1 _ rfl
    have L2 : ∀ u, Below w1.heap.size w1 u → u.cell? ⟨w.heap.size + 1 + 1, 2, none⟩ = some (.int .i64 b) := fun u hu => (X2.below hu).cell 2 _ rfl
    have L3 : ∀ u, Below w1.heap.size w1 u → u.cell? ⟨w.heap.size + 1 + 1, 3, none⟩ = some (.int .i64 c') := fun u hu => (X2.below hu).cell 3 _ rfl
    rw [hq] at hR ⊢
    have HQ := Lib.hid hq
    have q1 : (q : Int) ≤ 3 := by omega
    have q0 : (0 : Int) ≤ (q : Int) := by omega
    have q2 : q ≤ 3 := by omega
    clear hq h3 hw1 hcell hrun y0 y3 ws wm
    have HC := Lib.hid (show ∀ u, Below w1.heap.size w1 u → Calls Tryd.prog 36 #[.slice A' q c2] u (fun e w' => ∃ A d, e = .returned (.slice A q d) ∧ Reads w' w'.heap.size 1 A q d (l'.flatMap intCells) ∧ Below u.heap.size u w') from fun u hu => by
      have hq := HQ.out
      subst hq
      exact (clonei_any A' c2 l' u (hR.belowU hu) (by omega)).mono (by rintro e w' ⟨A, d, rfl, h1, h2⟩; exact ⟨A, d, rfl, h1, h2⟩))
    clear hR
    go_region_held3 (fun w' => Below w1.heap.size w1 w') (first | exact (Below.refl _ _).drew | exact keep_alloc (by assumption) _ | exact keep_below (by assumption) (by assumption)) ((go_at_call 36; refine (HC.out _ (by assumption)).mono ?_; rintro e w2 ⟨A2, d2, rfl, hr2, hb2⟩))
    · go_wp2_with fail
      refine bodyPost_ret (v := .tuple #[.slice (some ⟨w1.heap.size, 0, none⟩) q 3, .slice A2 q d2, .bool true]) (by simp [results, Tryd.results12]) rfl ?_
      have R1 := Reads.freshAs w1 #[.int .i64 a, .int .i64 b, .int .i64 c'] 3 1 3 (([a, b, c'] : List Int).flatMap intCells) rfl rfl (by decide)
      have hq := HQ.out
      subst hq
      have hl : ([a, b, c'].take l'.length).length = l'.length := by rw [List.length_take, Nat.min_eq_left]; exact q2
      exact ⟨_, _, _, _, by rw [hl], by rw [hl]; exact reads_take (Reads.belowU (w := World.drew _) R1.drew hb2) _ q2, hr2, keep_below (by assumption) hB0⟩
    · go_wp2_with fail
      refine bodyPost_ret (v := .tuple #[.slice (some ⟨w2.heap.size, 0, none⟩) q 3, .slice A2 q d2, .bool true]) (by simp [results, Tryd.results12]) rfl ?_
      have R1 := Reads.freshAs w2 #[.int .i64 a, .int .i64 b, .int .i64 c'] 3 1 3 (([a, b, c'] : List Int).flatMap intCells) rfl rfl (by decide)
      have hq := HQ.out
      subst hq
      have hl : ([a, b, c'].take l'.length).length = l'.length := by rw [List.length_take, Nat.min_eq_left]; exact q2
      exact ⟨_, _, _, _, by rw [hl], by rw [hl]; exact reads_take R1 _ q2, hr2.belowU (keep_alloc (Below.refl _ _) _), keep_below (by assumption) hB0⟩
end Go.Proofs.YtnnchinpmnpfiaaDoor
/- Kinds where a guard fails, and of a move. -/
namespace Go.Proofs.YtnnchinpmnpfiaaDoor
open Go.ChangeShapes Go.WideShapes Go.RowKit Words

set_option linter.unusedSimpArgs false in
set_option linter.unusedVariables false in
set_option maxRecDepth 100000 in
set_option maxHeartbeats 4000000 in
theorem kinds_out (S : Option Addr) (ns cs : Nat) (F : Option Addr) (nf cf : Nat) (N : Option Addr) (nn cn : Nat) (p : Int) (A : Option Addr) (n c : Nat) (r : Int) (B : Option Addr) (m d : Nat) (op a b c' : Int) (k : BitVec 64) (w : World)
    (hns : ns ≤ 1000000) (hm : m ≤ 1000000) (hg : (op = 13 ∧ (ns : Int) ≤ U k) ∨ (op = 11 ∧ (m : Int) ≤ U k) ∨ (op = 12 ∧ (m : Int) ≤ U k)) :
    Calls Tryd.prog 12 #[prV S ns cs F nf cf N nn cn, fnV p A n c r B m d, insV ⟨op, a, b, c', k⟩] w (RetK w [] [] false) := by
  have hB0 : Below w.heap.size w (((w.alloc (.cells #[.slice S ns cs, .slice F nf cf, .slice N nn cn] 37)).alloc (.cells #[.int .i64 p, .slice A n c, .int .i64 r, .slice B m d] 49)).alloc (.cells #[.int .i64 op, .int .i64 a, .int .i64 b, .int .i64 c', .int .u64 (U k)] 53)) := keep_alloc (keep_alloc (keep_alloc (Below.refl _ _) _) _) _
  have X0 := ((Blk.new w #[.slice S ns cs, .slice F nf cf, .slice N nn cn] 37).alloc (.cells #[.int .i64 p, .slice A n c, .int .i64 r, .slice B m d] 49)).alloc (.cells #[.int .i64 op, .int .i64 a, .int .i64 b, .int .i64 c', .int .u64 (U k)] 53)
  have X1 := (Blk.newAt (w.alloc (.cells #[.slice S ns cs, .slice F nf cf, .slice N nn cn] 37)) #[.int .i64 p, .slice A n c, .int .i64 r, .slice B m d] 49 (w.heap.size + 1) (by simp)).alloc (.cells #[.int .i64 op, .int .i64 a, .int .i64 b, .int .i64 c', .int .u64 (U k)] 53)
  have y0 := X0.cell 0 _ rfl
  have y3 := X1.cell 3 _ rfl
  have ws : IntKind.u64.wrap (ns : Int) = (ns : Int) := IntWalk.u64_in _ ⟨by omega, by omega⟩
  have wm : IntKind.u64.wrap (m : Int) = (m : Int) := IntWalk.u64_in _ ⟨by omega, by omega⟩
  clear X0 X1
  have hf : ∃ o2 o25 o21 o22 : Unit, ((op == 13) = true ∧ (op == 2) = false ∧ (op == 25) = false ∧ (op == 21) = false ∧ (op == 22) = false ∧ decide ((ns : Int) ≤ U k) = true) ∨ ((op == 13) = false ∧ (op == 11) = true ∧ (op == 2) = false ∧ (op == 25) = false ∧ (op == 21) = false ∧ (op == 22) = false ∧ decide ((m : Int) ≤ U k) = true) ∨ ((op == 13) = false ∧ (op == 11) = false ∧ (op == 12) = true ∧ (op == 2) = false ∧ (op == 25) = false ∧ (op == 21) = false ∧ (op == 22) = false ∧ decide ((m : Int) ≤ U k) = true) := by
    refine ⟨(), (), (), (), ?_⟩
    rcases hg with ⟨rfl, hlt⟩ | ⟨rfl, hlt⟩ | ⟨rfl, hlt⟩
    · exact Or.inl ⟨rfl, rfl, rfl, rfl, rfl, decide_eq_true hlt⟩
    · exact Or.inr (Or.inl ⟨rfl, rfl, rfl, rfl, rfl, rfl, decide_eq_true hlt⟩)
    · exact Or.inr (Or.inr ⟨rfl, rfl, rfl, rfl, rfl, rfl, rfl, decide_eq_true hlt⟩)
  clear hg hns hm
  obtain ⟨-, -, -, -, hf⟩ := hf
  rcases hf with ⟨e13, e2, e25, e21, e22, hd⟩ | ⟨e13, e11, e2, e25, e21, e22, hd⟩ | ⟨e13, e11, e12, e2, e25, e21, e22, hd⟩
  all_goals
    go_enter Tryd.func12, Tryd.ntmps12
    go_wp2_with fail
    refine bodyPost_ret (v := .tuple #[.slice none 0 0, .slice none 0 0, .bool false]) (by simp [results, Tryd.results12]) rfl ?_
    exact ⟨none, 0, none, 0, rfl, Reads.nil, Reads.nil, hB0⟩
set_option linter.unusedSimpArgs false in
set_option linter.unusedVariables false in
set_option maxRecDepth 100000 in
set_option maxHeartbeats 4000000 in
theorem kinds_move (S : Option Addr) (ns cs : Nat) (F : Option Addr) (nf cf : Nat) (N : Option Addr) (nn cn : Nat) (p : Int) (A : Option Addr) (n c : Nat) (r : Int) (B : Option Addr) (m d : Nat) (locs : List Int) (a b c' : Int) (k : BitVec 64) (w : World)
    (hA : Reads w w.heap.size 1 A n c (locs.flatMap intCells)) :
    Calls Tryd.prog 12 #[prV S ns cs F nf cf N nn cn, fnV p A n c r B m d, insV ⟨2, a, b, c', k⟩] w (RetK w [a, b] [kindL locs a, kindL locs a] true) := by
  have hB0 : Below w.heap.size w (((w.alloc (.cells #[.slice S ns cs, .slice F nf cf, .slice N nn cn] 37)).alloc (.cells #[.int .i64 p, .slice A n c, .int .i64 r, .slice B m d] 49)).alloc (.cells #[.int .i64 2, .int .i64 a, .int .i64 b, .int .i64 c', .int .u64 (U k)] 53)) := keep_alloc (keep_alloc (keep_alloc (Below.refl _ _) _) _) _
  have X1 := (Blk.newAt (w.alloc (.cells #[.slice S ns cs, .slice F nf cf, .slice N nn cn] 37)) #[.int .i64 p, .slice A n c, .int .i64 r, .slice B m d] 49 (w.heap.size + 1) (by simp)).alloc (.cells #[.int .i64 2, .int .i64 a, .int .i64 b, .int .i64 c', .int .u64 (U k)] 53)
  have X2 := Blk.newAt ((w.alloc (.cells #[.slice S ns cs, .slice F nf cf, .slice N nn cn] 37)).alloc (.cells #[.int .i64 p, .slice A n c, .int .i64 r, .slice B m d] 49)) #[.int .i64 2, .int .i64 a, .int .i64 b, .int .i64 c', .int .u64 (U k)] 53 (w.heap.size + 1 + 1) (by simp)
  have hA1 := hA.belowU hB0
  clear hA
  obtain ⟨kd, hkd⟩ : ∃ kd, kindL locs a = kd := ⟨_, rfl⟩
  have HKD := Lib.hid hkd
  clear hkd
  go_enter Tryd.func12, Tryd.ntmps12
  go_wp2_with fail
  refine (kind_any p A n c r B m d locs a _ hA1).mono ?_
  rw [HKD.out]
  rintro e w2 ⟨rfl, hb2⟩
  have Y2 := X2.below hb2
  have hB2 := keep_below hb2 hB0
  obtain ⟨g, hg⟩ : ∃ g, w.heap.size + 1 + 1 = g := ⟨_, rfl⟩
  rw [hg] at Y2 ⊢
  have y1 := Y2.cell 1 _ rfl
  have y2 := Y2.cell 2 _ rfl
  have z1 := (Y2.alloc (.cells #[.int .i64 a, .int .i64 b] 3)).cell 1 _ rfl
  clear X1 X2 hb2 hA1 hB0 hg
  go_wp2_with fail
  refine bodyPost_ret (v := .tuple #[.slice (some ⟨w2.heap.size, 0, none⟩) 2 2, .slice (some ⟨w2.heap.size + 1, 0, none⟩) 2 2, .bool true]) (by simp [results, Tryd.results12]) rfl ?_
  have R1 := Reads.freshAs w2 #[.int .i64 a, .int .i64 b] 3 1 2 (([a, b] : List Int).flatMap intCells) rfl rfl (by decide)
  have R2 := Reads.freshAt (w2.alloc (.cells #[.int .i64 a, .int .i64 b] 3)) #[.int .i64 kd, .int .i64 kd] 3 1 2 (([kd, kd] : List Int).flatMap intCells) (w2.heap.size + 1) (by simp) rfl rfl (by decide)
  rw [HKD.out]
  exact ⟨_, _, _, _, rfl, R1.belowU (keep_alloc (Below.refl _ _) _), R2, keep_alloc (keep_alloc hB2 _) _⟩
end Go.Proofs.YtnnchinpmnpfiaaDoor
/- What a call needs: callee. -/
namespace Go.Proofs.YtnnchinpmnpfiaaDoor
open Go.ChangeShapes Go.WideShapes Go.RowKit Words

/-- a number, a function's place, and whether the call is possible -/
def RetC (w : World) (n : Int) (g : Option Addr) (ok : Bool) (e : Ending) (w' : World) : Prop := e = .returned (.tuple #[.int .i64 n, .pointer g, .bool ok]) ∧ Below w.heap.size w w'
set_option linter.unusedSimpArgs false in
set_option maxRecDepth 100000 in
set_option maxHeartbeats 4000000 in
theorem callee_fn (S : Option Addr) (ns cs : Nat) (F : Option Addr) (nf cf : Nat) (N : Option Addr) (nn cn : Nat) (a b c' : Int) (k : BitVec 64) (bf off : Nat) (p : Int) (w : World)
    (hF : F = some ⟨bf, off, none⟩) (hnf : nf ≤ 1000000) (hk : U k < nf) (hp : w.cell? ⟨bf, off + (U k).toNat * 4, none⟩ = some (.int .i64 p)) :
    Calls Tryd.prog 54 #[prV S ns cs F nf cf N nn cn, insV ⟨21, a, b, c', k⟩] w (RetC w p (some ⟨bf, off + (U k).toNat * 4, none⟩) (fewB p)) := by
  subst hF
  obtain ⟨kn, hkn⟩ : ∃ kn : Nat, U k = kn := ⟨(U k).toNat, by have := U_nonneg k; omega⟩
  rw [hkn] at hk hp ⊢
  rw [Int.toNat_natCast] at hp ⊢
  have hB0 : Below w.heap.size w ((w.alloc (.cells #[.slice S ns cs, .slice (some ⟨bf, off, none⟩) nf cf, .slice N nn cn] 37)).alloc (.cells #[.int .i64 21, .int .i64 a, .int .i64 b, .int .i64 c', .int .u64 (kn : Int)] 53)) := keep_alloc (keep_alloc (Below.refl _ _) _) _
  have hp1 := keep_cell hB0 hp
  have ws : IntKind.u64.wrap (nf : Int) = (nf : Int) := IntWalk.u64_in _ ⟨by omega, by omega⟩
  have hd : decide ((kn : Int) < (nf : Int)) = true := decide_eq_true hk
  have hd2 : decide (kn < nf) = true := decide_eq_true (by omega)
  have hk0 : (0 : Int) ≤ (kn : Int) := by omega
  have HKN := Lib.hid hkn
  clear hp hkn
  by_cases h0 : 0 ≤ p
  · have d1 : decide (0 ≤ p) = true := decide_eq_true h0
    by_cases h3 : p ≤ 3
    · have d2 : decide (p ≤ 3) = true := decide_eq_true h3
      have HW := Lib.hid (show fewB p = true from decide_eq_true ⟨h0, h3⟩)
      clear h0 h3
      unfold insV
      dsimp only
      rw [HKN.out]
      go_enter Tryd.func54, Tryd.ntmps54
      go_wp2_with fail
      refine bodyPost_ret (v := .tuple #[.int .i64 p, .pointer (some ⟨bf, off + kn * 4, none⟩), .bool true]) (by simp [results, Tryd.results54]) rfl ?_
      exact ⟨by rw [HW.out], hB0⟩
    · have d2 : decide (p ≤ 3) = false := decide_eq_false h3
      have HW := Lib.hid (show fewB p = false from decide_eq_false (fun h => h3 h.2))
      clear h0 h3
      unfold insV
      dsimp only
      rw [HKN.out]
      go_enter Tryd.func54, Tryd.ntmps54
      go_wp2_with fail
      refine bodyPost_ret (v := .tuple #[.int .i64 p, .pointer (some ⟨bf, off + kn * 4, none⟩), .bool false]) (by simp [results, Tryd.results54]) rfl ?_
      exact ⟨by rw [HW.out], hB0⟩
  · have d1 : decide (0 ≤ p) = false := decide_eq_false h0
    have HW := Lib.hid (show fewB p = false from decide_eq_false (fun h => h0 h.1))
    clear h0
    unfold insV
    dsimp only
    rw [HKN.out]
    go_enter Tryd.func54, Tryd.ntmps54
    go_wp2_with fail
    refine bodyPost_ret (v := .tuple #[.int .i64 p, .pointer (some ⟨bf, off + kn * 4, none⟩), .bool false]) (by simp [results, Tryd.results54]) rfl ?_
    exact ⟨by rw [HW.out], hB0⟩
set_option linter.unusedSimpArgs false in
set_option maxRecDepth 100000 in
set_option maxHeartbeats 4000000 in
theorem callee_nat (S : Option Addr) (ns cs : Nat) (F : Option Addr) (nf cf : Nat) (N : Option Addr) (nn cn : Nat) (a b c' : Int) (k : BitVec 64) (bf off : Nat) (p : Int) (w : World)
    (hN : N = some ⟨bf, off, none⟩) (hnn : nn ≤ 1000000) (hk : U k < nn) (hp : w.cell? ⟨bf, off + (U k).toNat, none⟩ = some (.int .i64 p)) :
    Calls Tryd.prog 54 #[prV S ns cs F nf cf N nn cn, insV ⟨22, a, b, c', k⟩] w (RetC w p none (fewB p)) := by
  subst hN
  obtain ⟨kn, hkn⟩ : ∃ kn : Nat, U k = kn := ⟨(U k).toNat, by have := U_nonneg k; omega⟩
  rw [hkn] at hk hp
  rw [Int.toNat_natCast] at hp
  have hB0 : Below w.heap.size w ((w.alloc (.cells #[.slice S ns cs, .slice F nf cf, .slice (some ⟨bf, off, none⟩) nn cn] 37)).alloc (.cells #[.int .i64 22, .int .i64 a, .int .i64 b, .int .i64 c', .int .u64 (kn : Int)] 53)) := keep_alloc (keep_alloc (Below.refl _ _) _) _
  have hp1 := keep_cell hB0 hp
  have ws : IntKind.u64.wrap (nn : Int) = (nn : Int) := IntWalk.u64_in _ ⟨by omega, by omega⟩
  have hd : decide ((kn : Int) < (nn : Int)) = true := decide_eq_true hk
  have hd2 : decide (kn < nn) = true := decide_eq_true (by omega)
  have hk0 : (0 : Int) ≤ (kn : Int) := by omega
  have HKN := Lib.hid hkn
  clear hp hkn
  by_cases h0 : 0 ≤ p
  · have d1 : decide (0 ≤ p) = true := decide_eq_true h0
    by_cases h3 : p ≤ 3
    · have d2 : decide (p ≤ 3) = true := decide_eq_true h3
      have HW := Lib.hid (show fewB p = true from decide_eq_true ⟨h0, h3⟩)
      clear h0 h3
      unfold insV
      dsimp only
      rw [HKN.out]
      go_enter Tryd.func54, Tryd.ntmps54
      go_wp2_with fail
      refine bodyPost_ret (v := .tuple #[.int .i64 p, .pointer none, .bool true]) (by simp [results, Tryd.results54]) rfl ?_
      exact ⟨by rw [HW.out], hB0⟩
    · have d2 : decide (p ≤ 3) = false := decide_eq_false h3
      have HW := Lib.hid (show fewB p = false from decide_eq_false (fun h => h3 h.2))
      clear h0 h3
      unfold insV
      dsimp only
      rw [HKN.out]
      go_enter Tryd.func54, Tryd.ntmps54
      go_wp2_with fail
      refine bodyPost_ret (v := .tuple #[.int .i64 p, .pointer none, .bool false]) (by simp [results, Tryd.results54]) rfl ?_
      exact ⟨by rw [HW.out], hB0⟩
  · have d1 : decide (0 ≤ p) = false := decide_eq_false h0
    have HW := Lib.hid (show fewB p = false from decide_eq_false (fun h => h0 h.1))
    clear h0
    unfold insV
    dsimp only
    rw [HKN.out]
    go_enter Tryd.func54, Tryd.ntmps54
    go_wp2_with fail
    refine bodyPost_ret (v := .tuple #[.int .i64 p, .pointer none, .bool false]) (by simp [results, Tryd.results54]) rfl ?_
    exact ⟨by rw [HW.out], hB0⟩
set_option linter.unusedSimpArgs false in
set_option maxRecDepth 100000 in
set_option maxHeartbeats 4000000 in
theorem callee_no (S : Option Addr) (ns cs : Nat) (F : Option Addr) (nf cf : Nat) (N : Option Addr) (nn cn : Nat) (op a b c' : Int) (k : BitVec 64) (w : World)
    (hnf : nf ≤ 1000000) (hnn : nn ≤ 1000000) (hk : (op = 21 ∧ (nf : Int) ≤ U k) ∨ (op = 22 ∧ (nn : Int) ≤ U k)) :
    Calls Tryd.prog 54 #[prV S ns cs F nf cf N nn cn, insV ⟨op, a, b, c', k⟩] w (RetC w 0 none false) := by
  have hB0 : Below w.heap.size w ((w.alloc (.cells #[.slice S ns cs, .slice F nf cf, .slice N nn cn] 37)).alloc (.cells #[.int .i64 op, .int .i64 a, .int .i64 b, .int .i64 c', .int .u64 (U k)] 53)) := keep_alloc (keep_alloc (Below.refl _ _) _) _
  have ws : IntKind.u64.wrap (nf : Int) = (nf : Int) := IntWalk.u64_in _ ⟨by omega, by omega⟩
  have wn : IntKind.u64.wrap (nn : Int) = (nn : Int) := IntWalk.u64_in _ ⟨by omega, by omega⟩
  have hf : ((op == 21) = true ∧ (op == 22) = false ∧ decide (U k < (nf : Int)) = false) ∨ ((op == 21) = false ∧ (op == 22) = true ∧ decide (U k < (nn : Int)) = false) := by
    rcases hk with ⟨rfl, h⟩ | ⟨rfl, h⟩
    · exact Or.inl ⟨rfl, rfl, decide_eq_false (by omega)⟩
    · exact Or.inr ⟨rfl, rfl, decide_eq_false (by omega)⟩
  clear hk
  rcases hf with ⟨e1, e2, hd⟩ | ⟨e1, e2, hd⟩
  all_goals
    go_enter Tryd.func54, Tryd.ntmps54
    go_wp2_with fail
    refine bodyPost_ret (v := .tuple #[.int .i64 0, .pointer none, .bool false]) (by simp [results, Tryd.results54]) rfl ?_
    exact ⟨rfl, hB0⟩
end Go.Proofs.YtnnchinpmnpfiaaDoor
/- The locals of a call, and their kinds: called. PRINTED BY A PROGRAM (mk_m19.py). -/
namespace Go.Proofs.YtnnchinpmnpfiaaDoor
open Go.ChangeShapes Go.WideShapes Go.RowKit Words

/-- the locals of a call: its result and n that follow each other -/
def locL (a b : Int) (n : Nat) : List Int := a :: (List.range n).map fun (i : Nat) => IntKind.i64.wrap (b + (i : Int))
def kdL (r : Int) (ks : Nat → Int) (n : Nat) : List Int := r :: (List.range n).map ks
theorem locL_len (a b : Int) (n : Nat) : (locL a b n).length = n + 1 := by simp [locL]
theorem kdL_len (r : Int) (ks : Nat → Int) (n : Nat) : (kdL r ks n).length = n + 1 := by simp [kdL]
theorem locL_succ (a b : Int) (n : Nat) : (locL a b (n + 1)).flatMap intCells = (locL a b n).flatMap intCells ++ [.int .i64 (IntKind.i64.wrap (b + (n : Int)))] := by
  rw [flat_ints, flat_ints]; simp [locL, List.range_succ]
theorem kdL_succ (r : Int) (ks : Nat → Int) (n : Nat) : (kdL r ks (n + 1)).flatMap intCells = (kdL r ks n).flatMap intCells ++ [.int .i64 (ks n)] := by
  rw [flat_ints, flat_ints]; simp [kdL, List.range_succ]
theorem below_ownN {w w' : World} {base b n s : Nat} {e : TypeId} {v : Value} {xs : List Value} (h : w.ownsRow b e s v n xs) (hg : w.grownBy w' v.ownBlock) (hb : base ≤ b) (hbw : base ≤ w.heap.size) : Below base w w' :=
  (Below.refl base w).grown hg hbw (fun _ hk => Nat.le_trans hb (h.lt _ hk).1)
theorem keep_allocN {w w' : World} {base : Nat} {o : Obj} (hb : base ≤ w.heap.size) (h : Below base (w.alloc o) w') : Below base w w' := ((Below.refl base w).alloc hb o).trans h
set_option maxRecDepth 100000 in
set_option maxHeartbeats 2000000 in
theorem called_no (S : Option Addr) (ns cs : Nat) (F : Option Addr) (nf cf : Nat) (N : Option Addr) (nn cn : Nat) (p : Int) (A : Option Addr) (n c : Nat) (r : Int) (B : Option Addr) (m d : Nat) (op a b c' : Int) (k : BitVec 64) (pn : Int) (g : Option Addr) (w : World)
    (HC : ∀ wq, Below w.heap.size w wq → Calls Tryd.prog 54 #[prV S ns cs F nf cf N nn cn, insV ⟨op, a, b, c', k⟩] wq (RetC wq pn g false)) :
    Calls Tryd.prog 35 #[prV S ns cs F nf cf N nn cn, fnV p A n c r B m d, insV ⟨op, a, b, c', k⟩] w (RetK w [] [] false) := by
  have hB0 : Below w.heap.size w (((w.alloc (.cells #[.slice S ns cs, .slice F nf cf, .slice N nn cn] 37)).alloc (.cells #[.int .i64 p, .slice A n c, .int .i64 r, .slice B m d] 49)).alloc (.cells #[.int .i64 op, .int .i64 a, .int .i64 b, .int .i64 c', .int .u64 (U k)] 53)) := keep_alloc (keep_alloc (keep_alloc (Below.refl _ _) _) _) _
  have H := Lib.hid (HC _ hB0)
  clear HC
  go_enter Tryd.func35, Tryd.ntmps35
  go_wp2_with fail
  refine H.out.mono ?_
  rintro e w2 ⟨rfl, hb2⟩
  clear H
  go_wp2_with fail
  refine bodyPost_ret (v := .tuple #[.slice none 0 0, .slice none 0 0, .bool false]) (by simp [results, Tryd.results35]) rfl ?_
  exact ⟨none, 0, none, 0, rfl, Reads.nil, Reads.nil, keep_below hb2 hB0⟩
set_option linter.unusedSimpArgs false in
set_option linter.unusedVariables false in
set_option maxRecDepth 100000 in
set_option maxHeartbeats 4000000 in
theorem called_nat (S : Option Addr) (ns cs : Nat) (F : Option Addr) (nf cf : Nat) (N : Option Addr) (nn cn : Nat) (p : Int) (A : Option Addr) (n c : Nat) (r : Int) (B : Option Addr) (m d : Nat) (locs : List Int) (op a b c' : Int) (k : BitVec 64) (pn : Nat) (w : World)
    (hA : Reads w w.heap.size 1 A n c (locs.flatMap intCells)) (hpn : pn ≤ 3) (hb64 : I64 b)
    (HC : ∀ wq, Below w.heap.size w wq → Calls Tryd.prog 54 #[prV S ns cs F nf cf N nn cn, insV ⟨op, a, b, c', k⟩] wq (RetC wq (pn : Int) none true)) :
    Calls Tryd.prog 35 #[prV S ns cs F nf cf N nn cn, fnV p A n c r B m d, insV ⟨op, a, b, c', k⟩] w (RetK w (locL a b pn) (kdL 1 (fun (i : Nat) => kindL locs (IntKind.i64.wrap (b + (i : Int)))) pn) true) := by
  obtain ⟨ks, hks⟩ : ∃ ks : Nat → Int, (fun (i : Nat) => kindL locs (IntKind.i64.wrap (b + (i : Int)))) = ks := ⟨_, rfl⟩
  have HKS := Lib.hid hks
  rw [hks]
  clear hks
  have hB0 : Below w.heap.size w (((w.alloc (.cells #[.slice S ns cs, .slice F nf cf, .slice N nn cn] 37)).alloc (.cells #[.int .i64 p, .slice A n c, .int .i64 r, .slice B m d] 49)).alloc (.cells #[.int .i64 op, .int .i64 a, .int .i64 b, .int .i64 c', .int .u64 (U k)] 53)) := keep_alloc (keep_alloc (keep_alloc (Below.refl _ _) _) _) _
  have X1 := (Blk.newAt (w.alloc (.cells #[.slice S ns cs, .slice F nf cf, .slice N nn cn] 37)) #[.int .i64 p, .slice A n c, .int .i64 r, .slice B m d] 49 (w.heap.size + 1) (by simp)).alloc (.cells #[.int .i64 op, .int .i64 a, .int .i64 b, .int .i64 c', .int .u64 (U k)] 53)
  have X2 := Blk.newAt ((w.alloc (.cells #[.slice S ns cs, .slice F nf cf, .slice N nn cn] 37)).alloc (.cells #[.int .i64 p, .slice A n c, .int .i64 r, .slice B m d] 49)) #[.int .i64 op, .int .i64 a, .int .i64 b, .int .i64 c', .int .u64 (U k)] 53 (w.heap.size + 1 + 1) (by simp)
  have H := Lib.hid (HC _ hB0)
  clear HC
  go_enter Tryd.func35, Tryd.ntmps35
  go_wp2_with fail
  refine H.out.mono ?_
  rintro e w2 ⟨rfl, hb2⟩
  clear H
  have hB2 := keep_below hb2 hB0
  have Y1 := X1.below hb2
  have Y2 := X2.below hb2
  have hA2 := hA.belowU hB2
  have hl2 := Y2.lt
  obtain ⟨g1n, hg1n⟩ : ∃ g1n, w.heap.size + 1 = g1n := ⟨_, rfl⟩
  rw [hg1n] at Y1 Y2 hl2 ⊢
  have y1 := Y2.cell 1 _ rfl
  clear hb2 hB0 X1 X2 hA
  go_upto_region 7 with fail
  obtain ⟨w3, hw3⟩ : ∃ w3, (w2.alloc (.cells #[.int .i64 a] 3)).alloc (.cells #[.int .i64 1] 3) = w3 := ⟨_, rfl⟩
  have O1 := own_keep (World.ownsRow_lit (e := 3) (size := 1) (base := w2.heap.size) w2 #[.int .i64 a] 1 (Nat.le_refl _) (by decide) rfl) (keep_alloc (Below.refl _ _) (.cells #[.int .i64 1] 3))
  have O2 : ((w2.alloc (.cells #[.int .i64 a] 3)).alloc (.cells #[.int .i64 1] 3)).ownsRow w2.heap.size 3 1 (.slice (some ⟨w2.heap.size + 1, 0, none⟩) 1 1) 1 ((kdL 1 ks 0).flatMap intCells) := own_of_blk (cs := #[.int .i64 1]) (Blk.newAt (w2.alloc (.cells #[.int .i64 a] 3)) #[.int .i64 1] 3 (w2.heap.size + 1) (by simp)) (by omega) (by decide) rfl
  have hB3 : Below w2.heap.size w2 ((w2.alloc (.cells #[.int .i64 a] 3)).alloc (.cells #[.int .i64 1] 3)) := keep_alloc (keep_alloc (Below.refl _ _) _) _
  rw [hw3] at O1 O2 hB3 ⊢
  have hs3 : w3.heap.size = w2.heap.size + 2 := by rw [← hw3]; simp [World.setCell]
  clear hw3 y1
  obtain ⟨base, hbase⟩ : ∃ base, w2.heap.size = base := ⟨_, rfl⟩
  rw [hbase] at O1 O2 hB3 hs3 hl2 ⊢
  have hB3' := hB2.trans (hB3.mono (by rw [← hbase]; exact hB2.size))
  have HBS := Lib.hid hbase
  clear hbase
  go_wp2_with fail
  go_loopw [12, 13, 14, 15, 38] (fun l kd _ _ x wq => ∃ (i : Nat), i ≤ pn ∧ x = .int .i64 i ∧ wq.ownsRow base 3 1 l (i + 1) ((locL a b i).flatMap intCells) ∧ wq.ownsRow base 3 1 kd (i + 1) ((kdL 1 ks i).flatMap intCells) ∧ ApartV l kd ∧ Below base w2 wq ∧ w3.heap.size ≤ wq.heap.size) (fun _ _ _ _ x _ => pn - (intOf x).toNat)
  case atStart => exact ⟨0, Nat.zero_le _, rfl, O1, O2, Or.inr (by simp [Value.ownBlock]), hB3, Nat.le_refl _⟩
  case round =>
    obtain ⟨i, hi, rfl, o1, o2, hap, hb, hsz⟩ := hrel
    have hbU : Below w2.heap.size w2 wr := by rw [HBS.out]; exact hb
    have hAr := hA2.belowU hbU
    have Z1 := Y1.belowB hb (by omega)
    have Z2 := Y2.belowB hb (by omega)
    have z0 := Z1.cell 0 _ rfl
    have z1 := Z1.cell 1 _ rfl
    have z2 := Z1.cell 2 _ rfl
    have z3 := Z1.cell 3 _ rfl
    have t2 := Z2.cell 2 _ rfl
    by_cases hlt : i < pn
    · have hd : decide ((i : Int) < (pn : Int)) = true := decide_eq_true (by omega)
      have hd2 : decide (i < pn) = true := decide_eq_true hlt
      have hw : IntKind.i64.wrap ((i : Int) + 1) = (i : Int) + 1 := IntWalk.i64_in _ (by omega)
      obtain ⟨bi, hbi⟩ : ∃ bi, IntKind.i64.wrap (b + (i : Int)) = bi := ⟨_, rfl⟩
      obtain ⟨ki, hki⟩ : ∃ ki, kindL locs bi = ki := ⟨_, rfl⟩
      have HBI := Lib.hid hbi
      have HK := Lib.hid (kind_any p A n c r B m d locs bi _ hAr)
      rw [hki] at HK
      have HKI := Lib.hid hki
      have HLT := Lib.hid hlt
      clear hki hlt
      go_wp2_with fail
      refine HK.out.mono ?_
      clear HK
      rintro e w4 ⟨rfl, hb4⟩
      have t2' := keep_cell hb4 t2
      have o1' := own_keep o1 hb4
      have o2' := own_keep o2 hb4
      have hbB := hb.trans (hb4.mono (by have := hb.size; have := HBS.out; omega))
      have hsz4 := Nat.le_trans hsz hb4.size
      have hbz : base ≤ w4.heap.size := by omega
      have q1 : i + 1 + 1 ≤ maxLen := by unfold maxLen; omega
      have q2 : (i + 1 + 1) * 8 ≤ 140737488355328 := by omega
      have N1 := Reads.freshAs w4 #[.int .i64 bi] 3 1 1 [.int .i64 bi] rfl rfl (by decide)
      have O1' := own_keep o1' (keep_alloc (Below.refl _ _) (.cells #[.int .i64 bi] 3))
      have O2' := own_keep o2' (keep_alloc (Below.refl _ _) (.cells #[.int .i64 bi] 3))
      have HB4 := Lib.hid hbB
      clear hbB hb4 hb hbU o1' o2'
      go_wp2_with (at_builtin; first
        | (refine wpList_appB rfl _ _ _ rfl tyInts rfl O1' rfl N1 (by simp [Value.oneCell']) q1 q2 (by simp; omega) ?_; intro v5 w5 o5 hg5 hb5; have hbw5 := below_ownN O1' hg5 (Nat.le_refl _) (by simp; omega); obtain ⟨O5, hap5⟩ := hap.app O2' hg5 hb5; obtain ⟨A5, c5, rfl, -⟩ := Reads.own o5; have N2 := Reads.freshAs w5 #[.int .i64 ki] 3 1 1 [.int .i64 ki] rfl rfl (by decide); have O5' := own_keep O5 (keep_alloc (Below.refl _ _) (.cells #[.int .i64 ki] 3)); have O6' := own_keep o5 (keep_alloc (Below.refl _ _) (.cells #[.int .i64 ki] 3)); have hs5 : w4.heap.size + 1 ≤ w5.heap.size := (by have := hbw5.size; simp at this; exact this); clear hg5 hb5 O1' O2' o5 O5 N1)
        | (refine wpList_appB rfl _ _ _ rfl tyInts rfl O5' rfl N2 (by simp [Value.oneCell']) q1 q2 (by simp; omega) ?_; intro v6 w6 o6 hg6 hb6; have hbw6 := below_ownN O5' hg6 (Nat.le_refl _) (by simp; omega); obtain ⟨O7, hap6⟩ := hap5.symm.app O6' hg6 hb6; obtain ⟨A6, c6, rfl, -⟩ := Reads.own o6; clear hg6 hb6 O5' O6' N2))
      go_roundw
      case rel =>
        refine ⟨i + 1, by have := HLT.out; omega, by go_num, ?_, ?_, hap6.symm, ?_, ?_⟩
        · rw [locL_succ, HBI.out]; exact O7
        · have hk2 : ks i = ki := by rw [← HKS.out]; dsimp only; rw [HBI.out, HKI.out]
          rw [kdL_succ, hk2]; exact o6
        · exact (HB4.out.trans (keep_allocN hbz hbw5)).trans (keep_allocN (by omega) hbw6)
        · have := hbw6.size; simp at this; omega
      case measure => have := HLT.out; simp [intOf]; omega
    · have hin : i = pn := by omega
      subst hin
      have hd : decide ((i : Int) < (i : Int)) = false := by simp
      have hd2 : decide (i < i) = false := by simp
      clear hlt z0 z1 z2 z3 t2
      go_wp2_with fail
      obtain ⟨A1, c1, rfl, r1⟩ := Reads.own o1
      obtain ⟨A2, c2, rfl, r2⟩ := Reads.own o2
      refine bodyPost_ret (v := .tuple #[.slice A1 (i + 1) c1, .slice A2 (i + 1) c2, .bool true]) (by simp [results, Tryd.results35]) rfl ?_
      exact ⟨A1, c1, A2, c2, by rw [locL_len, kdL_len], by rw [locL_len]; exact r1, by rw [kdL_len]; exact r2, hB2.trans (hb.mono (by rw [← HBS.out]; exact hB2.size))⟩
set_option linter.unusedSimpArgs false in
set_option linter.unusedVariables false in
set_option maxRecDepth 100000 in
set_option maxHeartbeats 4000000 in
theorem called_fn (S : Option Addr) (ns cs : Nat) (F : Option Addr) (nf cf : Nat) (N : Option Addr) (nn cn : Nat) (p : Int) (A : Option Addr) (n c : Nat) (r : Int) (B : Option Addr) (m d : Nat) (locs : List Int) (op a b c' : Int) (k : BitVec 64) (pn : Nat) (bg og : Nat) (gp : Int) (GA : Option Addr) (gn gc : Nat) (gr : Int) (GB : Option Addr) (gm gd : Nat) (gl : List Int) (w : World)
    (hA : Reads w w.heap.size 1 A n c (locs.flatMap intCells)) (g0 : w.cell? ⟨bg, og, none⟩ = some (.int .i64 gp)) (g1 : w.cell? ⟨bg, og + 1, none⟩ = some (.slice GA gn gc)) (g2 : w.cell? ⟨bg, og + 2, none⟩ = some (.int .i64 gr)) (g3 : w.cell? ⟨bg, og + 3, none⟩ = some (.slice GB gm gd)) (hG : Reads w w.heap.size 1 GA gn gc (gl.flatMap intCells))
    (hpn : pn ≤ 3) (hb64 : I64 b)
    (HC : ∀ wq, Below w.heap.size w wq → Calls Tryd.prog 54 #[prV S ns cs F nf cf N nn cn, insV ⟨op, a, b, c', k⟩] wq (RetC wq (pn : Int) (some ⟨bg, og, none⟩) true)) :
    Calls Tryd.prog 35 #[prV S ns cs F nf cf N nn cn, fnV p A n c r B m d, insV ⟨op, a, b, c', k⟩] w (RetK w (locL a b pn) (kdL gr (fun (i : Nat) => kindL gl (i : Int)) pn) true) := by
  obtain ⟨ks, hks⟩ : ∃ ks : Nat → Int, (fun (i : Nat) => kindL gl (i : Int)) = ks := ⟨_, rfl⟩
  have HKS := Lib.hid hks
  rw [hks]
  clear hks
  have hB0 : Below w.heap.size w (((w.alloc (.cells #[.slice S ns cs, .slice F nf cf, .slice N nn cn] 37)).alloc (.cells #[.int .i64 p, .slice A n c, .int .i64 r, .slice B m d] 49)).alloc (.cells #[.int .i64 op, .int .i64 a, .int .i64 b, .int .i64 c', .int .u64 (U k)] 53)) := keep_alloc (keep_alloc (keep_alloc (Below.refl _ _) _) _) _
  have X1 := (Blk.newAt (w.alloc (.cells #[.slice S ns cs, .slice F nf cf, .slice N nn cn] 37)) #[.int .i64 p, .slice A n c, .int .i64 r, .slice B m d] 49 (w.heap.size + 1) (by simp)).alloc (.cells #[.int .i64 op, .int .i64 a, .int .i64 b, .int .i64 c', .int .u64 (U k)] 53)
  have X2 := Blk.newAt ((w.alloc (.cells #[.slice S ns cs, .slice F nf cf, .slice N nn cn] 37)).alloc (.cells #[.int .i64 p, .slice A n c, .int .i64 r, .slice B m d] 49)) #[.int .i64 op, .int .i64 a, .int .i64 b, .int .i64 c', .int .u64 (U k)] 53 (w.heap.size + 1 + 1) (by simp)
  have H := Lib.hid (HC _ hB0)
  clear HC
  go_enter Tryd.func35, Tryd.ntmps35
  go_wp2_with fail
  refine H.out.mono ?_
  rintro e w2 ⟨rfl, hb2⟩
  clear H
  have hB2 := keep_below hb2 hB0
  have Y1 := X1.below hb2
  have Y2 := X2.below hb2
  have hA2 := hA.belowU hB2
  have hG2 := hG.belowU hB2
  have G0 := keep_cell hB2 g0
  have G1 := keep_cell hB2 g1
  have G2 := keep_cell hB2 g2
  have G3 := keep_cell hB2 g3
  have hbg2 := World.block_lt_of_cell? w2 _ G2
  have GG := keep_cell (keep_alloc (keep_alloc (Below.refl w2.heap.size w2) (.cells #[.int .i64 a] 3)) (.cells #[.int .i64 1] 3)) G2
  have F0 := (Blk.newAt (w2.alloc (.cells #[.int .i64 a] 3)) #[.int .i64 1] 3 (w2.heap.size + 1) (by simp)).free
  have F1 := (Blk.newAt (w2.alloc (.cells #[.int .i64 a] 3)) #[.int .i64 1] 3 (w2.heap.size + 1) (by simp)).cell 0 _ rfl
  clear g0 g1 g2 g3 hG
  have hl2 := Y2.lt
  obtain ⟨g1n, hg1n⟩ : ∃ g1n, w.heap.size + 1 = g1n := ⟨_, rfl⟩
  rw [hg1n] at Y1 Y2 hl2 ⊢
  have y1 := Y2.cell 1 _ rfl
  clear hb2 hB0 X1 X2 hA
  go_upto_region 7 with fail
  obtain ⟨w3, hw3⟩ : ∃ w3, (w2.alloc (.cells #[.int .i64 a] 3)).alloc (.cells #[.int .i64 gr] 3) = w3 := ⟨_, rfl⟩
  have O1 := own_keep (World.ownsRow_lit (e := 3) (size := 1) (base := w2.heap.size) w2 #[.int .i64 a] 1 (Nat.le_refl _) (by decide) rfl) (keep_alloc (Below.refl _ _) (.cells #[.int .i64 gr] 3))
  have O2 : ((w2.alloc (.cells #[.int .i64 a] 3)).alloc (.cells #[.int .i64 gr] 3)).ownsRow w2.heap.size 3 1 (.slice (some ⟨w2.heap.size + 1, 0, none⟩) 1 1) 1 ((kdL gr ks 0).flatMap intCells) := own_of_blk (cs := #[.int .i64 gr]) (Blk.newAt (w2.alloc (.cells #[.int .i64 a] 3)) #[.int .i64 gr] 3 (w2.heap.size + 1) (by simp)) (by omega) (by decide) rfl
  have hB3 : Below w2.heap.size w2 ((w2.alloc (.cells #[.int .i64 a] 3)).alloc (.cells #[.int .i64 gr] 3)) := keep_alloc (keep_alloc (Below.refl _ _) _) _
  rw [hw3] at O1 O2 hB3 ⊢
  have hs3 : w3.heap.size = w2.heap.size + 2 := by rw [← hw3]; simp [World.setCell]
  clear hw3 y1 GG F0 F1
  obtain ⟨base, hbase⟩ : ∃ base, w2.heap.size = base := ⟨_, rfl⟩
  rw [hbase] at O1 O2 hB3 hs3 hl2 ⊢
  have hB3' := hB2.trans (hB3.mono (by rw [← hbase]; exact hB2.size))
  have HBS := Lib.hid hbase
  clear hbase
  go_wp2_with fail
  go_loopw [12, 13, 14, 15, 38] (fun l kd _ _ x wq => ∃ (i : Nat), i ≤ pn ∧ x = .int .i64 i ∧ wq.ownsRow base 3 1 l (i + 1) ((locL a b i).flatMap intCells) ∧ wq.ownsRow base 3 1 kd (i + 1) ((kdL gr ks i).flatMap intCells) ∧ ApartV l kd ∧ Below base w2 wq ∧ w3.heap.size ≤ wq.heap.size) (fun _ _ _ _ x _ => pn - (intOf x).toNat)
  case atStart => exact ⟨0, Nat.zero_le _, rfl, O1, O2, Or.inr (by simp [Value.ownBlock]), hB3, Nat.le_refl _⟩
  case round =>
    obtain ⟨i, hi, rfl, o1, o2, hap, hb, hsz⟩ := hrel
    have hbU : Below w2.heap.size w2 wr := by rw [HBS.out]; exact hb
    have hAr := hA2.belowU hbU
    have Z1 := Y1.belowB hb (by omega)
    have Z2 := Y2.belowB hb (by omega)
    have hGr := hG2.belowU hbU
    have K0 := keep_cell hbU G0
    have K1 := keep_cell hbU G1
    have K2 := keep_cell hbU G2
    have K3 := keep_cell hbU G3
    have z0 := Z1.cell 0 _ rfl
    have z1 := Z1.cell 1 _ rfl
    have z2 := Z1.cell 2 _ rfl
    have z3 := Z1.cell 3 _ rfl
    have t2 := Z2.cell 2 _ rfl
    by_cases hlt : i < pn
    · have hd : decide ((i : Int) < (pn : Int)) = true := decide_eq_true (by omega)
      have hd2 : decide (i < pn) = true := decide_eq_true hlt
      have hw : IntKind.i64.wrap ((i : Int) + 1) = (i : Int) + 1 := IntWalk.i64_in _ (by omega)
      obtain ⟨bi, hbi⟩ : ∃ bi, IntKind.i64.wrap (b + (i : Int)) = bi := ⟨_, rfl⟩
      obtain ⟨ki, hki⟩ : ∃ ki, kindL locs bi = ki := ⟨_, rfl⟩
      have HBI := Lib.hid hbi
      have HK := Lib.hid (kind_any p A n c r B m d locs bi _ hAr)
      rw [hki] at HK
      have HKI := Lib.hid hki
      have HLT := Lib.hid hlt
      clear hki hlt
      go_wp2_with fail
      refine HK.out.mono ?_
      clear HK
      rintro e w4 ⟨rfl, hb4⟩
      have t2' := keep_cell hb4 t2
      have o1' := own_keep o1 hb4
      have o2' := own_keep o2 hb4
      have hbB := hb.trans (hb4.mono (by have := hb.size; have := HBS.out; omega))
      have hsz4 := Nat.le_trans hsz hb4.size
      obtain ⟨kg, hkg⟩ : ∃ kg, kindL gl (i : Int) = kg := ⟨_, rfl⟩
      have HKG := Lib.hid (kind_any gp GA gn gc gr GB gm gd gl (i : Int) _ (hGr.belowU hb4))
      rw [hkg] at HKG
      have HKI2 := Lib.hid hkg
      have M0 := keep_cell hb4 K0
      have M1 := keep_cell hb4 K1
      have M2 := keep_cell hb4 K2
      have M3 := keep_cell hb4 K3
      clear hkg t2 o1 o2 K0 K1 K2 K3 z0 z1 z2 z3
      go_wp2_with fail
      refine HKG.out.mono ?_
      clear HKG
      rintro e w5b ⟨rfl, hb5b⟩
      have t2 := keep_cell hb5b t2'
      have o1 := own_keep o1' hb5b
      have o2 := own_keep o2' hb5b
      have hbB2 := hbB.trans (hb5b.mono (by have := hbB.size; have := HBS.out; omega))
      have hsz5 := Nat.le_trans hsz4 hb5b.size
      clear t2' o1' o2' hbB M0 M1 M2 M3 hb5b
      obtain ⟨o1', o2', hbB⟩ := And.intro o1 (And.intro o2 hbB2)
      have hbz : base ≤ w5b.heap.size := by omega
      have q1 : i + 1 + 1 ≤ maxLen := by unfold maxLen; omega
      have q2 : (i + 1 + 1) * 8 ≤ 140737488355328 := by omega
      have N1 := Reads.freshAs w5b #[.int .i64 bi] 3 1 1 [.int .i64 bi] rfl rfl (by decide)
      have O1' := own_keep o1' (keep_alloc (Below.refl _ _) (.cells #[.int .i64 bi] 3))
      have O2' := own_keep o2' (keep_alloc (Below.refl _ _) (.cells #[.int .i64 bi] 3))
      have HB4 := Lib.hid hbB
      clear hbB hb4 hb hbU o1' o2'
      go_wp2_with (at_builtin; first
        | (refine wpList_appB rfl _ _ _ rfl tyInts rfl O1' rfl N1 (by simp [Value.oneCell']) q1 q2 (by simp; omega) ?_; intro v5 w5 o5 hg5 hb5; have hbw5 := below_ownN O1' hg5 (Nat.le_refl _) (by simp; omega); obtain ⟨O5, hap5⟩ := hap.app O2' hg5 hb5; obtain ⟨A5, c5, rfl, -⟩ := Reads.own o5; have N2 := Reads.freshAs w5 #[.int .i64 kg] 3 1 1 [.int .i64 kg] rfl rfl (by decide); have O5' := own_keep O5 (keep_alloc (Below.refl _ _) (.cells #[.int .i64 kg] 3)); have O6' := own_keep o5 (keep_alloc (Below.refl _ _) (.cells #[.int .i64 kg] 3)); have hs5 : w5b.heap.size + 1 ≤ w5.heap.size := (by have := hbw5.size; simp at this; exact this); clear hg5 hb5 O1' O2' o5 O5 N1)
        | (refine wpList_appB rfl _ _ _ rfl tyInts rfl O5' rfl N2 (by simp [Value.oneCell']) q1 q2 (by simp; omega) ?_; intro v6 w6 o6 hg6 hb6; have hbw6 := below_ownN O5' hg6 (Nat.le_refl _) (by simp; omega); obtain ⟨O7, hap6⟩ := hap5.symm.app O6' hg6 hb6; obtain ⟨A6, c6, rfl, -⟩ := Reads.own o6; clear hg6 hb6 O5' O6' N2))
      go_roundw
      case rel =>
        refine ⟨i + 1, by have := HLT.out; omega, by go_num, ?_, ?_, hap6.symm, ?_, ?_⟩
        · rw [locL_succ, HBI.out]; exact O7
        · have hk2 : ks i = kg := by rw [← HKS.out]; dsimp only; rw [HKI2.out]
          rw [kdL_succ, hk2]; exact o6
        · exact (HB4.out.trans (keep_allocN hbz hbw5)).trans (keep_allocN (by omega) hbw6)
        · have := hbw6.size; simp at this; omega
      case measure => have := HLT.out; simp [intOf]; omega
    · have hin : i = pn := by omega
      subst hin
      have hd : decide ((i : Int) < (i : Int)) = false := by simp
      have hd2 : decide (i < i) = false := by simp
      clear hlt z0 z1 z2 z3 t2
      go_wp2_with fail
      obtain ⟨A1, c1, rfl, r1⟩ := Reads.own o1
      obtain ⟨A2, c2, rfl, r2⟩ := Reads.own o2
      refine bodyPost_ret (v := .tuple #[.slice A1 (i + 1) c1, .slice A2 (i + 1) c2, .bool true]) (by simp [results, Tryd.results35]) rfl ?_
      exact ⟨A1, c1, A2, c2, by rw [locL_len, kdL_len], by rw [locL_len]; exact r1, by rw [kdL_len]; exact r2, hB2.trans (hb.mono (by rw [← HBS.out]; exact hB2.size))⟩
end Go.Proofs.YtnnchinpmnpfiaaDoor

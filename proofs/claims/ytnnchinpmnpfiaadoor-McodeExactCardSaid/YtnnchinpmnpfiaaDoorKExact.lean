/- McodeExact, the plain law: in a right program each instruction's locals exist and are of its kinds. -/
import Derived.Test.YtnnchinpmnpfiaaDoorKG
namespace Go.Proofs.YtnnchinpmnpfiaaDoor
open Go.ChangeShapes Go.WideShapes Go.RowKit Words

theorem suitF_at {locs : List Int} : ∀ {ls ks : List Int} {i : Nat} {n : Int}, suitF locs ls ks = true → ls.length = ks.length → ls[i]? = some n → ∃ k, ks[i]? = some k ∧ locs[n.toNat]? = some k
  | [], _, i, n, _, _, h => by simp at h
  | _ :: _, [], _, _, _, h, _ => by simp at h
  | x :: r, y :: s, 0, n, h1, _, h => by
    unfold suitF at h1
    rw [Bool.and_eq_true] at h1
    cases h
    exact ⟨y, rfl, of_decide_eq_true h1.1⟩
  | x :: r, y :: s, i + 1, n, h1, h2, h => by
    unfold suitF at h1
    rw [Bool.and_eq_true] at h1
    obtain ⟨k, h3, h4⟩ := suitF_at (ls := r) (ks := s) (i := i) h1.2 (by simpa using h2) (by simpa using h)
    exact ⟨k, by simpa using h3, h4⟩
theorem exact_law {P : Prg} {pw pg : Int} (h : checkB P pw pg = true) {i : Nat} {f : Fn} (hf : P.fns[i]? = some f) {k : Nat} {x : NI} (hx : f.ins[k]? = some x) :
    ∃ ls ks : List Int, (kindsS P.shs.length f.ins.length P.fns P.nats f.locs f.r x) = (ls, ks, true) ∧ ls.length = ks.length ∧ ls.length ≤ 1000 ∧
      ∀ (j : Nat) n, ls[j]? = some n → 0 ≤ n ∧ ∃ q, ks[j]? = some q ∧ f.locs[n.toNat]? = some q := by
  unfold checkB at h
  simp only [Bool.and_eq_true] at h
  have h1 := List.all_eq_true.1 h.2.2.2.2.2.2.2 f (List.mem_of_getElem? hf)
  unfold fnB validF at h1
  simp only [Bool.and_eq_true] at h1
  have h2 := List.all_eq_true.1 h1.2.2.2.2.2.2.2.2 x (List.mem_of_getElem? hx)
  unfold suitB at h2
  have h3 := kindsS_len P.shs.length f.ins.length P.fns P.nats f.locs f.r x
  have h4 := kindsS_neg (ns := P.shs.length) (m := f.ins.length) (fns := P.fns) (nats := P.nats) (locs := f.locs) (r := f.r) (x := x)
  obtain ⟨ls, ks, ok, hk⟩ : ∃ ls ks ok, kindsS P.shs.length f.ins.length P.fns P.nats f.locs f.r x = (ls, ks, ok) := ⟨_, _, _, rfl⟩
  rw [hk] at h2 h3 h4
  simp only [Bool.and_eq_true] at h2
  obtain ⟨h5, h6, h7⟩ := h2
  dsimp only at h3 h4 h5 h7
  subst h5
  exact ⟨ls, ks, hk, h3.1, h3.2, fun j n hj => ⟨h4 h6 n (List.mem_of_getElem? hj), suitF_at h7 h3.1 hj⟩⟩
/-- n locals and their n kinds come back -/
def RetKn (w : World) (n : Nat) (ls ks : List Int) (e : Ending) (w' : World) : Prop :=
  ∃ A c B d, e = .returned (.tuple #[.slice A n c, .slice B n d, .bool true]) ∧ Reads w' w'.heap.size 1 A n c (ls.flatMap intCells) ∧ Reads w' w'.heap.size 1 B n d (ks.flatMap intCells) ∧ Below w.heap.size w w'
theorem kinds_for {w : World} {S : Option Addr} {ns cs : Nat} {F : Option Addr} {nf cf : Nat} {N : Option Addr} {nn cn : Nat} {P : Prg} {fcs : List FC} (hPl : Plain w) (hP : PrAt w S ns cs F nf cf N nn cn P fcs) (hk : P.ok)
    {pw pg : Int} (hc : checkB P pw pg = true) {i : Nat} {x : FC} {f : Fn} (hx : fcs[i]? = some x) (hf : P.fns[i]? = some f) {k : Nat} {y : NI} (hy : f.ins[k]? = some y) :
    ∃ n1 ls ks, n1 ≤ 1000 ∧ ls.length = n1 ∧ ks.length = n1 ∧ (∀ (j : Nat) n, ls[j]? = some n → 0 ≤ n ∧ ∃ q, ks[j]? = some q ∧ f.locs[n.toNat]? = some q) ∧
      ∀ (u : World) (F' : Option Addr) (cf' : Nat) (fcs' : List FC) (B' : Option Addr) (d' : Nat), Below w.heap.size w u → PrAt u S ns cs F' nf cf' N nn cn P fcs' →
        Calls Tryd.prog 12 #[prV S ns cs F' nf cf' N nn cn, fnV x.p x.A x.n x.c x.r B' f.ins.length d', insV y] u (RetKn u n1 ls ks) := by
  obtain ⟨ls, ks, h1, h2, h3, h4⟩ := exact_law hc hf hy
  refine ⟨ls.length, ls, ks, h3, rfl, h2.symm, h4, fun u F' cf' fcs' B' d' hu hp => ?_⟩
  have hat := hP.each.2 i x f hx hf
  have l1 := hP.shs.length (f := hdCells) (fun _ => rfl) (by omega)
  have l2 := hP.fns.length fcCells_len (by omega)
  have l3 := hP.nats.length (f := intCells) (fun _ => rfl) (by omega)
  have l4 := hP.each.1
  have hfm := hk.fns f (List.mem_of_getElem? hf)
  have := kinds_any S ns cs F' nf cf' N nn cn P fcs' x.p x.A x.n x.c x.r B' f.ins.length d' f.locs y u (hPl.below hu) hp (hat.locs.belowU hu) (hfm.ins y (List.mem_of_getElem? hy))
    (by have := hk.ns; omega) (by have := hk.nf; omega) (by have := hk.nn; omega) hfm.ni
  rw [← l1, hat.r, h1] at this
  dsimp only at this
  rw [← l1, hat.r]
  refine this.mono ?_
  rintro e w' ⟨A, c, B, d, rfl, r1, r2, hb⟩
  rw [← h2] at r2 ⊢
  exact ⟨A, c, B, d, rfl, r1, r2, hb⟩
end Go.Proofs.YtnnchinpmnpfiaaDoor

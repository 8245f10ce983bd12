/- The contracts of ncode.Encode and its reference. -/
import Derived.Test.YtpmdgmgcbminaaaNcode1
import Derived.Test.YtpmdgmgcbminaaaPack
namespace Go.Proofs.Ytpmdgmgcbminaaa
open Go.RowKit Words

/-- the word of an instruction -/
def insW (x : NI) : BitVec 64 := BitVec.ofInt 64 (x.op + 256 * x.a + 4096 * x.b + 1048576 * x.c)
def encL (g : Int) (l : List NI) : List (BitVec 64) := BitVec.ofInt 64 g :: l.flatMap fun x => [insW x, x.k]
def encC (g : Int) (l : List NI) : List (BitVec 64) × Int := if formedC g l = true then (encL g l, 0) else ([], 1)
theorem encL_len (g : Int) (l : List NI) : (encL g l).length = 1 + 2 * l.length := by
  unfold encL
  rw [List.length_cons]
  induction l with
  | nil => rfl
  | cons x r ih => rw [List.flatMap_cons, List.length_append, List.length_cons]; simp at ih ⊢; omega
theorem encL_snoc (g : Int) (l : List NI) (x : NI) : encL g (l ++ [x]) = encL g l ++ [insW x, x.k] := by
  unfold encL
  rw [List.flatMap_append]
  simp
theorem formedC_parts {g : Int} {l : List NI} (h : formedC g l = true) : (0 ≤ g ∧ g ≤ 3) ∧ l.length ≤ 256 ∧ ∀ x ∈ l, formedI x = true := by
  unfold formedC at h
  simp only [Bool.and_eq_true, decide_eq_true_eq, List.all_eq_true] at h
  exact ⟨h.1.1, h.1.2, h.2⟩
def fieldsN (x : NI) : List (Int × BitVec 64) := [(8, BitVec.ofInt 64 x.op), (4, BitVec.ofInt 64 x.a), (8, BitVec.ofInt 64 x.b), (4, BitVec.ofInt 64 x.c)]
theorem pack_ins (x : NI) (h : formedI x = true) : pack (fieldsN x) = (insW x, 0) := by
  obtain ⟨ho, ha, hb, hc⟩ := (formedI_iff x).1 h
  have uo := U_ofInt x.op (by omega) (by omega)
  have ua := U_ofInt x.a (by omega) (by omega)
  have ub := U_ofInt x.b (by omega) (by omega)
  have uc := U_ofInt x.c (by omega) (by omega)
  have f1 : (BitVec.ofInt 64 x.op &&& ~~~ones (8 : Int).toNat == 0#64) = true := by rw [fits_lt _ _ (by decide), uo]; simp; omega
  have f2 : (BitVec.ofInt 64 x.a &&& ~~~ones (4 : Int).toNat == 0#64) = true := by rw [fits_lt _ _ (by decide), ua]; simp; omega
  have f3 : (BitVec.ofInt 64 x.b &&& ~~~ones (8 : Int).toNat == 0#64) = true := by rw [fits_lt _ _ (by decide), ub]; simp; omega
  have f4 : (BitVec.ofInt 64 x.c &&& ~~~ones (4 : Int).toNat == 0#64) = true := by rw [fits_lt _ _ (by decide), uc]; simp; omega
  have hw : wOk (fieldsN x) 64 = true := by simp [wOk, fieldsN]
  have e1 : (0#64 ||| BitVec.ofInt 64 x.op <<< (0 : Int).toNat) = BitVec.ofInt 64 x.op := by simp
  have e2 := U_or_shl (BitVec.ofInt 64 x.op) (BitVec.ofInt 64 x.a) 8 (by rw [uo]; omega) (by rw [ua]; omega)
  rw [uo, ua] at e2
  have e3 := U_or_shl (BitVec.ofInt 64 x.op ||| BitVec.ofInt 64 x.a <<< 8) (BitVec.ofInt 64 x.b) 12 (by rw [e2]; omega) (by rw [ub]; omega)
  rw [e2, ub] at e3
  have e4 := U_or_shl ((BitVec.ofInt 64 x.op ||| BitVec.ofInt 64 x.a <<< 8) ||| BitVec.ofInt 64 x.b <<< 12) (BitVec.ofInt 64 x.c) 20 (by rw [e3]; omega) (by rw [uc]; omega)
  rw [e3, uc] at e4
  have hv' : ((BitVec.ofInt 64 x.op ||| BitVec.ofInt 64 x.a <<< 8) ||| BitVec.ofInt 64 x.b <<< 12) ||| BitVec.ofInt 64 x.c <<< 20 = insW x := by
    apply U_inj
    unfold insW
    rw [e4, U_ofInt _ (by omega) (by omega)]
    omega
  unfold pack
  rw [if_pos hw]
  simp only [fieldsN, packGo, f1, f2, f3, f4, if_true, e1]
  rw [show (0 + 8 : Int).toNat = 8 from rfl, show (0 + 8 + 4 : Int).toNat = 12 from rfl, show (0 + 8 + 4 + 8 : Int).toNat = 20 from rfl, hv']
  rfl

/-- a list of words and an error code come back -/
def RetNW (w : World) (r : List (BitVec 64) × Int) (e : Ending) (w' : World) : Prop :=
  ∃ A c, e = .returned (.tuple #[.slice A r.1.length c, .int .i64 r.2]) ∧ Reads w' w'.heap.size 1 A r.1.length c (r.1.flatMap wordCells) ∧ Below w.heap.size w w'
theorem take_nx {α : Type} {l : List α} {k : Nat} {a : α} (h : l[k]? = some a) : l.take (k + 1) = l.take k ++ [a] := by
  rw [List.take_add_one, h]
  rfl

set_option maxHeartbeats 1000000 in
theorem encode_any (g : Int) (A : Option Addr) (n c : Nat) (l : List NI) (w : World) (h : Reads w w.heap.size 5 A n c (l.flatMap insCells)) :
    Calls Try.prog 13 #[codeV g A n c] w (RetNW w (encC g l)) := by
  have hlen := h.length insCells_len (by omega)
  have hW := code_alloc w 37 g A n c
  have B0 := Blk.new w #[.int .i64 g, .slice A n c] 37
  have ha := h.belowU hW
  cases hf : formedC g l
  · have hr : encC g l = ([], 1) := by unfold encC; rw [hf]; rfl
    rw [hr]
    have HF := Lib.hid hf
    clear hf hr hlen
    go_enter Try.func13, Try.ntmps13
    go_wp2_with (go_at_call 28; refine (formed_any _ _ _ _ _ _ ha).mono ?_; rintro e w1 ⟨rfl, hb⟩; rw [HF.out])
    go_ret2
    exact ⟨none, 0, rfl, Reads.nil, keep_below hb hW⟩
  · have hr : encC g l = (encL g l, 0) := by unfold encC; rw [hf]; rfl
    rw [hr]
    obtain ⟨⟨g0, g1⟩, hn, hall⟩ := formedC_parts hf
    rw [hlen] at hn
    have HF := Lib.hid hf
    have HL := Lib.hid hlen
    have HA := Lib.hid hall
    have wg : IntKind.u64.wrap g = g := IntWalk.u64_in _ (by omega)
    have HG := Lib.hid (U_ofInt g (by omega) (by omega))
    clear hf hr hlen hall
    go_enter Try.func13, Try.ntmps13
    go_wp2_with (go_at_call 28; refine (formed_any _ _ _ _ _ _ ha).mono ?_; rintro e w1 ⟨rfl, hb⟩; rw [HF.out]; have B1 := B0.below hb; have q0 : w1.cell? ⟨w.heap.size, 0, none⟩ = some (.int .i64 g) := B1.cell 0 _ rfl; have q1 : w1.cell? ⟨w.heap.size, 1, none⟩ = some (.slice A n c) := B1.cell 1 _ rfl; have hs1 := hb.size; have hB1 := keep_below hb hW; have Q1 : (w1.alloc (.cells #[.int .u64 g] 56)).cell? ⟨w.heap.size, 1, none⟩ = some (.slice A n c) := (B1.alloc _).cell 1 _ rfl)
    simp only [World.size_alloc] at hs1
    have hown0 := World.ownsRow_lit (e := 56) (size := 1) (base := w1.heap.size) w1 #[.int .u64 g] 1 (Nat.le_refl _) (by decide) rfl
    have hown1 : (w1.alloc (.cells #[.int .u64 g] 56)).ownsRow w1.heap.size 56 1 (.slice (some ⟨w1.heap.size, 0, none⟩) 1 1) (1 + 2 * 0) ((encL g (l.take 0)).flatMap wordCells) := by
      have : (encL g (l.take 0)).flatMap wordCells = [.int .u64 g] := by simp [encL, wordCells, HG.out]
      rw [this]; exact hown0
    have hB2 := keep_alloc hB1 (.cells #[.int .u64 g] 56)
    obtain ⟨w2, hw2⟩ : ∃ w2, w1.alloc (.cells #[.int .u64 g] 56) = w2 := ⟨_, rfl⟩
    have hs2 : w1.heap.size < w2.heap.size := by rw [← hw2]; simp
    rw [hw2] at hown1 hB2 ⊢
    have h2 := h.below hB2
    clear hw2 hown0
    go_loopw [4, 19] (fun v x wq => ∃ k : Nat, k ≤ n ∧ x = .int .i64 k ∧ wq.ownsRow w1.heap.size 56 1 v (1 + 2 * k) ((encL g (l.take k)).flatMap wordCells) ∧ Below w1.heap.size w2 wq) (fun _ x _ => n - (intOf x).toNat)
    case atStart => exact ⟨0, Nat.zero_le _, rfl, hown1, Below.refl _ _⟩
    case round =>
      obtain ⟨k, hk, rfl, hown, hbr⟩ := hrel
      have hsz := hbr.size
      by_cases hlt : k < n
      · obtain ⟨b, off, x, rfl, hbb, hx, hc⟩ := (h2.below (hbr.mono (by omega))).elem insCells_len (by omega) hlt
        have d0 := hc 0 _ rfl
        have d1 := hc 1 _ rfl
        have d2 := hc 2 _ rfl
        have d3 := hc 3 _ rfl
        have d4 := hc 4 _ rfl
        rw [Nat.add_zero] at d0
        have hk0 : (0 : Int) ≤ (k : Int) := by omega
        have hk1 : (k : Int) < (n : Int) := by omega
        have hfx := HA.out x (List.mem_of_getElem? hx)
        have hpk := pack_ins x hfx
        obtain ⟨ho, ha, hb', hc'⟩ := (formedI_iff x).1 hfx
        have w1' : IntKind.u64.wrap x.op = x.op := IntWalk.u64_in _ (by omega)
        have w2' : IntKind.u64.wrap x.a = x.a := IntWalk.u64_in _ (by omega)
        have w3' : IntKind.u64.wrap x.b = x.b := IntWalk.u64_in _ (by omega)
        have w4' : IntKind.u64.wrap x.c = x.c := IntWalk.u64_in _ (by omega)
        have hfields : (#[.int .i64 8, .int .u64 x.op, .int .i64 4, .int .u64 x.a, .int .i64 8, .int .u64 x.b, .int .i64 4, .int .u64 x.c] : Array Value).toList = (fieldsN x).flatMap fieldCells := by
          simp [fieldsN, fieldCells, U_ofInt x.op (by omega) (by omega), U_ofInt x.a (by omega) (by omega), U_ofInt x.b (by omega) (by omega), U_ofInt x.c (by omega) (by omega)]
        have hfr := Reads.freshAt (wr.alloc (.cells #[.int .i64 x.op, .int .i64 x.a, .int .i64 x.b, .int .i64 x.c, .int .u64 (U x.k)] 60)) #[.int .i64 8, .int .u64 x.op, .int .i64 4, .int .u64 x.a, .int .i64 8, .int .u64 x.b, .int .i64 4, .int .u64 x.c] 68 2 4 ((fieldsN x).flatMap fieldCells) (wr.heap.size + 1) (by simp) hfields rfl (by decide)
        have I0 := (Blk.new wr #[.int .i64 x.op, .int .i64 x.a, .int .i64 x.b, .int .i64 x.c, .int .u64 (U x.k)] 60).alloc (.cells #[.int .i64 8, .int .u64 x.op, .int .i64 4, .int .u64 x.a, .int .i64 8, .int .u64 x.b, .int .i64 4, .int .u64 x.c] 68)
        have hbA : Below w1.heap.size w2 ((wr.alloc (.cells #[.int .i64 x.op, .int .i64 x.a, .int .i64 x.b, .int .i64 x.c, .int .u64 (U x.k)] 60)).alloc (.cells #[.int .i64 8, .int .u64 x.op, .int .i64 4, .int .u64 x.a, .int .i64 8, .int .u64 x.b, .int .i64 4, .int .u64 x.c] 68)) := (hbr.alloc (by omega) _).alloc (by simp; omega) _
        have hownA := (hown.alloc (.cells #[.int .i64 x.op, .int .i64 x.a, .int .i64 x.b, .int .i64 x.c, .int .u64 (U x.k)] 60)).alloc (.cells #[.int .i64 8, .int .u64 x.op, .int .i64 4, .int .u64 x.a, .int .i64 8, .int .u64 x.b, .int .i64 4, .int .u64 x.c] 68)
        have hsn := encL_snoc g (l.take k) x
        rw [← take_nx hx] at hsn
        have HS := Lib.hid hsn
        have HP := Lib.hid hpk
        have q1' : 1 + 2 * k + 2 ≤ maxLen := by unfold maxLen; omega
        have q2' : (1 + 2 * k + 2) * 8 ≤ 140737488355328 := by omega
        clear hc hx hfx hpk hfields hsn q0 q1 Q1
        go_wp2_with fail
        refine (pack_any _ _ _ _ _ hfr).mono ?_
        rw [HP.out]
        rintro e w5 ⟨rfl, hb5⟩
        unfold retW
        have I5 := I0.below hb5
        have i4 : w5.cell? ⟨wr.heap.size, 4, none⟩ = some (.int .u64 (U x.k)) := I5.cell 4 _ rfl
        have hown5 := own_keep hownA hb5
        have hs5 := hb5.size
        have hb5' := hbA.trans (hb5.mono (by simp; omega))
        clear d0 d1 d2 d3 d4 hown hownA hfr
        go_wp2_with (at_builtin; refine wpList_app rfl _ _ _ rfl tyNWords rfl (hown5.alloc _) rfl (Reads.fresh _ _ _ 1 2 rfl (by decide)) (by simp [Value.oneCell']) q1' q2' (by simp at hs5 ⊢; omega) ?_; intro v' w6 hown' hb')
        go_roundw
        case rel =>
          refine ⟨k + 1, by omega, by go_num, ?_, ?_⟩
          · rw [HS.out, List.flatMap_append]; exact hown'
          · exact (hb5'.alloc (by simp at hs5; omega) _).trans hb'
        case measure => simp [intOf]; omega
      · have hkn : k = n := by omega
        subst hkn
        rw [List.take_of_length_le (by rw [HL.out]; omega)] at hown
        obtain ⟨A', c', rfl, hr'⟩ := Reads.own hown
        have hel := encL_len g l
        rw [HL.out] at hel
        have HE := Lib.hid hel
        clear hel
        go_wp2_with fail
        go_ret2
        exact ⟨A', c', by rw [HE.out]; rfl, by rw [HE.out]; exact hr', hB2.trans (hbr.mono (by omega))⟩
end Go.Proofs.Ytpmdgmgcbminaaa

/- The walk of BitsBack. -/
import Derived.Test.YtcjmaodfeokbaaaWBitsPacks
import Derived.Test.YtcjmaodfeokbaaaBack
namespace Go.Proofs.Ytcjmaodfeokbaaa
open Go.ChangeShapes Go.WideShapes Go.RowKit Words

set_option maxHeartbeats 1000000 in
theorem walkBitsBack {H : Type} {enc : TypeId × Value → H} (W : World) (base : Nat) {v0 v1 : Value} {d0 d1 : DataW H} {p0 p1 : List MemPlace}
    (o0 : Value.okWide Try.prog W .any base 26 v0) (h0 : DataW.Trod enc Try.prog W 0 (fun _ => true) true 26 v0 d0 p0)
    (o1 : Value.okWide Try.prog W .any base 23 v1) (h1 : DataW.Trod enc Try.prog W 0 (fun _ => true) true 23 v1 d1 p1) :
    Calls Try.prog 8 #[v0, v1] W fun e w' => e = .returned (.bool true) ∧ Below W.heap.size W w' := by
  obtain ⟨A, n, c, l, rfl, hr, _⟩ := open_fields o0 h0
  obtain ⟨x, rfl⟩ := open_word Try.underlying23 o1 h1
  clear h0 o0 h1 o1
  have hcap := hr.cap
  have hle := hr.le
  have hlen := hr.length (fun _ => rfl) (by omega)
  have HL := Lib.hid hlen
  clear hlen
  unfold maxLen at hcap
  by_cases hn : 100 < n
  · go_enter Try.func8, Try.ntmps8
    go_wp2_with fail
    go_ret
    exact ⟨rfl, Below.refl _ _⟩
  · go_enter Try.func8, Try.ntmps8
    go_wp2_with fail
    go_loopw [5, 6] (fun v i wr => ∃ (k : Nat) (acc : List Int), k ≤ n ∧ i = .int .i64 k ∧ acc.length = k ∧ wr.ownsRow W.heap.size 3 1 v k (acc.flatMap intCells) ∧ Below W.heap.size W wr ∧ l.map (·.1) = acc ++ (l.drop k).map (·.1)) (fun _ i _ => n - (intOf i).toNat)
    case atStart => exact ⟨0, [], Nat.zero_le _, rfl, rfl, World.ownsRow_nil _ _ _ _, Below.refl _ _, rfl⟩
    case round =>
      obtain ⟨k, acc, hk, rfl, hacc, hown, hb, hspec⟩ := hrel
      have hsz := hb.size
      by_cases hlt : k < n
      · obtain ⟨b, off, a, rfl, hbb, ha, hc⟩ := (hr.below hb).elem (fun _ => rfl) (by omega) hlt
        have c0 := hc 0 _ rfl
        rw [Nat.add_zero] at c0
        rw [drop_at ha] at hspec
        have H := Lib.hid hspec
        have HA := Lib.hid hacc
        clear hspec ha hc hacc
        go_wp2_with (at_builtin; refine wpList_app rfl _ _ _ rfl tyInts rfl (hown.alloc _) rfl (Reads.fresh _ _ _ 1 1 rfl (by decide)) (by simp [Value.oneCell']) ?c1 ?c2 ?c3 ?_)
        case c1 => unfold maxLen; omega
        case c2 => omega
        case c3 => first | omega | (simp; omega)
        intro v' w1 hown' hb'
        go_wp2
        go_roundw
        case rel =>
          refine ⟨k + 1, acc ++ [a.1], by omega, by go_num, by rw [List.length_append, HA.out]; rfl, ?_, ?_, ?_⟩
          · rw [List.flatMap_append]; exact hown'
          · exact (hb.alloc hsz _).trans hb'
          · rw [H.out]; simp
        case measure => simp [intOf]; omega
      · have hend := drop_end HL.out hlt
        rw [hend] at hspec
        simp only [List.map_nil, List.append_nil] at hspec
        have hkn : k = n := by omega
        subst hkn
        obtain ⟨A1, c1, rfl, hrw1⟩ := Reads.own hown
        rw [← hspec] at hrw1
        clear hspec hend hacc hown acc
        go_wp2_with fail
        refine (fields_any A k c l _ (hr.belowU hb) (by omega)).mono ?_
        rintro e w1 ⟨A2, c2, rfl, hr2, hb1⟩
        go_wp2_with fail
        refine (pack_any _ _ _ _ _ hr2).mono ?_
        rintro e w2 ⟨rfl, hb2⟩
        unfold retW
        have s1 := hb1.size
        have s2 := hb2.size
        have hb12 := hb1.trans (hb2.mono s1)
        have hrw := hrw1.belowU hb12
        have hrw1 := True.intro
        have hb' := hb.trans (hb12.mono hsz)
        have hs2 := hb'.size
        clear hb hb1 hb2 hr2 hsz
        by_cases hp : (pack l).2 = 0
        · have hp1 : ((pack l).2 == 0) = true := by simp [hp]
          have hup := unpack_pack l hp
          have HU := Lib.hid hup
          clear hup hp
          go_wp2_with fail
          refine (unpack_any _ _ _ _ _ _ hrw).mono ?_
          rw [HU.out]
          rintro e w3 ⟨A3, c3, he3, hr3, hb3⟩
          have hl3 : (l.map (·.2)).length = k := by rw [List.length_map]; exact HL.out
          simp only [hl3] at he3 hr3
          subst he3
          have HL3 := Lib.hid hl3
          clear hl3
          have s3 := hb3.size
          have hb := hb'.trans (hb3.mono (by omega))
          have hrw' := hrw.belowU hb3
          clear hb' hrw hb3 hrw1
          go_wp2_with fail
          go_loopw [11] (fun i wr => ∃ (j m : Nat), j ≤ k ∧ i = .int .i64 j ∧ wr = w3.drewN m) (fun i _ => k - (intOf i).toNat)
          case atStart => exact ⟨0, 0, Nat.zero_le _, rfl, rfl⟩
          case round =>
            obtain ⟨j, m, hj, rfl, rfl⟩ := hrel
            by_cases hlt : j < k
            · obtain ⟨b, off, a, rfl, hbb, ha, hc⟩ := (hr.below hb).elem (fun _ => rfl) (by omega) hlt
              have cc1 := hc 1 _ rfl
              obtain ⟨b', off', a', rfl, hbb', ha', hc'⟩ := hr3.elem (fun _ => rfl) (by omega) hlt
              have cc0 := hc' 0 _ rfl
              rw [Nat.mul_one, Nat.add_zero] at cc0
              rw [List.getElem?_map, ha] at ha'
              simp only [Option.map_some, Option.some.injEq] at ha'
              subst ha'
              clear ha hc hc'
              have hk0 : (0 : Int) ≤ (j : Int) := by omega
              have hk1 : (j : Int) < (k : Int) := by omega
              go_wp2_with fail
              go_quiet (fail)
              go_wp2
              go_roundw
              case rel => exact ⟨j + 1, _, by omega, by go_num, rfl⟩
              case measure => simp [intOf]; omega
            · have hb0 := below_drewN hb m
              have hrw0 : Reads (w3.drewN m) (w3.drewN m).heap.size 1 A1 k c1 ((l.map (·.1)).flatMap intCells) := hrw'.drewN m
              generalize w3.drewN m = w4 at *
              clear hb hrw'
              have hb := hb0
              have hrw := hrw0
              clear hb0 hrw0
              obtain ⟨n, rfl⟩ : ∃ n, n = k := ⟨_, rfl⟩
              have hsz := hb.size
              go_wp2_with fail
              refine (unpack_any x _ _ _ _ _ hrw).mono ?_
              rintro e w3 ⟨A3, c3, rfl, hr3, hb3⟩
              have hsz3 := hb3.size
              have hB3 := hb.trans (hb3.mono hsz)
              by_cases hq : (unpack x (l.map (·.1))).2 = 0
              · obtain ⟨hlq, hpq⟩ := pack_unpack (l.map (·.1)) x hq
                have hq1 : ((unpack x (l.map (·.1))).2 != 0) = false := by simp [hq]
                generalize hm : (unpack x (l.map (·.1))).1 = ms at *
                generalize he : (unpack x (l.map (·.1))).2 = er at *
                have hmn : ms.length = n := by rw [hlq, List.length_map]; exact HL.out
                rw [hmn] at hr3 ⊢
                have HP := Lib.hid hpq
                have HM := Lib.hid hmn
                have hrw3 := hrw.below hb3
                clear hm he hpq hlq hmn hq
                go_wp2_with fail
                go_loopw [14, 15] (fun v i wr => ∃ (k : Nat) (acc : List (Int × BitVec 64)), k ≤ n ∧ i = .int .i64 k ∧ acc.length = k ∧ wr.ownsRow w3.heap.size 47 2 v k (acc.flatMap fieldCells) ∧ Below w3.heap.size w3 wr ∧ (l.map (·.1)).zip ms = acc ++ ((l.map (·.1)).zip ms).drop k) (fun _ i _ => n - (intOf i).toNat)
                case atStart => exact ⟨0, [], Nat.zero_le _, rfl, rfl, World.ownsRow_nil _ _ _ _, Below.refl _ _, rfl⟩
                case round =>
                  obtain ⟨k, acc, hk, rfl, hacc, hown, hbq, hspec⟩ := hrel
                  have hszq := hbq.size
                  by_cases hlt : k < n
                  · obtain ⟨b, off, a, rfl, hbb, ha, hc⟩ := ((hrw3.more (Nat.le_refl _)).keep (w' := wr) (fun b o hh => hbq.cell (p := ⟨b, o, none⟩) (by show b < _; omega))).elem (fun _ => rfl) (by omega) hlt
                    have c0 := hc 0 _ rfl
                    rw [Nat.mul_one, Nat.add_zero] at c0
                    obtain ⟨b', off', a', rfl, hbb', ha', hc'⟩ := (hr3.below hbq).elem (fun _ => rfl) (by omega) hlt
                    have c0' := hc' 0 _ rfl
                    rw [Nat.mul_one, Nat.add_zero] at c0'
                    have hzip : ((l.map (·.1)).zip ms)[k]? = some (a, a') := by rw [List.getElem?_zip_eq_some]; exact ⟨ha, ha'⟩
                    rw [drop_at hzip] at hspec
                    have H := Lib.hid hspec
                    have HA := Lib.hid hacc
                    clear hspec ha ha' hc hc' hacc hzip
                    have hk0 : (0 : Int) ≤ (k : Int) := by omega
                    have hk1 : (k : Int) < (n : Int) := by omega
                    have hbw : b < wr.heap.size := by omega
                    have hbw' : b' < wr.heap.size := by omega
                    have q1 : k + 1 ≤ maxLen := by unfold maxLen; omega
                    have q2 : (k + 1) * 16 ≤ 140737488355328 := by omega
                    go_wp2_with fail
                    go_region_held3 (fun w' => w'.cell? ⟨b, off + k, none⟩ = some (.int .i64 a) ∧ w'.cell? ⟨b', off' + k, none⟩ = some (.int .u64 (U a')))
                      (first | go_keep | (go_split_ands; refine ⟨?_, ?_⟩ <;> (rw [hbv.cell (by first | exact hbb' | (show b < _; omega))]; assumption)))
                      ((refine step_app rfl _ _ _ (by rfl) tyFields (by rfl) ((hown.alloc _).drew) (by rfl) (Reads.fresh wr _ _ 2 1 rfl (by decide)).drew (by simp [Value.oneCell']) q1 q2 (by simp; omega) ?_; intro v' w1 hown1 hbv))
                    go_wp2
                    go_roundw
                    case rel =>
                      refine ⟨k + 1, acc ++ [(a, a')], by omega, by go_num, by rw [List.length_append, HA.out]; rfl, ?_, ?_, ?_⟩
                      · rw [List.flatMap_append]; exact hown1
                      · exact ((hbq.alloc hszq _).drew).trans hbv
                      · rw [List.append_assoc]; exact H.out
                    case measure => simp [intOf]; omega
                  · have hkn : k = n := by omega
                    subst hkn
                    have hend : ((l.map (·.1)).zip ms).drop k = [] := List.drop_eq_nil_of_le (by rw [List.length_zip, List.length_map, HL.out, HM.out]; omega)
                    rw [hend, List.append_nil] at hspec
                    rw [← hspec] at hown
                    clear hspec hend
                    obtain ⟨A', c', rfl, hr⟩ := Reads.own hown
                    have HP2 := HP.out
                    have HP3 := Lib.hid HP2
                    clear HP2
                    go_wp2_with fail
                    refine (pack_any _ _ _ _ _ hr).mono ?_
                    rw [HP3.out]
                    rintro e w5 ⟨rfl, hb5⟩
                    unfold retW
                    go_wp2_with fail
                    refine (awake_any _).mono ?_
                    rintro e w6 ⟨rfl, hb6⟩
                    go_wp2
                    go_ret
                    have s5 := hb5.size
                    exact ⟨rfl, ((hB3.trans (hbq.mono (by omega))).trans (hb5.mono (by omega))).trans (hb6.mono (by omega))⟩
              · have hq1 : ((unpack x (l.map (·.1))).2 != 0) = true := by simp [hq]
                clear hq
                go_wp2_with fail
                refine (awake_any _).mono ?_
                rintro e w4 ⟨rfl, hb4⟩
                go_wp2
                go_ret
                exact ⟨rfl, hB3.trans (hb4.mono (by omega))⟩
        · have hp1 : ((pack l).2 == 0) = false := by simp [hp]
          clear hp
          have hb := hb'
          clear hb'
          obtain ⟨n, rfl⟩ : ∃ n, n = k := ⟨_, rfl⟩
          have hsz := hb.size
          go_wp2_with fail
          refine (unpack_any x _ _ _ _ _ hrw).mono ?_
          rintro e w3 ⟨A3, c3, rfl, hr3, hb3⟩
          have hsz3 := hb3.size
          have hB3 := hb.trans (hb3.mono hsz)
          by_cases hq : (unpack x (l.map (·.1))).2 = 0
          · obtain ⟨hlq, hpq⟩ := pack_unpack (l.map (·.1)) x hq
            have hq1 : ((unpack x (l.map (·.1))).2 != 0) = false := by simp [hq]
            generalize hm : (unpack x (l.map (·.1))).1 = ms at *
            generalize he : (unpack x (l.map (·.1))).2 = er at *
            have hmn : ms.length = n := by rw [hlq, List.length_map]; exact HL.out
            rw [hmn] at hr3 ⊢
            have HP := Lib.hid hpq
            have HM := Lib.hid hmn
            have hrw3 := hrw.below hb3
            clear hm he hpq hlq hmn hq
            go_wp2_with fail
            go_loopw [14, 15] (fun v i wr => ∃ (k : Nat) (acc : List (Int × BitVec 64)), k ≤ n ∧ i = .int .i64 k ∧ acc.length = k ∧ wr.ownsRow w3.heap.size 47 2 v k (acc.flatMap fieldCells) ∧ Below w3.heap.size w3 wr ∧ (l.map (·.1)).zip ms = acc ++ ((l.map (·.1)).zip ms).drop k) (fun _ i _ => n - (intOf i).toNat)
            case atStart => exact ⟨0, [], Nat.zero_le _, rfl, rfl, World.ownsRow_nil _ _ _ _, Below.refl _ _, rfl⟩
            case round =>
              obtain ⟨k, acc, hk, rfl, hacc, hown, hbq, hspec⟩ := hrel
              have hszq := hbq.size
              by_cases hlt : k < n
              · obtain ⟨b, off, a, rfl, hbb, ha, hc⟩ := ((hrw3.more (Nat.le_refl _)).keep (w' := wr) (fun b o hh => hbq.cell (p := ⟨b, o, none⟩) (by show b < _; omega))).elem (fun _ => rfl) (by omega) hlt
                have c0 := hc 0 _ rfl
                rw [Nat.mul_one, Nat.add_zero] at c0
                obtain ⟨b', off', a', rfl, hbb', ha', hc'⟩ := (hr3.below hbq).elem (fun _ => rfl) (by omega) hlt
                have c0' := hc' 0 _ rfl
                rw [Nat.mul_one, Nat.add_zero] at c0'
                have hzip : ((l.map (·.1)).zip ms)[k]? = some (a, a') := by rw [List.getElem?_zip_eq_some]; exact ⟨ha, ha'⟩
                rw [drop_at hzip] at hspec
                have H := Lib.hid hspec
                have HA := Lib.hid hacc
                clear hspec ha ha' hc hc' hacc hzip
                have hk0 : (0 : Int) ≤ (k : Int) := by omega
                have hk1 : (k : Int) < (n : Int) := by omega
                have hbw : b < wr.heap.size := by omega
                have hbw' : b' < wr.heap.size := by omega
                have q1 : k + 1 ≤ maxLen := by unfold maxLen; omega
                have q2 : (k + 1) * 16 ≤ 140737488355328 := by omega
                go_wp2_with fail
                go_region_held3 (fun w' => w'.cell? ⟨b, off + k, none⟩ = some (.int .i64 a) ∧ w'.cell? ⟨b', off' + k, none⟩ = some (.int .u64 (U a')))
                  (first | go_keep | (go_split_ands; refine ⟨?_, ?_⟩ <;> (rw [hbv.cell (by first | exact hbb' | (show b < _; omega))]; assumption)))
                  ((refine step_app rfl _ _ _ (by rfl) tyFields (by rfl) ((hown.alloc _).drew) (by rfl) (Reads.fresh wr _ _ 2 1 rfl (by decide)).drew (by simp [Value.oneCell']) q1 q2 (by simp; omega) ?_; intro v' w1 hown1 hbv))
                go_wp2
                go_roundw
                case rel =>
                  refine ⟨k + 1, acc ++ [(a, a')], by omega, by go_num, by rw [List.length_append, HA.out]; rfl, ?_, ?_, ?_⟩
                  · rw [List.flatMap_append]; exact hown1
                  · exact ((hbq.alloc hszq _).drew).trans hbv
                  · rw [List.append_assoc]; exact H.out
                case measure => simp [intOf]; omega
              · have hkn : k = n := by omega
                subst hkn
                have hend : ((l.map (·.1)).zip ms).drop k = [] := List.drop_eq_nil_of_le (by rw [List.length_zip, List.length_map, HL.out, HM.out]; omega)
                rw [hend, List.append_nil] at hspec
                rw [← hspec] at hown
                clear hspec hend
                obtain ⟨A', c', rfl, hr⟩ := Reads.own hown
                have HP2 := HP.out
                have HP3 := Lib.hid HP2
                clear HP2
                go_wp2_with fail
                refine (pack_any _ _ _ _ _ hr).mono ?_
                rw [HP3.out]
                rintro e w5 ⟨rfl, hb5⟩
                unfold retW
                go_wp2_with fail
                refine (awake_any _).mono ?_
                rintro e w6 ⟨rfl, hb6⟩
                go_wp2
                go_ret
                have s5 := hb5.size
                exact ⟨rfl, ((hB3.trans (hbq.mono (by omega))).trans (hb5.mono (by omega))).trans (hb6.mono (by omega))⟩
          · have hq1 : ((unpack x (l.map (·.1))).2 != 0) = true := by simp [hq]
            clear hq
            go_wp2_with fail
            refine (awake_any _).mono ?_
            rintro e w4 ⟨rfl, hb4⟩
            go_wp2
            go_ret
            exact ⟨rfl, hB3.trans (hb4.mono (by omega))⟩
end Go.Proofs.Ytcjmaodfeokbaaa

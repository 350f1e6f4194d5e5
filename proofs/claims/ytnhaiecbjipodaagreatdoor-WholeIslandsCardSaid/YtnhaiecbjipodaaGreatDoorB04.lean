/- Contracts of the program's functions, by walks, and plain facts beside them: Wide, WideM. -/
import Derived.Test.YtnhaiecbjipodaaGreatDoorB03
import Derived.Test.YtnhaiecbjipodaaGreatDoorProg
import Derived.Test.YtnhaiecbjipodaaGreatDoorB02
import Derived.WalkKit
import Derived.WalkSpells
import Derived.WalkLawsBesides
import Derived.Deep.QuietTactic
import Derived.BigQuiet
import Derived.Lib.Hide
import Derived.Deep.DeepCutAuto
import Derived.Deep.CutBlock
import Derived.Laws.Externs
/- The contracts of bits.Div64 and of the program's package wide. -/
namespace Go.Proofs.YtnhaiecbjipodaaGreatDoor
open Go.RowKit

set_option maxHeartbeats 400000 in
theorem magnitude_any (a : Int) (w : World) (h0 : -9223372036854775808 ≤ a) (h1 : a ≤ 9223372036854775807) :
    Calls Tryz.prog 188 #[.int .i64 a] w fun e w' => e = .returned (.int .u64 (a.natAbs : Int)) ∧ w = w' := by
  by_cases h : a < 0
  · go_enter Tryz.func188, Tryz.ntmps188
    go_wp2
    go_ret
    exact ⟨ret_int (by rw [IntKind.wrap_u64, IntKind.wrap_u64]; omega), rfl⟩
  · go_enter Tryz.func188, Tryz.ntmps188
    go_wp2
    go_ret
    exact ⟨ret_int (by omega), rfl⟩

set_option maxHeartbeats 400000 in
theorem div64_low (lo y : Int) (w : World) (h0 : 0 ≤ lo) (h1 : lo ≤ 18446744073709551615) (y0 : 0 < y) (y1 : y ≤ 18446744073709551615) :
    Calls Tryz.prog 189 #[.int .u64 0, .int .u64 lo, .int .u64 y] w fun e w' => e = .returned (.tuple #[.int .u64 (lo / y), .int .u64 (lo % y)]) ∧ ∃ k, w' = w.drewN k := by
  have hy : (y == 0) = false := by rw [beq_eq_false_iff_ne]; omega
  go_enter Tryz.func189, Tryz.ntmps189
  go_wp2
  go_quiet (fail)
  go_wp2
  go_ret2
  exact ⟨rfl, _, rfl⟩

theorem and32 {x : Int} (h0 : 0 ≤ x) (h1 : x ≤ 18446744073709551615) : bits BinOp.and IntKind.u64 x 4294967295 = x % 4294967296 := by
  have h := bits_and_u64_nat x.toNat 4294967295 (by omega) (by omega)
  rw [Int.toNat_of_nonneg h0] at h
  have h2 : x.toNat &&& 4294967295 = x.toNat % 4294967296 := Nat.and_two_pow_sub_one_eq_mod x.toNat 32
  rw [h2] at h
  have h3 : ((x.toNat % 4294967296 : Nat) : Int) = x % 4294967296 := by omega
  exact h.trans h3
theorem or_parts {a b : Int} {s : Nat} (ha : 0 ≤ a) (hb : 0 ≤ b) (hb2 : b < 2 ^ s) (hab : a * 2 ^ s + b ≤ 18446744073709551615) : bits BinOp.or IntKind.u64 (a * 2 ^ s) b = a * 2 ^ s + b := by
  obtain ⟨m, rfl⟩ := Int.eq_ofNat_of_zero_le ha
  obtain ⟨n, rfl⟩ := Int.eq_ofNat_of_zero_le hb
  have e : (m : Int) * 2 ^ s = ((m * 2 ^ s : Nat) : Int) := by push_cast; rfl
  have hn : n < 2 ^ s := by exact_mod_cast hb2
  rw [e] at hab ⊢
  rw [bits_or_u64_nat _ _ (by omega) (by omega), ← Nat.shiftLeft_eq, ← Nat.shiftLeft_add_eq_or_of_lt hn, Nat.shiftLeft_eq]
  push_cast; rfl

set_option maxHeartbeats 4000000 in
theorem div64_high (hi lo y : Int) (s : Nat) (w : World) (hi0 : 0 < hi) (hi1 : hi < y) (l0 : 0 ≤ lo) (l1 : lo ≤ 18446744073709551615) (y1 : y ≤ 18446744073709551615) (hs : (64 : Int) - (Lib.bitLen y.toNat : Int) = s) (hs2 : s ≤ 63) (hn0 : 9223372036854775808 ≤ y * 2 ^ s) (hn1 : y * 2 ^ s ≤ 18446744073709551615) :
    Calls Tryz.prog 189 #[.int .u64 hi, .int .u64 lo, .int .u64 y] w fun e w' => e = .returned (.tuple #[.int .u64 ((hi * 18446744073709551616 + lo) / y), .int .u64 ((hi * 18446744073709551616 + lo) % y)]) ∧ ∃ k, w' = w.drewN k := by
  have hy : (y == 0) = false := by rw [beq_eq_false_iff_ne]; omega
  have hh : (hi == 0) = false := by rw [beq_eq_false_iff_ne]; omega
  have LZ := Lib.hid (Tryz.bits_LeadingZeros64 y w (by omega) y1)
  have hpow : (2 : Int) ^ (64 - s) * 2 ^ s = 18446744073709551616 := by rw [← Int.pow_add, show 64 - s + s = 64 by omega]; rfl
  have hp : (0 : Int) < 2 ^ s := Int.pow_pos (by omega)
  have hq : (0 : Int) < 2 ^ (64 - s) := Int.pow_pos (by omega)
  have SH := Lib.hid (shifted_of hp hq hpow (by omega) hi1 l0 l1)
  have hu := SH.out.U0
  have hult := SH.out.lt
  have hd0 := Int.ediv_nonneg l0 (show (0 : Int) ≤ 2 ^ (64 - s) by omega)
  have hdl : lo / 2 ^ (64 - s) < 2 ^ s := by
    rw [Int.ediv_lt_iff_lt_mul hq, Int.mul_comm, hpow]; omega
  have hhp : 0 ≤ hi * 2 ^ s := Int.mul_nonneg (by omega) (by omega)
  have hor := or_parts (a := hi) (b := lo / 2 ^ (64 - s)) (s := s) (by omega) hd0 hdl (by omega)
  have ew : IntKind.u64.wrap (hi * 2 ^ s) = hi * 2 ^ s := by rw [IntKind.wrap_u64]; omega
  have ey : IntKind.u64.wrap (y * 2 ^ s) = y * 2 ^ s := by rw [IntKind.wrap_u64]; omega
  have el : IntKind.u64.wrap (lo * 2 ^ s) = lo * 2 ^ s % 18446744073709551616 := IntKind.wrap_u64 _
  have hl0 := SH.out.L0
  have hl1 := SH.out.L1
  have hya := and32 (x := y * 2 ^ s) (by omega) hn1
  have hla := and32 (x := lo * 2 ^ s % 18446744073709551616) hl0 hl1
  have HP := Lib.hid hp
  have HS2 := Lib.hid hs2
  have HY := Lib.hid (show 0 < y by omega)
  have H := Lib.hid (And.intro ew (And.intro ey (And.intro el (And.intro hor (And.intro hya (And.intro hla (And.intro hn0 (And.intro hn1 (And.intro hu (And.intro hult (And.intro hl0 hl1)))))))))))
  clear hpow hp hq hd0 hdl hhp hor ew ey el hya hla hn0 hn1 hu hult hl0 hl1
  go_enter Tryz.func189, Tryz.ntmps189
  go_wp2_with fail
  refine LZ.out.mono ?_
  rintro e w' ⟨rfl, rfl⟩
  rw [hs]
  go_upto_region 15 with fail
  obtain ⟨ew, ey, el, hor, hya, hla, hn0, hn1, hu, hult, hl0, hl1⟩ := H.out
  simp only [ew, ey, el, hor, hya, hla]
  have SO := SH.out
  clear ew ey el hor hya hla H SH LZ hs hs2
  generalize hY : y * 2 ^ s = Y at *
  generalize hU : hi * 2 ^ s + lo / 2 ^ (64 - s) = U at *
  generalize hL : lo * 2 ^ s % 18446744073709551616 = L at *
  clear hU hL
  have e1 : Y = Y / 4294967296 * 4294967296 + Y % 4294967296 := by omega
  have e2 : L = L / 4294967296 * 4294967296 + L % 4294967296 := by omega
  have b1 : 2147483648 ≤ Y / 4294967296 ∧ Y / 4294967296 ≤ 4294967295 := by omega
  have b2 : 0 ≤ Y % 4294967296 ∧ Y % 4294967296 < 4294967296 := by omega
  have b3 : 0 ≤ L / 4294967296 ∧ L / 4294967296 < 4294967296 := by omega
  have b4 : 0 ≤ L % 4294967296 ∧ L % 4294967296 < 4294967296 := by omega
  generalize Y / 4294967296 = a1 at *
  generalize Y % 4294967296 = a0 at *
  generalize L / 4294967296 = u1 at *
  generalize L % 4294967296 = u0 at *
  have HYY := Lib.hid hY
  have HE2 := Lib.hid e2
  clear hY e2
  have HE1 := Lib.hid e1
  have hYs : (a1 == 0) = false := by rw [beq_eq_false_iff_ne]; omega
  have G0 := Lib.hid (Guess.start (u := U) (u1 := u1) (y1 := a1) (y0 := a0) hu b3 (by omega) b2.1)
  have hd : U / a1 * a1 + U % a1 = U := by rw [Int.mul_comm]; exact Int.mul_ediv_add_emod U a1
  have hm0 := G0.out.r0
  have hq0 := G0.out.q0
  have hq1 := G0.out.le (by omega) b1.1 b2
  have hm1 := Int.emod_lt_of_pos U (show 0 < a1 by omega)
  have hmul : 0 ≤ U / a1 * a1 ∧ U / a1 * a1 ≤ U := ⟨Int.mul_nonneg hq0 (by omega), by omega⟩
  have hmod : U - U / a1 * a1 = U % a1 := by omega
  clear hd
  obtain ⟨b10, b11⟩ := b1
  obtain ⟨b20, b21⟩ := b2
  obtain ⟨b30, b31⟩ := b3
  obtain ⟨b40, b41⟩ := b4
  obtain ⟨hmul0, hmul1⟩ := hmul
  go_upto_block 0 with fail
  obtain ⟨D1, hD1⟩ : ∃ D1, (U * 4294967296 + u1) / (a1 * 4294967296 + a0) = D1 := ⟨_, rfl⟩
  have hD1l := digit_lt (u := U) (u1 := u1) (y1 := a1) (y0 := a0) (by omega) (by omega) (by omega)
  have hD10 : 0 ≤ D1 := by rw [← hD1]; exact Int.ediv_nonneg (by omega) (by omega)
  rw [hD1] at hD1l
  have HD1 := Lib.hid hD1
  clear hD1
  have AT := Lib.hid (show U - U / a1 * a1 = U % a1 from hmod)
  clear hmod
  have hultY : U < a1 * 4294967296 + a0 := by omega
  have ULT := Lib.hid hultY
  clear hultY e1
  go_cut [15] (fun q wx => q = .int .u64 D1 ∧ wx = w')
  case first =>
    go_wp2_with fail
    go_loopw [15, 16] (fun q r wr => ∃ q1 r1 : Int, q = .int .u64 q1 ∧ r = .int .u64 r1 ∧ Guess U u1 a1 a0 q1 r1 ∧ r1 < 4294967296 ∧ wr = w') (fun q _ _ => (intOf q).toNat)
    case atStart => exact ⟨U / a1, U % a1, rfl, by rw [← AT.out], G0.out, by omega, rfl⟩
    case round =>
      obtain ⟨q1, r1, rfl, rfl, hg, hr1, rfl⟩ := hrel
      have hr0 := hg.r0
      have hq0' := hg.q0
      have hql := hg.le ULT.out (by omega) ⟨b20, b21⟩
      have HG := Lib.hid hg
      clear hg
      by_cases hbig : 4294967296 ≤ q1
      · have HN := Lib.hid (HG.out.next (by omega) (by omega) (by have := HD1.out; omega) (by omega) (.inl hbig))
        by_cases hbr : 4294967296 ≤ r1 + a1
        · go_wp2_with fail
          go_meet
          case rel => exact ⟨by rw [HN.out.over ULT.out (by omega) (by omega) ⟨b20, b21⟩ hbr] at HD1; rw [HD1.out], by first | rfl | trivial⟩
        · go_wp2_with fail
          go_roundw
          case rel => exact ⟨q1 - 1, r1 + a1, rfl, rfl, HN.out, by omega, by first | rfl | trivial⟩
          case measure => simp [intOf]; omega
      · have hmq : 0 ≤ q1 * a0 ∧ q1 * a0 ≤ 4294967295 * 4294967295 := ⟨Int.mul_nonneg hq0' b20, Int.mul_le_mul (by omega) (by omega) b20 (by omega)⟩
        obtain ⟨hm1, hm2⟩ := hmq
        by_cases hgt : 4294967296 * r1 + u1 < q1 * a0
        · have HN := Lib.hid (HG.out.next (by omega) (by omega) (by have := HD1.out; omega) (by omega) (.inr hgt))
          have hq1' : 1 ≤ q1 := by
            rcases Int.lt_or_le 0 q1 with h | h
            · omega
            · rw [show q1 = 0 by omega, Int.zero_mul] at hgt; omega
          by_cases hbr : 4294967296 ≤ r1 + a1
          · go_wp2_with fail
            go_meet
            case rel => exact ⟨by rw [HN.out.over ULT.out (by omega) (by omega) ⟨b20, b21⟩ hbr] at HD1; rw [HD1.out], by first | rfl | trivial⟩
          · go_wp2_with fail
            go_roundw
            case rel => exact ⟨q1 - 1, r1 + a1, rfl, rfl, HN.out, by omega, by first | rfl | trivial⟩
            case measure => simp [intOf]; omega
        · go_wp2_with fail
          go_meet
          case rel => exact ⟨by rw [HG.out.done (by omega) (by omega)] at HD1; rw [HD1.out], by first | rfl | trivial⟩
  case rest =>
    obtain ⟨rfl, rfl⟩ := hcut
    have V0 := Int.emod_nonneg (U * 4294967296 + u1) (show a1 * 4294967296 + a0 ≠ 0 by omega)
    have V1 := Int.emod_lt_of_pos (U * 4294967296 + u1) (show 0 < a1 * 4294967296 + a0 by omega)
    have V2 : U * 4294967296 + u1 = D1 * Y + (U * 4294967296 + u1) % (a1 * 4294967296 + a0) := by
      have := Int.mul_ediv_add_emod (U * 4294967296 + u1) (a1 * 4294967296 + a0)
      rw [HD1.out, Int.mul_comm] at this
      rw [HE1.out]; omega
    generalize (U * 4294967296 + u1) % (a1 * 4294967296 + a0) = V at *
    have HV2 := Lib.hid V2
    have hw : IntKind.u64.wrap (IntKind.u64.wrap (IntKind.u64.wrap (U * 4294967296) + u1) - IntKind.u64.wrap (D1 * Y)) = V := by
      rw [IntKind.wrap_u64, IntKind.wrap_u64, IntKind.wrap_u64, IntKind.wrap_u64]
      generalize D1 * Y = z at *
      omega
    have HW := Lib.hid hw
    clear V2 hw G0 hm0 hq0 hq1 hm1 hmul0 hmul1 AT ULT
    go_upto_region 22 with fail
    rw [HW.out]
    have hVY : V < Y := by rw [HE1.out]; exact V1
    clear V1 HW
    have hu := V0
    have e1 := HE1.out
    have HH := Lib.hid e1
    have G0 := Lib.hid (Guess.start (u := V) (u1 := u0) (y1 := a1) (y0 := a0) V0 ⟨b40, b41⟩ (by omega) b20)
    have hd : V / a1 * a1 + V % a1 = V := by rw [Int.mul_comm]; exact Int.mul_ediv_add_emod V a1
    have hm0 := G0.out.r0
    have hq0 := G0.out.q0
    have hq1 := G0.out.le (by omega) b10 ⟨b20, b21⟩
    have hm1 := Int.emod_lt_of_pos V (show 0 < a1 by omega)
    have hmul : 0 ≤ V / a1 * a1 ∧ V / a1 * a1 ≤ V := ⟨Int.mul_nonneg hq0 (by omega), by omega⟩
    have hmod : V - V / a1 * a1 = V % a1 := by omega
    clear hd
    obtain ⟨hmul0, hmul1⟩ := hmul
    go_upto_block 2 with fail
    obtain ⟨D0, hD0⟩ : ∃ D0, (V * 4294967296 + u0) / (a1 * 4294967296 + a0) = D0 := ⟨_, rfl⟩
    have hD0l := digit_lt (u := V) (u1 := u0) (y1 := a1) (y0 := a0) (by omega) (by omega) (by omega)
    have hD00 : 0 ≤ D0 := by rw [← hD0]; exact Int.ediv_nonneg (by omega) (by omega)
    rw [hD0] at hD0l
    have HD0 := Lib.hid hD0
    clear hD0
    have AT := Lib.hid (show V - V / a1 * a1 = V % a1 from hmod)
    clear hmod
    have hultY : V < a1 * 4294967296 + a0 := by omega
    have ULT := Lib.hid hultY
    clear hultY e1
    go_cut [18] (fun q wx => q = .int .u64 D0 ∧ wx = wc)
    case first =>
      go_wp2_with fail
      go_loopw [18, 16] (fun q r wr => ∃ q1 r1 : Int, q = .int .u64 q1 ∧ r = .int .u64 r1 ∧ Guess V u0 a1 a0 q1 r1 ∧ r1 < 4294967296 ∧ wr = wc) (fun q _ _ => (intOf q).toNat)
      case atStart => exact ⟨V / a1, V % a1, rfl, by rw [← AT.out], G0.out, by omega, rfl⟩
      case round =>
        obtain ⟨q1, r1, rfl, rfl, hg, hr1, rfl⟩ := hrel
        have hr0 := hg.r0
        have hq0' := hg.q0
        have hql := hg.le ULT.out (by omega) ⟨b20, b21⟩
        have HG := Lib.hid hg
        clear hg
        by_cases hbig : 4294967296 ≤ q1
        · have HN := Lib.hid (HG.out.next (by omega) (by omega) (by have := HD0.out; omega) (by omega) (.inl hbig))
          by_cases hbr : 4294967296 ≤ r1 + a1
          · go_wp2_with fail
            go_meet
            case rel => exact ⟨by rw [HN.out.over ULT.out (by omega) (by omega) ⟨b20, b21⟩ hbr] at HD0; rw [HD0.out], by first | rfl | trivial⟩
          · go_wp2_with fail
            go_roundw
            case rel => exact ⟨q1 - 1, r1 + a1, rfl, rfl, HN.out, by omega, by first | rfl | trivial⟩
            case measure => simp [intOf]; omega
        · have hmq : 0 ≤ q1 * a0 ∧ q1 * a0 ≤ 4294967295 * 4294967295 := ⟨Int.mul_nonneg hq0' b20, Int.mul_le_mul (by omega) (by omega) b20 (by omega)⟩
          obtain ⟨hm1, hm2⟩ := hmq
          by_cases hgt : 4294967296 * r1 + u0 < q1 * a0
          · have HN := Lib.hid (HG.out.next (by omega) (by omega) (by have := HD0.out; omega) (by omega) (.inr hgt))
            have hq1' : 1 ≤ q1 := by
              rcases Int.lt_or_le 0 q1 with h | h
              · omega
              · rw [show q1 = 0 by omega, Int.zero_mul] at hgt; omega
            by_cases hbr : 4294967296 ≤ r1 + a1
            · go_wp2_with fail
              go_meet
              case rel => exact ⟨by rw [HN.out.over ULT.out (by omega) (by omega) ⟨b20, b21⟩ hbr] at HD0; rw [HD0.out], by first | rfl | trivial⟩
            · go_wp2_with fail
              go_roundw
              case rel => exact ⟨q1 - 1, r1 + a1, rfl, rfl, HN.out, by omega, by first | rfl | trivial⟩
              case measure => simp [intOf]; omega
          · go_wp2_with fail
            go_meet
            case rel => exact ⟨by rw [HG.out.done (by omega) (by omega)] at HD0; rw [HD0.out], by first | rfl | trivial⟩
    case rest =>
      obtain ⟨rfl, rfl⟩ := hcut
      have R0 := Int.emod_nonneg (V * 4294967296 + u0) (show a1 * 4294967296 + a0 ≠ 0 by omega)
      have R1 := Int.emod_lt_of_pos (V * 4294967296 + u0) (show 0 < a1 * 4294967296 + a0 by omega)
      have R2 : V * 4294967296 + u0 = D0 * Y + (V * 4294967296 + u0) % (a1 * 4294967296 + a0) := by
        have := Int.mul_ediv_add_emod (V * 4294967296 + u0) (a1 * 4294967296 + a0)
        rw [HD0.out, Int.mul_comm] at this
        rw [HH.out]; omega
      generalize (V * 4294967296 + u0) % (a1 * 4294967296 + a0) = R at *
      have hw : IntKind.u64.wrap (IntKind.u64.wrap (IntKind.u64.wrap (V * 4294967296) + u0) - IntKind.u64.wrap (D0 * Y)) = R := by
        rw [IntKind.wrap_u64, IntKind.wrap_u64, IntKind.wrap_u64, IntKind.wrap_u64]
        generalize D0 * Y = z at *
        omega
      have hv2 := HV2.out
      have hfin := two_digits (q1 := D1) (q0 := D0) (V := V) (R := R) SO HY.out HP.out HE2.out (by rw [HYY.out]; exact hv2) (by rw [HYY.out]; exact R2) (by rw [HYY.out, HH.out]; exact ⟨R0, R1⟩)
      have HF := Lib.hid hfin
      have HW := Lib.hid hw
      clear R2 hv2 hfin hw G0 hm0 hq0 hq1 hm1 hmul0 hmul1 AT ULT HV2
      go_wp2_with fail
      go_ret2
      rw [HW.out, show min s 64 = s from by have := HS2.out; omega, HF.out.1, HF.out.2]
      exact ⟨rfl, 0, rfl⟩
end Go.Proofs.YtnhaiecbjipodaaGreatDoor
/- The contracts of wide.MulDiv (a divisor above 0) and of wide.MulShift at 16, as floors of exact products. -/
namespace Go.Proofs.YtnhaiecbjipodaaGreatDoor
open Go.RowKit
attribute [local go_sem] Grow.cell Grow.froz Grow.lt

theorem bitLenAux_spec : ∀ (f x : Nat), 0 < x → x < 2 ^ f → Lib.bitLenAux f x ≤ f ∧ 1 ≤ Lib.bitLenAux f x ∧ 2 ^ (Lib.bitLenAux f x - 1) ≤ x ∧ x < 2 ^ Lib.bitLenAux f x
  | 0, x, h, hx => by simp at hx; omega
  | f + 1, x, h, hx => by
    unfold Lib.bitLenAux
    rw [if_neg (by omega)]
    by_cases h2 : x / 2 = 0
    · have e : Lib.bitLenAux f (x / 2) = 0 := by rw [h2]; cases f <;> simp [Lib.bitLenAux]
      rw [e]
      have : x = 1 := by omega
      subst this
      exact ⟨by omega, by omega, by simp, by simp⟩
    · obtain ⟨a, b, c, d⟩ := bitLenAux_spec f (x / 2) (by omega) (by rw [Nat.pow_succ] at hx; omega)
      generalize Lib.bitLenAux f (x / 2) = m at *
      obtain ⟨k, rfl⟩ : ∃ k, m = k + 1 := ⟨m - 1, by omega⟩
      simp only [Nat.add_sub_cancel] at c
      refine ⟨by omega, by omega, ?_, ?_⟩
      · rw [show 1 + (k + 1) - 1 = k + 1 by omega, Nat.pow_succ]; omega
      · rw [show 1 + (k + 1) = k + 1 + 1 by omega, Nat.pow_succ 2 (k + 1)]; omega
theorem div64_any (hi lo y : Int) (w : World) (hi0 : 0 ≤ hi) (hi1 : hi < y) (l0 : 0 ≤ lo) (l1 : lo ≤ 18446744073709551615) (y1 : y ≤ 18446744073709551615) :
    Calls Tryz.prog 189 #[.int .u64 hi, .int .u64 lo, .int .u64 y] w fun e w' => e = .returned (.tuple #[.int .u64 ((hi * 18446744073709551616 + lo) / y), .int .u64 ((hi * 18446744073709551616 + lo) % y)]) ∧ ∃ k, w' = w.drewN k := by
  by_cases h : hi = 0
  · subst h
    have := div64_low lo y w l0 l1 (by omega) y1
    simpa using this
  · obtain ⟨a, b, c, d⟩ := bitLenAux_spec 64 y.toNat (by omega) (by omega)
    change Lib.bitLen y.toNat ≤ 64 at a
    change 1 ≤ Lib.bitLen y.toNat at b
    change 2 ^ (Lib.bitLen y.toNat - 1) ≤ y.toNat at c
    change y.toNat < 2 ^ Lib.bitLen y.toNat at d
    obtain ⟨n, rfl⟩ := Int.eq_ofNat_of_zero_le (show 0 ≤ y by omega)
    rw [Int.toNat_natCast] at *
    generalize hm : Lib.bitLen n = m at *
    have e1 : 2 ^ (m - 1) * 2 ^ (64 - m) = 9223372036854775808 := by rw [← Nat.pow_add, show m - 1 + (64 - m) = 63 by omega]
    have e2 : 2 ^ m * 2 ^ (64 - m) = 18446744073709551616 := by rw [← Nat.pow_add, show m + (64 - m) = 64 by omega]
    have f1 : 2 ^ (m - 1) * 2 ^ (64 - m) ≤ n * 2 ^ (64 - m) := Nat.mul_le_mul_right _ c
    have f2 : (n + 1) * 2 ^ (64 - m) ≤ 2 ^ m * 2 ^ (64 - m) := Nat.mul_le_mul_right _ d
    have f3 : 1 ≤ 2 ^ (64 - m) := Nat.one_le_two_pow
    rw [Nat.add_mul] at f2
    have g : ((n * 2 ^ (64 - m) : Nat) : Int) = (n : Int) * 2 ^ (64 - m) := by push_cast; rfl
    exact div64_high hi lo n (64 - m) w (by omega) hi1 l0 l1 y1 (by rw [Int.toNat_natCast, hm]; omega) (by omega) (by omega) (by omega)

theorem add64_one (x : Int) (w : World) (h0 : 0 ≤ x) : (callFunc 250 #[.int .u64 x, .int .u64 1, .int .u64 0]).run Tryz.prog w = .ok (.value (.tuple #[.int .u64 ((x + 1 + 0) % 18446744073709551616), .int .u64 ((x + 1 + 0) / 18446744073709551616)])) w := by
  rw [run_callFunc_extern Tryz.func250 (by kernel_rfl) (by kernel_rfl) (by kernel_rfl) (e := add64Entry) (by kernel_rfl), run_add64 x 1 0 h0 (by omega) (by omega) (by omega)]
  rfl
theorem mul64_any (x y : Int) (w : World) (x0 : 0 ≤ x) (x1 : x ≤ 18446744073709551615) (y0 : 0 ≤ y) (y1 : y ≤ 18446744073709551615) :
    Calls Tryz.prog 187 #[.int .u64 x, .int .u64 y] w fun e w' => e = .returned (.tuple #[.int .u64 (x * y / 18446744073709551616), .int .u64 (x * y % 18446744073709551616)]) ∧ w' = w := by
  obtain ⟨m, rfl⟩ := Int.eq_ofNat_of_zero_le x0
  obtain ⟨n, rfl⟩ := Int.eq_ofNat_of_zero_le y0
  exact Tryz.bits_Mul64 m n (by omega) (by omega) w

theorem mag_mul {a b : Int} : ((a.natAbs : Int) * (b.natAbs : Int) = a * b ∧ ((a < 0) = (b < 0) ∨ a * b = 0)) ∨ ((a.natAbs : Int) * (b.natAbs : Int) = -(a * b) ∧ ¬ (a < 0) = (b < 0)) := by
  rcases Int.lt_or_le a 0 with ha | ha <;> rcases Int.lt_or_le b 0 with hb | hb
  · left
    rw [show (a.natAbs : Int) = -a by omega, show (b.natAbs : Int) = -b by omega, Int.neg_mul_neg]
    exact ⟨rfl, .inl (by simp [ha, hb])⟩
  · right
    rw [show (a.natAbs : Int) = -a by omega, show (b.natAbs : Int) = b by omega, Int.neg_mul]
    exact ⟨rfl, by simp [ha]; omega⟩
  · right
    rw [show (a.natAbs : Int) = a by omega, show (b.natAbs : Int) = -b by omega, Int.mul_neg]
    exact ⟨rfl, by simp [hb]; omega⟩
  · left
    rw [show (a.natAbs : Int) = a by omega, show (b.natAbs : Int) = b by omega]
    exact ⟨rfl, .inl (by simp; omega)⟩

set_option maxHeartbeats 2000000 in
theorem signer1_any (q : Int) (b : Nat) (c : Bool) (w : World) (h0 : 0 ≤ q) (h1 : q ≤ 9223372036854775807) (hb : w.cell? ⟨b, 0, none⟩ = some (.bool c)) :
    Calls Tryz.prog 215 #[.int .u64 q, .pointer (some ⟨b, 0, none⟩)] w fun e w' => e = .returned (.tuple #[.int .i64 (if c = true then -q else q), .bool true]) ∧ w' = w := by
  have d1 : decide (q < 9223372036854775808) = true := decide_eq_true (by omega)
  have d2 : decide (q ≤ 9223372036854775808) = true := decide_eq_true (by omega)
  have d3 : wrap64 (IntKind.u64.wrap (-q)) = -q := by rw [IntKind.wrap_u64]; unfold wrap64; omega
  have D := Lib.hid (And.intro d1 (And.intro d2 d3))
  clear d1 d2 d3
  cases c
  · go_enter Tryz.func215, Tryz.ntmps215
    go_wp2
    go_ret2
    rw [D.out.1]
    exact ⟨rfl, rfl⟩
  · go_enter Tryz.func215, Tryz.ntmps215
    go_wp2
    go_ret2
    rw [D.out.2.1, D.out.2.2]
    exact ⟨rfl, rfl⟩
theorem signer_any (c : Bool) (w : World) : Calls Tryz.prog 190 #[.bool c] w fun e w' => e = .returned (.func (.func 215) #[] #[.pointer (some ⟨w.heap.size, 0, none⟩)]) ∧ w' = w.alloc (.cells #[.bool c] 4) := by
  go_enter Tryz.func190, Tryz.ntmps190
  go_wp2
  go_ret
  exact ⟨rfl, rfl⟩

theorem cell_new (w : World) (v : Value) (t : TypeId) : (w.alloc (.cells #[v] t)).cell? ⟨w.heap.size, 0, none⟩ = some v := by
  have h := heap_alloc_new w (.cells #[v] t)
  unfold World.cell?
  rw [h]; rfl
theorem floor_neg {P c : Int} (hc : 0 < c) : (-P % c = 0 → P / c = -(-P / c)) ∧ (-P % c ≠ 0 → P / c = -(-P / c + 1)) := by
  have e := Int.mul_ediv_add_emod (-P) c
  have m0 := Int.emod_nonneg (-P) (show c ≠ 0 by omega)
  have m1 := Int.emod_lt_of_pos (-P) hc
  constructor
  · intro h
    exact ((Int.ediv_emod_unique (a := P) (b := c) (r := 0) (q := -(-P / c)) hc).2 ⟨by rw [Int.mul_neg]; omega, by omega, hc⟩).1
  · intro h
    exact ((Int.ediv_emod_unique (a := P) (b := c) (r := c - -P % c) (q := -(-P / c + 1)) hc).2 ⟨by rw [Int.mul_neg, Int.mul_add, Int.mul_one]; omega, by omega, by omega⟩).1

set_option maxHeartbeats 4000000 in
theorem mulDiv_any (a b c : Int) (w : World) (a0 : -9223372036854775807 ≤ a) (a1 : a ≤ 9223372036854775807) (b0 : 0 ≤ b) (b1 : b ≤ 9223372036854775807) (c0 : 0 < c) (c1 : c ≤ 9223372036854775807) (h0 : -(4611686018427387904 * c) ≤ a * b) (h1 : a * b ≤ 4611686018427387904 * c) :
    Calls Tryz.prog 157 #[.int .i64 a, .int .i64 b, .int .i64 c] w fun e w' => e = .returned (.tuple #[.int .i64 (a * b / c), .int .i64 0]) ∧ Below w.heap.size w w' := by
  have hz : (c == 0) = false := by rw [beq_eq_false_iff_ne]; omega
  have mb : (b.natAbs : Int) = b := by omega
  have mc : (c.natAbs : Int) = c := by omega
  have hbd : decide (b < 0) = false := decide_eq_false (by omega)
  have hcd : decide (c < 0) = false := decide_eq_false (by omega)
  by_cases hneg : a < 0
  · have ma : (a.natAbs : Int) = -a := by omega
    obtain ⟨N, hN⟩ : ∃ N, N = -a * b := ⟨_, rfl⟩
    have hN' : N = -(a * b) := by rw [hN, Int.neg_mul]
    have N0 : 0 ≤ N := by rw [hN]; exact Int.mul_nonneg (by omega) b0
    have HF := Lib.hid (And.intro hN hN')
    have hdm := Int.mul_ediv_add_emod N c
    have hlt : N / 18446744073709551616 < c := by omega
    have q0 := Int.ediv_nonneg N0 (show 0 ≤ c by omega)
    have q1 : N / c ≤ 4611686018427387904 := Int.ediv_le_of_le_mul c0 (by omega)
    have HD := Lib.hid (floor_neg (P := a * b) (c := c) c0)
    have e1 : N / 18446744073709551616 * 18446744073709551616 + N % 18446744073709551616 = N := by omega
    have hm0 := Int.emod_nonneg N (show c ≠ 0 by omega)
    have hx0 : 0 ≤ N / 18446744073709551616 := by omega
    have hx1 : 0 ≤ N % 18446744073709551616 := by omega
    have hx2 : N % 18446744073709551616 ≤ 18446744073709551615 := by omega
    have E1 := Lib.hid e1
    clear hN hN' hdm h0 h1 e1
    have Q := Lib.hid (And.intro q0 q1)
    have hq1 : (N / c + 1 == 0) = false := by rw [beq_eq_false_iff_ne]; omega
    go_enter Tryz.func157, Tryz.ntmps157
    go_wp2_with fail
    refine (magnitude_any _ _ (by omega) (by omega)).mono ?_
    rintro e w' ⟨rfl, rfl⟩
    rw [ma]
    go_wp2_with fail
    refine (magnitude_any _ _ (by omega) (by omega)).mono ?_
    rintro e w' ⟨rfl, rfl⟩
    rw [mb]
    go_wp2_with fail
    refine (mul64_any _ _ _ (by omega) (by omega) (by omega) (by omega)).mono ?_
    rintro e w' ⟨rfl, rfl⟩
    rw [← HF.out.1]
    go_wp2_with fail
    refine (magnitude_any _ _ (by omega) (by omega)).mono ?_
    rintro e w' ⟨rfl, rfl⟩
    rw [mc]
    go_wp2_with fail
    refine (div64_any _ _ _ _ hx0 hlt hx1 hx2 (by omega)).mono ?_
    rintro e w' ⟨rfl, k, rfl⟩
    rw [E1.out]
    go_wp2_with fail
    all_goals
      refine (signer_any _ _).mono ?_
      rintro e w' ⟨rfl, rfl⟩
      go_wp2_with fail
      refine (signer1_any _ _ true _ (by have := Q.out; omega) (by have := Q.out; omega) (by exact cell_new _ _ _)).mono ?_
      rintro e w' ⟨rfl, rfl⟩
      go_wp2_with fail
      go_ret2
      refine ⟨?_, by repeat (first | with_reducible exact Below.refl _ _ | with_reducible refine bel_alloc ?_ _ | with_reducible refine bel_drewN ?_ _)⟩
    · have hf : a * b / c = -(N / c + 1) := by rw [HF.out.2]; exact HD.out.2 (by rw [← HF.out.2]; have h := ‹(N % c != 0) = true›; simpa using h)
      rw [hf]; rfl
    · have hf : a * b / c = -(N / c) := by rw [HF.out.2]; exact HD.out.1 (by rw [← HF.out.2]; have h := ‹(N % c != 0) = false›; simpa using h)
      rw [hf]; rfl
  · have ma : (a.natAbs : Int) = a := by omega
    have had : decide (a < 0) = false := decide_eq_false hneg
    obtain ⟨N, hN⟩ : ∃ N, N = a * b := ⟨_, rfl⟩
    have N0 : 0 ≤ N := by rw [hN]; exact Int.mul_nonneg (by omega) b0
    rw [← hN] at h0 h1 ⊢
    have HF := Lib.hid hN
    have hlt : N / 18446744073709551616 < c := by omega
    have q0 := Int.ediv_nonneg N0 (show 0 ≤ c by omega)
    have q1 : N / c ≤ 4611686018427387904 := Int.ediv_le_of_le_mul c0 (by omega)
    have e1 : N / 18446744073709551616 * 18446744073709551616 + N % 18446744073709551616 = N := by omega
    have hx0 : 0 ≤ N / 18446744073709551616 := by omega
    have hx1 : 0 ≤ N % 18446744073709551616 := by omega
    have hx2 : N % 18446744073709551616 ≤ 18446744073709551615 := by omega
    have E1 := Lib.hid e1
    have Q := Lib.hid (And.intro q0 q1)
    clear hN h0 h1 e1
    go_enter Tryz.func157, Tryz.ntmps157
    go_wp2_with fail
    refine (magnitude_any _ _ (by omega) (by omega)).mono ?_
    rintro e w' ⟨rfl, rfl⟩
    rw [ma]
    go_wp2_with fail
    refine (magnitude_any _ _ (by omega) (by omega)).mono ?_
    rintro e w' ⟨rfl, rfl⟩
    rw [mb]
    go_wp2_with fail
    refine (mul64_any _ _ _ (by omega) (by omega) (by omega) (by omega)).mono ?_
    rintro e w' ⟨rfl, rfl⟩
    rw [← HF.out]
    go_wp2_with fail
    refine (magnitude_any _ _ (by omega) (by omega)).mono ?_
    rintro e w' ⟨rfl, rfl⟩
    rw [mc]
    go_wp2_with fail
    refine (div64_any _ _ _ _ hx0 hlt hx1 hx2 (by omega)).mono ?_
    rintro e w' ⟨rfl, k, rfl⟩
    rw [E1.out]
    go_wp2_with fail
    refine (signer_any _ _).mono ?_
    rintro e w' ⟨rfl, rfl⟩
    go_wp2_with fail
    refine (signer1_any _ _ false _ (by have := Q.out; omega) (by have := Q.out; omega) (by exact cell_new _ _ _)).mono ?_
    rintro e w' ⟨rfl, rfl⟩
    go_wp2_with fail
    go_ret2
    exact ⟨rfl, by repeat (first | with_reducible exact Below.refl _ _ | with_reducible refine bel_alloc ?_ _ | with_reducible refine bel_drewN ?_ _)⟩

theorem xor_max {x : Int} (h0 : 0 ≤ x) (h1 : x ≤ 18446744073709551615) : bits BinOp.xor IntKind.u64 IntKind.u64.max x = 18446744073709551615 - x := by
  obtain ⟨n, rfl⟩ := Int.eq_ofNat_of_zero_le h0
  show IntKind.u64.wrap ((BitVec.ofInt 64 18446744073709551615 ^^^ BitVec.ofInt 64 (n : Int)).toNat : Int) = _
  have e1 : BitVec.ofInt 64 18446744073709551615 = BitVec.allOnes 64 := by decide
  have h2 : (BitVec.ofInt 64 (n : Int)).toNat = n := by
    rw [BitVec.ofInt_natCast, BitVec.toNat_ofNat]; exact Nat.mod_eq_of_lt (by omega)
  rw [e1, BitVec.allOnes_xor, BitVec.toNat_not, h2, IntKind.wrap_u64]
  omega
theorem or48 {x y : Int} (hx : 0 ≤ x ∧ x < 281474976710656) (hy : 0 ≤ y ∧ y ≤ 65535) : bits BinOp.or IntKind.u64 x (y * 281474976710656) = x + y * 281474976710656 := by
  obtain ⟨m, rfl⟩ := Int.eq_ofNat_of_zero_le hx.1
  obtain ⟨n, rfl⟩ := Int.eq_ofNat_of_zero_le hy.1
  have hm : m < 2 ^ 48 := by omega
  have e : (n : Int) * 281474976710656 = ((n * 2 ^ 48 : Nat) : Int) := by omega
  rw [e, bits_or_u64_nat _ _ (by omega) (by omega), Nat.or_comm, ← Nat.shiftLeft_eq, ← Nat.shiftLeft_add_eq_or_of_lt hm, Nat.shiftLeft_eq]
  omega

theorem ret_iu {a b c d : Int} (h : a = b) (k : c = d) : Ending.returned (.tuple #[.int .i64 a, .int .u64 c]) = .returned (.tuple #[.int .i64 b, .int .u64 d]) := by rw [h, k]
set_option maxRecDepth 100000 in
set_option maxHeartbeats 2000000 in
theorem wideMul_any (a b : Int) (w : World) (a0 : -9223372036854775807 ≤ a) (a1 : a ≤ 9223372036854775807) (b0 : -9223372036854775807 ≤ b) (b1 : b ≤ 9223372036854775807) (p0 : -85070591730234615865843651857942052864 ≤ a * b) (p1 : a * b ≤ 85070591730234615865843651857942052864) :
    Calls Tryz.prog 248 #[.int .i64 a, .int .i64 b] w fun e w' => e = .returned (.tuple #[.int .i64 (a * b / 18446744073709551616), .int .u64 (a * b % 18446744073709551616)]) ∧ w' = w := by
  have HM := Lib.hid (mag_mul (a := a) (b := b))
  have PB := Lib.hid (And.intro p0 p1)
  clear p0 p1
  go_enter Tryz.func248, Tryz.ntmps248
  go_wp2_with fail
  refine (magnitude_any _ _ (by omega) (by omega)).mono ?_
  rintro e w' ⟨rfl, rfl⟩
  go_wp2_with fail
  refine (magnitude_any _ _ (by omega) (by omega)).mono ?_
  rintro e w' ⟨rfl, rfl⟩
  go_wp2_with fail
  refine (mul64_any _ _ _ (by omega) (by omega) (by omega) (by omega)).mono ?_
  rintro e w' ⟨rfl, rfl⟩
  have hm := HM.out
  have hp := PB.out
  clear HM PB
  have hM0 : 0 ≤ (a.natAbs : Int) * (b.natAbs : Int) := Int.mul_nonneg (by omega) (by omega)
  generalize (a.natAbs : Int) * (b.natAbs : Int) = M at *
  obtain ⟨N, hN⟩ : ∃ N, a * b = N := ⟨_, rfl⟩
  rw [hN] at hm hp
  have HN := Lib.hid hN
  clear hN
  have M0 : 0 ≤ M / 18446744073709551616 := by omega
  have M1 : M / 18446744073709551616 ≤ 4611686018427387904 := by omega
  have L0 : 0 ≤ M % 18446744073709551616 := by omega
  have L1 : M % 18446744073709551616 ≤ 18446744073709551615 := by omega
  have x1 := xor_max M0 (by omega)
  have x2 := xor_max L0 L1
  have A1 := add64_one (18446744073709551615 - M % 18446744073709551616) w' (by omega)
  have HM := Lib.hid (And.intro hm hp)
  clear hm hp
  go_wp2
  · go_ret2
    refine ⟨ret_iu ?_ ?_, rfl⟩
    · rw [HN.out, IntKind.wrap_u64]
      have h := ‹(!decide (a < 0) == decide (b < 0)) = true›
      obtain ⟨⟨e, h1 | h1⟩ | ⟨e, h1⟩, p0, p1⟩ := HM.out
      · simp [h1] at h
      · unfold wrap64; omega
      · unfold wrap64; omega
    · rw [HN.out]
      have h := ‹(!decide (a < 0) == decide (b < 0)) = true›
      obtain ⟨⟨e, h1 | h1⟩ | ⟨e, h1⟩, p0, p1⟩ := HM.out
      · simp [h1] at h
      · omega
      · omega
  · go_ret2
    have h := ‹(!decide (a < 0) == decide (b < 0)) = false›
    have e : M = N := by
      obtain ⟨⟨e, h1 | h1⟩ | ⟨e, h1⟩, p0, p1⟩ := HM.out
      · exact e
      · exact e
      · exact absurd (by simpa using h) h1
    exact ⟨ret_iu (by rw [HN.out, e]) (by rw [HN.out, e]), rfl⟩
end Go.Proofs.YtnhaiecbjipodaaGreatDoor

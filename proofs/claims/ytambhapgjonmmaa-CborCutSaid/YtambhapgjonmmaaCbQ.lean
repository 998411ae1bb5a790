/- The reference's Check and head. -/
import Derived.Test.YtambhapgjonmmaaCbO
import Derived.Test.YtambhapgjonmmaaCbT
namespace Go.Proofs.Ytambhapgjonmmaa
open Go.RowKit
set_option linter.unusedVariables false
set_option linter.unusedSimpArgs false

theorem errI_own (k : Int) (n : Nat) (ys : List UInt8) (t : ByteArray) (f : IL) : errI (.mk k n ys t f) = if ownE k n ys.length t f.len ≠ 0 then ownE k n ys.length t f.len else errIs f := by
  simp only [errI, ownE]
  (repeat' split) <;> first | rfl | omega | simp_all

def RChkSaid (d : Nat) : Prop := ∀ x : I, x.wt ≤ d → ∀ (w : World) (c : Array Value), RdIt (fun _ => True) w x c → Calls Try.prog 14 #[.agg c] w fun e w' => e = .returned (.int .i64 (errI x : Nat)) ∧ Below w.heap.size w w'

set_option maxRecDepth 100000 in
set_option maxHeartbeats 4000000 in
theorem rchk_step (d : Nat) (hd9 : d ≤ 1000000) (hof : RChkSaid d) : RChkSaid (d + 1) := by
  intro x hd w c hr
  obtain ⟨k, n, ys, text, kids⟩ := x
  simp only [I.wt] at hd
  have hr0 := hr
  obtain ⟨ab, nb, cb, ak, nk, ck, rfl, hok, hbs, hkl, hrm, hks⟩ := hr
  obtain ⟨wa, hwa⟩ : ∃ W, W = w.alloc (.cells #[.int .i64 k, .int .u64 (n : Nat), .slice ab nb cb, .string text, .slice ak nk ck] 26) := ⟨_, rfl⟩
  obtain ⟨gb, hgb⟩ : ∃ q, q = w.heap.size := ⟨_, rfl⟩
  have hba : Below w.heap.size w wa := by rw [hwa]; exact (Below.refl _ _).alloc (Nat.le_refl _) _
  have hxa : ItBx wa gb k n ab nb cb text ak nk ck := by rw [hwa, hgb]; exact ItBx.new _ _ _ _ _ _ _ _ _ _ _
  have HXa := Lib.hid hxa
  have HBA := Lib.hid hba
  have HKS : Hid (RdIs (fun _ => True) wa ak 0 kids) := hks.below hba
  have HKL := Lib.hid hkl
  have hyl : ys.length = nb := hbs.1.1
  have hnk := hrm.1
  have hkw := IL.len_wt kids
  have hnb9 : nb ≤ 9223372036854775807 := hbs.1.2.1
  have CO := Lib.hid (fun W => own_calls k n ab nb cb text (by omega) ak nk ck hnb9 hnk W)
  have HE : Hid (errI (.mk k n ys text kids) = if ownE k n nb text nk ≠ 0 then ownE k n nb text nk else errIs kids) := by
    show _ = _
    rw [errI_own, hyl, hkl]
  generalize errI (.mk k n ys text kids) = R at HE ⊢
  generalize ownE k n nb text nk = E0 at CO HE
  obtain ⟨f0, f1, f2, f3, f4, l0⟩ := hxa
  clear hba hok hbs hrm hks hyl hr0 hkl hnb9
  go_enter Try.func14, Try.ntmps14
  go_upto_region 1 with fail
  rw [← hwa, ← hgb]
  clear hwa hgb
  go_wp2_with fail
  refine (CO.out _).mono ?_
  rintro e w1 ⟨rfl, hb1⟩
  have HB1 := Lib.hid hb1
  clear hb1 CO f0 f1 f2 f3 f4 l0
  go_wp2_with fail
  go_loopw [3, 4] (fun q i wr => ∃ (j E : Nat), j ≤ nk ∧ i = .int .i64 j ∧ q = .int .i64 E ∧ Hid (R = if E ≠ 0 then E else errIs (kids.drop j)) ∧ Below wa.heap.size wa wr) (fun _ i _ => nk - (intOf i).toNat)
  case atStart => exact ⟨0, E0, by omega, rfl, rfl, by show _ = _; rw [HE.out]; cases kids <;> rfl, HB1.out⟩
  case round =>
    obtain ⟨j, E, hj, rfl, rfl, hr, hbl⟩ := hrel
    have HBL := Lib.hid hbl
    obtain ⟨f0, f1, f2, f3, f4, l0⟩ := HXa.out.keep hbl
    clear hbl
    by_cases hlt : j < nk
    · by_cases hE : E = 0
      · subst hE
        obtain ⟨x, hx⟩ := IL.get_some kids j (by rw [HKL.out]; exact hlt)
        have hwg2 := IL.wt_get kids j x hx
        have hst := errIs_step kids j x hx
        obtain ⟨b, o, k', n', bs', text', kids', ab', nb', cb', ak', nk', ck', hab, hxe, hblt, hxr, z0, z1, z2, z3, z4⟩ := (HKS.out.at hx).cells
        subst hab
        have CL := Lib.hid (hof x (by omega) wr _ (hxr.below HBL.out))
        obtain ⟨E, hE⟩ : ∃ q, q = errI x := ⟨_, rfl⟩
        rw [← hE] at CL hst
        have HST : Hid (R = if E ≠ 0 then E else errIs (kids.drop (j + 1))) := by show _ = _; rw [hr.out, if_neg (by simp), hst]
        have y0 : wr.cell? ⟨b, o + j * 5, none⟩ = some (.int .i64 k') := cell_below HBL.out z0
        have y1 : wr.cell? ⟨b, o + j * 5 + 1, none⟩ = some (.int .u64 (n' : Nat)) := cell_below HBL.out z1
        have y2 : wr.cell? ⟨b, o + j * 5 + 2, none⟩ = some (.slice ab' nb' cb') := cell_below HBL.out z2
        have y3 : wr.cell? ⟨b, o + j * 5 + 3, none⟩ = some (.string text') := cell_below HBL.out z3
        have y4 : wr.cell? ⟨b, o + j * 5 + 4, none⟩ = some (.slice ak' nk' ck') := cell_below HBL.out z4
        have hj0 : (0 : Int) ≤ (j : Int) := by omega
        have hj1 : (j : Int) < (nk : Int) := by omega
        clear hx hwg2 hst hxr z0 z1 z2 z3 z4 hxe hE hr
        go_wp2_with fail
        refine CL.out.mono ?_
        rintro e w6 ⟨rfl, hb6⟩
        have HB6 : Hid (Below wa.heap.size wa w6) := HBL.out.trans (hb6.mono HBL.out.size)
        clear hb6 y0 y1 y2 y3 y4 CL
        go_wp2_with fail
        go_roundw
        case rel => exact ⟨j + 1, E, by omega, by simp, rfl, HST, HB6.out⟩
        case measure => simp [intOf]; omega
      · have hf : Hid (R = E) := by show _ = _; rw [hr.out, if_pos hE]
        have hne : ((E : Int) == 0) = false := by simpa using hE
        have hne2 : (E == 0) = false := by simpa using hE
        have hne3 : ((E : Int) = 0) = False := by simpa using hE
        clear hr
        go_wp2_with fail
        go_ret
        exact ⟨by rw [hf.out]; rfl, HBA.out.trans (HBL.out.mono HBA.out.size)⟩
    · have hf : Hid (R = E) := by
        show _ = _
        rw [hr.out, errIs_end kids j (by rw [HKL.out]; omega)]
        split <;> omega
      clear hr
      go_wp2_with fail
      go_ret
      exact ⟨by rw [hf.out]; rfl, HBA.out.trans (HBL.out.mono HBA.out.size)⟩

theorem rchk_all : ∀ d, d ≤ 1000001 → RChkSaid d
  | 0, _ => fun x h => by have := I.wt_pos x; omega
  | d + 1, h => rchk_step d (by omega) (rchk_all d (by omega))

theorem own_fresh (w : World) (B x : Nat) (hx : x < 256) (hB : B ≤ w.heap.size) : OwnB (w.alloc (.cells #[.int .u8 (x : Nat)] 5)) B (.slice (some ⟨w.heap.size, 0, none⟩) 1 1) [UInt8.ofNat x] := by
  refine ⟨rfl, .inr ⟨w.heap.size, 1, _, rfl, hB, heap_alloc_new w _, Nat.le_refl _, by unfold maxLen; omega, rfl, ?_⟩⟩
  have : x % 256 = x := by omega
  simp [byteCells, this]

/-- A head's bytes, as the reference tells them. -/
def HeadO (w : World) (bs : List UInt8) (e : Ending) (w' : World) : Prop := ∃ v, e = .returned v ∧ St w v bs w'

set_option maxRecDepth 100000 in
set_option maxHeartbeats 4000000 in
theorem rhead_calls (mi : Int) (m : Nat) (hmi : mi = m) (hm : m ≤ 7) (n : Nat) (hn : n < okSize) (w : World) :
    Calls Try.prog 42 #[.int .i64 mi, .int .u64 (n : Nat)] w (HeadO w (headB m n)) := by
  obtain ⟨F, hF⟩ : ∃ F, F = 32 * m := ⟨_, rfl⟩
  have w1 : IntKind.i64.wrap (32 * mi) = (F : Int) := (IntWalk.i64_in _ (by omega)).trans (by omega)
  have w2 : IntKind.u8.wrap (F : Int) = (F : Int) := IntWalk.u8_in _ (by omega)
  have hF9 : F ≤ 224 := by omega
  have HH : Hid (headB m n = UInt8.ofNat (F + codeN n) :: (leBytes (needN n) n).reverse) := by show _ = _; unfold headB; rw [hF]
  generalize headB m n = H at HH ⊢
  clear hF hmi hm
  by_cases h0 : n < 24
  · have HV : Hid (H = [UInt8.ofNat (F + n)]) := by show _ = _; rw [HH.out]; unfold codeN needN; rw [if_pos h0, if_pos h0]; rfl
    have d0 : decide ((n : Int) < 24) = true := by simp; omega
    have w3 : IntKind.u8.wrap (n : Int) = (n : Int) := IntWalk.u8_in _ (by omega)
    obtain ⟨X, hX⟩ : ∃ X, X = F + n := ⟨_, rfl⟩
    have w4 : IntKind.u8.wrap ((F : Int) + (n : Int)) = (X : Int) := (IntWalk.u8_in _ (by omega)).trans (by omega)
    have HV2 : Hid (H = [UInt8.ofNat X]) := by show _ = _; rw [HV.out, hX]
    have hX9 : X < 256 := by omega
    clear h0 hX HV HH hn
    go_enter Try.func42, Try.ntmps42
    go_wp2_with fail
    go_ret
    rw [HV2.out]
    exact ⟨_, rfl, own_fresh w _ X hX9 (Nat.le_refl _), (Below.refl _ _).alloc (Nat.le_refl _) _⟩
  have d0 : decide ((n : Int) < 24) = false := by simp; omega
  by_cases h1 : n < 256
  · have HV : Hid (H = [UInt8.ofNat (F + 24)] ++ (leBytes 1 n).reverse) := by
      show _ = _
      rw [HH.out, show codeN n = 24 by unfold codeN; rw [if_neg h0, if_pos h1], show needN n = 1 by unfold needN; rw [if_neg h0, if_pos h1]]
      rfl
    have d1 : decide ((n : Int) < 256) = true := by simp; omega
    obtain ⟨X, hX⟩ : ∃ X, X = F + 24 := ⟨_, rfl⟩
    have w4 : IntKind.u8.wrap ((F : Int) + 24) = (X : Int) := (IntWalk.u8_in _ (by omega)).trans (by omega)
    have HV2 : Hid (H = [UInt8.ofNat X] ++ (leBytes 1 n).reverse) := by show _ = _; rw [HV.out, hX]
    have hX9 : X < 256 := by omega
    have CP := Lib.hid (fun W => putHigh_calls n 1 hn W)
    have HS : Hid (putHighS n 1 = (leBytes 1 n).reverse) := rfl
    have hlen : (leBytes 1 n).reverse.length = 1 := by simp [leBytes_length]
    generalize (leBytes 1 n).reverse = T at HS HV2 hlen
    rw [HS.out] at CP
    clear h0 h1 hX HV HH hn HS
    go_enter Try.func42, Try.ntmps42
    go_wp2_with fail
    refine (CP.out _).mono ?_
    rintro e wb ⟨v, rfl, ho, hb⟩
    have HO := Lib.hid ho
    have HF1 : Hid (OwnB wb w.heap.size (.slice (some ⟨w.heap.size, 0, none⟩) 1 1) [UInt8.ofNat X]) := (own_fresh w _ X hX9 (Nat.le_refl _)).keep hb
    have HB : Hid (Below w.heap.size w wb) := ((Below.refl _ _).alloc (Nat.le_refl _) _).trans (hb.mono (by simp))
    clear ho hb CP
    go_wp2_with (at_builtin; refine wpList_appB (v := .slice (some ⟨w.heap.size, 0, none⟩) 1 1) (bs := [UInt8.ofNat X]) (sv := v) (l := T) (B := w.heap.size) (by rfl) _ _ (by rfl) (by rfl) HF1.out (by rfl) HO.out.srcB ?o1 ?o2 ?_)
    case o1 => simp [hlen]
    case o2 => exact HB.out.size
    intro v2 wd ho2 hl2
    have HO2 := Lib.hid ho2
    have HB2 := Lib.hid ((LayF.app hl2).below HB.out HB.out.size (fun k hk => (owns_lt HF1.out k hk).1))
    clear ho2 hl2
    go_wp2_with fail
    go_ret
    rw [HV2.out]
    exact ⟨_, rfl, HO2.out, HB2.out⟩
  have d1 : decide ((n : Int) < 256) = false := by simp; omega
  by_cases h2 : n < 65536
  · have HV : Hid (H = [UInt8.ofNat (F + 25)] ++ (leBytes 2 n).reverse) := by
      show _ = _
      rw [HH.out, show codeN n = 25 by unfold codeN; rw [if_neg h0, if_neg h1, if_pos h2], show needN n = 2 by unfold needN; rw [if_neg h0, if_neg h1, if_pos h2]]
      rfl
    have d2 : decide ((n : Int) < 65536) = true := by simp; omega
    obtain ⟨X, hX⟩ : ∃ X, X = F + 25 := ⟨_, rfl⟩
    have w4 : IntKind.u8.wrap ((F : Int) + 25) = (X : Int) := (IntWalk.u8_in _ (by omega)).trans (by omega)
    have HV2 : Hid (H = [UInt8.ofNat X] ++ (leBytes 2 n).reverse) := by show _ = _; rw [HV.out, hX]
    have hX9 : X < 256 := by omega
    have CP := Lib.hid (fun W => putHigh_calls n 2 hn W)
    have HS : Hid (putHighS n 2 = (leBytes 2 n).reverse) := rfl
    have hlen : (leBytes 2 n).reverse.length = 2 := by simp [leBytes_length]
    generalize (leBytes 2 n).reverse = T at HS HV2 hlen
    rw [HS.out] at CP
    clear h0 h1 h2 hX HV HH hn HS
    go_enter Try.func42, Try.ntmps42
    go_wp2_with fail
    refine (CP.out _).mono ?_
    rintro e wb ⟨v, rfl, ho, hb⟩
    have HO := Lib.hid ho
    have HF1 : Hid (OwnB wb w.heap.size (.slice (some ⟨w.heap.size, 0, none⟩) 1 1) [UInt8.ofNat X]) := (own_fresh w _ X hX9 (Nat.le_refl _)).keep hb
    have HB : Hid (Below w.heap.size w wb) := ((Below.refl _ _).alloc (Nat.le_refl _) _).trans (hb.mono (by simp))
    clear ho hb CP
    go_wp2_with (at_builtin; refine wpList_appB (v := .slice (some ⟨w.heap.size, 0, none⟩) 1 1) (bs := [UInt8.ofNat X]) (sv := v) (l := T) (B := w.heap.size) (by rfl) _ _ (by rfl) (by rfl) HF1.out (by rfl) HO.out.srcB ?o1 ?o2 ?_)
    case o1 => simp [hlen]
    case o2 => exact HB.out.size
    intro v2 wd ho2 hl2
    have HO2 := Lib.hid ho2
    have HB2 := Lib.hid ((LayF.app hl2).below HB.out HB.out.size (fun k hk => (owns_lt HF1.out k hk).1))
    clear ho2 hl2
    go_wp2_with fail
    go_ret
    rw [HV2.out]
    exact ⟨_, rfl, HO2.out, HB2.out⟩
  have d2 : decide ((n : Int) < 65536) = false := by simp; omega
  by_cases h3 : n < 4294967296
  · have HV : Hid (H = [UInt8.ofNat (F + 26)] ++ (leBytes 4 n).reverse) := by
      show _ = _
      rw [HH.out, show codeN n = 26 by unfold codeN; rw [if_neg h0, if_neg h1, if_neg h2, if_pos h3], show needN n = 4 by unfold needN; rw [if_neg h0, if_neg h1, if_neg h2, if_pos h3]]
      rfl
    have d3 : decide ((n : Int) < 4294967296) = true := by simp; omega
    obtain ⟨X, hX⟩ : ∃ X, X = F + 26 := ⟨_, rfl⟩
    have w4 : IntKind.u8.wrap ((F : Int) + 26) = (X : Int) := (IntWalk.u8_in _ (by omega)).trans (by omega)
    have HV2 : Hid (H = [UInt8.ofNat X] ++ (leBytes 4 n).reverse) := by show _ = _; rw [HV.out, hX]
    have hX9 : X < 256 := by omega
    have CP := Lib.hid (fun W => putHigh_calls n 4 hn W)
    have HS : Hid (putHighS n 4 = (leBytes 4 n).reverse) := rfl
    have hlen : (leBytes 4 n).reverse.length = 4 := by simp [leBytes_length]
    generalize (leBytes 4 n).reverse = T at HS HV2 hlen
    rw [HS.out] at CP
    clear h0 h1 h2 h3 hX HV HH hn HS
    go_enter Try.func42, Try.ntmps42
    go_wp2_with fail
    refine (CP.out _).mono ?_
    rintro e wb ⟨v, rfl, ho, hb⟩
    have HO := Lib.hid ho
    have HF1 : Hid (OwnB wb w.heap.size (.slice (some ⟨w.heap.size, 0, none⟩) 1 1) [UInt8.ofNat X]) := (own_fresh w _ X hX9 (Nat.le_refl _)).keep hb
    have HB : Hid (Below w.heap.size w wb) := ((Below.refl _ _).alloc (Nat.le_refl _) _).trans (hb.mono (by simp))
    clear ho hb CP
    go_wp2_with (at_builtin; refine wpList_appB (v := .slice (some ⟨w.heap.size, 0, none⟩) 1 1) (bs := [UInt8.ofNat X]) (sv := v) (l := T) (B := w.heap.size) (by rfl) _ _ (by rfl) (by rfl) HF1.out (by rfl) HO.out.srcB ?o1 ?o2 ?_)
    case o1 => simp [hlen]
    case o2 => exact HB.out.size
    intro v2 wd ho2 hl2
    have HO2 := Lib.hid ho2
    have HB2 := Lib.hid ((LayF.app hl2).below HB.out HB.out.size (fun k hk => (owns_lt HF1.out k hk).1))
    clear ho2 hl2
    go_wp2_with fail
    go_ret
    rw [HV2.out]
    exact ⟨_, rfl, HO2.out, HB2.out⟩
  have d3 : decide ((n : Int) < 4294967296) = false := by simp; omega
  have HV : Hid (H = [UInt8.ofNat (F + 27)] ++ (leBytes 8 n).reverse) := by
    show _ = _
    rw [HH.out, show codeN n = 27 by unfold codeN; rw [if_neg h0, if_neg h1, if_neg h2, if_neg h3], show needN n = 8 by unfold needN; rw [if_neg h0, if_neg h1, if_neg h2, if_neg h3]]
    rfl
  obtain ⟨X, hX⟩ : ∃ X, X = F + 27 := ⟨_, rfl⟩
  have w4 : IntKind.u8.wrap ((F : Int) + 27) = (X : Int) := (IntWalk.u8_in _ (by omega)).trans (by omega)
  have HV2 : Hid (H = [UInt8.ofNat X] ++ (leBytes 8 n).reverse) := by show _ = _; rw [HV.out, hX]
  have hX9 : X < 256 := by omega
  have CP := Lib.hid (fun W => putHigh_calls n 8 hn W)
  have HS : Hid (putHighS n 8 = (leBytes 8 n).reverse) := rfl
  have hlen : (leBytes 8 n).reverse.length = 8 := by simp [leBytes_length]
  generalize (leBytes 8 n).reverse = T at HS HV2 hlen
  rw [HS.out] at CP
  clear h0 h1 h2 h3 hX HV HH hn HS
  go_enter Try.func42, Try.ntmps42
  go_wp2_with fail
  refine (CP.out _).mono ?_
  rintro e wb ⟨v, rfl, ho, hb⟩
  have HO := Lib.hid ho
  have HF1 : Hid (OwnB wb w.heap.size (.slice (some ⟨w.heap.size, 0, none⟩) 1 1) [UInt8.ofNat X]) := (own_fresh w _ X hX9 (Nat.le_refl _)).keep hb
  have HB : Hid (Below w.heap.size w wb) := ((Below.refl _ _).alloc (Nat.le_refl _) _).trans (hb.mono (by simp))
  clear ho hb CP
  go_wp2_with (at_builtin; refine wpList_appB (v := .slice (some ⟨w.heap.size, 0, none⟩) 1 1) (bs := [UInt8.ofNat X]) (sv := v) (l := T) (B := w.heap.size) (by rfl) _ _ (by rfl) (by rfl) HF1.out (by rfl) HO.out.srcB ?o1 ?o2 ?_)
  case o1 => simp [hlen]
  case o2 => exact HB.out.size
  intro v2 wd ho2 hl2
  have HO2 := Lib.hid ho2
  have HB2 := Lib.hid ((LayF.app hl2).below HB.out HB.out.size (fun k hk => (owns_lt HF1.out k hk).1))
  clear ho2 hl2
  go_wp2_with fail
  go_ret
  rw [HV2.out]
  exact ⟨_, rfl, HO2.out, HB2.out⟩

end Go.Proofs.Ytambhapgjonmmaa

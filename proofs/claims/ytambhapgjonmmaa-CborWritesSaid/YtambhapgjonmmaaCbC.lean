/- The law's awake (chapter 28); items that are a number. -/
import Derived.Test.YtambhapgjonmmaaCbB
import Derived.Test.YtambhapgjonmmaaStr
namespace Go.Proofs.Ytambhapgjonmmaa
open Go.RowKit
set_option linter.unusedVariables false
set_option linter.unusedSimpArgs false

theorem enc_ok (x : I) (hx : x.wt ≤ 100000) (he : errI x = 0) (w : World) (c : Array Value) (h : RdIt (fun _ => True) w x c) :
    Calls Try.prog 11 #[.agg c] w fun e w' => ∃ a cp, e = .returned (.tuple #[.slice a (layI x).length cp, .int .i64 0]) ∧ RdB w' a (layI x).length (layI x) ∧ (a = none → cp = 0) ∧ (layI x).length ≤ cp ∧ Below w.heap.size w w' := by
  refine (encode28 x hx w c h).mono ?_
  rintro e w' ⟨a, m, cp, rfl, h1, h2, h3, h4⟩
  rw [he, if_pos rfl] at h1
  obtain rfl := h1.1
  exact ⟨a, cp, by rw [he]; rfl, h1, h2, h3, h4⟩

theorem int_rd (k : Int) (hk : -9223372036854775808 ≤ k ∧ k ≤ 9223372036854775807) (n : Nat) (hn : n < okSize) (w : World) : RdIt (fun _ => True) w (.mk k n [] ⟨#[]⟩ .nil) #[.int .i64 k, .int .u64 (n : Nat), .slice none 0 0, .string ⟨#[]⟩, .slice none 0 0] :=
  ⟨none, 0, 0, none, 0, 0, rfl, ⟨hk, hn, by decide⟩, ⟨RdB.nil _ _, fun h => absurd h (by omega)⟩, rfl, ⟨by omega, ⟨fun _ => rfl, by omega⟩, ⟨fun _ => rfl, by omega⟩⟩, trivial⟩
theorem err_int (k : Int) (hk : k = 1 ∨ k = 2) (n : Nat) : errI (.mk k n [] ⟨#[]⟩ .nil) = 0 := by
  have h0 : wholeTo (sl ⟨#[]⟩) = 0 := by decide
  have h1 : (⟨#[]⟩ : ByteArray).size = 0 := rfl
  rcases hk with rfl | rfl <;> simp [errI, fieldsB, h0, h1, errIs, IL.len]

theorem two_rd (w : World) (t : TypeId) : RdB (w.alloc (.cells #[.int .u8 24, .int .u8 23] t)) (some ⟨w.heap.size, 0, none⟩) 2 [24, 23] :=
  ⟨rfl, by omega, fun i hi => ⟨_, 0, rfl, by
    have hi5 : i = 0 ∨ i = 1 := by omega
    rcases hi5 with rfl | rfl <;> simp [go_sem, bAt]⟩⟩

set_option maxRecDepth 100000 in
set_option maxHeartbeats 4000000 in
theorem awake28 (w : World) : Calls Try.prog 9 #[] w fun e w' => e = .returned (.bool true) ∧ Below w.heap.size w w' := by
  have CE := Lib.hid (enc_ok (.mk 1 24 [] ⟨#[]⟩ .nil) (by decide) (err_int 1 (.inl rfl) 24) w _ (int_rd 1 (by omega) 24 (by decide) w))
  have HL : Hid (layI (.mk 1 24 [] ⟨#[]⟩ .nil) = [24, 24]) := by show _ = _; decide +kernel
  have HD := Lib.hid (fun (W : World) => decode_err28 (some ⟨W.heap.size, 0, none⟩) 2 2 [24, 23] (W.alloc (.cells #[.int .u8 24, .int .u8 23] 5)) (two_rd W _) (by simp) (by omega) 5 3 0 (by omega) (by omega) (fun r W h hl => read_one r W h hl))
  go_enter Try.func9, Try.ntmps9
  go_wp2_with fail
  refine CE.out.mono ?_
  rintro e w1 ⟨a, cp, rfl, hr1, -, -, hb1⟩
  rw [HL.out] at hr1 ⊢
  have HR1 : Hid (RdB w1 a 2 [24, 24]) := hr1
  have HB1 := Lib.hid hb1
  clear hr1 hb1 CE HL
  go_wp2_with fail
  refine (HD.out w1).mono ?_
  rintro e w2 ⟨rfl, hb2⟩
  have HB2 : Hid (Below w1.heap.size w1 w2) := ((Below.refl _ _).alloc (Nat.le_refl _) _).trans (hb2.mono (by simp))
  clear hb2 HD
  have hcv := conv_str ((HR1.out.keep HB2.out).keep (((Below.refl w2.heap.size w2).alloc (Nat.le_refl _) (.cells #[.int .i64 0, .int .u64 0, .slice none 0 0, .string ⟨#[]⟩, .slice none 0 0] 26)).alloc (by simp) (.cells #[.int .i64 3, .int .i64 0, .slice none 0 0] 35))) cp
  have hcm : ((txt [24, 24]).toList == [24, 24]) = true := by rw [toList_sl, sl_txt]; rfl
  go_wp2_with fail
  go_ret
  exact ⟨rfl, (HB1.out.trans (HB2.out.mono HB1.out.size)).trans ((((Below.refl w2.heap.size w2).alloc (Nat.le_refl _) _).alloc (by simp) _).mono (HB1.out.trans (HB2.out.mono HB1.out.size)).size)⟩

end Go.Proofs.Ytambhapgjonmmaa

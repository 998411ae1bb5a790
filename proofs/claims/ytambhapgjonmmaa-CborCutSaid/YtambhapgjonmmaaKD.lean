/- cbor.read: all depths. The reference's read of CBOR: all of it. cbor.Decode and the reference's Decode. -/
import Derived.Test.YtambhapgjonmmaaCbY
import Derived.Test.YtambhapgjonmmaaCbH
import Derived.Test.YtambhapgjonmmaaRc1
import Derived.Test.YtambhapgjonmmaaRc2
import Derived.Test.YtambhapgjonmmaaRc3
import Derived.Test.YtambhapgjonmmaaKC
import Derived.Deep.RegionHeld3
namespace Go.Proofs.Ytambhapgjonmmaa
open Go.RowKit
set_option linter.unusedVariables false
set_option linter.unusedSimpArgs false

theorem read_all : ∀ d, d ≤ 1001 → ReadSaid d
  | 0, _ => read_zero
  | d + 1, h => read_step d (by omega) (kids_step d (by omega) (read_all d (by omega)))

end Go.Proofs.Ytambhapgjonmmaa

namespace Go.Proofs.Ytambhapgjonmmaa
open Go.RowKit
set_option linter.unusedVariables false
set_option linter.unusedSimpArgs false

theorem rread_step (d : Nat) (hof : RReadSaid d) : RReadSaid (d + 1) := by
  intro a n cp bs p wi dp w h hn9 hcp hpn hd hd9
  by_cases hlen : n ≤ p
  · exact rread_short d hof a n cp bs p wi dp w h hn9 hcp hpn hd hd9 hlen
  obtain ⟨m, hm⟩ : ∃ m, m = bAt bs p / 32 := ⟨_, rfl⟩
  obtain ⟨low, hlw⟩ : ∃ l, l = bAt bs p % 32 := ⟨_, rfl⟩
  have hb := bAt_lt bs p
  by_cases h27 : 27 < low
  · exact rread_form d hof a n cp bs p wi dp w h hn9 hcp hpn hd hd9 hlen m low hm hlw h27
  by_cases hsh : n < p + 1 + sizeL low
  · have h24 : 24 ≤ low := by
      by_cases h : low < 24
      · rw [show sizeL low = 0 from if_pos h] at hsh; omega
      · omega
    exact rread_cut d hof a n cp bs p wi dp w h hn9 hcp hpn hd hd9 hlen m low hm hlw h27 h24 hsh
  by_cases h7 : m = 7
  · by_cases h24 : 24 ≤ low
    · by_cases he : low = 27
      · exact rread_7C9 d hof a n cp bs p wi dp w h hn9 hcp hpn hd hd9 hlen m low hm hlw h27 hsh he h7
      · exact rread_7CE d hof a n cp bs p wi dp w h hn9 hcp hpn hd hd9 hlen m low hm hlw h27 hsh h24 he h7
    · by_cases h20 : 20 ≤ low
      · exact rread_7A8 d hof a n cp bs p wi dp w h hn9 hcp hpn hd hd9 hlen m low hm hlw h27 hsh h20 (by omega) h7
      · exact rread_7AE d hof a n cp bs p wi dp w h hn9 hcp hpn hd hd9 hlen m low hm hlw h27 hsh (by omega) h7
  have h6 : m = 0 ∨ m = 1 ∨ m = 2 ∨ m = 3 ∨ m = 4 ∨ m = 5 ∨ m = 6 := by omega
  by_cases h24 : 24 ≤ low
  · by_cases hnd : needN (numL bs p low) = wideB low
    · rcases h6 with e | e | e | e | e | e | e
      · exact rread_C0 d hof a n cp bs p wi dp w h hn9 hcp hpn hd hd9 hlen m low hm hlw h27 hsh h24 e hnd
      · exact rread_C1 d hof a n cp bs p wi dp w h hn9 hcp hpn hd hd9 hlen m low hm hlw h27 hsh h24 e hnd
      · by_cases hsr : n < p + 1 + sizeL low + numL bs p low
        · exact rread_C2s d hof a n cp bs p wi dp w h hn9 hcp hpn hd hd9 hlen m low hm hlw h27 hsh h24 e hnd hsr
        · by_cases hcq : cp = p + 1 + sizeL low
          · exact rread_C2q d hof a n cp bs p wi dp w h hn9 hcp hpn hd hd9 hlen m low hm hlw h27 hsh h24 e hnd hsr hcq
          · exact rread_C2 d hof a n cp bs p wi dp w h hn9 hcp hpn hd hd9 hlen m low hm hlw h27 hsh h24 e hnd hsr hcq
      · by_cases hsr : n < p + 1 + sizeL low + numL bs p low
        · exact rread_C3s d hof a n cp bs p wi dp w h hn9 hcp hpn hd hd9 hlen m low hm hlw h27 hsh h24 e hnd hsr
        · by_cases hcq : cp = p + 1 + sizeL low
          · exact rread_C3q d hof a n cp bs p wi dp w h hn9 hcp hpn hd hd9 hlen m low hm hlw h27 hsh h24 e hnd hsr hcq
          · exact rread_C3 d hof a n cp bs p wi dp w h hn9 hcp hpn hd hd9 hlen m low hm hlw h27 hsh h24 e hnd hsr hcq
      · exact rread_C4 d hof a n cp bs p wi dp w h hn9 hcp hpn hd hd9 hlen m low hm hlw h27 hsh h24 e hnd
      · exact rread_C5 d hof a n cp bs p wi dp w h hn9 hcp hpn hd hd9 hlen m low hm hlw h27 hsh h24 e hnd
      · exact rread_C6 d hof a n cp bs p wi dp w h hn9 hcp hpn hd hd9 hlen m low hm hlw h27 hsh h24 e hnd
    · exact rread_need d hof a n cp bs p wi dp w h hn9 hcp hpn hd hd9 hlen m low hm hlw h27 hsh h7 h24 hnd
  · rcases h6 with e | e | e | e | e | e | e
    · exact rread_A0 d hof a n cp bs p wi dp w h hn9 hcp hpn hd hd9 hlen m low hm hlw h27 hsh h24 e
    · exact rread_A1 d hof a n cp bs p wi dp w h hn9 hcp hpn hd hd9 hlen m low hm hlw h27 hsh h24 e
    · by_cases hsr : n < p + 1 + sizeL low + numL bs p low
      · exact rread_A2s d hof a n cp bs p wi dp w h hn9 hcp hpn hd hd9 hlen m low hm hlw h27 hsh h24 e hsr
      · by_cases hcq : cp = p + 1 + sizeL low
        · exact rread_A2q d hof a n cp bs p wi dp w h hn9 hcp hpn hd hd9 hlen m low hm hlw h27 hsh h24 e hsr hcq
        · exact rread_A2 d hof a n cp bs p wi dp w h hn9 hcp hpn hd hd9 hlen m low hm hlw h27 hsh h24 e hsr hcq
    · by_cases hsr : n < p + 1 + sizeL low + numL bs p low
      · exact rread_A3s d hof a n cp bs p wi dp w h hn9 hcp hpn hd hd9 hlen m low hm hlw h27 hsh h24 e hsr
      · by_cases hcq : cp = p + 1 + sizeL low
        · exact rread_A3q d hof a n cp bs p wi dp w h hn9 hcp hpn hd hd9 hlen m low hm hlw h27 hsh h24 e hsr hcq
        · exact rread_A3 d hof a n cp bs p wi dp w h hn9 hcp hpn hd hd9 hlen m low hm hlw h27 hsh h24 e hsr hcq
    · exact rread_A4 d hof a n cp bs p wi dp w h hn9 hcp hpn hd hd9 hlen m low hm hlw h27 hsh h24 e
    · exact rread_A5 d hof a n cp bs p wi dp w h hn9 hcp hpn hd hd9 hlen m low hm hlw h27 hsh h24 e
    · exact rread_A6 d hof a n cp bs p wi dp w h hn9 hcp hpn hd hd9 hlen m low hm hlw h27 hsh h24 e

theorem rread_all : ∀ d, RReadSaid d
  | 0 => rread_zero
  | d + 1 => rread_step d (rread_all d)

end Go.Proofs.Ytambhapgjonmmaa

namespace Go.Proofs.Ytambhapgjonmmaa
open Go.RowKit
set_option linter.unusedVariables false
set_option linter.unusedSimpArgs false

/-- What Decode answers. -/
def DecO (w : World) (R : Rs I) (e : Ending) (w' : World) : Prop := Below w.heap.size w w' ∧ match R with
  | .error (x, a) => e = .returned (.tuple #[zIt, fltV x a])
  | .ok (x, q) => ∃ c, e = .returned (.tuple #[.agg c, fltV 0 0]) ∧ RdIt (fun k => w.heap.size ≤ k) w' x c
theorem dec_err {w W : World} {x a : Nat} (h : Below w.heap.size w W) : DecO w (.error (x, a)) (.returned (.tuple #[zIt, fltV x a])) W := ⟨h, rfl⟩
theorem dec_fin {w wr W' : World} {x : I} {q : Nat} {c : Array Value} (hrd : RdIt (fun k => w.heap.size + 2 ≤ k) wr x c) (hbl : Below w.heap.size w wr) (hz : w.heap.size + 2 ≤ wr.heap.size) (hX : Chg (fun i => i = w.heap.size ∨ i = w.heap.size + 1) wr W') : DecO w (.ok (x, q)) (.returned (.tuple #[.agg c, fltV 0 0])) W' :=
  ⟨hbl.trans (hX.below (by omega) (fun i e => by omega)), c, rfl, (hrd.keep (KeepS.chg hX fun k hk e => by omega)).imp fun k _ h => by omega⟩
def cutQ (n : Nat) : Rs I → Rs I
  | .error e => .error e
  | .ok (x, q) => if q < n then .error (7, q) else .ok (x, q)
theorem decQ_cut (b : List UInt8) (dep : Nat) (hd : dep ≤ 1000) : decQ b (dep : Int) = cutQ b.length (readQ b dep 0) := by
  unfold decQ
  rw [if_neg (by omega), Int.toNat_natCast]
  cases readQ b dep 0 <;> rfl

set_option maxRecDepth 100000 in
set_option maxHeartbeats 8000000 in
theorem decode_lo (a : Option Addr) (n cap : Nat) (l : List UInt8) (w : World) (h : RdB w a n l) (hc : a = none → cap = 0) (hnc : n ≤ cap) (hn : n ≤ 1000000) (dp : Int) (hd1 : -9223372036854775808 ≤ dp) (hd2 : dp ≤ 9223372036854775807) (hlo : dp < 0) :
    Calls Try.prog 15 #[.slice a n cap, .int .i64 dp] w (DecO w (decQ l dp)) := by
  obtain ⟨wa, hwa⟩ : ∃ W, W = (w.alloc (.cells #[.int .i64 0, .int .u64 0, .slice none 0 0, .string ⟨#[]⟩, .slice none 0 0] 26)).alloc (.cells #[.int .i64 0, .int .i64 0, .slice none 0 0] 35) := ⟨_, rfl⟩
  have hba : Below w.heap.size w wa := by
    rw [hwa]
    exact ((Below.refl _ _).alloc (Nat.le_refl _) _).alloc (by simp) _
  have hbx : RBx wa w.heap.size (w.heap.size + 1) := by rw [hwa]; exact RBx.new _ _ _
  have hz : wa.heap.size = w.heap.size + 2 := by rw [hwa]; simp
  have HX := Lib.hid hbx
  have HRD := Lib.hid (h.keep hba)
  have HBA := Lib.hid hba
  have HZ := Lib.hid hz
  obtain ⟨R, hR⟩ : ∃ R, R = decQ l dp := ⟨_, rfl⟩
  rw [← hR]
  have hbl : l.length = n := h.1
  have HR : Hid (R = .error (1, 0)) := by show _ = _; rw [hR]; unfold decQ; rw [if_pos (by omega)]
  have d1 : decide (dp < 0) = true := by simpa using hlo
  clear hR h hc hnc hba hbx hlo
  go_enter Try.func15, Try.ntmps15
  go_upto_region 1 with fail
  rw [← hwa]
  clear hwa
  go_wp2_with fail
  refine (wrong28 1 0 _).mono ?_
  rintro e w9 ⟨rfl, hb9⟩
  have HB9 := Lib.hid (HBA.out.trans (hb9.mono HBA.out.size))
  have hz9 : w.heap.size + 2 ≤ w9.heap.size := by have := hb9.size; omega
  obtain ⟨⟨h0, h1, h2, h3, h4⟩, ⟨f0, f1, f2, f3, f4⟩, ⟨k0, k1, k2⟩, ⟨l0, l1, l2⟩⟩ := HX.out.keep hb9
  clear hb9
  (repeat (first | go_values | go_skip | go_guarded | go_step | go_upon | (go_simp; go_at_K)))
  refine bodyPost_ret (v := .tuple #[zIt, fltV 1 0]) (by simp [results, Try.results15, go_sem, *]) rfl ?_
  rw [HR.out]
  refine dec_err ?_
  (repeat' (first | with_reducible exact HB9.out | with_reducible apply Below.drew | with_reducible refine Below.alloc ?_ (by first | omega | (simp; done) | (simp; omega)) _ | with_reducible refine Below.setCell ?_ (by first | (simp; done) | (simp only []; omega)) _))

set_option maxRecDepth 100000 in
set_option maxHeartbeats 8000000 in
theorem decode_hi (a : Option Addr) (n cap : Nat) (l : List UInt8) (w : World) (h : RdB w a n l) (hc : a = none → cap = 0) (hnc : n ≤ cap) (hn : n ≤ 1000000) (dp : Int) (hd1 : -9223372036854775808 ≤ dp) (hd2 : dp ≤ 9223372036854775807) (hlo : ¬ dp < 0) (hhi : 1000 < dp) :
    Calls Try.prog 15 #[.slice a n cap, .int .i64 dp] w (DecO w (decQ l dp)) := by
  obtain ⟨wa, hwa⟩ : ∃ W, W = (w.alloc (.cells #[.int .i64 0, .int .u64 0, .slice none 0 0, .string ⟨#[]⟩, .slice none 0 0] 26)).alloc (.cells #[.int .i64 0, .int .i64 0, .slice none 0 0] 35) := ⟨_, rfl⟩
  have hba : Below w.heap.size w wa := by
    rw [hwa]
    exact ((Below.refl _ _).alloc (Nat.le_refl _) _).alloc (by simp) _
  have hbx : RBx wa w.heap.size (w.heap.size + 1) := by rw [hwa]; exact RBx.new _ _ _
  have hz : wa.heap.size = w.heap.size + 2 := by rw [hwa]; simp
  have HX := Lib.hid hbx
  have HRD := Lib.hid (h.keep hba)
  have HBA := Lib.hid hba
  have HZ := Lib.hid hz
  obtain ⟨R, hR⟩ : ∃ R, R = decQ l dp := ⟨_, rfl⟩
  rw [← hR]
  have hbl : l.length = n := h.1
  have HR : Hid (R = .error (1, 0)) := by show _ = _; rw [hR]; unfold decQ; rw [if_pos (by omega)]
  have d1 : decide (dp < 0) = false := by simp; omega
  have d2 : decide (1000 < dp) = true := by simpa using hhi
  clear hR h hc hnc hba hbx hlo hhi
  go_enter Try.func15, Try.ntmps15
  go_upto_region 1 with fail
  rw [← hwa]
  clear hwa
  go_wp2_with fail
  refine (wrong28 1 0 _).mono ?_
  rintro e w9 ⟨rfl, hb9⟩
  have HB9 := Lib.hid (HBA.out.trans (hb9.mono HBA.out.size))
  have hz9 : w.heap.size + 2 ≤ w9.heap.size := by have := hb9.size; omega
  obtain ⟨⟨h0, h1, h2, h3, h4⟩, ⟨f0, f1, f2, f3, f4⟩, ⟨k0, k1, k2⟩, ⟨l0, l1, l2⟩⟩ := HX.out.keep hb9
  clear hb9
  (repeat (first | go_values | go_skip | go_guarded | go_step | go_upon | (go_simp; go_at_K)))
  refine bodyPost_ret (v := .tuple #[zIt, fltV 1 0]) (by simp [results, Try.results15, go_sem, *]) rfl ?_
  rw [HR.out]
  refine dec_err ?_
  (repeat' (first | with_reducible exact HB9.out | with_reducible apply Below.drew | with_reducible refine Below.alloc ?_ (by first | omega | (simp; done) | (simp; omega)) _ | with_reducible refine Below.setCell ?_ (by first | (simp; done) | (simp only []; omega)) _))

set_option maxRecDepth 100000 in
set_option maxHeartbeats 8000000 in
theorem decode_in (a : Option Addr) (n cap : Nat) (l : List UInt8) (w : World) (h : RdB w a n l) (hc : a = none → cap = 0) (hnc : n ≤ cap) (hn : n ≤ 1000000) (dp : Int) (hd1 : -9223372036854775808 ≤ dp) (hd2 : dp ≤ 9223372036854775807) (dep : Nat) (hdep : dep ≤ 1000) (hdd : dp = (dep : Int)) :
    Calls Try.prog 15 #[.slice a n cap, .int .i64 dp] w (DecO w (decQ l dp)) := by
  obtain ⟨wa, hwa⟩ : ∃ W, W = (w.alloc (.cells #[.int .i64 0, .int .u64 0, .slice none 0 0, .string ⟨#[]⟩, .slice none 0 0] 26)).alloc (.cells #[.int .i64 0, .int .i64 0, .slice none 0 0] 35) := ⟨_, rfl⟩
  have hba : Below w.heap.size w wa := by
    rw [hwa]
    exact ((Below.refl _ _).alloc (Nat.le_refl _) _).alloc (by simp) _
  have hbx : RBx wa w.heap.size (w.heap.size + 1) := by rw [hwa]; exact RBx.new _ _ _
  have hz : wa.heap.size = w.heap.size + 2 := by rw [hwa]; simp
  have HX := Lib.hid hbx
  have HRD := Lib.hid (h.keep hba)
  have HBA := Lib.hid hba
  have HZ := Lib.hid hz
  obtain ⟨R, hR⟩ : ∃ R, R = decQ l dp := ⟨_, rfl⟩
  rw [← hR]
  have hbl : l.length = n := h.1
  rw [hdd, decQ_cut l dep hdep, hbl] at hR
  subst hdd
  have c1 : decide ((dep : Int) < 0) = false := by simp
  have c2 : decide ((1000 : Int) < (dep : Int)) = false := by simp; omega
  have c2n : decide (1000 < dep) = false := by simp; omega
  obtain ⟨RD, hRD⟩ : ∃ x, x = readQ l dep 0 := ⟨_, rfl⟩
  have hfn := readQ_fine l dep 0 (Nat.zero_le _)
  rw [← hRD] at hR hfn
  have HN := Lib.hid (new_calls a n cap l wa (h.keep hba) hc (by omega))
  have CR : Hid (∀ r W, Rdr W r l 0 → r < W.heap.size → Calls Try.prog 31 #[.pointer (some ⟨r, 0, none⟩), .int .i64 (dep : Nat)] W (ReadO W r l RD)) := Lib.hid (fun r W hr hl => by rw [hRD]; exact read_all dep (by omega) l (by omega) r 0 W hr hl)
  have HRR := Lib.hid hR
  have HRD2 := Lib.hid hRD
  clear hR hRD h hba hbx hc hz
  go_enter Try.func15, Try.ntmps15
  go_upto_region 1 with fail
  rw [← hwa]
  clear hwa
  go_wp2_with fail
  refine HN.out.mono ?_
  rintro e w1 ⟨r, rfl, hr, hb1, hr1⟩
  have hrl : r < w1.heap.size := hr.lt
  have HR1 := Lib.hid hr
  have HRL := Lib.hid hrl
  have HB1 := Lib.hid hb1
  have HRX := Lib.hid hr1
  clear hr hb1 hrl hr1 HN
  go_wp2_with fail
  refine (CR.out r _ HR1.out HRL.out).mono ?_
  rintro e w2 ⟨hc2, hres⟩
  have HZ2 : Hid (w.heap.size + 2 ≤ w2.heap.size) := by show _ ≤ _; have := hc2.size; have := HB1.out.size; have := HZ.out; omega
  have HC2 : Hid (Below w.heap.size w w2) := by
    have h0 : Chg (fun k => w.heap.size ≤ k) w w2 := Chg.trans (Chg.of_below (HBA.out.trans (HB1.out.mono (by have := HZ.out; omega)))) hc2 (fun i hi e => by have := HRX.out; have := HZ.out; have := HBA.out.size; omega)
    exact h0.below (Nat.le_refl _) (fun i h => h)
  have HX2 := Lib.hid ((HX.out.keep HB1.out).chg hc2 (by have := HRX.out; have := HZ.out; omega) (by have := HRX.out; have := HZ.out; omega))
  clear hc2 CR HX
  cases RD with
  | error xa =>
    obtain ⟨x, p⟩ := xa
    subst hres
    have hx : 1 ≤ x := hfn.1.1
    have b2 : ((x : Int) != 0) = true := by simp; omega
    have b3 : ((x : Int) == 0) = false := by simp; omega
    have HR : Hid (R = .error (x, p)) := HRR.out
    clear hfn
    go_upto_region 5 with fail
    obtain ⟨w3, hw3⟩ : ∃ W, W = (w2.alloc (.cells #[.int .i64 0, .int .u64 0, .slice none 0 0, .string ⟨#[]⟩, .slice none 0 0] 26)).alloc (.cells #[.int .i64 (x : Nat), .int .i64 (p : Nat), .slice none 0 0] 35) := ⟨_, rfl⟩
    rw [← hw3]
    have hb3 : Below w2.heap.size w2 w3 := by rw [hw3]; exact ((Below.refl _ _).alloc (Nat.le_refl _) _).alloc (by simp) _
    obtain ⟨g7, hg7⟩ : ∃ g, g = w2.heap.size := ⟨_, rfl⟩
    have t0 : w3.cell? ⟨g7 + 1, 0, none⟩ = some (.int .i64 (x : Nat)) := by rw [hw3, hg7]; simp [go_sem]
    have t1 : w3.cell? ⟨g7 + 1, 1, none⟩ = some (.int .i64 (p : Nat)) := by rw [hw3, hg7]; simp [go_sem]
    have t2 : w3.cell? ⟨g7 + 1, 2, none⟩ = some (.slice none 0 0) := by rw [hw3, hg7]; simp [go_sem]
    have t3 : w3.frozen? ⟨g7 + 1, 0, none⟩ = false := by rw [hw3, hg7]; simp [go_sem]
    have t4 : w3.frozen? ⟨g7 + 1, 1, none⟩ = false := by rw [hw3, hg7]; simp [go_sem]
    have t5 : w3.frozen? ⟨g7 + 1, 2, none⟩ = false := by rw [hw3, hg7]; simp [go_sem]
    have HB3 := Lib.hid (HC2.out.trans (hb3.mono HC2.out.size))
    have HK3 := Lib.hid hb3
    have hz3 : w.heap.size + 2 ≤ g7 := by rw [hg7]; exact HZ2.out
    have hz4 : w3.heap.size = g7 + 2 := by rw [hw3, hg7]; simp
    rw [← hg7] at ⊢
    obtain ⟨⟨h0, h1, h2, h3, h4⟩, ⟨f0, f1, f2, f3, f4⟩, ⟨k0, k1, k2⟩, ⟨l0, l1, l2⟩⟩ := HX2.out.keep hb3
    have n0 : ¬ w.heap.size = g7 := by omega
    have m0 : ¬ g7 = w.heap.size := by omega
    have n1 : ¬ w.heap.size = g7 + 1 := by omega
    have m1 : ¬ g7 + 1 = w.heap.size := by omega
    have n2 : ¬ w.heap.size + 1 = g7 := by omega
    have m2 : ¬ g7 = w.heap.size + 1 := by omega
    have n3 : ¬ w.heap.size + 1 = g7 + 1 := by omega
    have m3 : ¬ g7 + 1 = w.heap.size + 1 := by omega
    clear hw3 hg7 hb3
    go_wp2_with fail
    go_region_held3 (fun W => W.cell? ⟨g7 + 1, 0, none⟩ = some (.int .i64 (x : Nat)) ∧ W.cell? ⟨g7 + 1, 1, none⟩ = some (.int .i64 (p : Nat)) ∧ W.cell? ⟨g7 + 1, 2, none⟩ = some (.slice none 0 0)) (first | (simp [go_sem, *]; done) | go_keep) (fail)
    all_goals
      (repeat (first | go_values | go_skip | go_guarded | go_step | go_upon | (go_simp; go_at_K)))
      refine bodyPost_ret (v := .tuple #[zIt, fltV x p]) (by simp [results, Try.results15, go_sem, *]) rfl ?_
      rw [HR.out]
      refine dec_err ?_
      (repeat' (first | with_reducible exact HB3.out | with_reducible apply Below.drew | with_reducible refine Below.alloc ?_ (by first | omega | (simp; done) | (simp; omega)) _ | with_reducible refine Below.setCell ?_ (by first | (simp; done) | (simp only []; omega)) _))
  | ok xq =>
    obtain ⟨x, q⟩ := xq
    obtain ⟨cx, rfl, hrx, hr2, he3⟩ := hres
    have hqn : q ≤ n := by have := hfn.2; omega
    have HRX2 : Hid (RdIt (fun k => w.heap.size + 2 ≤ k) w2 x cx) := Lib.hid (hrx.imp fun k _ h => by have := HB1.out.size; have := HZ.out; omega)
    obtain ⟨ki, ni, ab, nb, cb, text, ak, nk, ck, rfl⟩ := hrx.shape
    have HR2 := Lib.hid hr2
    clear hr2 he3
    clear hrx hfn
    go_upto_region 5 with fail
    obtain ⟨w3, hw3⟩ : ∃ W, W = (w2.alloc (.cells #[.int .i64 ki, .int .u64 (ni : Nat), .slice ab nb cb, .string text, .slice ak nk ck] 26)).alloc (.cells #[.int .i64 0, .int .i64 0, .slice none 0 0] 35) := ⟨_, rfl⟩
    rw [← hw3]
    have hb3 : Below w2.heap.size w2 w3 := by rw [hw3]; exact ((Below.refl _ _).alloc (Nat.le_refl _) _).alloc (by simp) _
    obtain ⟨g7, hg7⟩ : ∃ g, g = w2.heap.size := ⟨_, rfl⟩
    have u0 : w3.cell? ⟨g7, 0, none⟩ = some (.int .i64 ki) := by rw [hw3, hg7]; simp [go_sem]
    have u1 : w3.cell? ⟨g7, 1, none⟩ = some (.int .u64 (ni : Nat)) := by rw [hw3, hg7]; simp [go_sem]
    have u2 : w3.cell? ⟨g7, 2, none⟩ = some (.slice ab nb cb) := by rw [hw3, hg7]; simp [go_sem]
    have u3 : w3.cell? ⟨g7, 3, none⟩ = some (.string text) := by rw [hw3, hg7]; simp [go_sem]
    have u4 : w3.cell? ⟨g7, 4, none⟩ = some (.slice ak nk ck) := by rw [hw3, hg7]; simp [go_sem]
    have t0 : w3.cell? ⟨g7 + 1, 0, none⟩ = some (.int .i64 0) := by rw [hw3, hg7]; simp [go_sem]
    have t1 : w3.cell? ⟨g7 + 1, 1, none⟩ = some (.int .i64 0) := by rw [hw3, hg7]; simp [go_sem]
    have t2 : w3.cell? ⟨g7 + 1, 2, none⟩ = some (.slice none 0 0) := by rw [hw3, hg7]; simp [go_sem]
    have t3 : w3.frozen? ⟨g7 + 1, 0, none⟩ = false := by rw [hw3, hg7]; simp [go_sem]
    have t4 : w3.frozen? ⟨g7 + 1, 1, none⟩ = false := by rw [hw3, hg7]; simp [go_sem]
    have t5 : w3.frozen? ⟨g7 + 1, 2, none⟩ = false := by rw [hw3, hg7]; simp [go_sem]
    have HB3 := Lib.hid (HC2.out.trans (hb3.mono HC2.out.size))
    have HK3 := Lib.hid hb3
    have hz3 : w.heap.size + 2 ≤ g7 := by rw [hg7]; exact HZ2.out
    have hz4 : w3.heap.size = g7 + 2 := by rw [hw3, hg7]; simp
    rw [← hg7] at ⊢
    obtain ⟨⟨h0, h1, h2, h3, h4⟩, ⟨f0, f1, f2, f3, f4⟩, ⟨k0, k1, k2⟩, ⟨l0, l1, l2⟩⟩ := HX2.out.keep hb3
    have n0 : ¬ w.heap.size = g7 := by omega
    have m0 : ¬ g7 = w.heap.size := by omega
    have n1 : ¬ w.heap.size = g7 + 1 := by omega
    have m1 : ¬ g7 + 1 = w.heap.size := by omega
    have n2 : ¬ w.heap.size + 1 = g7 := by omega
    have m2 : ¬ g7 = w.heap.size + 1 := by omega
    have n3 : ¬ w.heap.size + 1 = g7 + 1 := by omega
    have m3 : ¬ g7 + 1 = w.heap.size + 1 := by omega
    clear hw3 hg7 hb3
    have HRB3 := Lib.hid (HR2.out.keep HK3.out)
    have HLF := Lib.hid (rleft_calls r q l w3 HRB3.out)
    have HAT := Lib.hid (fun nq => rat_calls r q l (w3.drewN nq) (HRB3.out.keep (below_drewN w3 nq w3.heap.size)))
    by_cases hlt : q < n
    · have HR : Hid (R = .error (7, q)) := by show _ = _; rw [HRR.out]; exact if_pos hlt
      have e5 : decide ((0 : Int) < (l.length : Int) - (q : Int)) = true := by simp; omega
      generalize (l.length : Int) - (q : Int) = Z at HLF e5
      clear hlt
      go_wp2_with fail
      refine HLF.out.mono ?_
      rintro e w4 ⟨rfl, nq, rfl⟩
      go_wp2_with fail
      refine (HAT.out nq).mono ?_
      rintro e w5 ⟨rfl, rfl⟩
      go_wp2_with fail
      refine (wrong28 7 q _).mono ?_
      rintro e w9 ⟨rfl, hb9⟩
      have hb9' : Below w3.heap.size w3 w9 := (below_drewN w3 nq w3.heap.size).trans (hb9.mono (below_drewN w3 nq w3.heap.size).size)
      have HB9 := Lib.hid (HB3.out.trans (hb9'.mono (by omega)))
      have hz9 : w.heap.size + 2 ≤ w9.heap.size := by have := hb9'.size; omega
      clear h0 h1 h2 h3 h4 f0 f1 f2 f3 f4 k0 k1 k2 l0 l1 l2
      obtain ⟨⟨h0, h1, h2, h3, h4⟩, ⟨f0, f1, f2, f3, f4⟩, ⟨k0, k1, k2⟩, ⟨l0, l1, l2⟩⟩ := (HX2.out.keep HK3.out).keep hb9'
      clear hb9 hb9'
      (repeat (first | go_values | go_skip | go_guarded | go_step | go_upon | (go_simp; go_at_K)))
      refine bodyPost_ret (v := .tuple #[zIt, fltV 7 q]) (by simp [results, Try.results15, go_sem, *]) rfl ?_
      rw [HR.out]
      refine dec_err ?_
      (repeat' (first | with_reducible exact HB9.out | with_reducible apply Below.drew | with_reducible refine Below.alloc ?_ (by first | omega | (simp; done) | (simp; omega)) _ | with_reducible refine Below.setCell ?_ (by first | (simp; done) | (simp only []; omega)) _))
    · have HR : Hid (R = .ok (x, q)) := by show _ = _; rw [HRR.out]; exact if_neg hlt
      have e5 : decide ((0 : Int) < (l.length : Int) - (q : Int)) = false := by simp; omega
      generalize (l.length : Int) - (q : Int) = Z at HLF e5
      clear hlt
      go_wp2_with fail
      refine HLF.out.mono ?_
      rintro e w4 ⟨rfl, nq, rfl⟩
      (repeat (first | go_values | go_skip | go_guarded | go_step | go_upon | (go_simp; go_at_K)))
      refine bodyPost_ret (v := .tuple #[.agg #[.int .i64 ki, .int .u64 (ni : Nat), .slice ab nb cb, .string text, .slice ak nk ck], fltV 0 0]) (by simp [results, Try.results15, go_sem, *]) rfl ?_
      rw [HR.out]
      refine dec_fin (wr := w3) (HRX2.out.below HK3.out) HB3.out (by omega) ?_
      (repeat' (first | with_reducible exact Chg.refl _ _ | with_reducible apply Chg.drew | with_reducible exact Chg.of_below (below_drewN w3 nq w3.heap.size) | with_reducible refine Chg.alloc ?_ _ | with_reducible refine Chg.setCell ?_ (fun h => ?_) _))
      all_goals (dsimp only; omega)

set_option maxRecDepth 100000 in
set_option maxHeartbeats 8000000 in
theorem rdecode_lo (a : Option Addr) (n cap : Nat) (l : List UInt8) (w : World) (h : RdB w a n l) (hc : a = none → cap = 0) (hnc : n ≤ cap) (hn : n ≤ 1000000) (dp : Int) (hd1 : -9223372036854775808 ≤ dp) (hd2 : dp ≤ 9223372036854775807) (hlo : dp < 0) :
    Calls Try.prog 16 #[.slice a n cap, .int .i64 dp] w (DecO w (decQ l dp)) := by
  obtain ⟨wa, hwa⟩ : ∃ W, W = (w.alloc (.cells #[.int .i64 0, .int .u64 0, .slice none 0 0, .string ⟨#[]⟩, .slice none 0 0] 26)).alloc (.cells #[.int .i64 0, .int .i64 0, .slice none 0 0] 35) := ⟨_, rfl⟩
  have hba : Below w.heap.size w wa := by
    rw [hwa]
    exact ((Below.refl _ _).alloc (Nat.le_refl _) _).alloc (by simp) _
  have hbx : RBx wa w.heap.size (w.heap.size + 1) := by rw [hwa]; exact RBx.new _ _ _
  have hz : wa.heap.size = w.heap.size + 2 := by rw [hwa]; simp
  have HX := Lib.hid hbx
  have HRD := Lib.hid (h.keep hba)
  have HBA := Lib.hid hba
  have HZ := Lib.hid hz
  obtain ⟨R, hR⟩ : ∃ R, R = decQ l dp := ⟨_, rfl⟩
  rw [← hR]
  have hbl : l.length = n := h.1
  have HR : Hid (R = .error (1, 0)) := by show _ = _; rw [hR]; unfold decQ; rw [if_pos (by omega)]
  have d1 : decide (dp < 0) = true := by simpa using hlo
  clear hR h hc hnc hba hbx hlo
  have hzq : w.heap.size + 2 ≤ wa.heap.size := by omega
  obtain ⟨⟨h0, h1, h2, h3, h4⟩, ⟨f0, f1, f2, f3, f4⟩, ⟨k0, k1, k2⟩, ⟨l0, l1, l2⟩⟩ := HX.out
  go_enter Try.func16, Try.ntmps16
  go_upto_region 1 with fail
  rw [← hwa]
  clear hwa
  (repeat (first | go_values | go_skip | go_guarded | go_step | go_upon | (go_simp; go_at_K)))
  refine bodyPost_ret (v := .tuple #[zIt, fltV 1 0]) (by simp [results, Try.results16, go_sem, *]) rfl ?_
  rw [HR.out]
  refine dec_err ?_
  (repeat' (first | with_reducible exact HBA.out | with_reducible apply Below.drew | with_reducible refine Below.alloc ?_ (by first | omega | (simp; done) | (simp; omega)) _ | with_reducible refine Below.setCell ?_ (by first | (simp; done) | (simp only []; omega)) _))

set_option maxRecDepth 100000 in
set_option maxHeartbeats 8000000 in
theorem rdecode_hi (a : Option Addr) (n cap : Nat) (l : List UInt8) (w : World) (h : RdB w a n l) (hc : a = none → cap = 0) (hnc : n ≤ cap) (hn : n ≤ 1000000) (dp : Int) (hd1 : -9223372036854775808 ≤ dp) (hd2 : dp ≤ 9223372036854775807) (hlo : ¬ dp < 0) (hhi : 1000 < dp) :
    Calls Try.prog 16 #[.slice a n cap, .int .i64 dp] w (DecO w (decQ l dp)) := by
  obtain ⟨wa, hwa⟩ : ∃ W, W = (w.alloc (.cells #[.int .i64 0, .int .u64 0, .slice none 0 0, .string ⟨#[]⟩, .slice none 0 0] 26)).alloc (.cells #[.int .i64 0, .int .i64 0, .slice none 0 0] 35) := ⟨_, rfl⟩
  have hba : Below w.heap.size w wa := by
    rw [hwa]
    exact ((Below.refl _ _).alloc (Nat.le_refl _) _).alloc (by simp) _
  have hbx : RBx wa w.heap.size (w.heap.size + 1) := by rw [hwa]; exact RBx.new _ _ _
  have hz : wa.heap.size = w.heap.size + 2 := by rw [hwa]; simp
  have HX := Lib.hid hbx
  have HRD := Lib.hid (h.keep hba)
  have HBA := Lib.hid hba
  have HZ := Lib.hid hz
  obtain ⟨R, hR⟩ : ∃ R, R = decQ l dp := ⟨_, rfl⟩
  rw [← hR]
  have hbl : l.length = n := h.1
  have HR : Hid (R = .error (1, 0)) := by show _ = _; rw [hR]; unfold decQ; rw [if_pos (by omega)]
  have d1 : decide (dp < 0) = false := by simp; omega
  have d2 : decide (1000 < dp) = true := by simpa using hhi
  clear hR h hc hnc hba hbx hlo hhi
  have hzq : w.heap.size + 2 ≤ wa.heap.size := by omega
  obtain ⟨⟨h0, h1, h2, h3, h4⟩, ⟨f0, f1, f2, f3, f4⟩, ⟨k0, k1, k2⟩, ⟨l0, l1, l2⟩⟩ := HX.out
  go_enter Try.func16, Try.ntmps16
  go_upto_region 1 with fail
  rw [← hwa]
  clear hwa
  (repeat (first | go_values | go_skip | go_guarded | go_step | go_upon | (go_simp; go_at_K)))
  refine bodyPost_ret (v := .tuple #[zIt, fltV 1 0]) (by simp [results, Try.results16, go_sem, *]) rfl ?_
  rw [HR.out]
  refine dec_err ?_
  (repeat' (first | with_reducible exact HBA.out | with_reducible apply Below.drew | with_reducible refine Below.alloc ?_ (by first | omega | (simp; done) | (simp; omega)) _ | with_reducible refine Below.setCell ?_ (by first | (simp; done) | (simp only []; omega)) _))

set_option maxRecDepth 100000 in
set_option maxHeartbeats 8000000 in
theorem rdecode_in (a : Option Addr) (n cap : Nat) (l : List UInt8) (w : World) (h : RdB w a n l) (hc : a = none → cap = 0) (hnc : n ≤ cap) (hn : n ≤ 1000000) (dp : Int) (hd1 : -9223372036854775808 ≤ dp) (hd2 : dp ≤ 9223372036854775807) (dep : Nat) (hdep : dep ≤ 1000) (hdd : dp = (dep : Int)) :
    Calls Try.prog 16 #[.slice a n cap, .int .i64 dp] w (DecO w (decQ l dp)) := by
  obtain ⟨wa, hwa⟩ : ∃ W, W = (w.alloc (.cells #[.int .i64 0, .int .u64 0, .slice none 0 0, .string ⟨#[]⟩, .slice none 0 0] 26)).alloc (.cells #[.int .i64 0, .int .i64 0, .slice none 0 0] 35) := ⟨_, rfl⟩
  have hba : Below w.heap.size w wa := by
    rw [hwa]
    exact ((Below.refl _ _).alloc (Nat.le_refl _) _).alloc (by simp) _
  have hbx : RBx wa w.heap.size (w.heap.size + 1) := by rw [hwa]; exact RBx.new _ _ _
  have hz : wa.heap.size = w.heap.size + 2 := by rw [hwa]; simp
  have HX := Lib.hid hbx
  have HRD := Lib.hid (h.keep hba)
  have HBA := Lib.hid hba
  have HZ := Lib.hid hz
  obtain ⟨R, hR⟩ : ∃ R, R = decQ l dp := ⟨_, rfl⟩
  rw [← hR]
  have hbl : l.length = n := h.1
  rw [hdd, decQ_cut l dep hdep, hbl] at hR
  subst hdd
  have c1 : decide ((dep : Int) < 0) = false := by simp
  have c2 : decide ((1000 : Int) < (dep : Int)) = false := by simp; omega
  have c2n : decide (1000 < dep) = false := by simp; omega
  obtain ⟨RD, hRD⟩ : ∃ x, x = readQ l dep 0 := ⟨_, rfl⟩
  have hfn := readQ_fine l dep 0 (Nat.zero_le _)
  rw [← hRD] at hR hfn
  have CR : Hid (∀ W, RdB W a n l → Calls Try.prog 34 #[.slice a n cap, .int .i64 0, .int .i64 0, .int .i64 (dep : Nat)] W (RReadO W RD)) := Lib.hid (fun W hW => by rw [hRD]; exact rread_all dep a n cap l 0 0 dep W hW hn hnc (Nat.zero_le _) (by omega) hdep)
  have HRR := Lib.hid hR
  have HRD2 := Lib.hid hRD
  clear hR hRD h hba hbx hc hz
  go_enter Try.func16, Try.ntmps16
  go_upto_region 1 with fail
  rw [← hwa]
  clear hwa
  go_wp2_with fail
  refine (CR.out _ HRD.out).mono ?_
  rintro e w2 ⟨hb2, hres⟩
  have HZ2 : Hid (w.heap.size + 2 ≤ w2.heap.size) := by show _ ≤ _; have := hb2.size; have := HZ.out; omega
  have HC2 : Hid (Below w.heap.size w w2) := Lib.hid (HBA.out.trans (hb2.mono (by have := HZ.out; omega)))
  have HX2 := Lib.hid (HX.out.keep hb2)
  clear hb2 CR HX
  cases RD with
  | error xa =>
    obtain ⟨x, p⟩ := xa
    subst hres
    have hx : 1 ≤ x := hfn.1.1
    have b2 : ((x : Int) != 0) = true := by simp; omega
    have b3 : ((x : Int) == 0) = false := by simp; omega
    have HR : Hid (R = .error (x, p)) := HRR.out
    clear hfn
    go_upto_region 4 with fail
    obtain ⟨w3, hw3⟩ : ∃ W, W = (w2.alloc (.cells #[.int .i64 0, .int .u64 0, .slice none 0 0, .string ⟨#[]⟩, .slice none 0 0] 26)).alloc (.cells #[.int .i64 (x : Nat), .int .i64 (p : Nat), .slice none 0 0] 35) := ⟨_, rfl⟩
    rw [← hw3]
    have hb3 : Below w2.heap.size w2 w3 := by rw [hw3]; exact ((Below.refl _ _).alloc (Nat.le_refl _) _).alloc (by simp) _
    obtain ⟨g7, hg7⟩ : ∃ g, g = w2.heap.size := ⟨_, rfl⟩
    have t0 : w3.cell? ⟨g7 + 1, 0, none⟩ = some (.int .i64 (x : Nat)) := by rw [hw3, hg7]; simp [go_sem]
    have t1 : w3.cell? ⟨g7 + 1, 1, none⟩ = some (.int .i64 (p : Nat)) := by rw [hw3, hg7]; simp [go_sem]
    have t2 : w3.cell? ⟨g7 + 1, 2, none⟩ = some (.slice none 0 0) := by rw [hw3, hg7]; simp [go_sem]
    have t3 : w3.frozen? ⟨g7 + 1, 0, none⟩ = false := by rw [hw3, hg7]; simp [go_sem]
    have t4 : w3.frozen? ⟨g7 + 1, 1, none⟩ = false := by rw [hw3, hg7]; simp [go_sem]
    have t5 : w3.frozen? ⟨g7 + 1, 2, none⟩ = false := by rw [hw3, hg7]; simp [go_sem]
    have HB3 := Lib.hid (HC2.out.trans (hb3.mono HC2.out.size))
    have HK3 := Lib.hid hb3
    have hz3 : w.heap.size + 2 ≤ g7 := by rw [hg7]; exact HZ2.out
    have hz4 : w3.heap.size = g7 + 2 := by rw [hw3, hg7]; simp
    rw [← hg7] at ⊢
    obtain ⟨⟨h0, h1, h2, h3, h4⟩, ⟨f0, f1, f2, f3, f4⟩, ⟨k0, k1, k2⟩, ⟨l0, l1, l2⟩⟩ := HX2.out.keep hb3
    have n0 : ¬ w.heap.size = g7 := by omega
    have m0 : ¬ g7 = w.heap.size := by omega
    have n1 : ¬ w.heap.size = g7 + 1 := by omega
    have m1 : ¬ g7 + 1 = w.heap.size := by omega
    have n2 : ¬ w.heap.size + 1 = g7 := by omega
    have m2 : ¬ g7 = w.heap.size + 1 := by omega
    have n3 : ¬ w.heap.size + 1 = g7 + 1 := by omega
    have m3 : ¬ g7 + 1 = w.heap.size + 1 := by omega
    clear hw3 hg7 hb3
    go_wp2_with fail
    go_region_held3 (fun W => W.cell? ⟨g7 + 1, 0, none⟩ = some (.int .i64 (x : Nat)) ∧ W.cell? ⟨g7 + 1, 1, none⟩ = some (.int .i64 (p : Nat)) ∧ W.cell? ⟨g7 + 1, 2, none⟩ = some (.slice none 0 0)) (first | (simp [go_sem, *]; done) | go_keep) (fail)
    all_goals
      (repeat (first | go_values | go_skip | go_guarded | go_step | go_upon | (go_simp; go_at_K)))
      refine bodyPost_ret (v := .tuple #[zIt, fltV x p]) (by simp [results, Try.results16, go_sem, *]) rfl ?_
      rw [HR.out]
      refine dec_err ?_
      (repeat' (first | with_reducible exact HB3.out | with_reducible apply Below.drew | with_reducible refine Below.alloc ?_ (by first | omega | (simp; done) | (simp; omega)) _ | with_reducible refine Below.setCell ?_ (by first | (simp; done) | (simp only []; omega)) _))
  | ok xq =>
    obtain ⟨x, q⟩ := xq
    obtain ⟨cx, rfl, hrx⟩ := hres
    have hqn : q ≤ n := by have := hfn.2; omega
    have HRX2 : Hid (RdIt (fun k => w.heap.size + 2 ≤ k) w2 x cx) := Lib.hid (hrx.imp fun k _ h => by have := HZ.out; omega)
    obtain ⟨ki, ni, ab, nb, cb, text, ak, nk, ck, rfl⟩ := hrx.shape
    clear hrx hfn
    go_upto_region 4 with fail
    obtain ⟨w3, hw3⟩ : ∃ W, W = (w2.alloc (.cells #[.int .i64 ki, .int .u64 (ni : Nat), .slice ab nb cb, .string text, .slice ak nk ck] 26)).alloc (.cells #[.int .i64 0, .int .i64 0, .slice none 0 0] 35) := ⟨_, rfl⟩
    rw [← hw3]
    have hb3 : Below w2.heap.size w2 w3 := by rw [hw3]; exact ((Below.refl _ _).alloc (Nat.le_refl _) _).alloc (by simp) _
    obtain ⟨g7, hg7⟩ : ∃ g, g = w2.heap.size := ⟨_, rfl⟩
    have u0 : w3.cell? ⟨g7, 0, none⟩ = some (.int .i64 ki) := by rw [hw3, hg7]; simp [go_sem]
    have u1 : w3.cell? ⟨g7, 1, none⟩ = some (.int .u64 (ni : Nat)) := by rw [hw3, hg7]; simp [go_sem]
    have u2 : w3.cell? ⟨g7, 2, none⟩ = some (.slice ab nb cb) := by rw [hw3, hg7]; simp [go_sem]
    have u3 : w3.cell? ⟨g7, 3, none⟩ = some (.string text) := by rw [hw3, hg7]; simp [go_sem]
    have u4 : w3.cell? ⟨g7, 4, none⟩ = some (.slice ak nk ck) := by rw [hw3, hg7]; simp [go_sem]
    have t0 : w3.cell? ⟨g7 + 1, 0, none⟩ = some (.int .i64 0) := by rw [hw3, hg7]; simp [go_sem]
    have t1 : w3.cell? ⟨g7 + 1, 1, none⟩ = some (.int .i64 0) := by rw [hw3, hg7]; simp [go_sem]
    have t2 : w3.cell? ⟨g7 + 1, 2, none⟩ = some (.slice none 0 0) := by rw [hw3, hg7]; simp [go_sem]
    have t3 : w3.frozen? ⟨g7 + 1, 0, none⟩ = false := by rw [hw3, hg7]; simp [go_sem]
    have t4 : w3.frozen? ⟨g7 + 1, 1, none⟩ = false := by rw [hw3, hg7]; simp [go_sem]
    have t5 : w3.frozen? ⟨g7 + 1, 2, none⟩ = false := by rw [hw3, hg7]; simp [go_sem]
    have HB3 := Lib.hid (HC2.out.trans (hb3.mono HC2.out.size))
    have HK3 := Lib.hid hb3
    have hz3 : w.heap.size + 2 ≤ g7 := by rw [hg7]; exact HZ2.out
    have hz4 : w3.heap.size = g7 + 2 := by rw [hw3, hg7]; simp
    rw [← hg7] at ⊢
    obtain ⟨⟨h0, h1, h2, h3, h4⟩, ⟨f0, f1, f2, f3, f4⟩, ⟨k0, k1, k2⟩, ⟨l0, l1, l2⟩⟩ := HX2.out.keep hb3
    have n0 : ¬ w.heap.size = g7 := by omega
    have m0 : ¬ g7 = w.heap.size := by omega
    have n1 : ¬ w.heap.size = g7 + 1 := by omega
    have m1 : ¬ g7 + 1 = w.heap.size := by omega
    have n2 : ¬ w.heap.size + 1 = g7 := by omega
    have m2 : ¬ g7 = w.heap.size + 1 := by omega
    have n3 : ¬ w.heap.size + 1 = g7 + 1 := by omega
    have m3 : ¬ g7 + 1 = w.heap.size + 1 := by omega
    clear hw3 hg7 hb3
    by_cases hlt : q < n
    · have HR : Hid (R = .error (7, q)) := by show _ = _; rw [HRR.out]; exact if_pos hlt
      have e5 : decide ((q : Int) < (n : Int)) = true := by simp; omega
      have e5n : decide (q < n) = true := by simp; omega
      clear hlt
      go_upto_region 6 with fail
      obtain ⟨w4, hw4⟩ : ∃ W, W = ((w3.setCell ⟨g7 + 1, 0, none⟩ (.int .i64 7)).setCell ⟨g7 + 1, 1, none⟩ (.int .i64 (q : Nat))).setCell ⟨g7 + 1, 2, none⟩ (.slice none 0 0) := ⟨_, rfl⟩
      rw [← hw4]
      have hb4 : Below w.heap.size w w4 := by rw [hw4]; exact ((HB3.out.setCell (by show _ ≤ g7 + 1; omega) _).setCell (by show _ ≤ g7 + 1; omega) _).setCell (by show _ ≤ g7 + 1; omega) _
      have v0 : w4.cell? ⟨g7 + 1, 0, none⟩ = some (.int .i64 7) := by rw [hw4]; simp [go_sem, *]
      have v1 : w4.cell? ⟨g7 + 1, 1, none⟩ = some (.int .i64 (q : Nat)) := by rw [hw4]; simp [go_sem, *]
      have v2 : w4.cell? ⟨g7 + 1, 2, none⟩ = some (.slice none 0 0) := by rw [hw4]; simp [go_sem, *]
      have hbx4 : RBx w4 w.heap.size (w.heap.size + 1) := by
        refine ((HX2.out.keep HK3.out).chg (S := fun i => i = g7 + 1) ?_ (by omega) (by omega))
        rw [hw4]
        have hX : (fun i => i = g7 + 1) (g7 + 1) := rfl
        exact (((Chg.refl _ _).setCell (fun _ => hX) _).setCell (fun _ => hX) _).setCell (fun _ => hX) _
      have HB4 := Lib.hid hb4
      have hz5 : w.heap.size + 2 ≤ w4.heap.size := by rw [hw4]; simp; omega
      clear hw4 hb4 h0 h1 h2 h3 h4 f0 f1 f2 f3 f4 k0 k1 k2 l0 l1 l2 t0 t1 t2 t3 t4 t5 u0 u1 u2 u3 u4
      obtain ⟨⟨h0, h1, h2, h3, h4⟩, ⟨f0, f1, f2, f3, f4⟩, ⟨k0, k1, k2⟩, ⟨l0, l1, l2⟩⟩ := hbx4
      go_wp2_with fail
      go_region_held3 (fun W => W.cell? ⟨g7 + 1, 0, none⟩ = some (.int .i64 7) ∧ W.cell? ⟨g7 + 1, 1, none⟩ = some (.int .i64 (q : Nat)) ∧ W.cell? ⟨g7 + 1, 2, none⟩ = some (.slice none 0 0)) (first | (simp [go_sem, *]; done) | go_keep) (fail)
      all_goals
        (repeat (first | go_values | go_skip | go_guarded | go_step | go_upon | (go_simp; go_at_K)))
        refine bodyPost_ret (v := .tuple #[zIt, fltV 7 q]) (by simp [results, Try.results16, go_sem, *]) rfl ?_
        rw [HR.out]
        refine dec_err ?_
        (repeat' (first | with_reducible exact HB4.out | with_reducible apply Below.drew | with_reducible refine Below.alloc ?_ (by first | omega | (simp; done) | (simp; omega)) _ | with_reducible refine Below.setCell ?_ (by first | (simp; done) | (simp only []; omega)) _))
    · have HR : Hid (R = .ok (x, q)) := by show _ = _; rw [HRR.out]; exact if_neg hlt
      have e5 : decide ((q : Int) < (n : Int)) = false := by simp; omega
      have e5n : decide (q < n) = false := by simp; omega
      clear hlt
      go_wp2_with fail
      go_region_held3 (fun W => W.cell? ⟨g7 + 1, 0, none⟩ = some (.int .i64 0) ∧ W.cell? ⟨g7 + 1, 1, none⟩ = some (.int .i64 0) ∧ W.cell? ⟨g7 + 1, 2, none⟩ = some (.slice none 0 0) ∧ W.cell? ⟨g7, 0, none⟩ = some (.int .i64 ki) ∧ W.cell? ⟨g7, 1, none⟩ = some (.int .u64 (ni : Nat)) ∧ W.cell? ⟨g7, 2, none⟩ = some (.slice ab nb cb) ∧ W.cell? ⟨g7, 3, none⟩ = some (.string text) ∧ W.cell? ⟨g7, 4, none⟩ = some (.slice ak nk ck)) (first | (simp [go_sem, *]; done) | go_keep) (fail)
      all_goals
        (repeat (first | go_values | go_skip | go_guarded | go_step | go_upon | (go_simp; go_at_K)))
        refine bodyPost_ret (v := .tuple #[.agg #[.int .i64 ki, .int .u64 (ni : Nat), .slice ab nb cb, .string text, .slice ak nk ck], fltV 0 0]) (by simp [results, Try.results16, go_sem, *]) rfl ?_
        rw [HR.out]
        refine dec_fin (wr := w3) (HRX2.out.below HK3.out) HB3.out (by omega) ?_
        (repeat' (first | with_reducible exact Chg.refl _ _ | with_reducible apply Chg.drew | with_reducible refine Chg.alloc ?_ _ | with_reducible refine Chg.setCell ?_ (fun h => ?_) _))
        all_goals (dsimp only; omega)

theorem decode_calls28 (a : Option Addr) (n cap : Nat) (l : List UInt8) (w : World) (h : RdB w a n l) (hc : a = none → cap = 0) (hnc : n ≤ cap) (hn : n ≤ 1000000) (dp : Int) (hd1 : -9223372036854775808 ≤ dp) (hd2 : dp ≤ 9223372036854775807) :
    Calls Try.prog 15 #[.slice a n cap, .int .i64 dp] w (DecO w (decQ l dp)) := by
  by_cases h1 : dp < 0
  · exact decode_lo a n cap l w h hc hnc hn dp hd1 hd2 h1
  by_cases h2 : 1000 < dp
  · exact decode_hi a n cap l w h hc hnc hn dp hd1 hd2 h1 h2
  · exact decode_in a n cap l w h hc hnc hn dp hd1 hd2 dp.toNat (by omega) (by omega)

theorem rdecode_calls28 (a : Option Addr) (n cap : Nat) (l : List UInt8) (w : World) (h : RdB w a n l) (hc : a = none → cap = 0) (hnc : n ≤ cap) (hn : n ≤ 1000000) (dp : Int) (hd1 : -9223372036854775808 ≤ dp) (hd2 : dp ≤ 9223372036854775807) :
    Calls Try.prog 16 #[.slice a n cap, .int .i64 dp] w (DecO w (decQ l dp)) := by
  by_cases h1 : dp < 0
  · exact rdecode_lo a n cap l w h hc hnc hn dp hd1 hd2 h1
  by_cases h2 : 1000 < dp
  · exact rdecode_hi a n cap l w h hc hnc hn dp hd1 hd2 h1 h2
  · exact rdecode_in a n cap l w h hc hnc hn dp hd1 hd2 dp.toNat (by omega) (by omega)

end Go.Proofs.Ytambhapgjonmmaa

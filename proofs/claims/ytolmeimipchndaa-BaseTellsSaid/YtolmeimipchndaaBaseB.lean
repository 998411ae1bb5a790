/- The program's Bytes: a text read as bytes. -/
import Derived.Test.YtolmeimipchndaaBaseD
import Derived.Test.YtolmeimipchndaaJumps
import Derived.Test.YtolmeimipchndaaApp
namespace Go.Proofs.Ytolmeimipchndaa
open Go.RowKit
set_option linter.unusedVariables false
set_option linter.unusedSimpArgs false

def sl (s : ByteArray) : List UInt8 := s.data.toList
theorem sl_len (s : ByteArray) : (sl s).length = s.size := by unfold sl; simp

/-- What the program reads. -/
def Res (s : ByteArray) : Option (List UInt8) := if s.size % 4 = 0 then rd64 ((sl s).getLastD 0) 0 0 [] (sl s) else none

/-- What Bytes answers. -/
def BytesOut (w : World) (s : ByteArray) (e : Ending) (w' : World) : Prop :=
  ∃ v ok bs, e = .returned (.tuple #[v, .bool ok]) ∧ OwnB w' w.heap.size v bs ∧ Below w.heap.size w w' ∧ (ok = true → Res s = some bs) ∧ (ok = false → Res s = none ∧ bs = [])

def BFr (a : Act) (u : Nat → Value) : Prop := a = ⟨((List.range 80).map u).toArray, []⟩

theorem BFr.of (A : Array Value) (h : A.size = 80) : BFr ⟨A, []⟩ (fun i => A.getD i undef) := by
  unfold BFr
  congr 1
  apply Array.ext
  · simp [h]
  · intro i h1 h2
    simp [h1]

/-- The state at a label. -/
structure BSt (s : ByteArray) (w : World) (u : Nat → Value) (bits hv p : Nat) (out : List UInt8) (w' : World) : Prop where
  s0 : u 0 = .string s
  s5 : u 5 = .int .i64 bits
  s6 : u 6 = .int .i64 hv
  s7 : u 7 = .int .i64 p
  b0 : bits < 64
  hvs : hv = 0 ∨ hv = 2 ∨ hv = 4 ∨ hv = 6
  b1 : bits < 2 ^ hv
  hp : p ≤ s.size
  res : Res s = rd64 ((sl s).getLastD 0) bits hv out ((sl s).drop p)
  own : OwnB w' w.heap.size (u 4) out
  len : out.length ≤ p
  below : Below w.heap.size w w'

def BL (l : Nat) : Prop := l = 0 ∨ l = 1 ∨ l = 2

def BJ (s : ByteArray) (w : World) : Nat → Act → World → Prop
  | 0, a, w' => ∃ u, BFr a u ∧ u 0 = .string s ∧ Res s = none ∧ Below w.heap.size w w'
  | 1, a, w' => ∃ u bits hv p out, BFr a u ∧ BSt s w u bits hv p out w'
  | _, a, w' => ∃ u bits hv p out, BFr a u ∧ BSt s w u bits hv p out w' ∧ p < s.size ∧ (sl s).getD p 0 = 61

def bmu (s : ByteArray) (l : Nat) (a : Act) (_ : World) : Nat := if l = 1 then s.size - (intOf (a.tmps.getD 7 undef)).toNat + 2 else if l = 2 then 1 else 0

noncomputable def bcode : Code := match Try.f24.body with | some (.seq _ (.scope c)) => c | _ => .skip
noncomputable def brest (l : Nat) : Code := (findLabel bcode l).getD .skip
/-- What stands behind 'next'. -/
noncomputable def bnext : Code := match brest 1 with | .seq _ x => x | c => c

set_option maxRecDepth 100000 in
set_option maxHeartbeats 1000000 in
theorem bpass0 (s : ByteArray) (w : World) (a : Act) (w' : World) (hJ : BJ s w 0 a w') (J : Nat → Act → World → Prop) :
    (brest 0).wp Try.prog (JumpTo BL J (bodyPost Try.prog Try.f24 (BytesOut w s))) a w' := by
  obtain ⟨u, rfl, h0, hr, hb⟩ := hJ
  have HR := Lib.hid hr
  have HB := Lib.hid hb
  clear hr hb
  simp only [List.range, List.range.loop, List.map_cons, List.map_nil, h0]
  conv => arg 2; whnf
  go_wp2_with fail
  simp only [JumpTo]
  go_ret2
  exact ⟨_, false, [], rfl, World.ownsRow_nil _ _ _ _, HB.out, by simp, fun _ => ⟨HR.out, rfl⟩⟩

theorem last_at {s : ByteArray} (h : s.size - 1 < s.size) : (sl s).getLastD 0 = s[s.size - 1]'h := by
  have hl : (sl s).length = s.size := sl_len s
  have hne : sl s ≠ [] := by intro e; rw [e] at hl; simp at hl; omega
  rw [List.getLastD_eq_getLast?, List.getLast?_eq_getElem?, List.getElem?_eq_getElem (by omega)]
  simp only [Option.getD_some, hl]
  rfl

/-- The way to 'none'. -/
theorem to_none {s : ByteArray} {w w' : World} {l : Nat} {a : Act} {A : Array Value} (hA : A.size = 80) (h0 : A.getD 0 undef = .string s) (hr : Res s = none) (hb : Below w.heap.size w w') (hl : 0 < bmu s l a w') :
    BL 0 ∧ BJ s w 0 ⟨A, []⟩ w' ∧ bmu s 0 ⟨A, []⟩ w' < bmu s l a w' :=
  ⟨.inl rfl, ⟨_, BFr.of A hA, h0, hr, hb⟩, by show (if (0 : Nat) = 1 then _ else if (0 : Nat) = 2 then 1 else 0) < _; simpa using hl⟩

set_option maxRecDepth 100000 in
set_option maxHeartbeats 2000000 in
theorem bpass2 (s : ByteArray) (hs : s.size ≤ 1000000) (w : World) (a : Act) (w' : World) (hJ : BJ s w 2 a w') :
    (brest 2).wp Try.prog (JumpTo BL (fun l' a' w'' => BJ s w l' a' w'' ∧ bmu s l' a' w'' < bmu s 2 a w') (bodyPost Try.prog Try.f24 (BytesOut w s))) a w' := by
  obtain ⟨u, bits, hv, p, out, rfl, ⟨h0, h5, h6, h7, b0, hvs, b1, hp, hr, ho, hlen, hbl⟩, hlt, hc⟩ := hJ
  have hd : (sl s).drop p = 61 :: (sl s).drop (p + 1) := by rw [drop_getD _ 0 p (by rw [sl_len]; exact hlt), hc]
  rw [hd, rd_stop] at hr
  have hdl : ((sl s).drop (p + 1)).length + 1 = s.size - p := by rw [List.length_drop, sl_len]; omega
  rw [hdl] at hr
  have HR := Lib.hid hr
  have HO := Lib.hid ho
  have HB := Lib.hid hbl
  have hmu : ∀ a, 0 < bmu s 2 a w' := fun a => by unfold bmu; simp
  clear hr ho hbl hd hdl hc b1
  simp only [List.range, List.range.loop, List.map_cons, List.map_nil, h0, h5, h6, h7]
  generalize hu4 : u 4 = vb at HO
  have q1 : IntKind.i64.wrap ((s.size : Int) - (hv : Int) / 2) = (s.size : Int) - (hv : Int) / 2 := IntWalk.i64_in _ (by omega)
  have hh : s.size - 1 < s.size := by omega
  by_cases e0 : bits = 0
  · subst e0
    by_cases e1 : hv = 0
    · subst e1
      have hz := HR.out
      rw [if_pos (.inr (.inl rfl))] at hz
      have HZ := Lib.hid hz
      clear hz
      conv => arg 2; whnf
      go_wp2_with fail
      go_step3
      exact to_none rfl rfl HZ.out HB.out (hmu _)
    · by_cases e2 : hv = 6
      · subst e2
        have hz := HR.out
        rw [if_pos (.inr (.inr (.inl rfl)))] at hz
        have HZ := Lib.hid hz
        clear hz
        conv => arg 2; whnf
        go_wp2_with fail
        go_step3
        exact to_none rfl rfl HZ.out HB.out (hmu _)
      · have d1 : ((hv : Int) == 0) = false := by simp; omega
        have d2 : ((hv : Int) == 6) = false := by simp; omega
        by_cases e3 : (p : Int) = (s.size : Int) - (hv : Int) / 2
        · have d3 : ((p : Int) != (s.size : Int) - (hv : Int) / 2) = false := by simp; omega
          by_cases eL : (sl s).getLastD 0 = 61
          · have dL : (((s[s.size - 1]'hh).toNat : Int) != 61) = false := by rw [← last_at hh, eL]; rfl
            have hz := HR.out
            rw [if_neg (by simp only [not_or, Decidable.not_not]; exact ⟨trivial, e1, e2, by omega, eL⟩)] at hz
            have HZ := Lib.hid hz
            clear hz e1 e2 e3 eL
            conv => arg 2; whnf
            go_wp2_with fail
            simp only [JumpTo]
            go_ret2
            exact ⟨_, true, out, rfl, HO.out, HB.out, fun _ => HZ.out, by simp⟩
          · have dL : (((s[s.size - 1]'hh).toNat : Int) != 61) = true := by
              rw [← last_at hh]
              simp only [bne_iff_ne, ne_eq]
              intro e
              exact eL (UInt8.toNat_inj.1 (by have : ((61 : UInt8).toNat : Int) = 61 := rfl; omega))
            have hz := HR.out
            rw [if_pos (.inr (.inr (.inr (.inr eL))))] at hz
            have HZ := Lib.hid hz
            clear hz e1 e2 e3 eL
            conv => arg 2; whnf
            go_wp2_with fail
            go_step3
            exact to_none rfl rfl HZ.out HB.out (hmu _)
        · have d3 : ((p : Int) != (s.size : Int) - (hv : Int) / 2) = true := by simp; omega
          have hz := HR.out
          rw [if_pos (.inr (.inr (.inr (.inl (by omega)))))] at hz
          have HZ := Lib.hid hz
          clear hz e1 e2 e3
          conv => arg 2; whnf
          go_wp2_with fail
          go_step3
          exact to_none rfl rfl HZ.out HB.out (hmu _)
  · have d0 : ((bits : Int) != 0) = true := by simp; omega
    have hz := HR.out
    rw [if_pos (.inl e0)] at hz
    have HZ := Lib.hid hz
    clear hz e0
    conv => arg 2; whnf
    go_wp2_with fail
    go_step3
    exact to_none rfl rfl HZ.out HB.out (hmu _)

theorem or_64f : ∀ (b i : Fin 64), bits BinOp.or IntKind.i64 (((b : Nat) : Int) * 64) ((i : Nat) : Int) = (((b : Nat) * 64 + (i : Nat) : Nat) : Int) := by decide +kernel
theorem or_64 (b i : Nat) (hb : b < 64) (hi : i < 64) : bits BinOp.or IntKind.i64 ((b : Int) * 64) (i : Int) = ((b * 64 + i : Nat) : Int) := or_64f ⟨b, hb⟩ ⟨i, hi⟩
theorem and_0f : ∀ (b i : Fin 64), bits BinOp.and IntKind.i64 (((b : Nat) * 64 + (i : Nat) : Nat) : Int) 0 = ((0 : Nat) : Int) := by decide +kernel
theorem and_3g : ∀ (b i : Fin 64), bits BinOp.and IntKind.i64 (((b : Nat) * 64 + (i : Nat) : Nat) : Int) 3 = ((((b : Nat) * 64 + (i : Nat)) % 4 : Nat) : Int) := by decide +kernel
theorem and_15g : ∀ (b i : Fin 64), bits BinOp.and IntKind.i64 (((b : Nat) * 64 + (i : Nat) : Nat) : Int) 15 = ((((b : Nat) * 64 + (i : Nat)) % 16 : Nat) : Int) := by decide +kernel

/-- On to the next sign. -/
theorem to_next {s : ByteArray} {w w' w'' : World} {a : Act} {A : Array Value} {bits hv p : Nat} {out : List UInt8} {vb : Value} (hA : A.size = 80) (h0 : A.getD 0 undef = .string s) (h4 : A.getD 4 undef = vb) (h5 : A.getD 5 undef = .int .i64 (bits : Nat)) (h6 : A.getD 6 undef = .int .i64 (hv : Nat)) (h7 : A.getD 7 undef = .int .i64 ((p + 1 : Nat) : Int))
    (b1 : bits < 2 ^ hv) (hvs : hv = 0 ∨ hv = 2 ∨ hv = 4 ∨ hv = 6) (hp : p < s.size) (hr : Res s = rd64 ((sl s).getLastD 0) bits hv out ((sl s).drop (p + 1))) (ho : OwnB w'' w.heap.size vb out) (hl : out.length ≤ p + 1) (hb : Below w.heap.size w w'') (ha : a.tmps.getD 7 undef = .int .i64 (p : Nat)) :
    BL 1 ∧ BJ s w 1 ⟨A, []⟩ w'' ∧ bmu s 1 ⟨A, []⟩ w'' < bmu s 1 a w' := by
  have b0 : bits < 64 := by rcases hvs with h | h | h | h <;> subst h <;> omega
  subst h4
  refine ⟨.inr (.inl rfl), ⟨_, bits, hv, p + 1, out, BFr.of A hA, ⟨h0, h5, h6, h7, b0, hvs, b1, by omega, hr, ho, hl, hb⟩⟩, ?_⟩
  unfold bmu
  rw [if_pos rfl, if_pos rfl, h7, ha]
  simp only [intOf]
  omega

/-- To '='. -/
theorem to_end {s : ByteArray} {w w' w'' : World} {a : Act} {A : Array Value} {bits hv p : Nat} {out : List UInt8} {vb : Value} (hA : A.size = 80) (h0 : A.getD 0 undef = .string s) (h4 : A.getD 4 undef = vb) (h5 : A.getD 5 undef = .int .i64 (bits : Nat)) (h6 : A.getD 6 undef = .int .i64 (hv : Nat)) (h7 : A.getD 7 undef = .int .i64 (p : Nat))
    (b1 : bits < 2 ^ hv) (hvs : hv = 0 ∨ hv = 2 ∨ hv = 4 ∨ hv = 6) (hp : p < s.size) (hc : (sl s).getD p 0 = 61) (hr : Res s = rd64 ((sl s).getLastD 0) bits hv out ((sl s).drop p)) (ho : OwnB w'' w.heap.size vb out) (hl : out.length ≤ p) (hb : Below w.heap.size w w'') :
    BL 2 ∧ BJ s w 2 ⟨A, []⟩ w'' ∧ bmu s 2 ⟨A, []⟩ w'' < bmu s 1 a w' := by
  have b0 : bits < 64 := by rcases hvs with h | h | h | h <;> subst h <;> omega
  subst h4
  refine ⟨.inr (.inr rfl), ⟨_, bits, hv, p, out, BFr.of A hA, ⟨h0, h5, h6, h7, b0, hvs, b1, by omega, hr, ho, hl, hb⟩, hp, hc⟩, ?_⟩
  unfold bmu
  rw [if_neg (by omega), if_pos rfl, if_pos rfl]
  omega

theorem sl_at {s : ByteArray} {p : Nat} (h : p < s.size) : (sl s).getD p 0 = s[p]'h := by
  have hl : (sl s).length = s.size := sl_len s
  rw [List.getD_eq_getElem?_getD, List.getElem?_eq_getElem (by omega)]
  rfl

set_option maxRecDepth 100000 in
set_option maxHeartbeats 4000000 in
theorem bpass1 (s : ByteArray) (hs : s.size ≤ 1000000) (w : World) (a : Act) (w' : World) (hJ : BJ s w 1 a w') :
    bnext.wp Try.prog (JumpTo BL (fun l' a' w'' => BJ s w l' a' w'' ∧ bmu s l' a' w'' < bmu s 1 a w') (bodyPost Try.prog Try.f24 (BytesOut w s))) a w' := by
  obtain ⟨u, bt, hv, p, out, rfl, ⟨h0, h5, h6, h7, b0, hvs, b1, hp, hr, ho, hlen, hbl⟩⟩ := hJ
  have HR := Lib.hid hr
  have HO := Lib.hid ho
  have HB := Lib.hid hbl
  have hsz := hbl.size
  have hmu : ∀ a, 0 < bmu s 1 a w' := fun a => by unfold bmu; simp
  have HB1 := Lib.hid b1
  have HVS := Lib.hid hvs
  clear hr ho hbl b1
  simp only [List.range, List.range.loop, List.map_cons, List.map_nil, h0, h5, h6, h7]
  generalize hu4 : u 4 = vb at HO
  by_cases hlt : p < s.size
  · have d0 : ((p : Int) == s.size) = false := by simp; omega
    have hd : (sl s).drop p = (s[p]'hlt) :: (sl s).drop (p + 1) := by rw [drop_getD _ 0 p (by rw [sl_len]; exact hlt), sl_at hlt]
    have hat := sl_at hlt
    have hu := un_cases (s[p]'hlt)
    have hcb : ((s[p]'hlt).toNat : Int) < 256 := u8_lt _
    have HSG := Lib.hid (sign_calls ((s[p]'hlt).toNat : Nat) (by omega) hcb)
    have HD := Lib.hid hd
    have HAT := Lib.hid hat
    clear hd hat
    by_cases hc : s[p]'hlt = 61
    · have dc : (((s[p]'hlt).toNat : Int) == 61) = true := by rw [hc]; rfl
      have HC := Lib.hid hc
      clear hu hc
      conv => arg 2; whnf
      go_wp2_with fail
      go_step3
      exact to_end rfl rfl rfl rfl rfl rfl HB1.out HVS.out hlt (HAT.out.trans HC.out) HR.out HO.out hlen HB.out
    · have dc : (((s[p]'hlt).toNat : Int) == 61) = false := by
        simp only [beq_eq_false_iff_ne, ne_eq]
        intro e
        exact hc (UInt8.toNat_inj.1 (by have : ((61 : UInt8).toNat : Int) = 61 := rfl; omega))
      rcases hu with hneg | ⟨i, hi, hui, hsi⟩
      · have hz := HR.out
        rw [HD.out, rd_bad hc hneg] at hz
        have HZ := Lib.hid hz
        generalize unI ((s[p]'hlt).toNat : Nat) = q at hneg HSG
        clear hz hc
        conv => arg 2; whnf
        go_wp2_with fail
        refine (HSG.out _).mono ?_
        rintro e w5 ⟨rfl, rfl⟩
        go_wp2_with fail
        go_step3
        exact to_none rfl rfl HZ.out HB.out (hmu _)
      · have hz := HR.out
        rw [HD.out, ← hsi, rd_sign hi] at hz
        have HZ := Lib.hid hz
        rw [hui] at HSG
        have hbi : bt * 64 + i < 4096 := by omega
        obtain ⟨B, hB⟩ : ∃ B : Nat, B = bt * 64 + i := ⟨_, rfl⟩
        have q1 : bits BinOp.or IntKind.i64 ((bt : Int) * 64) (i : Int) = (B : Int) := by rw [hB]; exact or_64 bt i b0 hi
        have Q0 : bits BinOp.and IntKind.i64 (B : Int) 0 = ((0 : Nat) : Int) := by rw [hB]; exact and_0f ⟨bt, b0⟩ ⟨i, hi⟩
        have Q3 : bits BinOp.and IntKind.i64 (B : Int) 3 = ((B % 4 : Nat) : Int) := by rw [hB]; exact and_3g ⟨bt, b0⟩ ⟨i, hi⟩
        have Q15 : bits BinOp.and IntKind.i64 (B : Int) 15 = ((B % 16 : Nat) : Int) := by rw [hB]; exact and_15g ⟨bt, b0⟩ ⟨i, hi⟩
        rw [← hB] at HZ
        have hB4 : B < 4096 := by omega
        have HBD := Lib.hid hB
        clear hB hc hz hsi hui hbi
        rcases hvs with rfl | rfl | rfl | rfl
        · have b6 : bt = 0 := by have := HB1.out; simpa using this
          have HZ2 := HZ.out
          rw [if_pos (by omega)] at HZ2
          have HZ2 := Lib.hid HZ2
          have hBs : Hid (B < 2 ^ 6) := by show B < 64; rw [HBD.out, b6]; omega
          clear b6 Q0 Q3 Q15
          conv => arg 2; whnf
          go_wp2_with fail
          refine (HSG.out _).mono ?_
          rintro e w5 ⟨rfl, rfl⟩
          go_wp2_with fail
          go_step3
          exact to_next (hv := 6) rfl rfl rfl rfl rfl rfl hBs.out (by omega) hlt HZ2.out HO.out (by omega) HB.out rfl
        · have HZ2 := HZ.out
          rw [if_neg (by omega)] at HZ2
          obtain ⟨y, hy⟩ : ∃ y : Nat, y = B / 1 % 256 := ⟨_, rfl⟩
          have hy8 : y < 256 := by omega
          have qy : IntKind.u8.wrap ((B : Int)) = (y : Int) := by rw [IntKind.wrap_u8']; omega
          obtain ⟨z, hz⟩ : ∃ z : Nat, z = 0 := ⟨_, rfl⟩
          have qz : bits BinOp.and IntKind.i64 (B : Int) 0 = (z : Int) := by rw [hz]; exact Q0
          have e1 : B / 2 ^ (2 - 2) = B / 1 := rfl
          have e2 : B % 2 ^ (2 - 2) = z := by subst hz; first | rfl | (show B % 1 = _; omega)
          have e3 : UInt8.ofNat (B / 1) = UInt8.ofNat y := by apply UInt8.toNat_inj.1; rw [hy]; simp
          rw [e1, e2, e3] at HZ2
          have HZ2 := Lib.hid HZ2
          have hzb : Hid (z < 2 ^ 0) := by show z < 1; omega
          clear Q0 Q3 Q15 hy hz e1 e2 e3
          conv => arg 2; whnf
          go_wp2_with fail
          refine (HSG.out _).mono ?_
          rintro e w5 ⟨rfl, rfl⟩
          go_wp2_with (at_builtin; refine wpList_appB (v := vb) (bs := out) (sv := .slice (some ⟨w'.heap.size, 0, none⟩) 1 1) (l := [UInt8.ofNat y]) (B := w.heap.size) (by rfl) _ _ (by rfl) (by rfl) (HO.out.alloc _) (by rfl) (srcB_one w' y hy8) ?o3 ?o4 ?_)
          case o3 => simp; omega
          case o4 => simp; omega
          intro v6 w6 ho6 ha6
          have HO6 := Lib.hid ho6
          have HB6 := Lib.hid (ha6.below (HB.out.alloc hsz _) (by simp; omega) (fun j hj => (owns_lt HO.out j hj).1))
          clear ho6 ha6
          go_wp2_with fail
          go_step3
          exact to_next (hv := 0) rfl rfl rfl rfl rfl rfl hzb.out (by omega) hlt HZ2.out HO6.out (by simp; omega) HB6.out rfl
        · have HZ2 := HZ.out
          rw [if_neg (by omega)] at HZ2
          obtain ⟨y, hy⟩ : ∃ y : Nat, y = B / 4 % 256 := ⟨_, rfl⟩
          have hy8 : y < 256 := by omega
          have qy : IntKind.u8.wrap ((B : Int) / 4) = (y : Int) := by rw [IntKind.wrap_u8']; omega
          obtain ⟨z, hz⟩ : ∃ z : Nat, z = B % 4 := ⟨_, rfl⟩
          have qz : bits BinOp.and IntKind.i64 (B : Int) 3 = (z : Int) := by rw [hz]; exact Q3
          have e1 : B / 2 ^ (4 - 2) = B / 4 := rfl
          have e2 : B % 2 ^ (4 - 2) = z := by subst hz; first | rfl | (show B % 4 = _; omega)
          have e3 : UInt8.ofNat (B / 4) = UInt8.ofNat y := by apply UInt8.toNat_inj.1; rw [hy]; simp
          rw [e1, e2, e3] at HZ2
          have HZ2 := Lib.hid HZ2
          have hzb : Hid (z < 2 ^ 2) := by show z < 4; omega
          clear Q0 Q3 Q15 hy hz e1 e2 e3
          conv => arg 2; whnf
          go_wp2_with fail
          refine (HSG.out _).mono ?_
          rintro e w5 ⟨rfl, rfl⟩
          go_wp2_with (at_builtin; refine wpList_appB (v := vb) (bs := out) (sv := .slice (some ⟨w'.heap.size, 0, none⟩) 1 1) (l := [UInt8.ofNat y]) (B := w.heap.size) (by rfl) _ _ (by rfl) (by rfl) (HO.out.alloc _) (by rfl) (srcB_one w' y hy8) ?o3 ?o4 ?_)
          case o3 => simp; omega
          case o4 => simp; omega
          intro v6 w6 ho6 ha6
          have HO6 := Lib.hid ho6
          have HB6 := Lib.hid (ha6.below (HB.out.alloc hsz _) (by simp; omega) (fun j hj => (owns_lt HO.out j hj).1))
          clear ho6 ha6
          go_wp2_with fail
          go_step3
          exact to_next (hv := 2) rfl rfl rfl rfl rfl rfl hzb.out (by omega) hlt HZ2.out HO6.out (by simp; omega) HB6.out rfl
        · have HZ2 := HZ.out
          rw [if_neg (by omega)] at HZ2
          obtain ⟨y, hy⟩ : ∃ y : Nat, y = B / 16 % 256 := ⟨_, rfl⟩
          have hy8 : y < 256 := by omega
          have qy : IntKind.u8.wrap ((B : Int) / 16) = (y : Int) := by rw [IntKind.wrap_u8']; omega
          obtain ⟨z, hz⟩ : ∃ z : Nat, z = B % 16 := ⟨_, rfl⟩
          have qz : bits BinOp.and IntKind.i64 (B : Int) 15 = (z : Int) := by rw [hz]; exact Q15
          have e1 : B / 2 ^ (6 - 2) = B / 16 := rfl
          have e2 : B % 2 ^ (6 - 2) = z := by subst hz; first | rfl | (show B % 16 = _; omega)
          have e3 : UInt8.ofNat (B / 16) = UInt8.ofNat y := by apply UInt8.toNat_inj.1; rw [hy]; simp
          rw [e1, e2, e3] at HZ2
          have HZ2 := Lib.hid HZ2
          have hzb : Hid (z < 2 ^ 4) := by show z < 16; omega
          clear Q0 Q3 Q15 hy hz e1 e2 e3
          conv => arg 2; whnf
          go_wp2_with fail
          refine (HSG.out _).mono ?_
          rintro e w5 ⟨rfl, rfl⟩
          go_wp2_with (at_builtin; refine wpList_appB (v := vb) (bs := out) (sv := .slice (some ⟨w'.heap.size, 0, none⟩) 1 1) (l := [UInt8.ofNat y]) (B := w.heap.size) (by rfl) _ _ (by rfl) (by rfl) (HO.out.alloc _) (by rfl) (srcB_one w' y hy8) ?o3 ?o4 ?_)
          case o3 => simp; omega
          case o4 => simp; omega
          intro v6 w6 ho6 ha6
          have HO6 := Lib.hid ho6
          have HB6 := Lib.hid (ha6.below (HB.out.alloc hsz _) (by simp; omega) (fun j hj => (owns_lt HO.out j hj).1))
          clear ho6 ha6
          go_wp2_with fail
          go_step3
          exact to_next (hv := 4) rfl rfl rfl rfl rfl rfl hzb.out (by omega) hlt HZ2.out HO6.out (by simp; omega) HB6.out rfl
  · have d0 : ((p : Int) == s.size) = true := by simp; omega
    have hz := HR.out
    rw [List.drop_of_length_le (by rw [sl_len]; omega), rd64] at hz
    have HZ := Lib.hid hz
    clear hz
    conv => arg 2; whnf
    go_wp2_with fail
    simp only [JumpTo]
    go_ret2
    exact ⟨_, true, out, rfl, HO.out, HB.out, fun _ => HZ.out, by simp⟩

end Go.Proofs.Ytolmeimipchndaa

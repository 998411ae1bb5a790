/- The reference's value: what its ends need. -/
import Derived.Test.YtkcfkdmffbhljaaRbC
import Derived.Test.YtkcfkdmffbhljaaBiC
namespace Go.Proofs.Ytkcfkdmffbhljaa
open Go.RowKit
set_option linter.unusedVariables false
set_option linter.unusedSimpArgs false

theorem rval_ok {w Wb W' : World} {rb b o n c : Nat} {L : List UInt8} {d k q z win : Nat} {t : T} {nx g g1 : Nat} {cs : Array Value} (hQ : Q L d (.val k q z win) (.val t nx)) (hB : Below w.heap.size w Wb) (hg : w.heap.size = g) (hg1 : g1 = g + 1) (ht : RdTS (fun j => g1 < j) Wb t cs) (hc : Chg (fun j => j = g ∨ j = g1) Wb W') :
    ∃ r, Q L d (.val k q z win) r ∧ RValO rb b o n c L d r w (.returned (.tuple #[.agg cs, .int .i64 (nx : Nat)])) W' :=
  ⟨_, hQ, ⟨cs, rfl, (ht.keep (KeepS.chg hc (fun j hj e => by have h2 : g1 < j := hj; rcases e with e | e <;> omega))).imp (fun j _ hj => by have h2 : g1 < j := hj; show w.heap.size ≤ j; omega)⟩, hB.trans (hc.below hB.size (fun j e => by rcases e with e | e <;> omega))⟩
theorem rval_bad {w Wx Wb W' : World} {rb b o n c : Nat} {L : List UInt8} {d k q z win er a : Nat} {nx g g1 : Nat} {cs : Array Value} (hQ : Q L d (.val k q z win) (.bad er a)) (hB : Below w.heap.size w Wx) (hE : RErr rb b o n c L d er a Wx Wb) (hg : w.heap.size = g) (hg1 : g1 = g + 1) (hrb : rb < g) (hbb : b < g) (hc : Chg (fun j => j = g ∨ j = g1) Wb W') (hi : IsV cs) :
    ∃ r, Q L d (.val k q z win) r ∧ RValO rb b o n c L d r w (.returned (.tuple #[.agg cs, .int .i64 (nx : Nat)])) W' := by
  have h1 := hE.from hB
  exact ⟨_, hQ, ⟨cs, nx, hi, rfl⟩, h1.1.chg hc (fun e => by rcases e with e | e <;> omega) (fun e => by rcases e with e | e <;> omega), h1.2.trans hc (fun i hi e => by rcases e with e | e <;> omega)⟩
theorem rdBS_imp {S S' : Nat → Prop} {w : World} (hS : ∀ k, k < w.heap.size → S k → S' k) {a len l} (h : RdBS S w a len l) : RdBS S' w a len l := by
  refine ⟨h.1, fun hn p hp => ?_⟩
  obtain ⟨b, o, ha, hc⟩ := h.1.at 0 hn
  refine hS _ ?_ (h.2 hn p hp)
  rw [hp] at ha
  obtain rfl := Option.some.inj ha
  have := cell_block hc
  simpa using this
theorem isV_mk (k : Int) (bits hi lo : Nat) (text more : ByteArray) (sub : Int) (ab : Option Addr) (nb cb : Nat) (ak : Option Addr) (nk ck : Nat) : IsV (valCells k bits hi lo text more sub ab nb cb ak nk ck) := ⟨k, bits, hi, lo, text, more, sub, ab, nb, cb, ak, nk, ck, rfl⟩

end Go.Proofs.Ytkcfkdmffbhljaa

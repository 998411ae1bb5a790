/- Parts of the proof of SniffWritten: SwA, SwB, ItP, RowN, SwG, SwK, SwN, SwW, ItA, ItB0. -/
import Derived.Test.YtmooaepbdmengaaGreatDoorZ02
import Derived.Test.YtmooaepbdmengaaGreatDoorZ09
import Derived.Test.YtmooaepbdmengaaGreatDoorZ03
import Derived.Test.YtmooaepbdmengaaGreatDoorZ05
import Derived.Test.YtmooaepbdmengaaGreatDoorZ01
import Derived.Deep.RegionHeld3
import Derived.WalkSmall
import Derived.Deep.CutRange
import Derived.Deep.RegionLaw
namespace Go.Proofs.YtmooaepbdmengaaGreatDoor
open Go.RowKit
set_option linter.unusedVariables false
set_option linter.unusedSimpArgs false
def dig (c:UInt8):Bool:=48≤c.toNat && c.toNat≤57
def NumL (l:List UInt8):Prop:=(∀ c ∈ l,dig c=true)∧l≠[]∧(l.headD 0=48→l.length=1)
def digL:Nat→Nat→List UInt8→List UInt8
 | 0,v,l=>UInt8.ofNat (48+v % 10)::l
 | k+1,v,l=>if 9 < v then digL k (v / 10) (UInt8.ofNat (48+v % 10)::l) else UInt8.ofNat (48+v % 10)::l
theorem digL_step {k v:Nat} {l:List UInt8} (h:9 < v):digL (k+1) v l=digL k (v / 10) (UInt8.ofNat (48+v % 10)::l):=by simp [digL,h]
theorem digL_end {k v:Nat} {l:List UInt8} (h:¬ 9 < v):digL k v l=UInt8.ofNat (48+v)::l:=by
 cases k<;>simp [digL,h,Nat.mod_eq_of_lt (show v < 10 by omega)]
theorem dig_ofNat {n:Nat} (h:n < 10):dig (UInt8.ofNat (48+n))=true:=by
 have:(UInt8.ofNat (48+n)).toNat=48+n:=by simp [UInt8.toNat_ofNat'];omega
 simp [dig];omega
theorem digL_ok:∀ (k v:Nat) (l:List UInt8),v < 10 ^ (k+1)→(∀ c ∈ l,dig c=true)→(∀ c ∈ digL k v l,dig c=true)∧digL k v l≠[]∧(digL k v l).length≤l.length+k+1∧(0 < v→(digL k v l).headD 0≠48)∧(v=0→digL k v l=48::l)
 | 0,v,l,hv,hl=>by
  have h:¬ 9 < v:=by omega
  rw [digL_end h]
  refine ⟨fun c hc=>?_,by simp,by simp,fun h0 e=>?_,fun h0=>by subst h0;rfl⟩
  ·rcases List.mem_cons.1 hc with rfl|hc
   ·exact dig_ofNat (by omega)
   ·exact hl c hc
  ·have:=congrArg UInt8.toNat e
   simp [UInt8.toNat_ofNat'] at this;omega
 | k+1,v,l,hv,hl=>by
  by_cases h:9 < v
  ·rw [digL_step h]
   have hd:v / 10 < 10 ^ (k+1):=by rw [Nat.div_lt_iff_lt_mul (by omega),← Nat.pow_succ];exact hv
   obtain ⟨a1,a2,a3,a4,-⟩:=digL_ok k (v / 10) (UInt8.ofNat (48+v % 10)::l) hd (fun c hc=>by
    rcases List.mem_cons.1 hc with rfl|hc
    ·exact dig_ofNat (Nat.mod_lt _ (by omega))
    ·exact hl c hc)
   exact ⟨a1,a2,by simp only [List.length_cons] at a3;omega,fun _=>a4 (by omega),fun h0=>by omega⟩
  ·rw [digL_end h]
   refine ⟨fun c hc=>?_,by simp,by simp,fun h0 e=>?_,fun h0=>by subst h0;rfl⟩
   ·rcases List.mem_cons.1 hc with rfl|hc
    ·exact dig_ofNat (by omega)
    ·exact hl c hc
   ·have:=congrArg UInt8.toNat e
    simp [UInt8.toNat_ofNat'] at this;omega
theorem digL_num (v:Nat) (hv:v < 18446744073709551616):NumL (digL 19 v [])∧(digL 19 v []).length≤20:=by
 obtain ⟨a1,a2,a3,a4,a5⟩:=digL_ok 19 v [] (by omega) (by simp)
 refine ⟨⟨a1,a2,fun e=>?_⟩,by simpa using a3⟩
 rcases Nat.eq_zero_or_pos v with h|h
 ·rw [a5 h];rfl
 ·exact absurd e (a4 h)
theorem rdB_one (w:World) (y:Nat) (hy:y < 256):RdB (w.alloc (.cells #[.int .u8 (y:Nat)] 5)) (some ⟨w.heap.size,0,none⟩) 1 [UInt8.ofNat y]:=by
 refine ⟨rfl,by omega,fun i hi=>⟨w.heap.size,0,rfl,?_⟩⟩
 obtain rfl:i=0:=by omega
 have:bAt [UInt8.ofNat y] 0=y:=by simp [bAt,UInt8.toNat_ofNat'];omega
 show (w.alloc (.cells #[.int .u8 (y:Nat)] 5)).cell? ⟨w.heap.size,0+0,none⟩=some (.int .u8 ((bAt [UInt8.ofNat y] 0:Nat):Int))
 rw [this]
 simp [go_sem]
def DigRel (R:List UInt8) (w:World) (v s:Value) (wr:World):Prop:=
 ∃ (x k:Nat) (b:ByteArray),v=.int .u64 (x:Nat)∧s=.string b∧x < 10 ^ (k+1)∧x < 18446744073709551616∧digL k x (sl b)=R∧b.size+k≤19∧Below w.heap.size w wr
theorem sl_append (a b:ByteArray):sl (a++b)=sl a++sl b:=by unfold sl;simp
set_option maxRecDepth 100000 in
set_option maxHeartbeats 4000000 in
theorem digits_calls (v:Nat) (hv:v < 18446744073709551616) (w:World) :
  Calls Tryz.prog 83 #[.int .u64 (v:Nat)] w fun e w'=>e=.returned (.string (txt (digL 19 v [])))∧Below w.heap.size w w':=by
 obtain ⟨R,hR⟩:∃ R,digL 19 v []=R:=⟨_,rfl⟩
 rw [hR]
 have HR:=Lib.hid hR
 have H0:Hid (DigRel R w (.int .u64 (v:Nat)) (.string ⟨#[]⟩) w):=⟨v,19,⟨#[]⟩,rfl,rfl,by omega,hv,hR,by simp [ByteArray.size],Below.refl _ _⟩
 clear hR hv HR
 go_enter Tryz.func83,Tryz.ntmps83
 go_wp2_with fail
 go_loopw [0,3] (fun x y wr=>Hid (DigRel R w x y wr)) (fun x _ _=>(intOf x).toNat)
 case atStart=>exact H0
 case round=>
  obtain ⟨x,k,b,rfl,rfl,hx1,hx2,hd,hbk,HB⟩:=hrel
  have HB:=Lib.hid HB
  have hrem:(x:Int).tmod 10=((x % 10:Nat):Int):=by rw [Int.tmod_eq_emod_of_nonneg (by omega)];omega
  have hquo:(x:Int).tdiv 10=((x / 10:Nat):Int):=by rw [Int.tdiv_eq_ediv_of_nonneg (by omega)];omega
  obtain ⟨m,hm⟩:∃ m,m=x % 10:=⟨_,rfl⟩
  obtain ⟨q,hq⟩:∃ q,q=x / 10:=⟨_,rfl⟩
  rw [← hm] at hrem
  rw [← hq] at hquo
  by_cases h9:9 < x
  ·have hm10:m < 10:=by omega
   have hqx:q < x:=by omega
   obtain ⟨y,hy⟩:∃ y,y=48+m:=⟨_,rfl⟩
   have w1:IntKind.u64.wrap (48+(m:Int))=(y:Int):=by rw [IntKind.wrap_u64];omega
   have w2:IntKind.u8.wrap (y:Int)=(y:Int):=by rw [IntKind.wrap_u8];omega
   have hcv:=conv_str (rdB_one wr y (by omega)) 1
   have hk:1≤k:=by
    rcases Nat.eq_zero_or_pos k with h|h
    ·subst h;omega
    ·exact h
   have HN:Hid (DigRel R w (.int .u64 (q:Nat)) (.string (txt [UInt8.ofNat y]++b)) (wr.alloc (.cells #[.int .u8 (y:Nat)] 5))):=by
    obtain ⟨k',rfl⟩:∃ k',k=k'+1:=⟨k - 1,by omega⟩
    refine ⟨q,k',_,rfl,rfl,?_,by omega,?_,?_,HB.out.alloc HB.out.size _⟩
    ·rw [hq,Nat.div_lt_iff_lt_mul (by omega),← Nat.pow_succ];exact hx1
    ·rw [sl_append,sl_txt,hq,hy,hm,← hd,digL_step h9];rfl
    ·rw [ByteArray.size_append,txt_size];simp only [List.length_singleton];omega
   obtain ⟨d,hd1⟩:∃ d,d=txt [UInt8.ofNat y]:=⟨_,rfl⟩
   rw [← hd1] at hcv HN
   have hsz:d.size=1:=by rw [hd1];exact txt_size _
   have hlen:¬ 9223372036854775807 < d.size+b.size:=by omega
   clear hm hq hd hbk hx1 hy hd1
   go_wp2_with fail
   go_roundw
   case rel=>exact HN
   case measure=>simp [intOf];omega
  ·have hxm:x < 10:=by omega
   obtain ⟨y,hy⟩:∃ y,y=48+x:=⟨_,rfl⟩
   have w1:IntKind.u64.wrap (48+(x:Int))=(y:Int):=by rw [IntKind.wrap_u64];omega
   have w2:IntKind.u8.wrap (y:Int)=(y:Int):=by rw [IntKind.wrap_u8];omega
   have hcv:=conv_str (rdB_one wr y (by omega)) 1
   have HE:Hid (txt [UInt8.ofNat y]++b=txt R∧Below w.heap.size w (wr.alloc (.cells #[.int .u8 (y:Nat)] 5))):=by
    refine ⟨?_,HB.out.alloc HB.out.size _⟩
    rw [← hd,digL_end h9,hy]
    rfl
   obtain ⟨d,hd1⟩:∃ d,d=txt [UInt8.ofNat y]:=⟨_,rfl⟩
   rw [← hd1] at hcv HE
   have hsz:d.size=1:=by rw [hd1];exact txt_size _
   have hlen:¬ 9223372036854775807 < d.size+b.size:=by omega
   clear hm hq hd hbk hx1 hy hd1 hrem hquo
   go_wp2_with fail
   go_ret
   exact ⟨by rw [HE.out.1];rfl,HE.out.2⟩
def intL (v:Int):List UInt8:=if v < 0 then 45::digL 19 v.natAbs [] else digL 19 v.natAbs []
set_option maxRecDepth 100000 in
set_option maxHeartbeats 4000000 in
theorem int_calls (v:Int) (h1:-9223372036854775808≤v) (h2:v≤9223372036854775807) (w:World) :
  Calls Tryz.prog 93 #[.int .i64 v] w fun e w'=>e=.returned (.string (txt (intL v)))∧Below w.heap.size w w':=by
 have CD:=Lib.hid (fun n h W=>digits_calls n h W)
 have HL:=Lib.hid (fun n h=>(digL_num n h).2)
 by_cases hv:v < 0
 ·have w1:IntKind.i64.wrap (v+1)=v+1:=by rw [IntKind.wrap_i64];omega
  have w2:IntKind.i64.wrap (-(v+1))=-(v+1):=by rw [IntKind.wrap_i64];omega
  obtain ⟨n,hn⟩:∃ n,n=v.natAbs:=⟨_,rfl⟩
  have w3:IntKind.u64.wrap (-(v+1))=-(v+1):=by rw [IntKind.wrap_u64];omega
  have w4:IntKind.u64.wrap (-(v+1)+1)=(n:Int):=by rw [IntKind.wrap_u64];omega
  have hR:intL v=45::digL 19 n []:=by unfold intL;rw [if_pos hv,hn]
  obtain ⟨l,hl⟩:∃ l,l=digL 19 n []:=⟨_,rfl⟩
  have hll:=HL.out n (by omega)
  have CD:=CD.out n (by omega)
  rw [← hl] at hR CD hll
  rw [hR]
  have HR:Hid (txt [45]++txt l=txt (45::l)):=Lib.hid rfl
  obtain ⟨b,hb⟩:∃ b,b=txt l:=⟨_,rfl⟩
  have hbs:b.size≤20:=by rw [hb,txt_size];exact hll
  rw [← hb] at CD HR
  have CD:=Lib.hid CD
  have e45:(⟨#[45]⟩:ByteArray)=txt [45]:=rfl
  clear hn hR hl hll hb HL
  go_enter Tryz.func93,Tryz.ntmps93
  go_wp2_with fail
  refine (CD.out _).mono ?_
  rintro e w1 ⟨rfl,hb1⟩
  have hlen:¬ 9223372036854775807 < (⟨#[45]⟩:ByteArray).size+b.size:=by
   have:(⟨#[45]⟩:ByteArray).size=1:=rfl
   omega
  go_wp2_with fail
  go_ret
  exact ⟨by first|(rw [e45,HR.out];rfl)|(rw [e45,HR.out])|(rw [← HR.out];rfl),by first|exact hb1|exact Below_drewN hb1⟩
 ·obtain ⟨n,rfl⟩:=Int.eq_ofNat_of_zero_le (show 0≤v by omega)
  have hR:intL (n:Int)=digL 19 n []:=by unfold intL;rw [if_neg hv];simp
  rw [hR]
  have w4:IntKind.u64.wrap (n:Int)=(n:Int):=by rw [IntKind.wrap_u64];omega
  have hn0:decide ((n:Int) < 0)=false:=by simp
  have CD:=Lib.hid (CD.out n (by omega))
  clear hR HL hv
  go_enter Tryz.func93,Tryz.ntmps93
  go_wp2_with fail
  refine (CD.out _).mono ?_
  rintro e w1 ⟨rfl,hb1⟩
  go_wp2_with fail
  go_ret
  exact ⟨rfl,by first|exact hb1|exact Below_drewN hb1⟩
end Go.Proofs.YtmooaepbdmengaaGreatDoor
namespace Go.Proofs.YtmooaepbdmengaaGreatDoor
set_option linter.unusedVariables false
set_option linter.unusedSimpArgs false
mutual
def OkT:T→Prop
 | .mk k bits hi lo text more sub bs f=>knownK k=true∧fieldsOf k bits hi lo text more sub bs.length f.len=true∧textOk (k == 11) (sl text)=true∧textOk (k == 11) (sl more)=true∧OkF f
def OkF:F→Prop
 | .nil=>True
 | .cons n t r=>textOk true (sl n)=true∧OkT t∧OkF r
end
mutual
theorem OkT.of:∀ (t:T) (nm:ByteArray) (p:List Int),checkT t nm p=none→OkT t∧textOk true (sl nm)=true
 | .mk k bits hi lo text more sub bs f,nm,p,h=>by
  simp only [checkT] at h
  split at h
  ·simp at h
  ·split at h
   ·simp at h
   ·split at h
    ·simp at h
    ·rename_i h1 h2 h3
     obtain ⟨ha,hb,hc⟩:textOk (k == 11) (sl text)=true∧textOk (k == 11) (sl more)=true∧textOk true (sl nm)=true:=by simpa using h3
     exact ⟨⟨by simpa using h1,by simpa using h2,ha,hb,OkF.of f 0 p h⟩,hc⟩
theorem OkF.of:∀ (f:F) (i:Nat) (p:List Int),checkF f i p=none→OkF f
 | .nil,_,_,_=>trivial
 | .cons n t r,i,p,h=>by
  simp only [checkF] at h
  split at h
  ·simp at h
  ·rename_i hx
   have:=OkT.of t n _ hx
   exact ⟨this.2,this.1,OkF.of r _ p h⟩
end
def emB:ByteArray:=⟨#[]⟩
def txtI (s:ByteArray):I:=.mk 4 0 [] s .nil
def dataI (l:List UInt8):I:=.mk 3 0 l emB .nil
def listI (f:IL):I:=.mk 5 0 [] emB f
def tagI (k:Int) (x:I):I:=.mk 7 (1000+k).toNat [] emB (.cons x .nil)
def nuI (k:Int) (n:Nat):I:=.mk k n [] emB .nil
mutual
def I.zt:I→Nat
 | .mk k n bs text kids=>(if k=3∨k=4∨k=5∨k=6 then 5 else 9)+text.size+bs.length+kids.zt
def IL.zt:IL→Nat
 | .nil=>0
 | .cons x r=>x.zt+r.zt
end
theorem zt_nu (k:Int) (n:Nat):(nuI k n).zt≤9:=by simp only [nuI,I.zt,IL.zt,emB,ByteArray.size,List.length_nil];split<;>simp
theorem zt_txt (s:ByteArray):(txtI s).zt=5+s.size:=by simp [txtI,I.zt,IL.zt]
theorem zt_data (l:List UInt8):(dataI l).zt=5+l.length:=by simp [dataI,I.zt,IL.zt,emB,ByteArray.size]
theorem zt_list (f:IL):(listI f).zt=5+f.zt:=by simp [listI,I.zt,emB,ByteArray.size]
theorem zt_map (f:IL):(I.mk 6 0 [] emB f).zt=5+f.zt:=by simp [I.zt,emB,ByteArray.size]
theorem zt_tag (k:Int) (x:I):(tagI k x).zt=9+x.zt:=by simp [tagI,I.zt,IL.zt,emB,ByteArray.size]
def hdT:IL→Prop
 | .nil=>True
 | .cons x _=>I.kind x=4
theorem hdT_app (g:IL) (s:ByteArray) (r:IL) (h:hdT g):hdT (g.append (.cons (txtI s) r)):=by
 cases g with
 | nil=>rfl
 | cons x q=>exact h
theorem err_nu (k:Int) (n:Nat) (h:k=1∨k=2∨k=9∨(k=8∧20≤n∧n≤23)):errI (nuI k n)=0:=by
 have e:wholeTo (sl emB)=0:=by decide
 have z:emB.size=0:=rfl
 rcases h with rfl|rfl|rfl|⟨rfl,h1,h2⟩<;>simp only [nuI,errI,errIs,fieldsB,IL.len,e,z]<;>simp<;>omega
theorem err_n1 (n:Nat):errI (nuI 1 n)=0:=err_nu 1 n (.inl rfl)
theorem err_22:errI (nuI 8 22)=0:=err_nu 8 22 (.inr (.inr (.inr ⟨rfl,by omega,by omega⟩)))
theorem err_txt (s:ByteArray) (h:(wholeTo (sl s) == s.size)=true):errI (txtI s)=0:=by
 have h':wholeTo (sl s)=s.size:=by simpa using h
 simp [txtI,errI,errIs,fieldsB,IL.len,h']
theorem err_data (l:List UInt8):errI (dataI l)=0:=by
 have e:wholeTo (sl emB)=0:=by decide
 have z:emB.size=0:=rfl
 simp only [dataI,errI,errIs,fieldsB,IL.len,e,z]<;>simp<;>first|done|assumption
theorem err_list (f:IL) (h:errIs f=0):errI (listI f)=0:=by
 have e:wholeTo (sl emB)=0:=by decide
 have z:emB.size=0:=rfl
 simp only [listI,errI,fieldsB,e,h,z]<;>simp<;>first|done|assumption
theorem err_map (f:IL) (hl:f.len % 2=0) (h:errIs f=0):errI (.mk 6 0 [] emB f)=0:=by
 have e:wholeTo (sl emB)=0:=by decide
 have z:emB.size=0:=rfl
 simp only [errI,fieldsB,e,h,hl,z]<;>simp<;>first|done|assumption
theorem err_tag (k:Int) (x:I) (h:errI x=0):errI (tagI k x)=0:=by
 have e:wholeTo (sl emB)=0:=by decide
 have z:emB.size=0:=rfl
 simp only [tagI,errI,errIs,fieldsB,IL.len,e,h,z]<;>simp<;>first|done|assumption
theorem errIs_cons (x:I) (r:IL) (h:errI x=0) (hr:errIs r=0):errIs (.cons x r)=0:=by simp [errIs,h,hr]
theorem whole_of_ok {p:Bool} {s:ByteArray} (h:textOk p (sl s)=true):(wholeTo (sl s) == s.size)=true:=by
 have hl:=sl_len s
 simp only [textOk,Bool.and_eq_true] at h
 rw [← hl];exact h.1
end Go.Proofs.YtmooaepbdmengaaGreatDoor
namespace Go.Proofs.YtmooaepbdmengaaGreatDoor
open Go.RowKit
set_option linter.unusedVariables false
set_option linter.unusedSimpArgs false
def nAtZ (l:List Nat) (i:Nat):Nat:=l.getD i 0
def numC (k:IntKind) (xs:List Nat):List Value:=xs.map fun x=>.int k (x:Nat)
theorem numC_append (k:IntKind) (a b:List Nat):numC k (a++b)=numC k a++numC k b:=by simp [numC]
theorem numC_length (k:IntKind) (a:List Nat):(numC k a).length=a.length:=by simp [numC]
theorem numC_at (k:IntKind) (xs:List Nat) (i:Nat) (h:i < xs.length):(numC k xs)[i]?=some (.int k (nAtZ xs i:Nat)):=by
 simp [numC,nAtZ,List.getElem?_map,List.getD_eq_getElem?_getD,List.getElem?_eq_getElem h]
theorem numC_set (k:IntKind) (xs:List Nat) (i y:Nat):numC k (xs.set i y)=(numC k xs).set i (.int k (y:Nat)):=by simp [numC,List.map_set]
theorem numC_take (k:IntKind) (xs:List Nat) (i:Nat):numC k (xs.take i)=(numC k xs).take i:=by simp [numC,List.map_take]
def OwnN (k:IntKind) (e:TypeId) (w:World) (B:Nat) (v:Value) (xs:List Nat):Prop:=w.ownsRow B e 1 v xs.length (numC k xs)
variable {k:IntKind} {e:TypeId} {w:World} {B:Nat} {v:Value} {xs:List Nat} {g n cap:Nat}
theorem OwnN.form (h:OwnN k e w B v xs) (h0:0 < xs.length):∃ g cap,v=.slice (some ⟨g,0,none⟩) xs.length cap∧B≤g∧g < w.heap.size∧xs.length≤cap∧cap≤9223372036854775807:=by
 rcases h.2 with ⟨_,e⟩|⟨g,cap,cur,rfl,hb,hg,hnc,hcm,_⟩
 ·omega
 ·exact ⟨g,cap,rfl,hb,(Array.getElem?_eq_some_iff.1 hg).1,hnc,hcm⟩
theorem OwnN.shape (h:OwnN k e w B v xs):∃ a cap,v=.slice a xs.length cap∧xs.length≤9223372036854775807:=by
 rcases h.2 with ⟨rfl,e⟩|⟨g,cap,cur,rfl,hb,hg,hnc,hcm,_⟩
 ·exact ⟨none,0,by rw [e],by omega⟩
 ·exact ⟨_,_,rfl,by unfold maxLen at hcm;omega⟩
theorem OwnN.len {a:Option Addr} (h:OwnN k e w B (.slice a n cap) xs):n=xs.length:=by
 obtain ⟨_,_,e,_⟩:=h.shape
 simp only [Value.slice.injEq] at e
 exact e.2.1
theorem OwnN.cell (h:OwnN k e w B (.slice (some ⟨g,0,none⟩) n cap) xs) {j:Nat} (hj:j < n):w.cell? ⟨g,j,none⟩=some (.int k (nAtZ xs j:Nat)):=by
 obtain rfl:=h.len
 rw [World.ownsRow.cellAt h j (by omega),numC_at k xs j hj]
theorem OwnN.frozen (h:OwnN k e w B (.slice (some ⟨g,0,none⟩) n cap) xs) (j:Nat):w.frozen? ⟨g,j,none⟩=false:=by
 obtain rfl:=h.len
 exact World.ownsRow.frozenAt h j
theorem OwnN.store (h:OwnN k e w B (.slice (some ⟨g,0,none⟩) n cap) xs) (j y:Nat):OwnN k e (w.setCell ⟨g,j,none⟩ (.int k (y:Nat))) B (.slice (some ⟨g,0,none⟩) n cap) (xs.set j y):=by
 obtain rfl:=h.len
 have:=(World.ownsRow.stored h j (.int k (y:Nat))).1
 unfold OwnN
 rw [numC_set,List.length_set]
 exact this
theorem OwnN.take (h:OwnN k e w B (.slice (some ⟨g,0,none⟩) n cap) xs) {m:Nat} (hm:m≤n):OwnN k e w B (.slice (some ⟨g,0,none⟩) m cap) (xs.take m):=by
 obtain rfl:=h.len
 obtain ⟨_,h2⟩:=h
 have hl:(xs.take m).length=m:=by simp;omega
 unfold OwnN
 rw [hl]
 rcases h2 with ⟨h0,_⟩|⟨g',cap',cur,hv,hg,hh,hn,hcap,hsz,htake⟩
 ·cases h0
 ·cases hv
  refine ⟨by rw [numC_length,hl];omega,.inr ⟨g,cap,cur,rfl,hg,hh,by omega,hcap,hsz,?_⟩⟩
  rw [numC_take,← htake,List.take_take,Nat.min_eq_left (by omega),Nat.mul_one]
theorem OwnN.made (w:World) (hb:B≤w.heap.size) (hm:xs.length≤9223372036854775807):OwnN k e (w.alloc (.cells (numC k xs).toArray e)) B (.slice (some ⟨w.heap.size,0,none⟩) xs.length xs.length) xs:=by
 have:=World.ownsRow_lit (base:=B) (e:=e) (size:=1) w (numC k xs).toArray xs.length hb hm (by simp [numC_length])
 unfold OwnN;simpa using this
theorem srcN_one (k:IntKind) (w:World) (x:Nat) (t:TypeId):Src (w.alloc (.cells #[.int k (x:Nat)] t)) (.slice (some ⟨w.heap.size,0,none⟩) 1 1) 1 1 (numC k [x]):=
 .inr ⟨_,1,rfl,rfl,cell_one_new w _ t,by simp [numC,Value.oneCell']⟩
theorem wp_appN {P:Program} {t:TypeId} {z:Value} {bytes:Nat} (ht:P.underlying t=some (.slice e))
  (hinfo:(P.info? e).map (fun i=>(i.zero,i.size,i.bytes))=some (some z,1,bytes)) (hzs:z.cells.size=1) (hby:bytes≤8)
  {o:Oper} {a:Act} {K:Act→World→Prop} {Q:Exit→Act→World→Prop} (s x:Operand)
  (ho:o.op=.call { callee:=.builtin .append,args:=#[s,x],argTypes:=#[t,t] })
  (hs:a.eval s=v) (hown:OwnN k e w B v xs) {sv:Value} {l:List Nat} (hx:a.eval x=sv) (hsrc:Src w sv l.length 1 (numC k l))
  (hb:xs.length+l.length≤10000000000) (hbase:B≤w.heap.size)
  (h:∀ v' w',OwnN k e w' B v' (xs++l)→AppF w w' v v'→K (a.put o.dst v') w'):o.wp P a w K Q:=
 wp_app ht hinfo hzs (by omega) s x ho hs hown hx hsrc (by unfold maxLen;omega) (Nat.le_trans (Nat.mul_le_mul_left _ hby) (by omega)) hbase
  fun v' w' h1 h2=>h v' w' (by unfold OwnN;rw [numC_append,List.length_append];exact h1) h2
theorem wpList_appN {P:Program} {t:TypeId} {z:Value} {bytes:Nat} (ht:P.underlying t=some (.slice e))
  (hinfo:(P.info? e).map (fun i=>(i.zero,i.size,i.bytes))=some (some z,1,bytes)) (hzs:z.cells.size=1) (hby:bytes≤8)
  {ops:Array Oper} {rest:List Oper} {o:Oper} {a:Act} {Q:Exit→Act→World→Prop} (hgd:o.guard=none) (s x:Operand)
  (ho:o.op=.call { callee:=.builtin .append,args:=#[s,x],argTypes:=#[t,t] })
  (hs:a.eval s=v) (hown:OwnN k e w B v xs) {sv:Value} {l:List Nat} (hx:a.eval x=sv) (hsrc:Src w sv l.length 1 (numC k l))
  (hb:xs.length+l.length≤10000000000) (hbase:B≤w.heap.size)
  (h:∀ v' w',OwnN k e w' B v' (xs++l)→AppF w w' v v'→wpList P ops Q rest (a.put o.dst v') w'):wpList P ops Q (o::rest) a w:=
 wpList_plain hgd fun _ hK=>wp_appN ht hinfo hzs hby s x ho hs hown hx hsrc hb hbase fun v' w' h1 h2=>hK _ _ (h v' w' h1 h2)
def B8:Nat:=100000000
def timesL (by':Nat):Nat→List Nat→List Nat
 | c,[]=>if 0 < c then [c] else []
 | c,x::r=>(c+x * by') % B8::timesL by' ((c+x * by') / B8) r
def valL:List Nat→Nat
 | []=>0
 | x::r=>x+B8 * valL r
theorem timesL_val (m:Nat):∀ (l:List Nat) (c:Nat),valL (timesL m c l)=c+valL l * m
 | [],c=>by
  unfold timesL
  split
  ·simp [valL]
  ·simp [valL];omega
 | x::r,c=>by
  simp only [timesL,valL,timesL_val m r,Nat.add_mul,Nat.mul_add]
  have:=Nat.div_add_mod (c+x * m) B8
  have e:B8 * (valL r * m)=B8 * valL r * m:=by rw [Nat.mul_assoc]
  omega
theorem timesL_len (m:Nat):∀ (l:List Nat) (c:Nat),l.length≤(timesL m c l).length∧(timesL m c l).length≤l.length+1
 | [],c=>by unfold timesL;split<;>simp
 | x::r,c=>by have:=timesL_len m r ((c+x * m) / B8);simp only [timesL,List.length_cons];omega
theorem carry_le {m c x:Nat} (hm:c≤m) (hx:x < B8):(c+x * m) / B8≤m:=by
 rw [Nat.div_le_iff_le_mul_add_pred (by unfold B8;omega)]
 have:x * m≤(B8 - 1) * m:=Nat.mul_le_mul_right m (by omega)
 have e:B8 * m=(B8 - 1) * m+m:=by unfold B8;omega
 omega
theorem timesL_lt (m:Nat) (hm:m < B8):∀ (l:List Nat) (c:Nat),c≤m→(∀ x ∈ l,x < B8)→∀ x ∈ timesL m c l,x < B8
 | [],c,hc,_=>by unfold timesL;split<;>simp;omega
 | x::r,c,hc,h=>by
  intro y hy
  simp only [timesL,List.mem_cons] at hy
  rcases hy with rfl|hy
  ·exact Nat.mod_lt _ (by unfold B8;omega)
  ·exact timesL_lt m hm r _ (carry_le hc (h x (by simp))) (fun z hz=>h z (by simp [hz])) y hy
theorem valL_pos:∀ {l:List Nat},0 < valL l→∃ x ∈ l,0 < x
 | [],h=>by simp [valL] at h
 | x::r,h=>by
  rcases Nat.eq_zero_or_pos x with rfl|hx
  ·have:0 < valL r:=by
    rcases Nat.eq_zero_or_pos (valL r) with e|e
    ·simp [valL,e] at h
    ·exact e
   obtain ⟨y,hy,h0⟩:=valL_pos this
   exact ⟨y,by simp [hy],h0⟩
  ·exact ⟨x,by simp,hx⟩
def digK:Nat→Nat→List UInt8
 | 0,_=>[]
 | k+1,v=>UInt8.ofNat (48+v % 10)::digK k (v / 10)
theorem digK_len:∀ (k v:Nat),(digK k v).length=k
 | 0,_=>rfl
 | k+1,v=>by simp [digK,digK_len k]
theorem digK_dig:∀ (k v:Nat),∀ c ∈ digK k v,dig c=true
 | 0,_=>by simp [digK]
 | k+1,v=>by
  intro c hc
  simp only [digK,List.mem_cons] at hc
  rcases hc with rfl|hc
  ·exact dig_ofNat (Nat.mod_lt _ (by omega))
  ·exact digK_dig k _ c hc
theorem digK_zero:∀ (k v:Nat),v < 10 ^ k→(∀ c ∈ digK k v,c=48)→v=0
 | 0,v,h,_=>by omega
 | k+1,v,h,ha=>by
  simp only [digK,List.mem_cons] at ha
  have h1:=ha _ (.inl rfl)
  have h2:v % 10=0:=by
   have:=congrArg UInt8.toNat h1
   simp [UInt8.toNat_ofNat'] at this;omega
  have h3:v / 10 < 10 ^ k:=by rw [Nat.div_lt_iff_lt_mul (by omega),← Nat.pow_succ];exact h
  have:=digK_zero k (v / 10) h3 (fun c hc=>ha c (.inr hc))
  omega
def limbD (l:List Nat):List UInt8:=(l.map (digK 8)).flatten
theorem limbD_len (l:List Nat):(limbD l).length=8 * l.length:=by
 induction l with
 | nil=>rfl
 | cons x r ih=>simp only [limbD,List.map_cons,List.flatten_cons,List.length_append,digK_len,List.length_cons] at ih ⊢;omega
theorem limbD_dig (l:List Nat):∀ c ∈ limbD l,dig c=true:=by
 intro c hc
 simp only [limbD,List.mem_flatten,List.mem_map] at hc
 obtain ⟨_,⟨x,_,rfl⟩,hc⟩:=hc
 exact digK_dig 8 x c hc
theorem limbD_pos {l:List Nat} (hl:∀ x ∈ l,x < B8) {x:Nat} (hx:x ∈ l) (h0:0 < x):∃ c ∈ limbD l,c≠48:=by
 refine Classical.byContradiction fun hn=>?_
 have:x=0:=digK_zero 8 x (by have:=hl x hx;unfold B8 at this;omega) (fun c hc=>Classical.byContradiction fun h=>hn ⟨c,by
  simp only [limbD,List.mem_flatten,List.mem_map]
  exact ⟨_,⟨x,hx,rfl⟩,hc⟩,h⟩)
 omega
def strip (l:List UInt8):List UInt8:=(l.reverse.dropWhile (· == 48)).reverse
theorem strip_zero (l:List UInt8):strip (l++[48])=strip l:=by simp [strip]
theorem strip_end (l:List UInt8) (c:UInt8) (h:c≠48):strip (l++[c])=l++[c]:=by simp [strip,h]
theorem strip_le (l:List UInt8):(strip l).length≤l.length:=by
 simp only [strip,List.length_reverse]
 calc _≤l.reverse.length:=(List.dropWhile_sublist _).length_le
  _=l.length:=by simp
theorem strip_mem (l:List UInt8):∀ c ∈ strip l,c ∈ l:=by
 intro c hc
 simp only [strip,List.mem_reverse] at hc
 simpa using (List.dropWhile_sublist _).subset hc
theorem dropW_ne:∀ {l:List UInt8},(∃ c ∈ l,c≠48)→l.dropWhile (· == 48)≠[]
 | [],⟨c,hc,_⟩=>by simp at hc
 | x::r,⟨c,hc,h0⟩=>by
  by_cases hx:x=48
  ·subst hx
   have:(48::r:List UInt8).dropWhile (· == 48)=r.dropWhile (· == 48):=rfl
   rw [this]
   exact dropW_ne ⟨c,by simpa [h0] using hc,h0⟩
  ·have:(x == 48)=false:=by simpa using hx
   simp [List.dropWhile,this]
theorem strip_ne {l:List UInt8} (h:∃ c ∈ l,c≠48):∃ r c,strip l=r++[c]∧c≠48:=by
 have h1:l.reverse.dropWhile (· == 48)≠[]:=dropW_ne (by
  obtain ⟨c,hc,h0⟩:=h
  exact ⟨c,by simpa using hc,h0⟩)
 unfold strip
 cases e:l.reverse.dropWhile (· == 48) with
 | nil=>exact absurd e h1
 | cons c r=>
  refine ⟨r.reverse,c,by simp,fun hc=>?_⟩
  have:=List.head_dropWhile_not (· == 48) (l:=l.reverse) h1
  simp only [e,List.head_cons,hc] at this
  exact absurd this (by decide)
theorem strip_dropLast {l:List UInt8} (hl:l≠[]) (h:l.getD (l.length - 1) 0=48):strip l=strip (l.take (l.length - 1)):=by
 obtain ⟨r,c,rfl⟩:∃ r c,l=r++[c]:=⟨_,_,(List.dropLast_concat_getLast hl).symm⟩
 have:c=48:=by simpa [List.getD] using h
 subst this
 rw [strip_zero];simp
theorem strip_stop {l:List UInt8} (hl:l≠[]) (h:l.getD (l.length - 1) 0≠48):strip l=l:=by
 obtain ⟨r,c,rfl⟩:∃ r c,l=r++[c]:=⟨_,_,(List.dropLast_concat_getLast hl).symm⟩
 exact strip_end r c (by simpa [List.getD] using h)
theorem infoU64:(Tryz.prog.info? 22).map (fun i=>(i.zero,i.size,i.bytes))=some (some (.int .u64 0),1,8):=by kernel_rfl
def TimRel (R:List Nat) (m g n cap B:Nat) (w:World) (c i:Value) (wr:World):Prop:=
 ∃ (p q:Nat) (done rest:List Nat),c=.int .u64 (q:Nat)∧i=.int .i64 (p:Nat)∧q≤m∧done.length=p∧done.length+rest.length=n∧done++timesL m q rest=R∧(∀ x ∈ rest,x < B8) ∧
  OwnN .u64 22 wr B (.slice (some ⟨g,0,none⟩) n cap) (done++rest)∧Chg (fun k=>k=g) w wr
set_option maxRecDepth 100000 in
set_option maxHeartbeats 4000000 in
theorem times_calls (m:Nat) (hm:m < B8) (v:Value) (xs:List Nat) (B:Nat) (w:World) (ho:OwnN .u64 22 w B v xs) (h0:0 < xs.length) (hl:xs.length < 100000) (hx:∀ x ∈ xs,x < B8) (hB:B≤w.heap.size) :
  Calls Tryz.prog 112 #[v,.int .u64 (m:Nat)] w fun e w'=>(∃ v',e=.returned v'∧OwnN .u64 22 w' B v' (timesL m 0 xs))∧Below B w w':=by
 obtain ⟨g,cap,rfl,hBg,hgw,-⟩:=ho.form h0
 obtain ⟨R,hR⟩:∃ R,timesL m 0 xs=R:=⟨_,rfl⟩
 rw [hR]
 have H0:Hid (TimRel R m g xs.length cap B w (.int .u64 0) (.int .i64 0) w):=⟨0,0,[],xs,rfl,rfl,by omega,rfl,by simp,by simpa using hR,hx,ho,Chg.refl _ _⟩
 obtain ⟨n,hn⟩:∃ n,n=xs.length:=⟨_,rfl⟩
 rw [← hn] at H0 h0 hl ⊢
 have HR:=Lib.hid (timesL_len m xs 0)
 rw [hR] at HR
 have HN:=Lib.hid hn
 clear hR ho hx hn
 unfold B8 at hm
 go_enter Tryz.func112,Tryz.ntmps112
 go_wp2_with fail
 go_loopw [5,6] (fun c i wr=>Hid (TimRel R m g n cap B w c i wr)) (fun _ i _=>n - (intOf i).toNat)
 case atStart=>exact H0
 case round=>
  obtain ⟨p,q,done,rest,rfl,rfl,hq,hdl,hdn,hdr,hrx,hO,hC⟩:=hrel
  by_cases hlt:p < n
  ·cases rest with
   | nil=>simp at hdn;omega
   | cons x r=>
    have hxb:x < B8:=hrx x (by simp)
    have hxa:nAtZ (done++x::r) p=x:=by simp [nAtZ,← hdl]
    have hc:=hO.cell hlt
    rw [hxa] at hc
    have hf:=hO.frozen p
    obtain ⟨P,hP⟩:∃ P,P=x * m:=⟨_,rfl⟩
    have hPb:P≤100000000 * 100000000:=by rw [hP];exact Nat.mul_le_mul (by unfold B8 at hxb;omega) (by omega)
    have w1:IntKind.u64.wrap ((x:Int) * (m:Int))=(P:Int):=by rw [show ((x:Int) * (m:Int))=(P:Int) by rw [hP];push_cast;rfl];rw [IntKind.wrap_u64];omega
    obtain ⟨V,hV⟩:∃ V,V=q+P:=⟨_,rfl⟩
    have w2:IntKind.u64.wrap ((q:Int)+(P:Int))=(V:Int):=by rw [IntKind.wrap_u64];omega
    obtain ⟨a,ha⟩:∃ a,a=V % 100000000:=⟨_,rfl⟩
    obtain ⟨d,hd⟩:∃ d,d=V / 100000000:=⟨_,rfl⟩
    have w3:(V:Int).tmod 100000000=(a:Int):=by rw [Int.tmod_eq_emod_of_nonneg (by omega)];omega
    have w4:(V:Int).tdiv 100000000=(d:Int):=by rw [Int.tdiv_eq_ediv_of_nonneg (by omega)];omega
    have w5:IntKind.u64.wrap (a:Int)=(a:Int):=by rw [IntKind.wrap_u64];omega
    have w6:IntKind.u64.wrap (d:Int)=(d:Int):=by rw [IntKind.wrap_u64];omega
    have HN:Hid (TimRel R m g n cap B w (.int .u64 (d:Nat)) (.int .i64 ((p+1:Nat):Int)) (wr.setCell ⟨g,p,none⟩ (.int .u64 (a:Nat)))):=by
     refine ⟨p+1,d,done++[a],r,rfl,rfl,?_,by simp [hdl],by simp at hdn ⊢;omega,?_,fun y hy=>hrx y (by simp [hy]),?_,hC.setCell (fun _=>rfl) _⟩
     ·rw [hd,hV,hP];exact carry_le hq hxb
     ·rw [← hdr,ha,hd,hV,hP];simp [timesL,B8]
     ·have:=hO.store p a
      rwa [show (done++x::r).set p a=(done++[a])++r by rw [← hdl];simp] at this
    clear hdl hdn hdr hrx hO hC hxa hxb hP hV ha hd
    go_wp2_with fail
    go_roundw
    case rel=>exact HN
    case measure=>simp [intOf];omega
  ·obtain rfl:rest=[]:=List.eq_nil_of_length_eq_zero (by omega)
   obtain rfl:p=n:=by simp at hdn;omega
   rw [List.append_nil] at hO
   have HO:=Lib.hid hO
   have HC:=Lib.hid (hC.below (B:=B) hB (fun i hi=>by omega))
   have HS:=Lib.hid hC.size
   by_cases hq0:0 < q
   ·have hR:done++[q]=R:=by rw [← hdr];simp [timesL,hq0]
    have hOA:=Lib.hid (World.ownsRow.alloc hO (.cells #[.int .u64 (q:Nat)] 22))
    have hBw:B≤wr.heap.size:=by have:=HS.out;omega
    have hdl2:done.length≤100000:=by omega
    subst hR
    clear hdr hO hC hrx hdn hdl
    go_wp2_with (at_builtin;refine wpList_appN (v:=.slice (some ⟨g,0,none⟩) p cap) (xs:=done) (sv:=.slice (some ⟨wr.heap.size,0,none⟩) 1 1) (l:=[q]) (B:=B) Tryz.underlying153 infoU64 rfl (by omega) (by rfl) _ _ (by rfl) (by rfl) hOA.out (by rfl) (srcN_one .u64 _ q 22) (by simp;omega) (by simp [go_sem];omega) ?_;intro v5 w5 ho5 hA5;have HO5:=Lib.hid ho5;have HA5:=Lib.hid hA5;clear ho5 hA5)
    go_ret
    exact ⟨⟨_,rfl,HO5.out⟩,HA5.out.below (HC.out.trans ((Below.refl _ _).alloc hBw _)) (by simp;omega) (fun k hk=>by simp [Value.ownBlock] at hk;omega)⟩
   ·have hR:done=R:=by rw [← hdr];simp [timesL,hq0]
    obtain rfl:q=0:=by omega
    subst hR
    clear hdr hO hC hrx hdn hdl
    go_wp2_with fail
    go_ret
    exact ⟨⟨_,rfl,HO.out⟩,HC.out⟩
end Go.Proofs.YtmooaepbdmengaaGreatDoor
namespace Go.Proofs.YtmooaepbdmengaaGreatDoor
set_option linter.unusedVariables false
set_option linter.unusedSimpArgs false
def AllD (l:List UInt8):Prop:=∀ c ∈ l,isDig c=true
theorem dig_is (c:UInt8):dig c=isDig c:=by
 unfold dig isDig
 simp only [UInt8.le_iff_toNat_le];rfl
theorem AllD.of_dig {l:List UInt8} (h:∀ c ∈ l,dig c=true):AllD l:=fun c hc=>by rw [← dig_is];exact h c hc
theorem AllD.append {a b:List UInt8} (ha:AllD a) (hb:AllD b):AllD (a++b):=fun c hc=>(List.mem_append.1 hc).elim (ha c) (hb c)
theorem AllD.cons {c:UInt8} {l:List UInt8} (hc:isDig c=true) (h:AllD l):AllD (c::l):=fun x hx=>by
 rcases List.mem_cons.1 hx with rfl|hx
 ·exact hc
 ·exact h x hx
theorem AllD.drop {l:List UInt8} (h:AllD l) (k:Nat):AllD (l.drop k):=fun c hc=>h c (List.mem_of_mem_drop hc)
theorem AllD.take {l:List UInt8} (h:AllD l) (k:Nat):AllD (l.take k):=fun c hc=>h c (List.mem_of_mem_take hc)
theorem AllD.zeros (k:Nat):AllD (List.replicate k 48):=fun c hc=>by rw [List.eq_of_mem_replicate hc];rfl
theorem digs_app:∀ {a b:List UInt8},AllD a→digs (a++b)=a.length+digs b
 | [],b,_=>by simp
 | c::r,b,h=>by
  have h1:=h c (by simp)
  have h2:=digs_app (a:=r) (b:=b) (fun x hx=>h x (by simp [hx]))
  simp only [List.cons_append,digs,h1,if_true,h2,List.length_cons];omega
def NumF (l:List UInt8):Prop:=∃ sg a fr ex,l=sg++(a++(fr++ex))∧(sg=[]∨sg=[45])∧AllD a∧a≠[]∧(a.headD 0=48→a.length=1)∧(fr=[]∨∃ f,fr=46::f∧AllD f∧f≠[])∧(ex=[]∨∃ s ds,ex=101::s::ds∧(s=43∨s=45)∧AllD ds∧ds≠[])
theorem lexExp_ok {k:Nat} {ex:List UInt8} (hk:k≠0) (h:ex=[]∨∃ s ds,ex=101::s::ds∧(s=43∨s=45)∧AllD ds∧ds≠[]):lexExp k ex≠0:=by
 rcases h with rfl|⟨s,ds,rfl,hs,hd,hn⟩
 ·exact hk
 ·have e1:digs ds=ds.length:=by have:=digs_app (b:=[]) hd;simpa [digs] using this
  have e2:ds.length≠0:=by simpa using hn
  simp [lexExp,hs,e1,e2]
theorem ex_head {ex:List UInt8} (h:ex=[]∨∃ s ds,ex=101::s::ds∧(s=43∨s=45)∧AllD ds∧ds≠[]):digs ex=0:=by
 rcases h with rfl|⟨s,ds,rfl,_⟩
 ·rfl
 ·rfl
theorem lexFrac_ok {fr ex:List UInt8} (hf:fr=[]∨∃ f,fr=46::f∧AllD f∧f≠[]) (h:ex=[]∨∃ s ds,ex=101::s::ds∧(s=43∨s=45)∧AllD ds∧ds≠[]):lexFrac (fr++ex)≠0:=by
 rcases hf with rfl|⟨f,rfl,hd,hn⟩
 ·have hex:=lexExp_ok (k:=1) (by decide) h
  rcases h with rfl|⟨s,ds,rfl,h2⟩
  ·decide
  ·simpa [lexFrac] using hex
 ·have hex:=lexExp_ok (k:=2) (by decide) h
  have e1:digs (f++ex)=f.length:=by rw [digs_app hd,ex_head h];omega
  have e2:f.length≠0:=by simpa using hn
  simp [lexFrac,e1,e2,hex]
theorem NumF.lex {l:List UInt8} (h:NumF l):lexeme l≠0:=by
 obtain ⟨sg,a,fr,ex,rfl,hsg,ha,hn,h48,hf,hx⟩:=h
 have hfr:digs (fr++ex)=0:=by
  rcases hf with rfl|⟨f,rfl,_⟩
  ·simpa using ex_head hx
  ·rfl
 have e1:digs (a++(fr++ex))=a.length:=by rw [digs_app ha,hfr];omega
 have e2:a.length≠0:=by simpa using hn
 obtain ⟨c,r,rfl⟩:∃ c r,a=c::r:=by cases a with|nil=>exact absurd rfl hn|cons c r=>exact ⟨c,r,rfl⟩
 have hc:=ha c (by simp)
 have hc45:c≠45:=by rintro rfl;exact absurd hc (by decide)
 have hl:lexeme (sg++((c::r)++(fr++ex)))=if digs ((c::r)++(fr++ex))=0∨(hd ((c::r)++(fr++ex))=48∧1 < digs ((c::r)++(fr++ex))) then 0 else lexFrac (((c::r)++(fr++ex)).drop (digs ((c::r)++(fr++ex)))):=by
  rcases hsg with rfl|rfl
  ·simp [lexeme,hc45]
  ·simp [lexeme]
 rw [hl,e1,if_neg,List.drop_left]
 ·exact lexFrac_ok hf hx
 ·rintro (h | ⟨h,h1⟩)
  ·exact e2 h
  ·have:c=48:=by simpa [hd] using h
   have:=h48 (by simpa using this)
   omega
def Asc (l:List UInt8):Prop:=∀ c ∈ l,c.toNat < 128
theorem Asc.append {a b:List UInt8} (ha:Asc a) (hb:Asc b):Asc (a++b):=fun c hc=>(List.mem_append.1 hc).elim (ha c) (hb c)
theorem Asc.digs {l:List UInt8} (h:AllD l):Asc l:=fun c hc=>by
 have:=h c hc
 simp only [isDig,Bool.and_eq_true,decide_eq_true_eq,UInt8.le_iff_toNat_le] at this
 have e:(57:UInt8).toNat=57:=rfl
 omega
theorem NumF.asc {l:List UInt8} (h:NumF l):Asc l:=by
 obtain ⟨sg,a,fr,ex,rfl,hsg,ha,hn,h48,hf,hx⟩:=h
 refine Asc.append ?_ (Asc.append (Asc.digs ha) (Asc.append ?_ ?_))
 ·rcases hsg with rfl|rfl
  ·intro c hc;simp at hc
  ·intro c hc;obtain rfl:c=45:=by simpa using hc
   decide
 ·rcases hf with rfl|⟨f,rfl,hd,_⟩
  ·intro c hc;simp at hc
  ·intro c hc
   rcases List.mem_cons.1 hc with rfl|hc
   ·decide
   ·exact Asc.digs hd c hc
 ·rcases hx with rfl|⟨s,ds,rfl,hs,hd,_⟩
  ·intro c hc;simp at hc
  ·intro c hc
   rcases List.mem_cons.1 hc with rfl|hc
   ·decide
   ·rcases List.mem_cons.1 hc with rfl|hc
    ·rcases hs with rfl|rfl<;>decide
    ·exact Asc.digs hd c hc
theorem Asc.whole:∀ {l:List UInt8},Asc l→wholeTo l=l.length
 | [],_=>rfl
 | c::r,h=>by
  have hc:=h c (by simp)
  have h1:putL c.toNat=[c]:=by
   unfold putL;rw [if_pos hc];simp
  have h2:=look_put c.toNat (by unfold isCh;simp;omega)
  rw [h1] at h2
  have h3:=(look_join [c] r h2.1).1
  rw [Asc.whole (l:=r) (fun x hx=>h x (by simp [hx]))] at h3
  simpa [Nat.add_comm] using h3
end Go.Proofs.YtmooaepbdmengaaGreatDoor
namespace Go.Proofs.YtmooaepbdmengaaGreatDoor
open Go.RowKit
set_option linter.unusedVariables false
set_option linter.unusedSimpArgs false
def WideR (v:Value):Prop:=∃ a b:Nat,v=.agg #[.int .u64 (a:Nat),.int .u64 (b:Nat)]∧a < 18446744073709551616∧b < 18446744073709551616
theorem wrapN (x:Int):∃ n:Nat,IntKind.u64.wrap x=(n:Int)∧n < 18446744073709551616:=by
 have h:=IntKind.wrap_u64 x
 exact ⟨(IntKind.u64.wrap x).toNat,by omega,by omega⟩
theorem WideR.mk (x y:Int):WideR (.agg #[.int .u64 (IntKind.u64.wrap x),.int .u64 (IntKind.u64.wrap y)]):=by
 obtain ⟨n,hn,h1⟩:=wrapN x
 obtain ⟨m,hm,h2⟩:=wrapN y
 exact ⟨n,m,by rw [hn,hm],h1,h2⟩
theorem below_two {w:World} (o o':Obj):Below w.heap.size w ((w.alloc o).alloc o'):=((Below.refl _ _).alloc (Nat.le_refl _) _).alloc (by simp) _
set_option maxRecDepth 100000 in
set_option maxHeartbeats 4000000 in
theorem wide_calls (a b c d x y:Int) (w:World):Calls Tryz.prog 121 #[.agg #[.int .u64 a,.int .u64 b,.int .u64 c,.int .u64 d,.int .u64 x,.int .u64 y]] w fun e w'=>(∃ v,e=.returned v∧WideR v)∧Below w.heap.size w w':=by
 go_enter Tryz.func121,Tryz.ntmps121
 go_wp2_with fail
 refine bodyPost_ret (v:=.agg #[.int .u64 (IntKind.u64.wrap (IntKind.u64.wrap (d * 4294967296)+c)),.int .u64 (IntKind.u64.wrap (IntKind.u64.wrap (b * 4294967296)+a))]) (by simp [results,Tryz.results121,go_sem]) rfl ?_
 exact ⟨⟨_,rfl,WideR.mk _ _⟩,below_two _ _⟩
set_option maxRecDepth 100000 in
set_option maxHeartbeats 4000000 in
theorem wcmp_calls (a b c d:Nat) (w:World):Calls Tryz.prog 113 #[.agg #[.int .u64 (a:Nat),.int .u64 (b:Nat)],.agg #[.int .u64 (c:Nat),.int .u64 (d:Nat)]] w fun e w'=>(∃ n:Int,e=.returned (.int .i64 n))∧Below w.heap.size w w':=by
 by_cases h1:a < c
 ·go_enter Tryz.func113,Tryz.ntmps113
  go_wp2_with fail
  go_ret
  exact ⟨⟨_,rfl⟩,below_two _ _⟩
 by_cases h2:a=c
 ·subst h2
  by_cases h3:b < d
  ·go_enter Tryz.func113,Tryz.ntmps113
   go_wp2_with fail
   go_ret
   exact ⟨⟨_,rfl⟩,below_two _ _⟩
  by_cases h4:b=d
  ·subst h4
   go_enter Tryz.func113,Tryz.ntmps113
   go_wp2_with fail
   go_ret
   exact ⟨⟨_,rfl⟩,below_two _ _⟩
  have d4:((b:Int) == (d:Int))=false:=by simp;omega
  go_enter Tryz.func113,Tryz.ntmps113
  go_wp2_with fail
  go_ret
  exact ⟨⟨_,rfl⟩,below_two _ _⟩
 have d2:((a:Int) == (c:Int))=false:=by simp;omega
 go_enter Tryz.func113,Tryz.ntmps113
 go_wp2_with fail
 go_ret
 exact ⟨⟨_,rfl⟩,below_two _ _⟩
set_option maxRecDepth 100000 in
set_option maxHeartbeats 4000000 in
theorem text28_calls (s:ByteArray) (w:World):Calls Tryz.prog 36 #[.string s] w fun e w'=>e=.returned (.agg (itCells 4 0 none 0 0 s none 0 0))∧Below w.heap.size w w':=by
 go_enter Tryz.func36,Tryz.ntmps36
 go_wp2_with fail
 refine bodyPost_ret (v:=.agg (itCells 4 0 none 0 0 s none 0 0)) (by simp [results,Tryz.results36,go_sem]) rfl ?_
 exact ⟨rfl,(Below.refl _ _).alloc (Nat.le_refl _) _⟩
set_option maxRecDepth 100000 in
set_option maxHeartbeats 4000000 in
theorem list28_calls (a:Option Addr) (n c:Nat) (w:World):Calls Tryz.prog 61 #[.slice a n c] w fun e w'=>e=.returned (.agg (itCells 5 0 none 0 0 ⟨#[]⟩ a n c))∧Below w.heap.size w w':=by
 go_enter Tryz.func61,Tryz.ntmps61
 go_wp2_with fail
 refine bodyPost_ret (v:=.agg (itCells 5 0 none 0 0 ⟨#[]⟩ a n c)) (by simp [results,Tryz.results61,go_sem]) rfl ?_
 exact ⟨rfl,(Below.refl _ _).alloc (Nat.le_refl _) _⟩
set_option maxRecDepth 100000 in
set_option maxHeartbeats 4000000 in
theorem data28_calls (a:Option Addr) (n c:Nat) (w:World):Calls Tryz.prog 62 #[.slice a n c] w fun e w'=>e=.returned (.agg (itCells 3 0 a n c ⟨#[]⟩ none 0 0))∧Below w.heap.size w w':=by
 go_enter Tryz.func62,Tryz.ntmps62
 go_wp2_with fail
 refine bodyPost_ret (v:=.agg (itCells 3 0 a n c ⟨#[]⟩ none 0 0)) (by simp [results,Tryz.results62,go_sem]) rfl ?_
 exact ⟨rfl,(Below.refl _ _).alloc (Nat.le_refl _) _⟩
def TagO (T:Nat) (cells:Array Value) (w:World) (e:Ending) (w':World):Prop:=
 ∃ g,e=.returned (.agg (itCells 7 T none 0 0 ⟨#[]⟩ (some ⟨g,0,none⟩) 1 1))∧w.heap.size≤g∧(∀ j u,cells.toList[j]?=some u→w'.cell? ⟨g,j,none⟩=some u)∧Below w.heap.size w w'
set_option maxRecDepth 100000 in
set_option maxHeartbeats 4000000 in
theorem tag28_calls (kd:Nat) (hk:kd≤1000000) (k:Int) (n:Nat) (ab:Option Addr) (nb cb:Nat) (text:ByteArray) (ak:Option Addr) (nk ck:Nat) (w:World) :
  Calls Tryz.prog 60 #[.int .i64 (kd:Nat),.agg (itCells k n ab nb cb text ak nk ck)] w fun e w'=>TagO (1000+kd) (itCells k n ab nb cb text ak nk ck) w e w':=by
 obtain ⟨T,hT⟩:∃ T,T=1000+kd:=⟨_,rfl⟩
 have e1:IntKind.i64.wrap (1000+(kd:Int))=(T:Int):=(IntWalk.i64_in _ (by omega)).trans (by omega)
 have e2:IntKind.u64.wrap (T:Int)=(T:Int):=by rw [IntKind.wrap_u64];omega
 rw [← hT]
 clear hT
 go_enter Tryz.func60,Tryz.ntmps60
 go_wp2_with fail
 refine bodyPost_ret (v:=.agg (itCells 7 T none 0 0 ⟨#[]⟩ (some ⟨w.heap.size+1+1,0,none⟩) 1 1)) (by simp [results,Tryz.results60,go_sem]) rfl ?_
 refine ⟨_,rfl,by omega,fun j u hu=>?_,((below_two _ _).alloc (by simp;omega) _)⟩
 have h9:=new_cells ((w.alloc (.cells (itCells k n ab nb cb text ak nk ck) 39)).alloc (.cells #[.int .i64 7,.int .u64 (T:Nat),.slice none 0 0,.string ⟨#[]⟩,.slice (some ⟨w.heap.size+1+1,0,none⟩) 1 1] 39)) (itCells k n ab nb cb text ak nk ck) 39 _ rfl j u hu
 rw [World.size_alloc,World.size_alloc] at h9
 exact h9
def IntO (w:World) (e:Ending) (w':World):Prop:=∃ (k:Int) (n:Nat),e=.returned (.agg (itCells k n none 0 0 ⟨#[]⟩ none 0 0))∧(k=1∨k=2)∧n < 18446744073709551616∧Below w.heap.size w w'
set_option maxRecDepth 100000 in
set_option maxHeartbeats 4000000 in
theorem integer28_calls (v:Int) (w:World):Calls Tryz.prog 63 #[.int .i64 v] w fun e w'=>IntO w e w':=by
 obtain ⟨n,hn,hn1⟩:=wrapN v
 obtain ⟨m,hm,hm1⟩:=wrapN (wrap64 (-(wrap64 (v+1))))
 by_cases h:v < 0
 ·go_enter Tryz.func63,Tryz.ntmps63
  go_wp2_with fail
  refine bodyPost_ret (v:=.agg (itCells 2 m none 0 0 ⟨#[]⟩ none 0 0)) (by simp [results,Tryz.results63,go_sem, *]) rfl ?_
  exact ⟨2,m,rfl,.inr rfl,hm1,(Below.refl _ _).alloc (Nat.le_refl _) _⟩
 ·go_enter Tryz.func63,Tryz.ntmps63
  go_wp2_with fail
  refine bodyPost_ret (v:=.agg (itCells 1 n none 0 0 ⟨#[]⟩ none 0 0)) (by simp [results,Tryz.results63,go_sem, *]) rfl ?_
  exact ⟨1,n,rfl,.inl rfl,hn1,(Below.refl _ _).alloc (Nat.le_refl _) _⟩
theorem below_then3' {a b c:World} (h:Below a.heap.size a b) (g:Below b.heap.size b c):Below a.heap.size a c:=h.trans (g.mono h.size)
def TellO (w:World) (e:Ending) (w':World):Prop:=(∃ b,e=.returned (.bool b))∧Below w.heap.size w w'
def RegRel (w:World) (nk:Nat) (i:Value) (wr:World):Prop:=∃ j:Nat,j≤nk∧i=.int .i64 (j:Nat)∧Below w.heap.size w wr
set_option maxRecDepth 100000 in
set_option maxHeartbeats 4000000 in
theorem regular_calls (f:F) (w:World) (a:Option Addr) (nk ck:Nat) (hk:RdKs w a 0 f) (hl:f.len=nk) (hn:nk≤900000):Calls Tryz.prog 59 #[.slice a nk ck] w (TellO w):=by
 have HK:=Lib.hid hk
 have HL:=Lib.hid hl
 clear hk hl
 go_enter Tryz.func59,Tryz.ntmps59
 go_wp2_with fail
 go_loopw [3] (fun i wr=>RegRel w nk i wr) (fun i _=>nk - (intOf i).toNat)
 case atStart=>exact ⟨0,by omega,rfl,Below.refl _ _⟩
 case round=>
  obtain ⟨j,hj,rfl,hbl⟩:=hrel
  have HKW:=Lib.hid (HK.out.keep hbl)
  have HBW:=Lib.hid hbl
  have hsz:=hbl.size
  clear hbl
  by_cases hlt:j < nk
  ·obtain ⟨⟨nm,t⟩,hx⟩:=F.get_some f j (by rw [HL.out];exact hlt)
   obtain ⟨b,o,c,rfl,e1,e2,-,-⟩:=HKW.out.at hx
   clear hx
   have hj0:(0:Int)≤(j:Int):=by omega
   have hj1:(j:Int) < (nk:Int):=by omega
   have hw1:IntKind.u64.wrap (j:Int)=((j:Nat):Int):=by rw [IntKind.wrap_u64];omega
   obtain ⟨s,hs⟩:∃ s,s=txt (digL 19 j []):=⟨_,rfl⟩
   have HD:Hid (∀ W,Calls Tryz.prog 83 #[.int .u64 (j:Nat)] W fun e w'=>e=.returned (.string s)∧Below W.heap.size W w'):=by
    rw [hs];exact Lib.hid (fun W=>digits_calls j (by omega) W)
   clear hs
   have HKS:Hid (∀ W,Below wr.heap.size wr W→Hid (Below wr.heap.size wr W)∧W.cell? ⟨b,o+j * 10,none⟩=some (.string nm)):=Lib.hid fun W hW=>⟨Lib.hid hW,cell_below hW e2⟩
   have hx0:Below wr.heap.size wr wr:=Below.refl _ _
   go_upto_region 4 with fail
   go_region_held3 (fun W=>Hid (Below wr.heap.size wr W)∧W.cell? ⟨b,o+j * 10,none⟩=some (.string nm)) ((refine HKS.out _ ?_;(repeat' (first|with_reducible assumption|with_reducible refine Below.drew ?_|with_reducible exact Below.refl _ _))))
    ((first
     | (go_at_call 83;(with_reducible refine (HD.out _).mono ?_);rintro e w9 ⟨rfl,hb9⟩;have hx9:=below_then3' (a:=wr) (by (repeat' (first|with_reducible assumption|with_reducible refine Below.drew ?_|with_reducible exact Below.refl _ _))) hb9;clear hb9)
     | fail))
   all_goals
    have hfin:=(‹Hid (Below wr.heap.size wr _)∧_›).1.out
    go_wp2_with fail
    all_goals first
     | exact ⟨⟨j+1,by omega,by first|rfl|(congr 1;omega)|(simp;omega),HBW.out.trans (hfin.mono hsz)⟩,by simp [intOf];omega⟩
     | (go_ret;exact ⟨⟨false,rfl⟩,HBW.out.trans (hfin.mono hsz)⟩)
  ·go_wp2_with fail
   go_ret
   exact ⟨⟨true,rfl⟩,HBW.out⟩
def BoxI (W:World) (g:Nat) (c:Array Value):Prop:=g < W.heap.size∧∀ j,j < 5→W.cell? ⟨g,j,none⟩=c[j]?∧W.frozen? ⟨g,j,none⟩=false
theorem BoxI.block {W W':World} {g:Nat} {c:Array Value} (h:BoxI W g c) (hs:W.heap.size≤W'.heap.size) (hb:W'.heap[g]?=W.heap[g]?):BoxI W' g c:=
 ⟨Nat.lt_of_lt_of_le h.1 hs,fun j hj=>⟨(World.cell?_of_block (w:=W) hb).trans (h.2 j hj).1,(World.frozen?_of_block (w:=W) hb).trans (h.2 j hj).2⟩⟩
theorem BoxI.chg {X:Nat→Prop} {W W':World} {g:Nat} {c:Array Value} (h:BoxI W g c) (hb:Chg X W W') (hg:¬ X g):BoxI W' g c:=h.block hb.size (hb.block g h.1 hg)
theorem BoxI.keep {W W':World} {g:Nat} {c:Array Value} (h:BoxI W g c) (hb:Below W.heap.size W W'):BoxI W' g c:=h.block hb.size (hb.block g h.1)
theorem BoxI.new (w:World) (c:Array Value) (t:TypeId):BoxI (w.alloc (.cells c t)) w.heap.size c:=
 ⟨by simp,fun j _=>⟨by simp [go_sem],by simp⟩⟩
theorem BoxI.set {W:World} {g:Nat} {c:Array Value} (h:BoxI W g c) (i:Nat) (v:Value) (hi:i < c.size) (h9:i < 5):BoxI (W.setCell ⟨g,i,none⟩ v) g (c.setIfInBounds i v):=by
 refine ⟨by simpa [World.setCell] using h.1,fun j hj=>⟨?_,by rw [World.frozen?_setCell];exact (h.2 j hj).2⟩⟩
 by_cases e:i=j
 ·subst e
  rw [World.cell?_setCell_same _ _ _ (u:=c[i]) (by rw [(h.2 i h9).1,Array.getElem?_eq_getElem hi])]
  simp [Array.getElem?_setIfInBounds,hi]
 ·rw [World.cell?_setCell_other _ _ _ _ (fun q=>e (Addr.mk.inj q).2.1),(h.2 j hj).1]
  simp [Array.getElem?_setIfInBounds,e]
def ItOut (S0:Nat→Prop) (t:T) (w:World) (e:Ending) (w':World):Prop:=
 ∃ (k:Int) (n:Nat) (ab:Option Addr) (nb cb:Nat) (text:ByteArray) (ak:Option Addr) (nk ck:Nat) (x:I),e=.returned (.agg (itCells k n ab nb cb text ak nk ck))∧RdIt (fun k=>S0 k∨w.heap.size≤k) w' x (itCells k n ab nb cb text ak nk ck)∧errI x=0∧x.zt+5≤18 * t.wt∧Below w.heap.size w w'
def ItSaid (d:Nat):Prop:=∀ t:T,t.wt≤d→OkT t→∀ (S0:Nat→Prop) (w:World) (c:Array Value),(∀ k,S0 k→k < w.heap.size)→RdTS S0 w t c→Calls Tryz.prog 37 #[.agg c] w (ItOut S0 t w)
def MapOut (S0:Nat→Prop) (f:F) (w:World) (e:Ending) (w':World):Prop:=
 ∃ (a:Option Addr) (n c:Nat) (g:IL),e=.returned (.agg (itCells 6 0 none 0 0 ⟨#[]⟩ a n c))∧RdIs (fun k=>S0 k∨w.heap.size≤k) w' a 0 g∧Roomy a n c∧g.len=n∧n≤9223372036854775807∧(n % 2=0∧hdT g)∧errIs g=0∧g.zt≤18 * f.wt∧Below w.heap.size w w'
def z5:Array Value:=itCells 0 0 none 0 0 ⟨#[]⟩ none 0 0
def m5 (v:Value):Array Value:=#[.int .i64 6,.int .u64 0,.slice none 0 0,.string ⟨#[]⟩,v]
def MpRel (S0:Nat→Prop) (f:F) (w:World) (nk:Nat) (i:Value) (wr:World):Prop:=
 ∃ (j:Nat) (v:Value) (g:IL),i=.int .i64 (j:Nat)∧j≤nk∧(g.len=2 * j∧hdT g)∧errIs g=0∧g.zt+18 * (f.drop j).wt≤18 * f.wt∧OwnI wr (w.heap.size+2) (fun k=>S0 k∨w.heap.size+2≤k) v g∧BoxI wr w.heap.size z5∧BoxI wr (w.heap.size+1) (m5 v)∧Below w.heap.size w wr
theorem RdIt_txt {S:Nat→Prop} {w:World} {s:ByteArray} (h:s.size≤9223372036854775807):RdIt S w (txtI s) (itCells 4 0 none 0 0 s none 0 0):=
 ⟨none,0,0,none,0,0,rfl,⟨⟨by omega,by omega⟩,by decide,h⟩,⟨RdB.nil _ _,fun h=>absurd h (by omega)⟩,rfl,⟨by omega,⟨fun _=>rfl,Nat.le_refl _⟩,⟨fun _=>rfl,Nat.le_refl _⟩⟩,trivial⟩
theorem frozenZ {S:Nat→Prop} {a b:World} (h:Chg S a b) {p:Addr} (hp:¬ S p.block) (hl:p.block < a.heap.size):b.frozen? p=a.frozen? p:=World.frozen?_of_block (w:=a) (h.block p.block hl hp)
theorem rdit_from {S0:Nat→Prop} {a b c:World} {x:I} {cs:Array Value} (h:RdIt (fun k=>S0 k∨b.heap.size≤k) c x cs) (hb:Below a.heap.size a b):RdIt (fun k=>S0 k∨a.heap.size≤k) c x cs:=h.imp (fun _ _ h=>h.imp id (fun h=>Nat.le_trans hb.size h))
theorem SrcI.two {S:Nat→Prop} {w:World} {g:Nat} {cap:Nat} {x y:I} {c e:Array Value} (h:RdIt S w x c) (h2:RdIt S w y e) (hc:∀ j u,(c.toList++e.toList)[j]?=some u→w.cell? ⟨g,j,none⟩=some u) :
  SrcI S w (.slice (some ⟨g,0,none⟩) 2 cap) (.cons x (.cons y .nil)):=by
 have hk:IsC S w (.cons x (.cons y .nil)) (c.toList++e.toList):=⟨c,e.toList,rfl,h,IsC.one h2⟩
 refine ⟨_,hk,.inr ⟨_,cap,rfl,hk.length,fun j u hj=>?_,one_of_cells hk⟩⟩
 rw [add_at,Nat.zero_add]
 exact hc j u hj
theorem len_wtZ:∀ f:F,f.len≤f.wt
 | .nil=>Nat.le_refl _
 | .cons n t r=>by
  have h:=len_wtZ r
  have h2:2≤t.wt:=by cases t;simp only [T.wt];omega
  simp only [F.len,F.wt];omega
theorem IL.ztAppZ:∀ g h:IL,(g.append h).zt=g.zt+h.zt
 | .nil,h=>by simp [IL.append,IL.zt]
 | .cons x r,h=>by simp only [IL.append,IL.zt,IL.ztAppZ r h];omega
theorem errAppZ:∀ g h:IL,errIs g=0→errIs h=0→errIs (g.append h)=0
 | .nil,h,_,h2=>h2
 | .cons x r,h,h1,h2=>by
  by_cases e:errI x=0
  ·simp only [errIs,e] at h1
   exact errIs_cons _ _ e (errAppZ r h (by simpa using h1) h2)
  ·simp [errIs,e] at h1
theorem ownI_chgZ {w w':World} {B:Nat} {L S':Nat→Prop} {v:Value} {f:IL} (h:OwnI w B L v f) (hc:Chg S' w w') (hL:∀ k,L k→¬ S' k) (hv:∀ k,v.ownBlock=some k→¬ S' k):OwnI w' B L v f:=by
 obtain ⟨xs,S,h1,h2,h3⟩:=h
 refine ⟨xs,S,?_,h2.keep (KeepS.chg hc fun k hk=>hL k (h3 k hk).1),h3⟩
 refine ⟨h1.1,?_⟩
 rcases h1.2 with h4|⟨g,cap,cur,rfl,hb,hg,r⟩
 ·exact .inl h4
 ·refine .inr ⟨g,cap,cur,rfl,hb,?_,r⟩
  have hlt:g < w.heap.size:=(Array.getElem?_eq_some_iff.1 hg).1
  rw [hc.block g hlt (hv g rfl)]
  exact hg
theorem map_next {S0:Nat→Prop} {f:F} {w wr w5:World} {nk j:Nat} {v:Value} {g:IL} {nm:ByteArray} {t:T} {x:I} {a5:Option Addr} {N5 c5:Nat} (hlt:j < nk)
  (hO:OwnI w5 (w.heap.size+2) (fun k=>S0 k∨w.heap.size+2≤k) (.slice a5 N5 c5) (g.append (.cons (txtI nm) (.cons x .nil)))) (hC:Chg (fun k=>v.ownBlock=some k) wr w5) (hfar:∀ k,v.ownBlock=some k→w.heap.size+2≤k)
  (hB0:BoxI wr w.heap.size z5) (hB1:BoxI wr (w.heap.size+1) (m5 v)) (hbl:Below w.heap.size w wr) (hgl:g.len=2 * j∧hdT g) (hge:errIs g=0) (hgw:g.zt+18 * (f.drop j).wt≤18 * f.wt)
  (hwt:nm.size+t.wt+(f.drop (j+1)).wt≤(f.drop j).wt∧(f.drop j).wt≤f.wt) (hnok:textOk true (sl nm)=true) (he:errI x=0) (hw2:x.zt+5≤18 * t.wt) (hS:∀ k,S0 k→k < w.heap.size) :
  MpRel S0 f w nk (.int .i64 ((j:Int)+1)) (w5.setCell ⟨w.heap.size+1,4,none⟩ (.slice a5 N5 c5)):=by
 have hC1:=Chg.set1 w5 (w.heap.size+1) 4 (.slice a5 N5 c5)
 have hb5:Below w.heap.size w w5:=hbl.trans (hC.below hbl.size (fun i hi=>by have:=hfar i hi;omega))
 have hx0:=hB0.chg hC (fun e=>by have:=hfar _ e;omega)
 have hx1:=hB1.chg hC (fun e=>by have:=hfar _ e;omega)
 refine ⟨j+1,_,_,rfl,by omega,?_,errAppZ _ _ hge (errIs_cons _ _ (err_txt _ (whole_of_ok hnok)) (errIs_cons _ _ he rfl)),?_,ownI_chgZ hO hC1 ?_ ?_,?_,?_,?_⟩
 ·exact ⟨by rw [IL.append_len];simp only [IL.len];omega,hdT_app _ _ _ hgl.2⟩
 ·rw [IL.ztAppZ];simp only [IL.zt,zt_txt];omega
 ·intro k hk e
  rcases hk with hk|hk
  ·have:=hS k hk;omega
  ·omega
 ·intro k hk e
  have:=(hO.far k hk).1;omega
 ·exact hx0.chg hC1 (by omega)
 ·exact hx1.set 4 _ (by simp [m5]) (by omega)
 ·exact hb5.trans (hC1.below hb5.size (fun i hi=>by omega))
def KidZ (S:Nat→Prop) (w:World) (a:Option Addr) (i:Nat) (n:ByteArray) (t:T):Prop:=
 ∃ (b o:Nat) (k:Int) (bits hi lo:Nat) (text more:ByteArray) (sub:Int) (ab:Option Addr) (nb cb:Nat) (ak:Option Addr) (nk ck:Nat),
  a=some ⟨b,o,none⟩∧n.size≤9223372036854775807∧RdTS S w t (valCells k bits hi lo text more sub ab nb cb ak nk ck) ∧
  w.cell? ⟨b,o+i * 10,none⟩=some (.string n)∧w.cell? ⟨b,o+i * 10+1,none⟩=some (.int .i64 k)∧w.cell? ⟨b,o+i * 10+2,none⟩=some (.int .u64 (bits:Nat)) ∧
  w.cell? ⟨b,o+i * 10+3,none⟩=some (.int .u64 (hi:Nat))∧w.cell? ⟨b,o+i * 10+4,none⟩=some (.int .u64 (lo:Nat))∧w.cell? ⟨b,o+i * 10+5,none⟩=some (.string text) ∧
  w.cell? ⟨b,o+i * 10+6,none⟩=some (.string more)∧w.cell? ⟨b,o+i * 10+7,none⟩=some (.int .i64 sub)∧w.cell? ⟨b,o+i * 10+8,none⟩=some (.slice ab nb cb) ∧
  w.cell? ⟨b,o+i * 10+9,none⟩=some (.slice ak nk ck)∧S b
theorem RdKsS.atZ {S:Nat→Prop} {w:World} {a:Option Addr}:∀ {f:F} {i j:Nat} {n:ByteArray} {t:T},RdKsS S w a i f→f.get? j=some (n,t)→KidZ S w a (i+j) n t
 | .nil,i,j,n,t,h,hj=>by simp [F.get?] at hj
 | .cons n' t' r,i,0,n,t,h,hj=>by
  simp only [F.get?,Option.some.injEq,Prod.mk.injEq] at hj
  obtain ⟨rfl,rfl⟩:=hj
  obtain ⟨⟨b,o,c,h1,h1',h2,h3,h4,h5⟩,-⟩:=h
  obtain ⟨k,bits,hi,lo,text,more,sub,ab,nb,cb,ak,nk,ck,rfl⟩:=h5.rd.shape
  exact ⟨b,o,k,bits,hi,lo,text,more,sub,ab,nb,cb,ak,nk,ck,h1,h2,h5,h3,h4 0 (by omega),h4 1 (by omega),h4 2 (by omega),h4 3 (by omega),h4 4 (by omega),h4 5 (by omega),h4 6 (by omega),h4 7 (by omega),h4 8 (by omega),h1'⟩
 | .cons n' t' r,i,j+1,n,t,h,hj=>by
  have:=RdKsS.atZ (i:=i+1) h.2 hj
  rwa [show i+1+j=i+(j+1) from by omega] at this
theorem OkF.get:∀ {f:F} {j:Nat} {n:ByteArray} {t:T},OkF f→f.get? j=some (n,t)→OkT t∧textOk true (sl n)=true
 | .nil,j,n,t,h,hj=>by simp [F.get?] at hj
 | .cons n' t' r,0,n,t,h,hj=>by
  simp only [F.get?,Option.some.injEq,Prod.mk.injEq] at hj
  obtain ⟨rfl,rfl⟩:=hj
  exact ⟨h.2.1,h.1⟩
 | .cons n' t' r,j+1,n,t,h,hj=>OkF.get (f:=r) h.2.2 hj
end Go.Proofs.YtmooaepbdmengaaGreatDoor

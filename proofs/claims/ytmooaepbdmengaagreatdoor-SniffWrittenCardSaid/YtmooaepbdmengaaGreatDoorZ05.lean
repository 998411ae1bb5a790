/- Parts of the proof of SniffWritten: AppI, PathP, BoP, Book, Wt, BoK, BoY, BoU, BoE, CbN, CbR, CbW, CbG, Num, Num2, BoR, BoW, BoB, BoD, BoV, Book2, Size, BoG, AppT. -/
import Derived.Test.YtmooaepbdmengaaGreatDoorZ01
import Derived.Test.YtmooaepbdmengaaGreatDoorZ03
import Derived.Test.YtmooaepbdmengaaGreatDoorRows
import Derived.Test.YtmooaepbdmengaaGreatDoorZ04
import Derived.Test.YtmooaepbdmengaaGreatDoorZ02
import Derived.PlainAid
import Derived.Deep.RegionHeld3
import Derived.StillTailTactics
import Derived.Deep.RegionLaw
import Derived.Deep.DrawnRows
import Derived.Maps.AppendAt
import Derived.Laws.OwnMore
import Derived.Deep.Cut
import Derived.Laws.Append
import Derived.Lib.AppendStr
namespace Go.Proofs.YtmooaepbdmengaaGreatDoor
open Go.RowKit
set_option linter.unusedVariables false
set_option linter.unusedSimpArgs false
def intCells (xs:List Int):List Value:=xs.map fun x=>.int .i64 x
theorem intCells_append (a b:List Int):intCells (a++b)=intCells a++intCells b:=by simp [intCells]
theorem intCells_length (a:List Int):(intCells a).length=a.length:=by simp [intCells]
def OwnIZ (w:World) (B:Nat) (v:Value) (xs:List Int):Prop:=w.ownsRow B 3 1 v xs.length (intCells xs)
theorem infoInt:(Tryz.prog.info? 3).map (fun i=>(i.zero,i.size,i.bytes))=some (some (.int .i64 0),1,8):=by kernel_rfl
theorem intCells_at (xs:List Int) (i:Nat) (h:i < xs.length):(intCells xs).getD i undef=.int .i64 (xs.getD i 0):=by
 simp [intCells,List.getD_eq_getElem?_getD,List.getElem?_map,List.getElem?_eq_getElem h]
theorem OwnIZ.reads {w:World} {B:Nat} {v:Value} {xs:List Int} (h:OwnIZ w B v xs):∃ a cap,v=.slice a xs.length cap∧xs.length≤9223372036854775807∧RdF w a xs.length fun i=>.int .i64 (xs.getD i 0):=by
 obtain ⟨a,cap,rfl,hm,hg⟩:=owns_reads h
 refine ⟨a,cap,rfl,hm,fun i hi=>?_⟩
 obtain ⟨b,o,ha,hc⟩:=hg i hi
 refine ⟨b,o,ha,?_⟩
 have:=hc 0 (by omega)
 rw [Nat.mul_one,Nat.add_zero] at this
 rw [this]
 show some ((intCells xs).getD (i * 1+0) undef)=_
 rw [Nat.mul_one,Nat.add_zero,intCells_at xs i hi]
theorem src_int (w:World) (x:Int) (t:TypeId):Src (w.alloc (.cells #[.int .i64 x] t)) (.slice (some ⟨w.heap.size,0,none⟩) 1 1) 1 1 (intCells [x]):=
 .inr ⟨_,1,rfl,rfl,cell_one_new w _ t,by simp [intCells,Value.oneCell']⟩
theorem wpList_appIZ {w:World} {ops:Array Oper} {rest:List Oper} {o:Oper} {a:Act} {Q:Exit→Act→World→Prop} (hgd:o.guard=none) (s x:Operand)
  (ho:o.op=.call { callee:=.builtin .append,args:=#[s,x],argTypes:=#[30,30] })
  {B:Nat} {v:Value} {xs:List Int} (hs:a.eval s=v) (hown:OwnIZ w B v xs) {sv:Value} {l:List Int} (hx:a.eval x=sv) (hsrc:Src w sv l.length 1 (intCells l))
  (hb:xs.length+l.length≤10000000000) (hbase:B≤w.heap.size)
  (h:∀ v' w',OwnIZ w' B v' (xs++l)→AppF w w' v v'→wpList Tryz.prog ops Q rest (a.put o.dst v') w'):wpList Tryz.prog ops Q (o::rest) a w:=
 wpList_app Tryz.underlying30 infoInt rfl (by omega) hgd s x ho hs hown hx hsrc (by unfold maxLen;omega) (by omega) hbase
  fun v' w' h1 h2=>h v' w' (by unfold OwnIZ;rw [intCells_append,List.length_append];exact h1) h2
end Go.Proofs.YtmooaepbdmengaaGreatDoor
namespace Go.Proofs.YtmooaepbdmengaaGreatDoor
open Go.RowKit
set_option linter.unusedVariables false
set_option linter.unusedSimpArgs false
def iat (l:List Int) (i:Nat):Int:=l.getD i 0
def RdPS (S:Nat→Prop) (w:World) (a:Option Addr) (l:List Int):Prop:=
 RdF w a l.length (fun i=>.int .i64 (iat l i))∧(0 < l.length→∀ p,a=some p→S p.block)
theorem RdPS.keep {S:Nat→Prop} {w w':World} (hk:KeepS S w w') {a l} (h:RdPS S w a l):RdPS S w' a l:=by
 refine ⟨fun i hi=>?_,h.2⟩
 obtain ⟨b,o,ha,hc⟩:=h.1 i hi
 exact ⟨b,o,ha,hk ⟨b,o+i,none⟩ _ (h.2 (by omega) ⟨b,o,none⟩ ha) hc⟩
theorem RdPS.imp {S S':Nat→Prop} {w:World} (hS:∀ k,k < w.heap.size→S k→S' k) {a l} (h:RdPS S w a l):RdPS S' w a l:=by
 refine ⟨h.1,fun hn p hp=>?_⟩
 obtain ⟨b,o,ha,hc⟩:=h.1 0 hn
 refine hS _ ?_ (h.2 hn p hp)
 rw [hp] at ha
 obtain rfl:=Option.some.inj ha
 have:=cell_block hc
 simpa using this
theorem RdPS.news {S:Nat→Prop} {w:World} {ad:Addr} {l:List Int} (h:RdPS S w (some ad) l):∀ j u,(intCells l)[j]?=some u→w.cell? (ad.add j)=some u:=by
 intro j u hj
 have hlt:j < l.length:=by
  have:=(List.getElem?_eq_some_iff.1 hj).1
  rwa [intCells_length] at this
 obtain ⟨b,o,ha,hc⟩:=h.1 j hlt
 simp only [Option.some.injEq] at ha
 subst ha
 have:=intCells_at l j hlt
 rw [List.getD_eq_getElem?_getD,hj] at this
 rw [add_at,hc]
 exact congrArg some this.symm
theorem intCells_one (l:List Int):∀ u ∈ intCells l,u.oneCell'=true:=by
 intro u hu
 simp only [intCells,List.mem_map] at hu
 obtain ⟨x,_,rfl⟩:=hu
 rfl
theorem RdPS.src {S:Nat→Prop} {w:World} {a:Option Addr} {l:List Int} {c:Nat} (h:RdPS S w a l) (hc:a=none→c=0):Src w (.slice a l.length c) l.length 1 (intCells l):=by
 cases a with
 | none=>
  have:=hc rfl
  subst this
  have hl:l.length=0:=by
   rcases Nat.eq_zero_or_pos l.length with h0|h0
   ·exact h0
   ·obtain ⟨b,o,ha,_⟩:=h.1 0 h0;simp at ha
  have hn:l=[]:=List.eq_nil_of_length_eq_zero hl
  subst hn
  exact .inl ⟨rfl,rfl,rfl⟩
 | some ad=>exact .inr ⟨ad,c,rfl,by rw [intCells_length,Nat.mul_one],h.news,intCells_one l⟩
theorem OwnIZ.rd {w:World} {B:Nat} {v:Value} {l:List Int} (h:OwnIZ w B v l):∃ a c,v=.slice a l.length c∧RdPS (fun k=>v.ownBlock=some k) w a l∧(a=none→c=0)∧l.length≤c∧l.length≤9223372036854775807:=by
 obtain ⟨a,c,rfl,hm,hg⟩:=h.reads
 refine ⟨a,c,rfl,⟨fun i hi=>hg i hi,fun _ p hp=>by rw [hp];rfl⟩,?_,?_,hm⟩
 ·rintro rfl
  rcases h.2 with ⟨e,_⟩|⟨g,cp,cur,e,_⟩
  ·simp only [Value.slice.injEq] at e;exact e.2.2
  ·simp at e
 ·rcases h.2 with ⟨e,h0⟩|⟨g,cp,cur,e,_,_,hnc,_⟩
  ·omega
  ·simp only [Value.slice.injEq] at e;omega
theorem OwnB.rdS {w:World} {B:Nat} {v:Value} {bs:List UInt8} (h:OwnB w B v bs):∃ a c,v=.slice a bs.length c∧RdBS (fun k=>B≤k∧k < w.heap.size) w a bs.length bs∧Roomy a bs.length c:=by
 obtain ⟨a,c,rfl,hr⟩:=h.reads
 refine ⟨a,c,rfl,⟨hr,fun _ p hp=>owns_lt h p.block (by rw [hp];rfl)⟩,?_,?_⟩
 ·rintro rfl
  rcases h.2 with ⟨e,_⟩|⟨g,cp,cur,e,_⟩
  ·simp only [Value.slice.injEq] at e;exact e.2.2
  ·simp at e
 ·rcases h.2 with ⟨e,h0⟩|⟨g,cp,cur,e,_,_,hnc,_⟩
  ·omega
  ·simp only [Value.slice.injEq] at e;omega
def roomS:Int→List Int→Int
 | left,[]=>left
 | left,s::r=>if left < 0∨left < s then -1 else roomS (left - s) r
theorem roomS_bd:∀ (l:List Int) (left:Int),(∀ s ∈ l,0≤s)→-1≤left→-1≤roomS left l∧roomS left l≤left
 | [],left,_,h=>by simp [roomS];omega
 | s::r,left,hs,h=>by
  have h0:=hs s (by simp)
  simp only [roomS]
  split
  ·omega
  ·have:=roomS_bd r (left - s) (fun x hx=>hs x (by simp [hx])) (by omega)
   omega
def nAt (l:List Int) (i:Nat):Int:=l.getD i 0
set_option maxRecDepth 100000 in
set_option maxHeartbeats 1000000 in
theorem room_calls (a:Option Addr) (n cap:Nat) (left:Int) (w:World) (l:List Int) (h:RdI .i64 w a n l) (hs:∀ s ∈ l,0≤s) (h0:-1≤left) (h1:left≤4611686018427387904) :
  Calls Tryz.prog 29 #[.int .i64 left,.slice a n cap] w fun e w'=>e=.returned (.int .i64 (roomS left l))∧w=w':=by
 have H:=Lib.hid h
 have hm:=h.2.1
 have HS:=Lib.hid hs
 clear h hs
 go_enter Tryz.func29,Tryz.ntmps29
 go_wp2
 go_loop [0,5] (fun q i=>∃ (k:Nat) (lf:Int),k≤n∧i=.int .i64 k∧q=.int .i64 lf∧-1≤lf∧lf≤4611686018427387904∧roomS lf (l.drop k)=roomS left l) (fun _ i=>n - (intOf i).toNat)
 case atStart=>exact ⟨0,left,by omega,rfl,rfl,h0,h1,rfl⟩
 case round=>
  obtain ⟨k,lf,hk,rfl,rfl,b0,b1,hr⟩:=hrel
  have HR:=Lib.hid hr
  clear hr
  by_cases hlt:k < n
  ·obtain ⟨b,o,rfl,d⟩:∃ b o,a=some ⟨b,o,none⟩∧w.cell? ⟨b,o+k,none⟩=some (.int .i64 (nAt l k)):=H.out.2.2.2 k hlt
   have hl:k < l.length:=by rw [H.out.1];exact hlt
   have hd:Hid (roomS lf (l.drop k)=if lf < 0∨lf < nAt l k then -1 else roomS (lf - nAt l k) (l.drop (k+1))):=by
    show roomS lf (l.drop k)=_
    rw [drop_getD l 0 k hl];rfl
   have hn:0≤nAt l k:=HS.out _ (by unfold nAt;rw [List.getD_eq_getElem?_getD,List.getElem?_eq_getElem hl];exact List.getElem_mem hl)
   clear hl
   generalize nAt l k=s at d hd hn
   by_cases hx:lf < 0
   ·have hf:=Lib.hid (HR.out.symm.trans (hd.out.trans (if_pos (Or.inl hx))))
    go_wp2
    go_ret
    exact ⟨by rw [hf.out];rfl,rfl⟩
   ·by_cases hy:lf < s
    ·have hf:=Lib.hid (HR.out.symm.trans (hd.out.trans (if_pos (Or.inr hy))))
     go_wp2
     go_ret
     exact ⟨by rw [hf.out];rfl,rfl⟩
    ·have hf:=Lib.hid ((hd.out.trans (if_neg (by omega))).symm.trans HR.out)
     go_wp2
     go_round
     case rel=>exact ⟨k+1,lf - s,by omega,by simp,by simp,by omega,by omega,hf.out⟩
     case measure=>simp [intOf];omega
  ·have hf:Hid (roomS left l=lf):=by
    have:=HR.out
    rw [List.drop_of_length_le (by rw [H.out.1];omega)] at this
    exact this.symm
   go_wp2
   go_ret
   exact ⟨by rw [hf.out];rfl,rfl⟩
mutual
def bookT:Int→T→Int
 | left,.mk _ _ _ _ text more _ bs kids=>bookF (roomS left [2,text.size,more.size,bs.length]) kids
def bookF:Int→F→Int
 | left,.nil=>left
 | left,.cons n t r=>if left < 0 then left else bookF (bookT (roomS left [(n.size:Int)]) t) r
end
mutual
theorem bookT_bd:∀ (t:T) (left:Int),-1≤left→-1≤bookT left t∧bookT left t≤left
 | .mk _ _ _ _ text more _ bs kids,left,h=>by
  have h1:=roomS_bd [2,text.size,more.size,bs.length] left (by simp) h
  have h2:=bookF_bd kids _ h1.1
  simp only [bookT]
  omega
theorem bookF_bd:∀ (f:F) (left:Int),-1≤left→-1≤bookF left f∧bookF left f≤left
 | .nil,left,h=>by simp [bookF];omega
 | .cons n t r,left,h=>by
  simp only [bookF]
  split
  ·omega
  ·have h1:=roomS_bd [(n.size:Int)] left (by simp) h
   have h2:=bookT_bd t _ h1.1
   have h3:=bookF_bd r _ h2.1
   omega
end
def F.drop:Nat→F→F
 | 0,f=>f
 | _+1,.nil=>.nil
 | k+1,.cons _ _ r=>r.drop k
theorem F.drop_get:∀ (f:F) (k:Nat) (n:ByteArray) (t:T),f.get? k=some (n,t)→f.drop k=.cons n t (f.drop (k+1))
 | .nil,k,n,t,h=>by simp [F.get?] at h
 | .cons n' t' r,0,n,t,h=>by
  simp only [F.get?,Option.some.injEq,Prod.mk.injEq] at h
  obtain ⟨rfl,rfl⟩:=h
  simp [F.drop]
 | .cons n' t' r,k+1,n,t,h=>F.drop_get r k n t h
theorem F.drop_len:∀ (f:F) (k:Nat),f.len≤k→f.drop k=.nil
 | .nil,0,_=>rfl
 | .nil,k+1,_=>rfl
 | .cons _ _ r,0,h=>by simp [F.len] at h
 | .cons _ _ r,k+1,h=>F.drop_len r k (by simp only [F.len] at h;omega)
mutual
def T.wt:T→Nat
 | .mk _ _ _ _ text more _ bs kids=>2+text.size+more.size+bs.length+kids.wt
def F.wt:F→Nat
 | .nil=>0
 | .cons n t r=>n.size+t.wt+r.wt
end
theorem roomS_sum:∀ (l:List Int) (left:Int),(∀ s ∈ l,0≤s)→0≤roomS left l→roomS left l=left - l.sum
 | [],left,_,_=>by simp [roomS]
 | s::r,left,hs,h=>by
  simp only [roomS] at h ⊢
  split at h
  ·omega
  ·rename_i hh
   rw [if_neg hh,roomS_sum r (left - s) (fun x hx=>hs x (by simp [hx])) h]
   simp;omega
mutual
theorem bookT_wt:∀ (t:T) (left:Int),0≤bookT left t→bookT left t=left - t.wt
 | .mk _ _ _ _ text more _ bs kids,left,h=>by
  simp only [bookT] at h ⊢
  have h2:=bookF_wt kids _ h
  have hr:0≤roomS left [2,text.size,more.size,bs.length]:=by omega
  have h1:=roomS_sum [2,text.size,more.size,bs.length] left (by simp) hr
  rw [h2,h1]
  simp only [T.wt,List.sum_cons,List.sum_nil]
  omega
theorem bookF_wt:∀ (f:F) (left:Int),0≤bookF left f→bookF left f=left - f.wt
 | .nil,left,h=>by simp [bookF,F.wt]
 | .cons n t r,left,h=>by
  simp only [bookF] at h ⊢
  split at h
  ·omega
  ·rename_i hh
   rw [if_neg hh]
   have h3:=bookF_wt r _ h
   have h2:=bookT_wt t (roomS left [(n.size:Int)]) (by omega)
   have h1:=roomS_sum [(n.size:Int)] left (by simp) (by omega)
   rw [h3,h2,h1]
   simp only [F.wt,List.sum_cons,List.sum_nil]
   omega
end
theorem F.wt_get:∀ (f:F) (i:Nat) (n:ByteArray) (t:T),f.get? i=some (n,t)→n.size+t.wt+(f.drop (i+1)).wt≤(f.drop i).wt∧(f.drop i).wt≤f.wt
 | .nil,i,n,t,h=>by simp [F.get?] at h
 | .cons n' t' r,0,n,t,h=>by
  simp only [F.get?,Option.some.injEq,Prod.mk.injEq] at h
  obtain ⟨rfl,rfl⟩:=h
  simp [F.drop,F.wt]
 | .cons n' t' r,i+1,n,t,h=>by
  have:=F.wt_get r i n t h
  simp only [F.drop,F.wt] at this ⊢
  omega
def ownSize (k sub:Int) (text more bs:Nat) (ks:Int):Int:=
 bif k == 1 then 8 else bif k == 9 then 8 else bif k == 17 then 8 else bif k == 18 then 8 else bif k == 16 then 4 else bif k == 8 then 1 else bif k == 19 then 16
 else bif k == 2 then text+5 else bif k == 13 then text+5 else bif k == 14 then text+5 else bif k == 11 then text+more+2
 else bif k == 5 then (bif sub == 2 then bs+9 else bs+5) else bif k == 7 then 12 else bif k == 12 then text+17
 else bif k == 3 then ks else bif k == 4 then ks else bif k == 15 then text+9+ks else 0
theorem ownSize_bd (k sub:Int) (text more bs:Nat) (ks:Int) (h:0≤ks):0≤ownSize k sub text more bs ks∧ownSize k sub text more bs ks≤17+text+more+bs+ks:=by
 unfold ownSize
 simp only [cond_eq_ite]
 (repeat' split)<;>omega
mutual
def sizeT:T→Int
 | .mk k _ _ _ text more sub bs kids=>ownSize k sub text.size more.size bs.length (5+sizeF kids)
def sizeF:F→Int
 | .nil=>0
 | .cons n t r=>(n.size+2+sizeT t)+sizeF r
end
mutual
theorem sizeT_bd:∀ (t:T),0≤sizeT t∧sizeT t+2≤12 * t.wt
 | .mk k _ _ _ text more sub bs kids=>by
  have h:=sizeF_bd kids
  have:=ownSize_bd k sub text.size more.size bs.length (5+sizeF kids) (by omega)
  simp only [sizeT,T.wt]
  omega
theorem sizeF_bd:∀ (f:F),0≤sizeF f∧sizeF f≤12 * f.wt
 | .nil=>by simp [sizeF,F.wt]
 | .cons n t r=>by
  have h1:=sizeT_bd t
  have h2:=sizeF_bd r
  have h3:2≤t.wt:=by cases t;simp only [T.wt];omega
  simp only [sizeF,F.wt]
  omega
end
theorem sizeF_get (f:F) (i:Nat) (n:ByteArray) (t:T) (h:f.get? i=some (n,t)):sizeF (f.drop i)=(n.size+2+sizeT t)+sizeF (f.drop (i+1)):=by
 rw [F.drop_get f i n t h];rfl
mutual
def checkT:T→ByteArray→List Int→Option (List Int × Nat)
 | .mk k bits hi lo text more sub bs f,nm,p=>
  if knownK k=false then some (p,5) else
  if fieldsOf k bits hi lo text more sub bs.length f.len=false then some (p,1) else
  if (textOk (k == 11) (sl text) && textOk (k == 11) (sl more) && textOk true (sl nm))=false then some (p,4) else checkF f 0 p
def checkF:F→Nat→List Int→Option (List Int × Nat)
 | .nil,_,_=>none
 | .cons n t r,i,p=>match checkT t n (p++[(i:Int)]) with
  | some e=>some e
  | none=>checkF r (i+1) p
end
def errN:Option (List Int × Nat)→Nat
 | none=>0
 | some (_,e)=>e
def errP:Option (List Int × Nat)→List Int
 | none=>[]
 | some (p,_)=>p
mutual
theorem checkT_err:∀ (t:T) (nm:ByteArray) (p q:List Int) (e:Nat),checkT t nm p=some (q,e)→e=1∨e=4∨e=5
 | .mk k bits hi lo text more sub bs f,nm,p,q,e,h=>by
  simp only [checkT] at h
  split at h
  ·simp at h;omega
  ·split at h
   ·simp at h;omega
   ·split at h
    ·simp at h;omega
    ·exact checkF_err f 0 p q e h
theorem checkF_err:∀ (f:F) (i:Nat) (p q:List Int) (e:Nat),checkF f i p=some (q,e)→e=1∨e=4∨e=5
 | .nil,i,p,q,e,h=>by simp [checkF] at h
 | .cons n t r,i,p,q,e,h=>by
  simp only [checkF] at h
  split at h
  ·rename_i x hx
   simp only [Option.some.injEq] at h
   subst h
   exact checkT_err t n _ q e hx
  ·exact checkF_err r _ p q e h
end
def orE (a b:Option (List Int × Nat)):Option (List Int × Nat):=match a with|some e=>some e|none=>b
theorem checkF_step (a:F) (j:Nat) (n:ByteArray) (t:T) (xs:List Int) (h:a.get? j=some (n,t)):checkF (a.drop j) j xs=orE (checkT t n (xs++[(j:Int)])) (checkF (a.drop (j+1)) (j+1) xs):=by
 rw [F.drop_get a j n t h];rfl
theorem checkF_end (a:F) (j:Nat) (xs:List Int) (h:a.len≤j):checkF (a.drop j) j xs=none:=by
 rw [F.drop_len a j h];rfl
theorem ownI_empty {w:World} {B g:Nat} (h:w.heap[g]?=some (.cells #[] 3 (0,0))) (hB:B≤g):OwnIZ w B (.slice (some ⟨g,0,none⟩) 0 0) []:=
 ⟨rfl,.inr ⟨g,0,#[],rfl,hB,h,Nat.le_refl _,by unfold maxLen;omega,rfl,rfl⟩⟩
set_option maxRecDepth 100000 in
set_option maxHeartbeats 2000000 in
theorem longer_calls (S:Nat→Prop) (a:Option Addr) (n c:Nat) (p:List Int) (hn:p.length=n) (hc:a=none→c=0) (hb:n≤1000000) (i:Int) (w:World) (h:RdPS S w a p) :
  Calls Tryz.prog 53 #[.slice a n c,.int .i64 i] w fun e w'=>∃ v,e=.returned v∧OwnIZ w' w.heap.size v (p++[i])∧Below w.heap.size w w':=by
 subst hn
 have HSR:=Lib.hid ((h.keep (KeepS.below ((Below.refl _ _).alloc (Nat.le_refl _) (.cells #[] 3)))).src hc)
 have HE:Hid (OwnIZ (w.alloc (.cells #[] 3)) w.heap.size (.slice (some ⟨w.heap.size,0,none⟩) 0 0) []):=ownI_empty (heap_alloc_new w _) (Nat.le_refl _)
 clear h hc
 obtain ⟨m,hm⟩:∃ m,m=p.length:=⟨_,rfl⟩
 rw [← hm] at HSR hb ⊢
 go_enter Tryz.func53,Tryz.ntmps53
 go_wp2_with (at_builtin;refine wpList_appIZ (v:=.slice (some ⟨w.heap.size,0,none⟩) 0 0) (xs:=[]) (sv:=.slice a m c) (l:=p) (B:=w.heap.size) (by rfl) _ _ (by rfl) (by rfl) HE.out (by rfl) (by rw [← hm];exact HSR.out) ?o3 ?o4 ?_)
 case o3=>rw [← hm];simp;omega
 case o4=>simp
 intro v1 w1 ho1 ha1
 have ho1:OwnIZ w1 w.heap.size v1 p:=ho1
 have HB1:Hid (Below w.heap.size w w1):=ha1.below ((Below.refl _ _).alloc (Nat.le_refl _) _) (by simp) (fun k hk=>by have:=Option.some.inj (show some w.heap.size=some k from hk);omega)
 have HO1:=Lib.hid ho1
 obtain ⟨a1,c1,rfl,-⟩:=ho1.rd
 rw [← hm] at HO1 ⊢
 have HM:=Lib.hid hm
 clear ho1 ha1 HSR HE hm
 go_wp2_with (at_builtin;refine wpList_appIZ (v:=.slice a1 m c1) (xs:=p) (sv:=.slice (some ⟨w1.heap.size,0,none⟩) 1 1) (l:=[i]) (B:=w.heap.size) (by rfl) _ _ (by rfl) (by rfl) (owns_keep HO1.out ((Below.refl _ _).alloc (Nat.le_refl _) _)) (by rfl) (src_int _ _ _) ?o5 ?o6 ?_)
 case o5=>rw [← HM.out];simp;omega
 case o6=>have:=HB1.out.size;simp;omega
 intro v2 w2 ho2 ha2
 have HB2:Hid (Below w.heap.size w w2):=ha2.below (HB1.out.alloc HB1.out.size _) (by have:=HB1.out.size;simp;omega) (fun k hk=>(owns_lt HO1.out k hk).1)
 have HO2:=Lib.hid ho2
 clear ho2 ha2
 go_wp2_with fail
 go_ret
 exact ⟨_,rfl,HO2.out,HB2.out⟩
theorem longer_at (S:Nat→Prop) {a:Option Addr} {n c:Nat} {p:List Int} (hn:p.length=n) (hc:a=none→c=0) (hb:n≤1000000) (i:Int) {wr W:World} (hW:Below wr.heap.size wr W) (h:RdPS S wr a p) :
  Calls Tryz.prog 53 #[.slice a n c,.int .i64 i] W fun e w'=>∃ a5 c5,e=.returned (.slice a5 (n+1) c5)∧RdPS (fun k=>wr.heap.size≤k∧k < w'.heap.size) w' a5 (p++[i])∧(a5=none→c5=0)∧n+1≤c5∧Below wr.heap.size wr w':=by
 refine (longer_calls S a n c p hn hc hb i W (h.keep (KeepS.below hW))).mono ?_
 rintro e w' ⟨v,rfl,ho,hbl⟩
 have hl:=fun k hk=>owns_lt ho k hk
 obtain ⟨a5,c5,rfl,hr,hc5,hle,-⟩:=ho.rd
 have e1:(p++[i]).length=n+1:=by simp [hn]
 rw [e1] at hle hr hl ⊢
 exact ⟨a5,c5,rfl,hr.imp fun k _ hk=>⟨Nat.le_trans hW.size (hl k hk).1,(hl k hk).2⟩,hc5,hle,hW.trans (hbl.mono hW.size)⟩
theorem rdps_nil (S:Nat→Prop) (w:World):RdPS S w none []:=⟨fun i hi=>absurd hi (by simp),fun h=>absurd h (by simp)⟩
theorem checkT_own (k bits hi lo text more sub bs f) (nm:ByteArray) (p:List Int):checkT (.mk k bits hi lo text more sub bs f) nm p=if ownEZ k bits hi lo text more sub bs.length f.len≠0 then some (p,ownEZ k bits hi lo text more sub bs.length f.len) else if textOk true (sl nm)=false then some (p,4) else checkF f 0 p:=by
 simp only [checkT,ownEZ,fields_two]
 by_cases h1:knownK k=false
 ·simp [h1]
 have h1:knownK k=true:=by simpa using h1
 by_cases h2:zerosOf k bits hi lo text more sub bs.length f.len=false
 ·simp [h1,h2]
 have h2:zerosOf k bits hi lo text more sub bs.length f.len=true:=by simpa using h2
 by_cases h3:ok2 k bits sub bs.length=false
 ·simp [h1,h2,h3]
 have h3:ok2 k bits sub bs.length=true:=by simpa using h3
 simp only [h1,h2,h3]
 generalize textOk (k == 11) (sl text)=x
 generalize textOk (k == 11) (sl more)=y
 generalize textOk true (sl nm)=z
 cases x<;>cases y<;>cases z<;>simp
def RChkSaidZ (d:Nat):Prop:=∀ t:T,t.wt≤d→∀ (nm:ByteArray),nm.size≤1000000→∀ (Sp:Nat→Prop) (w:World) (c:Array Value) (a:Option Addr) (n cp:Nat) (p:List Int),RdT w t c→RdPS Sp w a p→p.length=n→(a=none→cp=0)→n≤cp→n+t.wt≤1000000 →
 Calls Tryz.prog 30 #[.agg c,.string nm,.slice a n cp] w fun e w'=>∃ a' n' c',e=.returned (.tuple #[.slice a' n' c',.int .i64 (errN (checkT t nm p):Nat)])∧n'=(errP (checkT t nm p)).length∧n'≤9223372036854775807∧RdPS (fun q=>Sp q∨w.heap.size≤q) w' a' (errP (checkT t nm p))∧(a'=none→c'=0)∧Below w.heap.size w w'
theorem rchk_at {d:Nat} (hof:RChkSaidZ d) {t:T} (hd:t.wt≤d) {nm:ByteArray} (hnm:nm.size≤1000000) {wr w5:World} {c:Array Value} {a:Option Addr} {n cp:Nat} {p:List Int} {R:Option (List Int × Nat)} (hR:R=checkT t nm p) (h:RdT wr t c) (hB:Below wr.heap.size wr w5) (hp:RdPS (fun k=>wr.heap.size≤k∧k < w5.heap.size) w5 a p) (hn:p.length=n) (hc:a=none→cp=0) (hcp:n≤cp) (hb:n+t.wt≤1000000) :
  Calls Tryz.prog 30 #[.agg c,.string nm,.slice a n cp] w5 fun e w'=>∃ a' n' c',e=.returned (.tuple #[.slice a' n' c',.int .i64 (errN R:Nat)])∧n'=(errP R).length∧n'≤9223372036854775807∧RdPS (fun q=>wr.heap.size≤q) w' a' (errP R)∧(a'=none→c'=0)∧Below wr.heap.size wr w':=by
 subst hR
 refine (hof t hd nm hnm _ w5 c a n cp p (h.keep hB) hp hn hc hcp hb).mono ?_
 rintro e w' ⟨a',n',c',h1,h2,h3,h4,h5,hbl⟩
 exact ⟨a',n',c',h1,h2,h3,h4.imp (fun q _ hq=>by rcases hq with hq|hq;exact hq.1;exact Nat.le_trans hB.size hq),h5,hB.trans (hbl.mono hB.size)⟩
def RChkRel (w:World) (kids:F) (c:Array Value) (r:Option (List Int × Nat)) (p:List Int) (i:Value) (wr:World):Prop:=
 ∃ (j:Nat),i=.int .i64 j∧j≤kids.len∧Hid (r=checkF (kids.drop j) j p)∧BoxV wr w.heap.size c∧Below w.heap.size w wr
set_option maxRecDepth 100000 in
set_option maxHeartbeats 16000000 in
theorem rchk_stepZZ (d:Nat) (hof:RChkSaidZ d):RChkSaidZ (d+1):=by
 intro t hd nm hnm Sp w c a n0 cp p h hp hn hcp hncp hxl
 obtain ⟨k,bits,hi,lo,text,more,sub,bs,kids⟩:=t
 have hwt:T.wt (.mk k bits hi lo text more sub bs kids)=2+text.size+more.size+bs.length+kids.wt:=by simp only [T.wt]
 rw [hwt] at hd hxl
 obtain ⟨ab,nb,cb,ak,nk,ck,rfl,-,hrb,hkl,hnk,hks⟩:=h
 have hbl:bs.length=nb:=hrb.1
 obtain ⟨R,hR⟩:∃ R,R=checkT (.mk k bits hi lo text more sub bs kids) nm p:=⟨_,rfl⟩
 rw [← hR]
 have hRR:R=(if ownEZ k bits hi lo text more sub nb nk≠0 then some (p,ownEZ k bits hi lo text more sub nb nk) else if textOk true (sl nm)=false then some (p,4) else checkF (kids.drop 0) 0 p):=by
  rw [hR,checkT_own,hbl,hkl];rfl
 have CO:=Lib.hid (fun W=>rown_calls W k bits hi lo text more sub ab nb cb ak nk ck (by omega) (by omega))
 have C3:=Lib.hid (fun W=>named_calls nm W (by omega))
 obtain ⟨E,hE⟩:∃ E,E=ownEZ k bits hi lo text more sub nb nk:=⟨_,rfl⟩
 obtain ⟨o3,ho3⟩:∃ x,x=textOk true (sl nm):=⟨_,rfl⟩
 rw [← hE] at CO hRR
 rw [← ho3] at C3 hRR
 have HRR:=Lib.hid hRR
 have HOF:=Lib.hid hof
 have HKS:=Lib.hid hks
 have HKL:=Lib.hid hkl
 have HP:=Lib.hid hp
 have HN:=Lib.hid hn
 have HCP:=Lib.hid hcp
 have HNCP:=Lib.hid hncp
 have hn63:n0≤1000000:=by omega
 have hnk9:=hnk.1
 have HB0:Hid (Below w.heap.size w (w.alloc (.cells (valCells k bits hi lo text more sub ab nb cb ak nk ck) 26))):=(Below.refl _ _).alloc (Nat.le_refl _) _
 have HX0:Hid (BoxV (w.alloc (.cells (valCells k bits hi lo text more sub ab nb cb ak nk ck) 26)) w.heap.size (valCells k bits hi lo text more sub ab nb cb ak nk ck)):=BoxV.new _ _ _
 clear hof hks hkl hp hn hcp hncp hwt hnk hR hRR hE ho3 hrb hbl
 obtain ⟨f0,f1,f2,f3,f4,f5,f6,f7,f8,l0⟩:=HX0.out.nine
 by_cases hE0:E=0
 case neg=>
  have HR:Hid (R=some (p,E)):=by show _=_;rw [HRR.out,if_pos hE0]
  have e1:((E:Int) == 0)=false:=by simpa using hE0
  have e2:((E:Int) != 0)=true:=by simpa using hE0
  clear HRR
  go_enter Tryz.func30,Tryz.ntmps30
  go_wp2_with fail
  refine (CO.out _).mono ?_
  rintro e w1 ⟨rfl,hb1⟩
  have HB1:Hid (Below w.heap.size w w1):=HB0.out.trans (hb1.mono HB0.out.size)
  have HX1:=Lib.hid (HX0.out.keep hb1)
  clear hb1 f0 f1 f2 f3 f4 f5 f6 f7 f8 l0
  obtain ⟨f0,f1,f2,f3,f4,f5,f6,f7,f8,l0⟩:=HX1.out.nine
  go_wp2_with fail
  go_ret2
  exact ⟨a,n0,cp,by rw [HR.out];rfl,by rw [HR.out];exact HN.out.symm,by omega,by rw [HR.out];exact (HP.out.keep (KeepS.below HB1.out)).imp (fun _ _ hq=>.inl hq),HCP.out,HB1.out⟩
 subst hE0
 cases o3 with
 | false=>
  have HR:Hid (R=some (p,4)):=by show _=_;rw [HRR.out];rfl
  clear HRR
  go_enter Tryz.func30,Tryz.ntmps30
  go_wp2_with fail
  refine (CO.out _).mono ?_
  rintro e w1 ⟨rfl,hb1⟩
  have HB1:Hid (Below w.heap.size w w1):=HB0.out.trans (hb1.mono HB0.out.size)
  have HX1:=Lib.hid (HX0.out.keep hb1)
  clear hb1 f0 f1 f2 f3 f4 f5 f6 f7 f8 l0
  obtain ⟨f0,f1,f2,f3,f4,f5,f6,f7,f8,l0⟩:=HX1.out.nine
  go_wp2_with fail
  refine (C3.out _).mono ?_
  rintro e w2 ⟨rfl,hb2⟩
  have HB2:Hid (Below w.heap.size w w2):=HB1.out.trans (hb2.mono HB1.out.size)
  have HX2:=Lib.hid (HX1.out.keep hb2)
  clear hb2 f0 f1 f2 f3 f4 f5 f6 f7 f8 l0
  obtain ⟨f0,f1,f2,f3,f4,f5,f6,f7,f8,l0⟩:=HX2.out.nine
  go_wp2_with fail
  go_ret2
  exact ⟨a,n0,cp,by rw [HR.out];rfl,by rw [HR.out];exact HN.out.symm,by omega,by rw [HR.out];exact (HP.out.keep (KeepS.below HB2.out)).imp (fun _ _ hq=>.inl hq),HCP.out,HB2.out⟩
 | true=>
 have HG:Hid (R=checkF (kids.drop 0) 0 p):=by show _=_;rw [HRR.out];rfl
 clear HRR
 go_enter Tryz.func30,Tryz.ntmps30
 go_wp2_with fail
 refine (CO.out _).mono ?_
 rintro e w1 ⟨rfl,hb1⟩
 have HB1:Hid (Below w.heap.size w w1):=HB0.out.trans (hb1.mono HB0.out.size)
 have HX1:=Lib.hid (HX0.out.keep hb1)
 clear hb1 f0 f1 f2 f3 f4 f5 f6 f7 f8 l0
 obtain ⟨f0,f1,f2,f3,f4,f5,f6,f7,f8,l0⟩:=HX1.out.nine
 go_wp2_with fail
 refine (C3.out _).mono ?_
 rintro e w2 ⟨rfl,hb2⟩
 have HB2:Hid (Below w.heap.size w w2):=HB1.out.trans (hb2.mono HB1.out.size)
 have HX2:=Lib.hid (HX1.out.keep hb2)
 clear hb2 f0 f1 f2 f3 f4 f5 f6 f7 f8 l0
 obtain ⟨f0,f1,f2,f3,f4,f5,f6,f7,f8,l0⟩:=HX2.out.nine
 go_wp2_with fail
 go_loopw [9] (fun i wr=>RChkRel w kids (valCells k bits hi lo text more sub ab nb cb ak nk ck) R p i wr) (fun i _=>nk - (intOf i).toNat)
 case atStart=>exact ⟨0,rfl,Nat.zero_le _,HG,HX2.out,HB2.out⟩
 case round=>
  obtain ⟨j,rfl,hj,HGG,hbx,hbw⟩:=hrel
  rw [HKL.out] at hj
  have HBX:=Lib.hid hbx
  have HBW:=Lib.hid hbw
  have hz:w.heap.size < wr.heap.size:=hbx.1
  clear hbx hbw HX0 HX1 HX2 HB1 HB2 f0 f1 f2 f3 f4 f5 f6 f7 f8 l0
  have c8:wr.cell? ⟨w.heap.size,8,none⟩=some (.slice ak nk ck):=(HBX.out.2 8 (by omega)).1
  by_cases hlt:j < nk
  ·obtain ⟨⟨n,tt⟩,hx⟩:=F.get_some kids j (by rw [HKL.out];exact hlt)
   have hwg:=F.wt_get kids j n tt hx
   have hst:=checkF_step kids j n tt p hx
   obtain ⟨b,o,k',bits',hi',lo',text',more',sub',bs',kids',ab',nb',cb',ak',nk',ck',rfl,rfl,e1,e2,e3,g0,g1,g2,g3,g4,g5,g6,g7,g8,g9⟩:=((HKS.out.keep HBW.out).at hx).cells
   have E3:=Lib.hid e3
   have hj0:(0:Int)≤(j:Int):=by omega
   have hj1:(j:Int) < (nk:Int):=by omega
   have hw1:(T.mk k' bits' hi' lo' text' more' sub' bs' kids').wt≤d:=by omega
   have hnn:n.size≤1000000:=by omega
   have hn2:n0+1+(T.mk k' bits' hi' lo' text' more' sub' bs' kids').wt≤1000000:=by omega
   obtain ⟨R6,hR6⟩:∃ R6,R6=checkT (T.mk k' bits' hi' lo' text' more' sub' bs' kids') n (p++[(j:Int)]):=⟨_,rfl⟩
   rw [← hR6] at hst
   have HGN:Hid (R=orE R6 (checkF (kids.drop (j+1)) (j+1) p)):=HGG.out.trans hst
   have HR6:=Lib.hid hR6
   have HE:Hid (∀ q e,R6=some (q,e)→e=1∨e=4∨e=5):=by
    show ∀ q e,_
    intro q e h6
    exact checkT_err _ _ _ q e (hR6.symm.trans h6)
   have HSS:Hid (∀ W,Below wr.heap.size wr W→Hid (Below wr.heap.size wr W)∧W.cell? ⟨w.heap.size,8,none⟩=some (.slice (some ⟨b,o,none⟩) nk ck)∧W.cell? ⟨b,o+j * 10,none⟩=some (.string n)∧W.cell? ⟨b,o+j * 10+1,none⟩=some (.int .i64 k')∧W.cell? ⟨b,o+j * 10+2,none⟩=some (.int .u64 (bits':Nat))∧W.cell? ⟨b,o+j * 10+3,none⟩=some (.int .u64 (hi':Nat))∧W.cell? ⟨b,o+j * 10+4,none⟩=some (.int .u64 (lo':Nat))∧W.cell? ⟨b,o+j * 10+5,none⟩=some (.string text')∧W.cell? ⟨b,o+j * 10+6,none⟩=some (.string more')∧W.cell? ⟨b,o+j * 10+7,none⟩=some (.int .i64 sub')∧W.cell? ⟨b,o+j * 10+8,none⟩=some (.slice ab' nb' cb')∧W.cell? ⟨b,o+j * 10+9,none⟩=some (.slice ak' nk' ck')):=by
    show ∀ W,_
    intro W hW
    exact ⟨hW,cell_below hW c8,cell_below hW g0,cell_below hW g1,cell_below hW g2,cell_below hW g3,cell_below hW g4,cell_below hW g5,cell_below hW g6,cell_below hW g7,cell_below hW g8,cell_below hW g9⟩
   have HPW:Hid (RdPS Sp wr a p):=HP.out.keep (KeepS.below HBW.out)
   clear hx hst e3 e1 e2 hR6
   go_wp2_with fail
   go_region_held3 (fun W=>Hid (Below wr.heap.size wr W)∧W.cell? ⟨w.heap.size,8,none⟩=some (.slice (some ⟨b,o,none⟩) nk ck)∧W.cell? ⟨b,o+j * 10,none⟩=some (.string n)∧W.cell? ⟨b,o+j * 10+1,none⟩=some (.int .i64 k')∧W.cell? ⟨b,o+j * 10+2,none⟩=some (.int .u64 (bits':Nat))∧W.cell? ⟨b,o+j * 10+3,none⟩=some (.int .u64 (hi':Nat))∧W.cell? ⟨b,o+j * 10+4,none⟩=some (.int .u64 (lo':Nat))∧W.cell? ⟨b,o+j * 10+5,none⟩=some (.string text')∧W.cell? ⟨b,o+j * 10+6,none⟩=some (.string more')∧W.cell? ⟨b,o+j * 10+7,none⟩=some (.int .i64 sub')∧W.cell? ⟨b,o+j * 10+8,none⟩=some (.slice ab' nb' cb')∧W.cell? ⟨b,o+j * 10+9,none⟩=some (.slice ak' nk' ck')) (first|with_reducible exact HSS.out _ HB6.out|with_reducible exact HSS.out _ HB5.out|((with_reducible refine HSS.out _ ?_);(repeat' (first|with_reducible exact HB6.out|with_reducible exact HB5.out|with_reducible apply Below.drew|with_reducible exact Below.refl _ _));done)|fail) ((first|(go_at_call 53;with_reducible refine (longer_at Sp HN.out HCP.out hn63 j ?_ HPW.out).mono ?_;(case _=>(repeat' (first|with_reducible apply Below.drew|with_reducible exact Below.refl _ _)));rintro e w5 ⟨a5,c5,rfl,hp5,hc5,hnc5,hb5⟩;(have HREC:=Lib.hid (rchk_at HOF.out hw1 hnn HR6.out E3.out hb5 hp5 (by simp [HN.out]) hc5 hnc5 hn2));(have HB5:=Lib.hid hb5);clear hp5 hc5 hb5 hnc5)|(go_at_call 30;(with_reducible refine HREC.out.mono ?_);rintro e w6 ⟨a6,N6,c6,rfl,hN6,hl6,hp6,hc6,hb6⟩;obtain ⟨E6,hE6⟩:∃ E,E=errN R6:=⟨_,rfl⟩;rw [← hE6];(have HE6:=Lib.hid hE6);(have HP6:=Lib.hid hp6);(have HC6:=Lib.hid hc6);(have HN6:=Lib.hid hN6);(have HB6:=Lib.hid hb6);clear hp6 hb6 hN6 hE6 hc6)|fail))
   all_goals
    clear c8 g0 g1 g2 g3 g4 g5 g6 g7 g8 g9
    clear ‹Hid (Below wr.heap.size wr w6)∧_›
    have HB6w:Hid (Below w.heap.size w w6):=HBW.out.trans (HB6.out.mono HBW.out.size)
    have HBX6:=Lib.hid (HBX.out.keep HB6.out)
    cases R6 with
    | none=>
     obtain rfl:E6=0:=HE6.out
     have hG:Hid (R=checkF (kids.drop (j+1)) (j+1) p):=HGN.out
     go_wp2_with fail
     go_roundw
     case rel=>exact ⟨j+1,by simp,by rw [HKL.out];omega,hG,HBX6.out,HB6w.out⟩
     case measure=>simp [intOf];omega
    | some q6=>
     obtain ⟨q6,e6⟩:=q6
     have he6:=HE.out q6 e6 rfl
     obtain rfl:E6=e6:=HE6.out
     have hne:((E6:Int) != 0)=true:=by simp;omega
     have hG:Hid (R=some (q6,E6)):=HGN.out
     go_wp2_with fail
     go_ret2
     exact ⟨a6,N6,c6,by rw [hG.out];rfl,by rw [hG.out];exact HN6.out,hl6,by rw [hG.out];exact HP6.out.imp (fun q _ hq=>.inr (Nat.le_trans HBW.out.size hq)),HC6.out,HB6w.out⟩
  ·have hend:=HGG.out
   rw [checkF_end kids j p (by rw [HKL.out];omega)] at hend
   subst hend
   go_wp2_with fail
   go_ret2
   exact ⟨none,0,0,rfl,rfl,by omega,rdps_nil _ _,fun _=>rfl,HBW.out⟩
theorem rchk_allZZ:∀ d,RChkSaidZ d
 | 0=>fun t hd=>by cases t;simp only [T.wt] at hd;omega
 | d+1=>rchk_stepZZ d (rchk_allZZ d)
def chk (t:T):Option (List Int × Nat):=checkT t ⟨#[]⟩ []
def ChkOut (t:T) (w:World) (e:Ending) (w':World):Prop:=∃ a n c,e=.returned (.tuple #[.slice a n c,.int .i64 (errN (chk t):Nat)])∧n=(errP (chk t)).length∧n≤9223372036854775807∧RdPS (fun q=>w.heap.size≤q) w' a (errP (chk t))∧(a=none→c=0)∧Below w.heap.size w w'
set_option maxRecDepth 100000 in
set_option maxHeartbeats 2000000 in
theorem rcheck2_calls (t:T) (w:World) (c:Array Value) (h:RdT w t c) (hw:t.wt≤900000):Calls Tryz.prog 15 #[.agg c] w (ChkOut t w):=by
 obtain ⟨k,bits,hi,lo,text,more,sub,ab,nb,cb,ak,nk,ck,rfl⟩:=h.shape
 have hb:Below w.heap.size w (w.alloc (.cells (valCells k bits hi lo text more sub ab nb cb ak nk ck) 26)):=(Below.refl _ _).alloc (Nat.le_refl _) _
 have C:=Lib.hid (rchk_allZZ t.wt t (Nat.le_refl _) ⟨#[]⟩ (by decide) (fun _=>False) _ _ none 0 0 [] (h.keep hb) (rdps_nil _ _) rfl (fun _=>rfl) (Nat.le_refl _) (by omega))
 have HB:=Lib.hid hb
 clear h hw hb
 go_enter Tryz.func15,Tryz.ntmps15
 go_wp2_with fail
 refine C.out.mono ?_
 rintro e w1 ⟨a,n,cc,rfl,hn,hm,hr,hc,hbl⟩
 have HB1:Hid (Below w.heap.size w w1):=HB.out.trans (hbl.mono HB.out.size)
 have HR:=Lib.hid hr
 have HN:=Lib.hid hn
 obtain ⟨E,hE⟩:∃ E,E=errN (checkT t ⟨#[]⟩ []):=⟨_,rfl⟩
 rw [← hE]
 have HE:=Lib.hid hE
 clear hbl C hE hr hn
 go_wp2_with fail
 go_ret2
 exact ⟨a,n,cc,by unfold chk;rw [← HE.out];rfl,HN.out,hm,HR.out.imp (fun q _ hq=>by rcases hq with hq|hq;exact hq.elim;exact Nat.le_trans HB.out.size hq),hc,HB1.out⟩
def seg (l:List UInt8) (p n:Nat):List UInt8:=(l.drop p).take n
theorem seg_length (l:List UInt8) (p n:Nat) (h:p+n≤l.length):(seg l p n).length=n:=by simp [seg];omega
theorem seg_drop (l:List UInt8) (p n k:Nat) (h:p+n≤l.length) (hk:k < n):(seg l p n).drop k=l.getD (p+k) 0::(seg l p n).drop (k+1):=by
 rw [drop_getD _ 0 _ (by rw [seg_length _ _ _ h];exact hk)]
 congr 1
 simp only [seg]
 rw [getD_take _ _ _ _ hk,getD_drop]
theorem le_seg_drop (l:List UInt8) (p n k:Nat) (h:p+n≤l.length) (hk:k < n):le ((seg l p n).drop k)=bAt l (p+k)+256 * le ((seg l p n).drop (k+1)):=by
 rw [seg_drop l p n k h hk];rfl
def leBytes:Nat→Nat→List UInt8
 | 0,_=>[]
 | n+1,v=>UInt8.ofNat v::leBytes n (v / 256)
theorem leBytes_length:∀ (n v:Nat),(leBytes n v).length=n
 | 0,_=>rfl
 | n+1,v=>by simp [leBytes,leBytes_length n]
theorem leBytes_snoc:∀ (n v:Nat),leBytes (n+1) v=leBytes n v++[UInt8.ofNat (v / 256 ^ n)]
 | 0,v=>by simp [leBytes]
 | n+1,v=>by
  rw [leBytes,leBytes_snoc n (v / 256)]
  simp only [leBytes,List.cons_append,Nat.div_div_eq_div_mul,Nat.pow_succ]
  rw [Nat.mul_comm 256]
theorem le_leBytes:∀ (n v:Nat),le (leBytes n v)=v % 256 ^ n
 | 0,v=>by simp [leBytes,le];omega
 | n+1,v=>by
  simp only [leBytes,le,le_leBytes n]
  have h:(UInt8.ofNat v).toNat=v % 256:=by simp
  rw [h,Nat.pow_succ,Nat.mul_comm (256 ^ n) 256,Nat.mod_mul]
def putLowS (v:Nat) (n:Int):List UInt8:=if 1≤n∧n≤8 then leBytes n.toNat v else []
def BytesPost (w:World) (bs:List UInt8) (e:Ending) (w':World):Prop:=
 ∃ v,e=.returned v∧OwnB w' w.heap.size v bs∧Below w.heap.size w w'
theorem own_snoc {w:World} {B:Nat} {v:Value} {bs:List UInt8} {x:Nat} (hx:x < 256) (h:w.ownsRow B 5 1 v (bs.length+1) (byteCells bs++[.int .u8 (x:Nat)])):OwnB w B v (bs++[UInt8.ofNat x]):=by
 have e:byteCells (bs++[UInt8.ofNat x])=byteCells bs++[.int .u8 (x:Nat)]:=by
  rw [byteCells_append]
  simp [byteCells]
  omega
 unfold OwnB
 rw [e,List.length_append]
 exact h
theorem div_step (v k:Nat):v / 256 ^ k / 256=v / 256 ^ (k+1):=by rw [Nat.div_div_eq_div_mul,Nat.pow_succ]
def PutRel (w:World) (v0:Nat) (n:Nat) (q o i:Value) (wr:World):Prop:=
 ∃ k:Nat,k≤n∧i=.int .i64 k∧q=.int .u64 (v0 / 256 ^ k:Nat)∧OwnB wr w.heap.size o (leBytes k v0)∧Below w.heap.size w wr
theorem put_next {w wr w1:World} {o o':Value} {v0 n k:Nat} {ob:Obj} (hk:k < n)
  (ho:OwnB wr w.heap.size o (leBytes k v0)) (hb:Below w.heap.size w wr) (hg:(wr.alloc ob).grownBy w1 o.ownBlock)
  (ho':w1.ownsRow w.heap.size 5 1 o' (k+1) (byteCells (leBytes k v0)++[.int .u8 (v0 / 256 ^ k % 256:Nat)])) :
  PutRel w v0 n (.int .u64 (v0 / 256 ^ (k+1):Nat)) o' (.int .i64 ((k+1:Nat):Int)) w1:=by
 refine ⟨k+1,by omega,rfl,rfl,?_,?_⟩
 ·rw [leBytes_snoc]
  have:UInt8.ofNat (v0 / 256 ^ k)=UInt8.ofNat (v0 / 256 ^ k % 256):=by apply UInt8.toNat_inj.1;simp
  rw [this]
  refine own_snoc (Nat.mod_lt _ (by omega)) ?_
  rw [leBytes_length]
  exact ho'
 ·exact (hb.alloc hb.size ob).grown hg (by have:=hb.size;simp;omega) fun x hx=>((World.ownsRow.alloc ho ob).lt x hx).1
set_option maxRecDepth 100000 in
set_option maxHeartbeats 1000000 in
theorem putLow_yes (v n:Nat) (hv:v < okSize) (h1:1≤n) (h8:n≤8) (w:World) :
  Calls Tryz.prog 32 #[.int .u64 (v:Nat),.int .i64 n] w (BytesPost w (leBytes n v)):=by
 obtain ⟨i0,hi,hz0,hz1,hz2⟩:=info_parts infoU8
 have HI:=Lib.hid hi
 have HV:=Lib.hid hv
 clear hi hv
 go_enter Tryz.func32,Tryz.ntmps32
 go_wp2_with fail
 go_loopw [0,5,6] (fun q o i wr=>PutRel w v n q o i wr) (fun _ _ i _=>n - (intOf i).toNat)
 case atStart=>exact ⟨0,by omega,rfl,by simp,World.ownsRow_nil _ _ _ _,Below.refl _ _⟩
 case round=>
  obtain ⟨k,hk,rfl,rfl,hown,hbl⟩:=hrel
  have HO:=Lib.hid hown
  have HB:=Lib.hid hbl
  have hsz:=hbl.size
  clear hown hbl
  by_cases hlt:k < n
  ·have hx:Hid (v / 256 ^ k < okSize):=Nat.lt_of_le_of_lt (Nat.div_le_self _ _) HV.out
   have HD:=Lib.hid (div_step v k)
   generalize hu:v / 256 ^ k=u at hx HD
   obtain ⟨x,hxe⟩:∃ x:Nat,x=u % 256:=⟨_,rfl⟩
   have hu8:IntKind.u8.wrap (u:Int)=(x:Int):=by rw [IntKind.wrap_u8'];omega
   have HU:=Lib.hid hu
   have HX:=Lib.hid hxe
   clear hu hxe
   go_wp2_with (at_builtin;refine wpList_append_own _ rfl _ _ 23 rfl w.heap.size 5 i0 (.int .u8 0) 1 1 Tryz.underlying23 HI.out hz0 hz1 hz2 rfl (by decide) _ k (byteCells (leBytes k v)) rfl ?own ⟨wr.heap.size,0,none⟩ 1 1 [.int .u8 (x:Nat)] rfl rfl (cell_one_new _ _ _) ?c2 ?c3 ?c4 ?c5 ?_)
   case own=>exact World.ownsRow.alloc (by have:=HO.out;unfold OwnB at this;rwa [leBytes_length] at this) _
   case c2=>simp [Value.oneCell']
   case c3=>unfold maxLen;omega
   case c4=>omega
   case c5=>simp;omega
   intro v' w1 hown' hgrow _
   have HO':=Lib.hid hown'
   have HG:=Lib.hid hgrow
   clear hown' hgrow
   go_wp2_with fail
   go_roundw
   case rel=>
    have e1:IntKind.u64.wrap ((u:Int) / 256)=((v / 256 ^ (k+1):Nat):Int):=by
     rw [← HD.out,wrap_u64_of (by omega) (by have:=hx.out;unfold okSize at this;omega)];omega
    rw [e1,show (k:Int)+1=((k+1:Nat):Int) from rfl]
    exact put_next hlt HO.out HB.out HG.out (by rw [HU.out,← HX.out];exact HO'.out)
   case measure=>simp [intOf];omega
  ·obtain rfl:k=n:=by omega
   go_wp2_with fail
   go_ret
   exact ⟨_,rfl,HO.out,HB.out⟩
set_option maxRecDepth 100000 in
set_option maxHeartbeats 1000000 in
theorem putLow_no (v:Nat) (n:Int) (h:n < 1∨8 < n) (w:World) :
  Calls Tryz.prog 32 #[.int .u64 (v:Nat),.int .i64 n] w fun e w'=>e=.returned (.slice none 0 0)∧w=w':=by
 rcases h with h|h
 ·go_enter Tryz.func32,Tryz.ntmps32
  go_wp2_with fail
  refine wp_loop_once ?_
  go_wp2_with fail
  go_ret
  exact ⟨rfl,rfl⟩
 ·have h':¬ n≤8:=by omega
  have h0:0 < n:=by omega
  go_enter Tryz.func32,Tryz.ntmps32
  go_wp2_with fail
  refine wp_loop_once ?_
  go_wp2_with fail
  go_ret
  exact ⟨rfl,rfl⟩
theorem putLow_calls (v:Nat) (n:Int) (hv:v < okSize) (w:World) :
  Calls Tryz.prog 32 #[.int .u64 (v:Nat),.int .i64 n] w (BytesPost w (putLowS v n)):=by
 unfold putLowS
 by_cases h:1≤n∧n≤8
 ·rw [if_pos h]
  have:=putLow_yes v n.toNat hv (by omega) (by omega) w
  rwa [Int.toNat_of_nonneg (by omega)] at this
 ·rw [if_neg h]
  refine (putLow_no v n (by omega) w).mono ?_
  rintro e w' ⟨rfl,rfl⟩
  exact ⟨_,rfl,World.ownsRow_nil _ _ _ _,Below.refl _ _⟩
def be (l:List UInt8):Nat:=le l.reverse
def putHighS (v:Nat) (n:Int):List UInt8:=(putLowS v n).reverse
def PHRel (w:World) (bs:List UInt8) (o i:Value) (wr:World):Prop:=
 ∃ k:Nat,k≤bs.length∧i=.int .i64 ((k:Int) - 1)∧OwnB wr w.heap.size o (bs.drop k).reverse∧Below w.heap.size w wr
theorem ph_next {w wr w1:World} {o o':Value} {bs:List UInt8} {k:Nat} {ob:Obj} (hk:k≤bs.length) (h0:0 < k)
  (ho:OwnB wr w.heap.size o (bs.drop k).reverse) (hb:Below w.heap.size w wr) (hg:(wr.alloc ob).grownBy w1 o.ownBlock)
  (ho':w1.ownsRow w.heap.size 5 1 o' (bs.length - k+1) (byteCells (bs.drop k).reverse++[.int .u8 (bAt bs (k - 1):Nat)])) :
  PHRel w bs o' (.int .i64 ((k:Int) - 1 - 1)) w1:=by
 refine ⟨k - 1,by omega,by rw [show ((k - 1:Nat):Int)=(k:Int) - 1 from by omega],?_,?_⟩
 ·have e:(bs.drop (k - 1)).reverse=(bs.drop k).reverse++[UInt8.ofNat (bAt bs (k - 1))]:=by
   rw [drop_getD bs 0 (k - 1) (by omega),List.reverse_cons,show k - 1+1=k from by omega]
   congr 2
   apply UInt8.toNat_inj.1
   simp [bAt]
  rw [e]
  exact own_snoc (bAt_lt _ _) (by rw [List.length_reverse,List.length_drop];exact ho')
 ·exact (hb.alloc hb.size ob).grown hg (by have:=hb.size;simp;omega) fun x hx=>((World.ownsRow.alloc ho ob).lt x hx).1
set_option maxRecDepth 100000 in
set_option maxHeartbeats 1000000 in
theorem putHigh_calls (v:Nat) (n:Int) (hv:v < okSize) (w:World) :
  Calls Tryz.prog 40 #[.int .u64 (v:Nat),.int .i64 n] w (BytesPost w (putHighS v n)):=by
 obtain ⟨i0,hi,hz0,hz1,hz2⟩:=info_parts infoU8
 have HI:=Lib.hid hi
 have C:=Lib.hid (putLow_calls v n hv w)
 clear hi hv
 unfold putHighS
 have hl8:(putLowS v n).length≤8:=by unfold putLowS;split<;>simp [leBytes_length];omega
 generalize putLowS v n=bs at C hl8
 go_enter Tryz.func40,Tryz.ntmps40
 go_wp2_with fail
 refine C.out.mono ?_
 rintro e w1 ⟨v1,rfl,hown,hb⟩
 have HO:=Lib.hid hown
 have HB:=Lib.hid hb
 have hsz:=hb.size
 obtain ⟨a1,cap1,hve,hrd⟩:=hown.reads
 rw [hve]
 have HR:=Lib.hid hrd
 clear hb hrd hve hown HO
 go_wp2_with fail
 go_loopw [6,7] (fun o i wr=>PHRel w1 bs o i wr) (fun _ i _=>(intOf i+1).toNat)
 case atStart=>exact ⟨bs.length,Nat.le_refl _,rfl,by rw [List.drop_length];exact World.ownsRow_nil _ _ _ _,Below.refl _ _⟩
 case round=>
  obtain ⟨k,hk,rfl,hown,hbl⟩:=hrel
  have HO:=Lib.hid hown
  have HBL:=Lib.hid hbl
  have hs2:=hbl.size
  have HRW:=Lib.hid (HR.out.keep hbl)
  have hlen:(bs.drop k).reverse.length≤8:=by simp;omega
  clear hown hbl
  by_cases h0:0 < k
  ·obtain ⟨b,o,rfl,hcc⟩:=HRW.out.at (k - 1) (by omega)
   have hk1:((k:Int) - 1).toNat=k - 1:=by omega
   go_wp2_with (at_builtin;refine wpList_append_own _ rfl _ _ 23 rfl w1.heap.size 5 i0 (.int .u8 0) 1 1 Tryz.underlying23 HI.out hz0 hz1 hz2 rfl (by decide) _ _ (byteCells (bs.drop k).reverse) rfl (World.ownsRow.alloc HO.out _) ⟨wr.heap.size,0,none⟩ 1 1 [.int .u8 (bAt bs (k - 1):Nat)] rfl rfl (cell_one_new _ _ _) ?c2 ?c3 ?c4 ?c5 ?_)
   case c2=>simp [Value.oneCell']
   case c3=>unfold maxLen;omega
   case c4=>omega
   case c5=>simp;omega
   intro v' w2 hown' hgrow _
   have HO':=Lib.hid hown'
   have HG:=Lib.hid hgrow
   clear hown' hgrow
   go_wp2_with fail
   go_roundw
   case rel=>exact ph_next hk h0 HO.out HBL.out HG.out HO'.out
   case measure=>simp [intOf];omega
  ·obtain rfl:k=0:=by omega
   go_wp2_with fail
   go_ret
   exact ⟨_,rfl,HO.out.weaken hsz,HB.out.trans (HBL.out.mono hsz)⟩
def textB (s:ByteArray):List UInt8:=leBytes 4 (s.size+1)++sl s++[0]
def docOf (l:List UInt8):List UInt8:=leBytes 4 (l.length+5)++l++[0]
def scopeOf (l:List UInt8):List UInt8:=leBytes 4 (l.length+4)++l
def kindB (k:Int):UInt8:=UInt8.ofNat (k % 256).toNat
def binB (sub:Int) (bs:List UInt8):List UInt8:=(if sub == 2 then leBytes 4 (bs.length+4)++[kindB sub]++leBytes 4 bs.length else leBytes 4 bs.length++[kindB sub])++bs
mutual
def valB:T→List UInt8
 | .mk k bits hi lo text more sub bs f=>
  if k == 1 || k == 9 || k == 17 || k == 18 then leBytes 8 bits else
  if k == 16 then leBytes 4 bits else
  if k == 8 then leBytes 1 bits else
  if k == 19 then leBytes 8 lo++leBytes 8 hi else
  if k == 2 || k == 13 || k == 14 then textB text else
  if k == 11 then (sl text++[0])++(sl more++[0]) else
  if k == 5 then binB sub bs else
  if k == 7 then bs else
  if k == 12 then textB text++bs else
  if k == 3 || k == 4 then docOf (kidsB f) else
  if k == 15 then scopeOf (textB text++docOf (kidsB f)) else []
def kidsB:F→List UInt8
 | .nil=>[]
 | .cons n t r=>([kindB t.kind]++(sl n++[0])++valB t)++kidsB r
end
theorem leB_len (n x:Nat):(leBytes n x).length=n:=leBytes_length ..
theorem textB_len (s:ByteArray):(textB s).length=s.size+5:=by simp [textB,leB_len,sl_len];omega
theorem docOf_len (l:List UInt8):(docOf l).length=l.length+5:=by simp [docOf,leB_len];omega
theorem scopeOf_len (l:List UInt8):(scopeOf l).length=l.length+4:=by simp [scopeOf,leB_len];omega
theorem binB_len (sub:Int) (bs:List UInt8):(binB sub bs).length≤bs.length+9:=by
 unfold binB
 split<;>simp [leB_len]<;>omega
mutual
theorem valB_len:∀ t:T,(valB t).length+2≤10 * t.wt
 | .mk k bits hi lo text more sub bs f=>by
  have h1:=kidsB_len f
  have h2:=binB_len sub bs
  have h3:=sl_len text
  have h4:=sl_len more
  simp only [valB,T.wt]
  (repeat' split)<;>simp [leB_len,textB_len,docOf_len,scopeOf_len,sl_len]<;>omega
theorem kidsB_len:∀ f:F,(kidsB f).length≤10 * f.wt
 | .nil=>by simp [kidsB]
 | .cons n t r=>by
  have h1:=valB_len t
  have h2:=kidsB_len r
  simp only [kidsB,F.wt,List.length_append,sl_len,List.length_cons,List.length_nil]
  omega
end
theorem kidsB_step (a:F) (j:Nat) (n:ByteArray) (t:T) (h:a.get? j=some (n,t)):kidsB (a.drop j)=([kindB t.kind]++(sl n++[0])++valB t)++kidsB (a.drop (j+1)):=by
 rw [F.drop_get a j n t h];rfl
theorem kidsB_end (a:F) (j:Nat) (h:a.len≤j):kidsB (a.drop j)=[]:=by
 rw [F.drop_len a j h];rfl
theorem RdI.ofNew {w:World} (cs:Array Value) (l:List Int) (t:Nat) (hc:cs.toList=l.map (Value.int .i64)) (hl:l.length≤9223372036854775807) (hw:∀ n ∈ l,(Lit.int .i64 n).wf=true) (g:Nat) (hg:g=w.heap.size):RdI .i64 (w.alloc (.cells cs t)) (some ⟨g,0,none⟩) l.length l:=by
 subst hg
 refine ⟨rfl,hl,hw,fun i hi=>⟨_,_,rfl,?_⟩⟩
 have:(w.alloc (.cells cs t)).cell? ⟨w.heap.size,0+i,none⟩=cs[i]?:=by rw [Nat.zero_add];simp [go_sem]
 rw [this,← Array.getElem?_toList,hc,List.getElem?_map]
 simp only [List.getD_eq_getElem?_getD,List.getElem?_eq_getElem hi]
 rfl
theorem wf_of {n:Int} (h0:-9223372036854775808≤n) (h1:n≤9223372036854775807):(Lit.int .i64 n).wf=true:=by
 simp [Lit.wf,IntKind.min,IntKind.max,IntKind.signed,IntKind.bits];omega
theorem below_cell {W w':World} {p:Addr} {v:Value} (hb:Below W.heap.size W w') (h:W.cell? p=some v):w'.cell? p=some v:=(hb.cell (cell_block h)).trans h
theorem below_cell2 {W w':World} {B:Nat} {p:Addr} {v:Value} (hb:Below B W w') (h:W.cell? p=some v) (hB:p.block < B):w'.cell? p=some v:=(hb.cell hB).trans h
theorem below_more {B:Nat} {a wr w':World} {o:Obj} (h:Below B a wr) (hs:B≤wr.heap.size) (hb:Below ((wr.alloc o).drew).heap.size ((wr.alloc o).drew) w'):Below B a w':=
 h.trans ((((Below.refl wr.heap.size wr).alloc (Nat.le_refl _) o).drew.mono hs).trans (hb.mono (by show B≤(wr.heap.push o).size;simp;omega)))
theorem room1 (g:Nat) (left s:Int) (W:World) (hc:W.cell? ⟨g,0,none⟩=some (.int .i64 s)) (h0:0≤s) (h1:s≤9223372036854775807) (b0:-1≤left) (b1:left≤4611686018427387904) :
  Calls Tryz.prog 29 #[.int .i64 left,.slice (some ⟨g,0,none⟩) 1 1] W fun e w'=>e=.returned (.int .i64 (roomS left [s]))∧W=w':=
 by
 refine room_calls _ 1 1 left W [s] ⟨rfl,by omega,by intro n hn;simp at hn;subst hn;exact wf_of (by omega) h1,?_⟩ (by simpa using h0) b0 b1
 intro i hi
 obtain rfl:i=0:=by omega
 exact ⟨g,0,rfl,by simpa using hc⟩
set_option maxRecDepth 100000 in
set_option maxHeartbeats 400000 in
theorem value_calls (d:Nat):∀ (t:T),t.depth≤d→∀ (left:Int) (w:World) (c:Array Value),RdT w t c→-1≤left→left≤4611686018427387904 →
  Calls Tryz.prog 14 #[.int .i64 left,.agg c] w fun e w'=>e=.returned (.int .i64 (bookT left t))∧Below w.heap.size w w':=by
 induction d with
 | zero=>intro t ht;cases t;simp [T.depth] at ht
 | succ d ih=>
  intro t ht left w c h h0 h1
  obtain ⟨k,bits,hi,lo,text,more,sub,bs,kids⟩:=t
  obtain ⟨ab,nb,cb,ak,nk,ck,rfl,hok,hrb,hkl,hnk,hks⟩:=h
  have hkd:kids.depth≤d:=by simp only [T.depth] at ht;omega
  clear ht
  obtain ⟨ok1,ok2,ok3,ok4,ok5,ok6,ok7⟩:=hok
  have hbl:=hrb.1
  have hbm:=hrb.2.1
  have r1:=roomS_bd [2,text.size,more.size,bs.length] left (by simp) h0
  have IH:=Lib.hid ih
  have HK:=Lib.hid hks
  have HKL:=Lib.hid hkl
  have HBL:=Lib.hid hbl
  have HF:Hid (bookT left (.mk k bits hi lo text more sub bs kids)=bookF (roomS left [2,text.size,more.size,(nb:Int)]) kids):=by
   show bookT _ _=_
   rw [← hbl];rfl
  rw [hbl] at r1
  have hroom:=fun (w:World) (g:Nat) (hg:g=w.heap.size)=>room_calls _ _ 4 left (w.alloc (.cells #[.int .i64 2,.int .i64 text.size,.int .i64 more.size,.int .i64 nb] 3)) [2,text.size,more.size,(nb:Int)] (RdI.ofNew _ _ _ rfl (by simp) (by intro n hn;simp at hn;rcases hn with rfl|rfl|rfl|rfl<;>exact wf_of (by omega) (by omega)) g hg) (by simp) h0 h1
  have HRm:=Lib.hid hroom
  clear ih hks hkl hrb hbl hroom
  generalize roomS left [2,text.size,more.size,(nb:Int)]=lf0 at r1 HF HRm
  go_enter Tryz.func14,Tryz.ntmps14
  go_wp2_with fail
  refine (HRm.out _ _ (by simp)).mono ?_
  rintro e w' ⟨rfl,rfl⟩
  go_wp2_with fail
  have hW:Below w.heap.size w ((w.alloc (.cells (valCells k bits hi lo text more sub ab nb cb ak nk ck) 26)).alloc (.cells #[.int .i64 2,.int .i64 text.size,.int .i64 more.size,.int .i64 nb] 3)):=((Below.refl _ _).alloc (Nat.le_refl _) _).alloc (by simp) _
  have HW:=Lib.hid hW
  clear hW
  go_loopw [0,5] (fun q i wr=>∃ (j:Nat) (lf:Int),j≤nk∧i=.int .i64 j∧q=.int .i64 lf∧-1≤lf∧lf≤4611686018427387904∧bookF lf (kids.drop j)=bookF lf0 kids∧Below (w.heap.size+2) ((w.alloc (.cells (valCells k bits hi lo text more sub ab nb cb ak nk ck) 26)).alloc (.cells #[.int .i64 2,.int .i64 text.size,.int .i64 more.size,.int .i64 nb] 3)) wr) (fun _ i _=>nk - (intOf i).toNat)
  case atStart=>exact ⟨0,lf0,by omega,rfl,rfl,by omega,by omega,by simp [F.drop],Below.refl _ _⟩
  case round=>
   obtain ⟨j,lf,hj,rfl,rfl,b0,b1,hr,hbl⟩:=hrel
   have f8:wr.cell? ⟨w.heap.size,8,none⟩=some (.slice ak nk ck):=below_cell2 hbl (by simp [go_sem,valCells]) (by simp)
   have hsz:w.heap.size+2≤wr.heap.size:=by have:=hbl.size;simp at this;omega
   have HKW:=Lib.hid (HK.out.keep (HW.out.trans (hbl.mono (by omega))))
   have HR:=Lib.hid hr
   have HBW:=Lib.hid hbl
   clear hr hbl
   by_cases hlt:j < nk
   ·by_cases hlf:0≤lf
    ·obtain ⟨⟨n,t⟩,hx⟩:=F.get_some kids j (by rw [HKL.out];exact hlt)
     have hdep:=(F.get_lt kids j _ hx).2
     obtain ⟨b,o,k',bits',hi',lo',text',more',sub',bs',kids',ab',nb',cb',ak',nk',ck',rfl,rfl,e1,e2,e3,g0,g1,g2,g3,g4,g5,g6,g7,g8,g9⟩:=(HKW.out.at hx).cells
     have hrn:=roomS_bd [(n.size:Int)] lf (by simp) b0
     have hbt:=bookT_bd (.mk k' bits' hi' lo' text' more' sub' bs' kids') _ hrn.1
     have HX:=Lib.hid (F.drop_get kids j _ _ hx)
     have HN:Hid (bookF lf (kids.drop j)=bookF (bookT (roomS lf [(n.size:Int)]) (.mk k' bits' hi' lo' text' more' sub' bs' kids')) (kids.drop (j+1))):=by
      show bookF _ _=_
      rw [HX.out];simp only [bookF];rw [if_neg (by omega)]
     have hj0:(0:Int)≤(j:Int):=by omega
     have hj1:(j:Int) < (nk:Int):=by omega
     have E3:=Lib.hid e3
     have HC:=Lib.hid (IH.out _ (Nat.le_trans hdep hkd))
     have HR1:=Lib.hid (room1 wr.heap.size lf n.size)
     clear hx e3 hdep
     generalize roomS lf [(n.size:Int)]=lf1 at hrn hbt HN HR1
     go_wp2_with fail
     go_region_held3 (fun w'=>w'.cell? ⟨w.heap.size,8,none⟩=some (.slice (some ⟨b,o,none⟩) nk ck)∧w'.cell? ⟨b,o+j * 10,none⟩=some (.string n)∧w'.cell? ⟨b,o+j * 10+1,none⟩=some (.int .i64 k')∧w'.cell? ⟨b,o+j * 10+2,none⟩=some (.int .u64 (bits':Nat))∧w'.cell? ⟨b,o+j * 10+3,none⟩=some (.int .u64 (hi':Nat))∧w'.cell? ⟨b,o+j * 10+4,none⟩=some (.int .u64 (lo':Nat))∧w'.cell? ⟨b,o+j * 10+5,none⟩=some (.string text')∧w'.cell? ⟨b,o+j * 10+6,none⟩=some (.string more')∧w'.cell? ⟨b,o+j * 10+7,none⟩=some (.int .i64 sub')∧w'.cell? ⟨b,o+j * 10+8,none⟩=some (.slice ab' nb' cb')∧w'.cell? ⟨b,o+j * 10+9,none⟩=some (.slice ak' nk' ck')) (first|go_keep|((repeat' apply And.intro)<;>(refine below_cell ‹Below _ _ _› ?_;simp [*]))) (first|(go_at_call 29;refine (HR1.out _ ?_ (by omega) (by omega) (by omega) (by omega)).mono ?_;(simp [go_sem]);rintro e w' ⟨rfl,rfl⟩)|(go_at_call 14;refine (HC.out _ _ _ ?_ (by omega) (by omega)).mono ?_;(exact E3.out.keep ((Below.refl _ _).alloc (Nat.le_refl _) _).drew);rintro e w' ⟨rfl,hb⟩))
     go_wp2_with fail
     go_roundw
     case rel=>exact ⟨j+1,_,by omega,by simp,rfl,hbt.1,by omega,HN.out.symm.trans HR.out,below_more HBW.out hsz hb⟩
     case measure=>simp [intOf];omega
    ·have hf:Hid (bookF lf0 kids=lf):=by
      show bookF lf0 kids=lf
      rw [← HR.out]
      obtain ⟨⟨n,t⟩,hx⟩:=F.get_some kids j (by rw [HKL.out];exact hlt)
      rw [F.drop_get kids j _ _ hx]
      simp only [bookF]
      rw [if_pos (by omega)]
     go_wp2_with fail
     go_ret
     exact ⟨by rw [HF.out,hf.out];rfl,HW.out.trans (HBW.out.mono (by omega))⟩
   ·have hf:Hid (bookF lf0 kids=lf):=by
     show bookF lf0 kids=lf
     rw [← HR.out,F.drop_len kids j (by rw [HKL.out];omega)]
     simp only [bookF]
    go_wp2_with fail
    go_ret
    exact ⟨by rw [HF.out,hf.out];rfl,HW.out.trans (HBW.out.mono (by omega))⟩
def smallT (t:T):Bool:=decide (0≤bookT 1200 t)
set_option maxRecDepth 100000 in
set_option maxHeartbeats 400000 in
theorem small_calls (t:T) (w:World) (c:Array Value) (h:RdT w t c) :
  Calls Tryz.prog 5 #[.agg c] w fun e w'=>e=.returned (.bool (smallT t))∧Below w.heap.size w w':=by
 have C:=Lib.hid (value_calls t.depth t (Nat.le_refl _) 1200)
 have H:=Lib.hid h
 have hs:=h.size
 obtain ⟨k,bits,hi,lo,text,more,sub,bs,kids⟩:=t
 obtain ⟨ab,nb,cb,ak,nk,ck,rfl,_⟩:=h
 have HB:Hid (smallT (T.mk k bits hi lo text more sub bs kids)=decide (0≤bookT 1200 (T.mk k bits hi lo text more sub bs kids))):=rfl
 generalize hg:smallT (T.mk k bits hi lo text more sub bs kids)=sm at HB
 generalize bookT 1200 (T.mk k bits hi lo text more sub bs kids)=n at C HB
 clear hg
 go_enter Tryz.func5,Tryz.ntmps5
 go_wp2_with fail
 refine (C.out _ _ (H.out.keep ((Below.refl _ _).alloc (Nat.le_refl _) _)) (by omega) (by omega)).mono ?_
 rintro e w' ⟨rfl,hb⟩
 go_wp2_with fail
 go_ret
 exact ⟨by rw [HB.out];rfl,((Below.refl w.heap.size w).alloc (Nat.le_refl _) _).trans (hb.mono (by simp))⟩
def encE (t:T):Nat:=match chk t with|some (_,e)=>e|none=>if t.kind=3 then 0 else 5
def encB (t:T):List UInt8:=if encE t=0 then docOf (kidsB t.kids) else []
def FBox (W:World) (g:Nat):Prop:=W.cell? ⟨g,0,none⟩=some (.int .i64 0)∧W.cell? ⟨g,1,none⟩=some (.int .i64 0)∧W.cell? ⟨g,2,none⟩=some (.slice none 0 0)∧W.frozen? ⟨g,0,none⟩=false∧W.frozen? ⟨g,1,none⟩=false∧W.frozen? ⟨g,2,none⟩=false∧g < W.heap.size
theorem FBox.keep {W W':World} {g:Nat} (h:FBox W g) (hb:Below W.heap.size W W'):FBox W' g:=by
 obtain ⟨h0,h1,h2,f0,f1,f2,hg⟩:=h
 refine ⟨cell_below hb h0,cell_below hb h1,cell_below hb h2,?_,?_,?_,Nat.lt_of_lt_of_le hg hb.size⟩
 all_goals (rw [hb.frozen hg];assumption)
theorem FBox.new (w:World) (ty:TypeId):FBox (w.alloc (.cells #[.int .i64 0,.int .i64 0,.slice none 0 0] ty)) w.heap.size:=by
 refine ⟨?_,?_,?_,?_,?_,?_,?_⟩<;>simp [go_sem]
theorem Chg.put {w w':World} {g:Nat} (h:Chg (fun k=>k=g) w w') (i:Nat) (v:Value):Chg (fun k=>k=g) w (w'.setCell ⟨g,i,none⟩ v):=h.setCell (p:=⟨g,i,none⟩) (fun _=>rfl) v
theorem RdPS.far {S:Nat→Prop} {w w':World} {a:Option Addr} {l:List Int} {g:Nat} (h:RdPS S w a l) (hc:Chg (fun k=>k=g) w w') (hS:∀ k,S k→k≠g):RdPS (fun _=>True) w' a l:=
 (h.keep (KeepS.chg hc hS)).imp (fun _ _ _=>trivial)
def LayF (w w':World) (v v':Value):Prop:=Chg (fun k=>v.ownBlock=some k) w w'∧∀ k,v'.ownBlock=some k→v.ownBlock=some k∨w.heap.size≤k
theorem LayF.fresh {w w':World} (h:Below w.heap.size w w') (v:Value):LayF w w' v v:=⟨Chg.of_below h,fun k hk=>.inl hk⟩
theorem LayF.size {w w':World} {v v':Value} (h:LayF w w' v v'):w.heap.size≤w'.heap.size:=h.1.size
theorem LayF.trans {a b c:World} {v v1 v2:Value} (h:LayF a b v v1) (k:LayF b c v1 v2):LayF a c v v2:=by
 refine ⟨h.1.trans k.1 fun i hi hs=>?_,fun i hi=>?_⟩
 ·rcases h.2 i hs with h1|h1
  ·exact h1
  ·omega
 ·rcases k.2 i hi with h1|h1
  ·exact h.2 i h1
  ·exact .inr (Nat.le_trans h.size h1)
theorem LayF.app {w w':World} {v v':Value} (h:AppF w w' v v'):LayF w w' v v':=by
 refine ⟨h.chg,fun k hk=>?_⟩
 rcases h.2 with e|e
 ·rw [e] at hk;exact .inl hk
 ·rw [e] at hk;exact .inr (by have:=Option.some.inj hk;omega)
theorem LayF.below {a w w':World} {v v':Value} {B:Nat} (h:LayF w w' v v') (hb:Below B a w) (hB:B≤w.heap.size) (hv:∀ k,v.ownBlock=some k→B≤k):Below B a w':=
 hb.trans (h.1.below hB fun i hi=>hv i hi)
theorem LayF.cell {w w':World} {v v':Value} (h:LayF w w' v v') {p:Addr} {u:Value} (hc:w.cell? p=some u) (hp:v.ownBlock≠some p.block):w'.cell? p=some u:=h.1.cell hp hc
theorem strCells_bytes' (t:ByteArray):Lib.strCells t=byteCells (sl t):=rfl
theorem appT_run {w:World} {B:Nat} {v:Value} {bs:List UInt8} (hown:OwnB w B v bs) (t:ByteArray)
  (hb:bs.length+t.size≤100000000000) (hbase:B≤w.heap.size) (ty:TypeId) :
  ∃ v' w',(Builtin.append_ #[23,9] ty #[v,.string t]).run Tryz.prog w=.ok v' w'∧OwnB w' B v' (bs++sl t)∧LayF w w' v v':=by
 obtain ⟨i0,hi,hz0,hz1,hz2⟩:=info_parts infoU8
 obtain ⟨v',w',hr,h2,h3,h4⟩:=Lib.run_append_own_string (P:=Tryz.prog) w B 23 9 ty 5 i0 Tryz.underlying23 Tryz.underlying9 hi hz0 hz1 hz2 v bs.length (byteCells bs) hown t (by unfold maxLen;omega) (by omega) hbase
 refine ⟨v',w',hr,?_,LayF.app ⟨h3,?_⟩⟩
 ·unfold OwnB
  rw [byteCells_append,List.length_append,sl_len]
  exact h2
 ·rcases hown.2 with ⟨rfl,h0⟩|⟨g,cap,cur,rfl,hbg,hg,hnc,hcm,hcs,htake⟩
  ·by_cases ht:t.size=0
   ·have:=h4.2 ⟨rfl,ht⟩
    subst this
    exact .inl rfl
   ·have:=run_append_nil_string (P:=Tryz.prog) w 23 9 ty 5 i0 (.int .u8 0) Tryz.underlying23 Tryz.underlying9 hi hz0 t (by omega) (by omega) (by rw [hz2];omega)
    rw [this] at hr
    simp only [Result.ok.injEq] at hr
    rw [← hr.1]
    exact .inr rfl
  ·by_cases hroom:bs.length+t.size≤cap
   ·have:=Lib.run_append_room_string (P:=Tryz.prog) w 23 9 ty 5 i0 Tryz.underlying23 Tryz.underlying9 hi hz1 g bs.length cap cur hg t hroom (by omega)
    rw [this] at hr
    simp only [Result.ok.injEq] at hr
    rw [← hr.1]
    exact .inl rfl
   ·have holds:∀ j u,(byteCells bs)[j]?=some u→w.cell? ((⟨g,0,none⟩:Addr).add j)=some u:=World.ownsRow.cells hown (g:=g) rfl
    have:=Lib.run_append_grow_string (P:=Tryz.prog) w 23 9 ty 5 i0 (.int .u8 0) Tryz.underlying23 Tryz.underlying9 hi hz0 ⟨g,0,none⟩ bs.length cap (byteCells bs) (by rw [hz1,byteCells_length];omega) holds t (by omega) (by omega) (by rw [hz2];exact growslice_fits (by omega) (by omega))
    rw [this] at hr
    simp only [Result.ok.injEq] at hr
    rw [← hr.1]
    exact .inr rfl
theorem wpList_appT {w:World} {ops:Array Oper} {rest:List Oper} {o:Oper} {a:Act} {Q:Exit→Act→World→Prop} (hgd:o.guard=none) (s x:Operand)
  (ho:o.op=.call { callee:=.builtin .append,args:=#[s,x],argTypes:=#[23,9] })
  {B:Nat} {v:Value} {bs:List UInt8} (hs:a.eval s=v) (hown:OwnB w B v bs) {t:ByteArray} (hx:a.eval x=.string t)
  (hb:bs.length+t.size≤100000000000) (hbase:B≤w.heap.size)
  (h:∀ v' w',OwnB w' B v' (bs++sl t)→LayF w w' v v'→wpList Tryz.prog ops Q rest (a.put o.dst v') w'):wpList Tryz.prog ops Q (o::rest) a w:=by
 refine wpList_plain hgd fun K hK=>?_
 obtain ⟨v',w',hr,h2,h3⟩:=appT_run hown t hb hbase o.type
 unfold Oper.wp execOp
 simp only [ho,resolve,invoke,builtin,Sem.run_bind,Sem.run_pure,Result.andThen_ok,List.map_toArray,List.map_cons,List.map_nil,hs,hx,hr]
 exact hK _ _ (h v' w' h2 h3)
theorem wpList_appL {w:World} {ops:Array Oper} {rest:List Oper} {o:Oper} {a:Act} {Q:Exit→Act→World→Prop} (hgd:o.guard=none) (s x:Operand)
  (ho:o.op=.call { callee:=.builtin .append,args:=#[s,x],argTypes:=#[23,23] })
  {B:Nat} {v:Value} {bs:List UInt8} (hs:a.eval s=v) (hown:OwnB w B v bs) {sv:Value} {l:List UInt8} (hx:a.eval x=sv) (hsrc:SrcB w sv l)
  (hb:bs.length+l.length≤100000000000) (hbase:B≤w.heap.size)
  (h:∀ v' w',OwnB w' B v' (bs++l)→LayF w w' v v'→wpList Tryz.prog ops Q rest (a.put o.dst v') w'):wpList Tryz.prog ops Q (o::rest) a w:=
 wpList_appB hgd s x ho hs hown hx hsrc hb hbase fun v' w' h1 h2=>h v' w' h1 (LayF.app h2)
end Go.Proofs.YtmooaepbdmengaaGreatDoor

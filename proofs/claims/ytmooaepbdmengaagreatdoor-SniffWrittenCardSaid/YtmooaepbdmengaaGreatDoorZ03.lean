/- Parts of the proof of SniffWritten: BoN, JsonP, JTree, Open, ITree, Tree, TreeOpen, TreeS, BoX, BoF. -/
import Derived.Test.YtmooaepbdmengaaGreatDoorZ01
import Derived.Test.YtmooaepbdmengaaGreatDoorZ02
import Derived.Test.YtmooaepbdmengaaGreatDoorRows
import Derived.Lib.Hide
import Derived.Deep.CutBlock
import Derived.Deep.WholeRow
namespace Go.Proofs.YtmooaepbdmengaaGreatDoor
open Go.RowKit
set_option linter.unusedVariables false
set_option linter.unusedSimpArgs false
theorem new_cell (w:World) (cs:Array Value) (t:TypeId) (j:Nat):(w.alloc (.cells cs t)).cell? ⟨w.heap.size,j,none⟩=cs[j]?:=by
 unfold World.cell?
 rw [heap_alloc_new w (.cells cs t)]
 simp
theorem wp_val {P:Program} {o:Oper} {a:Act} {w w':World} {K:Act→World→Prop} {Q:Exit→Act→World→Prop} {v:Value} (h:(execOp a.eval o).run P w=.ok (.value v) w') (hk:K (a.put o.dst v) w'):o.wp P a w K Q:=by
 unfold Oper.wp;rw [h];exact hk
def knownK (k:Int):Bool:=(decide (1≤k) && decide (k < 20)) || k == 127 || k == 255
def noTxt (s:ByteArray):Bool:=s.toList == []
end Go.Proofs.YtmooaepbdmengaaGreatDoor
namespace Go.Proofs.YtmooaepbdmengaaGreatDoor
set_option linter.unusedVariables false
set_option linter.unusedSimpArgs false
mutual
inductive J where
 | mk (k:Int) (text:List UInt8) (kids:M)
inductive M where
 | nil
 | cons (n:List UInt8) (v:J) (r:M)
end
def J.kind:J→Int | .mk k _ _=>k
def M.append:M→M→M
 | .nil,g=>g
 | .cons n t r,g=>.cons n t (r.append g)
def M.len:M→Nat
 | .nil=>0
 | .cons _ _ r=>r.len+1
def named (obj:Bool) (n:List UInt8):List UInt8:=if obj then quoteL n++[58] else []
mutual
def printJ:J→List UInt8
 | .mk k t m=>if k=1 then [110,117,108,108] else if k=2 then [102,97,108,115,101] else if k=3 then [116,114,117,101] else if k=4 then t else if k=5 then quoteL t
  else if k=7 then 123::(printM true true m++[125]) else 91::(printM false true m++[93])
def printM:Bool→Bool→M→List UInt8
 | _,_,.nil=>[]
 | obj,fst,.cons n v r=>(if fst then [] else [44])++(named obj n++(printJ v++printM obj false r))
end
def wholeB (l:List UInt8):Bool:=wholeTo l == l.length
def M.isNil:M→Bool | .nil=>true | .cons ..=>false
def M.bare:M→Bool
 | .nil=>true
 | .cons n _ r=>n.isEmpty && r.bare
mutual
def checkJ:J→Nat
 | .mk k t m=>
  if k < 1∨7 < k∨(m.isNil=false∧k≠6∧k≠7)∨(t≠[]∧k≠4∧k≠5) then 1
  else if k=6∧m.bare=false then 1
  else if k=4∧(lexeme t=0∨300 < t.length) then 10
  else if k=5∧wholeB t=false then 4
  else checkM m
def checkM:M→Nat
 | .nil=>0
 | .cons n v r=>if wholeB n=false then 4 else if checkJ v≠0 then checkJ v else checkM r
end
theorem checkJ_parts {k:Int} {t:List UInt8} {m:M} (h:checkJ (.mk k t m)=0):(1≤k∧k≤7)∧(m.isNil=false→k=6∨k=7)∧(t≠[]→k=4∨k=5)∧(k=6→m.bare=true)∧(k=4→lexeme t≠0∧t.length≤300)∧(k=5→wholeTo t=t.length)∧checkM m=0:=by
 unfold checkJ at h
 split at h
 ·simp at h
 ·rename_i h1
  split at h
  ·simp at h
  ·rename_i h2
   split at h
   ·simp at h
   ·rename_i h3
    split at h
    ·simp at h
    ·rename_i h4
     refine ⟨by omega,fun hm=>?_,fun ht=>?_,fun hk=>?_,fun hk=>?_,fun hk=>?_,h⟩
     ·by_cases e:k=6∨k=7
      ·exact e
      ·exact absurd (Or.inr (Or.inr (Or.inl ⟨hm,by omega,by omega⟩))) h1
     ·by_cases e:k=4∨k=5
      ·exact e
      ·exact absurd (Or.inr (Or.inr (Or.inr ⟨ht,by omega,by omega⟩))) h1
     ·cases hb:m.bare with
      | true=>rfl
      | false=>exact absurd ⟨hk,hb⟩ h2
     ·exact ⟨fun e=>h3 ⟨hk,.inl e⟩,by
       by_cases e:t.length≤300
       ·exact e
       ·exact absurd ⟨hk,.inr (by omega)⟩ h3⟩
     ·cases hb:wholeB t with
      | true=>simpa [wholeB] using hb
      | false=>exact absurd ⟨hk,hb⟩ h4
theorem check_cons {n:List UInt8} {v:J} {r:M} (hc:checkM (.cons n v r)=0):wholeTo n=n.length∧checkJ v=0∧checkM r=0:=by
 have hcw:wholeB n=true:=by
  cases e:wholeB n with
  | true=>rfl
  | false=>simp [checkM,e] at hc
 have hcv:checkJ v=0:=by
  simp only [checkM,hcw] at hc
  by_cases e:checkJ v=0
  ·exact e
  ·simp [e] at hc
 refine ⟨by simpa [wholeB] using hcw,hcv,?_⟩
 simp only [checkM,hcw,hcv] at hc
 simpa using hc
end Go.Proofs.YtmooaepbdmengaaGreatDoor
namespace Go.Proofs.YtmooaepbdmengaaGreatDoor
open Go.RowKit
set_option linter.unusedVariables false
set_option linter.unusedSimpArgs false
def RoomJ (a:Option Addr) (n c:Nat):Prop:=(a=none→c=0)∧n≤c
abbrev jCells (k:Int) (x:ByteArray) (ak:Option Addr) (nk ck:Nat):Array Value:=#[.int .i64 k,.string x,.slice ak nk ck]
mutual
def RdJ (S:Nat→Prop) (w:World):J→Array Value→Prop
 | .mk k t m,c=>∃ (x:ByteArray) (ak:Option Addr) (nk ck:Nat),c=jCells k x ak nk ck∧sl x=t∧x.size≤9223372036854775807∧(-9223372036854775808≤k∧k≤9223372036854775807)∧m.len=nk∧(nk≤9223372036854775807∧RoomJ ak nk ck)∧RdM S w ak 0 m
def RdM (S:Nat→Prop) (w:World) (a:Option Addr):Nat→M→Prop
 | _,.nil=>True
 | i,.cons n v r=>(∃ (b o:Nat) (c:Array Value) (y:ByteArray),a=some ⟨b,o,none⟩∧S b∧sl y=n∧y.size≤9223372036854775807∧w.cell? ⟨b,o+i * 4,none⟩=some (.string y)∧(∀ j,j < 3→w.cell? ⟨b,o+i * 4+(j+1),none⟩=c[j]?)∧RdJ S w v c)∧RdM S w a (i+1) r
end
theorem RdJ.size {S:Nat→Prop} {w:World}:∀ {j:J} {c:Array Value},RdJ S w j c→c.size=3
 | .mk ..,c,h=>by obtain ⟨_,_,_,_,rfl,_⟩:=h;rfl
mutual
theorem RdJ.imp {S S':Nat→Prop} {w:World} (hS:∀ k,k < w.heap.size→S k→S' k):∀ {j:J} {c:Array Value},RdJ S w j c→RdJ S' w j c
 | .mk ..,c,h=>by
  obtain ⟨x,ak,nk,ck,h1,h2,h3,h4,h5,h6,h7⟩:=h
  exact ⟨x,ak,nk,ck,h1,h2,h3,h4,h5,h6,RdM.imp hS h7⟩
theorem RdM.imp {S S':Nat→Prop} {w:World} (hS:∀ k,k < w.heap.size→S k→S' k) {a:Option Addr}:∀ {i:Nat} {m:M},RdM S w a i m→RdM S' w a i m
 | _,.nil,_=>trivial
 | i,.cons n v r,h=>by
  obtain ⟨⟨b,o,c,y,h1,h1',h2,h3,h4,h5,h6⟩,h7⟩:=h
  exact ⟨⟨b,o,c,y,h1,hS _ (by simpa using cell_block h4) h1',h2,h3,h4,h5,RdJ.imp hS h6⟩,RdM.imp hS h7⟩
end
def KeepS (S:Nat→Prop) (w w':World):Prop:=∀ p v,S p.block→w.cell? p=some v→w'.cell? p=some v
theorem KeepS.below {S:Nat→Prop} {w w':World} (h:Below w.heap.size w w'):KeepS S w w':=fun p v _ hc=>cell_below h hc
theorem KeepS.app {S:Nat→Prop} {w w':World} {v v':Value} (h:AppF w w' v v') (hS:∀ k,S k→v.ownBlock≠some k):KeepS S w w':=fun p u hs hc=>h.cell hc (hS _ hs)
theorem KeepS.chg {S X:Nat→Prop} {w w':World} (h:Chg X w w') (hS:∀ k,S k→¬ X k):KeepS S w w':=fun p u hs hc=>h.cell (hS _ hs) hc
theorem cell_of {w w':World} {S:Nat→Prop} (hk:KeepS S w w') {p:Addr} {x:Option Value} (hS:S p.block) (h:w.cell? p=x) (hx:x.isSome=true):w'.cell? p=x:=by
 cases x with
 | none=>simp at hx
 | some u=>exact hk p u hS h
mutual
theorem RdJ.keep {S:Nat→Prop} {w w':World} (hk:KeepS S w w'):∀ {j:J} {c:Array Value},RdJ S w j c→RdJ S w' j c
 | .mk ..,c,h=>by
  obtain ⟨x,ak,nk,ck,h1,h2,h3,h4,h5,h6,h7⟩:=h
  exact ⟨x,ak,nk,ck,h1,h2,h3,h4,h5,h6,RdM.keep hk h7⟩
theorem RdM.keep {S:Nat→Prop} {w w':World} (hk:KeepS S w w') {a:Option Addr}:∀ {i:Nat} {m:M},RdM S w a i m→RdM S w' a i m
 | _,.nil,_=>trivial
 | i,.cons n v r,h=>by
  obtain ⟨⟨b,o,c,y,h1,h1',h2,h3,h4,h5,h6⟩,h7⟩:=h
  refine ⟨⟨b,o,c,y,h1,h1',h2,h3,hk _ _ h1' h4,fun j hj=>?_,RdJ.keep hk h6⟩,RdM.keep hk h7⟩
  exact cell_of hk (p:=⟨b,o+i * 4+(j+1),none⟩) h1' (h5 j hj) (by rw [Array.getElem?_eq_getElem (by rw [h6.size];exact hj)];rfl)
end
theorem RdJ.below {S:Nat→Prop} {w w':World} {j:J} {c:Array Value} (h:RdJ S w j c) (hb:Below w.heap.size w w'):RdJ S w' j c:=h.keep (KeepS.below hb)
theorem RdM.below {S:Nat→Prop} {w w':World} {a:Option Addr} {i:Nat} {m:M} (h:RdM S w a i m) (hb:Below w.heap.size w w'):RdM S w' a i m:=h.keep (KeepS.below hb)
def M.get?:M→Nat→Option (List UInt8 × J)
 | .nil,_=>none
 | .cons n v _,0=>some (n,v)
 | .cons _ _ r,i+1=>r.get? i
def M.drop:Nat→M→M
 | 0,m=>m
 | _+1,.nil=>.nil
 | k+1,.cons _ _ r=>r.drop k
theorem M.get_some:∀ (m:M) (i:Nat),i < m.len→∃ x,m.get? i=some x
 | .nil,i,h=>by simp [M.len] at h
 | .cons n v r,0,h=>⟨(n,v),rfl⟩
 | .cons n v r,i+1,h=>M.get_some r i (by simp only [M.len] at h;omega)
theorem M.drop_get:∀ (m:M) (k:Nat) (n:List UInt8) (v:J),m.get? k=some (n,v)→m.drop k=.cons n v (m.drop (k+1))
 | .nil,k,n,v,h=>by simp [M.get?] at h
 | .cons n' v' r,0,n,v,h=>by
  simp only [M.get?,Option.some.injEq,Prod.mk.injEq] at h
  obtain ⟨rfl,rfl⟩:=h
  simp [M.drop]
 | .cons n' v' r,k+1,n,v,h=>M.drop_get r k n v h
theorem M.drop_len:∀ (m:M) (k:Nat),m.len≤k→m.drop k=.nil
 | .nil,0,_=>rfl
 | .nil,k+1,_=>rfl
 | .cons _ _ r,0,h=>by simp [M.len] at h
 | .cons _ _ r,k+1,h=>M.drop_len r k (by simp only [M.len] at h;omega)
def KidJ (S:Nat→Prop) (w:World) (a:Option Addr) (i:Nat) (n:List UInt8) (v:J):Prop:=
 ∃ (b o:Nat) (c:Array Value) (y:ByteArray),a=some ⟨b,o,none⟩∧S b∧sl y=n∧y.size≤9223372036854775807∧w.cell? ⟨b,o+i * 4,none⟩=some (.string y)∧(∀ j,j < 3→w.cell? ⟨b,o+i * 4+(j+1),none⟩=c[j]?)∧RdJ S w v c
theorem RdM.atFrom {S:Nat→Prop} {w:World} {a:Option Addr}:∀ {m:M} {i j:Nat} {n:List UInt8} {v:J},RdM S w a i m→m.get? j=some (n,v)→KidJ S w a (i+j) n v
 | .nil,i,j,n,v,h,hj=>by simp [M.get?] at hj
 | .cons n' v' r,i,0,n,v,h,hj=>by
  simp only [M.get?,Option.some.injEq,Prod.mk.injEq] at hj
  obtain ⟨rfl,rfl⟩:=hj
  exact h.1
 | .cons n' v' r,i,j+1,n,v,h,hj=>by
  have:=RdM.atFrom (i:=i+1) h.2 hj
  rwa [show i+1+j=i+(j+1) from by omega] at this
theorem RdM.at {S:Nat→Prop} {w:World} {a:Option Addr} {m:M} {j:Nat} {n:List UInt8} {v:J} (h:RdM S w a 0 m) (hj:m.get? j=some (n,v)):KidJ S w a j n v:=by
 have:=RdM.atFrom h hj
 rwa [Nat.zero_add] at this
theorem KidJ.cells {S:Nat→Prop} {w:World} {a:Option Addr} {i:Nat} {n:List UInt8} {v:J} (h:KidJ S w a i n v) :
  ∃ (b o:Nat) (y:ByteArray) (k:Int) (t:List UInt8) (x:ByteArray) (m:M) (ak:Option Addr) (nk ck:Nat),
   a=some ⟨b,o,none⟩∧v=.mk k t m∧sl y=n∧y.size≤9223372036854775807∧sl x=t∧x.size≤9223372036854775807∧m.len=nk∧b < w.heap.size∧RdJ S w v (jCells k x ak nk ck) ∧
   w.cell? ⟨b,o+i * 4,none⟩=some (.string y)∧w.cell? ⟨b,o+i * 4+1,none⟩=some (.int .i64 k)∧w.cell? ⟨b,o+i * 4+2,none⟩=some (.string x)∧w.cell? ⟨b,o+i * 4+3,none⟩=some (.slice ak nk ck):=by
 obtain ⟨b,o,c,y,h1,_,h2,h3,h4,h5,h6⟩:=h
 match v,h6 with
 | .mk k t m,h6=>
  have h6':=h6
  obtain ⟨x,ak,nk,ck,rfl,hx,hxs,_,hl,_⟩:=h6
  exact ⟨b,o,y,k,t,x,m,ak,nk,ck,h1,rfl,h2,h3,hx,hxs,hl,by simpa using cell_block h4,h6',h4,h5 0 (by omega),h5 1 (by omega),h5 2 (by omega)⟩
def memCells (y:ByteArray) (c:Array Value):List Value:=.string y::c.toList
def MsC (S:Nat→Prop) (w:World):M→List Value→Prop
 | .nil,xs=>xs=[]
 | .cons n v r,xs=>∃ c y ys,xs=memCells y c++ys∧sl y=n∧y.size≤9223372036854775807∧RdJ S w v c∧MsC S w r ys
theorem MsC.length {S:Nat→Prop} {w:World}:∀ {m:M} {xs:List Value},MsC S w m xs→xs.length=m.len * 4
 | .nil,xs,h=>by have:xs=[]:=h;subst this;rfl
 | .cons n v r,xs,h=>by
  obtain ⟨c,y,ys,rfl,_,_,h1,h2⟩:=h
  have:=MsC.length h2
  have hs:=h1.size
  simp only [memCells,List.length_append,List.length_cons,Array.length_toList,hs,this,M.len]
  omega
theorem MsC.keep {S:Nat→Prop} {w w':World} (hk:KeepS S w w'):∀ {m:M} {xs:List Value},MsC S w m xs→MsC S w' m xs
 | .nil,xs,h=>h
 | .cons n v r,xs,h=>by
  obtain ⟨c,y,ys,rfl,h1,h2,h3,h4⟩:=h
  exact ⟨c,y,ys,rfl,h1,h2,h3.keep hk,MsC.keep hk h4⟩
theorem MsC.imp {S S':Nat→Prop} {w:World} (hS:∀ k,k < w.heap.size→S k→S' k):∀ {m:M} {xs:List Value},MsC S w m xs→MsC S' w m xs
 | .nil,xs,h=>h
 | .cons n v r,xs,h=>by
  obtain ⟨c,y,ys,rfl,h1,h2,h3,h4⟩:=h
  exact ⟨c,y,ys,rfl,h1,h2,h3.imp hS,MsC.imp hS h4⟩
theorem M.append_len:∀ f g:M,(f.append g).len=f.len+g.len
 | .nil,g=>by simp [M.append,M.len]
 | .cons n t r,g=>by simp only [M.append,M.len,M.append_len r g];omega
theorem MsC.append {S:Nat→Prop} {w:World}:∀ {f g:M} {xs ys:List Value},MsC S w f xs→MsC S w g ys→MsC S w (f.append g) (xs++ys)
 | .nil,g,xs,ys,h,k=>by have:xs=[]:=h;subst this;exact k
 | .cons n v r,g,xs,ys,h,k=>by
  obtain ⟨c,y,zs,rfl,h1,h2,h3,h4⟩:=h
  exact ⟨c,y,zs++ys,by simp,h1,h2,h3,MsC.append h4 k⟩
theorem MsC.one {S:Nat→Prop} {w:World} {y:ByteArray} {v:J} {c:Array Value} (h:RdJ S w v c) (hn:y.size≤9223372036854775807):MsC S w (.cons (sl y) v .nil) (memCells y c):=
 ⟨c,y,[],by simp,rfl,hn,h,rfl⟩
theorem MsC.reads {S S':Nat→Prop} {w:World} {b o:Nat} (hS:∀ k,k < w.heap.size→S k→S' k) (hb:S' b):∀ {m:M} {xs:List Value} (i:Nat),MsC S w m xs→(∀ j u,xs[j]?=some u→w.cell? ⟨b,o+(i * 4+j),none⟩=some u)→RdM S' w (some ⟨b,o,none⟩) i m
 | .nil,_,_,_,_=>trivial
 | .cons n v r,xs,i,h,hc=>by
  obtain ⟨c,y,ys,rfl,h1,h2,h3,h4⟩:=h
  have hs:=h3.size
  refine ⟨⟨b,o,c,y,rfl,hb,h1,h2,?_,fun j hj=>?_,h3.imp hS⟩,MsC.reads hS hb (i+1) h4 fun j u hu=>?_⟩
  ·have:=hc 0 (.string y) rfl
   simpa using this
  ·have hjc:j < c.size:=by omega
   have:=hc (j+1) (c[j]) (by simp [memCells,List.getElem?_append,hs,hj])
   rw [show o+i * 4+(j+1)=o+(i * 4+(j+1)) from by omega,this,Array.getElem?_eq_getElem hjc]
  ·have hl:(memCells y c).length=4:=by simp [memCells,hs]
   have:=hc (4+j) u (by rw [List.getElem?_append_right (by omega),hl];simpa using hu)
   rw [show o+((i+1) * 4+j)=o+(i * 4+(4+j)) from by omega]
   exact this
def OwnM (w:World) (B:Nat) (L:Nat→Prop) (v:Value) (m:M):Prop:=
 ∃ xs S,w.ownsRow B 90 4 v m.len xs∧MsC S w m xs∧∀ k,S k→L k∧v.ownBlock≠some k
theorem OwnM.nil (w:World) (B:Nat) (L:Nat→Prop):OwnM w B L (.slice none 0 0) .nil:=⟨[],fun _=>False,World.ownsRow_nil _ _ _ _,rfl,fun _ h=>h.elim⟩
theorem OwnM.reads {w:World} {B:Nat} {L:Nat→Prop} {v:Value} {m:M} (h:OwnM w B L v m) (hL:∀ k,B≤k→L k):∃ a c,v=.slice a m.len c∧RdM L w a 0 m∧RoomJ a m.len c∧m.len≤9223372036854775807:=by
 obtain ⟨xs,S,ho,hk,hS⟩:=h
 have hlen:=hk.length
 rcases ho.2 with ⟨rfl,h0⟩|⟨g,cap,cur,rfl,hb,hg,hnc,hcm,hcs,htake⟩
 ·have hf:m=.nil:=by cases m with
   | nil=>rfl
   | cons=>simp [M.len] at h0
  subst hf
  exact ⟨none,0,rfl,trivial,⟨fun _=>rfl,by simp [M.len]⟩,by simp [M.len]⟩
 ·refine ⟨some ⟨g,0,none⟩,cap,rfl,?_,⟨by simp,hnc⟩,by unfold maxLen at hcm;omega⟩
  refine MsC.reads (S:=S) (fun k _ h=>(hS k h).1) (hL _ hb) 0 hk fun j u hj=>?_
  have hjl:j < xs.length:=(List.getElem?_eq_some_iff.1 hj).1
  have:=ho.cellAt j (by omega)
  rw [show 0+(0 * 4+j)=j by omega,this]
  exact hj
def zeroMem:Value:=.agg (#[.string ByteArray.empty]++jCells 0 ByteArray.empty none 0 0)
theorem infoMem:(Tryz.prog.info? 90).map (fun i=>(i.zero,i.size,i.bytes))=some (some zeroMem,4,64):=by kernel_rfl
theorem mem_cells1 {S:Nat→Prop} {w:World}:∀ {m:M} {xs:List Value},MsC S w m xs→∀ u ∈ xs,u.oneCell'=true
 | .nil,xs,h,u,hu=>by have:xs=[]:=h;subst this;simp at hu
 | .cons n v r,xs,h,u,hu=>by
  obtain ⟨c,y,ys,rfl,_,_,h1,h3⟩:=h
  rw [List.mem_append] at hu
  rcases hu with hu|hu
  ·simp only [memCells,List.mem_cons] at hu
   rcases hu with rfl|hu
   ·rfl
   ·cases v with
    | mk k t m=>
     obtain ⟨x,ak,nk,ck,rfl,_⟩:=h1
     simp at hu
     rcases hu with rfl|rfl|rfl<;>rfl
  ·exact mem_cells1 h3 u hu
def SrcM (S:Nat→Prop) (w:World) (sv:Value) (m:M):Prop:=∃ xs,MsC S w m xs∧Src w sv m.len 4 xs
theorem addr_at (b o j:Nat):(⟨b,o,none⟩:Addr).add j=⟨b,o+j,none⟩:=by unfold Addr.add;split<;>simp_all
theorem SrcM.one {S:Nat→Prop} {w:World} {g:Nat} {cap:Nat} {y:ByteArray} {v:J} {c:Array Value} (h:RdJ S w v c) (hn:y.size≤9223372036854775807) (hc:∀ j u,(memCells y c)[j]?=some u→w.cell? ⟨g,j,none⟩=some u) :
  SrcM S w (.slice (some ⟨g,0,none⟩) 1 cap) (.cons (sl y) v .nil):=by
 have hk:=MsC.one (y:=y) h hn
 refine ⟨memCells y c,hk,.inr ⟨_,cap,rfl,hk.length,fun j u hj=>?_,mem_cells1 hk⟩⟩
 rw [addr_at,Nat.zero_add]
 exact hc j u hj
theorem OwnM.app {w w':World} {B:Nat} {L:Nat→Prop} {v v':Value} {f g:M} {xs ys:List Value} {S S1:Nat→Prop} (hk:MsC S w f xs) (hS:∀ k,S k→L k∧v.ownBlock≠some k) (hg:MsC S1 w g ys) (hS1:∀ k,S1 k→L k∧v.ownBlock≠some k)
  (ho:w'.ownsRow B 90 4 v' (f.len+g.len) (xs++ys)) (ha:AppF w w' v v'):OwnM w' B L v' (f.append g):=by
 have h1:=(hk.imp (S':=fun k=>(S k∨S1 k)∧k < w.heap.size) (fun k hl h=>⟨.inl h,hl⟩)).append (hg.imp (S':=fun k=>(S k∨S1 k)∧k < w.heap.size) (fun k hl h=>⟨.inr h,hl⟩))
 have hno:∀ k,((S k∨S1 k)∧k < w.heap.size)→L k∧v.ownBlock≠some k:=fun k h=>by rcases h.1 with h|h;exact hS k h;exact hS1 k h
 refine ⟨_,_,by rw [M.append_len];exact ho,h1.keep (KeepS.app ha fun k h=>(hno k h).2),fun k h=>⟨(hno k h).1,?_⟩⟩
 exact AppF.far ha (hno k h).2 h.2
theorem OwnM.far {w:World} {B:Nat} {L:Nat→Prop} {v:Value} {m:M} (h:OwnM w B L v m):∀ k,v.ownBlock=some k→B≤k∧k < w.heap.size:=by
 obtain ⟨xs,S,h1,_⟩:=h
 exact owns_lt h1
theorem OwnM.chg {X:Nat→Prop} {w w':World} {B:Nat} {L:Nat→Prop} {v:Value} {m:M} (h:OwnM w B L v m) (hc:Chg X w w') (hL:∀ k,L k→¬ X k) (hv:∀ k,v.ownBlock=some k→¬ X k):OwnM w' B L v m:=by
 obtain ⟨xs,S,h1,h2,h3⟩:=h
 refine ⟨xs,S,⟨h1.1,?_⟩,h2.keep (KeepS.chg hc fun k hk=>hL k (h3 k hk).1),h3⟩
 rcases h1.2 with h|⟨g,cap,cur,rfl,hb,hg,r⟩
 ·exact .inl h
 ·refine .inr ⟨g,cap,cur,rfl,hb,?_,r⟩
  have hlt:g < w.heap.size:=(Array.getElem?_eq_some_iff.1 hg).1
  rw [hc.block g hlt (hv g rfl)]
  exact hg
theorem OwnM.keep {w w':World} {B:Nat} {L:Nat→Prop} {v:Value} {m:M} (h:OwnM w B L v m) (hb:Below w.heap.size w w'):OwnM w' B L v m:=by
 obtain ⟨xs,S,h1,h2,h3⟩:=h
 exact ⟨xs,S,owns_keep h1 hb,h2.keep (KeepS.below hb),h3⟩
end Go.Proofs.YtmooaepbdmengaaGreatDoor
namespace Go.Proofs.YtmooaepbdmengaaGreatDoor
open Go.ChangeShapes Go.WideShapes Go.ChangeAt Go.RowKit
set_option linter.unusedVariables false
set_option linter.unusedSimpArgs false
theorem add_at (b o i:Nat):(⟨b,o,none⟩:Addr).add i=⟨b,o+i,none⟩:=by unfold Addr.add;split<;>simp_all
theorem row_of {w:World} {x:Addr} {n:Nat} {f:Nat→Value} (h:∀ i,i < n→w.cell? (x.add i)=some (f i)):RdF w (some x) n f:=by
 intro i hi
 obtain ⟨b,o,s⟩:=x
 have hs:s=none:=by
  have:=World.cell?_spot (h 0 (by omega))
  simpa [Addr.add] using this
 subst hs
 exact ⟨b,o,rfl,by rw [← add_at];exact h i hi⟩
theorem open_ints_row {H:Type} {enc:TypeId × Value→H} {P:Program} {W:World} {t e:TypeId} {k:IntKind} {a:Option Addr} {len cap:Nat} {d:DataW H} {p:List MemPlace}
  (ht:P.underlying t=some (.slice e)) (he:P.underlying e=some (.int k)) (hc:P.cellsOf e=1) (h:DataW.Trod enc P W 0 (fun _=>true) true t (.slice a len cap) d p):∃ l,RdI k W a len l:=by
 obtain ⟨fuel,hf⟩:=h
 rcases open_ints ht he hc hf with ⟨hcs,_⟩|⟨x,l,c,zs,hcs,_,hl,hm,hz,_,hcell,hwz⟩
 ·simp [Value.cells] at hcs
  obtain ⟨rfl,rfl,rfl⟩:=hcs
  exact ⟨[],rfl,by omega,by simp,fun i hi=>absurd hi (Nat.not_lt_zero i)⟩
 ·simp [Value.cells] at hcs
  obtain ⟨rfl,rfl,rfl⟩:=hcs
  simp at hz
  refine ⟨zs.take len,by simp;omega,by unfold maxLen at hm;omega,fun n hn=>hwz n (List.mem_of_mem_take hn),row_of fun i hi=>?_⟩
  rw [getD_take _ _ _ _ hi]
  exact hcell i (by omega)
theorem RdI.bytes {W:World} {a:Option Addr} {len:Nat} {l:List Int} (h:RdI .u8 W a len l):RdB W a len (l.map fun n=>UInt8.ofNat n.toNat):=by
 refine ⟨by simpa using h.1,h.2.1,fun i hi=>?_⟩
 obtain ⟨b,o,ha,hc⟩:=h.2.2.2 i hi
 refine ⟨b,o,ha,?_⟩
 rw [hc]
 have hl:i < l.length:=by rw [h.1];exact hi
 have hw:=h.2.2.1 (l.getD i 0) (by rw [List.getD_eq_getElem?_getD,List.getElem?_eq_getElem hl];exact List.getElem_mem hl)
 simp only [Lit.wf,IntKind.min,IntKind.max,IntKind.signed,IntKind.bits,Bool.and_eq_true] at hw
 have e:bAt (l.map fun n=>UInt8.ofNat n.toNat) i=(l.getD i 0).toNat:=by
  unfold bAt
  rw [List.getD_eq_getElem?_getD,List.getElem?_map,List.getElem?_eq_getElem hl,List.getD_eq_getElem?_getD,List.getElem?_eq_getElem hl]
  rw [List.getD_eq_getElem?_getD,List.getElem?_eq_getElem hl] at hw
  simp at hw ⊢
  omega
 simp only [e]
 simp at hw
 congr 2
 simp
 omega
theorem open_bytes {H:Type} {enc:TypeId × Value→H} {P:Program} {W:World} {t e:TypeId} {a:Option Addr} {len cap:Nat} {d:DataW H} {p:List MemPlace}
  (ht:P.underlying t=some (.slice e)) (he:P.underlying e=some (.int .u8)) (hc:P.cellsOf e=1) (h:DataW.Trod enc P W 0 (fun _=>true) true t (.slice a len cap) d p):∃ l,RdB W a len l:=by
 obtain ⟨l,hl⟩:=open_ints_row ht he hc h
 exact ⟨_,hl.bytes⟩
theorem wf_i64 {n:Int} (h:(Lit.int .i64 n).wf=true):-9223372036854775808≤n∧n≤9223372036854775807:=by
 simpa [Lit.wf,IntKind.min,IntKind.max,IntKind.signed,IntKind.bits] using h
end Go.Proofs.YtmooaepbdmengaaGreatDoor
namespace Go.Proofs.YtmooaepbdmengaaGreatDoor
open Go.RowKit
set_option linter.unusedVariables false
set_option linter.unusedSimpArgs false
mutual
inductive I where
 | mk (k:Int) (n:Nat) (bs:List UInt8) (text:ByteArray) (kids:IL)
inductive IL where
 | nil
 | cons (x:I) (r:IL)
end
def I.kids:I→IL | .mk _ _ _ _ f=>f
def I.kind:I→Int | .mk k _ _ _ _=>k
def IL.len:IL→Nat
 | .nil=>0
 | .cons _ r=>r.len+1
def IL.get?:IL→Nat→Option I
 | .nil,_=>none
 | .cons x _,0=>some x
 | .cons _ r,i+1=>r.get? i
def IL.drop:Nat→IL→IL
 | 0,m=>m
 | _+1,.nil=>.nil
 | k+1,.cons _ r=>r.drop k
def IL.append:IL→IL→IL
 | .nil,g=>g
 | .cons x r,g=>.cons x (r.append g)
mutual
def I.wt:I→Nat
 | .mk _ _ bs text kids=>2+text.size+bs.length+kids.wt
def IL.wt:IL→Nat
 | .nil=>0
 | .cons x r=>x.wt+r.wt
end
theorem IL.get_some:∀ (m:IL) (i:Nat),i < m.len→∃ x,m.get? i=some x
 | .nil,i,h=>by simp [IL.len] at h
 | .cons x r,0,h=>⟨x,rfl⟩
 | .cons x r,i+1,h=>IL.get_some r i (by simp only [IL.len] at h;omega)
theorem IL.drop_get:∀ (m:IL) (k:Nat) (x:I),m.get? k=some x→m.drop k=.cons x (m.drop (k+1))
 | .nil,k,x,h=>by simp [IL.get?] at h
 | .cons y r,0,x,h=>by
  simp only [IL.get?,Option.some.injEq] at h
  subst h
  simp [IL.drop]
 | .cons y r,k+1,x,h=>IL.drop_get r k x h
theorem IL.drop_len:∀ (m:IL) (k:Nat),m.len≤k→m.drop k=.nil
 | .nil,0,_=>rfl
 | .nil,k+1,_=>rfl
 | .cons _ r,0,h=>by simp [IL.len] at h
 | .cons _ r,k+1,h=>IL.drop_len r k (by simp only [IL.len] at h;omega)
theorem IL.append_len:∀ f g:IL,(f.append g).len=f.len+g.len
 | .nil,g=>by simp [IL.append,IL.len]
 | .cons x r,g=>by simp only [IL.append,IL.len,IL.append_len r g];omega
theorem IL.append_nil:∀ f:IL,f.append .nil=f
 | .nil=>rfl
 | .cons x r=>by simp only [IL.append,IL.append_nil r]
theorem I.wt_pos:∀ x:I,2≤x.wt
 | .mk ..=>by simp only [I.wt];omega
theorem IL.len_wt:∀ f:IL,f.len * 2≤f.wt
 | .nil=>by simp [IL.len]
 | .cons x r=>by have:=IL.len_wt r;have:=I.wt_pos x;simp only [IL.len,IL.wt];omega
theorem IL.wt_get:∀ (f:IL) (i:Nat) (x:I),f.get? i=some x→x.wt≤f.wt∧(f.drop i).wt=x.wt+(f.drop (i+1)).wt
 | .nil,i,x,h=>by simp [IL.get?] at h
 | .cons y r,0,x,h=>by
  simp only [IL.get?,Option.some.injEq] at h
  subst h
  simp [IL.drop,IL.wt]
 | .cons y r,i+1,x,h=>by
  have:=IL.wt_get r i x h
  simp only [IL.wt,IL.drop]
  omega
theorem IL.drop_wt:∀ (f:IL) (i:Nat),(f.drop i).wt≤f.wt
 | .nil,0=>Nat.le_refl _
 | .nil,i+1=>Nat.le_refl _
 | .cons y r,0=>Nat.le_refl _
 | .cons y r,i+1=>by have:=IL.drop_wt r i;simp only [IL.wt,IL.drop];omega
def Roomy (a:Option Addr) (n c:Nat):Prop:=(a=none→c=0)∧n≤c
abbrev itCells (k:Int) (n:Nat) (ab:Option Addr) (nb cb:Nat) (text:ByteArray) (ak:Option Addr) (nk ck:Nat):Array Value:=
 #[.int .i64 k,.int .u64 (n:Nat),.slice ab nb cb,.string text,.slice ak nk ck]
def ItOk (k:Int) (n:Nat) (text:ByteArray):Prop:=(-9223372036854775808≤k∧k≤9223372036854775807)∧n < okSize∧text.size≤9223372036854775807
def RdBS (S:Nat→Prop) (w:World) (a:Option Addr) (len:Nat) (l:List UInt8):Prop:=RdB w a len l∧(0 < len→∀ p,a=some p→S p.block)
mutual
def RdIt (S:Nat→Prop) (w:World):I→Array Value→Prop
 | .mk k n bs text kids,c=>∃ ab nb cb ak nk ck,c=itCells k n ab nb cb text ak nk ck∧ItOk k n text∧RdBS S w ab nb bs∧kids.len=nk∧(nk≤9223372036854775807∧Roomy ak nk ck∧Roomy ab nb cb)∧RdIs S w ak 0 kids
def RdIs (S:Nat→Prop) (w:World) (a:Option Addr):Nat→IL→Prop
 | _,.nil=>True
 | i,.cons x r=>(∃ b o c,a=some ⟨b,o,none⟩∧S b∧(∀ j,j < 5→w.cell? ⟨b,o+i * 5+j,none⟩=c[j]?)∧RdIt S w x c)∧RdIs S w a (i+1) r
end
theorem RdIt.size {S:Nat→Prop} {w:World}:∀ {x:I} {c:Array Value},RdIt S w x c→c.size=5
 | .mk ..,c,h=>by obtain ⟨_,_,_,_,_,_,rfl,_⟩:=h;rfl
theorem RdIt.cell0 {S:Nat→Prop} {w:World} {b o:Nat} {x:I} {c:Array Value} (h:∀ j,j < 5→w.cell? ⟨b,o+j,none⟩=c[j]?) (hx:RdIt S w x c):b < w.heap.size:=by
 have h0:=h 0 (by omega)
 have hs:=hx.size
 rw [Array.getElem?_eq_getElem (by omega)] at h0
 simpa using cell_block h0
mutual
theorem RdIt.imp {S S':Nat→Prop} {w:World} (hS:∀ k,k < w.heap.size→S k→S' k):∀ {x:I} {c:Array Value},RdIt S w x c→RdIt S' w x c
 | .mk ..,c,h=>by
  obtain ⟨ab,nb,cb,ak,nk,ck,h1,h2,h3,h4,h5,h6⟩:=h
  refine ⟨ab,nb,cb,ak,nk,ck,h1,h2,⟨h3.1,fun hn p hp=>?_⟩,h4,h5,RdIs.imp hS h6⟩
  obtain ⟨b,o,ha,hc⟩:=h3.1.at 0 hn
  refine hS _ ?_ (h3.2 hn p hp)
  rw [hp] at ha
  obtain rfl:=Option.some.inj ha
  have:=cell_block hc
  simpa using this
theorem RdIs.imp {S S':Nat→Prop} {w:World} (hS:∀ k,k < w.heap.size→S k→S' k) {a:Option Addr}:∀ {i:Nat} {f:IL},RdIs S w a i f→RdIs S' w a i f
 | _,.nil,_=>trivial
 | i,.cons x r,h=>by
  obtain ⟨⟨b,o,c,h1,h1',h4,h5⟩,h6⟩:=h
  exact ⟨⟨b,o,c,h1,hS _ (RdIt.cell0 h4 h5) h1',h4,RdIt.imp hS h5⟩,RdIs.imp hS h6⟩
end
theorem RdBS.keep {S:Nat→Prop} {w w':World} (hk:KeepS S w w') {a len l} (h:RdBS S w a len l):RdBS S w' a len l:=by
 refine ⟨⟨h.1.1,h.1.2.1,fun i hi=>?_⟩,h.2⟩
 obtain ⟨b,o,ha,hc⟩:=h.1.at i hi
 exact ⟨b,o,ha,hk ⟨b,o+i,none⟩ _ (h.2 (by omega) ⟨b,o,none⟩ ha) hc⟩
mutual
theorem RdIt.keep {S:Nat→Prop} {w w':World} (hk:KeepS S w w'):∀ {x:I} {c:Array Value},RdIt S w x c→RdIt S w' x c
 | .mk ..,c,h=>by
  obtain ⟨ab,nb,cb,ak,nk,ck,h1,h2,h3,h4,h5,h6⟩:=h
  exact ⟨ab,nb,cb,ak,nk,ck,h1,h2,h3.keep hk,h4,h5,RdIs.keep hk h6⟩
theorem RdIs.keep {S:Nat→Prop} {w w':World} (hk:KeepS S w w') {a:Option Addr}:∀ {i:Nat} {f:IL},RdIs S w a i f→RdIs S w' a i f
 | _,.nil,_=>trivial
 | i,.cons x r,h=>by
  obtain ⟨⟨b,o,c,h1,h1',h4,h5⟩,h6⟩:=h
  refine ⟨⟨b,o,c,h1,h1',fun j hj=>?_,RdIt.keep hk h5⟩,RdIs.keep hk h6⟩
  exact cell_of hk (p:=⟨b,o+i * 5+j,none⟩) h1' (h4 j hj) (by rw [Array.getElem?_eq_getElem (by rw [h5.size];exact hj)];rfl)
end
theorem RdIt.below {S:Nat→Prop} {w w':World} {x:I} {c:Array Value} (h:RdIt S w x c) (hb:Below w.heap.size w w'):RdIt S w' x c:=h.keep (KeepS.below hb)
theorem RdIs.below {S:Nat→Prop} {w w':World} {a:Option Addr} {i:Nat} {f:IL} (h:RdIs S w a i f) (hb:Below w.heap.size w w'):RdIs S w' a i f:=h.keep (KeepS.below hb)
def KidI (S:Nat→Prop) (w:World) (a:Option Addr) (i:Nat) (x:I):Prop:=
 ∃ b o c,a=some ⟨b,o,none⟩∧S b∧(∀ j,j < 5→w.cell? ⟨b,o+i * 5+j,none⟩=c[j]?)∧RdIt S w x c
theorem RdIs.atFrom {S:Nat→Prop} {w:World} {a:Option Addr}:∀ {f:IL} {i j:Nat} {x:I},RdIs S w a i f→f.get? j=some x→KidI S w a (i+j) x
 | .nil,i,j,x,h,hj=>by simp [IL.get?] at hj
 | .cons y r,i,0,x,h,hj=>by
  simp only [IL.get?,Option.some.injEq] at hj
  subst hj
  exact h.1
 | .cons y r,i,j+1,x,h,hj=>by
  have:=RdIs.atFrom (i:=i+1) h.2 hj
  rwa [show i+1+j=i+(j+1) from by omega] at this
theorem RdIs.at {S:Nat→Prop} {w:World} {a:Option Addr} {f:IL} {j:Nat} {x:I} (h:RdIs S w a 0 f) (hj:f.get? j=some x):KidI S w a j x:=by
 have:=RdIs.atFrom h hj
 rwa [Nat.zero_add] at this
theorem KidI.cells {S:Nat→Prop} {w:World} {a:Option Addr} {i:Nat} {x:I} (h:KidI S w a i x) :
  ∃ (b o:Nat) (k:Int) (n:Nat) (bs:List UInt8) (text:ByteArray) (kids:IL) (ab:Option Addr) (nb cb:Nat) (ak:Option Addr) (nk ck:Nat),
   a=some ⟨b,o,none⟩∧x=.mk k n bs text kids∧b < w.heap.size∧RdIt S w x (itCells k n ab nb cb text ak nk ck) ∧
   w.cell? ⟨b,o+i * 5,none⟩=some (.int .i64 k)∧w.cell? ⟨b,o+i * 5+1,none⟩=some (.int .u64 (n:Nat))∧w.cell? ⟨b,o+i * 5+2,none⟩=some (.slice ab nb cb) ∧
   w.cell? ⟨b,o+i * 5+3,none⟩=some (.string text)∧w.cell? ⟨b,o+i * 5+4,none⟩=some (.slice ak nk ck):=by
 obtain ⟨b,o,c,h1,_,h4,h5⟩:=h
 match x,h5 with
 | .mk k n bs text kids,h5=>
  have h5':=h5
  obtain ⟨ab,nb,cb,ak,nk,ck,rfl,_⟩:=h5
  exact ⟨b,o,k,n,bs,text,kids,ab,nb,cb,ak,nk,ck,h1,rfl,RdIt.cell0 h4 h5',h5',h4 0 (by omega),h4 1 (by omega),h4 2 (by omega),h4 3 (by omega),h4 4 (by omega)⟩
theorem RdIt.shape {S:Nat→Prop} {w:World} {x:I} {c:Array Value} (h:RdIt S w x c):∃ k n ab nb cb text ak nk ck,c=itCells k n ab nb cb text ak nk ck:=by
 cases x with
 | mk k n bs text kids=>
  obtain ⟨ab,nb,cb,ak,nk,ck,rfl,_⟩:=h
  exact ⟨_,_,_,_,_,_,_,_,_,rfl⟩
def IsC (S:Nat→Prop) (w:World):IL→List Value→Prop
 | .nil,xs=>xs=[]
 | .cons x r,xs=>∃ c ys,xs=Array.toList c++ys∧RdIt S w x c∧IsC S w r ys
theorem IsC.length {S:Nat→Prop} {w:World}:∀ {f:IL} {xs:List Value},IsC S w f xs→xs.length=f.len * 5
 | .nil,xs,h=>by have:xs=[]:=h;subst this;rfl
 | .cons x r,xs,h=>by
  obtain ⟨c,ys,rfl,h1,h2⟩:=h
  have:=IsC.length h2
  have hs:=h1.size
  simp only [List.length_append,Array.length_toList,hs,this,IL.len]
  omega
theorem IsC.keep {S:Nat→Prop} {w w':World} (hk:KeepS S w w'):∀ {f:IL} {xs:List Value},IsC S w f xs→IsC S w' f xs
 | .nil,xs,h=>h
 | .cons x r,xs,h=>by
  obtain ⟨c,ys,rfl,h1,h3⟩:=h
  exact ⟨c,ys,rfl,h1.keep hk,IsC.keep hk h3⟩
theorem IsC.imp {S S':Nat→Prop} {w:World} (hS:∀ k,k < w.heap.size→S k→S' k):∀ {f:IL} {xs:List Value},IsC S w f xs→IsC S' w f xs
 | .nil,xs,h=>h
 | .cons x r,xs,h=>by
  obtain ⟨c,ys,rfl,h1,h3⟩:=h
  exact ⟨c,ys,rfl,h1.imp hS,IsC.imp hS h3⟩
theorem IsC.append {S:Nat→Prop} {w:World}:∀ {f g:IL} {xs ys:List Value},IsC S w f xs→IsC S w g ys→IsC S w (f.append g) (xs++ys)
 | .nil,g,xs,ys,h,k=>by have:xs=[]:=h;subst this;exact k
 | .cons x r,g,xs,ys,h,k=>by
  obtain ⟨c,zs,rfl,h1,h3⟩:=h
  exact ⟨c,zs++ys,by simp,h1,IsC.append h3 k⟩
theorem IsC.one {S:Nat→Prop} {w:World} {x:I} {c:Array Value} (h:RdIt S w x c):IsC S w (.cons x .nil) c.toList:=⟨c,[],by simp,h,rfl⟩
theorem IsC.reads {S S':Nat→Prop} {w:World} {b o:Nat} (hS:∀ k,k < w.heap.size→S k→S' k) (hb:S' b):∀ {f:IL} {xs:List Value} (i:Nat),IsC S w f xs→(∀ j u,xs[j]?=some u→w.cell? ⟨b,o+(i * 5+j),none⟩=some u)→RdIs S' w (some ⟨b,o,none⟩) i f
 | .nil,_,_,_,_=>trivial
 | .cons x r,xs,i,h,hc=>by
  obtain ⟨c,ys,rfl,h1,h3⟩:=h
  have hs:=h1.size
  refine ⟨⟨b,o,c,rfl,hb,fun j hj=>?_,h1.imp hS⟩,IsC.reads hS hb (i+1) h3 fun j u hu=>?_⟩
  ·have hjc:j < c.size:=by omega
   have:=hc j (c[j]) (by simp [List.getElem?_append,hs,hj])
   rw [show o+i * 5+j=o+(i * 5+j) from by omega,this,Array.getElem?_eq_getElem hjc]
  ·have hl:c.toList.length=5:=by simp [hs]
   have:=hc (5+j) u (by rw [List.getElem?_append_right (by omega),hl];simpa using hu)
   rw [show o+((i+1) * 5+j)=o+(i * 5+(5+j)) from by omega]
   exact this
def OwnI (w:World) (B:Nat) (L:Nat→Prop) (v:Value) (f:IL):Prop:=
 ∃ xs S,w.ownsRow B 39 5 v f.len xs∧IsC S w f xs∧∀ k,S k→L k∧v.ownBlock≠some k
theorem OwnI.nil (w:World) (B:Nat) (L:Nat→Prop):OwnI w B L (.slice none 0 0) .nil:=⟨[],fun _=>False,World.ownsRow_nil _ _ _ _,rfl,fun _ h=>h.elim⟩
theorem OwnI.reads {w:World} {B:Nat} {L:Nat→Prop} {v:Value} {f:IL} (h:OwnI w B L v f) (hL:∀ k,B≤k→L k):∃ a c,v=.slice a f.len c∧RdIs L w a 0 f∧Roomy a f.len c∧f.len≤9223372036854775807:=by
 obtain ⟨xs,S,ho,hk,hS⟩:=h
 have hlen:=hk.length
 rcases ho.2 with ⟨rfl,h0⟩|⟨g,cap,cur,rfl,hb,hg,hnc,hcm,hcs,htake⟩
 ·have hf:f=.nil:=by cases f with
   | nil=>rfl
   | cons=>simp [IL.len] at h0
  subst hf
  exact ⟨none,0,rfl,trivial,⟨fun _=>rfl,by simp [IL.len]⟩,by simp [IL.len]⟩
 ·refine ⟨some ⟨g,0,none⟩,cap,rfl,?_,⟨by simp,hnc⟩,by unfold maxLen at hcm;omega⟩
  refine IsC.reads (S:=S) (fun k _ h=>(hS k h).1) (hL _ hb) 0 hk fun j u hj=>?_
  have hjl:j < xs.length:=(List.getElem?_eq_some_iff.1 hj).1
  have:=ho.cellAt j (by omega)
  rw [show 0+(0 * 5+j)=j by omega,this]
  exact hj
def zeroIt:Value:=.agg (itCells 0 0 none 0 0 ByteArray.empty none 0 0)
theorem infoIt:(Tryz.prog.info? 39).map (fun i=>(i.zero,i.size,i.bytes))=some (some zeroIt,5,80):=by kernel_rfl
theorem one_of_cells {S:Nat→Prop} {w:World}:∀ {f:IL} {xs:List Value},IsC S w f xs→∀ u ∈ xs,u.oneCell'=true
 | .nil,xs,h,u,hu=>by have:xs=[]:=h;subst this;simp at hu
 | .cons x r,xs,h,u,hu=>by
  obtain ⟨c,ys,rfl,h1,h3⟩:=h
  rw [List.mem_append] at hu
  rcases hu with hu|hu
  ·obtain ⟨k,n,ab,nb,cb,text,ak,nk,ck,rfl⟩:=h1.shape
   simp at hu
   rcases hu with rfl|rfl|rfl|rfl|rfl<;>rfl
  ·exact one_of_cells h3 u hu
def SrcI (S:Nat→Prop) (w:World) (sv:Value) (f:IL):Prop:=∃ xs,IsC S w f xs∧Src w sv f.len 5 xs
theorem SrcI.one {S:Nat→Prop} {w:World} {g:Nat} {cap:Nat} {x:I} {c:Array Value} (h:RdIt S w x c) (hc:∀ j u,c.toList[j]?=some u→w.cell? ⟨g,j,none⟩=some u) :
  SrcI S w (.slice (some ⟨g,0,none⟩) 1 cap) (.cons x .nil):=by
 have hk:=IsC.one h
 refine ⟨c.toList,hk,.inr ⟨_,cap,rfl,hk.length,fun j u hj=>?_,one_of_cells hk⟩⟩
 rw [add_at,Nat.zero_add]
 exact hc j u hj
theorem OwnI.app {w w':World} {B:Nat} {L:Nat→Prop} {v v':Value} {f g:IL} {xs ys:List Value} {S S1:Nat→Prop} (hk:IsC S w f xs) (hS:∀ k,S k→L k∧v.ownBlock≠some k) (hg:IsC S1 w g ys) (hS1:∀ k,S1 k→L k∧v.ownBlock≠some k)
  (ho:w'.ownsRow B 39 5 v' (f.len+g.len) (xs++ys)) (ha:AppF w w' v v'):OwnI w' B L v' (f.append g):=by
 have h1:=(hk.imp (S':=fun k=>(S k∨S1 k)∧k < w.heap.size) (fun k hl h=>⟨.inl h,hl⟩)).append (hg.imp (S':=fun k=>(S k∨S1 k)∧k < w.heap.size) (fun k hl h=>⟨.inr h,hl⟩))
 have hno:∀ k,((S k∨S1 k)∧k < w.heap.size)→L k∧v.ownBlock≠some k:=fun k h=>by rcases h.1 with h|h;exact hS k h;exact hS1 k h
 refine ⟨_,_,by rw [IL.append_len];exact ho,h1.keep (KeepS.app ha fun k h=>(hno k h).2),fun k h=>⟨(hno k h).1,?_⟩⟩
 exact AppF.far ha (hno k h).2 h.2
theorem wpList_appI {w:World} {ops:Array Oper} {rest:List Oper} {o:Oper} {a:Act} {Q:Exit→Act→World→Prop} (hgd:o.guard=none) (s x:Operand)
  (ho:o.op=.call { callee:=.builtin .append,args:=#[s,x],argTypes:=#[37,37] })
  {B:Nat} {L:Nat→Prop} {v:Value} {f:IL} (hs:a.eval s=v) (hown:OwnI w B L v f) {sv:Value} {g:IL} {S1:Nat→Prop} (hx:a.eval x=sv) (hsrc:SrcI S1 w sv g) (hS1:∀ k,S1 k→L k∧v.ownBlock≠some k)
  (hb:f.len+g.len≤1000000000) (hbase:B≤w.heap.size)
  (h:∀ v' w',OwnI w' B L v' (f.append g)→AppF w w' v v'→wpList Tryz.prog ops Q rest (a.put o.dst v') w'):wpList Tryz.prog ops Q (o::rest) a w:=by
 obtain ⟨xs,S,ho',hk,hS⟩:=hown
 obtain ⟨ys,hg,hsr⟩:=hsrc
 exact wpList_app Tryz.underlying37 infoIt rfl (by omega) hgd s x ho hs ho' hx hsr (by unfold maxLen;omega) (by omega) hbase
  fun v' w' h1 h2=>h v' w' (OwnI.app hk hS hg hS1 h1 h2) h2
theorem step_appI {w:World} {ops:Array Oper} {o:Oper} {a:Act} {K:Act→World→Prop} {Q:Exit→Act→World→Prop} {E:Prop} (hgd:o.guard=none) (s x:Operand)
  (ho:o.op=.call { callee:=.builtin .append,args:=#[s,x],argTypes:=#[37,37] })
  {B:Nat} {L:Nat→Prop} {v:Value} {f:IL} (hs:a.eval s=v) (hown:OwnI w B L v f) {sv:Value} {g:IL} {S1:Nat→Prop} (hx:a.eval x=sv) (hsrc:SrcI S1 w sv g) (hS1:∀ k,S1 k→L k∧v.ownBlock≠some k)
  (hb:f.len+g.len≤1000000000) (hbase:B≤w.heap.size)
  (h:∀ v' w',OwnI w' B L v' (f.append g)→AppF w w' v v'→K (a.put o.dst v') w'):if Region.wanted o (yielded ops a.tmps)=true then Oper.wp Tryz.prog o a w K Q else E:=by
 obtain ⟨xs,S,ho',hk,hS⟩:=hown
 obtain ⟨ys,hg,hsr⟩:=hsrc
 exact step_app Tryz.underlying37 infoIt rfl (by omega) hgd s x ho hs ho' hx hsr (by unfold maxLen;omega) (by omega) hbase
  fun v' w' h1 h2=>h v' w' (OwnI.app hk hS hg hS1 h1 h2) h2
theorem OwnI.keep {w w':World} {B:Nat} {L:Nat→Prop} {v:Value} {f:IL} (h:OwnI w B L v f) (hb:Below w.heap.size w w'):OwnI w' B L v f:=by
 obtain ⟨xs,S,h1,h2,h3⟩:=h
 exact ⟨xs,S,owns_keep h1 hb,h2.keep (KeepS.below hb),h3⟩
theorem OwnI.far {w:World} {B:Nat} {L:Nat→Prop} {v:Value} {f:IL} (h:OwnI w B L v f):∀ k,v.ownBlock=some k→B≤k∧k < w.heap.size:=by
 obtain ⟨xs,S,h1,_⟩:=h
 exact owns_lt h1
theorem new_cells (w:World) (cs:Array Value) (t:TypeId) (xs:List Value) (hx:xs=cs.toList) (j:Nat) (u:Value) (h:xs[j]?=some u):(w.alloc (.cells cs t)).cell? ⟨w.heap.size,j,none⟩=some u:=by
 subst hx
 rw [Array.getElem?_toList] at h
 simpa [go_sem] using h
end Go.Proofs.YtmooaepbdmengaaGreatDoor
namespace Go.Proofs.YtmooaepbdmengaaGreatDoor
open Go.ChangeShapes Go.WideShapes Go.ChangeAt Go.RowKit
set_option linter.unusedVariables false
set_option linter.unusedSimpArgs false
mutual
inductive T where
 | mk (k:Int) (bits hi lo:Nat) (text more:ByteArray) (sub:Int) (bs:List UInt8) (kids:F)
inductive F where
 | nil
 | cons (n:ByteArray) (t:T) (r:F)
end
def T.kids:T→F | .mk _ _ _ _ _ _ _ _ f=>f
def T.kind:T→Int | .mk k _ _ _ _ _ _ _ _=>k
def F.len:F→Nat
 | .nil=>0
 | .cons _ _ r=>r.len+1
def F.get?:F→Nat→Option (ByteArray × T)
 | .nil,_=>none
 | .cons n t _,0=>some (n,t)
 | .cons _ _ r,i+1=>r.get? i
mutual
def T.depth:T→Nat
 | .mk _ _ _ _ _ _ _ _ f=>f.depth+1
def F.depth:F→Nat
 | .nil=>0
 | .cons _ t r=>max t.depth r.depth
end
theorem F.get_lt:∀ (f:F) (i:Nat) (x:ByteArray × T),f.get? i=some x→i < f.len∧x.2.depth≤f.depth
 | .nil,i,x,h=>by simp [F.get?] at h
 | .cons n t r,0,x,h=>by
  simp only [F.get?,Option.some.injEq] at h
  subst h
  simp only [F.len,F.depth]
  exact ⟨by omega,Nat.le_max_left _ _⟩
 | .cons n t r,i+1,x,h=>by
  have:=F.get_lt r i x h
  simp only [F.len,F.depth]
  exact ⟨by omega,Nat.le_trans this.2 (Nat.le_max_right _ _)⟩
theorem F.get_some:∀ (f:F) (i:Nat),i < f.len→∃ x,f.get? i=some x
 | .nil,i,h=>by simp [F.len] at h
 | .cons n t r,0,h=>⟨(n,t),rfl⟩
 | .cons n t r,i+1,h=>F.get_some r i (by simp only [F.len] at h;omega)
abbrev valCells (k:Int) (bits hi lo:Nat) (text more:ByteArray) (sub:Int) (ab:Option Addr) (nb cb:Nat) (ak:Option Addr) (nk ck:Nat):Array Value:=
 #[.int .i64 k,.int .u64 (bits:Nat),.int .u64 (hi:Nat),.int .u64 (lo:Nat),.string text,.string more,.int .i64 sub,.slice ab nb cb,.slice ak nk ck]
def OwnOk (k:Int) (bits hi lo:Nat) (text more:ByteArray) (sub:Int):Prop:=
 (-9223372036854775808≤k∧k≤9223372036854775807)∧bits < okSize∧hi < okSize∧lo < okSize∧text.size≤9223372036854775807∧more.size≤9223372036854775807∧(-9223372036854775808≤sub∧sub≤9223372036854775807)
mutual
def RdT (w:World):T→Array Value→Prop
 | .mk k bits hi lo text more sub bs kids,c=>∃ ab nb cb ak nk ck,c=valCells k bits hi lo text more sub ab nb cb ak nk ck∧OwnOk k bits hi lo text more sub∧RdB w ab nb bs∧kids.len=nk∧(nk≤9223372036854775807∧Roomy ak nk ck∧Roomy ab nb cb)∧RdKs w ak 0 kids
def RdKs (w:World) (a:Option Addr):Nat→F→Prop
 | _,.nil=>True
 | i,.cons n t r=>(∃ b o c,a=some ⟨b,o,none⟩∧n.size≤9223372036854775807∧w.cell? ⟨b,o+i * 10,none⟩=some (.string n)∧(∀ j,j < 9→w.cell? ⟨b,o+i * 10+(j+1),none⟩=c[j]?)∧RdT w t c)∧RdKs w a (i+1) r
end
theorem RdT.size {w:World}:∀ {t:T} {c:Array Value},RdT w t c→c.size=9
 | .mk ..,c,h=>by obtain ⟨_,_,_,_,_,_,rfl,_⟩:=h;rfl
mutual
theorem RdT.keep {w w':World} (hb:Below w.heap.size w w'):∀ {t:T} {c:Array Value},RdT w t c→RdT w' t c
 | .mk k bits hi lo text more sub bs kids,c,h=>by
  obtain ⟨ab,nb,cb,ak,nk,ck,h1,h2,h3,h4,h5,h6⟩:=h
  exact ⟨ab,nb,cb,ak,nk,ck,h1,h2,h3.keep hb,h4,h5,RdKs.keep hb h6⟩
theorem RdKs.keep {w w':World} (hb:Below w.heap.size w w') {a:Option Addr}:∀ {i:Nat} {f:F},RdKs w a i f→RdKs w' a i f
 | _,.nil,_=>trivial
 | i,.cons n t r,h=>by
  obtain ⟨⟨b,o,c,h1,h2,h3,h4,h5⟩,h6⟩:=h
  have hl:=cell_block h3
  refine ⟨⟨b,o,c,h1,h2,?_,fun j hj=>?_,RdT.keep hb h5⟩,RdKs.keep hb h6⟩
  ·rw [hb.cell (p:=⟨b,o+i * 10,none⟩) (by simpa using hl)];exact h3
  ·rw [hb.cell (p:=⟨b,o+i * 10+(j+1),none⟩) (by simpa using hl)];exact h4 j hj
end
def KidAt (w:World) (a:Option Addr) (i:Nat) (n:ByteArray) (t:T):Prop:=
 ∃ b o c,a=some ⟨b,o,none⟩∧n.size≤9223372036854775807∧w.cell? ⟨b,o+i * 10,none⟩=some (.string n)∧(∀ j,j < 9→w.cell? ⟨b,o+i * 10+(j+1),none⟩=c[j]?)∧RdT w t c
theorem RdKs.atFrom {w:World} {a:Option Addr}:∀ {f:F} {i j:Nat} {n:ByteArray} {t:T},RdKs w a i f→f.get? j=some (n,t)→KidAt w a (i+j) n t
 | .nil,i,j,n,t,h,hj=>by simp [F.get?] at hj
 | .cons n' t' r,i,0,n,t,h,hj=>by
  simp only [F.get?,Option.some.injEq,Prod.mk.injEq] at hj
  obtain ⟨rfl,rfl⟩:=hj
  exact h.1
 | .cons n' t' r,i,j+1,n,t,h,hj=>by
  have:=RdKs.atFrom (i:=i+1) h.2 hj
  rwa [show i+1+j=i+(j+1) from by omega] at this
theorem RdKs.at {w:World} {a:Option Addr} {f:F} {j:Nat} {n:ByteArray} {t:T} (h:RdKs w a 0 f) (hj:f.get? j=some (n,t)):KidAt w a j n t:=by
 have:=RdKs.atFrom h hj
 rwa [Nat.zero_add] at this
theorem KidAt.cells {w:World} {a:Option Addr} {i:Nat} {n:ByteArray} {t:T} (h:KidAt w a i n t) :
  ∃ (b o:Nat) (k:Int) (bits hi lo:Nat) (text more:ByteArray) (sub:Int) (bs:List UInt8) (kids:F) (ab:Option Addr) (nb cb:Nat) (ak:Option Addr) (nk ck:Nat),
   a=some ⟨b,o,none⟩∧t=.mk k bits hi lo text more sub bs kids∧n.size≤9223372036854775807∧b < w.heap.size∧RdT w t (valCells k bits hi lo text more sub ab nb cb ak nk ck) ∧
   w.cell? ⟨b,o+i * 10,none⟩=some (.string n)∧w.cell? ⟨b,o+i * 10+1,none⟩=some (.int .i64 k)∧w.cell? ⟨b,o+i * 10+2,none⟩=some (.int .u64 (bits:Nat)) ∧
   w.cell? ⟨b,o+i * 10+3,none⟩=some (.int .u64 (hi:Nat))∧w.cell? ⟨b,o+i * 10+4,none⟩=some (.int .u64 (lo:Nat))∧w.cell? ⟨b,o+i * 10+5,none⟩=some (.string text) ∧
   w.cell? ⟨b,o+i * 10+6,none⟩=some (.string more)∧w.cell? ⟨b,o+i * 10+7,none⟩=some (.int .i64 sub)∧w.cell? ⟨b,o+i * 10+8,none⟩=some (.slice ab nb cb) ∧
   w.cell? ⟨b,o+i * 10+9,none⟩=some (.slice ak nk ck):=by
 obtain ⟨b,o,c,h1,h2,h3,h4,h5⟩:=h
 match t,h5 with
 | .mk k bits hi lo text more sub bs kids,h5=>
  have h5':=h5
  obtain ⟨ab,nb,cb,ak,nk,ck,rfl,_⟩:=h5
  exact ⟨b,o,k,bits,hi,lo,text,more,sub,bs,kids,ab,nb,cb,ak,nk,ck,h1,rfl,h2,by simpa using cell_block h3,h5',h3,h4 0 (by omega),h4 1 (by omega),h4 2 (by omega),h4 3 (by omega),h4 4 (by omega),h4 5 (by omega),h4 6 (by omega),h4 7 (by omega),h4 8 (by omega)⟩
theorem forest_of {w:World} {a:Option Addr}:∀ (len k:Nat),(∀ i,i < len→∃ n t,KidAt w a (k+i) n t)→∃ f:F,f.len=len∧RdKs w a k f
 | 0,k,_=>⟨.nil,rfl,trivial⟩
 | len+1,k,h=>by
  obtain ⟨n,t,h0⟩:=h 0 (by omega)
  obtain ⟨f,hl,hf⟩:=forest_of len (k+1) fun i hi=>by
   obtain ⟨n,t,h1⟩:=h (i+1) (by omega)
   exact ⟨n,t,by rwa [show k+1+i=k+(i+1) from by omega]⟩
  exact ⟨.cons n t f,by simp [F.len,hl],h0,hf⟩
theorem cellsV:Tryz.prog.cellsOf 26=9:=by kernel_rfl
theorem cellsFd:Tryz.prog.cellsOf 66=10:=by kernel_rfl
theorem cellsI:Tryz.prog.cellsOf 3=1:=by kernel_rfl
theorem cellsU:Tryz.prog.cellsOf 22=1:=by kernel_rfl
theorem cellsS:Tryz.prog.cellsOf 9=1:=by kernel_rfl
theorem cellsB:Tryz.prog.cellsOf 23=1:=by kernel_rfl
theorem cellsK:Tryz.prog.cellsOf 24=1:=by kernel_rfl
theorem wf_u64 {n:Int} (h:(Lit.int .u64 n).wf=true):0≤n∧n.toNat < okSize:=by
 simp [Lit.wf,IntKind.min,IntKind.max,IntKind.signed,IntKind.bits] at h
 unfold okSize
 omega
section
variable {H:Type} {enc:TypeId × Value→H} {W:World}
theorem open_u64 {fuel:Nat} {v:Value} {x:DataW H × List MemPlace} (h:DataW.trod enc Tryz.prog W 0 (fun _=>true) true fuel 22 [v]=some x):∃ n:Nat,v=.int .u64 (n:Nat)∧n < okSize:=by
 obtain ⟨n,e,_,hw⟩:=DataW.trod_int Tryz.underlying22 h
 simp at e
 obtain ⟨h0,h1⟩:=wf_u64 hw
 exact ⟨n.toNat,by rw [e,Int.toNat_of_nonneg h0],h1⟩
theorem open_i64 {fuel:Nat} {v:Value} {x:DataW H × List MemPlace} (h:DataW.trod enc Tryz.prog W 0 (fun _=>true) true fuel 3 [v]=some x):∃ n:Int,v=.int .i64 n∧(-9223372036854775808≤n∧n≤9223372036854775807):=by
 obtain ⟨n,e,_,hw⟩:=DataW.trod_int Tryz.underlying3 h
 simp at e
 exact ⟨n,e,wf_i64 hw⟩
theorem open_str {fuel:Nat} {v:Value} {x:DataW H × List MemPlace} (h:DataW.trod enc Tryz.prog W 0 (fun _=>true) true fuel 9 [v]=some x):∃ s:ByteArray,v=.string s∧s.size≤9223372036854775807:=by
 obtain ⟨s,e,_,hw⟩:=DataW.trod_string Tryz.underlying9 h
 simp at e
 exact ⟨s,e,by unfold maxLen at hw;omega⟩
theorem open_bts {fuel:Nat} {v:Value} {x:DataW H × List MemPlace} (h:DataW.trod enc Tryz.prog W 0 (fun _=>true) true fuel 23 [v]=some x):∃ a n c l,v=.slice a n c∧RdB W a n l∧Roomy a n c:=by
 rcases DataW.trod_slice Tryz.underlying23 h with ⟨e,_⟩|⟨a,len,cap,elems,rest,n,_,e,_,_,hlc,_⟩
 ·simp at e
  exact ⟨none,0,0,[],e,.nil _ _,fun _=>rfl,by omega⟩
 ·simp at e
  subst e
  obtain ⟨l,hl⟩:=open_bytes (enc:=enc) (W:=W) Tryz.underlying23 Tryz.underlying5 (by kernel_rfl) ⟨fuel,h⟩
  exact ⟨_,_,_,l,rfl,hl,by simp,hlc⟩
theorem nine {l:List Value} (h:l.length=9):∃ a b c d e f g i j,l=[a,b,c,d,e,f,g,i,j]:=by
 match l,h with
 | [a,b,c,d,e,f,g,i,j],_=>exact ⟨a,b,c,d,e,f,g,i,j,rfl⟩
set_option maxRecDepth 100000 in
theorem open_tree:∀ (fuel:Nat) (cs:List Value) (x:DataW H × List MemPlace),DataW.trod enc Tryz.prog W 0 (fun _=>true) true fuel 26 cs=some x→∃ t,RdT W t cs.toArray:=by
 intro fuel
 induction fuel using Nat.strongRecOn with
 | ind fuel ih=>
  intro cs x h
  obtain ⟨xs,n,rfl,_,hlen,hxl,hg⟩:=DataW.trod_struct Tryz.underlying26 h
  rw [cellsV] at hlen
  obtain ⟨c0,c1,c2,c3,c4,c5,c6,c7,c8,rfl⟩:=nine hlen
  have get:∀ (i:Nat) (f:Field),Tryz.prog.underlying 26=Tryz.prog.underlying 26→xs.length=9→i < 9→∃ y,xs[i]?=some y:=fun i f _ hl hi=>⟨xs[i],List.getElem?_eq_getElem _⟩
  have hl9:xs.length=9:=hxl
  have sm:∀ i,i < 9→∃ y,xs[i]?=some y:=fun i hi=>⟨xs[i]'(by omega),List.getElem?_eq_getElem (by omega)⟩
  obtain ⟨y0,s0⟩:=sm 0 (by omega)
  obtain ⟨y1,s1⟩:=sm 1 (by omega)
  obtain ⟨y2,s2⟩:=sm 2 (by omega)
  obtain ⟨y3,s3⟩:=sm 3 (by omega)
  obtain ⟨y4,s4⟩:=sm 4 (by omega)
  obtain ⟨y5,s5⟩:=sm 5 (by omega)
  obtain ⟨y6,s6⟩:=sm 6 (by omega)
  obtain ⟨y7,s7⟩:=sm 7 (by omega)
  obtain ⟨y8,s8⟩:=sm 8 (by omega)
  have g0:=(hg 0 _ rfl).trans s0
  have g1:=(hg 1 _ rfl).trans s1
  have g2:=(hg 2 _ rfl).trans s2
  have g3:=(hg 3 _ rfl).trans s3
  have g4:=(hg 4 _ rfl).trans s4
  have g5:=(hg 5 _ rfl).trans s5
  have g6:=(hg 6 _ rfl).trans s6
  have g7:=(hg 7 _ rfl).trans s7
  have g8:=(hg 8 _ rfl).trans s8
  simp only [List.getElem_toArray,List.getElem_cons_zero,List.getElem_cons_succ,List.drop_zero,List.drop_succ_cons,List.take_succ_cons,List.take_zero,cellsI] at g0 g6
  simp only [List.getElem_toArray,List.getElem_cons_zero,List.getElem_cons_succ,List.drop_zero,List.drop_succ_cons,List.take_succ_cons,List.take_zero,cellsU] at g1 g2 g3
  simp only [List.getElem_toArray,List.getElem_cons_zero,List.getElem_cons_succ,List.drop_zero,List.drop_succ_cons,List.take_succ_cons,List.take_zero,cellsS] at g4 g5
  simp only [List.getElem_toArray,List.getElem_cons_zero,List.getElem_cons_succ,List.drop_zero,List.drop_succ_cons,List.take_succ_cons,List.take_zero,cellsB] at g7
  simp only [List.getElem_toArray,List.getElem_cons_zero,List.getElem_cons_succ,List.drop_zero,List.drop_succ_cons,List.take_succ_cons,List.take_zero,cellsK] at g8
  obtain ⟨k,rfl,k1⟩:=open_i64 g0
  obtain ⟨bits,rfl,b1⟩:=open_u64 g1
  obtain ⟨hi,rfl,b2⟩:=open_u64 g2
  obtain ⟨lo,rfl,b3⟩:=open_u64 g3
  obtain ⟨text,rfl,b4⟩:=open_str g4
  obtain ⟨more,rfl,b5⟩:=open_str g5
  obtain ⟨sub,rfl,b6⟩:=open_i64 g6
  obtain ⟨ab,nb,cb,bs,rfl,hbs,hrm⟩:=open_bts g7
  have hkids:∃ ak nk ck f,c8=.slice ak nk ck∧F.len f=nk∧(nk≤9223372036854775807∧Roomy ak nk ck∧Roomy ab nb cb)∧RdKs W ak 0 f:=by
   rcases DataW.trod_slice Tryz.underlying24 g8 with ⟨e,_⟩|⟨a,len,cap,elems,rest,m,hm,e,_,_,hlc,hcm,hel,hat,_⟩
   ·simp at e
    exact ⟨none,0,0,.nil,e,rfl,⟨by omega,⟨fun _=>rfl,by omega⟩,hrm⟩,trivial⟩
   ·simp at e
    rw [cellsFd] at hat
    obtain ⟨f,hf,hk⟩:=forest_of (w:=W) (a:=some a) len 0 fun i hi=>by
     have hy:elems[i]?=some (elems[i]'(by omega)):=List.getElem?_eq_getElem (by omega)
     have ha:=(hat i hi).trans hy
     obtain ⟨cs',hc,ht⟩:=Option.bind_eq_some_iff.1 ha
     obtain ⟨_,hcl,hcell⟩:=World.cells?_some hc
     obtain ⟨ys,m',hm',_,_,hyl,hgf⟩:=DataW.trod_struct Tryz.underlying66 ht
     have hy2:ys.length=2:=hyl
     have z0:=(hgf 0 _ rfl).trans (List.getElem?_eq_getElem (by omega))
     have z1:=(hgf 1 _ rfl).trans (List.getElem?_eq_getElem (by omega))
     simp only [List.getElem_toArray,List.getElem_cons_zero,List.getElem_cons_succ,cellsS] at z0
     simp only [List.getElem_toArray,List.getElem_cons_zero,List.getElem_cons_succ,cellsV] at z1
     have hn:((cs'.drop 0).take 1)=[cs'[0]'(by omega)]:=by
      match cs',hcl with
      | a::r,_=>rfl
     rw [hn] at z0
     obtain ⟨nm,en,hnm⟩:=open_str z0
     obtain ⟨t,htt⟩:=ih m' (by omega) _ _ z1
     obtain ⟨b,o,s⟩:=a
     have hs:s=none:=by
      have h0:=hat 0 (by omega)
      have hy0:elems[0]?=some (elems[0]'(by omega)):=List.getElem?_eq_getElem (by omega)
      obtain ⟨cs0,hc0,_⟩:=Option.bind_eq_some_iff.1 (h0.trans hy0)
      obtain ⟨_,hcl0,hcell0⟩:=World.cells?_some hc0
      have:=hcell0 0 (by omega)
      rw [List.getElem?_eq_getElem (by omega)] at this
      have:=World.cell?_spot this
      simpa [Addr.add] using this
     subst hs
     refine ⟨nm,t,b,o,_,rfl,hnm,?_,fun j hj=>?_,htt⟩
     ·have:=hcell 0 (by omega)
      rw [add_at,add_at,List.getElem?_eq_getElem (by omega),en] at this
      simpa using this
     ·have:=hcell (j+1) (by omega)
      rw [add_at,add_at] at this
      rw [Nat.zero_add,this]
      simp [List.getElem?_take,hj,Nat.add_comm]
    exact ⟨_,_,_,f,e,hf,⟨by unfold maxLen at hcm;omega,⟨by simp,hlc⟩,hrm⟩,hk⟩
  obtain ⟨ak,nk,ck,f,rfl,hf1,hf2,hf3⟩:=hkids
  exact ⟨.mk k bits hi lo text more sub bs f,ab,nb,cb,ak,nk,ck,rfl,⟨k1,b1,b2,b3,b4,b5,b6⟩,hbs,hf1,hf2,hf3⟩
set_option maxRecDepth 100000 in
theorem open_value {v:Value} {d:DataW H} {p:List MemPlace} {base:Nat} (hv:Value.okWide Tryz.prog W .any base 26 v) (h:DataW.Trod enc Tryz.prog W 0 (fun _=>true) true 26 v d p):∃ c t,v=.agg c∧RdT W t c:=by
 obtain ⟨cs,rfl,_⟩:=okWide_struct Tryz.underlying26 hv
 obtain ⟨fuel,hf⟩:=h
 obtain ⟨t,ht⟩:=open_tree fuel _ _ hf
 exact ⟨cs,t,rfl,by simpa [Value.cells] using ht⟩
end
end Go.Proofs.YtmooaepbdmengaaGreatDoor
namespace Go.Proofs.YtmooaepbdmengaaGreatDoor
open Go.RowKit
set_option linter.unusedVariables false
set_option linter.unusedSimpArgs false
mutual
def RdTS (S:Nat→Prop) (w:World):T→Array Value→Prop
 | .mk k bits hi lo text more sub bs kids,c=>∃ ab nb cb ak nk ck,c=valCells k bits hi lo text more sub ab nb cb ak nk ck∧OwnOk k bits hi lo text more sub∧RdBS S w ab nb bs∧kids.len=nk∧(nk≤9223372036854775807∧Roomy ak nk ck∧Roomy ab nb cb)∧RdKsS S w ak 0 kids
def RdKsS (S:Nat→Prop) (w:World) (a:Option Addr):Nat→F→Prop
 | _,.nil=>True
 | i,.cons n t r=>(∃ b o c,a=some ⟨b,o,none⟩∧S b∧n.size≤9223372036854775807∧w.cell? ⟨b,o+i * 10,none⟩=some (.string n)∧(∀ j,j < 9→w.cell? ⟨b,o+i * 10+(j+1),none⟩=c[j]?)∧RdTS S w t c)∧RdKsS S w a (i+1) r
end
mutual
theorem RdTS.rd {S:Nat→Prop} {w:World}:∀ {t:T} {c:Array Value},RdTS S w t c→RdT w t c
 | .mk ..,c,h=>by
  obtain ⟨ab,nb,cb,ak,nk,ck,h1,h2,h3,h4,h5,h6⟩:=h
  exact ⟨ab,nb,cb,ak,nk,ck,h1,h2,h3.1,h4,h5,RdKsS.rd h6⟩
theorem RdKsS.rd {S:Nat→Prop} {w:World} {a:Option Addr}:∀ {i:Nat} {f:F},RdKsS S w a i f→RdKs w a i f
 | _,.nil,_=>trivial
 | i,.cons n t r,h=>by
  obtain ⟨⟨b,o,c,h1,_,h2,h3,h4,h5⟩,h6⟩:=h
  exact ⟨⟨b,o,c,h1,h2,h3,h4,RdTS.rd h5⟩,RdKsS.rd h6⟩
end
mutual
theorem RdTS.of {w:World}:∀ {t:T} {c:Array Value},RdT w t c→RdTS (fun k=>k < w.heap.size) w t c
 | .mk ..,c,h=>by
  obtain ⟨ab,nb,cb,ak,nk,ck,h1,h2,h3,h4,h5,h6⟩:=h
  refine ⟨ab,nb,cb,ak,nk,ck,h1,h2,⟨h3,fun hn p hp=>?_⟩,h4,h5,RdKsS.of h6⟩
  obtain ⟨b,o,ha,hc⟩:=h3.at 0 hn
  rw [hp] at ha
  obtain rfl:=Option.some.inj ha
  have:=cell_block hc
  simpa using this
theorem RdKsS.of {w:World} {a:Option Addr}:∀ {i:Nat} {f:F},RdKs w a i f→RdKsS (fun k=>k < w.heap.size) w a i f
 | _,.nil,_=>trivial
 | i,.cons n t r,h=>by
  obtain ⟨⟨b,o,c,h1,h2,h3,h4,h5⟩,h6⟩:=h
  exact ⟨⟨b,o,c,h1,by simpa using cell_block h3,h2,h3,h4,RdTS.of h5⟩,RdKsS.of h6⟩
end
theorem RdTS.size {S:Nat→Prop} {w:World} {t:T} {c:Array Value} (h:RdTS S w t c):c.size=9:=RdT.size h.rd
mutual
theorem RdTS.keep {S:Nat→Prop} {w w':World} (hk:KeepS S w w'):∀ {t:T} {c:Array Value},RdTS S w t c→RdTS S w' t c
 | .mk ..,c,h=>by
  obtain ⟨ab,nb,cb,ak,nk,ck,h1,h2,h3,h4,h5,h6⟩:=h
  exact ⟨ab,nb,cb,ak,nk,ck,h1,h2,h3.keep hk,h4,h5,RdKsS.keep hk h6⟩
theorem RdKsS.keep {S:Nat→Prop} {w w':World} (hk:KeepS S w w') {a:Option Addr}:∀ {i:Nat} {f:F},RdKsS S w a i f→RdKsS S w' a i f
 | _,.nil,_=>trivial
 | i,.cons n t r,h=>by
  obtain ⟨⟨b,o,c,h1,h1',h2,h3,h4,h5⟩,h6⟩:=h
  refine ⟨⟨b,o,c,h1,h1',h2,hk _ _ h1' h3,fun j hj=>?_,RdTS.keep hk h5⟩,RdKsS.keep hk h6⟩
  exact cell_of hk (p:=⟨b,o+i * 10+(j+1),none⟩) h1' (h4 j hj) (by rw [Array.getElem?_eq_getElem (by rw [h5.size];exact hj)];rfl)
end
def BoxV (W:World) (g:Nat) (c:Array Value):Prop:=g < W.heap.size∧∀ j,j < 9→W.cell? ⟨g,j,none⟩=c[j]?∧W.frozen? ⟨g,j,none⟩=false
theorem BoxV.block {W W':World} {g:Nat} {c:Array Value} (h:BoxV W g c) (hs:W.heap.size≤W'.heap.size) (hb:W'.heap[g]?=W.heap[g]?):BoxV W' g c:=
 ⟨Nat.lt_of_lt_of_le h.1 hs,fun j hj=>⟨(World.cell?_of_block (w:=W) hb).trans (h.2 j hj).1,(World.frozen?_of_block (w:=W) hb).trans (h.2 j hj).2⟩⟩
theorem BoxV.keep {W W':World} {g:Nat} {c:Array Value} (h:BoxV W g c) (hb:Below W.heap.size W W'):BoxV W' g c:=h.block hb.size (hb.block g h.1)
theorem BoxV.new (w:World) (c:Array Value) (t:TypeId):BoxV (w.alloc (.cells c t)) w.heap.size c:=
 ⟨by simp,fun j _=>⟨by simp [go_sem],by simp⟩⟩
theorem Chg.set1 (w:World) (g i:Nat) (v:Value):Chg (fun k=>k=g) w (w.setCell ⟨g,i,none⟩ v):=(Chg.refl (fun k=>k=g) w).setCell (p:=⟨g,i,none⟩) (fun _=>rfl) v
theorem Chg.set2 {X:Nat→Prop} {w w':World} {g:Nat} (h:Chg X w w') (hg:X g) (i:Nat) (v:Value):Chg X w (w'.setCell ⟨g,i,none⟩ v):=h.setCell (p:=⟨g,i,none⟩) (fun _=>hg) v
theorem BoxV.nine {W:World} {g:Nat} {k:Int} {bits hi lo:Nat} {text more:ByteArray} {sub:Int} {ab:Option Addr} {nb cb:Nat} {ak:Option Addr} {nk ck:Nat} (h:BoxV W g (valCells k bits hi lo text more sub ab nb cb ak nk ck)) :
  W.cell? ⟨g,0,none⟩=some (.int .i64 k)∧W.cell? ⟨g,1,none⟩=some (.int .u64 (bits:Nat))∧W.cell? ⟨g,2,none⟩=some (.int .u64 (hi:Nat))∧W.cell? ⟨g,3,none⟩=some (.int .u64 (lo:Nat))∧W.cell? ⟨g,4,none⟩=some (.string text)∧W.cell? ⟨g,5,none⟩=some (.string more)∧W.cell? ⟨g,6,none⟩=some (.int .i64 sub)∧W.cell? ⟨g,7,none⟩=some (.slice ab nb cb)∧W.cell? ⟨g,8,none⟩=some (.slice ak nk ck)∧g < W.heap.size:=
 ⟨(h.2 0 (by omega)).1,(h.2 1 (by omega)).1,(h.2 2 (by omega)).1,(h.2 3 (by omega)).1,(h.2 4 (by omega)).1,(h.2 5 (by omega)).1,(h.2 6 (by omega)).1,(h.2 7 (by omega)).1,(h.2 8 (by omega)).1,h.1⟩
theorem RdT.shape {W:World} {t:T} {c:Array Value} (h:RdT W t c):∃ k bits hi lo text more sub ab nb cb ak nk ck,c=(valCells k bits hi lo text more sub ab nb cb ak nk ck):=by
 obtain ⟨k,bits,hi,lo,text,more,sub,bs,kids⟩:=t
 obtain ⟨ab,nb,cb,ak,nk,ck,rfl,-⟩:=h
 exact ⟨_,_,_,_,_,_,_,_,_,_,_,_,_,rfl⟩
def hasBits (k:Int):Bool:=k == 1 || k == 9 || k == 17 || k == 18 || k == 16 || k == 8
def hasWide (k:Int):Bool:=k == 19
def hasText (k:Int):Bool:=k == 2 || k == 13 || k == 14 || k == 11 || k == 12 || k == 15
def hasMore (k:Int):Bool:=k == 11
def hasSub (k:Int):Bool:=k == 5
def hasBytes (k:Int):Bool:=k == 5 || k == 7 || k == 12
def hasKids (k:Int):Bool:=k == 3 || k == 4 || k == 15
def okK (k:Int) (bits:Nat) (sub:Int) (nb:Nat):Bool:=!(k == 16 && decide (4294967296≤bits)) && !(k == 8 && decide (2≤bits)) && !(k == 5 && !(decide (0≤sub) && decide (sub≤255))) && !((k == 7 || k == 12) && !(nb == 12))
def fieldsOf (k:Int) (bits hi lo:Nat) (text more:ByteArray) (sub:Int) (nb nk:Nat):Bool:=
 okK k bits sub nb && (hasBits k || bits == 0) && (hasWide k || hi == 0) && (hasWide k || lo == 0) && (hasText k || text.toList == []) && (hasMore k || more.toList == []) && (hasSub k || sub == 0) && (hasBytes k || nb == 0) && (hasKids k || nk == 0)
end Go.Proofs.YtmooaepbdmengaaGreatDoor

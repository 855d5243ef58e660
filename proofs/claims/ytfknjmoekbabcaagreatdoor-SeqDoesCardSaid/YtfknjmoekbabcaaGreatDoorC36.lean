/-
  A part of a proof. It proves no statement by itself.
-/
import Derived.Test.YtfknjmoekbabcaaGreatDoorC32
set_option linter.unusedSimpArgs false
set_option linter.unusedVariables false
set_option linter.unusedSectionVars false
set_option maxRecDepth 100000
set_option maxHeartbeats 64000000
namespace Go.Proofs.YtfknjmoekbabcaaGreatDoor
namespace Sq
abbrev LL:=List (List Tk)
def fi (L:LL) (k:Tk):Nat:=L.findIdx fun l=>decide (k∈l)
def fj (l:List Tk) (k:Tk):Nat:=l.findIdx fun x=>decide (x=k)
def there (L:LL) (k:Tk):Prop:=fi L k<L.length
instance (L:LL) (k:Tk):Decidable (there L k):=by unfold there;exact inferInstance
def rowOf (L:LL) (k:Tk):List Tk:=L[fi L k]?.getD []
def zcz (L:LL) (k:Tk):Int:=if ¬ OkT k then 30 else if there L k then 0 else 181
def zdl (L:LL) (k:Tk):Int × LL:=if ¬ OkT k then (30,L) else if there L k then (180,L) else (0,L++[[k]])
def zft (L:LL) (k:Tk):Int × LL:=if zcz L k≠0 then (zcz L k,L) else if (rowOf L k).length≠1 then (1,L) else (0,L.eraseIdx (fi L k))
def two (L:LL) (a b:Tk):Bool × Int :=
 if ¬ OkT a∨¬ OkT b then (false,30) else if zcz L a≠0 then (false,zcz L a) else if zcz L b≠0 then (false,zcz L b) else (decide (fi L a=fi L b),0)
def joined (L:LL) (a b:Tk):LL:=(L.eraseIdx (fi L a)).eraseIdx (fi (L.eraseIdx (fi L a)) b)++[rowOf L a++rowOf L b]
def zcw (L:LL) (a b:Tk):Int × LL:=if (two L a b).2≠0 then ((two L a b).2,L) else if (two L a b).1=true then (1,L) else (0,joined L a b)
def cut (L:LL) (k:Tk) (n:Nat):LL:=L.eraseIdx (fi L k)++[(rowOf L k).take n]++[(rowOf L k).drop n]
def zdw (L:LL) (k:Tk) (after:Nat):Int × LL :=
 if zcz L k≠0 then (zcz L k,L) else
 if fj (rowOf L k) k+after=0∨fj (rowOf L k) k+after=(rowOf L k).length then (0,L) else (0,cut L k (fj (rowOf L k) k+after))
theorem zfz {L:LL} {k:Tk}:there L k↔∃ l∈L,k∈l:=by
 unfold there fi
 rw [List.findIdx_lt_length]
 simp
theorem zao {L:LL} {k:Tk}:there L k↔k∈L.flatten:=by
 rw [zfz,List.mem_flatten]
theorem zf4 {L:LL} {k:Tk} (h:fi L k<L.length):rowOf L k=L[fi L k]:=by
 unfold rowOf
 rw [List.getElem?_eq_getElem h]
 rfl
theorem row_mem {L:LL} {k:Tk} (h:there L k):k∈rowOf L k:=by
 rw [zf4 h]
 have:=List.findIdx_getElem (w:=h)
 exact of_decide_eq_true this
theorem row_in {L:LL} {k:Tk} (h:there L k):rowOf L k∈L:=by rw [zf4 h];exact List.getElem_mem h
theorem z5v {l:List Tk} {k:Tk} (h:k∈l):fj l k<l.length:=by
 unfold fj
 rw [List.findIdx_lt_length]
 exact ⟨k,h,by simp⟩
theorem xdz {l:List Tk} {k:Tk} (h:fj l k<l.length):l[fj l k]=k:=by
 have:=List.findIdx_getElem (w:=h)
 exact of_decide_eq_true this
theorem zue {a b:List Tk} {k:Tk} (h:k∉a):fj (a++k::b) k=a.length:=by
 unfold fj
 rw [List.findIdx_append]
 have e:a.findIdx (fun x=>decide (x=k))=a.length:=by
  rw [List.findIdx_eq_length]
  intro x hx
  simp only [decide_eq_false_iff_not]
  rintro rfl
  exact h hx
 rw [e,if_neg (by omega)]
 simp [List.findIdx_cons]
theorem zmj {L:LL} (hn:L.flatten.Nodup) {k:Tk} {i j:Nat} (hi:i<L.length) (hj:j<L.length) (h1:k∈L[i]) (h2:k∈L[j]):i=j:=by
 rw [List.Nodup,List.pairwise_flatten] at hn
 rcases Nat.lt_trichotomy i j with c | c | c
 ·have:=List.pairwise_iff_getElem.1 hn.2 i j hi hj c k h1 k h2
  exact absurd rfl this
 ·exact c
 ·have:=List.pairwise_iff_getElem.1 hn.2 j i hj hi c k h2 k h1
  exact absurd rfl this
theorem xbr {L:LL} (hn:L.flatten.Nodup) {k:Tk} {i:Nat} (hi:i<L.length) (h:k∈L[i]):fi L k=i:=by
 have ht:there L k:=zfz.2 ⟨_,List.getElem_mem hi,h⟩
 have:=row_mem ht
 rw [zf4 ht] at this
 exact zmj hn ht hi this h
theorem row_of {L:LL} (hn:L.flatten.Nodup) {k:Tk} {l:List Tk} (hl:l∈L) (h:k∈l):rowOf L k=l:=by
 obtain ⟨i,hi,rfl⟩:=List.mem_iff_getElem.1 hl
 have ht:there L k:=zfz.2 ⟨_,hl,h⟩
 rw [zf4 ht]
 congr 1
 exact xbr hn hi h
theorem z9q {L:LL} (hn:L.flatten.Nodup) {a b:Tk} (ha:there L a) (hb:there L b):fi L a=fi L b↔b∈rowOf L a:=by
 constructor
 ·intro e
  have h2:rowOf L b=rowOf L a:=by unfold rowOf;rw [e]
  rw [←h2]
  exact row_mem hb
 ·intro h
  rw [zf4 ha] at h
  exact (xbr hn ha h).symm
theorem zpl {L:LL} {i:Nat} (hi:i<L.length):List.Perm L.flatten (L[i]++(L.eraseIdx i).flatten):=by
 induction L generalizing i with
 | nil=>simp at hi
 | cons l L ih =>
  cases i with
  | zero=>exact List.Perm.refl _
  | succ i =>
   have:=ih (i:=i) (by simpa using hi)
   simp only [List.flatten_cons,List.eraseIdx_cons_succ,List.getElem_cons_succ]
   refine (List.Perm.append_left l this).trans ?_
   rw [←List.append_assoc,←List.append_assoc]
   exact List.Perm.append_right _ List.perm_append_comm
theorem zf8 {α β:Type} (f:α→β):∀ (l:List α) (i:Nat),(l.eraseIdx i).map f=(l.map f).eraseIdx i
 | [],_=>rfl
 | x::l,0=>rfl
 | x::l,i+1=>by simp [zf8 f l i]
theorem mem_erase {α:Type} {l:List α} {i:Nat} {x:α} (h:x∈l.eraseIdx i):x∈l:=(List.eraseIdx_sublist l i).mem h
end Sq
end Go.Proofs.YtfknjmoekbabcaaGreatDoor

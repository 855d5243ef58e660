/-
  A part of a proof. It proves no statement by itself.
-/
import Derived.Test.YtfknjmoekbabcaaGreatDoorC01
import Derived.MapKept
import Derived.Maps.OwnSet
import Derived.Maps.RangeWalk
set_option linter.unusedSimpArgs false
set_option linter.unusedVariables false
set_option linter.unusedSectionVars false
set_option maxRecDepth 100000
set_option maxHeartbeats 64000000
namespace Go.Proofs.YtfknjmoekbabcaaGreatDoor
open Go.RowKit Go.MapKept
open Go.ChangeMaps (setBlock)
section
variable {κ ν:Type} [DecidableEq κ]
def zb1:List (κ × ν)→κ→Option ν
 | [],_=>none
 | (a,v)::l,k=>if a=k then some v else zb1 l k
def zid:List (κ × ν)→κ→ν→List (κ × ν)
 | [],k,v=>[(k,v)]
 | (a,u)::l,k,v=>if a=k then (k,v)::l else (a,u)::zid l k v
def zpz (l:List (κ × ν)) (k:κ):List (κ × ν):=l.filter fun p=>decide (p.1≠k)
theorem zek (l:List (κ × ν)) (k:κ) (v:ν):zb1 (zid l k v) k=some v:=by
 induction l with
 | nil=>simp [zid,zb1]
 | cons p l ih =>
  obtain ⟨a,u⟩:=p
  unfold zid
  split
  ·simp [zb1]
  ·rename_i h;simp [zb1,h,ih]
theorem zdz (l:List (κ × ν)) {k q:κ} (v:ν) (h:k≠q):zb1 (zid l k v) q=zb1 l q:=by
 induction l with
 | nil=>simp [zid,zb1,h]
 | cons p l ih =>
  obtain ⟨a,u⟩:=p
  unfold zid
  split
  ·rename_i e;subst e;simp [zb1,h]
  ·simp only [zb1,ih]
theorem zjv {l:List (κ × ν)} {k:κ} {v:ν} (h:zb1 l k=some v):(k,v)∈l:=by
 induction l with
 | nil=>cases h
 | cons p l ih =>
  obtain ⟨a,u⟩:=p
  unfold zb1 at h
  split at h
  ·rename_i e;cases h;subst e;exact .head _
  ·exact .tail _ (ih h)
theorem zgd {l:List (κ × ν)} {k:κ}:zb1 l k=none↔∀ p∈l,p.1≠k:=by
 induction l with
 | nil=>simp [zb1]
 | cons p l ih =>
  obtain ⟨a,u⟩:=p
  unfold zb1
  split
  ·rename_i e;subst e;simp
  ·rename_i e;rw [ih];simp [e]
theorem zgr {l:List (κ × ν)} (hn:(l.map (·.1)).Nodup) {k:κ} {v:ν} (h:(k,v)∈l):zb1 l k=some v:=by
 induction l with
 | nil=>cases h
 | cons p l ih =>
  obtain ⟨a,u⟩:=p
  rw [List.map_cons,List.nodup_cons] at hn
  unfold zb1
  rcases List.mem_cons.1 h with e | h
  ·cases e;simp
  ·have:a≠k:=by
    rintro rfl
    exact hn.1 (List.mem_map.2 ⟨_,h,rfl⟩)
   rw [if_neg this]
   exact ih hn.2 h
theorem z7m {l:List (κ × ν)} {k:κ} (h:zb1 l k=none):zpz l k=l:=by
 rw [zgd] at h
 exact List.filter_eq_self.2 fun p hp=>by simpa using h p hp
theorem zrv (l:List (κ × ν)) (k:κ):zb1 (zpz l k) k=none:=by
 rw [zgd]
 intro p hp
 simpa using (List.mem_filter.1 hp).2
theorem zih (l:List (κ × ν)) {k q:κ} (h:k≠q):zb1 (zpz l k) q=zb1 l q:=by
 unfold zpz
 induction l with
 | nil=>rfl
 | cons p l ih =>
  obtain ⟨a,u⟩:=p
  rw [List.filter_cons]
  by_cases e:a=k
  ·subst e
   simp only [ne_eq,not_true,decide_false,if_false,zb1,h,Bool.false_eq_true]
   exact ih
  ·simp only [ne_eq,e,not_false_eq_true,decide_true,if_true,zb1]
   rw [ih]
theorem zgc {l:List (κ × ν)} {k:κ} (h:zb1 l k=none) (v:ν):zid l k v=l++[(k,v)]:=by
 induction l with
 | nil=>rfl
 | cons p l ih =>
  obtain ⟨a,u⟩:=p
  unfold zb1 at h
  split at h
  ·cases h
  ·rename_i e
   simp only [zid,if_neg e,ih h,List.cons_append]
theorem z7h {l:List (κ × ν)} {k:κ} {v u:ν} (h:zb1 l k=some u):(zid l k v).map (·.1)=l.map (·.1):=by
 induction l with
 | nil=>cases h
 | cons p l ih =>
  obtain ⟨a,x⟩:=p
  unfold zb1 at h
  simp only [zid]
  split at h
  ·rename_i e;subst e;simp
  ·rename_i e;simp [e,ih h]
theorem zpy {l:List (κ × ν)} (hn:(l.map (·.1)).Nodup) (k:κ) (v:ν):((zid l k v).map (·.1)).Nodup:=by
 cases h:zb1 l k with
 | some u=>rw [z7h h];exact hn
 | none =>
  rw [zgc h,List.map_append,List.nodup_append]
  rw [zgd] at h
  refine ⟨hn,by simp,?_⟩
  rintro a ha b hb rfl
  obtain ⟨p,hp,rfl⟩:=List.mem_map.1 ha
  simp only [List.map_cons,List.map_nil,List.mem_singleton] at hb
  exact h p hp hb
theorem xap {l:List (κ × ν)} {k:κ} {v:ν} {p:κ × ν} (h:p∈zid l k v):p=(k,v)∨p∈l:=by
 induction l with
 | nil=>simp only [zid,List.mem_singleton] at h;exact .inl h
 | cons q l ih =>
  obtain ⟨a,u⟩:=q
  simp only [zid] at h
  split at h
  ·rcases List.mem_cons.1 h with h | h
   ·exact .inl h
   ·exact .inr (.tail _ h)
  ·rcases List.mem_cons.1 h with h | h
   ·exact .inr (h ▸ .head _)
   ·exact (ih h).imp id (.tail _)
theorem xaq {l:List (κ × ν)} {k:κ} {p:κ × ν} (h:p∈zpz l k):p∈l:=(List.mem_filter.1 h).1
end
structure zp1 {κ:Type} (d:TypeDesc) (ek:κ→Value):Prop where
 key:∀ k,IsKey d (ek k)
 inj:∀ {a b},ek a=ek b→a=b
theorem zt0:zp1 (.int .i64) (fun n:Int=>Value.int .i64 n):=⟨fun _=>rfl,fun h=>by cases h;rfl⟩
def zv1 (e:MapEntry):Value × Value:=(e.key,e.val)
section
variable {κ ν:Type}
def zr2 (ek:κ→Value) (ev:ν→Value) (l:List (κ × ν)):List (Value × Value):=l.map fun x=>(ek x.1,ev x.2)
def MapAt (ek:κ→Value) (ev:ν→Value) (b:Nat) (l:List (κ × ν)):Asn:=ex fun p:Array MapEntry × Nat=>on (Stamped p.1 p.2∧p.1.toList.map zv1=zr2 ek ev l) (pts b (.map p.1 p.2))
variable {ek:κ→Value} {ev:ν→Value} {b:Nat} {l:List (κ × ν)} {F:Asn} {w:World}
theorem zfr:Sat (MapAt ek ev b l*F) w↔∃ es clock,Stamped es clock∧es.toList.map zv1=zr2 ek ev l∧Sat (pts b (.map es clock)*F) w:=by
 unfold MapAt
 rw [zde]
 constructor
 ·rintro ⟨⟨es,clock⟩,h⟩
  obtain ⟨⟨h1,h2⟩,h3⟩:=ze4.1 h
  exact ⟨es,clock,h1,h2,h3⟩
 ·rintro ⟨es,clock,h1,h2,h3⟩
  exact ⟨(es,clock),ze4.2 ⟨⟨h1,h2⟩,h3⟩⟩
theorem xe8 (H:Sat F w):Sat (MapAt ek ev w.heap.size []*F) (w.alloc (.map #[] 0)):=zfr.2 ⟨#[],0,stamped_empty 0,rfl,H.new _⟩
theorem zf9 (H:Sat (MapAt ek ev b l*F) w):(l.map (·.1)).Nodup:=by
 obtain ⟨es,clock,⟨_,_,hk⟩,h2,_⟩:=zfr.1 H
 have e:es.toList.map (·.key)=(l.map (·.1)).map ek:=by
  have:=congrArg (List.map Prod.fst) h2
  simpa [zr2,zv1,List.map_map,Function.comp_def] using this
 rw [e] at hk
 exact List.Pairwise.of_map ek (fun a b h e=>h (congrArg ek e)) hk
end
section
variable {κ ν:Type} [DecidableEq κ] {d:TypeDesc} {ek:κ→Value} {ev:ν→Value}
theorem z0p (K:zp1 d ek) {L:List MapEntry} {l:List (κ × ν)} (h:L.map zv1=zr2 ek ev l):∀ x∈L,IsKey d x.key:=by
 intro x hx
 have:zv1 x∈zr2 ek ev l:=h ▸ List.mem_map.2 ⟨x,hx,rfl⟩
 obtain ⟨y,_,hy⟩:=List.mem_map.1 this
 have e:ek y.1=x.key:=congrArg Prod.fst hy
 rw [←e]
 exact K.key _
theorem zjl (K:zp1 d ek) (k:κ):∀ (L:List MapEntry) (l:List (κ × ν)) (i:Nat),L.map zv1=zr2 ek ev l →
  (Instr.findNow d (ek k) L i=some none∧zb1 l k=none∧∀ x∈L,x.key≠ek k) ∨
  ∃ j e v,Instr.findNow d (ek k) L i=some (some (i+j,e.val))∧L[j]?=some e∧e.key=ek k∧e.val=ev v∧zb1 l k=some v ∧
   (∀ u,(L.modify j fun e=>{ e with key:=ek k,val:=ev u }).map zv1=zr2 ek ev (zid l k u))∧((l.map (·.1)).Nodup→(L.eraseIdx j).map zv1=zr2 ek ev (zpz l k))
 | [],[],_,_=>.inl ⟨rfl,rfl,by simp⟩
 | [],_::_,_,h=>by cases h
 | _::_,[],_,h=>by cases h
 | x::L,(a,u0)::l,i,h=>by
  obtain ⟨h1,h2⟩:=List.cons.inj h
  have ex:x.key=ek a:=congrArg Prod.fst h1
  have ev0:x.val=ev u0:=congrArg Prod.snd h1
  obtain ⟨r,hr,hiff⟩:=sameNow_of_keys (K.key k) (b:=x.key) (ex ▸ K.key a)
  by_cases hak:a=k
  ·subst hak
   obtain rfl:r=true:=hiff.2 ex.symm
   refine .inr ⟨0,x,u0,by simp [Instr.findNow,hr],rfl,ex,ev0,by simp [zb1],fun u=>?_,fun hn=>?_⟩
   ·simp only [zid,if_true,List.modify_zero_cons,List.map_cons,zr2,zv1]
    exact congrArg _ h2
   ·rw [List.map_cons,List.nodup_cons] at hn
    have:zpz ((a,u0)::l) a=l:=by
     unfold zpz
     rw [List.filter_cons]
     simp only [ne_eq,not_true,decide_false,Bool.false_eq_true,if_false]
     refine List.filter_eq_self.2 fun p hp=>?_
     have:p.1≠a:=fun e=>hn.1 (e ▸ List.mem_map.2 ⟨p,hp,rfl⟩)
     simpa using this
    rw [this]
    exact h2
  ·have hne:x.key≠ek k:=fun e=>hak (K.inj (ex ▸ e))
   have hr0:r=false:=by
    cases r
    ·rfl
    ·exact absurd (hiff.1 rfl).symm hne
   subst hr0
   rcases zjl K k L l (i+1) h2 with ⟨f1,f2,f3⟩ | ⟨j,e,v,f1,f2,f3,f4,f5,f6,f7⟩
   ·refine .inl ⟨by simp [Instr.findNow,hr,f1],by simp [zb1,hak,f2],fun y hy=>?_⟩
    rcases List.mem_cons.1 hy with rfl | hy
    ·exact hne
    ·exact f3 y hy
   ·refine .inr ⟨j+1,e,v,by simp [Instr.findNow,hr,f1];omega,by simpa using f2,f3,f4,by simp [zb1,hak,f5],fun u=>?_,fun hn=>?_⟩
    ·simp only [zid,if_neg hak,List.modify_succ_cons,List.map_cons,zr2]
     have:=f6 u
     unfold zr2 at this
     rw [this]
     exact congrArg (·::_) h1
    ·rw [List.map_cons,List.nodup_cons] at hn
     have:=f7 hn.2
     have e2:zpz ((a,u0)::l) k=(a,u0)::zpz l k:=by
      unfold zpz
      rw [List.filter_cons]
      simp [hak]
     rw [e2]
     simp only [List.eraseIdx_cons_succ,List.map_cons,zr2]
     unfold zr2 at this
     rw [this]
     exact congrArg (·::_) h1
variable {P:Program} {b:Nat} {l:List (κ × ν)} {F:Asn} {w:World} {T kt et:TypeId}
theorem zz2 (K:zp1 d ek) (hT:P.underlying T=some (.map kt et)) (hk:P.underlying kt=some d) {z:Value} (hz:(zeroValue et).run P w=.ok z w) (H:Sat (MapAt ek ev b l*F) w) (k:κ) (ok:Bool) :
  (Instr.lookup T (.map (some b)) (ek k) ok).run P w=.ok (if ok then .tuple #[((zb1 l k).map ev).getD z,.bool (zb1 l k).isSome] else ((zb1 l k).map ev).getD z) w:=by
 obtain ⟨es,clock,hs,he,hp⟩:=zfr.1 H
 have hb:=hp.left.at
 rcases zjl K k es.toList l 0 he with ⟨f1,f2,f3⟩ | ⟨j,e,v,f1,f2,f3,f4,f5,_⟩
 ·simp [Instr.lookup,run_underlying hT,Go.MapKept.run_getObj_map hb,run_checkKey hk (K.key k),run_findKey hk f1,Result.andThen,hz,f2]
 ·simp [Instr.lookup,run_underlying hT,Go.MapKept.run_getObj_map hb,run_checkKey hk (K.key k),run_findKey hk f1,Result.andThen,f5,f4]
theorem zj2 (K:zp1 d ek) (hT:P.underlying T=some (.map kt et)) (hk:P.underlying kt=some d) (H:Sat (MapAt ek ev b l*F) w) (k:κ) (v:ν) :
  ∃ w',(Instr.mapUpdate T (.map (some b)) (ek k) (ev v)).run P w=.ok () w'∧Sat (MapAt ek ev b (zid l k v)*F) w'∧Io w w':=by
 obtain ⟨es,clock,hs,he,hp⟩:=zfr.1 H
 have hb:=hp.left.at
 have hks:=z0p K he
 rcases zjl K k es.toList l 0 he with ⟨f1,f2,f3⟩ | ⟨j,e,v0,f1,f2,f3,f4,f5,f6,_⟩
 ·refine ⟨{ w with heap:=w.heap.setIfInBounds b (.map (es.push { key:=ek k,val:=ev v,born:=clock }) (clock+1)) },?_,?_,⟨rfl,rfl,rfl,by simp⟩⟩
  ·simp [Instr.mapUpdate,run_underlying hT,Go.MapKept.run_getObj_map hb,run_checkKey hk (K.key k),run_findKey hk f1,run_setObj_map _ hb,Result.andThen]
  ·refine zfr.2 ⟨_,_,stamped_push hs f3,?_,hp.set (heap_set hb).1 fun k' _ hne=>(heap_set hb).2 k' hne⟩
   rw [zgc f2]
   simp only [Array.toList_push,List.map_append,he,zr2,List.map_cons,List.map_nil,zv1]
 ·have hj:es[j]?=some e:=by simpa using f2
  refine ⟨{ w with heap:=w.heap.setIfInBounds b (.map (es.modify j fun e=>{ e with key:=ek k,val:=ev v }) clock) },?_,?_,⟨rfl,rfl,rfl,by simp⟩⟩
  ·simp [Instr.mapUpdate,run_underlying hT,Go.MapKept.run_getObj_map hb,run_checkKey hk (K.key k),run_findKey hk f1,hj,f3,run_keyThatStays (K.key k),run_setObj_map _ hb,Result.andThen]
  ·have hkey:∀ e',es[j]?=some e'→({ e' with key:=ek k,val:=ev v }:MapEntry).key=e'.key:=fun e' he'=>by rw [hj] at he';cases he';exact f3.symm
   refine zfr.2 ⟨es.modify j fun e=>{ e with key:=ek k,val:=ev v },clock,stamped_modify hs j (fun e=>{ e with key:=ek k,val:=ev v }) (fun _ _=>rfl) (fun e' _ he'=>hkey e' he'),?_,hp.set (heap_set hb).1 fun k' _ hne=>(heap_set hb).2 k' hne⟩
   rw [←f6 v,Array.toList_modify]
theorem zz3 (K:zp1 d ek) (hT:P.underlying T=some (.map kt et)) (hk:P.underlying kt=some d) (H:Sat (MapAt ek ev b l*F) w) (k:κ) (ty kt':TypeId) :
  ∃ w',(Builtin.delete_ #[T,kt'] ty #[.map (some b),ek k]).run P w=.ok (.tuple #[]) w'∧Sat (MapAt ek ev b (zpz l k)*F) w'∧Io w w':=by
 have hn:=zf9 H
 obtain ⟨es,clock,hs,he,hp⟩:=zfr.1 H
 have hb:=hp.left.at
 rcases zjl K k es.toList l 0 he with ⟨f1,f2,f3⟩ | ⟨j,e,v0,f1,f2,f3,f4,f5,_,f7⟩
 ·refine ⟨{ w with heap:=w.heap.setIfInBounds b (.map es clock) },?_,?_,⟨rfl,rfl,rfl,by simp⟩⟩
  ·simp [Builtin.delete_,run_underlying hT,Go.MapKept.run_getObj_map hb,run_checkKey hk (K.key k),run_findKey hk f1,run_setObj_map _ hb,Result.andThen]
  ·rw [z7m f2]
   exact zfr.2 ⟨_,_,hs,he,hp.set (heap_set hb).1 fun k' _ hne=>(heap_set hb).2 k' hne⟩
 ·refine ⟨{ w with heap:=w.heap.setIfInBounds b (.map (es.eraseIdxIfInBounds j) clock) },?_,?_,⟨rfl,rfl,rfl,by simp⟩⟩
  ·simp [Builtin.delete_,run_underlying hT,Go.MapKept.run_getObj_map hb,run_checkKey hk (K.key k),run_findKey hk f1,run_setObj_map _ hb,Result.andThen]
  ·refine zfr.2 ⟨_,_,stamped_erase hs _,?_,hp.set (heap_set hb).1 fun k' _ hne=>(heap_set hb).2 k' hne⟩
   have hlt:j<es.size:=by
    have:=(List.getElem?_eq_some_iff.1 f2).1
    simpa using this
   rw [←f7 hn,Array.eraseIdxIfInBounds,dif_pos hlt,Array.toList_eraseIdx]
end
section
variable {κ ν:Type} {d:TypeDesc} {ek:κ→Value} {ev:ν→Value} {P:Program} {b:Nat} {l:List (κ × ν)} {F:Asn} {w:World} {T kt et:TypeId}
end
end Go.Proofs.YtfknjmoekbabcaaGreatDoor

/-
  A part of a proof. It proves no statement by itself.
-/
import Derived.Test.YtfknjmoekbabcaaGreatDoorC36
set_option linter.unusedSimpArgs false
set_option linter.unusedVariables false
set_option linter.unusedSectionVars false
set_option maxRecDepth 100000
set_option maxHeartbeats 64000000
namespace Go.Proofs.YtfknjmoekbabcaaGreatDoor
namespace Sq
theorem zdt (a b:List T):flat (a++b)=flat a++flat b:=by unfold flat;simp
theorem zck (t:T):flat [t]=t.toks:=by unfold flat;simp
theorem zei (s t:T):flat [s,t]=s.toks++t.toks:=by unfold flat;simp
theorem zdg {ts:List T} {i:Nat} (hi:i<ts.length):List.Perm (flat ts) (ts[i].toks++flat (ts.eraseIdx i)):=by
 have:=zpl (L:=ts.map T.toks) (i:=i) (by simpa using hi)
 rw [←zf8] at this
 simpa [flat] using this
variable {M M':Mp} {ts:List T}
theorem For.change (f:For M ts) {rest news:List T} {old:List Tk} (hs:∀ t∈rest,t∈ts) (hp:List.Perm (flat ts) (old++flat rest))
  (hsub:∀ x∈flat news,x∈old) (hnd:(flat news).Nodup) (h1:∀ t∈news,zc8 M' t nob) (h2:∀ t∈news,t≠.nil) (h3:∀ t∈news,t.Bal)
  (fr:∀ x,x∉old→M' x=M x) (hall:∀ x∈old,M' x≠none→x∈flat news):For M' (rest++news):=by
 have nd:=hp.nodup_iff.1 f.nodup
 obtain ⟨nd1,nd2,nd3⟩:=List.nodup_append.1 nd
 have out:∀ x∈flat rest,x∉old:=fun x hx ho=>nd3 x ho x hx rfl
 refine ⟨fun t ht=>?_,fun t ht=>?_,fun t ht=>?_,?_,fun k hk=>?_,fun k n hk=>?_⟩
 ·rcases List.mem_append.1 ht with h | h
  ·exact (f.hold t (hs t h)).congr fun k hk=>fr k (out k (zdv.2 ⟨t,h,hk⟩))
  ·exact h1 t h
 ·rcases List.mem_append.1 ht with h | h
  ·exact f.ne t (hs t h)
  ·exact h2 t h
 ·rcases List.mem_append.1 ht with h | h
  ·exact f.bal t (hs t h)
  ·exact h3 t h
 ·rw [zdt,List.nodup_append]
  exact ⟨nd2,hnd,fun a ha b hb e=>out a ha (e ▸ hsub b hb)⟩
 ·rw [zdt] at hk
  rcases List.mem_append.1 hk with h | h
  ·exact f.ok k (hp.mem_iff.2 (List.mem_append_right _ h))
  ·exact f.ok k (hp.mem_iff.2 (List.mem_append_left _ (hsub k h)))
 ·rw [zdt,List.mem_append]
  by_cases h:k∈old
  ·exact .inr (hall k h (by rw [hk];simp))
  ·rw [fr k h] at hk
   rcases List.mem_append.1 (hp.mem_iff.1 (f.all k n hk)) with h' | h'
   ·exact absurd h' h
   ·exact .inl h'
theorem For.make (f:For M ts) {k:Tk} (ok:OkT k) (hk:k∉flat ts) (h:zc8 M' (.node .nil k .nil) nob) (fr:∀ x,x≠k→M' x=M x):For M' (ts++[.node .nil k .nil]):=by
 refine ⟨fun t ht=>?_,fun t ht=>?_,fun t ht=>?_,?_,fun x hx=>?_,fun x n hx=>?_⟩
 ·rcases List.mem_append.1 ht with h' | h'
  ·exact (f.hold t h').congr fun x hx=>fr x (by rintro rfl;exact hk (zdv.2 ⟨t,h',hx⟩))
  ·rw [List.mem_singleton] at h';subst h';exact h
 ·rcases List.mem_append.1 ht with h' | h'
  ·exact f.ne t h'
  ·rw [List.mem_singleton] at h';subst h';intro e;cases e
 ·rcases List.mem_append.1 ht with h' | h'
  ·exact f.bal t h'
  ·rw [List.mem_singleton] at h';subst h';exact ⟨trivial,trivial,Nat.zero_le _,Nat.zero_le _⟩
 ·rw [zdt,zck,List.nodup_append]
  exact ⟨f.nodup,by simp [T.toks],fun a ha b hb e=>by simp only [T.toks,List.nil_append,List.mem_singleton] at hb;subst hb;subst e;exact hk ha⟩
 ·rw [zdt,zck,List.mem_append] at hx
  rcases hx with h' | h'
  ·exact f.ok x h'
  ·simp only [T.toks,List.nil_append,List.mem_singleton] at h';subst h';exact ok
 ·rw [zdt,zck,List.mem_append]
  by_cases e:x=k
  ·right;simp [T.toks,e]
  ·rw [fr x e] at hx
   exact .inl (f.all x n hx)
theorem For.z3p (f:For M ts):(ts.map T.toks).flatten.Nodup:=f.nodup
theorem For.tree (f : For M ts) {k : Tk} (h : k ∈ flat ts) : ∃ (hi : fi (ts.map T.toks) k < ts.length), k ∈ (ts[fi (ts.map T.toks) k]'hi).toks ∧ rowOf (ts.map T.toks) k = (ts[fi (ts.map T.toks) k]'hi).toks := by
 have ht:there (ts.map T.toks) k:=zao.2 h
 have hi:fi (ts.map T.toks) k<ts.length:=by have:=ht;unfold there at this;simpa using this
 have ht':fi (ts.map T.toks) k<(ts.map T.toks).length:=ht
 have e:=zf4 ht'
 rw [List.getElem_map] at e
 exact ⟨hi,e ▸ row_mem ht,e⟩
theorem For.remove (f:For M ts) {k:Tk} (h:k∈flat ts) (h1:(rowOf (ts.map T.toks) k).length=1) (hk:M' k=none) (fr:∀ x,x≠k→M' x=M x):For M' (ts.eraseIdx (fi (ts.map T.toks) k)):=by
 obtain ⟨hi,hm,e⟩:=f.tree h
 rw [e] at h1
 have h2 : (ts[fi (ts.map T.toks) k]'hi).toks = [k] := by
  obtain ⟨x,hx⟩:=List.length_eq_one_iff.1 h1
  rw [hx,List.mem_singleton] at hm
  rw [hx,hm]
 have:=f.change (M':=M') (rest:=ts.eraseIdx (fi (ts.map T.toks) k)) (news:=[]) (old:=[k]) (fun t ht=>mem_erase ht) (h2 ▸ zdg hi) (by simp [flat]) (by simp [flat]) (by simp) (by simp) (by simp)
  (fun x hx=>fr x (by simpa using hx)) (fun x hx hn=>by rw [List.mem_singleton] at hx;subst hx;exact absurd hk hn)
 simpa using this
theorem For.cut (f:For M ts) {k:Tk} (h:k∈flat ts) {l r:T} {n:Nat} (hl:l.toks=(rowOf (ts.map T.toks) k).take n) (hr:r.toks=(rowOf (ts.map T.toks) k).drop n) (nl:l≠.nil) (nr:r≠.nil) (bl:l.Bal) (br:r.Bal)
  (ol:zc8 M' l nob) (or':zc8 M' r nob) (fr:∀ x,x∉rowOf (ts.map T.toks) k→M' x=M x):For M' (ts.eraseIdx (fi (ts.map T.toks) k)++[l]++[r])∧(ts.eraseIdx (fi (ts.map T.toks) k)++[l]++[r]).map T.toks=cut (ts.map T.toks) k n:=by
 obtain ⟨hi,hm,e⟩:=f.tree h
 have e3:l.toks++r.toks=rowOf (ts.map T.toks) k:=by rw [hl,hr,List.take_append_drop]
 have nd:(rowOf (ts.map T.toks) k).Nodup:=by rw [e];exact f.zhw (List.getElem_mem hi)
 constructor
 ·rw [List.append_assoc]
  refine f.change (old:=rowOf (ts.map T.toks) k) (fun t ht=>mem_erase ht) (e ▸ zdg hi) ?_ ?_ ?_ ?_ ?_ fr ?_
  ·intro x hx
   rw [List.singleton_append,zei,e3] at hx
   exact hx
  ·rw [List.singleton_append,zei,e3];exact nd
  ·intro t ht
   simp only [List.singleton_append,List.mem_cons,List.not_mem_nil,or_false] at ht
   rcases ht with rfl | rfl
   ·exact ol
   ·exact or'
  ·intro t ht
   simp only [List.singleton_append,List.mem_cons,List.not_mem_nil,or_false] at ht
   rcases ht with rfl | rfl
   ·exact nl
   ·exact nr
  ·intro t ht
   simp only [List.singleton_append,List.mem_cons,List.not_mem_nil,or_false] at ht
   rcases ht with rfl | rfl
   ·exact bl
   ·exact br
  ·intro x hx _
   rw [List.singleton_append,zei,e3]
   exact hx
 ·unfold Sq.cut
  rw [List.map_append,List.map_append,zf8,List.map_singleton,List.map_singleton,hl,hr]
theorem For.join (f:For M ts) {a b:Tk} (ha:a∈flat ts) (hb:b∈flat ts) (hne:fi (ts.map T.toks) a≠fi (ts.map T.toks) b) {t:T} (ht:t.toks=rowOf (ts.map T.toks) a++rowOf (ts.map T.toks) b) (bt:t.Bal)
  (ot:zc8 M' t nob) (fr:∀ x,x∉t.toks→M' x=M x):∃ ts',For M' ts'∧ts'.map T.toks=joined (ts.map T.toks) a b:=by
 obtain ⟨hi,hm,e⟩:=f.tree ha
 obtain ⟨hj,hm2,e2⟩:=f.tree hb
 have p1:=zdg hi
 have nd1:=p1.nodup_iff.1 f.nodup
 obtain ⟨n1,n2,n3⟩:=List.nodup_append.1 nd1
 have hb1 : b ∉ (ts[fi (ts.map T.toks) a]'hi).toks := fun h => hne ((z9q f.z3p (zao.2 ha) (zao.2 hb)).2 (e ▸ h))
 have hb2:b∈flat (ts.eraseIdx (fi (ts.map T.toks) a)):=by
  rcases List.mem_append.1 (p1.mem_iff.1 hb) with h | h
  ·exact absurd h hb1
  ·exact h
 generalize hr1:ts.eraseIdx (fi (ts.map T.toks) a)=rs at *
 have hth:there (rs.map T.toks) b:=zao.2 hb2
 have hj2:fi (rs.map T.toks) b<rs.length:=by have:=hth;unfold there at this;simpa using this
 have hmem : ts[fi (ts.map T.toks) b]'hj ∈ rs := by
  rw [←hr1]
  refine List.mem_iff_getElem.2 ?_
  rcases Nat.lt_or_gt_of_ne hne with c | c
  ·exact ⟨fi (ts.map T.toks) b - 1,by rw [List.length_eraseIdx];split<;>omega,by rw [List.getElem_eraseIdx];rw [dif_neg (by omega)];congr 1;omega⟩
  ·exact ⟨fi (ts.map T.toks) b,by rw [List.length_eraseIdx];split<;>omega,by rw [List.getElem_eraseIdx];rw [dif_pos (by omega)]⟩
 have erow:rowOf (rs.map T.toks) b=rowOf (ts.map T.toks) b:=by
  rw [e2]
  exact row_of n2 (List.mem_map.2 ⟨_,hmem,rfl⟩) hm2
 have ej : (rs[fi (rs.map T.toks) b]'hj2).toks = rowOf (ts.map T.toks) b := by
  have hth':fi (rs.map T.toks) b<(rs.map T.toks).length:=hth
  rw [←erow,zf4 hth',List.getElem_map]
 have p2:=zdg hj2
 refine ⟨rs.eraseIdx (fi (rs.map T.toks) b)++[t],?_,?_⟩
 ·refine f.change (old:=t.toks) (fun x hx=>?_) ?_ ?_ ?_ ?_ ?_ ?_ fr ?_
  ·have:=mem_erase hx
   rw [←hr1] at this
   exact mem_erase this
  ·rw [ht,e,List.append_assoc,←ej]
   exact p1.trans (List.Perm.append_left _ p2)
  ·intro x hx;rw [zck] at hx;exact hx
  ·rw [zck,ht,e,List.nodup_append]
   refine ⟨n1,by rw [e2];exact f.zhw (List.getElem_mem hj),fun x hx y hy exy=>?_⟩
   subst exy
   exact n3 x hx x (p2.mem_iff.2 (List.mem_append_left _ (by rw [ej];exact hy))) rfl
  ·intro s hs;rw [List.mem_singleton] at hs;subst hs;exact ot
  ·intro s hs;rw [List.mem_singleton] at hs;subst hs
   rintro rfl
   have h0:=congrArg List.length ht
   rw [e] at h0
   have:=List.length_pos_of_mem hm
   simp only [T.toks,List.length_nil,List.length_append] at h0
   omega
  ·intro s hs;rw [List.mem_singleton] at hs;subst hs;exact bt
  ·intro x hx _;rw [zck];exact hx
 ·unfold joined
  rw [List.map_append,zf8,List.map_singleton,ht,←hr1,zf8]
end Sq
end Go.Proofs.YtfknjmoekbabcaaGreatDoor

/-
  A part of a proof. It proves no statement by itself.
-/
import Derived.Test.YtfknjmoekbabcaaGreatDoorC07
set_option linter.unusedSimpArgs false
set_option linter.unusedVariables false
set_option linter.unusedSectionVars false
set_option maxRecDepth 100000
set_option maxHeartbeats 64000000
namespace Go.Proofs.YtfknjmoekbabcaaGreatDoor
namespace Sq
inductive Z where
 | top:Z
 | inl:Tk→T→Z→Z
 | inr:T→Tk→Z→Z
namespace Z
def zcm:Z→T→T
 | .top,t=>t
 | .inl x r z,t=>z.zcm (.node t x r)
 | .inr l x z,t=>z.zcm (.node l x t)
def ahead:Z→List Tk
 | .top=>[]
 | .inl _ _ z=>z.ahead
 | .inr l x z=>z.ahead++(l.toks++[x])
def behind:Z→List Tk
 | .top=>[]
 | .inl x r z=>x::r.toks++z.behind
 | .inr _ _ z=>z.behind
def up:Z→Tk→Tk
 | .top,u=>u
 | .inl x _ _,_=>x
 | .inr _ x _,_=>x
def len:Z→Nat
 | .top=>0
 | .inl _ _ z=>z.len+1
 | .inr _ _ z=>z.len+1
def rk:Z→Nat
 | .top=>0
 | .inl _ _ z=>z.rk
 | .inr l _ z=>l.cnt+1+z.rk
theorem zb2:∀ (z:Z) (t:T),(z.zcm t).toks=z.ahead++(t.toks++z.behind)
 | .top,t=>by simp [zcm,ahead,behind]
 | .inl x r z,t=>by rw [zcm,zb2 z];simp [ahead,behind,T.toks]
 | .inr l x z,t=>by rw [zcm,zb2 z];simp [ahead,behind,T.toks]
theorem zqk:∀ z:Z,z.ahead.length=z.rk
 | .top=>rfl
 | .inl x r z=>zqk z
 | .inr l x z=>by
  have:=zqk z
  simp only [ahead,rk,List.length_append,List.length_singleton,T.zbn]
  omega
theorem zw7:∀ (z:Z) (t:T),t.ht+z.len≤(z.zcm t).ht
 | .top,t=>Nat.le_refl _
 | .inl x r z,t=>by
  have:=zw7 z (.node t x r)
  simp only [T.ht] at this
  simp only [zcm,len]
  omega
 | .inr l x z,t=>by
  have:=zw7 z (.node l x t)
  simp only [T.ht] at this
  simp only [zcm,len]
  omega
theorem find:∀ (t:T) (z:Z) {k:Tk},k∈t.toks→∃ (l r:T) (z':Z),z.zcm t=z'.zcm (.node l k r)
 | .nil,z,k,h=>by simp [T.toks] at h
 | .node l x r,z,k,h=>by
  simp only [T.toks,List.mem_append,List.mem_cons] at h
  rcases h with h | rfl | h
  ·exact find l (.inl x r z) h
  ·exact ⟨l,r,z,rfl⟩
  ·exact find r (.inr l x z) h
def z8p (M:Mp):Z→T→Tk→Prop
 | .top,_,_=>True
 | .inl x r z,t,u=>M x=some (nod t r (z.up u))∧zc8 M r x∧z8p M z (.node t x r) u
 | .inr l x z,t,u=>M x=some (nod l t (z.up u))∧zc8 M l x∧z8p M z (.node l x t) u
theorem zg8 {M:Mp}:∀ {z:Z} {t:T} {u:Tk},zc8 M (z.zcm t) u→zc8 M t (z.up u)∧z8p M z t u
 | .top,t,u,h=>⟨h,trivial⟩
 | .inl x r z,t,u,h=>by
  obtain ⟨h1,h2⟩:=zg8 (z:=z) h
  exact ⟨h1.2.1,h1.1,h1.2.2,h2⟩
 | .inr l x z,t,u,h=>by
  obtain ⟨h1,h2⟩:=zg8 (z:=z) h
  exact ⟨h1.2.2,h1.1,h1.2.1,h2⟩
theorem zh9:∀ {z:Z} {t:T},(z.zcm t).Bal→t.Bal
 | .top,t,h=>h
 | .inl x r z,t,h=>(zh9 (z:=z) h).1
 | .inr l x z,t,h=>(zh9 (z:=z) h).2.1
def BalZ:Z→Prop
 | .top=>True
 | .inl _ r z=>r.Bal∧z.BalZ
 | .inr l _ z=>l.Bal∧z.BalZ
theorem znb:∀ {z:Z} {t:T},(z.zcm t).Bal→z.BalZ
 | .top,t,h=>trivial
 | .inl x r z,t,h=>⟨(zh9 (z:=z) h).2.1,znb (z:=z) h⟩
 | .inr l x z,t,h=>⟨(zh9 (z:=z) h).1,znb (z:=z) h⟩
structure Step where
 k:Tk
 n:Nd
 fr:Tk
def anc:Z→T→Tk→List Step
 | .top,_,_=>[]
 | .inl x r z,t,u=>⟨x,nod t r (z.up u),t.top⟩::anc z (.node t x r) u
 | .inr l x z,t,u=>⟨x,nod l t (z.up u),t.top⟩::anc z (.node l x t) u
def way (z:Z) (l:T) (k:Tk) (r:T) (u:Tk):List Step:=⟨k,nod l r (z.up u),nob⟩::anc z (.node l k r) u
theorem zxw:∀ (z:Z) (t:T) (u:Tk),(anc z t u).length=z.len
 | .top,_,_=>rfl
 | .inl x r z,t,u=>by simp [anc,len,zxw z]
 | .inr l x z,t,u=>by simp [anc,len,zxw z]
theorem zrt {M:Mp}:∀ {z:Z} {t:T} {u:Tk},z8p M z t u→∀ s∈anc z t u,M s.k=some s.n
 | .top,t,u,_,s,hs=>by simp [anc] at hs
 | .inl x r z,t,u,h,s,hs=>by
  simp only [anc,List.mem_cons] at hs
  rcases hs with rfl | hs
  ·exact h.1
  ·exact zrt h.2.2 s hs
 | .inr l x z,t,u,h,s,hs=>by
  simp only [anc,List.mem_cons] at hs
  rcases hs with rfl | hs
  ·exact h.1
  ·exact zrt h.2.2 s hs
def Chain:List Step→Tk→Prop
 | [],_=>True
 | [s],u=>s.n.up=u
 | s::s'::l,u=>s.n.up=s'.k∧s'.fr=s.k∧Chain (s'::l) u
theorem zni:∀ (z:Z) (t:T) (u:Tk) (s:Step),s.k=t.top→s.n.up=z.up u→Chain (s::anc z t u) u
 | .top,t,u,s,_,h=>h
 | .inl x r z,t,u,s,h1,h2=>⟨h2,h1.symm,zni z (.node t x r) u _ rfl rfl⟩
 | .inr l x z,t,u,s,h1,h2=>⟨h2,h1.symm,zni z (.node l x t) u _ rfl rfl⟩
theorem z1l (z:Z) (l:T) (k:Tk) (r:T) (u:Tk):Chain (z.way l k r u) u:=zni z (.node l k r) u _ rfl rfl
theorem zpv : ∀ {l : List Step} {u : Tk}, Chain l u → ∀ {i : Nat} (h : i + 1 < l.length), (l[i]'(by omega)).n.up = l[i + 1].k ∧ l[i + 1].fr = (l[i]'(by omega)).k
 | [],_,_,_,h=>by simp at h
 | [s],_,_,i,h=>by simp at h
 | s::s'::l,u,c,0,h=>⟨c.1,c.2.1⟩
 | s::s'::l,u,c,i+1,h=>zpv c.2.2 (i:=i) (by simpa using h)
theorem zpw : ∀ {l : List Step} {u : Tk}, Chain l u → ∀ {i : Nat} (h : i + 1 = l.length), (l[i]'(by omega)).n.up = u
 | [],_,_,_,h=>by simp at h
 | [s],_,c,i,h=>by
  obtain rfl:i=0:=by simpa using h
  exact c
 | s::s'::l,u,c,0,h=>by simp at h
 | s::s'::l,u,c,i+1,h=>zpw c.2.2 (i:=i) (by simpa using h)
theorem zrr:∀ (z:Z) (t:T) (u:Tk),∀ s∈anc z t u,s.k∈(z.zcm t).toks
 | .top,t,u,s,hs=>by simp [anc] at hs
 | .inl x r z,t,u,s,hs=>by
  simp only [anc,List.mem_cons] at hs
  rcases hs with rfl | hs
  ·rw [zcm,zb2];simp [T.toks]
  ·exact zrr z (.node t x r) u s hs
 | .inr l x z,t,u,s,hs=>by
  simp only [anc,List.mem_cons] at hs
  rcases hs with rfl | hs
  ·rw [zcm,zb2];simp [T.toks]
  ·exact zrr z (.node l x t) u s hs
def gains:Z→List Nat
 | .top=>[]
 | .inl _ _ z=>0::gains z
 | .inr l _ z=>(l.cnt+1)::gains z
theorem zm0:∀ z:Z,(gains z).sum=z.rk
 | .top=>rfl
 | .inl x r z=>by simp [gains,rk,zm0 z]
 | .inr l x z=>by simp [gains,rk,zm0 z]
theorem zv7:∀ (z:Z) (t:T) (u:Tk) (s:Step),s.k=t.top→((s::anc z t u).getLast (by simp)).k=(z.zcm t).top
 | .top,t,u,s,h=>h
 | .inl x r z,t,u,s,h=>by
  have:=zv7 z (.node t x r) u ⟨x,nod t r (z.up u),t.top⟩ rfl
  simpa [anc,zcm] using this
 | .inr l x z,t,u,s,h=>by
  have:=zv7 z (.node l x t) u ⟨x,nod l t (z.up u),t.top⟩ rfl
  simpa [anc,zcm] using this
theorem zw2:∀ (z:Z) (t:T) (u:Tk) (s:Step),s.n=t.nd (z.up u)→((s::anc z t u).getLast (by simp)).n=(z.zcm t).nd u
 | .top,t,u,s,h=>h
 | .inl x r z,t,u,s,h=>by
  have:=zw2 z (.node t x r) u ⟨x,nod t r (z.up u),t.top⟩ rfl
  simpa [anc,zcm] using this
 | .inr l x z,t,u,s,h=>by
  have:=zw2 z (.node l x t) u ⟨x,nod l t (z.up u),t.top⟩ rfl
  simpa [anc,zcm] using this
end Z
def flat (ts:List T):List Tk:=(ts.map T.toks).flatten
structure For (M:Mp) (ts:List T):Prop where
 hold:∀ t∈ts,zc8 M t nob
 ne:∀ t∈ts,t≠.nil
 bal:∀ t∈ts,t.Bal
 nodup:(flat ts).Nodup
 ok:∀ k∈flat ts,OkT k
 all:∀ k n,M k=some n→k∈flat ts
theorem zdv {ts:List T} {k:Tk}:k∈flat ts↔∃ t∈ts,k∈t.toks:=by
 unfold flat
 rw [List.mem_flatten]
 constructor
 ·rintro ⟨l,h,hk⟩
  obtain ⟨t,ht,rfl⟩:=List.mem_map.1 h
  exact ⟨t,ht,hk⟩
 ·rintro ⟨t,ht,hk⟩
  exact ⟨_,List.mem_map.2 ⟨t,ht,rfl⟩,hk⟩
theorem For.here {M:Mp} {ts:List T} (f:For M ts) {k:Tk}:M k≠none↔k∈flat ts:=by
 constructor
 ·intro h
  obtain ⟨n,hn⟩:=Option.ne_none_iff_exists'.1 h
  exact f.all k n hn
 ·intro h
  obtain ⟨t,ht,hk⟩:=zdv.1 h
  obtain ⟨n,hn⟩:=(f.hold t ht).some k hk
  rw [hn]
  simp
theorem For.zhw {M:Mp} {ts:List T} (f:For M ts) {t:T} (h:t∈ts):t.toks.Nodup:=by
 have:=f.nodup
 unfold flat at this
 exact this.sublist (List.sublist_flatten_of_mem (List.mem_map.2 ⟨t,h,rfl⟩))
theorem For.len_le {M:Mp} {ts:List T} (f:For M ts) {t:T} (h:t∈ts):t.cnt≤(flat ts).length:=by
 rw [←T.zbn]
 unfold flat
 exact (List.sublist_flatten_of_mem (List.mem_map.2 ⟨t,h,rfl⟩)).length_le
end Sq
end Go.Proofs.YtfknjmoekbabcaaGreatDoor

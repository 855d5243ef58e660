/-
  A part of a proof. It proves no statement by itself.
-/
import Derived.Test.YtfknjmoekbabcaaGreatDoorC01
set_option linter.unusedSimpArgs false
set_option linter.unusedVariables false
set_option linter.unusedSectionVars false
set_option maxRecDepth 100000
set_option maxHeartbeats 64000000
namespace Go.Proofs.YtfknjmoekbabcaaGreatDoor
abbrev Rn:=Int × Int
namespace Rs
def most:Int:=4294967295
theorem zlv:most=4294967295:=rfl
def Ok (r:Rn):Prop:=0≤r.1∧r.1≤r.2∧r.2≤most
def Canon (l:List Rn):Prop:=(∀ r∈l,Ok r)∧l.Pairwise (fun a b=>a.2+1<b.1)
def Mem (n:Int) (l:List Rn):Prop:=∃ r∈l,r.1≤n∧n≤r.2
theorem zez:Canon []:=⟨by simp,List.Pairwise.nil⟩
theorem zbh {r:Rn} {l:List Rn}:Canon (r::l)↔Ok r∧(∀ s∈l,r.2+1<s.1)∧Canon l:=by
 unfold Canon
 rw [List.pairwise_cons,List.forall_mem_cons]
 constructor
 ·rintro ⟨⟨a,b⟩,c,d⟩;exact ⟨a,c,b,d⟩
 ·rintro ⟨a,c,b,d⟩;exact ⟨⟨a,b⟩,c,d⟩
theorem zfc {l m:List Rn}:Canon (l++m)↔Canon l∧Canon m∧∀ a∈l,∀ b∈m,a.2+1<b.1:=by
 unfold Canon
 rw [List.pairwise_append]
 constructor
 ·rintro ⟨a,b,c,d⟩
  exact ⟨⟨fun r hr=>a r (List.mem_append_left _ hr),b⟩,⟨fun r hr=>a r (List.mem_append_right _ hr),c⟩,d⟩
 ·rintro ⟨⟨a,b⟩,⟨c,d⟩,e⟩
  exact ⟨fun r hr=>(List.mem_append.1 hr).elim (a r) (c r),b,d,e⟩
theorem zcu (n:Int):¬ Mem n []:=by rintro ⟨r,h,_⟩;cases h
theorem mem_cons {n:Int} {r:Rn} {l:List Rn}:Mem n (r::l)↔(r.1≤n∧n≤r.2)∨Mem n l:=by
 unfold Mem
 constructor
 ·rintro ⟨s,hs,h⟩
  rcases List.mem_cons.1 hs with rfl | hs
  ·exact .inl h
  ·exact .inr ⟨s,hs,h⟩
 ·rintro (h | ⟨s,hs,h⟩)
  ·exact ⟨r,List.mem_cons_self ..,h⟩
  ·exact ⟨s,List.mem_cons_of_mem _ hs,h⟩
theorem mem_append {n:Int} {l m:List Rn}:Mem n (l++m)↔Mem n l∨Mem n m:=by
 unfold Mem
 constructor
 ·rintro ⟨s,hs,h⟩
  rcases List.mem_append.1 hs with hs | hs
  ·exact .inl ⟨s,hs,h⟩
  ·exact .inr ⟨s,hs,h⟩
 ·rintro (⟨s,hs,h⟩ | ⟨s,hs,h⟩)
  ·exact ⟨s,List.mem_append_left _ hs,h⟩
  ·exact ⟨s,List.mem_append_right _ hs,h⟩
theorem zg5 {n:Int} {r:Rn}:Mem n [r]↔r.1≤n∧n≤r.2:=by rw [mem_cons];simp [zcu]
theorem zhb {r:Rn} (h:Ok r):Canon [r]:=zbh.2 ⟨h,by simp,zez⟩
theorem zgp {l:List Rn} (h:Canon l) {n:Int} (k:Mem n l):0≤n∧n≤most:=by
 obtain ⟨r,hr,a,b⟩:=k
 obtain ⟨c,d,e⟩:=h.1 r hr
 omega
theorem zfb {r:Rn} {l:List Rn} (h:Canon (r::l)) {n:Int} (k:Mem n l):r.2+1<n:=by
 obtain ⟨_,b,_⟩:=zbh.1 h
 obtain ⟨s,hs,c,d⟩:=k
 have:=b s hs
 omega
theorem zm9:∀ {l m:List Rn},Canon l→Canon m→(∀ n,Mem n l↔Mem n m)→l=m
 | [],[],_,_,_=>rfl
 | [],s::m,_,hm,h=>by
  obtain ⟨⟨_,k,_⟩,_⟩:=zbh.1 hm
  exact absurd ((h s.1).2 (mem_cons.2 (.inl ⟨Int.le_refl _,k⟩))) (zcu _)
 | r::l,[],hl,_,h=>by
  obtain ⟨⟨_,k,_⟩,_⟩:=zbh.1 hl
  exact absurd ((h r.1).1 (mem_cons.2 (.inl ⟨Int.le_refl _,k⟩))) (zcu _)
 | r::l,s::m,hl,hm,h=>by
  obtain ⟨⟨_,r1,_⟩,r2,r3⟩:=zbh.1 hl
  obtain ⟨⟨_,s1,_⟩,s2,s3⟩:=zbh.1 hm
  have a1:s.1≤r.1:=by
   rcases mem_cons.1 ((h r.1).1 (mem_cons.2 (.inl ⟨Int.le_refl _,r1⟩))) with k | k
   ·exact k.1
   ·have:=zfb hm k;omega
  have a2:r.1≤s.1:=by
   rcases mem_cons.1 ((h s.1).2 (mem_cons.2 (.inl ⟨Int.le_refl _,s1⟩))) with k | k
   ·exact k.1
   ·have:=zfb hl k;omega
  have b1:¬ r.2<s.2:=by
   intro k
   rcases mem_cons.1 ((h (r.2+1)).2 (mem_cons.2 (.inl ⟨by omega,by omega⟩))) with k | k
   ·omega
   ·have:=zfb hl k;omega
  have b2:¬ s.2<r.2:=by
   intro k
   rcases mem_cons.1 ((h (s.2+1)).1 (mem_cons.2 (.inl ⟨by omega,by omega⟩))) with k | k
   ·omega
   ·have:=zfb hm k;omega
  obtain rfl:r=s:=Prod.ext (by omega) (by omega)
  rw [zm9 r3 s3 fun n=>?_]
  constructor
  ·intro k
   have g:=zfb hl k
   rcases mem_cons.1 ((h n).1 (mem_cons.2 (.inr k))) with k | k
   ·omega
   ·exact k
  ·intro k
   have g:=zfb hm k
   rcases mem_cons.1 ((h n).2 (mem_cons.2 (.inr k))) with k | k
   ·omega
   ·exact k
def clip (x:Rn):Rn:=(max x.1 0,min x.2 most)
def zg3 (s:Rn × List Rn × Bool) (y:Rn):Rn × List Rn × Bool :=
 if y.2+1<s.1.1 then (s.1,s.2.1++[y],s.2.2)
 else if s.1.2+1<y.1 then (if s.2.2=true then (s.1,s.2.1++[y],true) else (s.1,s.2.1++[s.1,y],true))
 else ((min s.1.1 y.1,max s.1.2 y.2),s.2.1,s.2.2)
def pend (s:Rn × List Rn × Bool):List Rn:=if s.2.2=true then s.2.1 else s.2.1++[s.1]
def put (l:List Rn) (x:Rn):List Rn:=if (clip x).1≤(clip x).2 then pend (l.foldl zg3 (clip x,[],false)) else l
def norm (l:List Rn):List Rn:=l.foldl put []
def zq4 (r:Rn):List Rn→List Rn
 | []=>[r]
 | y::l=>if y.2+1<r.1 then y::zq4 r l else if r.2+1<y.1 then r::y::l else zq4 (min r.1 y.1,max r.2 y.2) l
theorem zo9 (r:Rn):∀ (l o:List Rn),(∀ y∈l,r.2+1<y.1)→l.foldl zg3 (r,o,true)=(r,o++l,true)
 | [],o,_=>by simp
 | y::l,o,h=>by
  have h1:=h y (List.mem_cons_self ..)
  have e:zg3 (r,o,true) y=(r,o++[y],true):=by
   unfold zg3
   simp only [if_pos h1]
   split<;>rfl
  rw [List.foldl_cons,e,zo9 r l _ fun z hz=>h z (List.mem_cons_of_mem _ hz),List.append_assoc]
  rfl
theorem zj5:∀ (l:List Rn) (r:Rn) (o:List Rn),Canon l→pend (l.foldl zg3 (r,o,false))=o++zq4 r l
 | [],r,o,_=>rfl
 | y::l,r,o,h=>by
  obtain ⟨hy,h1,h2⟩:=zbh.1 h
  rw [List.foldl_cons]
  unfold zq4
  by_cases a:y.2+1<r.1
  ·rw [if_pos a]
   have e:zg3 (r,o,false) y=(r,o++[y],false):=by unfold zg3;simp only [if_pos a]
   rw [e,zj5 l r _ h2,List.append_assoc]
   rfl
  ·by_cases b:r.2+1<y.1
   ·rw [if_neg a,if_pos b]
    have e:zg3 (r,o,false) y=(r,o++[r,y],true):=by unfold zg3;simp only [if_neg a,if_pos b];rfl
    rw [e,zo9 r l _ fun z hz=>by have:=h1 z hz;have:=hy.2.1;omega]
    simp [pend]
   ·rw [if_neg a,if_neg b]
    have e:zg3 (r,o,false) y=((min r.1 y.1,max r.2 y.2),o,false):=by unfold zg3;simp only [if_neg a,if_neg b]
    rw [e,zj5 l _ o h2]
theorem zq3:∀ (l:List Rn) (r:Rn),Ok r→Canon l→Canon (zq4 r l)∧(∀ n,Mem n (zq4 r l)↔(r.1≤n∧n≤r.2)∨Mem n l)∧∀ b:Int,b<r.1→(∀ y∈l,b<y.1)→∀ y∈zq4 r l,b<y.1
 | [],r,hr,_=>⟨zhb hr,fun n=>by rw [zq4,zg5];simp [zcu],fun b h1 _ y hy=>by simp [zq4] at hy;subst hy;exact h1⟩
 | y::l,r,hr,h=>by
  obtain ⟨hy,h1,h2⟩:=zbh.1 h
  unfold zq4
  by_cases a:y.2+1<r.1
  ·rw [if_pos a]
   obtain ⟨i1,i2,i3⟩:=zq3 l r hr h2
   refine ⟨zbh.2 ⟨hy,fun s hs=>i3 (y.2+1) a h1 s hs,i1⟩,fun n=>?_,fun b b1 b2 s hs=>?_⟩
   ·rw [mem_cons,i2,mem_cons]
    constructor
    ·rintro (k | k | k)
     ·exact .inr (.inl k)
     ·exact .inl k
     ·exact .inr (.inr k)
    ·rintro (k | k | k)
     ·exact .inr (.inl k)
     ·exact .inl k
     ·exact .inr (.inr k)
   ·rcases List.mem_cons.1 hs with rfl | hs
    ·exact b2 _ (List.mem_cons_self ..)
    ·exact i3 b b1 (fun z hz=>b2 z (List.mem_cons_of_mem _ hz)) s hs
  ·rw [if_neg a]
   by_cases b:r.2+1<y.1
   ·rw [if_pos b]
    refine ⟨zbh.2 ⟨hr,fun s hs=>?_,h⟩,fun n=>mem_cons,fun c c1 c2 s hs=>?_⟩
    ·rcases List.mem_cons.1 hs with rfl | hs
     ·exact b
     ·have:=h1 s hs;have:=hy.2.1;omega
    ·rcases List.mem_cons.1 hs with rfl | hs
     ·exact c1
     ·exact c2 s hs
   ·rw [if_neg b]
    obtain ⟨r0,r1,r2⟩:=hr
    obtain ⟨y0,y1,y2⟩:=hy
    obtain ⟨i1,i2,i3⟩:=zq3 l (min r.1 y.1,max r.2 y.2) ⟨by show 0≤min r.1 y.1;omega,by show min r.1 y.1≤max r.2 y.2;omega,by show max r.2 y.2≤most;omega⟩ h2
    refine ⟨i1,fun n=>?_,fun c c1 c2=>i3 c ?_ fun z hz=>c2 z (List.mem_cons_of_mem _ hz)⟩
    ·rw [i2,mem_cons,←or_assoc]
     have:(min r.1 y.1≤n∧n≤max r.2 y.2)↔((r.1≤n∧n≤r.2)∨(y.1≤n∧n≤y.2)):=by omega
     exact or_congr this Iff.rfl
    ·have:=c2 y (List.mem_cons_self ..)
     show c<min r.1 y.1
     omega
theorem zwq {l:List Rn} (h:Canon l) (x:Rn):Canon (put l x)∧∀ n,Mem n (put l x)↔(0≤n∧n≤most∧x.1≤n∧n≤x.2)∨Mem n l:=by
 unfold put
 have c1:(clip x).1=max x.1 0:=rfl
 have c2:(clip x).2=min x.2 most:=rfl
 have m0:=zlv
 split
 ·rename_i hc
  have ok:Ok (clip x):=⟨by omega,hc,by omega⟩
  rw [zj5 l _ _ h,List.nil_append]
  obtain ⟨i1,i2,_⟩:=zq3 l (clip x) ok h
  refine ⟨i1,fun n=>?_⟩
  rw [i2]
  refine or_congr ?_ Iff.rfl
  omega
 ·rename_i hc
  refine ⟨h,fun n=>?_⟩
  constructor
  ·exact .inr
  ·rintro (k | k)
   ·omega
   ·exact k
theorem zqr:∀ (l s:List Rn),Canon s→Canon (l.foldl put s)∧∀ n,Mem n (l.foldl put s)↔(0≤n∧n≤most∧Mem n l)∨Mem n s
 | [],s,h=>⟨h,fun n=>by simp [zcu]⟩
 | x::l,s,h=>by
  obtain ⟨p1,p2⟩:=zwq h x
  obtain ⟨h1,h2⟩:=zqr l (put s x) p1
  refine ⟨h1,fun n=>?_⟩
  rw [List.foldl_cons,h2,p2,mem_cons]
  constructor
  ·rintro (⟨a,b,c⟩ | ⟨a,b,c⟩ | k)
   ·exact .inl ⟨a,b,.inr c⟩
   ·exact .inl ⟨a,b,.inl c⟩
   ·exact .inr k
  ·rintro (⟨a,b,c | c⟩ | k)
   ·exact .inr (.inl ⟨a,b,c⟩)
   ·exact .inl ⟨a,b,c⟩
   ·exact .inr (.inr k)
theorem zct (l:List Rn):Canon (norm l):=(zqr l [] zez).1
def Has (l:List Rn) (n:Int):Prop:=0≤n∧n≤most∧Mem n l
theorem zlx (l:List Rn) (n:Int):Mem n (norm l)↔Has l n:=by
 rw [norm,(zqr l [] zez).2]
 simp [zcu,Has]
theorem zex {l:List Rn} (h:Canon l) (n:Int):Has l n↔Mem n l:=⟨fun k=>k.2.2,fun k=>⟨(zgp h k).1,(zgp h k).2,k⟩⟩
theorem z3o {l m:List Rn} (h:Canon m) (k:∀ n,Mem n m↔Has l n):m=norm l:=zm9 h (zct l) fun n=>by rw [k,zlx]
theorem z3m {l:List Rn} (h:Canon l):norm l=l:=(z3o h fun n=>(zex h n).symm).symm
def xf6 (r:Rn) (next:List Rn) (o:Rn):List Rn:=put (put next (o.1,min o.2 (r.1 - 1))) (max o.1 (r.2+1),o.2)
def cut (out:List Rn) (b:Rn):List Rn:=if (clip b).1≤(clip b).2 then out.foldl (xf6 (clip b)) [] else out
def minus (a b:List Rn):List Rn:=b.foldl cut (norm a)
theorem zy6 (r:Rn):∀ (out next:List Rn),Canon out→Canon next→Canon (out.foldl (xf6 r) next)∧∀ n,Mem n (out.foldl (xf6 r) next)↔(Mem n out∧¬ (r.1≤n∧n≤r.2))∨Mem n next
 | [],next,_,h=>⟨h,fun n=>by simp [zcu]⟩
 | o::out,next,ho,h=>by
  obtain ⟨ok,_,ho2⟩:=zbh.1 ho
  obtain ⟨p1,p2⟩:=zwq h (o.1,min o.2 (r.1 - 1))
  obtain ⟨q1,q2⟩:=zwq p1 (max o.1 (r.2+1),o.2)
  obtain ⟨i1,i2⟩:=zy6 r out (xf6 r next o) ho2 q1
  refine ⟨i1,fun n=>?_⟩
  rw [List.foldl_cons,i2,xf6,q2,p2,mem_cons]
  obtain ⟨o0,o1,o2⟩:=ok
  have:((0≤n∧n≤most∧max o.1 (r.2+1)≤n∧n≤o.2)∨(0≤n∧n≤most∧o.1≤n∧n≤min o.2 (r.1 - 1)))↔(o.1≤n∧n≤o.2)∧¬ (r.1≤n∧n≤r.2):=by omega
  constructor
  ·rintro (⟨k,k2⟩ | k | k | k)
   ·exact .inl ⟨.inr k,k2⟩
   ·have:=this.1 (.inl k);exact .inl ⟨.inl this.1,this.2⟩
   ·have:=this.1 (.inr k);exact .inl ⟨.inl this.1,this.2⟩
   ·exact .inr k
  ·rintro (⟨k | k,k2⟩ | k)
   ·rcases this.2 ⟨k,k2⟩ with j | j
    ·exact .inr (.inl j)
    ·exact .inr (.inr (.inl j))
   ·exact .inl ⟨k,k2⟩
   ·exact .inr (.inr (.inr k))
theorem xf5 {out:List Rn} (h:Canon out) (b:Rn):Canon (cut out b)∧∀ n,Mem n (cut out b)↔Mem n out∧¬ (b.1≤n∧n≤b.2):=by
 unfold cut
 have c1:(clip b).1=max b.1 0:=rfl
 have c2:(clip b).2=min b.2 most:=rfl
 have m0:=zlv
 split
 ·obtain ⟨i1,i2⟩:=zy6 (clip b) out [] h zez
  refine ⟨i1,fun n=>?_⟩
  rw [i2]
  constructor
  ·rintro (⟨k,k2⟩ | k)
   ·have:=zgp h k
    exact ⟨k,by omega⟩
   ·exact absurd k (zcu _)
  ·rintro ⟨k,k2⟩
   exact .inl ⟨k,by omega⟩
 ·rename_i hc
  refine ⟨h,fun n=>⟨fun k=>⟨k,?_⟩,fun k=>k.1⟩⟩
  have:=zgp h k
  omega
theorem zmo:∀ (b out:List Rn),Canon out→Canon (b.foldl cut out)∧∀ n,Mem n (b.foldl cut out)↔Mem n out∧¬ Mem n b
 | [],out,h=>⟨h,fun n=>by simp [zcu]⟩
 | x::b,out,h=>by
  obtain ⟨c1,c2⟩:=xf5 h x
  obtain ⟨i1,i2⟩:=zmo b (cut out x) c1
  refine ⟨i1,fun n=>?_⟩
  rw [List.foldl_cons,i2,c2,mem_cons]
  constructor
  ·rintro ⟨⟨a,b⟩,c⟩;exact ⟨a,fun k=>k.elim b c⟩
  ·rintro ⟨a,b⟩;exact ⟨⟨a,fun k=>b (.inl k)⟩,fun k=>b (.inr k)⟩
theorem zm8 (a b:List Rn):Canon (minus a b):=(zmo b _ (zct a)).1
theorem zmr (a b:List Rn) (n:Int):Mem n (minus a b)↔Has a n∧¬ Mem n b:=by rw [minus,(zmo b _ (zct a)).2,zlx]
def zfs (out:List Rn) (r:Rn):List Rn:=match out.getLast? with
 | none=>[r]
 | some c=>if r.1≤c.2+1 then out.dropLast++[(c.1,max c.2 r.2)] else out++[r]
theorem ztm (r:Rn):zfs [] r=[r]:=rfl
theorem zj6 (o:List Rn) (c r:Rn):zfs (o++[c]) r=if r.1≤c.2+1 then o++[(c.1,max c.2 r.2)] else o++[c]++[r]:=by
 unfold zfs
 rw [List.getLast?_concat,List.dropLast_concat]
theorem zmp:∀ (s out:List Rn),(∀ r∈s,Ok r)→s.Pairwise (fun a b=>a.1≤b.1)→Canon out→(∀ o∈out,∀ r∈s,o.1≤r.1)→Canon (s.foldl zfs out)∧∀ n,Mem n (s.foldl zfs out)↔Mem n s∨Mem n out
 | [],out,_,_,h,_=>⟨h,fun n=>by simp [zcu]⟩
 | r::s,out,hs,hp,h,ho=>by
  obtain ⟨p1,p2⟩:=List.pairwise_cons.1 hp
  have hr:=hs r (List.mem_cons_self ..)
  have key:Canon (zfs out r)∧(∀ n,Mem n (zfs out r)↔(r.1≤n∧n≤r.2)∨Mem n out)∧∀ o∈zfs out r,∀ t∈s,o.1≤t.1:=by
   rcases List.eq_nil_or_concat out with rfl | ⟨o,c,rfl⟩
   ·rw [ztm]
    refine ⟨zhb hr,fun n=>by rw [zg5];simp [zcu],fun o ho t ht=>?_⟩
    rw [List.mem_singleton] at ho
    subst ho
    exact p1 t ht
   ·rw [List.concat_eq_append] at h ho ⊢
    rw [zj6]
    obtain ⟨h1,h2,h3⟩:=zfc.1 h
    obtain ⟨c0,c1,c2⟩:=(zbh.1 h2).1
    obtain ⟨r0,r1,r2⟩:=hr
    have hc:c.1≤r.1:=ho c (by simp) r (List.mem_cons_self ..)
    have h3c:∀ a∈o,a.2+1<c.1:=fun a ha=>h3 a ha c (List.mem_singleton.2 rfl)
    by_cases k:r.1≤c.2+1
    ·rw [if_pos k]
     refine ⟨zfc.2 ⟨h1,zhb ⟨c0,by show c.1≤max c.2 r.2;omega,by show max c.2 r.2≤most;omega⟩,fun a ha b hb=>?_⟩,fun n=>?_,fun x hx t ht=>?_⟩
     ·rw [List.mem_singleton] at hb
      subst hb
      exact h3c a ha
     ·rw [mem_append,zg5,mem_append,zg5]
      have:(c.1≤n∧n≤max c.2 r.2)↔((r.1≤n∧n≤r.2)∨(c.1≤n∧n≤c.2)):=by omega
      constructor
      ·rintro (j | j)
       ·exact .inr (.inl j)
       ·rcases this.1 j with j | j
        ·exact .inl j
        ·exact .inr (.inr j)
      ·rintro (j | j | j)
       ·exact .inr (this.2 (.inl j))
       ·exact .inl j
       ·exact .inr (this.2 (.inr j))
     ·rcases List.mem_append.1 hx with hx | hx
      ·exact ho x (List.mem_append_left _ hx) t (List.mem_cons_of_mem _ ht)
      ·rw [List.mem_singleton] at hx
       subst hx
       exact ho c (by simp) t (List.mem_cons_of_mem _ ht)
    ·rw [if_neg k]
     refine ⟨zfc.2 ⟨h,zhb ⟨r0,r1,r2⟩,fun a ha b hb=>?_⟩,fun n=>?_,fun x hx t ht=>?_⟩
     ·rw [List.mem_singleton] at hb
      subst hb
      rcases List.mem_append.1 ha with ha | ha
      ·have:=h3c a ha;omega
      ·rw [List.mem_singleton] at ha
       subst ha
       omega
     ·rw [mem_append,zg5]
      exact ⟨fun j=>j.symm,fun j=>j.symm⟩
     ·rcases List.mem_append.1 hx with hx | hx
      ·exact ho x hx t (List.mem_cons_of_mem _ ht)
      ·rw [List.mem_singleton] at hx
       subst hx
       exact p1 t ht
  obtain ⟨i1,i2⟩:=zmp s (zfs out r) (fun t ht=>hs t (List.mem_cons_of_mem _ ht)) p2 key.1 key.2.2
  refine ⟨i1,fun n=>?_⟩
  rw [List.foldl_cons,i2,key.2.1,mem_cons]
  constructor
  ·rintro (k | k | k)
   ·exact .inl (.inr k)
   ·exact .inl (.inl k)
   ·exact .inr k
  ·rintro ((k | k) | k)
   ·exact .inr (.inl k)
   ·exact .inl k
   ·exact .inr (.inr k)
def zjq (l:List Rn):List Rn:=(l.map clip).filter fun r=>decide (r.1≤r.2)
theorem zy9 (l:List Rn):∀ r∈zjq l,Ok r:=by
 intro r hr
 obtain ⟨h1,h2⟩:=List.mem_filter.1 hr
 obtain ⟨x,_,rfl⟩:=List.mem_map.1 h1
 have:=of_decide_eq_true h2
 have c1:(clip x).1=max x.1 0:=rfl
 have c2:(clip x).2=min x.2 most:=rfl
 exact ⟨by omega,this,by omega⟩
theorem z4a (l:List Rn) (n:Int):Mem n (zjq l)↔Has l n:=by
 unfold Mem Has zjq
 have m0:=zlv
 constructor
 ·rintro ⟨r,hr,h⟩
  obtain ⟨h1,h2⟩:=List.mem_filter.1 hr
  obtain ⟨x,hx,rfl⟩:=List.mem_map.1 h1
  have c1:(clip x).1=max x.1 0:=rfl
  have c2:(clip x).2=min x.2 most:=rfl
  exact ⟨by omega,by omega,x,hx,by omega⟩
 ·rintro ⟨a,b,x,hx,h⟩
  have c1:(clip x).1=max x.1 0:=rfl
  have c2:(clip x).2=min x.2 most:=rfl
  exact ⟨clip x,List.mem_filter.2 ⟨List.mem_map.2 ⟨x,hx,rfl⟩,decide_eq_true (by omega)⟩,by omega⟩
theorem z3n (l s:List Rn) (hs:s.Perm (zjq l)) (hp:s.Pairwise (fun a b=>a.1≤b.1)):s.foldl zfs []=norm l:=by
 obtain ⟨h1,h2⟩:=zmp s [] (fun r hr=>zy9 l r (hs.mem_iff.1 hr)) hp zez (by simp)
 refine z3o h1 fun n=>?_
 rw [h2,←z4a]
 simp only [zcu,or_false]
 unfold Mem
 constructor
 ·rintro ⟨r,hr,h⟩;exact ⟨r,hs.mem_iff.1 hr,h⟩
 ·rintro ⟨r,hr,h⟩;exact ⟨r,hs.mem_iff.2 hr,h⟩
def zf3 (s:List Rn × Int) (r:Rn):List Rn × Int:=(if s.2<r.1 then s.1++[(s.2,r.1 - 1)] else s.1,r.2+1)
def rend (s:List Rn × Int):List Rn:=if s.2≤most then s.1++[(s.2,most)] else s.1
def rest (l:List Rn):List Rn:=rend ((norm l).foldl zf3 ([],0))
def rst (f:Int):List Rn→List Rn
 | []=>if f≤most then [(f,most)] else []
 | r::l=>if f<r.1 then (f,r.1 - 1)::rst (r.2+1) l else rst (r.2+1) l
theorem zi8:∀ (l:List Rn) (o:List Rn) (f:Int),rend (l.foldl zf3 (o,f))=o++rst f l
 | [],o,f=>by
  show (if f≤most then o++[(f,most)] else o)=o++(if f≤most then [(f,most)] else [])
  split<;>simp
 | r::l,o,f=>by
  rw [List.foldl_cons]
  unfold rst
  by_cases k:f<r.1
  ·rw [show zf3 (o,f) r=(o++[(f,r.1 - 1)],r.2+1) from by simp [zf3,k],zi8 l,if_pos k,List.append_assoc]
   rfl
  ·rw [show zf3 (o,f) r=(o,r.2+1) from by simp [zf3,k],zi8 l,if_neg k]
theorem z2q:∀ (l:List Rn) (f:Int),0≤f→Canon l→(∀ r∈l,f≤r.1)→Canon (rst f l)∧(∀ n,Mem n (rst f l)↔f≤n∧n≤most∧¬ Mem n l)∧∀ r∈rst f l,f≤r.1
 | [],f,h0,_,_=>by
  unfold rst
  split
  ·refine ⟨zhb ⟨h0,by assumption,Int.le_refl _⟩,fun n=>by rw [zg5];simp [zcu],fun r hr=>?_⟩
   rw [List.mem_singleton] at hr
   subst hr
   exact Int.le_refl _
  ·exact ⟨zez,fun n=>⟨fun k=>absurd k (zcu _),fun k=>by omega⟩,by simp⟩
 | r::l,f,h0,h,hf=>by
  obtain ⟨⟨r0,r1,r2⟩,h1,h2⟩:=zbh.1 h
  have hfr:=hf r (List.mem_cons_self ..)
  obtain ⟨i1,i2,i3⟩:=z2q l (r.2+1) (by omega) h2 fun s hs=>by have:=h1 s hs;omega
  unfold rst
  by_cases k:f<r.1
  ·rw [if_pos k]
   refine ⟨zbh.2 ⟨⟨h0,by show f≤r.1 - 1;omega,by show r.1 - 1≤most;omega⟩,fun s hs=>by have:=i3 s hs;show r.1 - 1+1<s.1;omega,i1⟩,fun n=>?_,fun s hs=>?_⟩
   ·rw [mem_cons,i2,mem_cons]
    show (f≤n∧n≤r.1 - 1)∨_↔_
    constructor
    ·rintro (j | ⟨j1,j2,j3⟩)
     ·exact ⟨by omega,by omega,fun q=>q.elim (fun q=>by omega) fun q=>by have:=zfb h q;omega⟩
     ·exact ⟨by omega,j2,fun q=>q.elim (fun q=>by omega) j3⟩
    ·rintro ⟨j1,j2,j3⟩
     by_cases q:n≤r.1 - 1
     ·exact .inl ⟨j1,q⟩
     ·exact .inr ⟨by have:¬ (r.1≤n∧n≤r.2):=fun z=>j3 (.inl z);omega,j2,fun z=>j3 (.inr z)⟩
   ·rcases List.mem_cons.1 hs with rfl | hs
    ·exact Int.le_refl _
    ·have:=i3 s hs;omega
  ·rw [if_neg k]
   refine ⟨i1,fun n=>?_,fun s hs=>by have:=i3 s hs;omega⟩
   rw [i2,mem_cons]
   constructor
   ·rintro ⟨j1,j2,j3⟩
    exact ⟨by omega,j2,fun q=>q.elim (fun q=>by omega) j3⟩
   ·rintro ⟨j1,j2,j3⟩
    exact ⟨by have:¬ (r.1≤n∧n≤r.2):=fun z=>j3 (.inl z);omega,j2,fun z=>j3 (.inr z)⟩
theorem zyj (l:List Rn):Canon (rest l)∧∀ n,Mem n (rest l)↔0≤n∧n≤most∧¬ Has l n:=by
 unfold rest
 rw [zi8,List.nil_append]
 obtain ⟨i1,i2,_⟩:=z2q (norm l) 0 (Int.le_refl _) (zct l) fun r hr=>((zct l).1 r hr).1
 refine ⟨i1,fun n=>?_⟩
 rw [i2,zlx]
def union (a b:List Rn):List Rn:=norm (a++b)
def meet (a b:List Rn):List Rn:=rest (union (rest a) (rest b))
def zyo (a b:List Rn):List Rn:=meet a (rest b)
theorem zm7 (a b:List Rn):Canon (union a b):=zct _
theorem z0q (a b:List Rn) (n:Int):Has (a++b) n↔Has a n∨Has b n:=by
 unfold Has
 rw [mem_append]
 constructor
 ·rintro ⟨x,y,z | z⟩
  ·exact .inl ⟨x,y,z⟩
  ·exact .inr ⟨x,y,z⟩
 ·rintro (⟨x,y,z⟩ | ⟨x,y,z⟩)
  ·exact ⟨x,y,.inl z⟩
  ·exact ⟨x,y,.inr z⟩
theorem zto (a b:List Rn) (n:Int):Mem n (union a b)↔Has a n∨Has b n:=by rw [union,zlx,z0q]
theorem zh7 (a:List Rn):Canon (rest a):=(zyj a).1
theorem zlw (a:List Rn) (n:Int):Mem n (rest a)↔0≤n∧n≤most∧¬ Has a n:=(zyj a).2 n
theorem z09 (a b:List Rn):Canon (meet a b):=zh7 _
theorem xao (a b:List Rn) (n:Int):Mem n (meet a b)↔Has a n∧Has b n:=by
 unfold meet
 rw [zlw,zex (zm7 _ _),zto,zex (zh7 _),zex (zh7 _),zlw,zlw]
 constructor
 ·rintro ⟨h1,h2,h3⟩
  exact ⟨Classical.byContradiction fun k=>h3 (.inl ⟨h1,h2,k⟩),Classical.byContradiction fun k=>h3 (.inr ⟨h1,h2,k⟩)⟩
 ·rintro ⟨h1,h2⟩
  exact ⟨h1.1,h1.2.1,fun k=>k.elim (fun k=>k.2.2 h1) fun k=>k.2.2 h2⟩
theorem zur (a b:List Rn):Canon (zyo a b):=z09 _ _
theorem z0g (a b:List Rn) (n:Int):Mem n (zyo a b)↔Has a n∧¬ Has b n:=by
 unfold zyo
 rw [xao,zex (zh7 _),zlw]
 constructor
 ·rintro ⟨h1,h2,h3,h4⟩;exact ⟨h1,h4⟩
 ·rintro ⟨h1,h2⟩;exact ⟨h1,h1.1,h1.2.1,h2⟩
theorem z3f (a b:List Rn):zyo a b=minus a b:=zm9 (zur a b) (zm8 a b) fun n=>by
 rw [z0g,zmr]
 constructor
 ·rintro ⟨h1,h2⟩;exact ⟨h1,fun k=>h2 ⟨h1.1,h1.2.1,k⟩⟩
 ·rintro ⟨h1,h2⟩;exact ⟨h1,fun k=>h2 k.2.2⟩
def len (l:List Rn):Int:=l.foldl (fun n r=>n+r.2 - r.1+1) 0
instance (n:Int) (l:List Rn):Decidable (Mem n l):=by unfold Mem;infer_instance
end Rs
namespace Rs
theorem zt7 {α β:Type} (f:β→α→β) (l:List α) (s:β) (k:Nat) (hk:k<l.length):(l.take (k+1)).foldl f s=f ((l.take k).foldl f s) l[k]:=by
 rw [List.take_succ_eq_append_getElem hk,List.foldl_append]
 rfl
theorem z3e (s:Rn × List Rn × Bool) (y:Rn):(zg3 s y).2.1.length+(if (zg3 s y).2.2=true then 0 else 1)≤s.2.1.length+(if s.2.2=true then 0 else 1)+1:=by
 unfold zg3
 split
 ·simp only [List.length_append,List.length_cons,List.length_nil];omega
 ·split
  ·split
   ·simp_all
   ·simp_all
  ·show s.2.1.length+(if s.2.2=true then 0 else 1)≤_
   omega
theorem zta:∀ (l:List Rn) (s:Rn × List Rn × Bool),(l.foldl zg3 s).2.1.length+(if (l.foldl zg3 s).2.2=true then 0 else 1)≤s.2.1.length+(if s.2.2=true then 0 else 1)+l.length
 | [],s=>Nat.le_refl _
 | y::l,s=>by
  have h1:=zta l (zg3 s y)
  have h2:=z3e s y
  rw [List.foldl_cons,List.length_cons]
  omega
theorem xex (l:List Rn) (x:Rn):(put l x).length≤l.length+1:=by
 unfold put
 split
 ·have h:=zta l (clip x,[],false)
  unfold pend
  split
  ·simp_all;omega
  ·simp_all;omega
 ·omega
theorem zti:∀ (l s:List Rn),(l.foldl put s).length≤s.length+l.length
 | [],s=>by simp
 | x::l,s=>by
  have h1:=zti l (put s x)
  have h2:=xex s x
  rw [List.foldl_cons,List.length_cons]
  omega
theorem zlu (l:List Rn):(norm l).length≤l.length:=by
 have:=zti l []
 simpa [norm] using this
theorem z07 (l:List Rn) (k:Nat) (hk:k<l.length):zjq (l.take (k+1))=if (clip l[k]).1≤(clip l[k]).2 then zjq (l.take k)++[clip l[k]] else zjq (l.take k):=by
 unfold zjq
 rw [List.take_succ_eq_append_getElem hk,List.map_append,List.filter_append]
 by_cases h:(clip l[k]).1≤(clip l[k]).2<;>simp [h]
theorem z6n (l:List Rn):(zjq l).length≤l.length:=by
 unfold zjq
 have:=List.length_filter_le (fun r:Rn=>decide (r.1≤r.2)) (l.map clip)
 rw [List.length_map] at this
 exact this
theorem z3x (o:List Rn) (r:Rn):(zfs o r).length≤o.length+1:=by
 rcases List.eq_nil_or_concat o with rfl | ⟨o,c,rfl⟩
 ·rw [ztm];simp
 ·rw [List.concat_eq_append,zj6]
  split<;>simp
theorem ztn:∀ (l s:List Rn),(l.foldl zfs s).length≤s.length+l.length
 | [],s=>by simp
 | x::l,s=>by
  have h1:=ztn l (zfs s x)
  have h2:=z3x s x
  rw [List.foldl_cons,List.length_cons]
  omega
theorem zwx {s:List Rn} (hs:∀ r∈s,Ok r) (hp:s.Pairwise (fun a b=>a.1≤b.1)) (k:Nat):Canon ((s.take k).foldl zfs []):=by
 refine (zmp (s.take k) [] (fun r hr=>hs r (List.mem_of_mem_take hr)) ?_ zez (by simp)).1
 have:=List.take_append_drop k s
 rw [←this] at hp
 exact (List.pairwise_append.1 hp).1
theorem z2p:∀ (l:List Rn) (f:Int),(rst f l).length≤l.length+1
 | [],f=>by unfold rst;split<;>simp
 | r::l,f=>by
  have:=z2p l (r.2+1)
  unfold rst
  split<;>simp<;>omega
theorem z9x (l:List Rn):rest l=rst 0 (norm l):=by
 unfold rest
 rw [zi8]
 rfl
theorem zql (l:List Rn):(rest l).length≤l.length+1:=by
 have h1:=z2p (norm l) 0
 have h2:=zlu l
 rw [z9x]
 omega
theorem z1m (a b:List Rn):(union a b).length≤a.length+b.length:=by
 have:=zlu (a++b)
 rw [List.length_append] at this
 exact this
theorem z2o (s:List Rn × Int) (r:Rn):(zf3 s r).1.length≤s.1.length+1:=by
 unfold zf3
 simp only
 split<;>simp
theorem zs5:∀ (l:List Rn) (s:List Rn × Int),(l.foldl zf3 s).1.length≤s.1.length+l.length
 | [],s=>by simp
 | x::l,s=>by
  have h1:=zs5 l (zf3 s x)
  have h2:=z2o s x
  rw [List.foldl_cons,List.length_cons]
  omega
theorem zo4:∀ (l:List Rn) (s:List Rn × Int),(∀ r∈l,Ok r)→(0≤s.2∧s.2≤most+1)→0≤(l.foldl zf3 s).2∧(l.foldl zf3 s).2≤most+1
 | [],s,_,h=>h
 | x::l,s,hl,h=>by
  obtain ⟨a,b,c⟩:=hl x (List.mem_cons_self ..)
  rw [List.foldl_cons]
  exact zo4 l _ (fun r hr=>hl r (List.mem_cons_of_mem _ hr)) ⟨by show 0≤x.2+1;omega,by show x.2+1≤most+1;omega⟩
instance (l:List Rn) (n:Int):Decidable (Has l n):=by unfold Has;infer_instance
end Rs
end Go.Proofs.YtfknjmoekbabcaaGreatDoor

/-
  A part of a proof. It proves no statement by itself.
-/
import Derived.Test.YtfknjmoekbabcaaGreatDoorC20
import Derived.Test.YtfknjmoekbabcaaGreatDoorC21
import Derived.Test.YtfknjmoekbabcaaGreatDoorC13
set_option linter.unusedSimpArgs false
set_option linter.unusedVariables false
set_option linter.unusedSectionVars false
set_option maxRecDepth 100000
set_option maxHeartbeats 64000000
namespace Go.Proofs.YtfknjmoekbabcaaGreatDoor
open Go.RowKit Go.Lib
inductive Ch
 | no
 | laid (g:Nat)
 | got (g:Nat) (v:Value)
namespace Ch
def b:Ch→Bool
 | no=>false
 | _=>true
def c:Ch→Bool
 | got _ _=>true
 | _=>false
def s1:Ch→Value
 | no=>undef
 | laid g=>.slice (some ⟨g,0,none⟩) 1 1
 | got g _=>.slice (some ⟨g,0,none⟩) 1 1
def s2:Ch→Value
 | got _ v=>v
 | _=>undef
def asn (ty:TypeId) (x:Value) (R:Value→Asn):Ch→Asn
 | no=>emp
 | laid g=>pts g (.cells #[x] ty (0,0))
 | got _ v=>R v
def res (c1:Ch):Ch→Value
 | got _ v=>.agg #[.bool false,.slice none 0 0,c1.s2,v]
 | _=>undef
theorem zgh {a x:Ch} (h:x.c=false):res a x=undef:=by cases x<;>simp [c,res] at h ⊢
theorem ztz {x:Ch} (h:x.b=false):x=no:=by cases x<;>simp [b] at h ⊢
theorem zj8 {x:Ch} (h:x.b=true) (k:x.c=false):∃ g,x=laid g:=by cases x<;>simp [b,c] at h k ⊢
theorem zgv {x:Ch} (h:x.c=true):∃ g v,x=got g v:=by cases x<;>simp [c] at h ⊢
end Ch
theorem zad.c2_of {s:zad} (ho:s.ok=true) (h:s.c1=false):s.c2=false:=by
 unfold zad.ok at ho
 rw [h] at ho
 cases h2:s.c2
 ·rfl
 ·rw [h2] at ho;simp at ho
theorem zad.c4_of {s:zad} (ho:s.ok=true) (h:s.c3=false):s.c4=false:=by
 unfold zad.ok at ho
 rw [h] at ho
 cases h2:s.c4
 ·rfl
 ·rw [h2] at ho;simp at ho
section
variable {A B C D T X:Asn} {w:World}
theorem lay1 (h:Sat ((emp*(B*(C*D)))*T) w) (o:Obj):Sat ((pts w.heap.size o*(B*(C*D)))*T) (w.alloc o):=(h.new o).of_eq (by rw [zcq];ac_rfl)
theorem lay2 (h:Sat ((A*(emp*(C*D)))*T) w) (o:Obj):Sat ((A*(pts w.heap.size o*(C*D)))*T) (w.alloc o):=(h.new o).of_eq (by rw [zcq];ac_rfl)
theorem lay3 (h:Sat ((A*(B*(emp*D)))*T) w) (o:Obj):Sat ((A*(B*(pts w.heap.size o*D)))*T) (w.alloc o):=(h.new o).of_eq (by rw [zcq];ac_rfl)
theorem lay4 (h:Sat ((A*(B*(C*emp)))*T) w) (o:Obj):Sat ((A*(B*(C*pts w.heap.size o)))*T) (w.alloc o):=(h.new o).of_eq (by rw [zlz];ac_rfl)
theorem z3d (h:Sat ((A*(B*(C*D)))*T) w):Sat (A*((B*(C*D))*T)) w:=h.of_eq (by ac_rfl)
theorem z99 (h:Sat ((A*(B*(C*D)))*T) w):Sat (B*((A*(C*D))*T)) w:=h.of_eq (by ac_rfl)
theorem z3c (h:Sat ((A*(B*(C*D)))*T) w):Sat (C*((A*(B*D))*T)) w:=h.of_eq (by ac_rfl)
theorem z98 (h:Sat ((A*(B*(C*D)))*T) w):Sat (D*((A*(B*C))*T)) w:=h.of_eq (by ac_rfl)
theorem push1 (h:Sat (A*((B*(C*D))*T)) w):Sat ((A*(B*(C*D)))*T) w:=h.of_eq (by ac_rfl)
theorem push2 (h:Sat (B*((A*(C*D))*T)) w):Sat ((A*(B*(C*D)))*T) w:=h.of_eq (by ac_rfl)
theorem push3 (h:Sat (C*((A*(B*D))*T)) w):Sat ((A*(B*(C*D)))*T) w:=h.of_eq (by ac_rfl)
theorem push4 (h:Sat (D*((A*(B*C))*T)) w):Sat ((A*(B*(C*D)))*T) w:=h.of_eq (by ac_rfl)
end
section
variable {F:Asn} {w:World} {R:Ending→World→Prop}
theorem zl6 {kids:List Int} {keys:List Ky.Nm} {v:Value} (hr:Ky.InR kids keys) (h2:2≤kids.length) (hl:kids.length≤5000) (hv:NdV F v (Ky.inn kids keys)) (H:Sat F w)
  (h:∀ key G v1 v2 w',keys[kids.length / 2 - 1]?=some key→NdV G v1 (Ky.inn (kids.take (kids.length / 2)) (keys.take (kids.length / 2 - 1)))→NdV G v2 (Ky.inn (kids.drop (kids.length / 2)) (keys.drop (kids.length / 2)))→Sat (G*F) w'→Io w w'→R (.returned (.tuple #[v1,.string key,v2])) w') :
  Calls Tryz.prog 116 #[v] w R:=by
 have HVV:=L_ hv
 obtain ⟨se,sk,sx,rfl,hh⟩:=hv
 dsimp only [Ky.inn] at hh
 obtain ⟨⟨h1,s1⟩,⟨h3,s3⟩,h5,s5⟩:=hh
 have hlen:=hr.len
 obtain ⟨b3,o3,c3,rfl,hc3,hc4⟩:∃ b off c,sk=.slice (some ⟨b,off,none⟩) kids.length c∧kids.length≤c∧c≤maxLen:=by
  rcases s3 with ⟨_,h0⟩ | h
  ·omega
  ·exact h
 obtain ⟨b5,o5,c5,rfl,hc5,hc6⟩:∃ b off c,sx=.slice (some ⟨b,off,none⟩) keys.length c∧keys.length≤c∧c≤maxLen:=by
  rcases s5 with ⟨_,h0⟩ | h
  ·omega
  ·exact h
 obtain ⟨a1,c1,rfl,-⟩:=zab h1
 unfold maxLen at hc4 hc6
 have HH:=L_ h
 have P3:=L_ h3
 have P5:=L_ h5
 have HR:=L_ hr
 have HG:=L_ (fun k hk=>zdq h5 k hk)
 obtain ⟨n3,hn3⟩:∃ n,n=kids.length:=⟨_,rfl⟩
 obtain ⟨n5,hn5⟩:∃ n,n=keys.length:=⟨_,rfl⟩
 have HN3:=L_ hn3
 have HN5:=L_ hn5
 rw [←hn3] at HH
 obtain ⟨k,hk⟩:∃ k,k=n3 / 2:=⟨_,rfl⟩
 rw [←hk] at HH
 obtain ⟨j,hj⟩:∃ j,j=k - 1:=⟨_,rfl⟩
 rw [←hj] at HH
 have hjl:j<keys.length:=by omega
 obtain ⟨key,hkey⟩:∃ x,keys[j]=x:=⟨_,rfl⟩
 obtain ⟨b',off',k0,e,hx,hc⟩:=HG.out j hjl
 cases e
 rw [hkey] at hx
 subst hx
 have hbb:b5<w.heap.size:=World.block_lt_of_cell? w _ (hc w H)
 have HX:=L_ hc
 have HE:Hid (keys[j]?=some key):=L_ (by rw [List.getElem?_eq_getElem hjl,hkey])
 have i1:(2:Int)≤(n3:Int):=by omega
 have i2:¬ (n3:Int)<2:=by omega
 have m0:(0:Int)≤(k:Int):=by omega
 have m1:(k:Int)≤(n3:Int):=by omega
 have m2:(k:Int)≤(c3:Int):=by omega
 have m3:(k:Int)≤(n5:Int):=by omega
 have m4:(k:Int)≤(c5:Int):=by omega
 have m5:¬ c3=k:=by omega
 have j0:(0:Int)≤(j:Int):=by omega
 have j1:(j:Int)<(n5:Int):=by omega
 have j2:(j:Int)≤(n5:Int):=by omega
 have j3:(j:Int)≤(c5:Int):=by omega
 have u1:(k:Int)≤5000:=by omega
 have u2:(j:Int)≤5000:=by omega
 have u3:(n3:Int)≤5000:=by omega
 have u5:(n5:Int)≤5000:=by omega
 have hsub:(k:Int) - 1=(j:Int):=by omega
 have hq:(n3:Int) / 2=(k:Int):=by omega
 have hqt:(n3:Int).tdiv 2=(k:Int):=by rw [Int.tdiv_eq_ediv_of_nonneg (by omega)];exact hq
 have R1:Hid (zbd F (.slice (some ⟨b3,o3,none⟩) k c3) (kids.take k)):=L_ (zbw zba P3.out k (by omega))
 have R2:Hid (zbe F (.slice (some ⟨b5,o5,none⟩) j c5) (keys.take j)):=L_ (zbw zbu P5.out j (by omega))
 have R3:Hid (zbd F (.slice (some ⟨b3,o3+k,none⟩) (n3 - k) (c3 - k)) (kids.drop k)):=L_ (by
  have h:=za6 zba P3.out k (by omega) (by omega)
  rw [if_neg m5,Nat.mul_one,←hn3] at h
  exact h)
 have R4:Hid (zbe F (.slice (if c5=k then some ⟨b5,o5,none⟩ else some ⟨b5,o5+k,none⟩) (n5 - k) (c5 - k)) (keys.drop k)):=L_ (by
  have h:=za6 zbu P5.out k (by omega) (by omega)
  rw [Nat.mul_one,←hn5] at h
  exact h)
 obtain ⟨ad,had⟩:∃ ad:Option Addr,(if c5=k then some ⟨b5,o5,none⟩ else some ⟨b5,o5+k,none⟩)=ad:=⟨_,rfl⟩
 rw [had] at R4
 have Q1:Hid ((kids.take k).length≤10000):=L_ (by rw [List.length_take];omega)
 have Q2:Hid ((keys.take j).length≤10000):=L_ (by rw [List.length_take];omega)
 have Q3:Hid ((kids.drop k).length≤10000):=L_ (by rw [List.length_drop];omega)
 have Q4:Hid ((keys.drop k).length≤10000):=L_ (by rw [List.length_drop];omega)
 have Q0:Hid (kids.length≤5000):=L_ (by omega)
 rw [←hn3,←hn5] at HVV ⊢
 change Calls Tryz.prog 116 #[.agg #[.bool false,.slice a1 0 c1,.slice (some ⟨b3,o3,none⟩) n3 c3,.slice (some ⟨b5,o5,none⟩) n5 c5]] w R
 have I:=(((Io.refl w).alloc (.cells #[.bool false,.slice a1 0 c1,.slice (some ⟨b3,o3,none⟩) n3 c3,.slice (some ⟨b5,o5,none⟩) n5 c5] 151)).alloc (.cells #[.bool false,.slice none 0 0,.slice none 0 0,.slice none 0 0] 151)).alloc (.cells #[.bool false,.slice none 0 0,.slice none 0 0,.slice none 0 0] 151)
 have H:=(((H.new (.cells #[.bool false,.slice a1 0 c1,.slice (some ⟨b3,o3,none⟩) n3 c3,.slice (some ⟨b5,o5,none⟩) n5 c5] 151)).new (.cells #[.bool false,.slice none 0 0,.slice none 0 0,.slice none 0 0] 151)).new (.cells #[.bool false,.slice none 0 0,.slice none 0 0,.slice none 0 0] 151)).ze8
 simp only [heap_alloc,Nat.add_assoc,Nat.reduceAdd] at H
 clear h h1 s1 h3 s3 h5 s5 hr hl h2 hc3 hc4 hc5 hc6 HG hc hlen hjl hkey hk hj hn3 hn5
 go_enter Tryz.func116,Tryz.ntmps116
 go_upto_region 1 with fail
 generalize (((w.alloc _).alloc _).alloc _)=w1 at *
 generalize hb:w.heap.size=b at *
 simp only [Nat.add_assoc,Nat.reduceAdd]
 obtain ⟨q0,q1,q2,q3⟩:=nd4 H.right.right.right
 go_upto_region 7 with (go_at_call 144;refine zdr (.inner HR.out) (HVV.out.imp (fun _ hw=>hw.right.right.right.right)) ⟨Nat.zero_le _,Q0.out⟩ H ?_;intro w2 H2 I2;obtain ⟨q0,q1,q2,q3⟩:=nd4 H2.right.right.right)
 have J:=(I.trans I2).drew
 have Zu:=five (nd4 H2.right.right.right) (HX.out _ H2.right.right.right.right)
 have G:=H2.drew
 clear H I I2 H2 q0 q1 q2 q3
 have H:=G
 have I:=J
 clear G J
 have Z:=five (nd4 H.right.right.right) (HX.out _ H.right.right.right.right)
 have Y2:=nd4 H.right
 have Yf2:=zd7 H.right
 have Y:=nd4 H.right.right
 have Yf:=zd7 H.right.right
 have hw2:IntKind.i64.wrap (j:Int)=(j:Int):=by rw [IntKind.wrap_i64];omega
 refine wp_region_noPanic ?_
 refine wp_region_held_drew (S:=(fun W=>W.cell? ⟨b,0,none⟩=some (.bool false)∧W.cell? ⟨b,1,none⟩=some (.slice a1 0 c1)∧W.cell? ⟨b,2,none⟩=some (.slice (some ⟨b3,o3,none⟩) n3 c3)∧W.cell? ⟨b,3,none⟩=some (.slice (some ⟨b5,o5,none⟩) n5 c5)∧W.cell? ⟨b5,o5+j,none⟩=some (.string key))) (by kernel_rfl) Z (fun hHeld=>?_)
 refine wpAnyH_take (i:=0) (oi:=?o0) (v:=?v0) ?ho0 (by kernel_rfl) (by kernel_rfl) (by kernel_rfl) (fun _ _ _ h=>h) ?y0 (by assumption) ?r0
 case ho0=>simp only [List.getElem?_toArray,List.getElem?_cons_succ,List.getElem?_cons_zero]<;>rfl
 case y0 =>
  refine Or.inl ⟨by rfl,?_⟩
  intro w hSw
  (try dsimp only at hSw)
  go_simp
  all_goals with_reducible rfl
 try simp only [Act.put,List.setIfInBounds_toArray,List.set_cons_zero,List.set_cons_succ]
 refine wpAnyH_take (i:=1) (oi:=?o1) (v:=?v1) ?ho1 (by kernel_rfl) (by kernel_rfl) (by kernel_rfl) (fun _ _ _ h=>h) ?y1 (by assumption) ?r1
 case ho1=>simp only [List.getElem?_toArray,List.getElem?_cons_succ,List.getElem?_cons_zero]<;>rfl
 case y1 =>
  refine Or.inl ⟨by rfl,?_⟩
  intro w hSw
  (try dsimp only at hSw)
  go_simp
  all_goals with_reducible rfl
 try simp only [Act.put,List.setIfInBounds_toArray,List.set_cons_zero,List.set_cons_succ]
 refine wpAnyH_take (i:=2) (oi:=?o2) (v:=?v2) ?ho2 (by kernel_rfl) (by kernel_rfl) (by kernel_rfl) (fun _ _ _ h=>h) ?y2 (by assumption) ?r2
 case ho2=>simp only [List.getElem?_toArray,List.getElem?_cons_succ,List.getElem?_cons_zero]<;>rfl
 case y2 =>
  refine Or.inl ⟨by rfl,?_⟩
  intro w hSw
  (try dsimp only at hSw)
  go_simp
  all_goals with_reducible rfl
 try simp only [Act.put,List.setIfInBounds_toArray,List.set_cons_zero,List.set_cons_succ]
 refine wpAnyH_take (i:=3) (oi:=?o3) (v:=?v3) ?ho3 (by kernel_rfl) (by kernel_rfl) (by kernel_rfl) (fun _ _ _ h=>h) ?y3 (by assumption) ?r3
 case ho3=>simp only [List.getElem?_toArray,List.getElem?_cons_succ,List.getElem?_cons_zero]<;>rfl
 case y3 =>
  refine Or.inl ⟨by rfl,?_⟩
  intro w hSw
  (try dsimp only at hSw)
  go_simp
  all_goals with_reducible rfl
 try simp only [Act.put,List.setIfInBounds_toArray,List.set_cons_zero,List.set_cons_succ]
 refine wpAnyH_take (i:=6) (oi:=?o6) (v:=?v6) ?ho6 (by kernel_rfl) (by kernel_rfl) (by kernel_rfl) (fun _ _ _ h=>h) ?y6 (by assumption) ?r6
 case ho6=>simp only [List.getElem?_toArray,List.getElem?_cons_succ,List.getElem?_cons_zero]<;>rfl
 case y6 =>
  refine Or.inl ⟨by rfl,?_⟩
  intro w hSw
  (try dsimp only at hSw)
  go_simp
  all_goals with_reducible rfl
 try simp only [Act.put,List.setIfInBounds_toArray,List.set_cons_zero,List.set_cons_succ]
 refine wpAnyH_take (i:=7) (oi:=?o7) (v:=?v7) ?ho7 (by kernel_rfl) (by kernel_rfl) (by kernel_rfl) (fun _ _ _ h=>h) ?y7 (by assumption) ?r7
 case ho7=>simp only [List.getElem?_toArray,List.getElem?_cons_succ,List.getElem?_cons_zero]<;>rfl
 case y7 =>
  refine Or.inl ⟨by rfl,?_⟩
  intro w hSw
  (try dsimp only at hSw)
  go_simp
  all_goals with_reducible rfl
 try simp only [Act.put,List.setIfInBounds_toArray,List.set_cons_zero,List.set_cons_succ]
 refine wpAnyH_take (i:=8) (oi:=?o8) (v:=?v8) ?ho8 (by kernel_rfl) (by kernel_rfl) (by kernel_rfl) (fun _ _ _ h=>h) ?y8 (by assumption) ?r8
 case ho8=>simp only [List.getElem?_toArray,List.getElem?_cons_succ,List.getElem?_cons_zero]<;>rfl
 case y8 =>
  refine Or.inl ⟨by rfl,?_⟩
  intro w hSw
  (try dsimp only at hSw)
  go_simp
  all_goals with_reducible rfl
 try simp only [Act.put,List.setIfInBounds_toArray,List.set_cons_zero,List.set_cons_succ]
 refine wpAnyH_take (i:=9) (oi:=?o9) (v:=?v9) ?ho9 (by kernel_rfl) (by kernel_rfl) (by kernel_rfl) (fun _ _ _ h=>h) ?y9 (by assumption) ?r9
 case ho9=>simp only [List.getElem?_toArray,List.getElem?_cons_succ,List.getElem?_cons_zero]<;>rfl
 case y9 =>
  refine Or.inl ⟨by rfl,?_⟩
  intro w hSw
  (try dsimp only at hSw)
  go_simp
  all_goals with_reducible rfl
 try simp only [Act.put,List.setIfInBounds_toArray,List.set_cons_zero,List.set_cons_succ]
 refine wpAnyH_take (i:=10) (oi:=?o10) (v:=?v10) ?ho10 (by kernel_rfl) (by kernel_rfl) (by kernel_rfl) (fun _ _ _ h=>h) ?y10 (by assumption) ?r10
 case ho10=>simp only [List.getElem?_toArray,List.getElem?_cons_succ,List.getElem?_cons_zero]<;>rfl
 case y10 =>
  refine Or.inl ⟨by rfl,?_⟩
  intro w hSw
  (try dsimp only at hSw)
  go_simp
  all_goals with_reducible rfl
 try simp only [Act.put,List.setIfInBounds_toArray,List.set_cons_zero,List.set_cons_succ]
 refine wpAnyH_take (i:=14) (oi:=?o14) (v:=?v14) ?ho14 (by kernel_rfl) (by kernel_rfl) (by kernel_rfl) (fun _ _ _ h=>h) ?y14 (by assumption) ?r14
 case ho14=>simp only [List.getElem?_toArray,List.getElem?_cons_succ,List.getElem?_cons_zero]<;>rfl
 case y14 =>
  refine Or.inl ⟨by rfl,?_⟩
  intro w hSw
  (try dsimp only at hSw)
  go_simp
  all_goals with_reducible rfl
 try simp only [Act.put,List.setIfInBounds_toArray,List.set_cons_zero,List.set_cons_succ]
 refine wpAnyH_take (i:=15) (oi:=?o15) (v:=?v15) ?ho15 (by kernel_rfl) (by kernel_rfl) (by kernel_rfl) (fun _ _ _ h=>h) ?y15 (by assumption) ?r15
 case ho15=>simp only [List.getElem?_toArray,List.getElem?_cons_succ,List.getElem?_cons_zero]<;>rfl
 case y15 =>
  refine Or.inl ⟨by rfl,?_⟩
  intro w hSw
  (try dsimp only at hSw)
  go_simp
  all_goals with_reducible rfl
 try simp only [Act.put,List.setIfInBounds_toArray,List.set_cons_zero,List.set_cons_succ]
 refine wpAnyH_take (i:=16) (oi:=?o16) (v:=?v16) ?ho16 (by kernel_rfl) (by kernel_rfl) (by kernel_rfl) (fun _ _ _ h=>h) ?y16 (by assumption) ?r16
 case ho16=>simp only [List.getElem?_toArray,List.getElem?_cons_succ,List.getElem?_cons_zero]<;>rfl
 case y16 =>
  refine Or.inl ⟨by rfl,?_⟩
  intro w hSw
  (try dsimp only at hSw)
  go_simp
  all_goals with_reducible rfl
 try simp only [Act.put,List.setIfInBounds_toArray,List.set_cons_zero,List.set_cons_succ]
 refine wpAnyH_take (i:=17) (oi:=?o17) (v:=?v17) ?ho17 (by kernel_rfl) (by kernel_rfl) (by kernel_rfl) (fun _ _ _ h=>h) ?y17 (by assumption) ?r17
 case ho17=>simp only [List.getElem?_toArray,List.getElem?_cons_succ,List.getElem?_cons_zero]<;>rfl
 case y17 =>
  refine Or.inl ⟨by rfl,?_⟩
  intro w hSw
  (try dsimp only at hSw)
  go_simp
  all_goals with_reducible rfl
 try simp only [Act.put,List.setIfInBounds_toArray,List.set_cons_zero,List.set_cons_succ]
 refine wpAnyH_take (i:=18) (oi:=?o18) (v:=?v18) ?ho18 (by kernel_rfl) (by kernel_rfl) (by kernel_rfl) (fun _ _ _ h=>h) ?y18 (by assumption) ?r18
 case ho18=>simp only [List.getElem?_toArray,List.getElem?_cons_succ,List.getElem?_cons_zero]<;>rfl
 case y18 =>
  refine Or.inl ⟨by rfl,?_⟩
  intro w hSw
  (try dsimp only at hSw)
  go_simp
  all_goals with_reducible rfl
 try simp only [Act.put,List.setIfInBounds_toArray,List.set_cons_zero,List.set_cons_succ]
 refine wpAnyH_take (i:=19) (oi:=?o19) (v:=?v19) ?ho19 (by kernel_rfl) (by kernel_rfl) (by kernel_rfl) (fun _ _ _ h=>h) ?y19 (by assumption) ?r19
 case ho19=>simp only [List.getElem?_toArray,List.getElem?_cons_succ,List.getElem?_cons_zero]<;>rfl
 case y19 =>
  refine Or.inl ⟨by rfl,?_⟩
  intro w hSw
  (try dsimp only at hSw)
  go_simp
  all_goals with_reducible rfl
 try simp only [Act.put,List.setIfInBounds_toArray,List.set_cons_zero,List.set_cons_succ]
 refine wpAnyH_take (i:=20) (oi:=?o20) (v:=?v20) ?ho20 (by kernel_rfl) (by kernel_rfl) (by kernel_rfl) (fun _ _ _ h=>h) ?y20 (by assumption) ?r20
 case ho20=>simp only [List.getElem?_toArray,List.getElem?_cons_succ,List.getElem?_cons_zero]<;>rfl
 case y20 =>
  refine Or.inl ⟨by rfl,?_⟩
  intro w hSw
  (try dsimp only at hSw)
  go_simp
  all_goals with_reducible rfl
 try simp only [Act.put,List.setIfInBounds_toArray,List.set_cons_zero,List.set_cons_succ]
 refine wpAnyH_take (i:=21) (oi:=?o21) (v:=?v21) ?ho21 (by kernel_rfl) (by kernel_rfl) (by kernel_rfl) (fun _ _ _ h=>h) ?y21 (by assumption) ?r21
 case ho21=>simp only [List.getElem?_toArray,List.getElem?_cons_succ,List.getElem?_cons_zero]<;>rfl
 case y21 =>
  refine Or.inl ⟨by rfl,?_⟩
  intro w hSw
  (try dsimp only at hSw)
  go_simp
  all_goals with_reducible rfl
 try simp only [Act.put,List.setIfInBounds_toArray,List.set_cons_zero,List.set_cons_succ]
 refine wpAnyH_take (i:=22) (oi:=?o22) (v:=?v22) ?ho22 (by kernel_rfl) (by kernel_rfl) (by kernel_rfl) (fun _ _ _ h=>h) ?y22 (by assumption) ?r22
 case ho22=>simp only [List.getElem?_toArray,List.getElem?_cons_succ,List.getElem?_cons_zero]<;>rfl
 case y22 =>
  refine Or.inl ⟨by rfl,?_⟩
  intro w hSw
  (try dsimp only at hSw)
  go_simp
  all_goals with_reducible rfl
 try simp only [Act.put,List.setIfInBounds_toArray,List.set_cons_zero,List.set_cons_succ]
 refine wpAnyH_take (i:=23) (oi:=?o23) (v:=?v23) ?ho23 (by kernel_rfl) (by kernel_rfl) (by kernel_rfl) (fun _ _ _ h=>h) ?y23 (by assumption) ?r23
 case ho23=>simp only [List.getElem?_toArray,List.getElem?_cons_succ,List.getElem?_cons_zero]<;>rfl
 case y23 =>
  refine Or.inl ⟨by rfl,?_⟩
  intro w hSw
  (try dsimp only at hSw)
  go_simp
  all_goals with_reducible rfl
 try simp only [Act.put,List.setIfInBounds_toArray,List.set_cons_zero,List.set_cons_succ]
 refine wpAnyH_take (i:=26) (oi:=?o26) (v:=?v26) ?ho26 (by kernel_rfl) (by kernel_rfl) (by kernel_rfl) (fun _ _ _ h=>h) ?y26 (by assumption) ?r26
 case ho26=>simp only [List.getElem?_toArray,List.getElem?_cons_succ,List.getElem?_cons_zero]<;>rfl
 case y26 =>
  refine Or.inl ⟨by rfl,?_⟩
  intro w hSw
  (try dsimp only at hSw)
  go_simp
  all_goals with_reducible rfl
 try simp only [Act.put,List.setIfInBounds_toArray,List.set_cons_zero,List.set_cons_succ]
 refine wpAnyH_take (i:=27) (oi:=?o27) (v:=?v27) ?ho27 (by kernel_rfl) (by kernel_rfl) (by kernel_rfl) (fun _ _ _ h=>h) ?y27 (by assumption) ?r27
 case ho27=>simp only [List.getElem?_toArray,List.getElem?_cons_succ,List.getElem?_cons_zero]<;>rfl
 case y27 =>
  refine Or.inl ⟨by rfl,?_⟩
  intro w hSw
  (try dsimp only at hSw)
  go_simp
  all_goals with_reducible rfl
 try simp only [Act.put,List.setIfInBounds_toArray,List.set_cons_zero,List.set_cons_succ]
 refine wpAnyH_take (i:=28) (oi:=?o28) (v:=?v28) ?ho28 (by kernel_rfl) (by kernel_rfl) (by kernel_rfl) (fun _ _ _ h=>h) ?y28 (by assumption) ?r28
 case ho28=>simp only [List.getElem?_toArray,List.getElem?_cons_succ,List.getElem?_cons_zero]<;>rfl
 case y28 =>
  refine Or.inl ⟨by rfl,?_⟩
  intro w hSw
  (try dsimp only at hSw)
  go_simp
  all_goals with_reducible rfl
 try simp only [Act.put,List.setIfInBounds_toArray,List.set_cons_zero,List.set_cons_succ]
 refine wpAnyH_take (i:=29) (oi:=?o29) (v:=?v29) ?ho29 (by kernel_rfl) (by kernel_rfl) (by kernel_rfl) (fun _ _ _ h=>h) ?y29 (by assumption) ?r29
 case ho29=>simp only [List.getElem?_toArray,List.getElem?_cons_succ,List.getElem?_cons_zero]<;>rfl
 case y29 =>
  refine Or.inl ⟨by rfl,?_⟩
  intro w hSw
  (try dsimp only at hSw)
  go_simp
  all_goals with_reducible rfl
 try simp only [Act.put,List.setIfInBounds_toArray,List.set_cons_zero,List.set_cons_succ]
 clear hw2
 refine ziy (fuel':=3+10) (listed':=zad.lst #[true,true,true,true,false,false,true,true,true,true,true,false,false,false,true,true,true,true,true,true,true,true,true,true,false,false,true,true,true,true,false,false,false,false,false,false] 4 5 11 12 13 24 25 30 31 32 zad.start) (by kernel_rfl) (by kernel_rfl) ?_
 refine zkh (fun a0 ha0=>?_)
 have HA:=L_ ha0
 clear ha0
 refine zsa (f:=3) (base:=#[true,true,true,true,false,false,true,true,true,true,true,false,false,false,true,true,true,true,true,true,true,true,true,true,false,false,true,true,true,true,false,false,false,false,false,false]) (ib1:=4) (j1:=5) (ib2:=11) (j2:=12) (p2:=13) (ib3:=24) (j3:=25) (ib4:=30) (j4:=31) (p4:=32) (op2:=?op2) (op4:=?op4) (fun (s:zad) (a:Act) (W:World)=>∃ x1 x2 x3 x4:Ch,(s.b1=x1.b∧s.c1=x1.c∧s.b2=x2.b∧s.c2=x2.c∧s.b3=x3.b∧s.c3=x3.c∧s.b4=x4.b∧s.c4=x4.c)∧a=((((((((((a0).put (some 60) x1.s1).put (some 61) x1.s2).put (some 67) x2.s1).put (some 68) x2.s2).put (some 69) (x1.res x2)).put (some 80) x3.s1).put (some 81) x3.s2).put (some 86) x4.s1).put (some 87) x4.s2).put (some 88) (x3.res x4)∧Sat ((x1.asn 47 (.slice (some ⟨b3,o3,none⟩) k c3) (fun v=>za1 v (kids.take k))*(x2.asn 58 (.slice (some ⟨b5,o5,none⟩) j c5) (fun v=>zbj v (keys.take j))*(x3.asn 47 (.slice (some ⟨b3,o3+k,none⟩) (n3 - k) (c3 - k)) (fun v=>za1 v (kids.drop k))*x4.asn 58 (.slice ad (n5 - k) (c5 - k)) (fun v=>zbj v (keys.drop k)))))*(pts (b+2) (.cells #[.bool false,.slice none 0 0,.slice none 0 0,.slice none 0 0] 151 (0,0))*(pts (b+1) (.cells #[.bool false,.slice none 0 0,.slice none 0 0,.slice none 0 0] 151 (0,0))*(pts b (.cells #[.bool false,.slice a1 0 c1,.slice (some ⟨b3,o3,none⟩) n3 c3,.slice (some ⟨b5,o5,none⟩) n5 c5] 151 (0,0))*F)))) W∧Io w W) ?ho2 ?ho4 (by kernel_rfl) (fun _ _ _ _ _ h=>h) (by kernel_rfl) ?hb1 ?hc1 ?hb2 ?hc2 ?hb3 ?hc3 ?hb4 ?hc4 ?h4 ?hi hHeld
 case ho2=>simp only [List.getElem?_toArray,List.getElem?_cons_succ,List.getElem?_cons_zero]<;>rfl
 case ho4=>simp only [List.getElem?_toArray,List.getElem?_cons_succ,List.getElem?_cons_zero]<;>rfl
 case hi =>
  refine ⟨.no,.no,.no,.no,⟨rfl,rfl,rfl,rfl,rfl,rfl,rfl,rfl⟩,?_,?_,I⟩
  ·rw [HA.out]
   simp only [Act.put,List.setIfInBounds_toArray,List.set_cons_zero,List.set_cons_succ,Ch.s1,Ch.s2,Ch.res]
   all_goals rfl
  ·refine H.of_eq ?_
   simp only [Ch.asn,zcq]
 case hb1 =>
  clear H I Z Y Yf Y2 Yf2 hHeld Zu
  intro s ok h1 a W hI hHeld
  obtain ⟨x1,x2,x3,x4,⟨q1,r1,q2,r2,q3,r3,q4,r4⟩,rfl,H,I⟩:=hI
  obtain rfl:=Ch.ztz (q1.symm.trans h1)
  refine zbs (o:=?ob1) ?hob1 (fun K hK=>?_)
  case hob1=>simp only [List.getElem?_toArray,List.getElem?_cons_succ,List.getElem?_cons_zero]<;>rfl
  rw [HA.out]
  simp only [Act.put,List.setIfInBounds_toArray,List.set_cons_zero,List.set_cons_succ]
  go_simp
  refine hK.out _ _ ⟨?_,.laid W.heap.size,x2,x3,x4,⟨rfl,r1,q2,r2,q3,r3,q4,r4⟩,?_,lay1 H _,I.alloc _⟩
  ·exact zkb hHeld
  ·rw [HA.out]
   simp only [Act.put,List.setIfInBounds_toArray,List.set_cons_zero,List.set_cons_succ,Ch.s1,Ch.s2]
   all_goals rfl
 case hc1 =>
  clear H I Z Y Yf Y2 Yf2 hHeld Zu
  intro s ok h1 h2 a W hI hHeld
  obtain ⟨x1,x2,x3,x4,⟨q1,r1,q2,r2,q3,r3,q4,r4⟩,rfl,H,I⟩:=hI
  obtain ⟨g,rfl⟩:=Ch.zj8 (q1.symm.trans h1) (r1.symm.trans h2)
  have hn:x2.c=false:=r2.symm.trans (zad.c2_of ok h2)
  refine zbs (o:=?oc1) ?hoc1 (fun K hK=>?_)
  case hoc1=>simp only [List.getElem?_toArray,List.getElem?_cons_succ,List.getElem?_cons_zero]<;>rfl
  rw [HA.out]
  simp only [Act.put,List.setIfInBounds_toArray,List.set_cons_zero,List.set_cons_succ]
  go_simp
  simp only [Ch.s1,Ch.s2]
  go_at_call 148
  with_reducible refine zb8 (R1.out.imp (fun _ hw=>hw.right.right.right.right)) Q1.out (z3d H) ?_
  intro v W' H' I'
  obtain ⟨a',m',c',rfl⟩:=zaf H'
  go_simp
  refine hK.out _ _ ⟨?_,.got g _,x2,x3,x4,⟨q1,rfl,q2,r2,q3,r3,q4,r4⟩,?_,push1 H',I.trans I'⟩
  ·exact five (nd4 H'.right.right.right.right) (HX.out _ H'.right.right.right.right.right)
  ·rw [HA.out]
   simp only [Act.put,List.setIfInBounds_toArray,List.set_cons_zero,List.set_cons_succ,Ch.s1,Ch.s2,Ch.zgh hn]
   all_goals rfl
 case hb2 =>
  clear H I Z Y Yf Y2 Yf2 hHeld Zu
  intro s ok h1 a W hI hHeld
  obtain ⟨x1,x2,x3,x4,⟨q1,r1,q2,r2,q3,r3,q4,r4⟩,rfl,H,I⟩:=hI
  obtain rfl:=Ch.ztz (q2.symm.trans h1)
  refine zbs (o:=?ob2) ?hob2 (fun K hK=>?_)
  case hob2=>simp only [List.getElem?_toArray,List.getElem?_cons_succ,List.getElem?_cons_zero]<;>rfl
  rw [HA.out]
  simp only [Act.put,List.setIfInBounds_toArray,List.set_cons_zero,List.set_cons_succ]
  go_simp
  refine hK.out _ _ ⟨?_,x1,.laid W.heap.size,x3,x4,⟨q1,r1,rfl,r2,q3,r3,q4,r4⟩,?_,lay2 H _,I.alloc _⟩
  ·exact zkb hHeld
  ·rw [HA.out]
   simp only [Act.put,List.setIfInBounds_toArray,List.set_cons_zero,List.set_cons_succ,Ch.s1,Ch.s2]
   all_goals rfl
 case hc2 =>
  clear H I Z Y Yf Y2 Yf2 hHeld Zu
  intro s ok h1 h0 h2 a W hI hHeld
  obtain ⟨x1,x2,x3,x4,⟨q1,r1,q2,r2,q3,r3,q4,r4⟩,rfl,H,I⟩:=hI
  obtain ⟨g,rfl⟩:=Ch.zj8 (q2.symm.trans h1) (r2.symm.trans h2)
  obtain ⟨g0,v0,rfl⟩:=Ch.zgv (r1.symm.trans h0)
  obtain ⟨a0',m0',c0',rfl⟩:=zaf (z3d H)
  refine zbs (o:=?oc2) ?hoc2 (fun K hK=>?_)
  case hoc2=>simp only [List.getElem?_toArray,List.getElem?_cons_succ,List.getElem?_cons_zero]<;>rfl
  rw [HA.out]
  simp only [Act.put,List.setIfInBounds_toArray,List.set_cons_zero,List.set_cons_succ]
  go_simp
  simp only [Ch.s1,Ch.s2]
  go_at_call 149
  with_reducible refine zb7 (R2.out.imp (fun _ hw=>hw.right.right.right.right)) Q2.out (z99 H) ?_
  intro v W' H' I'
  obtain ⟨a',m',c',rfl⟩:=zaf H'
  go_simp
  refine hK.out _ _ ⟨?_,.agg #[.bool false,.slice none 0 0,.slice a0' m0' c0',.slice a' m' c'],Or.inl ⟨by rfl,?_⟩,.got g0 _,.got g _,x3,x4,⟨q1,r1,q2,rfl,q3,r3,q4,r4⟩,?_,push2 H',I.trans I'⟩
  ·exact five (nd4 H'.right.right.right.right) (HX.out _ H'.right.right.right.right.right)
  ·intro w hSw
   clear hSw
   go_simp
   all_goals with_reducible rfl
  ·rw [HA.out]
   simp only [Act.put,List.setIfInBounds_toArray,List.set_cons_zero,List.set_cons_succ,Ch.s1,Ch.s2,Ch.res]
   all_goals rfl
 case hb3 =>
  clear H I Z Y Yf Y2 Yf2 hHeld Zu
  intro s ok h1 a W hI hHeld
  obtain ⟨x1,x2,x3,x4,⟨q1,r1,q2,r2,q3,r3,q4,r4⟩,rfl,H,I⟩:=hI
  obtain rfl:=Ch.ztz (q3.symm.trans h1)
  refine zbs (o:=?ob3) ?hob3 (fun K hK=>?_)
  case hob3=>simp only [List.getElem?_toArray,List.getElem?_cons_succ,List.getElem?_cons_zero]<;>rfl
  rw [HA.out]
  simp only [Act.put,List.setIfInBounds_toArray,List.set_cons_zero,List.set_cons_succ]
  go_simp
  refine hK.out _ _ ⟨?_,x1,x2,.laid W.heap.size,x4,⟨q1,r1,q2,r2,rfl,r3,q4,r4⟩,?_,lay3 H _,I.alloc _⟩
  ·exact zkb hHeld
  ·rw [HA.out]
   simp only [Act.put,List.setIfInBounds_toArray,List.set_cons_zero,List.set_cons_succ,Ch.s1,Ch.s2]
   all_goals rfl
 case hc3 =>
  clear H I Z Y Yf Y2 Yf2 hHeld Zu
  intro s ok h1 h0 h2 a W hI hHeld
  obtain ⟨x1,x2,x3,x4,⟨q1,r1,q2,r2,q3,r3,q4,r4⟩,rfl,H,I⟩:=hI
  obtain ⟨g,rfl⟩:=Ch.zj8 (q3.symm.trans h1) (r3.symm.trans h2)
  have hn:x4.c=false:=r4.symm.trans (zad.c4_of ok h2)
  refine zbs (o:=?oc3) ?hoc3 (fun K hK=>?_)
  case hoc3=>simp only [List.getElem?_toArray,List.getElem?_cons_succ,List.getElem?_cons_zero]<;>rfl
  rw [HA.out]
  simp only [Act.put,List.setIfInBounds_toArray,List.set_cons_zero,List.set_cons_succ]
  go_simp
  simp only [Ch.s1,Ch.s2]
  go_at_call 148
  with_reducible refine zb8 (R3.out.imp (fun _ hw=>hw.right.right.right.right)) Q3.out (z3c H) ?_
  intro v W' H' I'
  obtain ⟨a',m',c',rfl⟩:=zaf H'
  go_simp
  refine hK.out _ _ ⟨?_,x1,x2,.got g _,x4,⟨q1,r1,q2,r2,q3,rfl,q4,r4⟩,?_,push3 H',I.trans I'⟩
  ·exact five (nd4 H'.right.right.right.right) (HX.out _ H'.right.right.right.right.right)
  ·rw [HA.out]
   simp only [Act.put,List.setIfInBounds_toArray,List.set_cons_zero,List.set_cons_succ,Ch.s1,Ch.s2,Ch.zgh hn]
   all_goals rfl
 case hb4 =>
  clear H I Z Y Yf Y2 Yf2 hHeld Zu
  intro s ok h1 a W hI hHeld
  obtain ⟨x1,x2,x3,x4,⟨q1,r1,q2,r2,q3,r3,q4,r4⟩,rfl,H,I⟩:=hI
  obtain rfl:=Ch.ztz (q4.symm.trans h1)
  refine zbs (o:=?ob4) ?hob4 (fun K hK=>?_)
  case hob4=>simp only [List.getElem?_toArray,List.getElem?_cons_succ,List.getElem?_cons_zero]<;>rfl
  rw [HA.out]
  simp only [Act.put,List.setIfInBounds_toArray,List.set_cons_zero,List.set_cons_succ]
  go_simp
  refine hK.out _ _ ⟨?_,x1,x2,x3,.laid W.heap.size,⟨q1,r1,q2,r2,q3,r3,rfl,r4⟩,?_,lay4 H _,I.alloc _⟩
  ·exact zkb hHeld
  ·rw [HA.out]
   simp only [Act.put,List.setIfInBounds_toArray,List.set_cons_zero,List.set_cons_succ,Ch.s1,Ch.s2]
   all_goals rfl
 case hc4 =>
  clear H I Z Y Yf Y2 Yf2 hHeld Zu
  intro s ok h1 h0 h2 a W hI hHeld
  obtain ⟨x1,x2,x3,x4,⟨q1,r1,q2,r2,q3,r3,q4,r4⟩,rfl,H,I⟩:=hI
  obtain ⟨g,rfl⟩:=Ch.zj8 (q4.symm.trans h1) (r4.symm.trans h2)
  obtain ⟨g0,v0,rfl⟩:=Ch.zgv (r3.symm.trans h0)
  obtain ⟨a0',m0',c0',rfl⟩:=zaf (z3c H)
  refine zbs (o:=?oc4) ?hoc4 (fun K hK=>?_)
  case hoc4=>simp only [List.getElem?_toArray,List.getElem?_cons_succ,List.getElem?_cons_zero]<;>rfl
  rw [HA.out]
  simp only [Act.put,List.setIfInBounds_toArray,List.set_cons_zero,List.set_cons_succ]
  go_simp
  simp only [Ch.s1,Ch.s2]
  go_at_call 149
  with_reducible refine zb7 (R4.out.imp (fun _ hw=>hw.right.right.right.right)) Q4.out (z98 H) ?_
  intro v W' H' I'
  obtain ⟨a',m',c',rfl⟩:=zaf H'
  go_simp
  refine hK.out _ _ ⟨?_,.agg #[.bool false,.slice none 0 0,.slice a0' m0' c0',.slice a' m' c'],Or.inl ⟨by rfl,?_⟩,x1,x2,.got g0 _,.got g _,⟨q1,r1,q2,r2,q3,r3,q4,rfl⟩,?_,push4 H',I.trans I'⟩
  ·exact five (nd4 H'.right.right.right.right) (HX.out _ H'.right.right.right.right.right)
  ·intro w hSw
   clear hSw
   go_simp
   all_goals with_reducible rfl
  ·rw [HA.out]
   simp only [Act.put,List.setIfInBounds_toArray,List.set_cons_zero,List.set_cons_succ,Ch.s1,Ch.s2,Ch.res]
   all_goals rfl
 case h4 =>
  clear H I Z Y Yf Y2 Yf2 hHeld Zu
  intro a W hI hHeld
  obtain ⟨x1,x2,x3,x4,⟨q1,r1,q2,r2,q3,r3,q4,r4⟩,rfl,H,I⟩:=hI
  obtain ⟨gA,vA,rfl⟩:=Ch.zgv r1.symm
  obtain ⟨gB,vB,rfl⟩:=Ch.zgv r2.symm
  obtain ⟨gC,vC,rfl⟩:=Ch.zgv r3.symm
  obtain ⟨gD,vD,rfl⟩:=Ch.zgv r4.symm
  clear q1 r1 q2 r2 q3 r3 q4 r4
  simp only [Ch.asn,Ch.s1,Ch.s2,Ch.res] at H ⊢
  obtain ⟨aA,mA,cA,rfl⟩:=zaf (z3d H)
  obtain ⟨aB,mB,cB,rfl⟩:=zaf (z99 H)
  obtain ⟨aC,mC,cC,rfl⟩:=zaf (z3c H)
  obtain ⟨aD,mD,cD,rfl⟩:=zaf (z98 H)
  have RA:=L_ (Reads.zau (za3 (z3d H).left) (by have:=Q1.out;omega));have SA:=L_ (za2 (z3d H))
  have RB:=L_ (Reads.zau (za3 (z99 H).left) (by have:=Q2.out;omega));have SB:=L_ (za2 (z99 H))
  have RC:=L_ (Reads.zau (za3 (z3c H).left) (by have:=Q3.out;omega));have SC:=L_ (za2 (z3c H))
  have RD:=L_ (Reads.zau (za3 (z98 H).left) (by have:=Q4.out;omega));have SD:=L_ (za2 (z98 H))
  rw [HA.out]
  simp only [Act.put,List.setIfInBounds_toArray,List.set_cons_zero,List.set_cons_succ]
  refine ziy (fuel':=3) (listed':=#[true,true,true,true,true,true,true,true,true,true,true,true,true,true,true,true,true,true,true,true,true,true,true,true,true,true,true,true,true,true,true,true,true,false,false,false]) (by kernel_rfl) (by kernel_rfl) ?_
  have Y2:=nd4 H.right
  have Yf2:=zd7 H.right
  have Y:=nd4 H.right.right
  have Yf:=zd7 H.right.right
  obtain ⟨y0,y1,y2,y3⟩:=Y
  obtain ⟨z0,z1,z2,z3⟩:=Y2
  obtain ⟨f0,f1,f2,f3⟩:=Yf
  obtain ⟨g0,g1,g2,g3⟩:=Yf2
  obtain ⟨h0,h1,h2,h3,h4⟩:=hHeld
  refine wpAnyH_all (rs:=[33]) (by kernel_rfl) (by simp) (fun i hi=>?_)
  obtain rfl:i=33:=by simpa using hi
  refine zbs (o:=?os33) ?hos33 (fun K hK=>?_)
  case hos33=>simp only [List.getElem?_toArray,List.getElem?_cons_succ,List.getElem?_cons_zero]<;>rfl
  go_simp
  refine hK.out _ _ ⟨zra hbb ⟨h0,h1,h2,h3,h4⟩,?_⟩
  clear hK K hi
  simp only [Act.put,List.setIfInBounds_toArray,List.set_cons_zero,List.set_cons_succ]
  refine wpAnyH_all (rs:=[34]) (by kernel_rfl) (by simp) (fun i hi=>?_)
  obtain rfl:i=34:=by simpa using hi
  refine zbs (o:=?os34) ?hos34 (fun K hK=>?_)
  case hos34=>simp only [List.getElem?_toArray,List.getElem?_cons_succ,List.getElem?_cons_zero]<;>rfl
  go_simp
  refine hK.out _ _ ⟨zra hbb ⟨h0,h1,h2,h3,h4⟩,?_⟩
  clear hK K hi
  simp only [Act.put,List.setIfInBounds_toArray,List.set_cons_zero,List.set_cons_succ]
  refine wpAnyH_all (rs:=[35]) (by kernel_rfl) (by simp) (fun i hi=>?_)
  obtain rfl:i=35:=by simpa using hi
  refine zbs (o:=?os35) ?hos35 (fun K hK=>?_)
  case hos35=>simp only [List.getElem?_toArray,List.getElem?_cons_succ,List.getElem?_cons_zero]<;>rfl
  go_simp
  refine hK.out _ _ ⟨z5w hbb (zra hbb ⟨h0,h1,h2,h3,h4⟩),?_⟩
  clear hK K hi
  simp only [Act.put,List.setIfInBounds_toArray,List.set_cons_zero,List.set_cons_succ]
  clear y0 y1 y2 y3 z0 z1 z2 z3 f0 f1 f2 f3 g0 g1 g2 g3 h0 h1 h2 h3 h4
  have K:=(H.sw2).cells4 (x':=.bool false) (y':=.slice none 0 0) (z':=.slice aA mA cA) (u':=.slice aB mB cB)
  have K:=(K.sw3).cells4 (x':=.bool false) (y':=.slice none 0 0) (z':=.slice aC mC cC) (u':=.slice aD mD cD)
  have J:=(((((((I.setCell ⟨b+1,0,none⟩ (.bool false)).setCell ⟨b+1,1,none⟩ (.slice none 0 0)).setCell ⟨b+1,2,none⟩ (.slice aA mA cA)).setCell ⟨b+1,3,none⟩ (.slice aB mB cB)).setCell ⟨b+2,0,none⟩ (.bool false)).setCell ⟨b+2,1,none⟩ (.slice none 0 0)).setCell ⟨b+2,2,none⟩ (.slice aC mC cC)).setCell ⟨b+2,3,none⟩ (.slice aD mD cD)
  refine wpAnyH_done (by kernel_rfl) ?_ _
  refine NoPanic.normal ?_
  go_wp2_with fail
  generalize ((((((((W.setCell ⟨b+1,0,none⟩ (.bool false)).setCell ⟨b+1,1,none⟩ (.slice none 0 0)).setCell ⟨b+1,2,none⟩ (.slice aA mA cA)).setCell ⟨b+1,3,none⟩ (.slice aB mB cB)).setCell ⟨b+2,0,none⟩ (.bool false)).setCell ⟨b+2,1,none⟩ (.slice none 0 0)).setCell ⟨b+2,2,none⟩ (.slice aC mC cC)).setCell ⟨b+2,3,none⟩ (.slice aD mD cD))=W5 at *
  obtain ⟨y0,y1,y2,y3⟩:=nd4 K
  obtain ⟨z0,z1,z2,z3⟩:=nd4 K.right
  exact bodyPost_ret (v:=.tuple #[.agg #[.bool false,.slice none 0 0,.slice aA mA cA,.slice aB mB cB],.string key,.agg #[.bool false,.slice none 0 0,.slice aC mC cC,.slice aD mD cD]]) (by simp [results,Tryz.results116,go_sem,y0,y1,y2,y3,z0,z1,z2,z3]) rfl (HH.out key _ _ _ _ HE.out ⟨_,_,_,rfl,⟨zas _ none 0,ze7⟩,⟨RA.out.imp (fun _ hw=>za3 hw.left),SA.out⟩,RB.out.imp (fun _ hw=>za3 hw.right.left),SB.out⟩ ⟨_,_,_,rfl,⟨zas _ none 0,ze7⟩,⟨RC.out.imp (fun _ hw=>za3 hw.right.right.left),SC.out⟩,RD.out.imp (fun _ hw=>za3 hw.right.right.right),SD.out⟩ K.right.right.drop1 J)
end
inductive Ch3
 | no
 | la (g:Nat)
 | lb (g h:Nat)
 | got (g h:Nat) (v:Value)
namespace Ch3
def a:Ch3→Bool
 | no=>false
 | _=>true
def b:Ch3→Bool
 | no=>false
 | la _=>false
 | _=>true
def c:Ch3→Bool
 | got _ _ _=>true
 | _=>false
def s1:Ch3→Value
 | no=>undef
 | la g=>.slice (some ⟨g,0,none⟩) 1 1
 | lb g _=>.slice (some ⟨g,0,none⟩) 1 1
 | got g _ _=>.slice (some ⟨g,0,none⟩) 1 1
def s2:Ch3→Value
 | lb _ h=>.slice (some ⟨h,0,none⟩) 3 3
 | got _ h _=>.slice (some ⟨h,0,none⟩) 3 3
 | _=>undef
def s3:Ch3→Value
 | got _ _ v=>v
 | _=>undef
def asn (y:ByteArray) (x z:Value) (R:Value→Asn):Ch3→Asn
 | no=>emp
 | la g=>pts g (.cells #[.string y] 9 (0,0))
 | lb g h=>pts g (.cells #[.string y] 9 (0,0))*pts h (.cells #[x,.slice (some ⟨g,0,none⟩) 1 1,z] 58 (0,0))
 | got _ _ v=>R v
def res (x1 x2:Ch):Ch3→Value
 | got _ _ v=>.agg #[.bool false,x1.s2,x2.s2,v]
 | _=>undef
theorem zgh {a b:Ch} {x:Ch3} (h:x.c=false):res a b x=undef:=by cases x<;>simp [c,res] at h ⊢
theorem ztz {x:Ch3} (h:x.a=false):x=no:=by cases x<;>simp [a] at h ⊢
theorem is_la {x:Ch3} (h:x.a=true) (k:x.b=false):∃ g,x=la g:=by cases x<;>simp [a,b] at h k ⊢
theorem is_lb {x:Ch3} (h:x.b=true) (k:x.c=false):∃ g h,x=lb g h:=by cases x<;>simp [b,c] at h k ⊢
theorem zgv {x:Ch3} (h:x.c=true):∃ g h v,x=got g h v:=by cases x<;>simp [c] at h ⊢
end Ch3
namespace Ch
def as2 (ty:TypeId) (x z:Value) (R:Value→Asn):Ch→Asn
 | no=>emp
 | laid g=>pts g (.cells #[x,z] ty (0,0))
 | got _ v=>R v
def t1:Ch→Value
 | no=>undef
 | laid g=>.slice (some ⟨g,0,none⟩) 2 2
 | got g _=>.slice (some ⟨g,0,none⟩) 2 2
end Ch
theorem zam.c1_of {s:zam} (ho:s.ok=true) (h:s.c2=true):s.c1=true:=by
 unfold zam.ok at ho
 cases h2:s.c1
 ·rw [h2,h] at ho;simp at ho
 ·rfl
theorem zam.xcg {s:zam} (ho:s.ok=true) (h:s.c1=false∨s.c2=false):s.c3=false:=by
 unfold zam.ok at ho
 cases h2:s.c3
 ·rfl
 ·rw [h2] at ho
  rcases h with h | h
  ·cases h3:s.c2
   ·rw [h3] at ho;simp at ho
   ·rw [h3,h] at ho;simp at ho
  ·rw [h] at ho;simp at ho
section
variable {A B C T:Asn} {w:World}
theorem jay1 (h:Sat ((emp*(B*C))*T) w) (o:Obj):Sat ((pts w.heap.size o*(B*C))*T) (w.alloc o):=(h.new o).of_eq (by rw [zcq];ac_rfl)
theorem jay2 (h:Sat ((A*(emp*C))*T) w) (o:Obj):Sat ((A*(pts w.heap.size o*C))*T) (w.alloc o):=(h.new o).of_eq (by rw [zcq];ac_rfl)
theorem jay3 (h:Sat ((A*(B*emp))*T) w) (o:Obj):Sat ((A*(B*pts w.heap.size o))*T) (w.alloc o):=(h.new o).of_eq (by rw [zlz];ac_rfl)
theorem jay4 (h:Sat ((A*(B*C))*T) w) (o:Obj):Sat ((A*(B*(C*pts w.heap.size o)))*T) (w.alloc o):=(h.new o).of_eq (by ac_rfl)
theorem z4t (h:Sat ((A*(B*C))*T) w):Sat (A*((B*C)*T)) w:=h.of_eq (by ac_rfl)
theorem z4s (h:Sat ((A*(B*C))*T) w):Sat (B*((A*C)*T)) w:=h.of_eq (by ac_rfl)
theorem xa9 (h:Sat ((A*(B*C))*T) w):Sat (C*((A*B)*T)) w:=h.of_eq (by ac_rfl)
theorem jull4 {D:Asn} (h:Sat ((A*(B*(C*D)))*T) w):Sat (D*((A*(B*C))*T)) w:=h.of_eq (by ac_rfl)
theorem jush1 (h:Sat (A*((B*C)*T)) w):Sat ((A*(B*C))*T) w:=h.of_eq (by ac_rfl)
theorem jush2 (h:Sat (B*((A*C)*T)) w):Sat ((A*(B*C))*T) w:=h.of_eq (by ac_rfl)
theorem jush4 {D:Asn} (h:Sat (D*((A*(B*C))*T)) w):Sat ((A*(B*D))*T) w:=(h.of_eq (show _=C*((A*(B*D))*T) from by ac_rfl)).right
end
section
variable {F:Asn} {w:World} {R:Ending→World→Prop}
theorem z0n {kids zw3:List Int} {keys keys':List Ky.Nm} {v u:Value} (y:ByteArray) (hl:kids.length≤5000∧zw3.length≤5000∧keys.length≤5000∧keys'.length≤4000) (hv:NdV F v (Ky.inn kids keys)) (hu:NdV F u (Ky.inn zw3 keys')) (H:Sat F w)
  (h:∀ G v' w',NdV G v' (Ky.inn (kids++zw3) (keys++y::keys'))→Sat (G*F) w'→Io w w'→R (.returned v') w') :
  Calls Tryz.prog 154 #[v,.string y,u] w R:=by
 obtain ⟨se,sk,sx,rfl,hh⟩:=hv
 dsimp only [Ky.inn,Ky.lf] at hh
 obtain ⟨⟨h1,s1⟩,⟨h3,s3⟩,h5,s5⟩:=hh
 obtain ⟨te,tk,tx,rfl,hh⟩:=hu
 dsimp only [Ky.inn,Ky.lf] at hh
 obtain ⟨⟨g1,t1⟩,⟨g3,t3⟩,g5,t5⟩:=hh
 obtain ⟨a1,c1,rfl,-⟩:=zab h1
 obtain ⟨a3,c3,rfl,-⟩:=zab h3
 obtain ⟨a5,c5,rfl,-⟩:=zab h5
 obtain ⟨e1,d1,rfl,-⟩:=zab g1
 obtain ⟨e3,d3,rfl,-⟩:=zab g3
 obtain ⟨e5,d5,rfl,-⟩:=zab g5
 have HH:=L_ h
 have R1:=L_ h1
 have R3:=L_ h3
 have R5:=L_ h5
 have T1:=L_ g1
 have T3:=L_ g3
 have T5:=L_ g5
 obtain ⟨n3,hn3⟩:∃ n,n=kids.length:=⟨_,rfl⟩
 obtain ⟨l3,hl3⟩:∃ n,n=zw3.length:=⟨_,rfl⟩
 obtain ⟨n5,hn5⟩:∃ n,n=keys.length:=⟨_,rfl⟩
 obtain ⟨l5,hl5⟩:∃ n,n=keys'.length:=⟨_,rfl⟩
 rw [←hn3] at R3
 rw [←hl3] at T3
 rw [←hn5] at R5
 rw [←hl5] at T5
 simp only [Ky.inn,←hn3,←hl3,←hn5,←hl5]
 have Q3:Hid (kids.length≤10000):=L_ (by omega)
 have V3:Hid (zw3.length≤10000):=L_ (by omega)
 have Q5:Hid (keys.length≤10000):=L_ (by omega)
 have V5:Hid (keys'.length≤10000):=L_ (by omega)
 have W5:Hid (([y]:List Ky.Nm).length≤10000):=L_ (by simp)
 have Q1:Hid (([]:List Ky.En).length≤10000):=L_ (by simp)
 have B1:Hid ((([]:List Ky.En)++[]).length≤1000000):=L_ (by simp)
 have B3:Hid ((kids++zw3).length≤1000000):=L_ (by rw [List.length_append];omega)
 have B5:Hid ((keys++[y]++keys').length≤1000000):=L_ (by simp only [List.length_append,List.length_singleton];omega)
 have E5:Hid (keys++[y]++keys'=keys++y::keys'):=L_ (by simp)
 rw [←E5.out] at HH
 clear hn3 hl3 hn5 hl5
 have I:=(((Io.refl w).alloc (.cells #[.bool false,.slice a1 0 c1,.slice a3 n3 c3,.slice a5 n5 c5] 151)).alloc (.cells #[.bool false,.slice e1 0 d1,.slice e3 l3 d3,.slice e5 l5 d5] 151)).alloc (.cells #[.bool false,.slice none 0 0,.slice none 0 0,.slice none 0 0] 151)
 have H:=(((H.new (.cells #[.bool false,.slice a1 0 c1,.slice a3 n3 c3,.slice a5 n5 c5] 151)).new (.cells #[.bool false,.slice e1 0 d1,.slice e3 l3 d3,.slice e5 l5 d5] 151)).new (.cells #[.bool false,.slice none 0 0,.slice none 0 0,.slice none 0 0] 151)).ze8
 simp only [heap_alloc,Nat.add_assoc,Nat.reduceAdd] at H
 change Calls Tryz.prog 154 #[.agg #[.bool false,.slice a1 0 c1,.slice a3 n3 c3,.slice a5 n5 c5],.string y,.agg #[.bool false,.slice e1 0 d1,.slice e3 l3 d3,.slice e5 l5 d5]] w R
 clear h h1 s1 h3 s3 h5 s5 g1 t1 g3 t3 g5 t5 hl
 go_enter Tryz.func154,Tryz.ntmps154
 go_upto_region 1 with fail
 generalize (((w.alloc _).alloc _).alloc _)=w1 at *
 generalize hb:w.heap.size=b at *
 simp only [Nat.add_assoc,Nat.reduceAdd]
 have hb1:b+2≠b:=by omega
 have hb2:b+2≠b+1:=by omega
 obtain ⟨q0,q1,q2,q3⟩:=nd4 H.right.right.right
 obtain ⟨p0,p1,p2,p3⟩:=nd4 H.right.right
 go_upto_region 5 with fail
 have Zu:=eight (nd4 H.right.right.right) (nd4 H.right.right)
 replace I:=I.drew
 replace H:=H.drew
 clear q0 q1 q2 q3 p0 p1 p2 p3
 have Z:=eight (nd4 H.right.right.right) (nd4 H.right.right)
 have Y:=nd4 H.right
 have Yf:=zd7 H.right
 clear Y Yf
 refine wp_region_noPanic ?_
 refine wp_region_held_drew (S:=(fun W=>W.cell? ⟨b,0,none⟩=some (.bool false)∧W.cell? ⟨b,1,none⟩=some (.slice a1 0 c1)∧W.cell? ⟨b,2,none⟩=some (.slice a3 n3 c3)∧W.cell? ⟨b,3,none⟩=some (.slice a5 n5 c5)∧W.cell? ⟨b+1,0,none⟩=some (.bool false)∧W.cell? ⟨b+1,1,none⟩=some (.slice e1 0 d1)∧W.cell? ⟨b+1,2,none⟩=some (.slice e3 l3 d3)∧W.cell? ⟨b+1,3,none⟩=some (.slice e5 l5 d5))) (by kernel_rfl) Z (fun hHeld=>?_)
 refine wpAnyH_take (i:=0) (oi:=?o0) (v:=?v0) ?ho0 (by kernel_rfl) (by kernel_rfl) (by kernel_rfl) (fun _ _ _ h=>h) ?y0 (by assumption) ?r0
 case ho0=>simp only [List.getElem?_toArray,List.getElem?_cons_succ,List.getElem?_cons_zero]<;>rfl
 case y0 =>
  refine Or.inl ⟨by rfl,?_⟩
  intro w hSw
  (try dsimp only at hSw)
  go_simp
  all_goals with_reducible rfl
 try simp only [Act.put,List.setIfInBounds_toArray,List.set_cons_zero,List.set_cons_succ]
 refine wpAnyH_take (i:=1) (oi:=?o1) (v:=?v1) ?ho1 (by kernel_rfl) (by kernel_rfl) (by kernel_rfl) (fun _ _ _ h=>h) ?y1 (by assumption) ?r1
 case ho1=>simp only [List.getElem?_toArray,List.getElem?_cons_succ,List.getElem?_cons_zero]<;>rfl
 case y1 =>
  refine Or.inl ⟨by rfl,?_⟩
  intro w hSw
  (try dsimp only at hSw)
  go_simp
  all_goals with_reducible rfl
 try simp only [Act.put,List.setIfInBounds_toArray,List.set_cons_zero,List.set_cons_succ]
 refine wpAnyH_take (i:=2) (oi:=?o2) (v:=?v2) ?ho2 (by kernel_rfl) (by kernel_rfl) (by kernel_rfl) (fun _ _ _ h=>h) ?y2 (by assumption) ?r2
 case ho2=>simp only [List.getElem?_toArray,List.getElem?_cons_succ,List.getElem?_cons_zero]<;>rfl
 case y2 =>
  refine Or.inl ⟨by rfl,?_⟩
  intro w hSw
  (try dsimp only at hSw)
  go_simp
  all_goals with_reducible rfl
 try simp only [Act.put,List.setIfInBounds_toArray,List.set_cons_zero,List.set_cons_succ]
 refine wpAnyH_take (i:=3) (oi:=?o3) (v:=?v3) ?ho3 (by kernel_rfl) (by kernel_rfl) (by kernel_rfl) (fun _ _ _ h=>h) ?y3 (by assumption) ?r3
 case ho3=>simp only [List.getElem?_toArray,List.getElem?_cons_succ,List.getElem?_cons_zero]<;>rfl
 case y3 =>
  refine Or.inl ⟨by rfl,?_⟩
  intro w hSw
  (try dsimp only at hSw)
  go_simp
  all_goals with_reducible rfl
 try simp only [Act.put,List.setIfInBounds_toArray,List.set_cons_zero,List.set_cons_succ]
 refine wpAnyH_take (i:=6) (oi:=?o6) (v:=?v6) ?ho6 (by kernel_rfl) (by kernel_rfl) (by kernel_rfl) (fun _ _ _ h=>h) ?y6 (by assumption) ?r6
 case ho6=>simp only [List.getElem?_toArray,List.getElem?_cons_succ,List.getElem?_cons_zero]<;>rfl
 case y6 =>
  refine Or.inl ⟨by rfl,?_⟩
  intro w hSw
  (try dsimp only at hSw)
  go_simp
  all_goals with_reducible rfl
 try simp only [Act.put,List.setIfInBounds_toArray,List.set_cons_zero,List.set_cons_succ]
 refine wpAnyH_take (i:=7) (oi:=?o7) (v:=?v7) ?ho7 (by kernel_rfl) (by kernel_rfl) (by kernel_rfl) (fun _ _ _ h=>h) ?y7 (by assumption) ?r7
 case ho7=>simp only [List.getElem?_toArray,List.getElem?_cons_succ,List.getElem?_cons_zero]<;>rfl
 case y7 =>
  refine Or.inl ⟨by rfl,?_⟩
  intro w hSw
  (try dsimp only at hSw)
  go_simp
  all_goals with_reducible rfl
 try simp only [Act.put,List.setIfInBounds_toArray,List.set_cons_zero,List.set_cons_succ]
 refine wpAnyH_take (i:=8) (oi:=?o8) (v:=?v8) ?ho8 (by kernel_rfl) (by kernel_rfl) (by kernel_rfl) (fun _ _ _ h=>h) ?y8 (by assumption) ?r8
 case ho8=>simp only [List.getElem?_toArray,List.getElem?_cons_succ,List.getElem?_cons_zero]<;>rfl
 case y8 =>
  refine Or.inl ⟨by rfl,?_⟩
  intro w hSw
  (try dsimp only at hSw)
  go_simp
  all_goals with_reducible rfl
 try simp only [Act.put,List.setIfInBounds_toArray,List.set_cons_zero,List.set_cons_succ]
 refine wpAnyH_take (i:=9) (oi:=?o9) (v:=?v9) ?ho9 (by kernel_rfl) (by kernel_rfl) (by kernel_rfl) (fun _ _ _ h=>h) ?y9 (by assumption) ?r9
 case ho9=>simp only [List.getElem?_toArray,List.getElem?_cons_succ,List.getElem?_cons_zero]<;>rfl
 case y9 =>
  refine Or.inl ⟨by rfl,?_⟩
  intro w hSw
  (try dsimp only at hSw)
  go_simp
  all_goals with_reducible rfl
 try simp only [Act.put,List.setIfInBounds_toArray,List.set_cons_zero,List.set_cons_succ]
 refine wpAnyH_take (i:=12) (oi:=?o12) (v:=?v12) ?ho12 (by kernel_rfl) (by kernel_rfl) (by kernel_rfl) (fun _ _ _ h=>h) ?y12 (by assumption) ?r12
 case ho12=>simp only [List.getElem?_toArray,List.getElem?_cons_succ,List.getElem?_cons_zero]<;>rfl
 case y12 =>
  refine Or.inl ⟨by rfl,?_⟩
  intro w hSw
  (try dsimp only at hSw)
  go_simp
  all_goals with_reducible rfl
 try simp only [Act.put,List.setIfInBounds_toArray,List.set_cons_zero,List.set_cons_succ]
 refine wpAnyH_take (i:=13) (oi:=?o13) (v:=?v13) ?ho13 (by kernel_rfl) (by kernel_rfl) (by kernel_rfl) (fun _ _ _ h=>h) ?y13 (by assumption) ?r13
 case ho13=>simp only [List.getElem?_toArray,List.getElem?_cons_succ,List.getElem?_cons_zero]<;>rfl
 case y13 =>
  refine Or.inl ⟨by rfl,?_⟩
  intro w hSw
  (try dsimp only at hSw)
  go_simp
  all_goals with_reducible rfl
 try simp only [Act.put,List.setIfInBounds_toArray,List.set_cons_zero,List.set_cons_succ]
 refine wpAnyH_take (i:=14) (oi:=?o14) (v:=?v14) ?ho14 (by kernel_rfl) (by kernel_rfl) (by kernel_rfl) (fun _ _ _ h=>h) ?y14 (by assumption) ?r14
 case ho14=>simp only [List.getElem?_toArray,List.getElem?_cons_succ,List.getElem?_cons_zero]<;>rfl
 case y14 =>
  refine Or.inl ⟨by rfl,?_⟩
  intro w hSw
  (try dsimp only at hSw)
  go_simp
  all_goals with_reducible rfl
 try simp only [Act.put,List.setIfInBounds_toArray,List.set_cons_zero,List.set_cons_succ]
 refine wpAnyH_take (i:=16) (oi:=?o16) (v:=?v16) ?ho16 (by kernel_rfl) (by kernel_rfl) (by kernel_rfl) (fun _ _ _ h=>h) ?y16 (by assumption) ?r16
 case ho16=>simp only [List.getElem?_toArray,List.getElem?_cons_succ,List.getElem?_cons_zero]<;>rfl
 case y16 =>
  refine Or.inl ⟨by rfl,?_⟩
  intro w hSw
  (try dsimp only at hSw)
  go_simp
  all_goals with_reducible rfl
 try simp only [Act.put,List.setIfInBounds_toArray,List.set_cons_zero,List.set_cons_succ]
 refine wpAnyH_take (i:=17) (oi:=?o17) (v:=?v17) ?ho17 (by kernel_rfl) (by kernel_rfl) (by kernel_rfl) (fun _ _ _ h=>h) ?y17 (by assumption) ?r17
 case ho17=>simp only [List.getElem?_toArray,List.getElem?_cons_succ,List.getElem?_cons_zero]<;>rfl
 case y17 =>
  refine Or.inl ⟨by rfl,?_⟩
  intro w hSw
  (try dsimp only at hSw)
  go_simp
  all_goals with_reducible rfl
 try simp only [Act.put,List.setIfInBounds_toArray,List.set_cons_zero,List.set_cons_succ]
 refine ziy (fuel':=1+8) (listed':=zam.lst #[true,true,true,true,false,false,true,true,true,true,false,false,true,true,true,false,true,true,false,false,false,false] 4 5 10 11 15 18 19 20 zam.start) (by kernel_rfl) (by kernel_rfl) ?_
 refine zkh (fun a0 ha0=>?_)
 have HA:=L_ ha0
 clear ha0
 refine zv3 (f:=1) (base:=#[true,true,true,true,false,false,true,true,true,true,false,false,true,true,true,false,true,true,false,false,false,false]) (ib1:=4) (j1:=5) (ib2:=10) (j2:=11) (zdy:=15) (zdx:=18) (j3:=19) (p3:=20) (op3:=?op3) (fun (s:zam) (a:Act) (W:World)=>∃ (x1 x2:Ch) (x3:Ch3),(s.b1=x1.b∧s.c1=x1.c∧s.b2=x2.b∧s.c2=x2.c∧s.b3a=x3.a∧s.b3b=x3.b∧s.c3=x3.c)∧a=((((((((a0.put (some 41) x1.t1).put (some 42) x1.s2).put (some 47) x2.t1).put (some 48) x2.s2).put (some 52) x3.s1).put (some 55) x3.s2).put (some 56) x3.s3).put (some 57) (x3.res x1 x2))∧Sat ((x1.as2 59 (.slice a1 0 c1) (.slice e1 0 d1) (fun v=>zda v (([]:List Ky.En)++[]))*(x2.as2 47 (.slice a3 n3 c3) (.slice e3 l3 d3) (fun v=>za1 v (kids++zw3))*x3.asn y (.slice a5 n5 c5) (.slice e5 l5 d5) (fun v=>zbj v (keys++[y]++keys'))))*(pts (b+2) (.cells #[.bool false,.slice none 0 0,.slice none 0 0,.slice none 0 0] 151 (0,0))*(pts (b+1) (.cells #[.bool false,.slice e1 0 d1,.slice e3 l3 d3,.slice e5 l5 d5] 151 (0,0))*(pts b (.cells #[.bool false,.slice a1 0 c1,.slice a3 n3 c3,.slice a5 n5 c5] 151 (0,0))*F)))) W∧Io w W) ?hop3 (by kernel_rfl) (fun _ _ _ _ _ h=>h) (by kernel_rfl) ?hb1 ?hc1 ?hb2 ?hc2 ?hb3a ?hb3b ?hc3 ?h4 ?hi hHeld
 case hop3=>simp only [List.getElem?_toArray,List.getElem?_cons_succ,List.getElem?_cons_zero]<;>rfl
 case hi =>
  refine ⟨.no,.no,.no,⟨rfl,rfl,rfl,rfl,rfl,rfl,rfl⟩,?_,?_,I⟩
  ·rw [HA.out]
   simp only [Act.put,List.setIfInBounds_toArray,List.set_cons_zero,List.set_cons_succ,Ch.t1,Ch.s2,Ch3.s1,Ch3.s2,Ch3.s3,Ch3.res]
   all_goals rfl
  ·refine H.of_eq ?_
   simp only [Ch.as2,Ch3.asn,zcq]
 case hb1 =>
  clear H I Z hHeld Zu
  intro s ok h1 a W hI hHeld
  obtain ⟨x1,x2,x3,⟨q1,r1,q2,r2,qa,qb,rc⟩,rfl,H,I⟩:=hI
  obtain rfl:=Ch.ztz (q1.symm.trans h1)
  have hn:x3.c=false:=rc.symm.trans (zam.xcg ok (.inl r1))
  refine zbs (o:=?oxb1) ?hoxb1 (fun K hK=>?_)
  case hoxb1=>simp only [List.getElem?_toArray,List.getElem?_cons_succ,List.getElem?_cons_zero]<;>rfl
  rw [HA.out]
  simp only [Act.put,List.setIfInBounds_toArray,List.set_cons_zero,List.set_cons_succ]
  go_simp
  (try simp only [Ch.t1,Ch.s2,Ch3.s1,Ch3.s2,Ch3.s3])
  refine hK.out _ _ ⟨?_,Ch.laid W.heap.size,x2,x3,⟨rfl,r1,q2,r2,qa,qb,rc⟩,?_,jay1 H _,I.alloc _⟩
  ·exact zh6 hHeld
  ·rw [HA.out]
   simp only [Act.put,List.setIfInBounds_toArray,List.set_cons_zero,List.set_cons_succ,Ch.t1,Ch.s2,Ch3.s1,Ch3.s2,Ch3.s3,Ch3.zgh hn]
   all_goals rfl
 case hb2 =>
  clear H I Z hHeld Zu
  intro s ok h1 a W hI hHeld
  obtain ⟨x1,x2,x3,⟨q1,r1,q2,r2,qa,qb,rc⟩,rfl,H,I⟩:=hI
  obtain rfl:=Ch.ztz (q2.symm.trans h1)
  have hn:x3.c=false:=rc.symm.trans (zam.xcg ok (.inr r2))
  refine zbs (o:=?oxb2) ?hoxb2 (fun K hK=>?_)
  case hoxb2=>simp only [List.getElem?_toArray,List.getElem?_cons_succ,List.getElem?_cons_zero]<;>rfl
  rw [HA.out]
  simp only [Act.put,List.setIfInBounds_toArray,List.set_cons_zero,List.set_cons_succ]
  go_simp
  (try simp only [Ch.t1,Ch.s2,Ch3.s1,Ch3.s2,Ch3.s3])
  refine hK.out _ _ ⟨?_,x1,Ch.laid W.heap.size,x3,⟨q1,r1,rfl,r2,qa,qb,rc⟩,?_,jay2 H _,I.alloc _⟩
  ·exact zh6 hHeld
  ·rw [HA.out]
   simp only [Act.put,List.setIfInBounds_toArray,List.set_cons_zero,List.set_cons_succ,Ch.t1,Ch.s2,Ch3.s1,Ch3.s2,Ch3.s3,Ch3.zgh hn]
   all_goals rfl
 case hb3a =>
  clear H I Z hHeld Zu
  intro s ok h1 a W hI hHeld
  obtain ⟨x1,x2,x3,⟨q1,r1,q2,r2,qa,qb,rc⟩,rfl,H,I⟩:=hI
  obtain rfl:=Ch3.ztz (qa.symm.trans h1)
  refine zbs (o:=?oxb3a) ?hoxb3a (fun K hK=>?_)
  case hoxb3a=>simp only [List.getElem?_toArray,List.getElem?_cons_succ,List.getElem?_cons_zero]<;>rfl
  rw [HA.out]
  simp only [Act.put,List.setIfInBounds_toArray,List.set_cons_zero,List.set_cons_succ]
  go_simp
  (try simp only [Ch.t1,Ch.s2,Ch3.s1,Ch3.s2,Ch3.s3])
  refine hK.out _ _ ⟨?_,x1,x2,Ch3.la W.heap.size,⟨q1,r1,q2,r2,rfl,qb,rc⟩,?_,jay3 H _,I.alloc _⟩
  ·exact zh6 hHeld
  ·rw [HA.out]
   simp only [Act.put,List.setIfInBounds_toArray,List.set_cons_zero,List.set_cons_succ,Ch.t1,Ch.s2,Ch3.s1,Ch3.s2,Ch3.s3,Ch3.res]
   all_goals rfl
 case hb3b =>
  clear H I Z hHeld Zu
  intro s ok h1 h2 a W hI hHeld
  obtain ⟨x1,x2,x3,⟨q1,r1,q2,r2,qa,qb,rc⟩,rfl,H,I⟩:=hI
  obtain ⟨g,rfl⟩:=Ch3.is_la (qa.symm.trans h1) (qb.symm.trans h2)
  refine zbs (o:=?oxb3b) ?hoxb3b (fun K hK=>?_)
  case hoxb3b=>simp only [List.getElem?_toArray,List.getElem?_cons_succ,List.getElem?_cons_zero]<;>rfl
  rw [HA.out]
  simp only [Act.put,List.setIfInBounds_toArray,List.set_cons_zero,List.set_cons_succ]
  go_simp
  (try simp only [Ch.t1,Ch.s2,Ch3.s1,Ch3.s2,Ch3.s3])
  refine hK.out _ _ ⟨?_,x1,x2,Ch3.lb g W.heap.size,⟨q1,r1,q2,r2,qa,rfl,rc⟩,?_,jay4 H _,I.alloc _⟩
  ·exact zh6 hHeld
  ·rw [HA.out]
   simp only [Act.put,List.setIfInBounds_toArray,List.set_cons_zero,List.set_cons_succ,Ch.t1,Ch.s2,Ch3.s1,Ch3.s2,Ch3.s3,Ch3.res]
   all_goals rfl
 case hc1 =>
  clear H I Z hHeld Zu
  intro s ok h1 h2 a W hI hHeld
  obtain ⟨x1,x2,x3,⟨q1,r1,q2,r2,qa,qb,rc⟩,rfl,H,I⟩:=hI
  obtain ⟨g,rfl⟩:=Ch.zj8 (q1.symm.trans h1) (r1.symm.trans h2)
  have hn:x3.c=false:=rc.symm.trans (zam.xcg ok (.inl h2))
  refine zbs (o:=?oxc1) ?hoxc1 (fun K hK=>?_)
  case hoxc1=>simp only [List.getElem?_toArray,List.getElem?_cons_succ,List.getElem?_cons_zero]<;>rfl
  rw [HA.out]
  simp only [Act.put,List.setIfInBounds_toArray,List.set_cons_zero,List.set_cons_succ]
  go_simp
  (try simp only [Ch.t1,Ch.s2,Ch3.s1,Ch3.s2,Ch3.s3])
  go_at_call 147
  with_reducible refine zcs (R1.out.imp (fun _ hw=>hw.right.right.right.right)) Q1.out (T1.out.imp (fun _ hw=>hw.right.right.right.right)) Q1.out (z4t H) ?_
  intro v W' H' I'
  obtain ⟨a',m',c',rfl⟩:=zaf H'
  go_simp
  refine hK.out _ _ ⟨?_,Ch.got g _,x2,x3,⟨q1,rfl,q2,r2,qa,qb,rc⟩,?_,jush1 H',I.trans I'⟩
  ·exact eight (nd4 H'.right.right.right.right) (nd4 H'.right.right.right)
  ·rw [HA.out]
   simp only [Act.put,List.setIfInBounds_toArray,List.set_cons_zero,List.set_cons_succ,Ch.t1,Ch.s2,Ch3.s1,Ch3.s2,Ch3.s3,Ch3.zgh hn]
   all_goals rfl
 case hc2 =>
  clear H I Z hHeld Zu
  intro s ok h1 h0 h2 a W hI hHeld
  obtain ⟨x1,x2,x3,⟨q1,r1,q2,r2,qa,qb,rc⟩,rfl,H,I⟩:=hI
  obtain ⟨g,rfl⟩:=Ch.zj8 (q2.symm.trans h1) (r2.symm.trans h2)
  have hn:x3.c=false:=rc.symm.trans (zam.xcg ok (.inr h2))
  refine zbs (o:=?oxc2) ?hoxc2 (fun K hK=>?_)
  case hoxc2=>simp only [List.getElem?_toArray,List.getElem?_cons_succ,List.getElem?_cons_zero]<;>rfl
  rw [HA.out]
  simp only [Act.put,List.setIfInBounds_toArray,List.set_cons_zero,List.set_cons_succ]
  go_simp
  (try simp only [Ch.t1,Ch.s2,Ch3.s1,Ch3.s2,Ch3.s3])
  go_at_call 148
  with_reducible refine zce (R3.out.imp (fun _ hw=>hw.right.right.right.right)) Q3.out (T3.out.imp (fun _ hw=>hw.right.right.right.right)) V3.out (z4s H) ?_
  intro v W' H' I'
  obtain ⟨a',m',c',rfl⟩:=zaf H'
  go_simp
  refine hK.out _ _ ⟨?_,x1,Ch.got g _,x3,⟨q1,r1,q2,rfl,qa,qb,rc⟩,?_,jush2 H',I.trans I'⟩
  ·exact eight (nd4 H'.right.right.right.right) (nd4 H'.right.right.right)
  ·rw [HA.out]
   simp only [Act.put,List.setIfInBounds_toArray,List.set_cons_zero,List.set_cons_succ,Ch.t1,Ch.s2,Ch3.s1,Ch3.s2,Ch3.s3,Ch3.zgh hn]
   all_goals rfl
 case hc3 =>
  clear H I Z hHeld Zu
  intro s ok h1 h0 h2 a W hI hHeld
  obtain ⟨x1,x2,x3,⟨q1,r1,q2,r2,qa,qb,rc⟩,rfl,H,I⟩:=hI
  obtain ⟨g,g',rfl⟩:=Ch3.is_lb (qb.symm.trans h1) (rc.symm.trans h2)
  have e2:x2.c=true:=r2.symm.trans h0
  obtain ⟨g2,v2,rfl⟩:=Ch.zgv e2
  have e1:x1.c=true:=r1.symm.trans (zam.c1_of ok h0)
  obtain ⟨g1,v1,rfl⟩:=Ch.zgv e1
  obtain ⟨a1',m1',c1',rfl⟩:=zaf (z4t H)
  obtain ⟨a2',m2',c2',rfl⟩:=zaf (z4s H)
  refine zbs (o:=?oxc3) ?hoxc3 (fun K hK=>?_)
  case hoxc3=>simp only [List.getElem?_toArray,List.getElem?_cons_succ,List.getElem?_cons_zero]<;>rfl
  rw [HA.out]
  simp only [Act.put,List.setIfInBounds_toArray,List.set_cons_zero,List.set_cons_succ]
  go_simp
  (try simp only [Ch.t1,Ch.s2,Ch3.s1,Ch3.s2,Ch3.s3])
  go_at_call 149
  with_reducible refine zak (R5.out.imp (fun _ hw=>hw.right.right.right.right)) Q5.out ((zg2 zbu y).imp (fun _ hw=>(xa9 hw))) W5.out (T5.out.imp (fun _ hw=>hw.right.right.right.right)) V5.out (jull4 H) ?_
  intro v W' H' I'
  obtain ⟨a',m',c',rfl⟩:=zaf H'
  go_simp
  refine hK.out _ _ ⟨?_,.agg #[.bool false,.slice a1' m1' c1',.slice a2' m2' c2',.slice a' m' c'],Or.inl ⟨by rfl,?_⟩,Ch.got g1 _,Ch.got g2 _,Ch3.got g g' _,⟨q1,r1,q2,r2,qa,qb,rfl⟩,?_,jush4 H',I.trans I'⟩
  ·exact eight (nd4 H'.right.right.right.right) (nd4 H'.right.right.right)
  ·intro w hSw
   clear hSw
   go_simp
   all_goals with_reducible rfl
  ·rw [HA.out]
   simp only [Act.put,List.setIfInBounds_toArray,List.set_cons_zero,List.set_cons_succ,Ch.t1,Ch.s2,Ch3.s1,Ch3.s2,Ch3.s3,Ch3.res]
   all_goals rfl
 case h4 =>
  clear H I Z hHeld Zu
  intro a W hI hHeld
  obtain ⟨x1,x2,x3,⟨q1,r1,q2,r2,qa,qb,rc⟩,rfl,H,I⟩:=hI
  obtain ⟨gA,vA,rfl⟩:=Ch.zgv r1.symm
  obtain ⟨gB,vB,rfl⟩:=Ch.zgv r2.symm
  obtain ⟨gC,gD,vC,rfl⟩:=Ch3.zgv rc.symm
  clear q1 r1 q2 r2 qa qb rc
  simp only [Ch.as2,Ch3.asn,Ch.t1,Ch.s2,Ch3.s1,Ch3.s2,Ch3.s3,Ch3.res] at H ⊢
  obtain ⟨aA,mA,cA,rfl⟩:=zaf (z4t H)
  obtain ⟨aB,mB,cB,rfl⟩:=zaf (z4s H)
  obtain ⟨aC,mC,cC,rfl⟩:=zaf (xa9 H)
  have RA:=L_ (Reads.zau (za3 (z4t H).left) B1.out);have SA:=L_ (za2 (z4t H))
  have RB:=L_ (Reads.zau (za3 (z4s H).left) B3.out);have SB:=L_ (za2 (z4s H))
  have RC:=L_ (Reads.zau (za3 (xa9 H).left) B5.out);have SC:=L_ (za2 (xa9 H))
  rw [HA.out]
  simp only [Act.put,List.setIfInBounds_toArray,List.set_cons_zero,List.set_cons_succ]
  refine ziy (fuel':=1) (listed':=#[true,true,true,true,true,true,true,true,true,true,true,true,true,true,true,true,true,true,true,true,true,false]) (by kernel_rfl) (by kernel_rfl) ?_
  have Y:=nd4 H.right
  have Yf:=zd7 H.right
  obtain ⟨y0,y1,y2,y3⟩:=Y
  obtain ⟨f0,f1,f2,f3⟩:=Yf
  refine wpAnyH_all (rs:=[21]) (by kernel_rfl) (by simp) (fun i hi=>?_)
  obtain rfl:i=21:=by simpa using hi
  refine zbs (o:=?os21) ?hos21 (fun K hK=>?_)
  case hos21=>simp only [List.getElem?_toArray,List.getElem?_cons_succ,List.getElem?_cons_zero]<;>rfl
  go_simp
  refine hK.out _ _ ⟨z6c hb1 hb2 hHeld,?_⟩
  clear hK K hi hHeld
  simp only [Act.put,List.setIfInBounds_toArray,List.set_cons_zero,List.set_cons_succ]
  clear y0 y1 y2 y3 f0 f1 f2 f3
  have K:=(H.sw).cells4 (x':=.bool false) (y':=.slice aA mA cA) (z':=.slice aB mB cB) (u':=.slice aC mC cC)
  have J:=(((I.setCell ⟨b+2,0,none⟩ (.bool false)).setCell ⟨b+2,1,none⟩ (.slice aA mA cA)).setCell ⟨b+2,2,none⟩ (.slice aB mB cB)).setCell ⟨b+2,3,none⟩ (.slice aC mC cC)
  refine wpAnyH_done (by kernel_rfl) ?_ _
  refine NoPanic.normal ?_
  go_wp2_with fail
  generalize ((((W.setCell ⟨b+2,0,none⟩ (.bool false)).setCell ⟨b+2,1,none⟩ (.slice aA mA cA)).setCell ⟨b+2,2,none⟩ (.slice aB mB cB)).setCell ⟨b+2,3,none⟩ (.slice aC mC cC))=W5 at *
  obtain ⟨y0,y1,y2,y3⟩:=nd4 K
  exact bodyPost_ret (v:=.agg #[.bool false,.slice aA mA cA,.slice aB mB cB,.slice aC mC cC]) (by simp [results,Tryz.results154,go_sem,y0,y1,y2,y3]) rfl (HH.out _ _ _ ⟨_,_,_,rfl,⟨RA.out.imp (fun _ hw=>za3 hw.left),SA.out⟩,⟨RB.out.imp (fun _ hw=>za3 hw.right.left),SB.out⟩,RC.out.imp (fun _ hw=>za3 hw.right.right),SC.out⟩ K.right.drop2 J)
end
section
variable {F:Asn} {w:World} {R:Ending→World→Prop}
theorem zjf {F:Asn} {n:Ky.Nd} {v:Value} (hv:NdV F v n):∃ a1 c1 a3 c3 a5 c5,v=.agg #[.bool n.leaf,.slice a1 n.es.length c1,.slice a3 n.kids.length c3,.slice a5 n.keys.length c5]:=by
 obtain ⟨se,sk,sx,rfl,⟨g1,-⟩,⟨g3,-⟩,g5,-⟩:=hv
 obtain ⟨a1,c1,rfl,-⟩:=zab g1
 obtain ⟨a3,c3,rfl,-⟩:=zab g3
 obtain ⟨a5,c5,rfl,-⟩:=zab g5
 exact ⟨_,_,_,_,_,_,rfl⟩
theorem z16 {n:Ky.Nd} {v:Value} (hr:Ky.NdR n) (h2:n.es.length<2) (h3:n.kids.length<2) (hv:NdV F v n) (H:Sat F w)
  (h:∀ G v1 w',NdV G v1 n→Sat (G*F) w'→Io w w'→R (.returned (.tuple #[v1,.string ⟨#[]⟩,.agg #[.bool false,.slice none 0 0,.slice none 0 0,.slice none 0 0]])) w') :
  Calls Tryz.prog 116 #[v] w R:=by
 have HV:=L_ hv
 obtain ⟨se,sk,sx,rfl,⟨g1,-⟩,⟨g3,-⟩,-,-⟩:=hv
 obtain ⟨a1,c1,rfl,-⟩:=zab g1
 obtain ⟨a3,c3,rfl,-⟩:=zab g3
 have hkeys:n.keys.length≤5000:=by
  cases hr with
  | leaf hr=>simp [Ky.lf]
  | inner hr=>have:=hr.len;simp only [Ky.inn] at h3 ⊢;omega
 have HR:=L_ hr
 have HH:=L_ h
 have L:=L_ (And.intro h2 (And.intro h3 hkeys))
 generalize hlf:n.leaf=leaf at *
 obtain ⟨n1,hn1⟩:∃ k,k=n.es.length:=⟨_,rfl⟩
 obtain ⟨n3,hn3⟩:∃ k,k=n.kids.length:=⟨_,rfl⟩
 have HN:=L_ (And.intro hn1 hn3)
 rw [←hn1,←hn3] at HV ⊢
 have i1:(n1:Int)<2:=by omega
 have i2:(n3:Int)<2:=by omega
 have I:=(((Io.refl w).alloc (.cells #[.bool leaf,.slice a1 n1 c1,.slice a3 n3 c3,sx] 151)).alloc (.cells #[.bool false,.slice none 0 0,.slice none 0 0,.slice none 0 0] 151)).alloc (.cells #[.bool false,.slice none 0 0,.slice none 0 0,.slice none 0 0] 151)
 have H:=((H.new (.cells #[.bool leaf,.slice a1 n1 c1,.slice a3 n3 c3,sx] 151)).new (.cells #[.bool false,.slice none 0 0,.slice none 0 0,.slice none 0 0] 151)).new (.cells #[.bool false,.slice none 0 0,.slice none 0 0,.slice none 0 0] 151)
 simp only [heap_alloc,Nat.add_assoc,Nat.reduceAdd] at H
 clear h g1 g3 hr h2 h3 hkeys hn1 hn3
 go_enter Tryz.func116,Tryz.ntmps116
 go_upto_region 1 with fail
 generalize (((w.alloc _).alloc _).alloc _)=w1 at *
 generalize hb:w.heap.size=b at *
 simp only [Nat.add_assoc,Nat.reduceAdd]
 obtain ⟨q0,q1,q2,q3⟩:=nd4 H.right.right
 go_upto_region 2 with (go_at_call 144;refine zdr HR.out (HV.out.imp (fun _ hw=>hw.right.right.right)) ⟨by have:=L.out;omega,by have:=L.out;omega⟩ H ?_;intro w2 H2 I2;obtain ⟨q0,q1,q2,q3⟩:=nd4 H2.right.right)
 go_wp2_with (go_at_call 145;refine z04 (HV.out.imp (fun _ hw=>hw.right.right.right)) ⟨by have:=L.out;omega,by have:=L.out;omega,L.out.2.2⟩ H2 ?_;intro G v1 w3 NV H3 I3;have NV:=L_ NV;obtain ⟨xa,xb,xc,xd,xe,xf,rfl⟩:=zjf NV.out;rw [hlf,←HN.out.1,←HN.out.2] at NV ⊢;obtain ⟨t0,t1,t2,t3⟩:=nd4 H3.right;obtain ⟨f0,f1,f2,f3⟩:=zd7 H3.right;obtain ⟨u0,u1,u2,u3⟩:=nd4 H3.right.right;obtain ⟨g0,g1,g2,g3⟩:=zd7 H3.right.right)
 have K:=(H3.sw2).cells4 (x':=.bool leaf) (y':=.slice xa n1 xb) (z':=.slice xc n3 xd) (u':=.slice xe n.keys.length xf)
 have K:=(K.sw3).cells4 (x':=.bool false) (y':=.slice none 0 0) (z':=.slice none 0 0) (u':=.slice none 0 0)
 have J:=(((((((((I.trans I2).trans I3).setCell ⟨b+1,0,none⟩ (.bool leaf)).setCell ⟨b+1,1,none⟩ (.slice xa n1 xb)).setCell ⟨b+1,2,none⟩ (.slice xc n3 xd)).setCell ⟨b+1,3,none⟩ (.slice xe n.keys.length xf)).setCell ⟨b+2,0,none⟩ (.bool false)).setCell ⟨b+2,1,none⟩ (.slice none 0 0)).setCell ⟨b+2,2,none⟩ (.slice none 0 0)).setCell ⟨b+2,3,none⟩ (.slice none 0 0)
 generalize ((((((((w3.setCell ⟨b+1,0,none⟩ (.bool leaf)).setCell ⟨b+1,1,none⟩ (.slice xa n1 xb)).setCell ⟨b+1,2,none⟩ (.slice xc n3 xd)).setCell ⟨b+1,3,none⟩ (.slice xe n.keys.length xf)).setCell ⟨b+2,0,none⟩ (.bool false)).setCell ⟨b+2,1,none⟩ (.slice none 0 0)).setCell ⟨b+2,2,none⟩ (.slice none 0 0)).setCell ⟨b+2,3,none⟩ (.slice none 0 0))=W at *
 obtain ⟨y0,y1,y2,y3⟩:=nd4 K
 obtain ⟨z0,z1,z2,z3⟩:=nd4 K.right
 exact bodyPost_ret (v:=.tuple #[.agg #[.bool leaf,.slice xa n1 xb,.slice xc n3 xd,.slice xe n.keys.length xf],.string ⟨#[]⟩,.agg #[.bool false,.slice none 0 0,.slice none 0 0,.slice none 0 0]]) (by simp [results,Tryz.results116,go_sem,y0,y1,y2,y3,z0,z1,z2,z3]) rfl (HH.out _ _ _ NV.out K.right.right.drop1 J)
abbrev zxz (v:Value):Prop:=∃ (l:Bool) (a:Option Addr) (n c:Nat) (a':Option Addr) (n' c':Nat) (a'':Option Addr) (n'' c'':Nat),v=.agg #[.bool l,.slice a n c,.slice a' n' c',.slice a'' n'' c'']
theorem NdV.shape {n:Ky.Nd} {v:Value} (hv:NdV F v n):zxz v:=by
 obtain ⟨a1,c1,a3,c3,a5,c5,rfl⟩:=zjf hv
 exact ⟨_,_,_,_,_,_,_,_,_,_,rfl⟩
theorem zzt {n:Ky.Nd} {v:Value} (hr:Ky.NdR n) (hl:n.es.length≤5000∧n.kids.length≤5000) (hv:NdV F v n) (H:Sat F w)
  (h:∀ G v1 s v2 w',zxz v1→zxz v2→Sat (G*F) w'→Io w w'→R (.returned (.tuple #[v1,.string s,v2])) w') :
  Calls Tryz.prog 116 #[v] w R:=by
 by_cases c:n.es.length<2∧n.kids.length<2
 ·exact z16 hr c.1 c.2 hv H fun G v1 w' n1 H' I'=>h G _ _ _ w' n1.shape ⟨_,_,_,_,_,_,_,_,_,_,rfl⟩ H' I'
 ·cases hr with
  | leaf hr =>
   simp only [Ky.lf,List.length_nil] at c hl
   exact zoy hr (by omega) hl.1 hv H fun k key val G v1 v2 w' _ _ n1 n2 H' I'=>h G _ _ _ w' n1.shape n2.shape H' I'
  | inner hr =>
   simp only [Ky.inn,List.length_nil] at c hl
   exact zl6 hr (by omega) hl.2 hv H fun key G v1 v2 w' _ n1 n2 H' I'=>h G _ _ _ w' n1.shape n2.shape H' I'
theorem zpg {a b:Ky.Nd} {v u:Value} (y:ByteArray) (ha:Ky.NdR a) (hb:Ky.NdR b) (hk:a.leaf=b.leaf) (hl:a.es.length≤5000∧b.es.length≤5000∧a.kids.length≤5000∧b.kids.length≤4000) (hv:NdV F v a) (hu:NdV F u b) (H:Sat F w)
  (h:∀ G v' w',NdV G v' (Tb.zgk a y b)→Sat (G*F) w'→Io w w'→R (.returned v') w') :
  Calls Tryz.prog 154 #[v,.string y,u] w R:=by
 cases ha with
 | leaf ha =>
  cases hb with
  | leaf hb=>exact z4x y ⟨hl.1,hl.2.1⟩ hv hu H fun G v' w' nv H' I'=>h G v' w' nv H' I'
  | inner hb=>cases hk
 | inner ha =>
  cases hb with
  | leaf hb=>cases hk
  | inner hb =>
   have h1:=ha.len
   have h2:=hb.len
   have h3:=hl.2.2
   simp only [Ky.inn] at h3
   exact z0n y ⟨h3.1,by omega,by omega,by omega⟩ hv hu H fun G v' w' nv H' I'=>h G v' w' nv H' I'
end
end Go.Proofs.YtfknjmoekbabcaaGreatDoor

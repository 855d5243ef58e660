/-
  A part of a proof. It proves no statement by itself.
-/
import Derived.Test.YtfknjmoekbabcaaGreatDoorRows
import Derived.Test.YtfknjmoekbabcaaGreatDoorC01
set_option linter.unusedSimpArgs false
set_option linter.unusedVariables false
set_option linter.unusedSectionVars false
set_option maxRecDepth 100000
set_option maxHeartbeats 64000000
namespace Go.Proofs.YtfknjmoekbabcaaGreatDoor
open Go.RowKit
def rp (n:Nat) (b:UInt8):ByteArray:=⟨(List.replicate n b).toArray⟩
structure Dk where
 sure:List ByteArray
 pend:List (Int × ByteArray)
 left:Int
 down:Bool
 reads:Int
 writes:Int
namespace Dk
def last (i:Int):List (Int × ByteArray)→Option ByteArray
 | []=>none
 | p::l=>match last i l with
  | some s=>some s
  | none=>if p.1=i then some p.2 else none
theorem zts (i k:Int) (s:ByteArray):∀ l,last i (l++[(k,s)])=if k=i then some s else last i l
 | []=>by simp [last]
 | p::l=>by
  simp only [List.cons_append,last,zts i k s l]
  by_cases h:k=i<;>simp [h]
structure Ok (d:Dk):Prop where
 sect:∀ i,i<d.sure.length→(d.sure.getD i ByteArray.empty).size=256
 many:d.sure.length≤16384
 rng:∀ p∈d.pend,0≤p.1∧p.1<(d.sure.length:Int)
 txt:∀ p∈d.pend,p.2.size=256
 left:-1≤d.left∧d.left≤9223372036854775807
 reads:0≤d.reads
 writes:0≤d.writes
def new (n:Nat):Dk:=⟨List.replicate n (rp 256 0),[],-1,false,0,0⟩
def atE (d:Dk) (i:Int):Int:=if d.down then 4 else if 0≤i∧i<(d.sure.length:Int) then 0 else 40
def read (d:Dk) (i:Int):Dk:=if d.atE i=0 then { d with reads:=d.reads+1 } else d
end Dk
def zkm (l:List (Int × ByteArray)):List Value:=l.flatMap fun p=>[.int .i64 p.1,.string p.2]
def zok (m:List (Int × Value)) (l:List (Int × ByteArray)):Prop:=∀ i,z3z i m=(Dk.last i l).map Value.string
theorem z1g:zok [] []:=fun _=>rfl
theorem zok.put {m:List (Int × Value)} {l:List (Int × ByteArray)} (h:zok m l) (i:Int) (s:ByteArray):zok (xdu i (.string s) m) (l++[(i,s)]):=by
 intro j
 rw [Dk.zts]
 by_cases e:i=j
 ·subst e;simp [zif]
 ·rw [zg4 _ (Ne.symm e),if_neg e];exact h j
def zfv (sb mb:Nat) (pv:Value) (d:Dk):Array Value :=
 #[.slice (some ⟨sb,0,none⟩) d.sure.length d.sure.length,.map (some mb),pv,.int .i64 d.left,.bool d.down,.int .i64 d.reads,.int .i64 d.writes]
def strs (l:List ByteArray):Array Value:=(l.map Value.string).toArray
def ziu (p sb mb:Nat) (pf:Value) (ob:Obj) (d:Dk) (pv:Value) (l:List (Int × ByteArray)):Asn :=
 pts p (.cells (zfv sb mb pf d) 136 (0,0))*(pts sb (.cells (strs d.sure) 9 (0,0))*(pts mb ob*Row 314 2 pv l.length (zkm l)))
def xgk (p sb mb:Nat) (pv:Value) (ob:Obj) (d:Dk):Asn:=ziu p sb mb pv ob d pv d.pend
def z8g (p:Nat) (d:Dk):Asn:=ex fun (x:Nat × Nat × Value × Obj × List (Int × Value)) =>
 on (MapI .i64 x.2.2.2.2 x.2.2.2.1∧zok x.2.2.2.2 d.pend) (xgk p x.1 x.2.1 x.2.2.1 x.2.2.2.1 d)
theorem z5a {p:Nat} {d:Dk} {F:Asn} {w:World} (h:Sat (z8g p d*F) w) :
  ∃ sb mb pv ob m,MapI .i64 m ob∧zok m d.pend∧Sat (ziu p sb mb pv ob d pv d.pend*F) w:=by
 obtain ⟨⟨sb,mb,pv,ob,m⟩,h⟩:=zde.1 h
 obtain ⟨⟨h1,h2⟩,h⟩:=ze4.1 h
 exact ⟨sb,mb,pv,ob,m,h1,h2,h⟩
theorem z4z {p sb mb:Nat} {pv:Value} {ob:Obj} {m:List (Int × Value)} {d:Dk} {F:Asn} {w:World} (h1:MapI .i64 m ob) (h2:zok m d.pend) (h:Sat (ziu p sb mb pv ob d pv d.pend*F) w) :
  Sat (z8g p d*F) w :=
 zde.2 ⟨(sb,mb,pv,ob,m),ze4.2 ⟨⟨h1,h2⟩,h⟩⟩
section
variable {p sb mb:Nat} {pf pv:Value} {ob:Obj} {d:Dk} {l:List (Int × ByteArray)} {F:Asn} {w:World}
theorem z6f:ziu p sb mb pf ob d pv l*F =
  pts p (.cells (zfv sb mb pf d) 136 (0,0))*((pts sb (.cells (strs d.sure) 9 (0,0))*(pts mb ob*Row 314 2 pv l.length (zkm l)))*F):=by
 unfold ziu;rw [zdn]
theorem xf1:ziu p sb mb pf ob d pv l*F =
  pts sb (.cells (strs d.sure) 9 (0,0))*((pts p (.cells (zfv sb mb pf d) 136 (0,0))*(pts mb ob*Row 314 2 pv l.length (zkm l)))*F):=by
 unfold ziu;ac_rfl
theorem dk_now:ziu p sb mb pf ob d pv l*F =
  pts mb ob*((pts p (.cells (zfv sb mb pf d) 136 (0,0))*(pts sb (.cells (strs d.sure) 9 (0,0))*Row 314 2 pv l.length (zkm l)))*F):=by
 unfold ziu;ac_rfl
theorem dk_row:ziu p sb mb pf ob d pv l*F =
  Row 314 2 pv l.length (zkm l)*((pts p (.cells (zfv sb mb pf d) 136 (0,0))*(pts sb (.cells (strs d.sure) 9 (0,0))*pts mb ob))*F):=by
 unfold ziu;ac_rfl
end
structure xd7 (p sb mb:Nat) (pv:Value) (ob:Obj) (d:Dk) (w:World):Prop where
 lp:p<w.heap.size
 ls:sb<w.heap.size
 lm:mb<w.heap.size
 c0:w.cell? ⟨p,0,none⟩=some (.slice (some ⟨sb,0,none⟩) d.sure.length d.sure.length)
 c1:w.cell? ⟨p,1,none⟩=some (.map (some mb))
 c2:w.cell? ⟨p,2,none⟩=some pv
 c3:w.cell? ⟨p,3,none⟩=some (.int .i64 d.left)
 c4:w.cell? ⟨p,4,none⟩=some (.bool d.down)
 c5:w.cell? ⟨p,5,none⟩=some (.int .i64 d.reads)
 c6:w.cell? ⟨p,6,none⟩=some (.int .i64 d.writes)
 fz:∀ j,w.frozen? ⟨p,j,none⟩=false
 bs:w.heap[sb]?=some (.cells (strs d.sure) 9 (0,0))
 bm:w.heap[mb]?=some ob
 ps:p≠sb
 pm:p≠mb
 sm:sb≠mb
theorem xf2 {p sb mb:Nat} {pf pv:Value} {ob:Obj} {d:Dk} {l:List (Int × ByteArray)} {F:Asn} {w:World} (h:Sat (ziu p sb mb pf ob d pv l*F) w):xd7 p sb mb pf ob d w:=by
 have h1:=(z6f ▸ h).left
 have h2:=(xf1 ▸ h).left
 have h3:=(dk_now ▸ h).left
 have hn:Sat ((pts p (.cells (zfv sb mb pf d) 136 (0,0))*pts sb (.cells (strs d.sure) 9 (0,0)))*((pts mb ob*Row 314 2 pv l.length (zkm l))*F)) w:=h.of_eq (by unfold ziu;ac_rfl)
 have hm:Sat ((pts p (.cells (zfv sb mb pf d) 136 (0,0))*pts mb ob)*((pts sb (.cells (strs d.sure) 9 (0,0))*Row 314 2 pv l.length (zkm l))*F)) w:=h.of_eq (by unfold ziu;ac_rfl)
 have hq:Sat ((pts sb (.cells (strs d.sure) 9 (0,0))*pts mb ob)*((pts p (.cells (zfv sb mb pf d) 136 (0,0))*Row 314 2 pv l.length (zkm l))*F)) w:=h.of_eq (by unfold ziu;ac_rfl)
 exact ⟨h1.lt,h2.lt,h3.lt,Sat.read h1.at 0,Sat.read h1.at 1,Sat.read h1.at 2,Sat.read h1.at 3,Sat.read h1.at 4,Sat.read h1.at 5,Sat.read h1.at 6,fun j=>Sat.free h1.at j,h2.at,h3.at,hn.left.ne,hm.left.ne,hq.left.ne⟩
end Go.Proofs.YtfknjmoekbabcaaGreatDoor

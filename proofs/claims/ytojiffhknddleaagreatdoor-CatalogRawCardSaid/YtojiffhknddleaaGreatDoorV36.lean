/-
  A catalogue in a tree of keys: versions and branches, as entries. Plain. It proves no statement by itself.
-/
import Derived.Test.YtojiffhknddleaaGreatDoorV33
import Derived.Test.YtojiffhknddleaaGreatDoorV34
import Derived.Test.YtojiffhknddleaaGreatDoorV04
import Derived.Test.YtojiffhknddleaaGreatDoorV35
namespace Go.Proofs.YtojiffhknddleaaGreatDoor
open Go.RowKit Go.Lib
set_option linter.unusedSimpArgs false
set_option linter.unusedVariables false
namespace Ca
open Ky
open Md (Ver Br)
def pV : Nm := ⟨#[86]⟩
def pW : Nm := ⟨#[87]⟩
def pH : Nm := ⟨#[72]⟩
def pI : Nm := ⟨#[73]⟩
def okId (id : Int) : Prop := 1 ≤ id ∧ id ≤ 1048576
instance (id : Int) : Decidable (okId id) := by unfold okId; exact inferInstance
structure OkV (v : Ver) : Prop where
  id : okId v.id
  parent : 0 ≤ v.parent ∧ v.parent ≤ 1048576
  root : 0 ≤ v.root ∧ v.root ≤ 4294967295
  edges : 0 ≤ v.edges ∧ v.edges ≤ 4294967295
structure OkB (b : Br) : Prop where
  name : Md.nameOk b.name = true
  head : okId b.head
def vk (id : Int) : Nm := pV ++ tx (be 4 id.toNat)
def vl (v : Ver) : Nm := tx (be 4 v.parent.toNat ++ be 4 v.root.toNat ++ be 4 v.edges.toNat)
def bk (n : Nm) : Nm := pH ++ n
def bl (h : Int) : Nm := tx (be 4 h.toNat)
def ev (v : Ver) : En := (vk v.id, vl v)
def eb (b : Br) : En := (bk b.name, bl b.head)
/-! ### Keys: their bytes, their order. -/
theorem cons_less (a : UInt8) (x y : List UInt8) : Op.bytesLess (a :: x) (a :: y) = Op.bytesLess x y := by simp [Op.bytesLess]
theorem pre_list (c : UInt8) (s : Nm) : ((⟨#[c]⟩ : Nm) ++ s).toList = c :: s.toList := by
  rw [ByteArray.toList_eq, ByteArray.toList_eq]
  simp
theorem tx_toList (l : List UInt8) : (tx l).toList = l := by rw [ByteArray.toList_eq]; exact tx_list l
theorem vk_list (id : Int) : (vk id).toList = 86 :: be 4 id.toNat := by unfold vk pV; rw [pre_list, tx_toList]
theorem bk_list (n : Nm) : (bk n).toList = 72 :: n.toList := by unfold bk pH; rw [pre_list]
theorem vk_size (id : Int) : (vk id).size = 5 := by
  unfold vk
  rw [ByteArray.size_append, tx_size, be_length]
  rfl
theorem bk_size (n : Nm) : (bk n).size = n.size + 1 := by
  unfold bk
  rw [ByteArray.size_append]
  have : pH.size = 1 := rfl
  omega
theorem vl_size (v : Ver) : (vl v).size = 12 := by unfold vl; rw [tx_size]; simp [be_length]
theorem bl_size (h : Int) : (bl h).size = 4 := by unfold bl; rw [tx_size, be_length]
theorem vk_lt {i j : Int} (hi : okId i) (hj : okId j) : Md.nlt (vk i) (vk j) = decide (i < j) := by
  unfold okId at hi hj
  unfold Md.nlt
  rw [vk_list, vk_list, cons_less, bytesLess_un _ _ (by rw [be_length, be_length]), un_be, un_be, Bool.eq_iff_iff, decide_eq_true_eq, decide_eq_true_eq, Nat.mod_eq_of_lt (by omega), Nat.mod_eq_of_lt (by omega)]
  omega
theorem vk_inj {i j : Int} (hi : okId i) (hj : okId j) (h : vk i = vk j) : i = j := by
  have h1 := vk_lt hi hj
  have h2 := vk_lt hj hi
  rw [h, nlt_irrefl] at h1
  rw [← h, nlt_irrefl] at h2
  have e1 := of_decide_eq_false h1.symm
  have e2 := of_decide_eq_false h2.symm
  omega
theorem bk_lt (x y : Nm) : Md.nlt (bk x) (bk y) = Md.nlt x y := by
  unfold Md.nlt
  rw [bk_list, bk_list, cons_less]
theorem bk_inj {x y : Nm} (h : bk x = bk y) : x = y := by
  have := congrArg ByteArray.toList h
  rw [bk_list, bk_list] at this
  exact nm_ext (List.cons.inj this).2
theorem bv_lt (n : Nm) (i : Int) : Md.nlt (bk n) (vk i) = true := by
  unfold Md.nlt
  rw [bk_list, vk_list]
  simp [Op.bytesLess]
theorem vk_chk (id : Int) (v : Ver) : chk (vk id) (vl v) = 0 := by unfold chk; rw [vk_size, vl_size]; decide
theorem nameOk_size {n : Nm} (h : Md.nameOk n = true) : 1 ≤ n.size ∧ n.size ≤ 12 := by
  unfold Md.nameOk at h
  rw [Bool.and_eq_true, decide_eq_true_eq] at h
  exact h.2
theorem bk_chk {n : Nm} (h : Md.nameOk n = true) (i : Int) : chk (bk n) (bl i) = 0 := by
  have := nameOk_size h
  unfold chk
  rw [bk_size, bl_size, if_neg]
  omega
/-! ### The catalogue's entries. -/
structure Cat (es : List En) (V : List Ver) (B : List Br) : Prop where
  right : Right es
  eq : es = B.map eb ++ V.map ev
  okv : ∀ v ∈ V, OkV v
  okb : ∀ b ∈ B, OkB b
theorem cat_nil : Cat [] [] [] := ⟨⟨by simp, List.Pairwise.nil⟩, rfl, by simp, by simp⟩
variable {es : List En} {V : List Ver} {B : List Br}
theorem Cat.len (c : Cat es V B) : es.length = B.length + V.length := by rw [c.eq]; simp
theorem Cat.rightB (c : Cat es V B) : Right (B.map eb) := (Tb.right_app (c.eq ▸ c.right)).1
theorem Cat.rightV (c : Cat es V B) : Right (V.map ev) := (Tb.right_app (c.eq ▸ c.right)).2.1
theorem Cat.riseB (c : Cat es V B) : B.Pairwise fun x y => Md.nlt x.name y.name = true := by
  have h := c.rightB.2
  rw [List.pairwise_map] at h
  exact h.imp fun {a b} hab => by unfold eb at hab; rw [bk_lt] at hab; exact hab
/-! ### A version put in. -/
def vist (v : Ver) (s : List Ver × Bool) (x : Ver) : List Ver × Bool := if s.2 = false ∧ v.id < x.id then (s.1 ++ [v] ++ [x], true) else (s.1 ++ [x], s.2)
def vfin (v : Ver) (s : List Ver × Bool) : List Ver := if s.2 = true then s.1 else s.1 ++ [v]
def vput (V : List Ver) (v : Ver) : List Ver := vfin v ((V.filter fun x => decide (x.id ≠ v.id)).foldl (vist v) ([], false))
theorem vist_map (v : Ver) (ok : OkV v) : ∀ (l : List Ver) (s : List Ver × Bool), (∀ x ∈ l, OkV x) → (l.map ev).foldl (ist (vk v.id) (vl v)) (s.1.map ev, s.2) = ((l.foldl (vist v) s).1.map ev, (l.foldl (vist v) s).2)
  | [], s, _ => rfl
  | x :: l, s, h => by
    have e : ist (vk v.id) (vl v) (s.1.map ev, s.2) (ev x) = ((vist v s x).1.map ev, (vist v s x).2) := by
      have h1 : Md.nlt (vk v.id) (ev x).1 = decide (v.id < x.id) := vk_lt ok.id (h x (by simp)).id
      unfold ist vist
      rw [h1]
      by_cases c : s.2 = false ∧ v.id < x.id
      · rw [if_pos c, if_pos (by simpa using c)]
        simp [ev]
      · rw [if_neg c, if_neg (by simpa using c)]
        simp
    rw [List.map_cons, List.foldl_cons, e, List.foldl_cons]
    exact vist_map v ok l _ fun y hy => h y (by simp [hy])
theorem filter_map {v : Ver} (ok : OkV v) (hV : ∀ x ∈ V, OkV x) : ((V.map ev).filter fun x => decide (x.1 ≠ vk v.id)) = (V.filter fun x => decide (x.id ≠ v.id)).map ev := by
  rw [List.filter_map]
  congr 1
  refine List.filter_congr fun x hx => ?_
  simp only [Function.comp, ne_eq, decide_not]
  congr 1
  rw [decide_eq_decide]
  exact ⟨fun h => vk_inj (hV x hx).id ok.id h, fun h => by unfold ev; rw [h]⟩
theorem vput_map {v : Ver} (ok : OkV v) (hr : Right (V.map ev)) (hV : ∀ x ∈ V, OkV x) : put (V.map ev) (vk v.id) (vl v) = (vput V v).map ev := by
  rw [← put_doc hr, filter_map ok hV]
  have := vist_map v ok (V.filter fun x => decide (x.id ≠ v.id)) ([], false) fun x hx => hV x (List.mem_filter.1 hx).1
  have e0 : (([], false) : List Ver × Bool).1.map ev = [] := rfl
  rw [e0] at this
  rw [this]
  unfold ifin vput vfin
  simp only
  split
  · rfl
  · simp [ev]
theorem vist_mem (v : Ver) : ∀ (l : List Ver) (s : List Ver × Bool) (x : Ver), x ∈ (l.foldl (vist v) s).1 → x = v ∨ x ∈ s.1 ∨ x ∈ l
  | [], s, x, h => .inr (.inl h)
  | y :: l, s, x, h => by
    rw [List.foldl_cons] at h
    rcases vist_mem v l _ x h with e | e | e
    · exact .inl e
    · unfold vist at e
      split at e
      · simp only [List.mem_append, List.mem_singleton] at e
        rcases e with (e | e) | e
        · exact .inr (.inl e)
        · exact .inl e
        · exact .inr (.inr (by simp [e]))
      · simp only [List.mem_append, List.mem_singleton] at e
        rcases e with e | e
        · exact .inr (.inl e)
        · exact .inr (.inr (by simp [e]))
    · exact .inr (.inr (by simp [e]))
theorem vput_mem {v x : Ver} (h : x ∈ vput V v) : x = v ∨ x ∈ V := by
  have key : x ∈ ((V.filter fun x => decide (x.id ≠ v.id)).foldl (vist v) ([], false)).1 → x = v ∨ x ∈ V := fun h => by
    rcases vist_mem v _ _ x h with e | e | e
    · exact .inl e
    · simp at e
    · exact .inr (List.mem_filter.1 e).1
  unfold vput vfin at h
  split at h
  · exact key h
  · rcases List.mem_append.1 h with h | h
    · exact key h
    · exact .inl (by simpa using h)
theorem Cat.putV (c : Cat es V B) {v : Ver} (ok : OkV v) : Cat (put es (vk v.id) (vl v)) (vput V v) B := by
  have hr := c.right
  refine ⟨Tb.right_put hr (vk_chk _ _), ?_, fun x hx => ?_, c.okb⟩
  · have e := c.eq
    have h2 := Tb.put_loc (E1 := B.map eb) (Ec := V.map ev) (E2 := []) (key := vk v.id) (v := vl v) (fun x hx => by
      obtain ⟨b, _, rfl⟩ := List.mem_map.1 hx
      exact bv_lt _ _) (by simp) (by rw [List.append_nil, ← e]; exact hr)
    rw [List.append_nil, List.append_nil, ← e] at h2
    rw [h2, vput_map ok c.rightV c.okv]
  · rcases vput_mem hx with rfl | h
    · exact ok
    · exact c.okv x h
/-! ### A version taken away. -/
theorem Cat.delV (c : Cat es V B) {id : Int} (hi : okId id) : Cat (del es (vk id)) (V.filter fun v => !decide (v.id = id)) B := by
  have hr := c.right
  have r2 : Right (del es (vk id)) := Tb.right_del hr
  have e : del es (vk id) = B.map eb ++ (V.filter fun v => !decide (v.id = id)).map ev := by
    have hf : es.filter (fun x => decide (x.1 ≠ vk id)) = B.map eb ++ (V.filter fun v => !decide (v.id = id)).map ev := by
      rw [c.eq, List.filter_append]
      congr 1
      · rw [List.filter_eq_self]
        intro x hx
        obtain ⟨b, _, rfl⟩ := List.mem_map.1 hx
        exact decide_eq_true (nlt_ne (bv_lt b.name id))
      · rw [List.filter_map]
        congr 1
        refine List.filter_congr fun x hx => ?_
        simp only [Function.comp, ne_eq, decide_not]
        congr 1
        rw [decide_eq_decide]
        exact ⟨fun h => vk_inj (c.okv x hx).id hi h, fun h => by unfold ev; rw [h]⟩
    rw [← hf]
    refine right_ext r2 (right_filter hr _) fun x => ?_
    rw [mem_del hr, List.mem_filter]
    simp
  exact ⟨r2, e, fun v hv => c.okv v (List.mem_filter.1 hv).1, c.okb⟩
/-! ### A branch put in, or given another head. -/
theorem Cat.putB (c : Cat es V B) {b : Br} (ok : OkB b) {B' : List Br} (h : put (B.map eb) (bk b.name) (bl b.head) = B'.map eb) (hm : ∀ x ∈ B', x = b ∨ x ∈ B) : Cat (put es (bk b.name) (bl b.head)) V B' := by
  have hr := c.right
  refine ⟨Tb.right_put hr (bk_chk ok.name _), ?_, c.okv, fun x hx => ?_⟩
  · have e := c.eq
    have h2 := Tb.put_loc (E1 := []) (Ec := B.map eb) (E2 := V.map ev) (key := bk b.name) (v := bl b.head) (by simp) (fun x hx => by
      obtain ⟨v, _, rfl⟩ := List.mem_map.1 hx
      exact bv_lt _ _) (by rw [List.nil_append, ← e]; exact hr)
    rw [List.nil_append, List.nil_append, ← e] at h2
    rw [h2, h]
  · rcases hm x hx with rfl | h
    · exact ok
    · exact c.okb x h
theorem has_bk {n : Nm} : Ky.has (bk n) (B.map eb) = decide (Md.bplace B n < B.length) := by
  rw [Bool.eq_iff_iff, has_mem, decide_eq_true_eq, Md.bplace_lt]
  constructor
  · rintro ⟨x, hx⟩
    obtain ⟨b, hb, e⟩ := List.mem_map.1 hx
    exact ⟨b, hb, bk_inj (congrArg Prod.fst e)⟩
  · rintro ⟨b, hb, rfl⟩
    exact ⟨_, List.mem_map.2 ⟨b, hb, rfl⟩⟩
theorem pos_bk (n : Nm) : pos (bk n) (B.map eb) = B.findIdx fun b => !Md.nlt b.name n := by
  unfold pos
  rw [List.findIdx_map]
  congr 1
  funext b
  simp only [Function.comp, eb, bk_lt]
theorem pos_here {n : Nm} (hB : B.Pairwise fun x y => Md.nlt x.name y.name = true) (h : Md.bplace B n < B.length) : (B.findIdx fun b => !Md.nlt b.name n) = Md.bplace B n := by
  have hn := Md.bplace_get h
  rw [List.findIdx_eq h]
  refine ⟨by rw [hn, nlt_irrefl]; rfl, fun j hj => ?_⟩
  have := List.pairwise_iff_getElem.1 hB j _ (by omega) h hj
  rw [hn] at this
  simp [this]
theorem findIdx_same {α : Type} {p q : α → Bool} : ∀ {l : List α}, (∀ x ∈ l, p x = q x) → l.findIdx p = l.findIdx q
  | [], _ => rfl
  | x :: l, h => by
    rw [List.findIdx_cons, List.findIdx_cons, h x (by simp), findIdx_same fun y hy => h y (by simp [hy])]
theorem pos_new {n : Nm} (h : ¬ Md.bplace B n < B.length) : (B.findIdx fun b => !Md.nlt b.name n) = Md.bput B n := by
  unfold Md.bput
  refine findIdx_same fun b hb => ?_
  have hne : b.name ≠ n := fun e => h (Md.bplace_lt.2 ⟨b, hb, e⟩)
  cases h1 : Md.nlt b.name n with
  | true => rw [nlt_asym h1]; rfl
  | false =>
    cases h2 : Md.nlt n b.name with
    | true => rfl
    | false => exact absurd (nlt_total h1 h2) hne
def bins (B : List Br) (n : Nm) (h : Int) : List Br := B.take (Md.bput B n) ++ ⟨n, h⟩ :: B.drop (Md.bput B n)
def bset (B : List Br) (n : Nm) (h : Int) : List Br := B.set (Md.bplace B n) ⟨n, h⟩
theorem Cat.make (c : Cat es V B) {n : Nm} {h : Int} (hn : Md.nameOk n = true) (hh : okId h) (hp : ¬ Md.bplace B n < B.length) : Cat (put es (bk n) (bl h)) V (bins B n h) := by
  refine c.putB (b := ⟨n, h⟩) ⟨hn, hh⟩ ?_ fun x hx => ?_
  · unfold put
    rw [has_bk, decide_eq_false hp, pos_bk, pos_new hp]
    unfold bins
    simp [eb, List.map_take, List.map_drop]
  · unfold bins at hx
    rcases List.mem_append.1 hx with hx | hx
    · exact .inr (List.mem_of_mem_take hx)
    · rcases List.mem_cons.1 hx with hx | hx
      · exact .inl hx
      · exact .inr (List.mem_of_mem_drop hx)
theorem Cat.move (c : Cat es V B) {n : Nm} {h : Int} (hn : Md.nameOk n = true) (hh : okId h) (hp : Md.bplace B n < B.length) : Cat (put es (bk n) (bl h)) V (bset B n h) := by
  refine c.putB (b := ⟨n, h⟩) ⟨hn, hh⟩ ?_ fun x hx => ?_
  · unfold put
    rw [has_bk, decide_eq_true hp, pos_bk, pos_here c.riseB hp]
    unfold bset
    rw [List.map_set]
    rfl
  · unfold bset at hx
    rcases List.mem_or_eq_of_mem_set hx with hx | hx
    · exact .inr hx
    · exact .inl hx
/-! ### What stands under a key, and between two. -/
theorem Cat.mem (c : Cat es V B) {x : En} : x ∈ es ↔ (∃ b ∈ B, x = eb b) ∨ ∃ v ∈ V, x = ev v := by
  rw [c.eq, List.mem_append, List.mem_map, List.mem_map]
  constructor
  · rintro (⟨b, hb, e⟩ | ⟨v, hv, e⟩)
    · exact .inl ⟨b, hb, e.symm⟩
    · exact .inr ⟨v, hv, e.symm⟩
  · rintro (⟨b, hb, e⟩ | ⟨v, hv, e⟩)
    · exact .inl ⟨b, hb, e.symm⟩
    · exact .inr ⟨v, hv, e.symm⟩
theorem vk_bk (i : Int) (n : Nm) : vk i ≠ bk n := (nlt_ne (bv_lt n i)).symm
theorem Cat.getV (c : Cat es V B) {id : Int} (h : Md.vplace V id < V.length) : Ky.get es (vk id) = some (vl V[Md.vplace V id]) := by
  rw [get_mem c.right, c.mem]
  refine .inr ⟨_, List.getElem_mem h, ?_⟩
  unfold ev
  rw [Md.vplace_get h]
theorem Cat.noV (c : Cat es V B) {id : Int} (hi : okId id) (h : ¬ Md.vplace V id < V.length) : Ky.get es (vk id) = none := by
  rw [get_none c.right]
  intro x hx
  rcases c.mem.1 hx with ⟨b, _, e⟩ | ⟨v, hv, e⟩
  · exact vk_bk _ _ (congrArg Prod.fst e)
  · exact h (Md.vplace_lt.2 ⟨v, hv, (vk_inj hi (c.okv v hv).id (congrArg Prod.fst e)).symm⟩)
theorem Cat.getB (c : Cat es V B) {n : Nm} (h : Md.bplace B n < B.length) : Ky.get es (bk n) = some (bl B[Md.bplace B n].head) := by
  rw [get_mem c.right, c.mem]
  refine .inl ⟨_, List.getElem_mem h, ?_⟩
  unfold eb
  rw [Md.bplace_get h]
theorem Cat.noB (c : Cat es V B) {n : Nm} (h : ¬ Md.bplace B n < B.length) : Ky.get es (bk n) = none := by
  rw [get_none c.right]
  intro x hx
  rcases c.mem.1 hx with ⟨b, hb, e⟩ | ⟨v, hv, e⟩
  · exact h (Md.bplace_lt.2 ⟨b, hb, (bk_inj (congrArg Prod.fst e)).symm⟩)
  · exact vk_bk _ _ (congrArg Prod.fst e).symm
theorem Cat.noP (c : Cat es V B) {k : Nm} (h : k.size = 1) : Ky.get es k = none := by
  rw [get_none c.right]
  intro x hx
  rcases c.mem.1 hx with ⟨b, hb, e⟩ | ⟨v, hv, e⟩
  · have e1 := congrArg ByteArray.size (congrArg Prod.fst e)
    have h2 := nameOk_size (c.okb b hb).name
    have h3 := bk_size b.name
    unfold eb at e1
    simp only at e1
    omega
  · have e1 := congrArg ByteArray.size (congrArg Prod.fst e)
    have h3 := vk_size v.id
    unfold ev at e1
    simp only at e1
    omega
theorem pre_less (a b : UInt8) (l m : List UInt8) (h : a < b) : Op.bytesLess (a :: l) (b :: m) = true := by simp [Op.bytesLess, h]
theorem pre_more (a b : UInt8) (l m : List UInt8) (h : b < a) : Op.bytesLess (a :: l) (b :: m) = false := by
  have h1 : ¬ a < b := fun k => by
    have k1 := UInt8.lt_iff_toNat_lt.1 k
    have k2 := UInt8.lt_iff_toNat_lt.1 h
    omega
  have h2 : (a == b) = false := by
    apply beq_eq_false_iff_ne.2
    rintro rfl
    exact h1 h
  simp [Op.bytesLess, h1, h2]
theorem pre_same (a : UInt8) (l : List UInt8) : Op.bytesLess (a :: l) [a] = false := by
  rw [cons_less]; cases l <;> rfl
theorem one_list (a : UInt8) : (⟨#[a]⟩ : Nm).toList = [a] := by rw [ByteArray.toList_eq]
theorem Cat.scanB (c : Cat es V B) : Tb.scan pH pI es = B.map eb := by
  refine right_ext (right_scan c.right) c.rightB fun x => ?_
  rw [mem_scan c.right, c.mem, List.mem_map]
  constructor
  · rintro ⟨⟨b, hb, rfl⟩ | ⟨v, hv, rfl⟩, h1, h2⟩
    · exact ⟨b, hb, rfl⟩
    · exfalso
      unfold Tb.under ev Md.nlt pI at h2
      simp only [vk_list, one_list] at h2
      rw [pre_more _ _ _ _ (by decide)] at h2
      have h3 : decide ((⟨#[73]⟩ : Nm).size = 0) = false := rfl
      rw [h3] at h2
      cases h2
  · rintro ⟨b, hb, rfl⟩
    refine ⟨.inl ⟨b, hb, rfl⟩, ?_, ?_⟩
    · unfold eb Md.nlt pH
      simp only [bk_list, one_list]
      exact pre_same _ _
    · unfold Tb.under eb Md.nlt pI
      simp only [bk_list, one_list]
      rw [pre_less _ _ _ _ (by decide)]
      simp
end Ca
end Go.Proofs.YtojiffhknddleaaGreatDoor

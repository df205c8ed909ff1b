/-
Maps in memory; contracts of scanners.
-/
import Derived.Test.YtoejjboanggenaaGreatDoorN5
import Derived.Laws.EntriesVeiled
namespace Go.Proofs.YtoejjboanggenaaGreatDoor
open Go.RowKit
set_option linter.unusedVariables false
set_option linter.unusedSimpArgs false

/-- a map as it lies in memory. -/
def kents : List (Value × Value) → Nat → List MapEntry
  | [], _ => []
  | o :: os, k => { key := o.1, val := o.2, born := k } :: kents os (k + 1)
theorem kents_snoc : ∀ (os : List (Value × Value)) (x : Value × Value) (k : Nat), kents (os ++ [x]) k = kents os k ++ [{ key := x.1, val := x.2, born := k + os.length }]
  | [], x, k => by simp [kents]
  | o :: os, x, k => by simp [kents, kents_snoc os x (k + 1)]; omega
def KMap (w : World) (m : Nat) (kvs : List (Value × Value)) : Prop := w.heap[m]? = some (.map (kents kvs 0).toArray kvs.length)
theorem KMap.lt {w : World} {m : Nat} {kvs : List (Value × Value)} (h : KMap w m kvs) : m < w.heap.size := (Array.getElem?_eq_some_iff.1 h).1
theorem KMap.below {w w' : World} {m B : Nat} {kvs : List (Value × Value)} (h : KMap w m kvs) (hb : Below B w w') (hm : m < B) : KMap w' m kvs := (hb.block m hm).trans h
theorem KMap.alloc {w : World} {m : Nat} {kvs : List (Value × Value)} (h : KMap w m kvs) (o : Obj) : KMap (w.alloc o) m kvs := (Below.heap_alloc w o m h.lt).trans h
theorem find_none (d : TypeDesc) (k : Value) : ∀ (os : List (Value × Value)) (j i : Nat), (∀ o ∈ os, Instr.sameNow d k o.1 = some false) → Instr.findNow d k (kents os j) i = some none
  | [], j, i, _ => rfl
  | o :: os, j, i, h => by
    simp only [kents, Instr.findNow, h o (by simp)]
    exact find_none d k os (j + 1) (i + 1) (fun x hx => h x (by simp [hx]))
theorem find_some (d : TypeDesc) (k v : Value) : ∀ (os : List (Value × Value)) (j i n : Nat), (∀ (t : Nat) (o : Value × Value), t < n → os[t]? = some o → Instr.sameNow d k o.1 = some false) → (∃ k', os[n]? = some (k', v) ∧ Instr.sameNow d k k' = some true) → Instr.findNow d k (kents os j) i = some (some (i + n, v))
  | [], j, i, n, _, ⟨_, h, _⟩ => by simp at h
  | o :: os, j, i, 0, _, ⟨k', h, hs⟩ => by
    simp at h; subst h
    simp [kents, Instr.findNow, hs]
  | o :: os, j, i, n + 1, hn, ⟨k', h, hs⟩ => by
    simp only [kents, Instr.findNow, hn 0 o (by omega) rfl]
    rw [find_some d k v os (j + 1) (i + 1) n (fun t x ht hx => hn (t + 1) x (by omega) (by simpa using hx)) ⟨k', by simpa using h, hs⟩]
    simp; omega
theorem getObj_kmap {w : World} {m : Nat} {kvs : List (Value × Value)} (h : KMap w m kvs) : (getObj m).run Tryz.prog w = .ok (.map (kents kvs 0).toArray kvs.length) w := by
  simp only [getObj, Sem.run, show w.heap[m]? = _ from h]
theorem kupdate {t kt e : TypeId} {d : TypeDesc} (ht : ∀ w, (underlying t).run Tryz.prog w = .ok (.map kt e) w) (hd : ∀ w, (underlying kt).run Tryz.prog w = .ok d w) {w : World} {m : Nat} {kvs : List (Value × Value)} (h : KMap w m kvs) (k v : Value)
    (hc : ∀ em w, (Instr.checkKey em 10000 kt k).run Tryz.prog w = .ok () w) (hk : ∀ o ∈ kvs, Instr.sameNow d k o.1 = some false) :
    ∃ w', (Instr.mapUpdate t (.map (some m)) k v).run Tryz.prog w = .ok () w' ∧ KMap w' m (kvs ++ [(k, v)]) ∧ w.grownBy w' (some m) := by
  have hlt := h.lt
  refine ⟨{ w with heap := w.heap.setIfInBounds m (.map ((kents kvs 0).toArray.push { key := k, val := v, born := kvs.length }) (kvs.length + 1)) }, ?_, ?_, ?_⟩
  · simp only [Instr.mapUpdate, Sem.run_bind, ht, Result.andThen_ok, getObj_kmap h, hc, Instr.findKey, hd, find_none d k kvs 0 0 hk, Sem.run_pure, setObj, Sem.run, show w.heap[m]? = _ from h]
  · show (w.heap.setIfInBounds m _)[m]? = _
    rw [Array.getElem?_setIfInBounds_self_of_lt hlt, kents_snoc]
    simp
  · exact ⟨rfl, rfl, rfl, by simp, fun k _ hk => by
      show (w.heap.setIfInBounds m _)[k]? = _
      rw [Array.getElem?_setIfInBounds_ne (fun e => hk (by rw [e]))]⟩
theorem klookup_none {t kt e : TypeId} {d : TypeDesc} {z : Value} (ht : ∀ w, (underlying t).run Tryz.prog w = .ok (.map kt e) w) (hd : ∀ w, (underlying kt).run Tryz.prog w = .ok d w) (hz : ∀ w, (zeroValue e).run Tryz.prog w = .ok z w) {w : World} {m : Nat} {kvs : List (Value × Value)} (h : KMap w m kvs) (k : Value)
    (hc : ∀ em w, (Instr.checkKey em 10000 kt k).run Tryz.prog w = .ok () w) (hk : ∀ o ∈ kvs, Instr.sameNow d k o.1 = some false) :
    (Instr.lookup t (.map (some m)) k false).run Tryz.prog w = .ok z w := by
  simp only [Instr.lookup, Sem.run_bind, ht, Result.andThen_ok, getObj_kmap h, hc, Instr.findKey, hd, find_none d k kvs 0 0 hk, Sem.run_pure, hz]
  rfl
theorem klookup {t kt e : TypeId} {d : TypeDesc} (ht : ∀ w, (underlying t).run Tryz.prog w = .ok (.map kt e) w) (hd : ∀ w, (underlying kt).run Tryz.prog w = .ok d w) {w : World} {m : Nat} {kvs : List (Value × Value)} (h : KMap w m kvs) (k v : Value) (n : Nat)
    (hc : ∀ em w, (Instr.checkKey em 10000 kt k).run Tryz.prog w = .ok () w) (hk : ∀ (t : Nat) (o : Value × Value), t < n → kvs[t]? = some o → Instr.sameNow d k o.1 = some false) (hn : ∃ k', kvs[n]? = some (k', v) ∧ Instr.sameNow d k k' = some true) :
    (Instr.lookup t (.map (some m)) k false).run Tryz.prog w = .ok v w := by
  simp only [Instr.lookup, Sem.run_bind, ht, Result.andThen_ok, getObj_kmap h, hc, Instr.findKey, hd, find_some d k v kvs 0 0 n hk hn, Sem.run_pure]
  rfl
theorem und119 (w : World) : (underlying 119).run Tryz.prog w = .ok (.map 5 122) w := by kernel_rfl
theorem und5 (w : World) : (underlying 5).run Tryz.prog w = .ok (.int .u8) w := by kernel_rfl
theorem und9 (w : World) : (underlying 9).run Tryz.prog w = .ok .string w := by kernel_rfl
theorem zero122 (w : World) : (zeroValue 122).run Tryz.prog w = .ok .nilFunc w := by kernel_rfl
theorem check5 (em : Bool) (c : Int) (w : World) : (Instr.checkKey em 10000 5 (.int .u8 c)).run Tryz.prog w = .ok () w := by kernel_rfl
theorem check9 (em : Bool) (s : ByteArray) (w : World) : (Instr.checkKey em 10000 9 (.string s)).run Tryz.prog w = .ok () w := by kernel_rfl
/-- the table's entries: a byte and the function that reads. -/
def tab (l : List UInt8) (f : Nat) : List (Value × Value) := l.map fun c => (.int .u8 c.toNat, fnv f)
theorem tab_snoc {l : List UInt8} {k : Nat} {c : UInt8} (h : l[k]? = some c) (f : Nat) : tab (l.take (k + 1)) f = tab (l.take k) f ++ [(.int .u8 c.toNat, fnv f)] := by
  unfold tab
  rw [List.take_add_one, h]
  simp
set_option maxHeartbeats 4000000 in
theorem set110 (s : ByteArray) (f b m : Nat) (kvs : List (Value × Value)) (w : World) (hs : s.size ≤ 1000) (hb : Blk w b 119 #[.map (some m)]) (hm : KMap w m kvs) (hbm : b ≠ m)
    (hk : ∀ k c, s.data.toList[k]? = some c → ∀ o ∈ kvs ++ tab (s.data.toList.take k) f, Instr.sameNow (.int .u8) (.int .u8 c.toNat) o.1 = some false) :
    Calls Tryz.prog 110 #[.string s, fnv f, .pointer (some ⟨b, 0, none⟩)] w fun e w' => e = .returned (.tuple #[]) ∧ KMap w' m (kvs ++ tab s.data.toList f) ∧ w.grownBy w' (some m) := by
  unfold fnv
  have HK := Lib.hid hk
  clear hk
  go_enter Tryz.func110, Tryz.ntmps110
  go_wp2_with fail
  go_loopw [8] (fun i wr => ∃ k : Nat, k ≤ s.size ∧ i = .int .i64 k ∧ Hid (Blk wr b 119 #[.map (some m)]) ∧ Hid (KMap wr m (kvs ++ tab (s.data.toList.take k) f)) ∧ Hid (w.grownBy wr (some m))) (fun i _ => s.size - (intOf i).toNat)
  case atStart => exact ⟨0, Nat.zero_le _, rfl, Lib.hid hb, Lib.hid (by simpa [tab] using hm), Lib.hid (World.grownBy.refl _ _)⟩
  case round =>
    obtain ⟨k, hks, rfl, HB, HM, HG⟩ := hrel
    by_cases hlt : k < s.size
    · have c2 : wr.cell? ⟨b, 0, none⟩ = some (.map (some m)) := HB.out.cell 0
      obtain ⟨c, hc⟩ : ∃ c, s.data.toList[k]? = some c := ⟨_, List.getElem?_eq_getElem hlt⟩
      have hck : (s[k]'hlt) = c := by
        have := (List.getElem?_eq_some_iff.1 hc).2
        exact this
      have hk0 : 0 ≤ (k : Int) := by omega
      have hk1 : (k : Int) < s.size := by omega
      have HC := Lib.hid hc
      obtain ⟨w3, hup, hm3, hg3⟩ := kupdate (w := wr.drew) und119 und5 (show KMap wr.drew m _ from HM.out) (.int .u8 c.toNat) (.func (.func f) #[] #[]) (fun em w => check5 em _ w) (HK.out k c hc)
      have HM3 := Lib.hid hm3
      have HG3 := Lib.hid hg3
      clear hc hm3 hg3
      go_wp2_with fail
      go_region
      all_goals
        (try go_wp2_with fail)
        go_roundw
        case rel =>
          refine ⟨k + 1, by omega, by go_num, ?_, ?_, ?_⟩
          · exact Lib.hid ((HG3.out.block b (HB.out.drew.lt) (by simpa using hbm)).trans HB.out)
          · rw [tab_snoc HC.out, ← List.append_assoc]
            exact HM3
          · exact Lib.hid ((show w.grownBy wr.drew (some m) from ⟨HG.out.os, HG.out.tape, HG.out.output, HG.out.size, HG.out.block⟩).trans HG3.out)
        case measure => simp [intOf]; omega
    · obtain rfl : k = s.size := by omega
      go_wp2_with fail
      go_end0
      refine ⟨rfl, ?_, HG.out⟩
      have := HM.out
      rw [List.take_of_length_le (by exact Nat.le_refl _)] at this
      exact this
end Go.Proofs.YtoejjboanggenaaGreatDoor

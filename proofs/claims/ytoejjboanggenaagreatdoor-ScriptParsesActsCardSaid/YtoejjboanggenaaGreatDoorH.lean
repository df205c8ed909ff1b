/-
The package-level variables; the contract of number.
-/
import Derived.Test.YtoejjboanggenaaGreatDoorF
import Derived.Lib.LaidTab
import Derived.Lib.AppendIntMem
import Derived.Lib.AtoiErrMem
namespace Go.Proofs.YtoejjboanggenaaGreatDoor
open Go.RowKit
set_option linter.unusedVariables false
set_option linter.unusedSimpArgs false

/-- the keywords' and symbols' texts, as the lexer's tables hold them. -/
def syL : List ByteArray := [⟨#[33, 61]⟩, ⟨#[37]⟩, ⟨#[40]⟩, ⟨#[41]⟩, ⟨#[42]⟩, ⟨#[43]⟩, ⟨#[44]⟩, ⟨#[45]⟩, ⟨#[46]⟩, ⟨#[47]⟩, ⟨#[59]⟩, ⟨#[60]⟩, ⟨#[60, 61]⟩, ⟨#[61]⟩, ⟨#[61, 61]⟩, ⟨#[62]⟩, ⟨#[62, 61]⟩, ⟨#[123]⟩, ⟨#[125]⟩]
/-- what the package-level variables hold; all of it lies below B. -/
structure GlB (w : World) (B : Nat) : Prop where
  mx : ∃ m, w.cell? ⟨0, 0, none⟩ = some (.int .i64 m)
  tab : Lib.TabIs Tryz.prog w "internal/strconv.uint64pow10" .u64 Lib.pow10Tab
  syn : ∃ tp p, w.var? Tryz.prog "strconv.ErrSyntax" = some #[.iface tp p]
  rng : ∃ tp p, w.var? Tryz.prog "strconv.ErrRange" = some #[.iface tp p]
  kw : ∃ A c, w.cell? ⟨7, 0, none⟩ = some (.slice A 24 c) ∧ Strs w B A 24 kwL
  sy : ∃ A c, w.cell? ⟨6, 0, none⟩ = some (.slice A 19 c) ∧ Strs w B A 19 syL
  big : 10 ≤ B
  le : B ≤ w.heap.size
theorem globals10 : Tryz.prog.globals.size = 10 := by kernel_rfl
theorem var_below {w w' : World} {B : Nat} {nm : String} {cs : Array Value} (h : w.var? Tryz.prog nm = some cs) (hb : Below B w w') (hB : 10 ≤ B) : w'.var? Tryz.prog nm = some cs := by
  unfold World.var? at *
  cases hg : Tryz.prog.globalNamed nm with
  | none => rw [hg] at h; cases h
  | some g =>
    rw [hg] at h
    simp only [Option.bind_some] at h ⊢
    have hlt : g < 10 := by
      unfold Program.globalNamed at hg
      split at hg
      · rename_i g' hf
        simp only [Option.some.injEq] at hg
        subst hg
        have : g' ∈ (List.range Tryz.prog.globals.size).filter fun g => (Tryz.prog.globals[g]?).any (·.name == nm) := by rw [hf]; simp
        have h2 := List.mem_range.1 (List.mem_filter.1 this).1
        rwa [globals10] at h2
      · cases hg
    rw [hb.block g (by omega)]
    exact h
theorem GlB.below {w w' : World} {B : Nat} (h : GlB w B) (hb : Below B w w') : GlB w' B := by
  obtain ⟨A, c, k1, k2⟩ := h.kw
  obtain ⟨A2, c2, s1, s2⟩ := h.sy
  obtain ⟨t1, p1, e1⟩ := h.syn
  obtain ⟨t2, p2, e2⟩ := h.rng
  obtain ⟨m, hm⟩ := h.mx
  have h10 := h.big
  exact ⟨⟨m, (cells_below hb (by omega) 0).trans hm⟩, var_below h.tab hb h10, ⟨t1, p1, var_below e1 hb h10⟩, ⟨t2, p2, var_below e2 hb h10⟩,
    ⟨A, c, (cells_below hb (by omega) 0).trans k1, k2.below hb⟩, ⟨A2, c2, (cells_below hb (by omega) 0).trans s1, s2.below hb⟩, h10, Nat.le_trans h.le hb.size⟩
theorem GlB.more {w : World} {B B' : Nat} (h : GlB w B) (hB : B ≤ B') (hw : B' ≤ w.heap.size) : GlB w B' := by
  obtain ⟨A, c, k1, k2⟩ := h.kw
  obtain ⟨A2, c2, s1, s2⟩ := h.sy
  exact ⟨h.mx, h.tab, h.syn, h.rng, ⟨A, c, k1, k2.more hB⟩, ⟨A2, c2, s1, s2.more hB⟩, Nat.le_trans h.big hB, hw⟩
def Gl (w : World) : Prop := GlB w w.heap.size
theorem GlB.gl {w : World} {B : Nat} (h : GlB w B) : Gl w := h.more h.le (Nat.le_refl _)
theorem Gl.below {w w' : World} (h : Gl w) (hb : Below w.heap.size w w') : Gl w' := (GlB.below h hb).gl

theorem itoa10 (n : Int) (w : World) (hn : I64 n) (hg : Gl w) : Calls Tryz.prog 57 #[.int .i64 n] w fun e w' => e = .returned (.string (istr n)) ∧ Below w.heap.size w w' :=
  (Tryz.strconv_Itoa n hn.1 hn.2 w (GlB.tab hg)).mono fun e w' ⟨h1, k, os, h2⟩ => ⟨h1, by rw [h2]; exact Lib.below_grow _ w (Nat.le_refl _) k os⟩
theorem format10 (n : Int) (w : World) (hn : I64 n) (hg : Gl w) : Calls Tryz.prog 73 #[.int .i64 n, .int .i64 10] w fun e w' => e = .returned (.string (istr n)) ∧ Below w.heap.size w w' :=
  (Tryz.strconv_FormatInt_10 n hn.1 hn.2 w (GlB.tab hg)).mono fun e w' ⟨h1, k, os, h2⟩ => ⟨h1, by rw [h2]; exact Lib.below_grow _ w (Nat.le_refl _) k os⟩

/-- what number answers: the value, and whether the text is its numeral. -/
def numV (s : ByteArray) : Int := match Lib.parseIntB 64 s.data.toList with | .ok v => v | .range => Lib.intSat 64 s.data.toList | _ => 0
def numOk (s : ByteArray) : Bool := match Lib.parseIntB 64 s.data.toList with | .ok v => (istr v).toList == s.toList | _ => false
theorem parse84_ok (s : ByteArray) (v : Int) (w : World) (hs : s.size ≤ 1000000) (h : Lib.parseIntB 64 s.data.toList = .ok v) :
    Calls Tryz.prog 84 #[.string s, .int .i64 10, .int .i64 64] w fun e w' => e = .returned (.tuple #[.int .i64 v, .nilIface]) ∧ Below w.heap.size w w' :=
  (Tryz.strconv_ParseInt_10_at64_ok s (by omega) v h w).mono fun e w' ⟨h1, h2⟩ => ⟨h1, by
    rcases h2 with rfl | ⟨t, rfl⟩
    · exact Below.refl _ _
    · exact Lib.bytesWorld_below w 5 t⟩
theorem parse84_no (s : ByteArray) (w : World) (hg : Gl w) (hs : s.size ≤ 1000000) (h : ∀ v, Lib.parseIntB 64 s.data.toList ≠ .ok v) :
    Calls Tryz.prog 84 #[.string s, .int .i64 10, .int .i64 64] w fun e w' => ∃ N, e = .returned (.tuple #[.int .i64 (numV s), .iface 139 (.pointer (some ⟨N, 0, none⟩))]) ∧ Below w.heap.size w w' := by
  unfold numV
  rcases hp : Lib.parseIntB 64 s.data.toList with v | _ | _
  · exact absurd hp (h v)
  · obtain ⟨tp, p, e1⟩ := GlB.syn hg
    exact (Tryz.strconv_ParseInt_10_at64_syntax_var s (by omega) (hp.trans rfl) tp p w e1).mono fun e w' ⟨N, h1, _, _, h2⟩ => ⟨N, h1, h2⟩
  · obtain ⟨tp, p, e1⟩ := GlB.rng hg
    exact (Tryz.strconv_ParseInt_10_at64_range_var s (by omega) hp tp p w e1).mono fun e w' ⟨N, h1, _, _, h2⟩ => ⟨N, h1, h2⟩
set_option maxHeartbeats 1000000 in
theorem number55 (s : ByteArray) (w : World) (hg : Gl w) (hs : s.size ≤ 1000000) (hI : ∀ v, Lib.parseIntB 64 s.data.toList = .ok v → I64 v) :
    Calls Tryz.prog 55 #[.string s] w fun e w' => e = .returned (.tuple #[.int .i64 (numV s), .bool (numOk s)]) ∧ Below w.heap.size w w' := by
  by_cases h : ∃ v, Lib.parseIntB 64 s.data.toList = .ok v
  · obtain ⟨v, hv⟩ := h
    have hnv : numV s = v := by unfold numV; rw [hv]
    have hno : numOk s = ((istr v).toList == s.toList) := by unfold numOk; rw [hv]
    rw [hnv, hno]
    have HC := Lib.hid (parse84_ok s v w hs hv)
    have HI := Lib.hid (hI v hv)
    have HG := Lib.hid hg
    clear hnv hno hv hI hg
    go_enter Tryz.func55, Tryz.ntmps55
    go_wp2_with fail
    refine HC.out.mono ?_
    rintro e w1 ⟨rfl, b1⟩
    go_wp2_with fail
    refine (format10 _ _ HI.out (HG.out.below b1)).mono ?_
    rintro e w2 ⟨rfl, b2⟩
    go_wp2_with fail
    go_ret2
    exact ⟨rfl, b1.trans (b2.mono b1.size)⟩
  · have hno : numOk s = false := by
      unfold numOk
      split
      · rename_i v hv; exact absurd ⟨v, hv⟩ h
      · rfl
    rw [hno]
    have HC := Lib.hid (parse84_no s w hg hs fun v hv => h ⟨v, hv⟩)
    clear hno hI h hg
    go_enter Tryz.func55, Tryz.ntmps55
    go_wp2_with fail
    refine HC.out.mono ?_
    rintro e w1 ⟨N, rfl, b1⟩
    go_wp2_with fail
    go_ret2
    exact ⟨rfl, b1⟩
end Go.Proofs.YtoejjboanggenaaGreatDoor

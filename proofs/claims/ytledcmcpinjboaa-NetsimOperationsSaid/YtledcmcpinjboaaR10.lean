/-
step of the law: the network and the specification agree.
-/
import Derived.Test.YtledcmcpinjboaaR9
namespace Go.Proofs.Ytledcmcpinjboaa
open Go.RowKit
set_option linter.unusedVariables false
set_option linter.unusedSimpArgs false

theorem step18 (B N : Nat) (v : Value) (ps : List Pk) (A : Option Addr) (m c : Nat) (s : AR) (o : Op5) (d : List Int) (w : World) (h : Bo w B N v ps A m c s) (hd : Byts w (Away w N v) o.A o.n d) (hon : o.n ≤ 60) (hl0 : 0 ≤ s.last) (hl1 : s.last ≤ 100) (hp : s.pend.length ≤ 100) :
    Calls Try.prog 18 #[.pointer (some ⟨N, 0, none⟩), .agg #[.slice A m c, .int .i64 s.last], .agg #[.int .u8 o.kind, .int .i64 o.frm, .int .i64 o.dst, .slice o.A o.n o.c, .int .i64 o.i]] w (Post18 w B N (aStep s (o, d))) := by
  rcases kind_cases o.kind with k0 | ⟨k0, k1⟩ | ⟨k0, k1, k2⟩ | ⟨k0, k1, k2, k3⟩ | ⟨k0, k1, k2, k3, k4⟩ | ⟨k0, k1, k2, k3, k4, k5⟩ | ⟨k0, k1, k2, k3, k4, k5, k6⟩ | ⟨k0, k1, k2, k3, k4, k5, k6⟩
  · rw [show aStep s (o, d) = addQ s o.frm o.dst d from by simp [aStep, kindSend, k0]]
    exact step_send0 B N v ps A m c s o d w h hd hon hl0 hl1 hp k0
  · rw [show aStep s (o, d) = addQ s o.frm o.dst d from by simp [aStep, kindSend, k1]]
    exact step_send1 B N v ps A m c s o d w h hd hon hl0 hl1 hp k0 k1
  · rw [show aStep s (o, d) = addQ s o.frm o.dst d from by simp [aStep, kindSend, k2]]
    exact step_send2 B N v ps A m c s o d w h hd hon hl0 hl1 hp k0 k1 k2
  · cases hq : s.pend[pos o.i s.pend.length]? with
    | none =>
      have hE : s.pend = [] := by
        rcases Nat.eq_zero_or_pos s.pend.length with h0 | h0
        · exact List.eq_nil_of_length_eq_zero h0
        · have := pos_lt o.i h0; rw [List.getElem?_eq_none_iff] at hq; omega
      rw [show aStep s (o, d) = s from by simp [aStep, kindSend, k0, k1, k2, k3, hE]]
      exact step_deliver0 B N v ps A m c s o d w h hd hon hl0 hl1 hp hE k0 k1 k2 k3
    | some q =>
      rw [show aStep s (o, d) = { s with pend := s.pend.eraseIdx (pos o.i s.pend.length), got := s.got ++ [q] } from by simp [aStep, kindSend, k0, k1, k2, k3, hq]]
      exact step_deliver B N v ps A m c s o d w h hd hon hl0 hl1 hp q hq k0 k1 k2 k3
  · rcases Nat.eq_zero_or_pos s.pend.length with h0 | h0
    · have hE := List.eq_nil_of_length_eq_zero h0
      rw [show aStep s (o, d) = s from by
        obtain ⟨l, pe, se, go⟩ := s
        simp only at hE
        subst hE
        simp [aStep, kindSend, k0, k1, k2, k3, k4]]
      exact step_drop0 B N v ps A m c s o d w h hd hon hl0 hl1 hp hE k0 k1 k2 k3 k4
    · rw [show aStep s (o, d) = { s with pend := s.pend.eraseIdx (pos o.i s.pend.length) } from by simp [aStep, kindSend, k0, k1, k2, k3, k4]]
      exact step_drop B N v ps A m c s o d w h hd hon hl0 hl1 hp h0 k0 k1 k2 k3 k4
  · cases hq : s.pend[pos o.i s.pend.length]? with
    | none =>
      have hE : s.pend = [] := by
        rcases Nat.eq_zero_or_pos s.pend.length with h0 | h0
        · exact List.eq_nil_of_length_eq_zero h0
        · have := pos_lt o.i h0; rw [List.getElem?_eq_none_iff] at hq; omega
      rw [show aStep s (o, d) = s from by simp [aStep, kindSend, k0, k1, k2, k3, k4, k5, hE]]
      exact step_double0 B N v ps A m c s o d w h hd hon hl0 hl1 hp hE k0 k1 k2 k3 k4 k5
    | some q =>
      rw [show aStep s (o, d) = addQ s q.frm q.dst q.data from by simp [aStep, kindSend, k0, k1, k2, k3, k4, k5, hq]]
      exact step_double B N v ps A m c s o d w h hd hon hl0 hl1 hp q hq k0 k1 k2 k3 k4 k5
  · rw [show aStep s (o, d) = { s with pend := s.pend.filter (fun q => !(q.dst == o.dst)) } from by simp [aStep, kindSend, k0, k1, k2, k3, k4, k5, k6]]
    exact step_purge B N v ps A m c s o d w h hd hon hl0 hl1 hp k0 k1 k2 k3 k4 k5 k6
  · rw [show aStep s (o, d) = s from by simp [aStep, kindSend, k0, k1, k2, k3, k4, k5, k6]]
    exact step_none B N v ps A m c s o d w h hd hon hl0 hl1 hp k0 k1 k2 k3 k4 k5 k6
end Go.Proofs.Ytledcmcpinjboaa

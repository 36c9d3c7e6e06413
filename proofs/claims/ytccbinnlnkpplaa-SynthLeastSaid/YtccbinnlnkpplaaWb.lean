/- Exact amplitudes of any size: how they lie in memory. -/
import Derived.Test.YtccbinnlnkpplaaBg7
namespace Go.Proofs.Ytccbinnlnkpplaa
set_option linter.all false
open Go.RowKit

/-- Four numbers of any size; s0 .. s3: their digits. -/
abbrev arC (z : Nm) (s0 s1 s2 s3 : Value) : List Value := [.bool (decide (z.a < 0)), s0, .bool (decide (z.b < 0)), s1, .bool (decide (z.c < 0)), s2, .bool (decide (z.d < 0)), s3]
abbrev arV (z : Nm) (s0 s1 s2 s3 : Value) : Value := .agg #[.bool (decide (z.a < 0)), s0, .bool (decide (z.b < 0)), s1, .bool (decide (z.c < 0)), s2, .bool (decide (z.d < 0)), s3]
abbrev wdV (z : Nm) (s0 s1 s2 s3 : Value) : Value := .agg #[.bool (decide (z.a < 0)), s0, .bool (decide (z.b < 0)), s1, .bool (decide (z.c < 0)), s2, .bool (decide (z.d < 0)), s3, .int .i64 z.k]
structure SA4 (w : World) (z : Nm) (s0 s1 s2 s3 : Value) : Prop where
  a : SA w s0 z.a.natAbs
  b : SA w s1 z.b.natAbs
  c : SA w s2 z.c.natAbs
  d : SA w s3 z.d.natAbs
/-- The digits are those of the world at the call's begin, or lie in the blocks u. -/
def SK (B : World) (u : List Blk) (s : Value) (n : Nat) : Prop := (∃ a c, s = .slice a (digs n).length c) ∧ ∀ w, Kn B [] u w → SA w s n
structure SK4 (B : World) (u : List Blk) (z : Nm) (s0 s1 s2 s3 : Value) : Prop where
  a : SK B u s0 z.a.natAbs
  b : SK B u s1 z.b.natAbs
  c : SK B u s2 z.c.natAbs
  d : SK B u s3 z.d.natAbs
structure SU4 (u : List Blk) (z : Nm) (s0 s1 s2 s3 : Value) : Prop where
  a : SU u s0 z.a.natAbs
  b : SU u s1 z.b.natAbs
  c : SU u s2 z.c.natAbs
  d : SU u s3 z.d.natAbs
theorem SA.form {w : World} {s : Value} {n : Nat} (h : SA w s n) : ∃ a c, s = .slice a (digs n).length c := let ⟨a, c, e, _⟩ := h; ⟨a, c, e⟩
theorem SK.arg {B : World} {s : Value} {n : Nat} (h : SA B s n) : SK B [] s n := ⟨h.form, fun w K => h.kn K⟩
theorem SK.own {B : World} {u : List Blk} {s : Value} {n : Nat} (h : SU u s n) : SK B u s n := ⟨h.1, fun w K => h.2 B [] w K⟩
theorem SK.at {B w : World} {u s : List Blk} {v : Value} {n : Nat} (h : SK B u v n) (K : Kn B [] s w) (hs : u.Sublist s) : SA w v n := h.2 w (K.sub hs)
theorem SK4.arg {B : World} {z : Nm} {s0 s1 s2 s3 : Value} (h : SA4 B z s0 s1 s2 s3) : SK4 B [] z s0 s1 s2 s3 := ⟨.arg h.a, .arg h.b, .arg h.c, .arg h.d⟩
theorem SK4.own {B : World} {u : List Blk} {z : Nm} {s0 s1 s2 s3 : Value} (h : SU4 u z s0 s1 s2 s3) : SK4 B u z s0 s1 s2 s3 := ⟨.own h.a, .own h.b, .own h.c, .own h.d⟩
theorem SK4.at {B w : World} {u s : List Blk} {z : Nm} {s0 s1 s2 s3 : Value} (h : SK4 B u z s0 s1 s2 s3) (K : Kn B [] s w) (hs : u.Sublist s) : SA4 w z s0 s1 s2 s3 := ⟨h.a.at K hs, h.b.at K hs, h.c.at K hs, h.d.at K hs⟩
theorem SU4.mono {u v : List Blk} {z : Nm} {s0 s1 s2 s3 : Value} (h : SU4 u z s0 s1 s2 s3) (hs : u.Sublist v) : SU4 v z s0 s1 s2 s3 := ⟨h.a.mono hs, h.b.mono hs, h.c.mono hs, h.d.mono hs⟩
theorem SU4.at {u s : List Blk} {z : Nm} {s0 s1 s2 s3 : Value} {B w : World} {F : List Nat} (h : SU4 u z s0 s1 s2 s3) (K : Kn B F s w) (hs : u.Sublist s) : SA4 w z s0 s1 s2 s3 := ⟨h.a.at K hs, h.b.at K hs, h.c.at K hs, h.d.at K hs⟩
theorem SA4.kn {B w : World} {s : List Blk} {z : Nm} {s0 s1 s2 s3 : Value} (h : SA4 B z s0 s1 s2 s3) (K : Kn B [] s w) : SA4 w z s0 s1 s2 s3 := ⟨h.a.kn K, h.b.kn K, h.c.kn K, h.d.kn K⟩
/-- A call that hands back four numbers, an amplitude. -/
def RetA (w : World) (z : Nm) (e : Ending) (w' : World) : Prop := ∃ v u, e = .returned v ∧ (∃ s0 s1 s2 s3, v = arV z s0 s1 s2 s3 ∧ SU4 u z s0 s1 s2 s3) ∧ Made w u w'
def RetW (w : World) (z : Nm) (e : Ending) (w' : World) : Prop := ∃ v u, e = .returned v ∧ (∃ s0 s1 s2 s3, v = wdV z s0 s1 s2 s3 ∧ SU4 u z s0 s1 s2 s3) ∧ Made w u w'
theorem len_big {n : Int} (h0 : -39402006196394479212279040100143613805079739270465446667948293404245721771497210611414266254884915640806627990306816 < n) (h1 : n < 39402006196394479212279040100143613805079739270465446667948293404245721771497210611414266254884915640806627990306816) : (digs n.natAbs).length ≤ 1000 := by
  have : (digs n.natAbs).length ≤ 12 := digs_len_le (L := 12) (by
    show _ < (39402006196394479212279040100143613805079739270465446667948293404245721771497210611414266254884915640806627990306816 : Int)
    omega)
  omega
theorem fit_big {z : Nm} (h : z.Fit 9850501549098619803069760025035903451269934817616361666987073351061430442874302652853566563721228910201656997576704) : (digs z.a.natAbs).length ≤ 1000 ∧ (digs z.b.natAbs).length ≤ 1000 ∧ (digs z.c.natAbs).length ≤ 1000 ∧ (digs z.d.natAbs).length ≤ 1000 := by
  obtain ⟨h1, h2, h3, h4, h5, h6, h7, h8⟩ := h
  exact ⟨len_big (by omega) (by omega), len_big (by omega) (by omega), len_big (by omega) (by omega), len_big (by omega) (by omega)⟩
end Go.Proofs.Ytccbinnlnkpplaa

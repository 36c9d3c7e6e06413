/- Texts in one: Bg2, Bg3, Bgm, Bg4, Bg5, Bg6, Bg7, Wb, Wb1, Wb2, Wt, Wb3. -/
import Derived.Test.YthjjkajjpejcdaaGreatLPhC
namespace Go.Proofs.YthjjkajjpejcdaaGreat
set_option linter.all false
set_option maxRecDepth 100000
set_option maxHeartbeats 1000000
open Go.RowKit
theorem bplus_any (xs ys : List Int) (a a2 : Option Addr) (c c2 : Nat) (hd : Dg xs) (hd2 : Dg ys) (hl : xs.length ≤ 100000) (hl2 : ys.length ≤ 100000) (w : World) (hA : AS w a (us xs)) (hA2 : AS w a2 (us ys)) : Calls Tryz.prog 90 #[.slice a xs.length c, .slice a2 ys.length c2] w fun e w' => RetD w (dval xs + dval ys).toNat e w' := by
 go_enter Tryz.func90, Tryz.ntmps90
 refine wk_start ?_
 refine wk_seq ?_
 refine Wx [0] ?_
 refine Zr ?_
 refine Wx [0] ?_
 refine Zr ?_
 refine Wx [0] ?_
 refine Zr ?_
 refine Wx [0] ?_
 refine Zr ?_
 refine wk_loopF [5, 6, 7, 8, 9, 10, 11, 12, 13, 14, 15, 16, 17, 18, 19, 20, 21, 22, 23, 24, 25, 26, 27, 28, 29, 30, 31, 32, 33, 34, 35, 36, 37, 38, 39, 40, 41, 42, 43, 44, 45, 46, 47, 48, 49, 50, 51, 52] (fun mz f s => ∃ (i : Nat) (cy : Int) (v : Value) (u : List Blk) (zs : List Int), f 5 = v ∧ f 6 = .int .u64 cy ∧ f 7 = .int .i64 i ∧ s = (u ++ []) ∧ mz = 1000000 - i ∧ OwnG DgE 141 u v zs ∧ Dg zs ∧ zs.length ≤ i ∧ i ≤ zs.length ∧ 0 ≤ cy ∧ cy ≤ 1 ∧ dval zs + 4294967296 ^ i * cy = dval (xs.take i) + dval (ys.take i) ∧ (i ≤ 100000 ∨ i ≤ 100001 ∧ cy = 0)) ((fun (i : Nat) (cy : Int) (v : Value) (u : List Blk) (zs : List Int) => 1000000 - i) (0) (0) (.slice none 0 0) ([]) ([])) ?_ Kx ?_
 ·exact ⟨0, 0, .slice none 0 0, [], [], rfl, rfl, rfl, rfl, rfl, OwnG.nil, Dg.nil, by simp, by simp, by omega, by omega, by simp [dval], by omega⟩
 rintro mz f1 s ⟨i, cy, v, u, zs, hs1_5, hs1_6, hs1_7, rfl, hn, hc1, hc2, hc3, hc4, hc5, hc6, hc7, hc8⟩
 simp only [Act.putF, List.foldl_cons, List.foldl_nil, hs1_5, hs1_6, hs1_7, Act.put, Act.eval, qW, Nat.reduceAdd, Bool.not_true, Bool.not_false]
 clear hs1_5 hs1_6 hs1_7
 have hO := hc1
 have hdz := hc2
 have heq := Lib.hid hc7
 clear hc2 hc7
 refine wk_seq (wk_seq ?_)
 refine Wx [0, 0, 0, 0, 0, 0, 0, 0, 0, 0, 0, 0, 0, 0] ?_
 refine rf_len rfl rfl rfl UU36 (Nq ?_)
 refine rfb_lss rfl rfl rfl rfl ?_
 rintro (_ | _) h1 <;> try simp only [qd, ne_eq] at h1
 ·refine Zx ?_
  apply rg_soft_g
  case hg => rfl
  case hy => (intro w hw; exact Gy)
  simp only [qz]; apply rg_soft_g
  case hg => rfl
  case hy => (intro w hw; exact Gy)
  simp only [qz]; refine rf_len rfl rfl rfl UU36 (Nq ?_); refine rfb_lss rfl rfl rfl rfl ?_
  rintro (_ | _) h2 <;> try simp only [qd, ne_eq] at h2
  ·refine Zx ?_
   apply rg_soft_g
   case hg => rfl
   case hy => (intro w hw; exact Gy)
   simp only [qz]; refine rfb_gtr rfl rfl rfl rfl ?_
   rintro (_ | _) h3 <;> try simp only [qd, ne_eq] at h3
   ·refine Zx ?_
    refine Zr ?_; refine Wx [0, 1, 0] ?_
    obtain ⟨a0, c0, rfl, hcap⟩ := hO.val
    apply (rg_or (X := fun v => ∃ m, m ≤ zs.length ∧ v = .slice a0 m c0 ∧ (∀ j, m ≤ j → dig zs j = 0) ∧ (m = 0 ∨ dig zs (m - 1) ≠ 0))) Rx Kx
    case hargs => exact Ax
    case h => exact fun w hw => (trimmed_any zs a0 c0 hdz hcap Ox w (hO.as' hw)).mono fun e w' ⟨m, h1, h2, h3, h4, h5⟩ => ⟨_, h2, ⟨m, h1, rfl, h3, h4⟩, h5⟩
    case hz => exact Nz
    rintro v ⟨m, hm1, rfl, hm2, hm3⟩
    refine Zx ?_; refine Zr ?_
    refine Er fun w hw => ?_
    (try simp only [qz])
    have e1 : dval zs = dval xs + dval ys := by
     have h1 := heq.out
     rw [List.take_of_length_le Ox, List.take_of_length_le Ox, show cy = 0 by omega] at h1
     omega
    exact ⟨_, u, rfl, e1 ▸ SU.own hO m hm1 (trim_eq hdz hm1 hm2 hm3) rfl, hw.made (by simp)⟩
   refine Zx ?_; refine Zr ?_; refine Wx [0, 0, 0, 0] ?_; refine rf_len rfl rfl rfl UU36 (Nq ?_); refine rfb_lss rfl rfl rfl rfl ?_
   rintro (_ | _) h4 <;> try simp only [qd, ne_eq] at h4
   ·simp only [qz]
    have dx := hd.at i
    have dy := hd2.at i
    have zx := dig_out (xs := xs) (k := i) Ox
    refine Zr ?_; refine Wx [0, 0, 0, 0] ?_; refine rf_len rfl rfl rfl UU36 (Nq ?_); refine rfb_lss rfl rfl rfl rfl ?_
    rintro (_ | _) h5 <;> try simp only [qd, ne_eq] at h5
    ·simp only [qz]
     have zy := dig_out (xs := ys) (k := i) Ox
     refine Zr ?_; refine Wx [0, 0, 0, 1, 1, 0] ?_; refine rf_conv rfl rfl rfl UU140 UU141 (IntKind.wrap_u32 _) (Nq ?_)
     refine rg_newS (cs := ?_) (ty := ?_) (n := 1) (c := 1) Rx (fun w => ?_) Nz (fun g1 => ?_); rotate_left 2
     focus (go_simp; rfl)
     simp only [qz]; refine rg_pushU rfl rfl hc1 rfl Ox Nz (fun u2 v2 hO2 => ?_); refine Zx ?_; refine rg_nil (ek_next ?_); refine Wx [0, 0, 0] ?_; refine rf_shr (c := 32) (q := 4294967296) rfl rfl rfl rfl rfl (by decide) (Zx ?_); refine Zr ?_; refine Wx [0, 0, 0] ?_; refine rf_add rfl rfl rfl rfl (wrap_ok Ox Ox) (Zx ?_); refine rg_nil ?_
     have hdz' := hdz.snoc (y := (cy) % 4294967296) Ox Ox
     have hst := plus_step (t := cy) Ox heq.out Ox
     refine ek_roundF (1000000 - (i + 1)) Ox Kx ?_
     exact ⟨i + 1, (cy) / 4294967296, v2, u2, zs ++ [(cy) % 4294967296], rfl, rfl, rfl, by rfl, by rfl, hO2, hdz', (by simp; omega), (by simp; omega), Ox, Ox, hst, Ox⟩
    simp only [qz]
    exfalso; omega
   simp only [qz]
   exfalso; omega
  refine Zx ?_; refine Zr ?_; refine Wx [0, 0, 0, 0] ?_; refine rf_len rfl rfl rfl UU36 (Nq ?_); refine rfb_lss rfl rfl rfl rfl ?_
  rintro (_ | _) h6 <;> try simp only [qd, ne_eq] at h6
  ·simp only [qz]
   have dx := hd.at i
   have dy := hd2.at i
   have zx := dig_out (xs := xs) (k := i) Ox
   refine Zr ?_; refine Wx [0, 0, 0, 0] ?_; refine rf_len rfl rfl rfl UU36 (Nq ?_); refine rfb_lss rfl rfl rfl rfl ?_
   rintro (_ | _) h7 <;> try simp only [qd, ne_eq] at h7
   ·simp only [qz]
    exfalso; omega
   simp only [qz]
   obtain ⟨b2, off2, rfl, hlt2, hcell2⟩ := AS.openU hA2 Ox
   refine Zr ?_; refine Wx [0, 0, 0, 0, 0, 0, 0, 0] ?_; refine rf_indexS (n := i) (sz := 1) (j := off2 + i * 1) rfl rfl rfl rfl UU36 Kx Ox Ox rfl (Nq ?_); refine rf_load rfl rfl rfl UU141 rfl (fun w hw => (by have := (Kn.cellB hw hlt2 (by simp) (off2 + i)).trans (hcell2 i Ox); simpa using this)) (Nq ?_); refine rf_conv rfl rfl rfl UU141 UU140 (wrap_okU Ox Ox) (Nq ?_)
   refine rf_add rfl rfl rfl rfl (wrap_okU Ox Ox) (Zx ?_); refine Zr ?_; refine Wx [0, 0, 0, 1, 1, 0] ?_; refine rf_conv rfl rfl rfl UU140 UU141 (IntKind.wrap_u32 _) (Nq ?_)
   refine rg_newS (cs := ?_) (ty := ?_) (n := 1) (c := 1) Rx (fun w => ?_) Nz (fun g3 => ?_); rotate_left 2
   focus (go_simp; rfl)
   simp only [qz]; refine rg_pushU rfl rfl hc1 rfl Ox Nz (fun u4 v4 hO4 => ?_); refine Zx ?_; refine rg_nil (ek_next ?_); refine Wx [0, 0, 0] ?_; refine rf_shr (c := 32) (q := 4294967296) rfl rfl rfl rfl rfl (by decide) (Zx ?_); refine Zr ?_; refine Wx [0, 0, 0] ?_; refine rf_add rfl rfl rfl rfl (wrap_ok Ox Ox) (Zx ?_); refine rg_nil ?_
   have hdz' := hdz.snoc (y := (cy + dig ys i) % 4294967296) Ox Ox
   have hst := plus_step (t := cy + dig ys i) Ox heq.out Ox
   refine ek_roundF (1000000 - (i + 1)) Ox Kx ?_
   exact ⟨i + 1, (cy + dig ys i) / 4294967296, v4, u4, zs ++ [(cy + dig ys i) % 4294967296], rfl, rfl, rfl, by rfl, by rfl, hO4, hdz', (by simp; omega), (by simp; omega), Ox, Ox, hst, Ox⟩
  simp only [qz]
  exfalso; omega
 refine Zx ?_
 refine Zr ?_
 refine Wx [0, 0, 0, 0] ?_
 refine rf_len rfl rfl rfl UU36 (Nq ?_)
 refine rfb_lss rfl rfl rfl rfl ?_
 rintro (_ | _) h8 <;> try simp only [qd, ne_eq] at h8
 ·simp only [qz]
  exfalso; omega
 simp only [qz]
 have dx := hd.at i
 have dy := hd2.at i
 obtain ⟨b, off, rfl, hlt, hcell⟩ := AS.openU hA Ox
 refine Zr ?_
 refine Wx [0, 0, 0, 0, 0, 0, 0, 0] ?_
 refine rf_indexS (n := i) (sz := 1) (j := off + i * 1) rfl rfl rfl rfl UU36 Kx Ox Ox rfl (Nq ?_)
 refine rf_load rfl rfl rfl UU141 rfl (fun w hw => (by have := (Kn.cellB hw hlt (by simp) (off + i)).trans (hcell i Ox); simpa using this)) (Nq ?_)
 refine rf_conv rfl rfl rfl UU141 UU140 (wrap_okU Ox Ox) (Nq ?_)
 refine rf_add rfl rfl rfl rfl (wrap_okU Ox Ox) (Zx ?_)
 refine Zr ?_
 refine Wx [0, 0, 0, 0] ?_
 refine rf_len rfl rfl rfl UU36 (Nq ?_)
 refine rfb_lss rfl rfl rfl rfl ?_
 rintro (_ | _) h9 <;> try simp only [qd, ne_eq] at h9
 ·simp only [qz]
  have zy := dig_out (xs := ys) (k := i) Ox
  refine Zr ?_; refine Wx [0, 0, 0, 1, 1, 0] ?_; refine rf_conv rfl rfl rfl UU140 UU141 (IntKind.wrap_u32 _) (Nq ?_)
  refine rg_newS (cs := ?_) (ty := ?_) (n := 1) (c := 1) Rx (fun w => ?_) Nz (fun g5 => ?_); rotate_left 2
  focus (go_simp; rfl)
  simp only [qz]; refine rg_pushU rfl rfl hc1 rfl Ox Nz (fun u6 v6 hO6 => ?_); refine Zx ?_; refine rg_nil (ek_next ?_); refine Wx [0, 0, 0] ?_; refine rf_shr (c := 32) (q := 4294967296) rfl rfl rfl rfl rfl (by decide) (Zx ?_); refine Zr ?_; refine Wx [0, 0, 0] ?_; refine rf_add rfl rfl rfl rfl (wrap_ok Ox Ox) (Zx ?_); refine rg_nil ?_
  have hdz' := hdz.snoc (y := (cy + dig xs i) % 4294967296) Ox Ox
  have hst := plus_step (t := cy + dig xs i) Ox heq.out Ox
  refine ek_roundF (1000000 - (i + 1)) Ox Kx ?_
  exact ⟨i + 1, (cy + dig xs i) / 4294967296, v6, u6, zs ++ [(cy + dig xs i) % 4294967296], rfl, rfl, rfl, by rfl, by rfl, hO6, hdz', (by simp; omega), (by simp; omega), Ox, Ox, hst, Ox⟩
 simp only [qz]
 obtain ⟨b2, off2, rfl, hlt2, hcell2⟩ := AS.openU hA2 Ox
 refine Zr ?_
 refine Wx [0, 0, 0, 0, 0, 0, 0, 0] ?_
 refine rf_indexS (n := i) (sz := 1) (j := off2 + i * 1) rfl rfl rfl rfl UU36 Kx Ox Ox rfl (Nq ?_)
 refine rf_load rfl rfl rfl UU141 rfl (fun w hw => (by have := (Kn.cellB hw hlt2 (by simp) (off2 + i)).trans (hcell2 i Ox); simpa using this)) (Nq ?_)
 refine rf_conv rfl rfl rfl UU141 UU140 (wrap_okU Ox Ox) (Nq ?_)
 refine rf_add rfl rfl rfl rfl (wrap_okU Ox Ox) (Zx ?_)
 refine Zr ?_
 refine Wx [0, 0, 0, 1, 1, 0] ?_
 refine rf_conv rfl rfl rfl UU140 UU141 (IntKind.wrap_u32 _) (Nq ?_)
 refine rg_newS (cs := ?_) (ty := ?_) (n := 1) (c := 1) Rx (fun w => ?_) Nz (fun g7 => ?_); rotate_left 2
 focus (go_simp; rfl)
 simp only [qz]
 refine rg_pushU rfl rfl hc1 rfl Ox Nz (fun u8 v8 hO8 => ?_)
 refine Zx ?_
 refine rg_nil (ek_next ?_)
 refine Wx [0, 0, 0] ?_
 refine rf_shr (c := 32) (q := 4294967296) rfl rfl rfl rfl rfl (by decide) (Zx ?_)
 refine Zr ?_
 refine Wx [0, 0, 0] ?_
 refine rf_add rfl rfl rfl rfl (wrap_ok Ox Ox) (Zx ?_)
 refine rg_nil ?_
 have hdz' := hdz.snoc (y := (cy + dig xs i + dig ys i) % 4294967296) Ox Ox
 have hst := plus_step (t := cy + dig xs i + dig ys i) Ox heq.out Ox
 refine ek_roundF (1000000 - (i + 1)) Ox Kx ?_
 exact ⟨i + 1, (cy + dig xs i + dig ys i) / 4294967296, v8, u8, zs ++ [(cy + dig xs i + dig ys i) % 4294967296], rfl, rfl, rfl, by rfl, by rfl, hO8, hdz', (by simp; omega), (by simp; omega), Ox, Ox, hst, Ox⟩
theorem minus_end {x y bo : Int} {i : Nat} {zs : List Int} (h : dval zs = x - y + 4294967296 ^ i * bo) (hd : Dg zs) (hl : zs.length = i) (hge : y ≤ x) (h0 : 0 ≤ bo) (h1 : bo ≤ 1) : dval zs = x - y := by
 have := (dval_range hd).2
 rw [hl] at this
 rcases (by omega : bo = 0 ∨ bo = 1) with rfl | rfl
 ·omega
 omega
theorem wrap32_ok {n : Int} (h0 : 0 ≤ n) (h1 : n < 4294967296) : IntKind.u32.wrap n = n := by rw [IntKind.wrap_u32]; omega
theorem bminus_any (xs ys : List Int) (a a2 : Option Addr) (c c2 : Nat) (hd : Dg xs) (hd2 : Dg ys) (hl : xs.length ≤ 100000) (hl2 : ys.length ≤ 100000) (hge : dval ys ≤ dval xs) (hlen : ys.length ≤ xs.length) (w : World) (hA : AS w a (us xs)) (hA2 : AS w a2 (us ys)) : Calls Tryz.prog 92 #[.slice a xs.length c, .slice a2 ys.length c2] w fun e w' => RetD w (dval xs - dval ys).toNat e w' := by
 go_enter Tryz.func92, Tryz.ntmps92
 refine wk_start ?_
 refine wk_seq ?_
 refine Wx [0] ?_
 refine Zr ?_
 refine Wx [0] ?_
 refine Zr ?_
 refine Wx [0] ?_
 refine Zr ?_
 refine Wx [0] ?_
 refine Zr ?_
 refine wk_loopF [5, 6, 7, 8, 9, 10, 11, 12, 13, 14, 15, 16, 17, 18, 19, 20, 21, 22, 23, 24, 25, 26, 27, 28, 29, 30, 31, 32, 33, 34, 35, 36, 37, 38, 39, 40, 41] (fun mz f s => ∃ (i : Nat) (bo : Int) (v : Value) (u : List Blk) (zs : List Int), f 5 = v ∧ f 6 = .int .i64 bo ∧ f 7 = .int .i64 i ∧ s = (u ++ []) ∧ mz = xs.length - i ∧ OwnG DgE 141 u v zs ∧ Dg zs ∧ zs.length ≤ i ∧ i ≤ zs.length ∧ 0 ≤ bo ∧ bo ≤ 1 ∧ dval zs = dval (xs.take i) - dval (ys.take i) + 4294967296 ^ i * bo ∧ i ≤ xs.length) ((fun (i : Nat) (bo : Int) (v : Value) (u : List Blk) (zs : List Int) => xs.length - i) (0) (0) (.slice none 0 0) ([]) ([])) ?_ Kx ?_
 ·exact ⟨0, 0, .slice none 0 0, [], [], rfl, rfl, rfl, rfl, rfl, OwnG.nil, Dg.nil, by simp, by simp, by omega, by omega, by simp [dval], by omega⟩
 rintro mz f1 s ⟨i, bo, v, u, zs, hs1_5, hs1_6, hs1_7, rfl, hn, hc1, hc2, hc3, hc4, hc5, hc6, hc7, hc8⟩
 simp only [Act.putF, List.foldl_cons, List.foldl_nil, hs1_5, hs1_6, hs1_7, Act.put, Act.eval, qW, Nat.reduceAdd, Bool.not_true, Bool.not_false]
 clear hs1_5 hs1_6 hs1_7
 have hO := hc1
 have hdz := hc2
 have heq := Lib.hid hc7
 clear hc2 hc7
 refine wk_seq (wk_seq ?_)
 refine Wx [0, 0, 0, 0] ?_
 refine rf_len rfl rfl rfl UU36 (Nq ?_)
 refine rfb_lss rfl rfl rfl rfl ?_
 rintro (_ | _) h1 <;> try simp only [qd, ne_eq] at h1
 ·simp only [qz]
  refine Zr ?_; refine Wx [0, 1, 0] ?_
  obtain ⟨a0, c0, rfl, hcap⟩ := hO.val
  apply (rg_or (X := fun v => ∃ m, m ≤ zs.length ∧ v = .slice a0 m c0 ∧ (∀ j, m ≤ j → dig zs j = 0) ∧ (m = 0 ∨ dig zs (m - 1) ≠ 0))) Rx Kx
  case hargs => exact Ax
  case h => exact fun w hw => (trimmed_any zs a0 c0 hdz hcap Ox w (hO.as' hw)).mono fun e w' ⟨m, h1, h2, h3, h4, h5⟩ => ⟨_, h2, ⟨m, h1, rfl, h3, h4⟩, h5⟩
  case hz => exact Nz
  rintro v ⟨m, hm1, rfl, hm2, hm3⟩
  refine Zx ?_; refine Zr ?_
  refine Er fun w hw => ?_
  (try simp only [qz])
  have e1 : dval zs = dval xs - dval ys := by
   have h1 := heq.out
   rw [List.take_of_length_le Ox, List.take_of_length_le (show ys.length ≤ i by omega)] at h1
   exact minus_end h1 hdz Ox hge hc5 hc6
  exact ⟨_, u, rfl, e1 ▸ SU.own hO m hm1 (trim_eq hdz hm1 hm2 hm3) rfl, hw.made (by simp)⟩
 simp only [qz]
 have dx := hd.at i
 have dy := hd2.at i
 obtain ⟨b, off, rfl, hlt, hcell⟩ := AS.openU hA Ox
 refine Zr ?_
 refine Wx [0, 0, 0, 0, 0, 0, 0, 0] ?_
 refine rf_indexS (n := i) (sz := 1) (j := off + i * 1) rfl rfl rfl rfl UU36 Kx Ox Ox rfl (Nq ?_)
 refine rf_load rfl rfl rfl UU141 rfl (fun w hw => (by have := (Kn.cellB hw hlt (by simp) (off + i)).trans (hcell i Ox); simpa using this)) (Nq ?_)
 refine rf_conv rfl rfl rfl UU141 UU2 (wrap_ok Ox Ox) (Zx ?_)
 refine rf_sub rfl rfl rfl rfl (wrap_ok Ox Ox) (Zx ?_)
 refine Zr ?_
 refine Wx [0, 0, 0, 0] ?_
 refine rf_len rfl rfl rfl UU36 (Nq ?_)
 refine rfb_lss rfl rfl rfl rfl ?_
 rintro (_ | _) h2 <;> try simp only [qd, ne_eq] at h2
 ·simp only [qz]
  have zy := dig_out (xs := ys) (k := i) Ox
  refine Zr ?_; refine Wx [0] ?_; refine Zr ?_; refine Wx [0, 0] ?_; refine rfb_lss rfl rfl rfl rfl ?_
  rintro (_ | _) h3 <;> try simp only [qd, ne_eq] at h3
  ·simp only [qz]
   refine Zr ?_; refine Wx [0, 0, 0, 1, 1, 0] ?_; refine rf_conv rfl rfl rfl UU2 UU141 (wrap32_ok Ox Ox) (Nq ?_)
   refine rg_newS (cs := ?_) (ty := ?_) (n := 1) (c := 1) Rx (fun w => ?_) Nz (fun g1 => ?_); rotate_left 2
   focus (go_simp; rfl)
   simp only [qz]; refine rg_pushU rfl rfl hc1 rfl Ox Nz (fun u2 v2 hO2 => ?_); refine Zx ?_; refine Zr ?_; refine Wx [0, 0, 0] ?_; refine rf_add rfl rfl rfl rfl (wrap_ok Ox Ox) (Zx ?_); refine rg_nil ?_
   have hdz' := hdz.snoc (y := dig xs i - bo) Ox Ox
   have hst := minus_step (t := dig xs i - bo) Ox heq.out Ox 0
   rw [show dig xs i - bo + 4294967296 * 0 = dig xs i - bo by omega] at hst; refine ek_roundF (xs.length - (i + 1)) Ox Kx ?_
   exact ⟨i + 1, 0, v2, u2, zs ++ [dig xs i - bo], rfl, rfl, rfl, by rfl, by rfl, hO2, hdz', (by simp; omega), (by simp; omega), Ox, Ox, hst, Ox⟩
  simp only [qz]; refine Zr ?_; refine Wx [0, 0, 0] ?_; refine rf_add rfl rfl rfl rfl (wrap_ok Ox Ox) (Zx ?_); refine rg_nil (ek_next ?_); refine Wx [0] ?_; refine rg_nil (ek_next ?_); refine Wx [0, 0, 0, 1, 1, 0] ?_; refine rf_conv rfl rfl rfl UU2 UU141 (wrap32_ok Ox Ox) (Nq ?_)
  refine rg_newS (cs := ?_) (ty := ?_) (n := 1) (c := 1) Rx (fun w => ?_) Nz (fun g3 => ?_); rotate_left 2
  focus (go_simp; rfl)
  simp only [qz]; refine rg_pushU rfl rfl hc1 rfl Ox Nz (fun u4 v4 hO4 => ?_); refine Zx ?_; refine Zr ?_; refine Wx [0, 0, 0] ?_; refine rf_add rfl rfl rfl rfl (wrap_ok Ox Ox) (Zx ?_); refine rg_nil ?_
  have hdz' := hdz.snoc (y := dig xs i - bo + 4294967296) Ox Ox
  have hst := minus_step (t := dig xs i - bo) Ox heq.out Ox 1
  rw [show dig xs i - bo + 4294967296 * 1 = dig xs i - bo + 4294967296 by omega] at hst; refine ek_roundF (xs.length - (i + 1)) Ox Kx ?_
  exact ⟨i + 1, 1, v4, u4, zs ++ [dig xs i - bo + 4294967296], rfl, rfl, rfl, by rfl, by rfl, hO4, hdz', (by simp; omega), (by simp; omega), Ox, Ox, hst, Ox⟩
 simp only [qz]
 obtain ⟨b2, off2, rfl, hlt2, hcell2⟩ := AS.openU hA2 Ox
 refine Zr ?_
 refine Wx [0, 0, 0, 0, 0, 0, 0, 0] ?_
 refine rf_indexS (n := i) (sz := 1) (j := off2 + i * 1) rfl rfl rfl rfl UU36 Kx Ox Ox rfl (Nq ?_)
 refine rf_load rfl rfl rfl UU141 rfl (fun w hw => (by have := (Kn.cellB hw hlt2 (by simp) (off2 + i)).trans (hcell2 i Ox); simpa using this)) (Nq ?_)
 refine rf_conv rfl rfl rfl UU141 UU2 (wrap_ok Ox Ox) (Nq ?_)
 refine rf_sub rfl rfl rfl rfl (wrap_ok Ox Ox) (Zx ?_)
 refine Zr ?_
 refine Wx [0] ?_
 refine Zr ?_
 refine Wx [0, 0] ?_
 refine rfb_lss rfl rfl rfl rfl ?_
 rintro (_ | _) h4 <;> try simp only [qd, ne_eq] at h4
 ·simp only [qz]
  refine Zr ?_; refine Wx [0, 0, 0, 1, 1, 0] ?_; refine rf_conv rfl rfl rfl UU2 UU141 (wrap32_ok Ox Ox) (Nq ?_)
  refine rg_newS (cs := ?_) (ty := ?_) (n := 1) (c := 1) Rx (fun w => ?_) Nz (fun g5 => ?_); rotate_left 2
  focus (go_simp; rfl)
  simp only [qz]; refine rg_pushU rfl rfl hc1 rfl Ox Nz (fun u6 v6 hO6 => ?_); refine Zx ?_; refine Zr ?_; refine Wx [0, 0, 0] ?_; refine rf_add rfl rfl rfl rfl (wrap_ok Ox Ox) (Zx ?_); refine rg_nil ?_
  have hdz' := hdz.snoc (y := dig xs i - bo - dig ys i) Ox Ox
  have hst := minus_step (t := dig xs i - bo - dig ys i) Ox heq.out Ox 0
  rw [show dig xs i - bo - dig ys i + 4294967296 * 0 = dig xs i - bo - dig ys i by omega] at hst; refine ek_roundF (xs.length - (i + 1)) Ox Kx ?_
  exact ⟨i + 1, 0, v6, u6, zs ++ [dig xs i - bo - dig ys i], rfl, rfl, rfl, by rfl, by rfl, hO6, hdz', (by simp; omega), (by simp; omega), Ox, Ox, hst, Ox⟩
 simp only [qz]
 refine Zr ?_
 refine Wx [0, 0, 0] ?_
 refine rf_add rfl rfl rfl rfl (wrap_ok Ox Ox) (Zx ?_)
 refine rg_nil (ek_next ?_)
 refine Wx [0] ?_
 refine rg_nil (ek_next ?_)
 refine Wx [0, 0, 0, 1, 1, 0] ?_
 refine rf_conv rfl rfl rfl UU2 UU141 (wrap32_ok Ox Ox) (Nq ?_)
 refine rg_newS (cs := ?_) (ty := ?_) (n := 1) (c := 1) Rx (fun w => ?_) Nz (fun g7 => ?_); rotate_left 2
 focus (go_simp; rfl)
 simp only [qz]
 refine rg_pushU rfl rfl hc1 rfl Ox Nz (fun u8 v8 hO8 => ?_)
 refine Zx ?_
 refine Zr ?_
 refine Wx [0, 0, 0] ?_
 refine rf_add rfl rfl rfl rfl (wrap_ok Ox Ox) (Zx ?_)
 refine rg_nil ?_
 have hdz' := hdz.snoc (y := dig xs i - bo - dig ys i + 4294967296) Ox Ox
 have hst := minus_step (t := dig xs i - bo - dig ys i) Ox heq.out Ox 1
 rw [show dig xs i - bo - dig ys i + 4294967296 * 1 = dig xs i - bo - dig ys i + 4294967296 by omega] at hst
 refine ek_roundF (xs.length - (i + 1)) Ox Kx ?_
 exact ⟨i + 1, 1, v8, u8, zs ++ [dig xs i - bo - dig ys i + 4294967296], rfl, rfl, rfl, by rfl, by rfl, hO8, hdz', (by simp; omega), (by simp; omega), Ox, Ox, hst, Ox⟩
def ordN (m n : Nat) : Int := if m < n then -1 else if m = n then 0 else 1
theorem ordN_lt {m n : Nat} (h : m < n) : ordN m n = -1 := by unfold ordN; rw [if_pos h]
theorem ordN_eq {m n : Nat} (h : m = n) : ordN m n = 0 := by unfold ordN; rw [if_neg Ox, if_pos h]
theorem ordN_gt {m n : Nat} (h : n < m) : ordN m n = 1 := by unfold ordN; rw [if_neg Ox, if_neg Ox]
theorem digs_inj {m n : Nat} (h : digs m = digs n) : m = n := by
 have h1 := dval_digs m
 rw [h, dval_digs] at h1
 omega
theorem of_dig {m n i : Nat} (hi : i < (digs m).length) (hl : (digs m).length = (digs n).length) (hj : ∀ j, i < j → dig (digs m) j = dig (digs n) j) (h : dig (digs m) i < dig (digs n) i) : m < n := by
 have := lt_of_dig (digs_dg m) (digs_dg n) hi hl hj h
 rw [dval_digs, dval_digs] at this
 omega
theorem border_any (m n : Nat) (a a2 : Option Addr) (c c2 : Nat) (hl : (digs m).length ≤ 100000) (hl2 : (digs n).length ≤ 100000) (w : World) (hA : AS w a (us (digs m))) (hA2 : AS w a2 (us (digs n))) : Calls Tryz.prog 91 #[.slice a (digs m).length c, .slice a2 (digs n).length c2] w fun e w' => e = .returned (.int .i64 (ordN m n)) ∧ Below w.heap.size w w' := by
 go_enter Tryz.func91, Tryz.ntmps91
 refine wk_start ?_
 refine wk_seq ?_
 refine Wm [0] ?_
 refine Zr ?_
 refine Wm [0, 0, 0, 0, 0] ?_
 refine rf_len rfl rfl rfl UU36 (Zm ?_)
 refine rf_len rfl rfl rfl UU36 (Nq ?_)
 refine rfb_neq rfl rfl rfl rfl ?_
 rintro (_ | _) h1 <;> try simp only [qd, ne_eq] at h1
 ·simp only [qz]
  refine Zr ?_; refine Wm [0, 0, 0, 0] ?_; refine rf_len rfl rfl rfl UU36 (Nq ?_); refine rf_sub rfl rfl rfl rfl (wrap_ok Ox Ox) (Zm ?_); refine Zr ?_; refine wk_loopF [4, 5, 19, 20, 21, 22, 23, 24, 25, 26, 27, 28, 29, 30, 31, 32, 33, 34, 35, 36, 37, 38, 39, 40] (fun mz f s => ∃ (k : Nat) (j : Int), f 5 = .int .i64 j ∧ s = [] ∧ mz = k ∧ k ≤ (digs m).length ∧ (∀ t, k ≤ t → dig (digs m) t = dig (digs n) t) ∧ j + 1 ≤ k ∧ (k : Int) ≤ j + 1) ((fun (k : Nat) (j : Int) => k) ((digs m).length) (((digs m).length : Int) - 1)) ?_ Kx ?_
  ·exact ⟨(digs m).length, ((digs m).length : Int) - 1, rfl, rfl, rfl, by omega, fun t ht => by rw [dig_out Ox, dig_out Ox], by omega, by omega⟩
  rintro mz f1 s ⟨k, j, hs1_5, rfl, hn, hc1, hc2, hc3, hc4⟩
  simp only [Act.putF, List.foldl_cons, List.foldl_nil, hs1_5, Act.put, Act.eval, qW, Nat.reduceAdd, Bool.not_true, Bool.not_false]; clear hs1_5; refine wk_seq (wk_seq ?_); refine Wm [0, 0] ?_; refine rfb_geq rfl rfl rfl rfl ?_
  rintro (_ | _) h2 <;> try simp only [qd, ne_eq] at h2
  ·simp only [qz]
   refine Zr ?_; refine Wm [0] ?_; refine Zr ?_
   refine Er fun w hw => ?_
   (try simp only [qz])
   exact ⟨by rw [ordN_eq (digs_inj (eq_of_dig Ox (fun j => hc2 j Ox)))], hw.below⟩
  simp only [qz]
  obtain ⟨b, off, rfl, hlt, hcell⟩ := AS.openU hA Ox
  obtain ⟨b2, off2, rfl, hlt2, hcell2⟩ := AS.openU hA2 Ox
  refine Zr ?_; refine wk_draws _ _ [(0, 0), (1, 0), (2, 0), (3, 0), (4, 0), (5, 0), (6, 0), (7, 0), (8, 0)] [] Kx Kx (fun c d v a w h => by cases d <;> exact h) (sn) (fun e => by first | exact absurd e (by decide) | rfl) ?_; simp only [List.map_cons, List.map_nil, List.getD_cons_zero, List.getD_cons_succ]; refine Zm ?_; refine rf_indexS (n := k - 1) (sz := 1) (j := off + (k - 1) * 1) rfl rfl rfl rfl UU36 Kx Ox Ox rfl (Nq ?_)
  refine rf_load rfl rfl rfl UU141 rfl (fun w hw => (by have := (Kn.cellB hw hlt (by simp) (off + (k - 1))).trans (hcell (k - 1) Ox); simpa using this)) (Zm ?_); refine rf_indexS (n := k - 1) (sz := 1) (j := off2 + (k - 1) * 1) rfl rfl rfl rfl UU36 Kx Ox Ox rfl (Nq ?_); refine rf_load rfl rfl rfl UU141 rfl (fun w hw => (by have := (Kn.cellB hw hlt2 (by simp) (off2 + (k - 1))).trans (hcell2 (k - 1) Ox); simpa using this)) (Nq ?_)
  refine rfb_neq rfl rfl rfl rfl ?_
  rintro (_ | _) h3 <;> try simp only [qd, ne_eq] at h3
  ·simp only [qz]
   refine Zr ?_; refine Wm [0, 0, 0] ?_; refine rf_sub rfl rfl rfl rfl (wrap_ok Ox Ox) (Zm ?_); refine rg_nil ?_; refine ek_roundF (k - 1) Ox Kx ?_
   exact ⟨k - 1, j - 1, rfl, by rfl, by rfl, Ox, fun t ht => if he : t = k - 1 then (by subst he; omega) else hc2 t Ox, Ox, Ox⟩
  simp only [qz]; refine Zr ?_; refine wk_draws _ _ [(0, 0), (1, 0), (2, 0), (3, 0), (4, 0), (5, 0), (6, 0), (7, 0), (8, 0)] [] Kx Kx (fun c d v a w h => by cases d <;> exact h) (sn) (fun e => by first | exact absurd e (by decide) | rfl) ?_; simp only [List.map_cons, List.map_nil, List.getD_cons_zero, List.getD_cons_succ]; refine Zm ?_; refine rf_indexS (n := k - 1) (sz := 1) (j := off + (k - 1) * 1) rfl rfl rfl rfl UU36 Kx Ox Ox rfl (Nq ?_)
  refine rf_load rfl rfl rfl UU141 rfl (fun w hw => (by have := (Kn.cellB hw hlt (by simp) (off + (k - 1))).trans (hcell (k - 1) Ox); simpa using this)) (Zm ?_); refine rf_indexS (n := k - 1) (sz := 1) (j := off2 + (k - 1) * 1) rfl rfl rfl rfl UU36 Kx Ox Ox rfl (Nq ?_); refine rf_load rfl rfl rfl UU141 rfl (fun w hw => (by have := (Kn.cellB hw hlt2 (by simp) (off2 + (k - 1))).trans (hcell2 (k - 1) Ox); simpa using this)) (Nq ?_)
  refine rfb_lss rfl rfl rfl rfl ?_
  rintro (_ | _) h4 <;> try simp only [qd, ne_eq] at h4
  ·simp only [qz]
   refine Zr ?_; refine Wm [0] ?_; refine Zr ?_
   refine Er fun w hw => ?_
   (try simp only [qz])
   exact ⟨by rw [ordN_gt (of_dig (i := k - 1) Ox Ox (fun j hj => (hc2 j Ox).symm) Ox)], hw.below⟩
  simp only [qz]; refine Zr ?_; refine Wm [0] ?_; refine Zr ?_
  refine Er fun w hw => ?_
  (try simp only [qz])
  exact ⟨by rw [ordN_lt (of_dig (i := k - 1) Ox Ox (fun j hj => hc2 j Ox) Ox)], hw.below⟩
 simp only [qz]
 refine Zr ?_
 refine Wm [0, 0, 0, 0, 0] ?_
 refine rf_len rfl rfl rfl UU36 (Zm ?_)
 refine rf_len rfl rfl rfl UU36 (Nq ?_)
 refine rfb_lss rfl rfl rfl rfl ?_
 rintro (_ | _) h5 <;> try simp only [qd, ne_eq] at h5
 ·simp only [qz]
  refine Zr ?_; refine Wm [0] ?_; refine Zr ?_
  refine Er fun w hw => ?_
  (try simp only [qz])
  exact ⟨by rw [ordN_gt (digs_lt_of_len Ox)], hw.below⟩
 simp only [qz]
 refine Zr ?_
 refine Wm [0] ?_
 refine Zr ?_
 refine Er fun w hw => ?_
 (try simp only [qz])
 exact ⟨by rw [ordN_lt (digs_lt_of_len Ox)], hw.below⟩
theorem push_digs {t : Int} {zs : List Int} (h : 0 < t) : (zs ++ [t % 4294967296]) ++ digs (t / 4294967296).toNat = zs ++ digs t.toNat := by
 rw [List.append_assoc, digs_pos (n := t.toNat) Ox]
 have e1 : ((t.toNat % 4294967296 : Nat) : Int) = t % 4294967296 := by omega
 have e2 : t.toNat / 4294967296 = (t / 4294967296).toNat := by omega
 rw [e1, e2]
 rfl
theorem bigOf_any (n : Int) (h0 : -9223372036854775808 ≤ n) (h1 : n ≤ 9223372036854775807) (w : World) : Calls Tryz.prog 45 #[.int .i64 n] w fun e w' => RetB w n e w' := by
 go_enter Tryz.func45, Tryz.ntmps45
 refine wk_start ?_
 refine wk_seq ?_
 refine Wr [1] ?_
 refine Rgn fun g1 => ?_
 simp only [qz]
 refine Zr ?_
 refine Wm [0, 0, 0, 1, 1] ?_
 refine rf_lss rfl rfl rfl rfl rfl (Nq ?_)
 refine rf_build (cs := fun a => #[a.eval (.tmp 6), .slice none 0 0]) rfl rfl Kx (Nq ?_)
 refine Rgn fun g2 => ?_
 simp only [qz]
 refine rf_storeR (n := 2) rfl rfl Kx rfl rfl (UpdR.here _ _ _ Nl) Nz (Nw ?_)
 refine Zr ?_
 refine Wm [0, 0, 0] ?_
 refine rf_conv rfl rfl rfl UU3 UU140 (IntKind.wrap_u64 _) (Zm ?_)
 refine Zr ?_
 refine Wr [0, 0] ?_
 refine Fd 0 0 UU38 ?_
 refine rf_load rfl rfl rfl UU4 rfl (fun w hw => (Kn.hd0 hw).at rfl) (Nq ?_)
 refine rg_nil (ek_next ?_)
 refine wk_cond (t := _) rfl (fun h1 => ?_) (fun h1 => ?_)
 ·(try simp only [qd] at h1)
  refine Wm [0, 0, 0] ?_; refine rf_neg rfl rfl rfl (IntKind.wrap_u64 _) (Zm ?_); refine Zr ?_; refine wk_loopF [4, 14, 15, 16, 17, 18, 19, 20, 21, 22, 23, 24] (fun mz f s => ∃ (t : Int) (va : Option Addr) (vl vc : Nat) (u : List Blk) (zs : List Int), f 4 = .int .u64 t ∧ s = (u ++ ((g2, .cells #[.bool (decide (n < 0)), .slice va vl vc] 38) :: ((g1, .cells #[.bool false, .slice none 0 0] 38) :: []))) ∧ mz = t.toNat ∧ OwnG DgE 141 u (.slice va vl vc) zs ∧ zs ++ digs t.toNat = digs n.natAbs ∧ 0 ≤ t ∧ t < 18446744073709551616) ((fun (t : Int) (va : Option Addr) (vl vc : Nat) (u : List Blk) (zs : List Int) => t.toNat) ((-(n % 18446744073709551616)) % 18446744073709551616) (none) (0) (0) ([]) ([])) ?_ Kx ?_
  ·exact ⟨(-(n % 18446744073709551616)) % 18446744073709551616, none, 0, 0, [], [], rfl, rfl, rfl, OwnG.nil, (by simp; congr 1; omega), Ox, Ox⟩
  rintro mz f1 s ⟨t, va, vl, vc, u, zs, hs1_4, rfl, hn, hc1, hc2, hc3, hc4⟩
  simp only [Act.putF, List.foldl_cons, List.foldl_nil, hs1_4, Act.put, Act.eval, qW, Nat.reduceAdd, Bool.not_true, Bool.not_false]; clear hs1_4
  have hO := hc1
  have hzl : zs.length ≤ 2 := by (have h1 := congrArg List.length hc2; rw [List.length_append] at h1; have h2 := digs_len_le (n := n.natAbs) (L := 2) Ox; omega)
  have heq := Lib.hid hc2
  clear hc2; refine wk_seq (wk_seq ?_); refine Wm [0, 0] ?_; refine rfb_gtr rfl rfl rfl rfl ?_
  rintro (_ | _) h2 <;> try simp only [qd, ne_eq] at h2
  ·simp only [qz]
   refine Zr ?_; refine Wr [0, 1] ?_; refine rf_loadR (n := 2) rfl rfl rfl UU38 rfl Kx (fun w hw => Kn.hd0 (Kn.tlU hw)) rfl rfl (Nq ?_); refine rf_storeR (n := 2) rfl rfl Kx rfl rfl (UpdR.app _ (UpdR.there _ (UpdR.here _ _ _ Nl))) Nz (Nw ?_); refine Zr ?_; refine ek_ret (fun w hw => ⟨rfl, _, run_results1 rfl rfl (Kn.hd0 (Kn.tl (Kn.tlU hw))) UU38 rfl Kx, ?_⟩); (try simp only [qz])
   have ht : t = 0 := by omega
   subst ht
   have e1 : zs = digs n.natAbs := by (have := heq.out; rwa [show (0 : Int).toNat = 0 from rfl, digs_zero, List.append_nil] at this)
   subst e1
   obtain ⟨a0, c0, e0, hcap⟩ := hO.val
   injection e0 with e1 e2 e3
   subst e1 e2 e3
   exact ⟨_, u, rfl, ⟨.slice va _ vc, rfl, SU.own hO _ (Nat.le_refl _) (List.take_length ..) rfl⟩, hw.made (by simp)⟩
  simp only [qz]; refine Zr ?_; refine Wr [0, 0, 0, 0, 1, 1, 0, 1] ?_; refine Fd 0 1 UU38 ?_; refine rf_load rfl rfl rfl UU36 rfl (fun w hw => (Kn.hd0 (Kn.tlU hw)).at rfl) (Zm ?_); refine rf_conv rfl rfl rfl UU140 UU141 (IntKind.wrap_u32 _) (Nq ?_)
  refine rg_newS (cs := ?_) (ty := ?_) (n := 1) (c := 1) Rx (fun w => ?_) Nz (fun g3 => ?_); rotate_left 2
  focus (go_simp; rfl)
  simp only [qz]; refine rg_pushU rfl rfl hc1 rfl Ox Nz (fun u4 v4 hO4 => ?_); simp only [qz]
  obtain ⟨va4, vc4, rfl, hcap4⟩ := hO4.val
  refine Fd 0 1 UU38 ?_; refine rf_store rfl rfl Kx rfl rfl (UpdR.app _ (UpdR.here _ _ _ Nl)) Nz (Nq ?_); refine rg_nil (ek_next ?_); refine Wm [0, 0, 0] ?_; refine rf_shr (c := 32) (q := 4294967296) rfl rfl rfl rfl rfl (by decide) (Zm ?_); refine rg_nil (ek_block ?_)
  have hst : (zs ++ [t % 4294967296]) ++ digs (t / 4294967296).toNat = digs n.natAbs := by rw [← heq.out, push_digs Ox]
  refine ek_roundF ((t / 4294967296).toNat) (Ox) Kx ?_
  exact ⟨t / 4294967296, va4, _, vc4, u4, zs ++ [t % 4294967296], rfl, by rfl, by rfl, hO4, hst, Ox, Ox⟩
 (try simp only [qd] at h1)
 refine wk_skip (ek_next (wk_seq (wk_block ?_)))
 refine wk_loopF [4, 14, 15, 16, 17, 18, 19, 20, 21, 22, 23, 24] (fun mz f s => ∃ (t : Int) (va : Option Addr) (vl vc : Nat) (u : List Blk) (zs : List Int), f 4 = .int .u64 t ∧ s = (u ++ ((g2, .cells #[.bool (decide (n < 0)), .slice va vl vc] 38) :: ((g1, .cells #[.bool false, .slice none 0 0] 38) :: []))) ∧ mz = t.toNat ∧ OwnG DgE 141 u (.slice va vl vc) zs ∧ zs ++ digs t.toNat = digs n.natAbs ∧ 0 ≤ t ∧ t < 18446744073709551616) ((fun (t : Int) (va : Option Addr) (vl vc : Nat) (u : List Blk) (zs : List Int) => t.toNat) (n % 18446744073709551616) (none) (0) (0) ([]) ([])) ?_ Kx ?_
 ·exact ⟨n % 18446744073709551616, none, 0, 0, [], [], rfl, rfl, rfl, OwnG.nil, (by simp; congr 1; omega), Ox, Ox⟩
 rintro mz f1 s ⟨t, va, vl, vc, u, zs, hs1_4, rfl, hn, hc1, hc2, hc3, hc4⟩
 simp only [Act.putF, List.foldl_cons, List.foldl_nil, hs1_4, Act.put, Act.eval, qW, Nat.reduceAdd, Bool.not_true, Bool.not_false]
 clear hs1_4
 have hO := hc1
 have hzl : zs.length ≤ 2 := by (have h1 := congrArg List.length hc2; rw [List.length_append] at h1; have h2 := digs_len_le (n := n.natAbs) (L := 2) Ox; omega)
 have heq := Lib.hid hc2
 clear hc2
 refine wk_seq (wk_seq ?_)
 refine Wm [0, 0] ?_
 refine rfb_gtr rfl rfl rfl rfl ?_
 rintro (_ | _) h3 <;> try simp only [qd, ne_eq] at h3
 ·simp only [qz]
  refine Zr ?_; refine Wr [0, 1] ?_; refine rf_loadR (n := 2) rfl rfl rfl UU38 rfl Kx (fun w hw => Kn.hd0 (Kn.tlU hw)) rfl rfl (Nq ?_); refine rf_storeR (n := 2) rfl rfl Kx rfl rfl (UpdR.app _ (UpdR.there _ (UpdR.here _ _ _ Nl))) Nz (Nw ?_); refine Zr ?_; refine ek_ret (fun w hw => ⟨rfl, _, run_results1 rfl rfl (Kn.hd0 (Kn.tl (Kn.tlU hw))) UU38 rfl Kx, ?_⟩); (try simp only [qz])
  have ht : t = 0 := by omega
  subst ht
  have e1 : zs = digs n.natAbs := by (have := heq.out; rwa [show (0 : Int).toNat = 0 from rfl, digs_zero, List.append_nil] at this)
  subst e1
  obtain ⟨a0, c0, e0, hcap⟩ := hO.val
  injection e0 with e1 e2 e3
  subst e1 e2 e3
  exact ⟨_, u, rfl, ⟨.slice va _ vc, rfl, SU.own hO _ (Nat.le_refl _) (List.take_length ..) rfl⟩, hw.made (by simp)⟩
 simp only [qz]
 refine Zr ?_
 refine Wr [0, 0, 0, 0, 1, 1, 0, 1] ?_
 refine Fd 0 1 UU38 ?_
 refine rf_load rfl rfl rfl UU36 rfl (fun w hw => (Kn.hd0 (Kn.tlU hw)).at rfl) (Zm ?_)
 refine rf_conv rfl rfl rfl UU140 UU141 (IntKind.wrap_u32 _) (Nq ?_)
 refine rg_newS (cs := ?_) (ty := ?_) (n := 1) (c := 1) Rx (fun w => ?_) Nz (fun g5 => ?_); rotate_left 2
 focus (go_simp; rfl)
 simp only [qz]
 refine rg_pushU rfl rfl hc1 rfl Ox Nz (fun u6 v6 hO6 => ?_)
 simp only [qz]
 obtain ⟨va6, vc6, rfl, hcap6⟩ := hO6.val
 refine Fd 0 1 UU38 ?_
 refine rf_store rfl rfl Kx rfl rfl (UpdR.app _ (UpdR.here _ _ _ Nl)) Nz (Nq ?_)
 refine rg_nil (ek_next ?_)
 refine Wm [0, 0, 0] ?_
 refine rf_shr (c := 32) (q := 4294967296) rfl rfl rfl rfl rfl (by decide) (Zm ?_)
 refine rg_nil (ek_block ?_)
 have hst : (zs ++ [t % 4294967296]) ++ digs (t / 4294967296).toNat = digs n.natAbs := by rw [← heq.out, push_digs Ox]
 refine ek_roundF ((t / 4294967296).toNat) (Ox) Kx ?_
 exact ⟨t / 4294967296, va6, _, vc6, u6, zs ++ [t % 4294967296], rfl, by rfl, by rfl, hO6, hst, Ox, Ox⟩
theorem us_map : ∀ ys : List Int, us ys = ys.map (.int .u32)
  | [] => rfl
  | y :: ys => by rw [us, El.flat_cons, List.map_cons, ← us_map ys]; rfl
theorem made_us (n : Nat) : madeCells (Value.int .u32 0).cells n = (us (List.replicate n 0)).toArray := by
 rw [us_map]
 unfold madeCells
 apply Array.ext'
 simp only [Array.toList_map, Array.toList_range]
 apply List.ext_getElem
 ·simp
 intro i h1 h2
 simp [Value.cells, Nat.mod_one]
theorem set_us (zs : List Int) (i : Nat) (x : Int) : (us zs).toArray.setIfInBounds i (.int .u32 x) = (us (zs.set i x)).toArray := by
 rw [us_map, us_map]; simp [List.map_set]
theorem us_getA (zs : List Int) (k : Nat) (h : k < zs.length) : (us zs)[k]? = some (.int .u32 (dig zs k)) := us_get zs k h
theorem Rep.toUpd {g i t : Nat} {v : Value} {cs : Array Value} {s s' : List Blk} (h : Rep g (.cells cs t) (.cells (cs.setIfInBounds i v) t) s s') : Upd g i v s s' := by
 generalize ho : Obj.cells cs t = o at h
 generalize ho' : Obj.cells (cs.setIfInBounds i v) t = o' at h
 induction h with
 | here s => subst ho ho'; exact Upd.here t cs s
 | there b _ ih => exact .there b ih
theorem OwnG.wholeU {g : Nat} {zs : List Int} (h : zs.length ≤ 1000000) : OwnG DgE 141 [(g, .cells (us zs).toArray 141)] (.slice (some ⟨g, 0, none⟩) zs.length zs.length) zs :=
  Own.whole (cur := (us zs).toArray) (by simp [us_len]) (by simp only [maxLen]; omega)
section
variable {R : Option Nat} {ops : Array Oper} {Q : Exit → Act → World → Prop} {B : World} {F : List Nat} {s0 : Option (List Blk × List Blk)}
variable {l : List (Oper × Nat)} {a : Act} {s s' : List Blk} {d : Option Tmp} {t : TypeId} {p : String} {af : Array Edge} {v : Value}
theorem rg_makeU {lo co : Operand} {n : Nat} {z : Int} {gd : Option (Nat × Bool)} (hg : Region.wanted ⟨d, .makeSlice 36 lo co, t, p, af, gd⟩ (yielded ops a.tmps) = true) (hl : a.eval lo = .int .i64 z) (hc : a.eval co = .int .i64 z) (hz' : z = (n : Int)) (hn : n ≤ 1000000)
    (hzz : ∀ z ∈ s0, z.1.Sublist s) (h : ∀ g, Rg R Tryz.prog ops Q B F s0 l (a.put d (.slice (some ⟨g, 0, none⟩) n n)) ((g, .cells (us (List.replicate n 0)).toArray 141) :: s)) :
    Rg R Tryz.prog ops Q B F s0 ((⟨d, .makeSlice 36 lo co, t, p, af, gd⟩, 1) :: l) a s := by
  subst hz'
  obtain ⟨i, hi, hz, hs, hb⟩ := ip uInfo
  refine rg_make (i := i) (z := .int .u32 0) (n := n) hg UU36 hi hz hl hc (by rw [hb]; omega) Ox hzz fun g => ?_
  have : madeCells (Value.int .u32 0).cells (n * i.size) = (us (List.replicate n 0)).toArray := by rw [hs, Nat.mul_one]; exact made_us n
  rw [this]
  exact h g
theorem rf_storeU {x y : Operand} {g i : Nat} {zs : List Int} {z : Int} (hx : a.eval x = .pointer (some ⟨g, i, none⟩)) (hy : a.eval y = .int .u32 z) (hi : i < zs.length)
    (hr : Rep g (.cells (us zs).toArray 141) (.cells (us (zs.set i z)).toArray 141) s s') (hz : ∀ z ∈ s0, z.1.Sublist s') (h : Rg R Tryz.prog ops Q B F s0 l (a.put d undef) s') :
    Rg R Tryz.prog ops Q B F s0 ((⟨d, .store 141 x y, t, p, af, none⟩, 1) :: l) a s := by
  rw [← set_us] at hr; refine rg_store (fun w K => ⟨w.setCell ⟨g, i, none⟩ (.int .u32 z), ?_, K.set hr.toUpd⟩) hz h
  exact run_store1 hx hy Kx rfl rfl (there_of (K.hd hr.mem) (by simp [us_len]; omega))
theorem rf_storeUM {zz : List Blk × List Blk} {x y : Operand} {g i : Nat} {zs : List Int} {z : Int} (hx : a.eval x = .pointer (some ⟨g, i, none⟩)) (hy : a.eval y = .int .u32 z) (hi : i < zs.length)
    (hr : Rep g (.cells (us zs).toArray 141) (.cells (us (zs.set i z)).toArray 141) s s') (hz : zz.2.Sublist s') (h : Rg R Tryz.prog ops Q B F (some (zz.2, zz.2)) l (a.put d undef) s') :
    Rg R Tryz.prog ops Q B F (some zz) ((⟨d, .store 141 x y, t, p, af, none⟩, 2) :: l) a s := by
  rw [← set_us] at hr; refine rg_storeM (fun w K => ⟨w.setCell ⟨g, i, none⟩ (.int .u32 z), ?_, K.set hr.toUpd⟩) hz h
  exact run_store1 hx hy Kx rfl rfl (there_of (K.hd hr.mem) (by simp [us_len]; omega))
end
theorem or_u32 {x y : Int} (h0 : 0 ≤ x) (h1 : x < 2147483648) (hy : y = 0 ∨ y = 2147483648) : bits .or .u32 x y = x + y := by
 show IntKind.u32.wrap ((BitVec.ofInt 32 x ||| BitVec.ofInt 32 y).toNat : Int) = _
 obtain ⟨n, rfl⟩ : ∃ n : Nat, x = n := ⟨x.toNat, by omega⟩
 rw [BitVec.toNat_or, IntKind.wrap_u32]
 have e1 : (BitVec.ofInt 32 (n : Int)).toNat = n := by rw [BitVec.toNat_ofInt]; omega
 rw [e1]
 rcases hy with rfl | rfl
 ·have : (BitVec.ofInt 32 (0 : Int)).toNat = 0 := by decide
  rw [this, Nat.or_zero]; omega
 have : (BitVec.ofInt 32 (2147483648 : Int)).toNat = 2 ^ 31 := by decide
 have h2 := Nat.two_pow_add_eq_or_of_lt (i := 31) (b := n) Ox 1
 rw [Nat.mul_one] at h2
 rw [this, Nat.or_comm, ← h2]
 omega
theorem bneg_any (n : Int) (s : Value) (hl : (digs n.natAbs).length ≤ 1000) (w : World) (hs : SA w s n.natAbs) : Calls Tryz.prog 47 #[bgV n s] w fun e w' => e = .returned (bgV (-n) s) ∧ Below w.heap.size w w' := by
 obtain ⟨a, c, rfl, hA⟩ := hs
 have hlen := digs_nil_iff (n := n.natAbs)
 have hlz : (digs n.natAbs).length = 0 ↔ n = 0 := by rw [List.length_eq_zero_iff, hlen]; omega
 clear hlen
 go_enter Tryz.func47, Tryz.ntmps47
 refine wk_start ?_
 refine wk_seq ?_
 refine Wr [1, 1] ?_
 refine Rgn fun g1 => ?_
 simp only [qz]
 refine Rgn fun g2 => ?_
 simp only [qz]
 refine Zr ?_
 refine Wr [0, 0, 0, 0] ?_
 refine Fd 0 1 UU38 ?_
 refine rf_load rfl rfl rfl UU36 rfl (fun w hw => (Kn.hd0 (Kn.tl hw)).at rfl) (Nq ?_)
 refine rf_len rfl rfl rfl UU36 (Nq ?_)
 refine rfb_eql rfl rfl rfl rfl ?_
 rintro (_ | _) h1 <;> try simp only [qd, ne_eq] at h1
 ·simp only [qz]
  refine Zr ?_; refine Wr [0, 0, 0, 0, 0, 0, 1] ?_; refine Fd 0 0 UU38 ?_; refine rf_load rfl rfl rfl UU4 rfl (fun w hw => (Kn.hd0 (Kn.tl hw)).at rfl) (Zx ?_); refine Fd 0 1 UU38 ?_; refine rf_load rfl rfl rfl UU36 rfl (fun w hw => (Kn.hd0 (Kn.tl hw)).at rfl) (Nq ?_); refine rf_build (cs := fun a => #[a.eval (.tmp 10), a.eval (.tmp 12)]) rfl rfl Kx (Nq ?_); refine rf_storeR (n := 2) rfl rfl Kx rfl rfl (UpdR.here _ _ _ Nl) Nz (Nw ?_)
  refine Zr ?_; refine ek_ret (fun w hw => ⟨rfl, _, run_results1 rfl rfl (Kn.hd0 hw) UU38 rfl Kx, ?_⟩); (try simp only [qz])
  have h0 : n ≠ 0 := fun e => by have := hlz.2 e; omega
  exact ⟨by (unfold bgV; rw [show decide (-n < 0) = !decide (n < 0) by (by_cases h : n < 0 <;> simp [h] <;> omega)]), hw.below⟩
 simp only [qz]
 refine Zr ?_
 refine Wr [0, 1] ?_
 refine rf_loadR (n := 2) rfl rfl rfl UU38 rfl Kx (fun w hw => Kn.hd0 (Kn.tl hw)) rfl rfl (Nq ?_)
 refine rf_storeR (n := 2) rfl rfl Kx rfl rfl (UpdR.here _ _ _ Nl) Nz (Nw ?_)
 refine Zr ?_
 refine ek_ret (fun w hw => ⟨rfl, _, run_results1 rfl rfl (Kn.hd0 hw) UU38 rfl Kx, ?_⟩)
 (try simp only [qz])
 have h0 : n = 0 := hlz.1 Ox
 subst h0
 exact ⟨rfl, hw.below⟩
theorem beven_any (n : Int) (s : Value) (hl : (digs n.natAbs).length ≤ 1000) (w : World) (hs : SA w s n.natAbs) : Calls Tryz.prog 48 #[bgV n s] w fun e w' => e = .returned (.bool (decide (n % 2 = 0))) ∧ Below w.heap.size w w' := by
 obtain ⟨a, c, rfl, hA⟩ := hs
 have hlen := digs_nil_iff (n := n.natAbs)
 have hlz : (digs n.natAbs).length = 0 ↔ n = 0 := by rw [List.length_eq_zero_iff, hlen]; omega
 clear hlen
 go_enter Tryz.func48, Tryz.ntmps48
 refine wk_start ?_
 refine wk_seq ?_
 refine Wr [1, 0] ?_
 refine Rgn fun g1 => ?_
 refine Zx ?_
 refine Zr ?_
 refine Wr [0, 0, 0, 0, 0, 0, 0, 0, 0, 0, 0, 0, 0] ?_
 refine Fd 0 1 UU38 ?_
 refine rf_load rfl rfl rfl UU36 rfl (fun w hw => (Kn.hd0 hw).at rfl) (Nq ?_)
 refine rf_len rfl rfl rfl UU36 (Nq ?_)
 refine rfb_eql rfl rfl rfl rfl ?_
 rintro (_ | _) h1 <;> try simp only [qd, ne_eq] at h1
 ·simp only [qz]
  have hpos : 0 < (digs n.natAbs).length := by omega
  obtain ⟨b, off, rfl, hlt, hcell⟩ := AS.openU hA hpos
  have hd0 := (digs_dg n.natAbs).at 0
  have hev := digs_even n.natAbs
  refine Zx ?_; refine Fd 0 1 UU38 ?_; refine rf_load rfl rfl rfl UU36 rfl (fun w hw => (Kn.hd0 hw).at rfl) (Nq ?_); refine rf_indexS (n := 0) (sz := 1) (j := off + 0 * 1) rfl rfl rfl rfl UU36 Kx Ox Ox rfl (Nq ?_); refine rf_load rfl rfl rfl UU141 rfl (fun w hw => (by have := (Kn.cellB hw hlt (by simp) (off + 0)).trans (hcell 0 Ox); simpa using this)) (Nq ?_)
  apply rg_soft_g
  case hg => rfl
  case hy => (intro w hw; exact Gy)
  simp only [qz]; refine rf_eql rfl rfl rfl rfl rfl (Zx ?_); refine Zr ?_
  refine Er fun w hw => ?_
  (try simp only [qz]); refine ⟨?_, hw.below⟩
  congr 2
  first | exact decide_eq_decide.2 Ox | (apply Bool.eq_iff_iff.2; simp; omega)
 refine Zx ?_
 refine Zr ?_
 refine Er fun w hw => ?_
 (try simp only [qz])
 have h0 : n = 0 := hlz.1 Ox
 subst h0
 exact ⟨rfl, hw.below⟩
theorem dig_one {N : Nat} (h : (digs N).length = 1) : dig (digs N) 0 = N := by
 have h1 := dval_digs N
 rw [← List.take_of_length_le (show (digs N).length ≤ 1 by omega), dval_take (k := 0) Ox] at h1
 simpa [dval] using h1
theorem smB_no {n : Int} (h : ¬ (-1000000000 ≤ n ∧ n ≤ 1000000000)) : smB n = false := by
 unfold smB
 rw [Bool.and_eq_false_iff, decide_eq_false_iff_not, decide_eq_false_iff_not]
 omega
theorem smB_yes {n : Int} (h : -1000000000 ≤ n) (h' : n ≤ 1000000000) : smB n = true := by
 unfold smB; rw [decide_eq_true h, decide_eq_true h']; rfl
theorem bsmall_any (n : Int) (s : Value) (hl : (digs n.natAbs).length ≤ 1000) (w : World) (hs : SA w s n.natAbs) : Calls Tryz.prog 50 #[bgV n s] w fun e w' => e = .returned (.tuple #[.int .i64 (if smB n = true then n else 0), .bool (smB n)]) ∧ Below w.heap.size w w' := by
 obtain ⟨a, c, rfl, hA⟩ := hs
 have hlen := digs_nil_iff (n := n.natAbs)
 have hlz : (digs n.natAbs).length = 0 ↔ n = 0 := by rw [List.length_eq_zero_iff, hlen]; omega
 clear hlen
 have hbig : ¬ (digs n.natAbs).length ≤ 1 → 4294967296 ≤ (n.natAbs : Int) := fun h1 => by rcases Int.lt_or_le (n.natAbs : Int) 4294967296 with h2 | h2; exact absurd (digs_len_le (L := 1) Ox) h1; exact h2
 have hone : (digs n.natAbs).length = 1 → dig (digs n.natAbs) 0 = n.natAbs := dig_one
 go_enter Tryz.func50, Tryz.ntmps50
 refine wk_start ?_
 refine wk_seq ?_
 refine Wr [1, 0, 0] ?_
 refine Rgn fun g1 => ?_
 refine Zx ?_
 refine Zr ?_
 refine Wr [0, 0, 0, 0] ?_
 refine Fd 0 1 UU38 ?_
 refine rf_load rfl rfl rfl UU36 rfl (fun w hw => (Kn.hd0 hw).at rfl) (Nq ?_)
 refine rf_len rfl rfl rfl UU36 (Nq ?_)
 refine rfb_gtr rfl rfl rfl rfl ?_
 rintro (_ | _) h1 <;> try simp only [qd, ne_eq] at h1
 ·simp only [qz]
  refine Zr ?_; refine Wx [0] ?_; refine Zr ?_; refine Wr [0, 0, 0, 0] ?_; refine Fd 0 1 UU38 ?_; refine rf_load rfl rfl rfl UU36 rfl (fun w hw => (Kn.hd0 hw).at rfl) (Nq ?_); refine rf_len rfl rfl rfl UU36 (Nq ?_); refine rfb_eql rfl rfl rfl rfl ?_
  rintro (_ | _) h2 <;> try simp only [qd, ne_eq] at h2
  ·simp only [qz]
   refine Zr ?_; refine Wx [0, 0] ?_; refine rf_gtr (b := false) rfl rfl rfl rfl (by decide) (Nq ?_); refine Zr ?_; refine Wr [0, 0] ?_; refine Fd 0 0 UU38 ?_; refine rf_load rfl rfl rfl UU4 rfl (fun w hw => (Kn.hd0 hw).at rfl) (Nq ?_); refine rg_nil (ek_next ?_); refine wk_cond (t := _) rfl (fun h3 => ?_) (fun h3 => ?_)
   ·(try simp only [qd] at h3)
    refine Wx [0, 0, 0] ?_; refine rf_neg rfl rfl rfl (wrap_ok Ox Ox) (Zx ?_); refine Zr ?_; refine Wx [0, 0, 0] ?_; refine Zr ?_; refine ek_ret (fun w hw => ⟨rfl, _, res_tt _ _ rfl, ?_⟩); (try simp only [qz]); refine ⟨?_, hw.below⟩
    exfalso; have := hlz.1 Ox; omega
   (try simp only [qd] at h3); refine wk_skip (ek_next (wk_seq ?_)); refine Wx [0, 0, 0] ?_; refine Zr ?_; refine ek_ret (fun w hw => ⟨rfl, _, res_tt _ _ rfl, ?_⟩); (try simp only [qz]); refine ⟨?_, hw.below⟩
   have e1 : 0 = n := by (first | omega | (have := hlz.1 Ox; omega))
   rw [e1, smB_yes (n := n) Ox Ox]
   rfl
  simp only [qz]
  have hpos : 0 < (digs n.natAbs).length := by omega
  obtain ⟨b, off, rfl, hlt, hcell⟩ := AS.openU hA hpos
  have hd0 := (digs_dg n.natAbs).at 0
  have hdv := hone Ox
  refine Zr ?_; refine Wr [0, 0, 0, 0, 0, 0] ?_; refine Fd 0 1 UU38 ?_; refine rf_load rfl rfl rfl UU36 rfl (fun w hw => (Kn.hd0 hw).at rfl) (Nq ?_); refine rf_indexS (n := 0) (sz := 1) (j := off + 0 * 1) rfl rfl rfl rfl UU36 Kx Ox Ox rfl (Nq ?_); refine rf_load rfl rfl rfl UU141 rfl (fun w hw => (by have := (Kn.cellB hw hlt (by simp) (off + 0)).trans (hcell 0 Ox); simpa using this)) (Nq ?_)
  refine rf_conv rfl rfl rfl UU141 UU3 (wrap_ok Ox Ox) (Zx ?_); refine Zr ?_; refine Wx [0, 0] ?_; refine rfb_gtr rfl rfl rfl rfl ?_
  rintro (_ | _) h4 <;> try simp only [qd, ne_eq] at h4
  ·simp only [qz]
   refine Zr ?_; refine Wr [0, 0] ?_; refine Fd 0 0 UU38 ?_; refine rf_load rfl rfl rfl UU4 rfl (fun w hw => (Kn.hd0 hw).at rfl) (Nq ?_); refine rg_nil (ek_next ?_); refine wk_cond (t := _) rfl (fun h5 => ?_) (fun h5 => ?_)
   ·(try simp only [qd] at h5)
    refine Wx [0, 0, 0] ?_; refine rf_neg rfl rfl rfl (wrap_ok Ox Ox) (Zx ?_); refine Zr ?_; refine Wx [0, 0, 0] ?_; refine Zr ?_; refine ek_ret (fun w hw => ⟨rfl, _, res_tt _ _ rfl, ?_⟩); (try simp only [qz]); refine ⟨?_, hw.below⟩
    have e1 : -dig (digs n.natAbs) 0 = n := by (first | omega | (have := hlz.1 Ox; omega))
    rw [e1, smB_yes (n := n) Ox Ox]
    rfl
   (try simp only [qd] at h5); refine wk_skip (ek_next (wk_seq ?_)); refine Wx [0, 0, 0] ?_; refine Zr ?_; refine ek_ret (fun w hw => ⟨rfl, _, res_tt _ _ rfl, ?_⟩); (try simp only [qz]); refine ⟨?_, hw.below⟩
   have e1 : dig (digs n.natAbs) 0 = n := by (first | omega | (have := hlz.1 Ox; omega))
   rw [e1, smB_yes (n := n) Ox Ox]
   rfl
  simp only [qz]; refine Zr ?_; refine Wx [0, 0] ?_; refine Zr ?_; refine ek_ret (fun w hw => ⟨rfl, _, res_tt _ _ rfl, ?_⟩); (try simp only [qz]); refine ⟨?_, hw.below⟩; rw [smB_no (n := n) Ox]
  rfl
 simp only [qz]
 refine Zr ?_
 refine Wx [0, 0] ?_
 refine Zr ?_
 refine ek_ret (fun w hw => ⟨rfl, _, res_tt _ _ rfl, ?_⟩)
 (try simp only [qz])
 refine ⟨?_, hw.below⟩
 have hb := hbig Ox
 rw [smB_no (n := n) Ox]
 rfl
theorem Dg_zero (n : Nat) : Dg (List.replicate n 0) := fun x hx => by rw [List.mem_replicate] at hx; omega
theorem half_step {xs zs : List Int} {i : Nat} {v : Int} (h : 2 * dval (zs.take i) + dig xs 0 % 2 = dval (xs.take i) + 4294967296 ^ i * (dig xs i % 2)) (hi : i < zs.length)
    (hv : 2 * v = dig xs i - dig xs i % 2 + 4294967296 * (dig xs (i + 1) % 2)) : 2 * dval ((zs.set i v).take (i + 1)) + dig xs 0 % 2 = dval (xs.take (i + 1)) + 4294967296 ^ (i + 1) * (dig xs (i + 1) % 2) := by
  rw [dval_take', dval_take', dig_set _ _ hi, if_pos rfl, pw_succ]
  have e : (zs.set i v).take i = zs.take i := by rw [List.take_set_of_le (Nat.le_refl _)]
  rw [e]
  have e2 : (4294967296 : Int) ^ i * (2 * v) = 4294967296 ^ i * dig xs i - 4294967296 ^ i * (dig xs i % 2) + 4294967296 ^ i * (4294967296 * (dig xs (i + 1) % 2)) := by rw [hv]; grind
  grind
theorem bhalf_any (n : Int) (s : Value) (hl : (digs n.natAbs).length ≤ 1000) (he : n % 2 = 0) (w : World) (hs : SA w s n.natAbs) : Calls Tryz.prog 49 #[bgV n s] w fun e w' => RetB w (n / 2) e w' := by
 obtain ⟨a, c, rfl, hA⟩ := hs
 go_enter Tryz.func49, Tryz.ntmps49
 refine wk_start ?_
 refine wk_seq ?_
 refine Wr [1, 1] ?_
 refine Rgn fun g1 => ?_
 simp only [qz]
 refine Rgn fun g2 => ?_
 simp only [qz]
 refine Zr ?_
 refine Wr [0, 0, 0, 1, 0] ?_
 refine Fd 0 1 UU38 ?_
 refine rf_load rfl rfl rfl UU36 rfl (fun w hw => (Kn.hd0 (Kn.tl hw)).at rfl) (Nq ?_)
 refine rf_len rfl rfl rfl UU36 (Nq ?_)
 refine rg_makeU (n := (digs n.natAbs).length) Rx rfl rfl Ox Ox Nz (fun g3 => ?_)
 refine Zm ?_
 refine Zr ?_
 refine Wm [0] ?_
 refine Zr ?_
 refine wk_loopF [4, 9, 10, 11, 12, 13, 14, 15, 16, 17, 18, 19, 20, 21, 22, 23, 24, 25, 26, 27, 28, 29, 30, 31, 32, 33, 34, 35, 36, 37, 38, 39, 40, 41, 42, 43, 44, 45] (fun mz f s => ∃ (i : Nat) (zs : List Int), f 3 = .slice (some ⟨g3, 0, none⟩) (digs n.natAbs).length (digs n.natAbs).length ∧ f 4 = .int .i64 i ∧ s = ((g3, .cells (us zs).toArray 141) :: ((g2, .cells #[.bool false, .slice none 0 0] 38) :: ((g1, .cells #[.bool (decide (n < 0)), .slice a (digs n.natAbs).length c] 38) :: []))) ∧ mz = (digs n.natAbs).length - i ∧ zs.length ≤ (digs n.natAbs).length ∧ (digs n.natAbs).length ≤ zs.length ∧ Dg zs ∧ 2 * dval (zs.take i) + dig (digs n.natAbs) 0 % 2 = dval ((digs n.natAbs).take i) + 4294967296 ^ i * (dig (digs n.natAbs) i % 2) ∧ i ≤ (digs n.natAbs).length) ((fun (i : Nat) (zs : List Int) => (digs n.natAbs).length - i) (0) ((List.replicate (digs n.natAbs).length 0))) ?_ Kx ?_
 ·exact ⟨0, (List.replicate (digs n.natAbs).length 0), rfl, rfl, rfl, rfl, by simp, by simp, Dg_zero _, by simp [dval], by omega⟩
 rintro mz f1 s ⟨i, zs, hs1_3, hs1_4, rfl, hn, hc1, hc2, hc3, hc4, hc5⟩
 simp only [Act.putF, List.foldl_cons, List.foldl_nil, hs1_3, hs1_4, Act.put, Act.eval, qW, Nat.reduceAdd, Bool.not_true, Bool.not_false]
 clear hs1_3 hs1_4
 have heq := Lib.hid hc4
 clear hc4
 refine wk_seq (wk_seq ?_)
 refine Wm [0, 0, 0, 0, 0] ?_
 refine Fd 0 1 UU38 ?_
 refine rf_load rfl rfl rfl UU36 rfl (fun w hw => (Kn.hd0 (Kn.tl (Kn.tl hw))).at rfl) (Nq ?_)
 refine rf_len rfl rfl rfl UU36 (Nq ?_)
 refine rfb_lss rfl rfl rfl rfl ?_
 rintro (_ | _) h1 <;> try simp only [qd, ne_eq] at h1
 ·simp only [qz]
  refine Zr ?_; refine wk_draws_m (hz1 := (sc _ (sk _ (sc _ sn)))) [(0, 0), (1, 0), (2, 0), (3, 1), (4, 0), (5, 2)] 5 Kx Kx (fun c d v a w h => by cases d <;> exact h) ?_; simp only [List.map_cons, List.map_nil, List.getD_cons_zero, List.getD_cons_succ]; refine Fd 0 0 UU38 ?_; refine rf_load rfl rfl rfl UU4 rfl (fun w hw => (Kn.hd0 (Kn.tl (Kn.tl hw))).at rfl) (Zm ?_)
  have hO := OwnG.wholeU (g := g3) (zs := zs) Ox
  have hzl : zs.length = (digs n.natAbs).length := by omega
  rw [hzl] at hO
  apply (rg_or (X := fun v => ∃ m, m ≤ zs.length ∧ v = .slice (some ⟨g3, 0, none⟩) m (digs n.natAbs).length ∧ (∀ j, m ≤ j → dig zs j = 0) ∧ (m = 0 ∨ dig zs (m - 1) ≠ 0))) Rx Kx
  case hargs => exact Ax
  case h => exact fun w hw => by have := trimmed_any zs (some ⟨g3, 0, none⟩) (digs n.natAbs).length hc3 Ox Ox w (hO.as' (Kn.sub (s' := [(g3, .cells (us zs).toArray 141)] ++ []) hw (sc _ (sk _ (sk _ sn))))); rw [hzl] at this; exact this.mono fun e w' ⟨m, h1, h2, h3, h4, h5⟩ => ⟨_, h2, ⟨m, hzl ▸ h1, rfl, h3, h4⟩, h5⟩
  case hz => exact (fun _ h => by cases h; exact (sc _ (sc _ (sc _ sn))))
  rintro v ⟨m, hm1, rfl, hm2, hm3⟩
  simp only [qz]; refine rf_build (cs := fun a => #[a.eval (.tmp 47), a.eval (.tmp 49)]) rfl rfl Kx (Nq ?_); refine rf_storeRM (n := 2) rfl rfl Kx rfl rfl (UpdR.there _ (UpdR.here _ _ _ Nl)) (sc _ (sk _ (sc _ sn))) (Nw ?_); refine Zr ?_; refine ek_ret (fun w hw => ⟨rfl, _, run_results1 rfl rfl (Kn.hd0 (Kn.tl hw)) UU38 rfl Kx, ?_⟩); (try simp only [qz])
  have e1 : dval zs = (n / 2).natAbs := by
   have h1 := heq.out
   rw [List.take_of_length_le Ox, List.take_of_length_le Ox, dval_digs, dig_out (k := i) Ox, digs_even] at h1
   have h3 := (dval_range hc3).1
   omega
  have e2 : (dval zs).toNat = (n / 2).natAbs := by omega
  have hS := SU.own hO m hm1 ((trim_eq hc3 hm1 hm2 hm3).trans (by rw [e2])) (a := some ⟨g3, 0, none⟩) (c := (digs n.natAbs).length) (by rw [hzl])
  refine ⟨_, _, rfl, ⟨.slice (some ⟨g3, 0, none⟩) m (digs n.natAbs).length, ?_, hS⟩, hw.made (sc _ (sk _ (sk _ sn)))⟩
  unfold bgV
  rw [show decide (n / 2 < 0) = decide (n < 0) from decide_eq_decide.2 Ox]
 simp only [qz]
 have hpos : 0 < (digs n.natAbs).length := by omega
 obtain ⟨b, off, rfl, hlt, hcell⟩ := AS.openU hA hpos
 have hdi := (digs_dg n.natAbs).at i
 have hdi1 := (digs_dg n.natAbs).at (i + 1)
 refine Zr ?_
 refine Wm [0, 0, 0, 0, 0, 0, 0, 0, 0, 1] ?_
 refine Fd 0 1 UU38 ?_
 refine rf_load rfl rfl rfl UU36 rfl (fun w hw => (Kn.hd0 (Kn.tl (Kn.tl hw))).at rfl) (Zm ?_)
 refine rf_indexS (n := i) (sz := 1) (j := off + i * 1) rfl rfl rfl rfl UU36 Kx Ox Ox rfl (Nq ?_)
 refine rf_load rfl rfl rfl UU141 rfl (fun w hw => (by have := (Kn.cellB hw hlt (by simp) (off + i)).trans (hcell i Ox); simpa using this)) (Nq ?_)
 refine rf_shr (c := 1) (q := 2) rfl rfl rfl rfl rfl (by decide) (Nq ?_)
 refine rf_indexS (n := i) (sz := 1) (j := i) rfl rfl rfl rfl UU36 Kx Ox Ox Ox (Nq ?_)
 refine rf_storeU (i := i) (z := dig (digs n.natAbs) i / 2) rfl rfl (by (try simp only [List.length_set]); omega) (Rep.here _) Nz (Nq ?_)
 refine Zr ?_
 refine Wm [0, 0, 0, 0, 0, 0] ?_
 refine rf_add rfl rfl rfl rfl (wrap_ok Ox Ox) (Nq ?_)
 refine Fd 0 1 UU38 ?_
 refine rf_load rfl rfl rfl UU36 rfl (fun w hw => (Kn.hd0 (Kn.tl (Kn.tl hw))).at rfl) (Nq ?_)
 refine rf_len rfl rfl rfl UU36 (Nq ?_)
 refine rfb_lss rfl rfl rfl rfl ?_
 rintro (_ | _) h2 <;> try simp only [qd, ne_eq] at h2
 ·simp only [qz]
  refine Zr ?_; refine Wm [0, 0, 0] ?_; refine rf_add rfl rfl rfl rfl (wrap_ok Ox Ox) (Zm ?_); refine rg_nil ?_
  have hx1 := dig_out (xs := (digs n.natAbs)) (k := i + 1) Ox
  have hst := half_step (xs := (digs n.natAbs)) (zs := zs) (i := i) (v := dig (digs n.natAbs) i / 2) heq.out Ox Ox
  refine ek_roundF ((digs n.natAbs).length - (i + 1)) Ox Kx ?_
  exact ⟨i + 1, zs.set i (dig (digs n.natAbs) i / 2), rfl, rfl, Rx, by rfl, (by rw [List.length_set]; exact hc1), (by rw [List.length_set]; exact hc2), Dg.set hc3 i Ox Ox, hst, Ox⟩
 simp only [qz]
 have hset : dig (zs.set i (dig (digs n.natAbs) i / 2)) i = dig (digs n.natAbs) i / 2 := by rw [dig_set _ _ Ox, if_pos rfl]
 have hor := or_u32 (x := dig (digs n.natAbs) i / 2) (y := dig (digs n.natAbs) (i + 1) * 2147483648 % 4294967296) Ox Ox Ox
 refine Zr ?_
 refine wk_draws_m (hz1 := (sk _ (sc _ (sc _ sn)))) [(0, 0), (1, 0), (2, 0), (3, 0), (4, 0), (5, 0), (6, 0), (7, 0), (8, 0), (9, 0), (10, 0), (11, 0), (12, 0), (13, 0), (14, 0), (15, 2)] 15 Kx Kx (fun c d v a w h => by cases d <;> exact h) ?_
 simp only [List.map_cons, List.map_nil, List.getD_cons_zero, List.getD_cons_succ]
 refine Zm ?_
 refine rf_indexS (n := i) (sz := 1) (j := i) rfl rfl rfl rfl UU36 Kx Ox Ox Ox (Nq ?_)
 refine rf_load rfl rfl rfl UU141 rfl (fun w hw => (Kn.hd0 hw).at (us_getA _ _ (by (try simp only [List.length_set]); omega))) (Nq ?_)
 refine Fd 0 1 UU38 ?_
 refine rf_load rfl rfl rfl UU36 rfl (fun w hw => (Kn.hd0 (Kn.tl (Kn.tl hw))).at rfl) (Zm ?_)
 refine rf_add rfl rfl rfl rfl (wrap_ok Ox Ox) (Nq ?_)
 refine rf_indexS (n := i + 1) (sz := 1) (j := off + (i + 1) * 1) rfl rfl rfl rfl UU36 Kx Ox Ox rfl (Nq ?_)
 refine rf_load rfl rfl rfl UU141 rfl (fun w hw => (by have := (Kn.cellB hw hlt (by simp) (off + (i + 1))).trans (hcell (i + 1) Ox); simpa using this)) (Nq ?_)
 refine rf_shl (c := 31) (q := 2147483648) rfl rfl rfl rfl rfl (by decide) (IntKind.wrap_u32 _) (Nq ?_)
 refine Zk ?_
 refine rf_indexS (n := i) (sz := 1) (j := i) rfl rfl rfl rfl UU36 Kx Ox Ox Ox (Nq ?_)
 refine rf_storeUM (i := i) (z := dig (digs n.natAbs) i / 2 + dig (digs n.natAbs) (i + 1) * 2147483648 % 4294967296) rfl rfl (by (try simp only [List.length_set]); omega) (Rep.here _) (sk _ (sc _ (sc _ sn))) (Nq ?_)
 refine Zr ?_
 refine Wm [0, 0, 0] ?_
 refine rf_add rfl rfl rfl rfl (wrap_ok Ox Ox) (Zm ?_)
 refine rg_nil ?_
 have hst := half_step (xs := (digs n.natAbs)) (zs := zs) (i := i) (v := dig (digs n.natAbs) i / 2 + dig (digs n.natAbs) (i + 1) * 2147483648 % 4294967296) heq.out Ox Ox
 refine ek_roundF ((digs n.natAbs).length - (i + 1)) Ox Kx ?_
 exact ⟨i + 1, zs.set i (dig (digs n.natAbs) i / 2 + dig (digs n.natAbs) (i + 1) * 2147483648 % 4294967296), rfl, rfl, (by rw [List.set_set]), by rfl, (by rw [List.length_set]; exact hc1), (by rw [List.length_set]; exact hc2), Dg.set hc3 i Ox Ox, hst, Ox⟩
theorem dig_rep (n j : Nat) : dig (List.replicate n 0) j = 0 := by
 unfold dig; rw [List.getD_eq_getElem?_getD, List.getElem?_replicate]; split <;> rfl
theorem dig_mul {x y : Int} (h0 : 0 ≤ x) (h1 : x < 4294967296) (h2 : 0 ≤ y) (h3 : y < 4294967296) : 0 ≤ x * y ∧ x * y ≤ 18446744065119617025 :=
  ⟨Int.mul_nonneg h0 h2, Int.mul_le_mul (show x ≤ 4294967295 by omega) (show y ≤ 4294967295 by omega) h2 Ox⟩
theorem mul_step {xs vs zs : List Int} {i k : Nat} {cy t : Int} (hi : i + k < zs.length) (h : dval zs + 4294967296 ^ (i + k) * cy = dval (xs.take i) * dval vs + 4294967296 ^ i * (dig xs i * dval (vs.take k)))
    (ht : t = dig xs i * dig vs k + dig zs (i + k) + cy) : dval (zs.set (i + k) (t % 4294967296)) + 4294967296 ^ (i + (k + 1)) * (t / 4294967296) = dval (xs.take i) * dval vs + 4294967296 ^ i * (dig xs i * dval (vs.take (k + 1))) := by
  rw [dval_set _ hi, dval_take', ← Nat.add_assoc, pw_succ]
  have e : (4294967296 : Int) ^ (i + k) * (t % 4294967296) + 4294967296 * 4294967296 ^ (i + k) * (t / 4294967296) = 4294967296 ^ (i + k) * t := by
    have := Int.mul_ediv_add_emod t 4294967296
    grind
  have e2 : (4294967296 : Int) ^ (i + k) * t = 4294967296 ^ (i + k) * (dig xs i * dig vs k) + 4294967296 ^ (i + k) * dig zs (i + k) + 4294967296 ^ (i + k) * cy := by rw [ht]; grind
  have e3 : (4294967296 : Int) ^ (i + k) = 4294967296 ^ i * 4294967296 ^ k := Int.pow_add ..
  rw [e3] at *
  grind
theorem mul_row {xs vs zs : List Int} {i : Nat} {cy : Int} (hi : i < xs.length) (hl : i + vs.length < zs.length) (hz : ∀ j, i + vs.length ≤ j → dig zs j = 0)
    (h : dval zs + 4294967296 ^ (i + vs.length) * cy = dval (xs.take i) * dval vs + 4294967296 ^ i * (dig xs i * dval (vs.take vs.length))) : dval (zs.set (i + vs.length) cy) = dval (xs.take (i + 1)) * dval vs := by
  rw [dval_set _ hl, hz _ (Nat.le_refl _), dval_take']; rw [List.take_of_length_le (Nat.le_refl _)] at h
  grind
theorem sgn_mul {m n : Int} (hm : m ≠ 0) (hn : n ≠ 0) : decide (m * n < 0) = (decide (m < 0) != decide (n < 0)) := by
 rcases Int.lt_or_gt_of_ne hm with h1 | h1 <;> rcases Int.lt_or_gt_of_ne hn with h2 | h2
 ·have := Int.mul_pos_of_neg_of_neg h1 h2
  rw [decide_eq_true h1, decide_eq_true h2, decide_eq_false Ox]; rfl
 ·have := Int.mul_neg_of_neg_of_pos h1 h2
  rw [decide_eq_true h1, decide_eq_false (show ¬ n < 0 by omega), decide_eq_true Ox]; rfl
 ·have := Int.mul_neg_of_pos_of_neg h1 h2
  rw [decide_eq_false (show ¬ m < 0 by omega), decide_eq_true h2, decide_eq_true Ox]; rfl
 have := Int.mul_pos h1 h2
 rw [decide_eq_false (show ¬ m < 0 by omega), decide_eq_false (show ¬ n < 0 by omega), decide_eq_false Ox]; rfl
theorem bmul_any (m n : Int) (s s2 : Value) (hl : (digs m.natAbs).length ≤ 1000) (hl2 : (digs n.natAbs).length ≤ 1000) (w : World) (hs : SA w s m.natAbs) (hs2 : SA w s2 n.natAbs) : Calls Tryz.prog 46 #[bgV m s, bgV n s2] w fun e w' => RetB w (m * n) e w' := by
 obtain ⟨a, c, rfl, hA⟩ := hs
 obtain ⟨a2, c2, rfl, hA2⟩ := hs2
 have hlm : (digs m.natAbs).length = 0 ↔ m = 0 := by rw [List.length_eq_zero_iff, digs_nil_iff]; omega
 have hln : (digs n.natAbs).length = 0 ↔ n = 0 := by rw [List.length_eq_zero_iff, digs_nil_iff]; omega
 go_enter Tryz.func46, Tryz.ntmps46
 refine wk_start ?_
 refine wk_seq ?_
 refine Wr [1, 1, 1] ?_
 refine Rgn fun g1 => ?_
 simp only [qz]
 refine Rgn fun g2 => ?_
 simp only [qz]
 refine Rgn fun g3 => ?_
 simp only [qz]
 refine Zr ?_
 refine Wr [0, 0, 0, 0, 0, 0, 0, 0, 0, 0] ?_
 refine Fd 0 1 UU38 ?_
 refine rf_load rfl rfl rfl UU36 rfl (fun w hw => (Kn.hd0 (Kn.tl (Kn.tl hw))).at rfl) (Nq ?_)
 refine rf_len rfl rfl rfl UU36 (Nq ?_)
 refine rfb_eql rfl rfl rfl rfl ?_
 rintro (_ | _) h1 <;> try simp only [qd, ne_eq] at h1
 ·refine Zx ?_
  refine Fd 0 1 UU38 ?_; refine rf_load rfl rfl rfl UU36 rfl (fun w hw => (Kn.hd0 (Kn.tl hw)).at rfl) (Nq ?_); refine rf_len rfl rfl rfl UU36 (Nq ?_); refine rfb_eql rfl rfl rfl rfl ?_
  rintro (_ | _) h2 <;> try simp only [qd, ne_eq] at h2
  ·simp only [qz]
   obtain ⟨b, off, rfl, hlt, hcell⟩ := AS.openU hA Ox
   obtain ⟨b2, off2, rfl, hlt2, hcell2⟩ := AS.openU hA2 Ox
   have hdx := digs_dg m.natAbs
   have hdy := digs_dg n.natAbs
   refine Zx ?_; refine Zr ?_; refine Wr [0, 0, 0, 0, 0, 0, 0, 1, 0] ?_; refine Fd 0 1 UU38 ?_; refine rf_load rfl rfl rfl UU36 rfl (fun w hw => (Kn.hd0 (Kn.tl (Kn.tl hw))).at rfl) (Nq ?_); refine rf_len rfl rfl rfl UU36 (Nq ?_); refine Fd 0 1 UU38 ?_; refine rf_load rfl rfl rfl UU36 rfl (fun w hw => (Kn.hd0 (Kn.tl hw)).at rfl) (Nq ?_); refine rf_len rfl rfl rfl UU36 (Nq ?_)
   refine rf_add rfl rfl rfl rfl (wrap_ok Ox Ox) (Nq ?_); refine rg_makeU (n := (digs m.natAbs).length + (digs n.natAbs).length) Rx rfl rfl Ox Ox Nz (fun g4 => ?_); refine Zx ?_; refine Zr ?_; refine Wx [0] ?_; refine Zr ?_; refine wk_loopF [6, 7, 8, 9, 29, 30, 31, 32, 33, 34, 35, 36, 37, 38, 39, 40, 41, 42, 43, 44, 45, 46, 47, 48, 49, 50, 51, 52, 53, 54, 55, 56, 57, 58, 59, 60, 61, 62, 63, 64, 65, 66, 67, 68, 69, 70, 71, 72, 73, 74, 75, 76, 77, 78, 79, 80, 81, 82, 83] (fun mz f s => ∃ (i : Nat) (zs : List Int), f 5 = .slice (some ⟨g4, 0, none⟩) ((digs m.natAbs).length + (digs n.natAbs).length) ((digs m.natAbs).length + (digs n.natAbs).length) ∧ f 6 = .int .i64 i ∧ s = ((g4, .cells (us zs).toArray 141) :: ((g3, .cells #[.bool false, .slice none 0 0] 38) :: ((g2, .cells #[.bool (decide (n < 0)), .slice (some ⟨b2, off2, none⟩) (digs n.natAbs).length c2] 38) :: ((g1, .cells #[.bool (decide (m < 0)), .slice (some ⟨b, off, none⟩) (digs m.natAbs).length c] 38) :: [])))) ∧ mz = (digs m.natAbs).length - i ∧ i ≤ (digs m.natAbs).length ∧ zs.length ≤ (digs m.natAbs).length + (digs n.natAbs).length ∧ (digs m.natAbs).length + (digs n.natAbs).length ≤ zs.length ∧ Dg zs ∧ dval zs = dval ((digs m.natAbs).take i) * dval (digs n.natAbs) ∧ (∀ j, i + (digs n.natAbs).length ≤ j → dig zs j = 0)) ((fun (i : Nat) (zs : List Int) => (digs m.natAbs).length - i) (0) ((List.replicate ((digs m.natAbs).length + (digs n.natAbs).length) 0))) ?_ Kx ?_
   ·exact ⟨0, (List.replicate ((digs m.natAbs).length + (digs n.natAbs).length) 0), rfl, rfl, rfl, rfl, by omega, by simp, by simp, Dg_zero _, (by simp [dval, dval_zero (dig_rep _)]), fun j hj => dig_rep _ j⟩
   rintro mz f1 s ⟨i, zs, hs1_5, hs1_6, rfl, hn, hc1, hc2, hc3, hc4, hc5, hc6⟩
   simp only [Act.putF, List.foldl_cons, List.foldl_nil, hs1_5, hs1_6, Act.put, Act.eval, qW, Nat.reduceAdd, Bool.not_true, Bool.not_false]; clear hs1_5 hs1_6
   have heq := Lib.hid hc5
   clear hc5; refine wk_seq (wk_seq ?_); refine Wx [0, 0, 0, 0, 0] ?_; refine Fd 0 1 UU38 ?_; refine rf_load rfl rfl rfl UU36 rfl (fun w hw => (Kn.hd0 (Kn.tl (Kn.tl (Kn.tl hw)))).at rfl) (Nq ?_); refine rf_len rfl rfl rfl UU36 (Nq ?_); refine rfb_lss rfl rfl rfl rfl ?_
   rintro (_ | _) h3 <;> try simp only [qd, ne_eq] at h3
   ·simp only [qz]
    refine Zr ?_; refine wk_draws_m (hz1 := (sc _ (sk _ (sc _ (sc _ sn))))) [(0, 0), (1, 0), (2, 0), (3, 0), (4, 0), (5, 0), (6, 1), (7, 0), (8, 2)] 8 Kx Kx (fun c d v a w h => by cases d <;> exact h) ?_; simp only [List.map_cons, List.map_nil, List.getD_cons_zero, List.getD_cons_succ]; refine Fd 0 0 UU38 ?_; refine rf_load rfl rfl rfl UU4 rfl (fun w hw => (Kn.hd0 (Kn.tl (Kn.tl (Kn.tl hw)))).at rfl) (Nq ?_)
    refine Fd 0 0 UU38 ?_; refine rf_load rfl rfl rfl UU4 rfl (fun w hw => (Kn.hd0 (Kn.tl (Kn.tl hw))).at rfl) (Nq ?_); refine Zk ?_
    have hO := OwnG.wholeU (g := g4) (zs := zs) Ox
    have hzl : zs.length = (digs m.natAbs).length + (digs n.natAbs).length := by omega
    rw [hzl] at hO
    apply (rg_or (X := fun v => ∃ k, k ≤ zs.length ∧ v = .slice (some ⟨g4, 0, none⟩) k ((digs m.natAbs).length + (digs n.natAbs).length) ∧ (∀ j, k ≤ j → dig zs j = 0) ∧ (k = 0 ∨ dig zs (k - 1) ≠ 0))) Rx Kx
    case hargs => exact Ax
    case h => exact fun w hw => by have := trimmed_any zs (some ⟨g4, 0, none⟩) ((digs m.natAbs).length + (digs n.natAbs).length) hc4 Ox Ox w (hO.as' (Kn.sub (s' := [(g4, .cells (us zs).toArray 141)] ++ []) hw (sc _ (sk _ (sk _ (sk _ sn)))))); rw [hzl] at this; exact this.mono fun e w' ⟨m, h1, h2, h3, h4, h5⟩ => ⟨_, h2, ⟨m, hzl ▸ h1, rfl, h3, h4⟩, h5⟩
    case hz => exact (fun _ h => by cases h; exact (sc _ (sc _ (sc _ (sc _ sn)))))
    rintro v ⟨k, hm1, rfl, hm2, hm3⟩
    simp only [qz]; refine rf_build (cs := fun a => #[a.eval (.tmp 88), a.eval (.tmp 90)]) rfl rfl Kx (Nq ?_); refine rf_storeRM (n := 2) rfl rfl Kx rfl rfl (UpdR.there _ (UpdR.here _ _ _ Nl)) (sc _ (sk _ (sc _ (sc _ sn)))) (Nw ?_); refine Zr ?_; refine ek_ret (fun w hw => ⟨rfl, _, run_results1 rfl rfl (Kn.hd0 (Kn.tl hw)) UU38 rfl Kx, ?_⟩); (try simp only [qz])
    have hm0 : m ≠ 0 := fun e => by have := hlm.2 e; omega
    have hn0 : n ≠ 0 := fun e => by have := hln.2 e; omega
    have e1 : dval zs = m.natAbs * n.natAbs := by
     have h1 := heq.out
     rw [List.take_of_length_le Ox, dval_digs, dval_digs] at h1
     exact h1
    have e2 : (dval zs).toNat = (m * n).natAbs := by rw [e1, Int.natAbs_mul]; omega
    have hS := SU.own hO k hm1 ((trim_eq hc4 hm1 hm2 hm3).trans (by rw [e2])) (a := some ⟨g4, 0, none⟩) (c := (digs m.natAbs).length + (digs n.natAbs).length) (by rw [hzl])
    refine ⟨_, _, rfl, ⟨.slice (some ⟨g4, 0, none⟩) k ((digs m.natAbs).length + (digs n.natAbs).length), ?_, hS⟩, hw.made (sc _ (sk _ (sk _ (sk _ sn))))⟩
    unfold bgV
    rw [sgn_mul hm0 hn0]
    rfl
   simp only [qz]
   have hxi := hdx.at i
   refine Zr ?_; refine Wx [0] ?_; refine Zr ?_; refine Wx [0] ?_; refine Zr ?_
   have hi1 : i < (digs m.natAbs).length := by omega
   refine wk_loopF [7, 8, 9, 36, 37, 38, 39, 40, 41, 42, 43, 44, 45, 46, 47, 48, 49, 50, 51, 52, 53, 54, 55, 56, 57, 58, 59, 60, 61, 62, 63, 64, 65, 66, 67, 68, 69, 70, 71, 72, 73, 74] (fun mz f s => ∃ (k : Nat) (cy : Int) (ys : List Int), f 5 = .slice (some ⟨g4, 0, none⟩) ((digs m.natAbs).length + (digs n.natAbs).length) ((digs m.natAbs).length + (digs n.natAbs).length) ∧ f 6 = .int .i64 i ∧ f 7 = .int .u64 cy ∧ f 8 = .int .i64 k ∧ s = ((g4, .cells (us ys).toArray 141) :: ((g3, .cells #[.bool false, .slice none 0 0] 38) :: ((g2, .cells #[.bool (decide (n < 0)), .slice (some ⟨b2, off2, none⟩) (digs n.natAbs).length c2] 38) :: ((g1, .cells #[.bool (decide (m < 0)), .slice (some ⟨b, off, none⟩) (digs m.natAbs).length c] 38) :: [])))) ∧ mz = (digs n.natAbs).length - k ∧ k ≤ (digs n.natAbs).length ∧ ys.length ≤ (digs m.natAbs).length + (digs n.natAbs).length ∧ (digs m.natAbs).length + (digs n.natAbs).length ≤ ys.length ∧ Dg ys ∧ 0 ≤ cy ∧ cy < 4294967296 ∧ dval ys + 4294967296 ^ (i + k) * cy = dval ((digs m.natAbs).take i) * dval (digs n.natAbs) + 4294967296 ^ i * (dig (digs m.natAbs) i * dval ((digs n.natAbs).take k)) ∧ (∀ j, i + (digs n.natAbs).length ≤ j → dig ys j = 0)) ((fun (k : Nat) (cy : Int) (ys : List Int) => (digs n.natAbs).length - k) (0) (0) (zs)) ?_ Kx ?_
   ·exact ⟨0, 0, zs, rfl, rfl, rfl, rfl, rfl, rfl, by omega, hc2, hc3, hc4, by omega, by omega, (by have := heq.out; simp [dval]; exact this), hc6⟩
   rintro mz f2 s ⟨k, cy, ys, hs2_5, hs2_6, hs2_7, hs2_8, rfl, hn, he1, he2, he3, he4, he5, he6, he7, he8⟩
   simp only [Act.putF, List.foldl_cons, List.foldl_nil, hs2_5, hs2_6, hs2_7, hs2_8, Act.put, Act.eval, qW, Nat.reduceAdd, Bool.not_true, Bool.not_false]; clear hs2_5 hs2_6 hs2_7 hs2_8
   have hd3 := he4
   have hd8 := he8
   have heq2 := Lib.hid he7
   clear he7 he4 he8; refine wk_seq (wk_seq ?_); refine Wx [0, 0, 0, 0, 0] ?_; refine Fd 0 1 UU38 ?_; refine rf_load rfl rfl rfl UU36 rfl (fun w hw => (Kn.hd0 (Kn.tl (Kn.tl hw))).at rfl) (Nq ?_); refine rf_len rfl rfl rfl UU36 (Nq ?_); refine rfb_lss rfl rfl rfl rfl ?_
   rintro (_ | _) h4 <;> try simp only [qd, ne_eq] at h4
   ·simp only [qz]
    refine Zr ?_; refine Wx [0, 0, 0, 0, 0, 0, 0, 0, 0, 1] ?_; refine Fd 0 1 UU38 ?_; refine rf_load rfl rfl rfl UU36 rfl (fun w hw => (Kn.hd0 (Kn.tl (Kn.tl hw))).at rfl) (Nq ?_); refine rf_len rfl rfl rfl UU36 (Nq ?_); refine rf_add rfl rfl rfl rfl (wrap_ok Ox Ox) (Zx ?_); refine rf_conv rfl rfl rfl UU140 UU141 (wrap32_ok Ox Ox) (Nq ?_); refine rf_indexS (n := i + (digs n.natAbs).length) (sz := 1) (j := i + (digs n.natAbs).length) rfl rfl rfl rfl UU36 Kx Ox Ox Ox (Nq ?_)
    refine rf_storeU (i := i + (digs n.natAbs).length) (z := cy) rfl rfl (by (try simp only [List.length_set]); omega) (Rep.here _) Nz (Nq ?_); refine Zr ?_; refine Wx [0, 0, 0] ?_; refine rf_add rfl rfl rfl rfl (wrap_ok Ox Ox) (Zx ?_); refine rg_nil ?_
    have hkl : k = (digs n.natAbs).length := by omega
    subst hkl
    have hst := mul_row (zs := ys) hi1 Ox hd8 heq2.out
    refine ek_roundF ((digs m.natAbs).length - (i + 1)) Ox Kx ?_
    exact ⟨i + 1, ys.set (i + (digs n.natAbs).length) cy, rfl, rfl, by rfl, by rfl, Ox, (by rw [List.length_set]; omega), (by rw [List.length_set]; omega), Dg.set hd3 _ Ox Ox, hst, fun j hj => by rw [dig_set _ _ Ox, if_neg Ox]; exact hd8 j Ox⟩
   simp only [qz]
   have hyk := hdy.at k
   have hzk := hd3.at (i + k)
   obtain ⟨hp0, hp1⟩ := dig_mul hxi.1 hxi.2 hyk.1 hyk.2
   refine Zr ?_; refine wk_draws _ _ [(0, 0), (1, 0), (2, 0), (3, 0), (4, 0), (5, 0), (6, 0), (7, 0), (8, 0), (9, 0), (10, 0), (11, 0), (12, 0), (13, 0), (14, 0), (15, 0), (16, 0), (17, 0), (18, 0), (19, 0), (20, 0), (21, 0), (22, 0), (23, 0)] [] Kx Kx (fun c d v a w h => by cases d <;> exact h) ((sc _ (sc _ (sc _ (sc _ sn))))) (fun e => by first | exact absurd e (by decide) | rfl) ?_; simp only [List.map_cons, List.map_nil, List.getD_cons_zero, List.getD_cons_succ]
   refine Fd 0 1 UU38 ?_; refine rf_load rfl rfl rfl UU36 rfl (fun w hw => (Kn.hd0 (Kn.tl (Kn.tl (Kn.tl hw)))).at rfl) (Zx ?_); refine rf_indexS (n := i) (sz := 1) (j := off + i * 1) rfl rfl rfl rfl UU36 Kx Ox Ox rfl (Nq ?_); refine rf_load rfl rfl rfl UU141 rfl (fun w hw => (by have := (Kn.cellB hw hlt (by simp) (off + i)).trans (hcell i Ox); simpa using this)) (Nq ?_)
   refine rf_conv rfl rfl rfl UU141 UU140 (wrap_okU Ox Ox) (Nq ?_); refine Fd 0 1 UU38 ?_; refine rf_load rfl rfl rfl UU36 rfl (fun w hw => (Kn.hd0 (Kn.tl (Kn.tl hw))).at rfl) (Zx ?_); refine rf_indexS (n := k) (sz := 1) (j := off2 + k * 1) rfl rfl rfl rfl UU36 Kx Ox Ox rfl (Nq ?_); refine rf_load rfl rfl rfl UU141 rfl (fun w hw => (by have := (Kn.cellB hw hlt2 (by simp) (off2 + k)).trans (hcell2 k Ox); simpa using this)) (Nq ?_)
   refine rf_conv rfl rfl rfl UU141 UU140 (wrap_okU Ox Ox) (Nq ?_); refine rf_mul rfl rfl rfl rfl (wrap_okU Ox Ox) (Zx ?_); refine rf_add rfl rfl rfl rfl (wrap_ok Ox Ox) (Nq ?_); refine rf_indexS (n := i + k) (sz := 1) (j := i + k) rfl rfl rfl rfl UU36 Kx Ox Ox Ox (Nq ?_); refine rf_load rfl rfl rfl UU141 rfl (fun w hw => (Kn.hd0 hw).at (us_getA _ _ (by (try simp only [List.length_set]); omega))) (Nq ?_)
   refine rf_conv rfl rfl rfl UU141 UU140 (wrap_okU Ox Ox) (Nq ?_); refine rf_add rfl rfl rfl rfl (wrap_okU Ox Ox) (Zx ?_); refine rf_add rfl rfl rfl rfl (wrap_okU Ox Ox) (Zx ?_); refine Zr ?_; refine Wx [0, 0, 0, 0, 0, 0, 0, 1] ?_; refine rf_add rfl rfl rfl rfl (wrap_ok Ox Ox) (Zx ?_); refine rf_conv rfl rfl rfl UU140 UU141 (IntKind.wrap_u32 _) (Nq ?_); refine rf_indexS (n := i + k) (sz := 1) (j := i + k) rfl rfl rfl rfl UU36 Kx Ox Ox Ox (Nq ?_)
   refine rf_storeU (i := i + k) (z := (dig (digs m.natAbs) i * dig (digs n.natAbs) k + dig ys (i + k) + cy) % 4294967296) rfl rfl (by (try simp only [List.length_set]); omega) (Rep.here _) Nz (Nq ?_); refine rg_nil (ek_next ?_); refine Wx [0, 0, 0] ?_; refine rf_shr (c := 32) (q := 4294967296) rfl rfl rfl rfl rfl (by decide) (Zx ?_); refine Zr ?_; refine Wx [0, 0, 0] ?_; refine rf_add rfl rfl rfl rfl (wrap_ok Ox Ox) (Zx ?_)
   refine rg_nil ?_
   have hst := mul_step (t := dig (digs m.natAbs) i * dig (digs n.natAbs) k + dig ys (i + k) + cy) Ox heq2.out rfl
   refine ek_roundF ((digs n.natAbs).length - (k + 1)) Ox Kx ?_
   exact ⟨k + 1, (dig (digs m.natAbs) i * dig (digs n.natAbs) k + dig ys (i + k) + cy) / 4294967296, ys.set (i + k) ((dig (digs m.natAbs) i * dig (digs n.natAbs) k + dig ys (i + k) + cy) % 4294967296), rfl, rfl, rfl, rfl, by rfl, by rfl, Ox, (by rw [List.length_set]; omega), (by rw [List.length_set]; omega), Dg.set hd3 _ Ox Ox, Ox, Ox, hst, fun j hj => by rw [dig_set _ _ Ox, if_neg Ox]; exact hd8 j hj⟩
  refine Zx ?_; refine Zr ?_; refine Wr [0, 1] ?_; refine rf_build (cs := fun a => #[.bool false, .slice none 0 0]) rfl rfl Kx (Nq ?_); refine rf_storeR (n := 2) rfl rfl Kx rfl rfl (UpdR.here _ _ _ Nl) Nz (Nw ?_); refine Zr ?_; refine ek_ret (fun w hw => ⟨rfl, _, run_results1 rfl rfl (Kn.hd0 hw) UU38 rfl Kx, ?_⟩); (try simp only [qz])
  have h0 : m = 0 ∨ n = 0 := by (first | exact .inl (hlm.1 Ox) | exact .inr (hln.1 Ox))
  have e0 : m * n = 0 := by rcases h0 with h | h <;> rw [h] <;> simp
  exact ⟨_, [], rfl, ⟨.slice none 0 0, by unfold bgV; rw [e0]; rfl, by rw [e0]; exact SU.nil⟩, hw.made (List.nil_sublist _)⟩
 refine Zx ?_
 refine Zr ?_
 refine Wr [0, 1] ?_
 refine rf_build (cs := fun a => #[.bool false, .slice none 0 0]) rfl rfl Kx (Nq ?_)
 refine rf_storeR (n := 2) rfl rfl Kx rfl rfl (UpdR.here _ _ _ Nl) Nz (Nw ?_)
 refine Zr ?_
 refine ek_ret (fun w hw => ⟨rfl, _, run_results1 rfl rfl (Kn.hd0 hw) UU38 rfl Kx, ?_⟩)
 (try simp only [qz])
 have h0 : m = 0 ∨ n = 0 := by (first | exact .inl (hlm.1 Ox) | exact .inr (hln.1 Ox))
 have e0 : m * n = 0 := by rcases h0 with h | h <;> rw [h] <;> simp
 exact ⟨_, [], rfl, ⟨.slice none 0 0, by unfold bgV; rw [e0]; rfl, by rw [e0]; exact SU.nil⟩, hw.made (List.nil_sublist _)⟩
theorem ordN_cases (m n : Nat) : (m < n ∧ ordN m n = -1) ∨ (m = n ∧ ordN m n = 0) ∨ (n < m ∧ ordN m n = 1) := by
 rcases Nat.lt_trichotomy m n with h | h | h
 ·exact .inl ⟨h, ordN_lt h⟩
 ·exact .inr (.inl ⟨h, ordN_eq h⟩)
 exact .inr (.inr ⟨h, ordN_gt h⟩)
theorem digs_len_mono {m n : Nat} (h : m ≤ n) : (digs m).length ≤ (digs n).length := by
 rcases Nat.lt_or_ge (digs n).length (digs m).length with hl | hl
 ·have := digs_lt_of_len hl; omega
 exact hl
theorem badd_any (m n : Int) (s s2 : Value) (hl : (digs m.natAbs).length ≤ 1000) (hl2 : (digs n.natAbs).length ≤ 1000) (w : World) (hs : SA w s m.natAbs) (hs2 : SA w s2 n.natAbs) : Calls Tryz.prog 44 #[bgV m s, bgV n s2] w fun e w' => RetB w (m + n) e w' := by
 obtain ⟨a, c, rfl, hA⟩ := hs
 obtain ⟨a2, c2, rfl, hA2⟩ := hs2
 go_enter Tryz.func44, Tryz.ntmps44
 refine wk_start ?_
 refine wk_seq ?_
 refine Wr [1, 1, 1] ?_
 refine Rgn fun g1 => ?_
 simp only [qz]
 refine Rgn fun g2 => ?_
 simp only [qz]
 refine Rgn fun g3 => ?_
 simp only [qz]
 refine Zr ?_
 refine Wr [0, 0, 0, 0, 0] ?_
 refine Fd 0 0 UU38 ?_
 refine rf_load rfl rfl rfl UU4 rfl (fun w hw => (Kn.hd0 (Kn.tl (Kn.tl hw))).at rfl) (Nq ?_)
 refine Fd 0 0 UU38 ?_
 refine rf_load rfl rfl rfl UU4 rfl (fun w hw => (Kn.hd0 (Kn.tl hw)).at rfl) (Nq ?_)
 apply rg_softb
 case hy => (intro w hw; exact Gy)
 rintro (_ | _) h1 <;> try simp only [qd, ne_eq] at h1
 ·simp only [qz]
  refine Zr ?_; refine Wr [0, 0, 0, 0, 1] ?_; refine Fd 0 1 UU38 ?_; refine rf_load rfl rfl rfl UU36 rfl (fun w hw => (Kn.hd0 (Kn.tl (Kn.tl hw))).at rfl) (Nq ?_); refine Fd 0 1 UU38 ?_; refine rf_load rfl rfl rfl UU36 rfl (fun w hw => (Kn.hd0 (Kn.tl hw)).at rfl) (Nq ?_); apply rg_pure Rx Kx
  case hargs => exact Ax
  case h => exact fun w hw => border_any m.natAbs n.natAbs _ _ _ _ Ox Ox w (hA.kn0 hw) (hA2.kn0 hw)
  case hz => exact Nz
  simp only [qz]; refine Zr ?_; refine Wr [0, 0] ?_; refine rfb_eql rfl rfl rfl rfl ?_
  rintro (_ | _) h2 <;> try simp only [qd, ne_eq] at h2
  ·simp only [qz]
   have hord := ordN_cases m.natAbs n.natAbs
   refine Zm ?_; refine Zr ?_; refine Wr [0, 0] ?_; refine rfb_eql rfl rfl rfl rfl ?_
   rintro (_ | _) h3 <;> try simp only [qd, ne_eq] at h3
   ·simp only [qz]
    have hordv : m.natAbs < n.natAbs := by omega
    refine Zm ?_; refine Zr ?_; refine wk_draws_m (hz1 := (sk _ (sc _ (sc _ sn)))) [(0, 0), (1, 0), (2, 0), (3, 0), (4, 0), (5, 0), (6, 1), (7, 0), (8, 2)] 8 Kx Kx (fun c d v a w h => by cases d <;> exact h) ?_; simp only [List.map_cons, List.map_nil, List.getD_cons_zero, List.getD_cons_succ]; refine Fd 0 0 UU38 ?_; refine rf_load rfl rfl rfl UU4 rfl (fun w hw => (Kn.hd0 (Kn.tl hw)).at rfl) (Nq ?_)
    refine Fd 0 1 UU38 ?_; refine rf_load rfl rfl rfl UU36 rfl (fun w hw => (Kn.hd0 (Kn.tl hw)).at rfl) (Nq ?_); refine Fd 0 1 UU38 ?_; refine rf_load rfl rfl rfl UU36 rfl (fun w hw => (Kn.hd0 (Kn.tl (Kn.tl hw))).at rfl) (Nq ?_)
    have hlt := hordv
    apply (rg_made (T := fun v u => SU u v (dval (digs n.natAbs) - dval (digs m.natAbs)).toNat)) Rx Kx
    case hargs => exact Ax
    case h => exact fun w hw => bminus_any (digs n.natAbs) (digs m.natAbs) _ _ _ _ (digs_dg _) (digs_dg _) Ox Ox (by rw [dval_digs, dval_digs]; omega) (digs_len_mono Ox) w (hA2.kn0 hw) (hA.kn0 hw)
    case hz => exact (fun _ h => by cases h; exact (sc _ (sc _ (sc _ sn))))
    intro v4 u4 hS
    obtain ⟨⟨sa4, sc4, rfl⟩, -⟩ := id hS
    simp only [qz]; refine rf_build (cs := fun a => #[a.eval (.tmp 37), a.eval (.tmp 42)]) rfl rfl Kx (Nq ?_); refine rf_storeRM (n := 2) rfl rfl Kx rfl rfl (UpdR.app _ (UpdR.here _ _ _ Nl)) ((sk _ (sc _ (sc _ sn))).trans (Sr _ _)) (Nw ?_); refine Zr ?_; refine ek_ret (fun w hw => ⟨rfl, _, run_results1 rfl rfl (Kn.hd0 (Kn.tlU hw)) UU38 rfl Kx, ?_⟩); (try simp only [qz])
    have hsg : (m < 0 ↔ ¬ n < 0) := by (have h := h1; revert h; by_cases h1 : m < 0 <;> by_cases h2 : n < 0 <;> simp [h1, h2])
    have e1 : (dval (digs n.natAbs) - dval (digs m.natAbs)).toNat = (m + n).natAbs := by rw [dval_digs, dval_digs]; omega
    rw [e1] at hS; refine ⟨_, _, rfl, ⟨_, ?_, hS⟩, hw.made (List.sublist_append_left _ _)⟩
    unfold bgV
    rw [show decide (m + n < 0) = decide (n < 0) from decide_eq_decide.2 Ox, e1]
   simp only [qz]
   have hordv : n.natAbs < m.natAbs := by omega
   refine Zm ?_; refine Zr ?_; refine wk_draws_m (hz1 := (sk _ (sc _ (sc _ sn)))) [(0, 0), (1, 0), (2, 0), (3, 0), (4, 0), (5, 0), (6, 1), (7, 0), (8, 2)] 8 Kx Kx (fun c d v a w h => by cases d <;> exact h) ?_; simp only [List.map_cons, List.map_nil, List.getD_cons_zero, List.getD_cons_succ]; refine Fd 0 0 UU38 ?_; refine rf_load rfl rfl rfl UU4 rfl (fun w hw => (Kn.hd0 (Kn.tl (Kn.tl hw))).at rfl) (Nq ?_)
   refine Fd 0 1 UU38 ?_; refine rf_load rfl rfl rfl UU36 rfl (fun w hw => (Kn.hd0 (Kn.tl (Kn.tl hw))).at rfl) (Nq ?_); refine Fd 0 1 UU38 ?_; refine rf_load rfl rfl rfl UU36 rfl (fun w hw => (Kn.hd0 (Kn.tl hw)).at rfl) (Nq ?_)
   have hlt := hordv
   apply (rg_made (T := fun v u => SU u v (dval (digs m.natAbs) - dval (digs n.natAbs)).toNat)) Rx Kx
   case hargs => exact Ax
   case h => exact fun w hw => bminus_any (digs m.natAbs) (digs n.natAbs) _ _ _ _ (digs_dg _) (digs_dg _) Ox Ox (by rw [dval_digs, dval_digs]; omega) (digs_len_mono Ox) w (hA.kn0 hw) (hA2.kn0 hw)
   case hz => exact (fun _ h => by cases h; exact (sc _ (sc _ (sc _ sn))))
   intro v5 u5 hS
   obtain ⟨⟨sa5, sc5, rfl⟩, -⟩ := id hS
   simp only [qz]; refine rf_build (cs := fun a => #[a.eval (.tmp 29), a.eval (.tmp 34)]) rfl rfl Kx (Nq ?_); refine rf_storeRM (n := 2) rfl rfl Kx rfl rfl (UpdR.app _ (UpdR.here _ _ _ Nl)) ((sk _ (sc _ (sc _ sn))).trans (Sr _ _)) (Nw ?_); refine Zr ?_; refine ek_ret (fun w hw => ⟨rfl, _, run_results1 rfl rfl (Kn.hd0 (Kn.tlU hw)) UU38 rfl Kx, ?_⟩); (try simp only [qz])
   have hsg : (m < 0 ↔ ¬ n < 0) := by (have h := h1; revert h; by_cases h1 : m < 0 <;> by_cases h2 : n < 0 <;> simp [h1, h2])
   have e1 : (dval (digs m.natAbs) - dval (digs n.natAbs)).toNat = (m + n).natAbs := by rw [dval_digs, dval_digs]; omega
   rw [e1] at hS; refine ⟨_, _, rfl, ⟨_, ?_, hS⟩, hw.made (List.sublist_append_left _ _)⟩
   unfold bgV
   rw [show decide (m + n < 0) = decide (m < 0) from decide_eq_decide.2 Ox, e1]
  simp only [qz]
  have hord := ordN_cases m.natAbs n.natAbs
  have heq : m.natAbs = n.natAbs := by omega
  refine Zm ?_; refine Zr ?_; refine Wr [0, 1] ?_; refine rf_build (cs := fun a => #[.bool false, .slice none 0 0]) rfl rfl Kx (Nq ?_); refine rf_storeR (n := 2) rfl rfl Kx rfl rfl (UpdR.here _ _ _ Nl) Nz (Nw ?_); refine Zr ?_; refine ek_ret (fun w hw => ⟨rfl, _, run_results1 rfl rfl (Kn.hd0 hw) UU38 rfl Kx, ?_⟩); (try simp only [qz])
  have hsg : (m < 0 ↔ ¬ n < 0) := by (have h := h1; revert h; by_cases h1 : m < 0 <;> by_cases h2 : n < 0 <;> simp [h1, h2])
  have e0 : m + n = 0 := by omega
  exact ⟨_, [], rfl, ⟨.slice none 0 0, by unfold bgV; rw [e0]; rfl, by rw [e0]; exact SU.nil⟩, hw.made (List.nil_sublist _)⟩
 simp only [qz]
 refine Zr ?_
 refine wk_draws_m (hz1 := (sk _ (sc _ (sc _ sn)))) [(0, 0), (1, 0), (2, 0), (3, 0), (4, 0), (5, 0), (6, 1), (7, 0), (8, 2)] 8 Kx Kx (fun c d v a w h => by cases d <;> exact h) ?_
 simp only [List.map_cons, List.map_nil, List.getD_cons_zero, List.getD_cons_succ]
 refine Fd 0 0 UU38 ?_
 refine rf_load rfl rfl rfl UU4 rfl (fun w hw => (Kn.hd0 (Kn.tl (Kn.tl hw))).at rfl) (Nq ?_)
 refine Fd 0 1 UU38 ?_
 refine rf_load rfl rfl rfl UU36 rfl (fun w hw => (Kn.hd0 (Kn.tl (Kn.tl hw))).at rfl) (Nq ?_)
 refine Fd 0 1 UU38 ?_
 refine rf_load rfl rfl rfl UU36 rfl (fun w hw => (Kn.hd0 (Kn.tl hw)).at rfl) (Nq ?_)
 apply (rg_made (T := fun v u => SU u v (dval (digs m.natAbs) + dval (digs n.natAbs)).toNat)) Rx Kx
 case hargs => exact Ax
 case h => exact fun w hw => bplus_any (digs m.natAbs) (digs n.natAbs) _ _ _ _ (digs_dg _) (digs_dg _) Ox Ox w (hA.kn0 hw) (hA2.kn0 hw)
 case hz => exact (fun _ h => by cases h; exact (sc _ (sc _ (sc _ sn))))
 intro v6 u6 hS
 obtain ⟨⟨sa6, sc6, rfl⟩, -⟩ := id hS
 simp only [qz]
 refine rf_build (cs := fun a => #[a.eval (.tmp 11), a.eval (.tmp 16)]) rfl rfl Kx (Nq ?_)
 refine rf_storeRM (n := 2) rfl rfl Kx rfl rfl (UpdR.app _ (UpdR.here _ _ _ Nl)) ((sk _ (sc _ (sc _ sn))).trans (Sr _ _)) (Nw ?_)
 refine Zr ?_
 refine ek_ret (fun w hw => ⟨rfl, _, run_results1 rfl rfl (Kn.hd0 (Kn.tlU hw)) UU38 rfl Kx, ?_⟩)
 (try simp only [qz])
 have hsg : (m < 0 ↔ n < 0) := by (have h := h1; revert h; by_cases h1 : m < 0 <;> by_cases h2 : n < 0 <;> simp [h1, h2])
 have e1 : (dval (digs m.natAbs) + dval (digs n.natAbs)).toNat = (m + n).natAbs := by rw [dval_digs, dval_digs]; omega
 rw [e1] at hS
 refine ⟨_, _, rfl, ⟨_, ?_, hS⟩, hw.made (List.sublist_append_left _ _)⟩
 unfold bgV
 rw [show decide (m + n < 0) = decide (m < 0) from decide_eq_decide.2 Ox, e1]
theorem bsub_any (m n : Int) (s s2 : Value) (hl : (digs m.natAbs).length ≤ 1000) (hl2 : (digs n.natAbs).length ≤ 1000) (w : World) (hs : SA w s m.natAbs) (hs2 : SA w s2 n.natAbs) : Calls Tryz.prog 89 #[bgV m s, bgV n s2] w fun e w' => RetB w (m - n) e w' := by
 go_enter Tryz.func89, Tryz.ntmps89
 refine wk_start ?_
 refine wk_seq ?_
 refine Wr [1, 1, 1] ?_
 refine Rgn fun g1 => ?_
 simp only [qz]
 refine Rgn fun g2 => ?_
 simp only [qz]
 refine Rgn fun g3 => ?_
 simp only [qz]
 refine Zr ?_
 refine wk_draws_m (hz1 := (sk _ (sc _ (sc _ sn)))) [(0, 0), (1, 0), (2, 1), (3, 1), (4, 2)] 4 Kx Kx (fun c d v a w h => by cases d <;> exact h) ?_
 simp only [List.map_cons, List.map_nil, List.getD_cons_zero, List.getD_cons_succ]
 refine rf_loadR (n := 2) rfl rfl rfl UU38 rfl Kx (fun w hw => Kn.hd0 (Kn.tl (Kn.tl hw))) rfl rfl (Nq ?_)
 refine rf_loadR (n := 2) rfl rfl rfl UU38 rfl Kx (fun w hw => Kn.hd0 (Kn.tl hw)) rfl rfl (Nq ?_)
 apply rg_pure Rx Kx
 case hargs => exact Ax
 case h => exact fun w hw => bneg_any n s2 hl2 w (hs2.kn hw)
 case hz => exact (fun _ h => by cases h; exact (sc _ (sc _ (sc _ sn))))
 simp only [qz]
 apply (rg_made (T := fun v u => ∃ s, v = bgV (m + -n) s ∧ SU u s (m + -n).natAbs)) Rx Kx
 case hargs => exact Ax
 case h => exact fun w hw => badd_any m (-n) s s2 hl (by rw [Int.natAbs_neg]; exact hl2) w (hs.kn hw) (by rw [Int.natAbs_neg]; exact hs2.kn hw)
 case hz => exact (fun _ h => by cases h; exact (sc _ (sc _ (sc _ sn))))
 rintro _ u4 ⟨s4, rfl, hS⟩
 obtain ⟨⟨sa4, sc4, rfl⟩, -⟩ := id hS
 simp only [qz]
 refine rf_storeRM (n := 2) rfl rfl Kx rfl rfl (UpdR.app _ (UpdR.here _ _ _ Nl)) ((sk _ (sc _ (sc _ sn))).trans (Sr _ _)) (Nw ?_)
 refine Zr ?_
 refine ek_ret (fun w hw => ⟨rfl, _, run_results1 rfl rfl (Kn.hd0 (Kn.tlU hw)) UU38 rfl Kx, ?_⟩)
 (try simp only [qz])
 exact ⟨_, _, rfl, ⟨_, rfl, hS⟩, hw.made (List.sublist_append_left _ _)⟩
abbrev arV (z : Nm) (s0 s1 s2 s3 : Value) : Value := .agg #[.bool (decide (z.a < 0)), s0, .bool (decide (z.b < 0)), s1, .bool (decide (z.c < 0)), s2, .bool (decide (z.d < 0)), s3]
abbrev wdV (z : Nm) (s0 s1 s2 s3 : Value) : Value := .agg #[.bool (decide (z.a < 0)), s0, .bool (decide (z.b < 0)), s1, .bool (decide (z.c < 0)), s2, .bool (decide (z.d < 0)), s3, .int .i64 z.k]
structure SA4 (w : World) (z : Nm) (s0 s1 s2 s3 : Value) : Prop where
  a : SA w s0 z.a.natAbs
  b : SA w s1 z.b.natAbs
  c : SA w s2 z.c.natAbs
  d : SA w s3 z.d.natAbs
def SK (B : World) (u : List Blk) (s : Value) (n : Nat) : Prop := (∃ a c, s = .slice a (digs n).length c) ∧ ∀ w, Kn B [] u w → SA w s n
structure SK4 (B : World) (u : List Blk) (z : Nm) (s0 s1 s2 s3 : Value) : Prop where
  a : SK B u s0 z.a.natAbs
  b : SK B u s1 z.b.natAbs
  c : SK B u s2 z.c.natAbs
  d : SK B u s3 z.d.natAbs
structure SU4 (u : List Blk) (z : Nm) (s0 s1 s2 s3 : Value) : Prop where
  a : SU u s0 z.a.natAbs
  b : SU u s1 z.b.natAbs
  c : SU u s2 z.c.natAbs
  d : SU u s3 z.d.natAbs
theorem SA.form {w : World} {s : Value} {n : Nat} (h : SA w s n) : ∃ a c, s = .slice a (digs n).length c := let ⟨a, c, e, _⟩ := h; ⟨a, c, e⟩
theorem SK.arg {B : World} {s : Value} {n : Nat} (h : SA B s n) : SK B [] s n := ⟨h.form, fun w K => h.kn K⟩
theorem SK.own {B : World} {u : List Blk} {s : Value} {n : Nat} (h : SU u s n) : SK B u s n := ⟨h.1, fun w K => h.2 B [] w K⟩
theorem SK.at {B w : World} {u s : List Blk} {v : Value} {n : Nat} (h : SK B u v n) (K : Kn B [] s w) (hs : u.Sublist s) : SA w v n := h.2 w (K.sub hs)
theorem SK4.arg {B : World} {z : Nm} {s0 s1 s2 s3 : Value} (h : SA4 B z s0 s1 s2 s3) : SK4 B [] z s0 s1 s2 s3 := ⟨.arg h.a, .arg h.b, .arg h.c, .arg h.d⟩
theorem SK4.own {B : World} {u : List Blk} {z : Nm} {s0 s1 s2 s3 : Value} (h : SU4 u z s0 s1 s2 s3) : SK4 B u z s0 s1 s2 s3 := ⟨.own h.a, .own h.b, .own h.c, .own h.d⟩
theorem SK4.at {B w : World} {u s : List Blk} {z : Nm} {s0 s1 s2 s3 : Value} (h : SK4 B u z s0 s1 s2 s3) (K : Kn B [] s w) (hs : u.Sublist s) : SA4 w z s0 s1 s2 s3 := ⟨h.a.at K hs, h.b.at K hs, h.c.at K hs, h.d.at K hs⟩
theorem SU4.mono {u v : List Blk} {z : Nm} {s0 s1 s2 s3 : Value} (h : SU4 u z s0 s1 s2 s3) (hs : u.Sublist v) : SU4 v z s0 s1 s2 s3 := ⟨h.a.mono hs, h.b.mono hs, h.c.mono hs, h.d.mono hs⟩
theorem SU4.at {u s : List Blk} {z : Nm} {s0 s1 s2 s3 : Value} {B w : World} {F : List Nat} (h : SU4 u z s0 s1 s2 s3) (K : Kn B F s w) (hs : u.Sublist s) : SA4 w z s0 s1 s2 s3 := ⟨h.a.at K hs, h.b.at K hs, h.c.at K hs, h.d.at K hs⟩
theorem SA4.kn {B w : World} {s : List Blk} {z : Nm} {s0 s1 s2 s3 : Value} (h : SA4 B z s0 s1 s2 s3) (K : Kn B [] s w) : SA4 w z s0 s1 s2 s3 := ⟨h.a.kn K, h.b.kn K, h.c.kn K, h.d.kn K⟩
def RetA (w : World) (z : Nm) (e : Ending) (w' : World) : Prop := ∃ v u, e = .returned v ∧ (∃ s0 s1 s2 s3, v = arV z s0 s1 s2 s3 ∧ SU4 u z s0 s1 s2 s3) ∧ Made w u w'
def RetW (w : World) (z : Nm) (e : Ending) (w' : World) : Prop := ∃ v u, e = .returned v ∧ (∃ s0 s1 s2 s3, v = wdV z s0 s1 s2 s3 ∧ SU4 u z s0 s1 s2 s3) ∧ Made w u w'
theorem len_big {n : Int} (h0 : -39402006196394479212279040100143613805079739270465446667948293404245721771497210611414266254884915640806627990306816 < n) (h1 : n < 39402006196394479212279040100143613805079739270465446667948293404245721771497210611414266254884915640806627990306816) : (digs n.natAbs).length ≤ 1000 := by
 have : (digs n.natAbs).length ≤ 12 := digs_len_le (L := 12) (by
  show _ < (39402006196394479212279040100143613805079739270465446667948293404245721771497210611414266254884915640806627990306816 : Int)
  omega)
 omega
theorem fit_big {z : Nm} (h : z.Fit 9850501549098619803069760025035903451269934817616361666987073351061430442874302652853566563721228910201656997576704) : (digs z.a.natAbs).length ≤ 1000 ∧ (digs z.b.natAbs).length ≤ 1000 ∧ (digs z.c.natAbs).length ≤ 1000 ∧ (digs z.d.natAbs).length ≤ 1000 := by
 obtain ⟨h1, h2, h3, h4, h5, h6, h7, h8⟩ := h
 exact ⟨len_big Ox Ox, len_big Ox Ox, len_big Ox Ox, len_big Ox Ox⟩
theorem timesR_any (z : Nm) (s0 s1 s2 s3 : Value) (hz : z.Fit 9850501549098619803069760025035903451269934817616361666987073351061430442874302652853566563721228910201656997576704) (w : World) (hs : SA4 w z s0 s1 s2 s3) : Calls Tryz.prog 43 #[arV z s0 s1 s2 s3] w fun e w' => RetA w z.tr e w' := by
 obtain ⟨ha, hb, hc, hd⟩ := hs
 obtain ⟨la, lb, lc, ld⟩ := fit_big hz
 obtain ⟨⟨a0, c0, rfl⟩, ⟨a1, c1, rfl⟩, ⟨a2, c2, rfl⟩, ⟨a3, c3, rfl⟩⟩ := (⟨ha.form, hb.form, hc.form, hd.form⟩ : _ ∧ _ ∧ _ ∧ _)
 go_enter Tryz.func43, Tryz.ntmps43
 refine wk_start ?_
 refine wk_seq ?_
 refine Wr [1, 1] ?_
 refine Rgn fun g1 => ?_
 simp only [qz]
 refine Rgn fun g2 => ?_
 simp only [qz]
 refine Zr ?_
 refine wk_draws_m (hz1 := (sk _ (sc _ sn))) [(0, 0), (1, 0), (2, 0), (3, 0), (5, 0), (6, 0), (7, 0), (8, 0), (10, 0), (11, 0), (12, 0), (13, 0), (15, 0), (16, 0), (17, 0), (18, 0), (4, 1), (9, 1), (14, 1), (19, 1), (20, 0), (21, 2)] 21 Kx Kx (fun c d v a w h => by cases d <;> exact h) ?_
 simp only [List.map_cons, List.map_nil, List.getD_cons_zero, List.getD_cons_succ]
 refine Ia 1 2 2 UU39 ?_
 refine rf_loadR (n := 2) rfl rfl rfl UU38 rfl Kx (fun w hw => Kn.hd0 (Kn.tl hw)) rfl rfl (Nq ?_)
 refine Ia 3 2 6 UU39 ?_
 refine rf_loadR (n := 2) rfl rfl rfl UU38 rfl Kx (fun w hw => Kn.hd0 (Kn.tl hw)) rfl rfl (Nq ?_)
 refine Ia 0 2 0 UU39 ?_
 refine rf_loadR (n := 2) rfl rfl rfl UU38 rfl Kx (fun w hw => Kn.hd0 (Kn.tl hw)) rfl rfl (Nq ?_)
 refine Ia 2 2 4 UU39 ?_
 refine rf_loadR (n := 2) rfl rfl rfl UU38 rfl Kx (fun w hw => Kn.hd0 (Kn.tl hw)) rfl rfl (Nq ?_)
 refine Ia 1 2 2 UU39 ?_
 refine rf_loadR (n := 2) rfl rfl rfl UU38 rfl Kx (fun w hw => Kn.hd0 (Kn.tl hw)) rfl rfl (Nq ?_)
 refine Ia 3 2 6 UU39 ?_
 refine rf_loadR (n := 2) rfl rfl rfl UU38 rfl Kx (fun w hw => Kn.hd0 (Kn.tl hw)) rfl rfl (Nq ?_)
 refine Ia 2 2 4 UU39 ?_
 refine rf_loadR (n := 2) rfl rfl rfl UU38 rfl Kx (fun w hw => Kn.hd0 (Kn.tl hw)) rfl rfl (Nq ?_)
 refine Ia 0 2 0 UU39 ?_
 refine rf_loadR (n := 2) rfl rfl rfl UU38 rfl Kx (fun w hw => Kn.hd0 (Kn.tl hw)) rfl rfl (Nq ?_)
 apply (rg_made (T := fun v u => ∃ s, v = bgV (z.b - z.d) s ∧ SU u s (z.b - z.d).natAbs)) Rx Kx
 case hargs => exact Ax
 case h => exact fun w hw => bsub_any z.b z.d _ _ lb ld w (hb.kn hw) (hd.kn hw)
 case hz => exact (fun _ h => by cases h; exact (sc _ (sc _ sn)))
 rintro _ u3 ⟨s3, rfl, hS3⟩
 obtain ⟨⟨sa3, sc3, rfl⟩, -⟩ := id hS3
 simp only [qz]
 apply (rg_made (T := fun v u => ∃ s, v = bgV (z.a + z.c) s ∧ SU u s (z.a + z.c).natAbs)) Rx Kx
 case hargs => exact Ax
 case h => exact fun w hw => badd_any z.a z.c _ _ la lc w (ha.kn hw) (hc.kn hw)
 case hz => exact (fun _ h => by cases h; exact ((sc _ (sc _ sn)).trans (Sr _ _)))
 rintro _ u4 ⟨s4, rfl, hS4⟩
 obtain ⟨⟨sa4, sc4, rfl⟩, -⟩ := id hS4
 simp only [qz]
 apply (rg_made (T := fun v u => ∃ s, v = bgV (z.b + z.d) s ∧ SU u s (z.b + z.d).natAbs)) Rx Kx
 case hargs => exact Ax
 case h => exact fun w hw => badd_any z.b z.d _ _ lb ld w (hb.kn hw) (hd.kn hw)
 case hz => exact (fun _ h => by cases h; exact (((sc _ (sc _ sn)).trans (Sr _ _)).trans (Sr _ _)))
 rintro _ u5 ⟨s5, rfl, hS5⟩
 obtain ⟨⟨sa5, sc5, rfl⟩, -⟩ := id hS5
 simp only [qz]
 apply (rg_made (T := fun v u => ∃ s, v = bgV (z.c - z.a) s ∧ SU u s (z.c - z.a).natAbs)) Rx Kx
 case hargs => exact Ax
 case h => exact fun w hw => bsub_any z.c z.a _ _ lc la w (hc.kn hw) (ha.kn hw)
 case hz => exact (fun _ h => by cases h; exact ((((sc _ (sc _ sn)).trans (Sr _ _)).trans (Sr _ _)).trans (Sr _ _)))
 rintro _ u6 ⟨s6, rfl, hS6⟩
 obtain ⟨⟨sa6, sc6, rfl⟩, -⟩ := id hS6
 simp only [qz]
 refine rf_build (cs := fun a => #[cellAt (a.eval (.tmp 7)) 0, cellAt (a.eval (.tmp 7)) 1, cellAt (a.eval (.tmp 12)) 0, cellAt (a.eval (.tmp 12)) 1, cellAt (a.eval (.tmp 17)) 0, cellAt (a.eval (.tmp 17)) 1, cellAt (a.eval (.tmp 22)) 0, cellAt (a.eval (.tmp 22)) 1]) rfl rfl Kx (Nq ?_)
 refine rf_storeRM (n := 8) rfl rfl Kx rfl rfl (UpdR.app _ (UpdR.app _ (UpdR.app _ (UpdR.app _ (UpdR.here _ _ _ Nl))))) (((((sk _ (sc _ sn)).trans (Sr _ _)).trans (Sr _ _)).trans (Sr _ _)).trans (Sr _ _)) (Nw ?_)
 refine Zr ?_
 refine ek_ret (fun w hw => ⟨rfl, _, run_results1 rfl rfl (Kn.hd0 (Kn.tlU (Kn.tlU (Kn.tlU (Kn.tlU hw))))) UU39 rfl Kx, ?_⟩)
 (try simp only [qz])
 exact ⟨_, (u6 ++ (u5 ++ (u4 ++ u3))), rfl, ⟨_, _, _, _, rfl, ⟨(hS3.mono ((((List.Sublist.refl _).trans (Sr _ _)).trans (Sr _ _)).trans (Sr _ _))), (hS4.mono (((List.sublist_append_left _ _).trans (Sr _ _)).trans (Sr _ _))), (hS5.mono ((List.sublist_append_left _ _).trans (Sr _ _))), (hS6.mono (List.sublist_append_left _ _))⟩⟩, hw.made (Sa (Sa (Sa (List.sublist_append_left _ _) _) _) _)⟩
theorem wideOf_any (z : Nm) (hz : z.Fit 4611686018427387903) (w : World) : Calls Tryz.prog 13 #[nmV z] w fun e w' => RetW w z e w' := by
 obtain ⟨fa0, fa1, fb0, fb1, fc0, fc1, fd0, fd1⟩ := id hz
 go_enter Tryz.func13, Tryz.ntmps13
 refine wk_start ?_
 refine wk_seq ?_
 refine Wr [1, 1] ?_
 refine Rgn fun g1 => ?_
 simp only [qz]
 refine Rgn fun g2 => ?_
 simp only [qz]
 refine Zr ?_
 refine Wr [1] ?_
 refine Rgn fun g3 => ?_
 simp only [qz]
 refine Zr ?_
 refine Wm [0] ?_
 refine rg_nil (ek_next (wk_block ?_))
 refine wk_unroll 4 ?_
 refine wk_seq (wk_seq ?_)
 refine Wm [0, 0] ?_
 refine rf_lss (b := true) rfl rfl rfl rfl (by decide) (Nq ?_)
 refine Zr ?_
 refine Wm [0, 0, 0, 0, 0, 1, 0, 0, 1] ?_
 refine Fd 3 0 UU44 ?_
 refine Ia 0 1 0 UU42 ?_
 refine rf_load rfl rfl rfl UU3 rfl (fun w hw => (Kn.hd0 (Kn.tl (Kn.tl hw))).at rfl) (Nq ?_)
 apply (rg_made (T := fun v u => ∃ s, v = bgV (z.a) s ∧ SU u s (z.a).natAbs)) Rx Kx
 case hargs => exact Ax
 case h => exact fun w hw => bigOf_any z.a Ox Ox w
 case hz => exact Nz
 rintro _ u4 ⟨s4, rfl, hS4⟩
 obtain ⟨⟨sa4, sc4, rfl⟩, -⟩ := id hS4
 simp only [qz]
 refine Fd 7 0 UU41 ?_
 refine Ia 0 2 0 UU39 ?_
 refine rf_storeR (n := 2) rfl rfl Kx rfl rfl (UpdR.app _ (UpdR.here _ _ _ Nl)) Nz (Nw ?_)
 refine Zr ?_
 refine Wm [0, 0, 0] ?_
 refine rf_add (r := 1) rfl rfl rfl rfl (by decide) (Zm ?_)
 refine Zr ?_
 refine Wm [0, 0] ?_
 refine rf_lss (b := true) rfl rfl rfl rfl (by decide) (Nq ?_)
 refine Zr ?_
 refine Wm [0, 0, 0, 0, 0, 1, 0, 0, 1] ?_
 refine Fd 3 0 UU44 ?_
 refine Ia 1 1 1 UU42 ?_
 refine rf_load rfl rfl rfl UU3 rfl (fun w hw => (Kn.hd0 (Kn.tl (Kn.tl (Kn.tlU hw)))).at rfl) (Nq ?_)
 apply (rg_made (T := fun v u => ∃ s, v = bgV (z.b) s ∧ SU u s (z.b).natAbs)) Rx Kx
 case hargs => exact Ax
 case h => exact fun w hw => bigOf_any z.b Ox Ox w
 case hz => exact Nz
 rintro _ u5 ⟨s5, rfl, hS5⟩
 obtain ⟨⟨sa5, sc5, rfl⟩, -⟩ := id hS5
 simp only [qz]
 refine Fd 7 0 UU41 ?_
 refine Ia 1 2 2 UU39 ?_
 refine rf_storeR (n := 2) rfl rfl Kx rfl rfl (UpdR.app _ (UpdR.app _ (UpdR.here _ _ _ Nl))) Nz (Nw ?_)
 refine Zr ?_
 refine Wm [0, 0, 0] ?_
 refine rf_add (r := 2) rfl rfl rfl rfl (by decide) (Zm ?_)
 refine Zr ?_
 refine Wm [0, 0] ?_
 refine rf_lss (b := true) rfl rfl rfl rfl (by decide) (Nq ?_)
 refine Zr ?_
 refine Wm [0, 0, 0, 0, 0, 1, 0, 0, 1] ?_
 refine Fd 3 0 UU44 ?_
 refine Ia 2 1 2 UU42 ?_
 refine rf_load rfl rfl rfl UU3 rfl (fun w hw => (Kn.hd0 (Kn.tl (Kn.tl (Kn.tlU (Kn.tlU hw))))).at rfl) (Nq ?_)
 apply (rg_made (T := fun v u => ∃ s, v = bgV (z.c) s ∧ SU u s (z.c).natAbs)) Rx Kx
 case hargs => exact Ax
 case h => exact fun w hw => bigOf_any z.c Ox Ox w
 case hz => exact Nz
 rintro _ u6 ⟨s6, rfl, hS6⟩
 obtain ⟨⟨sa6, sc6, rfl⟩, -⟩ := id hS6
 simp only [qz]
 refine Fd 7 0 UU41 ?_
 refine Ia 2 2 4 UU39 ?_
 refine rf_storeR (n := 2) rfl rfl Kx rfl rfl (UpdR.app _ (UpdR.app _ (UpdR.app _ (UpdR.here _ _ _ Nl)))) Nz (Nw ?_)
 refine Zr ?_
 refine Wm [0, 0, 0] ?_
 refine rf_add (r := 3) rfl rfl rfl rfl (by decide) (Zm ?_)
 refine Zr ?_
 refine Wm [0, 0] ?_
 refine rf_lss (b := true) rfl rfl rfl rfl (by decide) (Nq ?_)
 refine Zr ?_
 refine Wm [0, 0, 0, 0, 0, 1, 0, 0, 1] ?_
 refine Fd 3 0 UU44 ?_
 refine Ia 3 1 3 UU42 ?_
 refine rf_load rfl rfl rfl UU3 rfl (fun w hw => (Kn.hd0 (Kn.tl (Kn.tl (Kn.tlU (Kn.tlU (Kn.tlU hw)))))).at rfl) (Nq ?_)
 apply (rg_made (T := fun v u => ∃ s, v = bgV (z.d) s ∧ SU u s (z.d).natAbs)) Rx Kx
 case hargs => exact Ax
 case h => exact fun w hw => bigOf_any z.d Ox Ox w
 case hz => exact Nz
 rintro _ u7 ⟨s7, rfl, hS7⟩
 obtain ⟨⟨sa7, sc7, rfl⟩, -⟩ := id hS7
 simp only [qz]
 refine Fd 7 0 UU41 ?_
 refine Ia 3 2 6 UU39 ?_
 refine rf_storeR (n := 2) rfl rfl Kx rfl rfl (UpdR.app _ (UpdR.app _ (UpdR.app _ (UpdR.app _ (UpdR.here _ _ _ Nl))))) Nz (Nw ?_)
 refine Zr ?_
 refine Wm [0, 0, 0] ?_
 refine rf_add (r := 4) rfl rfl rfl rfl (by decide) (Zm ?_)
 refine Zr ?_
 refine Wm [0, 0] ?_
 refine rf_lss (b := false) rfl rfl rfl rfl (by decide) (Nq ?_)
 refine Zr ?_
 refine Wr [0, 0, 0, 1] ?_
 refine Fd 0 4 UU44 ?_
 refine rf_load rfl rfl rfl UU3 rfl (fun w hw => (Kn.hd0 (Kn.tl (Kn.tl (Kn.tlU (Kn.tlU (Kn.tlU (Kn.tlU hw))))))).at rfl) (Nq ?_)
 refine Fd 0 8 UU41 ?_
 refine rf_store rfl rfl Kx rfl rfl (UpdR.app _ (UpdR.app _ (UpdR.app _ (UpdR.app _ (UpdR.here _ _ _ Nl))))) Nz (Nq ?_)
 refine Zr ?_
 refine Wr [0, 1] ?_
 refine rf_loadR (n := 9) rfl rfl rfl UU41 rfl Kx (fun w hw => Kn.hd0 (Kn.tlU (Kn.tlU (Kn.tlU (Kn.tlU hw))))) rfl rfl (Nq ?_)
 refine rf_storeR (n := 9) rfl rfl Kx rfl rfl (UpdR.app _ (UpdR.app _ (UpdR.app _ (UpdR.app _ (UpdR.there _ (UpdR.here _ _ _ Nl)))))) Nz (Nw ?_)
 refine Zr ?_
 refine ek_ret (fun w hw => ⟨rfl, _, run_results1 rfl rfl (Kn.hd0 (Kn.tl (Kn.tlU (Kn.tlU (Kn.tlU (Kn.tlU hw)))))) UU41 rfl Kx, ?_⟩)
 (try simp only [qz])
 exact ⟨_, (u7 ++ (u6 ++ (u5 ++ u4))), rfl, ⟨_, _, _, _, rfl, ⟨(hS4.mono ((((List.Sublist.refl _).trans (Sr _ _)).trans (Sr _ _)).trans (Sr _ _))), (hS5.mono (((List.sublist_append_left _ _).trans (Sr _ _)).trans (Sr _ _))), (hS6.mono ((List.sublist_append_left _ _).trans (Sr _ _))), (hS7.mono (List.sublist_append_left _ _))⟩⟩, hw.made (Sa (Sa (Sa (List.sublist_append_left _ _) _) _) _)⟩
theorem up_fit_of {z : Nm} {m j : Nat} {M : Int} (h : (Nm.up m z).Fit M) (hj : j ≤ m) : (Nm.up j z).Fit M := by
 induction m with
 | zero => obtain rfl : j = 0 := Ox; exact h
 | succ m ih =>
  by_cases e : j = m + 1
  ·subst e; exact h
  ·refine ih ?_ Ox
   rw [Nm.up_succ1] at h
   have := Nm.step_fit h
   rwa [Nm.step_tr] at this
theorem addR_up {x y z v : Nm} {i j : Nat} (hx : Nm.up j x = z) (hy : Nm.up i y = v) (hk : z.k = v.k) (h1 : z.k = x.k + j) (h2 : j = 0 ∨ i = 0) : x.addR y = ⟨z.a + v.a, z.b + v.b, z.c + v.c, z.d + v.d, z.k⟩ := by
 have h3 : v.k = y.k + i := by rw [← hy, Nm.up_k]
 have hm : max x.k y.k = z.k := by omega
 have e1 : x.to (max x.k y.k) = z := by unfold Nm.to; rw [← hx]; congr 1; omega
 have e2 : y.to (max x.k y.k) = v := by unfold Nm.to; rw [← hy]; congr 1; omega
 unfold Nm.addR
 dsimp only
 rw [e1, e2, hm]
set_option maxHeartbeats 4000000 in
theorem wplus_any (x y : Nm) (s0 s1 s2 s3 : Value) (p0 p1 p2 p3 : Value) (hx : (x.to (max x.k y.k)).Fit 9850501549098619803069760025035903451269934817616361666987073351061430442874302652853566563721228910201656997576704) (hy : (y.to (max x.k y.k)).Fit 9850501549098619803069760025035903451269934817616361666987073351061430442874302652853566563721228910201656997576704) (hk : 0 ≤ x.k) (hk1 : x.k ≤ 10000) (hk2 : 0 ≤ y.k) (hk3 : y.k ≤ 10000) (w : World) (hs : SA4 w x s0 s1 s2 s3) (hs2 : SA4 w y p0 p1 p2 p3) : Calls Tryz.prog 12 #[wdV x s0 s1 s2 s3, wdV y p0 p1 p2 p3] w fun e w' => RetW w (x.addR y) e w' := by
 obtain ⟨⟨a0, c0, rfl⟩, ⟨a1, c1, rfl⟩, ⟨a2, c2, rfl⟩, ⟨a3, c3, rfl⟩⟩ := (⟨hs.a.form, hs.b.form, hs.c.form, hs.d.form⟩ : _ ∧ _ ∧ _ ∧ _)
 obtain ⟨⟨b0, d0, rfl⟩, ⟨b1, d1, rfl⟩, ⟨b2, d2, rfl⟩, ⟨b3, d3, rfl⟩⟩ := (⟨hs2.a.form, hs2.b.form, hs2.c.form, hs2.d.form⟩ : _ ∧ _ ∧ _ ∧ _)
 go_enter Tryz.func12, Tryz.ntmps12
 refine wk_start ?_
 refine wk_seq ?_
 refine Wr [1, 1, 1] ?_
 refine Rgn fun g1 => ?_
 simp only [qz]
 refine Rgn fun g2 => ?_
 simp only [qz]
 refine Rgn fun g3 => ?_
 simp only [qz]
 refine Zr ?_
 refine wk_loopF [6, 7, 8, 9, 10, 11, 12, 13, 14, 15, 16, 17, 18] (fun mz f s => ∃ (j : Nat) (z : Nm) (ta0 ta1 ta2 ta3 : Option Addr) (tc0 tc1 tc2 tc3 : Nat) (u : List Blk), s = (u ++ ((g3, .cells #[.bool false, .slice none 0 0, .bool false, .slice none 0 0, .bool false, .slice none 0 0, .bool false, .slice none 0 0, .int .i64 0] 41) :: ((g2, .cells #[.bool (decide (y.a < 0)), .slice b0 (digs y.a.natAbs).length d0, .bool (decide (y.b < 0)), .slice b1 (digs y.b.natAbs).length d1, .bool (decide (y.c < 0)), .slice b2 (digs y.c.natAbs).length d2, .bool (decide (y.d < 0)), .slice b3 (digs y.d.natAbs).length d3, .int .i64 y.k] 41) :: ((g1, .cells #[.bool (decide (z.a < 0)), .slice ta0 (digs z.a.natAbs).length tc0, .bool (decide (z.b < 0)), .slice ta1 (digs z.b.natAbs).length tc1, .bool (decide (z.c < 0)), .slice ta2 (digs z.c.natAbs).length tc2, .bool (decide (z.d < 0)), .slice ta3 (digs z.d.natAbs).length tc3, .int .i64 z.k] 41) :: [])))) ∧ mz = 20000 - j ∧ Nm.up j x = z ∧ SK4 w u z (.slice ta0 (digs z.a.natAbs).length tc0) (.slice ta1 (digs z.b.natAbs).length tc1) (.slice ta2 (digs z.c.natAbs).length tc2) (.slice ta3 (digs z.d.natAbs).length tc3) ∧ z.Fit 9850501549098619803069760025035903451269934817616361666987073351061430442874302652853566563721228910201656997576704 ∧ z.k ≤ x.k + j ∧ x.k + j ≤ z.k ∧ (j = 0 ∨ z.k ≤ y.k)) ((fun (j : Nat) (z : Nm) (ta0 ta1 ta2 ta3 : Option Addr) (tc0 tc1 tc2 tc3 : Nat) (u : List Blk) => 20000 - j) (0) (x) (a0) (a1) (a2) (a3) (c0) (c1) (c2) (c3) ([])) ?_ Kx ?_
 ·exact ⟨0, x, a0, a1, a2, a3, c0, c1, c2, c3, [], rfl, rfl, rfl, SK4.arg hs, up_fit_of (j := 0) hx Ox, by omega, by omega, .inl rfl⟩
 rintro mz f1 s ⟨j, z, ta0, ta1, ta2, ta3, tc0, tc1, tc2, tc3, u, rfl, hn, hc1, hc2, hc3, hc4, hc5, hc6⟩
 simp only [Act.putF, List.foldl_cons, List.foldl_nil, Act.put, Act.eval, qW, Nat.reduceAdd, Bool.not_true, Bool.not_false]
 have hz0 := Lib.hid hc1
 clear hc1
 have hsk0 := hc2
 have hfit0 := hc3
 refine wk_seq (wk_seq ?_)
 refine Wr [0, 0, 0, 0, 0] ?_
 refine Fd 0 8 UU41 ?_
 refine rf_load rfl rfl rfl UU3 rfl (fun w hw => (Kn.hd0 (Kn.tl (Kn.tl (Kn.tlU hw)))).at rfl) (Nq ?_)
 refine Fd 0 8 UU41 ?_
 refine rf_load rfl rfl rfl UU3 rfl (fun w hw => (Kn.hd0 (Kn.tl (Kn.tlU hw))).at rfl) (Nq ?_)
 refine rfb_lss rfl rfl rfl rfl ?_
 rintro (_ | _) h1 <;> try simp only [qd, ne_eq] at h1
 ·simp only [qz]
  refine Zr ?_; refine wk_loopF [19, 20, 21, 22, 23, 24, 25, 26, 27, 28, 29, 30, 31] (fun mz f s => ∃ (i : Nat) (z2 : Nm) (pa0 pa1 pa2 pa3 : Option Addr) (pc0 pc1 pc2 pc3 : Nat) (u2 : List Blk), s = (u2 ++ (u ++ ((g3, .cells #[.bool false, .slice none 0 0, .bool false, .slice none 0 0, .bool false, .slice none 0 0, .bool false, .slice none 0 0, .int .i64 0] 41) :: ((g2, .cells #[.bool (decide (z2.a < 0)), .slice pa0 (digs z2.a.natAbs).length pc0, .bool (decide (z2.b < 0)), .slice pa1 (digs z2.b.natAbs).length pc1, .bool (decide (z2.c < 0)), .slice pa2 (digs z2.c.natAbs).length pc2, .bool (decide (z2.d < 0)), .slice pa3 (digs z2.d.natAbs).length pc3, .int .i64 z2.k] 41) :: ((g1, .cells #[.bool (decide (z.a < 0)), .slice ta0 (digs z.a.natAbs).length tc0, .bool (decide (z.b < 0)), .slice ta1 (digs z.b.natAbs).length tc1, .bool (decide (z.c < 0)), .slice ta2 (digs z.c.natAbs).length tc2, .bool (decide (z.d < 0)), .slice ta3 (digs z.d.natAbs).length tc3, .int .i64 z.k] 41) :: []))))) ∧ mz = 20000 - i ∧ Nm.up i y = z2 ∧ SK4 w u2 z2 (.slice pa0 (digs z2.a.natAbs).length pc0) (.slice pa1 (digs z2.b.natAbs).length pc1) (.slice pa2 (digs z2.c.natAbs).length pc2) (.slice pa3 (digs z2.d.natAbs).length pc3) ∧ z2.Fit 9850501549098619803069760025035903451269934817616361666987073351061430442874302652853566563721228910201656997576704 ∧ z2.k ≤ y.k + i ∧ y.k + i ≤ z2.k ∧ (i = 0 ∨ z2.k ≤ z.k)) ((fun (i : Nat) (z2 : Nm) (pa0 pa1 pa2 pa3 : Option Addr) (pc0 pc1 pc2 pc3 : Nat) (u2 : List Blk) => 20000 - i) (0) (y) (b0) (b1) (b2) (b3) (d0) (d1) (d2) (d3) ([])) ?_ Kx ?_
  ·exact ⟨0, y, b0, b1, b2, b3, d0, d1, d2, d3, [], rfl, rfl, rfl, SK4.arg hs2, up_fit_of (j := 0) hy Ox, by omega, by omega, .inl rfl⟩
  rintro mz f2 s ⟨i, z2, pa0, pa1, pa2, pa3, pc0, pc1, pc2, pc3, u2, rfl, hn, hd1, hd2, hd3, hd4, hd5, hd6⟩
  simp only [Act.putF, List.foldl_cons, List.foldl_nil, Act.put, Act.eval, qW, Nat.reduceAdd, Bool.not_true, Bool.not_false]
  have hz1 := Lib.hid hd1
  clear hd1
  have hsk1 := hd2
  have hfit1 := hd3
  refine wk_seq (wk_seq ?_); refine Wr [0, 0, 0, 0, 0] ?_; refine Fd 0 8 UU41 ?_; refine rf_load rfl rfl rfl UU3 rfl (fun w hw => (Kn.hd0 (Kn.tl (Kn.tlU (Kn.tlU hw)))).at rfl) (Nq ?_); refine Fd 0 8 UU41 ?_; refine rf_load rfl rfl rfl UU3 rfl (fun w hw => (Kn.hd0 (Kn.tl (Kn.tl (Kn.tlU (Kn.tlU hw))))).at rfl) (Nq ?_); refine rfb_lss rfl rfl rfl rfl ?_
  rintro (_ | _) h2 <;> try simp only [qd, ne_eq] at h2
  ·simp only [qz]
   refine Zr ?_; refine Wm [0] ?_; refine rg_nil (ek_next (wk_block ?_)); refine wk_unroll 4 ?_; refine wk_seq (wk_seq ?_); refine Wm [0, 0] ?_; refine rf_lss (b := true) rfl rfl rfl rfl (by decide) (Nq ?_); refine Zr ?_; refine wk_draws_m (hz1 := (Sa (Sa (sc _ (sc _ (sk _ sn))) _) _)) [(0, 0), (1, 0), (2, 0), (3, 0), (4, 0), (5, 0), (6, 0), (7, 0), (8, 0), (10, 3), (9, 1), (11, 0), (12, 2)] 12 Kx Kx (fun c d v a w h => by cases d <;> exact h) ?_
   simp only [List.map_cons, List.map_nil, List.getD_cons_zero, List.getD_cons_succ]; refine Zm ?_; refine Fd 7 0 UU41 ?_; refine Ia 0 2 0 UU39 ?_; refine rf_loadR (n := 2) rfl rfl rfl UU38 rfl Kx (fun w hw => Kn.hd0 (Kn.tl (Kn.tl (Kn.tlU (Kn.tlU hw))))) rfl rfl (Zm ?_); refine Fd 7 0 UU41 ?_; refine Ia 0 2 0 UU39 ?_; refine rf_loadR (n := 2) rfl rfl rfl UU38 rfl Kx (fun w hw => Kn.hd0 (Kn.tl (Kn.tlU (Kn.tlU hw)))) rfl rfl (Nq ?_)
   refine Fd 7 0 UU41 ?_
   obtain ⟨la, lb, lc, ld⟩ := fit_big hfit0
   obtain ⟨ma, mb, mc, md⟩ := fit_big hfit1
   apply (rg_made (T := fun v u => ∃ s, v = bgV (z.a + z2.a) s ∧ SU u s (z.a + z2.a).natAbs)) Rx Kx
   case hargs => exact Ax
   case h => exact fun w hw => badd_any z.a z2.a _ _ la ma w (hsk0.a.at hw ((List.sublist_append_left _ _).trans (Sr _ _))) (hsk1.a.at hw (List.sublist_append_left _ _))
   case hz => exact (fun _ h => by cases h; exact (Sa (Sa (sc _ (sc _ (sc _ sn))) _) _))
   rintro _ u4 ⟨s4, rfl, hS4⟩
   obtain ⟨⟨sa4, sc4, rfl⟩, -⟩ := id hS4
   simp only [qz]; refine Ia 0 2 0 UU39 ?_; refine rf_storeRM (n := 2) rfl rfl Kx rfl rfl (UpdR.app _ (UpdR.app _ (UpdR.app _ (UpdR.there _ (UpdR.there _ (UpdR.here _ _ _ Nl)))))) ((Sa (Sa (sc _ (sc _ (sk _ sn))) _) _).trans (Sr _ _)) (Nw ?_); refine Zr ?_; refine Wm [0, 0, 0] ?_; refine rf_add (r := 1) rfl rfl rfl rfl (by decide) (Zm ?_); refine Zr ?_; refine Wm [0, 0] ?_; refine rf_lss (b := true) rfl rfl rfl rfl (by decide) (Nq ?_)
   refine Zr ?_; refine wk_draws_m (hz1 := (Sa (Sa (Sa (sc _ (sc _ (sk _ sn))) _) _) _)) [(0, 0), (1, 0), (2, 0), (3, 0), (4, 0), (5, 0), (6, 0), (7, 0), (8, 0), (10, 3), (9, 1), (11, 0), (12, 2)] 12 Kx Kx (fun c d v a w h => by cases d <;> exact h) ?_; simp only [List.map_cons, List.map_nil, List.getD_cons_zero, List.getD_cons_succ]; refine Zm ?_; refine Fd 7 0 UU41 ?_; refine Ia 1 2 2 UU39 ?_
   refine rf_loadR (n := 2) rfl rfl rfl UU38 rfl Kx (fun w hw => Kn.hd0 (Kn.tl (Kn.tl (Kn.tlU (Kn.tlU (Kn.tlU hw)))))) rfl rfl (Zm ?_); refine Fd 7 0 UU41 ?_; refine Ia 1 2 2 UU39 ?_; refine rf_loadR (n := 2) rfl rfl rfl UU38 rfl Kx (fun w hw => Kn.hd0 (Kn.tl (Kn.tlU (Kn.tlU (Kn.tlU hw))))) rfl rfl (Nq ?_); refine Fd 7 0 UU41 ?_
   apply (rg_made (T := fun v u => ∃ s, v = bgV (z.b + z2.b) s ∧ SU u s (z.b + z2.b).natAbs)) Rx Kx
   case hargs => exact Ax
   case h => exact fun w hw => badd_any z.b z2.b _ _ lb mb w (hsk0.b.at hw (((List.sublist_append_left _ _).trans (Sr _ _)).trans (Sr _ _))) (hsk1.b.at hw ((List.sublist_append_left _ _).trans (Sr _ _)))
   case hz => exact (fun _ h => by cases h; exact (Sa (Sa (Sa (sc _ (sc _ (sc _ sn))) _) _) _))
   rintro _ u5 ⟨s5, rfl, hS5⟩
   obtain ⟨⟨sa5, sc5, rfl⟩, -⟩ := id hS5
   simp only [qz]; refine Ia 1 2 2 UU39 ?_; refine rf_storeRM (n := 2) rfl rfl Kx rfl rfl (UpdR.app _ (UpdR.app _ (UpdR.app _ (UpdR.app _ (UpdR.there _ (UpdR.there _ (UpdR.here _ _ _ Nl))))))) ((Sa (Sa (Sa (sc _ (sc _ (sk _ sn))) _) _) _).trans (Sr _ _)) (Nw ?_); refine Zr ?_; refine Wm [0, 0, 0] ?_; refine rf_add (r := 2) rfl rfl rfl rfl (by decide) (Zm ?_); refine Zr ?_; refine Wm [0, 0] ?_; refine rf_lss (b := true) rfl rfl rfl rfl (by decide) (Nq ?_)
   refine Zr ?_; refine wk_draws_m (hz1 := (Sa (Sa (Sa (Sa (sc _ (sc _ (sk _ sn))) _) _) _) _)) [(0, 0), (1, 0), (2, 0), (3, 0), (4, 0), (5, 0), (6, 0), (7, 0), (8, 0), (10, 3), (9, 1), (11, 0), (12, 2)] 12 Kx Kx (fun c d v a w h => by cases d <;> exact h) ?_; simp only [List.map_cons, List.map_nil, List.getD_cons_zero, List.getD_cons_succ]; refine Zm ?_; refine Fd 7 0 UU41 ?_; refine Ia 2 2 4 UU39 ?_
   refine rf_loadR (n := 2) rfl rfl rfl UU38 rfl Kx (fun w hw => Kn.hd0 (Kn.tl (Kn.tl (Kn.tlU (Kn.tlU (Kn.tlU (Kn.tlU hw))))))) rfl rfl (Zm ?_); refine Fd 7 0 UU41 ?_; refine Ia 2 2 4 UU39 ?_; refine rf_loadR (n := 2) rfl rfl rfl UU38 rfl Kx (fun w hw => Kn.hd0 (Kn.tl (Kn.tlU (Kn.tlU (Kn.tlU (Kn.tlU hw)))))) rfl rfl (Nq ?_); refine Fd 7 0 UU41 ?_
   apply (rg_made (T := fun v u => ∃ s, v = bgV (z.c + z2.c) s ∧ SU u s (z.c + z2.c).natAbs)) Rx Kx
   case hargs => exact Ax
   case h => exact fun w hw => badd_any z.c z2.c _ _ lc mc w (hsk0.c.at hw ((((List.sublist_append_left _ _).trans (Sr _ _)).trans (Sr _ _)).trans (Sr _ _))) (hsk1.c.at hw (((List.sublist_append_left _ _).trans (Sr _ _)).trans (Sr _ _)))
   case hz => exact (fun _ h => by cases h; exact (Sa (Sa (Sa (Sa (sc _ (sc _ (sc _ sn))) _) _) _) _))
   rintro _ u6 ⟨s6, rfl, hS6⟩
   obtain ⟨⟨sa6, sc6, rfl⟩, -⟩ := id hS6
   simp only [qz]; refine Ia 2 2 4 UU39 ?_; refine rf_storeRM (n := 2) rfl rfl Kx rfl rfl (UpdR.app _ (UpdR.app _ (UpdR.app _ (UpdR.app _ (UpdR.app _ (UpdR.there _ (UpdR.there _ (UpdR.here _ _ _ Nl)))))))) ((Sa (Sa (Sa (Sa (sc _ (sc _ (sk _ sn))) _) _) _) _).trans (Sr _ _)) (Nw ?_); refine Zr ?_; refine Wm [0, 0, 0] ?_; refine rf_add (r := 3) rfl rfl rfl rfl (by decide) (Zm ?_); refine Zr ?_; refine Wm [0, 0] ?_
   refine rf_lss (b := true) rfl rfl rfl rfl (by decide) (Nq ?_); refine Zr ?_; refine wk_draws_m (hz1 := (Sa (Sa (Sa (Sa (Sa (sc _ (sc _ (sk _ sn))) _) _) _) _) _)) [(0, 0), (1, 0), (2, 0), (3, 0), (4, 0), (5, 0), (6, 0), (7, 0), (8, 0), (10, 3), (9, 1), (11, 0), (12, 2)] 12 Kx Kx (fun c d v a w h => by cases d <;> exact h) ?_; simp only [List.map_cons, List.map_nil, List.getD_cons_zero, List.getD_cons_succ]
   refine Zm ?_; refine Fd 7 0 UU41 ?_; refine Ia 3 2 6 UU39 ?_; refine rf_loadR (n := 2) rfl rfl rfl UU38 rfl Kx (fun w hw => Kn.hd0 (Kn.tl (Kn.tl (Kn.tlU (Kn.tlU (Kn.tlU (Kn.tlU (Kn.tlU hw)))))))) rfl rfl (Zm ?_); refine Fd 7 0 UU41 ?_; refine Ia 3 2 6 UU39 ?_; refine rf_loadR (n := 2) rfl rfl rfl UU38 rfl Kx (fun w hw => Kn.hd0 (Kn.tl (Kn.tlU (Kn.tlU (Kn.tlU (Kn.tlU (Kn.tlU hw))))))) rfl rfl (Nq ?_)
   refine Fd 7 0 UU41 ?_
   apply (rg_made (T := fun v u => ∃ s, v = bgV (z.d + z2.d) s ∧ SU u s (z.d + z2.d).natAbs)) Rx Kx
   case hargs => exact Ax
   case h => exact fun w hw => badd_any z.d z2.d _ _ ld md w (hsk0.d.at hw (((((List.sublist_append_left _ _).trans (Sr _ _)).trans (Sr _ _)).trans (Sr _ _)).trans (Sr _ _))) (hsk1.d.at hw ((((List.sublist_append_left _ _).trans (Sr _ _)).trans (Sr _ _)).trans (Sr _ _)))
   case hz => exact (fun _ h => by cases h; exact (Sa (Sa (Sa (Sa (Sa (sc _ (sc _ (sc _ sn))) _) _) _) _) _))
   rintro _ u7 ⟨s7, rfl, hS7⟩
   obtain ⟨⟨sa7, sc7, rfl⟩, -⟩ := id hS7
   simp only [qz]; refine Ia 3 2 6 UU39 ?_; refine rf_storeRM (n := 2) rfl rfl Kx rfl rfl (UpdR.app _ (UpdR.app _ (UpdR.app _ (UpdR.app _ (UpdR.app _ (UpdR.app _ (UpdR.there _ (UpdR.there _ (UpdR.here _ _ _ Nl))))))))) ((Sa (Sa (Sa (Sa (Sa (sc _ (sc _ (sk _ sn))) _) _) _) _) _).trans (Sr _ _)) (Nw ?_); refine Zr ?_; refine Wm [0, 0, 0] ?_; refine rf_add (r := 4) rfl rfl rfl rfl (by decide) (Zm ?_)
   refine Zr ?_; refine Wm [0, 0] ?_; refine rf_lss (b := false) rfl rfl rfl rfl (by decide) (Nq ?_); refine Zr ?_; refine Wr [0, 1] ?_; refine rf_loadR (n := 9) rfl rfl rfl UU41 rfl Kx (fun w hw => Kn.hd0 (Kn.tl (Kn.tl (Kn.tlU (Kn.tlU (Kn.tlU (Kn.tlU (Kn.tlU (Kn.tlU hw))))))))) rfl rfl (Nq ?_); refine rf_storeR (n := 9) rfl rfl Kx rfl rfl (UpdR.app _ (UpdR.app _ (UpdR.app _ (UpdR.app _ (UpdR.app _ (UpdR.app _ (UpdR.here _ _ _ Nl))))))) Nz (Nw ?_)
   refine Zr ?_; refine ek_ret (fun w hw => ⟨rfl, _, run_results1 rfl rfl (Kn.hd0 (Kn.tlU (Kn.tlU (Kn.tlU (Kn.tlU (Kn.tlU (Kn.tlU hw))))))) UU41 rfl Kx, ?_⟩); (try simp only [qz])
   have e : x.addR y = ⟨z.a + z2.a, z.b + z2.b, z.c + z2.c, z.d + z2.d, z.k⟩ := addR_up hz0.out hz1.out Ox Ox Ox
   show RetW _ (x.addR y) _ _
   rw [e]
   exact ⟨_, (u7 ++ (u6 ++ (u5 ++ u4))), rfl, ⟨_, _, _, _, rfl, ⟨(hS4.mono ((((List.Sublist.refl _).trans (Sr _ _)).trans (Sr _ _)).trans (Sr _ _))), (hS5.mono (((List.sublist_append_left _ _).trans (Sr _ _)).trans (Sr _ _))), (hS6.mono ((List.sublist_append_left _ _).trans (Sr _ _))), (hS7.mono (List.sublist_append_left _ _))⟩⟩, hw.made (Sa (Sa (Sa (List.sublist_append_left _ _) _) _) _)⟩
  simp only [qz]; refine Zr ?_; refine wk_draws_m (hz1 := (Sa (Sa (sc _ (sk _ (sc _ sn))) _) _)) [(0, 0), (1, 0), (3, 0), (4, 0), (5, 3), (2, 1), (6, 0), (7, 2), (8, 0), (9, 1)] 7 Kx Kx (fun c d v a w h => by cases d <;> exact h) ?_; simp only [List.map_cons, List.map_nil, List.getD_cons_zero, List.getD_cons_succ]; refine Fd 7 0 UU41 ?_; refine rf_loadR (n := 8) rfl rfl rfl UU39 rfl Kx (fun w hw => Kn.hd0 (Kn.tl (Kn.tlU (Kn.tlU hw)))) rfl rfl (Nq ?_)
  refine Fd 0 8 UU41 ?_; refine rf_load rfl rfl rfl UU3 rfl (fun w hw => (Kn.hd0 (Kn.tl (Kn.tlU (Kn.tlU hw)))).at rfl) (Nq ?_); refine rf_add rfl rfl rfl rfl (wrap_ok Ox Ox) (Nq ?_)
  apply (rg_made (T := fun v u => ∃ s0 s1 s2 s3, v = arV (z2.tr) s0 s1 s2 s3 ∧ SU4 u (z2.tr) s0 s1 s2 s3)) Rx Kx
  case hargs => exact Ax
  case h => exact fun w hw => timesR_any z2 _ _ _ _ hfit1 w (hsk1.at hw (List.sublist_append_left _ _))
  case hz => exact (fun _ h => by cases h; exact (Sa (Sa (sc _ (sc _ (sc _ sn))) _) _))
  rintro _ u8 ⟨t0, t1, t2, t3, rfl, hS8⟩
  obtain ⟨⟨ta8_0, tc8_0, rfl⟩, -⟩ := id hS8.a
  obtain ⟨⟨ta8_1, tc8_1, rfl⟩, -⟩ := id hS8.b
  obtain ⟨⟨ta8_2, tc8_2, rfl⟩, -⟩ := id hS8.c
  obtain ⟨⟨ta8_3, tc8_3, rfl⟩, -⟩ := id hS8.d
  simp only [qz]; refine Fd 7 0 UU41 ?_; refine rf_storeRM (n := 8) rfl rfl Kx rfl rfl (UpdR.app _ (UpdR.app _ (UpdR.app _ (UpdR.there _ (UpdR.here _ _ _ Nl))))) ((Sa (Sa (sc _ (sk _ (sc _ sn))) _) _).trans (Sr _ _)) (Nw ?_); refine Fd 0 8 UU41 ?_; refine rf_store rfl rfl Kx rfl rfl (UpdR.app _ (UpdR.app _ (UpdR.app _ (UpdR.there _ (UpdR.here _ _ _ Nl))))) (fun _ h => by cases h; exact ((Sa (Sa (sc _ (sk _ (sc _ sn))) _) _).trans (Sr _ _))) (Nq ?_)
  refine rg_nil (ek_block ?_)
  have hup : Nm.up (i + 1) y = z2.tr := by rw [Nm.up_succ1, hz1.out]
  have hfn : z2.tr.Fit 9850501549098619803069760025035903451269934817616361666987073351061430442874302652853566563721228910201656997576704 := by rw [← hup]; exact up_fit_of hy Ox
  have hkt : z2.tr.k = z2.k + 1 := rfl
  refine ek_sub (Sa ((Sa (sc _ (sc _ (sc _ sn))) _).trans (Sr _ _)) _) ?_; refine ek_roundF (20000 - (i + 1)) Ox Kx ?_
  exact ⟨i + 1, z2.tr, ta8_0, ta8_1, ta8_2, ta8_3, tc8_0, tc8_1, tc8_2, tc8_3, u8, by rfl, by rfl, hup, SK4.own hS8, hfn, Ox, Ox, Ox⟩
 simp only [qz]
 refine Zr ?_
 refine wk_draws_m (hz1 := (Sa (sc _ (sc _ (sk _ sn))) _)) [(0, 0), (1, 0), (3, 0), (4, 0), (5, 3), (2, 1), (6, 0), (7, 2), (8, 0), (9, 1)] 7 Kx Kx (fun c d v a w h => by cases d <;> exact h) ?_
 simp only [List.map_cons, List.map_nil, List.getD_cons_zero, List.getD_cons_succ]
 refine Fd 7 0 UU41 ?_
 refine rf_loadR (n := 8) rfl rfl rfl UU39 rfl Kx (fun w hw => Kn.hd0 (Kn.tl (Kn.tl (Kn.tlU hw)))) rfl rfl (Nq ?_)
 refine Fd 0 8 UU41 ?_
 refine rf_load rfl rfl rfl UU3 rfl (fun w hw => (Kn.hd0 (Kn.tl (Kn.tl (Kn.tlU hw)))).at rfl) (Nq ?_)
 refine rf_add rfl rfl rfl rfl (wrap_ok Ox Ox) (Nq ?_)
 apply (rg_made (T := fun v u => ∃ s0 s1 s2 s3, v = arV (z.tr) s0 s1 s2 s3 ∧ SU4 u (z.tr) s0 s1 s2 s3)) Rx Kx
 case hargs => exact Ax
 case h => exact fun w hw => timesR_any z _ _ _ _ hfit0 w (hsk0.at hw (List.sublist_append_left _ _))
 case hz => exact (fun _ h => by cases h; exact (Sa (sc _ (sc _ (sc _ sn))) _))
 rintro _ u9 ⟨t0, t1, t2, t3, rfl, hS9⟩
 obtain ⟨⟨ta9_0, tc9_0, rfl⟩, -⟩ := id hS9.a
 obtain ⟨⟨ta9_1, tc9_1, rfl⟩, -⟩ := id hS9.b
 obtain ⟨⟨ta9_2, tc9_2, rfl⟩, -⟩ := id hS9.c
 obtain ⟨⟨ta9_3, tc9_3, rfl⟩, -⟩ := id hS9.d
 simp only [qz]
 refine Fd 7 0 UU41 ?_
 refine rf_storeRM (n := 8) rfl rfl Kx rfl rfl (UpdR.app _ (UpdR.app _ (UpdR.there _ (UpdR.there _ (UpdR.here _ _ _ Nl))))) ((Sa (sc _ (sc _ (sk _ sn))) _).trans (Sr _ _)) (Nw ?_)
 refine Fd 0 8 UU41 ?_
 refine rf_store rfl rfl Kx rfl rfl (UpdR.app _ (UpdR.app _ (UpdR.there _ (UpdR.there _ (UpdR.here _ _ _ Nl))))) (fun _ h => by cases h; exact ((Sa (sc _ (sc _ (sk _ sn))) _).trans (Sr _ _))) (Nq ?_)
 refine rg_nil (ek_block ?_)
 have hup : Nm.up (j + 1) x = z.tr := by rw [Nm.up_succ1, hz0.out]
 have hfn : z.tr.Fit 9850501549098619803069760025035903451269934817616361666987073351061430442874302652853566563721228910201656997576704 := by rw [← hup]; exact up_fit_of hx Ox
 have hkt : z.tr.k = z.k + 1 := rfl
 refine ek_sub (Sa ((sc _ (sc _ (sc _ sn))).trans (Sr _ _)) _) ?_
 refine ek_roundF (20000 - (j + 1)) Ox Kx ?_
 exact ⟨j + 1, z.tr, ta9_0, ta9_1, ta9_2, ta9_3, tc9_0, tc9_1, tc9_2, tc9_3, u9, by rfl, by rfl, hup, SK4.own hS9, hfn, Ox, Ox, Ox⟩
abbrev slD (T : Nat → Int) (sa : Nat → Option Addr) (sc : Nat → Nat) (m : Nat) : Value := .slice (sa m) (digs (T m).natAbs).length (sc m)
def wdC (T : Nat → Int) (sa : Nat → Option Addr) (sc : Nat → Nat) (k : Int) : Array Value :=
  #[.bool (decide (T 0 < 0)), slD T sa sc 0, .bool (decide (T 1 < 0)), slD T sa sc 1, .bool (decide (T 2 < 0)), slD T sa sc 2, .bool (decide (T 3 < 0)), slD T sa sc 3, .int .i64 k]
theorem wd_row {w : World} {g t m : Nat} {T : Nat → Int} {sa : Nat → Option Addr} {sc : Nat → Nat} {k : Int} (h : Hd w g t (wdC T sa sc k)) (hm : m < 4) : w.rangeAt g (0 + m * 2) [.bool (decide (T m < 0)), slD T sa sc m] := by
 have := cells_range h (0 + m * 2) 2
 have e : ((wdC T sa sc k).toList.drop (0 + m * 2)).take 2 = [.bool (decide (T m < 0)), slD T sa sc m] := by
  rcases lt4 hm with rfl | rfl | rfl | rfl <;> rfl
 rwa [e] at this
theorem wd_all {w : World} {g t : Nat} {T : Nat → Int} {sa : Nat → Option Addr} {sc : Nat → Nat} {k : Int} (h : Hd w g t (wdC T sa sc k)) :
    w.rangeAt g 0 [.bool (decide (T 0 < 0)), slD T sa sc 0, .bool (decide (T 1 < 0)), slD T sa sc 1, .bool (decide (T 2 < 0)), slD T sa sc 2, .bool (decide (T 3 < 0)), slD T sa sc 3, .int .i64 k] := cells_range h 0 9
theorem wd_set {m : Nat} {T : Nat → Int} {sa : Nat → Option Addr} {sc : Nat → Nat} {k : Int} {t : Int} {pa : Option Addr} {pc : Nat} (hm : m < 4) :
    setMany (wdC T sa sc k) (0 + m * 2) [.bool (decide (t < 0)), .slice pa (digs t.natAbs).length pc] = wdC (upd T m t) (upd sa m pa) (upd sc m pc) k := by
  rcases lt4 hm with rfl | rfl | rfl | rfl <;> rfl
theorem wd_set' {m : Nat} {T : Nat → Int} {sa : Nat → Option Addr} {sc : Nat → Nat} {k : Int} {t : Int} {pa : Option Addr} {pc : Nat} (hm : m < 4) :
    ((wdC T sa sc k).setIfInBounds (0 + m * 2) (.bool (decide (t < 0)))).setIfInBounds (0 + m * 2 + 1) (.slice pa (digs t.natAbs).length pc) = wdC (upd T m t) (upd sa m pa) (upd sc m pc) k := wd_set hm
theorem wd_zero (k : Int) : (#[.bool false, .slice none 0 0, .bool false, .slice none 0 0, .bool false, .slice none 0 0, .bool false, .slice none 0 0, .int .i64 k] : Array Value) = wdC (fun _ => 0) (fun _ => none) (fun _ => 0) k := by
 unfold wdC
 simp only [slD, Int.natAbs_zero, digs_zero]
 rfl
def RetT (w : World) (T : Nat → Int) (k : Int) (e : Ending) (w' : World) : Prop :=
  ∃ v u, e = .returned v ∧ (∃ sa sc, v = .agg (wdC T sa sc k) ∧ ∀ m, m < 4 → SU u (slD T sa sc m) (T m).natAbs) ∧ Made w u w'
theorem su_upd {u u' : List Blk} {T : Nat → Int} {sa : Nat → Option Addr} {sc : Nat → Nat} {j : Nat} {t : Int} {pa : Option Addr} {pc : Nat} (h : ∀ m, m < 4 → SU u (slD T sa sc m) (T m).natAbs) (h' : SU u' (.slice pa (digs t.natAbs).length pc) t.natAbs) :
    ∀ m, m < 4 → SU (u' ++ u) (slD (upd T j t) (upd sa j pa) (upd sc j pc) m) (upd T j t m).natAbs := by
  intro m hm
  by_cases e : m = j
  · subst e
    unfold slD
    rw [upd_same, upd_same, upd_same]
    exact h'.mono (List.sublist_append_left _ _)
  · unfold slD
    rw [upd_other T t e, upd_other sa pa e, upd_other sc pc e]
    exact (h m hm).mono (Sr _ _)
theorem wtimes_core (X Y : Nat → Int) (xa ya : Nat → Option Addr) (xc yc : Nat → Nat) (xk yk : Int) (lX : ∀ m, m < 4 → (digs (X m).natAbs).length ≤ 1000) (lY : ∀ m, m < 4 → (digs (Y m).natAbs).length ≤ 1000) (hP : ∀ i k, i < 4 → k < 4 → -1231312693637327475383720003129487931408741852202045208373384168882678805359287831606695820465153613775207124697088 ≤ X i * Y k ∧ X i * Y k ≤ 1231312693637327475383720003129487931408741852202045208373384168882678805359287831606695820465153613775207124697088) (hk : 0 ≤ xk) (hk1 : xk ≤ 10000) (hk2 : 0 ≤ yk) (hk3 : yk ≤ 10000) (w : World) (hX : ∀ m, m < 4 → SA w (slD X xa xc m) (X m).natAbs) (hY : ∀ m, m < 4 → SA w (slD Y ya yc m) (Y m).natAbs) : Calls Tryz.prog 14 #[.agg (wdC X xa xc xk), .agg (wdC Y ya yc yk)] w fun e w' => RetT w (acc X Y 16) (xk + yk) e w' := by
 go_enter Tryz.func14, Tryz.ntmps14
 refine wk_start ?_
 refine wk_seq ?_
 refine Wr [1, 1, 1] ?_
 refine Rgn fun g1 => ?_
 simp only [qz]
 refine Rgn fun g2 => ?_
 simp only [qz]
 refine Rgn fun g3 => ?_
 simp only [qz]
 refine Zr ?_
 refine Wr [0, 0, 0, 0, 0, 0, 1, 1] ?_
 refine Fd 0 8 UU41 ?_
 refine rf_load rfl rfl rfl UU3 rfl (fun w hw => (Kn.hd0 (Kn.tl (Kn.tl hw))).at rfl) (Nq ?_)
 refine Fd 0 8 UU41 ?_
 refine rf_load rfl rfl rfl UU3 rfl (fun w hw => (Kn.hd0 (Kn.tl hw)).at rfl) (Nq ?_)
 refine rf_add rfl rfl rfl rfl (wrap_ok Ox Ox) (Nq ?_)
 refine rf_build (cs := fun a => #[.bool false, .slice none 0 0, .bool false, .slice none 0 0, .bool false, .slice none 0 0, .bool false, .slice none 0 0, a.eval (.tmp 13)]) rfl rfl Kx (Nq ?_)
 refine Rgn fun g4 => ?_
 simp only [qz]
 refine rf_storeR (n := 9) rfl rfl Kx rfl rfl (UpdR.here _ _ _ Nl) Nz (Nw ?_)
 refine Zr ?_
 rw [wd_zero (xk + yk)]
 refine Wm [0] ?_
 refine Zr ?_
 refine wk_loopF [6, 7, 8, 15, 16, 17, 18, 19, 20, 21, 22, 23, 24, 25, 26, 27, 28, 29, 30, 31, 32, 33, 34, 35, 36, 37, 38, 39, 40, 41, 42, 43, 44, 45, 46, 47, 48, 49, 50, 51, 52] (fun mz f s => ∃ (i : Nat) (T : Nat → Int) (da : Nat → Option Addr) (dc : Nat → Nat) (u : List Blk), f 6 = .int .i64 i ∧ s = (u ++ ((g4, .cells (wdC T da dc (xk + yk)) 41) :: ((g3, .cells #[.bool false, .slice none 0 0, .bool false, .slice none 0 0, .bool false, .slice none 0 0, .bool false, .slice none 0 0, .int .i64 0] 41) :: ((g2, .cells (wdC Y ya yc yk) 41) :: ((g1, .cells (wdC X xa xc xk) 41) :: []))))) ∧ mz = 4 - i ∧ i ≤ 4 ∧ Hid (acc X Y (i * 4) = T) ∧ (∀ m, m < 4 → SU u (slD T da dc m) (T m).natAbs)) ((fun (i : Nat) (T : Nat → Int) (da : Nat → Option Addr) (dc : Nat → Nat) (u : List Blk) => 4 - i) (0) (fun _ => 0) (fun _ => none) (fun _ => 0) ([])) ?_ Kx ?_
 ·exact ⟨0, fun _ => 0, fun _ => none, fun _ => 0, [], rfl, rfl, rfl, by omega, (Lib.hid rfl), (fun m _ => by unfold slD; simp only [Int.natAbs_zero, digs_zero]; exact SU.nil)⟩
 rintro mz f1 s ⟨i, T, da, dc, u, hs1_6, rfl, hn, hd1, hd2, hd3⟩
 simp only [Act.putF, List.foldl_cons, List.foldl_nil, hs1_6, Act.put, Act.eval, qW, Nat.reduceAdd, Bool.not_true, Bool.not_false]
 clear hs1_6
 have hac := hd2
 have hsu := hd3
 clear hd2 hd3
 refine wk_seq (wk_seq ?_)
 refine Wm [0, 0] ?_
 refine rfb_lss rfl rfl rfl rfl ?_
 rintro (_ | _) h1 <;> try simp only [qd, ne_eq] at h1
 ·simp only [qz]
  refine Zr ?_; refine Wr [0, 1] ?_; refine rf_loadC (n := 9) (vs := [.bool (decide (T 0 < 0)), slD T da dc 0, .bool (decide (T 1 < 0)), slD T da dc 1, .bool (decide (T 2 < 0)), slD T da dc 2, .bool (decide (T 3 < 0)), slD T da dc 3, .int .i64 (xk + yk)]) rfl rfl rfl UU41 rfl Kx rfl (fun w hw => wd_all (Kn.hd0 (Kn.tlU hw))) (Nq ?_); refine rf_storeR (n := 9) rfl rfl Kx rfl rfl (UpdR.app _ (UpdR.there _ (UpdR.here _ _ _ Nl))) Nz (Nw ?_)
  refine Zr ?_; refine ek_ret (fun w hw => ⟨rfl, _, run_results1 rfl rfl (Kn.hd0 (Kn.tl (Kn.tlU hw))) UU41 rfl Kx, ?_⟩); (try simp only [qz])
  obtain rfl : i = 4 := by omega
  exact ⟨_, u, rfl, ⟨da, dc, by rw [show acc X Y 16 = T from hac.out]; rfl, by rw [show acc X Y 16 = T from hac.out]; exact hsu⟩, hw.made (List.sublist_append_left _ _)⟩
 simp only [qz]
 refine Zr ?_
 refine Wm [0] ?_
 refine Zr ?_
 refine wk_loopF [7, 8, 19, 20, 21, 22, 23, 24, 25, 26, 27, 28, 29, 30, 31, 32, 33, 34, 35, 36, 37, 38, 39, 40, 41, 42, 43, 44, 45, 46, 47, 48, 49, 50, 51, 52] (fun mz f s => ∃ (k : Nat) (T2 : Nat → Int) (da2 : Nat → Option Addr) (dc2 : Nat → Nat) (u2 : List Blk), f 7 = .int .i64 k ∧ s = (u2 ++ ((g4, .cells (wdC T2 da2 dc2 (xk + yk)) 41) :: ((g3, .cells #[.bool false, .slice none 0 0, .bool false, .slice none 0 0, .bool false, .slice none 0 0, .bool false, .slice none 0 0, .int .i64 0] 41) :: ((g2, .cells (wdC Y ya yc yk) 41) :: ((g1, .cells (wdC X xa xc xk) 41) :: []))))) ∧ mz = 4 - k ∧ k ≤ 4 ∧ Hid (acc X Y (i * 4 + k) = T2) ∧ (∀ m, m < 4 → SU u2 (slD T2 da2 dc2 m) (T2 m).natAbs)) ((fun (k : Nat) (T2 : Nat → Int) (da2 : Nat → Option Addr) (dc2 : Nat → Nat) (u2 : List Blk) => 4 - k) (0) (T) (da) (dc) (u)) ?_ Kx ?_
 ·exact ⟨0, T, da, dc, u, rfl, rfl, rfl, by omega, hac, hsu⟩
 rintro mz f2 s ⟨k, T2, da2, dc2, u2, hs2_7, rfl, hn, he1, he2, he3⟩
 simp only [Act.putF, List.foldl_cons, List.foldl_nil, hs2_7, Act.put, Act.eval, qW, Nat.reduceAdd, Bool.not_true, Bool.not_false]
 clear hs2_7
 have hac2 := he2
 have hsu2 := he3
 clear he2 he3
 refine wk_seq (wk_seq ?_)
 refine Wm [0, 0] ?_
 refine rfb_lss rfl rfl rfl rfl ?_
 rintro (_ | _) h2 <;> try simp only [qd, ne_eq] at h2
 ·simp only [qz]
  refine Zr ?_; refine Wm [0, 0, 0] ?_; refine rf_add rfl rfl rfl rfl (wrap_ok Ox Ox) (Zm ?_); refine rg_nil ?_
  obtain rfl : k = 4 := by omega
  have hac' : acc X Y ((i + 1) * 4) = T2 := by rw [← hac2.out]; congr 1; omega
  refine ek_roundF (4 - (i + 1)) Ox Kx ?_
  exact ⟨i + 1, T2, da2, dc2, u2, rfl, by rfl, by rfl, Ox, (Lib.hid hac'), hsu2⟩
 simp only [qz]
 refine rg_nil (ek_next (wk_cond_t rfl (wk_skip (ek_next (wk_seq (wk_block ?_))))))
 refine wk_cutF [8, 23, 24, 25, 26, 27, 28, 29, 30, 31] (fun f s => ∃ (gp : Nat) (uq : List Blk) (pa : Option Addr) (pc : Nat), f 8 = .pointer (some ⟨gp, 0, none⟩) ∧ s = ((gp, .cells #[.bool (decide (X i * Y k < 0)), .slice pa (digs (X i * Y k).natAbs).length pc] 38) :: (uq ++ (u2 ++ ((g4, .cells (wdC T2 da2 dc2 (xk + yk)) 41) :: ((g3, .cells #[.bool false, .slice none 0 0, .bool false, .slice none 0 0, .bool false, .slice none 0 0, .bool false, .slice none 0 0, .int .i64 0] 41) :: ((g2, .cells (wdC Y ya yc yk) 41) :: ((g1, .cells (wdC X xa xc xk) 41) :: []))))))) ∧ SU uq (.slice pa (digs (X i * Y k).natAbs).length pc) (X i * Y k).natAbs) ?_ ?_
 ·refine wk_rt _ Kx (Sa (sc _ (sc _ (sc _ (sc _ sn)))) _) ?_
  refine rt_soft (i := 0) rfl Kx (fun c d v a w h => by cases d <;> exact h) (Sa (sc _ (sc _ (sc _ (sc _ sn)))) _) ?_; refine rg_move ?_; simp only [qz]; refine rg_nil ?_; refine ek_rt (Sa (sc _ (sc _ (sc _ (sc _ sn)))) _) ?_; refine rt_soft (i := 1) rfl Kx (fun c d v a w h => by cases d <;> exact h) (Sa (sc _ (sc _ (sc _ (sc _ sn)))) _) ?_; refine Fd 7 0 UU41 ?_; refine rg_nil ?_; refine ek_rt (Sa (sc _ (sc _ (sc _ (sc _ sn)))) _) ?_
  refine rt_soft (i := 2) rfl Kx (fun c d v a w h => by cases d <;> exact h) (Sa (sc _ (sc _ (sc _ (sc _ sn)))) _) ?_; refine rf_indexA (n := i) (sz := 2) (j := 0 + i * 2) rfl rfl rfl rfl UU39 Kx Ox rfl (Nq ?_); refine rg_nil ?_; refine ek_rt (Sa (sc _ (sc _ (sc _ (sc _ sn)))) _) ?_; refine rt_soft (i := 3) rfl Kx (fun c d v a w h => by cases d <;> exact h) (Sa (sc _ (sc _ (sc _ (sc _ sn)))) _) ?_
  refine rf_loadC (n := 2) (vs := [.bool (decide (X (i) < 0)), slD X xa xc (i)]) rfl rfl rfl UU38 rfl Kx rfl (fun w hw => wd_row (Kn.hd0 (Kn.tl (Kn.tl (Kn.tl (Kn.tlU hw))))) Ox) (Nq ?_); refine rg_nil ?_; refine ek_rt (Sa (sc _ (sc _ (sc _ (sc _ sn)))) _) ?_; refine rt_soft (i := 4) rfl Kx (fun c d v a w h => by cases d <;> exact h) (Sa (sc _ (sc _ (sc _ (sc _ sn)))) _) ?_; refine rg_move ?_; simp only [qz]
  refine rg_nil ?_; refine ek_rt (Sa (sc _ (sc _ (sc _ (sc _ sn)))) _) ?_; refine rt_soft (i := 5) rfl Kx (fun c d v a w h => by cases d <;> exact h) (Sa (sc _ (sc _ (sc _ (sc _ sn)))) _) ?_; refine Fd 7 0 UU41 ?_; refine rg_nil ?_; refine ek_rt (Sa (sc _ (sc _ (sc _ (sc _ sn)))) _) ?_; refine rt_soft (i := 6) rfl Kx (fun c d v a w h => by cases d <;> exact h) (Sa (sc _ (sc _ (sc _ (sc _ sn)))) _) ?_
  refine rf_indexA (n := k) (sz := 2) (j := 0 + k * 2) rfl rfl rfl rfl UU39 Kx Ox rfl (Nq ?_); refine rg_nil ?_; refine ek_rt (Sa (sc _ (sc _ (sc _ (sc _ sn)))) _) ?_; refine rt_soft (i := 7) rfl Kx (fun c d v a w h => by cases d <;> exact h) (Sa (sc _ (sc _ (sc _ (sc _ sn)))) _) ?_; refine rf_loadC (n := 2) (vs := [.bool (decide (Y (k) < 0)), slD Y ya yc (k)]) rfl rfl rfl UU38 rfl Kx rfl (fun w hw => wd_row (Kn.hd0 (Kn.tl (Kn.tl (Kn.tlU hw)))) Ox) (Nq ?_)
  refine rg_nil ?_; refine ek_rt (Sa (sc _ (sc _ (sc _ (sc _ sn)))) _) ?_; refine rt_hard2 (i := 8) (j := 9) Kx rfl rfl ?_ ?_
  ·apply (rg_made (T := fun v u => ∃ s, v = bgV (X i * Y k) s ∧ SU u s (X i * Y k).natAbs)) Rx Kx
   case hargs => exact Ax
   case h => exact fun w hw => bmul_any (X i) (Y k) _ _ (lX i Ox) (lY k Ox) w ((hX i Ox).kn hw) ((hY k Ox).kn hw)
   case hz => exact (fun _ h => by cases h; exact (Sa (sc _ (sc _ (sc _ (sc _ sn)))) _))
   rintro _ uP ⟨sP, rfl, hSP⟩
   obtain ⟨⟨daP, dcP, rfl⟩, -⟩ := id hSP
   simp only [qz]; refine rg_nil ?_; refine ek_rt ((Sa (sc _ (sc _ (sc _ (sc _ sn)))) _).trans (Sr _ _)) ?_; refine rt_hard1 (i := 9) Kx rfl ?_
   refine rg_new (cs := ?_) (ty := ?_) Rx (fun w => ?_) (fun _ h => by cases h; exact ((Sa (sc _ (sc _ (sc _ (sc _ sn)))) _).trans (Sr _ _))) (fun g5 => ?_); rotate_left 2
   focus (go_simp; rfl)
   simp only [qz]; refine rg_nil ?_; refine ek_rt (sk _ ((Sa (sc _ (sc _ (sc _ (sc _ sn)))) _).trans (Sr _ _))) ?_; refine rt_hard1 (i := 10) Kx rfl ?_; refine rf_storeR (n := 2) rfl rfl Kx rfl rfl (UpdR.here _ _ _ Nl) (fun _ h => by cases h; exact (sk _ ((Sa (sc _ (sc _ (sc _ (sc _ sn)))) _).trans (Sr _ _)))) (Nw ?_); refine rg_nil ?_; refine ek_rt (sk _ ((Sa (sc _ (sc _ (sc _ (sc _ sn)))) _).trans (Sr _ _))) ?_
   refine rt_nil Kx ?_; refine ek_midF Kx ?_
   exact ⟨g5, uP, daP, dcP, rfl, by rfl, hSP⟩
  refine rg_new (cs := ?_) (ty := ?_) Rx (fun w => ?_) (fun _ h => by cases h; exact (Sa (sc _ (sc _ (sc _ (sc _ sn)))) _)) (fun g6 => ?_); rotate_left 2
  focus (go_simp; rfl)
  simp only [qz]; refine rg_nil ?_; refine ek_rt (sk _ (Sa (sc _ (sc _ (sc _ (sc _ sn)))) _)) ?_; refine rt_hard1 (i := 8) Kx rfl ?_
  apply (rg_made (T := fun v u => ∃ s, v = bgV (X i * Y k) s ∧ SU u s (X i * Y k).natAbs)) Rx Kx
  case hargs => exact Ax
  case h => exact fun w hw => bmul_any (X i) (Y k) _ _ (lX i Ox) (lY k Ox) w ((hX i Ox).kn hw) ((hY k Ox).kn hw)
  case hz => exact (fun _ h => by cases h; exact (sk _ (Sa (sc _ (sc _ (sc _ (sc _ sn)))) _)))
  rintro _ uP ⟨sP, rfl, hSP⟩
  obtain ⟨⟨daP, dcP, rfl⟩, -⟩ := id hSP
  simp only [qz]; refine rg_nil ?_; refine ek_rt ((sk _ (Sa (sc _ (sc _ (sc _ (sc _ sn)))) _)).trans (Sr _ _)) ?_; refine rt_hard1 (i := 10) Kx rfl ?_; refine rf_storeR (n := 2) rfl rfl Kx rfl rfl (UpdR.app _ (UpdR.here _ _ _ Nl)) (fun _ h => by cases h; exact ((sk _ (Sa (sc _ (sc _ (sc _ (sc _ sn)))) _)).trans (Sr _ _))) (Nw ?_); refine rg_nil ?_; refine ek_rt ((sk _ (Sa (sc _ (sc _ (sc _ (sc _ sn)))) _)).trans (Sr _ _)) ?_
  refine rt_nil Kx ?_; refine ek_perm (perm_at (l := (uP)) (((((((List.Perm.refl _).cons _).cons _).cons _).cons _).append_left _).append_left _)) ?_; refine ek_midF Kx ?_
  exact ⟨g6, uP, daP, dcP, rfl, by rfl, hSP⟩
 rintro f3 s ⟨gp, uq, pa, pc, hs3_8, rfl, hSp⟩
 simp only [Act.putF, List.foldl_cons, List.foldl_nil, hs3_8, Act.put, Act.eval, qW, Nat.reduceAdd, Bool.not_true, Bool.not_false]
 clear hs3_8
 have hpp := hP i k Ox Ox
 refine wk_seq (wk_seq ?_)
 refine Wm [0, 0, 0, 0] ?_
 refine rf_add rfl rfl rfl rfl (wrap_ok Ox Ox) (Nq ?_)
 refine rfb_geq rfl rfl rfl rfl ?_
 rintro (_ | _) h3 <;> try simp only [qd, ne_eq] at h3
 ·simp only [qz]
  refine Zr ?_; refine wk_draws_m (hz1 := (sc _ (Sa (Sa (sk _ (sc _ (sc _ (sc _ sn)))) _) _))) [(0, 0), (1, 0), (2, 0), (3, 0), (4, 0), (5, 0), (6, 0), (7, 0), (8, 0), (9, 0), (10, 0), (11, 0), (13, 3), (12, 1), (14, 0), (15, 2)] 15 Kx Kx (fun c d v a w h => by cases d <;> exact h) ?_; simp only [List.map_cons, List.map_nil, List.getD_cons_zero, List.getD_cons_succ]; refine Zm ?_; refine rf_add rfl rfl rfl rfl (wrap_ok Ox Ox) (Nq ?_)
  refine rf_rem (r := (((i + k) % 4 : Nat) : Int)) rfl rfl rfl rfl (by decide) ((rem_ok Ox).trans Ox) (Zm ?_); refine rf_add rfl rfl rfl rfl (wrap_ok Ox Ox) (Nq ?_); refine rf_rem (r := (((i + k) % 4 : Nat) : Int)) rfl rfl rfl rfl (by decide) ((rem_ok Ox).trans Ox) (Nq ?_); refine Fd 7 0 UU41 ?_; refine rf_indexA (n := (i + k) % 4) (sz := 2) (j := 0 + ((i + k) % 4) * 2) rfl rfl rfl rfl UU39 Kx Ox rfl (Nq ?_)
  refine rf_loadC (n := 2) (vs := [.bool (decide (T2 ((i + k) % 4) < 0)), slD T2 da2 dc2 ((i + k) % 4)]) rfl rfl rfl UU38 rfl Kx rfl (fun w hw => wd_row (Kn.hd0 (Kn.tlU (Kn.tlU (Kn.tl hw)))) Ox) (Nq ?_); refine rf_loadR (n := 2) rfl rfl rfl UU38 rfl Kx (fun w hw => Kn.hd0 hw) rfl rfl (Nq ?_); refine Fd 7 0 UU41 ?_
  have hT := acc_bound (X := X) (Y := Y) (by decide) hP (i * 4 + k) ((i + k) % 4) Ox
  rw [hac2.out] at hT
  have hn15 : ((i * 4 + k : Nat) : Int) * 1231312693637327475383720003129487931408741852202045208373384168882678805359287831606695820465153613775207124697088 ≤ 15 * 1231312693637327475383720003129487931408741852202045208373384168882678805359287831606695820465153613775207124697088 := Int.mul_le_mul_of_nonneg_right Ox (by decide)
  have hpp := hP i k Ox Ox
  apply (rg_made (T := fun v u => ∃ s, v = bgV (T2 ((i + k) % 4) + X i * Y k) s ∧ SU u s (T2 ((i + k) % 4) + X i * Y k).natAbs)) Rx Kx
  case hargs => exact Ax
  case h => exact fun w hw => badd_any (T2 ((i + k) % 4)) (X i * Y k) _ _ (len_big Ox Ox) (len_big Ox Ox) w ((hsu2 _ Ox).at hw (List.Sublist.cons _ ((List.sublist_append_left _ _).trans (Sr _ _)))) (hSp.at hw (List.Sublist.cons _ (List.sublist_append_left _ _)))
  case hz => exact (fun _ h => by cases h; exact (sc _ (Sa (Sa (sc _ (sc _ (sc _ (sc _ sn)))) _) _)))
  rintro _ uN ⟨sN, rfl, hSN⟩
  obtain ⟨⟨daN, dcN, rfl⟩, -⟩ := id hSN
  simp only [qz]; refine rf_indexA (n := (i + k) % 4) (sz := 2) (j := 0 + ((i + k) % 4) * 2) rfl rfl rfl rfl UU39 Kx Ox rfl (Nq ?_); refine rf_storeRM (n := 2) rfl rfl Kx rfl rfl (UpdR.app _ (UpdR.there _ (UpdR.app _ (UpdR.app _ (UpdR.here _ _ _ (show 0 + ((i + k) % 4) * 2 + 2 ≤ 9 by omega)))))) ((sc _ (Sa (Sa (sk _ (sc _ (sc _ (sc _ sn)))) _) _)).trans (Sr _ _)) (Nw ?_); refine Zr ?_; refine Wm [0, 0, 0] ?_
  refine rf_add rfl rfl rfl rfl (wrap_ok Ox Ox) (Zm ?_); refine rg_nil ?_; refine ek_sub (Sa (sk _ ((Sa (sc _ (sc _ (sc _ (sc _ sn)))) _).trans (Sr _ _))) _) ?_; refine ek_roundF (4 - (k + 1)) Ox Kx ?_
  exact ⟨k + 1, upd T2 ((i + k) % 4) (T2 ((i + k) % 4) + X i * Y k), upd da2 ((i + k) % 4) daN, upd dc2 ((i + k) % 4) dcN, uN ++ u2, rfl, (by rw [List.append_assoc, wd_set' Ox]), by rfl, Ox, (Lib.hid (by rw [acc_step Ox hac2.out, if_neg Ox])), (su_upd hsu2 hSN)⟩
 simp only [qz]
 refine Zr ?_
 refine Wr [0, 1, 1] ?_
 refine rf_loadR (n := 2) rfl rfl rfl UU38 rfl Kx (fun w hw => Kn.hd0 hw) rfl rfl (Nq ?_)
 apply rg_pure Rx Kx
 case hargs => exact Ax
 case h => exact fun w hw => bneg_any (X i * Y k) _ (len_big Ox Ox) w (hSp.at hw (List.Sublist.cons _ (List.sublist_append_left _ _)))
 case hz => exact Nz
 simp only [qz]
 refine rf_storeR (n := 2) rfl rfl Kx rfl rfl (UpdR.here _ _ _ Nl) Nz (Nw ?_)
 refine rg_nil (ek_next ?_)
 refine wk_draws_m (hz1 := (sc _ (Sa (Sa (sk _ (sc _ (sc _ (sc _ sn)))) _) _))) [(0, 0), (1, 0), (2, 0), (3, 0), (4, 0), (5, 0), (6, 0), (7, 0), (8, 0), (9, 0), (10, 0), (11, 0), (13, 3), (12, 1), (14, 0), (15, 2)] 15 Kx Kx (fun c d v a w h => by cases d <;> exact h) ?_
 simp only [List.map_cons, List.map_nil, List.getD_cons_zero, List.getD_cons_succ]
 refine Zm ?_
 refine rf_add rfl rfl rfl rfl (wrap_ok Ox Ox) (Nq ?_)
 refine rf_rem (r := (((i + k) % 4 : Nat) : Int)) rfl rfl rfl rfl (by decide) ((rem_ok Ox).trans Ox) (Zm ?_)
 refine rf_add rfl rfl rfl rfl (wrap_ok Ox Ox) (Nq ?_)
 refine rf_rem (r := (((i + k) % 4 : Nat) : Int)) rfl rfl rfl rfl (by decide) ((rem_ok Ox).trans Ox) (Nq ?_)
 refine Fd 7 0 UU41 ?_
 refine rf_indexA (n := (i + k) % 4) (sz := 2) (j := 0 + ((i + k) % 4) * 2) rfl rfl rfl rfl UU39 Kx Ox rfl (Nq ?_)
 refine rf_loadC (n := 2) (vs := [.bool (decide (T2 ((i + k) % 4) < 0)), slD T2 da2 dc2 ((i + k) % 4)]) rfl rfl rfl UU38 rfl Kx rfl (fun w hw => wd_row (Kn.hd0 (Kn.tlU (Kn.tlU (Kn.tl hw)))) Ox) (Nq ?_)
 refine rf_loadR (n := 2) rfl rfl rfl UU38 rfl Kx (fun w hw => Kn.hd0 hw) rfl rfl (Nq ?_)
 refine Fd 7 0 UU41 ?_
 have hT := acc_bound (X := X) (Y := Y) (by decide) hP (i * 4 + k) ((i + k) % 4) Ox
 rw [hac2.out] at hT
 have hn15 : ((i * 4 + k : Nat) : Int) * 1231312693637327475383720003129487931408741852202045208373384168882678805359287831606695820465153613775207124697088 ≤ 15 * 1231312693637327475383720003129487931408741852202045208373384168882678805359287831606695820465153613775207124697088 := Int.mul_le_mul_of_nonneg_right Ox (by decide)
 have hpp := hP i k Ox Ox
 apply (rg_made (T := fun v u => ∃ s, v = bgV (T2 ((i + k) % 4) + -(X i * Y k)) s ∧ SU u s (T2 ((i + k) % 4) + -(X i * Y k)).natAbs)) Rx Kx
 case hargs => exact Ax
 case h => exact fun w hw => badd_any (T2 ((i + k) % 4)) (-(X i * Y k)) _ _ (len_big Ox Ox) (len_big Ox Ox) w ((hsu2 _ Ox).at hw (List.Sublist.cons _ ((List.sublist_append_left _ _).trans (Sr _ _)))) (by rw [Int.natAbs_neg]; exact hSp.at hw (List.Sublist.cons _ (List.sublist_append_left _ _)))
 case hz => exact (fun _ h => by cases h; exact (sc _ (Sa (Sa (sc _ (sc _ (sc _ (sc _ sn)))) _) _)))
 rintro _ uN ⟨sN, rfl, hSN⟩
 obtain ⟨⟨daN, dcN, rfl⟩, -⟩ := id hSN
 simp only [qz]
 refine rf_indexA (n := (i + k) % 4) (sz := 2) (j := 0 + ((i + k) % 4) * 2) rfl rfl rfl rfl UU39 Kx Ox rfl (Nq ?_)
 refine rf_storeRM (n := 2) rfl rfl Kx rfl rfl (UpdR.app _ (UpdR.there _ (UpdR.app _ (UpdR.app _ (UpdR.here _ _ _ (show 0 + ((i + k) % 4) * 2 + 2 ≤ 9 by omega)))))) ((sc _ (Sa (Sa (sk _ (sc _ (sc _ (sc _ sn)))) _) _)).trans (Sr _ _)) (Nw ?_)
 refine Zr ?_
 refine Wm [0, 0, 0] ?_
 refine rf_add rfl rfl rfl rfl (wrap_ok Ox Ox) (Zm ?_)
 refine rg_nil ?_
 refine ek_sub (Sa (sk _ ((Sa (sc _ (sc _ (sc _ (sc _ sn)))) _).trans (Sr _ _))) _) ?_
 refine ek_roundF (4 - (k + 1)) Ox Kx ?_
 exact ⟨k + 1, upd T2 ((i + k) % 4) (T2 ((i + k) % 4) + -(X i * Y k)), upd da2 ((i + k) % 4) daN, upd dc2 ((i + k) % 4) dcN, uN ++ u2, rfl, (by rw [List.append_assoc, wd_set' Ox]), by rfl, Ox, (Lib.hid (by rw [acc_step Ox hac2.out, if_pos Ox])), (su_upd hsu2 hSN)⟩
def ProdB (x y : Nm) : Prop := ∀ i k, i < 4 → k < 4 → -1231312693637327475383720003129487931408741852202045208373384168882678805359287831606695820465153613775207124697088 ≤ sel4 x.a x.b x.c x.d i * sel4 y.a y.b y.c y.d k ∧ sel4 x.a x.b x.c x.d i * sel4 y.a y.b y.c y.d k ≤ 1231312693637327475383720003129487931408741852202045208373384168882678805359287831606695820465153613775207124697088
theorem prodB_ok {x y : Nm} (hx : x.Fit 1000000000) (hy : y.Fit 1000000000) : ProdB x y := by
 obtain ⟨a1, a2, a3, a4, a5, a6, a7, a8⟩ := hx
 obtain ⟨b1, b2, b3, b4, b5, b6, b7, b8⟩ := hy
 have key : ∀ a b : Int, -1000000000 ≤ a → a ≤ 1000000000 → -1000000000 ≤ b → b ≤ 1000000000 → -1231312693637327475383720003129487931408741852202045208373384168882678805359287831606695820465153613775207124697088 ≤ a * b ∧ a * b ≤ 1231312693637327475383720003129487931408741852202045208373384168882678805359287831606695820465153613775207124697088 := fun a b h1 h2 h3 h4 => by
  have := mul_le h1 h2 h3 h4
  omega
 intro i k hi hk
 rcases lt4 hi with rfl | rfl | rfl | rfl <;> rcases lt4 hk with rfl | rfl | rfl | rfl <;> exact key _ _ (by assumption) (by assumption) (by assumption) (by assumption)
theorem wtimes_any (x y : Nm) (s0 s1 s2 s3 p0 p1 p2 p3 : Value) (hx : x.Fit 9850501549098619803069760025035903451269934817616361666987073351061430442874302652853566563721228910201656997576704) (hy : y.Fit 9850501549098619803069760025035903451269934817616361666987073351061430442874302652853566563721228910201656997576704) (hP : ProdB x y) (hk : 0 ≤ x.k) (hk1 : x.k ≤ 10000) (hk2 : 0 ≤ y.k) (hk3 : y.k ≤ 10000) (w : World) (hs : SA4 w x s0 s1 s2 s3) (hs2 : SA4 w y p0 p1 p2 p3) :
    Calls Tryz.prog 14 #[wdV x s0 s1 s2 s3, wdV y p0 p1 p2 p3] w fun e w' => RetW w (x.mulR y) e w' := by
  obtain ⟨⟨a0, c0, rfl⟩, ⟨a1, c1, rfl⟩, ⟨a2, c2, rfl⟩, ⟨a3, c3, rfl⟩⟩ := (⟨hs.a.form, hs.b.form, hs.c.form, hs.d.form⟩ : _ ∧ _ ∧ _ ∧ _)
  obtain ⟨⟨b0, d0, rfl⟩, ⟨b1, d1, rfl⟩, ⟨b2, d2, rfl⟩, ⟨b3, d3, rfl⟩⟩ := (⟨hs2.a.form, hs2.b.form, hs2.c.form, hs2.d.form⟩ : _ ∧ _ ∧ _ ∧ _)
  obtain ⟨la, lb, lc, ld⟩ := fit_big hx
  obtain ⟨ma, mb, mc, md⟩ := fit_big hy
  refine (wtimes_core (sel4 x.a x.b x.c x.d) (sel4 y.a y.b y.c y.d) (sel4 a0 a1 a2 a3) (sel4 b0 b1 b2 b3) (sel4 c0 c1 c2 c3) (sel4 d0 d1 d2 d3) x.k y.k (sel_cases la lb lc ld) (sel_cases ma mb mc md) hP hk hk1 hk2 hk3 w (sel_cases hs.a hs.b hs.c hs.d) (sel_cases hs2.a hs2.b hs2.c hs2.d)).mono ?_
  rintro e w' ⟨v, u, he, ⟨sa, sc, hv, hsu⟩, hm⟩
  rw [← acc_16 x y]
  exact ⟨v, u, he, ⟨_, _, _, _, hv, ⟨hsu 0 (by decide), hsu 1 (by decide), hsu 2 (by decide), hsu 3 (by decide)⟩⟩, hm⟩
end Go.Proofs.YthjjkajjpejcdaaGreat

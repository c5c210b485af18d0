/-
  Contract of part.Read at a text whose numbers are single digits, and at "0,01". Conditions: the text's pieces.
-/
import Derived.Test.YtlaobpnbnfoadaaGreatDoorQ19
import Derived.Test.YtlaobpnbnfoadaaGreatDoorQNet7
import Derived.Test.YtlaobpnbnfoadaaGreatDoorMgG
namespace Go.Proofs.YtlaobpnbnfoadaaGreatDoor
set_option linter.unusedVariables false
set_option linter.unusedSimpArgs false
set_option linter.unusedSectionVars false
set_option linter.unnecessarySimpa false
open Go Go.RowKit

def dgt (b : UInt8) : Int := (b.toNat : Int) - 48
def word (b : UInt8) : ByteArray := ⟨#[b]⟩
/-- A level's text: digits between commas. -/
structure LevelIs (t : ByteArray) (ws : List UInt8) : Prop where
  some_ : t.data.toList.isEmpty = false
  size_ : t.size < 4294967281
  split : Lib.splitB ⟨#[44]⟩ 0 (Lib.countB t ⟨#[44]⟩) t = ws.map word
  few : ws.length ≤ 1000
  dig : ∀ b ∈ ws, b = 48 ∨ b = 49 ∨ b = 50
def rowsT (wss : List (List UInt8)) : List (List Int) := wss.map fun ws => ws.map dgt
theorem dgt_wf {ws : List UInt8} (h : ∀ b ∈ ws, b = 48 ∨ b = 49 ∨ b = 50) : ∀ x ∈ ws.map dgt, (Lit.int .i64 x).wf = true := fun x hx => by
  obtain ⟨b, hb, rfl⟩ := List.mem_map.1 hx
  rcases h b hb with rfl | rfl | rfl <;> decide
section
variable {s : ByteArray} {ts : List ByteArray} {wss : List (List UInt8)} {w : World}
set_option maxRecDepth 100000 in
set_option maxHeartbeats 16000000 in
theorem read_c (hs : s.size ≤ 65536) (hts : Lib.splitB ⟨#[47]⟩ 0 (Lib.countB s ⟨#[47]⟩) s = ts) (hn : ts.length ≤ 6) (hl : wss.length = ts.length) (hlev : ∀ (k : Nat) t, ts[k]? = some t → ∃ ws, wss[k]? = some ws ∧ LevelIs t ws) :
    Calls Tryz.prog 30 #[.string s] w fun e w' => ∃ A n c, e = .returned (.tuple #[.agg #[.slice A n c], .nilIface]) ∧ Sl rRows (fun b => w.heap.size ≤ b) w' A n c (rowsT wss) ∧ Ext w w' := by
  have hlen := Lib.splitB_all ⟨#[47]⟩ (Nat.le_refl 1) 0 _ s rfl
  rw [hts] at hlen
  have hcn : Lib.countB s ⟨#[47]⟩ < 6 := by omega
  have HTS := Lib.hid hts
  have HL := Lib.hid hl
  have HLV := Lib.hid hlev
  have hn1 : 1 ≤ ts.length := by omega
  clear hts hl hlev hlen
  go_enter Tryz.func30, Tryz.ntmps30
  go_wp2_with fail
  refine (count_c s 47 _).mono ?_
  rintro e w0 ⟨rfl, rfl⟩
  go_wp2_with fail
  all_goals first | (exfalso; omega) | skip
  refine (split_c (by omega) HTS.out (by omega)).mono ?_
  rintro e w2 ⟨A2, m, c2, rfl, hsl, he2⟩
  have hm := hsl.len
  have hE2 : Ext w w2 := Ext.trans (by repeat (first | exact Ext.refl _ | assumption | refine Ext.al ?_ | refine Ext.dr ?_ | refine Ext.dn ?_ | (refine Ext.st ?_ ?_; · first | omega | (simp; done) | (simp; omega)) | refine Ext.trans ?_ (by assumption))) he2
  have hz2 : w.heap.size + 1 < w2.heap.size := by have := he2.size; simp at this; omega
  have hB2 : Blk w2 w.heap.size 32 #[.slice none 0 0] := Blk.ext (by repeat (first | assumption | (refine Blk.new_at ?_; simp; done) | refine Blk.alloc ?_ _ | refine Blk.drewN ?_ _ | (refine Blk.far ?_ ?_ _; rotate_left; · first | omega | (simp; done) | (simp; omega)))) he2
  have hB4 : Blk w2 (w.heap.size + 1) 32 #[.slice none 0 0] := Blk.ext (by repeat (first | assumption | (refine Blk.new_at ?_; simp; done) | refine Blk.alloc ?_ _ | refine Blk.drewN ?_ _ | (refine Blk.far ?_ ?_ _; rotate_left; · first | omega | (simp; done) | (simp; omega)))) he2
  subst hm
  have HS := Lib.hid hsl
  have hlx := hsl.max
  have hly := hsl.le
  unfold maxLen at hlx
  obtain ⟨g2, hg2⟩ : ∃ g2, w.heap.size = g2 := ⟨_, rfl⟩
  obtain ⟨g4, hg4⟩ : ∃ g4, w.heap.size + 1 = g4 := ⟨_, rfl⟩
  have hg24 : g2 < g4 := by omega
  rw [hg4] at hz2 hB4 ⊢
  rw [hg2] at hB2 ⊢
  have HG2 := Lib.hid hg2
  have HGW : Hid (w.heap.size ≤ g2) := Lib.hid (Nat.le_of_eq hg2)
  have HS2 : Hid (Sl rStr (fun b => g4 < b ∧ b < w2.heap.size) w2 A2 ts.length c2 ts) := Lib.hid (hsl.mono fun b h hb => ⟨by simp at h; omega, hb⟩)
  clear he2 hsl hg2 hg4
  go_wp2_with fail
  go_loopw [26] (fun iv wr => ∃ (i : Nat) (A' : Option Addr) (c' : Nat), i ≤ ts.length ∧ iv = .int .i64 i ∧ Blk wr g2 32 #[.slice none 0 0] ∧ Blk wr g4 32 #[.slice A' i c'] ∧ Own rRows wr w2.heap.size 25 (.slice A' i c') i ((rowsT wss).take i) ∧ Ext w wr ∧ w2.heap.size ≤ wr.heap.size ∧ Sl rStr (fun b => g4 < b ∧ b < w2.heap.size) wr A2 ts.length c2 ts) (fun iv _ => ts.length - (intOf iv).toNat)
  case atStart => exact ⟨0, none, 0, Nat.zero_le _, rfl, hB2, hB4, Own.new, hE2, Nat.le_refl _, HS2.out⟩
  case round =>
    clear hB2 hB4 hE2
    obtain ⟨i, A', c', hi, rfl, hB2, hB4, hown, he, hsz, hS⟩ := hrel
    obtain ⟨wz, rfl⟩ : ∃ wz : World, wz = wr := ⟨_, rfl⟩
    by_cases him : i < ts.length
    · obtain ⟨bt, ot, t, rfl, hbt, ht, et⟩ := hS.str him
      obtain ⟨ws, hws, hlev⟩ := HLV.out i t ht.out
      have HWS := Lib.hid hws
      have HLE := Lib.hid hlev
      have hne : t.toList.isEmpty = false := by rw [Lib.toList_data]; exact hlev.some_
      clear hws hlev ht
      go_wp2_with fail
      all_goals first | (exfalso; omega) | skip
      refine (split_c HLE.out.size_ HLE.out.split (by rw [List.length_map]; exact HLE.out.few)).mono ?_
      rintro e w5 ⟨A5, n5, c5, rfl, hs5, he5⟩
      have hn5 := hs5.len
      rw [List.length_map] at hn5
      subst hn5
      have hwf := HLE.out.few
      have H5 := Lib.hid hs5
      have h5m := hs5.max
      have h5l := hs5.le
      unfold maxLen at h5m
      have hsz5 : wz.heap.size ≤ w5.heap.size := he5.size
      clear hs5 et hne
      go_wp2_with fail
      go_loopw [7, 36] (fun rv kv wq => ∃ k : Nat, k ≤ ws.length ∧ kv = .int .i64 k ∧ wq.ownsRow w5.heap.size 3 1 rv k (((ws.take k).map dgt).map (Value.int .i64)) ∧ Ext w5 wq) (fun _ kv _ => ws.length - (intOf kv).toNat)
      case atStart => exact ⟨0, Nat.zero_le _, rfl, World.ownsRow_nil _ _ _ _, Ext.refl _⟩
      case round =>
        obtain ⟨k, hk, rfl, hownq, hq⟩ := hrel
        obtain ⟨wq, rfl⟩ : ∃ wq : World, wq = wr := ⟨_, rfl⟩
        have hzq := hq.size
        by_cases hkn : k < ws.length
        · obtain ⟨bx, ox, wd, rfl, hbx, hwd, ex⟩ := (H5.out.ext hq).str hkn
          obtain ⟨b, hb⟩ : ∃ b, ws[k]? = some b := ⟨_, List.getElem?_eq_getElem hkn⟩
          have hwb : wd = ⟨#[b]⟩ := by
            have := hwd.out
            rw [List.getElem?_map, hb] at this
            injection this with this
            exact this.symm
          subst hwb
          have hdg := HLE.out.dig b (List.mem_of_getElem? hb)
          have HTK : Hid (ws.take (k + 1) = ws.take k ++ [b]) := Lib.hid (by rw [List.take_add_one, hb]; rfl)
          have HDG := Lib.hid hdg
          clear hwd hb hdg
          go_wp2_with fail
          all_goals first | (exfalso; omega) | skip
          refine (number_c b _ HDG.out).mono ?_
          rintro e w6 ⟨rfl, rfl⟩
          obtain ⟨x, hx⟩ : ∃ x, (b.toNat : Int) - 48 = x := ⟨_, rfl⟩
          have HX : Hid (dgt b = x) := Lib.hid hx
          rw [hx]
          clear hx
          go_wp2_with (at_builtin; refine wpL_append1 tyInts rfl (.tmp 52) (.tmp 54) rfl rfl hownq #[.int .i64 x] rfl rfl (by simp [Value.oneCell']) (by omega) hzq ?_; intro g3 cap w7 hown7 hgr7 hat7 hlt7)
          all_goals first | (exfalso; omega) | skip
          go_roundw
          case rel => exact ⟨k + 1, by omega, by go_num, by rw [HTK.out, List.map_append, List.map_append, List.map_singleton, HX.out]; exact hown7, below_own hq hownq hgr7 (Nat.le_refl _) hzq⟩
          case measure => simp [intOf]; omega
        · obtain rfl : k = ws.length := by omega
          rw [List.take_length] at hownq
          obtain ⟨A7, c7, rfl, -⟩ := own_shape hownq
          have hsl7 : Sl rI (fun b => w5.heap.size ≤ b) wq A7 ws.length c7 (ws.map dgt) := Sl.of_own_ints hownq (fun g h => h) (dgt_wf HLE.out.dig)
          have hx7 : Ext wz wq := he5.trans hq
          have hownx := (hown.ext hx7).ext (Ext.al (o := .cells #[.slice A7 ws.length c7] 25) (Ext.refl wq))
          have C2 := hB2.ext hx7
          have C4 := hB4.ext hx7
          have hS7 := hS.ext hx7
          have he7 := he.trans hx7
          have q4 : wq.cell? ⟨g4, 0, none⟩ = some (.slice A' i c') := C4.cell 0
          have hzz : w2.heap.size ≤ wq.heap.size := by omega
          have l4 : g4 < wq.heap.size := C4.lt
          have HRW : Hid ((rowsT wss).take (i + 1) = (rowsT wss).take i ++ [ws.map dgt]) := Lib.hid (by
            rw [List.take_add_one, rowsT, List.getElem?_map, HWS.out]; rfl)
          clear hownq hB2 hB4 hS he H5
          go_wp2_with (at_builtin; refine wpL_append_own (r := rRows) tyRows rfl (.tmp 58) (.tmp 60) rfl hownx rfl rfl (Sl.laid1 (F := fun b => w5.heap.size ≤ b) (cs := [.slice A7 ws.length c7]) (x := ws.map dgt) ⟨_, _, _, rfl, hsl7⟩ rfl) (fun cs x h => rRows.mono (fun b hb _ => hown.free hsz (by rcases hb with hb | hb <;> omega)) h) (by omega) (by simp; omega) ?_; intro A9 c9 w9 hown9 hg9; have k4 := hownx.blk hg9 (g := g4) (by omega) (C4.alloc _); have c4 : w9.cell? ⟨g4, 0, none⟩ = some (.slice A' i c') := k4.cell 0; have f4 := k4.frozen 0; have l4' := k4.lt)
          all_goals first | (exfalso; omega) | skip
          have k2 := hownx.blk hg9 (g := g2) (by omega) (C2.alloc _)
          have hb9 : Below w2.heap.size wq w9 := hownx.below (Below.alloc (Below.refl _ _) hzz _) hg9 (Nat.le_refl _) (by simp; omega)
          have D2 := k2.far (p := ⟨g4, 0, none⟩) (Nat.ne_of_lt hg24) (.slice A9 (i + 1) c9)
          have D4 : Blk (w9.setCell ⟨g4, 0, none⟩ (.slice A9 (i + 1) c9)) g4 32 #[.slice A9 (i + 1) c9] := k4.set_ 0 _
          have hS9 : Sl rStr (fun b => g4 < b ∧ b < w2.heap.size) (w9.setCell ⟨g4, 0, none⟩ (.slice A9 (i + 1) c9)) _ ts.length c2 ts := (hS7.below hb9 (fun b h _ => h.2)).setCell (p := ⟨g4, 0, none⟩) (by simp) _
          have hw0 := HGW.out
          have he9 : Ext w (w9.setCell ⟨g4, 0, none⟩ (.slice A9 (i + 1) c9)) := Ext.st (p := ⟨g4, 0, none⟩) (by simp; omega) (Below.trans he7 (hb9.mono (by omega)))
          have hown10 : Own rRows (w9.setCell ⟨g4, 0, none⟩ (.slice A9 (i + 1) c9)) w2.heap.size 25 (.slice A9 (i + 1) c9) (i + 1) ((rowsT wss).take (i + 1)) := by
            rw [HRW.out]
            exact hown9.setCell (p := ⟨g4, 0, none⟩) (by simp; omega) _
          have hz9 : w2.heap.size ≤ w9.heap.size := by have := hb9.size; omega
          clear k2 k4 c4 f4 hb9 hown9 hg9 hownx C2 C4 hS7 he7 q4 hown hx7 hsl7
          go_wp2_with fail
          all_goals first | (exfalso; omega) | skip
          go_roundw
          case rel => exact ⟨i + 1, A9, c9, by omega, by go_num, D2, D4, hown10, he9, by simp; omega, hS9⟩
          case measure => simp [intOf]; omega
    · obtain rfl : i = ts.length := by omega
      have ht : (rowsT wss).take ts.length = rowsT wss := List.take_of_length_le (by rw [rowsT, List.length_map, HL.out]; omega)
      rw [ht] at hown
      have q2 : wz.cell? ⟨g2, 0, none⟩ = some (.slice none 0 0) := hB2.cell 0
      have f2 := hB2.frozen 0
      have q4 : wz.cell? ⟨g4, 0, none⟩ = some (.slice A' ts.length c') := hB4.cell 0
      have l2 := hB2.lt
      have l4 := hB4.lt
      have hw0 := HGW.out
      have hws2 : w.heap.size ≤ w2.heap.size := by omega
      have hD := hB2.set_ 0 (.slice A' ts.length c')
      have z2 : (wz.setCell ⟨g2, 0, none⟩ (.slice A' ts.length c')).cell? ⟨g2, 0, none⟩ = some (.slice A' ts.length c') := hD.cell 0
      have hsl := Lib.hid ((hown.sl.setCell (p := ⟨g2, 0, none⟩) (by simp; omega) (.slice A' ts.length c')).mono (G := fun b => w.heap.size ≤ b) fun b h _ => by omega)
      have hE9 : Ext w (wz.setCell ⟨g2, 0, none⟩ (.slice A' ts.length c')) := Ext.st (p := ⟨g2, 0, none⟩) (by simp; omega) he
      clear hB2 hB4 hown he hS ht hD
      go_wp2_with fail
      all_goals first | (exfalso; omega) | skip
      refine bodyPost_ret (v := .tuple #[.agg #[.slice A' ts.length c'], .nilIface]) (by simp [results, Tryz.results30, go_sem, z2]) rfl ⟨_, _, _, rfl, hsl.out, hE9⟩
theorem bad_levels : Lib.splitB ⟨#[47]⟩ 0 (Lib.countB ⟨#[48, 44, 48, 49]⟩ ⟨#[47]⟩) ⟨#[48, 44, 48, 49]⟩ = [⟨#[48, 44, 48, 49]⟩] := by rfl
theorem bad_words : Lib.splitB ⟨#[44]⟩ 0 (Lib.countB ⟨#[48, 44, 48, 49]⟩ ⟨#[44]⟩) ⟨#[48, 44, 48, 49]⟩ = [⟨#[48]⟩, ⟨#[48, 49]⟩] := by rfl
theorem neq_errno (x : Int) (W : World) : (binOp .neq 30 (.iface 63 (.int .i64 x)) .nilIface).run Tryz.prog W = .ok (.bool true) W := by kernel_rfl
theorem neq_nil (W : World) : (binOp .neq 30 .nilIface .nilIface).run Tryz.prog W = .ok (.bool false) W := by kernel_rfl
set_option maxRecDepth 100000 in
set_option maxHeartbeats 16000000 in
theorem readBad_c : Calls Tryz.prog 30 #[.string ⟨#[48, 44, 48, 49]⟩] w fun e w' => ∃ v, e = .returned (.tuple #[.agg #[.slice none 0 0], v]) ∧ ErrIs (fun _ => True) w' v (some (levelW, 1, 2)) ∧ Ext w w' := by
  have hc0 : Lib.countB ⟨#[48, 44, 48, 49]⟩ ⟨#[47]⟩ = 0 := by rfl
  go_enter Tryz.func30, Tryz.ntmps30
  go_wp2_with fail
  refine (count_c _ 47 _).mono ?_
  rintro e w0 ⟨rfl, rfl⟩
  rw [hc0]
  go_wp2_with fail
  all_goals first | (exfalso; omega) | skip
  refine (split_c (by decide) bad_levels (by decide)).mono ?_
  rintro e w2 ⟨A2, m, c2, rfl, hsl, he2⟩
  have hm := hsl.len
  simp only [List.length_cons, List.length_nil] at hm
  subst hm
  have hE2 : Ext w w2 := Ext.trans (by repeat (first | exact Ext.refl _ | assumption | refine Ext.al ?_ | refine Ext.dr ?_ | refine Ext.dn ?_ | (refine Ext.st ?_ ?_; · first | omega | (simp; done) | (simp; omega)) | refine Ext.trans ?_ (by assumption))) he2
  have hB2 : Blk w2 w.heap.size 32 #[.slice none 0 0] := Blk.ext (by repeat (first | assumption | (refine Blk.new_at ?_; simp; done) | refine Blk.alloc ?_ _ | refine Blk.drewN ?_ _ | (refine Blk.far ?_ ?_ _; rotate_left; · first | omega | (simp; done) | (simp; omega)))) he2
  obtain ⟨bt, ot, t, rfl, hbt, ht, et⟩ := hsl.str (k := 0) (by decide)
  obtain rfl : t = ⟨#[48, 44, 48, 49]⟩ := by have := ht.out; simp at this; exact this.symm
  have et0 : w2.cell? ⟨bt, ot, none⟩ = some (.string ⟨#[48, 44, 48, 49]⟩) := by simpa using et
  have hty : (⟨#[48, 44, 48, 49]⟩ : ByteArray).toList.isEmpty = false := by rw [Lib.toList_data]; rfl
  have hlx := hsl.max
  have hly := hsl.le
  unfold maxLen at hlx
  clear hsl ht et he2
  go_wp2_with fail
  refine wp_loop_rounds 1 ?_
  rw [rounds_succ]
  go_wp2_with fail
  all_goals first | (exfalso; omega) | skip
  refine (split_c (by decide) bad_words (by decide)).mono ?_
  rintro e w5 ⟨A5, n5, c5, rfl, hs5, he5⟩
  have hn5 := hs5.len
  simp only [List.length_cons, List.length_nil] at hn5
  subst hn5
  obtain ⟨bx, ox, wd, rfl, hbx, hwd, ex⟩ := hs5.str (k := 0) (by decide)
  obtain ⟨bx', ox', wd', hA, hbx', hwd', ex'⟩ := hs5.str (k := 1) (by decide)
  injection hA with hA
  injection hA with ea eb
  subst ea eb
  obtain rfl : wd = ⟨#[48]⟩ := by have := hwd.out; simp at this; exact this.symm
  obtain rfl : wd' = ⟨#[48, 49]⟩ := by have := hwd'.out; simp at this; exact this.symm
  have ex0 : w5.cell? ⟨bx, ox, none⟩ = some (.string ⟨#[48]⟩) := by simpa using ex
  have C2 := hB2.ext he5
  have hE5 := hE2.trans he5
  have h5x := hs5.max
  have h5y := hs5.le
  unfold maxLen at h5x
  clear hB2 hE2 he5 hs5 hwd hwd' ex et0
  go_wp2_with fail
  refine wp_loop_rounds 2 ?_
  rw [rounds_succ]
  go_wp2_with fail
  all_goals first | (exfalso; omega) | skip
  refine (number_c 48 _ (.inl rfl)).mono ?_
  rintro e w6 ⟨rfl, rfl⟩
  go_wp2_with (at_builtin; refine wpL_append1 tyInts rfl (.tmp 52) (.tmp 54) rfl rfl (World.ownsRow_nil w6 w6.heap.size 3 1) #[.int .i64 0] rfl rfl (by simp [Value.oneCell']) (by decide) (Nat.le_refl _) ?_; intro g3 cap w7 hown7 hgr7 hat7 hlt7)
  have he7 : Ext w6 w7 := below_own (Below.refl _ _) (World.ownsRow_nil w6 w6.heap.size 3 1) hgr7 (Nat.le_refl _) (Nat.le_refl _)
  have ex1 := (he7.cell (p := ⟨bx, ox + 1, none⟩) (cell_lt2 ex')).trans ex'
  have D2 := C2.ext he7
  have hE7 := hE5.trans he7
  clear ex' ex0 C2 hE5 he7 hgr7 hat7 hlt7 hown7
  rw [rounds_succ]
  go_wp2_with fail
  all_goals first | (exfalso; omega) | skip
  refine (numberBad_c _).mono ?_
  rintro e w8 ⟨rfl, rfl⟩
  go_wp2_with fail
  all_goals first | (exfalso; omega) | skip
  refine (levelFault_c _ _ _ rfl (by decide)).mono ?_
  rintro e w9 ⟨v, rfl, hv, he9⟩
  have E2 := D2.ext he9
  have hE9 := hE7.trans he9
  have f2 := E2.frozen 0
  have l2 := E2.lt
  have q2 : w9.cell? ⟨w.heap.size, 0, none⟩ = some (.slice none 0 0) := E2.cell 0
  have hD := E2.set_ 0 (.slice none 0 0)
  have z2 : (w9.setCell ⟨w.heap.size, 0, none⟩ (.slice none 0 0)).cell? ⟨w.heap.size, 0, none⟩ = some (.slice none 0 0) := hD.cell 0
  have hEE : Ext w (w9.setCell ⟨w.heap.size, 0, none⟩ (.slice none 0 0)) := Ext.st (p := ⟨w.heap.size, 0, none⟩) (Nat.le_refl _) hE9
  have hwz : w.heap.size < w8.heap.size := D2.lt
  have hvv := Lib.hid (hv.far (p := ⟨w.heap.size, 0, none⟩) (by simp; omega) (.slice none 0 0))
  clear D2 E2 hE7 hE9 he9 hD hv
  go_wp2_with fail
  all_goals first | (exfalso; omega) | skip
  exact bodyPost_ret (v := .tuple #[.agg #[.slice none 0 0], v]) (by simp [results, Tryz.results30, go_sem, z2]) rfl ⟨_, rfl, hvv.out, hEE⟩
end
end Go.Proofs.YtlaobpnbnfoadaaGreatDoor

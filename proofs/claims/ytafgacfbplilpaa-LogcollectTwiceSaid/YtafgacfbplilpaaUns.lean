/- Contract: logcollect.Unsettled. -/
import Derived.Test.YtafgacfbplilpaaRecv
import Derived.Laws.MakeOwn
set_option linter.unusedVariables false
set_option linter.unusedSimpArgs false
namespace Go.Proofs.Ytafgacfbplilpaa
open Go.RowKit Go.Proofs

theorem info_Send : (Try.prog.info? 62).map (fun i => (i.zero, i.size, i.bytes)) = some (some (.agg #[.int .i64 0, .int .i64 0, .int .i64 0, .int .i64 0]), 4, 32) := by kernel_rfl
theorem info_Sends : (Try.prog.info? 63).map (fun i => (i.zero, i.size, i.bytes)) = some (some (.slice none 0 0), 1, 24) := by kernel_rfl
theorem run_make_rowN {P : Program} (t e : TypeId) (i : TypeInfo) (z : Value) (ht : P.underlying t = some (.slice e)) (hi : P.info? e = some i) (hz : i.zero = some z)
    (kl kc : IntKind) (n c : Nat) (hnc : n ≤ c) (hbytes : i.bytes * c ≤ 281474976710656) (h63 : c ≤ 9223372036854775807) (w : World) :
    (Instr.makeSlice t (.int kl (n : Int)) (.int kc (c : Int))).run P w = .ok (.slice (some ⟨w.heap.size, 0, none⟩) n c) (w.alloc (.cells (madeCells z.cells (c * i.size)) e)) := by
  have hb : (i.bytes : Int) * (c : Int) ≤ 281474976710656 := by
    have h : ((i.bytes * c : Nat) : Int) ≤ 281474976710656 := by omega
    rwa [Int.natCast_mul] at h
  have hr := run_make (P := P) w t e i z ht hi hz kl kc n c (by omega) (by omega) hb (by omega)
  simp only [Int.toNat_natCast] at hr
  exact hr
def nils (n : Nat) : Array Value := (List.replicate n (.slice none 0 0)).toArray
theorem made_nils (n : Nat) : madeCells (Value.cells (.slice none 0 0)) (n * 1) = nils n := by
  apply Array.ext'
  have := toList_madeCells_one (.slice none 0 0) n
  simpa [nils, Value.cells] using this

def unsRow (l : List St) (safe : List Int) (p : Nat) : List Snd := match l[p]? with | some s => s.sent.filter (fun m => !receivedS l p m safe) | none => []
def unsettledS (l : List St) (safe : List Int) : List (List Snd) := (List.range l.length).map (unsRow l safe)
/-- A slice of slices of sends. -/
def RowR (w : World) (S : Nat → Prop) (cs : List Value) (row : List Snd) : Prop := ∃ (A : Option Addr) (m c : Nat), cs = [.slice A m c] ∧ Sl encSnd 4 w S A m c row
def UnsPost (rows : List (List Snd)) (w : World) (e : Ending) (w' : World) : Prop :=
  ∃ (A : Option Addr) (n c : Nat), e = .returned (.slice A n c) ∧ SlR w' (fun i => w.heap.size ≤ i ∧ i < w'.heap.size) 1 (RowR w' (fun i => w.heap.size ≤ i ∧ i < w'.heap.size)) A n c rows ∧ Keep w w'
def OutRel (l : List St) (safe : List Int) (w : World) (i : Value) (wr : World) : Prop :=
  ∃ (k : Nat) (vs : List Value), k ≤ l.length ∧ i = .int .i64 k ∧ vs.length = l.length ∧ Blk wr w.heap.size 63 vs.toArray ∧
    (∀ j, j < k → ∃ v, vs[j]? = some v ∧ RowR wr (fun i => w.heap.size < i ∧ i < wr.heap.size) [v] (unsRow l safe j)) ∧ (∀ j, k ≤ j → j < l.length → vs[j]? = some (.slice none 0 0)) ∧ Keep w wr
def InRel (p : Snd → Bool) (sent : List Snd) (W : World) (v i : Value) (wr : World) : Prop :=
  ∃ k : Nat, k ≤ sent.length ∧ i = .int .i64 k ∧ wr.ownsRow W.heap.size 62 4 v ((sent.take k).filter p).length (((sent.take k).filter p).flatMap encSnd) ∧ Keep W wr
theorem filter_snoc' {α : Type} (p : α → Bool) (l : List α) (k : Nat) (a : α) (h : l[k]? = some a) : (l.take (k + 1)).filter p = (l.take k).filter p ++ (if p a then [a] else []) := by
  obtain ⟨hk, e⟩ := List.getElem?_eq_some_iff.1 h
  rw [List.take_succ_eq_append_getElem hk, List.filter_append, e]
  cases hp : p a <;> simp [hp]
theorem filter_take_len' {α : Type} (p : α → Bool) (l : List α) (k : Nat) : ((l.take k).filter p).length ≤ k := by
  have h1 := List.length_filter_le p (l.take k)
  have h2 := List.length_take_le k l
  omega

theorem SlR.st_slices {w w' : World} {S : Nat → Prop} {A : Option Addr} {n c k : Nat} {l : List St} (h : SlR w S 4 (StR w S) A n c l) (hk : k < n) (hw : Same S w w') :
    ∃ (b off : Nat) (A1 A2 A3 A4 : Option Addr) (n1 c1 n2 c2 n3 c3 n4 c4 : Nat) (s : St), A = some ⟨b, off, none⟩ ∧ S b ∧ l[k]? = some s ∧ Sl encSnd 4 w' S A3 n3 c3 s.sent ∧
      (w'.cell? ⟨b, off + k * 4, none⟩ = some (.slice A1 n1 c1) ∧ w'.cell? ⟨b, off + k * 4 + 1, none⟩ = some (.slice A2 n2 c2) ∧ w'.cell? ⟨b, off + k * 4 + 2, none⟩ = some (.slice A3 n3 c3) ∧ w'.cell? ⟨b, off + k * 4 + 3, none⟩ = some (.slice A4 n4 c4)) := by
  obtain ⟨b, off, v0, v1, v2, v3, s, e, hb, hl, hR, h0, h1, h2, h3⟩ := h.st_at hk hw
  obtain ⟨A1, A2, A3, A4, n1, c1, n2, c2, n3, c3, n4, c4, ee, _, _, hs, _⟩ := hR
  simp only [List.cons.injEq, and_true] at ee
  obtain ⟨rfl, rfl, rfl, rfl⟩ := ee
  exact ⟨b, off, A1, A2, A3, A4, n1, c1, n2, c2, n3, c3, n4, c4, s, e, hb, hl, hs, h0, h1, h2, h3⟩
theorem RowR.keep {w w' : World} {S : Nat → Prop} {cs : List Value} {row : List Snd} (h : RowR w S cs row) (hk : Same S w w') : RowR w' S cs row := by
  obtain ⟨A, m, c, e, hs⟩ := h
  exact ⟨A, m, c, e, hs.keep hk⟩
theorem RowR.more {w : World} {S T : Nat → Prop} {cs : List Value} {row : List Snd} (h : RowR w S cs row) (hk : ∀ i, S i → T i) : RowR w T cs row := by
  obtain ⟨A, m, c, e, hs⟩ := h
  exact ⟨A, m, c, e, hs.more hk⟩

set_option maxHeartbeats 8000000 in
theorem unsettled_any (w : World) (S : Nat → Prop) (A A2 : Option Addr) (n c n2 c2 : Nat) (l : List St) (safe : List Int) (hS : ∀ i, S i → i < w.heap.size) (hl : SlR w S 4 (StR w S) A n c l) (hc : Sl encI 1 w S A2 n2 c2 safe) (hn : n ≤ 1000) (hsn : ∀ s ∈ l, s.sent.length ≤ 1000) :
    Calls Try.prog 32 #[.slice A n c, .slice A2 n2 c2] w (UnsPost (unsettledS l safe) w) := by
  obtain ⟨i0, hi0, hz0, hz1, hz2⟩ := info_of info_Send
  obtain ⟨j0, hj0, jz0, jz1, jz2⟩ := info_of info_Sends
  have hmk := fun W => run_make_rowN (P := Try.prog) 73 63 j0 _ Try.underlying73 hj0 jz0 .i64 .i64 n n (Nat.le_refl _) (by rw [jz2]; omega) (by omega) W
  simp only [jz1, made_nils] at hmk
  have HI := Lib.hid hi0
  have HZ0 := Lib.hid hz0
  have HZ1 := Lib.hid hz1
  have HZ2 := Lib.hid hz2
  have hnl := Lib.hid hl.1
  have HL := Lib.hid hl
  have HC := Lib.hid hc
  have HS := Lib.hid hS
  have HSN := Lib.hid hsn
  clear hl hc hS hsn hi0 hz0 hz1 hz2 hj0 jz0 jz1 jz2
  go_enter Try.func32, Try.ntmps32
  go_wp2_with fail
  go_loopw [16] (fun i wr => OutRel l safe w i wr) (fun i _ => n - (intOf i).toNat)
  case atStart => exact ⟨0, List.replicate n (.slice none 0 0), by omega, rfl, by simp; exact hnl.out, Blk.new _ _ _, fun j hj => by omega, fun j _ hj => by rw [List.getElem?_replicate, if_pos (by have := hnl.out; omega)], Keep.new _ _⟩
  case round =>
    obtain ⟨k, vs, hkl, rfl, hvl, hblk, hrows, hnil, hkp⟩ := hrel
    obtain ⟨wo, hwo⟩ : ∃ wo : World, wo = wr := ⟨_, rfl⟩
    subst hwo
    have HB := Lib.hid hblk
    have HR := Lib.hid hrows
    have HN := Lib.hid hnil
    have HK := Lib.hid hkp
    have HVL := Lib.hid hvl
    have hkn : k ≤ n := by have := hnl.out; omega
    have hBo := hblk.lt
    have hszo := hkp.size
    clear hblk hrows hnil hkp hkl hvl
    by_cases hk : k < n
    · obtain ⟨b, off, A1, A2', A3, A4, n1, c1, n2', c2', n3, c3, n4, c4, s, rfl, hSb, hls, hsl, d0, d1, d2, d3⟩ := HL.out.st_slices hk (Same.mono HK.out HS.out)
      have HSL := Lib.hid hsl
      have hn3l := Lib.hid hsl.1
      have hn3 : n3 ≤ 1000 := by rw [hsl.1]; exact HSN.out s (List.mem_of_getElem? hls)
      have HLS := Lib.hid hls
      have k0 : (0 : Int) ≤ k := by omega
      have k1 : (k : Int) < n := by omega
      have hbo : b < wo.heap.size := by have := HS.out b hSb; omega
      clear hsl hls
      go_wp2_with fail
      generalize hW : wo.alloc (.cells #[.slice A1 n1 c1, .slice A2' n2' c2', .slice A3 n3 c3, .slice A4 n4 c4] 67) = W
      have hkW : Keep wo W := hW ▸ Keep.new _ _
      have HKW := Lib.hid hkW
      have hszW : wo.heap.size < W.heap.size := by rw [← hW]; simp
      clear hW hkW d0 d1 d2 d3
      go_loopw [8, 24] (fun v i wr => InRel (fun m => !receivedS l k m safe) s.sent W v i wr) (fun _ i _ => n3 - (intOf i).toNat)
      case atStart => exact ⟨0, by omega, rfl, World.ownsRow_nil _ _ _ _, Same.refl _ _⟩
      case round =>
        obtain ⟨k2, hk2l, rfl, hown, hkp2⟩ := hrel
        have hf := filter_take_len' (fun m => !receivedS l k m safe) s.sent k2
        have hk2n : k2 ≤ n3 := by have := hn3l.out; omega
        have HO := Lib.hid hown
        have HK2 := Lib.hid hkp2
        have hsz2 := hkp2.size
        clear hown hkp2 hk2l
        by_cases hk2 : k2 < n3
        · have HKO : Hid (Keep wo wr) := Keep.trans HKW.out HK2.out
          have HKWR : Hid (Keep w wr) := Keep.trans HK.out HKO.out
          obtain ⟨b3, off3, x, rfl, hSb3, hx, hcell⟩ := (HSL.out.keep (Same.mono HKO.out (fun i hi => by have := HS.out i hi; omega))).at_ encSnd_len hk2
          have HX := Lib.hid hx
          have HC3 := Lib.hid hcell
          have hsn := Lib.hid (filter_snoc' (fun m => !receivedS l k m safe) s.sent k2 x hx)
          clear hx hcell
          go_wp2_with (refine wpList_load_mid rfl _ (.tmp 26) rfl b3 (off3 + k2 * 4) rfl [.int .i64 x.idx, .int .i64 x.ord, .int .i64 x.to, .int .i64 x.val] _ HC3.out Try.underlying62 rfl (by kernel_rfl) ?_)
          have hka : Keep wr (wr.alloc (.cells #[.int .i64 x.idx, .int .i64 x.ord, .int .i64 x.to, .int .i64 x.val] 62)) := Keep.new _ _
          refine (lreceived_any _ S (some ⟨b, off, none⟩) A2 n c n2 c2 k l safe x (fun i hi => ?_) ?_ ?_ hn hk).mono ?_
          · have := HS.out i hi; have := HKWR.out.size; simp; omega
          · exact HL.out.keep (Same.mono (Keep.trans HKWR.out hka) HS.out) (fun cs a h => h.keep (Same.mono (Keep.trans HKWR.out hka) HS.out))
          · exact HC.out.keep (Same.mono (Keep.trans HKWR.out hka) HS.out)
          rintro e w5 ⟨rfl, hk5⟩
          have hb5 : Blk w5 wr.heap.size 62 #[.int .i64 x.idx, .int .i64 x.ord, .int .i64 x.to, .int .i64 x.val] := hk5.blk (Blk.new _ _ _) (by simp)
          have e0 := hb5.cell 0
          have e1 := hb5.cell 1
          have e2 := hb5.cell 2
          have e3 := hb5.cell 3
          simp at e0 e1 e2 e3
          have HK5 := Lib.hid (Keep.trans hka hk5)
          have hsz5 := (Keep.trans hka hk5).size
          have HO5 : Hid (w5.ownsRow W.heap.size 62 4 _ _ _) := ownsRow_same HO.out HK5.out (fun i hi => hi.2)
          clear hk5 hka hb5
          cases hres : receivedS l k x safe
          · have HRS := Lib.hid hres
            go_wp2_with (at_builtin; refine wpList_append_any _ rfl (.tmp 34) (.tmp 36) _ rfl W.heap.size 62 i0 _ 4 32 Try.underlying63 HI.out HZ0.out HZ1.out HZ2.out rfl (by omega) _ _ _ rfl (HO5.out.alloc _) _ (some ⟨w5.heap.size, 0, none⟩) 1 1 (encSnd x) rfl (Reads.new rfl) (encSnd_one _) (by simp [maxLen]; omega) (by omega) (by simp; omega) ?_; intro v6 w6 hown6 hg6 hat6)
            go_roundw
            case rel =>
              refine ⟨k2 + 1, by have := hn3l.out; omega, by go_num, ?_, ?_⟩
              · rw [hsn.out, if_pos (by simp [HRS.out])]
                simpa using hown6
              · exact (Keep.alloc (Keep.trans HK2.out HK5.out) _).append (HO5.out.alloc _) hg6 (fun i hi => hi) (by simp; omega)
            case measure => simp [intOf]; omega
          · have HRS := Lib.hid hres
            go_wp2_with fail
            go_roundw
            case rel =>
              refine ⟨k2 + 1, by have := hn3l.out; omega, by go_num, ?_, Keep.trans HK2.out HK5.out⟩
              rw [hsn.out, if_neg (by simp [HRS.out])]
              simpa using HO5.out
            case measure => simp [intOf]; omega
        · have hk2' : k2 = s.sent.length := by have := hn3l.out; omega
          have e : (s.sent.take k2).filter (fun m => !receivedS l k m safe) = unsRow l safe k := by
            unfold unsRow
            rw [HLS.out, hk2', List.take_of_length_le (Nat.le_refl _)]
          have hown' := HO.out
          have hrl : ((s.sent.take k2).filter (fun m => !receivedS l k m safe)).length ≤ 1000 := by omega
          rw [e] at hown' hrl
          clear e
          obtain ⟨A', c', rfl, hsl'⟩ := Sl.of_own hown'
          generalize hrow : unsRow l safe k = row at *
          have HSL' := Lib.hid hsl'
          have HKO : Hid (Keep wo wr) := Keep.trans HKW.out HK2.out
          have hbw : Blk wr w.heap.size 63 vs.toArray := HKO.out.blk HB.out hBo
          have hBr := hbw.lt
          have hcell : wr.cell? ⟨w.heap.size, k, none⟩ = some (.slice none 0 0) := by rw [hbw.cell]; simpa using HN.out k (Nat.le_refl _) (by have := hnl.out; omega)
          have HBW := Lib.hid hbw
          have hd2 : decide ((k2 : Int) < (n3 : Int)) = false := by simp; omega
          have HROW := Lib.hid hrow
          have h1row : ∀ u ∈ row.flatMap encSnd, u.oneCell' = true := by
            intro u hu
            obtain ⟨m, _, hm⟩ := List.mem_flatMap.1 hu
            exact encSnd_one m u hm
          have H1 := Lib.hid h1row
          have HHF := Lib.hid hf
          clear hsl' hown' hbw hrow hk2' h1row hf
          go_wp2_with (first
            | (at_builtin; refine wpList_append_any _ rfl (.tmp 44) (.tmp 45) _ rfl wr.heap.size 62 i0 _ 4 32 Try.underlying63 HI.out HZ0.out HZ1.out HZ2.out rfl (by omega) (.slice none 0 0) 0 [] rfl (World.ownsRow_nil _ _ _ _) _ A' row.length c' (row.flatMap encSnd) rfl HSL'.out.2.2.2 H1.out (by simp [maxLen]; omega) (by omega) (Nat.le_refl _) ?_; intro v7 w7 hown7 hg7 hat7; simp only [Nat.zero_add, List.nil_append] at hown7; obtain ⟨A7, c7, hv7, hsl7⟩ := Sl.of_own hown7; rw [hv7]; have HK7 : Hid (Keep wr w7) := (Same.refl _ _).append (World.ownsRow_nil wr wr.heap.size 62 4) hg7 (fun i hi => hi) (Nat.le_refl _); have HSL7 := Lib.hid hsl7; clear hg7 hat7 hown7 hsl7 hv7)
            | (refine wpList_store_one rfl _ (.tmp 47) (.tmp 46) rfl w.heap.size k 63 _ (.slice A7 row.length c7) rfl rfl (HK7.out.blk HBW.out hBr) (by simp [HVL.out]; have := hnl.out; omega) (by kernel_rfl) rfl rfl ?_; intro w8 hb8 hs8; have HB8 := Lib.hid hb8; have HS8 := Lib.hid hs8; clear hb8 hs8))
          go_roundw
          case rel =>
            have hz7 := HK7.out.size
            have hz8 := HS8.out.size
            have hn' := hnl.out
            refine ⟨k + 1, vs.set k (.slice A7 row.length c7), by omega, by go_num, by simp [HVL.out], by simpa using HB8.out, fun j hj => ?_, fun j hj hjl => ?_, Keep.write (Keep.trans HK.out (Keep.trans HKO.out HK7.out)) HS8.out (Nat.le_refl _)⟩
            · by_cases e : j = k
              · subst e
                refine ⟨.slice A7 row.length c7, by rw [List.getElem?_set_self (by have := HVL.out; omega)], ?_⟩
                rw [HROW.out]
                refine ⟨A7, row.length, c7, rfl, (HSL7.out.keep (Same.mono HS8.out (fun i hi => ?_))).more (fun i hi => ?_)⟩
                · have := hi.1; omega
                · have := hi.1; have := hi.2; exact ⟨by omega, by omega⟩
              · obtain ⟨v, hv, hrow⟩ := HR.out j (by omega)
                refine ⟨v, by rw [List.getElem?_set_ne (by omega)]; exact hv, ?_⟩
                have hs : Same (fun i => w.heap.size < i ∧ i < wo.heap.size) wo w8 := Same.trans (Same.mono (Keep.trans HKO.out HK7.out) (fun i hi => hi.2)) HS8.out (fun i hi => by have := hi.1; omega)
                exact (hrow.keep hs).more (fun i hi => ⟨hi.1, by have := hi.2; have := HKO.out.size; omega⟩)
            · rw [List.getElem?_set_ne (by omega)]
              exact HN.out j (by omega) hjl
          case measure => simp [intOf]; omega
    · have hd : decide ((k : Int) < (n : Int)) = false := by simp; omega
      go_wp2_with fail
      go_ret
      have hkk : k = l.length := by have := hnl.out; omega
      refine ⟨some ⟨w.heap.size, 0, none⟩, n, n, rfl, ⟨by simp [unsettledS]; exact hnl.out, Nat.le_refl _, by simp [maxLen]; omega, vs.map (fun v => [v]), by simp [HVL.out]; exact hnl.out.symm, by simp, ⟨by rw [show (vs.map fun v => [v]).flatten = vs from by simp [← List.flatMap_def]]; rw [HVL.out]; have := hnl.out; omega, fun _ => ⟨w.heap.size, 0, rfl, ⟨Nat.le_refl _, hBo⟩, fun j u hu => ?_⟩⟩, fun j cs row e1 e2 => ?_⟩, HK.out⟩
      · rw [show (vs.map fun v => [v]).flatten = vs from by simp [← List.flatMap_def]] at hu
        rw [Nat.zero_add, HB.out.cell]
        simpa using hu
      · obtain ⟨v, hv, rfl⟩ := (List.getElem?_map .. ▸ e1 : (vs[j]?).map (fun v => [v]) = some cs) |> Option.map_eq_some_iff.1
        have hj : j < l.length := by have := (List.getElem?_eq_some_iff.1 hv).1; have := HVL.out; omega
        obtain ⟨v', hv', hrow⟩ := HR.out j (by omega)
        obtain rfl : v' = v := Option.some.inj (hv'.symm.trans hv)
        have e3 : row = unsRow l safe j := by
          unfold unsettledS at e2
          rw [List.getElem?_map, List.getElem?_range hj] at e2
          simpa using e2.symm
        rw [e3]
        exact hrow.more (fun i hi => ⟨by have := hi.1; omega, hi.2⟩)
end Go.Proofs.Ytafgacfbplilpaa

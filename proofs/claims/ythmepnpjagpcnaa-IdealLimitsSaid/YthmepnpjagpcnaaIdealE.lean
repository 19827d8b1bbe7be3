/- ideal: the machine in memory, and its event. -/
import Derived.Test.YthmepnpjagpcnaaIdealM
import Derived.Test.YthmepnpjagpcnaaAsk
import Derived.Test.YthmepnpjagpcnaaAid6
set_option linter.unusedVariables false
set_option linter.unusedSimpArgs false
set_option maxRecDepth 100000
namespace Go.Proofs.Ythmepnpjagpcnaa
open Go.RowKit Go.Proofs

/-- The blocks that hold no state's data. -/
def MiX (gm gs : Nat) (V : Value) (i : Nat) : Prop := i = gm ∨ i = gs ∨ V.ownBlock = some i
/-- The machine at block gm, its states at gs; VC are its codes. -/
def MiM (w : World) (base gm gs : Nat) (VC : Value) (A : Option Addr) (c : Nat) (css : List (List Value)) (m : Mi) : Prop :=
  base ≤ gm ∧ base ≤ gs ∧ gm ≠ gs ∧ Blk w gm 110 #[VC, .slice (some ⟨gs, 0, none⟩) m.ss.length m.ss.length, .slice A m.world.length c] ∧
  w.ownsRow base 101 4 (.slice A m.world.length c) m.world.length (m.world.flatMap encSh) ∧ (∀ b, (Value.slice A m.world.length c).ownBlock = some b → b ≠ gm ∧ b ≠ gs) ∧
  Blk w gs 105 css.flatten.toArray ∧ StsR w (MiX gm gs (.slice A m.world.length c)) css m.ss
theorem MiM.keep {w w' : World} {base gm gs : Nat} {VC : Value} {A : Option Addr} {c : Nat} {css : List (List Value)} {m : Mi} (h : MiM w base gm gs VC A c css m) (hk : Keep w w') : MiM w' base gm gs VC A c css m := by
  obtain ⟨h1, h2, h3, h4, h5, h6, h7, h8⟩ := h
  exact ⟨h1, h2, h3, hk.blk h4 h4.lt, ownsRow_same h5 hk (fun i hi => hi.2), h6, hk.blk h7 h7.lt, h8.keep hk⟩
def ProcPost (n : Nat) (p : Int) (w : World) (e : Ending) (w' : World) : Prop := e = .returned (.bool (procI n p)) ∧ w = w'
set_option maxHeartbeats 4000000 in
theorem process_any (w : World) (gm gs n : Nat) (VC VW : Value) (hb : Blk w gm 110 #[VC, .slice (some ⟨gs, 0, none⟩) n n, VW]) (p : Int) : Calls Try.prog 59 #[.pointer (some ⟨gm, 0, none⟩), .int .i64 p] w (ProcPost n p w) := by
  have c1 : w.cell? ⟨gm, 1, none⟩ = some (.slice (some ⟨gs, 0, none⟩) n n) := by rw [hb.cell]; rfl
  clear hb
  have hfin : ∀ q : Bool, procI n p = q → ProcPost n p w (.returned (.bool q)) w := fun q h => ⟨by rw [h], rfl⟩
  unfold procI at hfin
  have HFIN := Lib.hid hfin
  clear hfin
  by_cases h0 : 0 ≤ p
  · have d0 : decide (0 ≤ p) = true := by simpa using h0
    cases d1 : decide (p < (n : Int))
    · go_enter Try.func59, Try.ntmps59
      go_wp2_with fail
      go_ret
      exact HFIN.out _ (by rw [d0, d1]; rfl)
    · go_enter Try.func59, Try.ntmps59
      go_wp2_with fail
      go_ret
      exact HFIN.out _ (by rw [d0, d1]; rfl)
  · have d0 : decide (0 ≤ p) = false := by simpa using h0
    go_enter Try.func59, Try.ntmps59
    go_wp2_with fail
    go_ret
    exact HFIN.out _ (by rw [d0]; rfl)
theorem bld_ev0 : Try.prog.built 50 [] = some #[.int .i64 0, .int .i64 0, .int .i64 0, .int .i64 0, .int .i64 0, .int .i64 0, .int .i64 0] := by kernel_rfl
theorem bld_evT (k v : Int) : Try.prog.built 50 [(0, .int .i64 k), (5, .int .i64 v)] = some #[.int .i64 k, .int .i64 0, .int .i64 0, .int .i64 0, .int .i64 0, .int .i64 0, .int .i64 v] := by kernel_rfl
theorem bld_evR (f a b o v : Int) : Try.prog.built 50 [(0, .int .i64 1), (2, .int .i64 f), (3, .agg #[.int .i64 a, .int .i64 b]), (4, .int .i64 o), (5, .int .i64 v)] = some #[.int .i64 1, .int .i64 0, .int .i64 f, .int .i64 a, .int .i64 b, .int .i64 o, .int .i64 v] := by kernel_rfl
theorem bld_labI (a : Int) : Try.prog.built 48 [(1, .int .i64 a)] = some #[.int .i64 0, .int .i64 a] := by kernel_rfl
theorem load_ev {w : World} {b : Nat} (e : Ev) (hb : Blk w b 50 (encEv e).toArray) : (loadVar 50 ⟨b, 0, none⟩).run Try.prog w = .ok (.agg (encEv e).toArray) w :=
  loadVar_blk (encEv e) _ hb (fun j v hv => by simpa using hv) Try.underlying50 rfl (by kernel_rfl)
def EvtPost (r : Ev × Int) (w : World) (e : Ending) (w' : World) : Prop := e = .returned (.tuple #[.agg (encEv r.1).toArray, .int .i64 r.2]) ∧ Keep w w'
theorem find_drop {l : List Snd} {k : Nat} {y : Snd} {x : Chc} (h : l[k]? = some y) : findI (l.drop k) x = if hitM x y then some y else findI (l.drop (k + 1)) x := by
  rw [drop_cons h]
  unfold findI
  rw [List.find?_cons]
  cases hitM x y <;> rfl
def FindRel (W : World) (l : List Snd) (x : Chc) (i : Value) (wr : World) : Prop := ∃ k : Nat, i = .int .i64 k ∧ k ≤ l.length ∧ findI l x = findI (l.drop k) x ∧ Keep W wr
set_option maxHeartbeats 16000000 in
theorem ievent_any (w : World) (base gm gs : Nat) (VC : Value) (A : Option Addr) (c : Nat) (css : List (List Value)) (m : Mi) (x : Chc) (hm : MiM w base gm gs VC A c css m) (hn : m.ss.length ≤ 1000) (hfew : ∀ p, p < m.ss.length → (m.ss.getD p zeroSt).events.length ≤ 1000000 ∧ (m.ss.getD p zeroSt).sent.length ≤ 1000000) :
    Calls Try.prog 53 #[.pointer (some ⟨gm, 0, none⟩), .agg (encCh x).toArray] w (EvtPost (eventI m.ss x) w) := by
  obtain ⟨xp, xk, xf, xi, xo, xv⟩ := x
  show Calls Try.prog 53 #[.pointer (some ⟨gm, 0, none⟩), .agg #[.int .i64 xp, .int .i64 xk, .int .i64 xf, .int .i64 xi, .int .i64 xo, .int .i64 xv]] w _
  obtain ⟨hb1, hb2, hb3, hb4, -, -, hb7, hb8⟩ := hm
  generalize hW : (w.alloc (.cells #[.int .i64 xp, .int .i64 xk, .int .i64 xf, .int .i64 xi, .int .i64 xo, .int .i64 xv] 45)).alloc (.cells #[.int .i64 0, .int .i64 0, .int .i64 0, .int .i64 0, .int .i64 0, .int .i64 0, .int .i64 0] 50) = W
  have hkW : Keep w W := hW ▸ Keep.alloc (Keep.new w _) _
  have hbx : Blk W w.heap.size 45 #[.int .i64 xp, .int .i64 xk, .int .i64 xf, .int .i64 xi, .int .i64 xo, .int .i64 xv] := hW ▸ (Blk.new w _ _).alloc _
  have hbr : Blk W (w.heap.size + 1) 50 #[.int .i64 0, .int .i64 0, .int .i64 0, .int .i64 0, .int .i64 0, .int .i64 0, .int .i64 0] := hW ▸ (by simpa using Blk.new (w.alloc _) _ _)
  have hz : w.heap.size + 1 < W.heap.size := hbr.lt
  have hbm := hkW.blk hb4 hb4.lt
  have hbs := hkW.blk hb7 hb7.lt
  have hst := hb8.keep hkW
  generalize hnn : m.ss.length = n at *
  have e0 : W.cell? ⟨w.heap.size, 0, none⟩ = some (.int .i64 xp) := by rw [hbx.cell]; rfl
  have e1 : W.cell? ⟨w.heap.size, 1, none⟩ = some (.int .i64 xk) := by rw [hbx.cell]; rfl
  have e2 : W.cell? ⟨w.heap.size, 2, none⟩ = some (.int .i64 xf) := by rw [hbx.cell]; rfl
  have e5 : W.cell? ⟨w.heap.size, 5, none⟩ = some (.int .i64 xv) := by rw [hbx.cell]; rfl
  have m1 : W.cell? ⟨gm, 1, none⟩ = some (.slice (some ⟨gs, 0, none⟩) n n) := by rw [hbm.cell]; rfl
  have key : ∀ (w2 w' : World) (e : Ev) (k : Int), Keep W w2 → Blk w' (w.heap.size + 1) 50 (encEv e).toArray → Same (· ≠ w.heap.size + 1) w2 w' → eventI m.ss ⟨xp, xk, xf, xi, xo, xv⟩ = (e, k) → EvtPost (eventI m.ss ⟨xp, xk, xf, xi, xo, xv⟩) w (.returned (.tuple #[.agg (encEv e).toArray, .int .i64 k])) w' := fun w2 w' e k h1 _ hs h => ⟨by rw [h], Keep.write (Keep.trans hkW h1) hs (by omega)⟩
  have pc := process_any W gm gs n VC _ hbm
  have kk : Keep W W := Same.refl _ _
  clear hb4 hb7 hb8
  have HKW := Lib.hid hkW
  have HBX := Lib.hid hbx
  have HBR := Lib.hid hbr
  have HBM := Lib.hid hbm
  have HBS := Lib.hid hbs
  have HST := Lib.hid hst
  have KEY := Lib.hid key
  have PC := Lib.hid pc
  have KK := Lib.hid kk
  have HFEW := Lib.hid hfew
  have HNN := Lib.hid hnn
  clear hkW hbx hbr hbm hbs hst key pc kk hfew hnn
  go_enter Try.func53, Try.ntmps53
  go_upto_region 1 with fail
  clear hW
  -- the choice names what there is, or not
  by_cases hok : okI n ⟨xp, xk, xf, xi, xo, xv⟩ = true
  case neg =>
    have hbad : eventI m.ss ⟨xp, xk, xf, xi, xo, xv⟩ = (zeroEv, 3) := by unfold eventI; rw [HNN.out, if_pos (by simpa using hok)]
    have hok2 : ∀ a b c d : Bool, procI n xp = a → (xk == 1) = b → (xk == 2) = c → (xk == 3) = d → ¬ (a && (b || c || d) && (!b || procI n xf && !(xf == xp))) = true := fun a b c d h1 h2 h3 h4 => by rw [← h1, ← h2, ← h3, ← h4]; exact hok
    clear hok
    have HBAD := Lib.hid hbad
    have HOK2 := Lib.hid hok2
    clear hbad hok2
    cases hp : procI n xp
    · have HP := Lib.hid hp
      clear hp
      go_wp2_with fail
      refine (PC.out xp).mono ?_
      rintro e w9 ⟨rfl, rfl⟩
      rw [HP.out]
      go_upto_region 2 with fail
      go_wp2_with (first
        | (refine wpList_bld rfl 50 _ rfl _ [] rfl bld_ev0 ?_)
        | (refine wpList_store_all rfl _ (.tmp 4) (.tmp 29) rfl (w.heap.size + 1) 50 _ [.int .i64 0, .int .i64 0, .int .i64 0, .int .i64 0, .int .i64 0, .int .i64 0, .int .i64 0] rfl rfl HBR.out rfl (by kernel_rfl) rfl ?_; intro v6 hv6 hs6; have HV6 := Lib.hid hv6; have HS6 := Lib.hid hs6; clear hv6 hs6))
      exact bodyPost_ret (results_cell_tmp' Try.results53 _ _ _ ⟨w.heap.size + 1, 0, none⟩ _ _ rfl rfl (load_ev zeroEv HV6.out)) rfl (KEY.out _ _ zeroEv 3 KK.out HV6.out HS6.out HBAD.out)
    · have HP := Lib.hid hp
      clear hp
      cases k1 : (xk == 1)
      · have n1 : (xk != 1) = true := by simpa using k1
        cases k2 : (xk == 2)
        · have n2 : (xk != 2) = true := by simpa using k2
          cases k3 : (xk == 3)
          · have n3 : (xk != 3) = true := by simpa using k3
            clear k1 k2 k3
            go_wp2_with fail
            refine (PC.out xp).mono ?_
            rintro e w9 ⟨rfl, rfl⟩
            rw [HP.out]
            go_upto_region 2 with fail
            go_wp2_with (first
              | (refine wpList_bld rfl 50 _ rfl _ [] rfl bld_ev0 ?_)
              | (refine wpList_store_all rfl _ (.tmp 4) (.tmp 29) rfl (w.heap.size + 1) 50 _ [.int .i64 0, .int .i64 0, .int .i64 0, .int .i64 0, .int .i64 0, .int .i64 0, .int .i64 0] rfl rfl HBR.out rfl (by kernel_rfl) rfl ?_; intro v6 hv6 hs6; have HV6 := Lib.hid hv6; have HS6 := Lib.hid hs6; clear hv6 hs6))
            exact bodyPost_ret (results_cell_tmp' Try.results53 _ _ _ ⟨w.heap.size + 1, 0, none⟩ _ _ rfl rfl (load_ev zeroEv HV6.out)) rfl (KEY.out _ _ zeroEv 3 KK.out HV6.out HS6.out HBAD.out)
          · exact absurd (by simp) (HOK2.out _ _ _ _ HP.out k1 k2 k3)
        · exact absurd (by simp) (HOK2.out _ _ _ _ HP.out k1 k2 rfl)
      · have n1 : (xk != 1) = false := by simpa using k1
        have hbad2 : ¬ (procI n xf && !(xf == xp)) = true := by have := HOK2.out _ _ _ _ HP.out k1 rfl rfl; simpa using this
        have HBAD2 := Lib.hid hbad2
        clear hbad2
        go_wp2_with fail
        refine (PC.out xp).mono ?_
        rintro e w9 ⟨rfl, rfl⟩
        rw [HP.out]
        go_wp2_with fail
        refine (PC.out xf).mono ?_
        rintro e w9 ⟨rfl, rfl⟩
        cases hf : procI n xf
        · have HF := Lib.hid hf
          clear hf
          go_upto_region 4 with fail
          go_wp2_with (first
            | (refine wpList_bld rfl 50 _ rfl _ [] rfl bld_ev0 ?_)
            | (refine wpList_store_all rfl _ (.tmp 4) (.tmp 47) rfl (w.heap.size + 1) 50 _ [.int .i64 0, .int .i64 0, .int .i64 0, .int .i64 0, .int .i64 0, .int .i64 0, .int .i64 0] rfl rfl HBR.out rfl (by kernel_rfl) rfl ?_; intro v6 hv6 hs6; have HV6 := Lib.hid hv6; have HS6 := Lib.hid hs6; clear hv6 hs6))
          exact bodyPost_ret (results_cell_tmp' Try.results53 _ _ _ ⟨w.heap.size + 1, 0, none⟩ _ _ rfl rfl (load_ev zeroEv HV6.out)) rfl (KEY.out _ _ zeroEv 3 KK.out HV6.out HS6.out HBAD.out)
        · have hfp : (xf == xp) = true := by have := HBAD2.out; rw [hf] at this; simpa using this
          have HF := Lib.hid hf
          clear hf
          go_upto_region 4 with fail
          go_wp2_with (first
            | (refine wpList_bld rfl 50 _ rfl _ [] rfl bld_ev0 ?_)
            | (refine wpList_store_all rfl _ (.tmp 4) (.tmp 47) rfl (w.heap.size + 1) 50 _ [.int .i64 0, .int .i64 0, .int .i64 0, .int .i64 0, .int .i64 0, .int .i64 0, .int .i64 0] rfl rfl HBR.out rfl (by kernel_rfl) rfl ?_; intro v6 hv6 hs6; have HV6 := Lib.hid hv6; have HS6 := Lib.hid hs6; clear hv6 hs6))
          exact bodyPost_ret (results_cell_tmp' Try.results53 _ _ _ ⟨w.heap.size + 1, 0, none⟩ _ _ rfl rfl (load_ev zeroEv HV6.out)) rfl (KEY.out _ _ zeroEv 3 KK.out HV6.out HS6.out HBAD.out)
  have hpp := okI_proc hok
  simp only at hpp
  have hp : procI n xp = true := by simp [procI]; omega
  obtain ⟨p, hpe⟩ : ∃ p : Nat, xp = p := ⟨xp.toNat, by omega⟩
  subst hpe
  have hpn : p < n := by have := hpp.2; omega
  obtain ⟨B1, B2, B3, B4, p1, q1', p2, q2', p3, q3', p4, q4', hcs, hstp⟩ := HST.out.at_ (k := p) (by rw [HNN.out]; exact hpn)
  have c1 : W.cell? ⟨gs, p * 4 + 1, none⟩ = some (.slice B2 p2 q2') := HST.out.cell HBS.out hcs rfl
  have g1 : (p : Int) < n := by omega
  have g2 : (0 : Int) ≤ p := by omega
  have hev := (st_sl hstp).2.1
  have hp2 : p2 = (stAt m.ss (p : Int)).events.length := by have := hev.1; simpa [stAt] using this
  have hfewp := HFEW.out p hpn
  have hq2 : p2 ≤ 1000000 := by have := hev.1; omega
  have hokI : okI m.ss.length ⟨p, xk, xf, xi, xo, xv⟩ = true := by rw [HNN.out]; exact hok
  have h64 : (64 : Int) ≤ p2 → eventI m.ss ⟨p, xk, xf, xi, xo, xv⟩ = (zeroEv, 4) := fun h => by
    unfold eventI
    rw [if_neg (by rw [hokI]; simp), if_pos (by show 64 ≤ (stAt m.ss (p : Int)).events.length; omega)]
  have hpl : ¬ (64 : Int) ≤ p2 → xk ≠ 1 → eventI m.ss ⟨p, xk, xf, xi, xo, xv⟩ = (⟨xk, 0, 0, 0, 0, 0, xv⟩, 0) := fun h h1 => by
    unfold eventI
    rw [if_neg (by rw [hokI]; simp), if_neg (by show ¬ 64 ≤ (stAt m.ss (p : Int)).events.length; omega), if_pos h1]
  have hrn : ¬ (64 : Int) ≤ p2 → xk = 1 → findI (stAt m.ss xf).sent ⟨p, xk, xf, xi, xo, xv⟩ = none → eventI m.ss ⟨p, xk, xf, xi, xo, xv⟩ = (zeroEv, 11) := fun h h1 hf => by
    unfold eventI
    rw [if_neg (by rw [hokI]; simp), if_neg (by show ¬ 64 ≤ (stAt m.ss (p : Int)).events.length; omega), if_neg (by simpa using h1), hf]
  have hrs : ∀ s, ¬ (64 : Int) ≤ p2 → xk = 1 → findI (stAt m.ss xf).sent ⟨p, xk, xf, xi, xo, xv⟩ = some s → eventI m.ss ⟨p, xk, xf, xi, xo, xv⟩ = if recvS (stAt m.ss (p : Int)).events xf 0 xi xo ≠ 0 then (zeroEv, 15) else (⟨1, 0, xf, 0, xi, xo, s.val⟩, 0) := fun s h h1 hf => by
    unfold eventI
    rw [if_neg (by rw [hokI]; simp), if_neg (by show ¬ 64 ≤ (stAt m.ss (p : Int)).events.length; omega), if_neg (by simpa using h1), hf]
  have hok3 : xk = 1 ∨ xk = 2 ∨ xk = 3 := by
    simp only [okI, Bool.and_eq_true, Bool.or_eq_true, beq_iff_eq] at hok
    omega
  have hokf : xk = 1 → procI n xf = true ∧ 0 ≤ xf ∧ xf.toNat < n ∧ xf ≠ p := fun h => by
    have := okI_frm hok h
    simp only at this
    exact ⟨by simp [procI]; omega, this⟩
  clear hok hpp hokI
  have HP := Lib.hid hp
  have HCS := Lib.hid hcs
  have HSTP := Lib.hid hstp
  have HEV := Lib.hid hev
  have HP2 := Lib.hid hp2
  have H64 := Lib.hid h64
  have HPL := Lib.hid hpl
  have HRN := Lib.hid hrn
  have HRS := Lib.hid hrs
  have HOKF := Lib.hid hokf
  have HFEWP := Lib.hid hfewp
  clear hp hcs hstp hev hp2 h64 hpl hrn hrs hokf hfewp
  by_cases hk1 : xk = 1
  case neg =>
    have n1 : (xk != 1) = true := by simpa using hk1
    have k1 : (xk == 1) = false := by simpa using hk1
    cases n2 : (xk != 2)
    · go_wp2_with fail
      refine (PC.out p).mono ?_
      rintro e w9 ⟨rfl, rfl⟩
      rw [HP.out]
      go_upto_region 5 with fail
      clear n2
      cases t64 : decide ((64 : Int) ≤ p2)
      · have hev := HPL.out (by simpa using t64) hk1
        have HEV := Lib.hid hev
        clear hev
        clear hok3 hk1
        go_quiet (fail)
        go_upto_region 8 with fail
        go_wp2_with (first
          | (refine wpList_bld rfl 50 _ rfl _ [(0, .int .i64 xk), (5, .int .i64 xv)] rfl (bld_evT _ _) ?_)
          | (refine wpList_store_all rfl _ (.tmp 4) (.tmp 67) rfl (w.heap.size + 1) 50 _ [.int .i64 xk, .int .i64 0, .int .i64 0, .int .i64 0, .int .i64 0, .int .i64 0, .int .i64 xv] rfl rfl HBR.out rfl (by kernel_rfl) rfl ?_; intro v6 hv6 hs6; have HV6 := Lib.hid hv6; have HS6 := Lib.hid hs6; clear hv6 hs6))
        exact bodyPost_ret (results_cell_tmp' Try.results53 _ _ _ ⟨w.heap.size + 1, 0, none⟩ _ _ rfl rfl (load_ev ⟨xk, 0, 0, 0, 0, 0, xv⟩ HV6.out)) rfl (KEY.out _ _ ⟨xk, 0, 0, 0, 0, 0, xv⟩ 0 (Keep.draws _ _) HV6.out HS6.out HEV.out)
      · have hev := H64.out (by simpa using t64)
        have HEV := Lib.hid hev
        clear hev
        clear hok3 hk1
        go_quiet (fail)
        go_upto_region 6 with fail
        go_wp2_with (first
          | (refine wpList_bld rfl 50 _ rfl _ [] rfl bld_ev0 ?_)
          | (refine wpList_store_all rfl _ (.tmp 4) (.tmp 59) rfl (w.heap.size + 1) 50 _ [.int .i64 0, .int .i64 0, .int .i64 0, .int .i64 0, .int .i64 0, .int .i64 0, .int .i64 0] rfl rfl HBR.out rfl (by kernel_rfl) rfl ?_; intro v6 hv6 hs6; have HV6 := Lib.hid hv6; have HS6 := Lib.hid hs6; clear hv6 hs6))
        exact bodyPost_ret (results_cell_tmp' Try.results53 _ _ _ ⟨w.heap.size + 1, 0, none⟩ _ _ rfl rfl (load_ev zeroEv HV6.out)) rfl (KEY.out _ _ zeroEv 4 (Keep.draws _ _) HV6.out HS6.out HEV.out)
    · have n3 : (xk != 3) = false := by
        have : xk ≠ 2 := by simpa using n2
        have : xk = 3 := by omega
        subst this; rfl
      go_wp2_with fail
      refine (PC.out p).mono ?_
      rintro e w9 ⟨rfl, rfl⟩
      rw [HP.out]
      go_upto_region 5 with fail
      clear n2 n3
      cases t64 : decide ((64 : Int) ≤ p2)
      · have hev := HPL.out (by simpa using t64) hk1
        have HEV := Lib.hid hev
        clear hev
        clear hok3 hk1
        go_quiet (fail)
        go_upto_region 8 with fail
        go_wp2_with (first
          | (refine wpList_bld rfl 50 _ rfl _ [(0, .int .i64 xk), (5, .int .i64 xv)] rfl (bld_evT _ _) ?_)
          | (refine wpList_store_all rfl _ (.tmp 4) (.tmp 67) rfl (w.heap.size + 1) 50 _ [.int .i64 xk, .int .i64 0, .int .i64 0, .int .i64 0, .int .i64 0, .int .i64 0, .int .i64 xv] rfl rfl HBR.out rfl (by kernel_rfl) rfl ?_; intro v6 hv6 hs6; have HV6 := Lib.hid hv6; have HS6 := Lib.hid hs6; clear hv6 hs6))
        exact bodyPost_ret (results_cell_tmp' Try.results53 _ _ _ ⟨w.heap.size + 1, 0, none⟩ _ _ rfl rfl (load_ev ⟨xk, 0, 0, 0, 0, 0, xv⟩ HV6.out)) rfl (KEY.out _ _ ⟨xk, 0, 0, 0, 0, 0, xv⟩ 0 (Keep.draws _ _) HV6.out HS6.out HEV.out)
      · have hev := H64.out (by simpa using t64)
        have HEV := Lib.hid hev
        clear hev
        clear hok3 hk1
        go_quiet (fail)
        go_upto_region 6 with fail
        go_wp2_with (first
          | (refine wpList_bld rfl 50 _ rfl _ [] rfl bld_ev0 ?_)
          | (refine wpList_store_all rfl _ (.tmp 4) (.tmp 59) rfl (w.heap.size + 1) 50 _ [.int .i64 0, .int .i64 0, .int .i64 0, .int .i64 0, .int .i64 0, .int .i64 0, .int .i64 0] rfl rfl HBR.out rfl (by kernel_rfl) rfl ?_; intro v6 hv6 hs6; have HV6 := Lib.hid hv6; have HS6 := Lib.hid hs6; clear hv6 hs6))
        exact bodyPost_ret (results_cell_tmp' Try.results53 _ _ _ ⟨w.heap.size + 1, 0, none⟩ _ _ rfl rfl (load_ev zeroEv HV6.out)) rfl (KEY.out _ _ zeroEv 4 (Keep.draws _ _) HV6.out HS6.out HEV.out)
  obtain ⟨hpf, hf0, hfn, hfp⟩ := HOKF.out hk1
  subst hk1
  obtain ⟨f, hfe⟩ : ∃ f : Nat, xf = f := ⟨xf.toNat, by omega⟩
  subst hfe
  have hfn' : f < n := by omega
  obtain ⟨C1, C2, C3, C4, r1, s1, r2, s2, r3, s3, r4, s4, hcsf, hstf⟩ := HST.out.at_ (k := f) (by rw [HNN.out]; exact hfn')
  have c2 : W.cell? ⟨gs, f * 4 + 2, none⟩ = some (.slice C3 r3 s3) := HST.out.cell HBS.out hcsf rfl
  have g3 : (f : Int) < n := by omega
  have g4 : (0 : Int) ≤ f := by omega
  have hsd := (st_sl hstf).2.2.1
  have hr3 := hsd.1
  have hfewf := (HFEW.out f hfn').2
  have hr3' : r3 ≤ 1000000 := by omega
  have hfq : (((f : Int)) == (p : Int)) = false := by simpa using hfp
  have n1 : ((1 : Int) != 1) = false := rfl
  clear hfp hok3 hf0 hfn
  have HPF := Lib.hid hpf
  have HCSF := Lib.hid hcsf
  have HSTF := Lib.hid hstf
  have HSD := Lib.hid hsd
  have HR3 := Lib.hid hr3
  have HFEWF := Lib.hid hfewf
  clear hpf hcsf hstf hsd hr3 hfewf
  go_wp2_with fail
  refine (PC.out p).mono ?_
  rintro e w9 ⟨rfl, rfl⟩
  rw [HP.out]
  go_wp2_with fail
  refine (PC.out f).mono ?_
  rintro e w9 ⟨rfl, rfl⟩
  rw [HPF.out]
  go_upto_region 5 with fail
  cases t64 : decide ((64 : Int) ≤ p2)
  case true =>
    have hev := H64.out (by simpa using t64)
    have HEV := Lib.hid hev
    clear hev
    go_quiet (fail)
    go_upto_region 6 with fail
    go_wp2_with (first
      | (refine wpList_bld rfl 50 _ rfl _ [] rfl bld_ev0 ?_)
      | (refine wpList_store_all rfl _ (.tmp 4) (.tmp 59) rfl (w.heap.size + 1) 50 _ [.int .i64 0, .int .i64 0, .int .i64 0, .int .i64 0, .int .i64 0, .int .i64 0, .int .i64 0] rfl rfl HBR.out rfl (by kernel_rfl) rfl ?_; intro v6 hv6 hs6; have HV6 := Lib.hid hv6; have HS6 := Lib.hid hs6; clear hv6 hs6))
    exact bodyPost_ret (results_cell_tmp' Try.results53 _ _ _ ⟨w.heap.size + 1, 0, none⟩ _ _ rfl rfl (load_ev zeroEv HV6.out)) rfl (KEY.out _ _ zeroEv 4 (Keep.draws _ _) HV6.out HS6.out HEV.out)
  have hlt : ¬ (64 : Int) ≤ p2 := by simpa using t64
  have HLT := Lib.hid hlt
  clear hlt
  go_quiet (fail)
  go_upto_region 9 with fail
  clear t64
  go_quiet (fail)
  go_wp2_with fail
  generalize hY : W.drewN _ = Y
  have hkY : Keep W Y := hY ▸ Keep.draws _ _
  clear hY c1 c2 m1 e0 e1 e2 e5
  have HKY := Lib.hid hkY
  clear hkY
  go_loopw [78] (fun i wr => FindRel Y (stAt m.ss (f : Int)).sent ⟨p, 1, f, xi, xo, xv⟩ i wr) (fun i _ => r3 - (intOf i).toNat)
  case atStart => exact ⟨0, rfl, Nat.zero_le _, rfl, Same.refl _ _⟩
  case round =>
    obtain ⟨k, rfl, hkl, hfd, hkr⟩ := hrel
    have hzr := hkr.size
    have hkw := Keep.trans HKY.out hkr
    by_cases hkn : k < r3
    · obtain ⟨b', off', y, rfl, hbb, hy, hcy⟩ := (HSD.out.keep (hkw.mono (fun i hi => hi.1))).at_ encSnd_len hkn
      have hd1 : decide (k < r3) = true := by simpa using hkn
      have hd2 : (0 : Int) ≤ k := by omega
      have hd3 : (k : Int) < r3 := by omega
      have hrg : wr.rangeAt b' (off' + k * 4) [.int .i64 y.idx, .int .i64 y.ord, .int .i64 y.to, .int .i64 y.val] := hcy
      have hfd2 := hfd.trans (find_drop (x := ⟨p, 1, f, xi, xo, xv⟩) hy)
      have hkl1 : k + 1 ≤ (stAt m.ss (f : Int)).sent.length := by have := HR3.out; show k + 1 ≤ (m.ss.getD f zeroSt).sent.length; omega
      clear hcy hy hfd hbb
      have HRG := Lib.hid hrg
      have HFD2 := Lib.hid hfd2
      have HKL1 := Lib.hid hkl1
      have HKR := Lib.hid hkr
      clear hrg hfd2 hkl1 hkr
      have HKW2 := Lib.hid hkw
      clear hkw
      go_upto_region 12 with (first
        | (refine wpList_load_mid rfl _ (.tmp 80) rfl b' (off' + k * 4) rfl [.int .i64 y.idx, .int .i64 y.ord, .int .i64 y.to, .int .i64 y.val] _ HRG.out Try.underlying136 rfl (by kernel_rfl) ?_)
        | (refine wpList_store_all rfl _ (.tmp 7) (.tmp 81) rfl wr.heap.size 136 _ [.int .i64 y.idx, .int .i64 y.ord, .int .i64 y.to, .int .i64 y.val] rfl rfl (Blk.new _ _ _) rfl (by kernel_rfl) rfl ?_; intro w7 hb7 hs7))
      have hk7 : Keep wr w7 := Keep.write (Keep.new _ _) hs7 (Nat.le_refl _)
      have kk7 := Keep.trans HKR.out hk7
      have kw7 := Keep.trans HKW2.out hk7
      have bx7 := kw7.blk HBX.out HBX.out.lt
      have x0 : w7.cell? ⟨w.heap.size, 0, none⟩ = some (.int .i64 p) := by rw [bx7.cell]; rfl
      have x3 : w7.cell? ⟨w.heap.size, 3, none⟩ = some (.int .i64 xi) := by rw [bx7.cell]; rfl
      have x4 : w7.cell? ⟨w.heap.size, 4, none⟩ = some (.int .i64 xo) := by rw [bx7.cell]; rfl
      have y0 : w7.cell? ⟨wr.heap.size, 0, none⟩ = some (.int .i64 y.idx) := by rw [hb7.cell]; rfl
      have y1 : w7.cell? ⟨wr.heap.size, 1, none⟩ = some (.int .i64 y.ord) := by rw [hb7.cell]; rfl
      have y2 : w7.cell? ⟨wr.heap.size, 2, none⟩ = some (.int .i64 y.to) := by rw [hb7.cell]; rfl
      have HB7 := Lib.hid hb7
      have KK7 := Lib.hid kk7
      have KW7 := Lib.hid kw7
      have BX7 := Lib.hid bx7
      clear hb7 kk7 kw7 bx7
      clear hs7 hk7
      have miss : hitM ⟨p, 1, f, xi, xo, xv⟩ y = false → FindRel Y (stAt m.ss (f : Int)).sent ⟨p, 1, f, xi, xo, xv⟩ (.int .i64 ((k : Int) + 1)) w7 := fun h => ⟨k + 1, by simp, HKL1.out, by have := HFD2.out; rw [h] at this; simpa using this, KK7.out⟩
      have MISS := Lib.hid miss
      clear miss
      cases q1 : (y.idx != xi)
      case true =>
        have hfin := MISS.out (by simp only [hitM]; simp at q1; simp [q1])
        have HFIN := Lib.hid hfin
        clear hfin
        go_wp2_with fail
        go_roundw
        case rel => exact HFIN.out
        case measure => simp [intOf]; omega
      cases q2 : (y.ord != xo)
      case true =>
        have hfin := MISS.out (by simp only [hitM]; simp at q2; simp [q2])
        have HFIN := Lib.hid hfin
        clear hfin
        go_wp2_with fail
        go_roundw
        case rel => exact HFIN.out
        case measure => simp [intOf]; omega
      cases q3 : (y.to != p)
      case true =>
        have hfin := MISS.out (by simp only [hitM]; simp at q3; simp [q3])
        have HFIN := Lib.hid hfin
        clear hfin
        go_wp2_with fail
        go_roundw
        case rel => exact HFIN.out
        case measure => simp [intOf]; omega
      have hhit : hitM ⟨p, 1, f, xi, xo, xv⟩ y = true := by simp only [hitM]; simp at q1 q2 q3; simp [q1, q2, q3]
      have hfs := HFD2.out
      rw [hhit, if_pos rfl] at hfs
      have hevt := HRS.out y HLT.out trivial hfs
      clear hhit hfs MISS HFD2
      have HEVT := Lib.hid hevt
      clear hevt
      go_upto_region 13 with fail
      go_upto_region 14 with (first
        | (refine wpList_bld rfl 48 _ rfl _ [(1, .int .i64 xi)] rfl (bld_labI _) ?_)
        | (refine wpList_store_all rfl _ (.tmp 8) (.tmp 103) rfl w7.heap.size 48 _ [.int .i64 0, .int .i64 xi] rfl rfl (Blk.new _ _ _) rfl (by kernel_rfl) rfl ?_; intro w8 hb8 hs8))
      have hk8 : Keep w7 w8 := Keep.write (Keep.new _ _) hs8 (Nat.le_refl _)
      have kw8 := Keep.trans KW7.out hk8
      have by8 := hk8.blk HB7.out HB7.out.lt
      clear x0 x3 x4 y0 y1 y2 q1 q2 q3 hs8
      have bx8 := kw8.blk HBX.out HBX.out.lt
      have bm8 := kw8.blk HBM.out HBM.out.lt
      have m1 : ∀ wx, Keep w8 wx → wx.cell? ⟨gm, 1, none⟩ = some (.slice (some ⟨gs, 0, none⟩) n n) := fun wx hx => (hx.cell (p := ⟨gm, 1, none⟩) bm8.lt).trans (by rw [bm8.cell]; rfl)
      have x0 : ∀ wx, Keep w8 wx → wx.cell? ⟨w.heap.size, 0, none⟩ = some (.int .i64 p) := fun wx hx => (hx.cell (p := ⟨w.heap.size, 0, none⟩) bx8.lt).trans (by rw [bx8.cell]; rfl)
      have x2 : ∀ wx, Keep w8 wx → wx.cell? ⟨w.heap.size, 2, none⟩ = some (.int .i64 f) := fun wx hx => (hx.cell (p := ⟨w.heap.size, 2, none⟩) bx8.lt).trans (by rw [bx8.cell]; rfl)
      have x4 : ∀ wx, Keep w8 wx → wx.cell? ⟨w.heap.size, 4, none⟩ = some (.int .i64 xo) := fun wx hx => (hx.cell (p := ⟨w.heap.size, 4, none⟩) bx8.lt).trans (by rw [bx8.cell]; rfl)
      have rgS : ∀ wx, Keep w8 wx → wx.rangeAt gs (p * 4) [.slice B1 p1 q1', .slice B2 p2 q2', .slice B3 p3 q3', .slice B4 p4 q4'] := fun wx hx j u hu => ((Keep.trans kw8 hx).cell (p := ⟨gs, p * 4 + j, none⟩) HBS.out.lt).trans (HST.out.cell HBS.out HCS.out hu)
      have hev8 := HEV.out.keep (kw8.mono (fun i hi => hi.1))
      have HK8 := Lib.hid hk8
      have KW8 := Lib.hid kw8
      have BY8 := Lib.hid by8
      have BX8 := Lib.hid bx8
      have BM8 := Lib.hid bm8
      have HB8 := Lib.hid hb8
      have RGS := Lib.hid rgS
      have HEV8 := Lib.hid hev8
      clear hk8 kw8 by8 bx8 bm8 hb8 rgS hev8
      refine wp_region_L 99 (fun _ => True) (fun wx => Keep w8 wx) (by kernel_rfl) trivial (Same.drew (Same.refl _ _)) (fun hA hB => ?_)
      refine wpL_takeB (i := 0) (v := ?_) rfl (by kernel_rfl) (by kernel_rfl) (by kernel_rfl) (by decide) (fun _ _ _ h => h) (Or.inl ⟨by rfl, ?_⟩) (SAB.both hA hB) ?_
      rotate_left
      · intro wx hBx
        (try dsimp only at hBx)
        go_simp
        try with_reducible rfl
      try simp only [Act.put, List.setIfInBounds_toArray, List.set_cons_zero, List.set_cons_succ]
      refine wpL_takeB (i := 1) (v := ?_) rfl (by kernel_rfl) (by kernel_rfl) (by kernel_rfl) (by decide) (fun _ _ _ h => h) (Or.inl ⟨by rfl, ?_⟩) (SAB.both hA hB) ?_
      rotate_left
      · intro wx hBx
        (try dsimp only at hBx)
        go_simp
        try with_reducible rfl
      try simp only [Act.put, List.setIfInBounds_toArray, List.set_cons_zero, List.set_cons_succ]
      refine wpL_takeB (i := 2) (v := ?_) rfl (by kernel_rfl) (by kernel_rfl) (by kernel_rfl) (by decide) (fun _ _ _ h => h) (Or.inl ⟨by rfl, ?_⟩) (SAB.both hA hB) ?_
      rotate_left
      · intro wx hBx
        (try dsimp only at hBx)
        go_simp
        try with_reducible rfl
      try simp only [Act.put, List.setIfInBounds_toArray, List.set_cons_zero, List.set_cons_succ]
      refine wpL_takeB (i := 3) (v := ?_) rfl (by kernel_rfl) (by kernel_rfl) (by kernel_rfl) (by decide) (fun _ _ _ h => h) (Or.inl ⟨by rfl, ?_⟩) (SAB.both hA hB) ?_
      rotate_left
      · intro wx hBx
        (try dsimp only at hBx)
        go_simp
        try with_reducible rfl
      try simp only [Act.put, List.setIfInBounds_toArray, List.set_cons_zero, List.set_cons_succ]
      refine wpL_takeB (i := 4) (v := ?_) rfl (by kernel_rfl) (by kernel_rfl) (by kernel_rfl) (by decide) (fun _ _ _ h => h) (Or.inl ⟨by rfl, ?_⟩) (SAB.both hA hB) ?_
      rotate_left
      · intro wx hBx
        (try dsimp only at hBx)
        go_simp
        try with_reducible rfl
      try simp only [Act.put, List.setIfInBounds_toArray, List.set_cons_zero, List.set_cons_succ]
      refine wpL_takeB (i := 5) (v := ?_) rfl (by kernel_rfl) (by kernel_rfl) (by kernel_rfl) (by decide) (fun _ _ _ h => h) (Or.inl ⟨by rfl, ?_⟩) (SAB.both hA hB) ?_
      rotate_left
      · intro wx hBx
        (try dsimp only at hBx)
        go_simp
        try with_reducible rfl
      try simp only [Act.put, List.setIfInBounds_toArray, List.set_cons_zero, List.set_cons_succ]
      refine wpL_takeB (i := 6) (v := ?_) rfl (by kernel_rfl) (by kernel_rfl) (by kernel_rfl) (by decide) (fun _ _ _ h => h) (Or.inl ⟨by rfl, ?_⟩) (SAB.both hA hB) ?_
      rotate_left
      · intro wx hBx
        (try dsimp only at hBx)
        go_simp
        try with_reducible rfl
      try simp only [Act.put, List.setIfInBounds_toArray, List.set_cons_zero, List.set_cons_succ]
      refine wpL_takeB (i := 7) rfl (by kernel_rfl) (by kernel_rfl) (by kernel_rfl) (by decide) (fun _ _ _ h => h) (yieldsIf_load_mid (by rfl) _ _ rfl gs (p * 4) rfl [.slice B1 p1 q1', .slice B2 p2 q2', .slice B3 p3 q3', .slice B4 p4 q4'] _ (fun wx hx => RGS.out wx hx) Try.underlying105 rfl (by kernel_rfl)) (SAB.both hA hB) ?_
      try simp only [Act.put, List.setIfInBounds_toArray, List.set_cons_zero, List.set_cons_succ]
      refine wpL_takeB (i := 8) (v := ?_) rfl (by kernel_rfl) (by kernel_rfl) (by kernel_rfl) (by decide) (fun _ _ _ h => h) (Or.inl ⟨by rfl, ?_⟩) (SAB.both hA hB) ?_
      rotate_left
      · intro wx hBx
        (try dsimp only at hBx)
        go_simp
        try with_reducible rfl
      try simp only [Act.put, List.setIfInBounds_toArray, List.set_cons_zero, List.set_cons_succ]
      refine wpL_takeB (i := 9) (v := ?_) rfl (by kernel_rfl) (by kernel_rfl) (by kernel_rfl) (by decide) (fun _ _ _ h => h) (Or.inl ⟨by rfl, ?_⟩) (SAB.both hA hB) ?_
      rotate_left
      · intro wx hBx
        (try dsimp only at hBx)
        go_simp
        try with_reducible rfl
      try simp only [Act.put, List.setIfInBounds_toArray, List.set_cons_zero, List.set_cons_succ]
      refine wpL_takeB (i := 10) rfl (by kernel_rfl) (by kernel_rfl) (by kernel_rfl) (by decide) (fun _ _ _ h => h) (yieldsIf_blk (by rfl) _ _ rfl w7.heap.size 0 48 _ [.int .i64 0, .int .i64 xi] _ rfl (fun wx hx => hx.blk HB8.out HB8.out.lt) (fun j u hu => by simpa using hu) Try.underlying48 rfl (by kernel_rfl)) (SAB.both hA hB) ?_
      try simp only [Act.put, List.setIfInBounds_toArray, List.set_cons_zero, List.set_cons_succ]
      refine wpL_takeB (i := 11) (v := ?_) rfl (by kernel_rfl) (by kernel_rfl) (by kernel_rfl) (by decide) (fun _ _ _ h => h) (Or.inl ⟨by rfl, ?_⟩) (SAB.both hA hB) ?_
      rotate_left
      · intro wx hBx
        (try dsimp only at hBx)
        go_simp
        try with_reducible rfl
      try simp only [Act.put, List.setIfInBounds_toArray, List.set_cons_zero, List.set_cons_succ]
      refine wpL_takeB (i := 12) (v := ?_) rfl (by kernel_rfl) (by kernel_rfl) (by kernel_rfl) (by decide) (fun _ _ _ h => h) (Or.inl ⟨by rfl, ?_⟩) (SAB.both hA hB) ?_
      rotate_left
      · intro wx hBx
        (try dsimp only at hBx)
        go_simp
        try with_reducible rfl
      try simp only [Act.put, List.setIfInBounds_toArray, List.set_cons_zero, List.set_cons_succ]
      refine wpL_one (i := 13) (by kernel_rfl) (StepL.mk rfl (fun K hK => ?_))
      go_simp
      have hrr := preceived_any w8.drew (But W (MiX gm gs (.slice A m.world.length c))) B1 B2 B3 B4 p1 q1' p2 q2' p3 q3' p4 q4' (m.ss.getD p zeroSt).events f 0 xi xo (fun i hi => Nat.lt_of_lt_of_le hi.1 (Nat.le_trans KW8.out.size hB.size)) (HEV8.out.keep (hB.mono (fun i hi => Nat.lt_of_lt_of_le hi.1 KW8.out.size))) HFEWP.out.1
      obtain ⟨r, hr⟩ : ∃ r, r = recvS (m.ss.getD p zeroSt).events f 0 xi xo := ⟨_, rfl⟩
      have hevt2 : eventI m.ss ⟨p, 1, f, xi, xo, xv⟩ = if r ≠ 0 then (zeroEv, 15) else (⟨1, 0, f, 0, xi, xo, y.val⟩, 0) := by rw [hr]; exact HEVT.out
      rw [← hr] at hrr
      clear hr HEVT
      have HEVT2 := Lib.hid hevt2
      clear hevt2
      refine hrr.mono ?_
      rintro e u1 ⟨rfl, hk9⟩
      have hk9' := Keep.trans hB hk9
      clear hrr
      refine hK.out _ _ (SAB.both trivial hk9') (fun hSS => ?_)
      clear hK K hA hB
      have hB := hSS.2
      have hA := hSS.1 (by kernel_rfl)
      (try dsimp only at hB); (try dsimp only at hA); clear hSS
      try simp only [Act.put, List.setIfInBounds_toArray, List.set_cons_zero, List.set_cons_succ]
      refine wpL_takeB (i := 14) (v := ?_) rfl (by kernel_rfl) (by kernel_rfl) (by kernel_rfl) (by decide) (fun _ _ _ h => h) (Or.inl ⟨by rfl, ?_⟩) (SAB.both hA hB) ?_
      rotate_left
      · intro wx hBx
        (try dsimp only at hBx)
        go_simp
        try with_reducible rfl
      try simp only [Act.put, List.setIfInBounds_toArray, List.set_cons_zero, List.set_cons_succ]
      refine wpL_done (by kernel_rfl) ?_
      have bl9 := hk9'.blk HB8.out HB8.out.lt
      have br9 := hk9'.blk (HK8.out.blk (KW7.out.blk HBR.out HBR.out.lt) (by have := KW7.out.size; omega)) (by have := KW8.out.size; omega)
      have y3 : u1.cell? ⟨wr.heap.size, 3, none⟩ = some (.int .i64 y.val) := by rw [(hk9'.blk BY8.out BY8.out.lt).cell]; rfl
      have x2' := x2 u1 hk9'
      have x4' := x4 u1 hk9'
      have kw9 := Keep.trans KW8.out hk9'
      clear x0 x2 x4 m1 hA hB hk9 hk9'
      have BL9 := Lib.hid bl9
      have BR9 := Lib.hid br9
      have KW9 := Lib.hid kw9
      clear bl9 br9 kw9
      cases q : (r != 0)
      · have hev := HEVT2.out
        rw [if_neg (by simpa using q)] at hev
        have HEV := Lib.hid hev
        clear hev
        go_upto_region 16 with fail
        go_wp2_with (first
          | (refine wpList_load_all rfl _ (.tmp 8) rfl w7.heap.size 48 [.int .i64 0, .int .i64 xi] _ rfl BL9.out Try.underlying48 rfl (by kernel_rfl) ?_)
          | (refine wpList_bld rfl 50 _ rfl _ [(0, .int .i64 1), (2, .int .i64 f), (3, .agg #[.int .i64 0, .int .i64 xi]), (4, .int .i64 xo), (5, .int .i64 y.val)] rfl (bld_evR _ _ _ _ _) ?_)
          | (refine wpList_store_all rfl _ (.tmp 4) (.tmp 127) rfl (w.heap.size + 1) 50 _ [.int .i64 1, .int .i64 0, .int .i64 f, .int .i64 0, .int .i64 xi, .int .i64 xo, .int .i64 y.val] rfl rfl BR9.out rfl (by kernel_rfl) rfl ?_; intro v6 hv6 hs6; have HV6 := Lib.hid hv6; have HS6 := Lib.hid hs6; clear hv6 hs6))
        exact bodyPost_ret (results_cell_tmp' Try.results53 _ _ _ ⟨w.heap.size + 1, 0, none⟩ _ _ rfl rfl (load_ev ⟨1, 0, f, 0, xi, xo, y.val⟩ HV6.out)) rfl (KEY.out _ _ ⟨1, 0, f, 0, xi, xo, y.val⟩ 0 KW9.out HV6.out HS6.out HEV.out)
      · have hev := HEVT2.out
        rw [if_pos (by simpa using q)] at hev
        have HEV := Lib.hid hev
        clear hev
        go_upto_region 15 with fail
        go_wp2_with (first
          | (refine wpList_bld rfl 50 _ rfl _ [] rfl bld_ev0 ?_)
          | (refine wpList_store_all rfl _ (.tmp 4) (.tmp 119) rfl (w.heap.size + 1) 50 _ [.int .i64 0, .int .i64 0, .int .i64 0, .int .i64 0, .int .i64 0, .int .i64 0, .int .i64 0] rfl rfl BR9.out rfl (by kernel_rfl) rfl ?_; intro v6 hv6 hs6; have HV6 := Lib.hid hv6; have HS6 := Lib.hid hs6; clear hv6 hs6))
        exact bodyPost_ret (results_cell_tmp' Try.results53 _ _ _ ⟨w.heap.size + 1, 0, none⟩ _ _ rfl rfl (load_ev zeroEv HV6.out)) rfl (KEY.out _ _ zeroEv 15 KW9.out HV6.out HS6.out HEV.out)
    · have hd1 : decide (k < r3) = false := by simpa using hkn
      have hnone : findI (stAt m.ss (f : Int)).sent ⟨p, 1, f, xi, xo, xv⟩ = none := by rw [hfd, List.drop_of_length_le (by have := HR3.out; show (m.ss.getD f zeroSt).sent.length ≤ k; omega)]; rfl
      have hev := HRN.out HLT.out trivial hnone
      have br9 := hkw.blk HBR.out HBR.out.lt
      have HEV := Lib.hid hev
      have BR9 := Lib.hid br9
      have HKW := Lib.hid hkw
      clear hev br9 hkw
      clear hnone hfd hkr
      go_upto_region 18 with fail
      go_wp2_with (first
        | (refine wpList_bld rfl 50 _ rfl _ [] rfl bld_ev0 ?_)
        | (refine wpList_store_all rfl _ (.tmp 4) (.tmp 129) rfl (w.heap.size + 1) 50 _ [.int .i64 0, .int .i64 0, .int .i64 0, .int .i64 0, .int .i64 0, .int .i64 0, .int .i64 0] rfl rfl BR9.out rfl (by kernel_rfl) rfl ?_; intro v6 hv6 hs6; have HV6 := Lib.hid hv6; have HS6 := Lib.hid hs6; clear hv6 hs6))
      exact bodyPost_ret (results_cell_tmp' Try.results53 _ _ _ ⟨w.heap.size + 1, 0, none⟩ _ _ rfl rfl (load_ev zeroEv HV6.out)) rfl (KEY.out _ _ zeroEv 11 HKW.out HV6.out HS6.out HEV.out)
end Go.Proofs.Ythmepnpjagpcnaa
